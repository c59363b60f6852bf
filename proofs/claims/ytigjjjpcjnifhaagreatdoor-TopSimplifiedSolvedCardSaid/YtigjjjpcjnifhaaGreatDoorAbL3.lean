/- In the midst of a region that draws its order: operations that only read are taken in one order; the watch over memory begins anew. -/
import Derived.Test.YtigjjjpcjnifhaaGreatDoorAbL2
import Derived.Sort.Row
import Derived.Sort.Grow
import Derived.Lib.AppendZeros
import Derived.Lib.AppendStr
set_option linter.unusedSimpArgs false
set_option linter.unusedVariables false
namespace Go.Ab
open Go Go.RowKit
variable {P:Program} {g:eR} {δ:DS} {k:Wt} {late:List Nat} {l:List Oper} {dn:List Nat} {QD:Exit→DS→Prop} {ro:Option Nat}
def rP (ops:Array Oper) (i j:Nat):Bool:=match ops[j]? with
 |some o=>o.after.any fun e=>Region.binds .any e && e.on==i
 |none=>false
theorem w7 {ops:Array Oper} {i j n:Nat} (h:rP ops i j=true):oG ops i (n+1) j=true:=by
 unfold rP at h
 unfold oG
 cases ho:ops[j]? with
 |none=>rw[ho] at h;cases h
 |some o=>
  rw[ho] at h
  simp only at h ⊢
  obtain⟨e,he,hb⟩:=Array.any_eq_true'.1 h
  refine Array.any_eq_true'.2 ⟨e,he,?_⟩
  simp only[Bool.and_eq_true,Bool.or_eq_true] at hb ⊢
  exact⟨hb.1,.inl hb.2⟩
def ti (l:List Oper) (late:List Nat):List Nat→List Nat→Bool
 |[],_=>true
 |i::r,dn=>vy l late dn i && late.all (fun j=>rP l.toArray i j||oG l.toArray i l.length j) && ti l late r (i::dn)
theorem oL:∀(l2 dn:List Nat),ti l late l2 dn=true→tL l late l2 dn=true
 |[],_,_=>rfl
 |i::r,dn,h=>by
  unfold ti at h
  unfold tL
  simp only[Bool.and_eq_true] at h ⊢
  refine⟨⟨h.1.1,List.all_eq_true.2 fun j hj=>?_⟩,oL r _ h.2⟩
  have h1:=(List.all_eq_true.1 h.1.2) j hj
  rcases Bool.or_eq_true _ _▸h1 with h2|h2
  ·cases hl:l.length with
   |zero=>simp only[List.length_eq_zero_iff] at hl;subst hl;simp [rP] at h2
   |succ n=>exact w7 h2
  ·exact h2
theorem AR.reads (l2:List Nat) (hB:ti l late l2 dn=true) (hL:gQ late (gz l.length dn)=false) (hle:Nat.ble (l2.length+dn.length) l.length=true)
  (h:∀g':eR,Gs g' g→a_ .held P g' l.toArray (pick l l2) (jJ fun δ'=>∀k':Wt,k'.2.2=δ.nx→AR P g k' late l QD (l2.reverse++dn) δ') δ):AR P g k late l QD dn δ:=by
 intro uC κ a w r
 have F8:l2.length+dn.length≤l.length:=by simpa using hle
 have h1:=h (Aj g k late (gz l.length dn)) ⟨rfl,rfl,rfl⟩ κ a w r
 have i_:=r.wt k (show(if gQ late (gz l.length dn)=true then none else some k)=some k by rw[hL];rfl)
 obtain⟨k',hk⟩:∃k':Wt,k'=(w,(fun b=>b<w.heap.size∧((∀i,δ.lr i→κ i≠some b)∧¬κ.Fs b)),δ.nx):=⟨_,rfl⟩
 have kg:∀listed w',As k' late listed w'→As k late listed w':=by
  intro listed w' h3 hl b hb
  obtain⟨h4,h5⟩:=i_.1 b hb
  have h6:b<w.heap.size:=by
   rw[Array.getElem?_eq_getElem h4] at h5
   exact(Array.getElem?_eq_some_iff.1 h5).1
  have h7:k'.2.1 b:=by
   rw[hk]
   exact⟨h6,fun i hi hκ=>i_.2 i b ⟨_,hi⟩ (.inl hi) hκ hb,fun⟨j,hj⟩=>(r.fr.2 j b hj).1.2 k (show(if gQ late (gz l.length dn)=true then none else some k)=some k by rw[hL];rfl) hb⟩
  have h8:=(h3 hl b h7).2
  rw[hk] at h8
  exact⟨h4,h8.trans h5⟩
 have QW:∀(fuel:Nat) (listed:Array Bool) (a:Act) (w':World),nC g.ro P l.toArray (qO g QD) (As k' late) fuel listed a w'→nC g.ro P l.toArray (qO g QD) (As k late) fuel listed a w':=by
  intro fuel
  induction fuel with
  |zero=>intro _ _ _ h;exact h
  |succ fuel ih=>intro listed a w' h;exact⟨h.1,fun i hi=>wpOpIn_mono (fun a' w'' h'=>⟨kg _ _ h'.1,ih _ _ _ h'.2⟩) (h.2 i hi)⟩
 have UU:l.length - dn.length=l2.length+(l.length - (l2.reverse++dn).length):=by simp;omega
 rw[UU]
 have nE:As k' late (gz l.length dn) w:=fun _ b hb=>by subst hk;exact⟨hb.1,rfl⟩
 refine QW _ _ _ _ (Ji (ro:=g.ro) (g:=g) (QD:=QD) (late:=late) (l:=l) (P:=P) (δ0:=δ) (κ1:=κ) (w1:=w) (k:=k') (by rw[hk]) (by rw[hk]) (N:=l.length - (l2.reverse++dn).length) l2 dn a (oL _ _ hB) uC nE h1 (fun a' Li uH=>?_))
 obtain⟨δ',hq,Gh,r2⟩:=Li
 refine hq k' (by rw[hk]) uH κ a' w ?_
 have iQ:∀i,δ'.ob i=δ.ob i:=fun i=>by unfold DS.ob;rw[Gh]
 refine Rel.LF (g:=Aj g k late (gz l.length dn)) r2 (wt':=if gQ late (gz l.length (l2.reverse++dn))=true then none else some k') (fun k'' lV=>?_) (fun k'' lV b hb xx=>?_)
 rotate_left
 ·split at lV
  ·cases lV
  ·cases lV
   subst hk
   exact xx.2.2 hb
 split at lV
 ·cases lV
 ·cases lV
  subst hk
  refine⟨fun b hb=>⟨hb.1,rfl⟩,fun i b Ct vM hκ hb=>?_⟩
  rcases vM with vM|vM
  ·exact hb.2.1 i (by have:δ'.ob i=some .row:=vM;rw[iQ] at this;exact this) hκ
  ·obtain⟨o,Ct⟩:=Ct
   rw[iQ] at Ct
   exact absurd (r.nx i ⟨o,Ct⟩) (Nat.not_lt.2 vM)
end Go.Ab
/- A part of a box,loaded as a whole. -/
namespace Go.Ab
open Go Go.RowKit
inductive Sub:Nat→Nat→List AV→List AV→Prop where
 |nil {l}:Sub 0 0 l []
 |take {n a l vs}:Sub 0 n l vs→Sub 0 (n+1) (a::l) (a::vs)
 |skip {k n a l vs}:Sub k n l vs→Sub (k+1) n (a::l) vs
theorem Sub.spec {k n:Nat} {l vs:List AV} (h:Sub k n l vs):(l.drop k).take n=vs∧k+n≤l.length:=by
 induction h with
 |nil=>simp
 |take _ ih=>simp at ih ⊢;exact⟨ih.1,ih.2⟩
 |skip _ ih=>simp at ih ⊢;exact⟨ih.1,by omega⟩
variable {q:Md} {P:Program} {g:eR} {δ:DS} {ops:Array Oper} {rest:List Oper} {Q:Exit→DS→Prop} {dst:Option Nat} {ty:TypeId} {pos:String} {af:Array Edge}
theorem a_.yJ {x:Operand} {t:TypeId} {i off n:Nat} {cells vs:List AV} (hx:δ.ev x=.ptr i off) (hb:δ.ob i=some (.box cells)) (hn:(P.info? t).map (·.size)=some n) (hs:Sub off n cells vs) (ht:zu P t n=true) (ho:ff x=true) (hd:fO δ.n dst=true)
  (hK:a_ q P g ops rest Q (δ.eS dst (.agg vs))):a_ q P g ops (⟨dst,.load t x,ty,pos,af,none⟩::rest) Q δ:=
 a_.Eo (n:=n) hx hb ht (by simpa using hs.spec.2) ho hd (by rw[hs.spec.1];exact hK)
theorem a_.Ou {x y z:Operand} {b:Bool} {v:PV} (hx:δ.ev x=fh b) (hy:δ.ev y=.pv v) (hb:b=true) (ho:ff x=true) (kv:ff y=true) (oA:ff z=true) (hd:fO δ.n dst=true)
  (hK:a_ q P g ops rest Q (δ.eS dst (.pv v))):a_ q P g ops (⟨dst,.pick x y z,ty,pos,af,none⟩::rest) Q δ:=a_.jz (hb▸hx) hy ho kv oA hd hK
theorem a_.CH {x y z:Operand} {b:Bool} {v:PV} (hx:δ.ev x=fh b) (hz:δ.ev z=.pv v) (hb:b=false) (ho:ff x=true) (kv:ff y=true) (oA:ff z=true) (hd:fO δ.n dst=true)
  (hK:a_ q P g ops rest Q (δ.eS dst (.pv v))):a_ q P g ops (⟨dst,.pick x y z,ty,pos,af,none⟩::rest) Q δ:=a_.gO (hb▸hx) hz ho kv oA hd hK
variable {gd:Option (Tmp×Bool)}
theorem iO.D_ {t e:TypeId} {x0:Operand} {p0 p1 p2:PV} {z:Value} (ht:P.underlying t=some (.slice e)) (h0:δ.ev x0=.agg [.pv p0,.pv p1,.pv p2]) (hi:(P.info? e).map (fun i=>(i.size,i.zero))=some (3,some z)) (hz:z.cells.toList.all (·.oneCell')=true) (l7:Nat.beq z.cells.size 3=true)
  (k0:AV.one (.pv p0)=true) (k1:AV.one (.pv p1)=true) (k2:AV.one (.pv p2)=true) (o0:ff x0=true) (hd:fO δ.n dst=true):iO P g ⟨dst,.buildSlice t 1 [(0,x0)].toArray,ty,pos,af,gd⟩ δ ((δ.fK .row).eS dst (.own δ.nx e 3 [[p0,p1,p2]])):=by
 have hf:jq (fun i=>some (i*3,3)) (jQ z (1*3)) (([(0,x0)]:List (Nat×Operand)).map fun p=>(p.1,δ.ev p.2))=some [.pv p0,.pv p1,.pv p2]:=by
  simp [jq,ns,AV.cellsOf,AV.nj,jQ,h0,k0,k1,k2]<;>rfl
 exact iO.buildSlice (len:=1) (k:=3) (parts:=[(0,x0)]) (cells:=[.pv p0,.pv p1,.pv p2]) ht hi l7 rfl rfl hz (by simp [o0]) hf (by simp [AV.zf]) hd
theorem a_.D_ {t e:TypeId} {x0:Operand} {p0 p1 p2:PV} {z:Value} (ht:P.underlying t=some (.slice e)) (h0:δ.ev x0=.agg [.pv p0,.pv p1,.pv p2]) (hi:(P.info? e).map (fun i=>(i.size,i.zero))=some (3,some z)) (hz:z.cells.toList.all (·.oneCell')=true) (l7:Nat.beq z.cells.size 3=true)
  (k0:AV.one (.pv p0)=true) (k1:AV.one (.pv p1)=true) (k2:AV.one (.pv p2)=true) (o0:ff x0=true) (hd:fO δ.n dst=true) (hK:a_ .plain P g ops rest Q ((δ.fK .row).eS dst (.own δ.nx e 3 [[p0,p1,p2]]))):
  a_ .plain P g ops (⟨dst,.buildSlice t 1 [(0,x0)].toArray,ty,pos,af,none⟩::rest) Q δ:=a_.r_ rfl rfl (iO.D_ ht h0 hi hz l7 k0 k1 k2 o0 hd) hK
end Go.Ab
/- The checks over a region's orders,quick for the kernel:what is listed lies as the bits of one number. -/
namespace Go.Ab
open Go Go.RowKit
variable {P:Program} {g:eR} {δ:DS} {k:Wt} {late:List Nat} {l:List Oper} {dn:List Nat} {QD:Exit→DS→Prop}
def ji (n:Nat):List Nat→Nat
 |[]=>0
 |i::d=>bif Nat.blt i n then ji n d|||(1<<<i) else ji n d
theorem j1 {n:Nat}:∀{d:List Nat} {j:Nat},(ji n d).testBit j=(gz n d).getD j false
 |[],j=>by
  show Nat.testBit 0 j=(Array.replicate n false).getD j false
  rw[Nat.zero_testBit]
  simp [Array.getD_eq_getD_getElem?,Array.getElem?_replicate]
  split<;>rfl
 |i::d,j=>by
  show(bif Nat.blt i n then ji n d|||(1<<<i) else ji n d).testBit j=((gz n d).setIfInBounds i true).getD j false
  rw[Iw]
  have mZ:(gz n d).size=n:=by
   clear j
   induction d with
   |nil=>simp [gz]
   |cons i d ih=>simp [gz,ih]
  by_cases hi:i<n
  ·have hb:Nat.blt i n=true:=by simpa using hi
   rw[hb,cond_true,Nat.testBit_or,j1,Nat.one_shiftLeft,Nat.testBit_two_pow]
   by_cases va:i=j
   ·subst va;simp [mZ,hi]
   ·simp [va]
  ·have hb:Nat.blt i n=false:=by
    cases h:Nat.blt i n with
    |false=>rfl
    |true=>exact absurd (by simpa using h) hi
   rw[hb,cond_false,j1]
   by_cases va:i=j
   ·subst va
    rw[if_pos rfl,if_neg aJ]
    simp [Array.getD_eq_getD_getElem?,Array.getElem?_eq_none (by omega:(gz n d).size≤i)]
   ·rw[if_neg va]
def pW (m:Nat) (o:Oper):Bool:=o.after.toList.all fun e=>!Region.binds .any e||m.testBit e.on
def lF (m:Nat):Nat→List Oper→List Nat
 |_,[]=>[]
 |j,o::r=>bif !m.testBit j && pW m o then j::lF m (j+1) r else lF m (j+1) r
theorem qN (m:Nat):∀(l:List Oper) (j:Nat),lF m j l=((List.range l.length).filter fun i=>!m.testBit (j+i) && ((l[i]?).map (pW m)).getD false).map (j+·)
 |[],_=>rfl
 |o::r,j=>by
  rw[List.length_cons,List.range_succ_eq_map,List.filter_cons,lF,qN m r (j+1)]
  simp only[Nat.add_zero,List.getElem?_cons_zero,Option.map_some,Option.getD_some,List.filter_map]
  have e:(List.map (fun x=>j+x) (List.map Nat.succ (List.filter ((fun i=>!m.testBit (j+i) && (Option.map (pW m) (o::r)[i]?).getD false)∘Nat.succ) (List.range r.length))))=List.map (fun x=>j+1+x) (List.filter (fun i=>!m.testBit (j+1+i) && (Option.map (pW m) r[i]?).getD false) (List.range r.length)):=by
   rw[List.map_map]
   have e2:((fun i=>!m.testBit (j+i) && (Option.map (pW m) (o::r)[i]?).getD false)∘Nat.succ)=(fun i=>!m.testBit (j+1+i) && (Option.map (pW m) r[i]?).getD false):=by
    funext i
    simp only[Function.comp,Nat.succ_eq_add_one,List.getElem?_cons_succ]
    rw[show j+(i+1)=j+1+i by omega]
   rw[e2]
   apply List.map_congr_left
   intro i _
   simp only[Function.comp,Nat.succ_eq_add_one]
   omega
  cases (!m.testBit j && pW m o) with
  |true=>simp only[cond_true,if_true,List.map_cons,Nat.add_zero];rw[e]
  |false=>simp only[cond_false,Bool.false_eq_true,if_false];rw[e]
theorem yb:Region.ready .any l.toArray (gz l.length dn)=lF (ji l.length dn) 0 l:=by
 rw[qN]
 unfold Region.ready
 simp only[Nat.zero_add,List.size_toArray]
 rw[show(fun x:Nat=>x)=id from rfl,List.map_id]
 apply List.filter_congr
 intro i hi
 have t_:i<l.length:=List.mem_range.1 hi
 have e1:(gz l.length dn).getD i true=(ji l.length dn).testBit i:=by
  rw[j1]
  have mZ:(gz l.length dn).size=l.length:=by
   clear hi t_
   generalize l.length=n
   induction dn with
   |nil=>simp [gz]
   |cons i d ih=>simp [gz,ih]
  rw[Array.getD_eq_getD_getElem?,Array.getD_eq_getD_getElem?,Array.getElem?_eq_getElem aJ];rfl
 rw[e1]
 congr 1
 rw[List.getElem?_toArray]
 congr 2
 funext o
 unfold pW
 rw[← Array.all_toList]
 congr 1
 funext e
 rw[j1]
theorem mL {rs:List Nat} (h:(lF (ji l.length dn) 0 l==rs)=true):lK l dn rs=true:=by
 unfold lK;rw[yb];exact h
def A7 (late:List Nat) (m:Nat):Bool:=late.any m.testBit
theorem vZ:gQ late (gz l.length dn)=A7 late (ji l.length dn):=by
 unfold gQ A7
 congr 1
 funext j
 rw[j1]
def D1 (ops:Array Oper) (m i:Nat) (oi:Oper):Nat→List Oper→Bool
 |_,[]=>true
 |j,o::r=>(Nat.beq j i||m.testBit j||o.after.toList.any (fun e=>Region.binds .any e && Nat.beq e.on i)||oi.apart ops o) && D1 ops m i oi (j+1) r
theorem wR {ops:Array Oper} {m i:Nat} {oi:Oper}:∀{l:List Oper} {j:Nat},D1 ops m i oi j l=true→∀(x:Nat) (o:Oper),l[x]? =some o→(j+x==i||m.testBit (j+x)||(o.after.any (fun e=>Region.binds .any e && e.on==i)||oi.apart ops o))=true
 |[],_,_,x,o,h=>by simp at h
 |o'::r,j,h,x,o,hx=>by
  unfold D1 at h
  rw[Bool.and_eq_true] at h
  cases x with
  |zero=>
   simp only[List.getElem?_cons_zero,Option.some.injEq] at hx
   subst hx
   have h1:=h.1
   simp only[Nat.add_zero]
   rw[← Array.any_toList]
   simpa [Bool.or_assoc] using h1
  |succ x=>
   rw[List.getElem?_cons_succ] at hx
   have:=wR h.2 x o hx
   rwa [show j+1+x=j+(x+1) by omega] at this
def Jg (l:List Oper) (late:List Nat) (m:Nat) (i:Nat):Bool:=
 (lF m 0 l).contains i && (match l[i]? with|some oi=>D1 l.toArray m i oi 0 l|none=>false) && !late.contains i
def firstM (l:List Oper) (late:List Nat):List Nat→List Nat→Bool
 |[],_=>true
 |i::r,dn=>Jg l late (ji l.length dn) i && late.all (fun j=>rP l.toArray i j||oG l.toArray i l.length j) && firstM l late r (i::dn)
def AO (l:List Oper):Bool:=Region.noSelect l.toArray && l.all jC
theorem C4 {i:Nat} (hf:AO l=true) (hl:Nat.blt dn.length l.length=true) (h:Jg l late (ji l.length dn) i=true):vy l late dn i=true:=by
 unfold AO at hf
 unfold Jg at h
 unfold vy
 simp only[Bool.and_eq_true] at hf h ⊢
 refine⟨⟨⟨⟨hf,by rw[yb];exact h.1.1⟩,?_⟩,h.2⟩,hl⟩
 have h2:=h.1.2
 unfold Region.free
 rw[List.getElem?_toArray]
 cases ho:l[i]? with
 |none=>rw[ho] at h2;cases h2
 |some oi=>
  rw[ho] at h2
  simp only at h2 ⊢
  rw[List.all_eq_true]
  intro j hj
  have ng:j<l.length:=by simpa using hj
  have h3:=wR h2 j _ (List.getElem?_eq_getElem ng)
  rw[Nat.zero_add,j1] at h3
  have mZ:(gz l.length dn).size=l.length:=by
   clear hf h h2 h3 hl
   generalize l.length=n
   induction dn with
   |nil=>simp [gz]
   |cons i d ih=>simp [gz,ih]
  have e1:(gz l.length dn).getD j true=(gz l.length dn).getD j false:=by
   rw[Array.getD_eq_getD_getElem?,Array.getD_eq_getD_getElem?,Array.getElem?_eq_getElem aJ];rfl
  rw[e1,List.getElem?_toArray,List.getElem?_eq_getElem ng]
  exact h3
theorem ox (hf:AO l=true):∀(l2 dn:List Nat),Nat.ble (l2.length+dn.length) l.length=true→firstM l late l2 dn=true→ti l late l2 dn=true
 |[],_,_,_=>rfl
 |i::r,dn,hle,h=>by
  unfold firstM at h
  unfold ti
  simp only[Bool.and_eq_true] at h ⊢
  have F8:(i::r).length+dn.length≤l.length:=by simpa using hle
  simp only[List.length_cons] at F8
  exact⟨⟨C4 hf (by simp;omega) h.1.1,h.1.2⟩,ox hf r _ (by simp;omega) h.2⟩
theorem AR.iw (l2:List Nat) (hf:AO l=true) (hB:firstM l late l2 dn=true) (hL:A7 late (ji l.length dn)=false) (hle:Nat.ble (l2.length+dn.length) l.length=true)
  (h:∀g':eR,Gs g' g→a_ .held P g' l.toArray (pick l l2) (jJ fun δ'=>∀k':Wt,k'.2.2=δ.nx→AR P g k' late l QD (l2.reverse++dn) δ') δ):AR P g k late l QD dn δ:=
 AR.reads l2 (ox hf _ _ hle hB) (by rw[vZ];exact hL) hle h
theorem AR.MW (i_:g.wt=none) (hr:(lF (ji l.length dn) 0 l==[])=true) (h:QD .normal δ):AR P g k late l QD dn δ:=AR.done i_ (mL hr) h
theorem AR.fG {i:Nat} {o:Oper} (hl:Nat.blt dn.length l.length=true) (hr:(lF (ji l.length dn) 0 l==[i])=true) (ho:l[i]? =some o)
  (h:∀g':eR,Gs g' g→(∀j,k.2.2≤j→g'.ni j)→a_ .plain P g' l.toArray [o] (jJ (AR P g k late l QD (i::dn))) δ):AR P g k late l QD dn δ:=AR.step1 hl (mL hr) ho h
theorem AR.iI {i:Nat} {o:Oper} (hl:Nat.blt dn.length l.length=true) (hr:(lF (ji l.length dn) 0 l==[i])=true) (ho:l[i]? =some o) (fm:A7 late (ji l.length (i::dn))=true)
  (h:∀g':eR,Gs g' g→g'.wt=none→a_ .plain P g' l.toArray [o] (jJ (AR P g k late l QD (i::dn))) δ):AR P g k late l QD dn δ:=AR.vA hl (mL hr) ho (by rw[vZ];exact fm) h
theorem AR.gP {i j:Nat} {o p:Oper} (hl:Nat.blt dn.length l.length=true) (hr:(lF (ji l.length dn) 0 l==[i,j])=true) (ho:l[i]? =some o) (hp:l[j]? =some p)
  (h:∀g':eR,Gs g' g→(∀j,k.2.2≤j→g'.ni j)→a_ .plain P g' l.toArray [o] (jJ (AR P g k late l QD (i::dn))) δ)
  (h':∀g':eR,Gs g' g→(∀j,k.2.2≤j→g'.ni j)→a_ .plain P g' l.toArray [p] (jJ (AR P g k late l QD (j::dn))) δ):AR P g k late l QD dn δ:=AR.step2 hl (mL hr) ho hp h h'
theorem AW.gv {id:Nat} (l1:List Nat) (late:List Nat) {l:List Oper} (hm:P.follows .mixedOrders=true) (i_:g.wt=none) (hf:AO l=true) (hB:firstM l late l1 []=true) (hle:Nat.ble l1.length l.length=true)
  (h:a_ .held P g l.toArray (pick l l1) (jJ fun δ'=>∀k:Wt,k.2.2=δ.nx→AR P g k late l QD l1.reverse δ') δ):AW P g (.region id l.toArray true) QD δ:=
 AW.yK l1 late hm i_ (oL _ _ (ox hf _ _ (by simpa using hle) hB)) hle h
end Go.Ab
/- A loop's state told by what stays of the state before it and what changes. -/
namespace Go.Ab
open Go Go.RowKit
variable {P:Program} {g:eR} {δ:DS}
def JE (e:List (Nat×AV)):List Nat→List (Nat×AV)
 |[]=>[]
 |k::ks=>(k,look e k)::JE e ks
def JB (o:List (Nat×Option Ob)):List Nat→List (Nat×Option Ob)
 |[]=>[]
 |k::ks=>(k,fb o k)::JB o ks
def Dl:List (Nat×Option Ob)→Nat→Nat
 |[],n=>n
 |(k,_)::r,n=>Dl r (bif Nat.ble n k then k+1 else n)
namespace Nf
theorem Zk (n:Nat):Dl [] n=n:=rfl
theorem ZH (k n:Nat) (v:Option Ob) (r:List (Nat×Option Ob)):Dl ((k,v)::r) n=Dl r (bif Nat.ble n k then k+1 else n):=rfl
def ao:List (Nat×Option Ob)→List (Nat×Option Ob)→List (Nat×Option Ob)
 |[],m=>m
 |v::r,m=>v::ao r m
theorem Yy (m:List (Nat×Option Ob)):ao [] m=m:=rfl
theorem Y4 (v:Nat×Option Ob) (r m:List (Nat×Option Ob)):ao (v::r) m=v::ao r m:=rfl
theorem Zy (e:List (Nat×AV)):JE e []=[]:=rfl
theorem Zq (e:List (Nat×AV)) (k:Nat) (ks:List Nat):JE e (k::ks)=(k,look e k)::JE e ks:=rfl
theorem Yc (e:List (Nat×Option Ob)):JB e []=[]:=rfl
theorem YD (e:List (Nat×Option Ob)) (k:Nat) (ks:List Nat):JB e (k::ks)=(k,fb e k)::JB e ks:=rfl
set_option linter.defProp false in
def nN:=And.intro @Zk (And.intro @ZH (And.intro @Yy (And.intro @Y4 (And.intro @Zy (And.intro @Zq (And.intro @Yc @YD))))))
end Nf
theorem AW.gN {S:Type} {c:Code} {Q:Exit→DS→Prop} (ks os:List Nat) (u:S→List (Nat×AV)) (ou:S→List (Nat×Option Ob)) (I:S→Prop) (μ:S→Nat) (s0:S) {D:S→DS}
  (hD:(fun s=>(⟨δ.n,Nf.ae (u s) (JE δ.env ks),Nf.ao (ou s) (JB δ.gm os),Dl (ou s) δ.nx⟩:DS))=D) (hs:I s0) (hw:pw g δ (D s0))
  (round:∀s,I s→AW P g c (gb (fun δ'=>∃s',I s'∧μ s'<μ s∧pw g δ' (D s')) Q) (D s)):AW P g (.loop c) Q δ:=AW.loop D I μ s0 hs hw round
end Go.Ab
/- Quotient and remainder of numbers that are not below zero. -/
namespace Go.Ab
open Go Go.RowKit
variable {q:Md} {P:Program} {g:eR} {δ:DS} {ops:Array Oper} {rest:List Oper} {Q:Exit→DS→Prop} {dst:Option Nat} {ty:TypeId} {pos:String} {af:Array Edge} {x y:Operand} {m n:Int} {t t':TypeId}
end Go.Ab
/- Two objects' names exchanged;the orders of a drawn region brought together again. -/
namespace Go.Ab
open Go Go.RowKit
variable {P:Program} {g:eR} {δ:DS} {κ:Kp} {a:Act} {w:World}
def ld (i j x:Nat):Nat:=bif Nat.beq i x then j else bif Nat.beq j x then i else x
theorem Df (i j x:Nat):ld i j x=if i=x then j else if j=x then i else x:=by
 unfold ld
 by_cases h1:i=x
 ·subst h1;simp
 ·rw[me h1,if_neg h1]
  by_cases h2:j=x
  ·subst h2;simp
  ·rw[me h2,if_neg h2];rfl
theorem jd (i j x:Nat):ld i j (ld i j x)=x:=by
 simp only[Df]
 split<;>split<;>(try split)<;>omega
mutual
def AV.sw (i j:Nat):AV→AV
 |.any=> .any
 |.pv p=> .pv p
 |.own x e k e7=> .own (ld i j x) e k e7
 |.ptr x o=> .ptr (ld i j x) o
 |.fV c=> .fV c
 |.gJ x e k e7 n=> .gJ (ld i j x) e k e7 n
 |.agg cs=> .agg (AV.w9 i j cs)
 |.gX cs=> .gX (AV.w9 i j cs)
 |.jk fn cs ds=> .jk fn (AV.w9 i j cs) (AV.w9 i j ds)
 |.gq x=> .gq (ld i j x)
 |.kO x=> .kO (ld i j x)
def AV.w9 (i j:Nat):List AV→List AV
 |[]=>[]
 |c::cs=>AV.sw i j c::AV.w9 i j cs
end
theorem AV.tu (i j:Nat):∀l,AV.w9 i j l=l.map (AV.sw i j)
 |[]=>rfl
 |c::cs=>by simp [AV.w9,AV.tu i j cs]
def Ob.sw (i j:Nat):Ob→Ob
 |.row=> .row
 |.box cs=> .box (AV.w9 i j cs)
 |.mp l=> .mp (l.map fun p=>(p.1,p.2.sw i j))
 |.mpl l k v=> .mpl (l.map fun p=>(p.1,p.2.sw i j)) k (v.sw i j)
 |.it l seen=> .it l seen
 |.lit T vals=> .lit T vals
 |.e8 e rows=> .e8 e rows
 |.loop l tm ps iK body st=> .loop l tm ps iK body st
theorem Ob.Ps (i j:Nat) (o:Ob):(o.sw i j).ln=o.ln:=by cases o<;>rfl
def MM (i j:Nat):List (Nat×AV)→List (Nat×AV)
 |[]=>[]
 |(x,v)::r=>(x,v.sw i j)::MM i j r
def yo (i j:Nat):List (Nat×Option Ob)→List (Nat×Option Ob)
 |[]=>[]
 |(x,none)::r=>(ld i j x,none)::yo i j r
 |(x,some o)::r=>(ld i j x,some (o.sw i j))::yo i j r
def DS.sw (δ:DS) (i j:Nat):DS:=⟨δ.n,MM i j δ.env,yo i j δ.gm,δ.nx⟩
theorem Ey (i j:Nat) (k:Nat):∀e,look (MM i j e) k=(look e k).sw i j
 |[]=>rfl
 |(x,v)::r=>by
  unfold MM
  simp only[fC,Ey i j k r]
  split<;>rfl
theorem s5 (i j:Nat) (k:Nat):∀e,fb (yo i j e) (ld i j k)=(fb e k).map (Ob.sw i j)
 |[]=>rfl
 |(x,o)::r=>by
  have hx:(ld i j x=ld i j k)=(x=k):=by
   apply propext
   constructor
   ·intro h;rw[← jd i j x,h,jd]
   ·intro h;rw[h]
  cases o with
  |none=>
   unfold yo
   simp only[fA,s5 i j k r,hx]
   split<;>rfl
  |some o=>
   unfold yo
   simp only[fA,s5 i j k r,hx]
   split<;>rfl
theorem Ef (i j k:Nat):(δ.sw i j).ob k=(δ.ob (ld i j k)).map (Ob.sw i j):=by
 have:=s5 i j (ld i j k) δ.gm
 rw[jd] at this
 exact this
theorem mz (i j k:Nat):(δ.sw i j).live k↔δ.live (ld i j k):=by
 unfold DS.live
 rw[Ef]
 cases δ.ob (ld i j k)<;>simp
theorem MN (i j k:Nat):(δ.sw i j).lr k↔δ.lr (ld i j k):=by
 unfold DS.lr
 rw[Ef]
 cases h:δ.ob (ld i j k) with
 |none=>simp
 |some o=>cases o<;>simp [Ob.sw]
theorem HA (i j k:Nat):(δ.sw i j).lb k↔δ.lb (ld i j k):=by
 unfold DS.lb
 rw[Ef]
 cases h:δ.ob (ld i j k) with
 |none=>simp
 |some o=>simp [Ob.Ps]
def MU (i j:Nat) (κ:Kp):Kp:=⟨fun x=>κ (ld i j x),fun x b=>κ.F (ld i j x) b⟩
theorem Nj (i j b:Nat):(MU i j κ).Fs b↔κ.Fs b:=by
 constructor
 ·rintro⟨x,h⟩;exact⟨_,h⟩
 ·rintro⟨x,h⟩;exact⟨ld i j x,by show κ.F (ld i j (ld i j x)) b;rw[jd];exact h⟩
theorem Og (i j b:Nat):((δ.sw i j).cx g (MU i j κ)).N b↔(δ.cx g κ).N b:=by
 show((g.N0 b∧_)∧_)↔((g.N0 b∧_)∧_)
 constructor
 ·rintro⟨h1,h2⟩
  refine⟨⟨h1.1,fun h=>h1.2 ((Nj i j b).2 h)⟩,fun x hx=>?_⟩
  have:=h2 (ld i j x) ((mz i j _).2 (by rw[jd];exact hx))
  have this:κ (ld i j (ld i j x))≠some b:=this
  rwa [jd] at this
 ·rintro⟨h1,h2⟩
  exact⟨⟨h1.1,fun h=>h1.2 ((Nj i j b).1 h)⟩,fun x hx=>h2 _ ((mz i j _).1 hx)⟩
theorem HO (i j:Nat) {v:Value} {p:PV} (h:RP (δ.cx g κ).N w v p):RP ((δ.sw i j).cx g (MU i j κ)).N w v p:=
 h.mono (Nat.le_refl _) fun b _ hb=>⟨(Og i j b).2 hb,rfl⟩
theorem Hv (i j:Nat) {v:Value} {x:Nat} {e:TypeId} {k:Nat} {e7:List (List PV)} (h:jy (δ.cx g κ) w v x e k e7):jy ((δ.sw i j).cx g (MU i j κ)) w v (ld i j x) e k e7:=by
 obtain⟨hl,mb,hk,hb,xs,ho,h1,hx⟩:=h
 refine⟨(MN i j _).2 (by rw[jd];exact hl),mb,hk,fun b hv=>?_,xs,ho,h1,fun i' j' p hp=>let ⟨u,h1,h2⟩:=hx i' j' p hp;⟨u,h1,HO i j h2⟩⟩
 show κ (ld i j (ld i j x))=some b
 rw[jd];exact hb b hv
theorem Eu (i j:Nat) {v:Value} {av:AV} (h:RA (δ.cx g κ) w v av):RA ((δ.sw i j).cx g (MU i j κ)) w v (av.sw i j):=by
 induction h with
 |any v=>exact .any v
 |pv h=>exact .pv (HO i j h)
 |own h=>exact .own (Hv i j h)
 |ptr hl hκ=>exact .ptr ((HA i j _).2 (by rw[jd];exact hl)) (by show κ (ld i j (ld i j _))=_;rw[jd];exact hκ)
 |fV b off vs hN hb hc hr=>exact .fV b off vs ((Og i j b).2 hN) hb hc fun k p hp=>HO i j (hr k p hp)
 |gJ hi h=>exact .gJ hi (Hv i j h)
 |agg hs h ih=>
  show RA _ _ _ (.agg (AV.w9 i j _))
  rw[AV.tu]
  refine .agg (by simp [hs]) fun k u c hu hc=>?_
  rw[List.getElem?_map] at hc
  obtain⟨c',xS,rfl⟩:=Option.map_eq_some_iff.1 hc
  exact ih k u c' hu xS
 |gX hs h ih=>
  show RA _ _ _ (.gX (AV.w9 i j _))
  rw[AV.tu]
  refine .gX (by simp [hs]) fun k u c hu hc=>?_
  rw[List.getElem?_map] at hc
  obtain⟨c',xS,rfl⟩:=Option.map_eq_some_iff.1 hc
  exact ih k u c' hu xS
 |jk hs h ht h' ih ih'=>
  show RA _ _ _ (.jk _ (AV.w9 i j _) (AV.w9 i j _))
  rw[AV.tu,AV.tu]
  refine .jk (by simp [hs]) (fun k u c hu hc=>?_) (by simp [ht]) (fun k u c hu hc=>?_)
  ·rw[List.getElem?_map] at hc
   obtain⟨c',xS,rfl⟩:=Option.map_eq_some_iff.1 hc
   exact ih k u c' hu xS
  ·rw[List.getElem?_map] at hc
   obtain⟨c',xS,rfl⟩:=Option.map_eq_some_iff.1 hc
   exact ih' k u c' hu xS
 |gq hl hκ=>exact .gq ((HA i j _).2 (by rw[jd];exact hl)) (by show κ (ld i j (ld i j _))=_;rw[jd];exact hκ)
 |kO hl hκ=>exact .kO ((HA i j _).2 (by rw[jd];exact hl)) (by show κ (ld i j (ld i j _))=_;rw[jd];exact hκ)
theorem AS (i j:Nat) (v:AV):(v.sw i j).km=v.km:=by cases v<;>rfl
theorem nG.sw (i j:Nat) {x:Nat} {o:Ob} (h:nG (δ.cx g κ) w x o):nG ((δ.sw i j).cx g (MU i j κ)) w (ld i j x) (o.sw i j):=by
 have hκ:∀y,((δ.sw i j).cx g (MU i j κ)).κ (ld i j y)=κ y:=fun y=>by show κ (ld i j (ld i j y))=_;rw[jd]
 cases o with
 |row=>
  intro b hb
  rw[hκ] at hb
  exact h b hb
 |box cs=>
  obtain⟨b,c,e,h1,h2,h3,h4⟩:=h
  show nG _ _ _ (.box (AV.w9 i j cs))
  rw[AV.tu]
  refine⟨b,c,e,(hκ x).trans h1,h2,by simp [h3],fun k u av h5 h6=>?_⟩
  rw[List.getElem?_map] at h6
  obtain⟨c',xS,rfl⟩:=Option.map_eq_some_iff.1 h6
  exact⟨Eu i j (h4 k u c' h5 xS).1,(h4 k u c' h5 xS).2⟩
 |mp l=>
  obtain⟨b,es,clock,h1,h2,h3,h4,h5⟩:=h
  refine⟨b,es,clock,(hκ x).trans h1,h2,⟨by simp [h3.1],fun k e p h6 h7=>?_⟩,h4,fun p hp=>?_⟩
  ·rw[List.getElem?_map] at h7
   obtain⟨p',l9,rfl⟩:=Option.map_eq_some_iff.1 h7
   exact⟨(h3.2 k e p' h6 l9).1,Eu i j (h3.2 k e p' h6 l9).2⟩
  ·obtain⟨p',l9,rfl⟩:=List.mem_map.1 hp
   show(p'.2.sw i j).km=true
   rw[AS];exact h5 p' l9
 |mpl l kk v=>
  obtain⟨b,es,clock,h1,h2,h3,h4,h5⟩:=h
  refine⟨b,es,clock,(hκ x).trans h1,h2,⟨by simpa using h3.1,fun k e p h6 h7=>?_⟩,h4,fun p hp=>?_⟩
  ·have h8:((l++ [(kk,v)]).map fun p=>(p.1,p.2.sw i j))[k]? =some p:=by simpa using h7
   rw[List.getElem?_map] at h8
   obtain⟨p',l9,rfl⟩:=Option.map_eq_some_iff.1 h8
   exact⟨(h3.2 k e p' h6 l9).1,Eu i j (h3.2 k e p' h6 l9).2⟩
  ·obtain⟨p',l9,rfl⟩:=List.mem_map.1 hp
   show(p'.2.sw i j).km=true
   rw[AS];exact h5 p' l9
 |it l seen=>
  obtain⟨b,h1,h2⟩:=h
  exact⟨b,(hκ x).trans h1,h2.mono (Nat.le_refl _) (fun b _ hb=>⟨(Og i j b).2 hb,rfl⟩) rfl⟩
 |lit T vals=>obtain⟨b,h1,h2⟩:=h;exact⟨b,(hκ x).trans h1,h2⟩
 |e8 e rows=>exact⟨(hκ x).trans h.1,fun k=>let ⟨h1,h2,h3,h4⟩:=h.2.1 k;⟨h1,h2,fun b hb=>(by show κ.F (ld i j (ld i j x)) b;rw[jd];exact h3 b hb),h4⟩,h.2.2⟩
 |loop l tm ps iK body st=>
  obtain⟨b,r,h1,h2⟩:=h
  exact⟨b,r,(hκ x).trans h1,h2⟩
theorem Rel.sw (i j:Nat) (hi:i<δ.nx) (hj:j<δ.nx) (hw:∀k,g.wt=some k→k.2.2≤i∧k.2.2≤j) (r:Rel g δ κ a w):Rel g (δ.sw i j) (MU i j κ) a w where
 n:=r.n
 dfr:=r.dfr
 env:=fun k=>by
  have e:(δ.sw i j).get k=(δ.get k).sw i j:=Ey i j k δ.env
  rw[e];exact Eu i j (r.env k)
 obj:=fun x o h=>by
  rw[Ef] at h
  obtain⟨o',fZ,rfl⟩:=Option.map_eq_some_iff.1 h
  have:=(r.obj _ o' fZ).sw i j
  rwa [jd] at this
 inj:=fun x y b hx hy h1 h2=>by
  have:=r.inj _ _ b ((mz i j x).1 hx) ((mz i j y).1 hy) h1 h2
  rw[← jd i j x,this,jd]
 lo:=fun x b hx h1=>r.lo _ b ((mz i j x).1 hx) h1
 nx:=fun x hx=>by
  have:=r.nx _ ((mz i j x).1 hx)
  show x<δ.nx
  rw[Df] at this
  split at this
  ·omega
  ·split at this<;>omega
 wt:=fun k hk=>by
  obtain⟨h1,h2⟩:=hw k hk
  refine⟨(r.wt k hk).1,fun x b hx vM hκ=>(r.wt k hk).2 (ld i j x) b ((mz i j x).1 hx) ?_ hκ⟩
  rcases vM with vM|vM
  ·exact .inl ((MN i j x).1 vM)
  ·right
   rw[Df]
   split
   ·exact h2
   ·split
    ·exact h1
    ·exact vM
 below:=r.below
 hB:=r.hB
 N0:=r.N0
 kc:=r.kc
 fr:=by
  refine⟨fun b hb=>?_,fun x b hb=>?_⟩
  ·obtain⟨h1,h2,h3⟩:=r.fr.1 b hb
   exact⟨h1,h2,fun x hx=>h3 _ ((mz i j x).1 hx)⟩
  ·obtain⟨h1,h2,h3,h4,h5⟩:=r.fr.2 _ b hb
   refine⟨h1,h2,h3,fun y hy=>h4 _ ((mz i j y).1 hy),fun y hy=>?_⟩
   rw[← jd i j y,h5 _ hy,jd]
namespace Nf
variable {n x:Nat} {e:List (Nat×AV)} {o:List (Nat×Option Ob)} {i j k:Nat}
theorem sw:DS.sw ⟨n,e,o,x⟩ i j=⟨n,MM i j e,yo i j o,x⟩:=rfl
theorem TR:MM i j []=[]:=rfl
theorem VB (v:AV) (r:List (Nat×AV)):MM i j ((k,v)::r)=(k,v.sw i j)::MM i j r:=rfl
theorem Wc:yo i j []=[]:=rfl
theorem U8 (r:List (Nat×Option Ob)):yo i j ((k,none)::r)=(ld i j k,none)::yo i j r:=rfl
theorem Ut (r:List (Nat×Option Ob)):yo i j ((k,some .row)::r)=(ld i j k,some .row)::yo i j r:=rfl
theorem Qb (e:TypeId) (p:Nat→Value×List Value) (r:List (Nat×Option Ob)):yo i j ((k,some (.e8 e p))::r)=(ld i j k,some (.e8 e p))::yo i j r:=rfl
theorem VX (cs:List AV) (r:List (Nat×Option Ob)):yo i j ((k,some (.box cs))::r)=(ld i j k,some (.box (AV.w9 i j cs)))::yo i j r:=rfl
theorem UB (l:List (Value×PV)) (s:List Nat) (r:List (Nat×Option Ob)):yo i j ((k,some (.it l s))::r)=(ld i j k,some (.it l s))::yo i j r:=rfl
theorem VQ (l tm ps iK body st) (r:List (Nat×Option Ob)):yo i j ((k,some (.loop l tm ps iK body st))::r)=(ld i j k,some (.loop l tm ps iK body st))::yo i j r:=rfl
theorem VE:AV.w9 i j []=[]:=rfl
theorem VT (v:AV) (r:List AV):AV.w9 i j (v::r)=v.sw i j::AV.w9 i j r:=rfl
theorem Vd:AV.sw i j .any=.any:=rfl
theorem U4 (p:PV):AV.sw i j (.pv p)=.pv p:=rfl
theorem Wl (e m e7):AV.sw i j (.own k e m e7)=.own (ld i j k) e m e7:=rfl
theorem V9 (m:Nat):AV.sw i j (.ptr k m)=.ptr (ld i j k) m:=rfl
theorem V1 (c:List PV):AV.sw i j (.fV c)=.fV c:=rfl
theorem Wa (e m e7 m'):AV.sw i j (.gJ k e m e7 m')=.gJ (ld i j k) e m e7 m':=rfl
theorem TY (c:List AV):AV.sw i j (.agg c)=.agg (AV.w9 i j c):=rfl
theorem T9 (c:List AV):AV.sw i j (.gX c)=.gX (AV.w9 i j c):=rfl
theorem T_ (f) (c d:List AV):AV.sw i j (.jk f c d)=.jk f (AV.w9 i j c) (AV.w9 i j d):=rfl
theorem UQ:AV.sw i j (.gq k)=.gq (ld i j k):=rfl
theorem UE:AV.sw i j (.kO k)=.kO (ld i j k):=rfl
theorem VJ:ld i j k=bif Nat.beq i k then j else bif Nat.beq j k then i else k:=rfl
set_option linter.defProp false in
def ZY:=And.intro @sw (And.intro @TR (And.intro @VB (And.intro @Wc (And.intro @U8 (And.intro @Ut (And.intro @Qb (And.intro @VX (And.intro @UB (And.intro @VQ (And.intro @VE (And.intro @VT (And.intro @Vd (And.intro @U4 (And.intro @Wl (And.intro @V9 (And.intro @V1 (And.intro @Wa (And.intro @TY (And.intro @T9 (And.intro @T_ (And.intro @UQ (And.intro @UE @VJ))))))))))))))))))))))
end Nf
variable {k:Wt} {late:List Nat} {l:List Oper} {dn:List Nat} {QD:Exit→DS→Prop}
theorem AR.Hn {δ':DS} (hw:∀g':eR,(∀k',g'.wt=some k'→k'=k)→pw g' δ δ') (h:AR P g k late l QD dn δ'):AR P g k late l QD dn δ:=by
 intro uC κ a w r
 obtain⟨κ',r'⟩:=hw _ (fun k' lV=>by
  have:(if gQ late (gz l.length dn)=true then none else some k)=some k':=lV
  split at this
  ·cases this
  ·cases this;rfl) κ a w r
 exact h uC κ' a w r'
theorem AR.sw (i j:Nat) {m:Nat} (hk:k.2.2=m) (hi:(Nat.ble m i && Nat.blt i δ.nx)=true) (hj:(Nat.ble m j && Nat.blt j δ.nx)=true) (h:AR P g k late l QD dn (δ.sw i j)):AR P g k late l QD dn δ:=by
 simp only[Bool.and_eq_true,Nat.ble_eq,Nat.blt_eq] at hi hj
 exact AR.Hn (fun g' hg κ a w r=>⟨_,r.sw i j hi.2 hj.2 fun k' lV=>by rw[hg k' lV,hk];exact⟨hi.1,hj.1⟩⟩) h
theorem xP (n:Nat) (d:List Nat):(gz n d).size=n:=by
 induction d with
 |nil=>simp [gz]
 |cons i d ih=>simp [gz,ih]
theorem E0 {n:Nat} {d d':List Nat} (h:ji n d=ji n d'):gz n d=gz n d':=by
 apply Array.ext
 ·rw[xP,xP]
 ·intro i h1 h2
  have e1:=j1 (n:=n) (d:=d) (j:=i)
  have e2:=j1 (n:=n) (d:=d') (j:=i)
  rw[h] at e1
  rw[e1] at e2
  rw[Array.getD_eq_getD_getElem?,Array.getD_eq_getD_getElem?,Array.getElem?_eq_getElem h1,Array.getElem?_eq_getElem h2] at e2
  exact e2
theorem AR.perm {J:List Nat} (hm:(ji l.length dn==ji l.length J && Nat.beq dn.length J.length)=true) (h:AR P g k late l QD J δ):AR P g k late l QD dn δ:=by
 simp only[Bool.and_eq_true,beq_iff_eq] at hm
 have hm:ji l.length dn=ji l.length J∧dn.length=J.length:=⟨hm.1,Nat.eq_of_beq_eq_true hm.2⟩
 have e:=E0 hm.1
 intro uC κ a w r
 rw[hm.2]
 have h1:=h (by rw[← e];exact uC) κ a w (by rw[← e];exact r)
 rw[e];exact h1
theorem AR.cut (J:List Nat) {δc:DS} (h1:AR P g k late l QD J δc→AR P g k late l QD dn δ) (h2:AR P g k late l QD J δc):AR P g k late l QD dn δ:=h1 h2
theorem AR.meet {J:List Nat} {δc:DS} (hJ:AR P g k late l QD J δc) (hm:(ji l.length dn==ji l.length J && Nat.beq dn.length J.length)=true) (hw:∀g':eR,pw g' δ δc):AR P g k late l QD dn δ:=
 AR.Hn (fun g' _=>hw g') (AR.perm hm hJ)
theorem AR.s9 {i j m:Nat} {o p q:Oper} (hl:Nat.blt dn.length l.length=true) (hr:(lF (ji l.length dn) 0 l==[i,j,m])=true) (ho:l[i]? =some o) (hp:l[j]? =some p) (hq:l[m]? =some q)
  (h:∀g':eR,Gs g' g→(∀j,k.2.2≤j→g'.ni j)→a_ .plain P g' l.toArray [o] (jJ (AR P g k late l QD (i::dn))) δ)
  (h':∀g':eR,Gs g' g→(∀j,k.2.2≤j→g'.ni j)→a_ .plain P g' l.toArray [p] (jJ (AR P g k late l QD (j::dn))) δ)
  (h'':∀g':eR,Gs g' g→(∀j,k.2.2≤j→g'.ni j)→a_ .plain P g' l.toArray [q] (jJ (AR P g k late l QD (m::dn))) δ):AR P g k late l QD dn δ:=
 AR.all hl (mL hr) (by simp) fun i' kb=>by
  have hw:∀i',∀j,k.2.2≤j→(Aj g k late (gz l.length (i'::dn))).ni j:=by
   intro i' j hj k' lV
   have:(if gQ late (gz l.length (i'::dn))=true then none else some k)=some k':=lV
   split at this
   ·cases this
   ·cases this;exact hj
  simp only[List.mem_cons,List.not_mem_nil,or_false] at kb
  rcases kb with rfl|rfl|rfl
  ·exact⟨o,ho,h _ ⟨rfl,rfl,rfl⟩ (hw _)⟩
  ·exact⟨p,hp,h' _ ⟨rfl,rfl,rfl⟩ (hw _)⟩
  ·exact⟨q,hq,h'' _ ⟨rfl,rfl,rfl⟩ (hw _)⟩
theorem AR.zV {i j:Nat} {o p:Oper} (hl:Nat.blt dn.length l.length=true) (hr:(lF (ji l.length dn) 0 l==[i,j])=true) (ho:l[i]? =some o) (hp:l[j]? =some p) (fm:A7 late (ji l.length dn)=true)
  (h:∀g':eR,Gs g' g→g'.wt=none→a_ .plain P g' l.toArray [o] (jJ (AR P g k late l QD (i::dn))) δ)
  (h':∀g':eR,Gs g' g→g'.wt=none→a_ .plain P g' l.toArray [p] (jJ (AR P g k late l QD (j::dn))) δ):AR P g k late l QD dn δ:=
 AR.all hl (mL hr) (by simp) fun i' kb=>by
  have Px:gQ late (gz l.length dn)=true:=by rw[vZ];exact fm
  have hw:∀i',(Aj g k late (gz l.length (i'::dn))).wt=none:=fun i'=>if_pos (ue Px)
  simp only[List.mem_cons,List.not_mem_nil,or_false] at kb
  rcases kb with rfl|rfl
  ·exact⟨o,ho,h _ ⟨rfl,rfl,rfl⟩ (hw _)⟩
  ·exact⟨p,hp,h' _ ⟨rfl,rfl,rfl⟩ (hw _)⟩
def tq (k:Nat):List Nat→Bool
 |[]=>false
 |x::r=>bif Nat.beq x k then true else tq k r
def GO (s:List Nat):List (Nat×AV)→List (Nat×AV)
 |[]=>[]
 |(k,v)::r=>bif tq k s then GO s r else (k,v)::GO (k::s) r
def GR (s:List Nat):List (Nat×Option Ob)→List (Nat×Option Ob)
 |[]=>[]
 |(k,v)::r=>bif tq k s then GR s r else (k,v)::GR (k::s) r
theorem vi {k:Nat}:∀{s:List Nat},tq k s=true↔k∈s
 |[]=>by simp [tq]
 |x::r=>by
  unfold tq
  by_cases h:x=k
  ·subst h;simp
  ·rw[me h,cond_false,vi,List.mem_cons]
   constructor
   ·exact .inr
   ·rintro(h'|h')
    ·exact absurd h'.symm h
    ·exact h'
theorem wg {j:Nat}:∀{e:List (Nat×AV)} {s:List Nat},j∉s→look (GO s e) j=look e j
 |[],_,_=>rfl
 |(k,v)::r,s,h=>by
  unfold GO
  cases hm:tq k s with
  |true=>
   have:k≠j:=by rintro rfl;exact h (vi.1 hm)
   rw[cond_true,fC,if_neg this,wg h]
  |false=>
   rw[cond_false,fC,fC]
   by_cases e:k=j
   ·rw[if_pos e,if_pos e]
   ·rw[if_neg e,if_neg e,wg (by simp only[List.mem_cons,not_or];exact⟨fun h'=>e h'.symm,h⟩)]
theorem ry {j:Nat}:∀{e:List (Nat×Option Ob)} {s:List Nat},j∉s→fb (GR s e) j=fb e j
 |[],_,_=>rfl
 |(k,v)::r,s,h=>by
  unfold GR
  cases hm:tq k s with
  |true=>
   have:k≠j:=by rintro rfl;exact h (vi.1 hm)
   rw[cond_true,fA,if_neg this,ry h]
  |false=>
   rw[cond_false,fA,fA]
   by_cases e:k=j
   ·rw[if_pos e,if_pos e]
   ·rw[if_neg e,if_neg e,ry (by simp only[List.mem_cons,not_or];exact⟨fun h'=>e h'.symm,h⟩)]
def DS.dd (δ:DS):DS:=⟨δ.n,GO [] δ.env,GR [] δ.gm,δ.nx⟩
theorem Rel.congr {δ':DS} (hn:δ'.n=δ.n) (hx:δ'.nx=δ.nx) (he:∀j,δ'.get j=δ.get j) (ho:∀j,δ'.ob j=δ.ob j) (r:Rel g δ κ a w):Rel g δ' κ a w:=by
 have iQ:δ'.ob=δ.ob:=funext ho
 have hl:δ'.live=δ.live:=by unfold DS.live;rw[iQ]
 have m_:δ'.lr=δ.lr:=by unfold DS.lr;rw[iQ]
 have u7:δ'.lb=δ.lb:=by unfold DS.lb;rw[iQ]
 have Ch:δ'.cx g κ=δ.cx g κ:=by unfold DS.cx;rw[hl,m_,u7]
 exact
  {n:=r.n.trans hn.symm,dfr:=r.dfr
   env:=fun j=>by rw[Ch,he];exact r.env j
   obj:=fun i o h=>by rw[Ch];rw[ho] at h;exact r.obj i o h
   inj:=by rw[hl];exact r.inj
   lo:=by rw[hl];exact r.lo
   nx:=by rw[hl,hx];exact r.nx
   wt:=by rw[hl,m_];exact r.wt
   below:=r.below,hB:=r.hB,N0:=r.N0,kc:=r.kc,fr:=by rw[hl];exact r.fr}
theorem pw.dd:pw g δ δ.dd:=fun κ _ _ r=>⟨κ,Rel.congr (δ:=δ) (δ':=δ.dd) rfl rfl (fun j=>wg (s:=[]) (by simp)) (fun j=>ry (s:=[]) (by simp)) r⟩
theorem AR.dd (h:AR P g k late l QD dn δ.dd):AR P g k late l QD dn δ:=AR.Hn (fun _ _=>pw.dd) h
def O6 (b:Bool) (s:List Nat) (k:Nat) (v:AV) (r:List (Nat×AV)):List (Nat×AV):=bif b then GO s r else (k,v)::GO (k::s) r
def OP (b:Bool) (s:List Nat) (k:Nat) (v:Option Ob) (r:List (Nat×Option Ob)):List (Nat×Option Ob):=bif b then GR s r else (k,v)::GR (k::s) r
namespace Nf
variable {n x:Nat} {e:List (Nat×AV)} {o:List (Nat×Option Ob)} {i j m:Nat}
theorem dd:DS.dd ⟨n,e,o,x⟩=⟨n,GO [] e,GR [] o,x⟩:=rfl
theorem TV (s:List Nat):GO s []=[]:=rfl
theorem Wd (s:List Nat) (v:AV) (r:List (Nat×AV)):GO s ((m,v)::r)=O6 (tq m s) s m v r:=rfl
theorem U_ (s:List Nat) (v:AV) (r:List (Nat×AV)):O6 true s m v r=GO s r:=rfl
theorem WD (s:List Nat) (v:AV) (r:List (Nat×AV)):O6 false s m v r=(m,v)::GO (m::s) r:=rfl
theorem Ux (s:List Nat):GR s []=[]:=rfl
theorem TQ (s:List Nat) (v:Option Ob) (r:List (Nat×Option Ob)):GR s ((m,v)::r)=OP (tq m s) s m v r:=rfl
theorem TU (s:List Nat) (v:Option Ob) (r:List (Nat×Option Ob)):OP true s m v r=GR s r:=rfl
theorem Up (s:List Nat) (v:Option Ob) (r:List (Nat×Option Ob)):OP false s m v r=(m,v)::GR (m::s) r:=rfl
theorem X8:tq m []=false:=rfl
theorem me1 (y:Nat) (r:List Nat):tq m (y::r)=bif Nat.beq y m then true else tq m r:=rfl
set_option linter.defProp false in
def Z1:=And.intro @dd (And.intro @TV (And.intro @Wd (And.intro @U_ (And.intro @WD (And.intro @Ux (And.intro @TQ (And.intro @TU (And.intro @Up (And.intro @X8 @me1)))))))))
end Nf
end Go.Ab
/- Contracts under a premise on the world at the call that no own memory touches (a table laid,a function value's ways);calls of told closures;functions that take functions. -/
namespace Go.Ab
open Go Go.RowKit
variable {P:Program} {g:eR} {δ:DS} {κ:Kp} {a:Act} {w:World}
variable {ops:Array Oper} {rest:List Oper} {Q:Exit→DS→Prop} {dst:Option Nat} {ty:TypeId} {pos:String} {af:Array Edge}
def OW (T:World→Prop):Prop:=∀w w',T w→Below w.heap.size w w'→T w'
structure ux (T:World→Prop) (P:Program) (f:FuncId) (args:List AV) (r:AV):Prop where
 enters:∀vals w,(callFunc f vals).run P w=.ok (.enter f vals) w
 calls:∀(N:Nat→Prop) (w:World) (vals:Array Value),T w→(∀b,w.heap.size≤b→N b)→vals.size=args.length→
  (∀(j:Nat) (v:Value) (av:AV),vals[j]? =some v→args[j]? =some av→RA (uU N) w v av)→
  Calls P f vals w fun e w'=>∃v,e=.returned v∧RA (uU N) w' v r∧Below w.heap.size w w'
theorem Fn.Vi {T:World→Prop} {f:FuncId} {args:List AV} {r:AV} (h:Fn P f args r):ux T P f args r:=⟨h.enters,fun N w vals _=>h.calls N w vals⟩
theorem ux.sub {T T':World→Prop} {f:FuncId} {args:List AV} {r:AV} (h:ux T P f args r) (hT:∀w,T' w→T w):ux T' P f args r:=⟨h.enters,fun N w vals ht=>h.calls N w vals (hT w ht)⟩
def TB (T:World→Prop) (g:eR):Prop:=∀w',Below g.B g.w0 w'→T w'
theorem TB.gs {T:World→Prop} {g g':eR} (h:TB T g) (hg:Gs g' g):TB T g':=fun w' hb=>h w' (by rw[← hg.2.1,← hg.2.2];exact hb)
theorem TB.sub {T T':World→Prop} {g:eR} (h:TB T g) (hT:∀w,T w→T' w):TB T' g:=fun w' hb=>hT w' (h w' hb)
theorem ux.enter {T:World→Prop} (jn:OW T) {f:FuncId} {fn:Func} {c:Code} {rs:List ResultVar} {n:Nat} {args:List AV} {r:AV} (hf:P.funcs[f]? =some fn) (hb:fn.body=some c) (sI:fn.results=rs.toArray) (hn:fn.ntmps=n) (Cb:Nat.ble args.length n=true)
  (pH:Nat.ble n HS=true) (he:(fn.name== "runtime.NumGoroutine")=false) (h:∀g:eR,g.ro=none→g.wt=none→TB T g→AW P g c (Ends P rs r) (start n args)):ux T P f args r:=by
 refine⟨fun vals w=>by simp [callFunc,hf,hb];simpa using he,fun N w vals hTw hN hs gf=>?_⟩
 have hle:args.length≤n:=by simpa using Cb
 have KE:n≤HS:=by simpa using pH
 let g:eR:={B:=w.heap.size,w0:=w,N0:=N,held:=fun _=>undef,ro:=none,mks:=[],wt:=none,fr:=fun _=>False,w1:=w}
 have nA:∀i,¬(start n args).live i:=fun i ⟨o,h⟩=>by cases h
 refine callsIn_wide.1 (callsIn_of_wp_marks (n:=0) hf hb trivial (wpIn_mono (h g rfl rfl (fun w' hb=>jn w w' hTw hb) ⟨fun _=>none,fun _ _=>False⟩ _ w ?_) ?_))
 ·exact
  {n:=by simp [hn,start];omega
   dfr:=⟨[],rfl,by simp [g],by simp [g]⟩
   env:=fun j=>by
    by_cases hj:j<args.length
    ·have h1:(start n args).get j=args[j]:=mH args 0 j _ (Nat.zero_le _) (by simp [hj])
     have h2:g.val {tmps:=vals++Array.replicate (fn.ntmps - vals.size) undef,defers:=[]} j=vals[j]'(by omega):=by
      unfold eR.val
      rw[if_pos aJ]
      simp [Array.getD_eq_getD_getElem?,Array.getElem?_append,hs,hj]
     rw[h1,h2]
     exact(gf j _ _ (Array.getElem?_eq_getElem aJ) (List.getElem?_eq_getElem hj)).sR _ fun b _ h=>⟨⟨h,fun⟨_,h⟩=>h⟩,fun i hi=>absurd hi (nA i)⟩
    ·have h1:(start n args).get j=.any:=jb args 0 j (by omega)
     rw[h1];exact .any _
   obj:=fun i o h=>by cases h
   inj:=fun i j b h=>absurd h (nA i)
   lo:=fun i b h=>absurd h (nA i)
   nx:=fun i h=>absurd h (nA i)
   wt:=fun k hk=>by cases hk
   below:=Below.refl _ _
   hB:=Nat.le_refl _
   N0:=fun b h _=>hN b h
   fr:=⟨fun b hb=>hb.elim,fun i b hb=>hb.elim⟩
   kc:=fun d hd=>by cases hd}
 ·rintro e a' w' ⟨δ',κ',hq,r'⟩
  have fin:∀v,gk P δ' rs v→Le true v r→LeavesInM Fence.wide 0 P fn a'.tmps (fun e w'=>∃v,e=.returned v∧RA (uU N) w' v r∧Below w.heap.size w w') a'.defers .returning w':=by
   intro v h1 h2
   exact leaves (g:=g) rfl rfl sI h1 r' (fun w2 r2 u hu=>by
    exact⟨u,rfl,hu.le h2 (fun b _ h=>h.1.1) (fun _ i b hi hκ=>hN b (r2.lo i b (DS.gA hi) hκ).1),r2.below⟩)
  cases e with
  |normal=>obtain⟨v,h1,h2⟩:=hq;exact fin v h1 h2
  |ret=>obtain⟨v,h1,h2⟩:=hq;exact fin v h1 h2
  |_=>exact hq.elim
theorem TB.at {T:World→Prop} (h:TB T g) (r:Rel g δ κ a w) {w':World} (hb:Below w.heap.size w w'):T w':=h w' (r.below.trans (hb.mono r.hB))
theorem a_.D4 {q:Md} {T:World→Prop} {f:FuncId} {xs:List Operand} {tys:Array TypeId} {args:List AV} {r:AV} (hT:TB T g) (hf:ux T P f args r) (gf:oC true δ xs args) (lS:r.rY=true) (hd:fO δ.n dst=true) (hq:q≠ .held)
  (hK:a_ q P g ops rest Q (δ.eS dst r)):a_ q P g ops (⟨dst,.call {callee:=.value (.func f),args:=xs.toArray,argTypes:=tys},ty,pos,af,none⟩::rest) Q δ:=by
 intro κ a w r0
 have hc:∀w',Below w.heap.size w w'→Calls P f (xs.toArray.map a.eval) w' fun e w''=>e=.returned r.out∧Below w'.heap.size w' w'':=fun w' iP=>
  (hf.calls (fun _=>True) w' _ (hT.at r0 iP) (fun _ _=>trivial) (by simp [gf.len]) (gf.J1 (r0.ext iP) (fun _ _ _=>trivial) (fun _ _ _ _ _=>trivial))).mono (by
   rintro e w'' ⟨v,rfl,hv,hb⟩
   exact⟨by rw[hv.rY (AV.j6 (C:=uU (fun _=>True)) (w:=w) lS) lS],hb⟩)
 have uX:=hK κ _ _ (r0.eS (fi hd) (AV.j6 lS))
 cases q with
 |quiet=>
  show wpQuiet P ops _ _ (_::rest) a
  unfold wpQuiet
  rw[if_pos (by simp [Region.wanted])]
  refine⟨r.out,fun w' iP=>?_,uX⟩
  unfold Oper.quietAt
  rw[iB (f:=f) rfl hf.enters]
  exact⟨rfl,(hc w' iP).mono fun e w'' ⟨h1,h2⟩=>⟨h1,iP.trans (h2.mono iP.size)⟩⟩
 |held=>exact absurd rfl hq
 |plain=>
  show wpListIn _ _ P ops _ (_::rest) a w
  refine gw rfl rfl fun K nb=>?_
  unfold Oper.wW
  rw[iB (f:=f) rfl hf.enters,Oper.uponIn_enter]
  refine⟨fun h=>by simp at h,(ia (hc w (Below.refl _ _))).mono ?_⟩
  rintro e w' ⟨rfl,hb⟩
  exact nb _ _ (hK κ _ _ ((r0.ext hb).eS (fi hd) (AV.j6 lS)))
theorem a_.HY {T:World→Prop} {f:FuncId} {xs:List Operand} {tys:Array TypeId} {args:List AV} {r:AV} (hT:TB T g) (hf:ux T P f args r) (gf:oC false δ xs args) (hd:fO δ.n dst=true)
  (hK:a_ .plain P g ops rest Q (δ.eS dst r)):a_ .plain P g ops (⟨dst,.call {callee:=.value (.func f),args:=xs.toArray,argTypes:=tys},ty,pos,af,none⟩::rest) Q δ:=by
 intro κ a w r0
 show wpListIn _ _ P ops _ (_::rest) a w
 refine gw rfl rfl fun K nb=>?_
 unfold Oper.wW
 rw[iB (f:=f) rfl hf.enters,Oper.uponIn_enter]
 refine⟨fun h=>by simp at h,(ia (hf.calls (fun b=>(δ.cx g κ).N b∨w.heap.size≤b) w _ (hT.at r0 (Below.refl _ _)) (fun _ h=> .inr h) (by simp [gf.len]) (gf.J1 r0 (fun _ _ h=> .inl h) (fun h=>by simp at h)))).mono ?_⟩
 rintro e w' ⟨v,rfl,hv,hb⟩
 have r1:=r0.ext hb
 refine nb _ _ (hK κ _ _ (r1.eS (fi hd) (hv.sR _ fun b _ h=>?_)))
 rcases h with h|h
 ·exact h
 ·refine⟨r0.A2 h,fun i hi e=>?_⟩
  have:=(r0.lo i b hi e).2
  omega
def AV.seen:AV→PV
 |.pv p=>p
 |.own _ _ k e7=> .slice k e7
 |_=> .any
inductive MZ (δ:DS):AV→AV→Prop
 |le {v r:AV} (h:Le true v r):MZ δ v r
 |box {i off:Nat} {cells:List AV} {ps:List PV} (h:δ.ob i=some (.box cells)) (hc:(cells.drop off).map AV.seen=ps):MZ δ (.ptr i off) (.fV ps)
inductive xl (δ:DS):List AV→List AV→Prop
 |nil:xl δ [] []
 |cons {c d:AV} {cs ds:List AV} (h:MZ δ c d) (hs:xl δ cs ds):xl δ (c::cs) (d::ds)
theorem xl.len {cs ds:List AV} (h:xl δ cs ds):cs.length=ds.length:=by induction h with|nil=>rfl|cons h hs ih=>simp [ih]
theorem xl.at {cs ds:List AV} (h:xl δ cs ds):∀(j:Nat) (c d:AV),cs[j]? =some c→ds[j]? =some d→MZ δ c d:=by
 induction h with
 |nil=>intro j c d h1;simp at h1
 |cons h hs ih=>
  intro j c d h1 h2
  cases j with
  |zero=>simp at h1 h2;subst h1;subst h2;exact h
  |succ j=>exact ih j c d (by simpa using h1) (by simpa using h2)
theorem RA.seen {C:Cx} {u:Value} {av:AV} (h:RA C w u av):RP (fun _=>True) w u av.seen:=by
 cases h with
 |pv h=>exact h.mono (Nat.le_refl _) fun _ _ _=>⟨trivial,rfl⟩
 |own h=>exact h.pv (fun _ _ _=>trivial) (fun _ _ _ _=>trivial)
 |_=>exact .any _
theorem MZ.ra {v r:AV} (h:MZ δ v r) (rl:Rel g δ κ a w) {u:Value} (hu:RA (δ.cx g κ) w u v):RA (uU fun _=>True) w u r:=by
 cases h with
 |le h=>exact hu.le h (fun _ _ _=>trivial) (fun _ _ _ _ _=>trivial)
 | @box i off cells ps hb hc=>
  obtain⟨b,c,e,rfl,hκ,h3,h4,h5⟩:=rl.box hu hb
  have lj:∀j,w.cell? ⟨b,off+j,none⟩=c[off+j]?:=fun j=>cell_of h3 _
  have sH:∀(j:Nat) (p:PV),ps[j]? =some p→∃av,cells[off+j]? =some av∧p=av.seen:=by
   intro j p hp
   rw[← hc,List.getElem?_map,List.getElem?_drop] at hp
   obtain⟨av,h1,h2⟩:=Option.map_eq_some_iff.1 hp
   exact⟨av,h1,h2.symm⟩
  refine .fV b off (fun j=>(c[off+j]?).getD undef) trivial (iv h3) (fun j p hp=>?_) (fun j p hp=>?_)
  ·obtain⟨av,h1,rfl⟩:=sH j p hp
   have fm:=(List.getElem?_eq_some_iff.1 h1).1
   have Nc:c[off+j]? =some c[off+j]:=Array.getElem?_eq_getElem (by omega)
   rw[lj,Nc]
   exact⟨rfl,(h5 _ _ _ Nc h1).2⟩
  ·obtain⟨av,h1,rfl⟩:=sH j p hp
   have fm:=(List.getElem?_eq_some_iff.1 h1).1
   have Nc:c[off+j]? =some c[off+j]:=Array.getElem?_eq_getElem (by omega)
   simp only[Nc,Option.getD_some]
   exact(h5 _ _ _ Nc h1).1.seen
theorem RA.keep {u:Value} {r:AV} (h:RA (uU fun _=>True) w u r) {w':World} (hb:Below w.heap.size w w'):RA (uU fun _=>True) w' u r:=
 (show j4 (uU fun _=>True) w (uU fun _=>True) w' from {B:=rfl,size:=hb.size,N:=fun b h1 h2=>⟨h2,hb.block b h1⟩,Lr:=fun i hi=>hi.elim,Lb:=fun i hi=>hi.elim}).ra h
theorem TB.none (g:eR):TB (fun _=>True) g:=fun _ _=>trivial
def BH (P:Program) (v:Value) (w:World) (arg r:AV):Prop:=∃(f:FuncId) (vs us:Array Value),v=.func (.func f) vs us∧(∀vals w,(callFunc f vals).run P w=.ok (.enter f vals) w)∧
 ∀w',Below w.heap.size w w'→∀u,RA (uU fun _=>True) w' u arg→Calls P f (vs++ #[u]++us) w' fun e w''=>e=.returned r.out∧Below w'.heap.size w' w''
theorem BH.stay {v:Value} {arg r:AV} {w w':World} (h:BH P v w arg r) (hb:Below w.heap.size w w'):BH P v w' arg r:=by
 obtain⟨f,vs,us,h1,h2,h3⟩:=h
 exact⟨f,vs,us,h1,h2,fun w'' hw u hu=>h3 w'' (hb.trans (hw.mono hb.size)) u hu⟩
def uQ (P:Program) {α:Type} (v:Value) (A R:α→AV) (l:List α) (w:World):Prop:=∀x∈l,BH P v w (A x) (R x)
theorem uQ.stay {α:Type} (v:Value) (A R:α→AV) (l:List α):OW (uQ P v A R l):=fun _ _ h hb x hx=>(h x hx).stay hb
theorem a_.MQ {q:Md} {y x:Operand} {v:Value} {tys:Array TypeId} {arg r:AV} (hT:TB (fun w=>BH P v w arg r) g) (hy:δ.ev y=.pv (.lit v)) (kv:ff y=true) (kH:ff x=true) (hx:MZ δ (δ.ev x) arg) (hd:fO δ.n dst=true) (lS:r.rY=true) (hq:q≠ .held)
  (hK:a_ q P g ops rest Q (δ.eS dst r)):a_ q P g ops (⟨dst,.call {callee:=.value y,args:= #[x],argTypes:=tys},ty,pos,af,none⟩::rest) Q δ:=by
 intro κ a w r0
 have hv:=r0.lit hy kv
 obtain⟨f,vs,us,he,hen,OD⟩:=hT.at r0 (Below.refl _ _)
 have M5:=hx.ra r0 (r0.ra rfl kH)
 have hc:∀w',Below w.heap.size w w'→Calls P f (vs++(#[x]:Array Operand).map a.eval++us) w' fun e w''=>e=.returned r.out∧Below w'.heap.size w' w'':=fun w' iP=>by
  have h:=OD w' iP _ (M5.keep iP)
  have ex:(#[x]:Array Operand).map a.eval= #[a.eval x]:=by simp
  rw[ex];exact h
 have uX:=hK κ _ _ (r0.eS (fi hd) (AV.j6 lS))
 have fu:=fun w'=>sO (dst:=dst) (ty:=ty) (pos:=pos) (af:=af) (gd:=none) (x:=y) (xs:= #[x]) (tys:=tys) (ρ:=a.eval) (hv.trans he) hen w'
 cases q with
 |quiet=>
  show wpQuiet P ops _ _ (_::rest) a
  unfold wpQuiet
  rw[if_pos (by simp [Region.wanted])]
  refine⟨r.out,fun w' iP=>?_,uX⟩
  unfold Oper.quietAt
  rw[fu]
  exact⟨rfl,(hc w' iP).mono fun e w'' ⟨h1,h2⟩=>⟨h1,iP.trans (h2.mono iP.size)⟩⟩
 |held=>exact absurd rfl hq
 |plain=>
  show wpListIn _ _ P ops _ (_::rest) a w
  refine gw rfl rfl fun K nb=>?_
  unfold Oper.wW
  rw[fu,Oper.uponIn_enter]
  refine⟨fun h=>by simp at h,(ia (hc w (Below.refl _ _))).mono ?_⟩
  rintro e w' ⟨rfl,hb⟩
  exact nb _ _ (hK κ _ _ ((r0.ext hb).eS (fi hd) (AV.j6 lS)))
theorem TB.WG {α:Type} {v:Value} {A R:α→AV} {l:List α} (h:TB (uQ P v A R l) g) {x:α} (hx:x∈l):TB (fun w=>BH P v w (A x) (R x)) g:=h.sub fun w hw=>hw x hx
inductive lX (δ:DS) (z:Operand) (v:Value):List Operand→List AV→Prop
 |nil:lX δ z v [] []
 |here {xs:List Operand} {vs:List AV} (hs:lX δ z v xs vs):lX δ z v (z::xs) (.pv (.lit v)::vs)
 |cons {x:Operand} {u:AV} {xs:List Operand} {vs:List AV} (ho:ff x=true) (h:MZ δ (δ.ev x) u) (hs:lX δ z v xs vs):lX δ z v (x::xs) (u::vs)
theorem lX.len {z:Operand} {v:Value} {xs:List Operand} {vs:List AV} (h:lX δ z v xs vs):xs.length=vs.length:=by induction h with|nil=>rfl|here hs ih=>simp [ih]|cons ho h hs ih=>simp [ih]
theorem lX.J1 {z:Operand} {xs:List Operand} {args:List AV} (r:Rel g δ κ a w) (h:lX δ z (a.eval z) xs args):∀(j:Nat) (v:Value) (av:AV),(xs.toArray.map a.eval)[j]? =some v→args[j]? =some av→RA (uU fun _=>True) w v av:=by
 intro j v av h1 h2
 simp only[List.map_toArray,List.getElem?_toArray,List.getElem?_map,Option.map_eq_some_iff] at h1
 obtain⟨x,hx,rfl⟩:=h1
 induction h generalizing j with
 |nil=>simp at hx
 |here hs ih=>
  cases j with
  |zero=>simp at hx h2;subst hx;subst h2;exact .pv (.lit _)
  |succ j=>exact ih j (by simpa using h2) (by simpa using hx)
 |cons ho hle hs ih=>
  cases j with
  |zero=>simp at hx h2;subst hx;subst h2;exact hle.ra r (r.ra rfl ho)
  |succ j=>exact ih j (by simpa using h2) (by simpa using hx)
theorem a_.Si {q:Md} {α:Type} {T:World→Prop} {A R:α→AV} {l:List α} {z:Operand} {fc f:FuncId} {xs:List Operand} {tys:Array TypeId} {first cap:List AV} {first' cap':List AV} {args:FuncId→Array Value→Array Value→List AV} {r:AV}
  (hf:∀fx vs us,ux (uQ P (.func (.func fx) vs us) A R l) P f (args fx vs us) r) (hT:TB T g) (hc:∀x∈l,ux T P fc (first'++ [A x]++cap') (R x)) (hz:δ.ev z=.jk (.func fc) first cap) (oA:ff z=true) (h1:xl δ first first') (h2:xl δ cap cap') (hR:∀x,(R x).rY=true) (gf:∀fx vs us,lX δ z (.func (.func fx) vs us) xs (args fx vs us)) (lS:r.rY=true) (hd:fO δ.n dst=true) (hq:q≠ .held)
  (hen:∀vals w,(callFunc fc vals).run P w=.ok (.enter fc vals) w)
  (hK:a_ q P g ops rest Q (δ.eS dst r)):a_ q P g ops (⟨dst,.call {callee:=.value (.func f),args:=xs.toArray,argTypes:=tys},ty,pos,af,none⟩::rest) Q δ:=by
 intro κ a w r0
 have sJ:=r0.ra hz oA
 obtain⟨vs,us,hv,hs,Ly,ht,Ko⟩:∃vs us:Array Value,a.eval z=.func (.func fc) vs us∧vs.size=first.length∧(∀(j:Nat) (u:Value) (c:AV),vs[j]? =some u→first[j]? =some c→RA (δ.cx g κ) w u c)∧us.size=cap.length∧∀(j:Nat) (u:Value) (c:AV),us[j]? =some u→cap[j]? =some c→RA (δ.cx g κ) w u c:=by
  generalize a.eval z=v at sJ
  cases sJ with
  | @jk _ vs us _ _ hs Ly ht Ko=>exact⟨vs,us,rfl,hs,Ly,ht,Ko⟩
 have Qc:uQ P (.func (.func fc) vs us) A R l w:=by
  intro x hx
  ·skip
   refine⟨fc,vs,us,rfl,hen,fun w' hb u hu=>?_⟩
   refine((hc x hx).calls (fun _=>True) w' _ (hT.at r0 hb) (fun _ _=>trivial) (by have:=h1.len;have:=h2.len;simp;omega) (fun j v av h3 h4=>?_)).mono (by
    rintro e w'' ⟨v,rfl,hv,hb⟩
    exact⟨by rw[hv.rY (AV.j6 (C:=uU (fun _=>True)) (w:=w) (hR x)) (hR x)],hb⟩)
   have l1:=h1.len
   have l2:=h2.len
   by_cases hj:j<first.length
   ·rw[Array.getElem?_append_left (by simp;omega),Array.getElem?_append_left aJ] at h3
    rw[List.getElem?_append_left (by simp;omega),List.getElem?_append_left aJ] at h4
    have h5:=List.getElem?_eq_getElem hj
    exact((h1.at j _ av h5 h4).ra r0 (Ly j v _ h3 h5)).keep hb
   ·by_cases rB:j=first.length
    ·rw[Array.getElem?_append_left (by simp;omega),Array.getElem?_append_right aJ,show j - vs.size=0 by omega] at h3
     rw[List.getElem?_append_left (by simp;omega),List.getElem?_append_right aJ,show j - first'.length=0 by omega] at h4
     simp at h3 h4;subst h3;subst h4;exact hu
    ·rw[Array.getElem?_append_right (by simp;omega)] at h3
     rw[List.getElem?_append_right (by simp;omega)] at h4
     have e1:(vs++ #[u]).size=first.length+1:=by simp;omega
     have e2:(first'++ [A x]).length=first.length+1:=by simp;omega
     rw[e1] at h3
     rw[e2] at h4
     have fm:j - (first.length+1)<cap.length:=by rw[l2];exact(List.getElem?_eq_some_iff.1 h4).1
     have h5:=List.getElem?_eq_getElem fm
     exact((h2.at _ _ av h5 h4).ra r0 (Ko _ v _ h3 h5)).keep hb
 have VW:=hf fc vs us
 have Cg:=gf fc vs us
 rw[← hv] at Cg
 have WS:∀w',Below w.heap.size w w'→Calls P f (xs.toArray.map a.eval) w' fun e w''=>e=.returned r.out∧Below w'.heap.size w' w'':=fun w' iP=>
  (VW.calls (fun _=>True) w' _ (uQ.stay _ _ _ _ w w' Qc iP) (fun _ _=>trivial) (by simp [Cg.len]) (fun j v av h3 h4=>(Cg.J1 r0 j v av h3 h4).keep iP)).mono (by
   rintro e w'' ⟨v,rfl,hv,hb⟩
   exact⟨by rw[hv.rY (AV.j6 (C:=uU (fun _=>True)) (w:=w) lS) lS],hb⟩)
 have uX:=hK κ _ _ (r0.eS (fi hd) (AV.j6 lS))
 cases q with
 |quiet=>
  show wpQuiet P ops _ _ (_::rest) a
  unfold wpQuiet
  rw[if_pos (by simp [Region.wanted])]
  refine⟨r.out,fun w' iP=>?_,uX⟩
  unfold Oper.quietAt
  rw[iB (f:=f) rfl VW.enters]
  exact⟨rfl,(WS w' iP).mono fun e w'' ⟨h1,h2⟩=>⟨h1,iP.trans (h2.mono iP.size)⟩⟩
 |held=>exact absurd rfl hq
 |plain=>
  show wpListIn _ _ P ops _ (_::rest) a w
  refine gw rfl rfl fun K nb=>?_
  unfold Oper.wW
  rw[iB (f:=f) rfl VW.enters,Oper.uponIn_enter]
  refine⟨fun h=>by simp at h,(ia (WS w (Below.refl _ _))).mono ?_⟩
  rintro e w' ⟨rfl,hb⟩
  exact nb _ _ (hK κ _ _ ((r0.ext hb).eS (fi hd) (AV.j6 lS)))
theorem a_.CZ {q:Md} {α:Type} {T:World→Prop} {A R:α→AV} {l:List α} {z:Operand} {fc f:FuncId} {xs:List Operand} {tys:Array TypeId} {cap cap':List AV} {args:FuncId→Array Value→Array Value→List AV} {r:AV}
  (hf:∀fx vs us,ux (uQ P (.func (.func fx) vs us) A R l) P f (args fx vs us) r) (hc:∀x∈l,ux T P fc (A x::cap') (R x)) (hen:∀vals w,(callFunc fc vals).run P w=.ok (.enter fc vals) w) (hT:TB T g) (gf:∀fx vs us,lX δ z (.func (.func fx) vs us) xs (args fx vs us)) (hz:δ.ev z=.jk (.func fc) [] cap) (oA:ff z=true) (h2:xl δ cap cap') (hR:∀x,(R x).rY=true) (lS:r.rY=true) (hd:fO δ.n dst=true) (hq:q≠ .held)
  (hK:a_ q P g ops rest Q (δ.eS dst r)):a_ q P g ops (⟨dst,.call {callee:=.value (.func f),args:=xs.toArray,argTypes:=tys},ty,pos,af,none⟩::rest) Q δ:=
 a_.Si (first:=[]) (first':=[]) hf hT hc hz oA .nil h2 hR gf lS hd hq hen hK
end Go.Ab
/- Objects that nothing names any more are given up. -/
namespace Go.Ab
open Go Go.RowKit
variable {P:Program} {g:eR} {δ:DS} {κ:Kp} {a:Act} {w:World}
def xY (lr lb:Nat→Bool):Ob→Bool
 |.row|.it _ _|.loop _ _ _ _ _ _|.lit _ _|.e8 _ _=>true
 |.box cs=>AV.w_ lr lb cs
 |.mp l=>l.all fun p=>p.2.ids lr lb
 |.mpl l _ v=>(l.all fun p=>p.2.ids lr lb) && v.ids lr lb
theorem Dk.refl {δ δ':DS}:∀{cs:List AV},AV.w_ δ'.qu δ'.qc cs=true→Dk δ δ' cs cs
 |[],_=>trivial
 |c::cs,h=>by
  simp only[AV.w_,Bool.and_eq_true] at h
  exact⟨.eq rfl h.1,Dk.refl h.2⟩
variable {k:Wt} {late:List Nat} {l:List Oper} {dn:List Nat} {QD:Exit→DS→Prop}
end Go.Ab
/- Contracts of functions that change objects of their caller's. -/
namespace Go.Ab
open Go Go.RowKit
variable {P:Program} {g:eR} {δ:DS} {κ:Kp} {a:Act} {w:World}
variable {ops:Array Oper} {rest:List Oper} {Q:Exit→DS→Prop} {dst:Option Nat} {ty:TypeId} {pos:String} {af:Array Edge}
abbrev XS (gm:List (Nat×Option Ob)) (n:Nat):DS:=⟨0,[],gm,n⟩
abbrev ND:Act:={tmps:= #[],defers:=[]}
def gI:List (Nat×Option Ob)→List AV
 |[]=>[]
 |(i,some (.box _))::r=> .ptr i 0::gI r
 |(i,some (.lit _ _))::r=> .ptr i 0::gI r
 |(i,some (.mp _))::r=> .gq i::gI r
 |_::r=>gI r
structure rU {α:Type} (T:World→Prop) (P:Program) (E:α→Cx→World→Ending→Prop) (f:FuncId) (n0:Nat) (d_:List (Nat×Option Ob)) (args:List AV) (eU:α→List (Nat×Option Ob)):Prop where
 enters:∀vals w,(callFunc f vals).run P w=.ok (.enter f vals) w
 calls:∀(g:eR) (κ:Kp) (w:World) (vals:Array Value),g.ro=none→g.wt=none→TB T g→Rel g (XS d_ n0) κ ND w→vals.size=args.length→
  (∀(j:Nat) (v:Value) (av:AV),vals[j]? =some v→args[j]? =some av→RA ((XS d_ n0).cx g κ) w v av)→
  Calls P f vals w fun e w'=>∃x κ',E x ((XS (eU x) n0).cx g κ') w' e∧Rel g (XS (eU x) n0) κ' ND w'∧∀i b,(AV.ptr i 0∈gI d_∨AV.gq i∈gI d_)→κ i=some b→κ' i=some b
def OA (r:AV) (C:Cx) (w:World) (e:Ending):Prop:=∃v,e=.returned v∧RA C w v r
def Xa (t:TypeId) (ch:List PanicEntry):Prop:=∃u:Value,ch=[{v:=.iface t (.agg #[u]),recovered:=false}]∧u.oneCell'=true
def Ul (t:TypeId) (_:Cx) (_:World) (e:Ending):Prop:=∃ch,e=.panicked ch∧Xa t ch
abbrev Kn (T:World→Prop) (P:Program) (f:FuncId) (n0:Nat) (d_:List (Nat×Option Ob)) (args:List AV) (eU:List (Nat×Option Ob)) (r:AV):Prop:=rU (α:=Unit) T P (fun _=>OA r) f n0 d_ args (fun _=>eU)
abbrev og (P:Program) (f:FuncId) (n0:Nat) (d_:List (Nat×Option Ob)) (args:List AV) (eU:List (Nat×Option Ob)) (r:AV):Prop:=rU (α:=Unit) (fun _=>True) P (fun _=>OA r) f n0 d_ args (fun _=>eU)
abbrev W9 (T:World→Prop) (P:Program) (t:TypeId) (f:FuncId) (n0:Nat) (d_:List (Nat×Option Ob)) (args:List AV) (eU:List (Nat×Option Ob)):Prop:=rU (α:=Unit) T P (fun _=>Ul t) f n0 d_ args (fun _=>eU)
theorem rU.sub {α:Type} {T T':World→Prop} {P:Program} {E:α→Cx→World→Ending→Prop} {f:FuncId} {n0:Nat} {d_:List (Nat×Option Ob)} {args:List AV} {eU:α→List (Nat×Option Ob)} (h:rU T P E f n0 d_ args eU) (hT:∀w,T' w→T w):rU T' P E f n0 d_ args eU:=⟨h.enters,fun g κ w vals h1 h2 h3=>h.calls g κ w vals h1 h2 (h3.sub hT)⟩
def sr (gm:List (Nat×Option Ob)):List (Nat×Option Ob)→Bool
 |[]=>true
 |(i,some (.box _))::r=>(XS gm 0).qc i && sr gm r
 |(i,some (.lit _ _))::r=>(XS gm 0).qc i && sr gm r
 |(i,some (.mp _))::r=>(XS gm 0).qc i && sr gm r
 |_::r=>sr gm r
theorem Dw {δ:DS} {i:Nat} (h:δ.qc i=true) {C:Cx} {w:World} (ho:∀i o,δ.ob i=some o→nG C w i o):∃b,C.κ i=some b:=by
 obtain⟨o,h1,h2⟩:=kU h
 have h3:=ho i o h1
 cases o with
 |row=>simp [Ob.ln] at h2
 |box cs=>obtain⟨b,_,_,h4,_⟩:=h3;exact⟨b,h4⟩
 |lit T vals=>obtain⟨b,h4,_⟩:=h3;exact⟨b,h4⟩
 |e8 e rows=>unfold DS.qc at h;rw[h1] at h;cases h
 |mp l=>obtain⟨b,_,_,h4,_⟩:=h3;exact⟨b,h4⟩
 |mpl l k v=>obtain⟨b,_,_,h4,_⟩:=h3;exact⟨b,h4⟩
 |it l seen=>obtain⟨b,h4,_⟩:=h3;exact⟨b,h4⟩
 |loop l tm ps iK body st=>obtain⟨b,_,h4,_⟩:=h3;exact⟨b,h4⟩
theorem ki {gm:List (Nat×Option Ob)} {n:Nat} (ho:∀i o,(XS gm n).ob i=some o→nG ((XS gm n).cx g κ) w i o):∀{l:List (Nat×Option Ob)},sr gm l=true→∃vs:List Value,vs.length=(gI l).length∧∀(j:Nat) (u:Value) (c:AV),vs[j]? =some u→(gI l)[j]? =some c→RA ((XS gm n).cx g κ) w u c
 |[],_=>⟨[],rfl,fun j u c h=>by simp at h⟩
 |(i,none)::r,h=>ki ho (l:=r) h
 |(i,some .row)::r,h=>ki ho (l:=r) h
 |(i,some (.mpl _ _ _))::r,h=>ki ho (l:=r) h
 |(i,some (.it _ _))::r,h=>ki ho (l:=r) h
 |(i,some (.e8 _ _))::r,h=>ki ho (l:=r) h
 |(i,some (.loop _ _ _ _ _ _))::r,h=>ki ho (l:=r) h
 |(i,some (.box cs))::r,h=>by
  simp only[sr,Bool.and_eq_true] at h
  obtain⟨vs,h1,h2⟩:=ki ho h.2
  obtain⟨b,hb⟩:=Dw (δ:=XS gm n) h.1 ho
  refine⟨.pointer (some ⟨b,0,none⟩)::vs,by simp [gI,h1],fun j u c h3 h4=>?_⟩
  cases j with
  |zero=>simp [gI] at h3 h4;subst h3;subst h4;exact .ptr (kU (δ:=XS gm n) h.1) hb
  |succ j=>exact h2 j u c (by simpa using h3) (by simpa [gI] using h4)
 |(i,some (.lit _ _))::r,h=>by
  simp only[sr,Bool.and_eq_true] at h
  obtain⟨vs,h1,h2⟩:=ki ho h.2
  obtain⟨b,hb⟩:=Dw (δ:=XS gm n) h.1 ho
  refine⟨.pointer (some ⟨b,0,none⟩)::vs,by simp [gI,h1],fun j u c h3 h4=>?_⟩
  cases j with
  |zero=>simp [gI] at h3 h4;subst h3;subst h4;exact .ptr (kU (δ:=XS gm n) h.1) hb
  |succ j=>exact h2 j u c (by simpa using h3) (by simpa [gI] using h4)
 |(i,some (.mp m))::r,h=>by
  simp only[sr,Bool.and_eq_true] at h
  obtain⟨vs,h1,h2⟩:=ki ho h.2
  obtain⟨b,hb⟩:=Dw (δ:=XS gm n) h.1 ho
  refine⟨.map (some b)::vs,by simp [gI,h1],fun j u c h3 h4=>?_⟩
  cases j with
  |zero=>simp [gI] at h3 h4;subst h3;subst h4;exact .gq (kU (δ:=XS gm n) h.1) hb
  |succ j=>exact h2 j u c (by simpa using h3) (by simpa [gI] using h4)
abbrev XF (δ:DS) (d_ eU:List (Nat×Option Ob)):DS:=⟨δ.n,[(1000,.agg (gI d_))],eU,δ.nx⟩
def kp (P:Program) (rs:List ResultVar) (d_ eU:List (Nat×Option Ob)) (r:AV):Exit→DS→Prop
 |.normal,δ|.ret,δ=>∃v,gk P δ rs v∧WV δ (XF δ d_ eU) v r∧WV δ (XF δ d_ eU) (δ.get 1000) (.agg (gI d_))∧oc δ (XF δ d_ eU) eU∧sG δ.nx eU=true
 |_,_=>False
def MH (t:TypeId) (d_ eU:List (Nat×Option Ob)):Exit→DS→Prop
 |.panic ch,δ=>Xa t ch∧WV δ (XF δ d_ eU) (δ.get 1000) (.agg (gI d_))∧oc δ (XF δ d_ eU) eU∧sG δ.nx eU=true
 |_,_=>False
theorem RA.Em {C:Cx} {w:World} {u:Value} {i off:Nat} (h:RA C w u (.ptr i off)):∃b,u=.pointer (some ⟨b,off,none⟩)∧C.κ i=some b:=by
 cases h with
 |ptr hl hκ=>exact⟨_,rfl,hκ⟩
theorem RA.AX {C:Cx} {w:World} {u:Value} {i:Nat} (h:RA C w u (.gq i)):∃b,u=.map (some b)∧C.κ i=some b:=by
 cases h with
 |gq hl hκ=>exact⟨_,rfl,hκ⟩
theorem Hj {C C':Cx} {w w':World} {vs:Array Value} {ps:List AV} (h:RA C w (.agg vs) (.agg ps)) (h':RA C' w' (.agg vs) (.agg ps)) {i b:Nat} (hp:AV.ptr i 0∈ps∨AV.gq i∈ps) (hb:C.κ i=some b):C'.κ i=some b:=by
 cases h with
 |agg hs h=>
  cases h' with
  |agg Tw h'=>
   rcases hp with hp|hp
   ·obtain⟨j,hj⟩:=List.getElem?_of_mem hp
    have fm:j<vs.size:=by rw[hs];exact(List.getElem?_eq_some_iff.1 hj).1
    have h1:=h j _ _ (Array.getElem?_eq_getElem fm) hj
    have h2:=h' j _ _ (Array.getElem?_eq_getElem fm) hj
    obtain⟨b1,e1,k1⟩:=h1.Em
    obtain⟨b2,e2,k2⟩:=h2.Em
    rw[e1] at e2
    cases e2
    rw[k1] at hb
    cases hb
    exact k2
   ·obtain⟨j,hj⟩:=List.getElem?_of_mem hp
    have fm:j<vs.size:=by rw[hs];exact(List.getElem?_eq_some_iff.1 hj).1
    have h1:=h j _ _ (Array.getElem?_eq_getElem fm) hj
    have h2:=h' j _ _ (Array.getElem?_eq_getElem fm) hj
    obtain⟨b1,e1,k1⟩:=h1.AX
    obtain⟨b2,e2,k2⟩:=h2.AX
    rw[e1] at e2
    cases e2
    rw[k1] at hb
    cases hb
    exact k2
theorem rU.enter {α:Type} {T:World→Prop} {E:α→Cx→World→Ending→Prop} {Q:Exit→DS→Prop} {f:FuncId} {fn:Func} {c:Code} {n n0:Nat} {d_:List (Nat×Option Ob)} {eU:α→List (Nat×Option Ob)} {args:List AV} (hf:P.funcs[f]? =some fn) (hb:fn.body=some c) (hn:fn.ntmps=n) (Cb:Nat.ble args.length n=true)
  (pH:Nat.ble n HS=true) (he:(fn.name== "runtime.NumGoroutine")=false) (tI:sr d_ d_=true) (uA:∀x,sG n0 (eU x)=true)
  (h:∀g:eR,g.ro=none→g.wt=none→TB T g→AW P g c Q ⟨n,enum 0 args++ [(1000,.agg (gI d_))],d_,n0⟩)
  (hQ:∀(g:eR) (e:Exit) (δ':DS) (κ':Kp) (a':Act) (w':World) (R:Ending→World→Prop),g.wt=none→g.base=[]→Q e δ'→Rel g δ' κ' a' w'→
   (∀x,WV δ' (XF δ' d_ (eU x)) (δ'.get 1000) (.agg (gI d_))→oc δ' (XF δ' d_ (eU x)) (eU x)→sG δ'.nx (eU x)=true→
    ∀en w2,Rel g δ' κ' {a' with defers:=[]} w2→E x ((XF δ' d_ (eU x)).cx g (tV δ' κ')) w2 en→R en w2)→bodyPostM Fence.wide 0 P fn R e a' w'):rU T P E f n0 d_ args eU:=by
 refine⟨fun vals w=>by simp [callFunc,hf,hb];simpa using he,fun g κ w vals Ao i_ Qi nZ hs gf=>?_⟩
 have hle:args.length≤n:=by simpa using Cb
 have KE:n≤HS:=by simpa using pH
 have hHS:HS=1000:=rfl
 obtain⟨ps,NQ,hpv⟩:=ki nZ.obj tI
 have wZ:g.base=[]:=by
  obtain⟨rs,e,_,_⟩:=nZ.dfr
  exact(List.append_eq_nil_iff.1 e.symm).2
 have X3:RA ((XS d_ n0).cx g κ) w (.agg ps.toArray) (.agg (gI d_)):=.agg (by simpa using NQ) fun j u c h1 h2=>hpv j u c (by simpa using h1) h2
 let g':eR:={g with held:=fun _=> .agg ps.toArray}
 let δ0:DS:=⟨n,enum 0 args++ [(1000,.agg (gI d_))],d_,n0⟩
 have FI:∀(l:List AV) (i j:Nat),look (enum i l++ [(1000,AV.agg (gI d_))]) j=if i≤j∧j<i+l.length then look (enum i l) j else look [(1000,AV.agg (gI d_))] j:=by
  intro l
  induction l with
  |nil=>intro i j;rw[if_neg (by simp)];rfl
  |cons x l ih=>
   intro i j
   show look ((i,x)::(enum (i+1) l++_)) j=_
   rw[fC]
   by_cases e:i=j
   ·subst e
    rw[if_pos rfl,if_pos (by simp)]
    show x=look ((i,x)::enum (i+1) l) i
    rw[fC,if_pos rfl]
   ·rw[if_neg e,ih]
    simp only[List.length_cons]
    by_cases hj:i+1≤j∧j<i+1+l.length
    ·rw[if_pos hj,if_pos aJ]
     show _=look ((i,x)::enum (i+1) l) j
     rw[fC,if_neg e]
    ·rw[if_neg hj,if_neg aJ]
 have hR:Rel g' δ0 κ {tmps:=vals++Array.replicate (fn.ntmps - vals.size) undef,defers:=[]} w:=
  {n:=by show _=n;simp [hn];omega
   dfr:=by
    obtain⟨rs,e,h1,h2⟩:=nZ.dfr
    have e0:=(List.append_eq_nil_iff.1 e.symm).1
    have e0:rs=[]:=by simpa using e0
    subst e0
    exact⟨[],by show []=_++g.base;rw[wZ];rfl,h1,h2⟩
   env:=fun j=>by
    show RA ((XS d_ n0).cx g κ) w _ (look (enum 0 args++ [(1000,AV.agg (gI d_))]) j)
    rw[FI]
    by_cases hj:j<args.length
    ·rw[if_pos aJ]
     have h1:look (enum 0 args) j=args[j]:=mH args 0 j _ (Nat.zero_le _) (by simp [hj])
     have h2:g'.val {tmps:=vals++Array.replicate (fn.ntmps - vals.size) undef,defers:=[]} j=vals[j]'(by omega):=by
      unfold eR.val
      rw[if_pos aJ]
      simp [Array.getD_eq_getD_getElem?,Array.getElem?_append,hs,hj]
     rw[h1,h2]
     exact gf j _ _ (Array.getElem?_eq_getElem aJ) (List.getElem?_eq_getElem hj)
    ·rw[if_neg aJ,fC]
     by_cases e:1000=j
     ·rw[if_pos e]
      have h2:g'.val {tmps:=vals++Array.replicate (fn.ntmps - vals.size) undef,defers:=[]} j=.agg ps.toArray:=by
       unfold eR.val
       rw[if_neg aJ]
      rw[h2];exact X3
     ·rw[if_neg e];exact .any _
   obj:=nZ.obj,inj:=nZ.inj,lo:=nZ.lo,nx:=nZ.nx,wt:=nZ.wt,below:=nZ.below,hB:=nZ.hB,N0:=nZ.N0,fr:=nZ.fr
   kc:=fun d hd=>by cases hd}
 have hw:=h g' Ao i_ Qi κ _ w hR
 rw[show g'.ro=none from Ao] at hw
 refine callsIn_wide.1 (callsIn_of_wp_marks (n:=0) hf hb trivial (wpIn_mono hw ?_))
 rintro e a' w' ⟨δ',κ',hq,r'⟩
 refine hQ g' e δ' κ' a' w' _ i_ wZ hq r' fun x hp ho hx en w2 r2 hE=>?_
 have hg:∀j,(XF δ' d_ (eU x)).get j=if 1000=j then .agg (gI d_) else .any:=fun j=>fC _ _ _ _
 have r3:Rel g' (XF δ' d_ (eU x)) (tV δ' κ') {a' with defers:=[]} w2:=MI (g:=g') (δ:=δ') (δ':=XF δ' d_ (eU x)) rfl (fun j=>by
   rw[hg]
   by_cases e:1000=j
   ·subst e;rw[if_pos rfl];exact hp
   ·rw[if_neg e];exact .any _) (fun i o h=>ho.at i o h) (fun i o h=>pS hx i o h) r2
 refine⟨x,tV δ' κ',hE,?_,fun i b Ym hb=>?_⟩
 ·exact
   {n:=rfl
    dfr:=by
     obtain⟨rs,e,h1,h2⟩:=r3.dfr
     have e0:=(List.append_eq_nil_iff.1 e.symm).1
     have e0:rs=[]:=by simpa using e0
     subst e0
     exact⟨[],by show []=_++g.base;rw[wZ];rfl,h1,h2⟩
    env:=fun j=> .any _
    obj:=r3.obj,inj:=r3.inj,lo:=r3.lo,nx:=fun i ⟨o,h⟩=>pS (uA x) i o h,wt:=fun k hk=>by rw[i_] at hk;cases hk
    below:=r3.below,hB:=r3.hB,N0:=r3.N0,fr:=r3.fr,kc:=fun d hd=>by cases hd}
 ·have h3:=r3.env 1000
  rw[hg,if_pos rfl] at h3
  have h4:g'.val {a' with defers:=[]} 1000=.agg ps.toArray:=by
   unfold eR.val
   rw[if_neg aJ]
  rw[h4] at h3
  exact Hj (C:=(XS d_ n0).cx g κ) (w:=w) X3 h3 Ym hb
theorem Kn.enter {T:World→Prop} {f:FuncId} {fn:Func} {c:Code} {rs:List ResultVar} {n n0:Nat} {d_ eU:List (Nat×Option Ob)} {args:List AV} {r:AV} (hf:P.funcs[f]? =some fn) (hb:fn.body=some c) (sI:fn.results=rs.toArray) (hn:fn.ntmps=n) (Cb:Nat.ble args.length n=true)
  (pH:Nat.ble n HS=true) (he:(fn.name== "runtime.NumGoroutine")=false) (tI:sr d_ d_=true) (uA:sG n0 eU=true)
  (h:∀g:eR,g.ro=none→g.wt=none→TB T g→AW P g c (kp P rs d_ eU r) ⟨n,enum 0 args++ [(1000,.agg (gI d_))],d_,n0⟩):Kn T P f n0 d_ args eU r:=by
 refine rU.enter (Q:=kp P rs d_ eU r) hf hb hn Cb pH he tI (fun _=>uA) h fun g e δ' κ' a' w' R i_ wZ hq r' hR=>?_
 have fin:∀v,gk P δ' rs v→WV δ' (XF δ' d_ eU) v r→WV δ' (XF δ' d_ eU) (δ'.get 1000) (.agg (gI d_))→oc δ' (XF δ' d_ eU) eU→sG δ'.nx eU=true→
   LeavesInM Fence.wide 0 P fn a'.tmps R a'.defers .returning w':=fun v h1 hv hp ho hx=>
  leaves (g:=g) i_ wZ sI h1 r' fun w2 r2 u hu=>hR () hp ho hx _ _ r2 ⟨u,rfl,hu.wv (δ:=δ') (δ':=XF δ' d_ eU) r2.lu r2.obj hv⟩
 cases e with
 |normal=>obtain⟨v,h1,h2,h3,h4,h5⟩:=hq;exact fin v h1 h2 h3 h4 h5
 |ret=>obtain⟨v,h1,h2,h3,h4,h5⟩:=hq;exact fin v h1 h2 h3 h4 h5
 |_=>exact hq.elim
theorem og.enter {f:FuncId} {fn:Func} {c:Code} {rs:List ResultVar} {n n0:Nat} {d_ eU:List (Nat×Option Ob)} {args:List AV} {r:AV} (hf:P.funcs[f]? =some fn) (hb:fn.body=some c) (sI:fn.results=rs.toArray) (hn:fn.ntmps=n) (Cb:Nat.ble args.length n=true)
  (pH:Nat.ble n HS=true) (he:(fn.name== "runtime.NumGoroutine")=false) (tI:sr d_ d_=true) (uA:sG n0 eU=true)
  (h:∀g:eR,g.ro=none→g.wt=none→AW P g c (kp P rs d_ eU r) ⟨n,enum 0 args++ [(1000,.agg (gI d_))],d_,n0⟩):og P f n0 d_ args eU r:=Kn.enter hf hb sI hn Cb pH he tI uA fun g h1 h2 _=>h g h1 h2
end Go.Ab
namespace Go.Ab
open Go Go.RowKit
variable {P:Program} {g:eR} {δ:DS} {κ:Kp} {a:Act} {w:World}
variable {ops:Array Oper} {rest:List Oper} {Q:Exit→DS→Prop} {dst:Option Nat} {ty:TypeId} {pos:String} {af:Array Edge}
theorem RA.to {C C':Cx} (hB:C'.B=C.B) (hN:∀b,C.N b→C'.N b) {lr lb:Nat→Bool} (m_:∀i,lr i=true→C'.Lr i∧C'.κ i=C.κ i) (u7:∀i,lb i=true→C'.Lb i∧C'.κ i=C.κ i) {v:Value} {av:AV} (h:RA C w v av) (hi:av.ids lr lb=true):RA C' w v av:=by
 have hp:∀{v:Value} {p:PV},RP C.N w v p→RP C'.N w v p:=fun h=>h.mono (Nat.le_refl _) fun b _ h2=>⟨hN b h2,rfl⟩
 have ho:∀{v:Value} {i e k e7},jy C w v i e k e7→lr i=true→jy C' w v i e k e7:=by
  intro v i e k e7 h hl
  obtain⟨h1,h2,h3,h4,xs,h5,h6,h7⟩:=h
  refine⟨(m_ i hl).1,h2,h3,fun b hb=>(m_ i hl).2.trans (h4 b hb),xs,?_,h6,fun i' j p l9=>let ⟨u,h8,h9⟩:=h7 i' j p l9;⟨u,h8,hp h9⟩⟩
  rw[hB];exact h5
 induction h with
 |any v=>exact .any v
 |pv h=>exact .pv (hp h)
 |own h=>exact .own (ho h hi)
 |ptr hl hκ=>exact .ptr (u7 _ hi).1 ((u7 _ hi).2.trans hκ)
 |fV b off vs GL hb hc hr=>exact .fV b off vs (hN _ GL) hb hc (fun j p h=>hp (hr j p h))
 |gJ fm h=>exact .gJ fm (ho h hi)
 |agg hs h ih=>exact .agg hs fun j u c h1 h2=>ih j u c h1 h2 (AV.lL _ hi j c h2)
 |gX hs h ih=>exact .gX hs fun j u c h1 h2=>ih j u c h1 h2 (AV.lL _ hi j c h2)
 |jk hs h ht h' ih ih'=>
  simp only[AV.ids,Bool.and_eq_true] at hi
  exact .jk hs (fun j u c h1 h2=>ih j u c h1 h2 (AV.lL _ hi.1 j c h2)) ht (fun j u c h1 h2=>ih' j u c h1 h2 (AV.lL _ hi.2 j c h2))
 |gq hl hκ=>exact .gq (u7 _ hi).1 ((u7 _ hi).2.trans hκ)
 |kO hl hκ=>exact .kO (u7 _ hi).1 ((u7 _ hi).2.trans hκ)
theorem nG.to {C C':Cx} (hB:C'.B=C.B) (hN:∀b,C.N b→C'.N b) {lr lb:Nat→Bool} (m_:∀i,lr i=true→C'.Lr i∧C'.κ i=C.κ i) (u7:∀i,lb i=true→C'.Lb i∧C'.κ i=C.κ i) {i:Nat} {o:Ob} (hκ:C'.κ i=C.κ i) (hF:∀b,C.κ.F i b→C'.κ.F i b) (h:nG C w i o) (hi:xY lr lb o=true):nG C' w i o:=by
 cases o with
 |row=>intro b hb;rw[hκ] at hb;exact h b hb
 |lit T vals=>obtain⟨b,h1,h2⟩:=h;exact⟨b,hκ.trans h1,h2⟩
 |e8 e rows=>exact⟨hκ.trans h.1,fun k=>(h.2.1 k).goes hB fun b _ h2 _=>⟨hF b h2,rfl⟩,h.2.2⟩
 |box cs=>
  obtain⟨b,c,e,h1,h2,h3,h4⟩:=h
  exact⟨b,c,e,hκ.trans h1,h2,h3,fun j u av h5 h6=>⟨(h4 j u av h5 h6).1.to hB hN m_ u7 (AV.lL _ hi j av h6),(h4 j u av h5 h6).2⟩⟩
 |mp l=>
  obtain⟨b,es,clock,h1,h2,h3,h4⟩:=h
  exact⟨b,es,clock,hκ.trans h1,h2,⟨h3.1,fun j e p h5 h6=>⟨(h3.2 j e p h5 h6).1,(h3.2 j e p h5 h6).2.to hB hN m_ u7 (List.all_eq_true.1 hi p (List.mem_of_getElem? h6))⟩⟩,h4⟩
 |mpl l k v=>
  obtain⟨b,es,clock,h1,h2,h3,h4⟩:=h
  simp only[xY,Bool.and_eq_true] at hi
  exact⟨b,es,clock,hκ.trans h1,h2,h3.last (fun u p hp h=>h.to hB hN m_ u7 (List.all_eq_true.1 hi.1 p hp)) (fun u h=>h.to hB hN m_ u7 hi.2),h4⟩
 |it l seen=>
  obtain⟨b,h1,h2⟩:=h
  exact⟨b,hκ.trans h1,h2.mono (Nat.le_refl _) (fun b _ h=>⟨hN b h,rfl⟩) rfl⟩
 |loop l tm ps iK body st=>
  obtain⟨b,lr',h1,h2⟩:=h
  exact⟨b,lr',hκ.trans h1,h2⟩
def j2:List (Nat×Option Ob)→List (Nat×Option Ob)→Bool
 |[],[]=>true
 |(i,some .row)::r,(j,some .row)::r'=>Nat.beq i j && j2 r r'
 |(i,some (.box _))::r,(j,some (.box _))::r'=>Nat.beq i j && j2 r r'
 |(i,some (.lit _ _))::r,(j,some (.box _))::r'=>Nat.beq i j && j2 r r'
 |(i,some (.mp _))::r,(j,some (.mp _))::r'=>Nat.beq i j && j2 r r'
 |(i,some (.e8 _ _))::r,(j,some (.e8 _ _))::r'=>Nat.beq i j && j2 r r'
 |_,_=>false
inductive Kind (l0 l1:List (Nat×Option Ob)) (i:Nat):Prop
 |none (h0:fb l0 i=.none) (h1:fb l1 i=.none)
 |row (h0:fb l0 i=some .row) (h1:fb l1 i=some .row)
 |box (c d:List AV) (h0:fb l0 i=some (.box c)) (h1:fb l1 i=some (.box d)) (hp:AV.ptr i 0∈gI l0)
 |lit (T:TypeId) (vals:Array Value) (d:List AV) (h0:fb l0 i=some (.lit T vals)) (h1:fb l1 i=some (.box d)) (hp:AV.ptr i 0∈gI l0)
 |mp (c d:List (Value×AV)) (h0:fb l0 i=some (.mp c)) (h1:fb l1 i=some (.mp d)) (hp:AV.gq i∈gI l0)
 |e8 (e e':TypeId) (c d:Nat→Value×List Value) (h0:fb l0 i=some (.e8 e c)) (h1:fb l1 i=some (.e8 e' d))
theorem Kind.skip {j:Nat} {o o':Option Ob} {r r':List (Nat×Option Ob)} {i:Nat} (h:Kind r r' i) (fW:¬j=i):Kind ((j,o)::r) ((j,o')::r') i:=by
 have e0:∀(o:Option Ob) (r:List (Nat×Option Ob)),fb ((j,o)::r) i=fb r i:=fun o r=>by rw[fA,if_neg fW]
 have hp:∀{c:AV},c∈gI r→c∈gI ((j,o)::r):=fun {c} h=>by
  rcases o with _|o
  ·exact h
  ·cases o<;>simp only[gI]<;>first|exact h|exact List.mem_cons_of_mem _ h
 cases h with
 |none h0 h1=>exact .none ((e0 _ _).trans h0) ((e0 _ _).trans h1)
 |row h0 h1=>exact .row ((e0 _ _).trans h0) ((e0 _ _).trans h1)
 |box c d h0 h1 h2=>exact .box c d ((e0 _ _).trans h0) ((e0 _ _).trans h1) (hp h2)
 |lit T vals d h0 h1 h2=>exact .lit T vals d ((e0 _ _).trans h0) ((e0 _ _).trans h1) (hp h2)
 |mp c d h0 h1 h2=>exact .mp c d ((e0 _ _).trans h0) ((e0 _ _).trans h1) (hp h2)
 |e8 e e' c d h0 h1=>exact .e8 e e' c d ((e0 _ _).trans h0) ((e0 _ _).trans h1)
theorem nT:∀{l0 l1:List (Nat×Option Ob)},j2 l0 l1=true→∀i,Kind l0 l1 i
 |[],[],_,i=> .none rfl rfl
 |(j,some .row)::r,(j',some .row)::r',h,i=>by
  simp only[j2,Bool.and_eq_true] at h
  obtain rfl:=Nat.eq_of_beq_eq_true h.1
  by_cases e:j=i
  ·subst e;exact .row (by rw[fA,if_pos rfl]) (by rw[fA,if_pos rfl])
  ·exact(nT h.2 i).skip e
 |(j,some (.box c))::r,(j',some (.box d))::r',h,i=>by
  simp only[j2,Bool.and_eq_true] at h
  obtain rfl:=Nat.eq_of_beq_eq_true h.1
  by_cases e:j=i
  ·subst e;exact .box c d (by rw[fA,if_pos rfl]) (by rw[fA,if_pos rfl]) (by simp [gI])
  ·exact(nT h.2 i).skip e
 |(j,some (.lit T c))::r,(j',some (.box d))::r',h,i=>by
  simp only[j2,Bool.and_eq_true] at h
  obtain rfl:=Nat.eq_of_beq_eq_true h.1
  by_cases e:j=i
  ·subst e;exact .lit T c d (by rw[fA,if_pos rfl]) (by rw[fA,if_pos rfl]) (by simp [gI])
  ·exact(nT h.2 i).skip e
 |(j,some (.mp c))::r,(j',some (.mp d))::r',h,i=>by
  simp only[j2,Bool.and_eq_true] at h
  obtain rfl:=Nat.eq_of_beq_eq_true h.1
  by_cases e:j=i
  ·subst e;exact .mp c d (by rw[fA,if_pos rfl]) (by rw[fA,if_pos rfl]) (by simp [gI])
  ·exact(nT h.2 i).skip e
 |(j,some (.e8 e c))::r,(j',some (.e8 e' d))::r',h,i=>by
  simp only[j2,Bool.and_eq_true] at h
  obtain rfl:=Nat.eq_of_beq_eq_true h.1
  by_cases e0:j=i
  ·subst e0;exact .e8 e e' c d (by rw[fA,if_pos rfl]) (by rw[fA,if_pos rfl])
  ·exact(nT h.2 i).skip e0
def iZ:List (Nat×Option Ob)→List Nat
 |[]=>[]
 |(i,some .row)::r=>i::iZ r
 |_::r=>iZ r
theorem ym:∀{l:List (Nat×Option Ob)} {i:Nat},fb l i=some .row→nQ i (iZ l)=true
 |[],i,h=>by simp [fb] at h
 |(j,o)::r,i,h=>by
  rw[fA] at h
  have hm:∀(b:Bool),(bif b then true else nQ i (iZ r))=true∨nQ i (iZ r)=false:=fun b=>by cases b<;>cases nQ i (iZ r)<;>simp
  by_cases e:j=i
  ·rw[if_pos e] at h
   subst h
   subst e
   simp only[iZ,Be,beq_self_eq_true,cond_true]
  ·rw[if_neg e] at h
   have:=ym h
   rcases o with _|o
   ·exact this
   ·cases o<;>simp only[iZ,Be]<;>first|exact this|(rw[this];cases (i==j)<;>rfl)
def pJ (rs:List Nat):AV→AV
 |.own j e k e7=>bif nQ j rs then .any else .own j e k e7
 |.gJ j e k e7 n=>bif nQ j rs then .any else .gJ j e k e7 n
 |v=>v
def AV.im (rs:List Nat):AV→AV:=AV.mp (pJ rs)
def Cx.uf (C:Cx) (rs:List Nat):Cx:={C with Lr:=fun j=>C.Lr j∧nQ j rs=false,κ:=⟨C.κ.f,fun _ _=>False⟩}
theorem RA.im {C C':Cx} {rs:List Nat} {w w':World} (G:j4 (C.uf rs) w C' w') {v:Value} {av:AV} (h:RA C w v av):RA C' w' v (av.im rs):=by
 have BC:∀{v j e k e7},jy C w v j e k e7→nQ j rs=false→jy (C.uf rs) w v j e k e7:=fun h hj=>⟨⟨h.live,hj⟩,h.lim,h.hk,h.wI,h.row⟩
 unfold AV.im
 induction h with
 |any v=>exact .any v
 |pv h=>exact .pv (G.rp h)
 | @own v j e k e7 h=>
  simp only[AV.mp,pJ]
  cases hj:nQ j rs with
  |true=>exact .any _
  |false=>exact .own (G.Gj (BC h hj))
 |ptr hl hκ=>exact .ptr (G.Lb _ hl).1 ((G.Lb _ hl).2.trans hκ)
 |fV b off vs hN hb hc hr=>exact G.ra (C:=C.uf rs) (.fV b off vs hN hb hc hr)
 | @gJ j e k e7 n b cap hn h=>
  simp only[AV.mp,pJ]
  cases hj:nQ j rs with
  |true=>exact .any _
  |false=>exact .gJ hn (G.Gj (BC h hj))
 | @agg vs cs hs h ih=>
  simp only[AV.mp,AV.jo]
  refine .agg (by simpa using hs) fun j u c h1 h2=>?_
  simp only[List.getElem?_map,Option.map_eq_some_iff] at h2
  obtain⟨c',h2,rfl⟩:=h2
  exact ih j u c' h1 h2
 | @gX vs cs hs h ih=>
  simp only[AV.mp,AV.jo]
  refine .gX (by simpa using hs) fun j u c h1 h2=>?_
  simp only[List.getElem?_map,Option.map_eq_some_iff] at h2
  obtain⟨c',h2,rfl⟩:=h2
  exact ih j u c' h1 h2
 | @jk fn vs us cs ds hs h ht h' ih ih'=>
  simp only[AV.mp,AV.jo]
  refine .jk (by simpa using hs) (fun j u c h1 h2=>?_) (by simpa using ht) (fun j u c h1 h2=>?_)
  ·simp only[List.getElem?_map,Option.map_eq_some_iff] at h2
   obtain⟨c',h2,rfl⟩:=h2
   exact ih j u c' h1 h2
  ·simp only[List.getElem?_map,Option.map_eq_some_iff] at h2
   obtain⟨c',h2,rfl⟩:=h2
   exact ih' j u c' h1 h2
 |gq hl hκ=>exact .gq (G.Lb _ hl).1 ((G.Lb _ hl).2.trans hκ)
 |kO hl hκ=>exact .kO (G.Lb _ hl).1 ((G.Lb _ hl).2.trans hκ)
theorem RA.uf {C:Cx} {rs:List Nat} {w:World} {v:Value} {av:AV} (h:RA C w v av) (hn:av.km=true):RA (C.uf rs) w v av:=by
 cases h with
 |any v=>exact .any v
 |pv h=>exact .pv h
 |own h=>simp [AV.km] at hn
 |ptr hl hκ=>exact .ptr hl hκ
 |fV b off vs hN hb hc hr=>exact .fV b off vs hN hb hc hr
 |gJ hi h=>simp [AV.km] at hn
 |agg hs h=>simp [AV.km] at hn
 |gX hs h=>simp [AV.km] at hn
 |jk hs h ht h'=>simp [AV.km] at hn
 |gq hl hκ=>exact .gq hl hκ
 |kO hl hκ=>exact .kO hl hκ
def BX (δ:DS):List (Nat×Option Ob)→Prop
 |[]=>True
 |(i,o)::r=>δ.ob i=o∧BX δ r
theorem BX.at {δ:DS}:∀{l:List (Nat×Option Ob)},BX δ l→∀i o,fb l i=some o→δ.ob i=some o
 |[],_,i,o,h=>by simp [fb] at h
 |(j,x)::r,hs,i,o,h=>by
  rw[fA] at h
  by_cases e:j=i
  ·rw[if_pos e] at h;subst e;rw[hs.1];exact h
  ·rw[if_neg e] at h;exact hs.2.at i o h
inductive SS (lr lb:Nat→Bool):AV→AV→Prop
 |any (c:AV):SS lr lb c .any
 |eq {c d:AV} (h:c=d) (hi:d.ids lr lb=true):SS lr lb c d
 |nil (k:Nat):SS lr lb (.pv (.lit (.slice none 0 0))) (.pv (.slice k []))
inductive uk (lr lb:Nat→Bool):List AV→List AV→Prop
 |nil:uk lr lb [] []
 |cons {c d:AV} {cs ds:List AV} (h:SS lr lb c d) (hs:uk lr lb cs ds):uk lr lb (c::cs) (d::ds)
theorem uk.len {lr lb:Nat→Bool} {cs ds:List AV} (h:uk lr lb cs ds):cs.length=ds.length:=by induction h with|nil=>rfl|cons h hs ih=>simp [ih]
theorem uk.at {lr lb:Nat→Bool} {cs ds:List AV} (h:uk lr lb cs ds):∀(j:Nat) (c d:AV),cs[j]? =some c→ds[j]? =some d→SS lr lb c d:=by
 induction h with
 |nil=>intro j c d h1;simp at h1
 |cons h hs ih=>
  intro j c d h1 h2
  cases j with
  |zero=>simp at h1 h2;subst h1;subst h2;exact h
  |succ j=>exact ih j c d (by simpa using h1) (by simpa using h2)
def DS.hU (δ:DS) (d_ eU:List (Nat×Option Ob)):DS:={(δ.gG (AV.im (iZ d_))) with gm:=eU++(δ.gG (AV.im (iZ d_))).gm}
theorem A3:∀{l l':List (Nat×Option Ob)} {i:Nat},(∀p∈l,p.2.isSome=true)→fb (l++l') i=match fb l i with|some o=>some o|none=>fb l' i
 |[],l',i,_=>rfl
 |(j,o)::r,l',i,h=>by
  rw[List.cons_append,fA,fA]
  by_cases e:j=i
  ·rw[if_pos e,if_pos e]
   have:=h (j,o) (by simp)
   cases o with
   |none=>simp at this
   |some o=>rfl
  ·rw[if_neg e,if_neg e];exact A3 fun p hp=>h p (by simp [hp])
theorem lC:∀{l0 l1:List (Nat×Option Ob)},j2 l0 l1=true→∀p∈l1,p.2.isSome=true
 |[],[],_,p,hp=>by simp at hp
 |(j,some .row)::r,(j',some .row)::r',h,p,hp=>by
  simp only[j2,Bool.and_eq_true] at h
  rcases List.mem_cons.1 hp with rfl|hp
  ·rfl
  ·exact lC h.2 p hp
 |(j,some (.box c))::r,(j',some (.box d))::r',h,p,hp=>by
  simp only[j2,Bool.and_eq_true] at h
  rcases List.mem_cons.1 hp with rfl|hp
  ·rfl
  ·exact lC h.2 p hp
 |(j,some (.lit T c))::r,(j',some (.box d))::r',h,p,hp=>by
  simp only[j2,Bool.and_eq_true] at h
  rcases List.mem_cons.1 hp with rfl|hp
  ·rfl
  ·exact lC h.2 p hp
 |(j,some (.mp c))::r,(j',some (.mp d))::r',h,p,hp=>by
  simp only[j2,Bool.and_eq_true] at h
  rcases List.mem_cons.1 hp with rfl|hp
  ·rfl
  ·exact lC h.2 p hp
 |(j,some (.e8 e c))::r,(j',some (.e8 e' d))::r',h,p,hp=>by
  simp only[j2,Bool.and_eq_true] at h
  rcases List.mem_cons.1 hp with rfl|hp
  ·rfl
  ·exact lC h.2 p hp
theorem FD (rs:List Nat):AV.im rs .any=.any:=rfl
end Go.Ab
/- Callees that rewrite a row of numbers in place:Go's slices.Sort,slices.Compact. -/
namespace Go.Ab
open Go Go.RowKit
variable {P:Program} {g:eR} {δ:DS} {κ:Kp} {a:Act} {w:World}
def nI (z:Int):List PV:=[.lit (.int .i64 z)]
structure KM (P:Program) (f:FuncId) (out:List Int→List Int) (ret:Option (List Int→Nat)):Prop where
 enters:∀vals w,(callFunc f vals).run P w=.ok (.enter f vals) w
 len:∀zs,(out zs).length=zs.length
 retle:∀r,ret=some r→∀zs,r zs≤zs.length
 calls:∀(b cap:Nat) (zs:List Int) (w:World),Sort.Holds (Value.int .i64) w b 0 zs.toArray→b<w.heap.size→zs.length≤140737488355328→zs.length≤cap→
  Calls P f #[.slice (some ⟨b,0,none⟩) zs.length cap] w fun e w'=>e=.returned (match ret with|none=> .tuple #[]|some r=> .slice (some ⟨b,0,none⟩) (r zs) cap)∧
   ∃n os,w'=Sort.grow (Sort.putRow (Value.int .i64) (Sort.ahead w n) b 0 (out zs).toArray) os
 nil:∀w,Calls P f #[.slice none 0 0] w fun e w'=>e=.returned (match ret with|none=> .tuple #[]|some _=> .slice none 0 0)∧Below w.heap.size w w'
theorem B7 {w:World} {b n:Nat} {c:Array Value} {e:TypeId} {d:Array Int} {os:Array Obj} (h:w.heap[b]? =some (.cells c e (0,0))):
  (Sort.grow (Sort.putRow (Value.int .i64) (Sort.ahead w n) b 0 d) os).heap[b]? =some (.cells (Sort.putCells (Value.int .i64) 0 d c) e (0,0)):=by
 have hb:b<w.heap.size:=(Array.getElem?_eq_some_iff.1 h).1
 unfold Sort.grow Sort.putRow Sort.mapBlock Sort.ahead
 simp only
 rw[Array.getElem?_append_left (by simpa using hb),Array.getElem?_modify,if_pos rfl,h]
 rfl
theorem zR {w:World} {b n k:Nat} {d:Array Int} {os:Array Obj} (hk:k<w.heap.size) (fW:b≠k):
  (Sort.grow (Sort.putRow (Value.int .i64) (Sort.ahead w n) b 0 d) os).heap[k]? =w.heap[k]?:=by
 unfold Sort.grow Sort.putRow Sort.mapBlock Sort.ahead
 simp only
 rw[Array.getElem?_append_left (by simpa using hk),Array.getElem?_modify,if_neg fW]
theorem zY (w:World) (b n:Nat) (d:Array Int) (os:Array Obj):ir w (Sort.grow (Sort.putRow (Value.int .i64) (Sort.ahead w n) b 0 d) os) (some b):=
 ⟨rfl,rfl,rfl,by simp [Sort.grow,Sort.putRow,Sort.mapBlock,Sort.ahead],fun k hk fW=>zR hk (fun e=>fW (by rw[e]))⟩
theorem xq {c:Array Value} {d:List Int} (hc:d.length≤c.size):(Sort.putCells (Value.int .i64) 0 d.toArray c).toList.take d.length=d.map (Value.int .i64):=by
 apply List.ext_getElem
 ·simp [Sort.putCells];omega
 ·intro j h1 h2
  have hj:j<d.length:=by simpa using h2
  simp [Sort.putCells,hj]
theorem KP {w:World} {N:Nat→Prop} {xs:List Value} {zs:List Int} (hl:xs.length=zs.length*1) (hx:∀i' j p,cellAt (zs.map nI) i' j=some p→∃u,xs[i'*1+j]? =some u∧RP N w u p):xs=zs.map (Value.int .i64):=by
 apply List.ext_getElem
 ·simp [hl]
 ·intro j h1 h2
  have hj:j<zs.length:=by simpa using h2
  obtain⟨u,hu,hr⟩:=hx j 0 (.lit (.int .i64 zs[j])) (by simp [cellAt,hj,nI])
  cases hr
  rw[Nat.mul_one,Nat.add_zero,List.getElem?_eq_getElem h1] at hu
  simpa using hu
def jD (δ:DS) (v:AV):List Nat→DS
 |[]=>δ
 |t::ts=>(jD δ v ts).put t v
theorem Bl (δ:DS) (v:AV) (ts:List Nat):(jD δ v ts).n=δ.n:=by induction ts with|nil=>rfl|cons t ts ih=>exact ih
def yw (δ:DS) (v:AV):List Nat→Prop
 |[]=>True
 |t::ts=>δ.get t=v∧yw δ v ts
theorem Nr (δ:DS) (t:Nat) (v:AV):(δ.put t v).cx g κ=δ.cx g κ:=rfl
theorem mD (δ:DS) (v:AV):∀ts,(jD δ v ts).cx g κ=δ.cx g κ
 |[]=>rfl
 |t::ts=>by show((jD δ v ts).put t v).cx g κ=_;rw[Nr,mD δ v ts]
theorem Rel.rI (r:Rel g δ κ a w) {t:Nat} {v:AV} (h:RA (δ.cx g κ) w (g.val a t) v):Rel g (δ.put t v) κ a w where
 n:=r.n
 dfr:=r.dfr
 env:=fun j=>by
  rw[EI]
  by_cases e:t=j
  ·subst e;rw[if_pos rfl];exact h
  ·rw[if_neg e];exact r.env j
 obj:=r.obj
 inj:=r.inj
 lo:=r.lo
 nx:=r.nx
 wt:=r.wt
 below:=r.below
 hB:=r.hB
 N0:=r.N0
 fr:=r.fr
 kc:=r.kc
theorem Rel.pC (r:Rel g δ κ a w) {v:AV}:∀ts:List Nat,(∀t∈ts,RA (δ.cx g κ) w (g.val a t) v)→Rel g (jD δ v ts) κ a w
 |[],_=>r
 |t::ts,h=>(Rel.pC r ts fun t ht=>h t (by simp [ht])).rI (by rw[mD];exact h t (by simp))
theorem qf {δ:DS} {v:AV}:∀{ts:List Nat},yw δ v ts→∀t∈ts,δ.get t=v
 |[],_,t,h=>by simp at h
 |x::ts,h,t,ht=>by
  rcases List.mem_cons.1 ht with rfl|ht
  ·exact h.1
  ·exact qf h.2 t ht
variable {ops:Array Oper} {rest:List Oper} {Q:Exit→DS→Prop} {dst:Option Nat} {ty:TypeId} {pos:String} {af:Array Edge} {gd:Option (Tmp×Bool)}
def zw (i:Nat) (e:TypeId) (zs os:List Int):Option (List Int→Nat)→AV
 |none=> .gX []
 |some r=> .own i e 1 ((os.take (r zs)).map nI)
theorem jy.jI {C:Cx} {w:World} {v:Value} {i:Nat} {e:TypeId} {zs:List Int} (h:jy C w v i e 1 (zs.map nI)):
  (v=.slice none 0 0∧zs=[])∨∃b cap c,v=.slice (some ⟨b,0,none⟩) zs.length cap∧C.κ i=some b∧C.B≤b∧w.heap[b]? =some (.cells c e (0,0))∧zs.length≤cap∧cap≤maxLen∧c.size=cap∧c.toList.take zs.length=zs.map (Value.int .i64):=by
 obtain⟨xs,⟨hl,gF⟩,_,hx⟩:=h.row
 rw[List.length_map] at hl gF
 have J6:=KP hl hx
 rcases gF with ⟨rfl,h0⟩|⟨b,cap,c,rfl,h1,h2,h3,h4,h5,h6⟩
 ·exact .inl ⟨rfl,List.eq_nil_of_length_eq_zero h0⟩
 ·refine .inr ⟨b,cap,c,rfl,h.wI b rfl,h1,h2,h3,h4,by omega,?_⟩
  rw[← J6,← h6,Nat.mul_one]
theorem jy.Dr {C:Cx} {w:World} {i b cap:Nat} {e:TypeId} {zs:List Int} {c:Array Value} (hl:C.Lr i) (hκ:C.κ i=some b) (hB:C.B≤b) (h2:w.heap[b]? =some (.cells c e (0,0))) (h3:zs.length≤cap) (h4:cap≤maxLen) (h5:c.size=cap)
  (h6:c.toList.take zs.length=zs.map (Value.int .i64)) (mb:zs.length≤140737488355328):jy C w (.slice (some ⟨b,0,none⟩) zs.length cap) i e 1 (zs.map nI):=by
 refine⟨hl,by simpa using mb,fun c hc=>?_,fun b' ja=>?_,zs.map (Value.int .i64),⟨by simp,.inr ⟨b,cap,c,by simp,hB,h2,by simpa using h3,h4,by omega,by simpa using h6⟩⟩,fun u hu=>?_,fun i' j p hp=>?_⟩
 ·obtain⟨z,_,rfl⟩:=List.mem_map.1 hc;rfl
 ·cases ja;exact hκ
 ·obtain⟨z,_,rfl⟩:=List.mem_map.1 hu;rfl
 ·unfold cellAt at hp
  rw[List.getElem?_map] at hp
  cases hz:zs[i']? with
  |none=>rw[hz] at hp;simp at hp
  |some z=>
   rw[hz] at hp
   cases j with
   |zero=>
    simp [nI] at hp
    subst hp
    exact⟨.int .i64 z,by rw[Nat.mul_one,Nat.add_zero,List.getElem?_map,hz];rfl,.lit _⟩
   |succ j=>simp [nI] at hp
theorem iO.Ij {f:FuncId} {x:Operand} {tys:Array TypeId} {out:List Int→List Int} {ret:Option (List Int→Nat)} (hf:KM P f out ret) (ts:List Nat) {i:Nat} {e:TypeId} {zs:List Int} (hx:δ.ev x=.own i e 1 (zs.map nI)) (sZ:yw δ (.own i e 1 (zs.map nI)) ts) (hr:δ.ob i=some .row)
  (ho:ff x=true) (hd:fO δ.n dst=true):
  iO P g ⟨dst,.call {callee:=.value (.func f),args:= #[x],argTypes:=tys},ty,pos,af,none⟩ δ ((jD (δ.gG (AV.kill i)) (.own i e 1 ((out zs).map nI)) ts).eS dst (zw i e zs (out zs) ret)):=by
 intro κ a w r
 right
 have xo:=(r.ra hx ho).iW
 have fu:=iB (dst:=dst) (ty:=ty) (pos:=pos) (af:=af) (xs:= #[x]) (tys:=tys) (ρ:=a.eval) (x:=.func f) (f:=f) rfl hf.enters w
 have mb:zs.length≤140737488355328:=by simpa using xo.lim
 refine⟨f, #[a.eval x],by simpa using fu,?_⟩
 have qR:∀ts,fO (jD (δ.gG (AV.kill i)) (.own i e 1 ((out zs).map nI)) ts).n dst=true:=fun ts=>by rw[Bl];exact hd
 have m_:∀κ',((δ.gG (AV.kill i)).cx g κ').Lr i:=fun κ'=>by
  show(δ.gG (AV.kill i)).ob i=some .row
  rw[j_,hr];rfl
 have mU:∀t∈ts,jy (δ.cx g κ) w (g.val a t) i e 1 (zs.map nI):=fun t ht=>by
  have:=r.env t
  rw[qf sZ t ht] at this
  exact this.iW
 have FJ:∀{w':World},jy ((δ.gG (AV.kill i)).cx g κ) w' (.slice none 0 0) i e 1 (([]:List Int).map nI):=fun {w'}=>
  ⟨m_ κ,(by simp),(fun c hc=>by simp at hc),(fun b hb=>by cases hb),⟨[],⟨by simp,.inl ⟨rfl,rfl⟩⟩,(fun u hu=>by simp at hu),(fun i' j p hp=>by simp [cellAt] at hp)⟩⟩
 rcases xo.jI with ⟨hv,rfl⟩|⟨b,cap,c,hv,hκ,hB,hb,mM,nk,pk,rL⟩
 ·
  rw[hv]
  refine(hf.nil w).mono fun e' w' ⟨he,Pg⟩=>?_
  have r1:=r.ext Pg
  have e0:out []=[]:=List.eq_nil_of_length_eq_zero (by rw[hf.len];rfl)
  have rk:Rel g (δ.gG (AV.kill i)) κ a w':=by
   refine(r1.row hr (κ':=κ) (fun _ _=>rfl) ⟨rfl,rfl,rfl,Nat.le_refl _,fun _ _ _=>rfl⟩ (fun b ja=>?_) (AV.kill i) rfl (fun G v av h=>h.kill G)).1
   obtain⟨c,e',h1⟩:=r1.obj i .row hr b ja
   exact⟨.inl ja,(Array.getElem?_eq_some_iff.1 h1).1,c,e',h1⟩
  have ra:Rel g (jD (δ.gG (AV.kill i)) (.own i e 1 ((out []).map nI)) ts) κ a w':=by
   refine rk.pC ts fun t ht=> .own ?_
   have h1:=r1.env t
   rw[qf sZ t ht] at h1
   rw[e0]
   rcases h1.iW.jI with ⟨h2,_⟩|⟨b,cap,c,h2,hκ,hB,hb,mM,nk,pk,rL⟩
   ·rw[h2];exact FJ
   ·rw[h2];exact jy.Dr (m_ κ) hκ hB hb mM nk pk rL (by simp)
  refine⟨_,κ,he,ra.eS (fi (qR ts)) ?_⟩
  cases ret with
  |none=>exact .gX rfl (fun j u c h=>by simp at h)
  |some rr=>
   show RA _ _ _ (.own i e 1 (((out []).take (rr [])).map nI))
   rw[e0,mD]
   exact .own (by simpa using FJ)
 ·rw[hv]
  have ZF:κ i=some b:=hκ
  have Qq:b<w.heap.size:=(Array.getElem?_eq_some_iff.1 hb).1
  have hold:Sort.Holds (Value.int .i64) w b 0 zs.toArray:=by
   intro j hj
   have ng:j<zs.length:=by simpa using hj
   refine⟨?_,by rw[Nat.zero_add];exact nS hb _⟩
   rw[Nat.zero_add,cell_of hb]
   have h1:(c.toList.take zs.length)[j]? =(zs.map (Value.int .i64))[j]?:=by rw[rL]
   rw[List.getElem?_take,if_pos ng,Array.getElem?_toList,List.getElem?_map,List.getElem?_eq_getElem ng] at h1
   rw[h1]
   simp [ng]
  refine(hf.calls b cap zs w hold Qq mb mM).mono fun e' w' ⟨he,n,os,iP⟩=>?_
  have hh:w'.heap[b]? =some (.cells (Sort.putCells (Value.int .i64) 0 (out zs).toArray c) e (0,0)):=by rw[iP];exact B7 hb
  have mZ:(Sort.putCells (Value.int .i64) 0 (out zs).toArray c).size=c.size:=by simp [Sort.putCells]
  have H_:=xq (c:=c) (d:=out zs) (by rw[hf.len];omega)
  have rk:Rel g (δ.gG (AV.kill i)) κ a w':=by
   refine(r.row hr (κ':=κ) (fun _ _=>rfl) (by rw[ZF,iP];exact zY _ _ _ _ _) (fun b' ja=>?_) (AV.kill i) rfl (fun G v av h=>h.kill G)).1
   obtain rfl:b=b':=Option.some.inj (hκ.symm.trans ja)
   exact⟨.inl hκ,(Array.getElem?_eq_some_iff.1 hh).1,_,_,hh⟩
  have ra:Rel g (jD (δ.gG (AV.kill i)) (.own i e 1 ((out zs).map nI)) ts) κ a w':=by
   refine rk.pC ts fun t ht=> .own ?_
   rcases(mU t ht).jI with ⟨h2,h0⟩|⟨b',cap',c',h2,Da,X2,ja,R4,Hk,Wx,UG⟩
   ·have e0:out zs=[]:=List.eq_nil_of_length_eq_zero (by rw[hf.len,h0];rfl)
    rw[h2,e0];exact FJ
   ·obtain rfl:b=b':=Option.some.inj (hκ.symm.trans Da)
    rw[hb] at ja
    simp only[Option.some.injEq,Obj.cells.injEq] at ja
    obtain⟨rfl,_⟩:=ja
    rw[h2,← hf.len zs]
    exact jy.Dr (m_ κ) hκ hB hh (by rw[hf.len];exact R4) Hk aJ H_ (by rw[hf.len];exact mb)
  refine⟨_,κ,he,ra.eS (fi (qR ts)) ?_⟩
  rw[mD]
  cases ret with
  |none=>exact .gX rfl (fun j u c h=>by simp at h)
  |some rr=>
   have hle:=hf.retle rr rfl zs
   have GI:((out zs).take (rr zs)).length=rr zs:=by rw[List.length_take,hf.len];omega
   show RA _ _ (.slice (some ⟨b,0,none⟩) (rr zs) cap) (.own i e 1 (((out zs).take (rr zs)).map nI))
   refine .own ?_
   have:=jy.Dr (C:=(δ.gG (AV.kill i)).cx g κ) (w:=w') (i:=i) (b:=b) (cap:=cap) (e:=e) (zs:=(out zs).take (rr zs)) (m_ κ) hκ hB hh aJ nk (by omega)
    (by rw[GI,List.map_take,← H_,List.take_take,hf.len,Nat.min_eq_left aJ]) (by omega)
   rwa [GI] at this
theorem a_.Ij {f:FuncId} {x:Operand} {tys:Array TypeId} {out:List Int→List Int} {ret:Option (List Int→Nat)} (hf:KM P f out ret) (ts:List Nat) {i:Nat} {e:TypeId} {zs:List Int} (hx:δ.ev x=.own i e 1 (zs.map nI)) (sZ:yw δ (.own i e 1 (zs.map nI)) ts) (hr:δ.ob i=some .row)
  (ho:ff x=true) (hd:fO δ.n dst=true) (hK:a_ .plain P g ops rest Q ((jD (δ.gG (AV.kill i)) (.own i e 1 ((out zs).map nI)) ts).eS dst (zw i e zs (out zs) ret))):
  a_ .plain P g ops (⟨dst,.call {callee:=.value (.func f),args:= #[x],argTypes:=tys},ty,pos,af,none⟩::rest) Q δ:=
 a_.r_ rfl rfl (iO.Ij hf ts hx sZ hr ho hd) hK
theorem enters_of {f:FuncId} {fn:Func} {c:Code} (hf:P.funcs[f]? =some fn) (hb:fn.body=some c) (he:(fn.name== "runtime.NumGoroutine")=false):∀vals w,(callFunc f vals).run P w=.ok (.enter f vals) w:=fun vals w=>by
 simp [callFunc,hf,hb];simpa using he
end Go.Ab
/- A call by a contract over objects. -/
namespace Go.Ab
open Go Go.RowKit
variable {P:Program} {g:eR} {δ:DS} {κ:Kp} {a:Act} {w:World}
variable {ops:Array Oper} {rest:List Oper} {Q:Exit→DS→Prop} {dst:Option Nat} {ty:TypeId} {pos:String} {af:Array Edge}
def GW:List (Nat×AV)→List (Nat×AV)
 |[]=>[]
 |(i,v)::r=>bif Nat.ble HS i then (i,v)::GW r else GW r
abbrev DS.hi (δ:DS):DS:=⟨δ.n,GW δ.env,δ.gm,δ.nx⟩
theorem Az:∀(e:List (Nat×AV)) (j:Nat),look (GW e) j=if j<HS then .any else look e j
 |[],j=>by simp [GW,look]
 |(i,v)::r,j=>by
  have ih:=Az r j
  rw[fC]
  unfold GW
  cases hb:Nat.ble HS i with
  |true=>
   have ja:HS≤i:=by simpa using hb
   rw[cond_true,fC,ih]
   by_cases e:i=j
   ·subst e;rw[if_pos rfl,if_pos rfl,if_neg aJ]
   ·rw[if_neg e,if_neg e]
  |false=>
   have ja:¬HS≤i:=by
    intro h
    have h':Nat.ble HS i=true:=by simpa using h
    rw[hb] at h'
    cases h'
   rw[cond_false,ih]
   by_cases e:i=j
   ·subst e;rw[if_pos aJ,if_pos aJ]
   ·rw[if_neg e]
theorem Rel.hi (r:Rel g δ κ a w):Rel g δ.hi κ a w:=
 {n:=r.n,dfr:=r.dfr
  env:=fun j=>by
   have:=r.env j
   show RA (δ.cx g κ) w _ (look (GW δ.env) j)
   rw[Az]
   by_cases h:j<HS
   ·rw[if_pos h];exact .any _
   ·rw[if_neg h];exact this
  obj:=r.obj,inj:=r.inj,lo:=r.lo,nx:=r.nx,wt:=r.wt,below:=r.below,hB:=r.hB,N0:=r.N0,fr:=r.fr,kc:=r.kc}
theorem KG {e:Exit} (h:Q e δ.hi) (r:Rel g δ κ a w):lift g Q e a w:=⟨δ.hi,κ,h,r.hi⟩
namespace Nf
theorem hi (n:Nat) (e:List (Nat×AV)) (o:List (Nat×Option Ob)) (x:Nat):DS.hi ⟨n,e,o,x⟩=⟨n,GW e,o,x⟩:=rfl
theorem ju:GW []=[]:=rfl
theorem Vw (i:Nat) (v:AV) (r:List (Nat×AV)):GW ((i,v)::r)=bif Nat.ble 1000 i then (i,v)::GW r else GW r:=rfl
end Nf
def mj (lr lb:Nat→Bool):List (Nat×Option Ob)→Prop
 |[]=>True
 |(_,none)::r=>mj lr lb r
 |(_,some o)::r=>xY lr lb o=true∧mj lr lb r
theorem mj.at {lr lb:Nat→Bool}:∀{l:List (Nat×Option Ob)},mj lr lb l→∀i o,fb l i=some o→xY lr lb o=true
 |[],_,i,o,h=>by simp [fb] at h
 |(j,none)::r,hs,i,o,h=>by
  rw[fA] at h
  by_cases e:j=i
  ·rw[if_pos e] at h;cases h
  ·rw[if_neg e] at h;exact mj.at (l:=r) hs i o h
 |(j,some x)::r,hs,i,o,h=>by
  rw[fA] at h
  by_cases e:j=i
  ·rw[if_pos e] at h;cases h;exact hs.1
  ·rw[if_neg e] at h;exact mj.at (l:=r) hs.2 i o h
theorem s_ {lr lb:Nat→Bool} {l:List Int}:xY lr lb (.mp (jL (lZ l)))=true:=by
 unfold xY
 rw[List.all_eq_true]
 intro p hp
 unfold jL lZ at hp
 obtain⟨q,hq,rfl⟩:=List.mem_map.1 hp
 obtain⟨x,_,rfl⟩:=List.mem_map.1 hq
 rfl
open Classical in
noncomputable def κX (d_:List (Nat×Option Ob)) (κ κ':Kp):Kp:=⟨fun i=>if (fb d_ i).isSome=true then κ' i else κ i,fun i b=>if (fb d_ i).isSome=true then κ'.F i b else κ.F i b⟩
theorem E7 {d_ eU:List (Nat×Option Ob)} (hk:j2 d_ eU=true) (i:Nat):(δ.hU d_ eU).ob i=match fb eU i with|some o=>some o|none=>(δ.ob i).map (Ob.wo (AV.im (iZ d_))):=by
 show fb (eU++(δ.gG (AV.im (iZ d_))).gm) i=_
 rw[A3 (lC hk)]
 cases h:fb eU i with
 |some o=>rfl
 |none=>exact j_ _ _ _
theorem wF {α:Type} {T:World→Prop} {E:α→Cx→World→Ending→Prop} {y:Operand} {f:FuncId} {xs:List Operand} {tys:Array TypeId} {first cap args:List AV} {n0:Nat} {d_:List (Nat×Option Ob)} {oW:α→List (Nat×Option Ob)} (i_:g.wt=none) (Qi:TB T g) (hf:rU T P E f n0 d_ args oW) (hy:δ.ev y=.jk (.func f) first cap) (kv:ff y=true) (rX:xs.all ff=true)
  (kg:BX δ d_) (gf:uk (XS d_ n0).qu (XS d_ n0).qc (first++xs.map δ.ev++cap) args) (Y5:∀x,j2 d_ (oW x)=true) (Bc:sG n0 d_=true) (sf:mj (XS d_ n0).qu (XS d_ n0).qc d_)
  (OY:∀x,mj (XS (oW x) n0).qu (XS (oW x) n0).qc (oW x))
  (UJ:∀(x:α) (κ:Kp) (a:Act) (w':World) (C:Cx) (v:Value),Rel g (δ.hU d_ (oW x)) κ a w'→E x C w' (.returned v)→(∀r,RA C w' v r→r.ids (XS (oW x) n0).qu (XS (oW x) n0).qc=true→RA ((δ.hU d_ (oW x)).cx g κ) w' v r)→wpListIn (Fw g.ro) 0 P ops (lift g Q) rest (a.put dst v) w')
  (T2:∀(x:α) (C:Cx) (w':World) (ch:List PanicEntry),E x C w' (.panicked ch)→Q (.panic ch) (δ.hU d_ (oW x)).hi∨Q (.panic ch) (δ.hU d_ (oW x))) (kY:∀(x:α) (C:Cx) (w':World),¬E x C w' .outgrown):
  a_ .plain P g ops (⟨dst,.call {callee:=.value y,args:=xs.toArray,argTypes:=tys},ty,pos,af,none⟩::rest) Q δ:=by
 intro κ a w r0
 have sJ:=r0.ra hy kv
 generalize hv:a.eval y=v at sJ
 cases sJ with
 | @jk _ vs us _ _ hs Ly ht Ko=>
  obtain⟨ms,EK,pP,J5⟩:=r0.dfr
  have l_:∀i,(XS d_ n0).live i→δ.live i:=fun i ⟨o,h⟩=>⟨o,kg.at i o h⟩
  let g':eR:={B:=g.B,w0:=w,N0:=fun b=>(δ.cx g κ).N b∨(∃i,(XS d_ n0).live i∧(κ i=some b∨κ.F i b))∨w.heap.size≤b,held:=fun _=>undef,ro:=none,mks:=ms++g.mks,wt:=none,fr:=fun b=>b<w.heap.size∧∀i,(XS d_ n0).live i→κ i≠some b∧¬κ.F i b,w1:=w}
  let κc:Kp:=⟨κ.f,fun i b=>(fb d_ i).isSome=true∧κ.F i b⟩
  have R_:∀b,(δ.cx g κ).N b→((XS d_ n0).cx g' κc).N b:=fun b h=>⟨⟨.inl h,fun⟨i,hi⟩=>h.1.2 ⟨i,hi.2⟩⟩,fun i hi=>h.2 i (l_ i hi)⟩
  have Rw:∀i,(XS d_ n0).qu i=true→((XS d_ n0).cx g' κc).Lr i∧((XS d_ n0).cx g' κc).κ i=(δ.cx g κ).κ i:=fun i h=>⟨nR (δ:=XS d_ n0) h,rfl⟩
  have Rm:∀i,(XS d_ n0).qc i=true→((XS d_ n0).cx g' κc).Lb i∧((XS d_ n0).cx g' κc).κ i=(δ.cx g κ).κ i:=fun i h=>⟨kU (δ:=XS d_ n0) h,rfl⟩
  have nZ:Rel g' (XS d_ n0) κc ND w:=
   {n:=rfl,dfr:=⟨[],rfl,pP,J5⟩,env:=fun j=> .any _
    obj:=fun i o h=>nG.to (C:=δ.cx g κ) (C':=(XS d_ n0).cx g' κc) rfl R_ Rw Rm rfl (fun b hb=>⟨by rw[show fb d_ i=some o from h];rfl,hb⟩) (r0.obj i o (kg.at i o h)) (sf.at i o h)
    inj:=fun i j b h1 h2=>r0.inj i j b (l_ i h1) (l_ j h2)
    lo:=fun i b h1=>r0.lo i b (l_ i h1)
    nx:=fun i ⟨o,h⟩=>pS Bc i o h
    wt:=fun k hk=>by cases hk
    below:=Below.refl _ _,hB:=r0.hB
    N0:=fun b hb hf=>by
     by_cases h1:w.heap.size≤b
     ·exact .inr (.inr h1)
     ·by_cases h2:∃i,(XS d_ n0).live i∧(κ i=some b∨κ.F i b)
      ·exact .inr (.inl h2)
      ·exact absurd ⟨by omega,fun i hi=>⟨fun e=>h2 ⟨i,hi,.inl e⟩,fun e=>h2 ⟨i,hi,.inr e⟩⟩⟩ hf
    fr:=⟨fun b hb=>⟨hb.1,rfl,fun i hi=>(hb.2 i hi).1⟩,fun i b hb=>by
     obtain⟨h1,h2,h3,h4,h5⟩:=r0.fr.2 i b hb.2
     exact⟨⟨h1.1,fun k hk=>by cases hk⟩,h2,fun hf=>(hf.2 i (Option.isSome_iff_exists.1 hb.1)).2 hb.2,fun j hj=>h4 j (l_ j hj),fun j hj=>h5 j hj.2⟩⟩
    kc:=fun d hd=>by cases hd}
  have hl:=gf.len
  simp only[List.length_append,List.length_map] at hl
  have SD:∀(j:Nat) (v:Value) (av:AV),(vs++xs.toArray.map a.eval++us)[j]? =some v→args[j]? =some av→RA ((XS d_ n0).cx g' κc) w v av:=by
   intro j v av h1 h2
   have Fv:j<(first++xs.map δ.ev++cap).length:=by rw[gf.len];exact(List.getElem?_eq_some_iff.1 h2).1
   have h3:=List.getElem?_eq_getElem Fv
   have hle:=gf.at j _ av h3 h2
   generalize (first++xs.map δ.ev++cap)[j]=c at h3 hle
   have hc:RA (δ.cx g κ) w v c:=by
    by_cases hj:j<first.length+xs.length
    ·rw[List.getElem?_append_left (by simp;omega)] at h3
     rw[Array.getElem?_append_left (by simp;omega)] at h1
     by_cases N3:j<first.length
     ·rw[List.getElem?_append_left N3] at h3
      rw[Array.getElem?_append_left aJ] at h1
      exact Ly j v c h1 h3
     ·rw[List.getElem?_append_right aJ] at h3
      rw[Array.getElem?_append_right aJ,hs] at h1
      simp only[List.map_toArray,List.getElem?_toArray,List.getElem?_map,Option.map_eq_some_iff] at h1 h3
      obtain⟨y,h5,rfl⟩:=h1
      obtain⟨y',h4,rfl⟩:=h3
      rw[h5] at h4;cases h4
      exact r0.CB y (iD ((List.all_eq_true.1 rX) y (List.mem_of_getElem? h5)))
    ·rw[List.getElem?_append_right (by simp;omega)] at h3
     rw[Array.getElem?_append_right (by simp;omega)] at h1
     have e1:(vs++xs.toArray.map a.eval).size=(first++xs.map δ.ev).length:=by simp;omega
     rw[e1] at h1
     exact Ko _ v c h1 h3
   cases hle with
   |any=>exact .any _
   |eq e hi=>subst e;exact RA.to (C:=δ.cx g κ) (C':=(XS d_ n0).cx g' κc) rfl R_ Rw Rm hc hi
   |nil k=>rw[hc.lit];exact .pv (sN k)
  show wpListIn _ _ P ops _ (_::rest) a w
  refine gw rfl rfl fun K nb=>?_
  unfold Oper.wW
  rw[sO hv hf.enters,Oper.uponIn_enter]
  refine⟨fun h=>by simp at h,(ia (hf.calls g' κc w _ rfl rfl (fun w' hb=>Qi w' (r0.below.trans hb)) nZ (by simp;omega) SD)).mono ?_⟩
  rintro e w' ⟨xA,κ',hE,r1,tI⟩
  have hk:=Y5 xA
  have oO:=OY xA
  have UJ:=UJ xA
  have T2:=T2 xA
  have kY:=kY xA
  generalize VI:oW xA=eU at*
  obtain⟨F,hF⟩:∃F,F=AV.im (iZ d_):=⟨_,rfl⟩
  have iQ:=fun i=>E7 (δ:=δ) hk i
  have A9:=nT hk
  have mZ:w.heap.size≤w'.heap.size:=r1.below.size
  have AP:∀b,b<w.heap.size→(∀i,(XS d_ n0).live i→κ i≠some b∧¬κ.F i b)→w'.heap[b]? =w.heap[b]?∧∀i,(XS eU n0).live i→κ' i≠some b:=fun b h1 h2=>(r1.fr.1 b ⟨h1,h2⟩).2
  have Xu:∀b,b<w.heap.size→(∀i,(XS d_ n0).live i→κ i≠some b∧¬κ.F i b)→∀i,¬κ'.F i b:=fun b h1 h2 i hi=>(r1.fr.2 i b hi).2.2.1 ⟨h1,h2⟩
  -- in and out
  have iJ:∀i,(fb d_ i).isSome=true→(XS d_ n0).live i∧(XS eU n0).live i∧κX d_ κ κ' i=κ' i:=fun i h=>by
   refine⟨Option.isSome_iff_exists.1 h,?_,if_pos h⟩
   cases A9 i with
   |none h0 _=>rw[h0] at h;cases h
   |row _ h1=>exact⟨_,h1⟩
   |box c d _ h1 _=>exact⟨_,h1⟩
   |lit T c d _ h1 _=>exact⟨_,h1⟩
   |mp c d _ h1 _=>exact⟨_,h1⟩
   |e8 _ _ c d _ h1=>exact⟨_,h1⟩
  have lG:∀i,¬(fb d_ i).isSome=true→fb eU i=.none∧κX d_ κ κ' i=κ i:=fun i h=>by
   refine⟨?_,if_neg h⟩
   cases A9 i with
   |none _ h1=>exact h1
   |row h0 _=>rw[h0] at h;exact absurd rfl h
   |box c d h0 _ _=>rw[h0] at h;exact absurd rfl h
   |lit T c d h0 _ _=>rw[h0] at h;exact absurd rfl h
   |mp c d h0 _ _=>rw[h0] at h;exact absurd rfl h
   |e8 _ _ c d h0 _=>rw[h0] at h;exact absurd rfl h
  have LX:∀i,(fb d_ i).isSome=true→(δ.hU d_ eU).ob i=fb eU i:=fun i h=>by
   obtain⟨_,⟨o,h1⟩,_⟩:=iJ i h
   rw[iQ i]
   have h1:fb eU i=some o:=h1
   rw[h1]
  have K9:∀i,¬(fb d_ i).isSome=true→(δ.hU d_ eU).ob i=(δ.ob i).map (Ob.wo F):=fun i h=>by rw[iQ i,(lG i h).1,hF]
  have OV:∀i,(fb d_ i).isSome=true→δ.live i:=fun i h=>l_ i (iJ i h).1
  have mW:∀i,¬(fb d_ i).isSome=true→(δ.hU d_ eU).live i→δ.live i:=fun i h ⟨o,ho⟩=>by
   rw[K9 i h] at ho
   obtain⟨o',h1,_⟩:=Option.map_eq_some_iff.1 ho
   exact⟨o',h1⟩
  have jl:∀i,¬(fb d_ i).isSome=true→∀j,(XS d_ n0).live j→j≠i:=fun i h j ⟨o,ho⟩ e=>by
   subst e
   have ho:fb d_ j=some o:=ho
   rw[ho] at h
   exact h rfl
  have hold:∀i b,¬(fb d_ i).isSome=true→δ.live i→κ i=some b→b<w.heap.size∧∀j,(XS d_ n0).live j→κ j≠some b∧¬κ.F j b:=fun i b h hl hb=>
   ⟨(r0.lo i b hl hb).2,fun j hj=>⟨fun e=>jl i h j hj (r0.inj j i b (l_ j hj) hl e hb),fun e=>r0.fr.mP hl hb ⟨j,e⟩⟩⟩
  have V4:∀b,(δ.cx g κ).N b→∀j,(XS d_ n0).live j→κ j≠some b∧¬κ.F j b:=fun b h j hj=>⟨h.2 j (l_ j hj),fun e=>h.1.2 ⟨j,e⟩⟩
  -- a pool's blocks behind the call
  have QT:∀i b,(κX d_ κ κ').F i b→((fb d_ i).isSome=true∧κ'.F i b)∨(¬(fb d_ i).isSome=true∧κ.F i b):=fun i b h=>by
   have h:(if (fb d_ i).isSome=true then κ'.F i b else κ.F i b):=h
   by_cases hi:(fb d_ i).isSome=true
   ·rw[if_pos hi] at h;exact .inl ⟨hi,h⟩
   ·rw[if_neg hi] at h;exact .inr ⟨hi,h⟩
  have J4:∀i b,¬(fb d_ i).isSome=true→κ.F i b→b<w.heap.size∧∀j,(XS d_ n0).live j→κ j≠some b∧¬κ.F j b:=fun i b hi hF=>
   ⟨(r0.fr.2 i b hF).2.1,fun j hj=>⟨(r0.fr.2 i b hF).2.2.2.1 j (l_ j hj),fun e=>jl i hi j hj ((r0.fr.2 i b hF).2.2.2.2 j e)⟩⟩
  have Zo:∀b,b<w.heap.size→(δ.cx g κ).N b→((δ.hU d_ eU).cx g (κX d_ κ κ')).N b:=fun b h1 h2=>by
   refine⟨⟨h2.1.1,fun⟨i,hi⟩=>?_⟩,fun i hi e=>?_⟩
   ·rcases QT i b hi with h|h
    ·exact Xu b h1 (V4 b h2) i h.2
    ·exact h2.1.2 ⟨i,h.2⟩
   by_cases h:(fb d_ i).isSome=true
   ·rw[(iJ i h).2.2] at e
    exact(AP b h1 (V4 b h2)).2 i (iJ i h).2.1 e
   ·rw[(lG i h).2] at e
    exact h2.2 i (mW i h hi) e
  have oY:∀i b,(AV.ptr i 0∈gI d_∨AV.gq i∈gI d_)→κ i=some b→κX d_ κ κ' i=κ i:=fun i b hp hb=>by
   by_cases h:(fb d_ i).isSome=true
   ·rw[(iJ i h).2.2,tI i b hp hb,hb]
   ·exact(lG i h).2
  have G:j4 ((δ.cx g κ).uf (iZ d_)) w ((δ.hU d_ eU).cx g (κX d_ κ κ')) w':=
   {B:=rfl,size:=mZ
    N:=fun b h1 h2=>⟨Zo b h1 h2,(AP b h1 (V4 b h2)).1⟩
    Lr:=fun i hi=>by
     have hl:δ.ob i=some .row:=hi.1
     have h:¬(fb d_ i).isSome=true:=fun h=>by
      obtain⟨⟨o,ho⟩,_,_⟩:=iJ i h
      have h1:=kg.at i o ho
      rw[hl] at h1
      cases h1
      have:=ym (l:=d_) ho
      rw[hi.2] at this
      cases this
     refine⟨?_,(lG i h).2,fun b hb=>?_⟩
     ·show(δ.hU d_ eU).ob i=_
      rw[K9 i h,hl];rfl
     ·obtain⟨h1,h2⟩:=hold i b h ⟨_,hl⟩ hb
      exact(AP b h1 h2).1
    Lb:=fun i hi=>by
     obtain⟨o,h1,h2⟩:=hi
     by_cases h:(fb d_ i).isSome=true
     ·have h3:=LX i h
      cases A9 i with
      |none h0 _=>rw[h0] at h;cases h
      |row h0 _=>
       have:=kg.at i _ h0
       rw[h1] at this
       cases this
       simp [Ob.ln] at h2
      |box c d h0 h4 hp=>
       obtain⟨b,_,_,h5,_⟩:=r0.obj i _ (kg.at i _ h0)
       exact⟨⟨_,h3.trans h4,rfl⟩,oY i b (.inl hp) h5⟩
      |lit T c d h0 h4 hp=>
       obtain⟨b,h5,_⟩:=r0.obj i _ (kg.at i _ h0)
       exact⟨⟨_,h3.trans h4,rfl⟩,oY i b (.inl hp) h5⟩
      |mp c d h0 h4 hp=>
       obtain⟨b,_,_,h5,_⟩:=r0.obj i _ (kg.at i _ h0)
       exact⟨⟨_,h3.trans h4,rfl⟩,oY i b (.inr hp) h5⟩
      |e8 e e' c d h0 h4=>
       have h5:=(r0.obj i _ (kg.at i _ h0)).1
       have h6:=(r1.obj i _ h4).1
       exact⟨⟨_,h3.trans h4,rfl⟩,(iJ i h).2.2.trans (h6.trans h5.symm)⟩
     ·refine⟨⟨_,by rw[K9 i h,h1];rfl,?_⟩,(lG i h).2⟩
      cases o<;>first|rfl|(simp [Ob.ln] at h2)}
  have HF:∀{u:Value} {av:AV},RA (δ.cx g κ) w u av→RA ((δ.hU d_ eU).cx g (κX d_ κ κ')) w' u (F av):=fun h=>by rw[hF];exact h.im G
  have XH:∀b,((XS eU n0).cx g' κ').N b→((δ.hU d_ eU).cx g (κX d_ κ κ')).N b:=fun b h=>by
   obtain⟨h1,h2⟩:=h
   have ED:∀i,(δ.hU d_ eU).live i→κX d_ κ κ' i=some b→¬(fb d_ i).isSome=true∧δ.live i∧κ i=some b:=fun i hi e=>by
    by_cases h:(fb d_ i).isSome=true
    ·rw[(iJ i h).2.2] at e
     exact absurd e (h2 i (iJ i h).2.1)
    ·rw[(lG i h).2] at e
     exact⟨h,mW i h hi,e⟩
   have Tn:∀i,(κX d_ κ κ').F i b→¬(fb d_ i).isSome=true∧κ.F i b:=fun i hi=>by
    rcases QT i b hi with h|h
    ·exact absurd ⟨i,h.2⟩ h1.2
    ·exact h
   rcases h1.1 with h1|⟨j,hj,C6⟩|h1
   ·exact⟨⟨h1.1.1,fun⟨i,hi⟩=>h1.1.2 ⟨i,(Tn i hi).2⟩⟩,fun i hi e=>let ⟨_,h3,h4⟩:=ED i hi e;h1.2 i h3 h4⟩
   ·have hN0:g.N0 b:=by
     rcases C6 with C6|C6
     ·exact(r0.EC (l_ j hj) C6).1
     ·obtain⟨k1,k2,k3,_⟩:=r0.fr.2 j b C6;exact r0.N0 b k1.1 k3
    refine⟨⟨hN0,fun⟨i,hi⟩=>?_⟩,fun i hi e=>?_⟩
    ·obtain⟨h3,h4⟩:=Tn i hi
     rcases C6 with C6|C6
     ·exact(J4 i b h3 h4).2 j hj|>.1 C6
     ·exact(J4 i b h3 h4).2 j hj|>.2 C6
    ·obtain⟨h3,h4,h5⟩:=ED i hi e
     have:=(hold i b h3 h4 h5).2 j hj
     rcases C6 with C6|C6
     ·exact this.1 C6
     ·exact this.2 C6
   ·refine⟨⟨(r0.A2 h1).1,fun⟨i,hi⟩=>?_⟩,fun i hi e=>?_⟩
    ·have:=(J4 i b (Tn i hi).1 (Tn i hi).2).1
     omega
    ·obtain⟨_,h4,h5⟩:=ED i hi e
     have:=(r0.lo i b h4 h5).2
     omega
  have Su:∀i,(XS eU n0).qu i=true→((δ.hU d_ eU).cx g (κX d_ κ κ')).Lr i∧((δ.hU d_ eU).cx g (κX d_ κ κ')).κ i=((XS eU n0).cx g' κ').κ i:=fun i h=>by
   have h1:fb eU i=some .row:=nR (δ:=XS eU n0) h
   have h2:(fb d_ i).isSome=true:=by
    cases A9 i with
    |none _ h0=>rw[h0] at h1;cases h1
    |row h0 _=>rw[h0];rfl
    |box c d h0 _ _=>rw[h0];rfl
    |lit T c d h0 _ _=>rw[h0];rfl
    |mp c d h0 _ _=>rw[h0];rfl
    |e8 _ _ c d h0 _=>rw[h0];rfl
   exact⟨(LX i h2).trans h1,(iJ i h2).2.2⟩
  have S4:∀i,(XS eU n0).qc i=true→((δ.hU d_ eU).cx g (κX d_ κ κ')).Lb i∧((δ.hU d_ eU).cx g (κX d_ κ κ')).κ i=((XS eU n0).cx g' κ').κ i:=fun i h=>by
   obtain⟨o,h1,h3⟩:=kU (δ:=XS eU n0) h
   have h1:fb eU i=some o:=h1
   have h2:(fb d_ i).isSome=true:=by
    cases A9 i with
    |none _ h0=>rw[h0] at h1;cases h1
    |row h0 _=>rw[h0];rfl
    |box c d h0 _ _=>rw[h0];rfl
    |lit T c d h0 _ _=>rw[h0];rfl
    |mp c d h0 _ _=>rw[h0];rfl
    |e8 _ _ c d h0 _=>rw[h0];rfl
   exact⟨⟨o,(LX i h2).trans h1,h3⟩,(iJ i h2).2.2⟩
  have hR:Rel g (δ.hU d_ eU) (κX d_ κ κ') a w':=
   {n:=r0.n
    dfr:=by
     obtain⟨rs,_,_,k3⟩:=r1.dfr
     exact⟨ms,EK,pP,fun k hk=>k3 k (List.mem_append.2 (.inr hk))⟩
    env:=fun j=>by
     have:(δ.hU d_ eU).get j=F (δ.get j):=by rw[hF];exact pL _ (FD _) δ j
     rw[this];exact HF (r0.env j)
    obj:=fun i o h=>by
     by_cases hi:(fb d_ i).isSome=true
     ·rw[LX i hi] at h
      exact nG.to (C:=(XS eU n0).cx g' κ') (C':=(δ.hU d_ eU).cx g (κX d_ κ κ')) rfl XH Su S4 (iJ i hi).2.2 (fun b hb=>(by show(if (fb d_ i).isSome=true then κ'.F i b else κ.F i b);rw[if_pos hi];exact hb)) (r1.obj i o h) (oO.at i o h)
     ·rw[K9 i hi] at h
      obtain⟨o',fZ,rfl⟩:=Option.map_eq_some_iff.1 h
      have h0:=r0.obj i o' fZ
      have Cq:=(lG i hi).2
      have xK:∀b,κ i=some b→w'.heap[b]? =w.heap[b]?:=fun b hb=>let ⟨h1,h2⟩:=hold i b hi ⟨_,fZ⟩ hb;(AP b h1 h2).1
      cases o' with
      |row=>
       intro b hb
       have ja:κ i=some b:=by rw[← Cq];exact hb
       obtain⟨c,e,h1⟩:=h0 b ja
       exact⟨c,e,(xK b ja).trans h1⟩
      |lit T vals=>obtain⟨b,h1,h2⟩:=h0;exact⟨b,Cq.trans h1,(xK b h1).trans h2⟩
      |e8 e rows=>exact⟨Cq.trans h0.1,fun k=>(h0.2.1 k).goes rfl fun b _ h2 _=>⟨(by show(if (fb d_ i).isSome=true then κ'.F i b else κ.F i b);rw[if_neg hi];exact h2),(AP b (J4 i b hi h2).1 (J4 i b hi h2).2).1⟩,h0.2.2⟩
      |box cs=>
       obtain⟨b,c,e,h1,h2,h3,h4⟩:=h0
       refine⟨b,c,e,Cq.trans h1,(xK b h1).trans h2,by simpa using h3,fun k u av h5 h6=>?_⟩
       simp only[List.getElem?_map,Option.map_eq_some_iff] at h6
       obtain⟨av',h6,rfl⟩:=h6
       exact⟨HF (h4 k u av' h5 h6).1,(h4 k u av' h5 h6).2⟩
      |mp l=>
       obtain⟨b,es,clock,h1,h2,h3,h4⟩:=h0
       exact⟨b,es,clock,Cq.trans h1,(xK b h1).trans h2,⟨h3.1,fun k e p h5 h6=>⟨(h3.2 k e p h5 h6).1,G.ra ((h3.2 k e p h5 h6).2.uf (h4.2 p (List.mem_of_getElem? h6)))⟩⟩,h4⟩
      |mpl l kk v=>
       obtain⟨b,es,clock,h1,h2,h3,h4⟩:=h0
       exact⟨b,es,clock,Cq.trans h1,(xK b h1).trans h2,h3.last (fun u p hp h=>G.ra (h.uf (h4.2 p hp))) (fun u h=>HF h),h4⟩
      |it l seen=>
       obtain⟨b,h1,h2⟩:=h0
       exact⟨b,Cq.trans h1,h2.mono G.size G.N (xK b h1)⟩
      |loop l tm ps iK body st=>
       obtain⟨b,lr,h1,h2,h3⟩:=h0
       exact⟨b,lr,Cq.trans h1,(xK b h1).trans h2,h3⟩
    inj:=fun i j b h1 h2 h3 h4=>by
     by_cases hi:(fb d_ i).isSome=true
     ·rw[(iJ i hi).2.2] at h3
      by_cases hj:(fb d_ j).isSome=true
      ·rw[(iJ j hj).2.2] at h4
       exact r1.inj i j b (iJ i hi).2.1 (iJ j hj).2.1 h3 h4
      ·rw[(lG j hj).2] at h4
       obtain⟨k1,k2⟩:=hold j b hj (mW j hj h2) h4
       exact absurd h3 ((AP b k1 k2).2 i (iJ i hi).2.1)
     ·rw[(lG i hi).2] at h3
      by_cases hj:(fb d_ j).isSome=true
      ·rw[(iJ j hj).2.2] at h4
       obtain⟨k1,k2⟩:=hold i b hi (mW i hi h1) h3
       exact absurd h4 ((AP b k1 k2).2 j (iJ j hj).2.1)
      ·rw[(lG j hj).2] at h4
       exact r0.inj i j b (mW i hi h1) (mW j hj h2) h3 h4
    lo:=fun i b h1 h2=>by
     by_cases hi:(fb d_ i).isSome=true
     ·rw[(iJ i hi).2.2] at h2
      exact r1.lo i b (iJ i hi).2.1 h2
     ·rw[(lG i hi).2] at h2
      have:=r0.lo i b (mW i hi h1) h2
      exact⟨this.1,Nat.lt_of_lt_of_le this.2 mZ⟩
    nx:=fun i h=>by
     by_cases hi:(fb d_ i).isSome=true
     ·exact r0.nx i (OV i hi)
     ·exact r0.nx i (mW i hi h)
    wt:=fun k hk=>by rw[i_] at hk;cases hk
    below:=r0.below.trans r1.below
    hB:=r1.hB
    N0:=r0.N0
    fr:=by
     refine⟨fun b hb=>?_,fun i b hb=>?_⟩
     ·obtain⟨h1,h2,h3⟩:=r0.fr.1 b hb
      have fm:=r0.fr.Au hb
      have h4:=AP b fm fun i hi=>⟨h3 i (l_ i hi),fun e=>(r0.fr.2 i b e).2.2.1 hb⟩
      refine⟨h1,h4.1.trans h2,fun i hi e=>?_⟩
      by_cases Ol:(fb d_ i).isSome=true
      ·rw[(iJ i Ol).2.2] at e
       exact h4.2 i (iJ i Ol).2.1 e
      ·rw[(lG i Ol).2] at e
       exact h3 i (mW i Ol hi) e
     ·rcases QT i b hb with ⟨hi,hF⟩|⟨hi,hF⟩
      ·obtain⟨k1,k2,k3,k4,k5⟩:=r1.fr.2 i b hF
       refine⟨⟨k1.1,fun k hk=>by rw[i_] at hk;cases hk⟩,k2,fun hf=>?_,fun j hj e=>?_,fun j hj=>?_⟩
       ·exact k3 ⟨r0.fr.Au hf,fun j hj=>⟨(r0.fr.1 b hf).2.2 j (l_ j hj),fun e=>(r0.fr.2 j b e).2.2.1 hf⟩⟩
       ·by_cases GV:(fb d_ j).isSome=true
        ·rw[(iJ j GV).2.2] at e
         exact k4 j (iJ j GV).2.1 e
        ·rw[(lG j GV).2] at e
         exact k3 (hold j b GV (mW j GV hj) e)
       ·rcases QT j b hj with ⟨_,hj⟩|⟨GV,hj⟩
        ·exact k5 j hj
        ·exact absurd (J4 j b GV hj) k3
      ·obtain⟨k1,k2,k3,k4,k5⟩:=r0.fr.2 i b hF
       refine⟨k1,Nat.lt_of_lt_of_le k2 mZ,k3,fun j hj e=>?_,fun j hj=>?_⟩
       ·by_cases GV:(fb d_ j).isSome=true
        ·rw[(iJ j GV).2.2] at e
         exact(AP b (J4 i b hi hF).1 (J4 i b hi hF).2).2 j (iJ j GV).2.1 e
        ·rw[(lG j GV).2] at e
         exact k4 j (mW j GV hj) e
       ·rcases QT j b hj with ⟨_,hj⟩|⟨_,hj⟩
        ·exact absurd hj (Xu b (J4 i b hi hF).1 (J4 i b hi hF).2 j)
        ·exact k5 j hj
    kc:=r0.kc}
  cases e with
  |returned v=>exact nb _ _ (UJ _ _ _ _ v hR hE fun r hvr hr=>RA.to (C:=(XS eU n0).cx g' κ') (C':=(δ.hU d_ eU).cx g (κX d_ κ κ')) rfl XH Su S4 hvr hr)
  |panicked ch=>
           rcases T2 _ _ ch hE with h|h;·exact KG h hR
           ·exact⟨_,_,h,hR⟩
  |outgrown=>exact absurd hE (kY _ _)
theorem a_.N6 {T:World→Prop} {y:Operand} {f:FuncId} {xs:List Operand} {tys:Array TypeId} {first cap args:List AV} {r:AV} {n0:Nat} {d_ eU:List (Nat×Option Ob)} (i_:g.wt=none) (Qi:TB T g) (hf:Kn T P f n0 d_ args eU r) (hy:δ.ev y=.jk (.func f) first cap) (kv:ff y=true) (rX:xs.all ff=true)
  (kg:BX δ d_) (gf:uk (XS d_ n0).qu (XS d_ n0).qc (first++xs.map δ.ev++cap) args) (hk:j2 d_ eU=true) (Bc:sG n0 d_=true) (sf:mj (XS d_ n0).qu (XS d_ n0).qc d_)
  (oO:mj (XS eU n0).qu (XS eU n0).qc eU) (hr:r.ids (XS eU n0).qu (XS eU n0).qc=true) (hd:fO δ.n dst=true)
  (hK:a_ .plain P g ops rest Q ((δ.hU d_ eU).eS dst r)):
  a_ .plain P g ops (⟨dst,.call {callee:=.value y,args:=xs.toArray,argTypes:=tys},ty,pos,af,none⟩::rest) Q δ:=
 wF i_ Qi hf hy kv rX kg gf (fun _=>hk) Bc sf (fun _=>oO) (fun _ κ a w' C v hR hE sJ=>by
  obtain⟨u,he,hu⟩:=hE
  cases he
  exact hK _ _ _ (hR.eS (fi hd) (sJ r hu hr))) (fun _ C w' ch hE=>by obtain⟨u,he,_⟩:=hE;cases he) (fun _ C w' hE=>by obtain⟨u,he,_⟩:=hE;cases he)
theorem a_.QR {y:Operand} {f:FuncId} {xs:List Operand} {tys:Array TypeId} {first cap args:List AV} {r:AV} {n0:Nat} {d_ eU:List (Nat×Option Ob)} (i_:g.wt=none) (hf:og P f n0 d_ args eU r) (hy:δ.ev y=.jk (.func f) first cap) (kv:ff y=true) (rX:xs.all ff=true)
  (kg:BX δ d_) (gf:uk (XS d_ n0).qu (XS d_ n0).qc (first++xs.map δ.ev++cap) args) (hk:j2 d_ eU=true) (Bc:sG n0 d_=true) (sf:mj (XS d_ n0).qu (XS d_ n0).qc d_)
  (oO:mj (XS eU n0).qu (XS eU n0).qc eU) (hr:r.ids (XS eU n0).qu (XS eU n0).qc=true) (hd:fO δ.n dst=true)
  (hK:a_ .plain P g ops rest Q ((δ.hU d_ eU).eS dst r)):
  a_ .plain P g ops (⟨dst,.call {callee:=.value y,args:=xs.toArray,argTypes:=tys},ty,pos,af,none⟩::rest) Q δ:=a_.N6 i_ (fun _ _=>trivial) hf hy kv rX kg gf hk Bc sf oO hr hd hK
end Go.Ab
namespace Go.Ab
open Go Go.RowKit
variable {P:Program} {g:eR} {δ:DS}
theorem iT {rs:List ResultVar} {d_ eU:List (Nat×Option Ob)} {r v:AV} (h:gk P δ rs v) (hw:Dk δ (XF δ d_ eU) [v,δ.get 1000] [r,.agg (gI d_)]) (ho:oc δ (XF δ d_ eU) eU) (hx:sG δ.nx eU=true):kp P rs d_ eU r .ret δ:=⟨v,h,hw.1,hw.2.1,ho,hx⟩
theorem n7 {rs:List ResultVar} {d_ eU:List (Nat×Option Ob)} {r v:AV} (h:gk P δ rs v) (hw:Dk δ (XF δ d_ eU) [v,δ.get 1000] [r,.agg (gI d_)]) (ho:oc δ (XF δ d_ eU) eU) (hx:sG δ.nx eU=true):kp P rs d_ eU r .normal δ:=⟨v,h,hw.1,hw.2.1,ho,hx⟩
namespace Nf
variable {n x i:Nat} {e:List (Nat×AV)} {o l0 l1 l:List (Nat×Option Ob)} {rs:List Nat}
def PU (rs:List Nat):List (Nat×AV)→List (Nat×AV)
 |[]=>[]
 |(i,v)::r=>(i,v.im rs)::PU rs r
def vx (rs:List Nat):List (Nat×Option Ob)→List (Nat×Option Ob)
 |[]=>[]
 |(i,o)::r=>(i,o.map (Ob.wo (AV.im rs)))::vx rs r
def I6 (rs:List Nat):List AV→List AV
 |[]=>[]
 |v::r=>v.im rs::I6 rs r
theorem I7:∀e:List (Nat×AV),e.map (fun p=>(p.1,p.2.im rs))=PU rs e
 |[]=>rfl
 |(i,v)::r=>by rw[List.map_cons,I7 r];rfl
theorem Jz:∀o:List (Nat×Option Ob),o.map (fun p=>(p.1,p.2.map (Ob.wo (AV.im rs))))=vx rs o
 |[]=>rfl
 |(i,v)::r=>by rw[List.map_cons,Jz r];rfl
theorem vJ:∀l:List AV,AV.Cp (pJ rs) l=I6 rs l
 |[]=>rfl
 |v::r=>by rw[AV.Cp,vJ r];rfl
theorem KQ (l:List AV):l.map (AV.im rs)=I6 rs l:=by
 induction l with
 |nil=>rfl
 |cons v r ih=>rw[List.map_cons,ih];rfl
theorem af:DS.hU ⟨n,e,o,x⟩ l0 l1=⟨n,PU (iZ l0) e,l1++vx (iZ l0) o,x⟩:=by
 show(⟨n,e.map (fun p=>(p.1,p.2.im (iZ l0))),l1++o.map (fun p=>(p.1,p.2.map (Ob.wo (AV.im (iZ l0))))),x⟩:DS)=_
 rw[I7,Jz]
theorem X5:PU rs []=[]:=rfl
theorem XY (i:Nat) (v:AV) (r:List (Nat×AV)):PU rs ((i,v)::r)=(i,v.im rs)::PU rs r:=rfl
theorem XN:vx rs []=[]:=rfl
theorem Xc (i:Nat) (r:List (Nat×Option Ob)):vx rs ((i,none)::r)=(i,none)::vx rs r:=rfl
theorem xor (i:Nat) (r:List (Nat×Option Ob)):vx rs ((i,some .row)::r)=(i,some .row)::vx rs r:=rfl
theorem Xh (i:Nat) (cs:List AV) (r:List (Nat×Option Ob)):vx rs ((i,some (.box cs))::r)=(i,some (.box (I6 rs cs)))::vx rs r:=by
 show(i,some (Ob.box (cs.map (AV.im rs))))::vx rs r=_
 rw[KQ]
theorem Yt (i:Nat) (T:TypeId) (vs:Array Value) (r:List (Nat×Option Ob)):vx rs ((i,some (.lit T vs))::r)=(i,some (.lit T vs))::vx rs r:=rfl
theorem X0 (i:Nat) (l:List (Value×AV)) (r:List (Nat×Option Ob)):vx rs ((i,some (.mp l))::r)=(i,some (.mp l))::vx rs r:=rfl
theorem WI (i:Nat) (l:List (Value×PV)) (s:List Nat) (r:List (Nat×Option Ob)):vx rs ((i,some (.it l s))::r)=(i,some (.it l s))::vx rs r:=rfl
theorem XD (i:Nat) (l:List (Value×AV)) (k:Value) (v:AV) (r:List (Nat×Option Ob)):vx rs ((i,some (.mpl l k v))::r)=(i,some (.mpl l k (v.im rs)))::vx rs r:=rfl
theorem YL (i:Nat) (e:TypeId) (p:Nat→Value×List Value) (r:List (Nat×Option Ob)):vx rs ((i,some (.e8 e p))::r)=(i,some (.e8 e p))::vx rs r:=rfl
theorem XB (i m:Nat) (tm:Array Value) (ps:Array Tmp) (a b:Code) (st:uL) (r:List (Nat×Option Ob)):vx rs ((i,some (.loop m tm ps a b st))::r)=(i,some (.loop m tm ps a b st))::vx rs r:=rfl
theorem XR:I6 rs []=[]:=rfl
theorem Xg (v:AV) (r:List AV):I6 rs (v::r)=v.im rs::I6 rs r:=rfl
theorem HZ:AV.im rs .any=.any:=rfl
theorem MG (p:PV):AV.im rs (.pv p)=.pv p:=rfl
theorem HR (j k:Nat):AV.im rs (.ptr j k)=.ptr j k:=rfl
theorem EO (c:List PV):AV.im rs (.fV c)=.fV c:=rfl
theorem EA (j:Nat):AV.im rs (.gq j)=.gq j:=rfl
theorem Hg (j:Nat):AV.im rs (.kO j)=.kO j:=rfl
theorem Ic (j:Nat) (t:TypeId) (k:Nat) (e7:List (List PV)):AV.im rs (.own j t k e7)=bif nQ j rs then .any else .own j t k e7:=rfl
theorem EZ (j:Nat) (t:TypeId) (k:Nat) (e7:List (List PV)) (m:Nat):AV.im rs (.gJ j t k e7 m)=bif nQ j rs then .any else .gJ j t k e7 m:=rfl
theorem Im (cs:List AV):AV.im rs (.agg cs)=.agg (I6 rs cs):=by show AV.agg (AV.Cp (pJ rs) cs)=_;rw[vJ]
theorem HB (cs:List AV):AV.im rs (.gX cs)=.gX (I6 rs cs):=by show AV.gX (AV.Cp (pJ rs) cs)=_;rw[vJ]
theorem Jt (fn:Go.Fn) (cs ds:List AV):AV.im rs (.jk fn cs ds)=.jk fn (I6 rs cs) (I6 rs ds):=by show AV.jk fn (AV.Cp (pJ rs) cs) (AV.Cp (pJ rs) ds)=_;rw[vJ,vJ]
theorem X6:iZ []=[]:=rfl
theorem XV (i:Nat) (r:List (Nat×Option Ob)):iZ ((i,some .row)::r)=i::iZ r:=rfl
theorem XQ (i:Nat) (c:List AV) (r:List (Nat×Option Ob)):iZ ((i,some (.box c))::r)=iZ r:=rfl
theorem rwt (i:Nat) (T:TypeId) (vs:Array Value) (r:List (Nat×Option Ob)):iZ ((i,some (.lit T vs))::r)=iZ r:=rfl
theorem rwP (i:Nat) (e:TypeId) (p:Nat→Value×List Value) (r:List (Nat×Option Ob)):iZ ((i,some (.e8 e p))::r)=iZ r:=rfl
theorem WL (i:Nat) (c:List (Value×AV)) (r:List (Nat×Option Ob)):iZ ((i,some (.mp c))::r)=iZ r:=rfl
theorem YO:gI []=[]:=rfl
theorem ZO (i:Nat) (r:List (Nat×Option Ob)):gI ((i,some .row)::r)=gI r:=rfl
theorem pib (i:Nat) (c:List AV) (r:List (Nat×Option Ob)):gI ((i,some (.box c))::r)=.ptr i 0::gI r:=rfl
theorem pit (i:Nat) (T:TypeId) (vs:Array Value) (r:List (Nat×Option Ob)):gI ((i,some (.lit T vs))::r)=.ptr i 0::gI r:=rfl
theorem ZN (i:Nat) (e:TypeId) (p:Nat→Value×List Value) (r:List (Nat×Option Ob)):gI ((i,some (.e8 e p))::r)=gI r:=rfl
theorem Zz (i:Nat) (c:List (Value×AV)) (r:List (Nat×Option Ob)):gI ((i,some (.mp c))::r)=.gq i::gI r:=rfl
theorem cn {α:Type} (a:α) (r s:List α):(a::r)++s=a::(r++s):=rfl
theorem nn {α:Type} (s:List α):[]++s=s:=rfl
end Nf
end Go.Ab
/- Short names of the rules that a walk takes most often;what is plain is filled in. -/
namespace Go.Ab
open Go Go.RowKit
variable {P:Program} {g:eR} {δ:DS} {q:Md} {ops:Array Oper} {rest:List Oper} {Q:Exit→DS→Prop} {dst:Option Nat} {ty:TypeId} {pos:String} {af:Array Edge}
theorem nz {A:DS→Prop} {δ δ':DS} (h:A δ') (e:δ=δ':=by conv=>lhs;simp only[Nf.all,Nat.reduceBEq,Nat.reduceAdd,Nat.reduceSub]):A δ:=e▸h
theorem zm {x:Operand} {p:PV} (hK:a_ q P g ops rest Q (δ.eS dst (.pv p))) (hx:δ.ev x=.pv p:=by exact rfl) (ho:ff x=true:=by exact rfl) (hd:fO δ.n dst=true:=by exact rfl):a_ q P g ops (⟨dst,.move x,ty,pos,af,none⟩::rest) Q δ:=a_.iu hx ho hd hK
theorem za {x:Operand} {p:PV} (hK:a_ q P g ops rest Q (δ.eS dst (.pv p))) (hx:δ.ev x=.pv p:=by exact rfl) (ho:ff x=true:=by exact rfl) (hd:fO δ.n dst=true:=by exact rfl):a_ q P g ops (⟨dst,.assign x,ty,pos,af,none⟩::rest) Q δ:=a_.FG hx ho hd hK
theorem zl {op:Op} {gj d:Nat} {want b:Bool} {o':Oper} (hy:a_ q P g ops (⟨dst,op,ty,pos,af,none⟩::rest) Q δ) (ho:ops[gj]? =some o':=by exact rfl) (hd:o'.dst=some d:=by exact rfl) (u_:Nat.blt d HS=true:=by exact rfl) (vu:Nat.blt d δ.n=true:=by exact rfl) (hb:δ.get d=fh b:=by exact rfl) (x7:b=want:=by exact rfl) (vL:fO δ.n dst=true:=by exact rfl):
  a_ q P g ops (⟨dst,op,ty,pos,af,some (gj,want)⟩::rest) Q δ:=a_.A4 ho hd u_ vu hb x7 vL hy
theorem zy {op:Op} {gj d:Nat} {o':Oper} {p:Prop} {_:Decidable p} (hy:a_ q P g ops (⟨dst,op,ty,pos,af,none⟩::rest) Q δ) (ho:ops[gj]? =some o':=by exact rfl) (hd:o'.dst=some d:=by exact rfl) (u_:Nat.blt d HS=true:=by exact rfl) (vu:Nat.blt d δ.n=true:=by exact rfl) (hb:δ.get d=fh (decide p):=by exact rfl) (vL:fO δ.n dst=true:=by exact rfl) (hp:¬p:=by first|(with_reducible assumption)|omega|decide):
  a_ q P g ops (⟨dst,op,ty,pos,af,some (gj,false)⟩::rest) Q δ:=a_.L6 ho hd hb u_ vu vL hp hy
theorem zt {op:Op} {gj d:Nat} {o':Oper} {p:Prop} {_:Decidable p} (hy:a_ q P g ops (⟨dst,op,ty,pos,af,none⟩::rest) Q δ) (ho:ops[gj]? =some o':=by exact rfl) (hd:o'.dst=some d:=by exact rfl) (u_:Nat.blt d HS=true:=by exact rfl) (vu:Nat.blt d δ.n=true:=by exact rfl) (hb:δ.get d=fh (decide p):=by exact rfl) (vL:fO δ.n dst=true:=by exact rfl) (hp:p:=by first|(with_reducible assumption)|omega|decide):
  a_ q P g ops (⟨dst,op,ty,pos,af,some (gj,true)⟩::rest) Q δ:=a_.Kk ho hd hb u_ vu vL hp hy
theorem zb {x:Operand} {t:TypeId} {i off:Nat} {cells:List AV} {v:AV} (hK:a_ q P g ops rest Q (δ.eS dst v)) (hx:δ.ev x=.ptr i off:=by exact rfl) (hb:δ.ob i=some (.box cells):=by exact rfl) (hv:cells[off]? =some v:=by exact rfl) (ht:jW P t=true:=by exact rfl) (ho:ff x=true:=by exact rfl) (hd:fO δ.n dst=true:=by exact rfl):
  a_ q P g ops (⟨dst,.load t x,ty,pos,af,none⟩::rest) Q δ:=a_.Kt hx hb hv ht ho hd hK
theorem zn {α:Type} {x:Operand} {t e:TypeId} {k:Nat} {f:α→List PV} {l:List α} (hK:a_ q P g ops rest Q (δ.eS dst (eV (l.length:Nat)))) (hx:δ.ev x=.pv (.slice k (l.map f)):=by exact rfl) (ht:P.underlying t=some (.slice e):=by exact rfl) (ho:ff x=true:=by exact rfl) (hd:fO δ.n dst=true:=by exact rfl):
  a_ q P g ops (⟨dst,.call {callee:=.builtin .len,args:= #[x],argTypes:= #[t]},ty,pos,af,none⟩::rest) Q δ:=a_.jE hx ht ho hd hK
theorem zs {x y:Operand} {t t':TypeId} {m n:Int} (hK:a_ q P g ops rest Q (δ.eS dst (fh (decide (m<n))))) (hx:δ.ev x=eV m:=by exact rfl) (hy:δ.ev y=eV n:=by exact rfl) (ho:ff x=true:=by exact rfl) (fZ:ff y=true:=by exact rfl) (hd:fO δ.n dst=true:=by exact rfl):
  a_ q P g ops (⟨dst,.binOp .lss t x y t',ty,pos,af,none⟩::rest) Q δ:=a_.lss hx hy ho fZ hd hK
set_option linter.defProp false in
abbrev zd:= @a_.Vh
set_option linter.defProp false in
abbrev zq:= @AW.TJ
set_option linter.defProp false in
abbrev zo:= @AW.seq
theorem zc {c:Operand} {x y:Code} {p:Prop} {_:Decidable p} (h1:AW P g x Q δ) (ho:ff c=true:=by exact rfl) (hc:δ.ev c=fh (decide p):=by exact rfl) (hp:p:=by first|(with_reducible assumption)|omega|decide):AW P g (.cond c x y) Q δ:=AW.P9 ho hc hp h1
theorem zk {c:Operand} {x y:Code} {p:Prop} {_:Decidable p} (h1:AW P g y Q δ) (ho:ff c=true:=by exact rfl) (hc:δ.ev c=fh (decide p):=by exact rfl) (hp:¬p:=by first|(with_reducible assumption)|omega|decide):AW P g (.cond c x y) Q δ:=AW.QK ho hc hp h1
theorem zr {x:Operand} {t:TypeId} {p:PV} (hK:a_ q P g ops rest Q (δ.eS dst (.pv p))) (hx:δ.ev x=.fV [p]:=by exact rfl) (ht:jW P t=true:=by exact rfl) (ho:ff x=true:=by exact rfl) (hd:fO δ.n dst=true:=by exact rfl):a_ q P g ops (⟨dst,.load t x,ty,pos,af,none⟩::rest) Q δ:=a_.L4 hx ht ho hd hK
theorem zA {f:FuncId} {xs:List Operand} {tys:Array TypeId} {args:List AV} {r:AV} (hf:Fn P f args r) (hK:a_ q P g ops rest Q (δ.eS dst r)) (gf:oC true δ xs args:=by repeat (first|exact .nil|(refine .cons rfl ?_ ?_;(first|exact .pv _|exact .own _ _ _ _ rfl|exact .nil _|exact .any _|exact .fV _|(refine .rn ?_;repeat (first|exact .nil|(refine .cons ?_ ?_;(first|exact .pv _|exact .own _ _ _ _ rfl|exact .nil _)))))))) (lS:r.rY=true:=by exact rfl) (hd:fO δ.n dst=true:=by exact rfl) (hq:q≠ .held:=by exact(fun h_=>by cases h_)):
  a_ q P g ops (⟨dst,.call {callee:=.value (.func f),args:=xs.toArray,argTypes:=tys},ty,pos,af,none⟩::rest) Q δ:=a_.call hf gf lS hd hq hK
theorem zP {f:FuncId} {xs:List Operand} {tys:Array TypeId} {args:List AV} {r:AV} (hf:Fn P f args r) (hK:a_ .plain P g ops rest Q (δ.eS dst r)) (gf:oC false δ xs args:=by repeat (first|exact .nil|(refine .cons rfl ?_ ?_;(first|exact .pv _|exact .own _ _ _ _ rfl|exact .nil _|exact .any _|exact .fV _|(refine .rn ?_;repeat (first|exact .nil|(refine .cons ?_ ?_;(first|exact .pv _|exact .own _ _ _ _ rfl|exact .nil _)))))))) (hd:fO δ.n dst=true:=by exact rfl):
  a_ .plain P g ops (⟨dst,.call {callee:=.value (.func f),args:=xs.toArray,argTypes:=tys},ty,pos,af,none⟩::rest) Q δ:=a_.Nl hf gf hd hK
theorem zX {y:Operand} {f:FuncId} {xs:List Operand} {tys:Array TypeId} {first cap args:List AV} {r:AV} {n0:Nat} {d_ eU:List (Nat×Option Ob)} (hf:og P f n0 d_ args eU r) (hK:a_ .plain P g ops rest Q ((δ.hU d_ eU).eS dst r)) (i_:g.wt=none:=by with_reducible assumption) (hy:δ.ev y=.jk (.func f) first cap:=by exact rfl) (kv:ff y=true:=by exact rfl) (rX:xs.all ff=true:=by exact rfl)
  (kg:BX δ d_:=by repeat (first|exact trivial|refine⟨rfl,?_⟩)) (gf:uk (XS d_ n0).qu (XS d_ n0).qc (first++xs.map δ.ev++cap) args:=by repeat (first|exact .nil|(refine .cons ?_ ?_;(first|exact .eq rfl rfl|exact .nil _|exact .any _)))) (hk:j2 d_ eU=true:=by exact rfl) (Bc:sG n0 d_=true:=by exact rfl) (sf:mj (XS d_ n0).qu (XS d_ n0).qc d_:=by repeat (first|exact trivial|refine⟨rfl,?_⟩|refine⟨s_,?_⟩))
  (oO:mj (XS eU n0).qu (XS eU n0).qc eU:=by repeat (first|exact trivial|refine⟨rfl,?_⟩|refine⟨s_,?_⟩)) (hr:r.ids (XS eU n0).qu (XS eU n0).qc=true:=by exact rfl) (hd:fO δ.n dst=true:=by exact rfl):
  a_ .plain P g ops (⟨dst,.call {callee:=.value y,args:=xs.toArray,argTypes:=tys},ty,pos,af,none⟩::rest) Q δ:=a_.QR i_ hf hy kv rX kg gf hk Bc sf oO hr hd hK
theorem nx {A:DS→Prop} {δ δ':DS} (h:A δ') (e:δ=δ':=by conv=>lhs;simp only[Nf.af,Nf.X5,Nf.XY,Nf.XN,Nf.Xc,Nf.xor,Nf.Xh,Nf.X0,Nf.WI,Nf.XD,Nf.XB,Nf.XR,Nf.Xg,Nf.HZ,Nf.MG,Nf.HR,Nf.EO,Nf.EA,Nf.Hg,Nf.Ic,Nf.EZ,Nf.Im,Nf.HB,Nf.Jt,Nf.X6,Nf.XV,Nf.XQ,Nf.WL,Nf.cn,Nf.nn,GY,Be,Nat.reduceBEq,cond_true,cond_false]):A δ:=e▸h
theorem zB {x y:Operand} {t:TypeId} {i:Nat} {cells cs:List AV} (hK:a_ .plain P g ops rest Q ((δ.ga i (some (.box cs))).eS dst .any)) (hx:δ.ev x=.ptr i 0:=by exact rfl) (hy:δ.ev y=.agg cs:=by exact rfl) (hb:δ.ob i=some (.box cells):=by exact rfl) (hlen:cells.length=cs.length:=by exact rfl) (ht:(P.info? t).map (·.size)=some cs.length:=by exact rfl) (h1:AV.nj cs=true:=by exact rfl) (ho:ff x=true:=by exact rfl) (fZ:ff y=true:=by exact rfl) (hd:fO δ.n dst=true:=by exact rfl) (i_:g.wt=none:=by with_reducible assumption):
  a_ .plain P g ops (⟨dst,.store t x y,ty,pos,af,none⟩::rest) Q δ:=a_.wV hx hy hb hlen ht h1 ho fZ hd i_ hK
theorem zL {x:Operand} {t:TypeId} {i:Nat} {cells:List AV} (hK:a_ q P g ops rest Q (δ.eS dst (.agg cells))) (hx:δ.ev x=.ptr i 0:=by exact rfl) (hb:δ.ob i=some (.box cells):=by exact rfl) (ht:zu P t cells.length=true:=by exact rfl) (ho:ff x=true:=by exact rfl) (hd:fO δ.n dst=true:=by exact rfl):
  a_ q P g ops (⟨dst,.load t x,ty,pos,af,none⟩::rest) Q δ:=a_.E5 hx hb ht ho hd hK
theorem zj {x y:Operand} {t t':TypeId} {m n:Int} (hK:a_ q P g ops rest Q (δ.eS dst (eV (m+n)))) (hx:δ.ev x=eV m:=by exact rfl) (hy:δ.ev y=eV n:=by exact rfl) (ho:ff x=true:=by exact rfl) (fZ:ff y=true:=by exact rfl) (hd:fO δ.n dst=true:=by exact rfl) (hb: -9223372036854775808≤m+n∧m+n≤9223372036854775807:=by omega):
  a_ q P g ops (⟨dst,.binOp .add t x y t',ty,pos,af,none⟩::rest) Q δ:=a_.add hx hy ho fZ hd hb hK
theorem zF {x y z:Operand} {p:Prop} {_:Decidable p} {v:PV} (hK:a_ q P g ops rest Q (δ.eS dst (.pv v))) (hx:δ.ev x=fh (decide p):=by exact rfl) (hz:δ.ev z=.pv v:=by exact rfl) (hp:¬p:=by first|(with_reducible assumption)|omega|decide) (ho:ff x=true:=by exact rfl) (kv:ff y=true:=by exact rfl) (oA:ff z=true:=by exact rfl) (hd:fO δ.n dst=true:=by exact rfl):
  a_ q P g ops (⟨dst,.pick x y z,ty,pos,af,none⟩::rest) Q δ:=a_.H9 hx hz hp ho kv oA hd hK
theorem zT {x y z:Operand} {p:Prop} {_:Decidable p} {v:PV} (hK:a_ q P g ops rest Q (δ.eS dst (.pv v))) (hx:δ.ev x=fh (decide p):=by exact rfl) (hy:δ.ev y=.pv v:=by exact rfl) (hp:p:=by first|(with_reducible assumption)|omega|decide) (ho:ff x=true:=by exact rfl) (kv:ff y=true:=by exact rfl) (oA:ff z=true:=by exact rfl) (hd:fO δ.n dst=true:=by exact rfl):
  a_ q P g ops (⟨dst,.pick x y z,ty,pos,af,none⟩::rest) Q δ:=a_.Hy hx hy hp ho kv oA hd hK
end Go.Ab
/- Maps from whole numbers to slices:elder entries told whole,the last one over a row of the walk's own. -/
namespace Go.Ab
open Go Go.RowKit
variable {q:Md} {P:Program} {g:eR} {δ:DS} {κ:Kp} {a:Act} {w:World}
variable {gd:Option (Tmp×Bool)} {ops:Array Oper} {rest:List Oper} {Q:Exit→DS→Prop} {dst:Option Nat} {ty:TypeId} {pos:String} {af:Array Edge}
def yr (D:List (Int×List Int)):List (Int×AV):=D.map fun p=>(p.1,.pv (ints p.2))
theorem IT (D:List (Int×List Int)) (A B:Nat→Bool):∀p∈jL (yr D),p.2.ids A B=true:=by
 intro p hp
 simp only[jL,yr,List.map_map,List.mem_map] at hp
 obtain⟨x,_,rfl⟩:=hp
 rfl
theorem WO.SL {δ δ':DS} {i:Nat} (h:δ.ob i=some (.mp (jL []))):WO δ δ' i (.mp (jL (yr []))):=.mp h (fun p hp=>by simp [jL,yr] at hp)
theorem WO.rows {δ δ':DS} {i:Nat} {D:List (Int×List Int)} (h:δ.ob i=some (.mp (jL (yr D)))):WO δ δ' i (.mp (jL (yr D))):=.mp h (IT D _ _)
theorem pw.sw (i j:Nat) {δ δ':DS} (i_:g.wt=none) (hi:Nat.blt i δ.nx=true) (hj:Nat.blt j δ.nx=true) (h:pw g (δ.sw i j) δ'):pw g δ δ':=
 fun _ a w r=>h _ a w (r.sw i j (by simpa using hi) (by simpa using hj) (fun k hk=>by rw[i_] at hk;cases hk))
theorem AW.Pc (i:Nat) {c:Code} (hi:δ.ob i=some .row) (hK:AW P g c Q (pE δ i)):AW P g c Q δ:=by
 intro κ a w r
 obtain⟨κ',r'⟩:=r.freeze hi
 exact hK κ' a w r'
section
variable {k:Wt} {late:List Nat} {l:List Oper} {dn:List Nat} {QD:Exit→DS→Prop}
end
end Go.Ab
/- v,is:=m[k] over a map whose entries are told one by one. -/
namespace Go.Ab
open Go Go.RowKit
variable {q:Md} {P:Program} {g:eR} {δ:DS} {ops:Array Oper} {rest:List Oper} {Q:Exit→DS→Prop} {dst:Option Nat} {ty:TypeId} {pos:String} {af:Array Edge}
abbrev Av (f:Go.Fn):AV:=.pv (.lit (.func f #[] #[]))
theorem QU {C:Cx} {w:World} {u:Value} {f:Go.Fn} (h:RA C w u (.jk f [] [])):u=.func f #[] #[]:=by
 cases h with
 |jk hs h ht h'=>
  rename_i vs us
  have e1:vs= #[]:=Array.eq_empty_of_size_eq_zero (by simpa using hs)
  have e2:us= #[]:=Array.eq_empty_of_size_eq_zero (by simpa using ht)
  rw[e1,e2]
theorem uj:∀{l:List (Int×AV)} {j:Nat} {m:Int} {v:AV},l[j]? =some (m,v)→jK l m≠none
 |[],j,m,v,h=>by simp at h
 |(k,u)::l,0,m,v,h=>by
  simp at h
  obtain⟨rfl,rfl⟩:=h
  simp [jK]
 |(k,u)::l,j+1,m,v,h=>by
  unfold jK
  split
  ·simp
  ·exact uj (by simpa using h)
theorem Lc {C:Cx} {w:World} {u v:Value} (h:RA C w u (.pv (.lit v))):u=v:=by
 cases h with
 |pv h=>cases h;rfl
theorem iO.y3 {gd:Option (Tmp×Bool)} {x y z:Operand} {t kt et:TypeId} {i:Nat} {l:List (Int×AV)} {m:Int} {f:Go.Fn} (hx:δ.ev x=.gq i) (iQ:δ.ob i=some (.mp (jL l))) (hy:δ.ev y=eV m) (hz:δ.ev z=.jk f [] []) (ht:P.underlying t=some (.map kt et)) (hk:P.underlying kt=some (.int .i64))
  (ho:ff x=true) (fZ:ff y=true) (oA:ff z=true) (hd:fO δ.n dst=true) (CJ:g.ni i) (hn:jK l m=none):
  iO P g ⟨dst,.insert t x y z,ty,pos,af,gd⟩ δ ((δ.ga i (some (.mp (jL (l++ [(m,Av f)]))))).eS dst .any):=by
 intro κ a w r
 obtain⟨b,es,clock,h1,h2,h3,h4,h5,z_⟩:=r.PR (r.ra hx ho) iQ
 obtain⟨h6,h7⟩:=h4.jL
 have Uf:RA (δ.cx g κ) w (a.eval z) (Av f):=by rw[QU (r.ra hz oA)];exact .pv (.lit _)
 have My:MapKept.IsKey (.int .i64) (.int .i64 m):=by simp [MapKept.IsKey]
 have HG:∀e,(Instr.checkKey e (9999+1) kt (.int .i64 m)).run P w=.ok () w:=fun e=>MapKept.run_checkKey hk My e 9999
 rcases xh m es.toList l 0 h6 h7 with ⟨h8,h9⟩|⟨j,e,u,h9,ub,q7,Ce,W4⟩
 ·have fu:(execOp a.eval ⟨dst,.insert t x y z,ty,pos,af,gd⟩).run P w=.ok .skip {w with heap:=w.heap.setIfInBounds b (.map (es.push {key:=.int .i64 m,val:=a.eval z,born:=clock}) (clock+1))}:=by
   simp [execOp,r.lit hy fZ,h1,Instr.mapUpdate,run_underlying ht,MapKept.run_getObj_map h3,HG,nm hk h9,MapKept.run_setObj_map _ h3]
  obtain⟨r',G⟩:=r.modify (o':=.mp (jL (l++ [(m,Av f)]))) iQ rfl rfl h2 CJ (ir.rT w b (.map (es.push {key:=.int .i64 m,val:=a.eval z,born:=clock}) (clock+1))) (by simp) (fun C hC G=>by
   have V0:kR C {w with heap:=w.heap.setIfInBounds b (.map (es.push {key:=.int .i64 m,val:=a.eval z,born:=clock}) (clock+1))} es (jL l):=h4.goes G
   obtain⟨h15,Zi⟩:=V0.push h5 m (G.ra Uf)
   exact⟨b,_,_,by rw[hC];exact h2,kV h3,h15,Zi,fun p hp=>by
    rw[jF] at hp
    rcases List.mem_append.1 hp with hp|hp
    ·exact z_ p hp
    ·simp [jL] at hp;subst hp;rfl⟩)
  exact .inl ⟨_,_,_,_,fu,.inr ⟨rfl,rfl⟩,r'.eS (fi hd) (.any _)⟩
 ·exfalso
  exact uj q7 hn
theorem a_.y3 {x y z:Operand} {t kt et:TypeId} {i:Nat} {l:List (Int×AV)} {m:Int} {f:Go.Fn} (hx:δ.ev x=.gq i) (iQ:δ.ob i=some (.mp (jL l))) (hy:δ.ev y=eV m) (hz:δ.ev z=.jk f [] []) (ht:P.underlying t=some (.map kt et)) (hk:P.underlying kt=some (.int .i64))
  (ho:ff x=true) (fZ:ff y=true) (oA:ff z=true) (hd:fO δ.n dst=true) (i_:g.wt=none) (hn:jK l m=none)
  (hK:a_ .plain P g ops rest Q ((δ.ga i (some (.mp (jL (l++ [(m,Av f)]))))).eS dst .any)):
  a_ .plain P g ops (⟨dst,.insert t x y z,ty,pos,af,none⟩::rest) Q δ:=
 a_.r_ rfl rfl (iO.y3 hx iQ hy hz ht hk ho fZ oA hd (jM i_ i) hn) hK
def yx (l:List (Int×Go.Fn)):List (Int×AV):=l.map fun p=>(p.1,Av p.2)
def Jv (l:List (Int×Go.Fn)):List (Value×PV):=l.map fun p=>(.int .i64 p.1,.lit (.func p.2 #[] #[]))
theorem WV.fns {δ':DS} {i:Nat} {l:List (Int×Go.Fn)} (hb:δ.ob i=some (.mp (jL (yx l)))) (hd:δ'.ob i=none):WV δ δ' (.gq i) (.pv (.mp (Jv l))):=
 .fmap hb hd (by simp [jL,yx,Jv]) (fun j p p' h1 h2=>by
  simp only[jL,yx,Jv,List.getElem?_map,Option.map_eq_some_iff] at h1 h2
  obtain⟨a,⟨b,hb,rfl⟩,rfl⟩:=h1
  obtain⟨c,hc,rfl⟩:=h2
  obtain rfl:b=c:=Option.some.inj (hb.symm.trans hc)
  exact⟨rfl,.pv _⟩)
theorem BP {κ:Kp} {w:World} {v:Value} {l:List (Int×Go.Fn)} (h1:RA (δ.cx g κ) w v (.pv (.mp (Jv l)))):∃b es clock,v=.map (some b)∧(∀w',kB δ κ w w'→w'.heap[b]? =some (.map es clock))∧es.toList.length=(yx l).length∧
  ∀(j:Nat) (e:MapEntry) (p:Int×AV),es.toList[j]? =some e→(yx l)[j]? =some p→e.key=.int .i64 p.1∧RA (δ.cx g κ) w e.val p.2:=by
 cases h1 with
 |pv h=>
  cases h with
  |mp b clock es hN hb hh hs jn hk hr=>
   refine⟨b,es,clock,rfl,fun w' iP=>(iP b hb ⟨fun i hi=>hN.2 i (DS.gA hi),hN.1.2⟩).trans hh,by simpa [yx,Jv] using hs,fun j e p h1 h2=>?_⟩
   have JT:es[j]? =some e:=by simpa using h1
   simp only[yx,List.getElem?_map,Option.map_eq_some_iff] at h2
   obtain⟨a,ha,rfl⟩:=h2
   have h3:(Jv l)[j]? =some (.int .i64 a.1,.lit (.func a.2 #[] #[])):=by simp [Jv,ha]
   exact⟨hk j e _ JT h3,.pv (hr j e _ JT h3)⟩
theorem a_.Cu {x y:Operand} {t kt et:TypeId} {l:List (Int×Go.Fn)} {m:Int} {z:Value} {f:Go.Fn} (hx:δ.ev x=.pv (.mp (Jv l))) (hy:δ.ev y=eV m) (ht:P.underlying t=some (.map kt et)) (hk:P.underlying kt=some (.int .i64)) (hz:(P.info? et).bind (·.zero)=some z)
  (ho:ff x=true) (fZ:ff y=true) (hd:fO δ.n dst=true) (hv:jK (yx l) m=some (Av f)) (hK:a_ q P g ops rest Q (δ.eS dst (.gX [.jk f [] [],fh true]))):a_ q P g ops (⟨dst,.lookup t x y true,ty,pos,af,none⟩::rest) Q δ:=
 a_.jc _ hd (fun κ a w r=>by
  obtain⟨b,es,clock,h1,hb,h6,h7⟩:=BP (r.ra hx ho)
  rcases ot m es.toList (yx l) 0 h6 h7 with ⟨h8,h9⟩|⟨j,e,v',h8,h9,ub,q7,Ce⟩
  ·rw[hv] at h8;cases h8
  ·rw[hv] at h8;cases h8
   have he:e.val=.func f #[] #[]:=Lc Ce
   refine⟨.tuple #[e.val,.bool true],fun w' iP=>?_,.gX rfl (fun k u c h=>?_)⟩
   ·have:=oM ht hk hz (hb w' iP) h9 true
    simp [execOp,r.lit hy fZ,h1,this]
   ·intro hc
    match k with
    |0=>simp at h hc;subst h;subst hc;rw[he];exact .jk rfl (fun j u c h=>by simp at h) rfl (fun j u c h=>by simp at h)
    |1=>simp at h hc;subst h;subst hc;exact .pv (.lit _)
    |k+2=>simp at hc) hK
theorem a_.Dt {x y:Operand} {t kt et:TypeId} {l:List (Int×Go.Fn)} {m:Int} {z:Value} (hx:δ.ev x=.pv (.mp (Jv l))) (hy:δ.ev y=eV m) (ht:P.underlying t=some (.map kt et)) (hk:P.underlying kt=some (.int .i64)) (hz:(P.info? et).bind (·.zero)=some z)
  (ho:ff x=true) (fZ:ff y=true) (hd:fO δ.n dst=true) (hv:jK (yx l) m=none) (hK:a_ q P g ops rest Q (δ.eS dst (.gX [.pv (.lit z),fh false]))):a_ q P g ops (⟨dst,.lookup t x y true,ty,pos,af,none⟩::rest) Q δ:=
 a_.jc _ hd (fun κ a w r=>by
  obtain⟨b,es,clock,h1,hb,h6,h7⟩:=BP (r.ra hx ho)
  rcases ot m es.toList (yx l) 0 h6 h7 with ⟨h8,h9⟩|⟨j,e,v',h8,h9,ub,q7,Ce⟩
  ·refine⟨.tuple #[z,.bool false],fun w' iP=>?_,.gX rfl (fun k u c h=>?_)⟩
   ·have:=oM ht hk hz (hb w' iP) h9 true
    simp [execOp,r.lit hy fZ,h1,this]
   ·intro hc
    match k with
    |0=>simp at h hc;subst h;subst hc;exact .pv (.lit _)
    |1=>simp at h hc;subst h;subst hc;exact .pv (.lit _)
    |k+2=>simp at hc
  ·rw[hv] at h8;cases h8) hK
theorem AW.CX {c:Operand} {x y:Code} {b:Bool} (ho:ff c=true) (hc:δ.ev c=fh b) (hb:b=true) (h1:AW P g x Q δ):AW P g (.cond c x y) Q δ:=AW.Hc hb ho hc h1
theorem AW.yQ {c:Operand} {x y:Code} {b:Bool} (ho:ff c=true) (hc:δ.ev c=fh b) (hb:b=false) (h1:AW P g y Q δ):AW P g (.cond c x y) Q δ:=AW.IA hb ho hc h1
theorem a_.SA {f fn:FuncId} {x:Operand} {tys:Array TypeId} {v r:AV} (hf:Fn P f [v,.jk (.func fn) [] []] r) (gf:oC true δ [x] [v]) (lS:r.rY=true) (hd:fO δ.n dst=true) (hq:q≠ .held)
  (hK:a_ q P g ops rest Q (δ.eS dst r)):a_ q P g ops (⟨dst,.call {callee:=.value (.func f),args:=[x,.func fn].toArray,argTypes:=tys},ty,pos,af,none⟩::rest) Q δ:=by
 intro κ a w r0
 have hc:∀w',Below w.heap.size w w'→Calls P f ([x,.func fn].toArray.map a.eval) w' fun e w''=>e=.returned r.out∧Below w'.heap.size w' w'':=fun w' iP=>
  (hf.calls (fun _=>True) w' _ (fun _ _=>trivial) (by simp) (fun j u av h1 h2=>by
   match j with
   |0=>exact gf.J1 (r0.ext iP) (fun _ _ _=>trivial) (fun _ _ _ _ _=>trivial) 0 u av (by simpa using h1) (by simpa using h2)
   |1=>
    simp at h1 h2
    subst h1;subst h2
    exact .jk rfl (fun j u c h=>by simp at h) rfl (fun j u c h=>by simp at h)
   |j+2=>simp at h2)).mono (by
   rintro e w'' ⟨v,rfl,hv,hb⟩
   exact⟨by rw[hv.rY (AV.j6 (C:=uU (fun _=>True)) (w:=w) lS) lS],hb⟩)
 have uX:=hK κ _ _ (r0.eS (fi hd) (AV.j6 lS))
 cases q with
 |quiet=>
  show wpQuiet P ops _ _ (_::rest) a
  unfold wpQuiet
  rw[if_pos (by simp [Region.wanted])]
  refine⟨r.out,fun w' iP=>?_,uX⟩
  unfold Oper.quietAt
  rw[iB (f:=f) rfl hf.enters]
  exact⟨rfl,(hc w' iP).mono fun e w'' ⟨h1,h2⟩=>⟨h1,iP.trans (h2.mono iP.size)⟩⟩
 |held=>exact absurd rfl hq
 |plain=>
  show wpListIn _ _ P ops _ (_::rest) a w
  refine gw rfl rfl fun K nb=>?_
  unfold Oper.wW
  rw[iB (f:=f) rfl hf.enters,Oper.uponIn_enter]
  refine⟨fun h=>by simp at h,(ia (hc w (Below.refl _ _))).mono ?_⟩
  rintro e w' ⟨rfl,hb⟩
  exact nb _ _ (hK κ _ _ ((r0.ext hb).eS (fi hd) (AV.j6 lS)))
end Go.Ab
/- Strings:joined,compared,measured,indexed,cut;numbers of any kind compared. -/
namespace Go.Ab
open Go Go.RowKit
variable {q:Md} {P:Program} {g:eR} {δ:DS} {κ:Kp} {a:Act} {w:World}
variable {ops:Array Oper} {rest:List Oper} {Q:Exit→DS→Prop} {dst:Option Nat} {ty:TypeId} {pos:String} {af:Array Edge}
theorem a_.self {l:List Oper} (h:a_ q P g ops l Q δ):a_ q P g ops l Q δ:=h
abbrev yY (s:ByteArray):AV:=.pv (.lit (.string s))
section strs
variable {x y:Operand} {t t':TypeId} {s u:ByteArray} (hx:δ.ev x=yY s) (hy:δ.ev y=yY u) (ho:ff x=true) (fZ:ff y=true) (hd:fO δ.n dst=true)
include hx hy ho fZ hd
end strs
end Go.Ab
/- A struct stored into a part of a box:an element of an array,a struct's field that is a struct. -/
namespace Go.Ab
open Go Go.RowKit
inductive uG:Nat→List AV→List AV→List AV→Prop where
 |nil {l}:uG 0 [] l l
 |take {a b cs l l'}:uG 0 cs l l'→uG 0 (b::cs) (a::l) (b::l')
 |skip {k a cs l l'}:uG k cs l l'→uG (k+1) cs (a::l) (a::l')
theorem uG.spec {k:Nat} {cs l l':List AV} (h:uG k cs l l'):k+cs.length≤l.length∧l'.length=l.length∧(∀j,j<k→l'[j]? =l[j]?)∧(∀j,k≤j→j<k+cs.length→l'[j]? =cs[j - k]?)∧(∀j,k+cs.length≤j→l'[j]? =l[j]?):=by
 induction h with
 |nil=>exact⟨by simp,rfl,fun j h=>rfl,fun j h1 h2=>by simp at h2,fun j h=>rfl⟩
 |take _ ih=>
  obtain⟨h1,h2,_,h4,h5⟩:=ih
  refine⟨by simp at h1 ⊢;omega,by simp [h2],fun j h=>by omega,fun j _ h=>?_,fun j h=>?_⟩
  ·cases j with
   |zero=>rfl
   |succ j=>exact h4 j aJ (by simp at h ⊢;omega)
  ·cases j with
   |zero=>simp at h
   |succ j=>exact h5 j (by simp at h ⊢;omega)
 |skip _ ih=>
  obtain⟨h1,h2,h3,h4,h5⟩:=ih
  refine⟨by simp at h1 ⊢;omega,by simp [h2],fun j h=>?_,fun j h0 h=>?_,fun j h=>?_⟩
  ·cases j with
   |zero=>rfl
   |succ j=>exact h3 j (by omega)
  ·cases j with
   |zero=>omega
   |succ j=>
    rw[Nat.add_sub_add_right]
    exact h4 j aJ (by omega)
  ·cases j with
   |zero=>omega
   |succ j=>exact h5 j (by omega)
variable {P:Program} {g:eR} {δ:DS} {ops:Array Oper} {rest:List Oper} {Q:Exit→DS→Prop} {dst:Option Nat} {ty:TypeId} {pos:String} {af:Array Edge} {gd:Option (Tmp×Bool)}
theorem Lf {c u:List Value} {k j:Nat} (hk:k+u.length≤c.length):(c.take k++u++c.drop (k+u.length))[j]? =if j<k then c[j]? else if j<k+u.length then u[j - k]? else c[j]?:=by
 have hl:(c.take k++u).length=k+u.length:=by simp;omega
 by_cases h1:j<k
 ·rw[if_pos h1,List.getElem?_append_left aJ,List.getElem?_append_left (by simp;omega),List.getElem?_take,if_pos h1]
 ·rw[if_neg h1]
  by_cases h2:j<k+u.length
  ·rw[if_pos h2,List.getElem?_append_left aJ,List.getElem?_append_right (by simp;omega)]
   congr 1;simp;omega
  ·rw[if_neg h2,List.getElem?_append_right aJ,hl,List.getElem?_drop]
   congr 1;omega
theorem iO.wq {x y:Operand} {t:TypeId} {i off:Nat} {cells cs out:List AV} (hx:δ.ev x=.ptr i off) (hy:δ.ev y=.agg cs) (hb:δ.ob i=some (.box cells)) (hp:uG off cs cells out) (ht:(P.info? t).map (·.size)=some cs.length) (h1:AV.nj cs=true) (ho:ff x=true) (fZ:ff y=true) (hd:fO δ.n dst=true) (CJ:g.ni i):
  iO P g ⟨dst,.store t x y,ty,pos,af,gd⟩ δ ((δ.ga i (some (.box out))).eS dst .any):=by
 intro κ a w r
 obtain⟨b,c,e,hv,hκ,h3,h4,h5⟩:=r.box (r.ra hx ho) hb
 obtain⟨mZ,pk⟩:=(r.ra hy fZ).cells h1
 simp only[AV.cellsOf] at mZ pk
 obtain⟨p1,p2,p3,p4,p5⟩:=hp.spec
 have jO:∀u∈(a.eval y).cells.toList,u.oneCell'=true:=by
  intro u hu
  obtain⟨j,hj⟩:=List.getElem?_of_mem hu
  have fm:j<cs.length:=by rw[← mZ];have:=(List.getElem?_eq_some_iff.1 hj).1;simpa using this
  exact(pk j u _ (by simpa using hj) (List.getElem?_eq_getElem fm)).2
 have Qk:(a.eval y).cells.toList.length=cs.length:=by simpa using mZ
 have jn:=run_storeCells_at P b off e (a.eval y).cells.toList 0 c w h3 (by rw[Qk];omega) jO
 simp only[Nat.add_zero] at jn
 obtain⟨R,hR⟩:∃R,R=(c.toList.take off++(a.eval y).cells.toList++c.toList.drop (off+(a.eval y).cells.toList.length)).toArray:=⟨_,rfl⟩
 rw[← hR] at jn
 have Zf:R.size=c.size:=by rw[hR];simp [Qk];omega
 have Y6:∀j,R[j]? =if j<off then c[j]? else if j<off+cs.length then (a.eval y).cells[j - off]? else c[j]?:=fun j=>by
  rw[hR,List.getElem?_toArray,Lf (by rw[Qk];simp;omega),Qk]
  simp only[Array.getElem?_toList]
 have fu:(execOp a.eval ⟨dst,.store t x y,ty,pos,af,gd⟩).run P w=.ok .skip (w.setRow b R):=by
  obtain⟨i0,ju,l5⟩:∃i0,P.info? t=some i0∧i0.size=cs.length:=by
   cases h:P.info? t with
   |none=>rw[h] at ht;simp at ht
   |some i0=>rw[h] at ht;exact⟨i0,rfl,by simpa using ht⟩
  simp [execOp,Instr.storeAt,Instr.sureAddr,storeVar,hv,mZ,sizeOf,typeInfo,ju,l5,jn]
 obtain⟨r',G⟩:=r.modify (o':=.box out) hb rfl rfl hκ CJ (ir.setRow w b R) (by simp) (fun C Ql G=>⟨b,_,e,by rw[Ql];exact hκ,setRow_heap w b c _ e _ h3,by rw[Zf,p2];exact h4,fun j u av h6 h7=>by
  rw[Y6] at h6
  by_cases e1:j<off
  ·rw[if_pos e1] at h6
   rw[p3 j e1] at h7
   exact⟨G.ra (h5 j u av h6 h7).1,(h5 j u av h6 h7).2⟩
  ·rw[if_neg e1] at h6
   by_cases e2:j<off+cs.length
   ·rw[if_pos e2] at h6
    rw[p4 j aJ e2] at h7
    exact⟨G.ra (pk (j - off) u av h6 h7).1,(pk (j - off) u av h6 h7).2⟩
   ·rw[if_neg e2] at h6
    rw[p5 j aJ] at h7
    exact⟨G.ra (h5 j u av h6 h7).1,(h5 j u av h6 h7).2⟩⟩)
 exact .inl ⟨_,_,_,_,fu,.inr ⟨rfl,rfl⟩,r'.eS (fi hd) (.any _)⟩
theorem a_.wq {x y:Operand} {t:TypeId} {i off:Nat} {cells cs out:List AV} (hx:δ.ev x=.ptr i off) (hy:δ.ev y=.agg cs) (hb:δ.ob i=some (.box cells)) (hp:uG off cs cells out) (ht:(P.info? t).map (·.size)=some cs.length) (h1:AV.nj cs=true) (ho:ff x=true) (fZ:ff y=true) (hd:fO δ.n dst=true) (i_:g.wt=none)
  (hK:a_ .plain P g ops rest Q ((δ.ga i (some (.box out))).eS dst .any)):a_ .plain P g ops (⟨dst,.store t x y,ty,pos,af,none⟩::rest) Q δ:=a_.r_ rfl rfl (iO.wq hx hy hb hp ht h1 ho fZ hd (jM i_ i)) hK
end Go.Ab
/- A row's first part;append of made zeros to nothing;a capacity. -/
namespace Go.Ab
open Go Go.RowKit
variable {q:Md} {P:Program} {g:eR} {δ:DS} {κ:Kp} {a:Act} {w:World}
variable {ops:Array Oper} {rest:List Oper} {Q:Exit→DS→Prop} {dst:Option Nat} {ty:TypeId} {pos:String} {af:Array Edge} {gd:Option (Tmp×Bool)}
theorem a_.Fc {t e e':TypeId} {x y:Operand} {i k:Nat} {m:Int} {e7:List (List PV)} (hx:δ.ev x=.own i e' k e7) (hy:δ.ev y=eV m) (ht:P.underlying t=some (.slice e)) (hk:(P.info? e).map (·.size)=some k)
  (ho:ff x=true) (fZ:ff y=true) (hd:fO δ.n dst=true) (h0:0≤m) (hm:m.toNat≤e7.length) (hK:a_ q P g ops rest Q (δ.eS dst (.own i e' k (e7.take m.toNat)))):a_ q P g ops (⟨dst,.slice t x none (some y) none,ty,pos,af,none⟩::rest) Q δ:=
 a_.jc _ hd (fun κ a w r=>by
  have h1:=(r.ra hx ho).iW
  obtain⟨i0,ju,nE⟩:∃i0,P.info? e=some i0∧i0.size=k:=by
   cases h:P.info? e with
   |none=>rw[h] at hk;simp at hk
   |some i0=>rw[h] at hk;exact⟨i0,rfl,by simpa using hk⟩
  have vW:a.eval y=.int .i64 m:=r.lit hy fZ
  obtain⟨h,rfl⟩:∃h:Nat,m=(h:Int):=⟨m.toNat,by omega⟩
  rw[Int.toNat_natCast] at hm ⊢
  obtain⟨a0,cap,hv,mM,hb⟩:∃a0 cap,a.eval x=.slice a0 e7.length cap∧e7.length≤cap∧jy (δ.cx g κ) w (.slice a0 h cap) i e' k (e7.take h):=by
   obtain⟨hl,mb,ED,oa,xs,⟨sD,gF⟩,Z_,hxx⟩:=h1
   have mk:∀a0 cap,(∀b,(Value.slice a0 h cap).ownBlock=some b→(δ.cx g κ).κ i=some b)→((Value.slice a0 h cap=.slice none 0 0∧h=0)∨∃g0 cap' cur,Value.slice a0 h cap=.slice (some ⟨g0,0,none⟩) h cap'∧(δ.cx g κ).B≤g0∧w.heap[g0]? =some (.cells cur e' (0,0))∧h≤cap'∧cap'≤maxLen∧cur.size=cap'*k∧cur.toList.take (h*k)=xs.take (h*k))→jy (δ.cx g κ) w (.slice a0 h cap) i e' k (e7.take h):=by
    intro a0 cap GQ vM
    have hlen:(e7.take h).length=h:=by rw[List.length_take];omega
    have hmul:h*k≤e7.length*k:=Nat.mul_le_mul_right k hm
    refine⟨hl,by omega,fun c hc=>ED c (List.mem_of_mem_take hc),GQ,xs.take (h*k),⟨by rw[hlen,List.length_take];omega,by rw[hlen];exact vM⟩,fun u hu=>Z_ u (List.mem_of_mem_take hu),fun i' j p hp=>?_⟩
    unfold cellAt at hp
    rw[List.getElem?_take] at hp
    by_cases UM:i'<h
    ·rw[if_pos UM] at hp
     obtain⟨u,hu,MT⟩:=hxx i' j p (by unfold cellAt;exact hp)
     refine⟨u,?_,MT⟩
     have TX:j<k:=by
      rw[Option.bind_eq_some_iff] at hp
      obtain⟨c,Dq,PD⟩:=hp
      have:=ED c (List.mem_of_getElem? Dq)
      have:=(List.getElem?_eq_some_iff.1 PD).1
      omega
     have:(i'+1)*k≤h*k:=Nat.mul_le_mul_right k UM
     rw[Nat.add_mul,Nat.one_mul] at this
     rw[List.getElem?_take,if_pos aJ];exact hu
    ·rw[if_neg UM] at hp;simp at hp
   rcases gF with ⟨hn,hz⟩|⟨g0,cap,cur,hv,hg,h3,hle,Cn,pk,rL⟩
   ·refine⟨none,0,by rw[hn,hz],by omega,mk none 0 (fun b hb=>by cases hb) (.inl ⟨?_,by omega⟩)⟩
    rw[show h=0 by omega]
   ·refine⟨_,cap,hv,hle,mk _ cap (fun b hb=>oa b (by rw[hv];exact hb)) (.inr ⟨g0,cap,cur,rfl,hg,h3,by omega,Cn,pk,?_⟩)⟩
    rw[← rL,List.take_take,Nat.min_eq_left (Nat.mul_le_mul_right k hm)]
  have fu:∀w,(execOp a.eval ⟨dst,.slice t x none (some y) none,ty,pos,af,none⟩).run P w=.ok (.value (.slice a0 h cap)) w:=by
   intro w
   have Ec:∀w,(Instr.sliceBounds true e7.length cap none (some (.int .i64 (h:Int))) none).run P w=.ok (0,h,cap) w:=by
    intro w
    have e1:(0:Int)≤(h:Int)∧(h:Int)≤(cap:Int):=by omega
    simp [Instr.sliceBounds,Instr.sliceBound,asIntOf,e1]
    intro h0;exfalso;omega
   simp only[execOp,Instr.sliceAt,Instr.slice,run_underlying ht,hv,vW,Sem.run_bind,Result.andThen_ok,Option.map_none,Option.map_some,Ec,sizeOf,typeInfo,Sem.run_pure]
   cases a0 with
   |none=>simp [ju,nE]
   |some ad=>
    simp [ju,nE]
    intro _
    cases ad;simp [Addr.add]
  exact⟨_,fun w' _=>fu w',.own hb⟩) hK
namespace Nf
variable {n x:Nat} {e:List (Nat×AV)} {o:List (Nat×Option Ob)}
theorem Yp (d:Nat) (v:AV):DS.put ⟨n,e,o,x⟩ d v=⟨n,(d,v)::e,o,x⟩:=rfl
theorem Y9 (δ:DS) (v:AV):jD δ v []=δ:=rfl
theorem YW (δ:DS) (v:AV) (t:Nat) (ts:List Nat):jD δ v (t::ts)=(jD δ v ts).put t v:=rfl
theorem rr0 (i:Nat) (e:TypeId) (zs os:List Int):zw i e zs os none=.gX []:=rfl
theorem Yz (i:Nat) (e:TypeId) (zs os:List Int) (r:List Int→Nat):zw i e zs os (some r)=.own i e 1 ((os.take (r zs)).map nI):=rfl
set_option linter.defProp false in
def Ui:=And.intro @Yp (And.intro @Y9 (And.intro @YW (And.intro @rr0 @Yz)))
end Nf
end Go.Ab
/- Contracts of callees that return a row of their own making;the caller owns it from then on. -/
namespace Go.Ab
open Go Go.RowKit
variable {P:Program} {g:eR} {δ:DS} {κ:Kp} {a:Act} {w:World}
variable {ops:Array Oper} {rest:List Oper} {Q:Exit→DS→Prop} {dst:Option Nat} {ty:TypeId} {pos:String} {af:Array Edge}
theorem Rel.Jw (r:Rel g δ κ a w) {w':World} (hb:Below w.heap.size w w') (bo:Option Nat) (Cv:∀b,bo=some b→w.heap.size≤b∧b<w'.heap.size∧∃c e,w'.heap[b]? =some (.cells c e (0,0))):
  Rel g (δ.fK .row) (gY κ δ.nx bo) a w'∧j4 (δ.cx g κ) w ((δ.fK .row).cx g (gY κ δ.nx bo)) w':=by
 have hold:∀k,k<w.heap.size→w'.heap[k]? =w.heap[k]?:=hb.block
 have nA:¬δ.live δ.nx:=fun h=>Nat.lt_irrefl _ (r.nx _ h)
 have fW:∀i,δ.live i→δ.nx≠i:=fun i h e=>nA (e▸h)
 have fM:∀i,(δ.fK .row).live i→i=δ.nx∨δ.live i:=by
  intro i ⟨o',h⟩
  rw[fU] at h
  by_cases e:δ.nx=i
  ·exact .inl e.symm
  ·rw[if_neg e] at h;exact .inr ⟨o',h⟩
 have G:j4 (δ.cx g κ) w ((δ.fK .row).cx g (gY κ δ.nx bo)) w':=
  {B:=rfl,size:=hb.size
   N:=fun b h1 h2=>⟨⟨h2.1,fun i hi=>by
    show gY κ δ.nx bo i≠some b
    rcases fM i hi with rfl|hi
    ·simp only[gY,if_true];intro e;have:=(Cv b e).1;omega
    ·simp only[gY,fW i hi,if_false];exact h2.2 i hi⟩,hold b h1⟩
   Lr:=fun i hi=>by
    have kb:=fW i (DS.gA hi)
    refine⟨?_,by show gY _ _ _ i=κ i;simp [gY,kb],fun b hκ=>hold b (r.lo i b (DS.gA hi) hκ).2⟩
    show(δ.fK .row).ob i=_
    rw[fU,if_neg kb];exact hi
   Lb:=fun i hi=>by
    have kb:=fW i (DS.lI hi)
    refine⟨?_,by show gY _ _ _ i=κ i;simp [gY,kb]⟩
    obtain⟨o',h1,h2⟩:=hi
    exact⟨o',by rw[fU,if_neg kb];exact h1,h2⟩}
 refine⟨?_,G⟩
 exact
  {n:=r.n,dfr:=r.dfr.goes fun k _ hk=>hold k (iv hk),env:=fun j=>G.ra (r.env j)
   obj:=fun i o' h=>by
    rw[fU] at h
    by_cases e:δ.nx=i
    ·rw[if_pos e] at h;cases h;subst e
     intro b hκ
     have Da:bo=some b:=by
      have:gY κ δ.nx bo δ.nx=some b:=hκ
      simpa [gY] using this
     exact(Cv b Da).2.2
    ·rw[if_neg e] at h
     exact(r.obj i o' h).goes G (by show gY _ _ _ i=κ i;simp [gY,e]) (fun b hκ=>hold b (r.lo i b ⟨o',h⟩ hκ).2) (fun b hF fm=>⟨hF,hold b fm⟩)
   inj:=fun i j b h1 h2 h3 h4=>by
    rcases fM i h1 with rfl|h1
    ·rcases fM j h2 with rfl|h2
     ·rfl
     ·simp only[gY,if_true] at h3
      simp only[gY,fW j h2,if_false] at h4
      exact absurd (r.lo j _ h2 h4).2 (by have:=(Cv b h3).1;omega)
    ·rcases fM j h2 with rfl|h2
     ·simp only[gY,if_true] at h4
      simp only[gY,fW i h1,if_false] at h3
      exact absurd (r.lo i _ h1 h3).2 (by have:=(Cv b h4).1;omega)
     ·simp only[gY,fW i h1,fW j h2,if_false] at h3 h4
      exact r.inj i j b h1 h2 h3 h4
   lo:=fun i b h1 h2=>by
    rcases fM i h1 with rfl|h1
    ·simp only[gY,if_true] at h2
     have:=Cv b h2
     have:=r.hB
     omega
    ·simp only[gY,fW i h1,if_false] at h2
     have:=r.lo i b h1 h2
     have:=hb.size
     omega
   nx:=fun i h=>by
    show i<δ.nx+1
    rcases fM i h with rfl|h
    ·omega
    ·have:=r.nx i h;omega
   wt:=fun k hk=>⟨fun b xx=>⟨((r.wt k hk).1 b xx).1,(hold b (qK ((r.wt k hk).1 b xx))).trans ((r.wt k hk).1 b xx).2⟩,fun i b hl hi hκ xx=>by
    rcases fM i hl with rfl|kb
    ·simp only[gY,if_true] at hκ
     have:=(Cv b hκ).1
     exact absurd (qK ((r.wt k hk).1 _ xx)) (by omega)
    ·simp only[gY,fW i kb,if_false] at hκ
     refine(r.wt k hk).2 i b kb ?_ hκ xx
     refine hi.imp (fun hi=>?_) id
     have qW:(δ.fK .row).ob i=some .row:=hi
     rw[fU,if_neg (fW i kb)] at qW
     exact qW⟩
   below:=r.below.trans (hb.mono r.hB)
   hB:=Nat.le_trans r.hB hb.size
   N0:=r.N0
   kc:=r.kc
   fr:=r.fr.of hb.size (fun b _ h1 _=>hold b h1) fun i b h1 h2=>by
    rcases fM i h1 with rfl|h1
    ·simp only[gY,if_true] at h2;exact .inr (Cv b h2).1
    ·simp only[gY,fW i h1,if_false] at h2;exact .inl ⟨i,h1,h2⟩}
structure HV (N:Nat→Prop) (w:World) (B:Nat) (v:Value) (e:TypeId) (k:Nat) (e7:List (List PV)):Prop where
 lim:e7.length≤140737488355328
 hk:∀c∈e7,c.length=k
 row:∃xs,w.ownsRow B e k v e7.length xs∧(∀u∈xs,u.oneCell'=true)∧∀i' j p,cellAt e7 i' j=some p→∃u,xs[i'*k+j]? =some u∧RP (fun b=>N b∧v.ownBlock≠some b) w u p
structure J8 (P:Program) (f:FuncId) (args:List AV) (e:TypeId) (k:Nat) (e7:List (List PV)):Prop where
 enters:∀vals w,(callFunc f vals).run P w=.ok (.enter f vals) w
 calls:∀(N:Nat→Prop) (w:World) (vals:Array Value),(∀b,w.heap.size≤b→N b)→vals.size=args.length→
  (∀(j:Nat) (v:Value) (av:AV),vals[j]? =some v→args[j]? =some av→RA (uU N) w v av)→
  Calls P f vals w fun en w'=>∃v,en=.returned v∧Below w.heap.size w w'∧HV N w' w.heap.size v e k e7
theorem a_.M9 {f:FuncId} {xs:List Operand} {tys:Array TypeId} {args:List AV} {e:TypeId} {k:Nat} {e7:List (List PV)} (hf:J8 P f args e k e7) (gf:oC false δ xs args) (hd:fO δ.n dst=true)
  (hK:a_ .plain P g ops rest Q ((δ.fK .row).eS dst (.own δ.nx e k e7))):a_ .plain P g ops (⟨dst,.call {callee:=.value (.func f),args:=xs.toArray,argTypes:=tys},ty,pos,af,none⟩::rest) Q δ:=by
 intro κ a w r0
 show wpListIn _ _ P ops _ (_::rest) a w
 refine gw rfl rfl fun K nb=>?_
 unfold Oper.wW
 rw[iB (f:=f) rfl hf.enters,Oper.uponIn_enter]
 refine⟨fun h=>by simp at h,(ia (hf.calls (fun b=>(δ.cx g κ).N b∨w.heap.size≤b) w _ (fun _ h=> .inr h) (by simp [gf.len]) (gf.J1 r0 (fun _ _ h=> .inl h) (fun h=>by simp at h)))).mono ?_⟩
 rintro en w' ⟨v,rfl,hb,hv⟩
 have Cv:∀b,v.ownBlock=some b→w.heap.size≤b∧b<w'.heap.size∧∃c e,w'.heap[b]? =some (.cells c e (0,0)):=by
  intro b Mj
  obtain⟨xs,⟨_,gF⟩,_⟩:=hv.row
  rcases gF with ⟨rfl,_⟩|⟨b0,cap,cur,rfl,h1,h2,_⟩
  ·cases Mj
  ·cases Mj
   exact⟨h1,(Array.getElem?_eq_some_iff.1 h2).1,cur,e,h2⟩
 obtain⟨r1,G⟩:=r0.Jw hb v.ownBlock Cv
 refine nb _ _ (hK _ _ _ (r1.eS (fi hd) (.own ?_)))
 obtain⟨xs,⟨sD,gF⟩,h1,hx⟩:=hv.row
 refine⟨by show(δ.fK .row).ob _=_;rw[fU,if_pos rfl],hv.lim,hv.hk,fun b Mj=>by show gY _ _ _ _=_;simp [gY,Mj],xs,⟨sD,?_⟩,h1,fun i' j p hp=>?_⟩
 ·rcases gF with h|⟨b0,cap,cur,h2,h3,h4⟩
  ·exact .inl h
  ·exact .inr ⟨b0,cap,cur,h2,Nat.le_trans r0.hB h3,h4⟩
 ·obtain⟨u,hu,hr⟩:=hx i' j p hp
  refine⟨u,hu,hr.mono (Nat.le_refl _) fun b _ hN=>⟨?_,rfl⟩⟩
  have fM:∀i,(δ.fK .row).live i→i=δ.nx∨δ.live i:=by
   intro i ⟨o',h⟩
   rw[fU] at h
   by_cases e:δ.nx=i
   ·exact .inl e.symm
   ·rw[if_neg e] at h;exact .inr ⟨o',h⟩
  have nA:∀i,δ.live i→δ.nx≠i:=fun i h e=>Nat.lt_irrefl _ (r0.nx _ (e▸h))
  refine⟨?_,fun i hi=>?_⟩
  ·rcases hN.1 with h|h
   ·exact h.1
   ·exact r0.A2 h
  ·show gY κ δ.nx v.ownBlock i≠some b
   rcases fM i hi with rfl|hi
   ·simp only[gY,if_true];exact hN.2
   ·simp only[gY,nA i hi,if_false]
    rcases hN.1 with h|h
    ·exact h.2 i hi
    ·intro e
     have:=(r0.lo i b hi e).2
     omega
def HT (P:Program) (rs:List ResultVar) (e:TypeId) (k:Nat) (e7:List (List PV)):Exit→DS→Prop
 |.normal,δ|.ret,δ=>(∃i,gk P δ rs (.own i e k e7))∨(e7=[]∧gk P δ rs (.pv (.lit (.slice none 0 0))))
 |_,_=>False
theorem J8.enter {f:FuncId} {fn:Func} {c:Code} {rs:List ResultVar} {n:Nat} {args:List AV} {e:TypeId} {k:Nat} {e7:List (List PV)} (hf:P.funcs[f]? =some fn) (hb:fn.body=some c) (sI:fn.results=rs.toArray) (hn:fn.ntmps=n) (Cb:Nat.ble args.length n=true)
  (pH:Nat.ble n HS=true) (he:(fn.name== "runtime.NumGoroutine")=false) (h:∀g:eR,g.ro=none→g.wt=none→AW P g c (HT P rs e k e7) (start n args)):J8 P f args e k e7:=by
 refine⟨fun vals w=>by simp [callFunc,hf,hb];simpa using he,fun N w vals hN hs gf=>?_⟩
 have hle:args.length≤n:=by simpa using Cb
 have KE:n≤HS:=by simpa using pH
 let g:eR:={B:=w.heap.size,w0:=w,N0:=N,held:=fun _=>undef,ro:=none,mks:=[],wt:=none,fr:=fun _=>False,w1:=w}
 have nA:∀i,¬(start n args).live i:=fun i ⟨o,h⟩=>by cases h
 refine callsIn_wide.1 (callsIn_of_wp_marks (n:=0) hf hb trivial (wpIn_mono (h g rfl rfl ⟨fun _=>none,fun _ _=>False⟩ _ w ?_) ?_))
 ·exact
  {n:=by simp [hn,start];omega
   dfr:=⟨[],rfl,by simp [g],by simp [g]⟩
   env:=fun j=>by
    by_cases hj:j<args.length
    ·have h1:(start n args).get j=args[j]:=mH args 0 j _ (Nat.zero_le _) (by simp [hj])
     have h2:g.val {tmps:=vals++Array.replicate (fn.ntmps - vals.size) undef,defers:=[]} j=vals[j]'(by omega):=by
      unfold eR.val
      rw[if_pos aJ]
      simp [Array.getD_eq_getD_getElem?,Array.getElem?_append,hs,hj]
     rw[h1,h2]
     exact(gf j _ _ (Array.getElem?_eq_getElem aJ) (List.getElem?_eq_getElem hj)).sR _ fun b _ h=>⟨⟨h,fun⟨_,h⟩=>h⟩,fun i hi=>absurd hi (nA i)⟩
    ·have h1:(start n args).get j=.any:=jb args 0 j (by omega)
     rw[h1];exact .any _
   obj:=fun i o h=>by cases h
   inj:=fun i j b h=>absurd h (nA i)
   lo:=fun i b h=>absurd h (nA i)
   nx:=fun i h=>absurd h (nA i)
   wt:=fun k hk=>by cases hk
   below:=Below.refl _ _
   hB:=Nat.le_refl _
   N0:=fun b h _=>hN b h
   fr:=⟨fun b hb=>hb.elim,fun i b hb=>hb.elim⟩
   kc:=fun d hd=>by cases hd}
 ·rintro ex a' w' ⟨δ',κ',hq,r'⟩
  have fin:∀i,gk P δ' rs (.own i e k e7)→LeavesInM Fence.wide 0 P fn a'.tmps (fun en w'=>∃v,en=.returned v∧Below w.heap.size w w'∧HV N w' w.heap.size v e k e7) a'.defers .returning w':=by
   intro i h1
   exact leaves (g:=g) rfl rfl sI h1 r' (fun w2 r2 u hu=>by
    have ho:=hu.iW
    refine⟨u,rfl,r2.below,ho.lim,ho.hk,?_⟩
    obtain⟨xs,h3,h4,h5⟩:=ho.row
    refine⟨xs,h3,h4,fun i' j p hp=>?_⟩
    obtain⟨v,hv,hr⟩:=h5 i' j p hp
    refine⟨v,hv,hr.mono (Nat.le_refl _) fun b _ hN=>⟨⟨hN.1.1,fun hb=>?_⟩,rfl⟩⟩
    exact hN.2 i (DS.gA ho.live) (ho.wI b hb))
  have finN:e7=[]→gk P δ' rs (.pv (.lit (.slice none 0 0)))→LeavesInM Fence.wide 0 P fn a'.tmps (fun en w'=>∃v,en=.returned v∧Below w.heap.size w w'∧HV N w' w.heap.size v e k e7) a'.defers .returning w':=by
   intro h0 h1
   exact leaves (g:=g) rfl rfl sI h1 r' (fun w2 r2 u hu=>by
    have hu:=hu.lit
    subst hu
    subst h0
    exact⟨_,rfl,r2.below,by simp,fun c hc=>by simp at hc,[],World.ownsRow_nil _ _ _ _,fun u hu=>by simp at hu,fun i' j p hp=>by simp [cellAt] at hp⟩)
  cases ex with
  |normal=>
   rcases hq with ⟨i,h1⟩|⟨h0,h1⟩
   ·exact fin i h1
   ·exact finN h0 h1
  |ret=>
   rcases hq with ⟨i,h1⟩|⟨h0,h1⟩
   ·exact fin i h1
   ·exact finN h0 h1
  |_=>exact hq.elim
theorem iU {rs:List ResultVar} {i:Nat} {e:TypeId} {k:Nat} {e7 els':List (List PV)} (h:gk P δ rs (.own i e k els')) (he:els'=e7):HT P rs e k e7 .ret δ:=.inl ⟨i,he▸h⟩
theorem mI {rs:List ResultVar} {e:TypeId} {k:Nat} {e7:List (List PV)} (h:gk P δ rs (.pv (.lit (.slice none 0 0)))) (he:e7=[]):HT P rs e k e7 .ret δ:=.inr ⟨he,h⟩
theorem WV.Ip {δ δ':DS} {k:Nat} {e7:List (List PV)} (h:e7=[]):WV δ δ' (.pv (.lit (.slice none 0 0))) (.pv (.slice k e7)):=by rw[h];exact .nilpv k
end Go.Ab
/- A callee that takes one value out of a row of one-cell values in place:Go's slices.Delete. -/
namespace Go.Ab
open Go Go.RowKit
variable {P:Program} {g:eR} {δ:DS} {κ:Kp} {a:Act} {w:World}
structure NL (P:Program) (f:FuncId) (z:Value):Prop where
 enters:∀vals w,(callFunc f vals).run P w=.ok (.enter f vals) w
 calls:∀(b cap i:Nat) (us:List Value) (w:World),Sort.Holds (fun u:Value=>u) w b 0 us.toArray→(∀u∈us,u.oneCell'=true)→us.length≤cap→cap≤maxLen→i<us.length→
  Calls P f #[.slice (some ⟨b,0,none⟩) us.length cap,.int .i64 i,.int .i64 (i+1)] w fun e w'=>e=.returned (.slice (some ⟨b,0,none⟩) (us.length - 1) cap)∧
   ∃n,w'=Sort.putRow (fun u:Value=>u) (Sort.ahead w n) b 0 (us.take i++us.drop (i+1)++ [z]).toArray
theorem zM {w:World} {b n:Nat} {c:Array Value} {e:TypeId} {d:Array Value} (h:w.heap[b]? =some (.cells c e (0,0))):
  (Sort.putRow (fun u:Value=>u) (Sort.ahead w n) b 0 d).heap[b]? =some (.cells (Sort.putCells (fun u:Value=>u) 0 d c) e (0,0)):=by
 unfold Sort.putRow Sort.mapBlock Sort.ahead
 simp only
 rw[Array.getElem?_modify,if_pos rfl,h]
 rfl
theorem xm (w:World) (b n:Nat) (d:Array Value):ir w (Sort.putRow (fun u:Value=>u) (Sort.ahead w n) b 0 d) (some b):=
 ⟨rfl,rfl,rfl,by simp [Sort.putRow,Sort.mapBlock,Sort.ahead],fun k hk fW=>by
  unfold Sort.putRow Sort.mapBlock Sort.ahead
  simp only
  rw[Array.getElem?_modify,if_neg (fun e=>fW (by rw[e]))]⟩
theorem wU {c:Array Value} {d:List Value} {m:Nat} (hc:d.length≤c.size) (hm:m≤d.length):(Sort.putCells (fun u:Value=>u) 0 d.toArray c).toList.take m=d.take m:=by
 apply List.ext_getElem
 ·simp [Sort.putCells];omega
 ·intro j h1 h2
  have hj:j<d.length:=by simp at h2;omega
  simp [Sort.putCells,hj]
theorem x4 {α:Type} {l:List α} {i j:Nat}:(l.take i++l.drop (i+1))[j]? =if j<i then l[j]? else l[j+1]?:=by
 by_cases h:i≤l.length
 ·by_cases hj:j<i
  ·rw[if_pos hj,List.getElem?_append_left (by rw[List.length_take];omega),List.getElem?_take,if_pos hj]
  ·rw[if_neg hj,List.getElem?_append_right (by rw[List.length_take];omega),List.length_take,Nat.min_eq_left h,List.getElem?_drop]
   congr 1;omega
 ·have h1:l.take i=l:=List.take_of_length_le (by omega)
  have h2:l.drop (i+1)=[]:=List.drop_eq_nil_of_le (by omega)
  rw[h1,h2,List.append_nil]
  by_cases hj:j<i
  ·rw[if_pos hj]
  ·rw[if_neg hj,List.getElem?_eq_none aJ,List.getElem?_eq_none aJ]
variable {ops:Array Oper} {rest:List Oper} {Q:Exit→DS→Prop} {dst:Option Nat} {ty:TypeId} {pos:String} {af:Array Edge} {gd:Option (Tmp×Bool)}
theorem iO.NN {f:FuncId} {zv:Value} {x y z:Operand} {tys:Array TypeId} (hf:NL P f zv) {r i:Nat} {e:TypeId} {e7:List (List PV)} {m:Int} (hx:δ.ev x=.own r e 1 e7) (hy:δ.ev y=eV (i:Nat)) (hz:δ.ev z=eV m) (hr:δ.ob r=some .row)
  (ho:ff x=true) (fZ:ff y=true) (oA:ff z=true) (hd:fO δ.n dst=true) (hm:m=(i:Int)+1) (hi:i<e7.length):
  iO P g ⟨dst,.call {callee:=.value (.func f),args:= #[x,y,z],argTypes:=tys},ty,pos,af,none⟩ δ ((δ.gG (AV.kill r)).eS dst (.own r e 1 (e7.take i++e7.drop (i+1)))):=by
 subst hm
 intro κ a w rl
 right
 have xo:=(rl.ra hx ho).iW
 have vW:a.eval y=.int .i64 (i:Nat):=rl.lit hy fZ
 have Uf:a.eval z=.int .i64 ((i:Int)+1):=rl.lit hz oA
 have fu:=iB (dst:=dst) (ty:=ty) (pos:=pos) (af:=af) (xs:= #[x,y,z]) (tys:=tys) (ρ:=a.eval) (x:=.func f) (f:=f) rfl hf.enters w
 have mb:e7.length≤140737488355328:=xo.lim
 refine⟨f, #[a.eval x,a.eval y,a.eval z],by simpa using fu,?_⟩
 obtain⟨xs,⟨hl,gF⟩,o9,lj⟩:=xo.row
 rw[Nat.mul_one] at hl
 rcases gF with ⟨_,h0⟩|⟨b,cap,c,hv,hB,hb,mM,nk,pk,rL⟩
 ·exfalso;omega
 ·have hκ:κ r=some b:=xo.wI b (by rw[hv];rfl)
  rw[hv,vW,Uf]
  have Qq:b<w.heap.size:=(Array.getElem?_eq_some_iff.1 hb).1
  rw[Nat.mul_one] at pk rL
  have hold:Sort.Holds (fun u:Value=>u) w b 0 xs.toArray:=by
   intro j hj
   have ng:j<xs.length:=by simpa using hj
   refine⟨?_,by rw[Nat.zero_add];exact nS hb _⟩
   rw[Nat.zero_add,cell_of hb]
   have h1:(c.toList.take e7.length)[j]? =xs[j]?:=by rw[rL]
   rw[List.getElem?_take,if_pos aJ,Array.getElem?_toList,List.getElem?_eq_getElem ng] at h1
   rw[h1]
   simp [ng]
  rw[← hl]
  refine(hf.calls b cap i xs w hold o9 aJ nk aJ).mono fun e' w' ⟨he,n,iP⟩=>?_
  obtain⟨d,uH⟩:∃d,d=xs.take i++xs.drop (i+1):=⟨_,rfl⟩
  have Ap:d.length=xs.length - 1:=by rw[uH];simp;omega
  rw[← uH] at iP
  have hh:w'.heap[b]? =some (.cells (Sort.putCells (fun u:Value=>u) 0 (d++ [zv]).toArray c) e (0,0)):=by rw[iP];exact zM hb
  have mZ:(Sort.putCells (fun u:Value=>u) 0 (d++ [zv]).toArray c).size=c.size:=by simp [Sort.putCells]
  have H_:=wU (c:=c) (d:=d++ [zv]) (m:=d.length) (by simp;omega) (by simp)
  rw[List.take_left] at H_
  obtain⟨rk,G⟩:=rl.row hr (κ':=κ) (w':=w') (fun _ _=>rfl) (by rw[hκ,iP];exact xm _ _ _ _) (fun b' ja=>by
   obtain rfl:b=b':=Option.some.inj (hκ.symm.trans ja)
   exact⟨.inl hκ,(Array.getElem?_eq_some_iff.1 hh).1,_,_,hh⟩) (AV.kill r) rfl (fun G v av h=>h.kill G)
  have PQ:(e7.take i++e7.drop (i+1)).length=d.length:=by rw[Ap];simp;omega
  refine⟨_,κ,he,rk.eS (fi hd) (.own ⟨?_,by omega,fun c hc=>?_,fun b' ja=>?_,d,⟨by rw[Nat.mul_one];exact PQ.symm,.inr ⟨b,cap,_,?_,hB,hh,?_,nk,?_,?_⟩⟩,fun u hu=>?_,fun i' j p hp=>?_⟩)⟩
  ·show(δ.gG (AV.kill r)).ob r=some .row
   rw[j_,hr];rfl
  ·rcases List.mem_append.1 hc with hc|hc
   ·exact xo.hk c (List.mem_of_mem_take hc)
   ·exact xo.hk c (List.mem_of_mem_drop hc)
  ·cases ja;exact hκ
  ·rw[PQ,Ap]
  ·rw[PQ];omega
  ·rw[mZ,Nat.mul_one];exact pk
  ·rw[PQ,Nat.mul_one];exact H_
  ·rw[uH] at hu
   rcases List.mem_append.1 hu with hu|hu
   ·exact o9 u (List.mem_of_mem_take hu)
   ·exact o9 u (List.mem_of_mem_drop hu)
  ·have l9:cellAt e7 (if i'<i then i' else i'+1) j=some p:=by
    unfold cellAt at hp ⊢
    rw[x4] at hp
    split at hp
    ·rename_i h;rw[if_pos h];exact hp
    ·rename_i h;rw[if_neg h];exact hp
   obtain⟨u,hu,MK⟩:=lj _ j p l9
   have hj:j=0:=by
    unfold cellAt at l9
    rw[Option.bind_eq_some_iff] at l9
    obtain⟨c,Dq,PD⟩:=l9
    have:=xo.hk c (List.mem_of_getElem? Dq)
    have:=(List.getElem?_eq_some_iff.1 PD).1
    omega
   subst hj
   refine⟨u,?_,G.rp (C:=(δ.cx g κ).less r) MK⟩
   rw[Nat.mul_one,Nat.add_zero] at hu ⊢
   rw[uH,x4]
   split at hu
   ·rename_i h;rw[if_pos h];exact hu
   ·rename_i h;rw[if_neg h];exact hu
theorem a_.NN {f:FuncId} {zv:Value} {x y z:Operand} {tys:Array TypeId} (hf:NL P f zv) {α:Type} {h:α→List PV} {l:List α} {r i:Nat} {e:TypeId} {m:Int} (hx:δ.ev x=.own r e 1 (l.map h)) (hy:δ.ev y=eV (i:Nat)) (hz:δ.ev z=eV m) (hr:δ.ob r=some .row)
  (ho:ff x=true) (fZ:ff y=true) (oA:ff z=true) (hd:fO δ.n dst=true) (hm:m=(i:Int)+1) (hi:i<l.length) (hK:a_ .plain P g ops rest Q ((δ.gG (AV.kill r)).eS dst (.own r e 1 ((l.eraseIdx i).map h)))):
  a_ .plain P g ops (⟨dst,.call {callee:=.value (.func f),args:= #[x,y,z],argTypes:=tys},ty,pos,af,none⟩::rest) Q δ:=
 a_.r_ rfl rfl (iO.NN hf hx hy hz hr ho fZ oA hd hm (by simpa using hi)) (by
  have e1:(l.map h).take i++(l.map h).drop (i+1)=(l.eraseIdx i).map h:=by rw[List.eraseIdx_eq_take_drop_succ,List.map_append,List.map_take,List.map_drop]
  rw[e1];exact hK)
end Go.Ab
/- Eight values laid out. -/
namespace Go.Ab
open Go Go.RowKit
variable {q:Md} {P:Program} {g:eR} {δ:DS} {κ:Kp} {a:Act} {w:World}
variable {ops:Array Oper} {rest:List Oper} {Q:Exit→DS→Prop} {dst:Option Nat} {ty:TypeId} {pos:String} {af:Array Edge}
end Go.Ab
/- Values of interface type,type switches;a string appended to a row of bytes. -/
namespace Go.Ab
open Go Go.RowKit
variable {q:Md} {P:Program} {g:eR} {δ:DS} {κ:Kp} {a:Act} {w:World}
variable {ops:Array Oper} {rest:List Oper} {Q:Exit→DS→Prop} {dst:Option Nat} {ty:TypeId} {pos:String} {af:Array Edge}
section ints
variable {x y:Operand} {t t':TypeId} {m n:Int} {k:IntKind} (hx:δ.ev x=.pv (.lit (.int k m))) (hy:δ.ev y=.pv (.lit (.int k n))) (ho:ff x=true) (fZ:ff y=true) (hd:fO δ.n dst=true)
include hx hy ho fZ hd
end ints
end Go.Ab
/- The last bit of a number turned;objects renumbered ahead of a region. -/
namespace Go.Ab
open Go Go.RowKit
variable {P:Program} {g:eR} {δ:DS} {q:Md}
variable {ops:Array Oper} {rest:List Oper} {Q:Exit→DS→Prop} {dst:Option Nat} {ty:TypeId} {pos:String} {af:Array Edge}
end Go.Ab
/- Any number of values of one cell laid out. -/
namespace Go.Ab
open Go Go.RowKit
variable {q:Md} {P:Program} {g:eR} {δ:DS} {κ:Kp} {a:Act} {w:World}
variable {ops:Array Oper} {rest:List Oper} {Q:Exit→DS→Prop} {dst:Option Nat} {ty:TypeId} {pos:String} {af:Array Edge}
inductive Qo (δ:DS):Nat→List (Nat×Operand)→List PV→Prop
 |nil {i:Nat}:Qo δ i [] []
 |cons {i:Nat} {x:Operand} {p:PV} {ps:List PV} {r:List (Nat×Operand)} (h:δ.ev x=.pv p) (h1:AV.one (.pv p)=true) (ho:ff x=true) (hr:Qo δ (i+1) r ps):Qo δ i ((i,x)::r) (p::ps)
theorem Qo.ok {δ:DS} {i:Nat} {parts:List (Nat×Operand)} {ps:List PV} (h:Qo δ i parts ps):parts.all (fun p=>ff p.2)=true:=by
 induction h with
 |nil=>rfl
 |cons h h1 ho hr ih=>simp [ho,ih]
end Go.Ab
/- Pools:rows of one-cell values,reached by slices that are told whole. -/
namespace Go.Ab
open Go Go.RowKit
variable {q:Md} {P:Program} {g:eR} {δ:DS} {κ:Kp} {a:Act} {w:World}
variable {ops:Array Oper} {rest:List Oper} {Q:Exit→DS→Prop} {dst:Option Nat} {ty:TypeId} {pos:String} {af:Array Edge} {gd:Option (Tmp×Bool)}
abbrev kf:=Nat→Value×List Value
def nh (rows:kf) (k:Nat) (p:Value×List Value):kf:=fun j=>if j=k then p else rows j
def iY (m:Nat):Value→Value
 |.slice a _ c=> .slice a m c
 |v=>v
def mO (n:Nat):Value→Value
 |.slice (some ⟨b,o,x⟩) _ _=> .pointer (some ⟨b,o+n,x⟩)
 |v=>v
theorem qJ {w:World} {B:Nat} {e:TypeId} {v:Value} {n:Nat} {xs:List Value} (h:w.ownsRow B e 1 v n xs) {b:Nat} (hb:v.ownBlock=some b):∃cur,w.heap[b]? =some (.cells cur e (0,0))∧B≤b:=by
 rcases h.2 with ⟨rfl,_⟩|⟨b',cap,cur,rfl,h1,h2,_⟩
 ·cases hb
 ·cases hb;exact⟨cur,h2,h1⟩
theorem DS.Jx {δ:DS} {i:Nat} {o o':Ob} (ho:δ.ob i=some o) (j:Nat):(δ.ga i (some o')).live j↔δ.live j:=by
 unfold DS.live
 rw[jw]
 by_cases e:i=j
 ·subst e;simp [ho]
 ·simp [e]
theorem Rel.nW (r:Rel g δ κ a w) {i:Nat} {e:TypeId} {rows:kf} (ho:δ.ob i=some (.e8 e rows)) {k:Nat} {w':World} (t:ir w w' (rows k).1.ownBlock) {v':Value} {ys:List Value}
  (gF:w'.ownsRow g.B e 1 v' ys.length ys) (hl:ys.length≤140737488355328) (h1:∀u∈ys,u.oneCell'=true) (vk:∀b,v'.ownBlock=some b→(rows k).1.ownBlock=some b∨w.heap.size≤b):
  ∃κ',Rel g (δ.ga i (some (.e8 e (nh rows k (v',ys))))) κ' a w'∧j4 (δ.cx g κ) w ((δ.ga i (some (.e8 e (nh rows k (v',ys))))).cx g κ') w':=by
 obtain⟨Cq,xZ,yz⟩:=r.obj i _ ho
 have hi:δ.live i:=⟨_,ho⟩
 have hF:∀kk b,(rows kk).1.ownBlock=some b→κ.F i b:=fun kk b hb=>(xZ kk).2.2.1 b hb
 have Tt:∀b,κ.Fs b→b<w.heap.size:=fun b hb=>r.fr.EB hb
 have fM:=fun j=>DS.Jx (o':=.e8 e (nh rows k (v',ys))) ho j
 have m_:∀j,(δ.ga i (some (.e8 e (nh rows k (v',ys))))).lr j↔δ.lr j:=by
  intro j
  unfold DS.lr
  rw[jw]
  by_cases e':i=j
  ·subst e';rw[if_pos rfl,ho];simp
  ·simp [e']
 have u7:∀j,δ.lb j→(δ.ga i (some (.e8 e (nh rows k (v',ys))))).lb j:=by
  rintro j ⟨o,h2,h3⟩
  unfold DS.lb
  rw[jw]
  by_cases e':i=j
  ·subst e';rw[if_pos rfl];exact⟨_,rfl,rfl⟩
  ·rw[if_neg e'];exact⟨o,h2,h3⟩
 have oa:∀b,b<w.heap.size→¬(rows k).1.ownBlock=some b→w'.heap[b]? =w.heap[b]?:=fun b h2 h3=>t.block b h2 h3
 have Tv:∀b,b<w.heap.size→¬κ.Fs b→w'.heap[b]? =w.heap[b]?:=fun b h2 h3=>oa b h2 fun h4=>h3 ⟨i,hF k b h4⟩
 have hv'lt:∀b,v'.ownBlock=some b→b<w'.heap.size∧g.B≤b:=fun b hb=>let ⟨_,h2,h3⟩:=qJ gF hb;⟨iv h2,h3⟩
 let κ':Kp:=⟨κ.f,fun j b=>κ.F j b∨(j=i∧v'.ownBlock=some b)⟩
 have hold:∀j b,κ'.F j b→b<w.heap.size→κ.F j b:=by
  rintro j b (h2|⟨rfl,h2⟩) h3
  ·exact h2
  ·rcases vk b h2 with h4|h4
   ·exact hF k b h4
   ·omega
 have G:j4 (δ.cx g κ) w ((δ.ga i (some (.e8 e (nh rows k (v',ys))))).cx g κ') w':=
  {B:=rfl,size:=t.size
   N:=fun b h2 h3=>⟨⟨⟨h3.1.1,fun⟨j,hj⟩=>h3.1.2 ⟨j,hold j b hj h2⟩⟩,fun j hj=>h3.2 j ((fM j).1 hj)⟩,Tv b h2 h3.1.2⟩
   Lr:=fun j hj=>⟨(m_ j).2 hj,rfl,fun b hb=>Tv b (r.lo j b (DS.gA hj) hb).2 (r.fr.mP (DS.gA hj) hb)⟩
   Lb:=fun j hj=>⟨u7 j hj,rfl⟩}
 refine⟨κ',?_,G⟩
 exact
  {n:=r.n
   dfr:=r.dfr.goes fun b _ hb=>oa b (iv hb) fun h2=>by
    obtain⟨cur,h3,_⟩:=qJ (xZ k).1 h2
    rw[hb] at h3;cases h3
   env:=fun j=>G.ra (r.env j)
   obj:=fun j x h=>by
    rw[jw] at h
    by_cases e':i=j
    ·subst e'
     rw[if_pos rfl] at h
     cases h
     refine⟨Cq,fun kk=>?_,fun k1 k2 b h2 h3=>?_⟩
     ·unfold nh
      by_cases hk:kk=k
      ·rw[if_pos hk];exact⟨gF,hl,fun b hb=> .inr ⟨rfl,hb⟩,h1⟩
      ·rw[if_neg hk]
       exact(xZ kk).goes rfl fun b hb h2 h3=>⟨.inl h2,oa b h3 fun h4=>hk (yz kk k b hb h4)⟩
     ·unfold nh at h2 h3
      by_cases EJ:k1=k
      ·by_cases rE:k2=k
       ·rw[EJ,rE]
       ·rw[if_pos EJ] at h2
        rw[if_neg rE] at h3
        rcases vk b h2 with h4|h4
        ·exact EJ.trans (yz k k2 b h4 h3)
        ·exact absurd (Tt b ⟨i,hF k2 b h3⟩) (by omega)
      ·by_cases rE:k2=k
       ·rw[if_neg EJ] at h2
        rw[if_pos rE] at h3
        rcases vk b h3 with h4|h4
        ·exact(yz k1 k b h2 h4).trans rE.symm
        ·exact absurd (Tt b ⟨i,hF k1 b h2⟩) (by omega)
       ·rw[if_neg EJ] at h2
        rw[if_neg rE] at h3
        exact yz k1 k2 b h2 h3
    ·rw[if_neg e'] at h
     exact(r.obj j x h).goes G rfl (fun b hb=>Tv b (r.lo j b ⟨x,h⟩ hb).2 (r.fr.mP ⟨x,h⟩ hb)) fun b h2 h3=>⟨.inl h2,oa b h3 fun h4=>e' ((r.fr.2 j b h2).2.2.2.2 i (hF k b h4))⟩
   inj:=fun i' j b h2 h3=>r.inj i' j b ((fM i').1 h2) ((fM j).1 h3)
   lo:=fun j b h2 h3=>by have:=r.lo j b ((fM j).1 h2) h3;exact⟨this.1,Nat.lt_of_lt_of_le this.2 t.size⟩
   nx:=fun j h=>r.nx j ((fM j).1 h)
   wt:=fun kk hk=>⟨fun b hb=>⟨((r.wt kk hk).1 b hb).1,(oa b (qK ((r.wt kk hk).1 b hb)) (fun h4=>(r.fr.2 i b (hF k b h4)).1.2 kk hk hb)).trans ((r.wt kk hk).1 b hb).2⟩,fun j b hj vM=>(r.wt kk hk).2 j b ((fM j).1 hj) (vM.imp (m_ j).1 id)⟩
   below:=r.rC t (fun b hb=>(r.fr.2 i b (hF k b hb)).1.1)
   hB:=Nat.le_trans r.hB t.size
   N0:=r.N0
   kc:=r.kc
   fr:=by
    refine⟨fun b hb=>?_,fun j b hb=>?_⟩
    ·obtain⟨h2,h3,h4⟩:=r.fr.1 b hb
     refine⟨h2,(Tv b (r.fr.Au hb) fun⟨j,hj⟩=>(r.fr.2 j b hj).2.2.1 hb).trans h3,fun j hj=>h4 j ((fM j).1 hj)⟩
    ·have SQ:κ.F j b∨(j=i∧v'.ownBlock=some b∧w.heap.size≤b):=by
      rcases hb with h2|⟨rfl,h2⟩
      ·exact .inl h2
      ·rcases vk b h2 with h3|h3
       ·exact .inl (hF k b h3)
       ·exact .inr ⟨rfl,h2,h3⟩
     rcases SQ with h2|⟨rfl,h2,h3⟩
     ·obtain⟨h4,h5,h6,h7,h8⟩:=r.fr.2 j b h2
      exact⟨h4,Nat.lt_of_lt_of_le h5 t.size,h6,fun j' ng=>h7 j' ((fM j').1 ng),fun j' ng=>h8 j' (hold j' b ng h5)⟩
     ·refine⟨⟨(hv'lt b h2).2,fun kk hk hb=>by have:=qK ((r.wt kk hk).1 b hb);omega⟩,(hv'lt b h2).1,fun h4=>?_,fun j' ng h4=>?_,fun j' ng=>?_⟩
      ·have:=r.fr.Au h4;omega
      ·have:=r.lo j' b ((fM j').1 ng) h4;omega
      ·rcases ng with h4|⟨rfl,_⟩
       ·have:=Tt b ⟨j',h4⟩;omega
       ·rfl}
theorem gS (r:Rel g δ κ a w) {i:Nat} {e:TypeId} {rows:kf} (ho:δ.ob i=some (.e8 e rows)) (k:Nat):w.ownsRow g.B e 1 (rows k).1 (rows k).2.length (rows k).2:=((r.obj i _ ho).2.1 k).1
theorem Ku (r:Rel g δ κ a w) {i:Nat} {e:TypeId} {rows:kf} (ho:δ.ob i=some (.e8 e rows)) {k b:Nat} (hb:(rows k).1.ownBlock=some b):b<w.heap.size∧∀j,δ.lr j→κ j≠some b:=by
 have hF:=((r.obj i _ ho).2.1 k).2.2.1 b hb
 exact⟨r.fr.EB ⟨i,hF⟩,fun j hj e=>r.fr.mP (DS.gA hj) e ⟨i,hF⟩⟩
theorem a_.Hm {x:Operand} {t e':TypeId} (i k:Nat) {e:TypeId} {rows:kf} {H:Value} {ys:List Value} (ho:δ.ob i=some (.e8 e rows)) (hk:rows k=(H,ys)) (hx:δ.ev x=.pv (.lit H)) (ht:P.underlying t=some (.slice e')) (kH:ff x=true) (hd:fO δ.n dst=true)
  (hK:a_ q P g ops rest Q (δ.eS dst (eV (ys.length:Nat)))):a_ q P g ops (⟨dst,.call {callee:=.builtin .len,args:= #[x],argTypes:= #[t]},ty,pos,af,none⟩::rest) Q δ:=
 a_.jc _ hd (fun κ a w r=>by
  have h0:=gS r ho k
  rw[hk] at h0
  simp only at h0
  have hv:a.eval x=H:=r.lit hx kH
  rcases h0.2 with ⟨h1,h2⟩|⟨b,cap,cur,h1,_⟩
  ·exact⟨_,fun w' _=>run_len_slice ht x a.eval none _ 0 (hv.trans (by rw[h1,h2])) w',.pv (.lit _)⟩
  ·exact⟨_,fun w' _=>run_len_slice ht x a.eval _ _ cap (hv.trans h1) w',.pv (.lit _)⟩) hK
theorem a_.DL {x y:Operand} {t e':TypeId} (i k:Nat) {n:Nat} {ik:IntKind} {e:TypeId} {rows:kf} {H:Value} {ys:List Value} (ho:δ.ob i=some (.e8 e rows)) (hk:rows k=(H,ys)) (hx:δ.ev x=.pv (.lit H)) (hy:δ.ev y=.pv (.lit (.int ik (n:Int)))) (hn:n<ys.length)
  (ht:P.underlying t=some (.slice e')) (hs:(P.info? e').map (·.size)=some 1) (kH:ff x=true) (kv:ff y=true) (hd:fO δ.n dst=true)
  (hK:a_ q P g ops rest Q (δ.eS dst (.pv (.lit (mO n H))))):a_ q P g ops (⟨dst,.indexAddr t x y,ty,pos,af,none⟩::rest) Q δ:=
 a_.jc _ hd (fun κ a w r=>by
  have h0:=gS r ho k
  rw[hk] at h0
  simp only at h0
  have hv:a.eval x=H:=r.lit hx kH
  rcases h0.2 with ⟨h1,h2⟩|⟨b,cap,cur,h1,_⟩
  ·exfalso;omega
  ·subst h1
   refine⟨_,fun w' _=>?_,.pv (.lit _)⟩
   have:=iq (dst:=dst) (ty:=ty) (pos:=pos) (af:=af) ht hs hv (r.lit hy kv) hn w'
   rw[Nat.mul_one] at this
   exact this) hK
theorem a_.F0 {x:Operand} {t:TypeId} (i k:Nat) {n:Nat} {e:TypeId} {rows:kf} {H u:Value} {ys:List Value} (ho:δ.ob i=some (.e8 e rows)) (hk:rows k=(H,ys)) (hx:δ.ev x=.pv (.lit (mO n H))) (hu:ys[n]? =some u)
  (ht:jW P t=true) (kH:ff x=true) (hd:fO δ.n dst=true) (hq:q≠ .held) (hK:a_ q P g ops rest Q (δ.eS dst (.pv (.lit u)))):a_ q P g ops (⟨dst,.load t x,ty,pos,af,none⟩::rest) Q δ:=
 a_.O_ _ hq rfl rfl hd (fun κ a w r=>by
  have h0:=gS r ho k
  have fm:=fun b hb=>Ku r ho (k:=k) (b:=b) hb
  rw[hk] at h0 fm
  simp only at h0 fm
  have hv:a.eval x=mO n H:=r.lit hx kH
  have nA:n<ys.length:=(List.getElem?_eq_some_iff.1 hu).1
  have VR:=h0
  rcases h0.2 with ⟨h1,h2⟩|⟨b,cap,cur,h1,_⟩
  ·exfalso;omega
  ·subst h1
   have h3:=VR.cellAt (n*1) (by omega)
   rw[Nat.mul_one] at h3
   have x5:a.eval x=.pointer (some ⟨b,n,none⟩):=hv.trans (by simp [mO])
   obtain⟨h4,h5⟩:=fm b rfl
   exact⟨u,fun w' iP=>kr ht x5 ((iP.cell (p:=⟨b,n,none⟩) h4).trans (h3.trans hu)),.pv (.lit _)⟩) hK
theorem iO.q9 {x y:Operand} {t:TypeId} (i k:Nat) {n:Nat} {e:TypeId} {rows:kf} {H u:Value} {ys:List Value} (ho:δ.ob i=some (.e8 e rows)) (hk:rows k=(H,ys)) (hx:δ.ev x=.pv (.lit (mO n H))) (hn:n<ys.length) (hy:δ.ev y=.pv (.lit u))
  (hu:u.oneCell'=true) (ht:(P.info? t).map (·.size)=some 1) (kH:ff x=true) (kv:ff y=true) (hd:fO δ.n dst=true):
  iO P g ⟨dst,.store t x y,ty,pos,af,gd⟩ δ ((δ.ga i (some (.e8 e (nh rows k (H,ys.set n u))))).eS dst .any):=by
 intro κ a w r
 have h0:=gS r ho k
 have hl:=((r.obj i _ ho).2.1 k).2.1
 have xX:=((r.obj i _ ho).2.1 k).2.2.2
 rw[hk] at h0 hl xX
 simp only at h0 hl xX
 have hv:a.eval x=mO n H:=r.lit hx kH
 have vW:a.eval y=u:=r.lit hy kv
 rcases h0.2 with ⟨h1,h2⟩|⟨b,cap,cur,h1,hB,h3,hle,Cn,pk,rL⟩
 ·exfalso;omega
 ·subst h1
  have x5:a.eval x=.pointer (some ⟨b,n,none⟩):=hv.trans (by simp [mO])
  have fu:(execOp a.eval ⟨dst,.store t x y,ty,pos,af,gd⟩).run P w=.ok .skip (w.setCell ⟨b,n,none⟩ u):=by
   obtain⟨i0,ju,l5⟩:∃i0,P.info? t=some i0∧i0.size=1:=by
    cases h:P.info? t with
    |none=>rw[h] at ht;simp at ht
    |some i0=>rw[h] at ht;exact⟨i0,rfl,by simpa using ht⟩
   have hc:w.cell? ⟨b,n,none⟩=some (cur[n]'(by omega)):=by rw[cell_of h3,Array.getElem?_eq_getElem aJ]
   have jn:(store ⟨b,n,none⟩ u).run P w=.ok () (w.setCell ⟨b,n,none⟩ u):=by
    rw[run_store P w _ _ _ hu,hc];simp [nS h3]
   simp [execOp,Instr.storeAt,Instr.sureAddr,storeVar,x5,vW,mK hu,sizeOf,typeInfo,ju,l5,storeCells,addr_add,jn]
  have iQ:(rows k).1.ownBlock=some b:=by rw[hk];rfl
  obtain⟨κ',r',_⟩:=r.nW ho (k:=k) (w':=w.setCell ⟨b,n,none⟩ u) (by rw[iQ];exact ir.setCell w ⟨b,n,none⟩ u) (v':=.slice (some ⟨b,0,none⟩) ys.length cap) (ys:=ys.set n u)
   (by
    rw[List.length_set]
    refine⟨by simp,.inr ⟨b,cap,_,rfl,hB,kT h3 _,hle,Cn,by simpa using pk,?_⟩⟩
    rw[Nat.mul_one] at rL ⊢
    rw[Array.toList_setIfInBounds,List.take_set,rL])
   (by rw[List.length_set];exact hl)
   (fun v hv=>by
    rcases List.mem_or_eq_of_mem_set hv with hv|rfl
    ·exact xX v hv
    ·exact hu)
   (fun b' ja=> .inl (by rw[iQ];exact ja))
  exact .inl ⟨_,_,_,κ',fu,.inr ⟨rfl,rfl⟩,r'.eS (fi hd) (.any _)⟩
theorem a_.q9 {x y:Operand} {t:TypeId} (i k:Nat) {n:Nat} {e:TypeId} {rows:kf} {H u:Value} {ys:List Value} (ho:δ.ob i=some (.e8 e rows)) (hk:rows k=(H,ys)) (hx:δ.ev x=.pv (.lit (mO n H))) (hn:n<ys.length) (hy:δ.ev y=.pv (.lit u))
  (hu:u.oneCell'=true) (ht:(P.info? t).map (·.size)=some 1) (kH:ff x=true) (kv:ff y=true) (hd:fO δ.n dst=true) (hK:a_ .plain P g ops rest Q ((δ.ga i (some (.e8 e (nh rows k (H,ys.set n u))))).eS dst .any)):
  a_ .plain P g ops (⟨dst,.store t x y,ty,pos,af,none⟩::rest) Q δ:=a_.r_ rfl rfl (iO.q9 i k ho hk hx hn hy hu ht kH kv hd) hK
end Go.Ab
