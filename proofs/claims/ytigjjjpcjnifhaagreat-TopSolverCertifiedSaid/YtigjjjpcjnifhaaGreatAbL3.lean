/- Maps from numbers to numbers; the address of a field, taken first. -/
import Derived.Test.YtigjjjpcjnifhaaGreatAbL2
import Derived.Sort.Row
import Derived.Sort.Grow
import Derived.Lib.AppendZeros
import Derived.Lib.AppendStr
set_option linter.unusedSimpArgs false
set_option linter.unusedVariables false
namespace Go.Ab
open Go Go.RowKit
section
variable {P:Program} {g:au} {δ δ':DS} {q:Md}
variable {ops:Array Oper} {rest:List Oper} {Q:Exit→DS→Prop} {dst:Option Nat} {ty:TypeId} {pos:String} {af:Array Edge}
variable {t n:Nat} {K:DS→Prop}
end
theorem bq.fieldAddr {P:Program} {δ:DS} {dst:Option Nat} {ty:TypeId} {pos:String} {af:Array Edge} {gd:Option (Tmp×Bool)} (s:TypeId) (f k:Nat) {x:Operand} {i off:Nat} (hx:δ.ev x=.ptr i off) (hB:F9 P s f k=true) (ho:aK x=true):
  bq P ⟨dst,.fieldAddr s x f,ty,pos,af,gd⟩ δ (.ptr i (off+k)):=by
 intro g κ a w r
 unfold F9 at hB
 split at hB
 ·rename_i fs hs
  split at hB
  ·rename_i fld hf
   simp only[Bool.and_eq_true,beq_iff_eq] at hB
   have hk:=Nat.eq_of_beq_eq_true hB.1
   subst hk
   have ng:=r.ra hx ho
   generalize hu:a.eval x=u at ng
   cases ng with
   |ptr hl hκ=>exact⟨_,fun w'=>by have:=iQ (dst:=dst) (ty:=ty) (pos:=pos) (af:=af) hs hf hB.2 hu w';simpa [execOp] using this,.ptr hl hκ⟩
  ·cases hB
 ·cases hB
section
variable {P:Program} {g:au} {δ:DS} {l:List Oper} {late dn:List Nat} {k:Wt} {QD:Exit→DS→Prop}
theorem AR.tX {i j:Nat} {o p:Oper} (hl:Nat.blt dn.length l.length=true) (hr:fZ l dn [i,j]=true) (ho:l[i]? =some o) (hp:l[j]? =some p) (aM:cm late (bR l.length (j::dn))=true)
  (h:∀g':au,Gs g' g→(∀j,k.2.2≤j→g'.iI j)→aa .plain P g' l.toArray [o] (ed (AR P g k late l QD (i::dn))) δ)
  (h':∀g':au,Gs g' g→g'.wt=none→aa .plain P g' l.toArray [p] (ed (AR P g k late l QD (j::dn))) δ):AR P g k late l QD dn δ:=
 AR.all hl hr (by simp) fun i' hi'=>by
  have hw:∀i',∀j,k.2.2≤j→(ur g k late (bR l.length (i'::dn))).iI j:=by
   intro i' j hj k' hk'
   have:(if cm late (bR l.length (i'::dn))=true then none else some k)=some k':=hk'
   split at this
   ·cases this
   ·cases this;exact hj
  simp only[List.mem_cons,List.not_mem_nil,or_false] at hi'
  rcases hi' with rfl|rfl
  ·exact⟨o,ho,h _ ⟨rfl,rfl,rfl⟩ (hw _)⟩
  ·exact⟨p,hp,h' _ ⟨rfl,rfl,rfl⟩ (if_pos aM)⟩
end
end Go.Ab
/- In the midst of a region that draws its order:operations that only read are taken in one order;the watch over memory begins anew. -/
namespace Go.Ab
open Go Go.RowKit
variable {P:Program} {g:au} {δ:DS} {k:Wt} {late:List Nat} {l:List Oper} {dn:List Nat} {QD:Exit→DS→Prop} {ro:Option Nat}
def mM (ops:Array Oper) (i j:Nat):Bool:=match ops[j]? with
 |some o=>o.after.any fun e=>Region.binds .any e && e.on==i
 |none=>false
theorem rR {ops:Array Oper} {i j n:Nat} (h:mM ops i j=true):jQ ops i (n+1) j=true:=by
 unfold mM at h
 unfold jQ
 cases ho:ops[j]? with
 |none=>rw[ho] at h;cases h
 |some o=>
  rw[ho] at h
  simp only at h ⊢
  obtain⟨e,he,hb⟩:=Array.any_eq_true'.1 h
  refine Array.any_eq_true'.2 ⟨e,he,?_⟩
  simp only[Bool.and_eq_true,Bool.or_eq_true] at hb ⊢
  exact⟨hb.1,.inl hb.2⟩
def nm (l:List Oper) (late:List Nat):List Nat→List Nat→Bool
 |[],_=>true
 |i::r,dn=>qm l late dn i && late.all (fun j=>mM l.toArray i j||jQ l.toArray i l.length j) && nm l late r (i::dn)
theorem jO:∀(l2 dn:List Nat),nm l late l2 dn=true→nv l late l2 dn=true
 |[],_,_=>rfl
 |i::r,dn,h=>by
  unfold nm at h
  unfold nv
  simp only[Bool.and_eq_true] at h ⊢
  refine⟨⟨h.1.1,List.all_eq_true.2 fun j hj=>?_⟩,jO r _ h.2⟩
  have h1:=(List.all_eq_true.1 h.1.2) j hj
  rcases Bool.or_eq_true _ _▸h1 with h2|h2
  ·cases hl:l.length with
   |zero=>simp only[List.length_eq_zero_iff] at hl;subst hl;simp [mM] at h2
   |succ n=>exact rR h2
  ·exact h2
theorem AR.reads (l2:List Nat) (hB:nm l late l2 dn=true) (hL:cm late (bR l.length dn)=false) (hle:Nat.ble (l2.length+dn.length) l.length=true)
  (h:∀g':au,Gs g' g→aa .held P g' l.toArray (pick l l2) (ed fun δ'=>∀k':Wt,k'.2.2=δ.nx→AR P g k' late l QD (l2.reverse++dn) δ') δ):AR P g k late l QD dn δ:=by
 intro oZ κ a w r
 have zK:l2.length+dn.length≤l.length:=by simpa using hle
 have h1:=h (ur g k late (bR l.length dn)) ⟨rfl,rfl,rfl⟩ κ a w r
 have du:=r.wt k (show(if cm late (bR l.length dn)=true then none else some k)=some k by rw[hL];rfl)
 obtain⟨k',hk⟩:∃k':Wt,k'=(w,(fun b=>b<w.heap.size∧((∀i,δ.lr i→κ i≠some b)∧¬κ.Fs b)),δ.nx):=⟨_,rfl⟩
 have eW:∀listed w',uq k' late listed w'→uq k late listed w':=by
  intro listed w' h3 hl b hb
  obtain⟨h4,h5⟩:=du.1 b hb
  have h6:b<w.heap.size:=by
   rw[Array.getElem?_eq_getElem h4] at h5
   exact(Array.getElem?_eq_some_iff.1 h5).1
  have h7:k'.2.1 b:=by
   rw[hk]
   exact⟨h6,fun i hi hκ=>du.2 i b ⟨_,hi⟩ (.inl hi) hκ hb,fun⟨j,hj⟩=>(r.fr.2 j b hj).1.2 k (show(if cm late (bR l.length dn)=true then none else some k)=some k by rw[hL];rfl) hb⟩
  have h8:=(h3 hl b h7).2
  rw[hk] at h8
  exact⟨h4,h8.trans h5⟩
 have Ls:∀(fuel:Nat) (listed:Array Bool) (a:Act) (w':World),iL g.ro P l.toArray (lC g QD) (uq k' late) fuel listed a w'→iL g.ro P l.toArray (lC g QD) (uq k late) fuel listed a w':=by
  intro fuel
  induction fuel with
  |zero=>intro _ _ _ h;exact h
  |succ fuel ih=>intro listed a w' h;exact⟨h.1,fun i hi=>wpOpIn_mono (fun a' w'' h'=>⟨eW _ _ h'.1,ih _ _ _ h'.2⟩) (h.2 i hi)⟩
 have O6:l.length - dn.length=l2.length+(l.length - (l2.reverse++dn).length):=by simp;omega
 rw[O6]
 have hk0:uq k' late (bR l.length dn) w:=fun _ b hb=>by subst hk;exact⟨hb.1,rfl⟩
 refine Ls _ _ _ _ (Cp (ro:=g.ro) (g:=g) (QD:=QD) (late:=late) (l:=l) (P:=P) (δ0:=δ) (κ1:=κ) (w1:=w) (k:=k') (by rw[hk]) (by rw[hk]) (N:=l.length - (l2.reverse++dn).length) l2 dn a (jO _ _ hB) oZ hk0 h1 (fun a' ha' hd'=>?_))
 obtain⟨δ',hq,Au,r2⟩:=ha'
 refine hq k' (by rw[hk]) hd' κ a' w ?_
 have dJ:∀i,δ'.ob i=δ.ob i:=fun i=>by unfold DS.ob;rw[Au]
 refine Rel.FN (g:=ur g k late (bR l.length dn)) r2 (wt':=if cm late (bR l.length (l2.reverse++dn))=true then none else some k') (fun k'' hk'=>?_) (fun k'' hk' b hb rN=>?_)
 rotate_left
 ·split at hk'
  ·cases hk'
  ·cases hk'
   subst hk
   exact rN.2.2 hb
 split at hk'
 ·cases hk'
 ·cases hk'
  subst hk
  refine⟨fun b hb=>⟨hb.1,rfl⟩,fun i b wk pH hκ hb=>?_⟩
  rcases pH with pH|pH
  ·exact hb.2.1 i (by have:δ'.ob i=some .row:=pH;rw[dJ] at this;exact this) hκ
  ·obtain⟨o,wk⟩:=wk
   rw[dJ] at wk
   exact absurd (r.nx i ⟨o,wk⟩) (Nat.not_lt.2 pH)
end Go.Ab
/- A part of a box,loaded as a whole. -/
namespace Go.Ab
open Go Go.RowKit
inductive Sub:Nat→Nat→List AV→List AV→Prop where
 |nil {l}:Sub 0 0 l []
 |take {n a l vs}:Sub 0 n l vs→Sub 0 (n+1) (a::l) (a::vs)
 |skip {k n a l vs}:Sub k n l vs→Sub (k+1) n (a::l) vs
theorem Sub.spec {k n:Nat} {l vs:List AV} (h:Sub k n l vs):(l.drop k).take n=vs∧k+n≤l.length:=by
 induction h with
 |nil=>simp
 |take _ ih=>simp at ih ⊢;exact⟨ih.1,ih.2⟩
 |skip _ ih=>simp at ih ⊢;exact⟨ih.1,by omega⟩
variable {q:Md} {P:Program} {g:au} {δ:DS} {ops:Array Oper} {rest:List Oper} {Q:Exit→DS→Prop} {dst:Option Nat} {ty:TypeId} {pos:String} {af:Array Edge}
theorem aa.ti {x:Operand} {t:TypeId} {i off n:Nat} {cells vs:List AV} (hx:δ.ev x=.ptr i off) (hb:δ.ob i=some (.box cells)) (hn:(P.info? t).map (·.size)=some n) (hs:Sub off n cells vs) (ht:tG P t n=true) (ho:aK x=true) (hd:bn δ.n dst=true)
  (hK:aa q P g ops rest Q (δ.aw dst (.agg vs))):aa q P g ops (⟨dst,.load t x,ty,pos,af,none⟩::rest) Q δ:=
 aa.yI (n:=n) hx hb ht (by simpa using hs.spec.2) ho hd (by rw[hs.spec.1];exact hK)
theorem aa.DU {x y z:Operand} {b:Bool} {v:PV} (hx:δ.ev x=aF b) (hy:δ.ev y=.pv v) (hb:b=true) (ho:aK x=true) (fb:aK y=true) (kF:aK z=true) (hd:bn δ.n dst=true)
  (hK:aa q P g ops rest Q (δ.aw dst (.pv v))):aa q P g ops (⟨dst,.pick x y z,ty,pos,af,none⟩::rest) Q δ:=aa.bL (hb▸hx) hy ho fb kF hd hK
theorem aa.s_ {x y z:Operand} {b:Bool} {v:PV} (hx:δ.ev x=aF b) (hz:δ.ev z=.pv v) (hb:b=false) (ho:aK x=true) (fb:aK y=true) (kF:aK z=true) (hd:bn δ.n dst=true)
  (hK:aa q P g ops rest Q (δ.aw dst (.pv v))):aa q P g ops (⟨dst,.pick x y z,ty,pos,af,none⟩::rest) Q δ:=aa.dm (hb▸hx) hz ho fb kF hd hK
variable {gd:Option (Tmp×Bool)}
theorem dv.yt {t e:TypeId} {x0:Operand} {p0 p1 p2:PV} {z:Value} (ht:P.underlying t=some (.slice e)) (h0:δ.ev x0=.agg [.pv p0,.pv p1,.pv p2]) (hi:(P.info? e).map (fun i=>(i.size,i.zero))=some (3,some z)) (hz:z.cells.toList.all (·.oneCell')=true) (gz:Nat.beq z.cells.size 3=true)
  (k0:AV.one (.pv p0)=true) (k1:AV.one (.pv p1)=true) (k2:AV.one (.pv p2)=true) (o0:aK x0=true) (hd:bn δ.n dst=true):dv P g ⟨dst,.buildSlice t 1 [(0,x0)].toArray,ty,pos,af,gd⟩ δ ((δ.bf .row).aw dst (.own δ.nx e 3 [[p0,p1,p2]])):=by
 have hf:dL (fun i=>some (i*3,3)) (ef z (1*3)) (([(0,x0)]:List (Nat×Operand)).map fun p=>(p.1,δ.ev p.2))=some [.pv p0,.pv p1,.pv p2]:=by
  simp [dL,iC,AV.cellsOf,AV.iu,ef,h0,k0,k1,k2]<;>rfl
 exact dv.buildSlice (len:=1) (k:=3) (parts:=[(0,x0)]) (cells:=[.pv p0,.pv p1,.pv p2]) ht hi gz rfl rfl hz (by simp [o0]) hf (by simp [AV.s7]) hd
theorem aa.yt {t e:TypeId} {x0:Operand} {p0 p1 p2:PV} {z:Value} (ht:P.underlying t=some (.slice e)) (h0:δ.ev x0=.agg [.pv p0,.pv p1,.pv p2]) (hi:(P.info? e).map (fun i=>(i.size,i.zero))=some (3,some z)) (hz:z.cells.toList.all (·.oneCell')=true) (gz:Nat.beq z.cells.size 3=true)
  (k0:AV.one (.pv p0)=true) (k1:AV.one (.pv p1)=true) (k2:AV.one (.pv p2)=true) (o0:aK x0=true) (hd:bn δ.n dst=true) (hK:aa .plain P g ops rest Q ((δ.bf .row).aw dst (.own δ.nx e 3 [[p0,p1,p2]]))):
  aa .plain P g ops (⟨dst,.buildSlice t 1 [(0,x0)].toArray,ty,pos,af,none⟩::rest) Q δ:=aa.n9 rfl rfl (dv.yt ht h0 hi hz gz k0 k1 k2 o0 hd) hK
end Go.Ab
/- The checks over a region's orders,quick for the kernel:what is listed lies as the bits of one number. -/
namespace Go.Ab
open Go Go.RowKit
variable {P:Program} {g:au} {δ:DS} {k:Wt} {late:List Nat} {l:List Oper} {dn:List Nat} {QD:Exit→DS→Prop}
def dx (n:Nat):List Nat→Nat
 |[]=>0
 |i::d=>bif Nat.blt i n then dx n d|||(1<<<i) else dx n d
theorem eF {n:Nat}:∀{d:List Nat} {j:Nat},(dx n d).testBit j=(bR n d).getD j false
 |[],j=>by
  show Nat.testBit 0 j=(Array.replicate n false).getD j false
  rw[Nat.zero_testBit]
  simp [Array.getD_eq_getD_getElem?,Array.getElem?_replicate]
  split<;>rfl
 |i::d,j=>by
  show(bif Nat.blt i n then dx n d|||(1<<<i) else dx n d).testBit j=((bR n d).setIfInBounds i true).getD j false
  rw[Co]
  have jm:(bR n d).size=n:=by
   clear j
   induction d with
   |nil=>simp [bR]
   |cons i d ih=>simp [bR,ih]
  by_cases hi:i<n
  ·have hb:Nat.blt i n=true:=by simpa using hi
   rw[hb,cond_true,Nat.testBit_or,eF,Nat.one_shiftLeft,Nat.testBit_two_pow]
   by_cases o_:i=j
   ·subst o_;simp [jm,hi]
   ·simp [o_]
  ·have hb:Nat.blt i n=false:=by
    cases h:Nat.blt i n with
    |false=>rfl
    |true=>exact absurd (by simpa using h) hi
   rw[hb,cond_false,eF]
   by_cases o_:i=j
   ·subst o_
    rw[if_pos rfl,if_neg (by omega)]
    simp [Array.getD_eq_getD_getElem?,Array.getElem?_eq_none (by omega:(bR n d).size≤i)]
   ·rw[if_neg o_]
def kK (m:Nat) (o:Oper):Bool:=o.after.toList.all fun e=>!Region.binds .any e||m.testBit e.on
def fR (m:Nat):Nat→List Oper→List Nat
 |_,[]=>[]
 |j,o::r=>bif !m.testBit j && kK m o then j::fR m (j+1) r else fR m (j+1) r
theorem lO (m:Nat):∀(l:List Oper) (j:Nat),fR m j l=((List.range l.length).filter fun i=>!m.testBit (j+i) && ((l[i]?).map (kK m)).getD false).map (j+·)
 |[],_=>rfl
 |o::r,j=>by
  rw[List.length_cons,List.range_succ_eq_map,List.filter_cons,fR,lO m r (j+1)]
  simp only[Nat.add_zero,List.getElem?_cons_zero,Option.map_some,Option.getD_some,List.filter_map]
  have e:(List.map (fun x=>j+x) (List.map Nat.succ (List.filter ((fun i=>!m.testBit (j+i) && (Option.map (kK m) (o::r)[i]?).getD false)∘Nat.succ) (List.range r.length))))=List.map (fun x=>j+1+x) (List.filter (fun i=>!m.testBit (j+1+i) && (Option.map (kK m) r[i]?).getD false) (List.range r.length)):=by
   rw[List.map_map]
   have e2:((fun i=>!m.testBit (j+i) && (Option.map (kK m) (o::r)[i]?).getD false)∘Nat.succ)=(fun i=>!m.testBit (j+1+i) && (Option.map (kK m) r[i]?).getD false):=by
    funext i
    simp only[Function.comp,Nat.succ_eq_add_one,List.getElem?_cons_succ]
    rw[show j+(i+1)=j+1+i by omega]
   rw[e2]
   apply List.map_congr_left
   intro i _
   simp only[Function.comp,Nat.succ_eq_add_one]
   omega
  cases (!m.testBit j && kK m o) with
  |true=>simp only[cond_true,if_true,List.map_cons,Nat.add_zero];rw[e]
  |false=>simp only[cond_false,Bool.false_eq_true,if_false];rw[e]
theorem sO:Region.ready .any l.toArray (bR l.length dn)=fR (dx l.length dn) 0 l:=by
 rw[lO]
 unfold Region.ready
 simp only[Nat.zero_add,List.size_toArray]
 rw[show(fun x:Nat=>x)=id from rfl,List.map_id]
 apply List.filter_congr
 intro i hi
 have ri:i<l.length:=List.mem_range.1 hi
 have e1:(bR l.length dn).getD i true=(dx l.length dn).testBit i:=by
  rw[eF]
  have jm:(bR l.length dn).size=l.length:=by
   clear hi ri
   generalize l.length=n
   induction dn with
   |nil=>simp [bR]
   |cons i d ih=>simp [bR,ih]
  rw[Array.getD_eq_getD_getElem?,Array.getD_eq_getD_getElem?,Array.getElem?_eq_getElem (by omega)];rfl
 rw[e1]
 congr 1
 rw[List.getElem?_toArray]
 congr 2
 funext o
 unfold kK
 rw[← Array.all_toList]
 congr 1
 funext e
 rw[eF]
theorem gU {rs:List Nat} (h:(fR (dx l.length dn) 0 l==rs)=true):fZ l dn rs=true:=by
 unfold fZ;rw[sO];exact h
def vT (late:List Nat) (m:Nat):Bool:=late.any m.testBit
theorem qg:cm late (bR l.length dn)=vT late (dx l.length dn):=by
 unfold cm vT
 congr 1
 funext j
 rw[eF]
def yr (ops:Array Oper) (m i:Nat) (oi:Oper):Nat→List Oper→Bool
 |_,[]=>true
 |j,o::r=>(Nat.beq j i||m.testBit j||o.after.toList.any (fun e=>Region.binds .any e && Nat.beq e.on i)||oi.apart ops o) && yr ops m i oi (j+1) r
theorem qE {ops:Array Oper} {m i:Nat} {oi:Oper}:∀{l:List Oper} {j:Nat},yr ops m i oi j l=true→∀(x:Nat) (o:Oper),l[x]? =some o→(j+x==i||m.testBit (j+x)||(o.after.any (fun e=>Region.binds .any e && e.on==i)||oi.apart ops o))=true
 |[],_,_,x,o,h=>by simp at h
 |o'::r,j,h,x,o,hx=>by
  unfold yr at h
  rw[Bool.and_eq_true] at h
  cases x with
  |zero=>
   simp only[List.getElem?_cons_zero,Option.some.injEq] at hx
   subst hx
   have h1:=h.1
   simp only[Nat.add_zero]
   rw[← Array.any_toList]
   simpa [Bool.or_assoc] using h1
  |succ x=>
   rw[List.getElem?_cons_succ] at hx
   have:=qE h.2 x o hx
   rwa [show j+1+x=j+(x+1) by omega] at this
def Dl (l:List Oper) (late:List Nat) (m:Nat) (i:Nat):Bool:=
 (fR m 0 l).contains i && (match l[i]? with|some oi=>yr l.toArray m i oi 0 l|none=>false) && !late.contains i
def firstM (l:List Oper) (late:List Nat):List Nat→List Nat→Bool
 |[],_=>true
 |i::r,dn=>Dl l late (dx l.length dn) i && late.all (fun j=>mM l.toArray i j||jQ l.toArray i l.length j) && firstM l late r (i::dn)
def vc (l:List Oper):Bool:=Region.noSelect l.toArray && l.all dQ
theorem xy {i:Nat} (hf:vc l=true) (hl:Nat.blt dn.length l.length=true) (h:Dl l late (dx l.length dn) i=true):qm l late dn i=true:=by
 unfold vc at hf
 unfold Dl at h
 unfold qm
 simp only[Bool.and_eq_true] at hf h ⊢
 refine⟨⟨⟨⟨hf,by rw[sO];exact h.1.1⟩,?_⟩,h.2⟩,hl⟩
 have h2:=h.1.2
 unfold Region.free
 rw[List.getElem?_toArray]
 cases ho:l[i]? with
 |none=>rw[ho] at h2;cases h2
 |some oi=>
  rw[ho] at h2
  simp only at h2 ⊢
  rw[List.all_eq_true]
  intro j hj
  have hj':j<l.length:=by simpa using hj
  have h3:=qE h2 j _ (List.getElem?_eq_getElem hj')
  rw[Nat.zero_add,eF] at h3
  have jm:(bR l.length dn).size=l.length:=by
   clear hf h h2 h3 hl
   generalize l.length=n
   induction dn with
   |nil=>simp [bR]
   |cons i d ih=>simp [bR,ih]
  have e1:(bR l.length dn).getD j true=(bR l.length dn).getD j false:=by
   rw[Array.getD_eq_getD_getElem?,Array.getD_eq_getD_getElem?,Array.getElem?_eq_getElem (by omega)];rfl
  rw[e1,List.getElem?_toArray,List.getElem?_eq_getElem hj']
  exact h3
theorem jG (hf:vc l=true):∀(l2 dn:List Nat),Nat.ble (l2.length+dn.length) l.length=true→firstM l late l2 dn=true→nm l late l2 dn=true
 |[],_,_,_=>rfl
 |i::r,dn,hle,h=>by
  unfold firstM at h
  unfold nm
  simp only[Bool.and_eq_true] at h ⊢
  have zK:(i::r).length+dn.length≤l.length:=by simpa using hle
  simp only[List.length_cons] at zK
  exact⟨⟨xy hf (by simp;omega) h.1.1,h.1.2⟩,jG hf r _ (by simp;omega) h.2⟩
theorem AR.c9 (l2:List Nat) (hf:vc l=true) (hB:firstM l late l2 dn=true) (hL:vT late (dx l.length dn)=false) (hle:Nat.ble (l2.length+dn.length) l.length=true)
  (h:∀g':au,Gs g' g→aa .held P g' l.toArray (pick l l2) (ed fun δ'=>∀k':Wt,k'.2.2=δ.nx→AR P g k' late l QD (l2.reverse++dn) δ') δ):AR P g k late l QD dn δ:=
 AR.reads l2 (jG hf _ _ hle hB) (by rw[qg];exact hL) hle h
theorem AR.B5 (du:g.wt=none) (hr:(fR (dx l.length dn) 0 l==[])=true) (h:QD .normal δ):AR P g k late l QD dn δ:=AR.done du (gU hr) h
theorem AR.ba {i:Nat} {o:Oper} (hl:Nat.blt dn.length l.length=true) (hr:(fR (dx l.length dn) 0 l==[i])=true) (ho:l[i]? =some o)
  (h:∀g':au,Gs g' g→(∀j,k.2.2≤j→g'.iI j)→aa .plain P g' l.toArray [o] (ed (AR P g k late l QD (i::dn))) δ):AR P g k late l QD dn δ:=AR.bX hl (gU hr) ho h
theorem AR.cK {i:Nat} {o:Oper} (hl:Nat.blt dn.length l.length=true) (hr:(fR (dx l.length dn) 0 l==[i])=true) (ho:l[i]? =some o) (aM:vT late (dx l.length (i::dn))=true)
  (h:∀g':au,Gs g' g→g'.wt=none→aa .plain P g' l.toArray [o] (ed (AR P g k late l QD (i::dn))) δ):AR P g k late l QD dn δ:=AR.pI hl (gU hr) ho (by rw[qg];exact aM) h
theorem AR.ck {i j:Nat} {o p:Oper} (hl:Nat.blt dn.length l.length=true) (hr:(fR (dx l.length dn) 0 l==[i,j])=true) (ho:l[i]? =some o) (hp:l[j]? =some p)
  (h:∀g':au,Gs g' g→(∀j,k.2.2≤j→g'.iI j)→aa .plain P g' l.toArray [o] (ed (AR P g k late l QD (i::dn))) δ)
  (h':∀g':au,Gs g' g→(∀j,k.2.2≤j→g'.iI j)→aa .plain P g' l.toArray [p] (ed (AR P g k late l QD (j::dn))) δ):AR P g k late l QD dn δ:=AR.lD hl (gU hr) ho hp h h'
theorem AW.bN {id:Nat} (l1:List Nat) (late:List Nat) {l:List Oper} (hm:P.follows .mixedOrders=true) (du:g.wt=none) (hf:vc l=true) (hB:firstM l late l1 []=true) (hle:Nat.ble l1.length l.length=true)
  (h:aa .held P g l.toArray (pick l l1) (ed fun δ'=>∀k:Wt,k.2.2=δ.nx→AR P g k late l QD l1.reverse δ') δ):AW P g (.region id l.toArray true) QD δ:=
 AW.tN l1 late hm du (jO _ _ (jG hf _ _ (by simpa using hle) hB)) hle h
end Go.Ab
/- A loop's state told by what stays of the state before it and what changes. -/
namespace Go.Ab
open Go Go.RowKit
variable {P:Program} {g:au} {δ:DS}
def DY (e:List (Nat×AV)):List Nat→List (Nat×AV)
 |[]=>[]
 |k::ks=>(k,look e k)::DY e ks
def CG (o:List (Nat×Option Ob)):List Nat→List (Nat×Option Ob)
 |[]=>[]
 |k::ks=>(k,aH o k)::CG o ks
def wB:List (Nat×Option Ob)→Nat→Nat
 |[],n=>n
 |(k,_)::r,n=>wB r (bif Nat.ble n k then k+1 else n)
namespace Nf
theorem Te (n:Nat):wB [] n=n:=rfl
theorem Rr (k n:Nat) (v:Option Ob) (r:List (Nat×Option Ob)):wB ((k,v)::r) n=wB r (bif Nat.ble n k then k+1 else n):=rfl
def ao:List (Nat×Option Ob)→List (Nat×Option Ob)→List (Nat×Option Ob)
 |[],m=>m
 |v::r,m=>v::ao r m
theorem RV (m:List (Nat×Option Ob)):ao [] m=m:=rfl
theorem Sx (v:Nat×Option Ob) (r m:List (Nat×Option Ob)):ao (v::r) m=v::ao r m:=rfl
theorem Rx (e:List (Nat×AV)):DY e []=[]:=rfl
theorem Rw (e:List (Nat×AV)) (k:Nat) (ks:List Nat):DY e (k::ks)=(k,look e k)::DY e ks:=rfl
theorem Rl (e:List (Nat×Option Ob)):CG e []=[]:=rfl
theorem Sr (e:List (Nat×Option Ob)) (k:Nat) (ks:List Nat):CG e (k::ks)=(k,aH e k)::CG e ks:=rfl
set_option linter.defProp false in
def gQ:=And.intro @Te (And.intro @Rr (And.intro @RV (And.intro @Sx (And.intro @Rx (And.intro @Rw (And.intro @Rl @Sr))))))
end Nf
theorem AW.bM {S:Type} {c:Code} {Q:Exit→DS→Prop} (ks os:List Nat) (u:S→List (Nat×AV)) (ou:S→List (Nat×Option Ob)) (I:S→Prop) (μ:S→Nat) (s0:S) {D:S→DS}
  (hD:(fun s=>(⟨δ.n,Nf.ae (u s) (DY δ.env ks),Nf.ao (ou s) (CG δ.objs os),wB (ou s) δ.nx⟩:DS))=D) (hs:I s0) (hw:kd g δ (D s0))
  (round:∀s,I s→AW P g c (bE (fun δ'=>∃s',I s'∧μ s'<μ s∧kd g δ' (D s')) Q) (D s)):AW P g (.loop c) Q δ:=AW.loop D I μ s0 hs hw round
end Go.Ab
/- Quotient and remainder of numbers that are not below zero. -/
namespace Go.Ab
open Go Go.RowKit
variable {q:Md} {P:Program} {g:au} {δ:DS} {ops:Array Oper} {rest:List Oper} {Q:Exit→DS→Prop} {dst:Option Nat} {ty:TypeId} {pos:String} {af:Array Edge} {x y:Operand} {m n:Int} {t t':TypeId}
theorem aa.Ol (hx:δ.ev x=al m) (hy:δ.ev y=al n) (ho:aK x=true) (ho':aK y=true) (hd:bn δ.n dst=true) (h0:0≤m∧0<n) (hK:aa q P g ops rest Q (δ.aw dst (al (m % n)))):aa q P g ops (⟨dst,.binOp .rem t x y t',ty,pos,af,none⟩::rest) Q δ:=
 aa.rem hx hy ho ho' hd (by omega) (by rw[Int.tmod_eq_emod_of_nonneg h0.1];exact hK)
theorem aa.Pu (hx:δ.ev x=al m) (hy:δ.ev y=al n) (ho:aK x=true) (ho':aK y=true) (hd:bn δ.n dst=true) (h0:0≤m∧m≤9223372036854775807∧0<n) (hK:aa q P g ops rest Q (δ.aw dst (al (m / n)))):aa q P g ops (⟨dst,.binOp .quo t x y t',ty,pos,af,none⟩::rest) Q δ:=
 aa.quo hx hy ho ho' hd (by omega) (by
  have h1:m.tdiv n=m / n:=Int.tdiv_eq_ediv_of_nonneg h0.1
  have h2:0≤m / n:=Int.ediv_nonneg h0.1 (by omega)
  have h3:m / n≤m:=Int.ediv_le_self _ h0.1
  rw[h1,IntWalk.i64_in _ (by omega)]
  exact hK)
end Go.Ab
/- Two objects' names exchanged;the orders of a drawn region brought together again. -/
namespace Go.Ab
open Go Go.RowKit
variable {P:Program} {g:au} {δ:DS} {κ:Kp} {a:Act} {w:World}
def fE (i j x:Nat):Nat:=bif Nat.beq i x then j else bif Nat.beq j x then i else x
theorem wG (i j x:Nat):fE i j x=if i=x then j else if j=x then i else x:=by
 unfold fE
 by_cases h1:i=x
 ·subst h1;simp
 ·rw[gA h1,if_neg h1]
  by_cases h2:j=x
  ·subst h2;simp
  ·rw[gA h2,if_neg h2];rfl
theorem dr (i j x:Nat):fE i j (fE i j x)=x:=by
 simp only[wG]
 split<;>split<;>(try split)<;>omega
mutual
def AV.sw (i j:Nat):AV→AV
 |.any=> .any
 |.pv p=> .pv p
 |.own x e k els=> .own (fE i j x) e k els
 |.ptr x o=> .ptr (fE i j x) o
 |.rptr c=> .rptr c
 |.optr x e k els n=> .optr (fE i j x) e k els n
 |.agg cs=> .agg (AV.rz i j cs)
 |.tup cs=> .tup (AV.rz i j cs)
 |.clo fn cs ds=> .clo fn (AV.rz i j cs) (AV.rz i j ds)
 |.mapr x=> .mapr (fE i j x)
 |.yld x=> .yld (fE i j x)
def AV.rz (i j:Nat):List AV→List AV
 |[]=>[]
 |c::cs=>AV.sw i j c::AV.rz i j cs
end
theorem AV.nu (i j:Nat):∀l,AV.rz i j l=l.map (AV.sw i j)
 |[]=>rfl
 |c::cs=>by simp [AV.rz,AV.nu i j cs]
def Ob.sw (i j:Nat):Ob→Ob
 |.row=> .row
 |.box cs=> .box (AV.rz i j cs)
 |.mp l=> .mp (l.map fun p=>(p.1,p.2.sw i j))
 |.mpl l k v=> .mpl (l.map fun p=>(p.1,p.2.sw i j)) k (v.sw i j)
 |.it l seen=> .it l seen
 |.lit T vals=> .lit T vals
 |.pool e rows=> .pool e rows
 |.loop l tm ps asg body st=> .loop l tm ps asg body st
theorem Ob.HY (i j:Nat) (o:Ob):(o.sw i j).fJ=o.fJ:=by cases o<;>rfl
def Hl (i j:Nat):List (Nat×AV)→List (Nat×AV)
 |[]=>[]
 |(x,v)::r=>(x,v.sw i j)::Hl i j r
def sm (i j:Nat):List (Nat×Option Ob)→List (Nat×Option Ob)
 |[]=>[]
 |(x,none)::r=>(fE i j x,none)::sm i j r
 |(x,some o)::r=>(fE i j x,some (o.sw i j))::sm i j r
def DS.sw (δ:DS) (i j:Nat):DS:=⟨δ.n,Hl i j δ.env,sm i j δ.objs,δ.nx⟩
theorem yq (i j:Nat) (k:Nat):∀e,look (Hl i j e) k=(look e k).sw i j
 |[]=>rfl
 |(x,v)::r=>by
  unfold Hl
  simp only[a7,yq i j k r]
  split<;>rfl
theorem nX (i j:Nat) (k:Nat):∀e,aH (sm i j e) (fE i j k)=(aH e k).map (Ob.sw i j)
 |[]=>rfl
 |(x,o)::r=>by
  have hx:(fE i j x=fE i j k)=(x=k):=by
   apply propext
   constructor
   ·intro h;rw[← dr i j x,h,dr]
   ·intro h;rw[h]
  cases o with
  |none=>
   unfold sm
   simp only[a6,nX i j k r,hx]
   split<;>rfl
  |some o=>
   unfold sm
   simp only[a6,nX i j k r,hx]
   split<;>rfl
theorem yH (i j k:Nat):(δ.sw i j).ob k=(δ.ob (fE i j k)).map (Ob.sw i j):=by
 have:=nX i j (fE i j k) δ.objs
 rw[dr] at this
 exact this
theorem gO (i j k:Nat):(δ.sw i j).live k↔δ.live (fE i j k):=by
 unfold DS.live
 rw[yH]
 cases δ.ob (fE i j k)<;>simp
theorem GO (i j k:Nat):(δ.sw i j).lr k↔δ.lr (fE i j k):=by
 unfold DS.lr
 rw[yH]
 cases h:δ.ob (fE i j k) with
 |none=>simp
 |some o=>cases o<;>simp [Ob.sw]
theorem BW (i j k:Nat):(δ.sw i j).lb k↔δ.lb (fE i j k):=by
 unfold DS.lb
 rw[yH]
 cases h:δ.ob (fE i j k) with
 |none=>simp
 |some o=>simp [Ob.HY]
def GU (i j:Nat) (κ:Kp):Kp:=⟨fun x=>κ (fE i j x),fun x b=>κ.F (fE i j x) b⟩
theorem He (i j b:Nat):(GU i j κ).Fs b↔κ.Fs b:=by
 constructor
 ·rintro⟨x,h⟩;exact⟨_,h⟩
 ·rintro⟨x,h⟩;exact⟨fE i j x,by show κ.F (fE i j (fE i j x)) b;rw[dr];exact h⟩
theorem HB (i j b:Nat):((δ.sw i j).cx g (GU i j κ)).N b↔(δ.cx g κ).N b:=by
 show((g.N0 b∧_)∧_)↔((g.N0 b∧_)∧_)
 constructor
 ·rintro⟨h1,h2⟩
  refine⟨⟨h1.1,fun h=>h1.2 ((He i j b).2 h)⟩,fun x hx=>?_⟩
  have:=h2 (fE i j x) ((gO i j _).2 (by rw[dr];exact hx))
  have this:κ (fE i j (fE i j x))≠some b:=this
  rwa [dr] at this
 ·rintro⟨h1,h2⟩
  exact⟨⟨h1.1,fun h=>h1.2 ((He i j b).1 h)⟩,fun x hx=>h2 _ ((gO i j _).1 hx)⟩
theorem C7 (i j:Nat) {v:Value} {p:PV} (h:RP (δ.cx g κ).N w v p):RP ((δ.sw i j).cx g (GU i j κ)).N w v p:=
 h.mono (Nat.le_refl _) fun b _ hb=>⟨(HB i j b).2 hb,rfl⟩
theorem DJ (i j:Nat) {v:Value} {x:Nat} {e:TypeId} {k:Nat} {els:List (List PV)} (h:dS (δ.cx g κ) w v x e k els):dS ((δ.sw i j).cx g (GU i j κ)) w v (fE i j x) e k els:=by
 obtain⟨hl,gw,hk,hb,xs,ho,h1,hx⟩:=h
 refine⟨(GO i j _).2 (by rw[dr];exact hl),gw,hk,fun b hv=>?_,xs,ho,h1,fun i' j' p hp=>let ⟨u,h1,h2⟩:=hx i' j' p hp;⟨u,h1,C7 i j h2⟩⟩
 show κ (fE i j (fE i j x))=some b
 rw[dr];exact hb b hv
theorem yz (i j:Nat) {v:Value} {av:AV} (h:RA (δ.cx g κ) w v av):RA ((δ.sw i j).cx g (GU i j κ)) w v (av.sw i j):=by
 induction h with
 |any v=>exact .any v
 |pv h=>exact .pv (C7 i j h)
 |own h=>exact .own (DJ i j h)
 |ptr hl hκ=>exact .ptr ((BW i j _).2 (by rw[dr];exact hl)) (by show κ (fE i j (fE i j _))=_;rw[dr];exact hκ)
 |rptr b off vs hN hb hc hr=>exact .rptr b off vs ((HB i j b).2 hN) hb hc fun k p hp=>C7 i j (hr k p hp)
 |optr hi h=>exact .optr hi (DJ i j h)
 |agg hs h ih=>
  show RA _ _ _ (.agg (AV.rz i j _))
  rw[AV.nu]
  refine .agg (by simp [hs]) fun k u c hu hc=>?_
  rw[List.getElem?_map] at hc
  obtain⟨c',hc',rfl⟩:=Option.map_eq_some_iff.1 hc
  exact ih k u c' hu hc'
 |tup hs h ih=>
  show RA _ _ _ (.tup (AV.rz i j _))
  rw[AV.nu]
  refine .tup (by simp [hs]) fun k u c hu hc=>?_
  rw[List.getElem?_map] at hc
  obtain⟨c',hc',rfl⟩:=Option.map_eq_some_iff.1 hc
  exact ih k u c' hu hc'
 |clo hs h ht h' ih ih'=>
  show RA _ _ _ (.clo _ (AV.rz i j _) (AV.rz i j _))
  rw[AV.nu,AV.nu]
  refine .clo (by simp [hs]) (fun k u c hu hc=>?_) (by simp [ht]) (fun k u c hu hc=>?_)
  ·rw[List.getElem?_map] at hc
   obtain⟨c',hc',rfl⟩:=Option.map_eq_some_iff.1 hc
   exact ih k u c' hu hc'
  ·rw[List.getElem?_map] at hc
   obtain⟨c',hc',rfl⟩:=Option.map_eq_some_iff.1 hc
   exact ih' k u c' hu hc'
 |mapr hl hκ=>exact .mapr ((BW i j _).2 (by rw[dr];exact hl)) (by show κ (fE i j (fE i j _))=_;rw[dr];exact hκ)
 |yld hl hκ=>exact .yld ((BW i j _).2 (by rw[dr];exact hl)) (by show κ (fE i j (fE i j _))=_;rw[dr];exact hκ)
theorem vn (i j:Nat) (v:AV):(v.sw i j).eS=v.eS:=by cases v<;>rfl
theorem iR.sw (i j:Nat) {x:Nat} {o:Ob} (h:iR (δ.cx g κ) w x o):iR ((δ.sw i j).cx g (GU i j κ)) w (fE i j x) (o.sw i j):=by
 have hκ:∀y,((δ.sw i j).cx g (GU i j κ)).κ (fE i j y)=κ y:=fun y=>by show κ (fE i j (fE i j y))=_;rw[dr]
 cases o with
 |row=>
  intro b hb
  rw[hκ] at hb
  exact h b hb
 |box cs=>
  obtain⟨b,c,e,h1,h2,h3,h4⟩:=h
  show iR _ _ _ (.box (AV.rz i j cs))
  rw[AV.nu]
  refine⟨b,c,e,(hκ x).trans h1,h2,by simp [h3],fun k u av h5 h6=>?_⟩
  rw[List.getElem?_map] at h6
  obtain⟨c',hc',rfl⟩:=Option.map_eq_some_iff.1 h6
  exact⟨yz i j (h4 k u c' h5 hc').1,(h4 k u c' h5 hc').2⟩
 |mp l=>
  obtain⟨b,es,clock,h1,h2,h3,h4,h5⟩:=h
  refine⟨b,es,clock,(hκ x).trans h1,h2,⟨by simp [h3.1],fun k e p h6 h7=>?_⟩,h4,fun p hp=>?_⟩
  ·rw[List.getElem?_map] at h7
   obtain⟨p',hp',rfl⟩:=Option.map_eq_some_iff.1 h7
   exact⟨(h3.2 k e p' h6 hp').1,yz i j (h3.2 k e p' h6 hp').2⟩
  ·obtain⟨p',hp',rfl⟩:=List.mem_map.1 hp
   show(p'.2.sw i j).eS=true
   rw[vn];exact h5 p' hp'
 |mpl l kk v=>
  obtain⟨b,es,clock,h1,h2,h3,h4,h5⟩:=h
  refine⟨b,es,clock,(hκ x).trans h1,h2,⟨by simpa using h3.1,fun k e p h6 h7=>?_⟩,h4,fun p hp=>?_⟩
  ·have h8:((l++ [(kk,v)]).map fun p=>(p.1,p.2.sw i j))[k]? =some p:=by simpa using h7
   rw[List.getElem?_map] at h8
   obtain⟨p',hp',rfl⟩:=Option.map_eq_some_iff.1 h8
   exact⟨(h3.2 k e p' h6 hp').1,yz i j (h3.2 k e p' h6 hp').2⟩
  ·obtain⟨p',hp',rfl⟩:=List.mem_map.1 hp
   show(p'.2.sw i j).eS=true
   rw[vn];exact h5 p' hp'
 |it l seen=>
  obtain⟨b,h1,h2⟩:=h
  exact⟨b,(hκ x).trans h1,h2.mono (Nat.le_refl _) (fun b _ hb=>⟨(HB i j b).2 hb,rfl⟩) rfl⟩
 |lit T vals=>obtain⟨b,h1,h2⟩:=h;exact⟨b,(hκ x).trans h1,h2⟩
 |pool e rows=>exact⟨(hκ x).trans h.1,fun k=>let ⟨h1,h2,h3,h4⟩:=h.2.1 k;⟨h1,h2,fun b hb=>(by show κ.F (fE i j (fE i j x)) b;rw[dr];exact h3 b hb),h4⟩,h.2.2⟩
 |loop l tm ps asg body st=>
  obtain⟨b,r,h1,h2⟩:=h
  exact⟨b,r,(hκ x).trans h1,h2⟩
theorem Rel.sw (i j:Nat) (hi:i<δ.nx) (hj:j<δ.nx) (hw:∀k,g.wt=some k→k.2.2≤i∧k.2.2≤j) (r:Rel g δ κ a w):Rel g (δ.sw i j) (GU i j κ) a w where
 n:=r.n
 dfr:=r.dfr
 env:=fun k=>by
  have e:(δ.sw i j).get k=(δ.get k).sw i j:=yq i j k δ.env
  rw[e];exact yz i j (r.env k)
 obj:=fun x o h=>by
  rw[yH] at h
  obtain⟨o',ho',rfl⟩:=Option.map_eq_some_iff.1 h
  have:=(r.obj _ o' ho').sw i j
  rwa [dr] at this
 inj:=fun x y b hx hy h1 h2=>by
  have:=r.inj _ _ b ((gO i j x).1 hx) ((gO i j y).1 hy) h1 h2
  rw[← dr i j x,this,dr]
 lo:=fun x b hx h1=>r.lo _ b ((gO i j x).1 hx) h1
 nx:=fun x hx=>by
  have:=r.nx _ ((gO i j x).1 hx)
  show x<δ.nx
  rw[wG] at this
  split at this
  ·omega
  ·split at this<;>omega
 wt:=fun k hk=>by
  obtain⟨h1,h2⟩:=hw k hk
  refine⟨(r.wt k hk).1,fun x b hx pH hκ=>(r.wt k hk).2 (fE i j x) b ((gO i j x).1 hx) ?_ hκ⟩
  rcases pH with pH|pH
  ·exact .inl ((GO i j x).1 pH)
  ·right
   rw[wG]
   split
   ·exact h2
   ·split
    ·exact h1
    ·exact pH
 below:=r.below
 hB:=r.hB
 N0:=r.N0
 mkf:=r.mkf
 fr:=by
  refine⟨fun b hb=>?_,fun x b hb=>?_⟩
  ·obtain⟨h1,h2,h3⟩:=r.fr.1 b hb
   exact⟨h1,h2,fun x hx=>h3 _ ((gO i j x).1 hx)⟩
  ·obtain⟨h1,h2,h3,h4,h5⟩:=r.fr.2 _ b hb
   refine⟨h1,h2,h3,fun y hy=>h4 _ ((gO i j y).1 hy),fun y hy=>?_⟩
   rw[← dr i j y,h5 _ hy,dr]
namespace Nf
variable {n x:Nat} {e:List (Nat×AV)} {o:List (Nat×Option Ob)} {i j k:Nat}
theorem sw:DS.sw ⟨n,e,o,x⟩ i j=⟨n,Hl i j e,sm i j o,x⟩:=rfl
theorem Ox:Hl i j []=[]:=rfl
theorem NV (v:AV) (r:List (Nat×AV)):Hl i j ((k,v)::r)=(k,v.sw i j)::Hl i j r:=rfl
theorem Ni:sm i j []=[]:=rfl
theorem NH (r:List (Nat×Option Ob)):sm i j ((k,none)::r)=(fE i j k,none)::sm i j r:=rfl
theorem NZ (r:List (Nat×Option Ob)):sm i j ((k,some .row)::r)=(fE i j k,some .row)::sm i j r:=rfl
theorem Mt (e:TypeId) (p:Nat→Value×List Value) (r:List (Nat×Option Ob)):sm i j ((k,some (.pool e p))::r)=(fE i j k,some (.pool e p))::sm i j r:=rfl
theorem OJ (cs:List AV) (r:List (Nat×Option Ob)):sm i j ((k,some (.box cs))::r)=(fE i j k,some (.box (AV.rz i j cs)))::sm i j r:=rfl
theorem NK (l:List (Value×PV)) (s:List Nat) (r:List (Nat×Option Ob)):sm i j ((k,some (.it l s))::r)=(fE i j k,some (.it l s))::sm i j r:=rfl
theorem Py (l tm ps asg body st) (r:List (Nat×Option Ob)):sm i j ((k,some (.loop l tm ps asg body st))::r)=(fE i j k,some (.loop l tm ps asg body st))::sm i j r:=rfl
theorem Pl:AV.rz i j []=[]:=rfl
theorem Pc (v:AV) (r:List AV):AV.rz i j (v::r)=v.sw i j::AV.rz i j r:=rfl
theorem Pf:AV.sw i j .any=.any:=rfl
theorem Og (p:PV):AV.sw i j (.pv p)=.pv p:=rfl
theorem NA (e m els):AV.sw i j (.own k e m els)=.own (fE i j k) e m els:=rfl
theorem PB (m:Nat):AV.sw i j (.ptr k m)=.ptr (fE i j k) m:=rfl
theorem PC (c:List PV):AV.sw i j (.rptr c)=.rptr c:=rfl
theorem PL (e m els m'):AV.sw i j (.optr k e m els m')=.optr (fE i j k) e m els m':=rfl
theorem PG (c:List AV):AV.sw i j (.agg c)=.agg (AV.rz i j c):=rfl
theorem NG (c:List AV):AV.sw i j (.tup c)=.tup (AV.rz i j c):=rfl
theorem Po (f) (c d:List AV):AV.sw i j (.clo f c d)=.clo f (AV.rz i j c) (AV.rz i j d):=rfl
theorem OG:AV.sw i j (.mapr k)=.mapr (fE i j k):=rfl
theorem NJ:AV.sw i j (.yld k)=.yld (fE i j k):=rfl
theorem Oy:fE i j k=bif Nat.beq i k then j else bif Nat.beq j k then i else k:=rfl
set_option linter.defProp false in
def QX:=And.intro @sw (And.intro @Ox (And.intro @NV (And.intro @Ni (And.intro @NH (And.intro @NZ (And.intro @Mt (And.intro @OJ (And.intro @NK (And.intro @Py (And.intro @Pl (And.intro @Pc (And.intro @Pf (And.intro @Og (And.intro @NA (And.intro @PB (And.intro @PC (And.intro @PL (And.intro @PG (And.intro @NG (And.intro @Po (And.intro @OG (And.intro @NJ @Oy))))))))))))))))))))))
end Nf
variable {k:Wt} {late:List Nat} {l:List Oper} {dn:List Nat} {QD:Exit→DS→Prop}
theorem AR.Cz {δ':DS} (hw:∀g':au,(∀k',g'.wt=some k'→k'=k)→kd g' δ δ') (h:AR P g k late l QD dn δ'):AR P g k late l QD dn δ:=by
 intro oZ κ a w r
 obtain⟨κ',r'⟩:=hw _ (fun k' hk'=>by
  have:(if cm late (bR l.length dn)=true then none else some k)=some k':=hk'
  split at this
  ·cases this
  ·cases this;rfl) κ a w r
 exact h oZ κ' a w r'
theorem AR.sw (i j:Nat) {m:Nat} (hk:k.2.2=m) (hi:(Nat.ble m i && Nat.blt i δ.nx)=true) (hj:(Nat.ble m j && Nat.blt j δ.nx)=true) (h:AR P g k late l QD dn (δ.sw i j)):AR P g k late l QD dn δ:=by
 simp only[Bool.and_eq_true,Nat.ble_eq,Nat.blt_eq] at hi hj
 exact AR.Cz (fun g' hg κ a w r=>⟨_,r.sw i j hi.2 hj.2 fun k' hk'=>by rw[hg k' hk',hk];exact⟨hi.1,hj.1⟩⟩) h
theorem sd (n:Nat) (d:List Nat):(bR n d).size=n:=by
 induction d with
 |nil=>simp [bR]
 |cons i d ih=>simp [bR,ih]
theorem y5 {n:Nat} {d d':List Nat} (h:dx n d=dx n d'):bR n d=bR n d':=by
 apply Array.ext
 ·rw[sd,sd]
 ·intro i h1 h2
  have e1:=eF (n:=n) (d:=d) (j:=i)
  have e2:=eF (n:=n) (d:=d') (j:=i)
  rw[h] at e1
  rw[e1] at e2
  rw[Array.getD_eq_getD_getElem?,Array.getD_eq_getD_getElem?,Array.getElem?_eq_getElem h1,Array.getElem?_eq_getElem h2] at e2
  exact e2
theorem AR.perm {J:List Nat} (hm:(dx l.length dn==dx l.length J && Nat.beq dn.length J.length)=true) (h:AR P g k late l QD J δ):AR P g k late l QD dn δ:=by
 simp only[Bool.and_eq_true,beq_iff_eq] at hm
 have hm:dx l.length dn=dx l.length J∧dn.length=J.length:=⟨hm.1,Nat.eq_of_beq_eq_true hm.2⟩
 have e:=y5 hm.1
 intro oZ κ a w r
 rw[hm.2]
 have h1:=h (by rw[← e];exact oZ) κ a w (by rw[← e];exact r)
 rw[e];exact h1
theorem AR.cut (J:List Nat) {δc:DS} (h1:AR P g k late l QD J δc→AR P g k late l QD dn δ) (h2:AR P g k late l QD J δc):AR P g k late l QD dn δ:=h1 h2
theorem AR.meet {J:List Nat} {δc:DS} (hJ:AR P g k late l QD J δc) (hm:(dx l.length dn==dx l.length J && Nat.beq dn.length J.length)=true) (hw:∀g':au,kd g' δ δc):AR P g k late l QD dn δ:=
 AR.Cz (fun g' _=>hw g') (AR.perm hm hJ)
theorem AR.nR {i j m:Nat} {o p q:Oper} (hl:Nat.blt dn.length l.length=true) (hr:(fR (dx l.length dn) 0 l==[i,j,m])=true) (ho:l[i]? =some o) (hp:l[j]? =some p) (hq:l[m]? =some q)
  (h:∀g':au,Gs g' g→(∀j,k.2.2≤j→g'.iI j)→aa .plain P g' l.toArray [o] (ed (AR P g k late l QD (i::dn))) δ)
  (h':∀g':au,Gs g' g→(∀j,k.2.2≤j→g'.iI j)→aa .plain P g' l.toArray [p] (ed (AR P g k late l QD (j::dn))) δ)
  (h'':∀g':au,Gs g' g→(∀j,k.2.2≤j→g'.iI j)→aa .plain P g' l.toArray [q] (ed (AR P g k late l QD (m::dn))) δ):AR P g k late l QD dn δ:=
 AR.all hl (gU hr) (by simp) fun i' hi'=>by
  have hw:∀i',∀j,k.2.2≤j→(ur g k late (bR l.length (i'::dn))).iI j:=by
   intro i' j hj k' hk'
   have:(if cm late (bR l.length (i'::dn))=true then none else some k)=some k':=hk'
   split at this
   ·cases this
   ·cases this;exact hj
  simp only[List.mem_cons,List.not_mem_nil,or_false] at hi'
  rcases hi' with rfl|rfl|rfl
  ·exact⟨o,ho,h _ ⟨rfl,rfl,rfl⟩ (hw _)⟩
  ·exact⟨p,hp,h' _ ⟨rfl,rfl,rfl⟩ (hw _)⟩
  ·exact⟨q,hq,h'' _ ⟨rfl,rfl,rfl⟩ (hw _)⟩
theorem AR.tn {i j:Nat} {o p:Oper} (hl:Nat.blt dn.length l.length=true) (hr:(fR (dx l.length dn) 0 l==[i,j])=true) (ho:l[i]? =some o) (hp:l[j]? =some p) (aM:vT late (dx l.length dn)=true)
  (h:∀g':au,Gs g' g→g'.wt=none→aa .plain P g' l.toArray [o] (ed (AR P g k late l QD (i::dn))) δ)
  (h':∀g':au,Gs g' g→g'.wt=none→aa .plain P g' l.toArray [p] (ed (AR P g k late l QD (j::dn))) δ):AR P g k late l QD dn δ:=
 AR.all hl (gU hr) (by simp) fun i' hi'=>by
  have qI:cm late (bR l.length dn)=true:=by rw[qg];exact aM
  have hw:∀i',(ur g k late (bR l.length (i'::dn))).wt=none:=fun i'=>if_pos (oh qI)
  simp only[List.mem_cons,List.not_mem_nil,or_false] at hi'
  rcases hi' with rfl|rfl
  ·exact⟨o,ho,h _ ⟨rfl,rfl,rfl⟩ (hw _)⟩
  ·exact⟨p,hp,h' _ ⟨rfl,rfl,rfl⟩ (hw _)⟩
def n4 (k:Nat):List Nat→Bool
 |[]=>false
 |x::r=>bif Nat.beq x k then true else n4 k r
def Bn (s:List Nat):List (Nat×AV)→List (Nat×AV)
 |[]=>[]
 |(k,v)::r=>bif n4 k s then Bn s r else (k,v)::Bn (k::s) r
def Bj (s:List Nat):List (Nat×Option Ob)→List (Nat×Option Ob)
 |[]=>[]
 |(k,v)::r=>bif n4 k s then Bj s r else (k,v)::Bj (k::s) r
theorem pQ {k:Nat}:∀{s:List Nat},n4 k s=true↔k∈s
 |[]=>by simp [n4]
 |x::r=>by
  unfold n4
  by_cases h:x=k
  ·subst h;simp
  ·rw[gA h,cond_false,pQ,List.mem_cons]
   constructor
   ·exact .inr
   ·rintro(h'|h')
    ·exact absurd h'.symm h
    ·exact h'
theorem pL {j:Nat}:∀{e:List (Nat×AV)} {s:List Nat},j∉s→look (Bn s e) j=look e j
 |[],_,_=>rfl
 |(k,v)::r,s,h=>by
  unfold Bn
  cases hm:n4 k s with
  |true=>
   have:k≠j:=by rintro rfl;exact h (pQ.1 hm)
   rw[cond_true,a7,if_neg this,pL h]
  |false=>
   rw[cond_false,a7,a7]
   by_cases e:k=j
   ·rw[if_pos e,if_pos e]
   ·rw[if_neg e,if_neg e,pL (by simp only[List.mem_cons,not_or];exact⟨fun h'=>e h'.symm,h⟩)]
theorem me {j:Nat}:∀{e:List (Nat×Option Ob)} {s:List Nat},j∉s→aH (Bj s e) j=aH e j
 |[],_,_=>rfl
 |(k,v)::r,s,h=>by
  unfold Bj
  cases hm:n4 k s with
  |true=>
   have:k≠j:=by rintro rfl;exact h (pQ.1 hm)
   rw[cond_true,a6,if_neg this,me h]
  |false=>
   rw[cond_false,a6,a6]
   by_cases e:k=j
   ·rw[if_pos e,if_pos e]
   ·rw[if_neg e,if_neg e,me (by simp only[List.mem_cons,not_or];exact⟨fun h'=>e h'.symm,h⟩)]
def DS.dd (δ:DS):DS:=⟨δ.n,Bn [] δ.env,Bj [] δ.objs,δ.nx⟩
theorem Rel.congr {δ':DS} (hn:δ'.n=δ.n) (hx:δ'.nx=δ.nx) (he:∀j,δ'.get j=δ.get j) (ho:∀j,δ'.ob j=δ.ob j) (r:Rel g δ κ a w):Rel g δ' κ a w:=by
 have dJ:δ'.ob=δ.ob:=funext ho
 have hl:δ'.live=δ.live:=by unfold DS.live;rw[dJ]
 have iJ:δ'.lr=δ.lr:=by unfold DS.lr;rw[dJ]
 have o6:δ'.lb=δ.lb:=by unfold DS.lb;rw[dJ]
 have wa:δ'.cx g κ=δ.cx g κ:=by unfold DS.cx;rw[hl,iJ,o6]
 exact
  {n:=r.n.trans hn.symm,dfr:=r.dfr
   env:=fun j=>by rw[wa,he];exact r.env j
   obj:=fun i o h=>by rw[wa];rw[ho] at h;exact r.obj i o h
   inj:=by rw[hl];exact r.inj
   lo:=by rw[hl];exact r.lo
   nx:=by rw[hl,hx];exact r.nx
   wt:=by rw[hl,iJ];exact r.wt
   below:=r.below,hB:=r.hB,N0:=r.N0,mkf:=r.mkf,fr:=by rw[hl];exact r.fr}
theorem kd.dd:kd g δ δ.dd:=fun κ _ _ r=>⟨κ,Rel.congr (δ:=δ) (δ':=δ.dd) rfl rfl (fun j=>pL (s:=[]) (by simp)) (fun j=>me (s:=[]) (by simp)) r⟩
theorem AR.dd (h:AR P g k late l QD dn δ.dd):AR P g k late l QD dn δ:=AR.Cz (fun _ _=>kd.dd) h
def Iy (b:Bool) (s:List Nat) (k:Nat) (v:AV) (r:List (Nat×AV)):List (Nat×AV):=bif b then Bn s r else (k,v)::Bn (k::s) r
def HZ (b:Bool) (s:List Nat) (k:Nat) (v:Option Ob) (r:List (Nat×Option Ob)):List (Nat×Option Ob):=bif b then Bj s r else (k,v)::Bj (k::s) r
namespace Nf
variable {n x:Nat} {e:List (Nat×AV)} {o:List (Nat×Option Ob)} {i j m:Nat}
theorem dd:DS.dd ⟨n,e,o,x⟩=⟨n,Bn [] e,Bj [] o,x⟩:=rfl
theorem Nj (s:List Nat):Bn s []=[]:=rfl
theorem NM (s:List Nat) (v:AV) (r:List (Nat×AV)):Bn s ((m,v)::r)=Iy (n4 m s) s m v r:=rfl
theorem N2 (s:List Nat) (v:AV) (r:List (Nat×AV)):Iy true s m v r=Bn s r:=rfl
theorem N8 (s:List Nat) (v:AV) (r:List (Nat×AV)):Iy false s m v r=(m,v)::Bn (m::s) r:=rfl
theorem NS (s:List Nat):Bj s []=[]:=rfl
theorem OL (s:List Nat) (v:Option Ob) (r:List (Nat×Option Ob)):Bj s ((m,v)::r)=HZ (n4 m s) s m v r:=rfl
theorem NL (s:List Nat) (v:Option Ob) (r:List (Nat×Option Ob)):HZ true s m v r=Bj s r:=rfl
theorem Nv (s:List Nat) (v:Option Ob) (r:List (Nat×Option Ob)):HZ false s m v r=(m,v)::Bj (m::s) r:=rfl
theorem Ry:n4 m []=false:=rfl
theorem Si (y:Nat) (r:List Nat):n4 m (y::r)=bif Nat.beq y m then true else n4 m r:=rfl
set_option linter.defProp false in
def Rs:=And.intro @dd (And.intro @Nj (And.intro @NM (And.intro @N2 (And.intro @N8 (And.intro @NS (And.intro @OL (And.intro @NL (And.intro @Nv (And.intro @Ry @Si)))))))))
end Nf
end Go.Ab
/- Contracts under a premise on the world at the call that no own memory touches (a table laid,a function value's ways);calls of told closures;functions that take functions. -/
namespace Go.Ab
open Go Go.RowKit
variable {P:Program} {g:au} {δ:DS} {κ:Kp} {a:Act} {w:World}
variable {ops:Array Oper} {rest:List Oper} {Q:Exit→DS→Prop} {dst:Option Nat} {ty:TypeId} {pos:String} {af:Array Edge}
def Mu (T:World→Prop):Prop:=∀w w',T w→Below w.heap.size w w'→T w'
structure wc (T:World→Prop) (P:Program) (f:FuncId) (args:List AV) (r:AV):Prop where
 enters:∀vals w,(callFunc f vals).run P w=.ok (.enter f vals) w
 calls:∀(N:Nat→Prop) (w:World) (vals:Array Value),T w→(∀b,w.heap.size≤b→N b)→vals.size=args.length→
  (∀(j:Nat) (v:Value) (av:AV),vals[j]? =some v→args[j]? =some av→RA (oO N) w v av)→
  Calls P f vals w fun e w'=>∃v,e=.returned v∧RA (oO N) w' v r∧Below w.heap.size w w'
theorem Fn.Sc {T:World→Prop} {f:FuncId} {args:List AV} {r:AV} (h:Fn P f args r):wc T P f args r:=⟨h.enters,fun N w vals _=>h.calls N w vals⟩
theorem wc.sub {T T':World→Prop} {f:FuncId} {args:List AV} {r:AV} (h:wc T P f args r) (hT:∀w,T' w→T w):wc T' P f args r:=⟨h.enters,fun N w vals ht=>h.calls N w vals (hT w ht)⟩
def TB (T:World→Prop) (g:au):Prop:=∀w',Below g.B g.w0 w'→T w'
theorem TB.gs {T:World→Prop} {g g':au} (h:TB T g) (hg:Gs g' g):TB T g':=fun w' hb=>h w' (by rw[← hg.2.1,← hg.2.2];exact hb)
theorem TB.sub {T T':World→Prop} {g:au} (h:TB T g) (hT:∀w,T w→T' w):TB T' g:=fun w' hb=>hT w' (h w' hb)
theorem wc.enter {T:World→Prop} (de:Mu T) {f:FuncId} {fn:Func} {c:Code} {rs:List ResultVar} {n:Nat} {args:List AV} {r:AV} (hf:P.funcs[f]? =some fn) (hb:fn.body=some c) (ni:fn.results=rs.toArray) (hn:fn.ntmps=n) (vQ:Nat.ble args.length n=true)
  (kv:Nat.ble n HS=true) (he:(fn.name== "runtime.NumGoroutine")=false) (h:∀g:au,g.ro=none→g.wt=none→TB T g→AW P g c (Ends P rs r) (start n args)):wc T P f args r:=by
 refine⟨fun vals w=>by simp [callFunc,hf,hb];simpa using he,fun N w vals hTw hN hs bS=>?_⟩
 have hle:args.length≤n:=by simpa using vQ
 have hnH:n≤HS:=by simpa using kv
 let g:au:={B:=w.heap.size,w0:=w,N0:=N,held:=fun _=>undef,ro:=none,mks:=[],wt:=none,fr:=fun _=>False,w1:=w}
 have iy:∀i,¬(start n args).live i:=fun i ⟨o,h⟩=>by cases h
 refine callsIn_wide.1 (callsIn_of_wp_marks (n:=0) hf hb trivial (wpIn_mono (h g rfl rfl (fun w' hb=>de w w' hTw hb) ⟨fun _=>none,fun _ _=>False⟩ _ w ?_) ?_))
 ·exact
  {n:=by simp [hn,start];omega
   dfr:=⟨[],rfl,by simp [g],by simp [g]⟩
   env:=fun j=>by
    by_cases hj:j<args.length
    ·have h1:(start n args).get j=args[j]:=gX args 0 j _ (Nat.zero_le _) (by simp [hj])
     have h2:g.val {tmps:=vals++Array.replicate (fn.ntmps - vals.size) undef,defers:=[]} j=vals[j]'(by omega):=by
      unfold au.val
      rw[if_pos (by omega)]
      simp [Array.getD_eq_getD_getElem?,Array.getElem?_append,hs,hj]
     rw[h1,h2]
     exact(bS j _ _ (Array.getElem?_eq_getElem (by omega)) (List.getElem?_eq_getElem hj)).qL _ fun b _ h=>⟨⟨h,fun⟨_,h⟩=>h⟩,fun i hi=>absurd hi (iy i)⟩
    ·have h1:(start n args).get j=.any:=dt args 0 j (by omega)
     rw[h1];exact .any _
   obj:=fun i o h=>by cases h
   inj:=fun i j b h=>absurd h (iy i)
   lo:=fun i b h=>absurd h (iy i)
   nx:=fun i h=>absurd h (iy i)
   wt:=fun k hk=>by cases hk
   below:=Below.refl _ _
   hB:=Nat.le_refl _
   N0:=fun b h _=>hN b h
   fr:=⟨fun b hb=>hb.elim,fun i b hb=>hb.elim⟩
   mkf:=fun d hd=>by cases hd}
 ·rintro e a' w' ⟨δ',κ',hq,r'⟩
  have fin:∀v,bA P δ' rs v→Le true v r→LeavesInM Fence.wide 0 P fn a'.tmps (fun e w'=>∃v,e=.returned v∧RA (oO N) w' v r∧Below w.heap.size w w') a'.defers .returning w':=by
   intro v h1 h2
   exact leaves (g:=g) rfl rfl ni h1 r' (fun w2 r2 u hu=>by
    exact⟨u,rfl,hu.le h2 (fun b _ h=>h.1.1) (fun _ i b hi hκ=>hN b (r2.lo i b (DS.bU hi) hκ).1),r2.below⟩)
  cases e with
  |normal=>obtain⟨v,h1,h2⟩:=hq;exact fin v h1 h2
  |ret=>obtain⟨v,h1,h2⟩:=hq;exact fin v h1 h2
  |_=>exact hq.elim
theorem TB.at {T:World→Prop} (h:TB T g) (r:Rel g δ κ a w) {w':World} (hb:Below w.heap.size w w'):T w':=h w' (r.below.trans (hb.mono r.hB))
theorem aa.L8 {q:Md} {T:World→Prop} {f:FuncId} {xs:List Operand} {tys:Array TypeId} {args:List AV} {r:AV} (hT:TB T g) (hf:wc T P f args r) (bS:kI true δ xs args) (gm:r.mS=true) (hd:bn δ.n dst=true) (hq:q≠ .held)
  (hK:aa q P g ops rest Q (δ.aw dst r)):aa q P g ops (⟨dst,.call {callee:=.value (.func f),args:=xs.toArray,argTypes:=tys},ty,pos,af,none⟩::rest) Q δ:=by
 intro κ a w r0
 have hc:∀w',Below w.heap.size w w'→Calls P f (xs.toArray.map a.eval) w' fun e w''=>e=.returned r.out∧Below w'.heap.size w' w'':=fun w' hw'=>
  (hf.calls (fun _=>True) w' _ (hT.at r0 hw') (fun _ _=>trivial) (by simp [bS.len]) (bS.GW (r0.ext hw') (fun _ _ _=>trivial) (fun _ _ _ _ _=>trivial))).mono (by
   rintro e w'' ⟨v,rfl,hv,hb⟩
   exact⟨by rw[hv.mS (AV.eB (C:=oO (fun _=>True)) (w:=w) gm) gm],hb⟩)
 have hK1:=hK κ _ _ (r0.aw (aS hd) (AV.eB gm))
 cases q with
 |quiet=>
  show wpQuiet P ops _ _ (_::rest) a
  unfold wpQuiet
  rw[if_pos (by simp [Region.wanted])]
  refine⟨r.out,fun w' hw'=>?_,hK1⟩
  unfold Oper.quietAt
  rw[dE (f:=f) rfl hf.enters]
  exact⟨rfl,(hc w' hw').mono fun e w'' ⟨h1,h2⟩=>⟨h1,hw'.trans (h2.mono hw'.size)⟩⟩
 |held=>exact absurd rfl hq
 |plain=>
  show wpListIn _ _ P ops _ (_::rest) a w
  refine b8 rfl rfl fun K hK'=>?_
  unfold Oper.sr
  rw[dE (f:=f) rfl hf.enters,Oper.uponIn_enter]
  refine⟨fun h=>by simp at h,(dj (hc w (Below.refl _ _))).mono ?_⟩
  rintro e w' ⟨rfl,hb⟩
  exact hK' _ _ (hK κ _ _ ((r0.ext hb).aw (aS hd) (AV.eB gm)))
def AV.seen:AV→PV
 |.pv p=>p
 |.own _ _ k els=> .slice k els
 |_=> .any
inductive Hs (δ:DS):AV→AV→Prop
 |le {v r:AV} (h:Le true v r):Hs δ v r
 |box {i off:Nat} {cells:List AV} {ps:List PV} (h:δ.ob i=some (.box cells)) (hc:(cells.drop off).map AV.seen=ps):Hs δ (.ptr i off) (.rptr ps)
inductive rM (δ:DS):List AV→List AV→Prop
 |nil:rM δ [] []
 |cons {c d:AV} {cs ds:List AV} (h:Hs δ c d) (hs:rM δ cs ds):rM δ (c::cs) (d::ds)
theorem rM.len {cs ds:List AV} (h:rM δ cs ds):cs.length=ds.length:=by induction h with|nil=>rfl|cons h hs ih=>simp [ih]
theorem rM.at {cs ds:List AV} (h:rM δ cs ds):∀(j:Nat) (c d:AV),cs[j]? =some c→ds[j]? =some d→Hs δ c d:=by
 induction h with
 |nil=>intro j c d h1;simp at h1
 |cons h hs ih=>
  intro j c d h1 h2
  cases j with
  |zero=>simp at h1 h2;subst h1;subst h2;exact h
  |succ j=>exact ih j c d (by simpa using h1) (by simpa using h2)
theorem RA.seen {C:Cx} {u:Value} {av:AV} (h:RA C w u av):RP (fun _=>True) w u av.seen:=by
 cases h with
 |pv h=>exact h.mono (Nat.le_refl _) fun _ _ _=>⟨trivial,rfl⟩
 |own h=>exact h.pv (fun _ _ _=>trivial) (fun _ _ _ _=>trivial)
 |_=>exact .any _
theorem Hs.ra {v r:AV} (h:Hs δ v r) (rl:Rel g δ κ a w) {u:Value} (hu:RA (δ.cx g κ) w u v):RA (oO fun _=>True) w u r:=by
 cases h with
 |le h=>exact hu.le h (fun _ _ _=>trivial) (fun _ _ _ _ _=>trivial)
 | @box i off cells ps hb hc=>
  obtain⟨b,c,e,rfl,hκ,h3,h4,h5⟩:=rl.box hu hb
  have iz:∀j,w.cell? ⟨b,off+j,none⟩=c[off+j]?:=fun j=>cell_of h3 _
  have kT:∀(j:Nat) (p:PV),ps[j]? =some p→∃av,cells[off+j]? =some av∧p=av.seen:=by
   intro j p hp
   rw[← hc,List.getElem?_map,List.getElem?_drop] at hp
   obtain⟨av,h1,h2⟩:=Option.map_eq_some_iff.1 hp
   exact⟨av,h1,h2.symm⟩
  refine .rptr b off (fun j=>(c[off+j]?).getD undef) trivial (da h3) (fun j p hp=>?_) (fun j p hp=>?_)
  ·obtain⟨av,h1,rfl⟩:=kT j p hp
   have aM:=(List.getElem?_eq_some_iff.1 h1).1
   have Hu:c[off+j]? =some c[off+j]:=Array.getElem?_eq_getElem (by omega)
   rw[iz,Hu]
   exact⟨rfl,(h5 _ _ _ Hu h1).2⟩
  ·obtain⟨av,h1,rfl⟩:=kT j p hp
   have aM:=(List.getElem?_eq_some_iff.1 h1).1
   have Hu:c[off+j]? =some c[off+j]:=Array.getElem?_eq_getElem (by omega)
   simp only[Hu,Option.getD_some]
   exact(h5 _ _ _ Hu h1).1.seen
theorem RA.keep {u:Value} {r:AV} (h:RA (oO fun _=>True) w u r) {w':World} (hb:Below w.heap.size w w'):RA (oO fun _=>True) w' u r:=
 (show eD (oO fun _=>True) w (oO fun _=>True) w' from {B:=rfl,size:=hb.size,N:=fun b h1 h2=>⟨h2,hb.block b h1⟩,Lr:=fun i hi=>hi.elim,Lb:=fun i hi=>hi.elim}).ra h
theorem TB.none (g:au):TB (fun _=>True) g:=fun _ _=>trivial
def uT (P:Program) (v:Value) (w:World) (arg r:AV):Prop:=∃(f:FuncId) (vs us:Array Value),v=.func (.func f) vs us∧(∀vals w,(callFunc f vals).run P w=.ok (.enter f vals) w)∧
 ∀w',Below w.heap.size w w'→∀u,RA (oO fun _=>True) w' u arg→Calls P f (vs++ #[u]++us) w' fun e w''=>e=.returned r.out∧Below w'.heap.size w' w''
theorem uT.stay {v:Value} {arg r:AV} {w w':World} (h:uT P v w arg r) (hb:Below w.heap.size w w'):uT P v w' arg r:=by
 obtain⟨f,vs,us,h1,h2,h3⟩:=h
 exact⟨f,vs,us,h1,h2,fun w'' hw u hu=>h3 w'' (hb.trans (hw.mono hb.size)) u hu⟩
def qC (P:Program) {α:Type} (v:Value) (A R:α→AV) (l:List α) (w:World):Prop:=∀x∈l,uT P v w (A x) (R x)
theorem qC.stay {α:Type} (v:Value) (A R:α→AV) (l:List α):Mu (qC P v A R l):=fun _ _ h hb x hx=>(h x hx).stay hb
theorem aa.Hm {q:Md} {y x:Operand} {v:Value} {tys:Array TypeId} {arg r:AV} (hT:TB (fun w=>uT P v w arg r) g) (hy:δ.ev y=.pv (.lit v)) (fb:aK y=true) (fg:aK x=true) (hx:Hs δ (δ.ev x) arg) (hd:bn δ.n dst=true) (gm:r.mS=true) (hq:q≠ .held)
  (hK:aa q P g ops rest Q (δ.aw dst r)):aa q P g ops (⟨dst,.call {callee:=.value y,args:= #[x],argTypes:=tys},ty,pos,af,none⟩::rest) Q δ:=by
 intro κ a w r0
 have hv:=r0.lit hy fb
 obtain⟨f,vs,us,he,hen,HM⟩:=hT.at r0 (Below.refl _ _)
 have Hh:=hx.ra r0 (r0.ra rfl fg)
 have hc:∀w',Below w.heap.size w w'→Calls P f (vs++(#[x]:Array Operand).map a.eval++us) w' fun e w''=>e=.returned r.out∧Below w'.heap.size w' w'':=fun w' hw'=>by
  have h:=HM w' hw' _ (Hh.keep hw')
  have ex:(#[x]:Array Operand).map a.eval= #[a.eval x]:=by simp
  rw[ex];exact h
 have hK1:=hK κ _ _ (r0.aw (aS hd) (AV.eB gm))
 have aV:=fun w'=>ns (dst:=dst) (ty:=ty) (pos:=pos) (af:=af) (gd:=none) (x:=y) (xs:= #[x]) (tys:=tys) (ρ:=a.eval) (hv.trans he) hen w'
 cases q with
 |quiet=>
  show wpQuiet P ops _ _ (_::rest) a
  unfold wpQuiet
  rw[if_pos (by simp [Region.wanted])]
  refine⟨r.out,fun w' hw'=>?_,hK1⟩
  unfold Oper.quietAt
  rw[aV]
  exact⟨rfl,(hc w' hw').mono fun e w'' ⟨h1,h2⟩=>⟨h1,hw'.trans (h2.mono hw'.size)⟩⟩
 |held=>exact absurd rfl hq
 |plain=>
  show wpListIn _ _ P ops _ (_::rest) a w
  refine b8 rfl rfl fun K hK'=>?_
  unfold Oper.sr
  rw[aV,Oper.uponIn_enter]
  refine⟨fun h=>by simp at h,(dj (hc w (Below.refl _ _))).mono ?_⟩
  rintro e w' ⟨rfl,hb⟩
  exact hK' _ _ (hK κ _ _ ((r0.ext hb).aw (aS hd) (AV.eB gm)))
theorem TB.QH {α:Type} {v:Value} {A R:α→AV} {l:List α} (h:TB (qC P v A R l) g) {x:α} (hx:x∈l):TB (fun w=>uT P v w (A x) (R x)) g:=h.sub fun w hw=>hw x hx
inductive hZ (δ:DS) (z:Operand) (v:Value):List Operand→List AV→Prop
 |nil:hZ δ z v [] []
 |here {xs:List Operand} {vs:List AV} (hs:hZ δ z v xs vs):hZ δ z v (z::xs) (.pv (.lit v)::vs)
 |cons {x:Operand} {u:AV} {xs:List Operand} {vs:List AV} (ho:aK x=true) (h:Hs δ (δ.ev x) u) (hs:hZ δ z v xs vs):hZ δ z v (x::xs) (u::vs)
theorem hZ.len {z:Operand} {v:Value} {xs:List Operand} {vs:List AV} (h:hZ δ z v xs vs):xs.length=vs.length:=by induction h with|nil=>rfl|here hs ih=>simp [ih]|cons ho h hs ih=>simp [ih]
theorem hZ.GW {z:Operand} {xs:List Operand} {args:List AV} (r:Rel g δ κ a w) (h:hZ δ z (a.eval z) xs args):∀(j:Nat) (v:Value) (av:AV),(xs.toArray.map a.eval)[j]? =some v→args[j]? =some av→RA (oO fun _=>True) w v av:=by
 intro j v av h1 h2
 simp only[List.map_toArray,List.getElem?_toArray,List.getElem?_map,Option.map_eq_some_iff] at h1
 obtain⟨x,hx,rfl⟩:=h1
 induction h generalizing j with
 |nil=>simp at hx
 |here hs ih=>
  cases j with
  |zero=>simp at hx h2;subst hx;subst h2;exact .pv (.lit _)
  |succ j=>exact ih j (by simpa using h2) (by simpa using hx)
 |cons ho hle hs ih=>
  cases j with
  |zero=>simp at hx h2;subst hx;subst h2;exact hle.ra r (r.ra rfl ho)
  |succ j=>exact ih j (by simpa using h2) (by simpa using hx)
theorem aa.Ki {q:Md} {α:Type} {T:World→Prop} {A R:α→AV} {l:List α} {z:Operand} {fc f:FuncId} {xs:List Operand} {tys:Array TypeId} {first cap:List AV} {first' cap':List AV} {args:FuncId→Array Value→Array Value→List AV} {r:AV}
  (hf:∀fx vs us,wc (qC P (.func (.func fx) vs us) A R l) P f (args fx vs us) r) (hT:TB T g) (hc:∀x∈l,wc T P fc (first'++ [A x]++cap') (R x)) (hz:δ.ev z=.clo (.func fc) first cap) (kF:aK z=true) (h1:rM δ first first') (h2:rM δ cap cap') (hR:∀x,(R x).mS=true) (bS:∀fx vs us,hZ δ z (.func (.func fx) vs us) xs (args fx vs us)) (gm:r.mS=true) (hd:bn δ.n dst=true) (hq:q≠ .held)
  (hen:∀vals w,(callFunc fc vals).run P w=.ok (.enter fc vals) w)
  (hK:aa q P g ops rest Q (δ.aw dst r)):aa q P g ops (⟨dst,.call {callee:=.value (.func f),args:=xs.toArray,argTypes:=tys},ty,pos,af,none⟩::rest) Q δ:=by
 intro κ a w r0
 have ng:=r0.ra hz kF
 obtain⟨vs,us,hv,hs,Fz,ht,Gc⟩:∃vs us:Array Value,a.eval z=.func (.func fc) vs us∧vs.size=first.length∧(∀(j:Nat) (u:Value) (c:AV),vs[j]? =some u→first[j]? =some c→RA (δ.cx g κ) w u c)∧us.size=cap.length∧∀(j:Nat) (u:Value) (c:AV),us[j]? =some u→cap[j]? =some c→RA (δ.cx g κ) w u c:=by
  generalize a.eval z=v at ng
  cases ng with
  | @clo _ vs us _ _ hs Fz ht Gc=>exact⟨vs,us,rfl,hs,Fz,ht,Gc⟩
 have Kv:qC P (.func (.func fc) vs us) A R l w:=by
  intro x hx
  ·skip
   refine⟨fc,vs,us,rfl,hen,fun w' hb u hu=>?_⟩
   refine((hc x hx).calls (fun _=>True) w' _ (hT.at r0 hb) (fun _ _=>trivial) (by have:=h1.len;have:=h2.len;simp;omega) (fun j v av h3 h4=>?_)).mono (by
    rintro e w'' ⟨v,rfl,hv,hb⟩
    exact⟨by rw[hv.mS (AV.eB (C:=oO (fun _=>True)) (w:=w) (hR x)) (hR x)],hb⟩)
   have l1:=h1.len
   have l2:=h2.len
   by_cases hj:j<first.length
   ·rw[Array.getElem?_append_left (by simp;omega),Array.getElem?_append_left (by omega)] at h3
    rw[List.getElem?_append_left (by simp;omega),List.getElem?_append_left (by omega)] at h4
    have h5:=List.getElem?_eq_getElem hj
    exact((h1.at j _ av h5 h4).ra r0 (Fz j v _ h3 h5)).keep hb
   ·by_cases hj2:j=first.length
    ·rw[Array.getElem?_append_left (by simp;omega),Array.getElem?_append_right (by omega),show j - vs.size=0 by omega] at h3
     rw[List.getElem?_append_left (by simp;omega),List.getElem?_append_right (by omega),show j - first'.length=0 by omega] at h4
     simp at h3 h4;subst h3;subst h4;exact hu
    ·rw[Array.getElem?_append_right (by simp;omega)] at h3
     rw[List.getElem?_append_right (by simp;omega)] at h4
     have e1:(vs++ #[u]).size=first.length+1:=by simp;omega
     have e2:(first'++ [A x]).length=first.length+1:=by simp;omega
     rw[e1] at h3
     rw[e2] at h4
     have aM:j - (first.length+1)<cap.length:=by rw[l2];exact(List.getElem?_eq_some_iff.1 h4).1
     have h5:=List.getElem?_eq_getElem aM
     exact((h2.at _ _ av h5 h4).ra r0 (Gc _ v _ h3 h5)).keep hb
 have Nl:=hf fc vs us
 have uo:=bS fc vs us
 rw[← hv] at uo
 have Qz:∀w',Below w.heap.size w w'→Calls P f (xs.toArray.map a.eval) w' fun e w''=>e=.returned r.out∧Below w'.heap.size w' w'':=fun w' hw'=>
  (Nl.calls (fun _=>True) w' _ (qC.stay _ _ _ _ w w' Kv hw') (fun _ _=>trivial) (by simp [uo.len]) (fun j v av h3 h4=>(uo.GW r0 j v av h3 h4).keep hw')).mono (by
   rintro e w'' ⟨v,rfl,hv,hb⟩
   exact⟨by rw[hv.mS (AV.eB (C:=oO (fun _=>True)) (w:=w) gm) gm],hb⟩)
 have hK1:=hK κ _ _ (r0.aw (aS hd) (AV.eB gm))
 cases q with
 |quiet=>
  show wpQuiet P ops _ _ (_::rest) a
  unfold wpQuiet
  rw[if_pos (by simp [Region.wanted])]
  refine⟨r.out,fun w' hw'=>?_,hK1⟩
  unfold Oper.quietAt
  rw[dE (f:=f) rfl Nl.enters]
  exact⟨rfl,(Qz w' hw').mono fun e w'' ⟨h1,h2⟩=>⟨h1,hw'.trans (h2.mono hw'.size)⟩⟩
 |held=>exact absurd rfl hq
 |plain=>
  show wpListIn _ _ P ops _ (_::rest) a w
  refine b8 rfl rfl fun K hK'=>?_
  unfold Oper.sr
  rw[dE (f:=f) rfl Nl.enters,Oper.uponIn_enter]
  refine⟨fun h=>by simp at h,(dj (Qz w (Below.refl _ _))).mono ?_⟩
  rintro e w' ⟨rfl,hb⟩
  exact hK' _ _ (hK κ _ _ ((r0.ext hb).aw (aS hd) (AV.eB gm)))
theorem aa.Cy {q:Md} {α:Type} {T:World→Prop} {A R:α→AV} {l:List α} {z:Operand} {fc f:FuncId} {xs:List Operand} {tys:Array TypeId} {cap cap':List AV} {args:FuncId→Array Value→Array Value→List AV} {r:AV}
  (hf:∀fx vs us,wc (qC P (.func (.func fx) vs us) A R l) P f (args fx vs us) r) (hc:∀x∈l,wc T P fc (A x::cap') (R x)) (hen:∀vals w,(callFunc fc vals).run P w=.ok (.enter fc vals) w) (hT:TB T g) (bS:∀fx vs us,hZ δ z (.func (.func fx) vs us) xs (args fx vs us)) (hz:δ.ev z=.clo (.func fc) [] cap) (kF:aK z=true) (h2:rM δ cap cap') (hR:∀x,(R x).mS=true) (gm:r.mS=true) (hd:bn δ.n dst=true) (hq:q≠ .held)
  (hK:aa q P g ops rest Q (δ.aw dst r)):aa q P g ops (⟨dst,.call {callee:=.value (.func f),args:=xs.toArray,argTypes:=tys},ty,pos,af,none⟩::rest) Q δ:=
 aa.Ki (first:=[]) (first':=[]) hf hT hc hz kF .nil h2 hR bS gm hd hq hen hK
end Go.Ab
/- Objects that nothing names any more are given up. -/
namespace Go.Ab
open Go Go.RowKit
variable {P:Program} {g:au} {δ:DS} {κ:Kp} {a:Act} {w:World}
def r9 (lr lb:Nat→Bool):Ob→Bool
 |.row|.it _ _|.loop _ _ _ _ _ _|.lit _ _|.pool _ _=>true
 |.box cs=>AV.rF lr lb cs
 |.mp l=>l.all fun p=>p.2.ids lr lb
 |.mpl l _ v=>(l.all fun p=>p.2.ids lr lb) && v.ids lr lb
theorem xx.refl {δ δ':DS}:∀{cs:List AV},AV.rF δ'.lu δ'.kZ cs=true→xx δ δ' cs cs
 |[],_=>trivial
 |c::cs,h=>by
  simp only[AV.rF,Bool.and_eq_true] at h
  exact⟨.eq rfl h.1,xx.refl h.2⟩
variable {k:Wt} {late:List Nat} {l:List Oper} {dn:List Nat} {QD:Exit→DS→Prop}
end Go.Ab
/- Contracts of functions that change objects of their caller's. -/
namespace Go.Ab
open Go Go.RowKit
variable {P:Program} {g:au} {δ:DS} {κ:Kp} {a:Act} {w:World}
variable {ops:Array Oper} {rest:List Oper} {Q:Exit→DS→Prop} {dst:Option Nat} {ty:TypeId} {pos:String} {af:Array Edge}
abbrev XS (objs:List (Nat×Option Ob)) (n:Nat):DS:=⟨0,[],objs,n⟩
abbrev Io:Act:={tmps:= #[],defers:=[]}
def b9:List (Nat×Option Ob)→List AV
 |[]=>[]
 |(i,some (.box _))::r=> .ptr i 0::b9 r
 |(i,some (.lit _ _))::r=> .ptr i 0::b9 r
 |(i,some (.mp _))::r=> .mapr i::b9 r
 |_::r=>b9 r
structure mV {α:Type} (T:World→Prop) (P:Program) (E:α→Cx→World→Ending→Prop) (f:FuncId) (n0:Nat) (objs0:List (Nat×Option Ob)) (args:List AV) (objs1:α→List (Nat×Option Ob)):Prop where
 enters:∀vals w,(callFunc f vals).run P w=.ok (.enter f vals) w
 calls:∀(g:au) (κ:Kp) (w:World) (vals:Array Value),g.ro=none→g.wt=none→TB T g→Rel g (XS objs0 n0) κ Io w→vals.size=args.length→
  (∀(j:Nat) (v:Value) (av:AV),vals[j]? =some v→args[j]? =some av→RA ((XS objs0 n0).cx g κ) w v av)→
  Calls P f vals w fun e w'=>∃x κ',E x ((XS (objs1 x) n0).cx g κ') w' e∧Rel g (XS (objs1 x) n0) κ' Io w'∧∀i b,(AV.ptr i 0∈b9 objs0∨AV.mapr i∈b9 objs0)→κ i=some b→κ' i=some b
def IS (r:AV) (C:Cx) (w:World) (e:Ending):Prop:=∃v,e=.returned v∧RA C w v r
def Qb (t:TypeId) (ch:List PanicEntry):Prop:=∃u:Value,ch=[{v:=.iface t (.agg #[u]),recovered:=false}]∧u.oneCell'=true
def O8 (t:TypeId) (_:Cx) (_:World) (e:Ending):Prop:=∃ch,e=.panicked ch∧Qb t ch
abbrev FC (T:World→Prop) (P:Program) (f:FuncId) (n0:Nat) (objs0:List (Nat×Option Ob)) (args:List AV) (objs1:List (Nat×Option Ob)) (r:AV):Prop:=mV (α:=Unit) T P (fun _=>IS r) f n0 objs0 args (fun _=>objs1)
abbrev jq (P:Program) (f:FuncId) (n0:Nat) (objs0:List (Nat×Option Ob)) (args:List AV) (objs1:List (Nat×Option Ob)) (r:AV):Prop:=mV (α:=Unit) (fun _=>True) P (fun _=>IS r) f n0 objs0 args (fun _=>objs1)
abbrev Qv (T:World→Prop) (P:Program) (t:TypeId) (f:FuncId) (n0:Nat) (objs0:List (Nat×Option Ob)) (args:List AV) (objs1:List (Nat×Option Ob)):Prop:=mV (α:=Unit) T P (fun _=>O8 t) f n0 objs0 args (fun _=>objs1)
theorem mV.sub {α:Type} {T T':World→Prop} {P:Program} {E:α→Cx→World→Ending→Prop} {f:FuncId} {n0:Nat} {objs0:List (Nat×Option Ob)} {args:List AV} {objs1:α→List (Nat×Option Ob)} (h:mV T P E f n0 objs0 args objs1) (hT:∀w,T' w→T w):mV T' P E f n0 objs0 args objs1:=⟨h.enters,fun g κ w vals h1 h2 h3=>h.calls g κ w vals h1 h2 (h3.sub hT)⟩
def na (objs:List (Nat×Option Ob)):List (Nat×Option Ob)→Bool
 |[]=>true
 |(i,some (.box _))::r=>(XS objs 0).kZ i && na objs r
 |(i,some (.lit _ _))::r=>(XS objs 0).kZ i && na objs r
 |(i,some (.mp _))::r=>(XS objs 0).kZ i && na objs r
 |_::r=>na objs r
theorem xw {δ:DS} {i:Nat} (h:δ.kZ i=true) {C:Cx} {w:World} (ho:∀i o,δ.ob i=some o→iR C w i o):∃b,C.κ i=some b:=by
 obtain⟨o,h1,h2⟩:=ft h
 have h3:=ho i o h1
 cases o with
 |row=>simp [Ob.fJ] at h2
 |box cs=>obtain⟨b,_,_,h4,_⟩:=h3;exact⟨b,h4⟩
 |lit T vals=>obtain⟨b,h4,_⟩:=h3;exact⟨b,h4⟩
 |pool e rows=>unfold DS.kZ at h;rw[h1] at h;cases h
 |mp l=>obtain⟨b,_,_,h4,_⟩:=h3;exact⟨b,h4⟩
 |mpl l k v=>obtain⟨b,_,_,h4,_⟩:=h3;exact⟨b,h4⟩
 |it l seen=>obtain⟨b,h4,_⟩:=h3;exact⟨b,h4⟩
 |loop l tm ps asg body st=>obtain⟨b,_,h4,_⟩:=h3;exact⟨b,h4⟩
theorem eX {objs:List (Nat×Option Ob)} {n:Nat} (ho:∀i o,(XS objs n).ob i=some o→iR ((XS objs n).cx g κ) w i o):∀{l:List (Nat×Option Ob)},na objs l=true→∃vs:List Value,vs.length=(b9 l).length∧∀(j:Nat) (u:Value) (c:AV),vs[j]? =some u→(b9 l)[j]? =some c→RA ((XS objs n).cx g κ) w u c
 |[],_=>⟨[],rfl,fun j u c h=>by simp at h⟩
 |(i,none)::r,h=>eX ho (l:=r) h
 |(i,some .row)::r,h=>eX ho (l:=r) h
 |(i,some (.mpl _ _ _))::r,h=>eX ho (l:=r) h
 |(i,some (.it _ _))::r,h=>eX ho (l:=r) h
 |(i,some (.pool _ _))::r,h=>eX ho (l:=r) h
 |(i,some (.loop _ _ _ _ _ _))::r,h=>eX ho (l:=r) h
 |(i,some (.box cs))::r,h=>by
  simp only[na,Bool.and_eq_true] at h
  obtain⟨vs,h1,h2⟩:=eX ho h.2
  obtain⟨b,hb⟩:=xw (δ:=XS objs n) h.1 ho
  refine⟨.pointer (some ⟨b,0,none⟩)::vs,by simp [b9,h1],fun j u c h3 h4=>?_⟩
  cases j with
  |zero=>simp [b9] at h3 h4;subst h3;subst h4;exact .ptr (ft (δ:=XS objs n) h.1) hb
  |succ j=>exact h2 j u c (by simpa using h3) (by simpa [b9] using h4)
 |(i,some (.lit _ _))::r,h=>by
  simp only[na,Bool.and_eq_true] at h
  obtain⟨vs,h1,h2⟩:=eX ho h.2
  obtain⟨b,hb⟩:=xw (δ:=XS objs n) h.1 ho
  refine⟨.pointer (some ⟨b,0,none⟩)::vs,by simp [b9,h1],fun j u c h3 h4=>?_⟩
  cases j with
  |zero=>simp [b9] at h3 h4;subst h3;subst h4;exact .ptr (ft (δ:=XS objs n) h.1) hb
  |succ j=>exact h2 j u c (by simpa using h3) (by simpa [b9] using h4)
 |(i,some (.mp m))::r,h=>by
  simp only[na,Bool.and_eq_true] at h
  obtain⟨vs,h1,h2⟩:=eX ho h.2
  obtain⟨b,hb⟩:=xw (δ:=XS objs n) h.1 ho
  refine⟨.map (some b)::vs,by simp [b9,h1],fun j u c h3 h4=>?_⟩
  cases j with
  |zero=>simp [b9] at h3 h4;subst h3;subst h4;exact .mapr (ft (δ:=XS objs n) h.1) hb
  |succ j=>exact h2 j u c (by simpa using h3) (by simpa [b9] using h4)
abbrev XF (δ:DS) (objs0 objs1:List (Nat×Option Ob)):DS:=⟨δ.n,[(1000,.agg (b9 objs0))],objs1,δ.nx⟩
def fy (P:Program) (rs:List ResultVar) (objs0 objs1:List (Nat×Option Ob)) (r:AV):Exit→DS→Prop
 |.normal,δ|.ret,δ=>∃v,bA P δ rs v∧WV δ (XF δ objs0 objs1) v r∧WV δ (XF δ objs0 objs1) (δ.get 1000) (.agg (b9 objs0))∧ja δ (XF δ objs0 objs1) objs1∧nf δ.nx objs1=true
 |_,_=>False
def GP (t:TypeId) (objs0 objs1:List (Nat×Option Ob)):Exit→DS→Prop
 |.panic ch,δ=>Qb t ch∧WV δ (XF δ objs0 objs1) (δ.get 1000) (.agg (b9 objs0))∧ja δ (XF δ objs0 objs1) objs1∧nf δ.nx objs1=true
 |_,_=>False
theorem RA.yy {C:Cx} {w:World} {u:Value} {i off:Nat} (h:RA C w u (.ptr i off)):∃b,u=.pointer (some ⟨b,off,none⟩)∧C.κ i=some b:=by
 cases h with
 |ptr hl hκ=>exact⟨_,rfl,hκ⟩
theorem RA.vB {C:Cx} {w:World} {u:Value} {i:Nat} (h:RA C w u (.mapr i)):∃b,u=.map (some b)∧C.κ i=some b:=by
 cases h with
 |mapr hl hκ=>exact⟨_,rfl,hκ⟩
theorem BG {C C':Cx} {w w':World} {vs:Array Value} {ps:List AV} (h:RA C w (.agg vs) (.agg ps)) (h':RA C' w' (.agg vs) (.agg ps)) {i b:Nat} (hp:AV.ptr i 0∈ps∨AV.mapr i∈ps) (hb:C.κ i=some b):C'.κ i=some b:=by
 cases h with
 |agg hs h=>
  cases h' with
  |agg hs' h'=>
   rcases hp with hp|hp
   ·obtain⟨j,hj⟩:=List.getElem?_of_mem hp
    have aM:j<vs.size:=by rw[hs];exact(List.getElem?_eq_some_iff.1 hj).1
    have h1:=h j _ _ (Array.getElem?_eq_getElem aM) hj
    have h2:=h' j _ _ (Array.getElem?_eq_getElem aM) hj
    obtain⟨b1,e1,k1⟩:=h1.yy
    obtain⟨b2,e2,k2⟩:=h2.yy
    rw[e1] at e2
    cases e2
    rw[k1] at hb
    cases hb
    exact k2
   ·obtain⟨j,hj⟩:=List.getElem?_of_mem hp
    have aM:j<vs.size:=by rw[hs];exact(List.getElem?_eq_some_iff.1 hj).1
    have h1:=h j _ _ (Array.getElem?_eq_getElem aM) hj
    have h2:=h' j _ _ (Array.getElem?_eq_getElem aM) hj
    obtain⟨b1,e1,k1⟩:=h1.vB
    obtain⟨b2,e2,k2⟩:=h2.vB
    rw[e1] at e2
    cases e2
    rw[k1] at hb
    cases hb
    exact k2
theorem mV.enter {α:Type} {T:World→Prop} {E:α→Cx→World→Ending→Prop} {Q:Exit→DS→Prop} {f:FuncId} {fn:Func} {c:Code} {n n0:Nat} {objs0:List (Nat×Option Ob)} {objs1:α→List (Nat×Option Ob)} {args:List AV} (hf:P.funcs[f]? =some fn) (hb:fn.body=some c) (hn:fn.ntmps=n) (vQ:Nat.ble args.length n=true)
  (kv:Nat.ble n HS=true) (he:(fn.name== "runtime.NumGoroutine")=false) (nr:na objs0 objs0=true) (hn1:∀x,nf n0 (objs1 x)=true)
  (h:∀g:au,g.ro=none→g.wt=none→TB T g→AW P g c Q ⟨n,enum 0 args++ [(1000,.agg (b9 objs0))],objs0,n0⟩)
  (hQ:∀(g:au) (e:Exit) (δ':DS) (κ':Kp) (a':Act) (w':World) (R:Ending→World→Prop),g.wt=none→g.base=[]→Q e δ'→Rel g δ' κ' a' w'→
   (∀x,WV δ' (XF δ' objs0 (objs1 x)) (δ'.get 1000) (.agg (b9 objs0))→ja δ' (XF δ' objs0 (objs1 x)) (objs1 x)→nf δ'.nx (objs1 x)=true→
    ∀en w2,Rel g δ' κ' {a' with defers:=[]} w2→E x ((XF δ' objs0 (objs1 x)).cx g (om δ' κ')) w2 en→R en w2)→bodyPostM Fence.wide 0 P fn R e a' w'):mV T P E f n0 objs0 args objs1:=by
 refine⟨fun vals w=>by simp [callFunc,hf,hb];simpa using he,fun g κ w vals uh du hTB jh hs bS=>?_⟩
 have hle:args.length≤n:=by simpa using vQ
 have hnH:n≤HS:=by simpa using kv
 have hHS:HS=1000:=rfl
 obtain⟨ps,IA,LC⟩:=eX jh.obj nr
 have rm:g.base=[]:=by
  obtain⟨rs,e,_,_⟩:=jh.dfr
  exact(List.append_eq_nil_iff.1 e.symm).2
 have P4:RA ((XS objs0 n0).cx g κ) w (.agg ps.toArray) (.agg (b9 objs0)):=.agg (by simpa using IA) fun j u c h1 h2=>LC j u c (by simpa using h1) h2
 let g':au:={g with held:=fun _=> .agg ps.toArray}
 let δ0:DS:=⟨n,enum 0 args++ [(1000,.agg (b9 objs0))],objs0,n0⟩
 have Ap:∀(l:List AV) (i j:Nat),look (enum i l++ [(1000,AV.agg (b9 objs0))]) j=if i≤j∧j<i+l.length then look (enum i l) j else look [(1000,AV.agg (b9 objs0))] j:=by
  intro l
  induction l with
  |nil=>intro i j;rw[if_neg (by simp)];rfl
  |cons x l ih=>
   intro i j
   show look ((i,x)::(enum (i+1) l++_)) j=_
   rw[a7]
   by_cases e:i=j
   ·subst e
    rw[if_pos rfl,if_pos (by simp)]
    show x=look ((i,x)::enum (i+1) l) i
    rw[a7,if_pos rfl]
   ·rw[if_neg e,ih]
    simp only[List.length_cons]
    by_cases hj:i+1≤j∧j<i+1+l.length
    ·rw[if_pos hj,if_pos (by omega)]
     show _=look ((i,x)::enum (i+1) l) j
     rw[a7,if_neg e]
    ·rw[if_neg hj,if_neg (by omega)]
 have hR:Rel g' δ0 κ {tmps:=vals++Array.replicate (fn.ntmps - vals.size) undef,defers:=[]} w:=
  {n:=by show _=n;simp [hn];omega
   dfr:=by
    obtain⟨rs,e,h1,h2⟩:=jh.dfr
    have e0:=(List.append_eq_nil_iff.1 e.symm).1
    have e0:rs=[]:=by simpa using e0
    subst e0
    exact⟨[],by show []=_++g.base;rw[rm];rfl,h1,h2⟩
   env:=fun j=>by
    show RA ((XS objs0 n0).cx g κ) w _ (look (enum 0 args++ [(1000,AV.agg (b9 objs0))]) j)
    rw[Ap]
    by_cases hj:j<args.length
    ·rw[if_pos (by omega)]
     have h1:look (enum 0 args) j=args[j]:=gX args 0 j _ (Nat.zero_le _) (by simp [hj])
     have h2:g'.val {tmps:=vals++Array.replicate (fn.ntmps - vals.size) undef,defers:=[]} j=vals[j]'(by omega):=by
      unfold au.val
      rw[if_pos (by omega)]
      simp [Array.getD_eq_getD_getElem?,Array.getElem?_append,hs,hj]
     rw[h1,h2]
     exact bS j _ _ (Array.getElem?_eq_getElem (by omega)) (List.getElem?_eq_getElem hj)
    ·rw[if_neg (by omega),a7]
     by_cases e:1000=j
     ·rw[if_pos e]
      have h2:g'.val {tmps:=vals++Array.replicate (fn.ntmps - vals.size) undef,defers:=[]} j=.agg ps.toArray:=by
       unfold au.val
       rw[if_neg (by omega)]
      rw[h2];exact P4
     ·rw[if_neg e];exact .any _
   obj:=jh.obj,inj:=jh.inj,lo:=jh.lo,nx:=jh.nx,wt:=jh.wt,below:=jh.below,hB:=jh.hB,N0:=jh.N0,fr:=jh.fr
   mkf:=fun d hd=>by cases hd}
 have hw:=h g' uh du hTB κ _ w hR
 rw[show g'.ro=none from uh] at hw
 refine callsIn_wide.1 (callsIn_of_wp_marks (n:=0) hf hb trivial (wpIn_mono hw ?_))
 rintro e a' w' ⟨δ',κ',hq,r'⟩
 refine hQ g' e δ' κ' a' w' _ du rm hq r' fun x hp ho hx en w2 r2 hE=>?_
 have hg:∀j,(XF δ' objs0 (objs1 x)).get j=if 1000=j then .agg (b9 objs0) else .any:=fun j=>a7 _ _ _ _
 have r3:Rel g' (XF δ' objs0 (objs1 x)) (om δ' κ') {a' with defers:=[]} w2:=Hk (g:=g') (δ:=δ') (δ':=XF δ' objs0 (objs1 x)) rfl (fun j=>by
   rw[hg]
   by_cases e:1000=j
   ·subst e;rw[if_pos rfl];exact hp
   ·rw[if_neg e];exact .any _) (fun i o h=>ho.at i o h) (fun i o h=>kl hx i o h) r2
 refine⟨x,om δ' κ',hE,?_,fun i b Tb hb=>?_⟩
 ·exact
   {n:=rfl
    dfr:=by
     obtain⟨rs,e,h1,h2⟩:=r3.dfr
     have e0:=(List.append_eq_nil_iff.1 e.symm).1
     have e0:rs=[]:=by simpa using e0
     subst e0
     exact⟨[],by show []=_++g.base;rw[rm];rfl,h1,h2⟩
    env:=fun j=> .any _
    obj:=r3.obj,inj:=r3.inj,lo:=r3.lo,nx:=fun i ⟨o,h⟩=>kl (hn1 x) i o h,wt:=fun k hk=>by rw[du] at hk;cases hk
    below:=r3.below,hB:=r3.hB,N0:=r3.N0,fr:=r3.fr,mkf:=fun d hd=>by cases hd}
 ·have h3:=r3.env 1000
  rw[hg,if_pos rfl] at h3
  have h4:g'.val {a' with defers:=[]} 1000=.agg ps.toArray:=by
   unfold au.val
   rw[if_neg (by omega)]
  rw[h4] at h3
  exact BG (C:=(XS objs0 n0).cx g κ) (w:=w) P4 h3 Tb hb
theorem FC.enter {T:World→Prop} {f:FuncId} {fn:Func} {c:Code} {rs:List ResultVar} {n n0:Nat} {objs0 objs1:List (Nat×Option Ob)} {args:List AV} {r:AV} (hf:P.funcs[f]? =some fn) (hb:fn.body=some c) (ni:fn.results=rs.toArray) (hn:fn.ntmps=n) (vQ:Nat.ble args.length n=true)
  (kv:Nat.ble n HS=true) (he:(fn.name== "runtime.NumGoroutine")=false) (nr:na objs0 objs0=true) (hn1:nf n0 objs1=true)
  (h:∀g:au,g.ro=none→g.wt=none→TB T g→AW P g c (fy P rs objs0 objs1 r) ⟨n,enum 0 args++ [(1000,.agg (b9 objs0))],objs0,n0⟩):FC T P f n0 objs0 args objs1 r:=by
 refine mV.enter (Q:=fy P rs objs0 objs1 r) hf hb hn vQ kv he nr (fun _=>hn1) h fun g e δ' κ' a' w' R du rm hq r' hR=>?_
 have fin:∀v,bA P δ' rs v→WV δ' (XF δ' objs0 objs1) v r→WV δ' (XF δ' objs0 objs1) (δ'.get 1000) (.agg (b9 objs0))→ja δ' (XF δ' objs0 objs1) objs1→nf δ'.nx objs1=true→
   LeavesInM Fence.wide 0 P fn a'.tmps R a'.defers .returning w':=fun v h1 hv hp ho hx=>
  leaves (g:=g) du rm ni h1 r' fun w2 r2 u hu=>hR () hp ho hx _ _ r2 ⟨u,rfl,hu.wv (δ:=δ') (δ':=XF δ' objs0 objs1) r2.fG r2.obj hv⟩
 cases e with
 |normal=>obtain⟨v,h1,h2,h3,h4,h5⟩:=hq;exact fin v h1 h2 h3 h4 h5
 |ret=>obtain⟨v,h1,h2,h3,h4,h5⟩:=hq;exact fin v h1 h2 h3 h4 h5
 |_=>exact hq.elim
theorem jq.enter {f:FuncId} {fn:Func} {c:Code} {rs:List ResultVar} {n n0:Nat} {objs0 objs1:List (Nat×Option Ob)} {args:List AV} {r:AV} (hf:P.funcs[f]? =some fn) (hb:fn.body=some c) (ni:fn.results=rs.toArray) (hn:fn.ntmps=n) (vQ:Nat.ble args.length n=true)
  (kv:Nat.ble n HS=true) (he:(fn.name== "runtime.NumGoroutine")=false) (nr:na objs0 objs0=true) (hn1:nf n0 objs1=true)
  (h:∀g:au,g.ro=none→g.wt=none→AW P g c (fy P rs objs0 objs1 r) ⟨n,enum 0 args++ [(1000,.agg (b9 objs0))],objs0,n0⟩):jq P f n0 objs0 args objs1 r:=FC.enter hf hb ni hn vQ kv he nr hn1 fun g h1 h2 _=>h g h1 h2
end Go.Ab
namespace Go.Ab
open Go Go.RowKit
variable {P:Program} {g:au} {δ:DS} {κ:Kp} {a:Act} {w:World}
variable {ops:Array Oper} {rest:List Oper} {Q:Exit→DS→Prop} {dst:Option Nat} {ty:TypeId} {pos:String} {af:Array Edge}
theorem RA.to {C C':Cx} (hB:C'.B=C.B) (hN:∀b,C.N b→C'.N b) {lr lb:Nat→Bool} (iJ:∀i,lr i=true→C'.Lr i∧C'.κ i=C.κ i) (o6:∀i,lb i=true→C'.Lb i∧C'.κ i=C.κ i) {v:Value} {av:AV} (h:RA C w v av) (hi:av.ids lr lb=true):RA C' w v av:=by
 have hp:∀{v:Value} {p:PV},RP C.N w v p→RP C'.N w v p:=fun h=>h.mono (Nat.le_refl _) fun b _ h2=>⟨hN b h2,rfl⟩
 have ho:∀{v:Value} {i e k els},dS C w v i e k els→lr i=true→dS C' w v i e k els:=by
  intro v i e k els h hl
  obtain⟨h1,h2,h3,h4,xs,h5,h6,h7⟩:=h
  refine⟨(iJ i hl).1,h2,h3,fun b hb=>(iJ i hl).2.trans (h4 b hb),xs,?_,h6,fun i' j p hp'=>let ⟨u,h8,h9⟩:=h7 i' j p hp';⟨u,h8,hp h9⟩⟩
  rw[hB];exact h5
 induction h with
 |any v=>exact .any v
 |pv h=>exact .pv (hp h)
 |own h=>exact .own (ho h hi)
 |ptr hl hκ=>exact .ptr (o6 _ hi).1 ((o6 _ hi).2.trans hκ)
 |rptr b off vs hN' hb hc hr=>exact .rptr b off vs (hN _ hN') hb hc (fun j p h=>hp (hr j p h))
 |optr aM h=>exact .optr aM (ho h hi)
 |agg hs h ih=>exact .agg hs fun j u c h1 h2=>ih j u c h1 h2 (AV.fV _ hi j c h2)
 |tup hs h ih=>exact .tup hs fun j u c h1 h2=>ih j u c h1 h2 (AV.fV _ hi j c h2)
 |clo hs h ht h' ih ih'=>
  simp only[AV.ids,Bool.and_eq_true] at hi
  exact .clo hs (fun j u c h1 h2=>ih j u c h1 h2 (AV.fV _ hi.1 j c h2)) ht (fun j u c h1 h2=>ih' j u c h1 h2 (AV.fV _ hi.2 j c h2))
 |mapr hl hκ=>exact .mapr (o6 _ hi).1 ((o6 _ hi).2.trans hκ)
 |yld hl hκ=>exact .yld (o6 _ hi).1 ((o6 _ hi).2.trans hκ)
theorem iR.to {C C':Cx} (hB:C'.B=C.B) (hN:∀b,C.N b→C'.N b) {lr lb:Nat→Bool} (iJ:∀i,lr i=true→C'.Lr i∧C'.κ i=C.κ i) (o6:∀i,lb i=true→C'.Lb i∧C'.κ i=C.κ i) {i:Nat} {o:Ob} (hκ:C'.κ i=C.κ i) (hF:∀b,C.κ.F i b→C'.κ.F i b) (h:iR C w i o) (hi:r9 lr lb o=true):iR C' w i o:=by
 cases o with
 |row=>intro b hb;rw[hκ] at hb;exact h b hb
 |lit T vals=>obtain⟨b,h1,h2⟩:=h;exact⟨b,hκ.trans h1,h2⟩
 |pool e rows=>exact⟨hκ.trans h.1,fun k=>(h.2.1 k).fp hB fun b _ h2 _=>⟨hF b h2,rfl⟩,h.2.2⟩
 |box cs=>
  obtain⟨b,c,e,h1,h2,h3,h4⟩:=h
  exact⟨b,c,e,hκ.trans h1,h2,h3,fun j u av h5 h6=>⟨(h4 j u av h5 h6).1.to hB hN iJ o6 (AV.fV _ hi j av h6),(h4 j u av h5 h6).2⟩⟩
 |mp l=>
  obtain⟨b,es,clock,h1,h2,h3,h4⟩:=h
  exact⟨b,es,clock,hκ.trans h1,h2,⟨h3.1,fun j e p h5 h6=>⟨(h3.2 j e p h5 h6).1,(h3.2 j e p h5 h6).2.to hB hN iJ o6 (List.all_eq_true.1 hi p (List.mem_of_getElem? h6))⟩⟩,h4⟩
 |mpl l k v=>
  obtain⟨b,es,clock,h1,h2,h3,h4⟩:=h
  simp only[r9,Bool.and_eq_true] at hi
  exact⟨b,es,clock,hκ.trans h1,h2,h3.last (fun u p hp h=>h.to hB hN iJ o6 (List.all_eq_true.1 hi.1 p hp)) (fun u h=>h.to hB hN iJ o6 hi.2),h4⟩
 |it l seen=>
  obtain⟨b,h1,h2⟩:=h
  exact⟨b,hκ.trans h1,h2.mono (Nat.le_refl _) (fun b _ h=>⟨hN b h,rfl⟩) rfl⟩
 |loop l tm ps asg body st=>
  obtain⟨b,lr',h1,h2⟩:=h
  exact⟨b,lr',hκ.trans h1,h2⟩
def eA:List (Nat×Option Ob)→List (Nat×Option Ob)→Bool
 |[],[]=>true
 |(i,some .row)::r,(j,some .row)::r'=>Nat.beq i j && eA r r'
 |(i,some (.box _))::r,(j,some (.box _))::r'=>Nat.beq i j && eA r r'
 |(i,some (.lit _ _))::r,(j,some (.box _))::r'=>Nat.beq i j && eA r r'
 |(i,some (.mp _))::r,(j,some (.mp _))::r'=>Nat.beq i j && eA r r'
 |(i,some (.pool _ _))::r,(j,some (.pool _ _))::r'=>Nat.beq i j && eA r r'
 |_,_=>false
inductive Kind (l0 l1:List (Nat×Option Ob)) (i:Nat):Prop
 |none (h0:aH l0 i=.none) (h1:aH l1 i=.none)
 |row (h0:aH l0 i=some .row) (h1:aH l1 i=some .row)
 |box (c d:List AV) (h0:aH l0 i=some (.box c)) (h1:aH l1 i=some (.box d)) (hp:AV.ptr i 0∈b9 l0)
 |lit (T:TypeId) (vals:Array Value) (d:List AV) (h0:aH l0 i=some (.lit T vals)) (h1:aH l1 i=some (.box d)) (hp:AV.ptr i 0∈b9 l0)
 |mp (c d:List (Value×AV)) (h0:aH l0 i=some (.mp c)) (h1:aH l1 i=some (.mp d)) (hp:AV.mapr i∈b9 l0)
 |pool (e e':TypeId) (c d:Nat→Value×List Value) (h0:aH l0 i=some (.pool e c)) (h1:aH l1 i=some (.pool e' d))
theorem Kind.skip {j:Nat} {o o':Option Ob} {r r':List (Nat×Option Ob)} {i:Nat} (h:Kind r r' i) (bx:¬j=i):Kind ((j,o)::r) ((j,o')::r') i:=by
 have e0:∀(o:Option Ob) (r:List (Nat×Option Ob)),aH ((j,o)::r) i=aH r i:=fun o r=>by rw[a6,if_neg bx]
 have hp:∀{c:AV},c∈b9 r→c∈b9 ((j,o)::r):=fun {c} h=>by
  rcases o with _|o
  ·exact h
  ·cases o<;>simp only[b9]<;>first|exact h|exact List.mem_cons_of_mem _ h
 cases h with
 |none h0 h1=>exact .none ((e0 _ _).trans h0) ((e0 _ _).trans h1)
 |row h0 h1=>exact .row ((e0 _ _).trans h0) ((e0 _ _).trans h1)
 |box c d h0 h1 h2=>exact .box c d ((e0 _ _).trans h0) ((e0 _ _).trans h1) (hp h2)
 |lit T vals d h0 h1 h2=>exact .lit T vals d ((e0 _ _).trans h0) ((e0 _ _).trans h1) (hp h2)
 |mp c d h0 h1 h2=>exact .mp c d ((e0 _ _).trans h0) ((e0 _ _).trans h1) (hp h2)
 |pool e e' c d h0 h1=>exact .pool e e' c d ((e0 _ _).trans h0) ((e0 _ _).trans h1)
theorem jo:∀{l0 l1:List (Nat×Option Ob)},eA l0 l1=true→∀i,Kind l0 l1 i
 |[],[],_,i=> .none rfl rfl
 |(j,some .row)::r,(j',some .row)::r',h,i=>by
  simp only[eA,Bool.and_eq_true] at h
  obtain rfl:=Nat.eq_of_beq_eq_true h.1
  by_cases e:j=i
  ·subst e;exact .row (by rw[a6,if_pos rfl]) (by rw[a6,if_pos rfl])
  ·exact(jo h.2 i).skip e
 |(j,some (.box c))::r,(j',some (.box d))::r',h,i=>by
  simp only[eA,Bool.and_eq_true] at h
  obtain rfl:=Nat.eq_of_beq_eq_true h.1
  by_cases e:j=i
  ·subst e;exact .box c d (by rw[a6,if_pos rfl]) (by rw[a6,if_pos rfl]) (by simp [b9])
  ·exact(jo h.2 i).skip e
 |(j,some (.lit T c))::r,(j',some (.box d))::r',h,i=>by
  simp only[eA,Bool.and_eq_true] at h
  obtain rfl:=Nat.eq_of_beq_eq_true h.1
  by_cases e:j=i
  ·subst e;exact .lit T c d (by rw[a6,if_pos rfl]) (by rw[a6,if_pos rfl]) (by simp [b9])
  ·exact(jo h.2 i).skip e
 |(j,some (.mp c))::r,(j',some (.mp d))::r',h,i=>by
  simp only[eA,Bool.and_eq_true] at h
  obtain rfl:=Nat.eq_of_beq_eq_true h.1
  by_cases e:j=i
  ·subst e;exact .mp c d (by rw[a6,if_pos rfl]) (by rw[a6,if_pos rfl]) (by simp [b9])
  ·exact(jo h.2 i).skip e
 |(j,some (.pool e c))::r,(j',some (.pool e' d))::r',h,i=>by
  simp only[eA,Bool.and_eq_true] at h
  obtain rfl:=Nat.eq_of_beq_eq_true h.1
  by_cases e0:j=i
  ·subst e0;exact .pool e e' c d (by rw[a6,if_pos rfl]) (by rw[a6,if_pos rfl])
  ·exact(jo h.2 i).skip e0
def dp:List (Nat×Option Ob)→List Nat
 |[]=>[]
 |(i,some .row)::r=>i::dp r
 |_::r=>dp r
theorem sF:∀{l:List (Nat×Option Ob)} {i:Nat},aH l i=some .row→jn i (dp l)=true
 |[],i,h=>by simp [aH] at h
 |(j,o)::r,i,h=>by
  rw[a6] at h
  have hm:∀(b:Bool),(bif b then true else jn i (dp r))=true∨jn i (dp r)=false:=fun b=>by cases b<;>cases jn i (dp r)<;>simp
  by_cases e:j=i
  ·rw[if_pos e] at h
   subst h
   subst e
   simp only[dp,uZ,beq_self_eq_true,cond_true]
  ·rw[if_neg e] at h
   have:=sF h
   rcases o with _|o
   ·exact this
   ·cases o<;>simp only[dp,uZ]<;>first|exact this|(rw[this];cases (i==j)<;>rfl)
def km (rs:List Nat):AV→AV
 |.own j e k els=>bif jn j rs then .any else .own j e k els
 |.optr j e k els n=>bif jn j rs then .any else .optr j e k els n
 |v=>v
def AV.cS (rs:List Nat):AV→AV:=AV.mp (km rs)
def Cx.oB (C:Cx) (rs:List Nat):Cx:={C with Lr:=fun j=>C.Lr j∧jn j rs=false,κ:=⟨C.κ.f,fun _ _=>False⟩}
theorem RA.cS {C C':Cx} {rs:List Nat} {w w':World} (G:eD (C.oB rs) w C' w') {v:Value} {av:AV} (h:RA C w v av):RA C' w' v (av.cS rs):=by
 have vr:∀{v j e k els},dS C w v j e k els→jn j rs=false→dS (C.oB rs) w v j e k els:=fun h hj=>⟨⟨h.live,hj⟩,h.lim,h.hk,h.blk,h.row⟩
 unfold AV.cS
 induction h with
 |any v=>exact .any v
 |pv h=>exact .pv (G.rp h)
 | @own v j e k els h=>
  simp only[AV.mp,km]
  cases hj:jn j rs with
  |true=>exact .any _
  |false=>exact .own (G.AL (vr h hj))
 |ptr hl hκ=>exact .ptr (G.Lb _ hl).1 ((G.Lb _ hl).2.trans hκ)
 |rptr b off vs hN hb hc hr=>exact G.ra (C:=C.oB rs) (.rptr b off vs hN hb hc hr)
 | @optr j e k els n b cap hn h=>
  simp only[AV.mp,km]
  cases hj:jn j rs with
  |true=>exact .any _
  |false=>exact .optr hn (G.AL (vr h hj))
 | @agg vs cs hs h ih=>
  simp only[AV.mp,AV.dI]
  refine .agg (by simpa using hs) fun j u c h1 h2=>?_
  simp only[List.getElem?_map,Option.map_eq_some_iff] at h2
  obtain⟨c',h2,rfl⟩:=h2
  exact ih j u c' h1 h2
 | @tup vs cs hs h ih=>
  simp only[AV.mp,AV.dI]
  refine .tup (by simpa using hs) fun j u c h1 h2=>?_
  simp only[List.getElem?_map,Option.map_eq_some_iff] at h2
  obtain⟨c',h2,rfl⟩:=h2
  exact ih j u c' h1 h2
 | @clo fn vs us cs ds hs h ht h' ih ih'=>
  simp only[AV.mp,AV.dI]
  refine .clo (by simpa using hs) (fun j u c h1 h2=>?_) (by simpa using ht) (fun j u c h1 h2=>?_)
  ·simp only[List.getElem?_map,Option.map_eq_some_iff] at h2
   obtain⟨c',h2,rfl⟩:=h2
   exact ih j u c' h1 h2
  ·simp only[List.getElem?_map,Option.map_eq_some_iff] at h2
   obtain⟨c',h2,rfl⟩:=h2
   exact ih' j u c' h1 h2
 |mapr hl hκ=>exact .mapr (G.Lb _ hl).1 ((G.Lb _ hl).2.trans hκ)
 |yld hl hκ=>exact .yld (G.Lb _ hl).1 ((G.Lb _ hl).2.trans hκ)
theorem RA.oB {C:Cx} {rs:List Nat} {w:World} {v:Value} {av:AV} (h:RA C w v av) (hn:av.eS=true):RA (C.oB rs) w v av:=by
 cases h with
 |any v=>exact .any v
 |pv h=>exact .pv h
 |own h=>simp [AV.eS] at hn
 |ptr hl hκ=>exact .ptr hl hκ
 |rptr b off vs hN hb hc hr=>exact .rptr b off vs hN hb hc hr
 |optr hi h=>simp [AV.eS] at hn
 |agg hs h=>simp [AV.eS] at hn
 |tup hs h=>simp [AV.eS] at hn
 |clo hs h ht h'=>simp [AV.eS] at hn
 |mapr hl hκ=>exact .mapr hl hκ
 |yld hl hκ=>exact .yld hl hκ
def uO (δ:DS):List (Nat×Option Ob)→Prop
 |[]=>True
 |(i,o)::r=>δ.ob i=o∧uO δ r
theorem uO.at {δ:DS}:∀{l:List (Nat×Option Ob)},uO δ l→∀i o,aH l i=some o→δ.ob i=some o
 |[],_,i,o,h=>by simp [aH] at h
 |(j,x)::r,hs,i,o,h=>by
  rw[a6] at h
  by_cases e:j=i
  ·rw[if_pos e] at h;subst e;rw[hs.1];exact h
  ·rw[if_neg e] at h;exact hs.2.at i o h
inductive LR (lr lb:Nat→Bool):AV→AV→Prop
 |any (c:AV):LR lr lb c .any
 |eq {c d:AV} (h:c=d) (hi:d.ids lr lb=true):LR lr lb c d
 |nil (k:Nat):LR lr lb (.pv (.lit (.slice none 0 0))) (.pv (.slice k []))
inductive oS (lr lb:Nat→Bool):List AV→List AV→Prop
 |nil:oS lr lb [] []
 |cons {c d:AV} {cs ds:List AV} (h:LR lr lb c d) (hs:oS lr lb cs ds):oS lr lb (c::cs) (d::ds)
theorem oS.len {lr lb:Nat→Bool} {cs ds:List AV} (h:oS lr lb cs ds):cs.length=ds.length:=by induction h with|nil=>rfl|cons h hs ih=>simp [ih]
theorem oS.at {lr lb:Nat→Bool} {cs ds:List AV} (h:oS lr lb cs ds):∀(j:Nat) (c d:AV),cs[j]? =some c→ds[j]? =some d→LR lr lb c d:=by
 induction h with
 |nil=>intro j c d h1;simp at h1
 |cons h hs ih=>
  intro j c d h1 h2
  cases j with
  |zero=>simp at h1 h2;subst h1;subst h2;exact h
  |succ j=>exact ih j c d (by simpa using h1) (by simpa using h2)
def DS.cD (δ:DS) (objs0 objs1:List (Nat×Option Ob)):DS:={(δ.cw (AV.cS (dp objs0))) with objs:=objs1++(δ.cw (AV.cS (dp objs0))).objs}
theorem vb:∀{l l':List (Nat×Option Ob)} {i:Nat},(∀p∈l,p.2.isSome=true)→aH (l++l') i=match aH l i with|some o=>some o|none=>aH l' i
 |[],l',i,_=>rfl
 |(j,o)::r,l',i,h=>by
  rw[List.cons_append,a6,a6]
  by_cases e:j=i
  ·rw[if_pos e,if_pos e]
   have:=h (j,o) (by simp)
   cases o with
   |none=>simp at this
   |some o=>rfl
  ·rw[if_neg e,if_neg e];exact vb fun p hp=>h p (by simp [hp])
theorem fU:∀{l0 l1:List (Nat×Option Ob)},eA l0 l1=true→∀p∈l1,p.2.isSome=true
 |[],[],_,p,hp=>by simp at hp
 |(j,some .row)::r,(j',some .row)::r',h,p,hp=>by
  simp only[eA,Bool.and_eq_true] at h
  rcases List.mem_cons.1 hp with rfl|hp
  ·rfl
  ·exact fU h.2 p hp
 |(j,some (.box c))::r,(j',some (.box d))::r',h,p,hp=>by
  simp only[eA,Bool.and_eq_true] at h
  rcases List.mem_cons.1 hp with rfl|hp
  ·rfl
  ·exact fU h.2 p hp
 |(j,some (.lit T c))::r,(j',some (.box d))::r',h,p,hp=>by
  simp only[eA,Bool.and_eq_true] at h
  rcases List.mem_cons.1 hp with rfl|hp
  ·rfl
  ·exact fU h.2 p hp
 |(j,some (.mp c))::r,(j',some (.mp d))::r',h,p,hp=>by
  simp only[eA,Bool.and_eq_true] at h
  rcases List.mem_cons.1 hp with rfl|hp
  ·rfl
  ·exact fU h.2 p hp
 |(j,some (.pool e c))::r,(j',some (.pool e' d))::r',h,p,hp=>by
  simp only[eA,Bool.and_eq_true] at h
  rcases List.mem_cons.1 hp with rfl|hp
  ·rfl
  ·exact fU h.2 p hp
theorem zJ (rs:List Nat):AV.cS rs .any=.any:=rfl
end Go.Ab
/- Callees that rewrite a row of numbers in place:Go's slices.Sort,slices.Compact. -/
namespace Go.Ab
open Go Go.RowKit
variable {P:Program} {g:au} {δ:DS} {κ:Kp} {a:Act} {w:World}
def nI (z:Int):List PV:=[.lit (.int .i64 z)]
structure ES (P:Program) (f:FuncId) (out:List Int→List Int) (ret:Option (List Int→Nat)):Prop where
 enters:∀vals w,(callFunc f vals).run P w=.ok (.enter f vals) w
 len:∀zs,(out zs).length=zs.length
 retle:∀r,ret=some r→∀zs,r zs≤zs.length
 calls:∀(b cap:Nat) (zs:List Int) (w:World),Sort.Holds (Value.int .i64) w b 0 zs.toArray→b<w.heap.size→zs.length≤140737488355328→zs.length≤cap→
  Calls P f #[.slice (some ⟨b,0,none⟩) zs.length cap] w fun e w'=>e=.returned (match ret with|none=> .tuple #[]|some r=> .slice (some ⟨b,0,none⟩) (r zs) cap)∧
   ∃n os,w'=Sort.grow (Sort.putRow (Value.int .i64) (Sort.ahead w n) b 0 (out zs).toArray) os
 nil:∀w,Calls P f #[.slice none 0 0] w fun e w'=>e=.returned (match ret with|none=> .tuple #[]|some _=> .slice none 0 0)∧Below w.heap.size w w'
theorem vC {w:World} {b n:Nat} {c:Array Value} {e:TypeId} {d:Array Int} {os:Array Obj} (h:w.heap[b]? =some (.cells c e (0,0))):
  (Sort.grow (Sort.putRow (Value.int .i64) (Sort.ahead w n) b 0 d) os).heap[b]? =some (.cells (Sort.putCells (Value.int .i64) 0 d c) e (0,0)):=by
 have hb:b<w.heap.size:=(Array.getElem?_eq_some_iff.1 h).1
 unfold Sort.grow Sort.putRow Sort.mapBlock Sort.ahead
 simp only
 rw[Array.getElem?_append_left (by simpa using hb),Array.getElem?_modify,if_pos rfl,h]
 rfl
theorem ua {w:World} {b n k:Nat} {d:Array Int} {os:Array Obj} (hk:k<w.heap.size) (bx:b≠k):
  (Sort.grow (Sort.putRow (Value.int .i64) (Sort.ahead w n) b 0 d) os).heap[k]? =w.heap[k]?:=by
 unfold Sort.grow Sort.putRow Sort.mapBlock Sort.ahead
 simp only
 rw[Array.getElem?_append_left (by simpa using hk),Array.getElem?_modify,if_neg bx]
theorem tj (w:World) (b n:Nat) (d:Array Int) (os:Array Obj):c7 w (Sort.grow (Sort.putRow (Value.int .i64) (Sort.ahead w n) b 0 d) os) (some b):=
 ⟨rfl,rfl,rfl,by simp [Sort.grow,Sort.putRow,Sort.mapBlock,Sort.ahead],fun k hk bx=>ua hk (fun e=>bx (by rw[e]))⟩
theorem rE {c:Array Value} {d:List Int} (hc:d.length≤c.size):(Sort.putCells (Value.int .i64) 0 d.toArray c).toList.take d.length=d.map (Value.int .i64):=by
 apply List.ext_getElem
 ·simp [Sort.putCells];omega
 ·intro j h1 h2
  have hj:j<d.length:=by simpa using h2
  simp [Sort.putCells,hj]
theorem Gn {w:World} {N:Nat→Prop} {xs:List Value} {zs:List Int} (hl:xs.length=zs.length*1) (hx:∀i' j p,cellAt (zs.map nI) i' j=some p→∃u,xs[i'*1+j]? =some u∧RP N w u p):xs=zs.map (Value.int .i64):=by
 apply List.ext_getElem
 ·simp [hl]
 ·intro j h1 h2
  have hj:j<zs.length:=by simpa using h2
  obtain⟨u,hu,hr⟩:=hx j 0 (.lit (.int .i64 zs[j])) (by simp [cellAt,hj,nI])
  cases hr
  rw[Nat.mul_one,Nat.add_zero,List.getElem?_eq_getElem h1] at hu
  simpa using hu
def fS (δ:DS) (v:AV):List Nat→DS
 |[]=>δ
 |t::ts=>(fS δ v ts).put t v
theorem BA (δ:DS) (v:AV) (ts:List Nat):(fS δ v ts).n=δ.n:=by induction ts with|nil=>rfl|cons t ts ih=>exact ih
def yR (δ:DS) (v:AV):List Nat→Prop
 |[]=>True
 |t::ts=>δ.get t=v∧yR δ v ts
theorem Ji (δ:DS) (t:Nat) (v:AV):(δ.put t v).cx g κ=δ.cx g κ:=rfl
theorem kU (δ:DS) (v:AV):∀ts,(fS δ v ts).cx g κ=δ.cx g κ
 |[]=>rfl
 |t::ts=>by show((fS δ v ts).put t v).cx g κ=_;rw[Ji,kU δ v ts]
theorem Rel.mL (r:Rel g δ κ a w) {t:Nat} {v:AV} (h:RA (δ.cx g κ) w (g.val a t) v):Rel g (δ.put t v) κ a w where
 n:=r.n
 dfr:=r.dfr
 env:=fun j=>by
  rw[yX]
  by_cases e:t=j
  ·subst e;rw[if_pos rfl];exact h
  ·rw[if_neg e];exact r.env j
 obj:=r.obj
 inj:=r.inj
 lo:=r.lo
 nx:=r.nx
 wt:=r.wt
 below:=r.below
 hB:=r.hB
 N0:=r.N0
 fr:=r.fr
 mkf:=r.mkf
theorem Rel.pZ (r:Rel g δ κ a w) {v:AV}:∀ts:List Nat,(∀t∈ts,RA (δ.cx g κ) w (g.val a t) v)→Rel g (fS δ v ts) κ a w
 |[],_=>r
 |t::ts,h=>(Rel.pZ r ts fun t ht=>h t (by simp [ht])).mL (by rw[kU];exact h t (by simp))
theorem nS {δ:DS} {v:AV}:∀{ts:List Nat},yR δ v ts→∀t∈ts,δ.get t=v
 |[],_,t,h=>by simp at h
 |x::ts,h,t,ht=>by
  rcases List.mem_cons.1 ht with rfl|ht
  ·exact h.1
  ·exact nS h.2 t ht
variable {ops:Array Oper} {rest:List Oper} {Q:Exit→DS→Prop} {dst:Option Nat} {ty:TypeId} {pos:String} {af:Array Edge} {gd:Option (Tmp×Bool)}
def tq (i:Nat) (e:TypeId) (zs os:List Int):Option (List Int→Nat)→AV
 |none=> .tup []
 |some r=> .own i e 1 ((os.take (r zs)).map nI)
theorem dS.ec {C:Cx} {w:World} {v:Value} {i:Nat} {e:TypeId} {zs:List Int} (h:dS C w v i e 1 (zs.map nI)):
  (v=.slice none 0 0∧zs=[])∨∃b cap c,v=.slice (some ⟨b,0,none⟩) zs.length cap∧C.κ i=some b∧C.B≤b∧w.heap[b]? =some (.cells c e (0,0))∧zs.length≤cap∧cap≤maxLen∧c.size=cap∧c.toList.take zs.length=zs.map (Value.int .i64):=by
 obtain⟨xs,⟨hl,cp⟩,_,hx⟩:=h.row
 rw[List.length_map] at hl cp
 have ID:=Gn hl hx
 rcases cp with ⟨rfl,h0⟩|⟨b,cap,c,rfl,h1,h2,h3,h4,h5,h6⟩
 ·exact .inl ⟨rfl,List.eq_nil_of_length_eq_zero h0⟩
 ·refine .inr ⟨b,cap,c,rfl,h.blk b rfl,h1,h2,h3,h4,by omega,?_⟩
  rw[← ID,← h6,Nat.mul_one]
theorem dS.xt {C:Cx} {w:World} {i b cap:Nat} {e:TypeId} {zs:List Int} {c:Array Value} (hl:C.Lr i) (hκ:C.κ i=some b) (hB:C.B≤b) (h2:w.heap[b]? =some (.cells c e (0,0))) (h3:zs.length≤cap) (h4:cap≤maxLen) (h5:c.size=cap)
  (h6:c.toList.take zs.length=zs.map (Value.int .i64)) (gw:zs.length≤140737488355328):dS C w (.slice (some ⟨b,0,none⟩) zs.length cap) i e 1 (zs.map nI):=by
 refine⟨hl,by simpa using gw,fun c hc=>?_,fun b' hb'=>?_,zs.map (Value.int .i64),⟨by simp,.inr ⟨b,cap,c,by simp,hB,h2,by simpa using h3,h4,by omega,by simpa using h6⟩⟩,fun u hu=>?_,fun i' j p hp=>?_⟩
 ·obtain⟨z,_,rfl⟩:=List.mem_map.1 hc;rfl
 ·cases hb';exact hκ
 ·obtain⟨z,_,rfl⟩:=List.mem_map.1 hu;rfl
 ·unfold cellAt at hp
  rw[List.getElem?_map] at hp
  cases hz:zs[i']? with
  |none=>rw[hz] at hp;simp at hp
  |some z=>
   rw[hz] at hp
   cases j with
   |zero=>
    simp [nI] at hp
    subst hp
    exact⟨.int .i64 z,by rw[Nat.mul_one,Nat.add_zero,List.getElem?_map,hz];rfl,.lit _⟩
   |succ j=>simp [nI] at hp
theorem dv.Ga {f:FuncId} {x:Operand} {tys:Array TypeId} {out:List Int→List Int} {ret:Option (List Int→Nat)} (hf:ES P f out ret) (ts:List Nat) {i:Nat} {e:TypeId} {zs:List Int} (hx:δ.ev x=.own i e 1 (zs.map nI)) (qz:yR δ (.own i e 1 (zs.map nI)) ts) (hr:δ.ob i=some .row)
  (ho:aK x=true) (hd:bn δ.n dst=true):
  dv P g ⟨dst,.call {callee:=.value (.func f),args:= #[x],argTypes:=tys},ty,pos,af,none⟩ δ ((fS (δ.cw (AV.kill i)) (.own i e 1 ((out zs).map nI)) ts).aw dst (tq i e zs (out zs) ret)):=by
 intro κ a w r
 right
 have xi:=(r.ra hx ho).dU
 have aV:=dE (dst:=dst) (ty:=ty) (pos:=pos) (af:=af) (xs:= #[x]) (tys:=tys) (ρ:=a.eval) (x:=.func f) (f:=f) rfl hf.enters w
 have gw:zs.length≤140737488355328:=by simpa using xi.lim
 refine⟨f, #[a.eval x],by simpa using aV,?_⟩
 have nb:∀ts,bn (fS (δ.cw (AV.kill i)) (.own i e 1 ((out zs).map nI)) ts).n dst=true:=fun ts=>by rw[BA];exact hd
 have iJ:∀κ',((δ.cw (AV.kill i)).cx g κ').Lr i:=fun κ'=>by
  show(δ.cw (AV.kill i)).ob i=some .row
  rw[e_,hr];rfl
 have iV:∀t∈ts,dS (δ.cx g κ) w (g.val a t) i e 1 (zs.map nI):=fun t ht=>by
  have:=r.env t
  rw[nS qz t ht] at this
  exact this.dU
 have H2:∀{w':World},dS ((δ.cw (AV.kill i)).cx g κ) w' (.slice none 0 0) i e 1 (([]:List Int).map nI):=fun {w'}=>
  ⟨iJ κ,(by simp),(fun c hc=>by simp at hc),(fun b hb=>by cases hb),⟨[],⟨by simp,.inl ⟨rfl,rfl⟩⟩,(fun u hu=>by simp at hu),(fun i' j p hp=>by simp [cellAt] at hp)⟩⟩
 rcases xi.ec with ⟨hv,rfl⟩|⟨b,cap,c,hv,hκ,hB,hb,jC,iG,kG,ot⟩
 ·
  rw[hv]
  refine(hf.nil w).mono fun e' w' ⟨he,Ju⟩=>?_
  have r1:=r.ext Ju
  have e0:out []=[]:=List.eq_nil_of_length_eq_zero (by rw[hf.len];rfl)
  have rk:Rel g (δ.cw (AV.kill i)) κ a w':=by
   refine(r1.row hr (κ':=κ) (fun _ _=>rfl) ⟨rfl,rfl,rfl,Nat.le_refl _,fun _ _ _=>rfl⟩ (fun b hb'=>?_) (AV.kill i) rfl (fun G v av h=>h.kill G)).1
   obtain⟨c,e',h1⟩:=r1.obj i .row hr b hb'
   exact⟨.inl hb',(Array.getElem?_eq_some_iff.1 h1).1,c,e',h1⟩
  have ra:Rel g (fS (δ.cw (AV.kill i)) (.own i e 1 ((out []).map nI)) ts) κ a w':=by
   refine rk.pZ ts fun t ht=> .own ?_
   have h1:=r1.env t
   rw[nS qz t ht] at h1
   rw[e0]
   rcases h1.dU.ec with ⟨h2,_⟩|⟨b,cap,c,h2,hκ,hB,hb,jC,iG,kG,ot⟩
   ·rw[h2];exact H2
   ·rw[h2];exact dS.xt (iJ κ) hκ hB hb jC iG kG ot (by simp)
  refine⟨_,κ,he,ra.aw (aS (nb ts)) ?_⟩
  cases ret with
  |none=>exact .tup rfl (fun j u c h=>by simp at h)
  |some rr=>
   show RA _ _ _ (.own i e 1 (((out []).take (rr [])).map nI))
   rw[e0,kU]
   exact .own (by simpa using H2)
 ·rw[hv]
  have hκ0:κ i=some b:=hκ
  have L9:b<w.heap.size:=(Array.getElem?_eq_some_iff.1 hb).1
  have hold:Sort.Holds (Value.int .i64) w b 0 zs.toArray:=by
   intro j hj
   have hj':j<zs.length:=by simpa using hj
   refine⟨?_,by rw[Nat.zero_add];exact jb hb _⟩
   rw[Nat.zero_add,cell_of hb]
   have h1:(c.toList.take zs.length)[j]? =(zs.map (Value.int .i64))[j]?:=by rw[ot]
   rw[List.getElem?_take,if_pos hj',Array.getElem?_toList,List.getElem?_map,List.getElem?_eq_getElem hj'] at h1
   rw[h1]
   simp [hj']
  refine(hf.calls b cap zs w hold L9 gw jC).mono fun e' w' ⟨he,n,os,hw'⟩=>?_
  have hh:w'.heap[b]? =some (.cells (Sort.putCells (Value.int .i64) 0 (out zs).toArray c) e (0,0)):=by rw[hw'];exact vC hb
  have jm:(Sort.putCells (Value.int .i64) 0 (out zs).toArray c).size=c.size:=by simp [Sort.putCells]
  have B2:=rE (c:=c) (d:=out zs) (by rw[hf.len];omega)
  have rk:Rel g (δ.cw (AV.kill i)) κ a w':=by
   refine(r.row hr (κ':=κ) (fun _ _=>rfl) (by rw[hκ0,hw'];exact tj _ _ _ _ _) (fun b' hb'=>?_) (AV.kill i) rfl (fun G v av h=>h.kill G)).1
   obtain rfl:b=b':=Option.some.inj (hκ.symm.trans hb')
   exact⟨.inl hκ,(Array.getElem?_eq_some_iff.1 hh).1,_,_,hh⟩
  have ra:Rel g (fS (δ.cw (AV.kill i)) (.own i e 1 ((out zs).map nI)) ts) κ a w':=by
   refine rk.pZ ts fun t ht=> .own ?_
   rcases(iV t ht).ec with ⟨h2,h0⟩|⟨b',cap',c',h2,hκ',hB',hb',Kr,Mn,S6,RB⟩
   ·have e0:out zs=[]:=List.eq_nil_of_length_eq_zero (by rw[hf.len,h0];rfl)
    rw[h2,e0];exact H2
   ·obtain rfl:b=b':=Option.some.inj (hκ.symm.trans hκ')
    rw[hb] at hb'
    simp only[Option.some.injEq,Obj.cells.injEq] at hb'
    obtain⟨rfl,_⟩:=hb'
    rw[h2,← hf.len zs]
    exact dS.xt (iJ κ) hκ hB hh (by rw[hf.len];exact Kr) Mn (by omega) B2 (by rw[hf.len];exact gw)
  refine⟨_,κ,he,ra.aw (aS (nb ts)) ?_⟩
  rw[kU]
  cases ret with
  |none=>exact .tup rfl (fun j u c h=>by simp at h)
  |some rr=>
   have hle:=hf.retle rr rfl zs
   have hl2:((out zs).take (rr zs)).length=rr zs:=by rw[List.length_take,hf.len];omega
   show RA _ _ (.slice (some ⟨b,0,none⟩) (rr zs) cap) (.own i e 1 (((out zs).take (rr zs)).map nI))
   refine .own ?_
   have:=dS.xt (C:=(δ.cw (AV.kill i)).cx g κ) (w:=w') (i:=i) (b:=b) (cap:=cap) (e:=e) (zs:=(out zs).take (rr zs)) (iJ κ) hκ hB hh (by omega) iG (by omega)
    (by rw[hl2,List.map_take,← B2,List.take_take,hf.len,Nat.min_eq_left (by omega)]) (by omega)
   rwa [hl2] at this
theorem aa.Ga {f:FuncId} {x:Operand} {tys:Array TypeId} {out:List Int→List Int} {ret:Option (List Int→Nat)} (hf:ES P f out ret) (ts:List Nat) {i:Nat} {e:TypeId} {zs:List Int} (hx:δ.ev x=.own i e 1 (zs.map nI)) (qz:yR δ (.own i e 1 (zs.map nI)) ts) (hr:δ.ob i=some .row)
  (ho:aK x=true) (hd:bn δ.n dst=true) (hK:aa .plain P g ops rest Q ((fS (δ.cw (AV.kill i)) (.own i e 1 ((out zs).map nI)) ts).aw dst (tq i e zs (out zs) ret))):
  aa .plain P g ops (⟨dst,.call {callee:=.value (.func f),args:= #[x],argTypes:=tys},ty,pos,af,none⟩::rest) Q δ:=
 aa.n9 rfl rfl (dv.Ga hf ts hx qz hr ho hd) hK
theorem enters_of {f:FuncId} {fn:Func} {c:Code} (hf:P.funcs[f]? =some fn) (hb:fn.body=some c) (he:(fn.name== "runtime.NumGoroutine")=false):∀vals w,(callFunc f vals).run P w=.ok (.enter f vals) w:=fun vals w=>by
 simp [callFunc,hf,hb];simpa using he
end Go.Ab
/- A call by a contract over objects. -/
namespace Go.Ab
open Go Go.RowKit
variable {P:Program} {g:au} {δ:DS} {κ:Kp} {a:Act} {w:World}
variable {ops:Array Oper} {rest:List Oper} {Q:Exit→DS→Prop} {dst:Option Nat} {ty:TypeId} {pos:String} {af:Array Edge}
def Bh:List (Nat×AV)→List (Nat×AV)
 |[]=>[]
 |(i,v)::r=>bif Nat.ble HS i then (i,v)::Bh r else Bh r
abbrev DS.hi (δ:DS):DS:=⟨δ.n,Bh δ.env,δ.objs,δ.nx⟩
theorem ux:∀(e:List (Nat×AV)) (j:Nat),look (Bh e) j=if j<HS then .any else look e j
 |[],j=>by simp [Bh,look]
 |(i,v)::r,j=>by
  have ih:=ux r j
  rw[a7]
  unfold Bh
  cases hb:Nat.ble HS i with
  |true=>
   have hb':HS≤i:=by simpa using hb
   rw[cond_true,a7,ih]
   by_cases e:i=j
   ·subst e;rw[if_pos rfl,if_pos rfl,if_neg (by omega)]
   ·rw[if_neg e,if_neg e]
  |false=>
   have hb':¬HS≤i:=by
    intro h
    have h':Nat.ble HS i=true:=by simpa using h
    rw[hb] at h'
    cases h'
   rw[cond_false,ih]
   by_cases e:i=j
   ·subst e;rw[if_pos (by omega),if_pos (by omega)]
   ·rw[if_neg e]
theorem Rel.hi (r:Rel g δ κ a w):Rel g δ.hi κ a w:=
 {n:=r.n,dfr:=r.dfr
  env:=fun j=>by
   have:=r.env j
   show RA (δ.cx g κ) w _ (look (Bh δ.env) j)
   rw[ux]
   by_cases h:j<HS
   ·rw[if_pos h];exact .any _
   ·rw[if_neg h];exact this
  obj:=r.obj,inj:=r.inj,lo:=r.lo,nx:=r.nx,wt:=r.wt,below:=r.below,hB:=r.hB,N0:=r.N0,fr:=r.fr,mkf:=r.mkf}
theorem ET {e:Exit} (h:Q e δ.hi) (r:Rel g δ κ a w):lift g Q e a w:=⟨δ.hi,κ,h,r.hi⟩
namespace Nf
theorem hi (n:Nat) (e:List (Nat×AV)) (o:List (Nat×Option Ob)) (x:Nat):DS.hi ⟨n,e,o,x⟩=⟨n,Bh e,o,x⟩:=rfl
theorem dF:Bh []=[]:=rfl
theorem O4 (i:Nat) (v:AV) (r:List (Nat×AV)):Bh ((i,v)::r)=bif Nat.ble 1000 i then (i,v)::Bh r else Bh r:=rfl
end Nf
def gC (lr lb:Nat→Bool):List (Nat×Option Ob)→Prop
 |[]=>True
 |(_,none)::r=>gC lr lb r
 |(_,some o)::r=>r9 lr lb o=true∧gC lr lb r
theorem gC.at {lr lb:Nat→Bool}:∀{l:List (Nat×Option Ob)},gC lr lb l→∀i o,aH l i=some o→r9 lr lb o=true
 |[],_,i,o,h=>by simp [aH] at h
 |(j,none)::r,hs,i,o,h=>by
  rw[a6] at h
  by_cases e:j=i
  ·rw[if_pos e] at h;cases h
  ·rw[if_neg e] at h;exact gC.at (l:=r) hs i o h
 |(j,some x)::r,hs,i,o,h=>by
  rw[a6] at h
  by_cases e:j=i
  ·rw[if_pos e] at h;cases h;exact hs.1
  ·rw[if_neg e] at h;exact gC.at (l:=r) hs.2 i o h
theorem aN {lr lb:Nat→Bool} {l:List Int}:r9 lr lb (.mp (eg (gn l)))=true:=by
 unfold r9
 rw[List.all_eq_true]
 intro p hp
 unfold eg gn at hp
 obtain⟨q,hq,rfl⟩:=List.mem_map.1 hp
 obtain⟨x,_,rfl⟩:=List.mem_map.1 hq
 rfl
open Classical in
noncomputable def κX (objs0:List (Nat×Option Ob)) (κ κ':Kp):Kp:=⟨fun i=>if (aH objs0 i).isSome=true then κ' i else κ i,fun i b=>if (aH objs0 i).isSome=true then κ'.F i b else κ.F i b⟩
theorem Al {objs0 objs1:List (Nat×Option Ob)} (hk:eA objs0 objs1=true) (i:Nat):(δ.cD objs0 objs1).ob i=match aH objs1 i with|some o=>some o|none=>(δ.ob i).map (Ob.qB (AV.cS (dp objs0))):=by
 show aH (objs1++(δ.cw (AV.cS (dp objs0))).objs) i=_
 rw[vb (fU hk)]
 cases h:aH objs1 i with
 |some o=>rfl
 |none=>exact e_ _ _ _
theorem qy {α:Type} {T:World→Prop} {E:α→Cx→World→Ending→Prop} {y:Operand} {f:FuncId} {xs:List Operand} {tys:Array TypeId} {first cap args:List AV} {n0:Nat} {objs0:List (Nat×Option Ob)} {objsA:α→List (Nat×Option Ob)} (du:g.wt=none) (hTB:TB T g) (hf:mV T P E f n0 objs0 args objsA) (hy:δ.ev y=.clo (.func f) first cap) (fb:aK y=true) (mD:xs.all aK=true)
  (eW:uO δ objs0) (bS:oS (XS objs0 n0).lu (XS objs0 n0).kZ (first++xs.map δ.ev++cap) args) (hkA:∀x,eA objs0 (objsA x)=true) (hn0:nf n0 objs0=true) (mQ:gC (XS objs0 n0).lu (XS objs0 n0).kZ objs0)
  (hselfA:∀x,gC (XS (objsA x) n0).lu (XS (objsA x) n0).kZ (objsA x))
  (hKr:∀(x:α) (κ:Kp) (a:Act) (w':World) (C:Cx) (v:Value),Rel g (δ.cD objs0 (objsA x)) κ a w'→E x C w' (.returned v)→(∀r,RA C w' v r→r.ids (XS (objsA x) n0).lu (XS (objsA x) n0).kZ=true→RA ((δ.cD objs0 (objsA x)).cx g κ) w' v r)→wpListIn (Fw g.ro) 0 P ops (lift g Q) rest (a.put dst v) w')
  (hKp:∀(x:α) (C:Cx) (w':World) (ch:List PanicEntry),E x C w' (.panicked ch)→Q (.panic ch) (δ.cD objs0 (objsA x)).hi∨Q (.panic ch) (δ.cD objs0 (objsA x))) (ew:∀(x:α) (C:Cx) (w':World),¬E x C w' .outgrown):
  aa .plain P g ops (⟨dst,.call {callee:=.value y,args:=xs.toArray,argTypes:=tys},ty,pos,af,none⟩::rest) Q δ:=by
 intro κ a w r0
 have ng:=r0.ra hy fb
 generalize hv:a.eval y=v at ng
 cases ng with
 | @clo _ vs us _ _ hs Fz ht Gc=>
  obtain⟨ms,hm1,hm2,hm3⟩:=r0.dfr
  have gx:∀i,(XS objs0 n0).live i→δ.live i:=fun i ⟨o,h⟩=>⟨o,eW.at i o h⟩
  let g':au:={B:=g.B,w0:=w,N0:=fun b=>(δ.cx g κ).N b∨(∃i,(XS objs0 n0).live i∧(κ i=some b∨κ.F i b))∨w.heap.size≤b,held:=fun _=>undef,ro:=none,mks:=ms++g.mks,wt:=none,fr:=fun b=>b<w.heap.size∧∀i,(XS objs0 n0).live i→κ i≠some b∧¬κ.F i b,w1:=w}
  let κc:Kp:=⟨κ.f,fun i b=>(aH objs0 i).isSome=true∧κ.F i b⟩
  have hN1:∀b,(δ.cx g κ).N b→((XS objs0 n0).cx g' κc).N b:=fun b h=>⟨⟨.inl h,fun⟨i,hi⟩=>h.1.2 ⟨i,hi.2⟩⟩,fun i hi=>h.2 i (gx i hi)⟩
  have L1:∀i,(XS objs0 n0).lu i=true→((XS objs0 n0).cx g' κc).Lr i∧((XS objs0 n0).cx g' κc).κ i=(δ.cx g κ).κ i:=fun i h=>⟨je (δ:=XS objs0 n0) h,rfl⟩
  have KX:∀i,(XS objs0 n0).kZ i=true→((XS objs0 n0).cx g' κc).Lb i∧((XS objs0 n0).cx g' κc).κ i=(δ.cx g κ).κ i:=fun i h=>⟨ft (δ:=XS objs0 n0) h,rfl⟩
  have jh:Rel g' (XS objs0 n0) κc Io w:=
   {n:=rfl,dfr:=⟨[],rfl,hm2,hm3⟩,env:=fun j=> .any _
    obj:=fun i o h=>iR.to (C:=δ.cx g κ) (C':=(XS objs0 n0).cx g' κc) rfl hN1 L1 KX rfl (fun b hb=>⟨by rw[show aH objs0 i=some o from h];rfl,hb⟩) (r0.obj i o (eW.at i o h)) (mQ.at i o h)
    inj:=fun i j b h1 h2=>r0.inj i j b (gx i h1) (gx j h2)
    lo:=fun i b h1=>r0.lo i b (gx i h1)
    nx:=fun i ⟨o,h⟩=>kl hn0 i o h
    wt:=fun k hk=>by cases hk
    below:=Below.refl _ _,hB:=r0.hB
    N0:=fun b hb hf=>by
     by_cases h1:w.heap.size≤b
     ·exact .inr (.inr h1)
     ·by_cases h2:∃i,(XS objs0 n0).live i∧(κ i=some b∨κ.F i b)
      ·exact .inr (.inl h2)
      ·exact absurd ⟨by omega,fun i hi=>⟨fun e=>h2 ⟨i,hi,.inl e⟩,fun e=>h2 ⟨i,hi,.inr e⟩⟩⟩ hf
    fr:=⟨fun b hb=>⟨hb.1,rfl,fun i hi=>(hb.2 i hi).1⟩,fun i b hb=>by
     obtain⟨h1,h2,h3,h4,h5⟩:=r0.fr.2 i b hb.2
     exact⟨⟨h1.1,fun k hk=>by cases hk⟩,h2,fun hf=>(hf.2 i (Option.isSome_iff_exists.1 hb.1)).2 hb.2,fun j hj=>h4 j (gx j hj),fun j hj=>h5 j hj.2⟩⟩
    mkf:=fun d hd=>by cases hd}
  have hl:=bS.len
  simp only[List.length_append,List.length_map] at hl
  have LN:∀(j:Nat) (v:Value) (av:AV),(vs++xs.toArray.map a.eval++us)[j]? =some v→args[j]? =some av→RA ((XS objs0 n0).cx g' κc) w v av:=by
   intro j v av h1 h2
   have Ek:j<(first++xs.map δ.ev++cap).length:=by rw[bS.len];exact(List.getElem?_eq_some_iff.1 h2).1
   have h3:=List.getElem?_eq_getElem Ek
   have hle:=bS.at j _ av h3 h2
   generalize (first++xs.map δ.ev++cap)[j]=c at h3 hle
   have hc:RA (δ.cx g κ) w v c:=by
    by_cases hj:j<first.length+xs.length
    ·rw[List.getElem?_append_left (by simp;omega)] at h3
     rw[Array.getElem?_append_left (by simp;omega)] at h1
     by_cases hj1:j<first.length
     ·rw[List.getElem?_append_left hj1] at h3
      rw[Array.getElem?_append_left (by omega)] at h1
      exact Fz j v c h1 h3
     ·rw[List.getElem?_append_right (by omega)] at h3
      rw[Array.getElem?_append_right (by omega),hs] at h1
      simp only[List.map_toArray,List.getElem?_toArray,List.getElem?_map,Option.map_eq_some_iff] at h1 h3
      obtain⟨y,h5,rfl⟩:=h1
      obtain⟨y',h4,rfl⟩:=h3
      rw[h5] at h4;cases h4
      exact r0.xj y (c_ ((List.all_eq_true.1 mD) y (List.mem_of_getElem? h5)))
    ·rw[List.getElem?_append_right (by simp;omega)] at h3
     rw[Array.getElem?_append_right (by simp;omega)] at h1
     have e1:(vs++xs.toArray.map a.eval).size=(first++xs.map δ.ev).length:=by simp;omega
     rw[e1] at h1
     exact Gc _ v c h1 h3
   cases hle with
   |any=>exact .any _
   |eq e hi=>subst e;exact RA.to (C:=δ.cx g κ) (C':=(XS objs0 n0).cx g' κc) rfl hN1 L1 KX hc hi
   |nil k=>rw[hc.lit];exact .pv (nP k)
  show wpListIn _ _ P ops _ (_::rest) a w
  refine b8 rfl rfl fun K hK'=>?_
  unfold Oper.sr
  rw[ns hv hf.enters,Oper.uponIn_enter]
  refine⟨fun h=>by simp at h,(dj (hf.calls g' κc w _ rfl rfl (fun w' hb=>hTB w' (r0.below.trans hb)) jh (by simp;omega) LN)).mono ?_⟩
  rintro e w' ⟨xA,κ',hE,r1,nr⟩
  have hk:=hkA xA
  have jS:=hselfA xA
  have hKr:=hKr xA
  have hKp:=hKp xA
  have ew:=ew xA
  generalize Nq:objsA xA=objs1 at*
  obtain⟨F,hF⟩:∃F,F=AV.cS (dp objs0):=⟨_,rfl⟩
  have dJ:=fun i=>Al (δ:=δ) hk i
  have uY:=jo hk
  have jm:w.heap.size≤w'.heap.size:=r1.below.size
  have uP:∀b,b<w.heap.size→(∀i,(XS objs0 n0).live i→κ i≠some b∧¬κ.F i b)→w'.heap[b]? =w.heap[b]?∧∀i,(XS objs1 n0).live i→κ' i≠some b:=fun b h1 h2=>(r1.fr.1 b ⟨h1,h2⟩).2
  have hfF:∀b,b<w.heap.size→(∀i,(XS objs0 n0).live i→κ i≠some b∧¬κ.F i b)→∀i,¬κ'.F i b:=fun b h1 h2 i hi=>(r1.fr.2 i b hi).2.2.1 ⟨h1,h2⟩
  -- in and out
  have cZ:∀i,(aH objs0 i).isSome=true→(XS objs0 n0).live i∧(XS objs1 n0).live i∧κX objs0 κ κ' i=κ' i:=fun i h=>by
   refine⟨Option.isSome_iff_exists.1 h,?_,if_pos h⟩
   cases uY i with
   |none h0 _=>rw[h0] at h;cases h
   |row _ h1=>exact⟨_,h1⟩
   |box c d _ h1 _=>exact⟨_,h1⟩
   |lit T c d _ h1 _=>exact⟨_,h1⟩
   |mp c d _ h1 _=>exact⟨_,h1⟩
   |pool _ _ c d _ h1=>exact⟨_,h1⟩
  have fP:∀i,¬(aH objs0 i).isSome=true→aH objs1 i=.none∧κX objs0 κ κ' i=κ i:=fun i h=>by
   refine⟨?_,if_neg h⟩
   cases uY i with
   |none _ h1=>exact h1
   |row h0 _=>rw[h0] at h;exact absurd rfl h
   |box c d h0 _ _=>rw[h0] at h;exact absurd rfl h
   |lit T c d h0 _ _=>rw[h0] at h;exact absurd rfl h
   |mp c d h0 _ _=>rw[h0] at h;exact absurd rfl h
   |pool _ _ c d h0 _=>rw[h0] at h;exact absurd rfl h
  have F4:∀i,(aH objs0 i).isSome=true→(δ.cD objs0 objs1).ob i=aH objs1 i:=fun i h=>by
   obtain⟨_,⟨o,h1⟩,_⟩:=cZ i h
   rw[dJ i]
   have h1:aH objs1 i=some o:=h1
   rw[h1]
  have FR:∀i,¬(aH objs0 i).isSome=true→(δ.cD objs0 objs1).ob i=(δ.ob i).map (Ob.qB F):=fun i h=>by rw[dJ i,(fP i h).1,hF]
  have H3:∀i,(aH objs0 i).isSome=true→δ.live i:=fun i h=>gx i (cZ i h).1
  have ie:∀i,¬(aH objs0 i).isSome=true→(δ.cD objs0 objs1).live i→δ.live i:=fun i h ⟨o,ho⟩=>by
   rw[FR i h] at ho
   obtain⟨o',h1,_⟩:=Option.map_eq_some_iff.1 ho
   exact⟨o',h1⟩
  have dB:∀i,¬(aH objs0 i).isSome=true→∀j,(XS objs0 n0).live j→j≠i:=fun i h j ⟨o,ho⟩ e=>by
   subst e
   have ho:aH objs0 j=some o:=ho
   rw[ho] at h
   exact h rfl
  have hold:∀i b,¬(aH objs0 i).isSome=true→δ.live i→κ i=some b→b<w.heap.size∧∀j,(XS objs0 n0).live j→κ j≠some b∧¬κ.F j b:=fun i b h hl hb=>
   ⟨(r0.lo i b hl hb).2,fun j hj=>⟨fun e=>dB i h j hj (r0.inj j i b (gx j hj) hl e hb),fun e=>r0.fr.ib hl hb ⟨j,e⟩⟩⟩
  have hoN:∀b,(δ.cx g κ).N b→∀j,(XS objs0 n0).live j→κ j≠some b∧¬κ.F j b:=fun b h j hj=>⟨h.2 j (gx j hj),fun e=>h.1.2 ⟨j,e⟩⟩
  -- a pool's blocks behind the call
  have hXF:∀i b,(κX objs0 κ κ').F i b→((aH objs0 i).isSome=true∧κ'.F i b)∨(¬(aH objs0 i).isSome=true∧κ.F i b):=fun i b h=>by
   have h:(if (aH objs0 i).isSome=true then κ'.F i b else κ.F i b):=h
   by_cases hi:(aH objs0 i).isSome=true
   ·rw[if_pos hi] at h;exact .inl ⟨hi,h⟩
   ·rw[if_neg hi] at h;exact .inr ⟨hi,h⟩
  have hFo:∀i b,¬(aH objs0 i).isSome=true→κ.F i b→b<w.heap.size∧∀j,(XS objs0 n0).live j→κ j≠some b∧¬κ.F j b:=fun i b hi hF=>
   ⟨(r0.fr.2 i b hF).2.1,fun j hj=>⟨(r0.fr.2 i b hF).2.2.2.1 j (gx j hj),fun e=>dB i hi j hj ((r0.fr.2 i b hF).2.2.2.2 j e)⟩⟩
  have hNN:∀b,b<w.heap.size→(δ.cx g κ).N b→((δ.cD objs0 objs1).cx g (κX objs0 κ κ')).N b:=fun b h1 h2=>by
   refine⟨⟨h2.1.1,fun⟨i,hi⟩=>?_⟩,fun i hi e=>?_⟩
   ·rcases hXF i b hi with h|h
    ·exact hfF b h1 (hoN b h2) i h.2
    ·exact h2.1.2 ⟨i,h.2⟩
   by_cases h:(aH objs0 i).isSome=true
   ·rw[(cZ i h).2.2] at e
    exact(uP b h1 (hoN b h2)).2 i (cZ i h).2.1 e
   ·rw[(fP i h).2] at e
    exact h2.2 i (ie i h hi) e
  have mT:∀i b,(AV.ptr i 0∈b9 objs0∨AV.mapr i∈b9 objs0)→κ i=some b→κX objs0 κ κ' i=κ i:=fun i b hp hb=>by
   by_cases h:(aH objs0 i).isSome=true
   ·rw[(cZ i h).2.2,nr i b hp hb,hb]
   ·exact(fP i h).2
  have G:eD ((δ.cx g κ).oB (dp objs0)) w ((δ.cD objs0 objs1).cx g (κX objs0 κ κ')) w':=
   {B:=rfl,size:=jm
    N:=fun b h1 h2=>⟨hNN b h1 h2,(uP b h1 (hoN b h2)).1⟩
    Lr:=fun i hi=>by
     have hl:δ.ob i=some .row:=hi.1
     have h:¬(aH objs0 i).isSome=true:=fun h=>by
      obtain⟨⟨o,ho⟩,_,_⟩:=cZ i h
      have h1:=eW.at i o ho
      rw[hl] at h1
      cases h1
      have:=sF (l:=objs0) ho
      rw[hi.2] at this
      cases this
     refine⟨?_,(fP i h).2,fun b hb=>?_⟩
     ·show(δ.cD objs0 objs1).ob i=_
      rw[FR i h,hl];rfl
     ·obtain⟨h1,h2⟩:=hold i b h ⟨_,hl⟩ hb
      exact(uP b h1 h2).1
    Lb:=fun i hi=>by
     obtain⟨o,h1,h2⟩:=hi
     by_cases h:(aH objs0 i).isSome=true
     ·have h3:=F4 i h
      cases uY i with
      |none h0 _=>rw[h0] at h;cases h
      |row h0 _=>
       have:=eW.at i _ h0
       rw[h1] at this
       cases this
       simp [Ob.fJ] at h2
      |box c d h0 h4 hp=>
       obtain⟨b,_,_,h5,_⟩:=r0.obj i _ (eW.at i _ h0)
       exact⟨⟨_,h3.trans h4,rfl⟩,mT i b (.inl hp) h5⟩
      |lit T c d h0 h4 hp=>
       obtain⟨b,h5,_⟩:=r0.obj i _ (eW.at i _ h0)
       exact⟨⟨_,h3.trans h4,rfl⟩,mT i b (.inl hp) h5⟩
      |mp c d h0 h4 hp=>
       obtain⟨b,_,_,h5,_⟩:=r0.obj i _ (eW.at i _ h0)
       exact⟨⟨_,h3.trans h4,rfl⟩,mT i b (.inr hp) h5⟩
      |pool e e' c d h0 h4=>
       have h5:=(r0.obj i _ (eW.at i _ h0)).1
       have h6:=(r1.obj i _ h4).1
       exact⟨⟨_,h3.trans h4,rfl⟩,(cZ i h).2.2.trans (h6.trans h5.symm)⟩
     ·refine⟨⟨_,by rw[FR i h,h1];rfl,?_⟩,(fP i h).2⟩
      cases o<;>first|rfl|(simp [Ob.fJ] at h2)}
  have HF:∀{u:Value} {av:AV},RA (δ.cx g κ) w u av→RA ((δ.cD objs0 objs1).cx g (κX objs0 κ κ')) w' u (F av):=fun h=>by rw[hF];exact h.cS G
  have hN2:∀b,((XS objs1 n0).cx g' κ').N b→((δ.cD objs0 objs1).cx g (κX objs0 κ κ')).N b:=fun b h=>by
   obtain⟨h1,h2⟩:=h
   have x9:∀i,(δ.cD objs0 objs1).live i→κX objs0 κ κ' i=some b→¬(aH objs0 i).isSome=true∧δ.live i∧κ i=some b:=fun i hi e=>by
    by_cases h:(aH objs0 i).isSome=true
    ·rw[(cZ i h).2.2] at e
     exact absurd e (h2 i (cZ i h).2.1)
    ·rw[(fP i h).2] at e
     exact⟨h,ie i h hi,e⟩
   have hkF:∀i,(κX objs0 κ κ').F i b→¬(aH objs0 i).isSome=true∧κ.F i b:=fun i hi=>by
    rcases hXF i b hi with h|h
    ·exact absurd ⟨i,h.2⟩ h1.2
    ·exact h
   rcases h1.1 with h1|⟨j,hj,xM⟩|h1
   ·exact⟨⟨h1.1.1,fun⟨i,hi⟩=>h1.1.2 ⟨i,(hkF i hi).2⟩⟩,fun i hi e=>let ⟨_,h3,h4⟩:=x9 i hi e;h1.2 i h3 h4⟩
   ·have hN0:g.N0 b:=by
     rcases xM with xM|xM
     ·exact(r0.yk (gx j hj) xM).1
     ·obtain⟨k1,k2,k3,_⟩:=r0.fr.2 j b xM;exact r0.N0 b k1.1 k3
    refine⟨⟨hN0,fun⟨i,hi⟩=>?_⟩,fun i hi e=>?_⟩
    ·obtain⟨h3,h4⟩:=hkF i hi
     rcases xM with xM|xM
     ·exact(hFo i b h3 h4).2 j hj|>.1 xM
     ·exact(hFo i b h3 h4).2 j hj|>.2 xM
    ·obtain⟨h3,h4,h5⟩:=x9 i hi e
     have:=(hold i b h3 h4 h5).2 j hj
     rcases xM with xM|xM
     ·exact this.1 xM
     ·exact this.2 xM
   ·refine⟨⟨(r0.yS h1).1,fun⟨i,hi⟩=>?_⟩,fun i hi e=>?_⟩
    ·have:=(hFo i b (hkF i hi).1 (hkF i hi).2).1
     omega
    ·obtain⟨_,h4,h5⟩:=x9 i hi e
     have:=(r0.lo i b h4 h5).2
     omega
  have Ly:∀i,(XS objs1 n0).lu i=true→((δ.cD objs0 objs1).cx g (κX objs0 κ κ')).Lr i∧((δ.cD objs0 objs1).cx g (κX objs0 κ κ')).κ i=((XS objs1 n0).cx g' κ').κ i:=fun i h=>by
   have h1:aH objs1 i=some .row:=je (δ:=XS objs1 n0) h
   have h2:(aH objs0 i).isSome=true:=by
    cases uY i with
    |none _ h0=>rw[h0] at h1;cases h1
    |row h0 _=>rw[h0];rfl
    |box c d h0 _ _=>rw[h0];rfl
    |lit T c d h0 _ _=>rw[h0];rfl
    |mp c d h0 _ _=>rw[h0];rfl
    |pool _ _ c d h0 _=>rw[h0];rfl
   exact⟨(F4 i h2).trans h1,(cZ i h2).2.2⟩
  have K1:∀i,(XS objs1 n0).kZ i=true→((δ.cD objs0 objs1).cx g (κX objs0 κ κ')).Lb i∧((δ.cD objs0 objs1).cx g (κX objs0 κ κ')).κ i=((XS objs1 n0).cx g' κ').κ i:=fun i h=>by
   obtain⟨o,h1,h3⟩:=ft (δ:=XS objs1 n0) h
   have h1:aH objs1 i=some o:=h1
   have h2:(aH objs0 i).isSome=true:=by
    cases uY i with
    |none _ h0=>rw[h0] at h1;cases h1
    |row h0 _=>rw[h0];rfl
    |box c d h0 _ _=>rw[h0];rfl
    |lit T c d h0 _ _=>rw[h0];rfl
    |mp c d h0 _ _=>rw[h0];rfl
    |pool _ _ c d h0 _=>rw[h0];rfl
   exact⟨⟨o,(F4 i h2).trans h1,h3⟩,(cZ i h2).2.2⟩
  have hR:Rel g (δ.cD objs0 objs1) (κX objs0 κ κ') a w':=
   {n:=r0.n
    dfr:=by
     obtain⟨rs,_,_,k3⟩:=r1.dfr
     exact⟨ms,hm1,hm2,fun k hk=>k3 k (List.mem_append.2 (.inr hk))⟩
    env:=fun j=>by
     have:(δ.cD objs0 objs1).get j=F (δ.get j):=by rw[hF];exact kz _ (zJ _) δ j
     rw[this];exact HF (r0.env j)
    obj:=fun i o h=>by
     by_cases hi:(aH objs0 i).isSome=true
     ·rw[F4 i hi] at h
      exact iR.to (C:=(XS objs1 n0).cx g' κ') (C':=(δ.cD objs0 objs1).cx g (κX objs0 κ κ')) rfl hN2 Ly K1 (cZ i hi).2.2 (fun b hb=>(by show(if (aH objs0 i).isSome=true then κ'.F i b else κ.F i b);rw[if_pos hi];exact hb)) (r1.obj i o h) (jS.at i o h)
     ·rw[FR i hi] at h
      obtain⟨o',ho',rfl⟩:=Option.map_eq_some_iff.1 h
      have h0:=r0.obj i o' ho'
      have hκi:=(fP i hi).2
      have q_:∀b,κ i=some b→w'.heap[b]? =w.heap[b]?:=fun b hb=>let ⟨h1,h2⟩:=hold i b hi ⟨_,ho'⟩ hb;(uP b h1 h2).1
      cases o' with
      |row=>
       intro b hb
       have hb':κ i=some b:=by rw[← hκi];exact hb
       obtain⟨c,e,h1⟩:=h0 b hb'
       exact⟨c,e,(q_ b hb').trans h1⟩
      |lit T vals=>obtain⟨b,h1,h2⟩:=h0;exact⟨b,hκi.trans h1,(q_ b h1).trans h2⟩
      |pool e rows=>exact⟨hκi.trans h0.1,fun k=>(h0.2.1 k).fp rfl fun b _ h2 _=>⟨(by show(if (aH objs0 i).isSome=true then κ'.F i b else κ.F i b);rw[if_neg hi];exact h2),(uP b (hFo i b hi h2).1 (hFo i b hi h2).2).1⟩,h0.2.2⟩
      |box cs=>
       obtain⟨b,c,e,h1,h2,h3,h4⟩:=h0
       refine⟨b,c,e,hκi.trans h1,(q_ b h1).trans h2,by simpa using h3,fun k u av h5 h6=>?_⟩
       simp only[List.getElem?_map,Option.map_eq_some_iff] at h6
       obtain⟨av',h6,rfl⟩:=h6
       exact⟨HF (h4 k u av' h5 h6).1,(h4 k u av' h5 h6).2⟩
      |mp l=>
       obtain⟨b,es,clock,h1,h2,h3,h4⟩:=h0
       exact⟨b,es,clock,hκi.trans h1,(q_ b h1).trans h2,⟨h3.1,fun k e p h5 h6=>⟨(h3.2 k e p h5 h6).1,G.ra ((h3.2 k e p h5 h6).2.oB (h4.2 p (List.mem_of_getElem? h6)))⟩⟩,h4⟩
      |mpl l kk v=>
       obtain⟨b,es,clock,h1,h2,h3,h4⟩:=h0
       exact⟨b,es,clock,hκi.trans h1,(q_ b h1).trans h2,h3.last (fun u p hp h=>G.ra (h.oB (h4.2 p hp))) (fun u h=>HF h),h4⟩
      |it l seen=>
       obtain⟨b,h1,h2⟩:=h0
       exact⟨b,hκi.trans h1,h2.mono G.size G.N (q_ b h1)⟩
      |loop l tm ps asg body st=>
       obtain⟨b,lr,h1,h2,h3⟩:=h0
       exact⟨b,lr,hκi.trans h1,(q_ b h1).trans h2,h3⟩
    inj:=fun i j b h1 h2 h3 h4=>by
     by_cases hi:(aH objs0 i).isSome=true
     ·rw[(cZ i hi).2.2] at h3
      by_cases hj:(aH objs0 j).isSome=true
      ·rw[(cZ j hj).2.2] at h4
       exact r1.inj i j b (cZ i hi).2.1 (cZ j hj).2.1 h3 h4
      ·rw[(fP j hj).2] at h4
       obtain⟨k1,k2⟩:=hold j b hj (ie j hj h2) h4
       exact absurd h3 ((uP b k1 k2).2 i (cZ i hi).2.1)
     ·rw[(fP i hi).2] at h3
      by_cases hj:(aH objs0 j).isSome=true
      ·rw[(cZ j hj).2.2] at h4
       obtain⟨k1,k2⟩:=hold i b hi (ie i hi h1) h3
       exact absurd h4 ((uP b k1 k2).2 j (cZ j hj).2.1)
      ·rw[(fP j hj).2] at h4
       exact r0.inj i j b (ie i hi h1) (ie j hj h2) h3 h4
    lo:=fun i b h1 h2=>by
     by_cases hi:(aH objs0 i).isSome=true
     ·rw[(cZ i hi).2.2] at h2
      exact r1.lo i b (cZ i hi).2.1 h2
     ·rw[(fP i hi).2] at h2
      have:=r0.lo i b (ie i hi h1) h2
      exact⟨this.1,Nat.lt_of_lt_of_le this.2 jm⟩
    nx:=fun i h=>by
     by_cases hi:(aH objs0 i).isSome=true
     ·exact r0.nx i (H3 i hi)
     ·exact r0.nx i (ie i hi h)
    wt:=fun k hk=>by rw[du] at hk;cases hk
    below:=r0.below.trans r1.below
    hB:=r1.hB
    N0:=r0.N0
    fr:=by
     refine⟨fun b hb=>?_,fun i b hb=>?_⟩
     ·obtain⟨h1,h2,h3⟩:=r0.fr.1 b hb
      have aM:=r0.fr.uk hb
      have h4:=uP b aM fun i hi=>⟨h3 i (gx i hi),fun e=>(r0.fr.2 i b e).2.2.1 hb⟩
      refine⟨h1,h4.1.trans h2,fun i hi e=>?_⟩
      by_cases F8:(aH objs0 i).isSome=true
      ·rw[(cZ i F8).2.2] at e
       exact h4.2 i (cZ i F8).2.1 e
      ·rw[(fP i F8).2] at e
       exact h3 i (ie i F8 hi) e
     ·rcases hXF i b hb with ⟨hi,hF⟩|⟨hi,hF⟩
      ·obtain⟨k1,k2,k3,k4,k5⟩:=r1.fr.2 i b hF
       refine⟨⟨k1.1,fun k hk=>by rw[du] at hk;cases hk⟩,k2,fun hf=>?_,fun j hj e=>?_,fun j hj=>?_⟩
       ·exact k3 ⟨r0.fr.uk hf,fun j hj=>⟨(r0.fr.1 b hf).2.2 j (gx j hj),fun e=>(r0.fr.2 j b e).2.2.1 hf⟩⟩
       ·by_cases Bl:(aH objs0 j).isSome=true
        ·rw[(cZ j Bl).2.2] at e
         exact k4 j (cZ j Bl).2.1 e
        ·rw[(fP j Bl).2] at e
         exact k3 (hold j b Bl (ie j Bl hj) e)
       ·rcases hXF j b hj with ⟨_,hj⟩|⟨Bl,hj⟩
        ·exact k5 j hj
        ·exact absurd (hFo j b Bl hj) k3
      ·obtain⟨k1,k2,k3,k4,k5⟩:=r0.fr.2 i b hF
       refine⟨k1,Nat.lt_of_lt_of_le k2 jm,k3,fun j hj e=>?_,fun j hj=>?_⟩
       ·by_cases Bl:(aH objs0 j).isSome=true
        ·rw[(cZ j Bl).2.2] at e
         exact(uP b (hFo i b hi hF).1 (hFo i b hi hF).2).2 j (cZ j Bl).2.1 e
        ·rw[(fP j Bl).2] at e
         exact k4 j (ie j Bl hj) e
       ·rcases hXF j b hj with ⟨_,hj⟩|⟨_,hj⟩
        ·exact absurd hj (hfF b (hFo i b hi hF).1 (hFo i b hi hF).2 j)
        ·exact k5 j hj
    mkf:=r0.mkf}
  cases e with
  |returned v=>exact hK' _ _ (hKr _ _ _ _ v hR hE fun r RO hr=>RA.to (C:=(XS objs1 n0).cx g' κ') (C':=(δ.cD objs0 objs1).cx g (κX objs0 κ κ')) rfl hN2 Ly K1 RO hr)
  |panicked ch=>
           rcases hKp _ _ ch hE with h|h;·exact ET h hR
           ·exact⟨_,_,h,hR⟩
  |outgrown=>exact absurd hE (ew _ _)
theorem aa.Iv {T:World→Prop} {y:Operand} {f:FuncId} {xs:List Operand} {tys:Array TypeId} {first cap args:List AV} {r:AV} {n0:Nat} {objs0 objs1:List (Nat×Option Ob)} (du:g.wt=none) (hTB:TB T g) (hf:FC T P f n0 objs0 args objs1 r) (hy:δ.ev y=.clo (.func f) first cap) (fb:aK y=true) (mD:xs.all aK=true)
  (eW:uO δ objs0) (bS:oS (XS objs0 n0).lu (XS objs0 n0).kZ (first++xs.map δ.ev++cap) args) (hk:eA objs0 objs1=true) (hn0:nf n0 objs0=true) (mQ:gC (XS objs0 n0).lu (XS objs0 n0).kZ objs0)
  (jS:gC (XS objs1 n0).lu (XS objs1 n0).kZ objs1) (hr:r.ids (XS objs1 n0).lu (XS objs1 n0).kZ=true) (hd:bn δ.n dst=true)
  (hK:aa .plain P g ops rest Q ((δ.cD objs0 objs1).aw dst r)):
  aa .plain P g ops (⟨dst,.call {callee:=.value y,args:=xs.toArray,argTypes:=tys},ty,pos,af,none⟩::rest) Q δ:=
 qy du hTB hf hy fb mD eW bS (fun _=>hk) hn0 mQ (fun _=>jS) (fun _ κ a w' C v hR hE ng=>by
  obtain⟨u,he,hu⟩:=hE
  cases he
  exact hK _ _ _ (hR.aw (aS hd) (ng r hu hr))) (fun _ C w' ch hE=>by obtain⟨u,he,_⟩:=hE;cases he) (fun _ C w' hE=>by obtain⟨u,he,_⟩:=hE;cases he)
theorem aa.L6 {y:Operand} {f:FuncId} {xs:List Operand} {tys:Array TypeId} {first cap args:List AV} {r:AV} {n0:Nat} {objs0 objs1:List (Nat×Option Ob)} (du:g.wt=none) (hf:jq P f n0 objs0 args objs1 r) (hy:δ.ev y=.clo (.func f) first cap) (fb:aK y=true) (mD:xs.all aK=true)
  (eW:uO δ objs0) (bS:oS (XS objs0 n0).lu (XS objs0 n0).kZ (first++xs.map δ.ev++cap) args) (hk:eA objs0 objs1=true) (hn0:nf n0 objs0=true) (mQ:gC (XS objs0 n0).lu (XS objs0 n0).kZ objs0)
  (jS:gC (XS objs1 n0).lu (XS objs1 n0).kZ objs1) (hr:r.ids (XS objs1 n0).lu (XS objs1 n0).kZ=true) (hd:bn δ.n dst=true)
  (hK:aa .plain P g ops rest Q ((δ.cD objs0 objs1).aw dst r)):
  aa .plain P g ops (⟨dst,.call {callee:=.value y,args:=xs.toArray,argTypes:=tys},ty,pos,af,none⟩::rest) Q δ:=aa.Iv du (fun _ _=>trivial) hf hy fb mD eW bS hk hn0 mQ jS hr hd hK
end Go.Ab
namespace Go.Ab
open Go Go.RowKit
variable {P:Program} {g:au} {δ:DS}
theorem di {rs:List ResultVar} {objs0 objs1:List (Nat×Option Ob)} {r v:AV} (h:bA P δ rs v) (hw:xx δ (XF δ objs0 objs1) [v,δ.get 1000] [r,.agg (b9 objs0)]) (ho:ja δ (XF δ objs0 objs1) objs1) (hx:nf δ.nx objs1=true):fy P rs objs0 objs1 r .ret δ:=⟨v,h,hw.1,hw.2.1,ho,hx⟩
theorem iY {rs:List ResultVar} {objs0 objs1:List (Nat×Option Ob)} {r v:AV} (h:bA P δ rs v) (hw:xx δ (XF δ objs0 objs1) [v,δ.get 1000] [r,.agg (b9 objs0)]) (ho:ja δ (XF δ objs0 objs1) objs1) (hx:nf δ.nx objs1=true):fy P rs objs0 objs1 r .normal δ:=⟨v,h,hw.1,hw.2.1,ho,hx⟩
namespace Nf
variable {n x i:Nat} {e:List (Nat×AV)} {o l0 l1 l:List (Nat×Option Ob)} {rs:List Nat}
def JX (rs:List Nat):List (Nat×AV)→List (Nat×AV)
 |[]=>[]
 |(i,v)::r=>(i,v.cS rs)::JX rs r
def pJ (rs:List Nat):List (Nat×Option Ob)→List (Nat×Option Ob)
 |[]=>[]
 |(i,o)::r=>(i,o.map (Ob.qB (AV.cS rs)))::pJ rs r
def BM (rs:List Nat):List AV→List AV
 |[]=>[]
 |v::r=>v.cS rs::BM rs r
theorem Cj:∀e:List (Nat×AV),e.map (fun p=>(p.1,p.2.cS rs))=JX rs e
 |[]=>rfl
 |(i,v)::r=>by rw[List.map_cons,Cj r];rfl
theorem CU:∀o:List (Nat×Option Ob),o.map (fun p=>(p.1,p.2.map (Ob.qB (AV.cS rs))))=pJ rs o
 |[]=>rfl
 |(i,v)::r=>by rw[List.map_cons,CU r];rfl
theorem qH:∀l:List AV,AV.xI (km rs) l=BM rs l
 |[]=>rfl
 |v::r=>by rw[AV.xI,qH r];rfl
theorem Gz (l:List AV):l.map (AV.cS rs)=BM rs l:=by
 induction l with
 |nil=>rfl
 |cons v r ih=>rw[List.map_cons,ih];rfl
theorem af:DS.cD ⟨n,e,o,x⟩ l0 l1=⟨n,JX (dp l0) e,l1++pJ (dp l0) o,x⟩:=by
 show(⟨n,e.map (fun p=>(p.1,p.2.cS (dp l0))),l1++o.map (fun p=>(p.1,p.2.map (Ob.qB (AV.cS (dp l0))))),x⟩:DS)=_
 rw[Cj,CU]
theorem Ql:JX rs []=[]:=rfl
theorem P_ (i:Nat) (v:AV) (r:List (Nat×AV)):JX rs ((i,v)::r)=(i,v.cS rs)::JX rs r:=rfl
theorem Qp:pJ rs []=[]:=rfl
theorem Qd (i:Nat) (r:List (Nat×Option Ob)):pJ rs ((i,none)::r)=(i,none)::pJ rs r:=rfl
theorem xor (i:Nat) (r:List (Nat×Option Ob)):pJ rs ((i,some .row)::r)=(i,some .row)::pJ rs r:=rfl
theorem QG (i:Nat) (cs:List AV) (r:List (Nat×Option Ob)):pJ rs ((i,some (.box cs))::r)=(i,some (.box (BM rs cs)))::pJ rs r:=by
 show(i,some (Ob.box (cs.map (AV.cS rs))))::pJ rs r=_
 rw[Gz]
theorem S5 (i:Nat) (T:TypeId) (vs:Array Value) (r:List (Nat×Option Ob)):pJ rs ((i,some (.lit T vs))::r)=(i,some (.lit T vs))::pJ rs r:=rfl
theorem Qh (i:Nat) (l:List (Value×AV)) (r:List (Nat×Option Ob)):pJ rs ((i,some (.mp l))::r)=(i,some (.mp l))::pJ rs r:=rfl
theorem Qc (i:Nat) (l:List (Value×PV)) (s:List Nat) (r:List (Nat×Option Ob)):pJ rs ((i,some (.it l s))::r)=(i,some (.it l s))::pJ rs r:=rfl
theorem QO (i:Nat) (l:List (Value×AV)) (k:Value) (v:AV) (r:List (Nat×Option Ob)):pJ rs ((i,some (.mpl l k v))::r)=(i,some (.mpl l k (v.cS rs)))::pJ rs r:=rfl
theorem Sl (i:Nat) (e:TypeId) (p:Nat→Value×List Value) (r:List (Nat×Option Ob)):pJ rs ((i,some (.pool e p))::r)=(i,some (.pool e p))::pJ rs r:=rfl
theorem PT (i m:Nat) (tm:Array Value) (ps:Array Tmp) (a b:Code) (st:o5) (r:List (Nat×Option Ob)):pJ rs ((i,some (.loop m tm ps a b st))::r)=(i,some (.loop m tm ps a b st))::pJ rs r:=rfl
theorem QU:BM rs []=[]:=rfl
theorem QE (v:AV) (r:List AV):BM rs (v::r)=v.cS rs::BM rs r:=rfl
theorem Bw:AV.cS rs .any=.any:=rfl
theorem Ho (p:PV):AV.cS rs (.pv p)=.pv p:=rfl
theorem B8 (j k:Nat):AV.cS rs (.ptr j k)=.ptr j k:=rfl
theorem yG (c:List PV):AV.cS rs (.rptr c)=.rptr c:=rfl
theorem yL (j:Nat):AV.cS rs (.mapr j)=.mapr j:=rfl
theorem D3 (j:Nat):AV.cS rs (.yld j)=.yld j:=rfl
theorem Ee (j:Nat) (t:TypeId) (k:Nat) (els:List (List PV)):AV.cS rs (.own j t k els)=bif jn j rs then .any else .own j t k els:=rfl
theorem yQ (j:Nat) (t:TypeId) (k:Nat) (els:List (List PV)) (m:Nat):AV.cS rs (.optr j t k els m)=bif jn j rs then .any else .optr j t k els m:=rfl
theorem C3 (cs:List AV):AV.cS rs (.agg cs)=.agg (BM rs cs):=by show AV.agg (AV.xI (km rs) cs)=_;rw[qH]
theorem BI (cs:List AV):AV.cS rs (.tup cs)=.tup (BM rs cs):=by show AV.tup (AV.xI (km rs) cs)=_;rw[qH]
theorem CS (fn:Go.Fn) (cs ds:List AV):AV.cS rs (.clo fn cs ds)=.clo fn (BM rs cs) (BM rs ds):=by show AV.clo fn (AV.xI (km rs) cs) (AV.xI (km rs) ds)=_;rw[qH,qH]
theorem PW:dp []=[]:=rfl
theorem PU (i:Nat) (r:List (Nat×Option Ob)):dp ((i,some .row)::r)=i::dp r:=rfl
theorem P8 (i:Nat) (c:List AV) (r:List (Nat×Option Ob)):dp ((i,some (.box c))::r)=dp r:=rfl
theorem Sj (i:Nat) (T:TypeId) (vs:Array Value) (r:List (Nat×Option Ob)):dp ((i,some (.lit T vs))::r)=dp r:=rfl
theorem R7 (i:Nat) (e:TypeId) (p:Nat→Value×List Value) (r:List (Nat×Option Ob)):dp ((i,some (.pool e p))::r)=dp r:=rfl
theorem Qn (i:Nat) (c:List (Value×AV)) (r:List (Nat×Option Ob)):dp ((i,some (.mp c))::r)=dp r:=rfl
theorem S8:b9 []=[]:=rfl
theorem Rf (i:Nat) (r:List (Nat×Option Ob)):b9 ((i,some .row)::r)=b9 r:=rfl
theorem RJ (i:Nat) (c:List AV) (r:List (Nat×Option Ob)):b9 ((i,some (.box c))::r)=.ptr i 0::b9 r:=rfl
theorem R0 (i:Nat) (T:TypeId) (vs:Array Value) (r:List (Nat×Option Ob)):b9 ((i,some (.lit T vs))::r)=.ptr i 0::b9 r:=rfl
theorem Ro (i:Nat) (e:TypeId) (p:Nat→Value×List Value) (r:List (Nat×Option Ob)):b9 ((i,some (.pool e p))::r)=b9 r:=rfl
theorem RN (i:Nat) (c:List (Value×AV)) (r:List (Nat×Option Ob)):b9 ((i,some (.mp c))::r)=.mapr i::b9 r:=rfl
theorem cn {α:Type} (a:α) (r s:List α):(a::r)++s=a::(r++s):=rfl
theorem nn {α:Type} (s:List α):[]++s=s:=rfl
end Nf
end Go.Ab
/- Short names of the rules that a walk takes most often;what is plain is filled in. -/
namespace Go.Ab
open Go Go.RowKit
variable {P:Program} {g:au} {δ:DS} {q:Md} {ops:Array Oper} {rest:List Oper} {Q:Exit→DS→Prop} {dst:Option Nat} {ty:TypeId} {pos:String} {af:Array Edge}
theorem nz {A:DS→Prop} {δ δ':DS} (h:A δ') (e:δ=δ':=by conv=>lhs;simp only[Nf.all,Nat.reduceBEq,Nat.reduceAdd,Nat.reduceSub]):A δ:=e▸h
theorem zm {x:Operand} {p:PV} (hK:aa q P g ops rest Q (δ.aw dst (.pv p))) (hx:δ.ev x=.pv p:=by exact rfl) (ho:aK x=true:=by exact rfl) (hd:bn δ.n dst=true:=by exact rfl):aa q P g ops (⟨dst,.move x,ty,pos,af,none⟩::rest) Q δ:=aa.cU hx ho hd hK
theorem za {x:Operand} {p:PV} (hK:aa q P g ops rest Q (δ.aw dst (.pv p))) (hx:δ.ev x=.pv p:=by exact rfl) (ho:aK x=true:=by exact rfl) (hd:bn δ.n dst=true:=by exact rfl):aa q P g ops (⟨dst,.assign x,ty,pos,af,none⟩::rest) Q δ:=aa.zG hx ho hd hK
theorem zl {op:Op} {gj d:Nat} {want b:Bool} {o':Oper} (hy:aa q P g ops (⟨dst,op,ty,pos,af,none⟩::rest) Q δ) (ho:ops[gj]? =some o':=by exact rfl) (hd:o'.dst=some d:=by exact rfl) (hd0:Nat.blt d HS=true:=by exact rfl) (qP:Nat.blt d δ.n=true:=by exact rfl) (hb:δ.get d=aF b:=by exact rfl) (va:b=want:=by exact rfl) (p8:bn δ.n dst=true:=by exact rfl):
  aa q P g ops (⟨dst,op,ty,pos,af,some (gj,want)⟩::rest) Q δ:=aa.uW ho hd hd0 qP hb va p8 hy
theorem zy {op:Op} {gj d:Nat} {o':Oper} {p:Prop} {_:Decidable p} (hy:aa q P g ops (⟨dst,op,ty,pos,af,none⟩::rest) Q δ) (ho:ops[gj]? =some o':=by exact rfl) (hd:o'.dst=some d:=by exact rfl) (hd0:Nat.blt d HS=true:=by exact rfl) (qP:Nat.blt d δ.n=true:=by exact rfl) (hb:δ.get d=aF (decide p):=by exact rfl) (p8:bn δ.n dst=true:=by exact rfl) (hp:¬p:=by first|(with_reducible assumption)|omega|decide):
  aa q P g ops (⟨dst,op,ty,pos,af,some (gj,false)⟩::rest) Q δ:=aa.Gd ho hd hb hd0 qP p8 hp hy
theorem zt {op:Op} {gj d:Nat} {o':Oper} {p:Prop} {_:Decidable p} (hy:aa q P g ops (⟨dst,op,ty,pos,af,none⟩::rest) Q δ) (ho:ops[gj]? =some o':=by exact rfl) (hd:o'.dst=some d:=by exact rfl) (hd0:Nat.blt d HS=true:=by exact rfl) (qP:Nat.blt d δ.n=true:=by exact rfl) (hb:δ.get d=aF (decide p):=by exact rfl) (p8:bn δ.n dst=true:=by exact rfl) (hp:p:=by first|(with_reducible assumption)|omega|decide):
  aa q P g ops (⟨dst,op,ty,pos,af,some (gj,true)⟩::rest) Q δ:=aa.Fg ho hd hb hd0 qP p8 hp hy
theorem zb {x:Operand} {t:TypeId} {i off:Nat} {cells:List AV} {v:AV} (hK:aa q P g ops rest Q (δ.aw dst v)) (hx:δ.ev x=.ptr i off:=by exact rfl) (hb:δ.ob i=some (.box cells):=by exact rfl) (hv:cells[off]? =some v:=by exact rfl) (ht:eu P t=true:=by exact rfl) (ho:aK x=true:=by exact rfl) (hd:bn δ.n dst=true:=by exact rfl):
  aa q P g ops (⟨dst,.load t x,ty,pos,af,none⟩::rest) Q δ:=aa.GK hx hb hv ht ho hd hK
theorem zn {α:Type} {x:Operand} {t e:TypeId} {k:Nat} {f:α→List PV} {l:List α} (hK:aa q P g ops rest Q (δ.aw dst (al (l.length:Nat)))) (hx:δ.ev x=.pv (.slice k (l.map f)):=by exact rfl) (ht:P.underlying t=some (.slice e):=by exact rfl) (ho:aK x=true:=by exact rfl) (hd:bn δ.n dst=true:=by exact rfl):
  aa q P g ops (⟨dst,.call {callee:=.builtin .len,args:= #[x],argTypes:= #[t]},ty,pos,af,none⟩::rest) Q δ:=aa.cF hx ht ho hd hK
theorem zs {x y:Operand} {t t':TypeId} {m n:Int} (hK:aa q P g ops rest Q (δ.aw dst (aF (decide (m<n))))) (hx:δ.ev x=al m:=by exact rfl) (hy:δ.ev y=al n:=by exact rfl) (ho:aK x=true:=by exact rfl) (ho':aK y=true:=by exact rfl) (hd:bn δ.n dst=true:=by exact rfl):
  aa q P g ops (⟨dst,.binOp .lss t x y t',ty,pos,af,none⟩::rest) Q δ:=aa.lss hx hy ho ho' hd hK
set_option linter.defProp false in
abbrev zd:= @aa.PI
set_option linter.defProp false in
abbrev zq:= @AW.Pb
set_option linter.defProp false in
abbrev zo:= @AW.seq
theorem zc {c:Operand} {x y:Code} {p:Prop} {_:Decidable p} (h1:AW P g x Q δ) (ho:aK c=true:=by exact rfl) (hc:δ.ev c=aF (decide p):=by exact rfl) (hp:p:=by first|(with_reducible assumption)|omega|decide):AW P g (.cond c x y) Q δ:=AW.Lv ho hc hp h1
theorem zk {c:Operand} {x y:Code} {p:Prop} {_:Decidable p} (h1:AW P g y Q δ) (ho:aK c=true:=by exact rfl) (hc:δ.ev c=aF (decide p):=by exact rfl) (hp:¬p:=by first|(with_reducible assumption)|omega|decide):AW P g (.cond c x y) Q δ:=AW.MI ho hc hp h1
theorem zr {x:Operand} {t:TypeId} {p:PV} (hK:aa q P g ops rest Q (δ.aw dst (.pv p))) (hx:δ.ev x=.rptr [p]:=by exact rfl) (ht:eu P t=true:=by exact rfl) (ho:aK x=true:=by exact rfl) (hd:bn δ.n dst=true:=by exact rfl):aa q P g ops (⟨dst,.load t x,ty,pos,af,none⟩::rest) Q δ:=aa.FF hx ht ho hd hK
theorem zA {f:FuncId} {xs:List Operand} {tys:Array TypeId} {args:List AV} {r:AV} (hf:Fn P f args r) (hK:aa q P g ops rest Q (δ.aw dst r)) (bS:kI true δ xs args:=by repeat (first|exact .nil|(refine .cons rfl ?_ ?_;(first|exact .pv _|exact .own _ _ _ _ rfl|exact .nil _|exact .any _|exact .rptr _|(refine .mb ?_;repeat (first|exact .nil|(refine .cons ?_ ?_;(first|exact .pv _|exact .own _ _ _ _ rfl|exact .nil _)))))))) (gm:r.mS=true:=by exact rfl) (hd:bn δ.n dst=true:=by exact rfl) (hq:q≠ .held:=by exact(fun h_=>by cases h_)):
  aa q P g ops (⟨dst,.call {callee:=.value (.func f),args:=xs.toArray,argTypes:=tys},ty,pos,af,none⟩::rest) Q δ:=aa.call hf bS gm hd hq hK
theorem zP {f:FuncId} {xs:List Operand} {tys:Array TypeId} {args:List AV} {r:AV} (hf:Fn P f args r) (hK:aa .plain P g ops rest Q (δ.aw dst r)) (bS:kI false δ xs args:=by repeat (first|exact .nil|(refine .cons rfl ?_ ?_;(first|exact .pv _|exact .own _ _ _ _ rfl|exact .nil _|exact .any _|exact .rptr _|(refine .mb ?_;repeat (first|exact .nil|(refine .cons ?_ ?_;(first|exact .pv _|exact .own _ _ _ _ rfl|exact .nil _)))))))) (hd:bn δ.n dst=true:=by exact rfl):
  aa .plain P g ops (⟨dst,.call {callee:=.value (.func f),args:=xs.toArray,argTypes:=tys},ty,pos,af,none⟩::rest) Q δ:=aa.G9 hf bS hd hK
theorem zX {y:Operand} {f:FuncId} {xs:List Operand} {tys:Array TypeId} {first cap args:List AV} {r:AV} {n0:Nat} {objs0 objs1:List (Nat×Option Ob)} (hf:jq P f n0 objs0 args objs1 r) (hK:aa .plain P g ops rest Q ((δ.cD objs0 objs1).aw dst r)) (du:g.wt=none:=by with_reducible assumption) (hy:δ.ev y=.clo (.func f) first cap:=by exact rfl) (fb:aK y=true:=by exact rfl) (mD:xs.all aK=true:=by exact rfl)
  (eW:uO δ objs0:=by repeat (first|exact trivial|refine⟨rfl,?_⟩)) (bS:oS (XS objs0 n0).lu (XS objs0 n0).kZ (first++xs.map δ.ev++cap) args:=by repeat (first|exact .nil|(refine .cons ?_ ?_;(first|exact .eq rfl rfl|exact .nil _|exact .any _)))) (hk:eA objs0 objs1=true:=by exact rfl) (hn0:nf n0 objs0=true:=by exact rfl) (mQ:gC (XS objs0 n0).lu (XS objs0 n0).kZ objs0:=by repeat (first|exact trivial|refine⟨rfl,?_⟩|refine⟨aN,?_⟩))
  (jS:gC (XS objs1 n0).lu (XS objs1 n0).kZ objs1:=by repeat (first|exact trivial|refine⟨rfl,?_⟩|refine⟨aN,?_⟩)) (hr:r.ids (XS objs1 n0).lu (XS objs1 n0).kZ=true:=by exact rfl) (hd:bn δ.n dst=true:=by exact rfl):
  aa .plain P g ops (⟨dst,.call {callee:=.value y,args:=xs.toArray,argTypes:=tys},ty,pos,af,none⟩::rest) Q δ:=aa.L6 du hf hy fb mD eW bS hk hn0 mQ jS hr hd hK
theorem nx {A:DS→Prop} {δ δ':DS} (h:A δ') (e:δ=δ':=by conv=>lhs;simp only[Nf.af,Nf.Ql,Nf.P_,Nf.Qp,Nf.Qd,Nf.xor,Nf.QG,Nf.Qh,Nf.Qc,Nf.QO,Nf.PT,Nf.QU,Nf.QE,Nf.Bw,Nf.Ho,Nf.B8,Nf.yG,Nf.yL,Nf.D3,Nf.Ee,Nf.yQ,Nf.C3,Nf.BI,Nf.CS,Nf.PW,Nf.PU,Nf.P8,Nf.Qn,Nf.cn,Nf.nn,CW,uZ,Nat.reduceBEq,cond_true,cond_false]):A δ:=e▸h
theorem zB {x y:Operand} {t:TypeId} {i:Nat} {cells cs:List AV} (hK:aa .plain P g ops rest Q ((δ.bB i (some (.box cs))).aw dst .any)) (hx:δ.ev x=.ptr i 0:=by exact rfl) (hy:δ.ev y=.agg cs:=by exact rfl) (hb:δ.ob i=some (.box cells):=by exact rfl) (hlen:cells.length=cs.length:=by exact rfl) (ht:(P.info? t).map (·.size)=some cs.length:=by exact rfl) (h1:AV.iu cs=true:=by exact rfl) (ho:aK x=true:=by exact rfl) (ho':aK y=true:=by exact rfl) (hd:bn δ.n dst=true:=by exact rfl) (du:g.wt=none:=by with_reducible assumption):
  aa .plain P g ops (⟨dst,.store t x y,ty,pos,af,none⟩::rest) Q δ:=aa.qM hx hy hb hlen ht h1 ho ho' hd du hK
theorem zL {x:Operand} {t:TypeId} {i:Nat} {cells:List AV} (hK:aa q P g ops rest Q (δ.aw dst (.agg cells))) (hx:δ.ev x=.ptr i 0:=by exact rfl) (hb:δ.ob i=some (.box cells):=by exact rfl) (ht:tG P t cells.length=true:=by exact rfl) (ho:aK x=true:=by exact rfl) (hd:bn δ.n dst=true:=by exact rfl):
  aa q P g ops (⟨dst,.load t x,ty,pos,af,none⟩::rest) Q δ:=aa.Bd hx hb ht ho hd hK
theorem zj {x y:Operand} {t t':TypeId} {m n:Int} (hK:aa q P g ops rest Q (δ.aw dst (al (m+n)))) (hx:δ.ev x=al m:=by exact rfl) (hy:δ.ev y=al n:=by exact rfl) (ho:aK x=true:=by exact rfl) (ho':aK y=true:=by exact rfl) (hd:bn δ.n dst=true:=by exact rfl) (hb: -9223372036854775808≤m+n∧m+n≤9223372036854775807:=by omega):
  aa q P g ops (⟨dst,.binOp .add t x y t',ty,pos,af,none⟩::rest) Q δ:=aa.add hx hy ho ho' hd hb hK
theorem zF {x y z:Operand} {p:Prop} {_:Decidable p} {v:PV} (hK:aa q P g ops rest Q (δ.aw dst (.pv v))) (hx:δ.ev x=aF (decide p):=by exact rfl) (hz:δ.ev z=.pv v:=by exact rfl) (hp:¬p:=by first|(with_reducible assumption)|omega|decide) (ho:aK x=true:=by exact rfl) (fb:aK y=true:=by exact rfl) (kF:aK z=true:=by exact rfl) (hd:bn δ.n dst=true:=by exact rfl):
  aa q P g ops (⟨dst,.pick x y z,ty,pos,af,none⟩::rest) Q δ:=aa.D7 hx hz hp ho fb kF hd hK
theorem zT {x y z:Operand} {p:Prop} {_:Decidable p} {v:PV} (hK:aa q P g ops rest Q (δ.aw dst (.pv v))) (hx:δ.ev x=aF (decide p):=by exact rfl) (hy:δ.ev y=.pv v:=by exact rfl) (hp:p:=by first|(with_reducible assumption)|omega|decide) (ho:aK x=true:=by exact rfl) (fb:aK y=true:=by exact rfl) (kF:aK z=true:=by exact rfl) (hd:bn δ.n dst=true:=by exact rfl):
  aa q P g ops (⟨dst,.pick x y z,ty,pos,af,none⟩::rest) Q δ:=aa.Ds hx hy hp ho fb kF hd hK
end Go.Ab
/- Maps from whole numbers to slices:elder entries told whole,the last one over a row of the walk's own. -/
namespace Go.Ab
open Go Go.RowKit
variable {q:Md} {P:Program} {g:au} {δ:DS} {κ:Kp} {a:Act} {w:World}
variable {gd:Option (Tmp×Bool)} {ops:Array Oper} {rest:List Oper} {Q:Exit→DS→Prop} {dst:Option Nat} {ty:TypeId} {pos:String} {af:Array Edge}
def sD (D:List (Int×List Int)):List (Int×AV):=D.map fun p=>(p.1,.pv (ints p.2))
theorem Du (D:List (Int×List Int)) (A B:Nat→Bool):∀p∈eg (sD D),p.2.ids A B=true:=by
 intro p hp
 simp only[eg,sD,List.map_map,List.mem_map] at hp
 obtain⟨x,_,rfl⟩:=hp
 rfl
theorem WO.KA {δ δ':DS} {i:Nat} (h:δ.ob i=some (.mp (eg []))):WO δ δ' i (.mp (eg (sD []))):=.mp h (fun p hp=>by simp [eg,sD] at hp)
theorem WO.rows {δ δ':DS} {i:Nat} {D:List (Int×List Int)} (h:δ.ob i=some (.mp (eg (sD D)))):WO δ δ' i (.mp (eg (sD D))):=.mp h (Du D _ _)
theorem kd.sw (i j:Nat) {δ δ':DS} (du:g.wt=none) (hi:Nat.blt i δ.nx=true) (hj:Nat.blt j δ.nx=true) (h:kd g (δ.sw i j) δ'):kd g δ δ':=
 fun _ a w r=>h _ a w (r.sw i j (by simpa using hi) (by simpa using hj) (fun k hk=>by rw[du] at hk;cases hk))
theorem AW.IW (i:Nat) {c:Code} (hi:δ.ob i=some .row) (hK:AW P g c Q (kJ δ i)):AW P g c Q δ:=by
 intro κ a w r
 obtain⟨κ',r'⟩:=r.freeze hi
 exact hK κ' a w r'
section
variable {k:Wt} {late:List Nat} {l:List Oper} {dn:List Nat} {QD:Exit→DS→Prop}
end
end Go.Ab
/- v,is:=m[k] over a map whose entries are told one by one. -/
namespace Go.Ab
open Go Go.RowKit
variable {q:Md} {P:Program} {g:au} {δ:DS} {ops:Array Oper} {rest:List Oper} {Q:Exit→DS→Prop} {dst:Option Nat} {ty:TypeId} {pos:String} {af:Array Edge}
abbrev um (f:Go.Fn):AV:=.pv (.lit (.func f #[] #[]))
theorem KY {C:Cx} {w:World} {u:Value} {f:Go.Fn} (h:RA C w u (.clo f [] [])):u=.func f #[] #[]:=by
 cases h with
 |clo hs h ht h'=>
  rename_i vs us
  have e1:vs= #[]:=Array.eq_empty_of_size_eq_zero (by simpa using hs)
  have e2:us= #[]:=Array.eq_empty_of_size_eq_zero (by simpa using ht)
  rw[e1,e2]
theorem oD:∀{l:List (Int×AV)} {j:Nat} {m:Int} {v:AV},l[j]? =some (m,v)→eb l m≠none
 |[],j,m,v,h=>by simp at h
 |(k,u)::l,0,m,v,h=>by
  simp at h
  obtain⟨rfl,rfl⟩:=h
  simp [eb]
 |(k,u)::l,j+1,m,v,h=>by
  unfold eb
  split
  ·simp
  ·exact oD (by simpa using h)
theorem EK {C:Cx} {w:World} {u v:Value} (h:RA C w u (.pv (.lit v))):u=v:=by
 cases h with
 |pv h=>cases h;rfl
theorem dv.tb {gd:Option (Tmp×Bool)} {x y z:Operand} {t kt et:TypeId} {i:Nat} {l:List (Int×AV)} {m:Int} {f:Go.Fn} (hx:δ.ev x=.mapr i) (dJ:δ.ob i=some (.mp (eg l))) (hy:δ.ev y=al m) (hz:δ.ev z=.clo f [] []) (ht:P.underlying t=some (.map kt et)) (hk:P.underlying kt=some (.int .i64))
  (ho:aK x=true) (ho':aK y=true) (kF:aK z=true) (hd:bn δ.n dst=true) (zM:g.iI i) (hn:eb l m=none):
  dv P g ⟨dst,.insert t x y z,ty,pos,af,gd⟩ δ ((δ.bB i (some (.mp (eg (l++ [(m,um f)]))))).aw dst .any):=by
 intro κ a w r
 obtain⟨b,es,clock,h1,h2,h3,h4,h5,AP⟩:=r.MV (r.ra hx ho) dJ
 obtain⟨h6,h7⟩:=h4.eg
 have PM:RA (δ.cx g κ) w (a.eval z) (um f):=by rw[KY (r.ra hz kF)];exact .pv (.lit _)
 have Qa:MapKept.IsKey (.int .i64) (.int .i64 m):=by simp [MapKept.IsKey]
 have y6:∀e,(Instr.checkKey e (9999+1) kt (.int .i64 m)).run P w=.ok () w:=fun e=>MapKept.run_checkKey hk Qa e 9999
 rcases rJ m es.toList l 0 h6 h7 with ⟨h8,h9⟩|⟨j,e,u,h9,h10,h11,h12,h13⟩
 ·have aV:(execOp a.eval ⟨dst,.insert t x y z,ty,pos,af,gd⟩).run P w=.ok .skip {w with heap:=w.heap.setIfInBounds b (.map (es.push {key:=.int .i64 m,val:=a.eval z,born:=clock}) (clock+1))}:=by
   simp [execOp,r.lit hy ho',h1,Instr.mapUpdate,run_underlying ht,MapKept.run_getObj_map h3,y6,iv hk h9,MapKept.run_setObj_map _ h3]
  obtain⟨r',G⟩:=r.modify (o':=.mp (eg (l++ [(m,um f)]))) dJ rfl rfl h2 zM (c7.pf w b (.map (es.push {key:=.int .i64 m,val:=a.eval z,born:=clock}) (clock+1))) (by simp) (fun C hC G=>by
   have h14:gB C {w with heap:=w.heap.setIfInBounds b (.map (es.push {key:=.int .i64 m,val:=a.eval z,born:=clock}) (clock+1))} es (eg l):=h4.fp G
   obtain⟨h15,h16⟩:=h14.push h5 m (G.ra PM)
   exact⟨b,_,_,by rw[hC];exact h2,gL h3,h15,h16,fun p hp=>by
    rw[dR] at hp
    rcases List.mem_append.1 hp with hp|hp
    ·exact AP p hp
    ·simp [eg] at hp;subst hp;rfl⟩)
  exact .inl ⟨_,_,_,_,aV,.inr ⟨rfl,rfl⟩,r'.aw (aS hd) (.any _)⟩
 ·exfalso
  exact oD h11 hn
theorem aa.tb {x y z:Operand} {t kt et:TypeId} {i:Nat} {l:List (Int×AV)} {m:Int} {f:Go.Fn} (hx:δ.ev x=.mapr i) (dJ:δ.ob i=some (.mp (eg l))) (hy:δ.ev y=al m) (hz:δ.ev z=.clo f [] []) (ht:P.underlying t=some (.map kt et)) (hk:P.underlying kt=some (.int .i64))
  (ho:aK x=true) (ho':aK y=true) (kF:aK z=true) (hd:bn δ.n dst=true) (du:g.wt=none) (hn:eb l m=none)
  (hK:aa .plain P g ops rest Q ((δ.bB i (some (.mp (eg (l++ [(m,um f)]))))).aw dst .any)):
  aa .plain P g ops (⟨dst,.insert t x y z,ty,pos,af,none⟩::rest) Q δ:=
 aa.n9 rfl rfl (dv.tb hx dJ hy hz ht hk ho ho' kF hd (eK du i) hn) hK
def tK (l:List (Int×Go.Fn)):List (Int×AV):=l.map fun p=>(p.1,um p.2)
def DT (l:List (Int×Go.Fn)):List (Value×PV):=l.map fun p=>(.int .i64 p.1,.lit (.func p.2 #[] #[]))
theorem WV.fns {δ':DS} {i:Nat} {l:List (Int×Go.Fn)} (hb:δ.ob i=some (.mp (eg (tK l)))) (hd:δ'.ob i=none):WV δ δ' (.mapr i) (.pv (.mp (DT l))):=
 .fmap hb hd (by simp [eg,tK,DT]) (fun j p p' h1 h2=>by
  simp only[eg,tK,DT,List.getElem?_map,Option.map_eq_some_iff] at h1 h2
  obtain⟨a,⟨b,hb,rfl⟩,rfl⟩:=h1
  obtain⟨c,hc,rfl⟩:=h2
  obtain rfl:b=c:=Option.some.inj (hb.symm.trans hc)
  exact⟨rfl,.pv _⟩)
theorem uS {κ:Kp} {w:World} {v:Value} {l:List (Int×Go.Fn)} (h1:RA (δ.cx g κ) w v (.pv (.mp (DT l)))):∃b es clock,v=.map (some b)∧(∀w',fm δ κ w w'→w'.heap[b]? =some (.map es clock))∧es.toList.length=(tK l).length∧
  ∀(j:Nat) (e:MapEntry) (p:Int×AV),es.toList[j]? =some e→(tK l)[j]? =some p→e.key=.int .i64 p.1∧RA (δ.cx g κ) w e.val p.2:=by
 cases h1 with
 |pv h=>
  cases h with
  |mp b clock es hN hb hh hs de hk hr=>
   refine⟨b,es,clock,rfl,fun w' hw'=>(hw' b hb ⟨fun i hi=>hN.2 i (DS.bU hi),hN.1.2⟩).trans hh,by simpa [tK,DT] using hs,fun j e p h1 h2=>?_⟩
   have h1':es[j]? =some e:=by simpa using h1
   simp only[tK,List.getElem?_map,Option.map_eq_some_iff] at h2
   obtain⟨a,ha,rfl⟩:=h2
   have h3:(DT l)[j]? =some (.int .i64 a.1,.lit (.func a.2 #[] #[])):=by simp [DT,ha]
   exact⟨hk j e _ h1' h3,.pv (hr j e _ h1' h3)⟩
theorem aa.wm {x y:Operand} {t kt et:TypeId} {l:List (Int×Go.Fn)} {m:Int} {z:Value} {f:Go.Fn} (hx:δ.ev x=.pv (.mp (DT l))) (hy:δ.ev y=al m) (ht:P.underlying t=some (.map kt et)) (hk:P.underlying kt=some (.int .i64)) (hz:(P.info? et).bind (·.zero)=some z)
  (ho:aK x=true) (ho':aK y=true) (hd:bn δ.n dst=true) (hv:eb (tK l) m=some (um f)) (hK:aa q P g ops rest Q (δ.aw dst (.tup [.clo f [] [],aF true]))):aa q P g ops (⟨dst,.lookup t x y true,ty,pos,af,none⟩::rest) Q δ:=
 aa.dA _ hd (fun κ a w r=>by
  obtain⟨b,es,clock,h1,hb,h6,h7⟩:=uS (r.ra hx ho)
  rcases jA m es.toList (tK l) 0 h6 h7 with ⟨h8,h9⟩|⟨j,e,v',h8,h9,h10,h11,h12⟩
  ·rw[hv] at h8;cases h8
  ·rw[hv] at h8;cases h8
   have he:e.val=.func f #[] #[]:=EK h12
   refine⟨.tuple #[e.val,.bool true],fun w' hw'=>?_,.tup rfl (fun k u c h=>?_)⟩
   ·have:=jy ht hk hz (hb w' hw') h9 true
    simp [execOp,r.lit hy ho',h1,this]
   ·intro hc
    match k with
    |0=>simp at h hc;subst h;subst hc;rw[he];exact .clo rfl (fun j u c h=>by simp at h) rfl (fun j u c h=>by simp at h)
    |1=>simp at h hc;subst h;subst hc;exact .pv (.lit _)
    |k+2=>simp at hc) hK
theorem aa.wX {x y:Operand} {t kt et:TypeId} {l:List (Int×Go.Fn)} {m:Int} {z:Value} (hx:δ.ev x=.pv (.mp (DT l))) (hy:δ.ev y=al m) (ht:P.underlying t=some (.map kt et)) (hk:P.underlying kt=some (.int .i64)) (hz:(P.info? et).bind (·.zero)=some z)
  (ho:aK x=true) (ho':aK y=true) (hd:bn δ.n dst=true) (hv:eb (tK l) m=none) (hK:aa q P g ops rest Q (δ.aw dst (.tup [.pv (.lit z),aF false]))):aa q P g ops (⟨dst,.lookup t x y true,ty,pos,af,none⟩::rest) Q δ:=
 aa.dA _ hd (fun κ a w r=>by
  obtain⟨b,es,clock,h1,hb,h6,h7⟩:=uS (r.ra hx ho)
  rcases jA m es.toList (tK l) 0 h6 h7 with ⟨h8,h9⟩|⟨j,e,v',h8,h9,h10,h11,h12⟩
  ·refine⟨.tuple #[z,.bool false],fun w' hw'=>?_,.tup rfl (fun k u c h=>?_)⟩
   ·have:=jy ht hk hz (hb w' hw') h9 true
    simp [execOp,r.lit hy ho',h1,this]
   ·intro hc
    match k with
    |0=>simp at h hc;subst h;subst hc;exact .pv (.lit _)
    |1=>simp at h hc;subst h;subst hc;exact .pv (.lit _)
    |k+2=>simp at hc
  ·rw[hv] at h8;cases h8) hK
theorem AW.xW {c:Operand} {x y:Code} {b:Bool} (ho:aK c=true) (hc:δ.ev c=aF b) (hb:b=true) (h1:AW P g x Q δ):AW P g (.cond c x y) Q δ:=AW.Cs hb ho hc h1
theorem AW.sP {c:Operand} {x y:Code} {b:Bool} (ho:aK c=true) (hc:δ.ev c=aF b) (hb:b=false) (h1:AW P g y Q δ):AW P g (.cond c x y) Q δ:=AW.Cr hb ho hc h1
theorem aa.Kk {f fn:FuncId} {x:Operand} {tys:Array TypeId} {v r:AV} (hf:Fn P f [v,.clo (.func fn) [] []] r) (bS:kI true δ [x] [v]) (gm:r.mS=true) (hd:bn δ.n dst=true) (hq:q≠ .held)
  (hK:aa q P g ops rest Q (δ.aw dst r)):aa q P g ops (⟨dst,.call {callee:=.value (.func f),args:=[x,.func fn].toArray,argTypes:=tys},ty,pos,af,none⟩::rest) Q δ:=by
 intro κ a w r0
 have hc:∀w',Below w.heap.size w w'→Calls P f ([x,.func fn].toArray.map a.eval) w' fun e w''=>e=.returned r.out∧Below w'.heap.size w' w'':=fun w' hw'=>
  (hf.calls (fun _=>True) w' _ (fun _ _=>trivial) (by simp) (fun j u av h1 h2=>by
   match j with
   |0=>exact bS.GW (r0.ext hw') (fun _ _ _=>trivial) (fun _ _ _ _ _=>trivial) 0 u av (by simpa using h1) (by simpa using h2)
   |1=>
    simp at h1 h2
    subst h1;subst h2
    exact .clo rfl (fun j u c h=>by simp at h) rfl (fun j u c h=>by simp at h)
   |j+2=>simp at h2)).mono (by
   rintro e w'' ⟨v,rfl,hv,hb⟩
   exact⟨by rw[hv.mS (AV.eB (C:=oO (fun _=>True)) (w:=w) gm) gm],hb⟩)
 have hK1:=hK κ _ _ (r0.aw (aS hd) (AV.eB gm))
 cases q with
 |quiet=>
  show wpQuiet P ops _ _ (_::rest) a
  unfold wpQuiet
  rw[if_pos (by simp [Region.wanted])]
  refine⟨r.out,fun w' hw'=>?_,hK1⟩
  unfold Oper.quietAt
  rw[dE (f:=f) rfl hf.enters]
  exact⟨rfl,(hc w' hw').mono fun e w'' ⟨h1,h2⟩=>⟨h1,hw'.trans (h2.mono hw'.size)⟩⟩
 |held=>exact absurd rfl hq
 |plain=>
  show wpListIn _ _ P ops _ (_::rest) a w
  refine b8 rfl rfl fun K hK'=>?_
  unfold Oper.sr
  rw[dE (f:=f) rfl hf.enters,Oper.uponIn_enter]
  refine⟨fun h=>by simp at h,(dj (hc w (Below.refl _ _))).mono ?_⟩
  rintro e w' ⟨rfl,hb⟩
  exact hK' _ _ (hK κ _ _ ((r0.ext hb).aw (aS hd) (AV.eB gm)))
end Go.Ab
/- Strings:joined,compared,measured,indexed,cut;numbers of any kind compared. -/
namespace Go.Ab
open Go Go.RowKit
variable {q:Md} {P:Program} {g:au} {δ:DS} {κ:Kp} {a:Act} {w:World}
variable {ops:Array Oper} {rest:List Oper} {Q:Exit→DS→Prop} {dst:Option Nat} {ty:TypeId} {pos:String} {af:Array Edge}
theorem aa.self {l:List Oper} (h:aa q P g ops l Q δ):aa q P g ops l Q δ:=h
abbrev L_ (s:ByteArray):AV:=.pv (.lit (.string s))
section strs
variable {x y:Operand} {t t':TypeId} {s u:ByteArray} (hx:δ.ev x=L_ s) (hy:δ.ev y=L_ u) (ho:aK x=true) (ho':aK y=true) (hd:bn δ.n dst=true)
include hx hy ho ho' hd
end strs
end Go.Ab
/- A struct stored into a part of a box:an element of an array,a struct's field that is a struct. -/
namespace Go.Ab
open Go Go.RowKit
inductive oT:Nat→List AV→List AV→List AV→Prop where
 |nil {l}:oT 0 [] l l
 |take {a b cs l l'}:oT 0 cs l l'→oT 0 (b::cs) (a::l) (b::l')
 |skip {k a cs l l'}:oT k cs l l'→oT (k+1) cs (a::l) (a::l')
theorem oT.spec {k:Nat} {cs l l':List AV} (h:oT k cs l l'):k+cs.length≤l.length∧l'.length=l.length∧(∀j,j<k→l'[j]? =l[j]?)∧(∀j,k≤j→j<k+cs.length→l'[j]? =cs[j - k]?)∧(∀j,k+cs.length≤j→l'[j]? =l[j]?):=by
 induction h with
 |nil=>exact⟨by simp,rfl,fun j h=>rfl,fun j h1 h2=>by simp at h2,fun j h=>rfl⟩
 |take _ ih=>
  obtain⟨h1,h2,_,h4,h5⟩:=ih
  refine⟨by simp at h1 ⊢;omega,by simp [h2],fun j h=>by omega,fun j _ h=>?_,fun j h=>?_⟩
  ·cases j with
   |zero=>rfl
   |succ j=>exact h4 j (by omega) (by simp at h ⊢;omega)
  ·cases j with
   |zero=>simp at h
   |succ j=>exact h5 j (by simp at h ⊢;omega)
 |skip _ ih=>
  obtain⟨h1,h2,h3,h4,h5⟩:=ih
  refine⟨by simp at h1 ⊢;omega,by simp [h2],fun j h=>?_,fun j h0 h=>?_,fun j h=>?_⟩
  ·cases j with
   |zero=>rfl
   |succ j=>exact h3 j (by omega)
  ·cases j with
   |zero=>omega
   |succ j=>
    rw[Nat.add_sub_add_right]
    exact h4 j (by omega) (by omega)
  ·cases j with
   |zero=>omega
   |succ j=>exact h5 j (by omega)
variable {P:Program} {g:au} {δ:DS} {ops:Array Oper} {rest:List Oper} {Q:Exit→DS→Prop} {dst:Option Nat} {ty:TypeId} {pos:String} {af:Array Edge} {gd:Option (Tmp×Bool)}
theorem Fl {c u:List Value} {k j:Nat} (hk:k+u.length≤c.length):(c.take k++u++c.drop (k+u.length))[j]? =if j<k then c[j]? else if j<k+u.length then u[j - k]? else c[j]?:=by
 have hl:(c.take k++u).length=k+u.length:=by simp;omega
 by_cases h1:j<k
 ·rw[if_pos h1,List.getElem?_append_left (by omega),List.getElem?_append_left (by simp;omega),List.getElem?_take,if_pos h1]
 ·rw[if_neg h1]
  by_cases h2:j<k+u.length
  ·rw[if_pos h2,List.getElem?_append_left (by omega),List.getElem?_append_right (by simp;omega)]
   congr 1;simp;omega
  ·rw[if_neg h2,List.getElem?_append_right (by omega),hl,List.getElem?_drop]
   congr 1;omega
theorem dv.qR {x y:Operand} {t:TypeId} {i off:Nat} {cells cs out:List AV} (hx:δ.ev x=.ptr i off) (hy:δ.ev y=.agg cs) (hb:δ.ob i=some (.box cells)) (hp:oT off cs cells out) (ht:(P.info? t).map (·.size)=some cs.length) (h1:AV.iu cs=true) (ho:aK x=true) (ho':aK y=true) (hd:bn δ.n dst=true) (zM:g.iI i):
  dv P g ⟨dst,.store t x y,ty,pos,af,gd⟩ δ ((δ.bB i (some (.box out))).aw dst .any):=by
 intro κ a w r
 obtain⟨b,c,e,hv,hκ,h3,h4,h5⟩:=r.box (r.ra hx ho) hb
 obtain⟨jm,kG⟩:=(r.ra hy ho').cells h1
 simp only[AV.cellsOf] at jm kG
 obtain⟨p1,p2,p3,p4,p5⟩:=hp.spec
 have dV:∀u∈(a.eval y).cells.toList,u.oneCell'=true:=by
  intro u hu
  obtain⟨j,hj⟩:=List.getElem?_of_mem hu
  have aM:j<cs.length:=by rw[← jm];have:=(List.getElem?_eq_some_iff.1 hj).1;simpa using this
  exact(kG j u _ (by simpa using hj) (List.getElem?_eq_getElem aM)).2
 have LO:(a.eval y).cells.toList.length=cs.length:=by simpa using jm
 have de:=run_storeCells_at P b off e (a.eval y).cells.toList 0 c w h3 (by rw[LO];omega) dV
 simp only[Nat.add_zero] at de
 obtain⟨R,hR⟩:∃R,R=(c.toList.take off++(a.eval y).cells.toList++c.toList.drop (off+(a.eval y).cells.toList.length)).toArray:=⟨_,rfl⟩
 rw[← hR] at de
 have hRs:R.size=c.size:=by rw[hR];simp [LO];omega
 have hRg:∀j,R[j]? =if j<off then c[j]? else if j<off+cs.length then (a.eval y).cells[j - off]? else c[j]?:=fun j=>by
  rw[hR,List.getElem?_toArray,Fl (by rw[LO];simp;omega),LO]
  simp only[Array.getElem?_toList]
 have aV:(execOp a.eval ⟨dst,.store t x y,ty,pos,af,gd⟩).run P w=.ok .skip (w.setRow b R):=by
  obtain⟨i0,dF,hs0⟩:∃i0,P.info? t=some i0∧i0.size=cs.length:=by
   cases h:P.info? t with
   |none=>rw[h] at ht;simp at ht
   |some i0=>rw[h] at ht;exact⟨i0,rfl,by simpa using ht⟩
  simp [execOp,Instr.storeAt,Instr.sureAddr,storeVar,hv,jm,sizeOf,typeInfo,dF,hs0,de]
 obtain⟨r',G⟩:=r.modify (o':=.box out) hb rfl rfl hκ zM (c7.setRow w b R) (by simp) (fun C hCκ G=>⟨b,_,e,by rw[hCκ];exact hκ,setRow_heap w b c _ e _ h3,by rw[hRs,p2];exact h4,fun j u av h6 h7=>by
  rw[hRg] at h6
  by_cases e1:j<off
  ·rw[if_pos e1] at h6
   rw[p3 j e1] at h7
   exact⟨G.ra (h5 j u av h6 h7).1,(h5 j u av h6 h7).2⟩
  ·rw[if_neg e1] at h6
   by_cases e2:j<off+cs.length
   ·rw[if_pos e2] at h6
    rw[p4 j (by omega) e2] at h7
    exact⟨G.ra (kG (j - off) u av h6 h7).1,(kG (j - off) u av h6 h7).2⟩
   ·rw[if_neg e2] at h6
    rw[p5 j (by omega)] at h7
    exact⟨G.ra (h5 j u av h6 h7).1,(h5 j u av h6 h7).2⟩⟩)
 exact .inl ⟨_,_,_,_,aV,.inr ⟨rfl,rfl⟩,r'.aw (aS hd) (.any _)⟩
theorem aa.qR {x y:Operand} {t:TypeId} {i off:Nat} {cells cs out:List AV} (hx:δ.ev x=.ptr i off) (hy:δ.ev y=.agg cs) (hb:δ.ob i=some (.box cells)) (hp:oT off cs cells out) (ht:(P.info? t).map (·.size)=some cs.length) (h1:AV.iu cs=true) (ho:aK x=true) (ho':aK y=true) (hd:bn δ.n dst=true) (du:g.wt=none)
  (hK:aa .plain P g ops rest Q ((δ.bB i (some (.box out))).aw dst .any)):aa .plain P g ops (⟨dst,.store t x y,ty,pos,af,none⟩::rest) Q δ:=aa.n9 rfl rfl (dv.qR hx hy hb hp ht h1 ho ho' hd (eK du i)) hK
end Go.Ab
/- A row's first part;append of made zeros to nothing;a capacity. -/
namespace Go.Ab
open Go Go.RowKit
variable {q:Md} {P:Program} {g:au} {δ:DS} {κ:Kp} {a:Act} {w:World}
variable {ops:Array Oper} {rest:List Oper} {Q:Exit→DS→Prop} {dst:Option Nat} {ty:TypeId} {pos:String} {af:Array Edge} {gd:Option (Tmp×Bool)}
theorem aa.zH {t e e':TypeId} {x y:Operand} {i k:Nat} {m:Int} {els:List (List PV)} (hx:δ.ev x=.own i e' k els) (hy:δ.ev y=al m) (ht:P.underlying t=some (.slice e)) (hk:(P.info? e).map (·.size)=some k)
  (ho:aK x=true) (ho':aK y=true) (hd:bn δ.n dst=true) (h0:0≤m) (hm:m.toNat≤els.length) (hK:aa q P g ops rest Q (δ.aw dst (.own i e' k (els.take m.toNat)))):aa q P g ops (⟨dst,.slice t x none (some y) none,ty,pos,af,none⟩::rest) Q δ:=
 aa.dA _ hd (fun κ a w r=>by
  have h1:=(r.ra hx ho).dU
  obtain⟨i0,dF,hk0⟩:∃i0,P.info? e=some i0∧i0.size=k:=by
   cases h:P.info? e with
   |none=>rw[h] at hk;simp at hk
   |some i0=>rw[h] at hk;exact⟨i0,rfl,by simpa using hk⟩
  have sa:a.eval y=.int .i64 m:=r.lit hy ho'
  obtain⟨h,rfl⟩:∃h:Nat,m=(h:Int):=⟨m.toNat,by omega⟩
  rw[Int.toNat_natCast] at hm ⊢
  obtain⟨a0,cap,hv,jC,hb⟩:∃a0 cap,a.eval x=.slice a0 els.length cap∧els.length≤cap∧dS (δ.cx g κ) w (.slice a0 h cap) i e' k (els.take h):=by
   obtain⟨hl,gw,x9,i_,xs,⟨q9,cp⟩,h1x,Rg⟩:=h1
   have mk:∀a0 cap,(∀b,(Value.slice a0 h cap).ownBlock=some b→(δ.cx g κ).κ i=some b)→((Value.slice a0 h cap=.slice none 0 0∧h=0)∨∃g0 cap' cur,Value.slice a0 h cap=.slice (some ⟨g0,0,none⟩) h cap'∧(δ.cx g κ).B≤g0∧w.heap[g0]? =some (.cells cur e' (0,0))∧h≤cap'∧cap'≤maxLen∧cur.size=cap'*k∧cur.toList.take (h*k)=xs.take (h*k))→dS (δ.cx g κ) w (.slice a0 h cap) i e' k (els.take h):=by
    intro a0 cap JG pH
    have hlen:(els.take h).length=h:=by rw[List.length_take];omega
    have hmul:h*k≤els.length*k:=Nat.mul_le_mul_right k hm
    refine⟨hl,by omega,fun c hc=>x9 c (List.mem_of_mem_take hc),JG,xs.take (h*k),⟨by rw[hlen,List.length_take];omega,by rw[hlen];exact pH⟩,fun u hu=>h1x u (List.mem_of_mem_take hu),fun i' j p hp=>?_⟩
    unfold cellAt at hp
    rw[List.getElem?_take] at hp
    by_cases PN:i'<h
    ·rw[if_pos PN] at hp
     obtain⟨u,hu,hu2⟩:=Rg i' j p (by unfold cellAt;exact hp)
     refine⟨u,?_,hu2⟩
     have OF:j<k:=by
      rw[Option.bind_eq_some_iff] at hp
      obtain⟨c,hc1,hc2⟩:=hp
      have:=x9 c (List.mem_of_getElem? hc1)
      have:=(List.getElem?_eq_some_iff.1 hc2).1
      omega
     have:(i'+1)*k≤h*k:=Nat.mul_le_mul_right k PN
     rw[Nat.add_mul,Nat.one_mul] at this
     rw[List.getElem?_take,if_pos (by omega)];exact hu
    ·rw[if_neg PN] at hp;simp at hp
   rcases cp with ⟨hn,hz⟩|⟨g0,cap,cur,hv,hg,h3,hle,Bo,kG,ot⟩
   ·refine⟨none,0,by rw[hn,hz],by omega,mk none 0 (fun b hb=>by cases hb) (.inl ⟨?_,by omega⟩)⟩
    rw[show h=0 by omega]
   ·refine⟨_,cap,hv,hle,mk _ cap (fun b hb=>i_ b (by rw[hv];exact hb)) (.inr ⟨g0,cap,cur,rfl,hg,h3,by omega,Bo,kG,?_⟩)⟩
    rw[← ot,List.take_take,Nat.min_eq_left (Nat.mul_le_mul_right k hm)]
  have aV:∀w,(execOp a.eval ⟨dst,.slice t x none (some y) none,ty,pos,af,none⟩).run P w=.ok (.value (.slice a0 h cap)) w:=by
   intro w
   have hb1:∀w,(Instr.sliceBounds true els.length cap none (some (.int .i64 (h:Int))) none).run P w=.ok (0,h,cap) w:=by
    intro w
    have e1:(0:Int)≤(h:Int)∧(h:Int)≤(cap:Int):=by omega
    simp [Instr.sliceBounds,Instr.sliceBound,asIntOf,e1]
    intro h0;exfalso;omega
   simp only[execOp,Instr.sliceAt,Instr.slice,run_underlying ht,hv,sa,Sem.run_bind,Result.andThen_ok,Option.map_none,Option.map_some,hb1,sizeOf,typeInfo,Sem.run_pure]
   cases a0 with
   |none=>simp [dF,hk0]
   |some ad=>
    simp [dF,hk0]
    intro _
    cases ad;simp [Addr.add]
  exact⟨_,fun w' _=>aV w',.own hb⟩) hK
namespace Nf
variable {n x:Nat} {e:List (Nat×AV)} {o:List (Nat×Option Ob)}
theorem SZ (d:Nat) (v:AV):DS.put ⟨n,e,o,x⟩ d v=⟨n,(d,v)::e,o,x⟩:=rfl
theorem RD (δ:DS) (v:AV):fS δ v []=δ:=rfl
theorem SK (δ:DS) (v:AV) (t:Nat) (ts:List Nat):fS δ v (t::ts)=(fS δ v ts).put t v:=rfl
theorem Rp (i:Nat) (e:TypeId) (zs os:List Int):tq i e zs os none=.tup []:=rfl
theorem Sy (i:Nat) (e:TypeId) (zs os:List Int) (r:List Int→Nat):tq i e zs os (some r)=.own i e 1 ((os.take (r zs)).map nI):=rfl
set_option linter.defProp false in
def P6:=And.intro @SZ (And.intro @RD (And.intro @SK (And.intro @Rp @Sy)))
end Nf
end Go.Ab
/- Contracts of callees that return a row of their own making;the caller owns it from then on. -/
namespace Go.Ab
open Go Go.RowKit
variable {P:Program} {g:au} {δ:DS} {κ:Kp} {a:Act} {w:World}
variable {ops:Array Oper} {rest:List Oper} {Q:Exit→DS→Prop} {dst:Option Nat} {ty:TypeId} {pos:String} {af:Array Edge}
theorem Rel.Jr (r:Rel g δ κ a w) {w':World} (hb:Below w.heap.size w w') (bo:Option Nat) (y3:∀b,bo=some b→w.heap.size≤b∧b<w'.heap.size∧∃c e,w'.heap[b]? =some (.cells c e (0,0))):
  Rel g (δ.bf .row) (cA κ δ.nx bo) a w'∧eD (δ.cx g κ) w ((δ.bf .row).cx g (cA κ δ.nx bo)) w':=by
 have hold:∀k,k<w.heap.size→w'.heap[k]? =w.heap[k]?:=hb.block
 have iy:¬δ.live δ.nx:=fun h=>Nat.lt_irrefl _ (r.nx _ h)
 have bx:∀i,δ.live i→δ.nx≠i:=fun i h e=>iy (e▸h)
 have bj:∀i,(δ.bf .row).live i→i=δ.nx∨δ.live i:=by
  intro i ⟨o',h⟩
  rw[bt] at h
  by_cases e:δ.nx=i
  ·exact .inl e.symm
  ·rw[if_neg e] at h;exact .inr ⟨o',h⟩
 have G:eD (δ.cx g κ) w ((δ.bf .row).cx g (cA κ δ.nx bo)) w':=
  {B:=rfl,size:=hb.size
   N:=fun b h1 h2=>⟨⟨h2.1,fun i hi=>by
    show cA κ δ.nx bo i≠some b
    rcases bj i hi with rfl|hi
    ·simp only[cA,if_true];intro e;have:=(y3 b e).1;omega
    ·simp only[cA,bx i hi,if_false];exact h2.2 i hi⟩,hold b h1⟩
   Lr:=fun i hi=>by
    have hi':=bx i (DS.bU hi)
    refine⟨?_,by show cA _ _ _ i=κ i;simp [cA,hi'],fun b hκ=>hold b (r.lo i b (DS.bU hi) hκ).2⟩
    show(δ.bf .row).ob i=_
    rw[bt,if_neg hi'];exact hi
   Lb:=fun i hi=>by
    have hi':=bx i (DS.fX hi)
    refine⟨?_,by show cA _ _ _ i=κ i;simp [cA,hi']⟩
    obtain⟨o',h1,h2⟩:=hi
    exact⟨o',by rw[bt,if_neg hi'];exact h1,h2⟩}
 refine⟨?_,G⟩
 exact
  {n:=r.n,dfr:=r.dfr.fp fun k _ hk=>hold k (da hk),env:=fun j=>G.ra (r.env j)
   obj:=fun i o' h=>by
    rw[bt] at h
    by_cases e:δ.nx=i
    ·rw[if_pos e] at h;cases h;subst e
     intro b hκ
     have hκ':bo=some b:=by
      have:cA κ δ.nx bo δ.nx=some b:=hκ
      simpa [cA] using this
     exact(y3 b hκ').2.2
    ·rw[if_neg e] at h
     exact(r.obj i o' h).fp G (by show cA _ _ _ i=κ i;simp [cA,e]) (fun b hκ=>hold b (r.lo i b ⟨o',h⟩ hκ).2) (fun b hF aM=>⟨hF,hold b aM⟩)
   inj:=fun i j b h1 h2 h3 h4=>by
    rcases bj i h1 with rfl|h1
    ·rcases bj j h2 with rfl|h2
     ·rfl
     ·simp only[cA,if_true] at h3
      simp only[cA,bx j h2,if_false] at h4
      exact absurd (r.lo j _ h2 h4).2 (by have:=(y3 b h3).1;omega)
    ·rcases bj j h2 with rfl|h2
     ·simp only[cA,if_true] at h4
      simp only[cA,bx i h1,if_false] at h3
      exact absurd (r.lo i _ h1 h3).2 (by have:=(y3 b h4).1;omega)
     ·simp only[cA,bx i h1,bx j h2,if_false] at h3 h4
      exact r.inj i j b h1 h2 h3 h4
   lo:=fun i b h1 h2=>by
    rcases bj i h1 with rfl|h1
    ·simp only[cA,if_true] at h2
     have:=y3 b h2
     have:=r.hB
     omega
    ·simp only[cA,bx i h1,if_false] at h2
     have:=r.lo i b h1 h2
     have:=hb.size
     omega
   nx:=fun i h=>by
    show i<δ.nx+1
    rcases bj i h with rfl|h
    ·omega
    ·have:=r.nx i h;omega
   wt:=fun k hk=>⟨fun b rN=>⟨((r.wt k hk).1 b rN).1,(hold b (lM ((r.wt k hk).1 b rN))).trans ((r.wt k hk).1 b rN).2⟩,fun i b hl hi hκ rN=>by
    rcases bj i hl with rfl|hi'
    ·simp only[cA,if_true] at hκ
     have:=(y3 b hκ).1
     exact absurd (lM ((r.wt k hk).1 _ rN)) (by omega)
    ·simp only[cA,bx i hi',if_false] at hκ
     refine(r.wt k hk).2 i b hi' ?_ hκ rN
     refine hi.imp (fun hi=>?_) id
     have hi2:(δ.bf .row).ob i=some .row:=hi
     rw[bt,if_neg (bx i hi')] at hi2
     exact hi2⟩
   below:=r.below.trans (hb.mono r.hB)
   hB:=Nat.le_trans r.hB hb.size
   N0:=r.N0
   mkf:=r.mkf
   fr:=r.fr.of hb.size (fun b _ h1 _=>hold b h1) fun i b h1 h2=>by
    rcases bj i h1 with rfl|h1
    ·simp only[cA,if_true] at h2;exact .inr (y3 b h2).1
    ·simp only[cA,bx i h1,if_false] at h2;exact .inl ⟨i,h1,h2⟩}
structure DM (N:Nat→Prop) (w:World) (B:Nat) (v:Value) (e:TypeId) (k:Nat) (els:List (List PV)):Prop where
 lim:els.length≤140737488355328
 hk:∀c∈els,c.length=k
 row:∃xs,w.ownsRow B e k v els.length xs∧(∀u∈xs,u.oneCell'=true)∧∀i' j p,cellAt els i' j=some p→∃u,xs[i'*k+j]? =some u∧RP (fun b=>N b∧v.ownBlock≠some b) w u p
structure Jl (P:Program) (f:FuncId) (args:List AV) (e:TypeId) (k:Nat) (els:List (List PV)):Prop where
 enters:∀vals w,(callFunc f vals).run P w=.ok (.enter f vals) w
 calls:∀(N:Nat→Prop) (w:World) (vals:Array Value),(∀b,w.heap.size≤b→N b)→vals.size=args.length→
  (∀(j:Nat) (v:Value) (av:AV),vals[j]? =some v→args[j]? =some av→RA (oO N) w v av)→
  Calls P f vals w fun en w'=>∃v,en=.returned v∧Below w.heap.size w w'∧DM N w' w.heap.size v e k els
theorem aa.GX {f:FuncId} {xs:List Operand} {tys:Array TypeId} {args:List AV} {e:TypeId} {k:Nat} {els:List (List PV)} (hf:Jl P f args e k els) (bS:kI false δ xs args) (hd:bn δ.n dst=true)
  (hK:aa .plain P g ops rest Q ((δ.bf .row).aw dst (.own δ.nx e k els))):aa .plain P g ops (⟨dst,.call {callee:=.value (.func f),args:=xs.toArray,argTypes:=tys},ty,pos,af,none⟩::rest) Q δ:=by
 intro κ a w r0
 show wpListIn _ _ P ops _ (_::rest) a w
 refine b8 rfl rfl fun K hK'=>?_
 unfold Oper.sr
 rw[dE (f:=f) rfl hf.enters,Oper.uponIn_enter]
 refine⟨fun h=>by simp at h,(dj (hf.calls (fun b=>(δ.cx g κ).N b∨w.heap.size≤b) w _ (fun _ h=> .inr h) (by simp [bS.len]) (bS.GW r0 (fun _ _ h=> .inl h) (fun h=>by simp at h)))).mono ?_⟩
 rintro en w' ⟨v,rfl,hb,hv⟩
 have y3:∀b,v.ownBlock=some b→w.heap.size≤b∧b<w'.heap.size∧∃c e,w'.heap[b]? =some (.cells c e (0,0)):=by
  intro b MW
  obtain⟨xs,⟨_,cp⟩,_⟩:=hv.row
  rcases cp with ⟨rfl,_⟩|⟨b0,cap,cur,rfl,h1,h2,_⟩
  ·cases MW
  ·cases MW
   exact⟨h1,(Array.getElem?_eq_some_iff.1 h2).1,cur,e,h2⟩
 obtain⟨r1,G⟩:=r0.Jr hb v.ownBlock y3
 refine hK' _ _ (hK _ _ _ (r1.aw (aS hd) (.own ?_)))
 obtain⟨xs,⟨q9,cp⟩,h1,hx⟩:=hv.row
 refine⟨by show(δ.bf .row).ob _=_;rw[bt,if_pos rfl],hv.lim,hv.hk,fun b MW=>by show cA _ _ _ _=_;simp [cA,MW],xs,⟨q9,?_⟩,h1,fun i' j p hp=>?_⟩
 ·rcases cp with h|⟨b0,cap,cur,h2,h3,h4⟩
  ·exact .inl h
  ·exact .inr ⟨b0,cap,cur,h2,Nat.le_trans r0.hB h3,h4⟩
 ·obtain⟨u,hu,hr⟩:=hx i' j p hp
  refine⟨u,hu,hr.mono (Nat.le_refl _) fun b _ hN=>⟨?_,rfl⟩⟩
  have bj:∀i,(δ.bf .row).live i→i=δ.nx∨δ.live i:=by
   intro i ⟨o',h⟩
   rw[bt] at h
   by_cases e:δ.nx=i
   ·exact .inl e.symm
   ·rw[if_neg e] at h;exact .inr ⟨o',h⟩
  have iy:∀i,δ.live i→δ.nx≠i:=fun i h e=>Nat.lt_irrefl _ (r0.nx _ (e▸h))
  refine⟨?_,fun i hi=>?_⟩
  ·rcases hN.1 with h|h
   ·exact h.1
   ·exact r0.yS h
  ·show cA κ δ.nx v.ownBlock i≠some b
   rcases bj i hi with rfl|hi
   ·simp only[cA,if_true];exact hN.2
   ·simp only[cA,iy i hi,if_false]
    rcases hN.1 with h|h
    ·exact h.2 i hi
    ·intro e
     have:=(r0.lo i b hi e).2
     omega
def CQ (P:Program) (rs:List ResultVar) (e:TypeId) (k:Nat) (els:List (List PV)):Exit→DS→Prop
 |.normal,δ|.ret,δ=>(∃i,bA P δ rs (.own i e k els))∨(els=[]∧bA P δ rs (.pv (.lit (.slice none 0 0))))
 |_,_=>False
theorem Jl.enter {f:FuncId} {fn:Func} {c:Code} {rs:List ResultVar} {n:Nat} {args:List AV} {e:TypeId} {k:Nat} {els:List (List PV)} (hf:P.funcs[f]? =some fn) (hb:fn.body=some c) (ni:fn.results=rs.toArray) (hn:fn.ntmps=n) (vQ:Nat.ble args.length n=true)
  (kv:Nat.ble n HS=true) (he:(fn.name== "runtime.NumGoroutine")=false) (h:∀g:au,g.ro=none→g.wt=none→AW P g c (CQ P rs e k els) (start n args)):Jl P f args e k els:=by
 refine⟨fun vals w=>by simp [callFunc,hf,hb];simpa using he,fun N w vals hN hs bS=>?_⟩
 have hle:args.length≤n:=by simpa using vQ
 have hnH:n≤HS:=by simpa using kv
 let g:au:={B:=w.heap.size,w0:=w,N0:=N,held:=fun _=>undef,ro:=none,mks:=[],wt:=none,fr:=fun _=>False,w1:=w}
 have iy:∀i,¬(start n args).live i:=fun i ⟨o,h⟩=>by cases h
 refine callsIn_wide.1 (callsIn_of_wp_marks (n:=0) hf hb trivial (wpIn_mono (h g rfl rfl ⟨fun _=>none,fun _ _=>False⟩ _ w ?_) ?_))
 ·exact
  {n:=by simp [hn,start];omega
   dfr:=⟨[],rfl,by simp [g],by simp [g]⟩
   env:=fun j=>by
    by_cases hj:j<args.length
    ·have h1:(start n args).get j=args[j]:=gX args 0 j _ (Nat.zero_le _) (by simp [hj])
     have h2:g.val {tmps:=vals++Array.replicate (fn.ntmps - vals.size) undef,defers:=[]} j=vals[j]'(by omega):=by
      unfold au.val
      rw[if_pos (by omega)]
      simp [Array.getD_eq_getD_getElem?,Array.getElem?_append,hs,hj]
     rw[h1,h2]
     exact(bS j _ _ (Array.getElem?_eq_getElem (by omega)) (List.getElem?_eq_getElem hj)).qL _ fun b _ h=>⟨⟨h,fun⟨_,h⟩=>h⟩,fun i hi=>absurd hi (iy i)⟩
    ·have h1:(start n args).get j=.any:=dt args 0 j (by omega)
     rw[h1];exact .any _
   obj:=fun i o h=>by cases h
   inj:=fun i j b h=>absurd h (iy i)
   lo:=fun i b h=>absurd h (iy i)
   nx:=fun i h=>absurd h (iy i)
   wt:=fun k hk=>by cases hk
   below:=Below.refl _ _
   hB:=Nat.le_refl _
   N0:=fun b h _=>hN b h
   fr:=⟨fun b hb=>hb.elim,fun i b hb=>hb.elim⟩
   mkf:=fun d hd=>by cases hd}
 ·rintro ex a' w' ⟨δ',κ',hq,r'⟩
  have fin:∀i,bA P δ' rs (.own i e k els)→LeavesInM Fence.wide 0 P fn a'.tmps (fun en w'=>∃v,en=.returned v∧Below w.heap.size w w'∧DM N w' w.heap.size v e k els) a'.defers .returning w':=by
   intro i h1
   exact leaves (g:=g) rfl rfl ni h1 r' (fun w2 r2 u hu=>by
    have ho:=hu.dU
    refine⟨u,rfl,r2.below,ho.lim,ho.hk,?_⟩
    obtain⟨xs,h3,h4,h5⟩:=ho.row
    refine⟨xs,h3,h4,fun i' j p hp=>?_⟩
    obtain⟨v,hv,hr⟩:=h5 i' j p hp
    refine⟨v,hv,hr.mono (Nat.le_refl _) fun b _ hN=>⟨⟨hN.1.1,fun hb=>?_⟩,rfl⟩⟩
    exact hN.2 i (DS.bU ho.live) (ho.blk b hb))
  have finN:els=[]→bA P δ' rs (.pv (.lit (.slice none 0 0)))→LeavesInM Fence.wide 0 P fn a'.tmps (fun en w'=>∃v,en=.returned v∧Below w.heap.size w w'∧DM N w' w.heap.size v e k els) a'.defers .returning w':=by
   intro h0 h1
   exact leaves (g:=g) rfl rfl ni h1 r' (fun w2 r2 u hu=>by
    have hu:=hu.lit
    subst hu
    subst h0
    exact⟨_,rfl,r2.below,by simp,fun c hc=>by simp at hc,[],World.ownsRow_nil _ _ _ _,fun u hu=>by simp at hu,fun i' j p hp=>by simp [cellAt] at hp⟩)
  cases ex with
  |normal=>
   rcases hq with ⟨i,h1⟩|⟨h0,h1⟩
   ·exact fin i h1
   ·exact finN h0 h1
  |ret=>
   rcases hq with ⟨i,h1⟩|⟨h0,h1⟩
   ·exact fin i h1
   ·exact finN h0 h1
  |_=>exact hq.elim
theorem fk {rs:List ResultVar} {i:Nat} {e:TypeId} {k:Nat} {els els':List (List PV)} (h:bA P δ rs (.own i e k els')) (he:els'=els):CQ P rs e k els .ret δ:=.inl ⟨i,he▸h⟩
theorem kQ {rs:List ResultVar} {e:TypeId} {k:Nat} {els:List (List PV)} (h:bA P δ rs (.pv (.lit (.slice none 0 0)))) (he:els=[]):CQ P rs e k els .ret δ:=.inr ⟨he,h⟩
theorem WV.BP {δ δ':DS} {k:Nat} {els:List (List PV)} (h:els=[]):WV δ δ' (.pv (.lit (.slice none 0 0))) (.pv (.slice k els)):=by rw[h];exact .nilpv k
end Go.Ab
/- A callee that takes one value out of a row of one-cell values in place:Go's slices.Delete. -/
namespace Go.Ab
open Go Go.RowKit
variable {P:Program} {g:au} {δ:DS} {κ:Kp} {a:Act} {w:World}
structure Il (P:Program) (f:FuncId) (z:Value):Prop where
 enters:∀vals w,(callFunc f vals).run P w=.ok (.enter f vals) w
 calls:∀(b cap i:Nat) (us:List Value) (w:World),Sort.Holds (fun u:Value=>u) w b 0 us.toArray→(∀u∈us,u.oneCell'=true)→us.length≤cap→cap≤maxLen→i<us.length→
  Calls P f #[.slice (some ⟨b,0,none⟩) us.length cap,.int .i64 i,.int .i64 (i+1)] w fun e w'=>e=.returned (.slice (some ⟨b,0,none⟩) (us.length - 1) cap)∧
   ∃n,w'=Sort.putRow (fun u:Value=>u) (Sort.ahead w n) b 0 (us.take i++us.drop (i+1)++ [z]).toArray
theorem tP {w:World} {b n:Nat} {c:Array Value} {e:TypeId} {d:Array Value} (h:w.heap[b]? =some (.cells c e (0,0))):
  (Sort.putRow (fun u:Value=>u) (Sort.ahead w n) b 0 d).heap[b]? =some (.cells (Sort.putCells (fun u:Value=>u) 0 d c) e (0,0)):=by
 unfold Sort.putRow Sort.mapBlock Sort.ahead
 simp only
 rw[Array.getElem?_modify,if_pos rfl,h]
 rfl
theorem rD (w:World) (b n:Nat) (d:Array Value):c7 w (Sort.putRow (fun u:Value=>u) (Sort.ahead w n) b 0 d) (some b):=
 ⟨rfl,rfl,rfl,by simp [Sort.putRow,Sort.mapBlock,Sort.ahead],fun k hk bx=>by
  unfold Sort.putRow Sort.mapBlock Sort.ahead
  simp only
  rw[Array.getElem?_modify,if_neg (fun e=>bx (by rw[e]))]⟩
theorem pO {c:Array Value} {d:List Value} {m:Nat} (hc:d.length≤c.size) (hm:m≤d.length):(Sort.putCells (fun u:Value=>u) 0 d.toArray c).toList.take m=d.take m:=by
 apply List.ext_getElem
 ·simp [Sort.putCells];omega
 ·intro j h1 h2
  have hj:j<d.length:=by simp at h2;omega
  simp [Sort.putCells,hj]
theorem sL {α:Type} {l:List α} {i j:Nat}:(l.take i++l.drop (i+1))[j]? =if j<i then l[j]? else l[j+1]?:=by
 by_cases h:i≤l.length
 ·by_cases hj:j<i
  ·rw[if_pos hj,List.getElem?_append_left (by rw[List.length_take];omega),List.getElem?_take,if_pos hj]
  ·rw[if_neg hj,List.getElem?_append_right (by rw[List.length_take];omega),List.length_take,Nat.min_eq_left h,List.getElem?_drop]
   congr 1;omega
 ·have h1:l.take i=l:=List.take_of_length_le (by omega)
  have h2:l.drop (i+1)=[]:=List.drop_eq_nil_of_le (by omega)
  rw[h1,h2,List.append_nil]
  by_cases hj:j<i
  ·rw[if_pos hj]
  ·rw[if_neg hj,List.getElem?_eq_none (by omega),List.getElem?_eq_none (by omega)]
variable {ops:Array Oper} {rest:List Oper} {Q:Exit→DS→Prop} {dst:Option Nat} {ty:TypeId} {pos:String} {af:Array Edge} {gd:Option (Tmp×Bool)}
theorem dv.IX {f:FuncId} {zv:Value} {x y z:Operand} {tys:Array TypeId} (hf:Il P f zv) {r i:Nat} {e:TypeId} {els:List (List PV)} {m:Int} (hx:δ.ev x=.own r e 1 els) (hy:δ.ev y=al (i:Nat)) (hz:δ.ev z=al m) (hr:δ.ob r=some .row)
  (ho:aK x=true) (ho':aK y=true) (kF:aK z=true) (hd:bn δ.n dst=true) (hm:m=(i:Int)+1) (hi:i<els.length):
  dv P g ⟨dst,.call {callee:=.value (.func f),args:= #[x,y,z],argTypes:=tys},ty,pos,af,none⟩ δ ((δ.cw (AV.kill r)).aw dst (.own r e 1 (els.take i++els.drop (i+1)))):=by
 subst hm
 intro κ a w rl
 right
 have xi:=(rl.ra hx ho).dU
 have sa:a.eval y=.int .i64 (i:Nat):=rl.lit hy ho'
 have PM:a.eval z=.int .i64 ((i:Int)+1):=rl.lit hz kF
 have aV:=dE (dst:=dst) (ty:=ty) (pos:=pos) (af:=af) (xs:= #[x,y,z]) (tys:=tys) (ρ:=a.eval) (x:=.func f) (f:=f) rfl hf.enters w
 have gw:els.length≤140737488355328:=xi.lim
 refine⟨f, #[a.eval x,a.eval y,a.eval z],by simpa using aV,?_⟩
 obtain⟨xs,⟨hl,cp⟩,lk,iz⟩:=xi.row
 rw[Nat.mul_one] at hl
 rcases cp with ⟨_,h0⟩|⟨b,cap,c,hv,hB,hb,jC,iG,kG,ot⟩
 ·exfalso;omega
 ·have hκ:κ r=some b:=xi.blk b (by rw[hv];rfl)
  rw[hv,sa,PM]
  have L9:b<w.heap.size:=(Array.getElem?_eq_some_iff.1 hb).1
  rw[Nat.mul_one] at kG ot
  have hold:Sort.Holds (fun u:Value=>u) w b 0 xs.toArray:=by
   intro j hj
   have hj':j<xs.length:=by simpa using hj
   refine⟨?_,by rw[Nat.zero_add];exact jb hb _⟩
   rw[Nat.zero_add,cell_of hb]
   have h1:(c.toList.take els.length)[j]? =xs[j]?:=by rw[ot]
   rw[List.getElem?_take,if_pos (by omega),Array.getElem?_toList,List.getElem?_eq_getElem hj'] at h1
   rw[h1]
   simp [hj']
  rw[← hl]
  refine(hf.calls b cap i xs w hold lk (by omega) iG (by omega)).mono fun e' w' ⟨he,n,hw'⟩=>?_
  obtain⟨d,hd'⟩:∃d,d=xs.take i++xs.drop (i+1):=⟨_,rfl⟩
  have ye:d.length=xs.length - 1:=by rw[hd'];simp;omega
  rw[← hd'] at hw'
  have hh:w'.heap[b]? =some (.cells (Sort.putCells (fun u:Value=>u) 0 (d++ [zv]).toArray c) e (0,0)):=by rw[hw'];exact tP hb
  have jm:(Sort.putCells (fun u:Value=>u) 0 (d++ [zv]).toArray c).size=c.size:=by simp [Sort.putCells]
  have B2:=pO (c:=c) (d:=d++ [zv]) (m:=d.length) (by simp;omega) (by simp)
  rw[List.take_left] at B2
  obtain⟨rk,G⟩:=rl.row hr (κ':=κ) (w':=w') (fun _ _=>rfl) (by rw[hκ,hw'];exact rD _ _ _ _) (fun b' hb'=>by
   obtain rfl:b=b':=Option.some.inj (hκ.symm.trans hb')
   exact⟨.inl hκ,(Array.getElem?_eq_some_iff.1 hh).1,_,_,hh⟩) (AV.kill r) rfl (fun G v av h=>h.kill G)
  have J1:(els.take i++els.drop (i+1)).length=d.length:=by rw[ye];simp;omega
  refine⟨_,κ,he,rk.aw (aS hd) (.own ⟨?_,by omega,fun c hc=>?_,fun b' hb'=>?_,d,⟨by rw[Nat.mul_one];exact J1.symm,.inr ⟨b,cap,_,?_,hB,hh,?_,iG,?_,?_⟩⟩,fun u hu=>?_,fun i' j p hp=>?_⟩)⟩
  ·show(δ.cw (AV.kill r)).ob r=some .row
   rw[e_,hr];rfl
  ·rcases List.mem_append.1 hc with hc|hc
   ·exact xi.hk c (List.mem_of_mem_take hc)
   ·exact xi.hk c (List.mem_of_mem_drop hc)
  ·cases hb';exact hκ
  ·rw[J1,ye]
  ·rw[J1];omega
  ·rw[jm,Nat.mul_one];exact kG
  ·rw[J1,Nat.mul_one];exact B2
  ·rw[hd'] at hu
   rcases List.mem_append.1 hu with hu|hu
   ·exact lk u (List.mem_of_mem_take hu)
   ·exact lk u (List.mem_of_mem_drop hu)
  ·have hp':cellAt els (if i'<i then i' else i'+1) j=some p:=by
    unfold cellAt at hp ⊢
    rw[sL] at hp
    split at hp
    ·rename_i h;rw[if_pos h];exact hp
    ·rename_i h;rw[if_neg h];exact hp
   obtain⟨u,hu,JZ⟩:=iz _ j p hp'
   have hj:j=0:=by
    unfold cellAt at hp'
    rw[Option.bind_eq_some_iff] at hp'
    obtain⟨c,hc1,hc2⟩:=hp'
    have:=xi.hk c (List.mem_of_getElem? hc1)
    have:=(List.getElem?_eq_some_iff.1 hc2).1
    omega
   subst hj
   refine⟨u,?_,G.rp (C:=(δ.cx g κ).less r) JZ⟩
   rw[Nat.mul_one,Nat.add_zero] at hu ⊢
   rw[hd',sL]
   split at hu
   ·rename_i h;rw[if_pos h];exact hu
   ·rename_i h;rw[if_neg h];exact hu
theorem aa.IX {f:FuncId} {zv:Value} {x y z:Operand} {tys:Array TypeId} (hf:Il P f zv) {α:Type} {h:α→List PV} {l:List α} {r i:Nat} {e:TypeId} {m:Int} (hx:δ.ev x=.own r e 1 (l.map h)) (hy:δ.ev y=al (i:Nat)) (hz:δ.ev z=al m) (hr:δ.ob r=some .row)
  (ho:aK x=true) (ho':aK y=true) (kF:aK z=true) (hd:bn δ.n dst=true) (hm:m=(i:Int)+1) (hi:i<l.length) (hK:aa .plain P g ops rest Q ((δ.cw (AV.kill r)).aw dst (.own r e 1 ((l.eraseIdx i).map h)))):
  aa .plain P g ops (⟨dst,.call {callee:=.value (.func f),args:= #[x,y,z],argTypes:=tys},ty,pos,af,none⟩::rest) Q δ:=
 aa.n9 rfl rfl (dv.IX hf hx hy hz hr ho ho' kF hd hm (by simpa using hi)) (by
  have e1:(l.map h).take i++(l.map h).drop (i+1)=(l.eraseIdx i).map h:=by rw[List.eraseIdx_eq_take_drop_succ,List.map_append,List.map_take,List.map_drop]
  rw[e1];exact hK)
end Go.Ab
/- Eight values laid out. -/
namespace Go.Ab
open Go Go.RowKit
variable {q:Md} {P:Program} {g:au} {δ:DS} {κ:Kp} {a:Act} {w:World}
variable {ops:Array Oper} {rest:List Oper} {Q:Exit→DS→Prop} {dst:Option Nat} {ty:TypeId} {pos:String} {af:Array Edge}
end Go.Ab
/- Values of interface type,type switches;a string appended to a row of bytes. -/
namespace Go.Ab
open Go Go.RowKit
variable {q:Md} {P:Program} {g:au} {δ:DS} {κ:Kp} {a:Act} {w:World}
variable {ops:Array Oper} {rest:List Oper} {Q:Exit→DS→Prop} {dst:Option Nat} {ty:TypeId} {pos:String} {af:Array Edge}
section ints
variable {x y:Operand} {t t':TypeId} {m n:Int} {k:IntKind} (hx:δ.ev x=.pv (.lit (.int k m))) (hy:δ.ev y=.pv (.lit (.int k n))) (ho:aK x=true) (ho':aK y=true) (hd:bn δ.n dst=true)
include hx hy ho ho' hd
end ints
end Go.Ab
/- The last bit of a number turned;objects renumbered ahead of a region. -/
namespace Go.Ab
open Go Go.RowKit
variable {P:Program} {g:au} {δ:DS} {q:Md}
variable {ops:Array Oper} {rest:List Oper} {Q:Exit→DS→Prop} {dst:Option Nat} {ty:TypeId} {pos:String} {af:Array Edge}
end Go.Ab
/- Any number of values of one cell laid out. -/
namespace Go.Ab
open Go Go.RowKit
variable {q:Md} {P:Program} {g:au} {δ:DS} {κ:Kp} {a:Act} {w:World}
variable {ops:Array Oper} {rest:List Oper} {Q:Exit→DS→Prop} {dst:Option Nat} {ty:TypeId} {pos:String} {af:Array Edge}
inductive KV (δ:DS):Nat→List (Nat×Operand)→List PV→Prop
 |nil {i:Nat}:KV δ i [] []
 |cons {i:Nat} {x:Operand} {p:PV} {ps:List PV} {r:List (Nat×Operand)} (h:δ.ev x=.pv p) (h1:AV.one (.pv p)=true) (ho:aK x=true) (hr:KV δ (i+1) r ps):KV δ i ((i,x)::r) (p::ps)
theorem KV.ok {δ:DS} {i:Nat} {parts:List (Nat×Operand)} {ps:List PV} (h:KV δ i parts ps):parts.all (fun p=>aK p.2)=true:=by
 induction h with
 |nil=>rfl
 |cons h h1 ho hr ih=>simp [ho,ih]
end Go.Ab
/- Pools:rows of one-cell values,reached by slices that are told whole. -/
namespace Go.Ab
open Go Go.RowKit
variable {q:Md} {P:Program} {g:au} {δ:DS} {κ:Kp} {a:Act} {w:World}
variable {ops:Array Oper} {rest:List Oper} {Q:Exit→DS→Prop} {dst:Option Nat} {ty:TypeId} {pos:String} {af:Array Edge} {gd:Option (Tmp×Bool)}
abbrev eU:=Nat→Value×List Value
def ir (rows:eU) (k:Nat) (p:Value×List Value):eU:=fun j=>if j=k then p else rows j
def dk (m:Nat):Value→Value
 |.slice a _ c=> .slice a m c
 |v=>v
def ig (n:Nat):Value→Value
 |.slice (some ⟨b,o,x⟩) _ _=> .pointer (some ⟨b,o+n,x⟩)
 |v=>v
theorem lB {w:World} {B:Nat} {e:TypeId} {v:Value} {n:Nat} {xs:List Value} (h:w.ownsRow B e 1 v n xs) {b:Nat} (hb:v.ownBlock=some b):∃cur,w.heap[b]? =some (.cells cur e (0,0))∧B≤b:=by
 rcases h.2 with ⟨rfl,_⟩|⟨b',cap,cur,rfl,h1,h2,_⟩
 ·cases hb
 ·cases hb;exact⟨cur,h2,h1⟩
theorem DS.DG {δ:DS} {i:Nat} {o o':Ob} (ho:δ.ob i=some o) (j:Nat):(δ.bB i (some o')).live j↔δ.live j:=by
 unfold DS.live
 rw[dD]
 by_cases e:i=j
 ·subst e;simp [ho]
 ·simp [e]
theorem Rel.iZ (r:Rel g δ κ a w) {i:Nat} {e:TypeId} {rows:eU} (ho:δ.ob i=some (.pool e rows)) {k:Nat} {w':World} (t:c7 w w' (rows k).1.ownBlock) {v':Value} {ys:List Value}
  (cp:w'.ownsRow g.B e 1 v' ys.length ys) (hl:ys.length≤140737488355328) (h1:∀u∈ys,u.oneCell'=true) (qc:∀b,v'.ownBlock=some b→(rows k).1.ownBlock=some b∨w.heap.size≤b):
  ∃κ',Rel g (δ.bB i (some (.pool e (ir rows k (v',ys))))) κ' a w'∧eD (δ.cx g κ) w ((δ.bB i (some (.pool e (ir rows k (v',ys))))).cx g κ') w':=by
 obtain⟨hκi,sC,tM⟩:=r.obj i _ ho
 have hi:δ.live i:=⟨_,ho⟩
 have hF:∀kk b,(rows kk).1.ownBlock=some b→κ.F i b:=fun kk b hb=>(sC kk).2.2.1 b hb
 have hFl:∀b,κ.Fs b→b<w.heap.size:=fun b hb=>r.fr.yb hb
 have bj:=fun j=>DS.DG (o':=.pool e (ir rows k (v',ys))) ho j
 have iJ:∀j,(δ.bB i (some (.pool e (ir rows k (v',ys))))).lr j↔δ.lr j:=by
  intro j
  unfold DS.lr
  rw[dD]
  by_cases e':i=j
  ·subst e';rw[if_pos rfl,ho];simp
  ·simp [e']
 have o6:∀j,δ.lb j→(δ.bB i (some (.pool e (ir rows k (v',ys))))).lb j:=by
  rintro j ⟨o,h2,h3⟩
  unfold DS.lb
  rw[dD]
  by_cases e':i=j
  ·subst e';rw[if_pos rfl];exact⟨_,rfl,rfl⟩
  ·rw[if_neg e'];exact⟨o,h2,h3⟩
 have i_:∀b,b<w.heap.size→¬(rows k).1.ownBlock=some b→w'.heap[b]? =w.heap[b]?:=fun b h2 h3=>t.block b h2 h3
 have hnF:∀b,b<w.heap.size→¬κ.Fs b→w'.heap[b]? =w.heap[b]?:=fun b h2 h3=>i_ b h2 fun h4=>h3 ⟨i,hF k b h4⟩
 have hv'lt:∀b,v'.ownBlock=some b→b<w'.heap.size∧g.B≤b:=fun b hb=>let ⟨_,h2,h3⟩:=lB cp hb;⟨da h2,h3⟩
 let κ':Kp:=⟨κ.f,fun j b=>κ.F j b∨(j=i∧v'.ownBlock=some b)⟩
 have hold:∀j b,κ'.F j b→b<w.heap.size→κ.F j b:=by
  rintro j b (h2|⟨rfl,h2⟩) h3
  ·exact h2
  ·rcases qc b h2 with h4|h4
   ·exact hF k b h4
   ·omega
 have G:eD (δ.cx g κ) w ((δ.bB i (some (.pool e (ir rows k (v',ys))))).cx g κ') w':=
  {B:=rfl,size:=t.size
   N:=fun b h2 h3=>⟨⟨⟨h3.1.1,fun⟨j,hj⟩=>h3.1.2 ⟨j,hold j b hj h2⟩⟩,fun j hj=>h3.2 j ((bj j).1 hj)⟩,hnF b h2 h3.1.2⟩
   Lr:=fun j hj=>⟨(iJ j).2 hj,rfl,fun b hb=>hnF b (r.lo j b (DS.bU hj) hb).2 (r.fr.ib (DS.bU hj) hb)⟩
   Lb:=fun j hj=>⟨o6 j hj,rfl⟩}
 refine⟨κ',?_,G⟩
 exact
  {n:=r.n
   dfr:=r.dfr.fp fun b _ hb=>i_ b (da hb) fun h2=>by
    obtain⟨cur,h3,_⟩:=lB (sC k).1 h2
    rw[hb] at h3;cases h3
   env:=fun j=>G.ra (r.env j)
   obj:=fun j x h=>by
    rw[dD] at h
    by_cases e':i=j
    ·subst e'
     rw[if_pos rfl] at h
     cases h
     refine⟨hκi,fun kk=>?_,fun k1 k2 b h2 h3=>?_⟩
     ·unfold ir
      by_cases hk:kk=k
      ·rw[if_pos hk];exact⟨cp,hl,fun b hb=> .inr ⟨rfl,hb⟩,h1⟩
      ·rw[if_neg hk]
       exact(sC kk).fp rfl fun b hb h2 h3=>⟨.inl h2,i_ b h3 fun h4=>hk (tM kk k b hb h4)⟩
     ·unfold ir at h2 h3
      by_cases hk1:k1=k
      ·by_cases hk2:k2=k
       ·rw[hk1,hk2]
       ·rw[if_pos hk1] at h2
        rw[if_neg hk2] at h3
        rcases qc b h2 with h4|h4
        ·exact hk1.trans (tM k k2 b h4 h3)
        ·exact absurd (hFl b ⟨i,hF k2 b h3⟩) (by omega)
      ·by_cases hk2:k2=k
       ·rw[if_neg hk1] at h2
        rw[if_pos hk2] at h3
        rcases qc b h3 with h4|h4
        ·exact(tM k1 k b h2 h4).trans hk2.symm
        ·exact absurd (hFl b ⟨i,hF k1 b h2⟩) (by omega)
       ·rw[if_neg hk1] at h2
        rw[if_neg hk2] at h3
        exact tM k1 k2 b h2 h3
    ·rw[if_neg e'] at h
     exact(r.obj j x h).fp G rfl (fun b hb=>hnF b (r.lo j b ⟨x,h⟩ hb).2 (r.fr.ib ⟨x,h⟩ hb)) fun b h2 h3=>⟨.inl h2,i_ b h3 fun h4=>e' ((r.fr.2 j b h2).2.2.2.2 i (hF k b h4))⟩
   inj:=fun i' j b h2 h3=>r.inj i' j b ((bj i').1 h2) ((bj j).1 h3)
   lo:=fun j b h2 h3=>by have:=r.lo j b ((bj j).1 h2) h3;exact⟨this.1,Nat.lt_of_lt_of_le this.2 t.size⟩
   nx:=fun j h=>r.nx j ((bj j).1 h)
   wt:=fun kk hk=>⟨fun b hb=>⟨((r.wt kk hk).1 b hb).1,(i_ b (lM ((r.wt kk hk).1 b hb)) (fun h4=>(r.fr.2 i b (hF k b h4)).1.2 kk hk hb)).trans ((r.wt kk hk).1 b hb).2⟩,fun j b hj pH=>(r.wt kk hk).2 j b ((bj j).1 hj) (pH.imp (iJ j).1 id)⟩
   below:=r.l_ t (fun b hb=>(r.fr.2 i b (hF k b hb)).1.1)
   hB:=Nat.le_trans r.hB t.size
   N0:=r.N0
   mkf:=r.mkf
   fr:=by
    refine⟨fun b hb=>?_,fun j b hb=>?_⟩
    ·obtain⟨h2,h3,h4⟩:=r.fr.1 b hb
     refine⟨h2,(hnF b (r.fr.uk hb) fun⟨j,hj⟩=>(r.fr.2 j b hj).2.2.1 hb).trans h3,fun j hj=>h4 j ((bj j).1 hj)⟩
    ·have Mf:κ.F j b∨(j=i∧v'.ownBlock=some b∧w.heap.size≤b):=by
      rcases hb with h2|⟨rfl,h2⟩
      ·exact .inl h2
      ·rcases qc b h2 with h3|h3
       ·exact .inl (hF k b h3)
       ·exact .inr ⟨rfl,h2,h3⟩
     rcases Mf with h2|⟨rfl,h2,h3⟩
     ·obtain⟨h4,h5,h6,h7,h8⟩:=r.fr.2 j b h2
      exact⟨h4,Nat.lt_of_lt_of_le h5 t.size,h6,fun j' hj'=>h7 j' ((bj j').1 hj'),fun j' hj'=>h8 j' (hold j' b hj' h5)⟩
     ·refine⟨⟨(hv'lt b h2).2,fun kk hk hb=>by have:=lM ((r.wt kk hk).1 b hb);omega⟩,(hv'lt b h2).1,fun h4=>?_,fun j' hj' h4=>?_,fun j' hj'=>?_⟩
      ·have:=r.fr.uk h4;omega
      ·have:=r.lo j' b ((bj j').1 hj') h4;omega
      ·rcases hj' with h4|⟨rfl,_⟩
       ·have:=hFl b ⟨j',h4⟩;omega
       ·rfl}
theorem ct (r:Rel g δ κ a w) {i:Nat} {e:TypeId} {rows:eU} (ho:δ.ob i=some (.pool e rows)) (k:Nat):w.ownsRow g.B e 1 (rows k).1 (rows k).2.length (rows k).2:=((r.obj i _ ho).2.1 k).1
theorem FX (r:Rel g δ κ a w) {i:Nat} {e:TypeId} {rows:eU} (ho:δ.ob i=some (.pool e rows)) {k b:Nat} (hb:(rows k).1.ownBlock=some b):b<w.heap.size∧∀j,δ.lr j→κ j≠some b:=by
 have hF:=((r.obj i _ ho).2.1 k).2.2.1 b hb
 exact⟨r.fr.yb ⟨i,hF⟩,fun j hj e=>r.fr.ib (DS.bU hj) e ⟨i,hF⟩⟩
theorem aa.Da {x:Operand} {t e':TypeId} (i k:Nat) {e:TypeId} {rows:eU} {H:Value} {ys:List Value} (ho:δ.ob i=some (.pool e rows)) (hk:rows k=(H,ys)) (hx:δ.ev x=.pv (.lit H)) (ht:P.underlying t=some (.slice e')) (fg:aK x=true) (hd:bn δ.n dst=true)
  (hK:aa q P g ops rest Q (δ.aw dst (al (ys.length:Nat)))):aa q P g ops (⟨dst,.call {callee:=.builtin .len,args:= #[x],argTypes:= #[t]},ty,pos,af,none⟩::rest) Q δ:=
 aa.dA _ hd (fun κ a w r=>by
  have h0:=ct r ho k
  rw[hk] at h0
  simp only at h0
  have hv:a.eval x=H:=r.lit hx fg
  rcases h0.2 with ⟨h1,h2⟩|⟨b,cap,cur,h1,_⟩
  ·exact⟨_,fun w' _=>run_len_slice ht x a.eval none _ 0 (hv.trans (by rw[h1,h2])) w',.pv (.lit _)⟩
  ·exact⟨_,fun w' _=>run_len_slice ht x a.eval _ _ cap (hv.trans h1) w',.pv (.lit _)⟩) hK
theorem aa.xE {x y:Operand} {t e':TypeId} (i k:Nat) {n:Nat} {ik:IntKind} {e:TypeId} {rows:eU} {H:Value} {ys:List Value} (ho:δ.ob i=some (.pool e rows)) (hk:rows k=(H,ys)) (hx:δ.ev x=.pv (.lit H)) (hy:δ.ev y=.pv (.lit (.int ik (n:Int)))) (hn:n<ys.length)
  (ht:P.underlying t=some (.slice e')) (hs:(P.info? e').map (·.size)=some 1) (fg:aK x=true) (fb:aK y=true) (hd:bn δ.n dst=true)
  (hK:aa q P g ops rest Q (δ.aw dst (.pv (.lit (ig n H))))):aa q P g ops (⟨dst,.indexAddr t x y,ty,pos,af,none⟩::rest) Q δ:=
 aa.dA _ hd (fun κ a w r=>by
  have h0:=ct r ho k
  rw[hk] at h0
  simp only at h0
  have hv:a.eval x=H:=r.lit hx fg
  rcases h0.2 with ⟨h1,h2⟩|⟨b,cap,cur,h1,_⟩
  ·exfalso;omega
  ·subst h1
   refine⟨_,fun w' _=>?_,.pv (.lit _)⟩
   have:=cT (dst:=dst) (ty:=ty) (pos:=pos) (af:=af) ht hs hv (r.lit hy fb) hn w'
   rw[Nat.mul_one] at this
   exact this) hK
theorem aa.A5 {x:Operand} {t:TypeId} (i k:Nat) {n:Nat} {e:TypeId} {rows:eU} {H u:Value} {ys:List Value} (ho:δ.ob i=some (.pool e rows)) (hk:rows k=(H,ys)) (hx:δ.ev x=.pv (.lit (ig n H))) (hu:ys[n]? =some u)
  (ht:eu P t=true) (fg:aK x=true) (hd:bn δ.n dst=true) (hq:q≠ .held) (hK:aa q P g ops rest Q (δ.aw dst (.pv (.lit u)))):aa q P g ops (⟨dst,.load t x,ty,pos,af,none⟩::rest) Q δ:=
 aa.IU _ hq rfl rfl hd (fun κ a w r=>by
  have h0:=ct r ho k
  have aM:=fun b hb=>FX r ho (k:=k) (b:=b) hb
  rw[hk] at h0 aM
  simp only at h0 aM
  have hv:a.eval x=ig n H:=r.lit hx fg
  have iy:n<ys.length:=(List.getElem?_eq_some_iff.1 hu).1
  have h0':=h0
  rcases h0.2 with ⟨h1,h2⟩|⟨b,cap,cur,h1,_⟩
  ·exfalso;omega
  ·subst h1
   have h3:=h0'.cellAt (n*1) (by omega)
   rw[Nat.mul_one] at h3
   have hv2:a.eval x=.pointer (some ⟨b,n,none⟩):=hv.trans (by simp [ig])
   obtain⟨h4,h5⟩:=aM b rfl
   exact⟨u,fun w' hw'=>e7 ht hv2 ((hw'.cell (p:=⟨b,n,none⟩) h4).trans (h3.trans hu)),.pv (.lit _)⟩) hK
theorem dv.mc {x y:Operand} {t:TypeId} (i k:Nat) {n:Nat} {e:TypeId} {rows:eU} {H u:Value} {ys:List Value} (ho:δ.ob i=some (.pool e rows)) (hk:rows k=(H,ys)) (hx:δ.ev x=.pv (.lit (ig n H))) (hn:n<ys.length) (hy:δ.ev y=.pv (.lit u))
  (hu:u.oneCell'=true) (ht:(P.info? t).map (·.size)=some 1) (fg:aK x=true) (fb:aK y=true) (hd:bn δ.n dst=true):
  dv P g ⟨dst,.store t x y,ty,pos,af,gd⟩ δ ((δ.bB i (some (.pool e (ir rows k (H,ys.set n u))))).aw dst .any):=by
 intro κ a w r
 have h0:=ct r ho k
 have hl:=((r.obj i _ ho).2.1 k).2.1
 have h1c:=((r.obj i _ ho).2.1 k).2.2.2
 rw[hk] at h0 hl h1c
 simp only at h0 hl h1c
 have hv:a.eval x=ig n H:=r.lit hx fg
 have sa:a.eval y=u:=r.lit hy fb
 rcases h0.2 with ⟨h1,h2⟩|⟨b,cap,cur,h1,hB,h3,hle,Bo,kG,ot⟩
 ·exfalso;omega
 ·subst h1
  have hv2:a.eval x=.pointer (some ⟨b,n,none⟩):=hv.trans (by simp [ig])
  have aV:(execOp a.eval ⟨dst,.store t x y,ty,pos,af,gd⟩).run P w=.ok .skip (w.setCell ⟨b,n,none⟩ u):=by
   obtain⟨i0,dF,hs0⟩:∃i0,P.info? t=some i0∧i0.size=1:=by
    cases h:P.info? t with
    |none=>rw[h] at ht;simp at ht
    |some i0=>rw[h] at ht;exact⟨i0,rfl,by simpa using ht⟩
   have hc:w.cell? ⟨b,n,none⟩=some (cur[n]'(by omega)):=by rw[cell_of h3,Array.getElem?_eq_getElem (by omega)]
   have de:(store ⟨b,n,none⟩ u).run P w=.ok () (w.setCell ⟨b,n,none⟩ u):=by
    rw[run_store P w _ _ _ hu,hc];simp [jb h3]
   simp [execOp,Instr.storeAt,Instr.sureAddr,storeVar,hv2,sa,gZ hu,sizeOf,typeInfo,dF,hs0,storeCells,dH,de]
  have dJ:(rows k).1.ownBlock=some b:=by rw[hk];rfl
  obtain⟨κ',r',_⟩:=r.iZ ho (k:=k) (w':=w.setCell ⟨b,n,none⟩ u) (by rw[dJ];exact c7.setCell w ⟨b,n,none⟩ u) (v':=.slice (some ⟨b,0,none⟩) ys.length cap) (ys:=ys.set n u)
   (by
    rw[List.length_set]
    refine⟨by simp,.inr ⟨b,cap,_,rfl,hB,fC h3 _,hle,Bo,by simpa using kG,?_⟩⟩
    rw[Nat.mul_one] at ot ⊢
    rw[Array.toList_setIfInBounds,List.take_set,ot])
   (by rw[List.length_set];exact hl)
   (fun v hv=>by
    rcases List.mem_or_eq_of_mem_set hv with hv|rfl
    ·exact h1c v hv
    ·exact hu)
   (fun b' hb'=> .inl (by rw[dJ];exact hb'))
  exact .inl ⟨_,_,_,κ',aV,.inr ⟨rfl,rfl⟩,r'.aw (aS hd) (.any _)⟩
theorem aa.mc {x y:Operand} {t:TypeId} (i k:Nat) {n:Nat} {e:TypeId} {rows:eU} {H u:Value} {ys:List Value} (ho:δ.ob i=some (.pool e rows)) (hk:rows k=(H,ys)) (hx:δ.ev x=.pv (.lit (ig n H))) (hn:n<ys.length) (hy:δ.ev y=.pv (.lit u))
  (hu:u.oneCell'=true) (ht:(P.info? t).map (·.size)=some 1) (fg:aK x=true) (fb:aK y=true) (hd:bn δ.n dst=true) (hK:aa .plain P g ops rest Q ((δ.bB i (some (.pool e (ir rows k (H,ys.set n u))))).aw dst .any)):
  aa .plain P g ops (⟨dst,.store t x y,ty,pos,af,none⟩::rest) Q δ:=aa.n9 rfl rfl (dv.mc i k ho hk hx hn hy hu ht fg fb hd) hK
end Go.Ab
