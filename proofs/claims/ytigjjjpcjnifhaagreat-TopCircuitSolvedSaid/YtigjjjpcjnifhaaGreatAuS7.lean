/- The solver's propagation, in plain terms: what it may turn, and how far it has come. -/
import Derived.Test.YtigjjjpcjnifhaaGreatAuA3
import Derived.Test.YtigjjjpcjnifhaaGreatAbZ
import Derived.Test.YtigjjjpcjnifhaaGreatAbL3
set_option linter.unusedSimpArgs false
set_option linter.unusedVariables false
open List renaming getD_eq_getElem?_getD→c6,getElem?_set→bH,append_assoc→dh,mem_append→bX,mem_singleton→cq,pairwise_map→dC,mem_map→bx,mem_of_getElem?→aU,drop_eq_getElem_cons→dj,mem_cons_self→dW,getElem?_eq_getElem→a8,nodup_append→cp,getElem?_eq_some_iff→aW,length_set→cM,take_succ_eq_append_getElem→dk,getElem_set_self→dX,take_set_of_le→dY,getElem?_append_left→aT,append_nil→bt,length_append→bW,length_take→cO,length_drop→cV,take_append_of_le_length→cW,nodup_cons→cX,mem_cons→bw,countP_congr→dZ,mem_cons_of_mem→ec,mem_map_of_mem→dx,countP_cons→ed,getElem_of_mem→da,countP_le_length→ee,replicate→bZ,getElem?_replicate→ef,countP_eq_zero→eg,mem_of_mem_take→cQ,take_sublist→eh,map_append→cR,getElem_take→ew,getElem_inj→dr,getElem_map→dg,getElem_mem→cY,take_length→c8,countP_pos_iff→ez,countP_append→eA,countP_nil→eB,mem_take_iff_getElem→dR,countP_eq_length→eC,length_singleton→c7,getElem_append_left→dy,getElem_append_right→dz,take_append_drop→dw,pairwise_iff_getElem→dO,take_take→eF,length_map→a6,cons_append→bu
open Nat renaming le_refl→aP,zero_le→bm,zero_add→ba,strongRecOn→eD,lt_of_not_le→eE,min_eq_left→cP,exists_eq_add_of_le→eH,add_assoc→bG,pow_pos→eI,le_trans→aQ,reduceBEq→df
open Int renaming neg_neg→dt,toNat_natCast→dq,le_refl→eG,not_lt→eJ
open Bool renaming false_and→eo,and_self→eu,and_eq_true→aZ
namespace Go.Ab
open Go Go.Proofs
structure vd (s t:SR):Prop where
 marks:t.marks=s.marks
 low:t.low=s.low
 added:t.added=s.added
 broken:t.broken=s.broken
 nc:t.nc=s.nc
 hc:t.hc=s.hc
 nw:t.nw=s.nw
 proof:t.proof=s.proof
 model:t.model=s.model
 core:t.core=s.core
 ll:∃ys,t.ll 0=s.ll 0++ys
 cl:∀j,mb (s.cl j) (t.cl j)
 Cr:∀x∈s.ll 0,t.reason.getD (fk x) 0=s.reason.getD (fk x) 0
 new:∀x∈t.ll 0,x∉s.ll 0→t.reason.getD (fk x) 0≠ -1
theorem mb.refl (c:List Int):mb c c:=⟨rfl,id,fun _=>Iff.rfl⟩
theorem mb.trans {c d e:List Int} (h:mb c d) (k:mb d e):mb c e:=⟨k.len.trans h.len,fun x=>k.nd (h.nd x),fun x=>(k.mem x).trans (h.mem x)⟩
theorem vd.refl (s:SR):vd s s:=⟨rfl,rfl,rfl,rfl,rfl,rfl,rfl,rfl,rfl,rfl,⟨[],by simp⟩,fun _=> .refl _,fun _ _=>rfl,fun _ h k=>absurd h k⟩
theorem vd.EN {s t:SR} (h:vd s t) {cl:Nat→List Int} {hw:Nat→Value} {wl:Nat→List Int} {hd:Int} (iX:∀j,mb (t.cl j) (cl j)):vd s {t with cl:=cl,hw:=hw,wl:=wl,head:=hd} where
 marks:=h.marks
 low:=h.low
 added:=h.added
 broken:=h.broken
 nc:=h.nc
 hc:=h.hc
 nw:=h.nw
 proof:=h.proof
 model:=h.model
 core:=h.core
 ll:=h.ll
 cl:=fun j=>(h.cl j).trans (iX j)
 Cr:=h.Cr
 new:=h.new
theorem mK {s:SR} {x r:Int} {h:Value} {y:Int} (gn:fk y≠fk x):(fO s x r h).reason.getD (fk y) 0=s.reason.getD (fk y) 0:=by
 unfold fO
 simp only
 rw[c6,c6,bH,if_neg (Ne.symm gn)]
theorem j5 (s:SR) (x r:Int) (h:Value):(fO s x r h).ll 0=s.ll 0++ [x]:=by
 show e_ s.ll 0 (s.ll 0++ [x]) 0=_
 exact e7 _ _ _
theorem vd.push {n:Nat} {s t:SR} (h:vd s t) (ht:t.reason.length=n+1) {x r:Int} {hv:Value} (hx:Lit n x) (h1:x∉t.ll 0) (h2: -x∉t.ll 0) (hr:r≠ -1):vd s (fO t x r hv) where
 marks:=h.marks
 low:=h.low
 added:=h.added
 broken:=h.broken
 nc:=h.nc
 hc:=h.hc
 nw:=h.nw
 proof:=h.proof
 model:=h.model
 core:=h.core
 ll:=by
  obtain⟨ys,e⟩:=h.ll
  exact⟨ys++ [x],by rw[j5,e,dh]⟩
 cl:=h.cl
 Cr:=fun y hy=>by
  obtain⟨ys,e⟩:=h.ll
  rw[mK (pN (n:=n) h1 h2 (.inl (by rw[e];exact bX.2 (.inl hy))))]
  exact h.Cr y hy
 new:=fun y hy hny=>by
  rw[j5,bX,cq] at hy
  rcases hy with hy|rfl
  ·rw[mK (pN (n:=n) h1 h2 (.inl hy))]
   exact h.new y hy hny
  ·have:=jS hx
   unfold fO
   simp only
   rw[c6,bH,if_pos rfl,if_pos (by rw[ht];omega)];exact hr
theorem fY.hw {n:Nat} {s:SR} (h:fY n s) (hv:Nat→Value):fY n {s with hw:=hv}:=
 {hn:=h.hn,iU:=h.iU,val:=h.val,lvl:=h.lvl,pH:=h.pH,hd:=h.hd,oW:=h.oW,nM:=h.nM,cls:=h.cls,fresh:=h.fresh,nc:=h.nc,nw:=h.nw,wt:=h.wt,sJ:=h.sJ,sH:=h.sH,two:=h.two,qK:=h.qK,q7:=h.q7}
theorem kO {n:Nat} {l:List Int} (h:l.Nodup) (hl:∀x∈l,0≤x∧x<n):l.length≤n:=by
 have:=vb n (l:=l.map fun x=>(x+1).toNat) (by
  unfold List.Nodup
  rw[dC]
  exact h.imp_of_mem fun {a b} ha hb sS e=>by have:=hl a ha;have:=hl b hb;omega) fun v hv=>by
  obtain⟨x,hx,rfl⟩:=bx.1 hv
  have:=hl x hx
  omega
 simpa using this
theorem fY.IF {n:Nat} {s:SR} (h:fY n s) {x:Int} (hx:Lit n x):(s.wl (eX x).toNat).length≤s.nc:=
 kO (h.sJ _) fun e he=>by
  obtain⟨j,hj,rfl,_⟩:=h.wt x hx e he
  omega
theorem fY.FT {n:Nat} {s:SR} (h:fY n s) {j:Nat} (hj:j<s.nc):(s.cl j).length≤2*n+2:=by
 obtain⟨_,h2,h3⟩:=h.cls j hj
 have:=kO (n:=2*n+2) (l:=(s.cl j).map eX) (by
  unfold List.Nodup
  rw[dC]
  exact h2.imp_of_mem fun {a b} ha hb sS e=>sS (iw (h3 a ha) (h3 b hb) (by rw[e]))) fun v hv=>by
  obtain⟨x,hx,rfl⟩:=bx.1 hv
  have:=gT (h3 x hx)
  omega
 simpa using this
structure wo (n:Nat) (s0:SR) (hd:Int) (N:Nat) (g:Int) (s:SR) (m i:Nat):Prop where
 inv:fY n {s with wl:=e_ s.wl (eX g).toNat ((s.wl (eX g).toNat).take m++(s.wl (eX g).toNat).drop i)}
 ext:vd s0 s
 len:(s.wl (eX g).toNat).length=N
 mi:m≤i
 iN:i≤N
 hd:s.head=hd
 hh:(s.ll 0)[s.head.toNat]? =some (-g)
 done:∀e∈(s.wl (eX g).toNat).take m,∃j:Nat,j<s.nc∧e=(j:Int)∧c1 (s.cl j)=g∧c0 (s.cl j)∈s.ll 0
theorem fY.S1 {n:Nat} {s:SR} (h:fY n s) {wl:Nat→List Int} (e:wl=s.wl):fY n {s with wl:=wl}:=by subst e;exact h
theorem wo.start {n:Nat} {s0 s:SR} {g:Int} (h:fY n s) (he:vd s0 s) (hh:(s.ll 0)[s.head.toNat]? =some (-g)):wo n s0 s.head (s.wl (eX g).toNat).length g s 0 0 where
 inv:=h.S1 (by simp only[List.take_zero,List.drop_zero,List.nil_append];exact xk _ _)
 ext:=he
 len:=rfl
 mi:=aP _
 iN:=bm _
 hd:=rfl
 hh:=hh
 done:=fun e he=>by simp at he
section
variable {n:Nat} {s0:SR} {hd:Int} {N:Nat} {g:Int} {s:SR} {m i:Nat}
theorem wo.gl (h:wo n s0 hd N g s m i):Lit n g∧ -g∈s.ll 0:=by
 have hm:=aU h.hh
 have:=h.inv.iU.zK (-g) hm
 exact⟨⟨by omega,by omega,by omega⟩,hm⟩
theorem wo.clause (h:wo n s0 hd N g s m i) (hi:i<N):∃j:Nat,j<s.nc∧(s.wl (eX g).toNat)[i]? =some (j:Int)∧(c0 (s.cl j)=g∨c1 (s.cl j)=g)∧((j:Int)∉(s.wl (eX g).toNat).take m)∧2≤(s.cl j).length∧(s.cl j).length≤2*n+2∧(s.cl j).Nodup∧∀x∈s.cl j,Lit n x:=by
 have qU:i<(s.wl (eX g).toNat).length:=by rw[h.len];exact hi
 have yH:(s.wl (eX g).toNat)[i]∈e_ s.wl (eX g).toNat ((s.wl (eX g).toNat).take m++(s.wl (eX g).toNat).drop i) (eX g).toNat:=by
  rw[e7,bX]
  exact .inr (by rw[dj qU];exact dW)
 obtain⟨j,hj,e,hw⟩:=h.inv.wt g h.gl.1 _ yH
 obtain⟨q1,q2,q3⟩:=h.inv.cls j hj
 refine⟨j,hj,by rw[a8 qU,e],hw,fun hm=>?_,q1,h.inv.FT hj,q2,q3⟩
 have hn:=h.inv.sJ (eX g).toNat
 simp only[e7] at hn
 refine(cp.1 hn).2.2 _ hm _ ?_ rfl
 rw[dj qU,e];simp
theorem wo.bnd (h:wo n s0 hd N g s m i):s.value.length=n+1∧s.level.length=n+1∧s.reason.length=n+1∧n≤20000∧(s.ll 0).length≤n∧s.marks.length≤s.marks.length∧s.nw=2*n+2∧s.nc≤100000:=
 ⟨by have:=h.inv.val;show s.value.length=_;rw[show s.value=lX n (s.ll 0) from this,kE],h.inv.lvl,h.inv.pH,h.inv.hn,h.inv.iU.len,aP _,h.inv.nw,h.inv.nc⟩
theorem wo.swap (h:wo n s0 hd N g s m i) {j:Nat} (hj:j<s.nc) (JK:(j:Int)∉(s.wl (eX g).toNat).take m) {d:List Int} (hp:mb (s.cl j) d) (h0:c0 d=c1 (s.cl j)) (h1:c1 d=c0 (s.cl j)):wo n s0 hd N g {s with cl:=e_ s.cl j d} m i where
 inv:=h.inv.swap hj hp h0 h1
 ext:=h.ext.EN fun k=>by
  unfold e_;split
  ·next e=>subst e;exact hp
  ·exact .refl _
 len:=h.len
 mi:=h.mi
 iN:=h.iN
 hd:=h.hd
 hh:=h.hh
 done:=fun e he=>by
  obtain⟨k,q1,q2,q3,q4⟩:=h.done e he
  have gn:k≠j:=by rintro rfl;exact JK (q2▸he)
  exact⟨k,q1,q2,by show c1 (e_ s.cl j d k)=g;rw[fC _ _ gn];exact q3,by show c0 (e_ s.cl j d k)∈_;rw[fC _ _ gn];exact q4⟩
theorem wo.keep (h:wo n s0 hd N g s m i) {j:Nat} (hj:j<s.nc) (hi:(s.wl (eX g).toNat)[i]? =some (j:Int)) (FB:c1 (s.cl j)=g) (EF:c0 (s.cl j)∈s.ll 0):wo n s0 hd N g {s with wl:=e_ s.wl (eX g).toNat ((s.wl (eX g).toNat).set m (j:Int))} (m+1) (i+1):=by
 obtain⟨qU,e⟩:=aW.1 hi
 have hm:=h.mi
 have nD:e_ (e_ s.wl (eX g).toNat ((s.wl (eX g).toNat).set m (j:Int))) (eX g).toNat ((e_ s.wl (eX g).toNat ((s.wl (eX g).toNat).set m (j:Int)) (eX g).toNat).take (m+1)++(e_ s.wl (eX g).toNat ((s.wl (eX g).toNat).set m (j:Int)) (eX g).toNat).drop (i+1))=e_ s.wl (eX g).toNat ((s.wl (eX g).toNat).take m++(s.wl (eX g).toNat).drop i):=by
  rw[jQ,e7,← e,uX hm qU]
 exact
  {inv:=by
    have:=h.inv
    rw[← nD] at this
    exact this
   ext:=h.ext.EN fun _=> .refl _
   len:=by show(e_ s.wl (eX g).toNat ((s.wl (eX g).toNat).set m (j:Int)) (eX g).toNat).length=_;rw[e7,cM];exact h.len
   mi:=by omega
   iN:=by rw[← h.len];omega
   hd:=h.hd,hh:=h.hh
   done:=fun x hx=>by
    have hx:x∈(e_ s.wl (eX g).toNat ((s.wl (eX g).toNat).set m (j:Int)) (eX g).toNat).take (m+1):=hx
    rw[e7,dk (by simp;omega),bX,cq,dX,dY (aP _)] at hx
    rcases hx with hx|rfl
    ·exact h.done x hx
    ·exact⟨j,hj,rfl,FB,EF⟩}
theorem wo.move (h:wo n s0 hd N g s m i) {j:Nat} (hj:j<s.nc) (hi:(s.wl (eX g).toNat)[i]? =some (j:Int)) (JK:(j:Int)∉(s.wl (eX g).toNat).take m) (FB:c1 (s.cl j)=g) {d:List Int} {y:Int} (hp:mb (s.cl j) d) (h0:c0 d=c0 (s.cl j)) (h1:c1 d=y) (JC:y≠g) (SK:y≠c0 (s.cl j)) (Zc: -y∉s.ll 0) (hv:Nat→Value):
  wo n s0 hd N g {s with cl:=e_ s.cl j d,hw:=hv,wl:=e_ s.wl (eX y).toNat (s.wl (eX y).toNat++ [(j:Int)])} m (i+1):=by
 obtain⟨qU,e⟩:=aW.1 hi
 have y8:Lit n y:=by
  obtain⟨q1,q2,q3⟩:=h.inv.cls j hj
  have q1:2≤(s.cl j).length:=q1
  have q3:∀x∈s.cl j,Lit n x:=q3
  refine q3 y ((hp.mem y).1 ?_)
  rw[← h1]
  exact(km (by rw[hp.len];exact q1)).2
 have gn:(eX g).toNat≠(eX y).toNat:=fun q=>JC (iw y8 h.gl.1 q.symm)
 have tU:e_ s.wl (eX y).toNat (s.wl (eX y).toNat++ [(j:Int)]) (eX g).toNat=s.wl (eX g).toNat:=fC _ _ gn
 have hE:(s.wl (eX g).toNat).take m++(s.wl (eX g).toNat).drop i=(s.wl (eX g).toNat).take m++(j:Int)::(s.wl (eX g).toNat).drop (i+1):=by
  rw[dj qU,e]
 have jg:((s.wl (eX g).toNat).take m++(j:Int)::(s.wl (eX g).toNat).drop (i+1)).Nodup:=by
  have:=h.inv.sJ (eX g).toNat
  simp only[e7] at this
  rw[hE] at this
  exact this
 have hm:=h.inv.move hj hp FB h.gl.2 h0 h1 JC SK Zc (E:=(s.wl (eX g).toNat).take m++(s.wl (eX g).toNat).drop i) (E':=(s.wl (eX g).toNat).take m++(s.wl (eX g).toNat).drop (i+1)) (by exact e7 _ _ _) (fun x=>by rw[hE];exact drop_one jg x) (Fi jg) hv
 exact
  {inv:=by
    have e2:e_ (e_ (e_ s.wl (eX g).toNat ((s.wl (eX g).toNat).take m++(s.wl (eX g).toNat).drop i)) (eX y).toNat (e_ s.wl (eX g).toNat ((s.wl (eX g).toNat).take m++(s.wl (eX g).toNat).drop i) (eX y).toNat++ [(j:Int)])) (eX g).toNat ((s.wl (eX g).toNat).take m++(s.wl (eX g).toNat).drop (i+1))
      =e_ (e_ s.wl (eX y).toNat (s.wl (eX y).toNat++ [(j:Int)])) (eX g).toNat ((e_ s.wl (eX y).toNat (s.wl (eX y).toNat++ [(j:Int)]) (eX g).toNat).take m++(e_ s.wl (eX y).toNat (s.wl (eX y).toNat++ [(j:Int)]) (eX g).toNat).drop (i+1)):=by
     rw[tU,fC (k:=(eX g).toNat) _ _ (Ne.symm gn)]
     funext x
     unfold e_
     split
     ·rfl
     ·rfl
    simp only at hm
    rw[e2] at hm
    exact hm
   ext:=h.ext.EN fun k=>by
    unfold e_;split
    ·next q=>subst q;exact hp
    ·exact .refl _
   len:=by show(e_ s.wl (eX y).toNat (s.wl (eX y).toNat++ [(j:Int)]) (eX g).toNat).length=_;rw[tU];exact h.len
   mi:=by have:=h.mi;omega
   iN:=by rw[← h.len];omega
   hd:=h.hd,hh:=h.hh
   done:=fun x hx=>by
    have Ct:x∈(e_ s.wl (eX y).toNat (s.wl (eX y).toNat++ [(j:Int)]) (eX g).toNat).take m:=hx
    rw[tU] at Ct
    obtain⟨k,q1,q2,q3,q4⟩:=h.done x Ct
    have gn:k≠j:=fun q=>JK (by rw[← q,← q2];exact Ct)
    exact⟨k,q1,q2,by show c1 (e_ s.cl j d k)=g;rw[fC _ _ gn];exact q3,by show c0 (e_ s.cl j d k)∈_;rw[fC _ _ gn];exact q4⟩}
theorem wo.push (h:wo n s0 hd N g s m i) {j:Nat} (hj:j<s.nc) (hi:(s.wl (eX g).toNat)[i]? =some (j:Int)) (FB:c1 (s.cl j)=g) (hf:∀y∈s.cl j,y≠c0 (s.cl j)→ -y∈s.ll 0) (h1:c0 (s.cl j)∉s.ll 0) (h2: -(c0 (s.cl j))∉s.ll 0) (hv:Value):
  wo n s0 hd N g (fO {s with wl:=e_ s.wl (eX g).toNat ((s.wl (eX g).toNat).set m (j:Int))} (c0 (s.cl j)) (j:Int) hv) (m+1) (i+1):=by
 obtain⟨qU,e⟩:=aW.1 hi
 have hm:=h.mi
 obtain⟨q1,q2,q3⟩:=h.inv.cls j hj
 have Wk:Lit n (c0 (s.cl j)):=q3 _ (km q1).1
 have nD:e_ (e_ s.wl (eX g).toNat ((s.wl (eX g).toNat).set m (j:Int))) (eX g).toNat ((e_ s.wl (eX g).toNat ((s.wl (eX g).toNat).set m (j:Int)) (eX g).toNat).take (m+1)++(e_ s.wl (eX g).toNat ((s.wl (eX g).toNat).set m (j:Int)) (eX g).toNat).drop (i+1))=e_ s.wl (eX g).toNat ((s.wl (eX g).toNat).take m++(s.wl (eX g).toNat).drop i):=by
  rw[jQ,e7,← e,uX hm qU]
 have hinv:=h.inv.push (r:=(j:Int)) hv Wk h1 h2 (.inr ⟨j,hj,rfl,(km q1).1,hf⟩)
 exact
  {inv:=by
    have:=hinv
    unfold fO at this ⊢
    simp only at this ⊢
    rw[nD]
    exact this
   ext:=(h.ext.EN (t:=s) (cl:=s.cl) (hw:=s.hw) (wl:=e_ s.wl (eX g).toNat ((s.wl (eX g).toNat).set m (j:Int))) (hd:=s.head) fun _=> .refl _).push (n:=n) h.inv.pH Wk h1 h2 (by omega)
   len:=by show(e_ s.wl (eX g).toNat ((s.wl (eX g).toNat).set m (j:Int)) (eX g).toNat).length=_;rw[e7,cM];exact h.len
   mi:=by omega
   iN:=by rw[← h.len];omega
   hd:=h.hd
   hh:=by
    rw[j5]
    show(s.ll 0++_)[s.head.toNat]? =_
    have:=h.hh
    rw[aT (aW.1 this).1]
    exact this
   done:=fun x hx=>by
    have hx:x∈(e_ s.wl (eX g).toNat ((s.wl (eX g).toNat).set m (j:Int)) (eX g).toNat).take (m+1):=hx
    rw[e7,dk (by simp;omega),bX,cq,dX,dY (aP _)] at hx
    rw[j5]
    rcases hx with hx|rfl
    ·obtain⟨k,p1,p2,p3,p4⟩:=h.done x hx
     exact⟨k,p1,p2,p3,bX.2 (.inl p4)⟩
    ·exact⟨j,hj,rfl,FB,by simp;exact .inr rfl⟩}
theorem wo.fin (h:wo n s0 hd N g s m N) (hv:Nat→Value):fY n {s with hw:=hv,wl:=e_ s.wl (eX g).toNat ((s.wl (eX g).toNat).take m),head:=s.head+1}:=by
 have h1:=h.inv
 have e:(s.wl (eX g).toNat).take m++(s.wl (eX g).toNat).drop N=(s.wl (eX g).toNat).take m:=by rw[List.drop_eq_nil_of_le (by rw[h.len];exact aP _),bt]
 rw[e] at h1
 obtain⟨q1,q2⟩:=aW.1 h.hh
 refine(h1.done (g:=g) q1 (by show g= -(s.ll 0)[s.head.toNat];rw[q2,dt]) fun x hx=>?_).hw hv
 have hx:x∈e_ s.wl (eX g).toNat ((s.wl (eX g).toNat).take m) (eX g).toNat:=hx
 rw[e7] at hx
 exact h.done x hx
end
theorem G5 {R:List Int} {m i:Nat} {x:Int} (hm:m≤i) (hi:i<R.length) (hx:R[i]=x):(((R.set m x).take (m+1)++(R.set m x).drop ((i:Int)+1).toNat)++(R.set m x).drop (m+1+(R.length - ((i:Int)+1).toNat))).take (m+1+(R.length - ((i:Int)+1).toNat))=R.take m++R.drop i:=by
 have e:((i:Int)+1).toNat=i+1:=by omega
 have hl:((R.set m x).take (m+1)++(R.set m x).drop (i+1)).length=m+1+(R.length - (i+1)):=by
  simp only[bW,cO,cV,cM];omega
 rw[e,cW (by rw[hl];exact aP _),List.take_of_length_le (by rw[hl];exact aP _),← hx,uX hm hi]
structure Ls (n:Nat) (s t:SR) (r:Int):Prop where
 inv:fY n t
 ext:vd s t
 res:(r= -1∧t.head=((t.ll 0).length:Int))∨∃j:Nat,j<t.nc∧r=(j:Int)∧∀x∈t.cl j,-x∈t.ll 0
theorem AW.atR {P:Program} {g:eZ} {δ:DS} {Q:Exit→DS→Prop} (id:Nat) {l:Array Oper} {b:Bool} (h:AW P g (.region id l b) Q δ):AW P g (.region id l b) Q δ:=h
theorem AW.xe {P:Program} {g:eZ} {δ:DS} {Q:Exit→DS→Prop} (id:Nat) {l:Array Oper} {b:Bool} {c:Code} (h:AW P g (.seq (.region id l b) c) Q δ):AW P g (.seq (.region id l b) c) Q δ:=h
def Stop (p:Prop):Prop:=p
theorem Stop.go {p:Prop} (h:p):Stop p:=h
section
variable {P:Program} {g:eZ} {δ:DS} {Q:Exit→DS→Prop} {l:Array Oper} {b:Bool} {c:Code}
theorem AW.mS (id:Nat) (h:Stop (AW P g (.seq (.region id l b) c) Q δ)):AW P g (.seq (.region id l b) c) Q δ:=h
theorem AW.PO (id:Nat) (h:Stop (AW P g (.region id l b) Q δ)):AW P g (.region id l b) Q δ:=h
end
end Go.Ab
/- The solver's conflict analysis,in plain terms:how far it has come,and what it gives. -/
namespace Go.Ab
open Go Go.Proofs
theorem FN {l:List Int} {p q:Int→Bool} {y:Int} (hn:(l.map fk).Nodup) (hy:y∈l) (hp:p y=false) (hq:q y=true) (hz:∀z∈l,fk z≠fk y→q z=p z):l.countP q=l.countP p+1:=by
 induction l with
 |nil=>simp at hy
 |cons a l ih=>
  rw[List.map_cons,cX] at hn
  rcases bw.1 hy with rfl|hy
  ·have:l.countP q=l.countP p:=by
    apply dZ
    intro z JG
    rw[hz z (ec _ JG) fun e=>hn.1 (e▸dx JG)]
   rw[ed,ed,this,hp,hq];simp
  ·have gn:fk a≠fk y:=fun e=>hn.1 (e▸dx hy)
   rw[ed,ed,ih hn.2 hy fun z JG=>hz z (ec _ JG),hz a dW gn]
   omega
theorem nN (l:List Bool) (v:Nat) (hv:v<l.length) (u:Nat):(l.set v true).getD u false=if u=v then true else l.getD u false:=by
 rw[c6,bH]
 by_cases e:v=u
 ·subst e;rw[if_pos rfl,if_pos hv,if_pos rfl];rfl
 ·rw[if_neg e,if_neg (Ne.symm e),c6]
theorem rP {l:List Bool} {v u:Nat} (hv:v<l.length) (h:l.getD u false=true):(l.set v true).getD u false=true:=by
 rw[nN l v hv]
 by_cases e:u=v
 ·rw[if_pos e]
 ·rw[if_neg e];exact h
structure qm (n:Nat) (s:SR) (sl:List Bool) (rest:List Int) (op:Nat) (to:Int) (k:Nat):Prop where
 len:sl.length=n+1
 sub:∀v,sl.getD v false=true→∃x∈s.ll 0,fk x=v∧0<fh s x
 low:∀x∈s.ll 0,sl.getD (fk x) false=true→fh s x<s.marks.length→ -x∈rest
 rst:∀x∈rest,-x∈s.ll 0∧sl.getD (fk x) false=true∧0<fh s x∧fh s x<s.marks.length∧fh s x≤to
 rnd:(rest.map fk).Nodup
 tto:(to=0∧rest=[])∨∃x∈rest,fh s x=to
 cnt:op=((s.ll 0).take k).countP fun x=>sl.getD (fk x) false && decide (fh s x=s.marks.length)
theorem iI (s:SR) (x:Int):fh s (-x)=fh s x:=by unfold fh;rw[gO]
theorem fY.o4 {n:Nat} {s:SR} (hs:fY n s) {x:Int} (hx:x∈s.ll 0):0≤fh s x∧fh s x≤s.marks.length:=by
 obtain⟨i,hi,rfl⟩:=da hx
 rw[hs.nM i hi]
 have:=ee (p:=fun m=>decide (m≤(i:Int))) (l:=s.marks)
 omega
theorem qm.start {n:Nat} {s:SR} (k:Nat):qm n s (bZ (n+1) false) [] 0 0 k where
 len:=by simp
 sub:=fun v hv=>by simp [c6,ef] at hv;split at hv<;>simp at hv
 low:=fun x _ hv=>by simp [c6,ef] at hv;split at hv<;>simp at hv
 rst:=fun x hx=>by simp at hx
 rnd:=by simp
 tto:=.inl ⟨rfl,rfl⟩
 cnt:=by
  symm
  rw[eg]
  intro x _
  have:(bZ (n+1) false).getD (fk x) false=false:=by
   rw[c6,ef];split<;>rfl
  rw[this];simp
section
variable {n:Nat} {s:SR} {sl:List Bool} {rest:List Int} {op:Nat} {to:Int} {k:Nat}
theorem kd.B2 {n:Nat} {L:List Int} (h:kd n L) {x:Int} (hx: -x∈L):fk x<n+1:=by
 have:=jS (h.zK _ hx)
 rw[gO] at this
 omega
theorem qm.cur (h:qm n s sl rest op to k) (hs:fY n s) {x:Int} (hx: -x∈(s.ll 0).take k) (jY:sl.getD (fk x) false=false) (hl:fh s x=s.marks.length) (hm:0<s.marks.length):qm n s (sl.set (fk x) true) rest (op+1) to k:=by
 have Ts:=cQ hx
 have hv:fk x<sl.length:=by rw[h.len];exact hs.iU.B2 Ts
 have hg:=nN sl (fk x) hv
 exact
  {len:=by rw[cM];exact h.len
   sub:=fun v Am=>by
    rw[hg] at Am
    split at Am
    ·next e=>subst e;exact⟨-x,Ts,gO x,by rw[iI,hl];omega⟩
    ·exact h.sub v Am
   low:=fun y hy h1 h2=>by
    rw[hg] at h1
    split at h1
    ·next e=>
     exfalso
     have:y= -x:=hs.iU.once hy Ts (by rw[gO,e])
     rw[this,iI,hl] at h2;omega
    ·exact h.low y hy h1 h2
   rst:=fun y hy=>by
    obtain⟨q1,q2,q3⟩:=h.rst y hy
    exact⟨q1,rP hv q2,q3⟩
   rnd:=h.rnd
   tto:=h.tto
   cnt:=by
    rw[h.cnt]
    symm
    refine FN (y:= -x) ?_ hx ?_ ?_ ?_
    ·rw[List.map_take];exact hs.iU.nd.sublist (eh _ _)
    ·simp only[gO,jY,eo]
    ·simp only[gO,hg,iI,hl,if_pos,decide_true,eu]
    ·intro z _ hz
     rw[gO] at hz
     simp only[hg,if_neg hz]}
theorem qm.Cr (h:qm n s sl rest op to k) (hs:fY n s) {x:Int} (hx: -x∈s.ll 0) (jY:sl.getD (fk x) false=false) (hl:fh s x≠s.marks.length) (h0:fh s x≠0):qm n s (sl.set (fk x) true) (rest++ [x]) op (max to (fh s x)) k:=by
 have hv:fk x<sl.length:=by rw[h.len];exact hs.iU.B2 hx
 have hg:=nN sl (fk x) hv
 have hle:=hs.o4 hx
 rw[iI] at hle
 exact
  {len:=by rw[cM];exact h.len
   sub:=fun v Am=>by
    rw[hg] at Am
    split at Am
    ·next e=>subst e;exact⟨-x,hx,gO x,by rw[iI];omega⟩
    ·exact h.sub v Am
   low:=fun y hy h1 h2=>by
    rw[hg] at h1
    split at h1
    ·next e=>
     have:y= -x:=hs.iU.once hy hx (by rw[gO,e])
     rw[this,dt];simp
    ·exact bX.2 (.inl (h.low y hy h1 h2))
   rst:=fun y hy=>by
    rcases bX.1 hy with hy|hy
    ·obtain⟨q1,q2,q3,q4,q5⟩:=h.rst y hy
     exact⟨q1,rP hv q2,q3,q4,by omega⟩
    ·rw[cq.1 hy]
     exact⟨hx,by rw[hg,if_pos rfl],by omega,by omega,by omega⟩
   rnd:=by
    rw[cR,cp]
    refine⟨h.rnd,by simp,fun a ha b hb=>?_⟩
    obtain⟨y,hy,rfl⟩:=bx.1 ha
    simp at hb
    subst hb
    intro e
    have:=(h.rst y hy).2.1
    rw[e,jY] at this;cases this
   tto:=by
    right
    rcases h.tto with ⟨q1,q2⟩|⟨y,hy,q⟩
    ·exact⟨x,by simp,by rw[q1];omega⟩
    ·by_cases e:to≤fh s x
     ·exact⟨x,by simp,by omega⟩
     ·exact⟨y,by simp [hy],by omega⟩
   cnt:=by
    rw[h.cnt]
    apply dZ
    intro z hz
    rw[hg]
    by_cases e:fk z=fk x
    ·have:z= -x:=hs.iU.once (cQ hz) hx (by rw[gO,e])
     subst this
     have:decide (fh s (-x)=(s.marks.length:Int))=false:=by rw[iI];simpa using hl
     simp [this]
    ·rw[if_neg e]}
end
def wg (s:SR) (sl:List Bool) (c:List Int) (piv:Int):Prop:=∀x∈c,x≠piv→sl.getD (fk x) false=true∨fh s x=0
def vu (s:SR) (sl:List Bool) (i:Nat):Prop:=∀x,(s.ll 0)[i]? =some x→∃j:Nat,j<s.nc∧x∈s.cl j∧(∀y∈s.cl j,y≠x→ -y∈(s.ll 0).take i)∧wg s sl (s.cl j) x
structure Av (n:Nat) (s:SR) (j0:Nat) (sl:List Bool) (rest:List Int) (op:Nat) (to:Int) (k:Nat) (piv:Int) (j:Nat):Prop where
 base:qm n s sl rest op to k
 hk:k≤(s.ll 0).length
 hj:j<s.nc
 cf:∀x∈s.cl j,x≠piv→ -x∈(s.ll 0).take k
 done:∀i,k<i→i<(s.ll 0).length→∀x,(s.ll 0)[i]? =some x→sl.getD (fk x) false=true→fh s x=s.marks.length→vu s sl i
 st:(piv=0∧k=(s.ll 0).length∧j=j0∧∃x∈s.cl j,fh s x=s.marks.length)∨((s.ll 0)[k]? =some piv∧piv∈s.cl j∧fh s piv=s.marks.length∧wg s sl (s.cl j0) 0∧0<op)
 one:op≤1000000
theorem wg.mono {s:SR} {sl sl':List Bool} {c:List Int} {p:Int} (h:wg s sl c p) (hm:∀v,sl.getD v false=true→sl'.getD v false=true):wg s sl' c p:=fun x hx hp=>(h x hx hp).imp (hm _) id
theorem vu.mono {s:SR} {sl sl':List Bool} {i:Nat} (h:vu s sl i) (hm:∀v,sl.getD v false=true→sl'.getD v false=true):vu s sl' i:=fun x hx=>by
 obtain⟨j,q1,q2,q3,q4⟩:=h x hx
 exact⟨j,q1,q2,q3,q4.mono hm⟩
structure qu (n:Nat) (s:SR) (j0:Nat) (k:Nat) (piv:Int) (j:Nat) (sl:List Bool) (rest:List Int) (op:Nat) (to:Int) (i:Nat):Prop where
 base:qm n s sl rest op to k
 hi:i≤(s.cl j).length
 hk:k≤(s.ll 0).length
 hj:j<s.nc
 cf:∀x∈s.cl j,x≠piv→ -x∈(s.ll 0).take k
 done:∀i,k<i→i<(s.ll 0).length→∀x,(s.ll 0)[i]? =some x→sl.getD (fk x) false=true→fh s x=s.marks.length→vu s sl i
 st:(piv=0∧k=(s.ll 0).length∧j=j0∧∃x∈s.cl j,fh s x=s.marks.length)∨((s.ll 0)[k]? =some piv∧piv∈s.cl j∧fh s piv=s.marks.length∧wg s sl (s.cl j0) 0∧0<op)
 row:∀x∈(s.cl j).take i,x≠piv→sl.getD (fk x) false=true∨fh s x=0
section
variable {n:Nat} {s:SR} {j0 k j:Nat} {piv:Int} {sl:List Bool} {rest:List Int} {op:Nat} {to:Int} {i:Nat}
theorem Av.row (h:Av n s j0 sl rest op to k piv j):qu n s j0 k piv j sl rest op to 0 where
 base:=h.base
 hi:=bm _
 hk:=h.hk
 hj:=h.hj
 cf:=h.cf
 done:=h.done
 st:=h.st
 row:=fun x hx=>by simp at hx
theorem qu.Yq (h:qu n s j0 k piv j sl rest op to i) (hs:fY n s):op≤n∧rest.length≤n:=by
 constructor
 ·have:=ee (p:=fun x=>sl.getD (fk x) false && decide (fh s x=s.marks.length)) (l:=(s.ll 0).take k)
  rw[← h.base.cnt] at this
  have:=hs.iU.len
  simp at*;omega
 ·have:=vb n h.base.rnd fun v hv=>by
   obtain⟨x,hx,rfl⟩:=bx.1 hv
   have:=jS (hs.iU.zK _ (h.base.rst x hx).1)
   rwa [gO] at this
  simpa using this
theorem qu.skip (h:qu n s j0 k piv j sl rest op to i) (hi:i<(s.cl j).length) (hc:(s.cl j)[i]=piv∨sl.getD (fk (s.cl j)[i]) false=true∨fh s (s.cl j)[i]=0):qu n s j0 k piv j sl rest op to (i+1):=
 {h with
  hi:=hi
  row:=fun x hx hp=>by
   rw[dk hi,bX,cq] at hx
   rcases hx with hx|rfl
   ·exact h.row x hx hp
   ·exact hc.resolve_left hp}
theorem qu.see (h:qu n s j0 k piv j sl rest op to i) (hi:i<(s.cl j).length) {rest':List Int} {op':Nat} {to':Int} (uZ:op≤op') (hb:qm n s (sl.set (fk (s.cl j)[i]) true) rest' op' to' k) (hv:fk (s.cl j)[i]<sl.length) (jg:∀q,k<q→∀x,(s.ll 0)[q]? =some x→fk x≠fk (s.cl j)[i]):qu n s j0 k piv j (sl.set (fk (s.cl j)[i]) true) rest' op' to' (i+1):=by
 have hg:=nN sl _ hv
 have hm:∀v,sl.getD v false=true→(sl.set (fk (s.cl j)[i]) true).getD v false=true:=fun v h=>rP hv h
 exact
  {base:=hb,hi:=hi,hk:=h.hk,hj:=h.hj,cf:=h.cf
   done:=fun q h1 h2 x h3 h4 h5=>by
    rw[hg,if_neg (jg q h1 x h3)] at h4
    exact(h.done q h1 h2 x h3 h4 h5).mono hm
   st:=h.st.imp id fun⟨q1,q2,q3,q4,q5⟩=>⟨q1,q2,q3,q4.mono hm,by omega⟩
   row:=fun x hx hp=>by
    rw[dk hi,bX,cq] at hx
    rcases hx with hx|rfl
    ·exact(h.row x hx hp).imp (hm _) id
    ·left;rw[hg,if_pos rfl]}
theorem Eo (hs:fY n s) {x:Int} (hx: -x∈(s.ll 0).take k):∀q,k<q→∀y,(s.ll 0)[q]? =some y→fk y≠fk x:=fun q hq y hy e=>by
 obtain⟨a,ha,e2⟩:=da hx
 rw[ew] at e2
 obtain⟨jF,F3⟩:=aW.1 hy
 simp only[cO] at ha
 have:a=q:=(dr hs.iU.nd (h₀:=by simp;omega) (h₁:=by simpa using jF)).1 (by rw[dg,dg,e2,F3,gO,e])
 omega
theorem qu.cur (h:qu n s j0 k piv j sl rest op to i) (hs:fY n s) (hm:0<s.marks.length) (hi:i<(s.cl j).length) (hp:(s.cl j)[i]≠piv) (jY:sl.getD (fk (s.cl j)[i]) false=false) (hl:fh s (s.cl j)[i]=s.marks.length):qu n s j0 k piv j (sl.set (fk (s.cl j)[i]) true) rest (op+1) to (i+1):=by
 have hx:=h.cf _ (cY hi) hp
 exact h.see hi aJ (h.base.cur hs hx jY hl hm) (by rw[h.base.len];exact hs.iU.B2 (cQ hx)) (Eo hs hx)
theorem qu.Cr (h:qu n s j0 k piv j sl rest op to i) (hs:fY n s) (hi:i<(s.cl j).length) (hp:(s.cl j)[i]≠piv) (jY:sl.getD (fk (s.cl j)[i]) false=false) (hl:fh s (s.cl j)[i]≠s.marks.length) (h0:fh s (s.cl j)[i]≠0):qu n s j0 k piv j (sl.set (fk (s.cl j)[i]) true) (rest++ [(s.cl j)[i]]) op (max to (fh s (s.cl j)[i])) (i+1):=by
 have hx:=h.cf _ (cY hi) hp
 exact h.see hi (aP _) (h.base.Cr hs (cQ hx) jY hl h0) (by rw[h.base.len];exact hs.iU.B2 (cQ hx)) (Eo hs hx)
structure om (n:Nat) (s:SR) (j0:Nat) (k:Nat) (sl:List Bool) (rest:List Int) (op:Nat) (to:Int):Prop where
 base:qm n s sl rest op to k
 hk:k≤(s.ll 0).length
 done:∀i,k≤i→i<(s.ll 0).length→∀x,(s.ll 0)[i]? =some x→sl.getD (fk x) false=true→fh s x=s.marks.length→vu s sl i
 sj:wg s sl (s.cl j0) 0
 op:0<op
theorem qu.fin (h:qu n s j0 k piv j sl rest op to (s.cl j).length) (hs:fY n s) (hm:0<s.marks.length):om n s j0 k sl rest op to:=by
 have gG:wg s sl (s.cl j) piv:=fun x hx hp=>h.row x (by rw[c8];exact hx) hp
 have Ru:∀x∈s.cl j,x≠0:=fun x hx=>((hs.cls j h.hj).2.2 x hx).1
 refine⟨h.base,h.hk,fun i h1 h2 x h3 h4 h5=>?_,?_,?_⟩
 ·by_cases e:i=k
  ·subst e
   rcases h.st with ⟨_,q,_⟩|⟨q1,q2,q3,_⟩
   ·omega
   ·intro y hy
    rw[q1] at hy
    obtain rfl:piv=y:=by simpa using hy
    exact⟨j,h.hj,q2,h.cf,gG⟩
  ·exact h.done i aJ h2 x h3 h4 h5
 ·rcases h.st with ⟨q1,_,q2,_⟩|⟨_,_,_,q,_⟩
  ·rw[← q2,← q1];exact gG
  ·exact q
 ·rcases h.st with ⟨q1,_,_,x,hx,hl⟩|⟨_,_,_,_,q⟩
  ·have TI:x≠piv:=by rw[q1];exact Ru x hx
   have jY:sl.getD (fk x) false=true:=(gG x hx TI).resolve_right (by omega)
   rw[h.base.cnt,ez]
   exact⟨-x,h.cf x hx TI,by rw[gO,jY,iI,hl];simp⟩
  ·exact q
end
structure uz (n:Nat) (s:SR) (j0:Nat) (l:List Int) (to:Int):Prop where
 uip:∃a,∃h:a<(s.ll 0).length,∃rest,l= -(s.ll 0)[a]::rest∧fh s (s.ll 0)[a]=s.marks.length∧(∀x∈rest,-x∈s.ll 0∧0<fh s x∧fh s x<s.marks.length∧fh s x≤to)∧(rest.map fk).Nodup∧((to=0∧rest=[])∨∃x∈rest,fh s x=to)
 der:∃sn:Nat→Prop,(∀x∈s.cl j0,sn (fk x)∨fh s x=0)∧∀i (h:i<(s.ll 0).length),sn (fk (s.ll 0)[i])→ -(s.ll 0)[i]∈l∨∃k,k<s.nc∧(s.ll 0)[i]∈s.cl k∧∀y∈s.cl k,y≠(s.ll 0)[i]→ -y∈(s.ll 0).take i∧(sn (fk y)∨fh s y=0)
section
variable {n:Nat} {s:SR} {j0 k:Nat} {sl:List Bool} {rest:List Int} {op:Nat} {to:Int}
theorem om.pos (h:om n s j0 k sl rest op to):0<k:=by
 have:=h.op
 rw[h.base.cnt,ez] at this
 obtain⟨x,hx,_⟩:=this
 cases k with
 |zero=>simp at hx
 |succ k=>omega
theorem om.down (h:om n s j0 (k+1) sl rest op to) (hx:sl.getD (fk ((s.ll 0)[k]'h.hk)) false=false):om n s j0 k sl rest op to where
 base:={h.base with
  cnt:=by
   have:=h.base.cnt
   rw[dk h.hk,eA] at this
   simp only[ed,eB,hx,eo,Bool.false_eq_true,if_false,Nat.add_zero,ba] at this
   exact this}
 hk:=by have:=h.hk;omega
 done:=fun i h1 h2 x h3 h4 h5=>by
  by_cases e:i=k
  ·subst e
   rw[a8 h2] at h3
   simp only[Option.some.injEq] at h3
   rw[h3,h4] at hx;cases hx
  ·exact h.done i aJ h2 x h3 h4 h5
 sj:=h.sj
 op:=h.op
theorem count_le {l:List Int} {a b:Int} (h:a≤b):l.countP (fun m=>decide (m≤a))≤l.countP (fun m=>decide (m≤b)):=by
 apply List.countP_mono_left
 intro m _ hm
 simp at*;omega
theorem fY.C1 {n:Nat} {s:SR} (hs:fY n s) {a b:Nat} (sS:a≤b) (hb:b<(s.ll 0).length):fh s ((s.ll 0)[a]'(by omega))≤fh s (s.ll 0)[b]:=by
 rw[hs.nM a aJ,hs.nM b hb]
 have:=count_le (l:=s.marks) (a:=a) (b:=b) (by omega)
 omega
theorem om.found (h:om n s j0 (k+1) sl rest op to) (hs:fY n s):fh s ((s.ll 0)[k]'h.hk)=s.marks.length:=by
 have:=h.op
 rw[h.base.cnt,ez] at this
 obtain⟨x,hx,hp⟩:=this
 obtain⟨a,ha,rfl⟩:=da hx
 simp only[cO] at ha
 rw[ew] at hp
 simp only[aZ,decide_eq_true_eq] at hp
 have h1:=hs.C1 (a:=a) (b:=k) aJ h.hk
 have h2:=(hs.o4 (cY h.hk)).2
 omega
theorem om.UA (h:om n s j0 (k+1) sl rest op to) (hs:fY n s) (hx:sl.getD (fk ((s.ll 0)[k]'h.hk)) false=true):op - 1=((s.ll 0).take k).countP fun x=>sl.getD (fk x) false && decide (fh s x=s.marks.length):=by
 have:=h.base.cnt
 rw[dk h.hk,eA] at this
 simp only[ed,eB,hx,h.found hs,decide_true,eu,if_pos] at this
 omega
theorem om.out (h:om n s j0 (k+1) sl rest 1 to) (hs:fY n s) (hx:sl.getD (fk ((s.ll 0)[k]'h.hk)) false=true):uz n s j0 (-((s.ll 0)[k]'h.hk)::rest) to where
 uip:=⟨k,h.hk,rest,rfl,h.found hs,fun x hx=>by obtain⟨q1,_,q2⟩:=h.base.rst x hx;exact⟨q1,q2⟩,h.base.rnd,h.base.tto⟩
 der:=⟨fun v=>sl.getD v false=true,fun x hx=>h.sj x hx ((hs.cls j0 (by
   -- the clause is a clause,or it has no element
   by_cases q:j0<s.nc
   ·exact q
   ·rw[(hs.fresh j0 aJ).1] at hx;simp at hx)).2.2 x hx).1,fun i hi jY=>by
  by_cases hl:fh s (s.ll 0)[i]<s.marks.length
  ·exact .inl (ec _ (h.base.low _ (cY hi) jY hl))
  ·have hle:=(hs.o4 (cY hi)).2
   by_cases e:i=k
   ·subst e;exact .inl dW
   ·by_cases WL:i<k
    ·exfalso
     have h0:=h.UA hs hx
     have:0<((s.ll 0).take k).countP fun x=>sl.getD (fk x) false && decide (fh s x=s.marks.length):=by
      rw[ez]
      refine⟨(s.ll 0)[i],?_,by rw[jY,Bool.true_and];simp;omega⟩
      rw[dR]
      exact⟨i,by omega,rfl⟩
     omega
    ·obtain⟨j,q1,q2,q3,q4⟩:=h.done i aJ hi _ (a8 hi) jY aJ _ (a8 hi)
     exact .inr ⟨j,q1,q2,fun y hy gn=>⟨q3 y hy gn,q4 y hy gn⟩⟩⟩
theorem om.next (h:om n s j0 (k+1) sl rest op to) (hs:fY n s) (hx:sl.getD (fk ((s.ll 0)[k]'h.hk)) false=true) (uZ:op≠1):∃j:Nat,s.reason.getD (fk ((s.ll 0)[k]'h.hk)) 0=(j:Int)∧j<s.nc∧Av n s j0 sl rest (op - 1) to k ((s.ll 0)[k]'h.hk) j:=by
 have hk:=h.hk
 have FB:=h.UA hs hx
 have hf:=h.found hs
 have h0:=h.op
 have Fe:0<((s.ll 0).take k).countP fun x=>sl.getD (fk x) false && decide (fh s x=s.marks.length):=by omega
 rw[ez] at Fe
 obtain⟨x,xg,hp⟩:=Fe
 obtain⟨a,ha,rfl⟩:=da xg
 simp only[cO] at ha
 rw[ew] at hp
 simp only[aZ,decide_eq_true_eq] at hp
 have OT:0<fh s (s.ll 0)[k]:=by
  obtain⟨y,hy,e1,e2⟩:=h.base.sub _ hx
  have:y=(s.ll 0)[k]:=hs.iU.once hy (cY hk) e1
  rw[← this];exact e2
 rcases hs.q7 k hk with ⟨_,q|q⟩|⟨j,q1,q2,q3,q4⟩
 ·exfalso
  have e:=hp.2
  rw[hs.nM a aJ] at e
  have j4:∀m∈s.marks,decide (m≤(a:Int))=true:=by
   rw[← eC];omega
  have:=j4 _ q
  simp at this;omega
 ·omega
 ·refine⟨j,q2,q1,{h.base with cnt:=FB},by omega,q1,q4,fun i h1 h2=>h.done i aJ h2,.inr ⟨a8 hk,q3,hf,h.sj,by omega⟩,?_⟩
  have:=ee (p:=fun x=>sl.getD (fk x) false && decide (fh s x=s.marks.length)) (l:=(s.ll 0).take k)
  have:=hs.iU.len
  have:=hs.hn
  simp at*;omega
end
theorem fY.RN {n:Nat} {s:SR} (hs:fY n s) {j:Nat} (hj:j<s.nc) (hf:∀x∈s.cl j,-x∈s.ll 0):∃x∈s.cl j,fh s x=s.marks.length:=by
 obtain⟨q1,q2,q3⟩:=hs.cls j hj
 obtain⟨m0,m1⟩:=km q1
 refine⟨_,m0,?_⟩
 have CC: -(c0 (s.cl j))∉(s.ll 0).take s.head.toNat:=fun iT=>by
  have:=(hs.two j hj _ _ (.inl ⟨rfl,rfl⟩) iT).1
  exact hs.iU.oY this (hf _ m1)
 obtain⟨i,hi,e⟩:=da (hf _ m0)
 have yh:s.head.toNat≤i:=by
  apply Nat.le_of_not_lt
  intro fy
  apply CC
  rw[dR]
  exact⟨i,by omega,e⟩
 rw[← iI,← e,hs.nM i hi,rN fun m hm=>by have:=hs.oW m hm;have:=hs.hd;omega]
theorem Av.start {n:Nat} {s:SR} (hs:fY n s) {j:Nat} (hj:j<s.nc) (hf:∀x∈s.cl j,-x∈s.ll 0):Av n s j (bZ (n+1) false) [] 0 0 (s.ll 0).length 0 j where
 base:=.start _
 hk:=aP _
 hj:=hj
 cf:=fun x hx _=>by rw[c8];exact hf x hx
 done:=fun i h1 h2=>by omega
 st:=.inl ⟨rfl,rfl,rfl,hs.RN hj hf⟩
 one:=by omega
end Go.Ab
/- Unit propagation as a closure;what the solver's state says about the formula. -/
namespace Go.Ab
open Go Go.Proofs
inductive qB (F:List (List Int)) (A:Int→Prop):Int→Prop
 |sP {x:Int} (h:A x):qB F A x
 |unit {c:List Int} {x:Int} (hc:c∈F) (hx:x∈c) (h:∀y∈c,y≠x→qB F A (-y)):qB F A x
def um (F:List (List Int)) (A:Int→Prop):Prop:=∃c∈F,∀y∈c,qB F A (-y)
abbrev EU (c:List Int):Int→Prop:=fun x=> -x∈c
def RD (F:List (List Int)) (c:List Int):Prop:=um F (EU c)∨∃x,x∈c∧ -x∈c
abbrev Lm:Int→Prop:=fun _=>False
theorem qB.cut {F F':List (List Int)} {A B:Int→Prop} {x:Int} (h:qB F A x) (hF:∀c∈F,c∈F') (hA:∀y,A y→qB F' B y):qB F' B x:=by
 induction h with
 |sP h=>exact hA _ h
 |unit hc hx _ ih=>exact .unit (hF _ hc) hx ih
theorem qB.mono {F F':List (List Int)} {A B:Int→Prop} {x:Int} (h:qB F A x) (hF:∀c∈F,c∈F') (hA:∀y,A y→B y):qB F' B x:=h.cut hF fun y hy=> .sP (hA y hy)
theorem qB.more {F:List (List Int)} {A:Int→Prop} {x:Int} (h:qB F Lm x):qB F A x:=h.mono (fun _ h=>h) fun _ h=>h.elim
theorem um.cut {F F':List (List Int)} {A B:Int→Prop} (h:um F A) (hF:∀c∈F,c∈F') (hA:∀y,A y→qB F' B y):um F' B:=by
 obtain⟨c,hc,h⟩:=h
 exact⟨c,hF c hc,fun y hy=>(h y hy).cut hF hA⟩
theorem qB.both {F:List (List Int)} {A:Int→Prop} {x:Int} (h:qB F A x) (h':qB F A (-x)):um F A∨∃y,A y∧A (-y):=by
 have key:∀{c:List Int} {z:Int},c∈F→z∈c→(∀y∈c,y≠z→qB F A (-y))→qB F A (-z)→um F A:=fun {c z} hc hz h hn=>
  ⟨c,hc,fun y hy=>by
   by_cases e:y=z
   ·rw[e];exact hn
   ·exact h y hy e⟩
 cases h with
 |unit hc hx h=>exact .inl (key hc hx h h')
 |sP h=>
  generalize hy: -x=y at h'
  cases h' with
  |sP h2=>subst hy;exact .inr ⟨x,h,h2⟩
  |unit hc hx h2=>subst hy;exact .inl (key hc hx h2 (by rw[dt];exact .sP h))
def kj (σ:Nat→Bool) (x:Int):Prop:=if x<0 then σ (fk x)=false else σ (fk x)=true
def ns (σ:Nat→Bool) (F:List (List Int)):Prop:=∀c∈F,∃x∈c,kj σ x
theorem kj.neg {σ:Nat→Bool} {x:Int} (h0:x≠0):kj σ (-x)↔¬kj σ x:=by
 unfold kj
 rw[gO]
 by_cases h:x<0
 ·rw[if_pos h,if_neg aJ];simp
 ·rw[if_neg h,if_pos aJ];simp
theorem qB.sound {F:List (List Int)} {A:Int→Prop} {σ:Nat→Bool} {x:Int} (h:qB F A x) (hF:ns σ F) (h0:∀c∈F,∀x∈c,x≠0) (hA:∀y,A y→kj σ y):kj σ x:=by
 induction h with
 |sP h=>exact hA _ h
 | @unit c x hc hx _ ih=>
  obtain⟨y,hy,ht⟩:=hF c hc
  by_cases e:y=x
  ·rw[← e];exact ht
  ·exact absurd ht ((kj.neg (h0 c hc y hy)).1 (ih y hy e))
theorem um.sound {F:List (List Int)} {A:Int→Prop} {σ:Nat→Bool} (h:um F A) (hF:ns σ F) (h0:∀c∈F,∀x∈c,x≠0):¬∀y,A y→kj σ y:=fun hA=>by
 obtain⟨c,hc,h⟩:=h
 obtain⟨y,hy,ht⟩:=hF c hc
 exact(kj.neg (h0 c hc y hy)).1 ((h y hy).sound hF h0 hA) ht
theorem RD.sound {F:List (List Int)} {c:List Int} {σ:Nat→Bool} (h:RD F c) (hF:ns σ F) (h0:∀c∈F,∀x∈c,x≠0) (hc:∀x∈c,x≠0):∃x∈c,kj σ x:=by
 rcases h with h|⟨x,h1,h2⟩
 ·apply Classical.byContradiction
  intro hn
  refine h.sound hF h0 fun y hy=>?_
  have h3:¬kj σ (-y):=fun hh=>hn ⟨_,hy,hh⟩
  have h4:=hc _ hy
  apply Classical.byContradiction
  intro h5
  exact h3 ((kj.neg aJ).2 h5)
 ·by_cases h3:kj σ x
  ·exact⟨x,h1,h3⟩
  ·exact⟨-x,h2,(kj.neg (hc x h1)).2 h3⟩
def wb (F:List (List Int)) (P:List (List Int)):Prop:=∀i (h:i<P.length),RD (F++P.take i) P[i]
theorem wb.snoc {F P:List (List Int)} {c:List Int} (h:wb F P) (hc:RD (F++P) c):wb F (P++ [c]):=fun i hi=>by
 simp only[bW,c7] at hi
 by_cases e:i<P.length
 ·rw[dy e,cW aJ];exact h i e
 ·obtain rfl:i=P.length:=by omega
  rw[dz (aP _),cW (aP _),c8]
  simpa using hc
theorem wb.sound {F P:List (List Int)} {σ:Nat→Bool} (h:wb F P) (hF:ns σ F) (h0:∀c∈F++P,∀x∈c,x≠0):ns σ (F++P):=by
 have key:∀i,i≤P.length→ns σ (F++P.take i):=by
  intro i
  induction i with
  |zero=>intro _;simpa using hF
  |succ i ih=>
   intro hi
   have hP:=ih (by omega)
   have h1:∀c∈F++P.take i,∀x∈c,x≠0:=fun c hc=>h0 c (by
    rcases bX.1 hc with hc|hc
    ·exact bX.2 (.inl hc)
    ·exact bX.2 (.inr (cQ hc)))
   have:=(h i aJ).sound hP h1 (h0 _ (bX.2 (.inr (cY _))))
   rw[dk aJ,← dh]
   intro c hc
   rcases bX.1 hc with hc|hc
   ·exact hP c hc
   ·rw[cq.1 hc];exact this
 have:=key P.length (aP _)
 rwa [c8] at this
structure Sem (n:Nat) (F:List (List Int)) (s:SR):Prop where
 lits:∀c∈F++s.proof,∀x∈c,Lit n x
 cls:∀j,j<s.nc→∃C∈F++s.proof,(∀x∈s.cl j,x∈C)∧∀x∈C,x∈s.cl j∨qB (F++s.proof) Lm (-x)
 qo:∀x∈s.ll 0,fh s x=0→qB (F++s.proof) Lm x
 bad:s.broken=true→um (F++s.proof) Lm
 vQ:wb F s.proof
 rep:∀C∈F,s.broken=true∨(∃x∈C,x∈s.ll 0∧fh s x=0)∨(∃x∈C,-x∈C)∨∃j,j<s.nc∧∀x∈s.cl j,x∈C
section
variable {n:Nat} {F:List (List Int)} {s:SR}
theorem Sem.unit (h:Sem n F s) {A:Int→Prop} {j:Nat} (hj:j<s.nc) {x:Int} (hx:x∈s.cl j) (hd:∀y∈s.cl j,y≠x→qB (F++s.proof) A (-y)):qB (F++s.proof) A x:=by
 obtain⟨C,hC,q1,q2⟩:=h.cls j hj
 refine .unit hC (q1 x hx) fun y hy gn=>?_
 rcases q2 y hy with q|q
 ·exact hd y q gn
 ·exact q.more
theorem Sem.Fu (h:Sem n F s) {A:Int→Prop} {j:Nat} (hj:j<s.nc) (hd:∀y∈s.cl j,qB (F++s.proof) A (-y)):um (F++s.proof) A:=by
 obtain⟨C,hC,q1,q2⟩:=h.cls j hj
 refine⟨C,hC,fun y hy=>?_⟩
 rcases q2 y hy with q|q
 ·exact hd y q
 ·exact q.more
theorem ur {s t:SR} (hs:fY n s) (ht:fY n t) (hx:vd s t) {x:Int} (h:x∈s.ll 0):fh t x=fh s x:=by
 obtain⟨ys,e⟩:=hx.ll
 obtain⟨i,hi,rfl⟩:=da h
 have qU:i<(t.ll 0).length:=by rw[e,bW];omega
 have e2:(t.ll 0)[i]=(s.ll 0)[i]:=by simp only[e,dy hi]
 have h1:=ht.nM i qU
 rw[e2,hx.marks] at h1
 rw[h1,hs.nM i hi]
theorem Sem.prop {t:SR} {r:Int} (h:Sem n F s) (hs:fY n s) (hp:Ls n s t r):Sem n F t:=by
 have hx:=hp.ext
 have ht:=hp.inv
 have epr:t.proof=s.proof:=hx.proof
 have iX:∀j x,x∈t.cl j↔x∈s.cl j:=fun j x=>(hx.cl j).mem x
 have We:∀j,j<t.nc→∃C∈F++t.proof,(∀x∈t.cl j,x∈C)∧∀x∈C,x∈t.cl j∨qB (F++t.proof) Lm (-x):=fun j hj=>by
  obtain⟨C,hC,q1,q2⟩:=h.cls j (by rw[← hx.nc];exact hj)
  rw[epr]
  exact⟨C,hC,fun x xg=>q1 x ((iX j x).1 xg),fun x xg=>(q2 x xg).imp (iX j x).2 id⟩
 obtain⟨ys,ell⟩:=hx.ll
 have hold:∀{x},x∈s.ll 0→x∈t.ll 0:=fun hm=>by rw[ell];exact bX.2 (.inl hm)
 refine⟨by rw[epr];exact h.lits,We,?_,by rw[epr,hx.broken];exact h.bad,by rw[epr];exact h.vQ,fun C hC=>?_⟩
 ·have key:∀i (hi:i<(t.ll 0).length),fh t (t.ll 0)[i]=0→qB (F++t.proof) Lm (t.ll 0)[i]:=by
   intro i
   induction i using eD with
   |ind i ih=>
    intro hi hl
    by_cases hm:(t.ll 0)[i]∈s.ll 0
    ·rw[epr];exact h.qo _ hm (by rw[← ur hs ht hx hm];exact hl)
    ·rcases ht.q7 i hi with ⟨q,_⟩|⟨j,q1,q2,q3,q4⟩
     ·exact absurd q (hx.new _ (cY hi) hm)
     ·obtain⟨C,hC,p1,p2⟩:=We j q1
      refine .unit hC (p1 _ q3) fun y hy gn=>?_
      rcases p2 y hy with p|p
      ·obtain⟨a,ha,e⟩:=da (q4 y p gn)
       simp only[cO] at ha
       rw[ew] at e
       have hle:=ht.C1 (a:=a) (b:=i) aJ hi
       have h0:=(ht.o4 (cY (show a<(t.ll 0).length by omega))).1
       rw[← e]
       exact ih a aJ aJ (by omega)
      ·exact p
  intro x xg hl
  obtain⟨i,hi,rfl⟩:=da xg
  exact key i hi hl
 ·rcases h.rep C hC with q|⟨x,q1,q2,q3⟩|q|⟨j,q1,q2⟩
  ·exact .inl (by rw[hx.broken];exact q)
  ·exact .inr (.inl ⟨x,q1,hold q2,by rw[ur hs ht hx q2];exact q3⟩)
  ·exact .inr (.inr (.inl q))
  ·exact .inr (.inr (.inr ⟨j,by rw[hx.nc];exact q1,fun x xg=>q2 x ((iX j x).1 xg)⟩))
theorem Sem.Wh {t:SR} {j:Nat} (h:Sem n F t) (ht:fY n t) (hm:t.marks=[]) (hj:j<t.nc) (hf:∀x∈t.cl j,-x∈t.ll 0):um (F++t.proof) Lm:=
 h.Fu hj fun y hy=>h.qo _ (hf y hy) (by
  have:=ht.o4 (hf y hy)
  rw[hm] at this
  simp at this;omega)
theorem uz.YL {j:Nat} {l:List Int} {to:Int} (h:uz n s j l to) (hS:Sem n F s) (hs:fY n s) (hj:j<s.nc) (hf:∀x∈s.cl j,-x∈s.ll 0):um (F++s.proof) (EU l):=by
 obtain⟨sn,d1,d2⟩:=h.der
 have key:∀i (hi:i<(s.ll 0).length),(sn (fk (s.ll 0)[i])∨fh s (s.ll 0)[i]=0)→qB (F++s.proof) (EU l) (s.ll 0)[i]:=by
  intro i
  induction i using eD with
  |ind i ih=>
   intro hi hc
   rcases hc with hc|hc
   ·rcases d2 i hi hc with q|⟨k,q1,q2,q3⟩
    ·exact .sP q
    ·refine hS.unit q1 q2 fun y hy gn=>?_
     obtain⟨p1,p2⟩:=q3 y hy gn
     obtain⟨a,ha,e⟩:=da p1
     simp only[cO] at ha
     rw[ew] at e
     rw[← e]
     refine ih a aJ aJ ?_
     rw[e,gO,iI];exact p2
   ·exact(hS.qo _ (cY hi) hc).more
 refine hS.Fu hj fun y hy=>?_
 obtain⟨i,hi,e⟩:=da (hf y hy)
 rw[← e]
 refine key i hi ?_
 rw[e,gO,iI];exact d1 y hy
theorem uz.lits {j:Nat} {l:List Int} {to:Int} (h:uz n s j l to) (hs:fY n s):∀x∈l,Lit n x:=by
 obtain⟨a,ha,rest,rfl,_,h2,_⟩:=h.uip
 have neg:∀x,-x∈s.ll 0→Lit n x:=fun x hx=>by
  have:=hs.iU.zK _ hx
  exact⟨by omega,by omega,by omega⟩
 intro x hx
 rcases bw.1 hx with rfl|hx
 ·exact neg _ (by rw[dt];exact cY ha)
 ·exact neg x (h2 x hx).1
end
end Go.Ab
/- Going back to a level;a clause attached;a literal pushed:the solver's invariant. -/
namespace Go.Ab
open Go Go.Proofs
theorem yQ {M:List Int} (hs:M.Pairwise (·≤·)) {t:Nat} (ht:t<M.length) {i:Int} (hi:i<M[t]):M.countP (fun m=>decide (m≤i))=(M.take t).countP (fun m=>decide (m≤i))∧M.countP (fun m=>decide (m≤i))≤t:=by
 have e:M.countP (fun m=>decide (m≤i))=(M.take t).countP (fun m=>decide (m≤i)):=by
  conv=>lhs;rw[← dw t M,eA]
  have:(M.drop t).countP (fun m=>decide (m≤i))=0:=by
   rw[eg]
   intro m hm
   obtain⟨a,ha,rfl⟩:=da hm
   rw[cV] at ha
   rw[List.getElem_drop]
   have:=dO.1 hs t (t+a) ht (by omega)
   by_cases e:a=0
   ·subst e;simp;omega
   ·have:=this (by omega)
    simp;omega
  omega
 refine⟨e,?_⟩
 rw[e]
 have:=ee (p:=fun m=>decide (m≤i)) (l:=M.take t)
 simp at this;omega
theorem KD {M:List Int} (hs:M.Pairwise (·≤·)) {t:Nat} (ht:t<M.length) {i:Int} (hi:M[t]≤i):t+1≤M.countP (fun m=>decide (m≤i)):=by
 have h1:(M.take (t+1)).countP (fun m=>decide (m≤i))=(M.take (t+1)).length:=by
  rw[eC]
  intro m hm
  obtain⟨a,ha,rfl⟩:=da hm
  rw[cO] at ha
  rw[ew]
  by_cases e:a=t
  ·subst e;simpa using hi
  ·have:=dO.1 hs a t aJ ht (by omega)
   simp;omega
 have h2:(M.take (t+1)).countP (fun m=>decide (m≤i))≤M.countP (fun m=>decide (m≤i)):=(eh _ _).countP_le
 rw[h1,cO] at h2
 omega
theorem fY.mQ {n:Nat} {s:SR} (hs:fY n s) {t:Nat} (ht:t<s.marks.length) {i:Nat} (hi:i<(s.ll 0).length):fh s (s.ll 0)[i]≤t↔i<(s.marks[t]).toNat:=by
 rw[hs.nM i hi]
 have h0:=(hs.oW _ (cY ht)).1
 constructor
 ·intro h
  apply eE
  intro yh
  have:=KD hs.qK ht (i:=(i:Int)) (by omega)
  omega
 ·intro h
  have:=(yQ hs.qK ht (i:=(i:Int)) aJ).2
  omega
abbrev gw (s:SR) (t:Nat):SR:=Gx (Gz s t)
theorem fY.tQ {n:Nat} {s:SR} (hs:fY n s) {t:Nat} (ht:t<s.marks.length):0≤s.marks[t]∧(s.marks[t]).toNat≤s.head.toNat∧s.head.toNat≤(s.ll 0).length:=by
 have:=hs.oW _ (cY ht)
 have:=hs.hd
 omega
theorem nB {n:Nat} {s:SR} (hs:fY n s) {t:Nat} (ht:t<s.marks.length):(gw s t).ll 0=(s.ll 0).take (s.marks[t]).toNat∧(gw s t).head=((s.marks[t]).toNat:Int)∧(gw s t).marks=s.marks.take t:=by
 have e:s.marks.getD t 0=s.marks[t]:=fJ ht
 have h2:=hs.tQ ht
 refine⟨?_,?_,rfl⟩
 ·show e_ s.ll 0 ((s.ll 0).take (s.marks.getD t 0).toNat) 0=_
  rw[e7,e]
 ·show min s.head ((e_ s.ll 0 ((s.ll 0).take (s.marks.getD t 0).toNat) 0).length:Int)=_
  have:=hs.hd
  rw[e7,e,cO];omega
theorem CI (s:SR) (t:Nat) (x:Int):fh (gw s t) x=fh s x:=rfl
theorem fY.LO {n:Nat} {s:SR} (hs:fY n s) {t:Nat} (ht:t<s.marks.length):fY n (gw s t):=by
 obtain⟨e1,e2,e3⟩:=nB hs ht
 obtain⟨h0,h1,h2⟩:=hs.tQ ht
 have e:s.marks.getD t 0=s.marks[t]:=fJ ht
 have hlen:((s.ll 0).take (s.marks[t]).toNat).length=(s.marks[t]).toNat:=by rw[cO];omega
 exact
  {hn:=hs.hn
   iU:=by rw[e1];exact hs.iU.take _
   val:=by
    rw[e1]
    show zeroV s.value ((s.ll 0).drop (s.marks.getD t 0).toNat)=_
    rw[e,hs.val,Ij hs.iU]
   lvl:=hs.lvl,pH:=hs.pH
   hd:=by rw[e1,e2,hlen];omega
   oW:=fun m hm=>by
    rw[e3] at hm
    rw[e2]
    refine⟨(hs.oW m (cQ hm)).1,?_⟩
    obtain⟨a,ha,rfl⟩:=da hm
    rw[cO] at ha
    rw[ew]
    have:=dO.1 hs.qK a t aJ ht (by omega)
    omega
   nM:=fun i hi=>by
    simp only[e1] at hi ⊢
    rw[hlen] at hi
    rw[ew,CI,hs.nM i aJ,e3,(yQ hs.qK ht (i:=(i:Int)) aJ).1]
   cls:=hs.cls,fresh:=hs.fresh,nc:=hs.nc,nw:=hs.nw,wt:=hs.wt,sJ:=hs.sJ,sH:=hs.sH
   two:=fun j hj w w' hw iT=>by
    rw[e1,e2,dq,eF,Nat.min_self] at iT
    have Ib: -w∈(s.ll 0).take s.head.toNat:=(List.take_sublist_take_left h1).subset iT
    obtain⟨q1,q2⟩:=hs.two j hj w w' hw Ib
    refine⟨?_,q2⟩
    obtain⟨a,ha,ea⟩:=da iT
    rw[hlen] at ha
    rw[ew] at ea
    have Tq:fh s w≤t:=by rw[← iI,← ea];exact(hs.mQ ht aJ).2 ha
    obtain⟨b,hb,rfl⟩:=da q1
    have X7:=(hs.mQ ht hb).1 (by omega)
    rw[e1,dR]
    exact⟨b,by omega,rfl⟩
   qK:=by rw[e3];exact hs.qK.sublist (eh _ _)
   q7:=fun i hi=>by
    simp only[e1] at hi ⊢
    rw[hlen] at hi
    rw[ew,CI,eF,cP aJ]
    rcases hs.q7 i aJ with ⟨q1,q2⟩|q
    ·refine .inl ⟨q1,q2.imp (fun q=>?_) id⟩
     rw[e3]
     obtain⟨a,ha,ea⟩:=da q
     have r8:a<t:=by
      apply eE
      intro yh
      by_cases e4:a=t
      ·subst e4;omega
      ·have:=dO.1 hs.qK t a ht ha (by omega)
       omega
     rw[dR]
     exact⟨a,by omega,ea⟩
    ·exact .inr q}
theorem Sem.LO {n:Nat} {F:List (List Int)} {s:SR} (h:Sem n F s) (hs:fY n s) {t:Nat} (ht:t<s.marks.length):Sem n F (gw s t):=by
 obtain⟨e1,e2,e3⟩:=nB hs ht
 refine⟨h.lits,h.cls,fun x hx hl=>h.qo x (by rw[e1] at hx;exact cQ hx) hl,h.bad,h.vQ,fun C hC=>?_⟩
 rcases h.rep C hC with q|⟨x,q1,q2,q3⟩|q|q
 ·exact .inl q
 ·refine .inr (.inl ⟨x,q1,?_,q3⟩)
  obtain⟨i,hi,rfl⟩:=da q2
  rw[e1,dR]
  have:=(hs.mQ ht hi).1 (by omega)
  exact⟨i,by omega,rfl⟩
 ·exact .inr (.inr (.inl q))
 ·exact .inr (.inr (.inr q))
def l7 (s:SR) (c:List Int) (h0 h1 h2:Value):SR:=kn (kn {s with nc:=s.nc+1,hc:=e_ s.hc s.nc h0,cl:=e_ s.cl s.nc c} (c0 c) s.nc h1) (c1 c) s.nc h2
section
variable {n:Nat} {s:SR} {c:List Int} {h0 h1 h2:Value}
theorem RF (hs:fY n s) (hc:2≤c.length) (jg:c.Nodup) (hl:∀x∈c,Lit n x) {x:Int} (hx:Lit n x):(l7 s c h0 h1 h2).wl (eX x).toNat=s.wl (eX x).toNat++(if x=c0 c∨x=c1 c then [(s.nc:Int)] else []):=by
 obtain⟨m0,m1⟩:=km hc
 have gn:c0 c≠c1 c:=fun e=>by
  rw[show c0 c=c[0] from fJ aJ,show c1 c=c[1] from fJ aJ] at e
  have:=(dr jg (h₀:=by omega) (h₁:=by omega)).1 e
  omega
 have jM:∀{y},Lit n y→y≠x→(eX x).toNat≠(eX y).toNat:=fun hy gn e=>gn (iw hx hy e).symm
 show e_ (e_ s.wl (eX (c0 c)).toNat (s.wl (eX (c0 c)).toNat++ [(s.nc:Int)])) (eX (c1 c)).toNat (e_ s.wl (eX (c0 c)).toNat (s.wl (eX (c0 c)).toNat++ [(s.nc:Int)]) (eX (c1 c)).toNat++ [(s.nc:Int)]) (eX x).toNat=_
 by_cases e1:x=c1 c
 ·subst e1
  rw[e7,fC _ _ (jM (hl _ m0) gn),if_pos (.inr rfl)]
 ·rw[fC _ _ (jM (hl _ m1) (Ne.symm e1))]
  by_cases e0:x=c0 c
  ·subst e0
   rw[e7,if_pos (.inl rfl)]
  ·rw[fC _ _ (jM (hl _ m0) (Ne.symm e0)),if_neg (by rintro(h|h)<;>contradiction),bt]
theorem RY (hs:fY n s) (hc:2≤c.length) (jg:c.Nodup) (hl:∀x∈c,Lit n x) (k:Nat):((l7 s c h0 h1 h2).wl k).Nodup:=by
 obtain⟨m0,m1⟩:=km hc
 have gn:c0 c≠c1 c:=fun e=>by
  rw[show c0 c=c[0] from fJ aJ,show c1 c=c[1] from fJ aJ] at e
  have:=(dr jg (h₀:=by omega) (h₁:=by omega)).1 e
  omega
 have Cr:∀{x},Lit n x→(s.nc:Int)∉s.wl (eX x).toNat:=fun hx hm=>by
  obtain⟨j,hj,e,_⟩:=hs.wt _ hx _ hm
  omega
 have one:∀{x},Lit n x→(s.wl (eX x).toNat++ [(s.nc:Int)]).Nodup:=fun hx=>by
  rw[cp]
  refine⟨hs.sJ _,by simp,fun a ha b hb=>?_⟩
  rw[cq.1 hb]
  rintro rfl
  exact Cr hx ha
 show(e_ (e_ s.wl (eX (c0 c)).toNat (s.wl (eX (c0 c)).toNat++ [(s.nc:Int)])) (eX (c1 c)).toNat (e_ s.wl (eX (c0 c)).toNat (s.wl (eX (c0 c)).toNat++ [(s.nc:Int)]) (eX (c1 c)).toNat++ [(s.nc:Int)]) k).Nodup
 by_cases e1:k=(eX (c1 c)).toNat
 ·rw[e1,e7,fC _ _ (fun e=>gn (iw (hl _ m0) (hl _ m1) e.symm))]
  exact one (hl _ m1)
 ·rw[fC _ _ e1]
  by_cases e0:k=(eX (c0 c)).toNat
  ·rw[e0,e7];exact one (hl _ m0)
  ·rw[fC _ _ e0];exact hs.sJ k
theorem fY.WW (hs:fY n s) (hc:2≤c.length) (jg:c.Nodup) (hl:∀x∈c,Lit n x) (A_:s.nc+1≤100000) {t:SR} (e1:t.cl=(l7 s c h0 h1 h2).cl) (e2:t.wl=(l7 s c h0 h1 h2).wl) (e3:t.nc=s.nc+1) (e4:t.hc=(l7 s c h0 h1 h2).hc) (e5:t.nw=s.nw)
  (iU:kd n (t.ll 0)) (val:t.value=lX n (t.ll 0)) (lvl:t.level.length=n+1) (pH:t.reason.length=n+1) (hd:0≤t.head∧t.head≤((t.ll 0).length:Int)) (oW:∀m∈t.marks,0≤m∧m≤t.head)
  (nM:∀i (h:i<(t.ll 0).length),fh t (t.ll 0)[i]=(t.marks.countP fun m=>decide (m≤(i:Int)):Nat)) (qK:t.marks.Pairwise (·≤·))
  (two:∀j,j<s.nc→∀w w',(w=c0 (s.cl j)∧w'=c1 (s.cl j))∨(w=c1 (s.cl j)∧w'=c0 (s.cl j))→ -w∈(t.ll 0).take t.head.toNat→w'∈t.ll 0∧fh t w'≤fh t w)
  (twoc:∀w w',(w=c0 c∧w'=c1 c)∨(w=c1 c∧w'=c0 c)→ -w∈(t.ll 0).take t.head.toNat→w'∈t.ll 0∧fh t w'≤fh t w)
  (q7:∀i (h:i<(t.ll 0).length),(t.reason.getD (fk (t.ll 0)[i]) 0= -1∧((i:Int)∈t.marks∨fh t (t.ll 0)[i]=0))∨∃j:Nat,j<s.nc+1∧t.reason.getD (fk (t.ll 0)[i]) 0=(j:Int)∧(t.ll 0)[i]∈e_ s.cl s.nc c j∧∀y∈e_ s.cl s.nc c j,y≠(t.ll 0)[i]→ -y∈(t.ll 0).take i):fY n t:=by
 obtain⟨m0,m1⟩:=km hc
 have e1':t.cl=e_ s.cl s.nc c:=e1
 have e4':t.hc=e_ s.hc s.nc h0:=e4
 have Cs:=fun {x:Int} (hx:Lit n x)=>RF (h0:=h0) (h1:=h1) (h2:=h2) hs hc jg hl hx
 exact
  {hn:=hs.hn,iU:=iU,val:=val,lvl:=lvl,pH:=pH,hd:=hd,oW:=oW,nM:=nM,qK:=qK
   cls:=fun j hj=>by
    rw[e3] at hj
    rw[e1']
    by_cases e:j=s.nc
    ·subst e;rw[e7];exact⟨hc,jg,hl⟩
    ·rw[fC _ _ e];exact hs.cls j (by omega)
   fresh:=fun j hj=>by
    rw[e3] at hj
    rw[e1',e4',fC _ _ aJ,fC _ _ aJ]
    exact hs.fresh j (by omega)
   nc:=by rw[e3];exact A_
   nw:=by rw[e5];exact hs.nw
   wt:=fun x hx e he=>by
    rw[e2,Cs hx,bX] at he
    rw[e1',e3]
    rcases he with he|he
    ·obtain⟨j,hj,q1,q2⟩:=hs.wt x hx e he
     exact⟨j,by omega,q1,by rw[fC _ _ aJ];exact q2⟩
    ·split at he
     ·next ve=>
      refine⟨s.nc,by omega,by simpa using he,?_⟩
      rw[e7]
      exact ve.imp Eq.symm Eq.symm
     ·simp at he
   sJ:=fun k=>by rw[e2];exact RY hs hc jg hl k
   sH:=fun j hj=>by
    rw[e3] at hj
    rw[e1',e2]
    by_cases e:j=s.nc
    ·subst e
     rw[e7,Cs (hl _ m0),Cs (hl _ m1),if_pos (.inl rfl),if_pos (.inr rfl)]
     simp
    ·rw[fC _ _ e]
     obtain⟨p1,_,p3⟩:=hs.cls j (by omega)
     obtain⟨n0,n1⟩:=km p1
     rw[Cs (p3 _ n0),Cs (p3 _ n1)]
     obtain⟨q1,q2⟩:=hs.sH j (by omega)
     exact⟨bX.2 (.inl q1),bX.2 (.inl q2)⟩
   two:=fun j hj w w' hw iT=>by
    rw[e3] at hj
    rw[e1'] at hw
    by_cases e:j=s.nc
    ·subst e;rw[e7] at hw;exact twoc w w' hw iT
    ·rw[fC _ _ e] at hw;exact two j aJ w w' hw iT
   q7:=fun i hi=>by rw[e1',e3];exact q7 i hi}
theorem fY.attach (hs:fY n s) (hc:2≤c.length) (jg:c.Nodup) (hl:∀x∈c,Lit n x) (A_:s.nc+1≤100000) (hf:∀x∈c,-x∉s.ll 0):fY n (l7 s c h0 h1 h2):=by
 obtain⟨m0,m1⟩:=km hc
 refine hs.WW hc jg hl A_ rfl rfl rfl rfl rfl hs.iU hs.val hs.lvl hs.pH hs.hd hs.oW hs.nM hs.qK hs.two (fun w w' hw iT=>?_) fun i hi=>?_
 ·exfalso
  have:=cQ iT
  rcases hw with ⟨rfl,_⟩|⟨rfl,_⟩
  ·exact hf _ m0 this
  ·exact hf _ m1 this
 ·rcases hs.q7 i hi with q|⟨j,q1,q2,q3,q4⟩
  ·exact .inl q
  ·exact .inr ⟨j,by omega,q2,by rw[fC _ _ aJ];exact q3,by rw[fC _ _ aJ];exact q4⟩
theorem fY.sB (hs:fY n s) (hc:2≤c.length) (jg:c.Nodup) (hl:∀x∈c,Lit n x) (A_:s.nc+1≤100000) (XZ:c0 c∉s.ll 0) (Pz: -(c0 c)∉s.ll 0) (hf:∀x∈c,x≠c0 c→ -x∈s.ll 0) (OT:fh s (c1 c)=s.marks.length) {h:Value}:fY n (fO (l7 s c h0 h1 h2) (c0 c) s.nc h):=by
 obtain⟨m0,m1⟩:=km hc
 have lY:=hl _ m0
 have gn:c1 c≠c0 c:=fun e=>by
  rw[show c0 c=c[0] from fJ aJ,show c1 c=c[1] from fJ aJ] at e
  have:=(dr jg (h₀:=by omega) (h₁:=by omega)).1 e
  omega
 have kY:(fO (l7 s c h0 h1 h2) (c0 c) s.nc h).ll 0=s.ll 0++ [c0 c]:=j5 _ _ _ _
 have hold:∀{y},y∈s.ll 0∨ -y∈s.ll 0→fk y≠fk (c0 c):=fun hy=>pN (n:=n) XZ Pz hy
 have tf:∀{y},fk y≠fk (c0 c)→fh (fO (l7 s c h0 h1 h2) (c0 c) s.nc h) y=fh s y:=fun hy=>ja (s:=l7 s c h0 h1 h2) hy
 have hlu:fh (fO (l7 s c h0 h1 h2) (c0 c) s.nc h) (c0 c)=s.marks.length:=by
  have:=jS lY
  unfold fh fO
  simp only
  rw[c6,bH,if_pos rfl,if_pos (by show _<s.level.length;rw[hs.lvl];omega)];rfl
 have uG:∀{y},fk y≠fk (c0 c)→(fO (l7 s c h0 h1 h2) (c0 c) s.nc h).reason.getD (fk y) 0=s.reason.getD (fk y) 0:=fun hy=>mK (s:=l7 s c h0 h1 h2) hy
 have MW:s.head.toNat≤(s.ll 0).length:=by have:=hs.hd;omega
 have Qj:∀i (hi:i<((fO (l7 s c h0 h1 h2) (c0 c) s.nc h).ll 0).length),(∃jJ:i<(s.ll 0).length,((fO (l7 s c h0 h1 h2) (c0 c) s.nc h).ll 0)[i]=(s.ll 0)[i])∨(i=(s.ll 0).length∧((fO (l7 s c h0 h1 h2) (c0 c) s.nc h).ll 0)[i]=c0 c):=fun i hi=>by
  simp only[kY] at hi ⊢
  have jJ:i<(s.ll 0).length+1:=by simpa using hi
  by_cases e:i<(s.ll 0).length
  ·exact .inl ⟨e,dy e⟩
  ·have e2:i=(s.ll 0).length:=by omega
   subst e2
   exact .inr ⟨rfl,by rw[dz (aP _)];simp⟩
 refine hs.WW hc jg hl A_ (h0:=h0) (h1:=h1) (h2:=h2) rfl rfl rfl rfl rfl (by rw[kY];exact hs.iU.push lY XZ Pz) (by rw[kY];show s.value.set _ _=_;rw[hs.val];exact AS lY XZ Pz) (by show(s.level.set _ _).length=_;rw[cM];exact hs.lvl) (by show(s.reason.set _ _).length=_;rw[cM];exact hs.pH)
  (by rw[kY];have:=hs.hd;simp only[bW,c7];exact⟨this.1,by show s.head≤_;omega⟩) hs.oW (fun i hi=>?_) hs.qK (fun j hj w w' hw iT=>?_) (fun w w' hw iT=>?_) fun i hi=>?_
 ·rcases Qj i hi with ⟨jJ,e⟩|⟨e1,e⟩
  ·rw[e,tf (hold (.inl (cY jJ)))];exact hs.nM i jJ
  ·rw[e,hlu,e1]
   show _=((s.marks.countP _:Nat):Int)
   rw[rN fun m hm=>by have:=hs.oW m hm;have:=hs.hd;omega]
 ·have iT: -w∈((fO (l7 s c h0 h1 h2) (c0 c) s.nc h).ll 0).take s.head.toNat:=iT
  rw[kY,cW MW] at iT
  obtain⟨q1,q2⟩:=hs.two j hj w w' hw iT
  rw[kY,tf (hold (.inl q1)),tf (hold (.inr (cQ iT)))]
  exact⟨bX.2 (.inl q1),q2⟩
 ·have iT: -w∈((fO (l7 s c h0 h1 h2) (c0 c) s.nc h).ll 0).take s.head.toNat:=iT
  rw[kY,cW MW] at iT
  have Ib:=cQ iT
  rcases hw with ⟨rfl,rfl⟩|⟨rfl,rfl⟩
  ·exact absurd Ib Pz
  ·rw[kY,hlu,tf (hold (.inr Ib)),OT]
   exact⟨by simp,eG _⟩
 ·rcases Qj i hi with ⟨jJ,e⟩|⟨e1,e⟩
  ·rw[e,uG (hold (.inl (cY jJ))),tf (hold (.inl (cY jJ))),kY,cW aJ]
   rcases hs.q7 i jJ with q|⟨j,q1,q2,q3,q4⟩
   ·exact .inl q
   ·exact .inr ⟨j,by omega,q2,by rw[fC _ _ aJ];exact q3,by rw[fC _ _ aJ];exact q4⟩
  ·right
   refine⟨s.nc,by omega,?_,?_,?_⟩
   ·rw[e]
    have:=jS lY
    unfold fO
    simp only
    rw[c6,bH,if_pos rfl,if_pos (by show _<s.reason.length;rw[hs.pH];omega)];rfl
   ·rw[e,e7];exact m0
   ·rw[e,e1,e7,kY,cW (aP _),c8]
    exact hf
end
end Go.Ab
/- The search's invariant:decisions,assumptions,the word that grows with each conflict. -/
namespace Go.Ab
open Go Go.Proofs
def mN (n:Nat) (M:List Int):Nat→Nat
 |0=>0
 |k+1=>mN n M k+(if (k:Int)∈M then 1 else 2)*3 ^ (n - 1 - k)
theorem rZ (n:Nat) (M:List Int) (k:Nat):mN n M (k+1)=mN n M k+(if (k:Int)∈M then 1 else 2)*3 ^ (n - 1 - k):=rfl
theorem Oh (n:Nat) (M:List Int) {k:Nat} (hk:k+1≤n):mN n M (k+1)+3 ^ (n - (k+1))≤mN n M k+3 ^ (n - k):=by
 have e:n - k=(n - 1 - k)+1:=by omega
 have e2:n - (k+1)=n - 1 - k:=by omega
 rw[e2,e,Nat.pow_succ,rZ]
 split<;>omega
theorem GS (n:Nat) (M:List Int) {a b:Nat} (sS:a≤b) (hb:b≤n):mN n M b+3 ^ (n - b)≤mN n M a+3 ^ (n - a):=by
 obtain⟨d,rfl⟩:=eH sS
 clear sS
 induction d with
 |zero=>exact aP _
 |succ d ih=>
  have h1:=Oh n M (k:=a+d) hb
  have h2:=ih (by omega)
  rw[← bG]
  omega
theorem N2 (n:Nat) (M:List Int) {k:Nat} (hk:k≤n):mN n M k<3 ^ n:=by
 have:=GS n M (bm k) hk
 simp only[mN,ba,Nat.sub_zero] at this
 have:0<3 ^ (n - k):=eI (by omega)
 omega
theorem AG (n:Nat) (M:List Int) {a b:Nat} (sS:a≤b):mN n M a≤mN n M b:=by
 obtain⟨d,rfl⟩:=eH sS
 clear sS
 induction d with
 |zero=>exact aP _
 |succ d ih=>rw[← bG,rZ];omega
theorem yy (n:Nat) {M M':List Int} {k:Nat} (h:∀i,i<k→((i:Int)∈M↔(i:Int)∈M')):mN n M k=mN n M' k:=by
 induction k with
 |zero=>rfl
 |succ k ih=>
  rw[rZ,rZ,ih fun i hi=>h i aJ]
  by_cases e:(k:Int)∈M
  ·rw[if_pos e,if_pos ((h k aJ).1 e)]
  ·rw[if_neg e,if_neg (fun q=>e ((h k aJ).2 q))]
theorem Kz {n:Nat} {M:List Int} (hs:M.Pairwise (·≤·)) (h0:∀m∈M,0≤m) {t:Nat} (ht:t<M.length) (fy:t=0∨∀m∈M.take t,m<M[t]) {len:Nat} (hl:(M[t]).toNat≤len) (hn:len≤n) (hmn:(M[t]).toNat+1≤n):mN n M len<mN n (M.take t) ((M[t]).toNat+1):=by
 have He:=h0 _ (cY ht)
 have lz:∀i:Nat,i<(M[t]).toNat→((i:Int)∈M↔(i:Int)∈M.take t):=fun i hi=>by
  refine⟨fun h=>?_,fun h=>cQ h⟩
  obtain⟨a,ha,e⟩:=da h
  have r8:a<t:=by
   apply eE
   intro yh
   by_cases e4:a=t
   ·subst e4;omega
   ·have:=dO.1 hs t a ht ha (by omega)
    omega
  rw[dR]
  exact⟨a,by omega,e⟩
 have e1:=yy n lz
 have Jk:¬(((M[t]).toNat:Nat):Int)∈M.take t:=fun h=>by
  rcases fy with rfl|q
  ·simp at h
  ·have:=q _ h;omega
 have e2:mN n (M.take t) ((M[t]).toNat+1)=mN n M (M[t]).toNat+2*3 ^ (n - 1 - (M[t]).toNat):=by
  rw[mN,← e1,if_neg Jk]
 have Fe:0<3 ^ (n - 1 - (M[t]).toNat):=eI (by omega)
 by_cases e:(M[t]).toNat=len
 ·rw[← e,e2];omega
 ·have h3:=GS n M (a:=(M[t]).toNat+1) (b:=len) aJ hn
  have iT:((((M[t]).toNat:Nat):Int))∈M:=by rw[Int.toNat_of_nonneg He];exact cY ht
  have e3:mN n M ((M[t]).toNat+1)=mN n M (M[t]).toNat+1*3 ^ (n - 1 - (M[t]).toNat):=by rw[mN,if_pos iT]
  have e4:n - ((M[t]).toNat+1)=n - 1 - (M[t]).toNat:=by omega
  have:0<3 ^ (n - len):=eI (by omega)
  rw[e3,e4] at h3
  omega
def y4 (n:Nat) (s:SR):Prop:=∃k:Nat,s.low=(k:Int)∧1≤k∧k≤n+1∧∀u:Nat,1≤u→u<k→(u:Int)∈s.ll 0∨ -(u:Int)∈s.ll 0
structure SI (n:Nat) (F:List (List Int)) (A:List Int) (P0 N0:Nat) (s:SR) (met:Nat):Prop where
 inv:fY n s
 kq:Sem n F s
 dec:∀m∈s.marks,∀x,(s.ll 0)[m.toNat]? =some x→s.reason.getD (fk x) 0= -1→x∈A∨(A.length:Int)<fh s x∧∃v:Nat,x= -(v:Int)∧∀u:Nat,0<u→u<v→(u:Int)∈(s.ll 0).take m.toNat∨ -(u:Int)∈(s.ll 0).take m.toNat
 sP:∀i,i<s.marks.length→∀x,A[i]? =some x→x∈s.ll 0∧fh s x≤i+1
 plen:s.proof.length=P0+met
 tI:s.nc≤N0+met
 wrd:met≤mN n s.marks (s.ll 0).length
 low:y4 n s
section
variable {n:Nat} {F:List (List Int)} {A:List Int} {P0 N0:Nat} {s:SR} {met:Nat}
theorem SI.JM (h:SI n F A P0 N0 s met):met<3 ^ n:=Nat.lt_of_le_of_lt h.wrd (N2 n _ h.inv.iU.len)
theorem SI.prop {t:SR} {r:Int} (h:SI n F A P0 N0 s met) (hp:Ls n s t r):SI n F A P0 N0 t met:=by
 have hx:=hp.ext
 obtain⟨ys,ell⟩:=hx.ll
 have hold:∀{x},x∈s.ll 0→x∈t.ll 0:=fun hm=>by rw[ell];exact bX.2 (.inl hm)
 exact
  {inv:=hp.inv
   kq:=h.kq.prop h.inv hp
   dec:=fun m hm x xg hr=>by
    rw[hx.marks] at hm
    have qM:=h.inv.oW m hm
    have hd:=h.inv.hd
    by_cases e:x∈s.ll 0
    ·rw[hx.Cr x e] at hr
     have fy:m.toNat<(s.ll 0).length:=by
      apply eE
      intro yh
      obtain⟨i,hi,ei⟩:=da e
      obtain⟨MS,em⟩:=aW.1 xg
      have e2:(t.ll 0)[i]'(by rw[ell,bW];omega)=x:=by simp only[ell,dy hi,ei]
      have:i=m.toNat:=(dr hp.inv.iU.nd (h₀:=by simp [ell];omega) (h₁:=by simpa using MS)).1 (by rw[dg,dg,e2,em])
      omega
     rw[ell,aT fy] at xg
     rw[ell,cW aJ,ur h.inv hp.inv hx e]
     exact h.dec m hm x xg hr
    ·exact absurd hr (hx.new x (aU xg) e)
   sP:=fun i hi x Qx=>by
    rw[hx.marks] at hi
    obtain⟨q1,q2⟩:=h.sP i hi x Qx
    exact⟨hold q1,by rw[ur h.inv hp.inv hx q1];exact q2⟩
   plen:=by rw[hx.proof];exact h.plen
   tI:=by rw[hx.nc];exact h.tI
   wrd:=by
    rw[hx.marks,ell,bW]
    exact aQ h.wrd (AG n _ aJ)
   low:=by
    obtain⟨k,q1,q2,q3,q4⟩:=h.low
    exact⟨k,by rw[hx.low];exact q1,q2,q3,fun u h1 h2=>(q4 u h1 h2).imp hold hold⟩}
theorem fY.vQ (h:fY n s) (P:List (List Int)):fY n {s with proof:=P}:=
 {hn:=h.hn,iU:=h.iU,val:=h.val,lvl:=h.lvl,pH:=h.pH,hd:=h.hd,oW:=h.oW,nM:=h.nM,cls:=h.cls,fresh:=h.fresh,nc:=h.nc,nw:=h.nw,wt:=h.wt,sJ:=h.sJ,sH:=h.sH,two:=h.two,qK:=h.qK,q7:=h.q7}
def p_ (s:SR) (l:List Int):SR:={s with proof:=s.proof++ [l]}
theorem Sem.more (h:Sem n F s) {l:List Int} (hr:RD (F++s.proof) l) (hl:∀x∈l,Lit n x):Sem n F (p_ s l):=by
 have lz:∀c∈F++s.proof,c∈F++(s.proof++ [l]):=fun c hc=>by
  rcases bX.1 hc with hc|hc
  ·exact bX.2 (.inl hc)
  ·exact bX.2 (.inr (bX.2 (.inl hc)))
 exact
  {lits:=fun c hc=>by
    have hc:c∈F++(s.proof++ [l]):=hc
    rw[← dh] at hc
    rcases bX.1 hc with hc|hc
    ·exact h.lits c hc
    ·rw[cq.1 hc];exact hl
   cls:=fun j hj=>by
    obtain⟨C,hC,q1,q2⟩:=h.cls j hj
    exact⟨C,lz C hC,q1,fun x hx=>(q2 x hx).imp id fun q=>q.mono lz fun _ h=>h⟩
   qo:=fun x hx hl=>(h.qo x hx hl).mono lz fun _ h=>h
   bad:=fun hb=>(h.bad hb).cut lz fun _ h=>h.elim
   vQ:=h.vQ.snoc hr
   rep:=h.rep}
theorem fY.mark (h:fY n s) (hh:s.head=((s.ll 0).length:Int)):fY n (iA s):=
 {hn:=h.hn,iU:=h.iU,val:=h.val,lvl:=h.lvl,pH:=h.pH,hd:=h.hd
  oW:=fun m hm=>by
   have hm:m∈s.marks++ [((s.ll 0).length:Int)]:=hm
   rcases bX.1 hm with hm|hm
   ·exact h.oW m hm
   ·rw[cq.1 hm];show _∧_≤s.head;omega
  nM:=fun i hi=>by
   have e:(s.marks++ [((s.ll 0).length:Int)]).countP (fun m=>decide (m≤(i:Int)))=s.marks.countP (fun m=>decide (m≤(i:Int))):=by
    have hi:i<(s.ll 0).length:=hi
    rw[eA]
    have:decide (((s.ll 0).length:Int)≤(i:Int))=false:=by simp;omega
    rw[List.countP_singleton,this];rfl
   show fh s (s.ll 0)[i]=(((s.marks++ [((s.ll 0).length:Int)]).countP _:Nat):Int)
   rw[e];exact h.nM i hi
  cls:=h.cls,fresh:=h.fresh,nc:=h.nc,nw:=h.nw,wt:=h.wt,sJ:=h.sJ,sH:=h.sH,two:=h.two
  qK:=by
   show(s.marks++ [((s.ll 0).length:Int)]).Pairwise _
   rw[List.pairwise_append]
   exact⟨h.qK,by simp,fun a ha b hb=>by rw[cq.1 hb];have:=h.oW a ha;have:=h.hd;omega⟩
  q7:=fun i hi=>(h.q7 i hi).imp (fun⟨q1,q2⟩=>⟨q1,q2.imp (fun q=>bX.2 (.inl q)) id⟩) id}
theorem Ag (n:Nat) (M:List Int) (k:Nat):mN n (M++ [(k:Int)]) k=mN n M k:=by
 refine yy n fun i hi=>?_
 rw[bX,cq]
 constructor
 ·rintro(h|h)
  ·exact h
  ·omega
 ·exact .inl
theorem SI.Ka (h:SI n F A P0 N0 s met) (hh:s.head=((s.ll 0).length:Int)) (hA:s.marks.length<A.length) (hx:A[s.marks.length]∈s.ll 0):SI n F A P0 N0 (iA s) met where
 inv:=h.inv.mark hh
 kq:=⟨h.kq.lits,h.kq.cls,h.kq.qo,h.kq.bad,h.kq.vQ,h.kq.rep⟩
 dec:=fun m hm x xg hr=>by
  have hm:m∈s.marks++ [((s.ll 0).length:Int)]:=hm
  rcases bX.1 hm with hm|hm
  ·exact h.dec m hm x xg hr
  ·rw[cq.1 hm] at xg
   have xg:(s.ll 0)[((s.ll 0).length:Int).toNat]? =some x:=xg
   simp at xg
 sP:=fun i hi x Qx=>by
  have hi:i<(s.marks++ [((s.ll 0).length:Int)]).length:=hi
  simp only[bW,c7] at hi
  by_cases e:i<s.marks.length
  ·exact h.sP i e x Qx
  ·obtain rfl:i=s.marks.length:=by omega
   rw[a8 hA] at Qx
   obtain rfl:A[s.marks.length]=x:=by simpa using Qx
   have:=(h.inv.o4 hx).2
   exact⟨hx,by show fh s _≤_;omega⟩
 plen:=h.plen
 tI:=h.tI
 wrd:=by
  show met≤mN n (s.marks++ [((s.ll 0).length:Int)]) (s.ll 0).length
  rw[Ag];exact h.wrd
 low:=h.low
theorem SI.L1 (h:SI n F A P0 N0 s met) (hh:s.head=((s.ll 0).length:Int)) {x:Int} (hx:Lit n x) (h1:x∉s.ll 0) (h2: -x∉s.ll 0) (hv:Value) (hA:∀y,A[s.marks.length]? =some y→x=y)
  (hd:x∈A∨A.length≤s.marks.length∧∃v:Nat,x= -(v:Int)∧∀u:Nat,0<u→u<v→(u:Int)∈s.ll 0∨ -(u:Int)∈s.ll 0):SI n F A P0 N0 (fO (iA s) x (-1) hv) met:=by
 have hm:=h.inv.mark hh
 have kY:(fO (iA s) x (-1) hv).ll 0=s.ll 0++ [x]:=j5 _ _ _ _
 have hi:=hm.push (r:= -1) hv hx h1 h2 (.inl ⟨rfl,.inl (bX.2 (.inr (by simp [iA])))⟩)
 have hold:∀{y},y∈s.ll 0∨ -y∈s.ll 0→fk y≠fk x:=fun hy=>pN (n:=n) h1 h2 hy
 have tf:∀{y},y∈s.ll 0→fh (fO (iA s) x (-1) hv) y=fh s y:=fun hy=>ja (s:=iA s) (hold (.inl hy))
 have XV:fh (fO (iA s) x (-1) hv) x=(s.marks.length+1:Nat):=by
  rw[nC hm hx];show(((s.marks++ [_]).length:Nat):Int)=_;simp
 have FK:(fO (iA s) x (-1) hv).marks=s.marks++ [((s.ll 0).length:Int)]:=rfl
 exact
  {inv:=hi
   kq:=
    {lits:=h.kq.lits,cls:=h.kq.cls,bad:=h.kq.bad,vQ:=h.kq.vQ
     qo:=fun y hy hl=>by
      rw[kY] at hy
      rcases bX.1 hy with hy|hy
      ·exact h.kq.qo y hy (by rw[← tf hy];exact hl)
      ·rw[cq.1 hy,XV] at hl;omega
     rep:=fun C hC=>by
      rcases h.kq.rep C hC with q|⟨y,q1,q2,q3⟩|q|q
      ·exact .inl q
      ·exact .inr (.inl ⟨y,q1,by rw[kY];exact bX.2 (.inl q2),by rw[tf q2];exact q3⟩)
      ·exact .inr (.inr (.inl q))
      ·exact .inr (.inr (.inr q))}
   dec:=fun m qM y hy hr=>by
    rw[FK] at qM
    rw[kY] at hy ⊢
    have y6:m.toNat≤(s.ll 0).length:=by
     rcases bX.1 qM with q|q
     ·have:=h.inv.oW m q;have:=h.inv.hd;omega
     ·rw[cq.1 q];simp
    rw[cW y6]
    by_cases e:m.toNat<(s.ll 0).length
    ·rw[aT e] at hy
     have F3:=aU hy
     rw[mK (s:=iA s) (hold (.inl F3))] at hr
     rw[tf F3]
     refine h.dec m ?_ y hy hr
     rcases bX.1 qM with q|q
     ·exact q
     ·rw[cq.1 q] at e;simp at e
    ·have e2:m.toNat=(s.ll 0).length:=by omega
     rw[e2,List.getElem?_append_right (aP _)] at hy
     obtain rfl:x=y:=by simpa using hy
     rw[e2,c8,XV]
     exact hd.imp id fun⟨q1,q2⟩=>⟨by omega,q2⟩
   sP:=fun i qU y hy=>by
    rw[FK] at qU
    simp only[bW,c7] at qU
    by_cases e:i<s.marks.length
    ·obtain⟨q1,q2⟩:=h.sP i e y hy
     exact⟨by rw[kY];exact bX.2 (.inl q1),by rw[tf q1];exact q2⟩
    ·obtain rfl:i=s.marks.length:=by omega
     rw[← hA y hy,kY,XV]
     exact⟨by simp,by omega⟩
   plen:=h.plen
   tI:=h.tI
   wrd:=by
    rw[FK,kY,bW]
    refine aQ ?_ (AG n _ (Nat.le_add_right _ _))
    rw[Ag];exact h.wrd
   low:=by
    obtain⟨k,q1,q2,q3,q4⟩:=h.low
    exact⟨k,q1,q2,q3,fun u h1 h2=>by rw[kY];exact(q4 u h1 h2).imp (fun q=>bX.2 (.inl q)) (fun q=>bX.2 (.inl q))⟩}
end
end Go.Ab
/- The search's invariant:a clause learned. -/
namespace Go.Ab
open Go Go.Proofs
theorem Bz {l:List Int} {b u:Int}:u<qq b l↔u<b∧∀x∈l,u<max x (-x):=by
 unfold qq
 induction l generalizing b with
 |nil=>simp
 |cons x l ih=>
  rw[List.foldl_cons,ih]
  simp only[bw,forall_eq_or_imp]
  constructor
  ·rintro⟨h1,h2⟩;exact⟨by omega,by omega,h2⟩
  ·rintro⟨h1,h2,h3⟩;exact⟨by omega,h3⟩
section
variable {n:Nat} {F:List (List Int)} {A:List Int} {P0 N0:Nat} {s:SR} {met:Nat}
theorem sD {L:List Int} {m:Nat} {x:Int} (h:x∈L):x∈L.take m∨x∈L.drop m:=by
 rw[← bX,dw];exact h
theorem y4.LO (h:y4 n s) (hs:fY n s) {t:Nat} (ht:t<s.marks.length):y4 n (gw s t):=by
 obtain⟨k,q1,q2,q3,q4⟩:=h
 obtain⟨e1,_,_⟩:=nB hs ht
 have e:s.marks.getD t 0=s.marks[t]:=fJ ht
 have elow:(gw s t).low=qq s.low ((s.ll 0).drop (s.marks[t]).toNat):=by
  show qq s.low ((s.ll 0).drop (s.marks.getD t 0).toNat)=_
  rw[e]
 have Fe:0<qq s.low ((s.ll 0).drop (s.marks[t]).toNat):=Bz.2 ⟨by omega,fun x hx=>by have:=hs.iU.zK x (List.mem_of_mem_drop hx);omega⟩
 have hle:qq s.low ((s.ll 0).drop (s.marks[t]).toNat)≤s.low:=by
  apply eJ.1
  intro fy
  have:=(Bz.1 fy).1
  omega
 refine⟨(qq s.low ((s.ll 0).drop (s.marks[t]).toNat)).toNat,by rw[elow];omega,by omega,by omega,fun u h1 h2=>?_⟩
 have hu:(u:Int)<qq s.low ((s.ll 0).drop (s.marks[t]).toNat):=by omega
 have jg:=(Bz.1 hu).2
 rw[e1]
 refine(q4 u h1 aJ).imp (fun q=>?_) fun q=>?_
 ·exact(sD q).resolve_right fun hd=>by have:=jg _ hd;omega
 ·exact(sD q).resolve_right fun hd=>by have:=jg _ hd;omega
theorem uz.lvl {j:Nat} {l:List Int} {to:Int} (h:uz n s j l to) (hs:fY n s) (hm:0<s.marks.length):0≤to∧∃ht:to.toNat<s.marks.length,(to=0∨∀m∈s.marks.take to.toNat,m<s.marks[to.toNat]):=by
 obtain⟨a,ha,rest,_,_,h2,_,h4⟩:=h.uip
 rcases h4 with ⟨rfl,_⟩|⟨x,hx,e⟩
 ·exact⟨by omega,by simpa using hm,.inl rfl⟩
 ·obtain⟨p1,p2,p3,p4⟩:=h2 x hx
  have ht:to.toNat<s.marks.length:=by omega
  refine⟨by omega,ht,.inr fun m Wg=>?_⟩
  obtain⟨i,hi,ei⟩:=da p1
  have tf:fh s (s.ll 0)[i]=to:=by rw[ei,iI];exact e
  have hib:=(hs.mQ ht hi).1 (by omega)
  have hcnt:=hs.nM i hi
  have h0:=(hs.tQ ht).1
  obtain⟨q,hq,eq⟩:=da Wg
  rw[cO] at hq
  rw[ew] at eq
  -- all of the first marks are at or below i
  have j4:m≤(i:Int):=by
   apply eJ.1
   intro hgt
   have:=(yQ hs.qK (t:=q) aJ (i:=(i:Int)) aJ).2
   omega
  omega
theorem SI.cut (h:SI n F A P0 N0 s met) {j:Nat} {l:List Int} {to:Int} (ha:uz n s j l to) (hm:0<s.marks.length) (hj:j<s.nc) (hf:∀x∈s.cl j,-x∈s.ll 0) (tf:∃ht:to.toNat<s.marks.length,(to=0∨∀m∈s.marks.take to.toNat,m<s.marks[to.toNat])):
  SI n F A (P0+met+1) (N0+met) (p_ (gw s to.toNat) l) 0:=by
 obtain⟨ht,fy⟩:=tf
 have hs:=h.inv
 obtain⟨e1,e2,e3⟩:=nB hs ht
 have Z7:=ha.YL h.kq hs hj hf
 have tY:=h.low.LO hs ht
 exact
  {inv:=(hs.LO ht).vQ _
   kq:=(h.kq.LO hs ht).more (.inl Z7) (ha.lits hs)
   dec:=fun m Wg x hx hr=>by
    have Wg:m∈s.marks.take to.toNat:=Wg
    have hx:((gw s to.toNat).ll 0)[m.toNat]? =some x:=hx
    show _∨(A.length:Int)<fh s x∧∃v:Nat,x= -(v:Int)∧∀u:Nat,0<u→u<v→(u:Int)∈((gw s to.toNat).ll 0).take m.toNat∨ -(u:Int)∈((gw s to.toNat).ll 0).take m.toNat
    rw[e1] at hx ⊢
    obtain⟨DW,_⟩:=aW.1 hx
    rw[cO] at DW
    rw[List.getElem?_take,if_pos aJ] at hx
    rw[eF,cP aJ]
    exact h.dec m (cQ Wg) x hx hr
   sP:=fun i hi x hx=>by
    have hi:i<(s.marks.take to.toNat).length:=hi
    rw[cO] at hi
    obtain⟨q1,q2⟩:=h.sP i aJ x hx
    refine⟨?_,q2⟩
    show x∈(gw s to.toNat).ll 0
    rw[e1]
    obtain⟨b,hb,rfl⟩:=da q1
    have:=(hs.mQ ht hb).1 (by omega)
    rw[dR]
    exact⟨b,by omega,rfl⟩
   plen:=by show(s.proof++ [l]).length=_;rw[bW,h.plen];rfl
   tI:=h.tI
   wrd:=bm _
   low:=tY}
theorem uz.back {j:Nat} {l:List Int} {to:Int} (ha:uz n s j l to) (hs:fY n s) (tf:∃ht:to.toNat<s.marks.length,(to=0∨∀m∈s.marks.take to.toNat,m<s.marks[to.toNat])):
  ∃p rest,l=p::rest∧Lit n p∧p∉(gw s to.toNat).ll 0∧ -p∉(gw s to.toNat).ll 0∧l.Nodup∧(∀x∈rest,-x∈(gw s to.toNat).ll 0∧Lit n x∧0<fh s x∧fh s x≤to)∧(rest=[]∨∃x∈rest,fh s x=to)∧(to=0→rest=[]):=by
 obtain⟨ht,_⟩:=tf
 obtain⟨e1,_,_⟩:=nB hs ht
 have qf:=ha.lits hs
 obtain⟨a,EE,rest,rfl,h1,h2,h3,h4⟩:=ha.uip
 have Xx:(s.ll 0)[a]∉(s.ll 0).take (s.marks[to.toNat]).toNat:=fun hm=>by
  obtain⟨b,hb,e⟩:=da hm
  rw[cO] at hb
  rw[ew] at e
  have:=(hs.mQ ht (i:=b) aJ).2 (by omega)
  rw[e,h1] at this;omega
 refine⟨_,rest,rfl,qf _ (by simp),fun hm=>?_,by rw[dt,e1];exact Xx,?_,fun x hx=>?_,?_,?_⟩
 ·rw[e1] at hm
  exact hs.iU.oY (cY EE) (cQ hm)
 ·rw[cX]
  refine⟨fun hm=>?_,?_⟩
  ·have:=(h2 _ hm).2.2.1
   rw[iI,h1] at this;omega
  ·exact List.Pairwise.of_map fk (fun a b sS e=>sS (by rw[e])) h3
 ·obtain⟨p1,p2,p3,p4⟩:=h2 x hx
  refine⟨?_,qf x (by simp [hx]),p2,p4⟩
  obtain⟨i,hi,e⟩:=da p1
  rw[e1,dR]
  refine⟨i,?_,e⟩
  have:=(hs.mQ ht hi).1 (by rw[e,iI];omega)
  omega
 ·exact h4.imp (fun q=>q.2) id
 ·intro e0
  rcases h4 with ⟨_,q⟩|⟨x,hx,q⟩
  ·exact q
  ·have:=(h2 x hx).2.1;omega
theorem SI.T_ (h:SI n F A P0 N0 s met) {to:Int} (tf:∃ht:to.toNat<s.marks.length,(to=0∨∀m∈s.marks.take to.toNat,m<s.marks[to.toNat])) (RO:0≤to) (hn:((gw s to.toNat).ll 0).length+1≤n):met+1≤mN n (s.marks.take to.toNat) (((gw s to.toNat).ll 0).length+1):=by
 obtain⟨ht,fy⟩:=tf
 have hs:=h.inv
 obtain⟨e1,_,_⟩:=nB hs ht
 obtain⟨h0,h1,h2⟩:=hs.tQ ht
 have hlen:((gw s to.toNat).ll 0).length=(s.marks[to.toNat]).toNat:=by rw[e1,cO];omega
 rw[hlen] at hn ⊢
 have:=Kz (n:=n) hs.qK (fun m hm=>(hs.oW m hm).1) ht (fy.imp (fun e=>by omega) id) (len:=(s.ll 0).length) aJ hs.iU.len hn
 have:=h.wrd
 omega
theorem SI.SO (h:SI n F A P0 N0 s met) {j:Nat} {p:Int} {to:Int} (ha:uz n s j [p] to) (hm:0<s.marks.length) (hj:j<s.nc) (hf:∀x∈s.cl j,-x∈s.ll 0) (hv:Value):
  to=0∧SI n F A P0 N0 (fO (p_ (gw s to.toNat) [p]) p (-1) hv) (met+1):=by
 obtain⟨RO,tf⟩:=ha.lvl h.inv hm
 have hc:=h.cut ha hm hj hf tf
 obtain⟨p',rest,e,b1,b2,b3,b4,b5,b6,b7⟩:=ha.back h.inv tf
 simp only[List.cons.injEq] at e
 obtain⟨rfl,rfl⟩:=e
 have IU:to=0:=by
  obtain⟨a,EE,rest,q1,_,_,_,q4⟩:=ha.uip
  simp only[List.cons.injEq] at q1
  rcases q4 with q|⟨x,hx,_⟩
  ·exact q.1
  ·rw[← q1.2] at hx;simp at hx
 refine⟨IU,?_⟩
 have FK:(fO (p_ (gw s to.toNat) [p]) p (-1) hv).marks=[]:=by show s.marks.take to.toNat=[];rw[IU];rfl
 have kY:(fO (p_ (gw s to.toNat) [p]) p (-1) hv).ll 0=(gw s to.toNat).ll 0++ [p]:=j5 _ _ _ _
 have hinv:=hc.inv.push (r:= -1) hv b1 b2 b3 (.inl ⟨rfl,.inr FK⟩)
 have hold:∀{y},y∈(gw s to.toNat).ll 0→fk y≠fk p:=fun hy=>pN (n:=n) b2 b3 (.inl hy)
 have hlen:=hinv.iU.len
 rw[kY,bW] at hlen
 exact
  {inv:=hinv
   kq:=
    {lits:=hc.kq.lits,cls:=hc.kq.cls,bad:=hc.kq.bad,vQ:=hc.kq.vQ
     qo:=fun y hy hl=>by
      rw[kY] at hy
      rcases bX.1 hy with hy|hy
      ·exact hc.kq.qo y hy (by rw[← hl];exact(ja (s:=(p_ (gw s to.toNat) [p])) (hold hy)).symm)
      ·rw[cq.1 hy]
       refine .unit (c:=[p]) ?_ (by simp) fun y hy gn=>absurd (by simpa using hy) gn
       show [p]∈F++(s.proof++ [[p]])
       simp
     rep:=fun C hC=>by
      rcases hc.kq.rep C hC with q|⟨y,q1,q2,q3⟩|q|q
      ·exact .inl q
      ·exact .inr (.inl ⟨y,q1,by rw[kY];exact bX.2 (.inl q2),by rw[← q3];exact ja (s:=(p_ (gw s to.toNat) [p])) (hold q2)⟩)
      ·exact .inr (.inr (.inl q))
      ·exact .inr (.inr (.inr q))}
   dec:=fun m qM=>by rw[FK] at qM;simp at qM
   sP:=fun i hi=>by rw[FK] at hi;simp at hi
   plen:=by have:=hc.plen;show(s.proof++ [[p]]).length=_;have:(s.proof++ [[p]]).length=P0+met+1+0:=this;omega
   tI:=by have:=h.tI;show s.nc≤_;omega
   wrd:=by
    have:=h.T_ tf RO (by simpa using hlen)
    rw[kY,bW]
    exact this
   low:=by
    obtain⟨k,q1,q2,q3,q4⟩:=hc.low
    exact⟨k,q1,q2,q3,fun u h1 h2=>by rw[kY];exact(q4 u h1 h2).imp (fun q=>bX.2 (.inl q)) (fun q=>bX.2 (.inl q))⟩}
theorem SI.SP (h:SI n F A P0 N0 s met) {j:Nat} {l l':List Int} {to:Int} (ha:uz n s j l to) (hm:0<s.marks.length) (hj:j<s.nc) (hf:∀x∈s.cl j,-x∈s.ll 0) (h2:2≤l.length) (hp:mb l l') (e0:c0 l'=c0 l) (e1:c1 l'∈l.tail) (oC:∀x∈l.tail,fh s x≤fh s (c1 l')) (A_:s.nc+1≤100000) (h0 h1 h3 hv:Value):
  SI n F A P0 N0 (fO (l7 (p_ (gw s to.toNat) l) l' h0 h1 h3) (c0 l') s.nc hv) (met+1):=by
 obtain⟨RO,tf⟩:=ha.lvl h.inv hm
 have hc:=h.cut ha hm hj hf tf
 have qf:=ha.lits h.inv
 obtain⟨p,rest,rfl,b1,b2,b3,b4,b5,b6,b7⟩:=ha.back h.inv tf
 obtain⟨ht,fy⟩:=tf
 have EF:c0 (p::rest)=p:=rfl
 rw[EF] at e0
 have gn:rest≠ []:=fun e=>by rw[e] at h2;simp at h2
 have Uz:fh s (c1 l')=to:=by
  rcases b6 with q|⟨x,hx,q⟩
  ·exact absurd q gn
  ·have:=oC x hx
   have:=(b5 _ e1).2.2.2
   omega
 have IU:to≠0:=fun e=>gn (b7 e)
 have Ul:(gw s to.toNat).marks.length=to.toNat:=by show(s.marks.take to.toNat).length=_;rw[cO];omega
 have yH:∀x∈l',x≠p→ -x∈(gw s to.toNat).ll 0:=fun x hx TI=>by
  rcases bw.1 ((hp.mem x).1 hx) with q|q
  ·exact absurd q TI
  ·exact(b5 x q).1
 have hinv:fY n (fO (l7 (p_ (gw s to.toNat) (p::rest)) l' h0 h1 h3) (c0 l') s.nc hv):=hc.inv.sB (c:=l') (h0:=h0) (h1:=h1) (h2:=h3) (h:=hv) (by rw[hp.len];exact h2) (hp.nd b4) (fun x hx=>qf x ((hp.mem x).1 hx)) A_ (by rw[e0];exact b2) (by rw[e0];exact b3) (fun x hx TI=>yH x hx (by rw[← e0];exact TI)) (by
  show fh s (c1 l')=((gw s to.toNat).marks.length:Int)
  rw[Uz,Ul];omega)
 rw[e0] at hinv ⊢
 have kY:(fO (l7 (p_ (gw s to.toNat) (p::rest)) l' h0 h1 h3) p s.nc hv).ll 0=(gw s to.toNat).ll 0++ [p]:=j5 _ _ _ _
 have hold:∀{y},y∈(gw s to.toNat).ll 0→fk y≠fk p:=fun hy=>pN (n:=n) b2 b3 (.inl hy)
 have O7:∀{y},y∈(gw s to.toNat).ll 0→fh (fO (l7 (p_ (gw s to.toNat) (p::rest)) l' h0 h1 h3) p s.nc hv) y=fh s y:=fun hy=>ja (s:=l7 (p_ (gw s to.toNat) (p::rest)) l' h0 h1 h3) (hold hy)
 have TQ:fh (fO (l7 (p_ (gw s to.toNat) (p::rest)) l' h0 h1 h3) p s.nc hv) p=(to.toNat:Nat):=by
  have:=jS b1
  have h5:(fk p)<s.level.length:=by rw[h.inv.lvl];omega
  unfold fh fO
  simp only
  rw[c6,bH,if_pos rfl,if_pos (by exact h5)]
  show(((s.marks.take to.toNat).length:Nat):Int)=_
  rw[cO];simp;omega
 have hlen:=hinv.iU.len
 rw[kY,bW] at hlen
 exact
  {inv:=hinv
   kq:=
    {lits:=hc.kq.lits
     cls:=fun k hk=>by
      have hk:k<s.nc+1:=hk
      show ∃C∈F++(s.proof++ [p::rest]),(∀x∈e_ s.cl s.nc l' k,x∈C)∧∀x∈C,x∈e_ s.cl s.nc l' k∨qB (F++(s.proof++ [p::rest])) Lm (-x)
      by_cases e:k=s.nc
      ·subst e
       rw[e7]
       exact⟨p::rest,by simp,fun x hx=>(hp.mem x).1 hx,fun x hx=> .inl ((hp.mem x).2 hx)⟩
      ·rw[fC _ _ e]
       exact hc.kq.cls k (by show k<s.nc;omega)
     bad:=hc.kq.bad,vQ:=hc.kq.vQ
     qo:=fun y hy hl=>by
      rw[kY] at hy
      rcases bX.1 hy with hy|hy
      ·exact hc.kq.qo y hy ((O7 hy).symm.trans hl)
      ·rw[cq.1 hy,TQ] at hl;omega
     rep:=fun C hC=>by
      rcases hc.kq.rep C hC with q|⟨y,q1,q2,q3⟩|q|⟨k,q1,q2⟩
      ·exact .inl q
      ·exact .inr (.inl ⟨y,q1,by rw[kY];exact bX.2 (.inl q2),(O7 q2).trans q3⟩)
      ·exact .inr (.inr (.inl q))
      ·have q1:k<s.nc:=q1
       refine .inr (.inr (.inr ⟨k,by show k<s.nc+1;omega,fun x hx=>q2 x ?_⟩))
       have hx:x∈e_ s.cl s.nc l' k:=hx
       rwa [fC _ _ aJ] at hx}
   dec:=fun m qM y hy hr=>by
    have qM:m∈s.marks.take to.toNat:=qM
    have Gr:m<s.marks[to.toNat]:=(fy.resolve_left IU) m qM
    obtain⟨q1,q2,q3⟩:=h.inv.tQ ht
    have He:=(h.inv.oW m (cQ qM)).1
    have hlen2:((gw s to.toNat).ll 0).length=(s.marks[to.toNat]).toNat:=by rw[(nB h.inv ht).1,cO];omega
    rw[kY] at hy ⊢
    rw[aT aJ] at hy
    rw[cW aJ]
    rw[mK (s:=l7 (p_ (gw s to.toNat) (p::rest)) l' h0 h1 h3) (hold (aU hy))] at hr
    rw[O7 (aU hy)]
    exact hc.dec m qM y hy hr
   sP:=fun i hi y hy=>by
    obtain⟨q1,q2⟩:=hc.sP i hi y hy
    exact⟨by rw[kY];exact bX.2 (.inl q1),by rw[O7 q1];exact q2⟩
   plen:=by show(s.proof++ [p::rest]).length=_;have:(s.proof++ [p::rest]).length=P0+met+1+0:=hc.plen;omega
   tI:=by have:=h.tI;show s.nc+1≤_;omega
   wrd:=by
    have:=h.T_ ⟨ht,fy⟩ RO (by simpa using hlen)
    rw[kY,bW]
    exact this
   low:=by
    obtain⟨k,q1,q2,q3,q4⟩:=hc.low
    exact⟨k,q1,q2,q3,fun u h1 h2=>by rw[kY];exact(q4 u h1 h2).imp (fun q=>bX.2 (.inl q)) (fun q=>bX.2 (.inl q))⟩}
end
end Go.Ab
/- What the search gives:the least assignment,or the assumptions that are to blame. -/
namespace Go.Ab
open Go Go.Proofs
section
variable {n:Nat} {F:List (List Int)} {A:List Int} {P0 N0:Nat} {s:SR} {met:Nat}
theorem Sem.nz (h:Sem n F s):∀c∈F++s.proof,∀x∈c,x≠0:=fun c hc x hx=>(h.lits c hc x hx).1
theorem Sem.satP (h:Sem n F s) {σ:Nat→Bool} (hσ:ns σ F):ns σ (F++s.proof):=h.vQ.sound hσ h.nz
theorem E4 (hs:fY n s) (h:Sem n F s) {σ:Nat→Bool} (hσ:ns σ F) {p:Nat} (hd:∀i (hi:i<(s.ll 0).length),i≤p→(i:Int)∈s.marks→s.reason.getD (fk (s.ll 0)[i]) 0= -1→kj σ (s.ll 0)[i]):∀i (hi:i<(s.ll 0).length),i≤p→kj σ (s.ll 0)[i]:=by
 have hP:=h.satP hσ
 intro i
 induction i using eD with
 |ind i ih=>
  intro hi hip
  rcases hs.q7 i hi with ⟨q1,q2|q2⟩|⟨j,q1,q2,q3,q4⟩
  ·exact hd i hi hip q2 q1
  ·exact(h.qo _ (cY hi) q2).sound hP h.nz fun _ h=>h.elim
  ·obtain⟨C,hC,p1,p2⟩:=h.cls j q1
   obtain⟨y,hy,ht⟩:=hP C hC
   have SK:=h.nz C hC y hy
   rcases p2 y hy with Z0|w_
   ·by_cases e:y=(s.ll 0)[i]
    ·rw[← e];exact ht
    ·obtain⟨a,ha,e2⟩:=da (q4 y Z0 e)
     rw[cO] at ha
     rw[ew] at e2
     have:=ih a aJ aJ (by omega)
     rw[e2] at this
     exact absurd ht ((kj.neg SK).1 this)
   ·exact absurd ht ((kj.neg SK).1 (w_.sound hP h.nz fun _ h=>h.elim))
def pX (L:List Int) (v:Nat):Bool:=decide ((v:Int)∈L)
theorem Gv {x:Int} (h:0<x):x=(fk x:Int):=by unfold fk;omega
theorem yn {x:Int} (h:x<0):x= -(fk x:Int):=by unfold fk;omega
theorem rn {L:List Int} (ht:kd n L) (hf:∀v:Nat,1≤v→v≤n→(v:Int)∈L∨ -(v:Int)∈L) {x:Int} (hx:Lit n x):kj (pX L) x↔x∈L:=by
 have hv:=jS hx
 unfold kj pX
 by_cases h:x<0
 ·rw[if_pos h,decide_eq_false_iff_not]
  have e:=yn h
  constructor
  ·intro h1
   rw[e];exact(hf _ hv.1 hv.2).resolve_left h1
  ·intro h1 h2
   rw[e] at h1
   exact ht.oY h2 h1
 ·rw[if_neg h,decide_eq_true_iff]
  have e:=Gv (x:=x) (by obtain⟨_,_,_⟩:=hx;omega)
  rw[← e]
structure A0 (n:Nat) (F:List (List Int)) (A:List Int) (L:List Int):Prop where
 iU:kd n L
 full:∀v:Nat,1≤v→v≤n→(v:Int)∈L∨ -(v:Int)∈L
 sat:ns (pX L) F
 sP:∀x∈A,x∈L
 min:∀σ,ns σ F→(∀x∈A,kj σ x)→∀v:Nat,1≤v→v≤n→(∀u:Nat,1≤u→u<v→σ u=pX L u)→pX L v=true→σ v=true
theorem SI.sat (h:SI n F A P0 N0 s met) (hb:s.broken=false) (hh:s.head=((s.ll 0).length:Int)) (hA:A.length≤s.marks.length) (hf:∀v:Nat,1≤v→v≤n→(v:Int)∈s.ll 0∨ -(v:Int)∈s.ll 0):A0 n F A (s.ll 0):=by
 have hs:=h.inv
 have P4:∀c∈F,∀x∈c,Lit n x:=fun c hc=>h.kq.lits c (bX.2 (.inl hc))
 have fy:=fun {x:Int} (hx:Lit n x)=>rn hs.iU hf hx
 refine⟨hs.iU,hf,fun C hC=>?_,fun x hx=>?_,fun σ hσ hσA v h1 h2 tY hv=>?_⟩
 ·rcases h.kq.rep C hC with q|⟨x,q1,q2,_⟩|⟨x,q1,q2⟩|⟨j,q1,q2⟩
  ·rw[hb] at q;cases q
  ·exact⟨x,q1,(fy (P4 C hC x q1)).2 q2⟩
  ·by_cases e:kj (pX (s.ll 0)) x
   ·exact⟨x,q1,e⟩
   ·exact⟨-x,q2,(kj.neg (P4 C hC x q1).1).2 e⟩
  ·obtain⟨p1,_,p3⟩:=hs.cls j q1
   obtain⟨m0,m1⟩:=km p1
   have xb:=p3 _ m0
   by_cases e:c0 (s.cl j)∈s.ll 0
   ·exact⟨_,q2 _ m0,(fy xb).2 e⟩
   ·have BH: -(c0 (s.cl j))∈s.ll 0:=by
     have hv:=jS xb
     have:=hf _ hv.1 hv.2
     by_cases hn:c0 (s.cl j)<0
     ·rw[← yn hn] at this
      rcases this with q|q
      ·rw[yn hn,dt];exact q
      ·exact absurd q e
     ·have e2:=Gv (x:=c0 (s.cl j)) (by obtain⟨_,_,_⟩:=xb;omega)
      rw[← e2] at this
      exact this.resolve_left e
    have:=(hs.two j q1 _ _ (.inl ⟨rfl,rfl⟩) (by rw[hh,dq,c8];exact BH)).1
    exact⟨_,q2 _ m1,(fy (p3 _ m1)).2 this⟩
 ·obtain⟨i,hi,e⟩:=da hx
  exact(h.sP i aJ x (by rw[← e];exact a8 hi)).1
 ·have hvL:(v:Int)∈s.ll 0:=by unfold pX at hv;simpa using hv
  obtain⟨p,hp,ep⟩:=da hvL
  have:=E4 hs h.kq hσ (p:=p) (fun i hi hip hm hr=>by
   rcases h.dec _ hm _ (a8 hi) hr with q|⟨_,u,q1,q2⟩
   ·exact hσA _ q
   ·have VH:=hs.iU.zK _ (cY hi)
    have hup:0<u:=by omega
    have huv:¬v<u:=fun hvu=>by
     have Jk:∀y∈(s.ll 0).take i,fk y≠v:=fun y hy e=>by
      obtain⟨a,ha,e2⟩:=da hy
      rw[cO] at ha
      rw[ew] at e2
      have:a=p:=(dr hs.iU.nd (h₀:=by simp;omega) (h₁:=by simpa using hp)).1 (by rw[dg,dg,e2,ep,e];unfold fk;omega)
      omega
     rw[dq] at q2
     rcases q2 v h1 hvu with q|q
     ·exact Jk _ q (by unfold fk;omega)
     ·exact Jk _ q (by unfold fk;omega)
    have gn:u≠v:=fun e=>by
     subst e
     exact hs.iU.oY hvL (by rw[← q1];exact cY hi)
    have huL: -(u:Int)∈s.ll 0:=by rw[← q1];exact cY hi
    have hσu:=tY u hup (by omega)
    have:pX (s.ll 0) u=false:=by
     unfold pX
     rw[decide_eq_false_iff_not]
     exact fun q=>hs.iU.oY q huL
    rw[q1]
    unfold kj
    rw[if_pos aJ,gO,show fk (u:Int)=u by unfold fk;omega,hσu,this]) p hp (aP _)
  rw[ep] at this
  unfold kj at this
  rw[if_neg aJ,show fk (v:Int)=v by unfold fk;omega] at this
  exact this
structure Gj (n:Nat) (s:SR) (x:Int) (sl:List Bool) (ds:List Int) (k:Nat):Prop where
 len:sl.length=n+1
 sx:sl.getD (fk x) false=true
 mem:∀y∈ds,∃q,∃h:q<(s.ll 0).length,k≤q∧(s.ll 0)[q]=y∧s.reason.getD (fk y) 0= -1∧fh s y≠0
 nd:ds.Nodup
 done:∀q (h:q<(s.ll 0).length),k≤q→sl.getD (fk (s.ll 0)[q]) false=true→fh s (s.ll 0)[q]=0∨(s.ll 0)[q]∈ds∨∃j,j<s.nc∧(s.ll 0)[q]∈s.cl j∧∀y∈s.cl j,y≠(s.ll 0)[q]→ -y∈(s.ll 0).take q∧sl.getD (fk y) false=true
structure E0 (n:Nat) (s:SR) (x:Int) (core:List Int):Prop where
 eq:∃ds,core=x::ds∧(∀y∈ds,y∈s.ll 0∧s.reason.getD (fk y) 0= -1∧fh s y≠0)∧ds.Nodup∧∃sn:Nat→Prop,sn (fk x)∧∀q (h:q<(s.ll 0).length),sn (fk (s.ll 0)[q])→fh s (s.ll 0)[q]=0∨(s.ll 0)[q]∈ds∨∃j,j<s.nc∧(s.ll 0)[q]∈s.cl j∧∀y∈s.cl j,y≠(s.ll 0)[q]→ -y∈(s.ll 0).take q∧sn (fk y)
variable {x:Int} {sl:List Bool} {ds:List Int} {k:Nat}
theorem Gj.start (hs:fY n s) (hx:Lit n x):Gj n s x ((bZ (n+1) false).set (fk x) true) [] (s.ll 0).length where
 len:=by simp
 sx:=by rw[nN _ _ (by have:=jS hx;simp;omega),if_pos rfl]
 mem:=fun y hy=>by simp at hy
 nd:=by simp
 done:=fun q h1 h2=>by omega
theorem Gj.skip (h:Gj n s x sl ds (k+1)) (hk:k<(s.ll 0).length) (hc:sl.getD (fk (s.ll 0)[k]) false=false∨fh s (s.ll 0)[k]=0):Gj n s x sl ds k:=
 {len:=h.len,sx:=h.sx,nd:=h.nd
  mem:=fun y hy=>by obtain⟨q,p1,p2,p3⟩:=h.mem y hy;exact⟨q,p1,by omega,p3⟩
  done:=fun q h1 h2 h3=>by
   by_cases e:q=k
   ·subst e
    rcases hc with hc|hc
    ·rw[hc] at h3;cases h3
    ·exact .inl hc
   ·exact h.done q h1 aJ h3}
theorem Gj.dec (h:Gj n s x sl ds (k+1)) (hs:fY n s) (hk:k<(s.ll 0).length) (hl:fh s (s.ll 0)[k]≠0) (hr:s.reason.getD (fk (s.ll 0)[k]) 0= -1):Gj n s x sl (ds++ [(s.ll 0)[k]]) k:=
 {len:=h.len,sx:=h.sx
  nd:=by
   rw[cp]
   refine⟨h.nd,by simp,fun a ha b hb=>?_⟩
   rw[cq.1 hb]
   rintro rfl
   obtain⟨q,p1,p2,p3,_⟩:=h.mem _ ha
   have:q=k:=(dr hs.iU.nd (h₀:=by simpa using p1) (h₁:=by simpa using hk)).1 (by rw[dg,dg,p3])
   omega
  mem:=fun y hy=>by
   rcases bX.1 hy with hy|hy
   ·obtain⟨q,p1,p2,p3⟩:=h.mem y hy;exact⟨q,p1,by omega,p3⟩
   ·rw[cq.1 hy];exact⟨k,hk,aP _,rfl,hr,hl⟩
  done:=fun q h1 h2 h3=>by
   by_cases e:q=k
   ·subst e;exact .inr (.inl (by simp))
   ·exact(h.done q h1 aJ h3).imp id (Or.imp (fun p=>bX.2 (.inl p)) id)}
structure EP (n:Nat) (s:SR) (sl0:List Bool) (j:Nat) (sl:List Bool) (i:Nat):Prop where
 hi:i≤(s.cl j).length
 len:sl.length=n+1
 ge:∀v,sl0.getD v false=true→sl.getD v false=true
 le:∀v,sl.getD v false=true→sl0.getD v false=true∨∃y∈s.cl j,fk y=v
 row:∀y∈(s.cl j).take i,sl.getD (fk y) false=true
theorem EP.start {sl0:List Bool} {j:Nat} (h:sl0.length=n+1):EP n s sl0 j sl0 0:=⟨bm _,h,fun _ h=>h,fun _ h=> .inl h,fun y hy=>by simp at hy⟩
theorem EP.next {sl0:List Bool} {j i:Nat} (h:EP n s sl0 j sl i) (hi:i<(s.cl j).length) (hv:fk (s.cl j)[i]<n+1):EP n s sl0 j (sl.set (fk (s.cl j)[i]) true) (i+1):=by
 have hg:=nN sl (fk (s.cl j)[i]) (by rw[h.len];exact hv)
 refine⟨hi,by rw[cM];exact h.len,fun v hv=>?_,fun v hv=>?_,fun y hy=>?_⟩
 ·exact rP (by rw[h.len];exact ‹fk (s.cl j)[i]<n+1›) (h.ge v hv)
 ·rw[hg] at hv
  split at hv
  ·next e=>exact .inr ⟨_,cY hi,e.symm⟩
  ·exact h.le v hv
 ·rw[hg]
  split
  ·rfl
  ·next e=>
   rw[dk hi,bX,cq] at hy
   rcases hy with hy|rfl
   ·exact h.row y hy
   ·exact absurd rfl e
theorem Gj.row {j:Nat} {sl':List Bool} (h:Gj n s x sl ds (k+1)) (hs:fY n s) (hk:k<(s.ll 0).length) (hj:j<s.nc) (hm:(s.ll 0)[k]∈s.cl j) (hf:∀y∈s.cl j,y≠(s.ll 0)[k]→ -y∈(s.ll 0).take k) (hr:EP n s sl j sl' (s.cl j).length):Gj n s x sl' ds k:=
 {len:=hr.len,sx:=hr.ge _ h.sx,nd:=h.nd
  mem:=fun y hy=>by obtain⟨q,p1,p2,p3⟩:=h.mem y hy;exact⟨q,p1,by omega,p3⟩
  done:=fun q h1 h2 h3=>by
   have gG:∀y∈s.cl j,sl'.getD (fk y) false=true:=fun y hy=>hr.row y (by rw[c8];exact hy)
   by_cases e:q=k
   ·subst e
    exact .inr (.inr ⟨j,hj,hm,fun y hy gn=>⟨hf y hy gn,gG y hy⟩⟩)
   ·have h4:sl.getD (fk (s.ll 0)[q]) false=true:=by
     rcases hr.le _ h3 with p|⟨y,hy,ey⟩
     ·exact p
     ·exfalso
      by_cases e2:y=(s.ll 0)[k]
      ·subst e2
       have:k=q:=(dr hs.iU.nd (h₀:=by simpa using hk) (h₁:=by simpa using h1)).1 (by rw[dg,dg,ey])
       omega
      ·obtain⟨a,ha,e3⟩:=da (hf y hy e2)
       rw[cO] at ha
       rw[ew] at e3
       have:a=q:=(dr hs.iU.nd (h₀:=by simp;omega) (h₁:=by simpa using h1)).1 (by rw[dg,dg,e3,gO,ey])
       omega
    rcases h.done q h1 aJ h4 with p|p|⟨j',p1,p2,p3⟩
    ·exact .inl p
    ·exact .inr (.inl p)
    ·exact .inr (.inr ⟨j',p1,p2,fun y hy gn=>⟨(p3 y hy gn).1,hr.ge _ (p3 y hy gn).2⟩⟩)}
theorem Gj.out (h:Gj n s x sl ds 0):E0 n s x (x::ds):=
 ⟨ds,rfl,fun y hy=>by obtain⟨q,p1,_,p3,p4⟩:=h.mem y hy;exact⟨by rw[← p3];exact cY p1,p4⟩,h.nd,fun v=>sl.getD v false=true,h.sx,fun q hq jY=>h.done q hq (bm _) jY⟩
theorem E0.YL {core:List Int} (h:E0 n s x core) (hS:Sem n F s) (hx: -x∈s.ll 0):RD (F++s.proof) (core.map fun y=> -y):=by
 obtain⟨ds,rfl,_,_,sn,h1,h2⟩:=h.eq
 have hA:∀y,y∈x::ds→EU ((x::ds).map fun y=> -y) y:=fun y hy=>bx.2 ⟨y,hy,rfl⟩
 have key:∀i (hi:i<(s.ll 0).length),sn (fk (s.ll 0)[i])→qB (F++s.proof) (EU ((x::ds).map fun y=> -y)) (s.ll 0)[i]:=by
  intro i
  induction i using eD with
  |ind i ih=>
   intro hi jY
   rcases h2 i hi jY with q|q|⟨j,q1,q2,q3⟩
   ·exact(hS.qo _ (cY hi) q).more
   ·exact .sP (hA _ (ec _ q))
   ·refine hS.unit q1 q2 fun y hy gn=>?_
    obtain⟨p1,p2⟩:=q3 y hy gn
    obtain⟨a,ha,e⟩:=da p1
    rw[cO] at ha
    rw[ew] at e
    rw[← e]
    refine ih a aJ aJ ?_
    rw[e,gO];exact p2
 obtain⟨i,hi,e⟩:=da hx
 have hd:=key i hi (by rw[e,gO];exact h1)
 rw[e] at hd
 rcases qB.both (.sP (hA x dW)) hd with q|⟨y,q1,q2⟩
 ·exact .inl q
 ·refine .inr ⟨-y,q1,?_⟩
  exact q2
theorem E0.core {core:List Int} (h:E0 n s x core) (hI:SI n F A P0 N0 s met) (hm:s.marks.length<A.length) (Om:x∈A) (hx: -x∈s.ll 0):(∀y∈core,y∈A)∧core.Nodup∧∀y∈core,Lit n y:=by
 obtain⟨ds,rfl,h1,h2,_⟩:=h.eq
 have hs:=hI.inv
 have W0:∀y∈ds,y∈A:=fun y hy=>by
  obtain⟨q1,q2,q3⟩:=h1 y hy
  obtain⟨i,hi,rfl⟩:=da q1
  rcases hs.q7 i hi with ⟨_,p|p⟩|⟨j,_,p,_⟩
  ·rcases hI.dec _ p _ (a8 hi) q2 with r|⟨r,_⟩
   ·exact r
   ·have:=(hs.o4 q1).2;omega
  ·exact absurd p q3
  ·omega
 have wk:Lit n x:=by have:=hs.iU.zK _ hx;exact⟨by omega,by omega,by omega⟩
 refine⟨fun y hy=>?_,?_,fun y hy=>?_⟩
 ·rcases bw.1 hy with rfl|hy
  ·exact Om
  ·exact W0 y hy
 ·rw[cX]
  refine⟨fun hm=>?_,h2⟩
  exact hs.iU.oY (h1 x hm).1 hx
 ·rcases bw.1 hy with rfl|hy
  ·exact wk
  ·exact hs.iU.zK y (h1 y hy).1
end
end Go.Ab
/- A clause added to the solver,in plain terms. -/
namespace Go.Ab
open Go Go.Proofs
structure mO (n:Nat) (F:List (List Int)) (k:Nat) (s:SR):Prop where
 inv:fY n s
 kq:Sem n F s
 low:y4 n s
 marks:s.marks=[]
 proof:s.proof=[]
 added:s.added=(k:Int)
 tI:s.nc≤k
structure qi (s:SR) (c:List Int) (l:List Int) (i:Nat):Prop where
 hi:i≤c.length
 nd:l.Nodup
 sub:∀x∈l,x∈c∧x∉s.ll 0∧ -x∉s.ll 0
 cov:∀x∈c.take i,x∈l∨ -x∈s.ll 0
section
variable {n:Nat} {F:List (List Int)} {k:Nat} {s:SR} {c l:List Int} {i:Nat}
theorem qi.start:qi s c [] 0:=⟨bm _,by simp,fun x hx=>by simp at hx,fun x hx=>by simp at hx⟩
theorem qi.skip (h:qi s c l i) (hi:i<c.length) (hc:c[i]∈l∨ -c[i]∈s.ll 0):qi s c l (i+1):=
 ⟨hi,h.nd,h.sub,fun x hx=>by
  rw[dk hi,bX,cq] at hx
  rcases hx with hx|rfl
  ·exact h.cov x hx
  ·exact hc⟩
theorem qi.add (h:qi s c l i) (hi:i<c.length) (h1:c[i]∉l) (h2:c[i]∉s.ll 0) (h3: -c[i]∉s.ll 0):qi s c (l++ [c[i]]) (i+1):=
 ⟨hi,by
  rw[cp]
  exact⟨h.nd,by simp,fun a ha b hb=>by rw[cq.1 hb];rintro rfl;exact h1 ha⟩,fun x hx=>by
  rcases bX.1 hx with hx|hx
  ·exact h.sub x hx
  ·rw[cq.1 hx];exact⟨cY hi,h2,h3⟩,fun x hx=>by
  rw[dk hi,bX,cq] at hx
  rcases hx with hx|rfl
  ·exact(h.cov x hx).imp (fun q=>bX.2 (.inl q)) id
  ·exact .inl (by simp)⟩
theorem mO.nM (h:mO n F k s) {x:Int} (hx:x∈s.ll 0):fh s x=0:=by
 have:=h.inv.o4 hx
 rw[h.marks] at this
 simp at this;omega
theorem fY.O6 (h:fY n s) (a:Int) (b:Bool):fY n {s with added:=a,broken:=b}:=
 {hn:=h.hn,iU:=h.iU,val:=h.val,lvl:=h.lvl,pH:=h.pH,hd:=h.hd,oW:=h.oW,nM:=h.nM,cls:=h.cls,fresh:=h.fresh,nc:=h.nc,nw:=h.nw,wt:=h.wt,sJ:=h.sJ,sH:=h.sH,two:=h.two,qK:=h.qK,q7:=h.q7}
theorem mO.OK (h:mO n F k s) (hc:∀x∈c,Lit n x) {t:SR} (hp:t.proof=[])
  (cls:∀j,j<t.nc→(j<s.nc∧t.cl j=s.cl j)∨((∀x∈t.cl j,x∈c)∧∀x∈c,x∈t.cl j∨ -x∈s.ll 0))
  (ll:∀x∈t.ll 0,x∈s.ll 0∨(x∈c∧∀y∈c,y≠x→ -y∈s.ll 0)) (kY:∀x∈s.ll 0,x∈t.ll 0) (bad:t.broken=true→s.broken=true∨∀x∈c,-x∈s.ll 0) (Yo:s.broken=true→t.broken=true)
  (hold:∀j,j<s.nc→j<t.nc∧t.cl j=s.cl j) (nM:∀x∈t.ll 0,fh t x=0) (rep:t.broken=true∨(∃x∈c,x∈t.ll 0)∨(∃x∈c,-x∈c)∨∃j,j<t.nc∧∀x∈t.cl j,x∈c):Sem n (F++ [c]) t:=by
 have e0:F++s.proof=F:=by rw[h.proof,bt]
 have e1:F++ [c]++t.proof=F++ [c]:=by rw[hp,bt]
 have lz:∀d∈F,d∈F++ [c]:=fun d hd=>bX.2 (.inl hd)
 have NH:∀{x},x∈s.ll 0→qB (F++ [c]) Lm x:=fun hx=>(h.kq.qo _ hx (h.nM hx)).mono (by rw[e0];exact lz) fun _ h=>h
 have qf:=h.kq.lits
 rw[e0] at qf
 refine⟨?_,?_,?_,?_,?_,?_⟩
 ·rw[e1]
  intro d hd
  rcases bX.1 hd with hd|hd
  ·exact qf d hd
  ·rw[cq.1 hd];exact hc
 ·rw[e1]
  intro j hj
  rcases cls j hj with ⟨q1,q2⟩|⟨q1,q2⟩
  ·obtain⟨C,hC,p1,p2⟩:=h.kq.cls j q1
   rw[e0] at hC p2
   rw[q2]
   exact⟨C,lz C hC,p1,fun x hx=>(p2 x hx).imp id fun q=>q.mono lz fun _ h=>h⟩
  ·exact⟨c,by simp,q1,fun x hx=>(q2 x hx).imp id NH⟩
 ·rw[e1]
  intro x hx _
  rcases ll x hx with q|⟨q1,q2⟩
  ·exact NH q
  ·exact .unit (c:=c) (by simp) q1 fun y hy gn=>NH (q2 y hy gn)
 ·rw[e1]
  intro hb
  rcases bad hb with q|q
  ·exact(h.kq.bad q).cut (by rw[e0];exact lz) fun _ h=>h.elim
  ·exact⟨c,by simp,fun y hy=>NH (q y hy)⟩
 ·intro j hj;rw[hp] at hj;simp at hj
 ·intro C hC
  rcases bX.1 hC with hC|hC
  ·rcases h.kq.rep C hC with q|⟨x,q1,q2,_⟩|q|⟨j,q1,q2⟩
   ·exact .inl (Yo q)
   ·exact .inr (.inl ⟨x,q1,kY x q2,nM x (kY x q2)⟩)
   ·exact .inr (.inr (.inl q))
   ·obtain⟨p1,p2⟩:=hold j q1
    exact .inr (.inr (.inr ⟨j,p1,by rw[p2];exact q2⟩))
  ·rw[cq.1 hC]
   rcases rep with q|⟨x,q1,q2⟩|q|q
   ·exact .inl q
   ·exact .inr (.inl ⟨x,q1,q2,nM x q2⟩)
   ·exact .inr (.inr (.inl q))
   ·exact .inr (.inr (.inr q))
theorem mO.WB (h:mO n F k s) (hc:∀x∈c,Lit n x) (ht:(∃x∈c,-x∈c)∨∃x∈c,x∈s.ll 0):mO n (F++ [c]) (k+1) {s with added:=s.added+1} where
 inv:=h.inv.O6 _ _
 kq:=h.OK hc (t:={s with added:=s.added+1}) h.proof (fun j hj=> .inl ⟨hj,rfl⟩) (fun x hx=> .inl hx) (fun x hx=>hx) .inl id (fun j hj=>⟨hj,rfl⟩) (fun x hx=>h.nM hx) (.inr (ht.elim (fun q=> .inr (.inl q)) fun q=> .inl q))
 low:=h.low
 marks:=h.marks
 proof:=h.proof
 added:=by show s.added+1=_;rw[h.added];rfl
 tI:=by have:=h.tI;show s.nc≤_;omega
theorem mO.empty (h:mO n F k s) (hc:∀x∈c,Lit n x) (ha:qi s c [] c.length):mO n (F++ [c]) (k+1) {s with added:=s.added+1,broken:=true} where
 inv:=h.inv.O6 _ _
 kq:=h.OK hc (t:={s with added:=s.added+1,broken:=true}) h.proof (fun j hj=> .inl ⟨hj,rfl⟩) (fun x hx=> .inl hx) (fun x hx=>hx) (fun _=> .inr fun x hx=>(ha.cov x (by rw[c8];exact hx)).resolve_left (by simp)) (fun _=>rfl) (fun j hj=>⟨hj,rfl⟩) (fun x hx=>h.nM hx) (.inl rfl)
 low:=h.low
 marks:=h.marks
 proof:=h.proof
 added:=by show s.added+1=_;rw[h.added];rfl
 tI:=by have:=h.tI;show s.nc≤_;omega
theorem mO.unit (h:mO n F k s) (hc:∀x∈c,Lit n x) {x:Int} (ha:qi s c [x] c.length) (hv:Value):mO n (F++ [c]) (k+1) (fO {s with added:=s.added+1} x (-1) hv):=by
 obtain⟨q1,q2,q3⟩:=ha.sub x (by simp)
 have kY:(fO {s with added:=s.added+1} x (-1) hv).ll 0=s.ll 0++ [x]:=j5 _ _ _ _
 have hinv:=(h.inv.O6 (s.added+1) s.broken).push (r:= -1) hv (hc x q1) q2 q3 (.inl ⟨rfl,.inr h.marks⟩)
 have OT:∀y∈(fO {s with added:=s.added+1} x (-1) hv).ll 0,fh (fO {s with added:=s.added+1} x (-1) hv) y=0:=fun y hy=>by
  have:=hinv.o4 hy
  rw[show(fO {s with added:=s.added+1} x (-1) hv).marks=[] from h.marks] at this
  simp at this;omega
 exact
  {inv:=hinv
   kq:=h.OK hc h.proof (fun j hj=> .inl ⟨hj,rfl⟩) (fun y hy=>by
    rw[kY] at hy
    rcases bX.1 hy with hy|hy
    ·exact .inl hy
    ·rw[cq.1 hy]
     exact .inr ⟨q1,fun z hz gn=>(ha.cov z (by rw[c8];exact hz)).resolve_left (by simpa using gn)⟩) (fun y hy=>by rw[kY];exact bX.2 (.inl hy)) .inl id (fun j hj=>⟨hj,rfl⟩) OT (.inr (.inl ⟨x,q1,by rw[kY];simp⟩))
   low:=by
    obtain⟨m,p1,p2,p3,p4⟩:=h.low
    exact⟨m,p1,p2,p3,fun u h1 h2=>by rw[kY];exact(p4 u h1 h2).imp (fun q=>bX.2 (.inl q)) (fun q=>bX.2 (.inl q))⟩
   marks:=h.marks
   proof:=h.proof
   added:=by show s.added+1=_;rw[h.added];rfl
   tI:=by have:=h.tI;show s.nc≤_;omega}
theorem mO.WW (h:mO n F k s) (hc:∀x∈c,Lit n x) (hk:k<60000) (ha:qi s c l c.length) (h2:2≤l.length) (h0 h1 h3:Value):mO n (F++ [c]) (k+1) (l7 {s with added:=s.added+1} l h0 h1 h3):=by
 have hncl:=h.tI
 have lY:∀x∈l,Lit n x:=fun x hx=>hc x (ha.sub x hx).1
 exact
  {inv:=(h.inv.O6 (s.added+1) s.broken).attach h2 ha.nd lY (by show s.nc+1≤_;omega) fun x hx=>(ha.sub x hx).2.2
   kq:=h.OK hc h.proof (fun j hj=>by
    have hj:j<s.nc+1:=hj
    show(j<s.nc∧e_ s.cl s.nc l j=s.cl j)∨((∀x∈e_ s.cl s.nc l j,x∈c)∧∀x∈c,x∈e_ s.cl s.nc l j∨ -x∈s.ll 0)
    by_cases e:j=s.nc
    ·subst e
     rw[e7]
     exact .inr ⟨fun x hx=>(ha.sub x hx).1,fun x hx=>ha.cov x (by rw[c8];exact hx)⟩
    ·have e:¬j=s.nc:=e
     exact .inl ⟨by omega,fC _ _ e⟩) (fun x hx=> .inl hx) (fun x hx=>hx) .inl id (fun j hj=>⟨by show j<s.nc+1;omega,fC _ _ (by show j≠s.nc;omega)⟩) (fun x hx=>h.nM hx) (.inr (.inr (.inr ⟨s.nc,by show s.nc<s.nc+1;omega,by show ∀x∈e_ s.cl s.nc l s.nc,x∈c;rw[e7];exact fun x hx=>(ha.sub x hx).1⟩)))
   low:=h.low
   marks:=h.marks
   proof:=h.proof
   added:=by show s.added+1=_;rw[h.added];rfl
   tI:=by show s.nc+1≤_;omega}
theorem mO.si (h:mO n F k s) (A:List Int):SI n F A 0 k s 0 where
 inv:=h.inv
 kq:=h.kq
 dec:=fun m hm=>by rw[h.marks] at hm;simp at hm
 sP:=fun i hi=>by rw[h.marks] at hi;simp at hi
 plen:=by rw[h.proof];rfl
 tI:=h.tI
 wrd:=bm _
 low:=h.low
def mw (n:Nat):SR:=⟨bZ (n+1) 0,bZ (n+1) 0,bZ (n+1) 0,[],1,0,0,false,fun _=> .slice none 0 0,fun _=>[],0,fun _=> .slice none 0 0,fun _=>[],2*n+2,fun _=> .slice none 0 0,fun _=>[],[],[],[]⟩
theorem EI (hn:n≤20000):mO n [] 0 (mw n) where
 inv:=
  {hn:=hn
   iU:=⟨fun x hx=>by simp [mw] at hx,by simp [mw]⟩
   val:=by
    show bZ (n+1) 0=lX n []
    apply List.ext_getElem (by simp [lX])
    intro i _ _
    simp [lX]
   lvl:=by simp [mw]
   pH:=by simp [mw]
   hd:=⟨eG _,eG _⟩
   oW:=fun m hm=>by simp [mw] at hm
   nM:=fun i hi=>by simp [mw] at hi
   cls:=fun j hj=>by simp [mw] at hj
   fresh:=fun j _=>⟨rfl,rfl⟩
   nc:=by simp [mw]
   nw:=rfl
   wt:=fun x _ e he=>by simp [mw] at he
   sJ:=fun k=>by simp [mw]
   sH:=fun j hj=>by simp [mw] at hj
   two:=fun j hj=>by simp [mw] at hj
   qK:=by simp [mw]
   q7:=fun i hi=>by simp [mw] at hi}
 kq:=⟨fun c hc=>by simp [mw] at hc,fun j hj=>by simp [mw] at hj,fun x hx=>by simp [mw] at hx,fun hb=>by simp [mw] at hb,fun i hi=>by simp [mw] at hi,fun C hC=>by simp at hC⟩
 low:=⟨1,rfl,by omega,by omega,fun u h1 h2=>by omega⟩
 marks:=rfl
 proof:=rfl
 added:=rfl
 tI:=aP _
end
end Go.Ab
/- The solver:the assumptions to blame;the end of a search,walked. -/
namespace Go.Ab
open Go Go.Proofs
open Nat (reduceAdd reduceSub)
set_option maxRecDepth 20000
set_option maxHeartbeats 4000000
theorem vR {l:List Bool} {n:Nat} (h:n<l.length):l.getD n false=l[n]:=by simp [c6,h]
theorem JX (l:List Bool) (i:Nat):(l.map kX).set i [PV.lit (.bool true)]=(l.set i true).map kX:=by
 rw[List.map_set];rfl
theorem SD (n:Nat):bZ n [PV.lit (.bool false)]=(bZ n false).map kX:=by
 rw[List.map_replicate];rfl
attribute [local irreducible] gG AW a_ gr fz AR fH fv fM gk lk me
theorem Lw (s:SR) (core:List Int) (hl:core.length≤100000) (hb:∀x∈core,-1000000≤x∧x≤1000000) (hp:s.proof.length≤1000000):oP Tryz.prog 60 11 (ie s) [.ptr 0 0,.pv (ke core)] (ie {s with core:=core,proof:=s.proof++ [core.map fun y=> -y]}) (eU 2):=by
 simp only[ie,ij]
 refine oP.enter (n:=30) Tryz.func60 rfl rfl rfl rfl rfl (by decide) rfl rfl fun g fp fl=>?_;refine s9 ?_
 (refine zq ?_;refine lK ?_;refine wP ?_;refine zm ?_;refine a_.fw rfl rfl rfl ?_;refine a_.c_ 96 9 14 rfl rfl rfl rfl ?_;(with_reducible apply a_.gy);(iterate 5 exact rfl);exact ag;(iterate 3 exact rfl);(with_reducible assumption);refine Q0 ?_;refine ko ?_;refine zm ?_;refine zn ?_;refine a_.tn rfl rfl rfl rfl rfl rfl rfl rfl aJ ?_;refine Q0 ?_;refine B8 ?_;refine zo ?_;refine qw ?_;refine nq ?_)
 (refine Q0 ?_;apply AW.gJ [16,15,4,0,1000] [11,0,1,2,3,4,5,6,7,8,9,10] (fun k:Nat=>([(5,.own 11 3 1 (((core.take k).map fun y=> -y).map encI)),(17,eU k)]:List (Nat×AV))) (fun k:Nat=>([]:List (Nat×Option Ob))) (fun k:Nat=>k≤core.length) (fun k:Nat=>core.length - k) (0);(conv=>lhs;simp only[Nf.ot,Nf.all,df,reduceAdd,reduceSub]);(all_goals skip))
 ·exact bm _
 ·exact fe rfl (by(refine aC ?_;(iterate 6 refine aC ?_);exact trivial)) (by(refine aF ?_;refine⟨.box _ rfl ?_,?_⟩;(iterate 15 refine aC ?_);exact trivial;(iterate 3 refine aF ?_);refine⟨.fb rfl (by first|with_reducible rfl|(with_reducible rfl)),?_⟩;(iterate 2 refine aF ?_);refine⟨.fb rfl (by first|with_reducible rfl|(with_reducible rfl)),?_⟩;refine aF ?_;refine⟨.fb rfl (by first|with_reducible rfl|(with_reducible rfl)),?_⟩;refine aF ?_;exact trivial)) rfl
 rintro k hk
 by_cases fy:k<core.length
 ·obtain⟨b1,b2⟩:=hb _ (cY fy)
  have e:((core.take (k+1)).map fun y=> -y).map encI=((core.take k).map fun y=> -y).map encI++ [[PV.lit (.int .i64 (-core[k]))]]:=by
   rw[dk fy,cR,cR];rfl
  (refine zq ?_;refine zs ?_;refine kW ?_;refine Q6 ?_;refine kJ ?_;refine aA ?_;refine zr ?_;refine lK ?_;refine tu ?_;refine Lh ?_;(with_reducible apply a_.oE);(iterate 5 exact rfl);exact ag;exact rfl;exact rfl;refine Q0 ?_;(with_reducible apply a_.fD);exact rfl;exact ah;(iterate 9 exact rfl);exact aa;refine Q0 ?_;refine vG ?_;refine td ?_)
  exact⟨k+1,by omega,by omega,fe rfl (by(refine⟨.ff (by first|rfl|exact e.symm) rfl,?_⟩;(iterate 2 refine⟨.fm (by first|rfl|exact e.symm),?_⟩);refine⟨.iz (by first|rfl|exact e.symm),?_⟩;refine⟨.fm (by first|rfl|exact e.symm),?_⟩;(iterate 2 refine aC ?_);exact trivial)) (by(refine aF ?_;refine⟨.box _ rfl ?_,?_⟩;(iterate 3 refine⟨.ff (by first|rfl|exact e.symm) rfl,?_⟩);refine⟨.fm (by first|rfl|exact e.symm),?_⟩;refine⟨.ff (by first|rfl|exact e.symm) rfl,?_⟩;refine⟨.fm (by first|rfl|exact e.symm),?_⟩;(iterate 2 refine⟨.ff (by first|rfl|exact e.symm) rfl,?_⟩);(iterate 3 refine⟨.fm (by first|rfl|exact e.symm),?_⟩);refine⟨.ff (by first|rfl|exact e.symm) rfl,?_⟩;refine⟨.fm (by first|rfl|exact e.symm),?_⟩;(iterate 2 refine⟨.iz (by first|rfl|exact e.symm),?_⟩);exact trivial;(iterate 3 refine aF ?_);refine⟨.fb rfl (by first|rfl|exact e.symm),?_⟩;(iterate 2 refine aF ?_);refine⟨.fb rfl (by first|rfl|exact e.symm),?_⟩;refine aF ?_;refine⟨.fb rfl (by first|rfl|exact e.symm),?_⟩;refine aF ?_;exact trivial)) rfl⟩
 ·obtain rfl:k=core.length:=by omega
  rw[c8]
  have ox:=HW {s with core:=core} (core.map fun y=> -y) (by rw[a6];omega) hp
  simp only[ie,ij] at ox
  (refine Cp ?_;refine wP ?_;refine a_.fX rfl rfl rfl ?_;refine a_.M3 rfl rfl ?_;refine Q0 ?_;refine zX (ox) ?_;refine k9 ?_;refine ko ?_;refine ku ?_)
  (apply iJ;((exact gm.one (.tmp rfl rfl)));((exact qA));((exact Q2));exact rfl)
theorem Kr (n:Nat) (s:SR) (hs:fY n s) (x:Int) (hx: -x∈s.ll 0):vo Tryz.prog 63 11 (ie s) [.ptr 0 0,eU x] (fun core:List Int=>E0 n s x core) (fun _=>ie s) (fun core=> .pv (ke core)):=by
 have sA:=hs.hn
 have kY:=hs.iU.len
 have A_:=hs.nc
 have M_:=hs.pH
 have Rg:=hs.lvl
 have wk:=hs.iU.zK _ hx
 have EA:s.value.length=n+1:=by rw[hs.val,kE]
 have Ts:0≤max x (-x):=by omega
 have zY:(max x (-x)).toNat<n+1:=by omega
 have PY:(max x (-x)).toNat<(bZ (n+1) false).length:=by rw[List.length_replicate];exact zY
 have i_:=Gj.start hs (x:=x) ⟨by omega,by omega,by omega⟩
 unfold fk at i_
 have LR:bZ ((s.value.length:Nat):Int).toNat [PV.lit (.bool false)]=(bZ (n+1) false).map kX:=by rw[dq,EA];exact SD (n+1)
 have nD:=JX (bZ (n+1) false) (max x (-x)).toNat
 simp only[ie,ij]
 refine vo.enter (n:=106) Tryz.func63 rfl rfl rfl rfl rfl (by decide) rfl (fun _=>rfl) fun g fp fl=>?_;refine s9 ?_
 (refine zq ?_;refine lK ?_;refine Rj ?_;refine PQ ?_;refine Q0 ?_;refine B8 ?_;(with_reducible apply AW.xe 2);(rw[LR]);refine kJ ?_;refine a_.fX rfl rfl rfl ?_;refine JD ?_;refine tw ?_;(with_reducible apply a_.gQ);(iterate 4 exact rfl);exact ag;(iterate 3 exact rfl);refine Q0 ?_;refine ko ?_;refine zm ?_;(with_reducible apply a_.oE);(iterate 5 exact rfl);exact ag;exact rfl;exact rfl;refine Q0 ?_;refine B8 ?_;refine zo ?_;refine vh ?_;refine Gq ?_;refine Bc ?_;refine AW.block ?_)
 (refine Q0 ?_;apply AW.gJ [4,0,1000] [12,11,0,1,2,3,4,5,6,7,8,9,10] (fun q:List Bool×List Int×Nat=>([(5,.own 11 4 1 (q.1.map kX)),(6,.own 12 3 1 ((x::q.2.1).map encI)),(7,eU ((q.2.2:Int) - 1))]:List (Nat×AV))) (fun q:List Bool×List Int×Nat=>([]:List (Nat×Option Ob))) (fun q:List Bool×List Int×Nat=>(Gj n s x q.1 q.2.1 q.2.2∧q.2.2≤(s.ll 0).length)) (fun q:List Bool×List Int×Nat=>q.2.2) (((bZ (n+1) false).set (max x (-x)).toNat true,([]:List Int),(s.ll 0).length));(conv=>lhs;simp only[Nf.ot,Nf.all,df,reduceAdd,reduceSub]);(all_goals skip))
 ·exact⟨i_,aP _⟩
 ·exact fe rfl (by(refine⟨.ff (by first|rfl|exact nD) rfl,?_⟩;refine⟨.ff (by first|rfl|exact nD) rfl,?_⟩;(iterate 2 refine⟨.fm (by first|rfl|exact nD),?_⟩);(iterate 2 refine aC ?_);exact trivial)) (by(refine aF ?_;refine aF ?_;refine⟨.box _ rfl ?_,?_⟩;(iterate 3 refine⟨.ff (by first|rfl|exact nD) rfl,?_⟩);refine⟨.fm (by first|rfl|exact nD),?_⟩;refine⟨.ff (by first|rfl|exact nD) rfl,?_⟩;refine⟨.fm (by first|rfl|exact nD),?_⟩;(iterate 2 refine⟨.ff (by first|rfl|exact nD) rfl,?_⟩);(iterate 3 refine⟨.fm (by first|rfl|exact nD),?_⟩);refine⟨.ff (by first|rfl|exact nD) rfl,?_⟩;refine⟨.fm (by first|rfl|exact nD),?_⟩;(iterate 2 refine⟨.iz (by first|rfl|exact nD),?_⟩);exact trivial;(iterate 3 refine aF ?_);refine⟨.fb rfl (by first|rfl|exact nD),?_⟩;(iterate 2 refine aF ?_);refine⟨.fb rfl (by first|rfl|exact nD),?_⟩;refine aF ?_;refine⟨.fb rfl (by first|rfl|exact nD),?_⟩;refine aF ?_;exact trivial)) rfl
 rintro⟨sl,ds,k⟩ ⟨hB,hk⟩
 simp only at hB hk
 have S5:=hB.len
 cases k with
 |zero=>
  have mq:=hB.out
  (refine zo ?_;refine qw ?_;refine a_.geq rfl rfl rfl rfl rfl ?_;refine zd ?_;refine AW.j8 rfl rfl ?_;refine I6 ?_;refine kJ ?_;refine Fk ?_)
  (apply hX ((x::ds:List Int)) (mq);((exact gm.one (.tmp rfl rfl)));((refine⟨.B3 rfl (by first|with_reducible rfl|(rfl)),?_⟩;exact vM));((exact Q2));exact rfl)
 |succ k=>
  have ek:((k+1:Nat):Int) - 1=(k:Int):=by omega
  have MX:(k:Int).toNat<(s.ll 0).length:=by omega
  have Mq:k<(s.ll 0).length:=by omega
  obtain⟨y,hy⟩:∃y,y=(s.ll 0)[(k:Int).toNat]:=⟨_,rfl⟩
  have F3:(s.ll 0)[k]=y:=hy.symm
  have y8:=hs.iU.zK _ (cY MX)
  rw[← hy] at y8
  have Ke:0≤max y (-y):=by omega
  have Jq:(max y (-y)).toNat<n+1:=by omega
  have Ew:(max y (-y)).toNat<sl.length:=by omega
  have Am:(max y (-y)).toNat<s.level.length:=by omega
  have ZU:(max y (-y)).toNat<s.reason.length:=by omega
  have MT:sl.getD (fk y) false=sl[(max y (-y)).toNat]:=vR Ew
  have NV:fh s y=s.level[(max y (-y)).toNat]:=fJ Am
  have hg3:s.reason.getD (fk y) 0=s.reason[(max y (-y)).toNat]:=fJ ZU
  have hlv0:=hs.o4 (cY MX)
  rw[← hy,NV] at hlv0
  rw[ek]
  cases jY:sl[(max y (-y)).toNat] with
  |false=>
   have SN:(!sl[(max y (-y)).toNat])=true:=by rw[jY];rfl
   have sO:=hB.skip Mq (.inl (by rw[F3,MT];exact jY))
   (refine OO ?_;refine zm ?_;(with_reducible apply a_.e9 4);(iterate 8 exact rfl);exact ab;exact ab;refine aw ?_;refine lK ?_;(with_reducible apply AW.xe 8);(rw[← hy]);refine M0 ?_;refine au ?_;refine IJ ?_;refine U7 ?_;refine Q0 ?_;refine zm ?_;refine Bc ?_)
   exact Q63
  |true=>
   have SN:(!sl[(max y (-y)).toNat])=false:=by rw[jY];rfl
   by_cases xb:s.level[(max y (-y)).toNat]=0
   ·have sO:=hB.skip Mq (.inr (by rw[F3,NV];exact xb))
    (refine OO ?_;refine zm ?_;(with_reducible apply a_.e9 4);(iterate 8 exact rfl);exact ab;exact ab;refine aw ?_;refine lK ?_;(with_reducible apply AW.xe 8);(rw[← hy]);refine M0 ?_;refine au ?_;refine a_.not rfl rfl rfl ?_;refine TD ?_;refine au ?_;refine HC ?_;refine jD ?_;refine Jy ?_;refine Q0 ?_;refine zm ?_;refine Bc ?_)
    exact Q63
   ·by_cases xp:s.reason[(max y (-y)).toNat]= -1
    ·have sO:=hB.dec hs Mq (by rw[F3,NV];exact xb) (by rw[F3,hg3];exact xp)
     rw[F3] at sO
     have C9:ds.length≤1000000:=by
      have:=kO (n:=2*n+2) (l:=ds.map eX) (by
       unfold List.Nodup
       rw[dC]
       exact hB.nd.imp_of_mem fun {a b} ha hb sS e=>sS (iw (n:=n) (by obtain⟨q,p1,_,p3,_⟩:=hB.mem a ha;rw[← p3];exact hs.iU.zK _ (cY p1)) (by obtain⟨q,p1,_,p3,_⟩:=hB.mem b hb;rw[← p3];exact hs.iU.zK _ (cY p1)) (by rw[e]))) fun v hv=>by
       obtain⟨a,ha,rfl⟩:=bx.1 hv
       obtain⟨q,p1,_,p3,_⟩:=hB.mem a ha
       have:=gT (hs.iU.zK _ (cY p1))
       rw[p3] at this
       omega
      simp only[a6] at this
      omega
     (refine OO ?_;refine zm ?_;(with_reducible apply a_.e9 4);(iterate 8 exact rfl);exact ab;exact ab;refine aw ?_;refine lK ?_;(with_reducible apply AW.xe 8);(rw[← hy]);refine M0 ?_;refine au ?_;refine a_.not rfl rfl rfl ?_;refine TD ?_;refine au ?_;refine HC ?_;refine qx ?_;refine vh ?_;refine a_.c_ 94 2 2 rfl rfl rfl rfl ?_;refine iY ?_;refine tw ?_;refine au ?_;refine a_.eql rfl rfl rfl rfl rfl ?_;refine jD ?_;refine kJ ?_;refine se ?_;(with_reducible apply a_.oE);(iterate 5 exact rfl);exact ag;exact rfl;exact rfl;refine Q0 ?_;(with_reducible apply a_.fD);exact rfl;exact ah;(iterate 9 exact rfl);exact aa;refine Q0 ?_;refine B8 ?_;refine Jy ?_;refine Q0 ?_;refine zm ?_;refine Bc ?_)
     exact⟨(sl,ds++ [y],k),⟨sO,show k≤(s.ll 0).length by omega⟩,by show k<k+1;omega,fe rfl (by(refine⟨.ff (by first|rfl|(rw[← bu,cR];rfl)) rfl,?_⟩;refine⟨.ff (by first|rfl|(rw[← bu,cR];rfl)) rfl,?_⟩;refine⟨.fm (by first|rfl|(rw[← bu,cR];rfl)),?_⟩;refine⟨.fm (by first|rfl|(rw[← bu,cR];rfl)),?_⟩;(iterate 2 refine aC ?_);exact trivial)) (by(refine aF ?_;refine aF ?_;refine⟨.box _ rfl ?_,?_⟩;refine⟨.ff (by first|rfl|(rw[← bu,cR];rfl)) rfl,?_⟩;refine⟨.ff (by first|rfl|(rw[← bu,cR];rfl)) rfl,?_⟩;refine⟨.ff (by first|rfl|(rw[← bu,cR];rfl)) rfl,?_⟩;refine⟨.fm (by first|rfl|(rw[← bu,cR];rfl)),?_⟩;refine⟨.ff (by first|rfl|(rw[← bu,cR];rfl)) rfl,?_⟩;refine⟨.fm (by first|rfl|(rw[← bu,cR];rfl)),?_⟩;refine⟨.ff (by first|rfl|(rw[← bu,cR];rfl)) rfl,?_⟩;refine⟨.ff (by first|rfl|(rw[← bu,cR];rfl)) rfl,?_⟩;refine⟨.fm (by first|rfl|(rw[← bu,cR];rfl)),?_⟩;refine⟨.fm (by first|rfl|(rw[← bu,cR];rfl)),?_⟩;refine⟨.fm (by first|rfl|(rw[← bu,cR];rfl)),?_⟩;refine⟨.ff (by first|rfl|(rw[← bu,cR];rfl)) rfl,?_⟩;refine⟨.fm (by first|rfl|(rw[← bu,cR];rfl)),?_⟩;refine⟨.iz (by first|rfl|(rw[← bu,cR];rfl)),?_⟩;refine⟨.iz (by first|rfl|(rw[← bu,cR];rfl)),?_⟩;exact trivial;(iterate 3 refine aF ?_);refine⟨.fb rfl (by first|rfl|(rw[← bu,cR];rfl)),?_⟩;(iterate 2 refine aF ?_);refine⟨.fb rfl (by first|rfl|(rw[← bu,cR];rfl)),?_⟩;refine aF ?_;refine⟨.fb rfl (by first|rfl|(rw[← bu,cR];rfl)),?_⟩;refine aF ?_;exact trivial)) rfl⟩
    ·obtain⟨j,hj,hR,hmj,hfj⟩:=(hs.q7 k Mq).resolve_left (by rw[F3,hg3];exact fun q=>xp q.1)
     rw[F3] at hR hmj hfj
     rw[hg3] at hR
     have hR1:0≤s.reason[(max y (-y)).toNat]:=by omega
     have hR2:(s.reason[(max y (-y)).toNat]).toNat<s.nc:=by omega
     have iX:=hs.FT hj
     have qf:=(hs.cls j hj).2.2
     have Xy:=lZ s.nc s.hc
     (refine OO ?_;refine zm ?_;(with_reducible apply a_.e9 4);(iterate 8 exact rfl);exact ab;exact ab;refine aw ?_;refine lK ?_;(with_reducible apply AW.xe 8);(rw[← hy]);refine M0 ?_;refine au ?_;refine a_.not rfl rfl rfl ?_;refine TD ?_;refine au ?_;refine HC ?_;refine qx ?_;refine vh ?_;refine a_.c_ 94 2 2 rfl rfl rfl rfl ?_;refine iY ?_;refine tw ?_;refine au ?_;refine a_.eql rfl rfl rfl rfl rfl ?_;refine qx ?_;(with_reducible apply AW.gb);exact rfl;exact rfl;kernel_rfl;(with_reducible assumption);refine Mt ?_;refine zb ?_;refine wx ?_;refine a_.c_ 94 2 2 rfl rfl rfl rfl ?_;refine iY ?_;refine tw ?_;refine au ?_;refine TG ?_;refine a_.jP rfl rfl rfl rfl (fun h_=>by cases h_) aJ ?_;refine a_.pR 7 rfl rfl rfl rfl rfl ?_;refine zp ?_)
     rw[hR,dq j]
     (refine Q0 ?_;apply AW.gJ [93,92,6,7,4,0,1000] [12,11,0,1,2,3,4,5,6,7,8,9,10] (fun p:List Bool×Nat=>([(5,.own 11 4 1 (p.1.map kX)),(94,eU p.2)]:List (Nat×AV))) (fun p:List Bool×Nat=>([]:List (Nat×Option Ob))) (fun p:List Bool×Nat=>EP n s sl j p.1 p.2) (fun p:List Bool×Nat=>(s.cl j).length - p.2) ((sl,0));(conv=>lhs;simp only[Nf.ot,Nf.all,df,reduceAdd,reduceSub]);(all_goals skip))
     ·exact .start S5
     ·exact fe rfl (by(refine aE ?_;(iterate 3 refine aD ?_);refine aE ?_;(iterate 2 refine aD ?_);(iterate 2 refine aC ?_);exact trivial)) (by(refine aF ?_;refine aF ?_;refine⟨.box _ rfl ?_,?_⟩;(iterate 3 refine aE ?_);refine aD ?_;refine aE ?_;refine aD ?_;(iterate 2 refine aE ?_);(iterate 3 refine aD ?_);refine aE ?_;refine aD ?_;(iterate 2 refine aG ?_);exact trivial;(iterate 3 refine aF ?_);refine aH ?_;(iterate 2 refine aF ?_);refine aH ?_;refine aF ?_;refine aH ?_;refine aF ?_;exact trivial)) rfl
     rintro⟨sl2,i⟩ hW
     simp only at hW
     have hwi:=hW.hi
     have Cs:=hW.len
     by_cases fy:i<(s.cl j).length
     ·have vT:(i:Int).toNat<(s.cl j).length:=by omega
      obtain⟨z,hz⟩:∃z,z=(s.cl j)[(i:Int).toNat]:=⟨_,rfl⟩
      have JG:(s.cl j)[i]=z:=hz.symm
      have Yh:=qf _ (cY vT)
      rw[← hz] at Yh
      obtain⟨_,_,_⟩:=Yh
      have hw0:0≤max z (-z):=by omega
      have Ue:(max z (-z)).toNat<sl2.length:=by omega
      have QZ:=hW.next fy (by rw[JG];unfold fk;omega)
      rw[JG] at QZ
      have lU:=JX sl2 (max z (-z)).toNat
      (refine ru ?_;(with_reducible apply a_.e9 7);(iterate 8 exact rfl);exact ab;exact ab;refine ax ?_;refine lK ?_;(with_reducible apply AW.atR 15);(rw[← hz]);refine tu ?_;refine a_.fX rfl rfl rfl ?_;refine JD ?_;refine tw ?_;(with_reducible apply a_.gQ);(iterate 4 exact rfl);exact ag;(iterate 3 exact rfl);refine Q0 ?_;refine Bt ?_)
      exact⟨(sl2.set (fk z) true,i+1),QZ,by show(s.cl j).length - (i+1)<(s.cl j).length - i;omega,fe rfl (by(refine⟨.ff (by first|rfl|exact lU) rfl,?_⟩;(iterate 3 refine⟨.fm (by first|rfl|exact lU),?_⟩);refine⟨.ff (by first|rfl|exact lU) rfl,?_⟩;(iterate 2 refine⟨.fm (by first|rfl|exact lU),?_⟩);(iterate 2 refine aC ?_);exact trivial)) (by(refine aF ?_;refine aF ?_;refine⟨.box _ rfl ?_,?_⟩;(iterate 3 refine⟨.ff (by first|rfl|exact lU) rfl,?_⟩);refine⟨.fm (by first|rfl|exact lU),?_⟩;refine⟨.ff (by first|rfl|exact lU) rfl,?_⟩;refine⟨.fm (by first|rfl|exact lU),?_⟩;(iterate 2 refine⟨.ff (by first|rfl|exact lU) rfl,?_⟩);(iterate 3 refine⟨.fm (by first|rfl|exact lU),?_⟩);refine⟨.ff (by first|rfl|exact lU) rfl,?_⟩;refine⟨.fm (by first|rfl|exact lU),?_⟩;(iterate 2 refine⟨.iz (by first|rfl|exact lU),?_⟩);exact trivial;(iterate 3 refine aF ?_);refine⟨.fb rfl (by first|rfl|exact lU),?_⟩;(iterate 2 refine aF ?_);refine⟨.fb rfl (by first|rfl|exact lU),?_⟩;refine aF ?_;refine⟨.fb rfl (by first|rfl|exact lU),?_⟩;refine aF ?_;exact trivial)) rfl⟩
     ·obtain rfl:i=(s.cl j).length:=by omega
      have sO:=hB.row hs Mq hj (by rw[F3];exact hmj) (by rw[F3];exact hfj) hW
      (refine kJ ?_;refine zs ?_;refine kW ?_;refine zk ?_;refine AW.exit ?_;(iterate 2 refine kB ?_);refine iC ?_;refine uH ?_;refine Q0 ?_;refine zm ?_;refine Bc ?_)
      exact⟨(sl2,ds,k),⟨sO,show k≤(s.ll 0).length by omega⟩,by show k<k+1;omega,fe rfl (by(refine aE ?_;refine aE ?_;(iterate 2 refine aD ?_);(iterate 2 refine aC ?_);exact trivial)) (by(refine aF ?_;refine aF ?_;refine⟨.box _ rfl ?_,?_⟩;(iterate 3 refine aE ?_);refine aD ?_;refine aE ?_;refine aD ?_;(iterate 2 refine aE ?_);(iterate 3 refine aD ?_);refine aE ?_;refine aD ?_;(iterate 2 refine aG ?_);exact trivial;(iterate 3 refine aF ?_);refine aH ?_;(iterate 2 refine aF ?_);refine aH ?_;refine aF ?_;refine aH ?_;refine aF ?_;exact trivial)) rfl⟩
end Go.Ab
