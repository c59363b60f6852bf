/- The solver's invariant, in plain terms: a literal pushed, a literal propagated, the kept watches. -/
import Derived.Test.YtigjjjpcjnifhaaGreatDoorAvA2
import Derived.Test.YtigjjjpcjnifhaaGreatDoorAbZ
import Derived.Test.YtigjjjpcjnifhaaGreatDoorAbL3
set_option linter.unusedSimpArgs false
set_option linter.unusedVariables false
open List renaming getD_eq_getElem?_getD→c8,getElem?_set→bH,countP_eq_length→dR,length_set→cN,length_append→bW,length_singleton→dC,getElem_append_left→dS,getElem_mem→cZ,getElem_append_right→dU,getElem_cons_zero→dW,take_append_of_le_length→cS,mem_of_mem_take→cT,mem_append→bX,take_length→da,getElem_of_mem→dc,countP_le_length→dX,take_succ_eq_append_getElem→dp,mem_singleton→cq,getElem_inj→du,length_take→dI,append_assoc→dZ,drop_eq_getElem_cons→dm,nodup_append→cp,nodup_cons→cY,mem_cons→bw,pairwise_map→dB,mem_map→bx,mem_of_getElem?→aU,mem_cons_self→eb,getElem?_eq_getElem→a8,getElem?_eq_some_iff→aW,getElem_set_self→ec,take_set_of_le→ed,getElem?_append_left→aT,append_nil→bt,length_drop→cR,countP_congr→ee,mem_cons_of_mem→ef,mem_map_of_mem→dA,countP_cons→eg,replicate→bZ,getElem?_replicate→eh,countP_eq_zero→eo,take_sublist→er,map_append→cV,getElem_take→ew,getElem_map→dj,countP_pos_iff→ez,countP_append→eA,countP_nil→eB,mem_take_iff_getElem→eC,take_append_drop→dz,pairwise_iff_getElem→eD,take_take→eF,length_map→a6,cons_append→bu
open Int renaming neg_neg→dv,toNat_natCast→dt,le_refl→eG,not_lt→eJ
open Nat renaming le_refl→aP,sub_self→dV,min_eq_left→dY,zero_le→bm,zero_add→ba,strongRecOn→dK,lt_of_not_le→eE,exists_eq_add_of_le→eH,add_assoc→bG,pow_pos→eI,le_trans→aQ,reduceBEq→di
open Bool renaming false_and→c7,and_self→eu,and_eq_true→aZ
namespace Go.Ab
open Go Go.Proofs
theorem iH {s:SR} {x r:Int} {h:Value} {y:Int} (fW:fa y≠fa x):e_ (fF s x r h) y=e_ s y:=by
 unfold e_ fF
 simp only
 rw[c8,c8,bH,if_neg (Ne.symm fW)]
theorem my {n:Nat} {s:SR} (hs:fR n s) {x r:Int} {h:Value} (hx:Lit n x):e_ (fF s x r h) x=s.marks.length:=by
 unfold e_ fF
 simp only
 have:=jm hx
 rw[c8,bH,if_pos rfl,if_pos (by rw[hs.lvl];omega)];rfl
theorem ov {n:Nat} {L:List Int} {x y:Int} (h1:x∉L) (h2: -x∉L) (hy:y∈L∨ -y∈L):fa y≠fa x:=fun e=>by
 rcases Ez.1 e with rfl|rfl
 ·rcases hy with hy|hy
  ·exact h1 hy
  ·exact h2 hy
 ·rcases hy with hy|hy
  ·exact h2 hy
  ·rw[dv] at hy;exact h1 hy
theorem qg {l:List Int} {b:Int} (h:∀m∈l,m≤b):l.countP (fun m=>decide (m≤b))=l.length:=by
 rw[dR]
 intro m hm
 simpa using h m hm
theorem fR.push {n:Nat} {s:SR} (hs:fR n s) {x r:Int} (h:Value) (hx:Lit n x) (h1:x∉s.ll 0) (h2: -x∉s.ll 0) (hr:(r= -1∧(((s.ll 0).length:Int)∈s.marks∨s.marks=[]))∨∃j:Nat,j<s.nc∧r=(j:Int)∧x∈s.cl j∧∀y∈s.cl j,y≠x→ -y∈s.ll 0):fR n (fF s x r h):=by
 have ke:(fF s x r h).ll 0=s.ll 0++ [x]:=by show eZ s.ll 0 (s.ll 0++ [x]) 0=_;exact eW _ _ _
 have hold:∀{y},y∈s.ll 0∨ -y∈s.ll 0→fa y≠fa x:=fun hy=>ov (n:=n) h1 h2 hy
 have sI:∀{y},fa y≠fa x→(fF s x r h).reason.getD (fa y) 0=s.reason.getD (fa y) 0:=fun {y} hy=>by
  unfold fF
  simp only
  rw[c8,c8,bH,if_neg (Ne.symm hy)]
 have J3:s.head.toNat≤(s.ll 0).length:=by have:=hs.hd;omega
 exact
  {hn:=hs.hn
   ix:=by rw[ke];exact hs.ix.push hx h1 h2
   val:=by rw[ke];show s.value.set (fa x) (qt x)=_;rw[hs.val];exact xG hx h1 h2
   lvl:=by show(s.level.set _ _).length=_;rw[cN];exact hs.lvl
   od:=by show(s.reason.set _ _).length=_;rw[cN];exact hs.od
   hd:=by rw[ke];have:=hs.hd;simp only[bW,dC];exact⟨this.1,by show s.head≤_;omega⟩
   nD:=hs.nD
   pc:=hs.pc
   ml:=fun i hi=>by
    simp only[ke] at hi ⊢
    have kb:i<(s.ll 0).length+1:=by simpa using hi
    by_cases e:i<(s.ll 0).length
    ·rw[dS e,iH (hold (.inl (cZ e)))]
     exact hs.ml i e
    ·have e2:i=(s.ll 0).length:=by omega
     subst e2
     rw[dU (aP _)]
     simp only[dV,dW]
     rw[my hs hx]
     show _=((s.marks.countP _:Nat):Int)
     rw[qg fun m hm=>by have:=hs.nD m hm;have:=hs.hd;omega]
   cls:=hs.cls,fresh:=hs.fresh,nc:=hs.nc,nw:=hs.nw,wt:=hs.wt,qL:=hs.qL,qH:=hs.qH
   two:=fun j hj w w' hw iJ=>by
    have iJ: -w∈((fF s x r h).ll 0).take s.head.toNat:=iJ
    rw[ke,cS J3] at iJ
    obtain⟨q1,q2⟩:=hs.two j hj w w' hw iJ
    rw[ke,iH (hold (.inl q1)),iH (hold (.inr (cT iJ)))]
    exact⟨bX.2 (.inl q1),q2⟩
   pY:=fun i hi=>by
    simp only[ke] at hi ⊢
    have kb:i<(s.ll 0).length+1:=by simpa using hi
    by_cases e:i<(s.ll 0).length
    ·rw[dS e,sI (hold (.inl (cZ e))),cS aJ,iH (hold (.inl (cZ e)))]
     exact hs.pY i e
    ·have e2:i=(s.ll 0).length:=by omega
     subst e2
     rw[dU (aP _)]
     simp only[dV,dW]
     have e3:(fF s x r h).reason.getD (fa x) 0=r:=by
      have:=jm hx
      unfold fF
      simp only
      rw[c8,bH,if_pos rfl,if_pos (by rw[hs.od];omega)];rfl
     rw[e3,cS (aP _),da,my hs hx]
     rcases hr with ⟨q1,q2⟩|q
     ·refine .inl ⟨q1,q2.imp id fun q=>?_⟩
      rw[q];rfl
     ·exact .inr q}
theorem fR.done {n:Nat} {s:SR} (hs:fR n s) (hh:s.head.toNat<(s.ll 0).length) {g:Int} (hg:g= -(s.ll 0)[s.head.toNat]) (hE:∀e∈s.wl (eQ g).toNat,∃j:Nat,j<s.nc∧e=(j:Int)∧c1 (s.cl j)=g∧c0 (s.cl j)∈s.ll 0):fR n {s with head:=s.head+1}:=by
 have hh0:=hs.hd
 have Tz: -g∈s.ll 0:=by rw[hg,dv];exact cZ hh
 have Zj:e_ s g=s.marks.length:=by
  have e:e_ s g=e_ s (s.ll 0)[s.head.toNat]:=by unfold e_;rw[hg,gD]
  rw[e,hs.ml _ hh,qg fun m hm=>by have:=hs.nD m hm;omega]
 have hle:∀y∈s.ll 0,e_ s y≤s.marks.length:=fun y hy=>by
  obtain⟨i,hi,rfl⟩:=dc hy
  rw[hs.ml i hi]
  have:=dX (p:=fun m=>decide (m≤(i:Int))) (l:=s.marks)
  omega
 exact
  {hn:=hs.hn,ix:=hs.ix,val:=hs.val,lvl:=hs.lvl,od:=hs.od
   hd:=⟨by show 0≤s.head+1;omega,by show s.head+1≤((s.ll 0).length:Int);omega⟩
   nD:=fun m hm=>by have:=hs.nD m hm;exact⟨this.1,by show m≤s.head+1;omega⟩
   pc:=hs.pc
   ml:=hs.ml,cls:=hs.cls,fresh:=hs.fresh,nc:=hs.nc,nw:=hs.nw,wt:=hs.wt,qL:=hs.qL,qH:=hs.qH
   two:=fun j hj w w' hw iJ=>by
    have iJ: -w∈(s.ll 0).take (s.head+1).toNat:=iJ
    rw[show(s.head+1).toNat=s.head.toNat+1 by omega,dp hh,bX,cq] at iJ
    rcases iJ with iJ|iJ
    ·exact hs.two j hj w w' hw iJ
    ·have ZT:w=g:=by rw[hg,← iJ,dv]
     subst ZT
     have wQ:(j:Int)∈s.wl (eQ w).toNat:=by
      rcases hw with ⟨e,_⟩|⟨e,_⟩
      ·rw[e];exact(hs.qH j hj).1
      ·rw[e];exact(hs.qH j hj).2
     obtain⟨k,hk,e,q1,q2⟩:=hE _ wQ
     have:k=j:=by omega
     subst this
     have iP:w'=c0 (s.cl k):=by
      rcases hw with ⟨e1,e2⟩|⟨_,e2⟩
      ·exfalso
       obtain⟨p1,p2,_⟩:=hs.cls k hk
       rw[show c0 (s.cl k)=(s.cl k)[0] from fy aJ] at e1
       rw[show c1 (s.cl k)=(s.cl k)[1] from fy aJ,e1] at q1
       have:=(du p2 (h₀:=by omega) (h₁:=by omega)).1 q1
       omega
      ·exact e2
     rw[iP]
     refine⟨q2,?_⟩
     show e_ s (c0 (s.cl k))≤e_ s w
     rw[Zj]
     exact hle _ q2
   pY:=hs.pY}
theorem sP {R:List Int} {m i:Nat} (hm:m≤i) (hi:i<R.length):(R.set m R[i]).take (m+1)++(R.set m R[i]).drop (i+1)=R.take m++R.drop i:=by
 rw[List.take_set,List.drop_set,if_pos aJ,dp aJ,List.set_append_right _ _ (by simp;omega)]
 simp only[dI]
 rw[dY aJ,dV,List.set_cons_zero,dZ,List.singleton_append,← dm hi]
theorem drop_one {A B:List Int} {x:Int} (h:(A++x::B).Nodup) (e:Int):e∈A++B↔e∈A++x::B∧e≠x:=by
 have h1:=cp.1 h
 have h2:=cY.1 h1.2.1
 simp only[bX,bw]
 constructor
 ·rintro(h3|h3)
  ·exact⟨.inl h3,fun e'=>h1.2.2 _ h3 x (by simp) e'⟩
  ·exact⟨.inr (.inr h3),fun e'=>h2.1 (e'▸h3)⟩
 ·rintro⟨h3|rfl|h3,h4⟩
  ·exact .inl h3
  ·exact absurd rfl h4
  ·exact .inr h3
theorem Dj {A B:List Int} {x:Int} (h:(A++x::B).Nodup):(A++B).Nodup:=h.sublist (List.Sublist.append_left (List.sublist_cons_self _ _) _)
end Go.Ab
/- The solver's propagation,in plain terms:what it may turn,and how far it has come. -/
namespace Go.Ab
open Go Go.Proofs
structure tM (s t:SR):Prop where
 marks:t.marks=s.marks
 low:t.low=s.low
 added:t.added=s.added
 broken:t.broken=s.broken
 nc:t.nc=s.nc
 hc:t.hc=s.hc
 nw:t.nw=s.nw
 proof:t.proof=s.proof
 model:t.model=s.model
 core:t.core=s.core
 ll:∃ys,t.ll 0=s.ll 0++ys
 cl:∀j,lk (s.cl j) (t.cl j)
 Au:∀x∈s.ll 0,t.reason.getD (fa x) 0=s.reason.getD (fa x) 0
 new:∀x∈t.ll 0,x∉s.ll 0→t.reason.getD (fa x) 0≠ -1
theorem lk.refl (c:List Int):lk c c:=⟨rfl,id,fun _=>Iff.rfl⟩
theorem lk.trans {c d e:List Int} (h:lk c d) (k:lk d e):lk c e:=⟨k.len.trans h.len,fun x=>k.nd (h.nd x),fun x=>(k.mem x).trans (h.mem x)⟩
theorem tM.refl (s:SR):tM s s:=⟨rfl,rfl,rfl,rfl,rfl,rfl,rfl,rfl,rfl,rfl,⟨[],by simp⟩,fun _=> .refl _,fun _ _=>rfl,fun _ h k=>absurd h k⟩
theorem tM.DK {s t:SR} (h:tM s t) {cl:Nat→List Int} {hw:Nat→Value} {wl:Nat→List Int} {hd:Int} (iR:∀j,lk (t.cl j) (cl j)):tM s {t with cl:=cl,hw:=hw,wl:=wl,head:=hd} where
 marks:=h.marks
 low:=h.low
 added:=h.added
 broken:=h.broken
 nc:=h.nc
 hc:=h.hc
 nw:=h.nw
 proof:=h.proof
 model:=h.model
 core:=h.core
 ll:=h.ll
 cl:=fun j=>(h.cl j).trans (iR j)
 Au:=h.Au
 new:=h.new
theorem lP {s:SR} {x r:Int} {h:Value} {y:Int} (fW:fa y≠fa x):(fF s x r h).reason.getD (fa y) 0=s.reason.getD (fa y) 0:=by
 unfold fF
 simp only
 rw[c8,c8,bH,if_neg (Ne.symm fW)]
theorem jA (s:SR) (x r:Int) (h:Value):(fF s x r h).ll 0=s.ll 0++ [x]:=by
 show eZ s.ll 0 (s.ll 0++ [x]) 0=_
 exact eW _ _ _
theorem tM.push {n:Nat} {s t:SR} (h:tM s t) (ht:t.reason.length=n+1) {x r:Int} {hv:Value} (hx:Lit n x) (h1:x∉t.ll 0) (h2: -x∉t.ll 0) (hr:r≠ -1):tM s (fF t x r hv) where
 marks:=h.marks
 low:=h.low
 added:=h.added
 broken:=h.broken
 nc:=h.nc
 hc:=h.hc
 nw:=h.nw
 proof:=h.proof
 model:=h.model
 core:=h.core
 ll:=by
  obtain⟨ys,e⟩:=h.ll
  exact⟨ys++ [x],by rw[jA,e,dZ]⟩
 cl:=h.cl
 Au:=fun y hy=>by
  obtain⟨ys,e⟩:=h.ll
  rw[lP (ov (n:=n) h1 h2 (.inl (by rw[e];exact bX.2 (.inl hy))))]
  exact h.Au y hy
 new:=fun y hy Z7=>by
  rw[jA,bX,cq] at hy
  rcases hy with hy|rfl
  ·rw[lP (ov (n:=n) h1 h2 (.inl hy))]
   exact h.new y hy Z7
  ·have:=jm hx
   unfold fF
   simp only
   rw[c8,bH,if_pos rfl,if_pos (by rw[ht];omega)];exact hr
theorem fR.hw {n:Nat} {s:SR} (h:fR n s) (hv:Nat→Value):fR n {s with hw:=hv}:=
 {hn:=h.hn,ix:=h.ix,val:=h.val,lvl:=h.lvl,od:=h.od,hd:=h.hd,nD:=h.nD,ml:=h.ml,cls:=h.cls,fresh:=h.fresh,nc:=h.nc,nw:=h.nw,wt:=h.wt,qL:=h.qL,qH:=h.qH,two:=h.two,pc:=h.pc,pY:=h.pY}
theorem jN {n:Nat} {l:List Int} (h:l.Nodup) (hl:∀x∈l,0≤x∧x<n):l.length≤n:=by
 have:=sY n (l:=l.map fun x=>(x+1).toNat) (by
  unfold List.Nodup
  rw[dB]
  exact h.imp_of_mem fun {a b} ha hb qh e=>by have:=hl a ha;have:=hl b hb;omega) fun v hv=>by
  obtain⟨x,hx,rfl⟩:=bx.1 hv
  have:=hl x hx
  omega
 simpa using this
theorem fR.Fj {n:Nat} {s:SR} (h:fR n s) {x:Int} (hx:Lit n x):(s.wl (eQ x).toNat).length≤s.nc:=
 jN (h.qL _) fun e he=>by
  obtain⟨j,hj,rfl,_⟩:=h.wt x hx e he
  omega
theorem fR.CR {n:Nat} {s:SR} (h:fR n s) {j:Nat} (hj:j<s.nc):(s.cl j).length≤2*n+2:=by
 obtain⟨_,h2,h3⟩:=h.cls j hj
 have:=jN (n:=2*n+2) (l:=(s.cl j).map eQ) (by
  unfold List.Nodup
  rw[dB]
  exact h2.imp_of_mem fun {a b} ha hb qh e=>qh (gU (h3 a ha) (h3 b hb) (by rw[e]))) fun v hv=>by
  obtain⟨x,hx,rfl⟩:=bx.1 hv
  have:=hY (h3 x hx)
  omega
 simpa using this
structure ud (n:Nat) (s0:SR) (hd:Int) (N:Nat) (g:Int) (s:SR) (m i:Nat):Prop where
 inv:fR n {s with wl:=eZ s.wl (eQ g).toNat ((s.wl (eQ g).toNat).take m++(s.wl (eQ g).toNat).drop i)}
 ext:tM s0 s
 len:(s.wl (eQ g).toNat).length=N
 mi:m≤i
 iN:i≤N
 hd:s.head=hd
 hh:(s.ll 0)[s.head.toNat]? =some (-g)
 done:∀e∈(s.wl (eQ g).toNat).take m,∃j:Nat,j<s.nc∧e=(j:Int)∧c1 (s.cl j)=g∧c0 (s.cl j)∈s.ll 0
theorem fR.Pk {n:Nat} {s:SR} (h:fR n s) {wl:Nat→List Int} (e:wl=s.wl):fR n {s with wl:=wl}:=by subst e;exact h
theorem ud.start {n:Nat} {s0 s:SR} {g:Int} (h:fR n s) (he:tM s0 s) (hh:(s.ll 0)[s.head.toNat]? =some (-g)):ud n s0 s.head (s.wl (eQ g).toNat).length g s 0 0 where
 inv:=h.Pk (by simp only[List.take_zero,List.drop_zero,List.nil_append];exact vd _ _)
 ext:=he
 len:=rfl
 mi:=aP _
 iN:=bm _
 hd:=rfl
 hh:=hh
 done:=fun e he=>by simp at he
section
variable {n:Nat} {s0:SR} {hd:Int} {N:Nat} {g:Int} {s:SR} {m i:Nat}
theorem ud.gl (h:ud n s0 hd N g s m i):Lit n g∧ -g∈s.ll 0:=by
 have hm:=aU h.hh
 have:=h.inv.ix.xg (-g) hm
 exact⟨⟨by omega,by omega,by omega⟩,hm⟩
theorem ud.clause (h:ud n s0 hd N g s m i) (hi:i<N):∃j:Nat,j<s.nc∧(s.wl (eQ g).toNat)[i]? =some (j:Int)∧(c0 (s.cl j)=g∨c1 (s.cl j)=g)∧((j:Int)∉(s.wl (eQ g).toNat).take m)∧2≤(s.cl j).length∧(s.cl j).length≤2*n+2∧(s.cl j).Nodup∧∀x∈s.cl j,Lit n x:=by
 have qW:i<(s.wl (eQ g).toNat).length:=by rw[h.len];exact hi
 have wQ:(s.wl (eQ g).toNat)[i]∈eZ s.wl (eQ g).toNat ((s.wl (eQ g).toNat).take m++(s.wl (eQ g).toNat).drop i) (eQ g).toNat:=by
  rw[eW,bX]
  exact .inr (by rw[dm qW];exact eb)
 obtain⟨j,hj,e,hw⟩:=h.inv.wt g h.gl.1 _ wQ
 obtain⟨q1,q2,q3⟩:=h.inv.cls j hj
 refine⟨j,hj,by rw[a8 qW,e],hw,fun hm=>?_,q1,h.inv.CR hj,q2,q3⟩
 have hn:=h.inv.qL (eQ g).toNat
 simp only[eW] at hn
 refine(cp.1 hn).2.2 _ hm _ ?_ rfl
 rw[dm qW,e];simp
theorem ud.bnd (h:ud n s0 hd N g s m i):s.value.length=n+1∧s.level.length=n+1∧s.reason.length=n+1∧n≤20000∧(s.ll 0).length≤n∧s.marks.length≤s.marks.length∧s.nw=2*n+2∧s.nc≤100000:=
 ⟨by have:=h.inv.val;show s.value.length=_;rw[show s.value=kW n (s.ll 0) from this,j5],h.inv.lvl,h.inv.od,h.inv.hn,h.inv.ix.len,aP _,h.inv.nw,h.inv.nc⟩
theorem ud.swap (h:ud n s0 hd N g s m i) {j:Nat} (hj:j<s.nc) (IE:(j:Int)∉(s.wl (eQ g).toNat).take m) {d:List Int} (hp:lk (s.cl j) d) (h0:c0 d=c1 (s.cl j)) (h1:c1 d=c0 (s.cl j)):ud n s0 hd N g {s with cl:=eZ s.cl j d} m i where
 inv:=h.inv.swap hj hp h0 h1
 ext:=h.ext.DK fun k=>by
  unfold eZ;split
  ·next e=>subst e;exact hp
  ·exact .refl _
 len:=h.len
 mi:=h.mi
 iN:=h.iN
 hd:=h.hd
 hh:=h.hh
 done:=fun e he=>by
  obtain⟨k,q1,q2,q3,q4⟩:=h.done e he
  have fW:k≠j:=by rintro rfl;exact IE (q2▸he)
  exact⟨k,q1,q2,by show c1 (eZ s.cl j d k)=g;rw[ft _ _ fW];exact q3,by show c0 (eZ s.cl j d k)∈_;rw[ft _ _ fW];exact q4⟩
theorem ud.keep (h:ud n s0 hd N g s m i) {j:Nat} (hj:j<s.nc) (hi:(s.wl (eQ g).toNat)[i]? =some (j:Int)) (Dq:c1 (s.cl j)=g) (Am:c0 (s.cl j)∈s.ll 0):ud n s0 hd N g {s with wl:=eZ s.wl (eQ g).toNat ((s.wl (eQ g).toNat).set m (j:Int))} (m+1) (i+1):=by
 obtain⟨qW,e⟩:=aW.1 hi
 have hm:=h.mi
 have mq:eZ (eZ s.wl (eQ g).toNat ((s.wl (eQ g).toNat).set m (j:Int))) (eQ g).toNat ((eZ s.wl (eQ g).toNat ((s.wl (eQ g).toNat).set m (j:Int)) (eQ g).toNat).take (m+1)++(eZ s.wl (eQ g).toNat ((s.wl (eQ g).toNat).set m (j:Int)) (eQ g).toNat).drop (i+1))=eZ s.wl (eQ g).toNat ((s.wl (eQ g).toNat).take m++(s.wl (eQ g).toNat).drop i):=by
  rw[jr,eW,← e,sP hm qW]
 exact
  {inv:=by
    have:=h.inv
    rw[← mq] at this
    exact this
   ext:=h.ext.DK fun _=> .refl _
   len:=by show(eZ s.wl (eQ g).toNat ((s.wl (eQ g).toNat).set m (j:Int)) (eQ g).toNat).length=_;rw[eW,cN];exact h.len
   mi:=by omega
   iN:=by rw[← h.len];omega
   hd:=h.hd,hh:=h.hh
   done:=fun x hx=>by
    have hx:x∈(eZ s.wl (eQ g).toNat ((s.wl (eQ g).toNat).set m (j:Int)) (eQ g).toNat).take (m+1):=hx
    rw[eW,dp (by simp;omega),bX,cq,ec,ed (aP _)] at hx
    rcases hx with hx|rfl
    ·exact h.done x hx
    ·exact⟨j,hj,rfl,Dq,Am⟩}
theorem ud.move (h:ud n s0 hd N g s m i) {j:Nat} (hj:j<s.nc) (hi:(s.wl (eQ g).toNat)[i]? =some (j:Int)) (IE:(j:Int)∉(s.wl (eQ g).toNat).take m) (Dq:c1 (s.cl j)=g) {d:List Int} {y:Int} (hp:lk (s.cl j) d) (h0:c0 d=c0 (s.cl j)) (h1:c1 d=y) (GJ:y≠g) (OT:y≠c0 (s.cl j)) (T1: -y∉s.ll 0) (hv:Nat→Value):
  ud n s0 hd N g {s with cl:=eZ s.cl j d,hw:=hv,wl:=eZ s.wl (eQ y).toNat (s.wl (eQ y).toNat++ [(j:Int)])} m (i+1):=by
 obtain⟨qW,e⟩:=aW.1 hi
 have wY:Lit n y:=by
  obtain⟨q1,q2,q3⟩:=h.inv.cls j hj
  have q1:2≤(s.cl j).length:=q1
  have q3:∀x∈s.cl j,Lit n x:=q3
  refine q3 y ((hp.mem y).1 ?_)
  rw[← h1]
  exact(jR (by rw[hp.len];exact q1)).2
 have fW:(eQ g).toNat≠(eQ y).toNat:=fun q=>GJ (gU wY h.gl.1 q.symm)
 have oY:eZ s.wl (eQ y).toNat (s.wl (eQ y).toNat++ [(j:Int)]) (eQ g).toNat=s.wl (eQ g).toNat:=ft _ _ fW
 have hE:(s.wl (eQ g).toNat).take m++(s.wl (eQ g).toNat).drop i=(s.wl (eQ g).toNat).take m++(j:Int)::(s.wl (eQ g).toNat).drop (i+1):=by
  rw[dm qW,e]
 have jl:((s.wl (eQ g).toNat).take m++(j:Int)::(s.wl (eQ g).toNat).drop (i+1)).Nodup:=by
  have:=h.inv.qL (eQ g).toNat
  simp only[eW] at this
  rw[hE] at this
  exact this
 have hm:=h.inv.move hj hp Dq h.gl.2 h0 h1 GJ OT T1 (E:=(s.wl (eQ g).toNat).take m++(s.wl (eQ g).toNat).drop i) (E':=(s.wl (eQ g).toNat).take m++(s.wl (eQ g).toNat).drop (i+1)) (by exact eW _ _ _) (fun x=>by rw[hE];exact drop_one jl x) (Dj jl) hv
 exact
  {inv:=by
    have e2:eZ (eZ (eZ s.wl (eQ g).toNat ((s.wl (eQ g).toNat).take m++(s.wl (eQ g).toNat).drop i)) (eQ y).toNat (eZ s.wl (eQ g).toNat ((s.wl (eQ g).toNat).take m++(s.wl (eQ g).toNat).drop i) (eQ y).toNat++ [(j:Int)])) (eQ g).toNat ((s.wl (eQ g).toNat).take m++(s.wl (eQ g).toNat).drop (i+1))
      =eZ (eZ s.wl (eQ y).toNat (s.wl (eQ y).toNat++ [(j:Int)])) (eQ g).toNat ((eZ s.wl (eQ y).toNat (s.wl (eQ y).toNat++ [(j:Int)]) (eQ g).toNat).take m++(eZ s.wl (eQ y).toNat (s.wl (eQ y).toNat++ [(j:Int)]) (eQ g).toNat).drop (i+1)):=by
     rw[oY,ft (k:=(eQ g).toNat) _ _ (Ne.symm fW)]
     funext x
     unfold eZ
     split
     ·rfl
     ·rfl
    simp only at hm
    rw[e2] at hm
    exact hm
   ext:=h.ext.DK fun k=>by
    unfold eZ;split
    ·next q=>subst q;exact hp
    ·exact .refl _
   len:=by show(eZ s.wl (eQ y).toNat (s.wl (eQ y).toNat++ [(j:Int)]) (eQ g).toNat).length=_;rw[oY];exact h.len
   mi:=by have:=h.mi;omega
   iN:=by rw[← h.len];omega
   hd:=h.hd,hh:=h.hh
   done:=fun x hx=>by
    have EH:x∈(eZ s.wl (eQ y).toNat (s.wl (eQ y).toNat++ [(j:Int)]) (eQ g).toNat).take m:=hx
    rw[oY] at EH
    obtain⟨k,q1,q2,q3,q4⟩:=h.done x EH
    have fW:k≠j:=fun q=>IE (by rw[← q,← q2];exact EH)
    exact⟨k,q1,q2,by show c1 (eZ s.cl j d k)=g;rw[ft _ _ fW];exact q3,by show c0 (eZ s.cl j d k)∈_;rw[ft _ _ fW];exact q4⟩}
theorem ud.push (h:ud n s0 hd N g s m i) {j:Nat} (hj:j<s.nc) (hi:(s.wl (eQ g).toNat)[i]? =some (j:Int)) (Dq:c1 (s.cl j)=g) (hf:∀y∈s.cl j,y≠c0 (s.cl j)→ -y∈s.ll 0) (h1:c0 (s.cl j)∉s.ll 0) (h2: -(c0 (s.cl j))∉s.ll 0) (hv:Value):
  ud n s0 hd N g (fF {s with wl:=eZ s.wl (eQ g).toNat ((s.wl (eQ g).toNat).set m (j:Int))} (c0 (s.cl j)) (j:Int) hv) (m+1) (i+1):=by
 obtain⟨qW,e⟩:=aW.1 hi
 have hm:=h.mi
 obtain⟨q1,q2,q3⟩:=h.inv.cls j hj
 have Qj:Lit n (c0 (s.cl j)):=q3 _ (jR q1).1
 have mq:eZ (eZ s.wl (eQ g).toNat ((s.wl (eQ g).toNat).set m (j:Int))) (eQ g).toNat ((eZ s.wl (eQ g).toNat ((s.wl (eQ g).toNat).set m (j:Int)) (eQ g).toNat).take (m+1)++(eZ s.wl (eQ g).toNat ((s.wl (eQ g).toNat).set m (j:Int)) (eQ g).toNat).drop (i+1))=eZ s.wl (eQ g).toNat ((s.wl (eQ g).toNat).take m++(s.wl (eQ g).toNat).drop i):=by
  rw[jr,eW,← e,sP hm qW]
 have hinv:=h.inv.push (r:=(j:Int)) hv Qj h1 h2 (.inr ⟨j,hj,rfl,(jR q1).1,hf⟩)
 exact
  {inv:=by
    have:=hinv
    unfold fF at this ⊢
    simp only at this ⊢
    rw[mq]
    exact this
   ext:=(h.ext.DK (t:=s) (cl:=s.cl) (hw:=s.hw) (wl:=eZ s.wl (eQ g).toNat ((s.wl (eQ g).toNat).set m (j:Int))) (hd:=s.head) fun _=> .refl _).push (n:=n) h.inv.od Qj h1 h2 (by omega)
   len:=by show(eZ s.wl (eQ g).toNat ((s.wl (eQ g).toNat).set m (j:Int)) (eQ g).toNat).length=_;rw[eW,cN];exact h.len
   mi:=by omega
   iN:=by rw[← h.len];omega
   hd:=h.hd
   hh:=by
    rw[jA]
    show(s.ll 0++_)[s.head.toNat]? =_
    have:=h.hh
    rw[aT (aW.1 this).1]
    exact this
   done:=fun x hx=>by
    have hx:x∈(eZ s.wl (eQ g).toNat ((s.wl (eQ g).toNat).set m (j:Int)) (eQ g).toNat).take (m+1):=hx
    rw[eW,dp (by simp;omega),bX,cq,ec,ed (aP _)] at hx
    rw[jA]
    rcases hx with hx|rfl
    ·obtain⟨k,p1,p2,p3,p4⟩:=h.done x hx
     exact⟨k,p1,p2,p3,bX.2 (.inl p4)⟩
    ·exact⟨j,hj,rfl,Dq,by simp;exact .inr rfl⟩}
theorem ud.fin (h:ud n s0 hd N g s m N) (hv:Nat→Value):fR n {s with hw:=hv,wl:=eZ s.wl (eQ g).toNat ((s.wl (eQ g).toNat).take m),head:=s.head+1}:=by
 have h1:=h.inv
 have e:(s.wl (eQ g).toNat).take m++(s.wl (eQ g).toNat).drop N=(s.wl (eQ g).toNat).take m:=by rw[List.drop_eq_nil_of_le (by rw[h.len];exact aP _),bt]
 rw[e] at h1
 obtain⟨q1,q2⟩:=aW.1 h.hh
 refine(h1.done (g:=g) q1 (by show g= -(s.ll 0)[s.head.toNat];rw[q2,dv]) fun x hx=>?_).hw hv
 have hx:x∈eZ s.wl (eQ g).toNat ((s.wl (eQ g).toNat).take m) (eQ g).toNat:=hx
 rw[eW] at hx
 exact h.done x hx
end
theorem Ek {R:List Int} {m i:Nat} {x:Int} (hm:m≤i) (hi:i<R.length) (hx:R[i]=x):(((R.set m x).take (m+1)++(R.set m x).drop ((i:Int)+1).toNat)++(R.set m x).drop (m+1+(R.length - ((i:Int)+1).toNat))).take (m+1+(R.length - ((i:Int)+1).toNat))=R.take m++R.drop i:=by
 have e:((i:Int)+1).toNat=i+1:=by omega
 have hl:((R.set m x).take (m+1)++(R.set m x).drop (i+1)).length=m+1+(R.length - (i+1)):=by
  simp only[bW,dI,cR,cN];omega
 rw[e,cS (by rw[hl];exact aP _),List.take_of_length_le (by rw[hl];exact aP _),← hx,sP hm hi]
structure Ho (n:Nat) (s t:SR) (r:Int):Prop where
 inv:fR n t
 ext:tM s t
 res:(r= -1∧t.head=((t.ll 0).length:Int))∨∃j:Nat,j<t.nc∧r=(j:Int)∧∀x∈t.cl j,-x∈t.ll 0
theorem AW.atR {P:Program} {g:eR} {δ:DS} {Q:Exit→DS→Prop} (id:Nat) {l:Array Oper} {b:Bool} (h:AW P g (.region id l b) Q δ):AW P g (.region id l b) Q δ:=h
theorem AW.vU {P:Program} {g:eR} {δ:DS} {Q:Exit→DS→Prop} (id:Nat) {l:Array Oper} {b:Bool} {c:Code} (h:AW P g (.seq (.region id l b) c) Q δ):AW P g (.seq (.region id l b) c) Q δ:=h
def Stop (p:Prop):Prop:=p
theorem Stop.go {p:Prop} (h:p):Stop p:=h
section
variable {P:Program} {g:eR} {δ:DS} {Q:Exit→DS→Prop} {l:Array Oper} {b:Bool} {c:Code}
theorem AW.lq (id:Nat) (h:Stop (AW P g (.seq (.region id l b) c) Q δ)):AW P g (.seq (.region id l b) c) Q δ:=h
theorem AW.Nh (id:Nat) (h:Stop (AW P g (.region id l b) Q δ)):AW P g (.region id l b) Q δ:=h
end
end Go.Ab
/- The solver's conflict analysis,in plain terms:how far it has come,and what it gives. -/
namespace Go.Ab
open Go Go.Proofs
theorem DB {l:List Int} {p q:Int→Bool} {y:Int} (hn:(l.map fa).Nodup) (hy:y∈l) (hp:p y=false) (hq:q y=true) (hz:∀z∈l,fa z≠fa y→q z=p z):l.countP q=l.countP p+1:=by
 induction l with
 |nil=>simp at hy
 |cons a l ih=>
  rw[List.map_cons,cY] at hn
  rcases bw.1 hy with rfl|hy
  ·have:l.countP q=l.countP p:=by
    apply ee
    intro z GM
    rw[hz z (ef _ GM) fun e=>hn.1 (e▸dA GM)]
   rw[eg,eg,this,hp,hq];simp
  ·have fW:fa a≠fa y:=fun e=>hn.1 (e▸dA hy)
   rw[eg,eg,ih hn.2 hy fun z GM=>hz z (ef _ GM),hz a eb fW]
   omega
theorem mJ (l:List Bool) (v:Nat) (hv:v<l.length) (u:Nat):(l.set v true).getD u false=if u=v then true else l.getD u false:=by
 rw[c8,bH]
 by_cases e:v=u
 ·subst e;rw[if_pos rfl,if_pos hv,if_pos rfl];rfl
 ·rw[if_neg e,if_neg (Ne.symm e),c8]
theorem qm {l:List Bool} {v u:Nat} (hv:v<l.length) (h:l.getD u false=true):(l.set v true).getD u false=true:=by
 rw[mJ l v hv]
 by_cases e:u=v
 ·rw[if_pos e]
 ·rw[if_neg e];exact h
structure o4 (n:Nat) (s:SR) (sl:List Bool) (rest:List Int) (op:Nat) (tz:Int) (k:Nat):Prop where
 len:sl.length=n+1
 sub:∀v,sl.getD v false=true→∃x∈s.ll 0,fa x=v∧0<e_ s x
 low:∀x∈s.ll 0,sl.getD (fa x) false=true→e_ s x<s.marks.length→ -x∈rest
 rst:∀x∈rest,-x∈s.ll 0∧sl.getD (fa x) false=true∧0<e_ s x∧e_ s x<s.marks.length∧e_ s x≤tz
 rnd:(rest.map fa).Nodup
 tto:(tz=0∧rest=[])∨∃x∈rest,e_ s x=tz
 cnt:op=((s.ll 0).take k).countP fun x=>sl.getD (fa x) false && decide (e_ s x=s.marks.length)
theorem ie (s:SR) (x:Int):e_ s (-x)=e_ s x:=by unfold e_;rw[gD]
theorem fR.nF {n:Nat} {s:SR} (hs:fR n s) {x:Int} (hx:x∈s.ll 0):0≤e_ s x∧e_ s x≤s.marks.length:=by
 obtain⟨i,hi,rfl⟩:=dc hx
 rw[hs.ml i hi]
 have:=dX (p:=fun m=>decide (m≤(i:Int))) (l:=s.marks)
 omega
theorem o4.start {n:Nat} {s:SR} (k:Nat):o4 n s (bZ (n+1) false) [] 0 0 k where
 len:=by simp
 sub:=fun v hv=>by simp [c8,eh] at hv;split at hv<;>simp at hv
 low:=fun x _ hv=>by simp [c8,eh] at hv;split at hv<;>simp at hv
 rst:=fun x hx=>by simp at hx
 rnd:=by simp
 tto:=.inl ⟨rfl,rfl⟩
 cnt:=by
  symm
  rw[eo]
  intro x _
  have:(bZ (n+1) false).getD (fa x) false=false:=by
   rw[c8,eh];split<;>rfl
  rw[this];simp
section
variable {n:Nat} {s:SR} {sl:List Bool} {rest:List Int} {op:Nat} {tz:Int} {k:Nat}
theorem jG.yZ {n:Nat} {L:List Int} (h:jG n L) {x:Int} (hx: -x∈L):fa x<n+1:=by
 have:=jm (h.xg _ hx)
 rw[gD] at this
 omega
theorem o4.cur (h:o4 n s sl rest op tz k) (hs:fR n s) {x:Int} (hx: -x∈(s.ll 0).take k) (kZ:sl.getD (fa x) false=false) (hl:e_ s x=s.marks.length) (hm:0<s.marks.length):o4 n s (sl.set (fa x) true) rest (op+1) tz k:=by
 have PT:=cT hx
 have hv:fa x<sl.length:=by rw[h.len];exact hs.ix.yZ PT
 have hg:=mJ sl (fa x) hv
 exact
  {len:=by rw[cN];exact h.len
   sub:=fun v x5=>by
    rw[hg] at x5
    split at x5
    ·next e=>subst e;exact⟨-x,PT,gD x,by rw[ie,hl];omega⟩
    ·exact h.sub v x5
   low:=fun y hy h1 h2=>by
    rw[hg] at h1
    split at h1
    ·next e=>
     exfalso
     have:y= -x:=hs.ix.once hy PT (by rw[gD,e])
     rw[this,ie,hl] at h2;omega
    ·exact h.low y hy h1 h2
   rst:=fun y hy=>by
    obtain⟨q1,q2,q3⟩:=h.rst y hy
    exact⟨q1,qm hv q2,q3⟩
   rnd:=h.rnd
   tto:=h.tto
   cnt:=by
    rw[h.cnt]
    symm
    refine DB (y:= -x) ?_ hx ?_ ?_ ?_
    ·rw[List.map_take];exact hs.ix.nd.sublist (er _ _)
    ·simp only[gD,kZ,c7]
    ·simp only[gD,hg,ie,hl,if_pos,decide_true,eu]
    ·intro z _ hz
     rw[gD] at hz
     simp only[hg,if_neg hz]}
theorem o4.Au (h:o4 n s sl rest op tz k) (hs:fR n s) {x:Int} (hx: -x∈s.ll 0) (kZ:sl.getD (fa x) false=false) (hl:e_ s x≠s.marks.length) (h0:e_ s x≠0):o4 n s (sl.set (fa x) true) (rest++ [x]) op (max tz (e_ s x)) k:=by
 have hv:fa x<sl.length:=by rw[h.len];exact hs.ix.yZ hx
 have hg:=mJ sl (fa x) hv
 have hle:=hs.nF hx
 rw[ie] at hle
 exact
  {len:=by rw[cN];exact h.len
   sub:=fun v x5=>by
    rw[hg] at x5
    split at x5
    ·next e=>subst e;exact⟨-x,hx,gD x,by rw[ie];omega⟩
    ·exact h.sub v x5
   low:=fun y hy h1 h2=>by
    rw[hg] at h1
    split at h1
    ·next e=>
     have:y= -x:=hs.ix.once hy hx (by rw[gD,e])
     rw[this,dv];simp
    ·exact bX.2 (.inl (h.low y hy h1 h2))
   rst:=fun y hy=>by
    rcases bX.1 hy with hy|hy
    ·obtain⟨q1,q2,q3,q4,q5⟩:=h.rst y hy
     exact⟨q1,qm hv q2,q3,q4,by omega⟩
    ·rw[cq.1 hy]
     exact⟨hx,by rw[hg,if_pos rfl],by omega,by omega,by omega⟩
   rnd:=by
    rw[cV,cp]
    refine⟨h.rnd,by simp,fun a ha b hb=>?_⟩
    obtain⟨y,hy,rfl⟩:=bx.1 ha
    simp at hb
    subst hb
    intro e
    have:=(h.rst y hy).2.1
    rw[e,kZ] at this;cases this
   tto:=by
    right
    rcases h.tto with ⟨q1,q2⟩|⟨y,hy,q⟩
    ·exact⟨x,by simp,by rw[q1];omega⟩
    ·by_cases e:tz≤e_ s x
     ·exact⟨x,by simp,by omega⟩
     ·exact⟨y,by simp [hy],by omega⟩
   cnt:=by
    rw[h.cnt]
    apply ee
    intro z hz
    rw[hg]
    by_cases e:fa z=fa x
    ·have:z= -x:=hs.ix.once (cT hz) hx (by rw[gD,e])
     subst this
     have:decide (e_ s (-x)=(s.marks.length:Int))=false:=by rw[ie];simpa using hl
     simp [this]
    ·rw[if_neg e]}
end
def ua (s:SR) (sl:List Bool) (c:List Int) (piv:Int):Prop:=∀x∈c,x≠piv→sl.getD (fa x) false=true∨e_ s x=0
def tQ (s:SR) (sl:List Bool) (i:Nat):Prop:=∀x,(s.ll 0)[i]? =some x→∃j:Nat,j<s.nc∧x∈s.cl j∧(∀y∈s.cl j,y≠x→ -y∈(s.ll 0).take i)∧ua s sl (s.cl j) x
structure yd (n:Nat) (s:SR) (j0:Nat) (sl:List Bool) (rest:List Int) (op:Nat) (tz:Int) (k:Nat) (piv:Int) (j:Nat):Prop where
 base:o4 n s sl rest op tz k
 hk:k≤(s.ll 0).length
 hj:j<s.nc
 cf:∀x∈s.cl j,x≠piv→ -x∈(s.ll 0).take k
 done:∀i,k<i→i<(s.ll 0).length→∀x,(s.ll 0)[i]? =some x→sl.getD (fa x) false=true→e_ s x=s.marks.length→tQ s sl i
 st:(piv=0∧k=(s.ll 0).length∧j=j0∧∃x∈s.cl j,e_ s x=s.marks.length)∨((s.ll 0)[k]? =some piv∧piv∈s.cl j∧e_ s piv=s.marks.length∧ua s sl (s.cl j0) 0∧0<op)
 one:op≤1000000
theorem ua.mono {s:SR} {sl sl':List Bool} {c:List Int} {p:Int} (h:ua s sl c p) (hm:∀v,sl.getD v false=true→sl'.getD v false=true):ua s sl' c p:=fun x hx hp=>(h x hx hp).imp (hm _) id
theorem tQ.mono {s:SR} {sl sl':List Bool} {i:Nat} (h:tQ s sl i) (hm:∀v,sl.getD v false=true→sl'.getD v false=true):tQ s sl' i:=fun x hx=>by
 obtain⟨j,q1,q2,q3,q4⟩:=h x hx
 exact⟨j,q1,q2,q3,q4.mono hm⟩
structure pj (n:Nat) (s:SR) (j0:Nat) (k:Nat) (piv:Int) (j:Nat) (sl:List Bool) (rest:List Int) (op:Nat) (tz:Int) (i:Nat):Prop where
 base:o4 n s sl rest op tz k
 hi:i≤(s.cl j).length
 hk:k≤(s.ll 0).length
 hj:j<s.nc
 cf:∀x∈s.cl j,x≠piv→ -x∈(s.ll 0).take k
 done:∀i,k<i→i<(s.ll 0).length→∀x,(s.ll 0)[i]? =some x→sl.getD (fa x) false=true→e_ s x=s.marks.length→tQ s sl i
 st:(piv=0∧k=(s.ll 0).length∧j=j0∧∃x∈s.cl j,e_ s x=s.marks.length)∨((s.ll 0)[k]? =some piv∧piv∈s.cl j∧e_ s piv=s.marks.length∧ua s sl (s.cl j0) 0∧0<op)
 row:∀x∈(s.cl j).take i,x≠piv→sl.getD (fa x) false=true∨e_ s x=0
section
variable {n:Nat} {s:SR} {j0 k j:Nat} {piv:Int} {sl:List Bool} {rest:List Int} {op:Nat} {tz:Int} {i:Nat}
theorem yd.row (h:yd n s j0 sl rest op tz k piv j):pj n s j0 k piv j sl rest op tz 0 where
 base:=h.base
 hi:=bm _
 hk:=h.hk
 hj:=h.hj
 cf:=h.cf
 done:=h.done
 st:=h.st
 row:=fun x hx=>by simp at hx
theorem pj.V_ (h:pj n s j0 k piv j sl rest op tz i) (hs:fR n s):op≤n∧rest.length≤n:=by
 constructor
 ·have:=dX (p:=fun x=>sl.getD (fa x) false && decide (e_ s x=s.marks.length)) (l:=(s.ll 0).take k)
  rw[← h.base.cnt] at this
  have:=hs.ix.len
  simp at*;omega
 ·have:=sY n h.base.rnd fun v hv=>by
   obtain⟨x,hx,rfl⟩:=bx.1 hv
   have:=jm (hs.ix.xg _ (h.base.rst x hx).1)
   rwa [gD] at this
  simpa using this
theorem pj.skip (h:pj n s j0 k piv j sl rest op tz i) (hi:i<(s.cl j).length) (hc:(s.cl j)[i]=piv∨sl.getD (fa (s.cl j)[i]) false=true∨e_ s (s.cl j)[i]=0):pj n s j0 k piv j sl rest op tz (i+1):=
 {h with
  hi:=hi
  row:=fun x hx hp=>by
   rw[dp hi,bX,cq] at hx
   rcases hx with hx|rfl
   ·exact h.row x hx hp
   ·exact hc.resolve_left hp}
theorem pj.W2 (h:pj n s j0 k piv j sl rest op tz i) (hi:i<(s.cl j).length) {rest':List Int} {op':Nat} {tz':Int} (wy:op≤op') (hb:o4 n s (sl.set (fa (s.cl j)[i]) true) rest' op' tz' k) (hv:fa (s.cl j)[i]<sl.length) (jl:∀q,k<q→∀x,(s.ll 0)[q]? =some x→fa x≠fa (s.cl j)[i]):pj n s j0 k piv j (sl.set (fa (s.cl j)[i]) true) rest' op' tz' (i+1):=by
 have hg:=mJ sl _ hv
 have hm:∀v,sl.getD v false=true→(sl.set (fa (s.cl j)[i]) true).getD v false=true:=fun v h=>qm hv h
 exact
  {base:=hb,hi:=hi,hk:=h.hk,hj:=h.hj,cf:=h.cf
   done:=fun q h1 h2 x h3 h4 h5=>by
    rw[hg,if_neg (jl q h1 x h3)] at h4
    exact(h.done q h1 h2 x h3 h4 h5).mono hm
   st:=h.st.imp id fun⟨q1,q2,q3,q4,q5⟩=>⟨q1,q2,q3,q4.mono hm,by omega⟩
   row:=fun x hx hp=>by
    rw[dp hi,bX,cq] at hx
    rcases hx with hx|rfl
    ·exact(h.row x hx hp).imp (hm _) id
    ·left;rw[hg,if_pos rfl]}
theorem AG (hs:fR n s) {x:Int} (hx: -x∈(s.ll 0).take k):∀q,k<q→∀y,(s.ll 0)[q]? =some y→fa y≠fa x:=fun q hq y hy e=>by
 obtain⟨a,ha,e2⟩:=dc hx
 rw[ew] at e2
 obtain⟨je,CT⟩:=aW.1 hy
 simp only[dI] at ha
 have:a=q:=(du hs.ix.nd (h₀:=by simp;omega) (h₁:=by simpa using je)).1 (by rw[dj,dj,e2,CT,gD,e])
 omega
theorem pj.cur (h:pj n s j0 k piv j sl rest op tz i) (hs:fR n s) (hm:0<s.marks.length) (hi:i<(s.cl j).length) (hp:(s.cl j)[i]≠piv) (kZ:sl.getD (fa (s.cl j)[i]) false=false) (hl:e_ s (s.cl j)[i]=s.marks.length):pj n s j0 k piv j (sl.set (fa (s.cl j)[i]) true) rest (op+1) tz (i+1):=by
 have hx:=h.cf _ (cZ hi) hp
 exact h.W2 hi aJ (h.base.cur hs hx kZ hl hm) (by rw[h.base.len];exact hs.ix.yZ (cT hx)) (AG hs hx)
theorem pj.Au (h:pj n s j0 k piv j sl rest op tz i) (hs:fR n s) (hi:i<(s.cl j).length) (hp:(s.cl j)[i]≠piv) (kZ:sl.getD (fa (s.cl j)[i]) false=false) (hl:e_ s (s.cl j)[i]≠s.marks.length) (h0:e_ s (s.cl j)[i]≠0):pj n s j0 k piv j (sl.set (fa (s.cl j)[i]) true) (rest++ [(s.cl j)[i]]) op (max tz (e_ s (s.cl j)[i])) (i+1):=by
 have hx:=h.cf _ (cZ hi) hp
 exact h.W2 hi (aP _) (h.base.Au hs (cT hx) kZ hl h0) (by rw[h.base.len];exact hs.ix.yZ (cT hx)) (AG hs hx)
structure mS (n:Nat) (s:SR) (j0:Nat) (k:Nat) (sl:List Bool) (rest:List Int) (op:Nat) (tz:Int):Prop where
 base:o4 n s sl rest op tz k
 hk:k≤(s.ll 0).length
 done:∀i,k≤i→i<(s.ll 0).length→∀x,(s.ll 0)[i]? =some x→sl.getD (fa x) false=true→e_ s x=s.marks.length→tQ s sl i
 sj:ua s sl (s.cl j0) 0
 op:0<op
theorem pj.fin (h:pj n s j0 k piv j sl rest op tz (s.cl j).length) (hs:fR n s) (hm:0<s.marks.length):mS n s j0 k sl rest op tz:=by
 have gx:ua s sl (s.cl j) piv:=fun x hx hp=>h.row x (by rw[da];exact hx) hp
 have NS:∀x∈s.cl j,x≠0:=fun x hx=>((hs.cls j h.hj).2.2 x hx).1
 refine⟨h.base,h.hk,fun i h1 h2 x h3 h4 h5=>?_,?_,?_⟩
 ·by_cases e:i=k
  ·subst e
   rcases h.st with ⟨_,q,_⟩|⟨q1,q2,q3,_⟩
   ·omega
   ·intro y hy
    rw[q1] at hy
    obtain rfl:piv=y:=by simpa using hy
    exact⟨j,h.hj,q2,h.cf,gx⟩
  ·exact h.done i aJ h2 x h3 h4 h5
 ·rcases h.st with ⟨q1,_,q2,_⟩|⟨_,_,_,q,_⟩
  ·rw[← q2,← q1];exact gx
  ·exact q
 ·rcases h.st with ⟨q1,_,_,x,hx,hl⟩|⟨_,_,_,_,q⟩
  ·have PN:x≠piv:=by rw[q1];exact NS x hx
   have kZ:sl.getD (fa x) false=true:=(gx x hx PN).resolve_right (by omega)
   rw[h.base.cnt,ez]
   exact⟨-x,h.cf x hx PN,by rw[gD,kZ,ie,hl];simp⟩
  ·exact q
end
structure rV (n:Nat) (s:SR) (j0:Nat) (l:List Int) (tz:Int):Prop where
 uip:∃a,∃h:a<(s.ll 0).length,∃rest,l= -(s.ll 0)[a]::rest∧e_ s (s.ll 0)[a]=s.marks.length∧(∀x∈rest,-x∈s.ll 0∧0<e_ s x∧e_ s x<s.marks.length∧e_ s x≤tz)∧(rest.map fa).Nodup∧((tz=0∧rest=[])∨∃x∈rest,e_ s x=tz)
 der:∃sn:Nat→Prop,(∀x∈s.cl j0,sn (fa x)∨e_ s x=0)∧∀i (h:i<(s.ll 0).length),sn (fa (s.ll 0)[i])→ -(s.ll 0)[i]∈l∨∃k,k<s.nc∧(s.ll 0)[i]∈s.cl k∧∀y∈s.cl k,y≠(s.ll 0)[i]→ -y∈(s.ll 0).take i∧(sn (fa y)∨e_ s y=0)
section
variable {n:Nat} {s:SR} {j0 k:Nat} {sl:List Bool} {rest:List Int} {op:Nat} {tz:Int}
theorem mS.pos (h:mS n s j0 k sl rest op tz):0<k:=by
 have:=h.op
 rw[h.base.cnt,ez] at this
 obtain⟨x,hx,_⟩:=this
 cases k with
 |zero=>simp at hx
 |succ k=>omega
theorem mS.down (h:mS n s j0 (k+1) sl rest op tz) (hx:sl.getD (fa ((s.ll 0)[k]'h.hk)) false=false):mS n s j0 k sl rest op tz where
 base:={h.base with
  cnt:=by
   have:=h.base.cnt
   rw[dp h.hk,eA] at this
   simp only[eg,eB,hx,c7,Bool.false_eq_true,if_false,Nat.add_zero,ba] at this
   exact this}
 hk:=by have:=h.hk;omega
 done:=fun i h1 h2 x h3 h4 h5=>by
  by_cases e:i=k
  ·subst e
   rw[a8 h2] at h3
   simp only[Option.some.injEq] at h3
   rw[h3,h4] at hx;cases hx
  ·exact h.done i aJ h2 x h3 h4 h5
 sj:=h.sj
 op:=h.op
theorem count_le {l:List Int} {a b:Int} (h:a≤b):l.countP (fun m=>decide (m≤a))≤l.countP (fun m=>decide (m≤b)):=by
 apply List.countP_mono_left
 intro m _ hm
 simp at*;omega
theorem fR.AF {n:Nat} {s:SR} (hs:fR n s) {a b:Nat} (qh:a≤b) (hb:b<(s.ll 0).length):e_ s ((s.ll 0)[a]'(by omega))≤e_ s (s.ll 0)[b]:=by
 rw[hs.ml a aJ,hs.ml b hb]
 have:=count_le (l:=s.marks) (a:=a) (b:=b) (by omega)
 omega
theorem mS.found (h:mS n s j0 (k+1) sl rest op tz) (hs:fR n s):e_ s ((s.ll 0)[k]'h.hk)=s.marks.length:=by
 have:=h.op
 rw[h.base.cnt,ez] at this
 obtain⟨x,hx,hp⟩:=this
 obtain⟨a,ha,rfl⟩:=dc hx
 simp only[dI] at ha
 rw[ew] at hp
 simp only[aZ,decide_eq_true_eq] at hp
 have h1:=hs.AF (a:=a) (b:=k) aJ h.hk
 have h2:=(hs.nF (cZ h.hk)).2
 omega
theorem mS.RJ (h:mS n s j0 (k+1) sl rest op tz) (hs:fR n s) (hx:sl.getD (fa ((s.ll 0)[k]'h.hk)) false=true):op - 1=((s.ll 0).take k).countP fun x=>sl.getD (fa x) false && decide (e_ s x=s.marks.length):=by
 have:=h.base.cnt
 rw[dp h.hk,eA] at this
 simp only[eg,eB,hx,h.found hs,decide_true,eu,if_pos] at this
 omega
theorem mS.out (h:mS n s j0 (k+1) sl rest 1 tz) (hs:fR n s) (hx:sl.getD (fa ((s.ll 0)[k]'h.hk)) false=true):rV n s j0 (-((s.ll 0)[k]'h.hk)::rest) tz where
 uip:=⟨k,h.hk,rest,rfl,h.found hs,fun x hx=>by obtain⟨q1,_,q2⟩:=h.base.rst x hx;exact⟨q1,q2⟩,h.base.rnd,h.base.tto⟩
 der:=⟨fun v=>sl.getD v false=true,fun x hx=>h.sj x hx ((hs.cls j0 (by
   -- the clause is a clause,or it has no element
   by_cases q:j0<s.nc
   ·exact q
   ·rw[(hs.fresh j0 aJ).1] at hx;simp at hx)).2.2 x hx).1,fun i hi kZ=>by
  by_cases hl:e_ s (s.ll 0)[i]<s.marks.length
  ·exact .inl (ef _ (h.base.low _ (cZ hi) kZ hl))
  ·have hle:=(hs.nF (cZ hi)).2
   by_cases e:i=k
   ·subst e;exact .inl eb
   ·by_cases My:i<k
    ·exfalso
     have h0:=h.RJ hs hx
     have:0<((s.ll 0).take k).countP fun x=>sl.getD (fa x) false && decide (e_ s x=s.marks.length):=by
      rw[ez]
      refine⟨(s.ll 0)[i],?_,by rw[kZ,Bool.true_and];simp;omega⟩
      rw[eC]
      exact⟨i,by omega,rfl⟩
     omega
    ·obtain⟨j,q1,q2,q3,q4⟩:=h.done i aJ hi _ (a8 hi) kZ aJ _ (a8 hi)
     exact .inr ⟨j,q1,q2,fun y hy fW=>⟨q3 y hy fW,q4 y hy fW⟩⟩⟩
theorem mS.next (h:mS n s j0 (k+1) sl rest op tz) (hs:fR n s) (hx:sl.getD (fa ((s.ll 0)[k]'h.hk)) false=true) (wy:op≠1):∃j:Nat,s.reason.getD (fa ((s.ll 0)[k]'h.hk)) 0=(j:Int)∧j<s.nc∧yd n s j0 sl rest (op - 1) tz k ((s.ll 0)[k]'h.hk) j:=by
 have hk:=h.hk
 have Dq:=h.RJ hs hx
 have hf:=h.found hs
 have h0:=h.op
 have DP:0<((s.ll 0).take k).countP fun x=>sl.getD (fa x) false && decide (e_ s x=s.marks.length):=by omega
 rw[ez] at DP
 obtain⟨x,ve,hp⟩:=DP
 obtain⟨a,ha,rfl⟩:=dc ve
 simp only[dI] at ha
 rw[ew] at hp
 simp only[aZ,decide_eq_true_eq] at hp
 have K_:0<e_ s (s.ll 0)[k]:=by
  obtain⟨y,hy,e1,e2⟩:=h.base.sub _ hx
  have:y=(s.ll 0)[k]:=hs.ix.once hy (cZ hk) e1
  rw[← this];exact e2
 rcases hs.pY k hk with ⟨_,q|q⟩|⟨j,q1,q2,q3,q4⟩
 ·exfalso
  have e:=hp.2
  rw[hs.ml a aJ] at e
  have jO:∀m∈s.marks,decide (m≤(a:Int))=true:=by
   rw[← dR];omega
  have:=jO _ q
  simp at this;omega
 ·omega
 ·refine⟨j,q2,q1,{h.base with cnt:=Dq},by omega,q1,q4,fun i h1 h2=>h.done i aJ h2,.inr ⟨a8 hk,q3,hf,h.sj,by omega⟩,?_⟩
  have:=dX (p:=fun x=>sl.getD (fa x) false && decide (e_ s x=s.marks.length)) (l:=(s.ll 0).take k)
  have:=hs.ix.len
  have:=hs.hn
  simp at*;omega
end
theorem fR.OK {n:Nat} {s:SR} (hs:fR n s) {j:Nat} (hj:j<s.nc) (hf:∀x∈s.cl j,-x∈s.ll 0):∃x∈s.cl j,e_ s x=s.marks.length:=by
 obtain⟨q1,q2,q3⟩:=hs.cls j hj
 obtain⟨m0,m1⟩:=jR q1
 refine⟨_,m0,?_⟩
 have Bc: -(c0 (s.cl j))∉(s.ll 0).take s.head.toNat:=fun iJ=>by
  have:=(hs.two j hj _ _ (.inl ⟨rfl,rfl⟩) iJ).1
  exact hs.ix.nJ this (hf _ m1)
 obtain⟨i,hi,e⟩:=dc (hf _ m0)
 have Bj:s.head.toNat≤i:=by
  apply Nat.le_of_not_lt
  intro fm
  apply Bc
  rw[eC]
  exact⟨i,by omega,e⟩
 rw[← ie,← e,hs.ml i hi,qg fun m hm=>by have:=hs.nD m hm;have:=hs.hd;omega]
theorem yd.start {n:Nat} {s:SR} (hs:fR n s) {j:Nat} (hj:j<s.nc) (hf:∀x∈s.cl j,-x∈s.ll 0):yd n s j (bZ (n+1) false) [] 0 0 (s.ll 0).length 0 j where
 base:=.start _
 hk:=aP _
 hj:=hj
 cf:=fun x hx _=>by rw[da];exact hf x hx
 done:=fun i h1 h2=>by omega
 st:=.inl ⟨rfl,rfl,rfl,hs.OK hj hf⟩
 one:=by omega
end Go.Ab
/- Unit propagation as a closure;what the solver's state says about the formula. -/
namespace Go.Ab
open Go Go.Proofs
inductive oe (F:List (List Int)) (A:Int→Prop):Int→Prop
 |p8 {x:Int} (h:A x):oe F A x
 |unit {c:List Int} {x:Int} (hc:c∈F) (hx:x∈c) (h:∀y∈c,y≠x→oe F A (-y)):oe F A x
def sg (F:List (List Int)) (A:Int→Prop):Prop:=∃c∈F,∀y∈c,oe F A (-y)
abbrev DI (c:List Int):Int→Prop:=fun x=> -x∈c
def JV (F:List (List Int)) (c:List Int):Prop:=sg F (DI c)∨∃x,x∈c∧ -x∈c
abbrev Iq:Int→Prop:=fun _=>False
theorem oe.cut {F F':List (List Int)} {A B:Int→Prop} {x:Int} (h:oe F A x) (hF:∀c∈F,c∈F') (hA:∀y,A y→oe F' B y):oe F' B x:=by
 induction h with
 |p8 h=>exact hA _ h
 |unit hc hx _ ih=>exact .unit (hF _ hc) hx ih
theorem oe.mono {F F':List (List Int)} {A B:Int→Prop} {x:Int} (h:oe F A x) (hF:∀c∈F,c∈F') (hA:∀y,A y→B y):oe F' B x:=h.cut hF fun y hy=> .p8 (hA y hy)
theorem oe.more {F:List (List Int)} {A:Int→Prop} {x:Int} (h:oe F Iq x):oe F A x:=h.mono (fun _ h=>h) fun _ h=>h.elim
theorem sg.cut {F F':List (List Int)} {A B:Int→Prop} (h:sg F A) (hF:∀c∈F,c∈F') (hA:∀y,A y→oe F' B y):sg F' B:=by
 obtain⟨c,hc,h⟩:=h
 exact⟨c,hF c hc,fun y hy=>(h y hy).cut hF hA⟩
theorem oe.both {F:List (List Int)} {A:Int→Prop} {x:Int} (h:oe F A x) (h':oe F A (-x)):sg F A∨∃y,A y∧A (-y):=by
 have key:∀{c:List Int} {z:Int},c∈F→z∈c→(∀y∈c,y≠z→oe F A (-y))→oe F A (-z)→sg F A:=fun {c z} hc hz h hn=>
  ⟨c,hc,fun y hy=>by
   by_cases e:y=z
   ·rw[e];exact hn
   ·exact h y hy e⟩
 cases h with
 |unit hc hx h=>exact .inl (key hc hx h h')
 |p8 h=>
  generalize hy: -x=y at h'
  cases h' with
  |p8 h2=>subst hy;exact .inr ⟨x,h,h2⟩
  |unit hc hx h2=>subst hy;exact .inl (key hc hx h2 (by rw[dv];exact .p8 h))
def jx (σ:Nat→Bool) (x:Int):Prop:=if x<0 then σ (fa x)=false else σ (fa x)=true
def kX (σ:Nat→Bool) (F:List (List Int)):Prop:=∀c∈F,∃x∈c,jx σ x
theorem jx.neg {σ:Nat→Bool} {x:Int} (h0:x≠0):jx σ (-x)↔¬jx σ x:=by
 unfold jx
 rw[gD]
 by_cases h:x<0
 ·rw[if_pos h,if_neg aJ];simp
 ·rw[if_neg h,if_pos aJ];simp
theorem oe.sound {F:List (List Int)} {A:Int→Prop} {σ:Nat→Bool} {x:Int} (h:oe F A x) (hF:kX σ F) (h0:∀c∈F,∀x∈c,x≠0) (hA:∀y,A y→jx σ y):jx σ x:=by
 induction h with
 |p8 h=>exact hA _ h
 | @unit c x hc hx _ ih=>
  obtain⟨y,hy,ht⟩:=hF c hc
  by_cases e:y=x
  ·rw[← e];exact ht
  ·exact absurd ht ((jx.neg (h0 c hc y hy)).1 (ih y hy e))
theorem sg.sound {F:List (List Int)} {A:Int→Prop} {σ:Nat→Bool} (h:sg F A) (hF:kX σ F) (h0:∀c∈F,∀x∈c,x≠0):¬∀y,A y→jx σ y:=fun hA=>by
 obtain⟨c,hc,h⟩:=h
 obtain⟨y,hy,ht⟩:=hF c hc
 exact(jx.neg (h0 c hc y hy)).1 ((h y hy).sound hF h0 hA) ht
theorem JV.sound {F:List (List Int)} {c:List Int} {σ:Nat→Bool} (h:JV F c) (hF:kX σ F) (h0:∀c∈F,∀x∈c,x≠0) (hc:∀x∈c,x≠0):∃x∈c,jx σ x:=by
 rcases h with h|⟨x,h1,h2⟩
 ·apply Classical.byContradiction
  intro hn
  refine h.sound hF h0 fun y hy=>?_
  have h3:¬jx σ (-y):=fun hh=>hn ⟨_,hy,hh⟩
  have h4:=hc _ hy
  apply Classical.byContradiction
  intro h5
  exact h3 ((jx.neg aJ).2 h5)
 ·by_cases h3:jx σ x
  ·exact⟨x,h1,h3⟩
  ·exact⟨-x,h2,(jx.neg (hc x h1)).2 h3⟩
def oX (F:List (List Int)) (P:List (List Int)):Prop:=∀i (h:i<P.length),JV (F++P.take i) P[i]
theorem oX.snoc {F P:List (List Int)} {c:List Int} (h:oX F P) (hc:JV (F++P) c):oX F (P++ [c]):=fun i hi=>by
 simp only[bW,dC] at hi
 by_cases e:i<P.length
 ·rw[dS e,cS aJ];exact h i e
 ·obtain rfl:i=P.length:=by omega
  rw[dU (aP _),cS (aP _),da]
  simpa using hc
theorem oX.sound {F P:List (List Int)} {σ:Nat→Bool} (h:oX F P) (hF:kX σ F) (h0:∀c∈F++P,∀x∈c,x≠0):kX σ (F++P):=by
 have key:∀i,i≤P.length→kX σ (F++P.take i):=by
  intro i
  induction i with
  |zero=>intro _;simpa using hF
  |succ i ih=>
   intro hi
   have hP:=ih (by omega)
   have h1:∀c∈F++P.take i,∀x∈c,x≠0:=fun c hc=>h0 c (by
    rcases bX.1 hc with hc|hc
    ·exact bX.2 (.inl hc)
    ·exact bX.2 (.inr (cT hc)))
   have:=(h i aJ).sound hP h1 (h0 _ (bX.2 (.inr (cZ _))))
   rw[dp aJ,← dZ]
   intro c hc
   rcases bX.1 hc with hc|hc
   ·exact hP c hc
   ·rw[cq.1 hc];exact this
 have:=key P.length (aP _)
 rwa [da] at this
structure Sem (n:Nat) (F:List (List Int)) (s:SR):Prop where
 lits:∀c∈F++s.proof,∀x∈c,Lit n x
 cls:∀j,j<s.nc→∃C∈F++s.proof,(∀x∈s.cl j,x∈C)∧∀x∈C,x∈s.cl j∨oe (F++s.proof) Iq (-x)
 o7:∀x∈s.ll 0,e_ s x=0→oe (F++s.proof) Iq x
 bad:s.broken=true→sg (F++s.proof) Iq
 sC:oX F s.proof
 rep:∀C∈F,s.broken=true∨(∃x∈C,x∈s.ll 0∧e_ s x=0)∨(∃x∈C,-x∈C)∨∃j,j<s.nc∧∀x∈s.cl j,x∈C
section
variable {n:Nat} {F:List (List Int)} {s:SR}
theorem Sem.unit (h:Sem n F s) {A:Int→Prop} {j:Nat} (hj:j<s.nc) {x:Int} (hx:x∈s.cl j) (hd:∀y∈s.cl j,y≠x→oe (F++s.proof) A (-y)):oe (F++s.proof) A x:=by
 obtain⟨C,hC,q1,q2⟩:=h.cls j hj
 refine .unit hC (q1 x hx) fun y hy fW=>?_
 rcases q2 y hy with q|q
 ·exact hd y q fW
 ·exact q.more
theorem Sem.CF (h:Sem n F s) {A:Int→Prop} {j:Nat} (hj:j<s.nc) (hd:∀y∈s.cl j,oe (F++s.proof) A (-y)):sg (F++s.proof) A:=by
 obtain⟨C,hC,q1,q2⟩:=h.cls j hj
 refine⟨C,hC,fun y hy=>?_⟩
 rcases q2 y hy with q|q
 ·exact hd y q
 ·exact q.more
theorem rO {s t:SR} (hs:fR n s) (ht:fR n t) (hx:tM s t) {x:Int} (h:x∈s.ll 0):e_ t x=e_ s x:=by
 obtain⟨ys,e⟩:=hx.ll
 obtain⟨i,hi,rfl⟩:=dc h
 have qW:i<(t.ll 0).length:=by rw[e,bW];omega
 have e2:(t.ll 0)[i]=(s.ll 0)[i]:=by simp only[e,dS hi]
 have h1:=ht.ml i qW
 rw[e2,hx.marks] at h1
 rw[h1,hs.ml i hi]
theorem Sem.prop {t:SR} {r:Int} (h:Sem n F s) (hs:fR n s) (hp:Ho n s t r):Sem n F t:=by
 have hx:=hp.ext
 have ht:=hp.inv
 have epr:t.proof=s.proof:=hx.proof
 have iR:∀j x,x∈t.cl j↔x∈s.cl j:=fun j x=>(hx.cl j).mem x
 have RD:∀j,j<t.nc→∃C∈F++t.proof,(∀x∈t.cl j,x∈C)∧∀x∈C,x∈t.cl j∨oe (F++t.proof) Iq (-x):=fun j hj=>by
  obtain⟨C,hC,q1,q2⟩:=h.cls j (by rw[← hx.nc];exact hj)
  rw[epr]
  exact⟨C,hC,fun x ve=>q1 x ((iR j x).1 ve),fun x ve=>(q2 x ve).imp (iR j x).2 id⟩
 obtain⟨ys,ell⟩:=hx.ll
 have hold:∀{x},x∈s.ll 0→x∈t.ll 0:=fun hm=>by rw[ell];exact bX.2 (.inl hm)
 refine⟨by rw[epr];exact h.lits,RD,?_,by rw[epr,hx.broken];exact h.bad,by rw[epr];exact h.sC,fun C hC=>?_⟩
 ·have key:∀i (hi:i<(t.ll 0).length),e_ t (t.ll 0)[i]=0→oe (F++t.proof) Iq (t.ll 0)[i]:=by
   intro i
   induction i using dK with
   |ind i ih=>
    intro hi hl
    by_cases hm:(t.ll 0)[i]∈s.ll 0
    ·rw[epr];exact h.o7 _ hm (by rw[← rO hs ht hx hm];exact hl)
    ·rcases ht.pY i hi with ⟨q,_⟩|⟨j,q1,q2,q3,q4⟩
     ·exact absurd q (hx.new _ (cZ hi) hm)
     ·obtain⟨C,hC,p1,p2⟩:=RD j q1
      refine .unit hC (p1 _ q3) fun y hy fW=>?_
      rcases p2 y hy with p|p
      ·obtain⟨a,ha,e⟩:=dc (q4 y p fW)
       simp only[dI] at ha
       rw[ew] at e
       have hle:=ht.AF (a:=a) (b:=i) aJ hi
       have h0:=(ht.nF (cZ (show a<(t.ll 0).length by omega))).1
       rw[← e]
       exact ih a aJ aJ (by omega)
      ·exact p
  intro x ve hl
  obtain⟨i,hi,rfl⟩:=dc ve
  exact key i hi hl
 ·rcases h.rep C hC with q|⟨x,q1,q2,q3⟩|q|⟨j,q1,q2⟩
  ·exact .inl (by rw[hx.broken];exact q)
  ·exact .inr (.inl ⟨x,q1,hold q2,by rw[rO hs ht hx q2];exact q3⟩)
  ·exact .inr (.inr (.inl q))
  ·exact .inr (.inr (.inr ⟨j,by rw[hx.nc];exact q1,fun x ve=>q2 x ((iR j x).1 ve)⟩))
theorem Sem.RN {t:SR} {j:Nat} (h:Sem n F t) (ht:fR n t) (hm:t.marks=[]) (hj:j<t.nc) (hf:∀x∈t.cl j,-x∈t.ll 0):sg (F++t.proof) Iq:=
 h.CF hj fun y hy=>h.o7 _ (hf y hy) (by
  have:=ht.nF (hf y hy)
  rw[hm] at this
  simp at this;omega)
theorem rV.Wn {j:Nat} {l:List Int} {tz:Int} (h:rV n s j l tz) (hS:Sem n F s) (hs:fR n s) (hj:j<s.nc) (hf:∀x∈s.cl j,-x∈s.ll 0):sg (F++s.proof) (DI l):=by
 obtain⟨sn,d1,d2⟩:=h.der
 have key:∀i (hi:i<(s.ll 0).length),(sn (fa (s.ll 0)[i])∨e_ s (s.ll 0)[i]=0)→oe (F++s.proof) (DI l) (s.ll 0)[i]:=by
  intro i
  induction i using dK with
  |ind i ih=>
   intro hi hc
   rcases hc with hc|hc
   ·rcases d2 i hi hc with q|⟨k,q1,q2,q3⟩
    ·exact .p8 q
    ·refine hS.unit q1 q2 fun y hy fW=>?_
     obtain⟨p1,p2⟩:=q3 y hy fW
     obtain⟨a,ha,e⟩:=dc p1
     simp only[dI] at ha
     rw[ew] at e
     rw[← e]
     refine ih a aJ aJ ?_
     rw[e,gD,ie];exact p2
   ·exact(hS.o7 _ (cZ hi) hc).more
 refine hS.CF hj fun y hy=>?_
 obtain⟨i,hi,e⟩:=dc (hf y hy)
 rw[← e]
 refine key i hi ?_
 rw[e,gD,ie];exact d1 y hy
theorem rV.lits {j:Nat} {l:List Int} {tz:Int} (h:rV n s j l tz) (hs:fR n s):∀x∈l,Lit n x:=by
 obtain⟨a,ha,rest,rfl,_,h2,_⟩:=h.uip
 have neg:∀x,-x∈s.ll 0→Lit n x:=fun x hx=>by
  have:=hs.ix.xg _ hx
  exact⟨by omega,by omega,by omega⟩
 intro x hx
 rcases bw.1 hx with rfl|hx
 ·exact neg _ (by rw[dv];exact cZ ha)
 ·exact neg x (h2 x hx).1
end
end Go.Ab
/- Going back tz a level;a clause attached;a literal pushed:the solver's invariant. -/
namespace Go.Ab
open Go Go.Proofs
theorem vE {M:List Int} (hs:M.Pairwise (·≤·)) {t:Nat} (ht:t<M.length) {i:Int} (hi:i<M[t]):M.countP (fun m=>decide (m≤i))=(M.take t).countP (fun m=>decide (m≤i))∧M.countP (fun m=>decide (m≤i))≤t:=by
 have e:M.countP (fun m=>decide (m≤i))=(M.take t).countP (fun m=>decide (m≤i)):=by
  conv=>lhs;rw[← dz t M,eA]
  have:(M.drop t).countP (fun m=>decide (m≤i))=0:=by
   rw[eo]
   intro m hm
   obtain⟨a,ha,rfl⟩:=dc hm
   rw[cR] at ha
   rw[List.getElem_drop]
   have:=eD.1 hs t (t+a) ht (by omega)
   by_cases e:a=0
   ·subst e;simp;omega
   ·have:=this (by omega)
    simp;omega
  omega
 refine⟨e,?_⟩
 rw[e]
 have:=dX (p:=fun m=>decide (m≤i)) (l:=M.take t)
 simp at this;omega
theorem IG {M:List Int} (hs:M.Pairwise (·≤·)) {t:Nat} (ht:t<M.length) {i:Int} (hi:M[t]≤i):t+1≤M.countP (fun m=>decide (m≤i)):=by
 have h1:(M.take (t+1)).countP (fun m=>decide (m≤i))=(M.take (t+1)).length:=by
  rw[dR]
  intro m hm
  obtain⟨a,ha,rfl⟩:=dc hm
  rw[dI] at ha
  rw[ew]
  by_cases e:a=t
  ·subst e;simpa using hi
  ·have:=eD.1 hs a t aJ ht (by omega)
   simp;omega
 have h2:(M.take (t+1)).countP (fun m=>decide (m≤i))≤M.countP (fun m=>decide (m≤i)):=(er _ _).countP_le
 rw[h1,dI] at h2
 omega
theorem fR.l4 {n:Nat} {s:SR} (hs:fR n s) {t:Nat} (ht:t<s.marks.length) {i:Nat} (hi:i<(s.ll 0).length):e_ s (s.ll 0)[i]≤t↔i<(s.marks[t]).toNat:=by
 rw[hs.ml i hi]
 have h0:=(hs.nD _ (cZ ht)).1
 constructor
 ·intro h
  apply eE
  intro Bj
  have:=IG hs.pc ht (i:=(i:Int)) (by omega)
  omega
 ·intro h
  have:=(vE hs.pc ht (i:=(i:Int)) aJ).2
  omega
abbrev gh (s:SR) (t:Nat):SR:=EN (EX s t)
theorem fR.ss {n:Nat} {s:SR} (hs:fR n s) {t:Nat} (ht:t<s.marks.length):0≤s.marks[t]∧(s.marks[t]).toNat≤s.head.toNat∧s.head.toNat≤(s.ll 0).length:=by
 have:=hs.nD _ (cZ ht)
 have:=hs.hd
 omega
theorem mC {n:Nat} {s:SR} (hs:fR n s) {t:Nat} (ht:t<s.marks.length):(gh s t).ll 0=(s.ll 0).take (s.marks[t]).toNat∧(gh s t).head=((s.marks[t]).toNat:Int)∧(gh s t).marks=s.marks.take t:=by
 have e:s.marks.getD t 0=s.marks[t]:=fy ht
 have h2:=hs.ss ht
 refine⟨?_,?_,rfl⟩
 ·show eZ s.ll 0 ((s.ll 0).take (s.marks.getD t 0).toNat) 0=_
  rw[eW,e]
 ·show min s.head ((eZ s.ll 0 ((s.ll 0).take (s.marks.getD t 0).toNat) 0).length:Int)=_
  have:=hs.hd
  rw[eW,e,dI];omega
theorem BW (s:SR) (t:Nat) (x:Int):e_ (gh s t) x=e_ s x:=rfl
theorem fR.HQ {n:Nat} {s:SR} (hs:fR n s) {t:Nat} (ht:t<s.marks.length):fR n (gh s t):=by
 obtain⟨e1,e2,e3⟩:=mC hs ht
 obtain⟨h0,h1,h2⟩:=hs.ss ht
 have e:s.marks.getD t 0=s.marks[t]:=fy ht
 have hlen:((s.ll 0).take (s.marks[t]).toNat).length=(s.marks[t]).toNat:=by rw[dI];omega
 exact
  {hn:=hs.hn
   ix:=by rw[e1];exact hs.ix.take _
   val:=by
    rw[e1]
    show zeroV s.value ((s.ll 0).drop (s.marks.getD t 0).toNat)=_
    rw[e,hs.val,E8 hs.ix]
   lvl:=hs.lvl,od:=hs.od
   hd:=by rw[e1,e2,hlen];omega
   nD:=fun m hm=>by
    rw[e3] at hm
    rw[e2]
    refine⟨(hs.nD m (cT hm)).1,?_⟩
    obtain⟨a,ha,rfl⟩:=dc hm
    rw[dI] at ha
    rw[ew]
    have:=eD.1 hs.pc a t aJ ht (by omega)
    omega
   ml:=fun i hi=>by
    simp only[e1] at hi ⊢
    rw[hlen] at hi
    rw[ew,BW,hs.ml i aJ,e3,(vE hs.pc ht (i:=(i:Int)) aJ).1]
   cls:=hs.cls,fresh:=hs.fresh,nc:=hs.nc,nw:=hs.nw,wt:=hs.wt,qL:=hs.qL,qH:=hs.qH
   two:=fun j hj w w' hw iJ=>by
    rw[e1,e2,dt,eF,Nat.min_self] at iJ
    have Lh: -w∈(s.ll 0).take s.head.toNat:=(List.take_sublist_take_left h1).subset iJ
    obtain⟨q1,q2⟩:=hs.two j hj w w' hw Lh
    refine⟨?_,q2⟩
    obtain⟨a,ha,ea⟩:=dc iJ
    rw[hlen] at ha
    rw[ew] at ea
    have PE:e_ s w≤t:=by rw[← ie,← ea];exact(hs.l4 ht aJ).2 ha
    obtain⟨b,hb,rfl⟩:=dc q1
    have hbt:=(hs.l4 ht hb).1 (by omega)
    rw[e1,eC]
    exact⟨b,by omega,rfl⟩
   pc:=by rw[e3];exact hs.pc.sublist (er _ _)
   pY:=fun i hi=>by
    simp only[e1] at hi ⊢
    rw[hlen] at hi
    rw[ew,BW,eF,dY aJ]
    rcases hs.pY i aJ with ⟨q1,q2⟩|q
    ·refine .inl ⟨q1,q2.imp (fun q=>?_) id⟩
     rw[e3]
     obtain⟨a,ha,ea⟩:=dc q
     have sH:a<t:=by
      apply eE
      intro Bj
      by_cases e4:a=t
      ·subst e4;omega
      ·have:=eD.1 hs.pc t a ht ha (by omega)
       omega
     rw[eC]
     exact⟨a,by omega,ea⟩
    ·exact .inr q}
theorem Sem.HQ {n:Nat} {F:List (List Int)} {s:SR} (h:Sem n F s) (hs:fR n s) {t:Nat} (ht:t<s.marks.length):Sem n F (gh s t):=by
 obtain⟨e1,e2,e3⟩:=mC hs ht
 refine⟨h.lits,h.cls,fun x hx hl=>h.o7 x (by rw[e1] at hx;exact cT hx) hl,h.bad,h.sC,fun C hC=>?_⟩
 rcases h.rep C hC with q|⟨x,q1,q2,q3⟩|q|q
 ·exact .inl q
 ·refine .inr (.inl ⟨x,q1,?_,q3⟩)
  obtain⟨i,hi,rfl⟩:=dc q2
  rw[e1,eC]
  have:=(hs.l4 ht hi).1 (by omega)
  exact⟨i,by omega,rfl⟩
 ·exact .inr (.inr (.inl q))
 ·exact .inr (.inr (.inr q))
def kS (s:SR) (c:List Int) (h0 h1 h2:Value):SR:=jP (jP {s with nc:=s.nc+1,hc:=eZ s.hc s.nc h0,cl:=eZ s.cl s.nc c} (c0 c) s.nc h1) (c1 c) s.nc h2
section
variable {n:Nat} {s:SR} {c:List Int} {h0 h1 h2:Value}
theorem Pt (hs:fR n s) (hc:2≤c.length) (jl:c.Nodup) (hl:∀x∈c,Lit n x) {x:Int} (hx:Lit n x):(kS s c h0 h1 h2).wl (eQ x).toNat=s.wl (eQ x).toNat++(if x=c0 c∨x=c1 c then [(s.nc:Int)] else []):=by
 obtain⟨m0,m1⟩:=jR hc
 have fW:c0 c≠c1 c:=fun e=>by
  rw[show c0 c=c[0] from fy aJ,show c1 c=c[1] from fy aJ] at e
  have:=(du jl (h₀:=by omega) (h₁:=by omega)).1 e
  omega
 have ju:∀{y},Lit n y→y≠x→(eQ x).toNat≠(eQ y).toNat:=fun hy fW e=>fW (gU hx hy e).symm
 show eZ (eZ s.wl (eQ (c0 c)).toNat (s.wl (eQ (c0 c)).toNat++ [(s.nc:Int)])) (eQ (c1 c)).toNat (eZ s.wl (eQ (c0 c)).toNat (s.wl (eQ (c0 c)).toNat++ [(s.nc:Int)]) (eQ (c1 c)).toNat++ [(s.nc:Int)]) (eQ x).toNat=_
 by_cases e1:x=c1 c
 ·subst e1
  rw[eW,ft _ _ (ju (hl _ m0) fW),if_pos (.inr rfl)]
 ·rw[ft _ _ (ju (hl _ m1) (Ne.symm e1))]
  by_cases e0:x=c0 c
  ·subst e0
   rw[eW,if_pos (.inl rfl)]
  ·rw[ft _ _ (ju (hl _ m0) (Ne.symm e0)),if_neg (by rintro(h|h)<;>contradiction),bt]
theorem Pa (hs:fR n s) (hc:2≤c.length) (jl:c.Nodup) (hl:∀x∈c,Lit n x) (k:Nat):((kS s c h0 h1 h2).wl k).Nodup:=by
 obtain⟨m0,m1⟩:=jR hc
 have fW:c0 c≠c1 c:=fun e=>by
  rw[show c0 c=c[0] from fy aJ,show c1 c=c[1] from fy aJ] at e
  have:=(du jl (h₀:=by omega) (h₁:=by omega)).1 e
  omega
 have Au:∀{x},Lit n x→(s.nc:Int)∉s.wl (eQ x).toNat:=fun hx hm=>by
  obtain⟨j,hj,e,_⟩:=hs.wt _ hx _ hm
  omega
 have one:∀{x},Lit n x→(s.wl (eQ x).toNat++ [(s.nc:Int)]).Nodup:=fun hx=>by
  rw[cp]
  refine⟨hs.qL _,by simp,fun a ha b hb=>?_⟩
  rw[cq.1 hb]
  rintro rfl
  exact Au hx ha
 show(eZ (eZ s.wl (eQ (c0 c)).toNat (s.wl (eQ (c0 c)).toNat++ [(s.nc:Int)])) (eQ (c1 c)).toNat (eZ s.wl (eQ (c0 c)).toNat (s.wl (eQ (c0 c)).toNat++ [(s.nc:Int)]) (eQ (c1 c)).toNat++ [(s.nc:Int)]) k).Nodup
 by_cases e1:k=(eQ (c1 c)).toNat
 ·rw[e1,eW,ft _ _ (fun e=>fW (gU (hl _ m0) (hl _ m1) e.symm))]
  exact one (hl _ m1)
 ·rw[ft _ _ e1]
  by_cases e0:k=(eQ (c0 c)).toNat
  ·rw[e0,eW];exact one (hl _ m0)
  ·rw[ft _ _ e0];exact hs.qL k
theorem fR.TC (hs:fR n s) (hc:2≤c.length) (jl:c.Nodup) (hl:∀x∈c,Lit n x) (z8:s.nc+1≤100000) {t:SR} (e1:t.cl=(kS s c h0 h1 h2).cl) (e2:t.wl=(kS s c h0 h1 h2).wl) (e3:t.nc=s.nc+1) (e4:t.hc=(kS s c h0 h1 h2).hc) (e5:t.nw=s.nw)
  (ix:jG n (t.ll 0)) (val:t.value=kW n (t.ll 0)) (lvl:t.level.length=n+1) (od:t.reason.length=n+1) (hd:0≤t.head∧t.head≤((t.ll 0).length:Int)) (nD:∀m∈t.marks,0≤m∧m≤t.head)
  (ml:∀i (h:i<(t.ll 0).length),e_ t (t.ll 0)[i]=(t.marks.countP fun m=>decide (m≤(i:Int)):Nat)) (pc:t.marks.Pairwise (·≤·))
  (two:∀j,j<s.nc→∀w w',(w=c0 (s.cl j)∧w'=c1 (s.cl j))∨(w=c1 (s.cl j)∧w'=c0 (s.cl j))→ -w∈(t.ll 0).take t.head.toNat→w'∈t.ll 0∧e_ t w'≤e_ t w)
  (twoc:∀w w',(w=c0 c∧w'=c1 c)∨(w=c1 c∧w'=c0 c)→ -w∈(t.ll 0).take t.head.toNat→w'∈t.ll 0∧e_ t w'≤e_ t w)
  (pY:∀i (h:i<(t.ll 0).length),(t.reason.getD (fa (t.ll 0)[i]) 0= -1∧((i:Int)∈t.marks∨e_ t (t.ll 0)[i]=0))∨∃j:Nat,j<s.nc+1∧t.reason.getD (fa (t.ll 0)[i]) 0=(j:Int)∧(t.ll 0)[i]∈eZ s.cl s.nc c j∧∀y∈eZ s.cl s.nc c j,y≠(t.ll 0)[i]→ -y∈(t.ll 0).take i):fR n t:=by
 obtain⟨m0,m1⟩:=jR hc
 have e1':t.cl=eZ s.cl s.nc c:=e1
 have e4':t.hc=eZ s.hc s.nc h0:=e4
 have Aw:=fun {x:Int} (hx:Lit n x)=>Pt (h0:=h0) (h1:=h1) (h2:=h2) hs hc jl hl hx
 exact
  {hn:=hs.hn,ix:=ix,val:=val,lvl:=lvl,od:=od,hd:=hd,nD:=nD,ml:=ml,pc:=pc
   cls:=fun j hj=>by
    rw[e3] at hj
    rw[e1']
    by_cases e:j=s.nc
    ·subst e;rw[eW];exact⟨hc,jl,hl⟩
    ·rw[ft _ _ e];exact hs.cls j (by omega)
   fresh:=fun j hj=>by
    rw[e3] at hj
    rw[e1',e4',ft _ _ aJ,ft _ _ aJ]
    exact hs.fresh j (by omega)
   nc:=by rw[e3];exact z8
   nw:=by rw[e5];exact hs.nw
   wt:=fun x hx e he=>by
    rw[e2,Aw hx,bX] at he
    rw[e1',e3]
    rcases he with he|he
    ·obtain⟨j,hj,q1,q2⟩:=hs.wt x hx e he
     exact⟨j,by omega,q1,by rw[ft _ _ aJ];exact q2⟩
    ·split at he
     ·next td=>
      refine⟨s.nc,by omega,by simpa using he,?_⟩
      rw[eW]
      exact td.imp Eq.symm Eq.symm
     ·simp at he
   qL:=fun k=>by rw[e2];exact Pa hs hc jl hl k
   qH:=fun j hj=>by
    rw[e3] at hj
    rw[e1',e2]
    by_cases e:j=s.nc
    ·subst e
     rw[eW,Aw (hl _ m0),Aw (hl _ m1),if_pos (.inl rfl),if_pos (.inr rfl)]
     simp
    ·rw[ft _ _ e]
     obtain⟨p1,_,p3⟩:=hs.cls j (by omega)
     obtain⟨n0,n1⟩:=jR p1
     rw[Aw (p3 _ n0),Aw (p3 _ n1)]
     obtain⟨q1,q2⟩:=hs.qH j (by omega)
     exact⟨bX.2 (.inl q1),bX.2 (.inl q2)⟩
   two:=fun j hj w w' hw iJ=>by
    rw[e3] at hj
    rw[e1'] at hw
    by_cases e:j=s.nc
    ·subst e;rw[eW] at hw;exact twoc w w' hw iJ
    ·rw[ft _ _ e] at hw;exact two j aJ w w' hw iJ
   pY:=fun i hi=>by rw[e1',e3];exact pY i hi}
theorem fR.attach (hs:fR n s) (hc:2≤c.length) (jl:c.Nodup) (hl:∀x∈c,Lit n x) (z8:s.nc+1≤100000) (hf:∀x∈c,-x∉s.ll 0):fR n (kS s c h0 h1 h2):=by
 obtain⟨m0,m1⟩:=jR hc
 refine hs.TC hc jl hl z8 rfl rfl rfl rfl rfl hs.ix hs.val hs.lvl hs.od hs.hd hs.nD hs.ml hs.pc hs.two (fun w w' hw iJ=>?_) fun i hi=>?_
 ·exfalso
  have:=cT iJ
  rcases hw with ⟨rfl,_⟩|⟨rfl,_⟩
  ·exact hf _ m0 this
  ·exact hf _ m1 this
 ·rcases hs.pY i hi with q|⟨j,q1,q2,q3,q4⟩
  ·exact .inl q
  ·exact .inr ⟨j,by omega,q2,by rw[ft _ _ aJ];exact q3,by rw[ft _ _ aJ];exact q4⟩
theorem fR.rI (hs:fR n s) (hc:2≤c.length) (jl:c.Nodup) (hl:∀x∈c,Lit n x) (z8:s.nc+1≤100000) (UL:c0 c∉s.ll 0) (MT: -(c0 c)∉s.ll 0) (hf:∀x∈c,x≠c0 c→ -x∈s.ll 0) (K_:e_ s (c1 c)=s.marks.length) {h:Value}:fR n (fF (kS s c h0 h1 h2) (c0 c) s.nc h):=by
 obtain⟨m0,m1⟩:=jR hc
 have kd:=hl _ m0
 have fW:c1 c≠c0 c:=fun e=>by
  rw[show c0 c=c[0] from fy aJ,show c1 c=c[1] from fy aJ] at e
  have:=(du jl (h₀:=by omega) (h₁:=by omega)).1 e
  omega
 have ke:(fF (kS s c h0 h1 h2) (c0 c) s.nc h).ll 0=s.ll 0++ [c0 c]:=jA _ _ _ _
 have hold:∀{y},y∈s.ll 0∨ -y∈s.ll 0→fa y≠fa (c0 c):=fun hy=>ov (n:=n) UL MT hy
 have qV:∀{y},fa y≠fa (c0 c)→e_ (fF (kS s c h0 h1 h2) (c0 c) s.nc h) y=e_ s y:=fun hy=>iH (s:=kS s c h0 h1 h2) hy
 have XI:e_ (fF (kS s c h0 h1 h2) (c0 c) s.nc h) (c0 c)=s.marks.length:=by
  have:=jm kd
  unfold e_ fF
  simp only
  rw[c8,bH,if_pos rfl,if_pos (by show _<s.level.length;rw[hs.lvl];omega)];rfl
 have sI:∀{y},fa y≠fa (c0 c)→(fF (kS s c h0 h1 h2) (c0 c) s.nc h).reason.getD (fa y) 0=s.reason.getD (fa y) 0:=fun hy=>lP (s:=kS s c h0 h1 h2) hy
 have J3:s.head.toNat≤(s.ll 0).length:=by have:=hs.hd;omega
 have MS:∀i (hi:i<((fF (kS s c h0 h1 h2) (c0 c) s.nc h).ll 0).length),(∃kb:i<(s.ll 0).length,((fF (kS s c h0 h1 h2) (c0 c) s.nc h).ll 0)[i]=(s.ll 0)[i])∨(i=(s.ll 0).length∧((fF (kS s c h0 h1 h2) (c0 c) s.nc h).ll 0)[i]=c0 c):=fun i hi=>by
  simp only[ke] at hi ⊢
  have kb:i<(s.ll 0).length+1:=by simpa using hi
  by_cases e:i<(s.ll 0).length
  ·exact .inl ⟨e,dS e⟩
  ·have e2:i=(s.ll 0).length:=by omega
   subst e2
   exact .inr ⟨rfl,by rw[dU (aP _)];simp⟩
 refine hs.TC hc jl hl z8 (h0:=h0) (h1:=h1) (h2:=h2) rfl rfl rfl rfl rfl (by rw[ke];exact hs.ix.push kd UL MT) (by rw[ke];show s.value.set _ _=_;rw[hs.val];exact xG kd UL MT) (by show(s.level.set _ _).length=_;rw[cN];exact hs.lvl) (by show(s.reason.set _ _).length=_;rw[cN];exact hs.od)
  (by rw[ke];have:=hs.hd;simp only[bW,dC];exact⟨this.1,by show s.head≤_;omega⟩) hs.nD (fun i hi=>?_) hs.pc (fun j hj w w' hw iJ=>?_) (fun w w' hw iJ=>?_) fun i hi=>?_
 ·rcases MS i hi with ⟨kb,e⟩|⟨e1,e⟩
  ·rw[e,qV (hold (.inl (cZ kb)))];exact hs.ml i kb
  ·rw[e,XI,e1]
   show _=((s.marks.countP _:Nat):Int)
   rw[qg fun m hm=>by have:=hs.nD m hm;have:=hs.hd;omega]
 ·have iJ: -w∈((fF (kS s c h0 h1 h2) (c0 c) s.nc h).ll 0).take s.head.toNat:=iJ
  rw[ke,cS J3] at iJ
  obtain⟨q1,q2⟩:=hs.two j hj w w' hw iJ
  rw[ke,qV (hold (.inl q1)),qV (hold (.inr (cT iJ)))]
  exact⟨bX.2 (.inl q1),q2⟩
 ·have iJ: -w∈((fF (kS s c h0 h1 h2) (c0 c) s.nc h).ll 0).take s.head.toNat:=iJ
  rw[ke,cS J3] at iJ
  have Lh:=cT iJ
  rcases hw with ⟨rfl,rfl⟩|⟨rfl,rfl⟩
  ·exact absurd Lh MT
  ·rw[ke,XI,qV (hold (.inr Lh)),K_]
   exact⟨by simp,eG _⟩
 ·rcases MS i hi with ⟨kb,e⟩|⟨e1,e⟩
  ·rw[e,sI (hold (.inl (cZ kb))),qV (hold (.inl (cZ kb))),ke,cS aJ]
   rcases hs.pY i kb with q|⟨j,q1,q2,q3,q4⟩
   ·exact .inl q
   ·exact .inr ⟨j,by omega,q2,by rw[ft _ _ aJ];exact q3,by rw[ft _ _ aJ];exact q4⟩
  ·right
   refine⟨s.nc,by omega,?_,?_,?_⟩
   ·rw[e]
    have:=jm kd
    unfold fF
    simp only
    rw[c8,bH,if_pos rfl,if_pos (by show _<s.reason.length;rw[hs.od];omega)];rfl
   ·rw[e,eW];exact m0
   ·rw[e,e1,eW,ke,cS (aP _),da]
    exact hf
end
end Go.Ab
/- The search's invariant:decisions,assumptions,the word that grows with each conflict. -/
namespace Go.Ab
open Go Go.Proofs
def lW (n:Nat) (M:List Int):Nat→Nat
 |0=>0
 |k+1=>lW n M k+(if (k:Int)∈M then 1 else 2)*3 ^ (n - 1 - k)
theorem qb (n:Nat) (M:List Int) (k:Nat):lW n M (k+1)=lW n M k+(if (k:Int)∈M then 1 else 2)*3 ^ (n - 1 - k):=rfl
theorem Kx (n:Nat) (M:List Int) {k:Nat} (hk:k+1≤n):lW n M (k+1)+3 ^ (n - (k+1))≤lW n M k+3 ^ (n - k):=by
 have e:n - k=(n - 1 - k)+1:=by omega
 have e2:n - (k+1)=n - 1 - k:=by omega
 rw[e2,e,Nat.pow_succ,qb]
 split<;>omega
theorem Ew (n:Nat) (M:List Int) {a b:Nat} (qh:a≤b) (hb:b≤n):lW n M b+3 ^ (n - b)≤lW n M a+3 ^ (n - a):=by
 obtain⟨d,rfl⟩:=eH qh
 clear qh
 induction d with
 |zero=>exact aP _
 |succ d ih=>
  have h1:=Kx n M (k:=a+d) hb
  have h2:=ih (by omega)
  rw[← bG]
  omega
theorem Kg (n:Nat) (M:List Int) {k:Nat} (hk:k≤n):lW n M k<3 ^ n:=by
 have:=Ew n M (bm k) hk
 simp only[lW,ba,Nat.sub_zero] at this
 have:0<3 ^ (n - k):=eI (by omega)
 omega
theorem yi (n:Nat) (M:List Int) {a b:Nat} (qh:a≤b):lW n M a≤lW n M b:=by
 obtain⟨d,rfl⟩:=eH qh
 clear qh
 induction d with
 |zero=>exact aP _
 |succ d ih=>rw[← bG,qb];omega
theorem vj (n:Nat) {M M':List Int} {k:Nat} (h:∀i,i<k→((i:Int)∈M↔(i:Int)∈M')):lW n M k=lW n M' k:=by
 induction k with
 |zero=>rfl
 |succ k ih=>
  rw[qb,qb,ih fun i hi=>h i aJ]
  by_cases e:(k:Int)∈M
  ·rw[if_pos e,if_pos ((h k aJ).1 e)]
  ·rw[if_neg e,if_neg (fun q=>e ((h k aJ).2 q))]
theorem IM {n:Nat} {M:List Int} (hs:M.Pairwise (·≤·)) (h0:∀m∈M,0≤m) {t:Nat} (ht:t<M.length) (fm:t=0∨∀m∈M.take t,m<M[t]) {len:Nat} (hl:(M[t]).toNat≤len) (hn:len≤n) (hmn:(M[t]).toNat+1≤n):lW n M len<lW n (M.take t) ((M[t]).toNat+1):=by
 have EY:=h0 _ (cZ ht)
 have kg:∀i:Nat,i<(M[t]).toNat→((i:Int)∈M↔(i:Int)∈M.take t):=fun i hi=>by
  refine⟨fun h=>?_,fun h=>cT h⟩
  obtain⟨a,ha,e⟩:=dc h
  have sH:a<t:=by
   apply eE
   intro Bj
   by_cases e4:a=t
   ·subst e4;omega
   ·have:=eD.1 hs t a ht ha (by omega)
    omega
  rw[eC]
  exact⟨a,by omega,e⟩
 have e1:=vj n kg
 have GH:¬(((M[t]).toNat:Nat):Int)∈M.take t:=fun h=>by
  rcases fm with rfl|q
  ·simp at h
  ·have:=q _ h;omega
 have e2:lW n (M.take t) ((M[t]).toNat+1)=lW n M (M[t]).toNat+2*3 ^ (n - 1 - (M[t]).toNat):=by
  rw[lW,← e1,if_neg GH]
 have DP:0<3 ^ (n - 1 - (M[t]).toNat):=eI (by omega)
 by_cases e:(M[t]).toNat=len
 ·rw[← e,e2];omega
 ·have h3:=Ew n M (a:=(M[t]).toNat+1) (b:=len) aJ hn
  have iJ:((((M[t]).toNat:Nat):Int))∈M:=by rw[Int.toNat_of_nonneg EY];exact cZ ht
  have e3:lW n M ((M[t]).toNat+1)=lW n M (M[t]).toNat+1*3 ^ (n - 1 - (M[t]).toNat):=by rw[lW,if_pos iJ]
  have e4:n - ((M[t]).toNat+1)=n - 1 - (M[t]).toNat:=by omega
  have:0<3 ^ (n - len):=eI (by omega)
  rw[e3,e4] at h3
  omega
def vf (n:Nat) (s:SR):Prop:=∃k:Nat,s.low=(k:Int)∧1≤k∧k≤n+1∧∀u:Nat,1≤u→u<k→(u:Int)∈s.ll 0∨ -(u:Int)∈s.ll 0
structure SI (n:Nat) (F:List (List Int)) (A:List Int) (P0 N0:Nat) (s:SR) (met:Nat):Prop where
 inv:fR n s
 jX:Sem n F s
 dec:∀m∈s.marks,∀x,(s.ll 0)[m.toNat]? =some x→s.reason.getD (fa x) 0= -1→x∈A∨(A.length:Int)<e_ s x∧∃v:Nat,x= -(v:Int)∧∀u:Nat,0<u→u<v→(u:Int)∈(s.ll 0).take m.toNat∨ -(u:Int)∈(s.ll 0).take m.toNat
 p8:∀i,i<s.marks.length→∀x,A[i]? =some x→x∈s.ll 0∧e_ s x≤i+1
 plen:s.proof.length=P0+met
 rD:s.nc≤N0+met
 wrd:met≤lW n s.marks (s.ll 0).length
 low:vf n s
section
variable {n:Nat} {F:List (List Int)} {A:List Int} {P0 N0:Nat} {s:SR} {met:Nat}
theorem SI.IP (h:SI n F A P0 N0 s met):met<3 ^ n:=Nat.lt_of_le_of_lt h.wrd (Kg n _ h.inv.ix.len)
theorem SI.prop {t:SR} {r:Int} (h:SI n F A P0 N0 s met) (hp:Ho n s t r):SI n F A P0 N0 t met:=by
 have hx:=hp.ext
 obtain⟨ys,ell⟩:=hx.ll
 have hold:∀{x},x∈s.ll 0→x∈t.ll 0:=fun hm=>by rw[ell];exact bX.2 (.inl hm)
 exact
  {inv:=hp.inv
   jX:=h.jX.prop h.inv hp
   dec:=fun m hm x ve hr=>by
    rw[hx.marks] at hm
    have pP:=h.inv.nD m hm
    have hd:=h.inv.hd
    by_cases e:x∈s.ll 0
    ·rw[hx.Au x e] at hr
     have fm:m.toNat<(s.ll 0).length:=by
      apply eE
      intro Bj
      obtain⟨i,hi,ei⟩:=dc e
      obtain⟨J5,em⟩:=aW.1 ve
      have e2:(t.ll 0)[i]'(by rw[ell,bW];omega)=x:=by simp only[ell,dS hi,ei]
      have:i=m.toNat:=(du hp.inv.ix.nd (h₀:=by simp [ell];omega) (h₁:=by simpa using J5)).1 (by rw[dj,dj,e2,em])
      omega
     rw[ell,aT fm] at ve
     rw[ell,cS aJ,rO h.inv hp.inv hx e]
     exact h.dec m hm x ve hr
    ·exact absurd hr (hx.new x (aU ve) e)
   p8:=fun i hi x QZ=>by
    rw[hx.marks] at hi
    obtain⟨q1,q2⟩:=h.p8 i hi x QZ
    exact⟨hold q1,by rw[rO h.inv hp.inv hx q1];exact q2⟩
   plen:=by rw[hx.proof];exact h.plen
   rD:=by rw[hx.nc];exact h.rD
   wrd:=by
    rw[hx.marks,ell,bW]
    exact aQ h.wrd (yi n _ aJ)
   low:=by
    obtain⟨k,q1,q2,q3,q4⟩:=h.low
    exact⟨k,by rw[hx.low];exact q1,q2,q3,fun u h1 h2=>(q4 u h1 h2).imp hold hold⟩}
theorem fR.sC (h:fR n s) (P:List (List Int)):fR n {s with proof:=P}:=
 {hn:=h.hn,ix:=h.ix,val:=h.val,lvl:=h.lvl,od:=h.od,hd:=h.hd,nD:=h.nD,ml:=h.ml,cls:=h.cls,fresh:=h.fresh,nc:=h.nc,nw:=h.nw,wt:=h.wt,qL:=h.qL,qH:=h.qH,two:=h.two,pc:=h.pc,pY:=h.pY}
def oN (s:SR) (l:List Int):SR:={s with proof:=s.proof++ [l]}
theorem Sem.more (h:Sem n F s) {l:List Int} (hr:JV (F++s.proof) l) (hl:∀x∈l,Lit n x):Sem n F (oN s l):=by
 have kg:∀c∈F++s.proof,c∈F++(s.proof++ [l]):=fun c hc=>by
  rcases bX.1 hc with hc|hc
  ·exact bX.2 (.inl hc)
  ·exact bX.2 (.inr (bX.2 (.inl hc)))
 exact
  {lits:=fun c hc=>by
    have hc:c∈F++(s.proof++ [l]):=hc
    rw[← dZ] at hc
    rcases bX.1 hc with hc|hc
    ·exact h.lits c hc
    ·rw[cq.1 hc];exact hl
   cls:=fun j hj=>by
    obtain⟨C,hC,q1,q2⟩:=h.cls j hj
    exact⟨C,kg C hC,q1,fun x hx=>(q2 x hx).imp id fun q=>q.mono kg fun _ h=>h⟩
   o7:=fun x hx hl=>(h.o7 x hx hl).mono kg fun _ h=>h
   bad:=fun hb=>(h.bad hb).cut kg fun _ h=>h.elim
   sC:=h.sC.snoc hr
   rep:=h.rep}
theorem fR.mark (h:fR n s) (hh:s.head=((s.ll 0).length:Int)):fR n (hX s):=
 {hn:=h.hn,ix:=h.ix,val:=h.val,lvl:=h.lvl,od:=h.od,hd:=h.hd
  nD:=fun m hm=>by
   have hm:m∈s.marks++ [((s.ll 0).length:Int)]:=hm
   rcases bX.1 hm with hm|hm
   ·exact h.nD m hm
   ·rw[cq.1 hm];show _∧_≤s.head;omega
  ml:=fun i hi=>by
   have e:(s.marks++ [((s.ll 0).length:Int)]).countP (fun m=>decide (m≤(i:Int)))=s.marks.countP (fun m=>decide (m≤(i:Int))):=by
    have hi:i<(s.ll 0).length:=hi
    rw[eA]
    have:decide (((s.ll 0).length:Int)≤(i:Int))=false:=by simp;omega
    rw[List.countP_singleton,this];rfl
   show e_ s (s.ll 0)[i]=(((s.marks++ [((s.ll 0).length:Int)]).countP _:Nat):Int)
   rw[e];exact h.ml i hi
  cls:=h.cls,fresh:=h.fresh,nc:=h.nc,nw:=h.nw,wt:=h.wt,qL:=h.qL,qH:=h.qH,two:=h.two
  pc:=by
   show(s.marks++ [((s.ll 0).length:Int)]).Pairwise _
   rw[List.pairwise_append]
   exact⟨h.pc,by simp,fun a ha b hb=>by rw[cq.1 hb];have:=h.nD a ha;have:=h.hd;omega⟩
  pY:=fun i hi=>(h.pY i hi).imp (fun⟨q1,q2⟩=>⟨q1,q2.imp (fun q=>bX.2 (.inl q)) id⟩) id}
theorem yg (n:Nat) (M:List Int) (k:Nat):lW n (M++ [(k:Int)]) k=lW n M k:=by
 refine vj n fun i hi=>?_
 rw[bX,cq]
 constructor
 ·rintro(h|h)
  ·exact h
  ·omega
 ·exact .inl
theorem SI.JJ (h:SI n F A P0 N0 s met) (hh:s.head=((s.ll 0).length:Int)) (hA:s.marks.length<A.length) (hx:A[s.marks.length]∈s.ll 0):SI n F A P0 N0 (hX s) met where
 inv:=h.inv.mark hh
 jX:=⟨h.jX.lits,h.jX.cls,h.jX.o7,h.jX.bad,h.jX.sC,h.jX.rep⟩
 dec:=fun m hm x ve hr=>by
  have hm:m∈s.marks++ [((s.ll 0).length:Int)]:=hm
  rcases bX.1 hm with hm|hm
  ·exact h.dec m hm x ve hr
  ·rw[cq.1 hm] at ve
   have ve:(s.ll 0)[((s.ll 0).length:Int).toNat]? =some x:=ve
   simp at ve
 p8:=fun i hi x QZ=>by
  have hi:i<(s.marks++ [((s.ll 0).length:Int)]).length:=hi
  simp only[bW,dC] at hi
  by_cases e:i<s.marks.length
  ·exact h.p8 i e x QZ
  ·obtain rfl:i=s.marks.length:=by omega
   rw[a8 hA] at QZ
   obtain rfl:A[s.marks.length]=x:=by simpa using QZ
   have:=(h.inv.nF hx).2
   exact⟨hx,by show e_ s _≤_;omega⟩
 plen:=h.plen
 rD:=h.rD
 wrd:=by
  show met≤lW n (s.marks++ [((s.ll 0).length:Int)]) (s.ll 0).length
  rw[yg];exact h.wrd
 low:=h.low
theorem SI.Is (h:SI n F A P0 N0 s met) (hh:s.head=((s.ll 0).length:Int)) {x:Int} (hx:Lit n x) (h1:x∉s.ll 0) (h2: -x∉s.ll 0) (hv:Value) (hA:∀y,A[s.marks.length]? =some y→x=y)
  (hd:x∈A∨A.length≤s.marks.length∧∃v:Nat,x= -(v:Int)∧∀u:Nat,0<u→u<v→(u:Int)∈s.ll 0∨ -(u:Int)∈s.ll 0):SI n F A P0 N0 (fF (hX s) x (-1) hv) met:=by
 have hm:=h.inv.mark hh
 have ke:(fF (hX s) x (-1) hv).ll 0=s.ll 0++ [x]:=jA _ _ _ _
 have hi:=hm.push (r:= -1) hv hx h1 h2 (.inl ⟨rfl,.inl (bX.2 (.inr (by simp [hX])))⟩)
 have hold:∀{y},y∈s.ll 0∨ -y∈s.ll 0→fa y≠fa x:=fun hy=>ov (n:=n) h1 h2 hy
 have qV:∀{y},y∈s.ll 0→e_ (fF (hX s) x (-1) hv) y=e_ s y:=fun hy=>iH (s:=hX s) (hold (.inl hy))
 have T4:e_ (fF (hX s) x (-1) hv) x=(s.marks.length+1:Nat):=by
  rw[my hm hx];show(((s.marks++ [_]).length:Nat):Int)=_;simp
 have CC:(fF (hX s) x (-1) hv).marks=s.marks++ [((s.ll 0).length:Int)]:=rfl
 exact
  {inv:=hi
   jX:=
    {lits:=h.jX.lits,cls:=h.jX.cls,bad:=h.jX.bad,sC:=h.jX.sC
     o7:=fun y hy hl=>by
      rw[ke] at hy
      rcases bX.1 hy with hy|hy
      ·exact h.jX.o7 y hy (by rw[← qV hy];exact hl)
      ·rw[cq.1 hy,T4] at hl;omega
     rep:=fun C hC=>by
      rcases h.jX.rep C hC with q|⟨y,q1,q2,q3⟩|q|q
      ·exact .inl q
      ·exact .inr (.inl ⟨y,q1,by rw[ke];exact bX.2 (.inl q2),by rw[qV q2];exact q3⟩)
      ·exact .inr (.inr (.inl q))
      ·exact .inr (.inr (.inr q))}
   dec:=fun m pP y hy hr=>by
    rw[CC] at pP
    rw[ke] at hy ⊢
    have yh:m.toNat≤(s.ll 0).length:=by
     rcases bX.1 pP with q|q
     ·have:=h.inv.nD m q;have:=h.inv.hd;omega
     ·rw[cq.1 q];simp
    rw[cS yh]
    by_cases e:m.toNat<(s.ll 0).length
    ·rw[aT e] at hy
     have CT:=aU hy
     rw[lP (s:=hX s) (hold (.inl CT))] at hr
     rw[qV CT]
     refine h.dec m ?_ y hy hr
     rcases bX.1 pP with q|q
     ·exact q
     ·rw[cq.1 q] at e;simp at e
    ·have e2:m.toNat=(s.ll 0).length:=by omega
     rw[e2,List.getElem?_append_right (aP _)] at hy
     obtain rfl:x=y:=by simpa using hy
     rw[e2,da,T4]
     exact hd.imp id fun⟨q1,q2⟩=>⟨by omega,q2⟩
   p8:=fun i qW y hy=>by
    rw[CC] at qW
    simp only[bW,dC] at qW
    by_cases e:i<s.marks.length
    ·obtain⟨q1,q2⟩:=h.p8 i e y hy
     exact⟨by rw[ke];exact bX.2 (.inl q1),by rw[qV q1];exact q2⟩
    ·obtain rfl:i=s.marks.length:=by omega
     rw[← hA y hy,ke,T4]
     exact⟨by simp,by omega⟩
   plen:=h.plen
   rD:=h.rD
   wrd:=by
    rw[CC,ke,bW]
    refine aQ ?_ (yi n _ (Nat.le_add_right _ _))
    rw[yg];exact h.wrd
   low:=by
    obtain⟨k,q1,q2,q3,q4⟩:=h.low
    exact⟨k,q1,q2,q3,fun u h1 h2=>by rw[ke];exact(q4 u h1 h2).imp (fun q=>bX.2 (.inl q)) (fun q=>bX.2 (.inl q))⟩}
end
end Go.Ab
/- The search's invariant:a clause learned. -/
namespace Go.Ab
open Go Go.Proofs
theorem zE {l:List Int} {b u:Int}:u<o6 b l↔u<b∧∀x∈l,u<max x (-x):=by
 unfold o6
 induction l generalizing b with
 |nil=>simp
 |cons x l ih=>
  rw[List.foldl_cons,ih]
  simp only[bw,forall_eq_or_imp]
  constructor
  ·rintro⟨h1,h2⟩;exact⟨by omega,by omega,h2⟩
  ·rintro⟨h1,h2,h3⟩;exact⟨by omega,h3⟩
section
variable {n:Nat} {F:List (List Int)} {A:List Int} {P0 N0:Nat} {s:SR} {met:Nat}
theorem qC {L:List Int} {m:Nat} {x:Int} (h:x∈L):x∈L.take m∨x∈L.drop m:=by
 rw[← bX,dz];exact h
theorem vf.HQ (h:vf n s) (hs:fR n s) {t:Nat} (ht:t<s.marks.length):vf n (gh s t):=by
 obtain⟨k,q1,q2,q3,q4⟩:=h
 obtain⟨e1,_,_⟩:=mC hs ht
 have e:s.marks.getD t 0=s.marks[t]:=fy ht
 have elow:(gh s t).low=o6 s.low ((s.ll 0).drop (s.marks[t]).toNat):=by
  show o6 s.low ((s.ll 0).drop (s.marks.getD t 0).toNat)=_
  rw[e]
 have DP:0<o6 s.low ((s.ll 0).drop (s.marks[t]).toNat):=zE.2 ⟨by omega,fun x hx=>by have:=hs.ix.xg x (List.mem_of_mem_drop hx);omega⟩
 have hle:o6 s.low ((s.ll 0).drop (s.marks[t]).toNat)≤s.low:=by
  apply eJ.1
  intro fm
  have:=(zE.1 fm).1
  omega
 refine⟨(o6 s.low ((s.ll 0).drop (s.marks[t]).toNat)).toNat,by rw[elow];omega,by omega,by omega,fun u h1 h2=>?_⟩
 have hu:(u:Int)<o6 s.low ((s.ll 0).drop (s.marks[t]).toNat):=by omega
 have jl:=(zE.1 hu).2
 rw[e1]
 refine(q4 u h1 aJ).imp (fun q=>?_) fun q=>?_
 ·exact(qC q).resolve_right fun hd=>by have:=jl _ hd;omega
 ·exact(qC q).resolve_right fun hd=>by have:=jl _ hd;omega
theorem rV.lvl {j:Nat} {l:List Int} {tz:Int} (h:rV n s j l tz) (hs:fR n s) (hm:0<s.marks.length):0≤tz∧∃ht:tz.toNat<s.marks.length,(tz=0∨∀m∈s.marks.take tz.toNat,m<s.marks[tz.toNat]):=by
 obtain⟨a,ha,rest,_,_,h2,_,h4⟩:=h.uip
 rcases h4 with ⟨rfl,_⟩|⟨x,hx,e⟩
 ·exact⟨by omega,by simpa using hm,.inl rfl⟩
 ·obtain⟨p1,p2,p3,p4⟩:=h2 x hx
  have ht:tz.toNat<s.marks.length:=by omega
  refine⟨by omega,ht,.inr fun m Sz=>?_⟩
  obtain⟨i,hi,ei⟩:=dc p1
  have qV:e_ s (s.ll 0)[i]=tz:=by rw[ei,ie];exact e
  have hib:=(hs.l4 ht hi).1 (by omega)
  have Y7:=hs.ml i hi
  have h0:=(hs.ss ht).1
  obtain⟨q,hq,eq⟩:=dc Sz
  rw[dI] at hq
  rw[ew] at eq
  -- all of the first marks are at or below i
  have jO:m≤(i:Int):=by
   apply eJ.1
   intro WZ
   have:=(vE hs.pc (t:=q) aJ (i:=(i:Int)) aJ).2
   omega
  omega
theorem SI.cut (h:SI n F A P0 N0 s met) {j:Nat} {l:List Int} {tz:Int} (ha:rV n s j l tz) (hm:0<s.marks.length) (hj:j<s.nc) (hf:∀x∈s.cl j,-x∈s.ll 0) (qV:∃ht:tz.toNat<s.marks.length,(tz=0∨∀m∈s.marks.take tz.toNat,m<s.marks[tz.toNat])):
  SI n F A (P0+met+1) (N0+met) (oN (gh s tz.toNat) l) 0:=by
 obtain⟨ht,fm⟩:=qV
 have hs:=h.inv
 obtain⟨e1,e2,e3⟩:=mC hs ht
 have Vl:=ha.Wn h.jX hs hj hf
 have HD:=h.low.HQ hs ht
 exact
  {inv:=(hs.HQ ht).sC _
   jX:=(h.jX.HQ hs ht).more (.inl Vl) (ha.lits hs)
   dec:=fun m Sz x hx hr=>by
    have Sz:m∈s.marks.take tz.toNat:=Sz
    have hx:((gh s tz.toNat).ll 0)[m.toNat]? =some x:=hx
    show _∨(A.length:Int)<e_ s x∧∃v:Nat,x= -(v:Int)∧∀u:Nat,0<u→u<v→(u:Int)∈((gh s tz.toNat).ll 0).take m.toNat∨ -(u:Int)∈((gh s tz.toNat).ll 0).take m.toNat
    rw[e1] at hx ⊢
    obtain⟨GI,_⟩:=aW.1 hx
    rw[dI] at GI
    rw[List.getElem?_take,if_pos aJ] at hx
    rw[eF,dY aJ]
    exact h.dec m (cT Sz) x hx hr
   p8:=fun i hi x hx=>by
    have hi:i<(s.marks.take tz.toNat).length:=hi
    rw[dI] at hi
    obtain⟨q1,q2⟩:=h.p8 i aJ x hx
    refine⟨?_,q2⟩
    show x∈(gh s tz.toNat).ll 0
    rw[e1]
    obtain⟨b,hb,rfl⟩:=dc q1
    have:=(hs.l4 ht hb).1 (by omega)
    rw[eC]
    exact⟨b,by omega,rfl⟩
   plen:=by show(s.proof++ [l]).length=_;rw[bW,h.plen];rfl
   rD:=h.rD
   wrd:=bm _
   low:=HD}
theorem rV.back {j:Nat} {l:List Int} {tz:Int} (ha:rV n s j l tz) (hs:fR n s) (qV:∃ht:tz.toNat<s.marks.length,(tz=0∨∀m∈s.marks.take tz.toNat,m<s.marks[tz.toNat])):
  ∃p rest,l=p::rest∧Lit n p∧p∉(gh s tz.toNat).ll 0∧ -p∉(gh s tz.toNat).ll 0∧l.Nodup∧(∀x∈rest,-x∈(gh s tz.toNat).ll 0∧Lit n x∧0<e_ s x∧e_ s x≤tz)∧(rest=[]∨∃x∈rest,e_ s x=tz)∧(tz=0→rest=[]):=by
 obtain⟨ht,_⟩:=qV
 obtain⟨e1,_,_⟩:=mC hs ht
 have oV:=ha.lits hs
 obtain⟨a,BY,rest,rfl,h1,h2,h3,h4⟩:=ha.uip
 have TM:(s.ll 0)[a]∉(s.ll 0).take (s.marks[tz.toNat]).toNat:=fun hm=>by
  obtain⟨b,hb,e⟩:=dc hm
  rw[dI] at hb
  rw[ew] at e
  have:=(hs.l4 ht (i:=b) aJ).2 (by omega)
  rw[e,h1] at this;omega
 refine⟨_,rest,rfl,oV _ (by simp),fun hm=>?_,by rw[dv,e1];exact TM,?_,fun x hx=>?_,?_,?_⟩
 ·rw[e1] at hm
  exact hs.ix.nJ (cZ BY) (cT hm)
 ·rw[cY]
  refine⟨fun hm=>?_,?_⟩
  ·have:=(h2 _ hm).2.2.1
   rw[ie,h1] at this;omega
  ·exact List.Pairwise.of_map fa (fun a b qh e=>qh (by rw[e])) h3
 ·obtain⟨p1,p2,p3,p4⟩:=h2 x hx
  refine⟨?_,oV x (by simp [hx]),p2,p4⟩
  obtain⟨i,hi,e⟩:=dc p1
  rw[e1,eC]
  refine⟨i,?_,e⟩
  have:=(hs.l4 ht hi).1 (by rw[e,ie];omega)
  omega
 ·exact h4.imp (fun q=>q.2) id
 ·intro e0
  rcases h4 with ⟨_,q⟩|⟨x,hx,q⟩
  ·exact q
  ·have:=(h2 x hx).2.1;omega
theorem SI.Sd (h:SI n F A P0 N0 s met) {tz:Int} (qV:∃ht:tz.toNat<s.marks.length,(tz=0∨∀m∈s.marks.take tz.toNat,m<s.marks[tz.toNat])) (O4:0≤tz) (hn:((gh s tz.toNat).ll 0).length+1≤n):met+1≤lW n (s.marks.take tz.toNat) (((gh s tz.toNat).ll 0).length+1):=by
 obtain⟨ht,fm⟩:=qV
 have hs:=h.inv
 obtain⟨e1,_,_⟩:=mC hs ht
 obtain⟨h0,h1,h2⟩:=hs.ss ht
 have hlen:((gh s tz.toNat).ll 0).length=(s.marks[tz.toNat]).toNat:=by rw[e1,dI];omega
 rw[hlen] at hn ⊢
 have:=IM (n:=n) hs.pc (fun m hm=>(hs.nD m hm).1) ht (fm.imp (fun e=>by omega) id) (len:=(s.ll 0).length) aJ hs.ix.len hn
 have:=h.wrd
 omega
theorem SI.OC (h:SI n F A P0 N0 s met) {j:Nat} {p:Int} {tz:Int} (ha:rV n s j [p] tz) (hm:0<s.marks.length) (hj:j<s.nc) (hf:∀x∈s.cl j,-x∈s.ll 0) (hv:Value):
  tz=0∧SI n F A P0 N0 (fF (oN (gh s tz.toNat) [p]) p (-1) hv) (met+1):=by
 obtain⟨O4,qV⟩:=ha.lvl h.inv hm
 have hc:=h.cut ha hm hj hf qV
 obtain⟨p',rest,e,b1,b2,b3,b4,b5,b6,b7⟩:=ha.back h.inv qV
 simp only[List.cons.injEq] at e
 obtain⟨rfl,rfl⟩:=e
 have Fl:tz=0:=by
  obtain⟨a,BY,rest,q1,_,_,_,q4⟩:=ha.uip
  simp only[List.cons.injEq] at q1
  rcases q4 with q|⟨x,hx,_⟩
  ·exact q.1
  ·rw[← q1.2] at hx;simp at hx
 refine⟨Fl,?_⟩
 have CC:(fF (oN (gh s tz.toNat) [p]) p (-1) hv).marks=[]:=by show s.marks.take tz.toNat=[];rw[Fl];rfl
 have ke:(fF (oN (gh s tz.toNat) [p]) p (-1) hv).ll 0=(gh s tz.toNat).ll 0++ [p]:=jA _ _ _ _
 have hinv:=hc.inv.push (r:= -1) hv b1 b2 b3 (.inl ⟨rfl,.inr CC⟩)
 have hold:∀{y},y∈(gh s tz.toNat).ll 0→fa y≠fa p:=fun hy=>ov (n:=n) b2 b3 (.inl hy)
 have hlen:=hinv.ix.len
 rw[ke,bW] at hlen
 exact
  {inv:=hinv
   jX:=
    {lits:=hc.jX.lits,cls:=hc.jX.cls,bad:=hc.jX.bad,sC:=hc.jX.sC
     o7:=fun y hy hl=>by
      rw[ke] at hy
      rcases bX.1 hy with hy|hy
      ·exact hc.jX.o7 y hy (by rw[← hl];exact(iH (s:=(oN (gh s tz.toNat) [p])) (hold hy)).symm)
      ·rw[cq.1 hy]
       refine .unit (c:=[p]) ?_ (by simp) fun y hy fW=>absurd (by simpa using hy) fW
       show [p]∈F++(s.proof++ [[p]])
       simp
     rep:=fun C hC=>by
      rcases hc.jX.rep C hC with q|⟨y,q1,q2,q3⟩|q|q
      ·exact .inl q
      ·exact .inr (.inl ⟨y,q1,by rw[ke];exact bX.2 (.inl q2),by rw[← q3];exact iH (s:=(oN (gh s tz.toNat) [p])) (hold q2)⟩)
      ·exact .inr (.inr (.inl q))
      ·exact .inr (.inr (.inr q))}
   dec:=fun m pP=>by rw[CC] at pP;simp at pP
   p8:=fun i hi=>by rw[CC] at hi;simp at hi
   plen:=by have:=hc.plen;show(s.proof++ [[p]]).length=_;have:(s.proof++ [[p]]).length=P0+met+1+0:=this;omega
   rD:=by have:=h.rD;show s.nc≤_;omega
   wrd:=by
    have:=h.Sd qV O4 (by simpa using hlen)
    rw[ke,bW]
    exact this
   low:=by
    obtain⟨k,q1,q2,q3,q4⟩:=hc.low
    exact⟨k,q1,q2,q3,fun u h1 h2=>by rw[ke];exact(q4 u h1 h2).imp (fun q=>bX.2 (.inl q)) (fun q=>bX.2 (.inl q))⟩}
theorem SI.Of (h:SI n F A P0 N0 s met) {j:Nat} {l l':List Int} {tz:Int} (ha:rV n s j l tz) (hm:0<s.marks.length) (hj:j<s.nc) (hf:∀x∈s.cl j,-x∈s.ll 0) (h2:2≤l.length) (hp:lk l l') (e0:c0 l'=c0 l) (e1:c1 l'∈l.tail) (nk:∀x∈l.tail,e_ s x≤e_ s (c1 l')) (z8:s.nc+1≤100000) (h0 h1 h3 hv:Value):
  SI n F A P0 N0 (fF (kS (oN (gh s tz.toNat) l) l' h0 h1 h3) (c0 l') s.nc hv) (met+1):=by
 obtain⟨O4,qV⟩:=ha.lvl h.inv hm
 have hc:=h.cut ha hm hj hf qV
 have oV:=ha.lits h.inv
 obtain⟨p,rest,rfl,b1,b2,b3,b4,b5,b6,b7⟩:=ha.back h.inv qV
 obtain⟨ht,fm⟩:=qV
 have Am:c0 (p::rest)=p:=rfl
 rw[Am] at e0
 have fW:rest≠ []:=fun e=>by rw[e] at h2;simp at h2
 have Qp:e_ s (c1 l')=tz:=by
  rcases b6 with q|⟨x,hx,q⟩
  ·exact absurd q fW
  ·have:=nk x hx
   have:=(b5 _ e1).2.2.2
   omega
 have Fl:tz≠0:=fun e=>fW (b7 e)
 have Rv:(gh s tz.toNat).marks.length=tz.toNat:=by show(s.marks.take tz.toNat).length=_;rw[dI];omega
 have wQ:∀x∈l',x≠p→ -x∈(gh s tz.toNat).ll 0:=fun x hx PN=>by
  rcases bw.1 ((hp.mem x).1 hx) with q|q
  ·exact absurd q PN
  ·exact(b5 x q).1
 have hinv:fR n (fF (kS (oN (gh s tz.toNat) (p::rest)) l' h0 h1 h3) (c0 l') s.nc hv):=hc.inv.rI (c:=l') (h0:=h0) (h1:=h1) (h2:=h3) (h:=hv) (by rw[hp.len];exact h2) (hp.nd b4) (fun x hx=>oV x ((hp.mem x).1 hx)) z8 (by rw[e0];exact b2) (by rw[e0];exact b3) (fun x hx PN=>wQ x hx (by rw[← e0];exact PN)) (by
  show e_ s (c1 l')=((gh s tz.toNat).marks.length:Int)
  rw[Qp,Rv];omega)
 rw[e0] at hinv ⊢
 have ke:(fF (kS (oN (gh s tz.toNat) (p::rest)) l' h0 h1 h3) p s.nc hv).ll 0=(gh s tz.toNat).ll 0++ [p]:=jA _ _ _ _
 have hold:∀{y},y∈(gh s tz.toNat).ll 0→fa y≠fa p:=fun hy=>ov (n:=n) b2 b3 (.inl hy)
 have Lt:∀{y},y∈(gh s tz.toNat).ll 0→e_ (fF (kS (oN (gh s tz.toNat) (p::rest)) l' h0 h1 h3) p s.nc hv) y=e_ s y:=fun hy=>iH (s:=kS (oN (gh s tz.toNat) (p::rest)) l' h0 h1 h3) (hold hy)
 have RW:e_ (fF (kS (oN (gh s tz.toNat) (p::rest)) l' h0 h1 h3) p s.nc hv) p=(tz.toNat:Nat):=by
  have:=jm b1
  have h5:(fa p)<s.level.length:=by rw[h.inv.lvl];omega
  unfold e_ fF
  simp only
  rw[c8,bH,if_pos rfl,if_pos (by exact h5)]
  show(((s.marks.take tz.toNat).length:Nat):Int)=_
  rw[dI];simp;omega
 have hlen:=hinv.ix.len
 rw[ke,bW] at hlen
 exact
  {inv:=hinv
   jX:=
    {lits:=hc.jX.lits
     cls:=fun k hk=>by
      have hk:k<s.nc+1:=hk
      show ∃C∈F++(s.proof++ [p::rest]),(∀x∈eZ s.cl s.nc l' k,x∈C)∧∀x∈C,x∈eZ s.cl s.nc l' k∨oe (F++(s.proof++ [p::rest])) Iq (-x)
      by_cases e:k=s.nc
      ·subst e
       rw[eW]
       exact⟨p::rest,by simp,fun x hx=>(hp.mem x).1 hx,fun x hx=> .inl ((hp.mem x).2 hx)⟩
      ·rw[ft _ _ e]
       exact hc.jX.cls k (by show k<s.nc;omega)
     bad:=hc.jX.bad,sC:=hc.jX.sC
     o7:=fun y hy hl=>by
      rw[ke] at hy
      rcases bX.1 hy with hy|hy
      ·exact hc.jX.o7 y hy ((Lt hy).symm.trans hl)
      ·rw[cq.1 hy,RW] at hl;omega
     rep:=fun C hC=>by
      rcases hc.jX.rep C hC with q|⟨y,q1,q2,q3⟩|q|⟨k,q1,q2⟩
      ·exact .inl q
      ·exact .inr (.inl ⟨y,q1,by rw[ke];exact bX.2 (.inl q2),(Lt q2).trans q3⟩)
      ·exact .inr (.inr (.inl q))
      ·have q1:k<s.nc:=q1
       refine .inr (.inr (.inr ⟨k,by show k<s.nc+1;omega,fun x hx=>q2 x ?_⟩))
       have hx:x∈eZ s.cl s.nc l' k:=hx
       rwa [ft _ _ aJ] at hx}
   dec:=fun m pP y hy hr=>by
    have pP:m∈s.marks.take tz.toNat:=pP
    have DE:m<s.marks[tz.toNat]:=(fm.resolve_left Fl) m pP
    obtain⟨q1,q2,q3⟩:=h.inv.ss ht
    have EY:=(h.inv.nD m (cT pP)).1
    have W0:((gh s tz.toNat).ll 0).length=(s.marks[tz.toNat]).toNat:=by rw[(mC h.inv ht).1,dI];omega
    rw[ke] at hy ⊢
    rw[aT aJ] at hy
    rw[cS aJ]
    rw[lP (s:=kS (oN (gh s tz.toNat) (p::rest)) l' h0 h1 h3) (hold (aU hy))] at hr
    rw[Lt (aU hy)]
    exact hc.dec m pP y hy hr
   p8:=fun i hi y hy=>by
    obtain⟨q1,q2⟩:=hc.p8 i hi y hy
    exact⟨by rw[ke];exact bX.2 (.inl q1),by rw[Lt q1];exact q2⟩
   plen:=by show(s.proof++ [p::rest]).length=_;have:(s.proof++ [p::rest]).length=P0+met+1+0:=hc.plen;omega
   rD:=by have:=h.rD;show s.nc+1≤_;omega
   wrd:=by
    have:=h.Sd ⟨ht,fm⟩ O4 (by simpa using hlen)
    rw[ke,bW]
    exact this
   low:=by
    obtain⟨k,q1,q2,q3,q4⟩:=hc.low
    exact⟨k,q1,q2,q3,fun u h1 h2=>by rw[ke];exact(q4 u h1 h2).imp (fun q=>bX.2 (.inl q)) (fun q=>bX.2 (.inl q))⟩}
end
end Go.Ab
/- What the search gives:the least assignment,or the assumptions that are tz blame. -/
namespace Go.Ab
open Go Go.Proofs
section
variable {n:Nat} {F:List (List Int)} {A:List Int} {P0 N0:Nat} {s:SR} {met:Nat}
theorem Sem.nz (h:Sem n F s):∀c∈F++s.proof,∀x∈c,x≠0:=fun c hc x hx=>(h.lits c hc x hx).1
theorem Sem.TO (h:Sem n F s) {σ:Nat→Bool} (hσ:kX σ F):kX σ (F++s.proof):=h.sC.sound hσ h.nz
theorem Dy (hs:fR n s) (h:Sem n F s) {σ:Nat→Bool} (hσ:kX σ F) {p:Nat} (hd:∀i (hi:i<(s.ll 0).length),i≤p→(i:Int)∈s.marks→s.reason.getD (fa (s.ll 0)[i]) 0= -1→jx σ (s.ll 0)[i]):∀i (hi:i<(s.ll 0).length),i≤p→jx σ (s.ll 0)[i]:=by
 have hP:=h.TO hσ
 intro i
 induction i using dK with
 |ind i ih=>
  intro hi W8
  rcases hs.pY i hi with ⟨q1,q2|q2⟩|⟨j,q1,q2,q3,q4⟩
  ·exact hd i hi W8 q2 q1
  ·exact(h.o7 _ (cZ hi) q2).sound hP h.nz fun _ h=>h.elim
  ·obtain⟨C,hC,p1,p2⟩:=h.cls j q1
   obtain⟨y,hy,ht⟩:=hP C hC
   have OT:=h.nz C hC y hy
   rcases p2 y hy with U5|vu
   ·by_cases e:y=(s.ll 0)[i]
    ·rw[← e];exact ht
    ·obtain⟨a,ha,e2⟩:=dc (q4 y U5 e)
     rw[dI] at ha
     rw[ew] at e2
     have:=ih a aJ aJ (by omega)
     rw[e2] at this
     exact absurd ht ((jx.neg OT).1 this)
   ·exact absurd ht ((jx.neg OT).1 (vu.sound hP h.nz fun _ h=>h.elim))
def pb (L:List Int) (v:Nat):Bool:=decide ((v:Int)∈L)
theorem ET {x:Int} (h:0<x):x=(fa x:Int):=by unfold fa;omega
theorem vt {x:Int} (h:x<0):x= -(fa x:Int):=by unfold fa;omega
theorem pD {L:List Int} (ht:jG n L) (hf:∀v:Nat,1≤v→v≤n→(v:Int)∈L∨ -(v:Int)∈L) {x:Int} (hx:Lit n x):jx (pb L) x↔x∈L:=by
 have hv:=jm hx
 unfold jx pb
 by_cases h:x<0
 ·rw[if_pos h,decide_eq_false_iff_not]
  have e:=vt h
  constructor
  ·intro h1
   rw[e];exact(hf _ hv.1 hv.2).resolve_left h1
  ·intro h1 h2
   rw[e] at h1
   exact ht.nJ h2 h1
 ·rw[if_neg h,decide_eq_true_iff]
  have e:=ET (x:=x) (by obtain⟨_,_,_⟩:=hx;omega)
  rw[← e]
structure xN (n:Nat) (F:List (List Int)) (A:List Int) (L:List Int):Prop where
 ix:jG n L
 full:∀v:Nat,1≤v→v≤n→(v:Int)∈L∨ -(v:Int)∈L
 sat:kX (pb L) F
 p8:∀x∈A,x∈L
 min:∀σ,kX σ F→(∀x∈A,jx σ x)→∀v:Nat,1≤v→v≤n→(∀u:Nat,1≤u→u<v→σ u=pb L u)→pb L v=true→σ v=true
theorem SI.sat (h:SI n F A P0 N0 s met) (hb:s.broken=false) (hh:s.head=((s.ll 0).length:Int)) (hA:A.length≤s.marks.length) (hf:∀v:Nat,1≤v→v≤n→(v:Int)∈s.ll 0∨ -(v:Int)∈s.ll 0):xN n F A (s.ll 0):=by
 have hs:=h.inv
 have M4:∀c∈F,∀x∈c,Lit n x:=fun c hc=>h.jX.lits c (bX.2 (.inl hc))
 have fm:=fun {x:Int} (hx:Lit n x)=>pD hs.ix hf hx
 refine⟨hs.ix,hf,fun C hC=>?_,fun x hx=>?_,fun σ hσ hσA v h1 h2 HD hv=>?_⟩
 ·rcases h.jX.rep C hC with q|⟨x,q1,q2,_⟩|⟨x,q1,q2⟩|⟨j,q1,q2⟩
  ·rw[hb] at q;cases q
  ·exact⟨x,q1,(fm (M4 C hC x q1)).2 q2⟩
  ·by_cases e:jx (pb (s.ll 0)) x
   ·exact⟨x,q1,e⟩
   ·exact⟨-x,q2,(jx.neg (M4 C hC x q1).1).2 e⟩
  ·obtain⟨p1,_,p3⟩:=hs.cls j q1
   obtain⟨m0,m1⟩:=jR p1
   have uR:=p3 _ m0
   by_cases e:c0 (s.cl j)∈s.ll 0
   ·exact⟨_,q2 _ m0,(fm uR).2 e⟩
   ·have Ac: -(c0 (s.cl j))∈s.ll 0:=by
     have hv:=jm uR
     have:=hf _ hv.1 hv.2
     by_cases hn:c0 (s.cl j)<0
     ·rw[← vt hn] at this
      rcases this with q|q
      ·rw[vt hn,dv];exact q
      ·exact absurd q e
     ·have e2:=ET (x:=c0 (s.cl j)) (by obtain⟨_,_,_⟩:=uR;omega)
      rw[← e2] at this
      exact this.resolve_left e
    have:=(hs.two j q1 _ _ (.inl ⟨rfl,rfl⟩) (by rw[hh,dt,da];exact Ac)).1
    exact⟨_,q2 _ m1,(fm (p3 _ m1)).2 this⟩
 ·obtain⟨i,hi,e⟩:=dc hx
  exact(h.p8 i aJ x (by rw[← e];exact a8 hi)).1
 ·have W3:(v:Int)∈s.ll 0:=by unfold pb at hv;simpa using hv
  obtain⟨p,hp,ep⟩:=dc W3
  have:=Dy hs h.jX hσ (p:=p) (fun i hi W8 hm hr=>by
   rcases h.dec _ hm _ (a8 hi) hr with q|⟨_,u,q1,q2⟩
   ·exact hσA _ q
   ·have Qk:=hs.ix.xg _ (cZ hi)
    have hup:0<u:=by omega
    have huv:¬v<u:=fun Zt=>by
     have GH:∀y∈(s.ll 0).take i,fa y≠v:=fun y hy e=>by
      obtain⟨a,ha,e2⟩:=dc hy
      rw[dI] at ha
      rw[ew] at e2
      have:a=p:=(du hs.ix.nd (h₀:=by simp;omega) (h₁:=by simpa using hp)).1 (by rw[dj,dj,e2,ep,e];unfold fa;omega)
      omega
     rw[dt] at q2
     rcases q2 v h1 Zt with q|q
     ·exact GH _ q (by unfold fa;omega)
     ·exact GH _ q (by unfold fa;omega)
    have fW:u≠v:=fun e=>by
     subst e
     exact hs.ix.nJ W3 (by rw[← q1];exact cZ hi)
    have huL: -(u:Int)∈s.ll 0:=by rw[← q1];exact cZ hi
    have Y_:=HD u hup (by omega)
    have:pb (s.ll 0) u=false:=by
     unfold pb
     rw[decide_eq_false_iff_not]
     exact fun q=>hs.ix.nJ q huL
    rw[q1]
    unfold jx
    rw[if_pos aJ,gD,show fa (u:Int)=u by unfold fa;omega,Y_,this]) p hp (aP _)
  rw[ep] at this
  unfold jx at this
  rw[if_neg aJ,show fa (v:Int)=v by unfold fa;omega] at this
  exact this
structure Dg (n:Nat) (s:SR) (x:Int) (sl:List Bool) (ds:List Int) (k:Nat):Prop where
 len:sl.length=n+1
 sx:sl.getD (fa x) false=true
 mem:∀y∈ds,∃q,∃h:q<(s.ll 0).length,k≤q∧(s.ll 0)[q]=y∧s.reason.getD (fa y) 0= -1∧e_ s y≠0
 nd:ds.Nodup
 done:∀q (h:q<(s.ll 0).length),k≤q→sl.getD (fa (s.ll 0)[q]) false=true→e_ s (s.ll 0)[q]=0∨(s.ll 0)[q]∈ds∨∃j,j<s.nc∧(s.ll 0)[q]∈s.cl j∧∀y∈s.cl j,y≠(s.ll 0)[q]→ -y∈(s.ll 0).take q∧sl.getD (fa y) false=true
structure Dd (n:Nat) (s:SR) (x:Int) (core:List Int):Prop where
 eq:∃ds,core=x::ds∧(∀y∈ds,y∈s.ll 0∧s.reason.getD (fa y) 0= -1∧e_ s y≠0)∧ds.Nodup∧∃sn:Nat→Prop,sn (fa x)∧∀q (h:q<(s.ll 0).length),sn (fa (s.ll 0)[q])→e_ s (s.ll 0)[q]=0∨(s.ll 0)[q]∈ds∨∃j,j<s.nc∧(s.ll 0)[q]∈s.cl j∧∀y∈s.cl j,y≠(s.ll 0)[q]→ -y∈(s.ll 0).take q∧sn (fa y)
variable {x:Int} {sl:List Bool} {ds:List Int} {k:Nat}
theorem Dg.start (hs:fR n s) (hx:Lit n x):Dg n s x ((bZ (n+1) false).set (fa x) true) [] (s.ll 0).length where
 len:=by simp
 sx:=by rw[mJ _ _ (by have:=jm hx;simp;omega),if_pos rfl]
 mem:=fun y hy=>by simp at hy
 nd:=by simp
 done:=fun q h1 h2=>by omega
theorem Dg.skip (h:Dg n s x sl ds (k+1)) (hk:k<(s.ll 0).length) (hc:sl.getD (fa (s.ll 0)[k]) false=false∨e_ s (s.ll 0)[k]=0):Dg n s x sl ds k:=
 {len:=h.len,sx:=h.sx,nd:=h.nd
  mem:=fun y hy=>by obtain⟨q,p1,p2,p3⟩:=h.mem y hy;exact⟨q,p1,by omega,p3⟩
  done:=fun q h1 h2 h3=>by
   by_cases e:q=k
   ·subst e
    rcases hc with hc|hc
    ·rw[hc] at h3;cases h3
    ·exact .inl hc
   ·exact h.done q h1 aJ h3}
theorem Dg.dec (h:Dg n s x sl ds (k+1)) (hs:fR n s) (hk:k<(s.ll 0).length) (hl:e_ s (s.ll 0)[k]≠0) (hr:s.reason.getD (fa (s.ll 0)[k]) 0= -1):Dg n s x sl (ds++ [(s.ll 0)[k]]) k:=
 {len:=h.len,sx:=h.sx
  nd:=by
   rw[cp]
   refine⟨h.nd,by simp,fun a ha b hb=>?_⟩
   rw[cq.1 hb]
   rintro rfl
   obtain⟨q,p1,p2,p3,_⟩:=h.mem _ ha
   have:q=k:=(du hs.ix.nd (h₀:=by simpa using p1) (h₁:=by simpa using hk)).1 (by rw[dj,dj,p3])
   omega
  mem:=fun y hy=>by
   rcases bX.1 hy with hy|hy
   ·obtain⟨q,p1,p2,p3⟩:=h.mem y hy;exact⟨q,p1,by omega,p3⟩
   ·rw[cq.1 hy];exact⟨k,hk,aP _,rfl,hr,hl⟩
  done:=fun q h1 h2 h3=>by
   by_cases e:q=k
   ·subst e;exact .inr (.inl (by simp))
   ·exact(h.done q h1 aJ h3).imp id (Or.imp (fun p=>bX.2 (.inl p)) id)}
structure CD (n:Nat) (s:SR) (sl0:List Bool) (j:Nat) (sl:List Bool) (i:Nat):Prop where
 hi:i≤(s.cl j).length
 len:sl.length=n+1
 ge:∀v,sl0.getD v false=true→sl.getD v false=true
 le:∀v,sl.getD v false=true→sl0.getD v false=true∨∃y∈s.cl j,fa y=v
 row:∀y∈(s.cl j).take i,sl.getD (fa y) false=true
theorem CD.start {sl0:List Bool} {j:Nat} (h:sl0.length=n+1):CD n s sl0 j sl0 0:=⟨bm _,h,fun _ h=>h,fun _ h=> .inl h,fun y hy=>by simp at hy⟩
theorem CD.next {sl0:List Bool} {j i:Nat} (h:CD n s sl0 j sl i) (hi:i<(s.cl j).length) (hv:fa (s.cl j)[i]<n+1):CD n s sl0 j (sl.set (fa (s.cl j)[i]) true) (i+1):=by
 have hg:=mJ sl (fa (s.cl j)[i]) (by rw[h.len];exact hv)
 refine⟨hi,by rw[cN];exact h.len,fun v hv=>?_,fun v hv=>?_,fun y hy=>?_⟩
 ·exact qm (by rw[h.len];exact ‹fa (s.cl j)[i]<n+1›) (h.ge v hv)
 ·rw[hg] at hv
  split at hv
  ·next e=>exact .inr ⟨_,cZ hi,e.symm⟩
  ·exact h.le v hv
 ·rw[hg]
  split
  ·rfl
  ·next e=>
   rw[dp hi,bX,cq] at hy
   rcases hy with hy|rfl
   ·exact h.row y hy
   ·exact absurd rfl e
theorem Dg.row {j:Nat} {sl':List Bool} (h:Dg n s x sl ds (k+1)) (hs:fR n s) (hk:k<(s.ll 0).length) (hj:j<s.nc) (hm:(s.ll 0)[k]∈s.cl j) (hf:∀y∈s.cl j,y≠(s.ll 0)[k]→ -y∈(s.ll 0).take k) (hr:CD n s sl j sl' (s.cl j).length):Dg n s x sl' ds k:=
 {len:=hr.len,sx:=hr.ge _ h.sx,nd:=h.nd
  mem:=fun y hy=>by obtain⟨q,p1,p2,p3⟩:=h.mem y hy;exact⟨q,p1,by omega,p3⟩
  done:=fun q h1 h2 h3=>by
   have gx:∀y∈s.cl j,sl'.getD (fa y) false=true:=fun y hy=>hr.row y (by rw[da];exact hy)
   by_cases e:q=k
   ·subst e
    exact .inr (.inr ⟨j,hj,hm,fun y hy fW=>⟨hf y hy fW,gx y hy⟩⟩)
   ·have h4:sl.getD (fa (s.ll 0)[q]) false=true:=by
     rcases hr.le _ h3 with p|⟨y,hy,ey⟩
     ·exact p
     ·exfalso
      by_cases e2:y=(s.ll 0)[k]
      ·subst e2
       have:k=q:=(du hs.ix.nd (h₀:=by simpa using hk) (h₁:=by simpa using h1)).1 (by rw[dj,dj,ey])
       omega
      ·obtain⟨a,ha,e3⟩:=dc (hf y hy e2)
       rw[dI] at ha
       rw[ew] at e3
       have:a=q:=(du hs.ix.nd (h₀:=by simp;omega) (h₁:=by simpa using h1)).1 (by rw[dj,dj,e3,gD,ey])
       omega
    rcases h.done q h1 aJ h4 with p|p|⟨j',p1,p2,p3⟩
    ·exact .inl p
    ·exact .inr (.inl p)
    ·exact .inr (.inr ⟨j',p1,p2,fun y hy fW=>⟨(p3 y hy fW).1,hr.ge _ (p3 y hy fW).2⟩⟩)}
theorem Dg.out (h:Dg n s x sl ds 0):Dd n s x (x::ds):=
 ⟨ds,rfl,fun y hy=>by obtain⟨q,p1,_,p3,p4⟩:=h.mem y hy;exact⟨by rw[← p3];exact cZ p1,p4⟩,h.nd,fun v=>sl.getD v false=true,h.sx,fun q hq kZ=>h.done q hq (bm _) kZ⟩
theorem Dd.Wn {core:List Int} (h:Dd n s x core) (hS:Sem n F s) (hx: -x∈s.ll 0):JV (F++s.proof) (core.map fun y=> -y):=by
 obtain⟨ds,rfl,_,_,sn,h1,h2⟩:=h.eq
 have hA:∀y,y∈x::ds→DI ((x::ds).map fun y=> -y) y:=fun y hy=>bx.2 ⟨y,hy,rfl⟩
 have key:∀i (hi:i<(s.ll 0).length),sn (fa (s.ll 0)[i])→oe (F++s.proof) (DI ((x::ds).map fun y=> -y)) (s.ll 0)[i]:=by
  intro i
  induction i using dK with
  |ind i ih=>
   intro hi kZ
   rcases h2 i hi kZ with q|q|⟨j,q1,q2,q3⟩
   ·exact(hS.o7 _ (cZ hi) q).more
   ·exact .p8 (hA _ (ef _ q))
   ·refine hS.unit q1 q2 fun y hy fW=>?_
    obtain⟨p1,p2⟩:=q3 y hy fW
    obtain⟨a,ha,e⟩:=dc p1
    rw[dI] at ha
    rw[ew] at e
    rw[← e]
    refine ih a aJ aJ ?_
    rw[e,gD];exact p2
 obtain⟨i,hi,e⟩:=dc hx
 have hd:=key i hi (by rw[e,gD];exact h1)
 rw[e] at hd
 rcases oe.both (.p8 (hA x eb)) hd with q|⟨y,q1,q2⟩
 ·exact .inl q
 ·refine .inr ⟨-y,q1,?_⟩
  exact q2
theorem Dd.core {core:List Int} (h:Dd n s x core) (hI:SI n F A P0 N0 s met) (hm:s.marks.length<A.length) (LC:x∈A) (hx: -x∈s.ll 0):(∀y∈core,y∈A)∧core.Nodup∧∀y∈core,Lit n y:=by
 obtain⟨ds,rfl,h1,h2,_⟩:=h.eq
 have hs:=hI.inv
 have sK:∀y∈ds,y∈A:=fun y hy=>by
  obtain⟨q1,q2,q3⟩:=h1 y hy
  obtain⟨i,hi,rfl⟩:=dc q1
  rcases hs.pY i hi with ⟨_,p|p⟩|⟨j,_,p,_⟩
  ·rcases hI.dec _ p _ (a8 hi) q2 with r|⟨r,_⟩
   ·exact r
   ·have:=(hs.nF q1).2;omega
  ·exact absurd p q3
  ·omega
 have sD:Lit n x:=by have:=hs.ix.xg _ hx;exact⟨by omega,by omega,by omega⟩
 refine⟨fun y hy=>?_,?_,fun y hy=>?_⟩
 ·rcases bw.1 hy with rfl|hy
  ·exact LC
  ·exact sK y hy
 ·rw[cY]
  refine⟨fun hm=>?_,h2⟩
  exact hs.ix.nJ (h1 x hm).1 hx
 ·rcases bw.1 hy with rfl|hy
  ·exact sD
  ·exact hs.ix.xg y (h1 y hy).1
end
end Go.Ab
/- A clause added tz the solver,in plain terms. -/
namespace Go.Ab
open Go Go.Proofs
structure lR (n:Nat) (F:List (List Int)) (k:Nat) (s:SR):Prop where
 inv:fR n s
 jX:Sem n F s
 low:vf n s
 marks:s.marks=[]
 proof:s.proof=[]
 added:s.added=(k:Int)
 rD:s.nc≤k
structure oU (s:SR) (c:List Int) (l:List Int) (i:Nat):Prop where
 hi:i≤c.length
 nd:l.Nodup
 sub:∀x∈l,x∈c∧x∉s.ll 0∧ -x∉s.ll 0
 cov:∀x∈c.take i,x∈l∨ -x∈s.ll 0
section
variable {n:Nat} {F:List (List Int)} {k:Nat} {s:SR} {c l:List Int} {i:Nat}
theorem oU.start:oU s c [] 0:=⟨bm _,by simp,fun x hx=>by simp at hx,fun x hx=>by simp at hx⟩
theorem oU.skip (h:oU s c l i) (hi:i<c.length) (hc:c[i]∈l∨ -c[i]∈s.ll 0):oU s c l (i+1):=
 ⟨hi,h.nd,h.sub,fun x hx=>by
  rw[dp hi,bX,cq] at hx
  rcases hx with hx|rfl
  ·exact h.cov x hx
  ·exact hc⟩
theorem oU.add (h:oU s c l i) (hi:i<c.length) (h1:c[i]∉l) (h2:c[i]∉s.ll 0) (h3: -c[i]∉s.ll 0):oU s c (l++ [c[i]]) (i+1):=
 ⟨hi,by
  rw[cp]
  exact⟨h.nd,by simp,fun a ha b hb=>by rw[cq.1 hb];rintro rfl;exact h1 ha⟩,fun x hx=>by
  rcases bX.1 hx with hx|hx
  ·exact h.sub x hx
  ·rw[cq.1 hx];exact⟨cZ hi,h2,h3⟩,fun x hx=>by
  rw[dp hi,bX,cq] at hx
  rcases hx with hx|rfl
  ·exact(h.cov x hx).imp (fun q=>bX.2 (.inl q)) id
  ·exact .inl (by simp)⟩
theorem lR.ml (h:lR n F k s) {x:Int} (hx:x∈s.ll 0):e_ s x=0:=by
 have:=h.inv.nF hx
 rw[h.marks] at this
 simp at this;omega
theorem fR.KI (h:fR n s) (a:Int) (b:Bool):fR n {s with added:=a,broken:=b}:=
 {hn:=h.hn,ix:=h.ix,val:=h.val,lvl:=h.lvl,od:=h.od,hd:=h.hd,nD:=h.nD,ml:=h.ml,cls:=h.cls,fresh:=h.fresh,nc:=h.nc,nw:=h.nw,wt:=h.wt,qL:=h.qL,qH:=h.qH,two:=h.two,pc:=h.pc,pY:=h.pY}
theorem lR.Mm (h:lR n F k s) (hc:∀x∈c,Lit n x) {t:SR} (hp:t.proof=[])
  (cls:∀j,j<t.nc→(j<s.nc∧t.cl j=s.cl j)∨((∀x∈t.cl j,x∈c)∧∀x∈c,x∈t.cl j∨ -x∈s.ll 0))
  (ll:∀x∈t.ll 0,x∈s.ll 0∨(x∈c∧∀y∈c,y≠x→ -y∈s.ll 0)) (ke:∀x∈s.ll 0,x∈t.ll 0) (bad:t.broken=true→s.broken=true∨∀x∈c,-x∈s.ll 0) (UZ:s.broken=true→t.broken=true)
  (hold:∀j,j<s.nc→j<t.nc∧t.cl j=s.cl j) (ml:∀x∈t.ll 0,e_ t x=0) (rep:t.broken=true∨(∃x∈c,x∈t.ll 0)∨(∃x∈c,-x∈c)∨∃j,j<t.nc∧∀x∈t.cl j,x∈c):Sem n (F++ [c]) t:=by
 have e0:F++s.proof=F:=by rw[h.proof,bt]
 have e1:F++ [c]++t.proof=F++ [c]:=by rw[hp,bt]
 have kg:∀d∈F,d∈F++ [c]:=fun d hd=>bX.2 (.inl hd)
 have Mg:∀{x},x∈s.ll 0→oe (F++ [c]) Iq x:=fun hx=>(h.jX.o7 _ hx (h.ml hx)).mono (by rw[e0];exact kg) fun _ h=>h
 have oV:=h.jX.lits
 rw[e0] at oV
 refine⟨?_,?_,?_,?_,?_,?_⟩
 ·rw[e1]
  intro d hd
  rcases bX.1 hd with hd|hd
  ·exact oV d hd
  ·rw[cq.1 hd];exact hc
 ·rw[e1]
  intro j hj
  rcases cls j hj with ⟨q1,q2⟩|⟨q1,q2⟩
  ·obtain⟨C,hC,p1,p2⟩:=h.jX.cls j q1
   rw[e0] at hC p2
   rw[q2]
   exact⟨C,kg C hC,p1,fun x hx=>(p2 x hx).imp id fun q=>q.mono kg fun _ h=>h⟩
  ·exact⟨c,by simp,q1,fun x hx=>(q2 x hx).imp id Mg⟩
 ·rw[e1]
  intro x hx _
  rcases ll x hx with q|⟨q1,q2⟩
  ·exact Mg q
  ·exact .unit (c:=c) (by simp) q1 fun y hy fW=>Mg (q2 y hy fW)
 ·rw[e1]
  intro hb
  rcases bad hb with q|q
  ·exact(h.jX.bad q).cut (by rw[e0];exact kg) fun _ h=>h.elim
  ·exact⟨c,by simp,fun y hy=>Mg (q y hy)⟩
 ·intro j hj;rw[hp] at hj;simp at hj
 ·intro C hC
  rcases bX.1 hC with hC|hC
  ·rcases h.jX.rep C hC with q|⟨x,q1,q2,_⟩|q|⟨j,q1,q2⟩
   ·exact .inl (UZ q)
   ·exact .inr (.inl ⟨x,q1,ke x q2,ml x (ke x q2)⟩)
   ·exact .inr (.inr (.inl q))
   ·obtain⟨p1,p2⟩:=hold j q1
    exact .inr (.inr (.inr ⟨j,p1,by rw[p2];exact q2⟩))
  ·rw[cq.1 hC]
   rcases rep with q|⟨x,q1,q2⟩|q|q
   ·exact .inl q
   ·exact .inr (.inl ⟨x,q1,q2,ml x q2⟩)
   ·exact .inr (.inr (.inl q))
   ·exact .inr (.inr (.inr q))
theorem lR.Td (h:lR n F k s) (hc:∀x∈c,Lit n x) (ht:(∃x∈c,-x∈c)∨∃x∈c,x∈s.ll 0):lR n (F++ [c]) (k+1) {s with added:=s.added+1} where
 inv:=h.inv.KI _ _
 jX:=h.Mm hc (t:={s with added:=s.added+1}) h.proof (fun j hj=> .inl ⟨hj,rfl⟩) (fun x hx=> .inl hx) (fun x hx=>hx) .inl id (fun j hj=>⟨hj,rfl⟩) (fun x hx=>h.ml hx) (.inr (ht.elim (fun q=> .inr (.inl q)) fun q=> .inl q))
 low:=h.low
 marks:=h.marks
 proof:=h.proof
 added:=by show s.added+1=_;rw[h.added];rfl
 rD:=by have:=h.rD;show s.nc≤_;omega
theorem lR.empty (h:lR n F k s) (hc:∀x∈c,Lit n x) (ha:oU s c [] c.length):lR n (F++ [c]) (k+1) {s with added:=s.added+1,broken:=true} where
 inv:=h.inv.KI _ _
 jX:=h.Mm hc (t:={s with added:=s.added+1,broken:=true}) h.proof (fun j hj=> .inl ⟨hj,rfl⟩) (fun x hx=> .inl hx) (fun x hx=>hx) (fun _=> .inr fun x hx=>(ha.cov x (by rw[da];exact hx)).resolve_left (by simp)) (fun _=>rfl) (fun j hj=>⟨hj,rfl⟩) (fun x hx=>h.ml hx) (.inl rfl)
 low:=h.low
 marks:=h.marks
 proof:=h.proof
 added:=by show s.added+1=_;rw[h.added];rfl
 rD:=by have:=h.rD;show s.nc≤_;omega
theorem lR.unit (h:lR n F k s) (hc:∀x∈c,Lit n x) {x:Int} (ha:oU s c [x] c.length) (hv:Value):lR n (F++ [c]) (k+1) (fF {s with added:=s.added+1} x (-1) hv):=by
 obtain⟨q1,q2,q3⟩:=ha.sub x (by simp)
 have ke:(fF {s with added:=s.added+1} x (-1) hv).ll 0=s.ll 0++ [x]:=jA _ _ _ _
 have hinv:=(h.inv.KI (s.added+1) s.broken).push (r:= -1) hv (hc x q1) q2 q3 (.inl ⟨rfl,.inr h.marks⟩)
 have K_:∀y∈(fF {s with added:=s.added+1} x (-1) hv).ll 0,e_ (fF {s with added:=s.added+1} x (-1) hv) y=0:=fun y hy=>by
  have:=hinv.nF hy
  rw[show(fF {s with added:=s.added+1} x (-1) hv).marks=[] from h.marks] at this
  simp at this;omega
 exact
  {inv:=hinv
   jX:=h.Mm hc h.proof (fun j hj=> .inl ⟨hj,rfl⟩) (fun y hy=>by
    rw[ke] at hy
    rcases bX.1 hy with hy|hy
    ·exact .inl hy
    ·rw[cq.1 hy]
     exact .inr ⟨q1,fun z hz fW=>(ha.cov z (by rw[da];exact hz)).resolve_left (by simpa using fW)⟩) (fun y hy=>by rw[ke];exact bX.2 (.inl hy)) .inl id (fun j hj=>⟨hj,rfl⟩) K_ (.inr (.inl ⟨x,q1,by rw[ke];simp⟩))
   low:=by
    obtain⟨m,p1,p2,p3,p4⟩:=h.low
    exact⟨m,p1,p2,p3,fun u h1 h2=>by rw[ke];exact(p4 u h1 h2).imp (fun q=>bX.2 (.inl q)) (fun q=>bX.2 (.inl q))⟩
   marks:=h.marks
   proof:=h.proof
   added:=by show s.added+1=_;rw[h.added];rfl
   rD:=by have:=h.rD;show s.nc≤_;omega}
theorem lR.TC (h:lR n F k s) (hc:∀x∈c,Lit n x) (hk:k<60000) (ha:oU s c l c.length) (h2:2≤l.length) (h0 h1 h3:Value):lR n (F++ [c]) (k+1) (kS {s with added:=s.added+1} l h0 h1 h3):=by
 have hncl:=h.rD
 have kd:∀x∈l,Lit n x:=fun x hx=>hc x (ha.sub x hx).1
 exact
  {inv:=(h.inv.KI (s.added+1) s.broken).attach h2 ha.nd kd (by show s.nc+1≤_;omega) fun x hx=>(ha.sub x hx).2.2
   jX:=h.Mm hc h.proof (fun j hj=>by
    have hj:j<s.nc+1:=hj
    show(j<s.nc∧eZ s.cl s.nc l j=s.cl j)∨((∀x∈eZ s.cl s.nc l j,x∈c)∧∀x∈c,x∈eZ s.cl s.nc l j∨ -x∈s.ll 0)
    by_cases e:j=s.nc
    ·subst e
     rw[eW]
     exact .inr ⟨fun x hx=>(ha.sub x hx).1,fun x hx=>ha.cov x (by rw[da];exact hx)⟩
    ·have e:¬j=s.nc:=e
     exact .inl ⟨by omega,ft _ _ e⟩) (fun x hx=> .inl hx) (fun x hx=>hx) .inl id (fun j hj=>⟨by show j<s.nc+1;omega,ft _ _ (by show j≠s.nc;omega)⟩) (fun x hx=>h.ml hx) (.inr (.inr (.inr ⟨s.nc,by show s.nc<s.nc+1;omega,by show ∀x∈eZ s.cl s.nc l s.nc,x∈c;rw[eW];exact fun x hx=>(ha.sub x hx).1⟩)))
   low:=h.low
   marks:=h.marks
   proof:=h.proof
   added:=by show s.added+1=_;rw[h.added];rfl
   rD:=by show s.nc+1≤_;omega}
theorem lR.si (h:lR n F k s) (A:List Int):SI n F A 0 k s 0 where
 inv:=h.inv
 jX:=h.jX
 dec:=fun m hm=>by rw[h.marks] at hm;simp at hm
 p8:=fun i hi=>by rw[h.marks] at hi;simp at hi
 plen:=by rw[h.proof];rfl
 rD:=h.rD
 wrd:=bm _
 low:=h.low
def lz (n:Nat):SR:=⟨bZ (n+1) 0,bZ (n+1) 0,bZ (n+1) 0,[],1,0,0,false,fun _=> .slice none 0 0,fun _=>[],0,fun _=> .slice none 0 0,fun _=>[],2*n+2,fun _=> .slice none 0 0,fun _=>[],[],[],[]⟩
theorem Dz (hn:n≤20000):lR n [] 0 (lz n) where
 inv:=
  {hn:=hn
   ix:=⟨fun x hx=>by simp [lz] at hx,by simp [lz]⟩
   val:=by
    show bZ (n+1) 0=kW n []
    apply List.ext_getElem (by simp [kW])
    intro i _ _
    simp [kW]
   lvl:=by simp [lz]
   od:=by simp [lz]
   hd:=⟨eG _,eG _⟩
   nD:=fun m hm=>by simp [lz] at hm
   ml:=fun i hi=>by simp [lz] at hi
   cls:=fun j hj=>by simp [lz] at hj
   fresh:=fun j _=>⟨rfl,rfl⟩
   nc:=by simp [lz]
   nw:=rfl
   wt:=fun x _ e he=>by simp [lz] at he
   qL:=fun k=>by simp [lz]
   qH:=fun j hj=>by simp [lz] at hj
   two:=fun j hj=>by simp [lz] at hj
   pc:=by simp [lz]
   pY:=fun i hi=>by simp [lz] at hi}
 jX:=⟨fun c hc=>by simp [lz] at hc,fun j hj=>by simp [lz] at hj,fun x hx=>by simp [lz] at hx,fun hb=>by simp [lz] at hb,fun i hi=>by simp [lz] at hi,fun C hC=>by simp at hC⟩
 low:=⟨1,rfl,by omega,by omega,fun u h1 h2=>by omega⟩
 marks:=rfl
 proof:=rfl
 added:=rfl
 rD:=aP _
end
end Go.Ab
/- The solver:the assumptions tz blame;the end of a search,walked. -/
namespace Go.Ab
open Go Go.Proofs
open Nat (reduceAdd reduceSub)
set_option maxRecDepth 20000
set_option maxHeartbeats 4000000
theorem tj {l:List Bool} {n:Nat} (h:n<l.length):l.getD n false=l[n]:=by simp [c8,h]
theorem G3 (l:List Bool) (i:Nat):(l.map oz).set i [PV.lit (.bool true)]=(l.set i true).map oz:=by
 rw[List.map_set];rfl
theorem S0 (n:Nat):bZ n [PV.lit (.bool false)]=(bZ n false).map oz:=by
 rw[List.map_replicate];rfl
attribute [local irreducible] gx AW a_ gb fq AR fz fk fJ fX kp lh
theorem I_ (s:SR) (core:List Int) (hl:core.length≤100000) (hb:∀x∈core,-1000000≤x∧x≤1000000) (hp:s.proof.length≤1000000):og Tryz.prog 53 11 (gV s) [.ptr 0 0,.pv (jI core)] (gV {s with core:=core,proof:=s.proof++ [core.map fun y=> -y]}) (eV 2):=by
 simp only[gV,gW]
 refine og.enter (n:=30) Tryz.func53 rfl rfl rfl rfl rfl (by decide) rfl rfl fun g fD fB=>?_;refine sF ?_
 (refine zq ?_;refine kM ?_;refine uo ?_;refine zm ?_;refine a_.fj rfl rfl rfl ?_;refine a_.c_ 94 9 14 rfl rfl rfl rfl ?_;(with_reducible apply a_.gn);(iterate 5 exact rfl);exact ag;(iterate 3 exact rfl);(with_reducible assumption);refine mw ?_;refine ta ?_;refine zn ?_;refine a_.qT rfl rfl rfl rfl rfl rfl rfl rfl aJ ?_;refine Q0 ?_;refine D3 ?_;refine zo ?_;refine ka ?_;refine n_ ?_)
 (refine Q0 ?_;apply AW.gN [16,15,4,0,1000] [11,0,1,2,3,4,5,6,7,8,9,10] (fun k:Nat=>([(5,.own 11 3 1 (((core.take k).map fun y=> -y).map encI)),(17,eV k)]:List (Nat×AV))) (fun k:Nat=>([]:List (Nat×Option Ob))) (fun k:Nat=>k≤core.length) (fun k:Nat=>core.length - k) (0);(conv=>lhs;simp only[Nf.nN,Nf.all,di,reduceAdd,reduceSub]);(all_goals skip))
 ·exact bm _
 ·exact fp rfl (by(refine aC ?_;(iterate 6 refine aC ?_);exact trivial)) (by(refine aF ?_;refine⟨.box _ rfl ?_,?_⟩;(iterate 15 refine aC ?_);exact trivial;(iterate 3 refine aF ?_);refine⟨.e8 rfl (by first|with_reducible rfl|(with_reducible rfl)),?_⟩;(iterate 2 refine aF ?_);refine⟨.e8 rfl (by first|with_reducible rfl|(with_reducible rfl)),?_⟩;refine aF ?_;refine⟨.e8 rfl (by first|with_reducible rfl|(with_reducible rfl)),?_⟩;refine aF ?_;exact trivial)) rfl
 rintro k hk
 by_cases fm:k<core.length
 ·obtain⟨b1,b2⟩:=hb _ (cZ fm)
  have e:((core.take (k+1)).map fun y=> -y).map encI=((core.take k).map fun y=> -y).map encI++ [[PV.lit (.int .i64 (-core[k]))]]:=by
   rw[dp fm,cV,cV];rfl
  (refine zq ?_;refine zs ?_;refine zd ?_;refine Q5 ?_;refine ko ?_;refine aA ?_;refine zr ?_;refine kM ?_;refine qs ?_;refine a_.fT rfl rfl rfl ?_;refine FR ?_;(with_reducible apply a_.nr);(iterate 5 exact rfl);exact ag;exact rfl;exact rfl;refine Q0 ?_;(with_reducible apply a_.fI);exact rfl;exact ah;(iterate 9 exact rfl);exact aa;refine Q0 ?_;refine yB ?_;refine rj ?_)
  exact⟨k+1,by omega,by omega,fp rfl (by(refine⟨.e9 (by first|rfl|exact e.symm) rfl,?_⟩;(iterate 2 refine⟨.fg (by first|rfl|exact e.symm),?_⟩);refine⟨.ib (by first|rfl|exact e.symm),?_⟩;refine⟨.fg (by first|rfl|exact e.symm),?_⟩;(iterate 2 refine aC ?_);exact trivial)) (by(refine aF ?_;refine⟨.box _ rfl ?_,?_⟩;(iterate 3 refine⟨.e9 (by first|rfl|exact e.symm) rfl,?_⟩);refine⟨.fg (by first|rfl|exact e.symm),?_⟩;refine⟨.e9 (by first|rfl|exact e.symm) rfl,?_⟩;refine⟨.fg (by first|rfl|exact e.symm),?_⟩;(iterate 2 refine⟨.e9 (by first|rfl|exact e.symm) rfl,?_⟩);(iterate 3 refine⟨.fg (by first|rfl|exact e.symm),?_⟩);refine⟨.e9 (by first|rfl|exact e.symm) rfl,?_⟩;refine⟨.fg (by first|rfl|exact e.symm),?_⟩;(iterate 2 refine⟨.ib (by first|rfl|exact e.symm),?_⟩);exact trivial;(iterate 3 refine aF ?_);refine⟨.e8 rfl (by first|rfl|exact e.symm),?_⟩;(iterate 2 refine aF ?_);refine⟨.e8 rfl (by first|rfl|exact e.symm),?_⟩;refine aF ?_;refine⟨.e8 rfl (by first|rfl|exact e.symm),?_⟩;refine aF ?_;exact trivial)) rfl⟩
 ·obtain rfl:k=core.length:=by omega
  rw[da]
  have m_:=Fg {s with core:=core} (core.map fun y=> -y) (by rw[a6];omega) hp
  simp only[gV,gW] at m_
  (refine lU ?_;refine uo ?_;refine a_.fT rfl rfl rfl ?_;refine a_.L1 rfl rfl ?_;refine Q0 ?_;refine zX (m_) ?_;refine mB ?_;refine zd ?_;refine zq ?_;refine kQ ?_)
  (apply iT;((exact gk.one (.tmp rfl rfl)));((exact Al));((exact Q2));exact rfl)
theorem Jh (n:Nat) (s:SR) (hs:fR n s) (x:Int) (hx: -x∈s.ll 0):tP Tryz.prog 56 11 (gV s) [.ptr 0 0,eV x] (fun core:List Int=>Dd n s x core) (fun _=>gV s) (fun core=> .pv (jI core)):=by
 have qR:=hs.hn
 have ke:=hs.ix.len
 have z8:=hs.nc
 have TA:=hs.od
 have Ny:=hs.lvl
 have sD:=hs.ix.xg _ hx
 have Ci:s.value.length=n+1:=by rw[hs.val,j5]
 have PT:0≤max x (-x):=by omega
 have xo:(max x (-x)).toNat<n+1:=by omega
 have M5:(max x (-x)).toNat<(bZ (n+1) false).length:=by rw[List.length_replicate];exact xo
 have jn:=Dg.start hs (x:=x) ⟨by omega,by omega,by omega⟩
 unfold fa at jn
 have OL:bZ ((s.value.length:Nat):Int).toNat [PV.lit (.bool false)]=(bZ (n+1) false).map oz:=by rw[dt,Ci];exact S0 (n+1)
 have mq:=G3 (bZ (n+1) false) (max x (-x)).toNat
 simp only[gV,gW]
 refine tP.enter (n:=106) Tryz.func56 rfl rfl rfl rfl rfl (by decide) rfl (fun _=>rfl) fun g fD fB=>?_;refine sF ?_
 (refine zq ?_;refine kM ?_;refine NX ?_;refine TE ?_;refine D3 ?_;(with_reducible apply AW.vU 2);(rw[OL]);refine vh ?_;refine J7 ?_;refine rW ?_;(with_reducible apply a_.gu);(iterate 4 exact rfl);exact ag;(iterate 3 exact rfl);refine mw ?_;refine ta ?_;(with_reducible apply a_.nr);(iterate 5 exact rfl);exact ag;exact rfl;exact rfl;refine Q0 ?_;refine D3 ?_;refine zo ?_;refine uK ?_;refine Ds ?_;refine CW ?_;refine AW.block ?_)
 (refine Q0 ?_;apply AW.gN [4,0,1000] [12,11,0,1,2,3,4,5,6,7,8,9,10] (fun q:List Bool×List Int×Nat=>([(5,.own 11 4 1 (q.1.map oz)),(6,.own 12 3 1 ((x::q.2.1).map encI)),(7,eV ((q.2.2:Int) - 1))]:List (Nat×AV))) (fun q:List Bool×List Int×Nat=>([]:List (Nat×Option Ob))) (fun q:List Bool×List Int×Nat=>(Dg n s x q.1 q.2.1 q.2.2∧q.2.2≤(s.ll 0).length)) (fun q:List Bool×List Int×Nat=>q.2.2) (((bZ (n+1) false).set (max x (-x)).toNat true,([]:List Int),(s.ll 0).length));(conv=>lhs;simp only[Nf.nN,Nf.all,di,reduceAdd,reduceSub]);(all_goals skip))
 ·exact⟨jn,aP _⟩
 ·exact fp rfl (by(refine⟨.e9 (by first|rfl|exact mq) rfl,?_⟩;refine⟨.e9 (by first|rfl|exact mq) rfl,?_⟩;(iterate 2 refine⟨.fg (by first|rfl|exact mq),?_⟩);(iterate 2 refine aC ?_);exact trivial)) (by(refine aF ?_;refine aF ?_;refine⟨.box _ rfl ?_,?_⟩;(iterate 3 refine⟨.e9 (by first|rfl|exact mq) rfl,?_⟩);refine⟨.fg (by first|rfl|exact mq),?_⟩;refine⟨.e9 (by first|rfl|exact mq) rfl,?_⟩;refine⟨.fg (by first|rfl|exact mq),?_⟩;(iterate 2 refine⟨.e9 (by first|rfl|exact mq) rfl,?_⟩);(iterate 3 refine⟨.fg (by first|rfl|exact mq),?_⟩);refine⟨.e9 (by first|rfl|exact mq) rfl,?_⟩;refine⟨.fg (by first|rfl|exact mq),?_⟩;(iterate 2 refine⟨.ib (by first|rfl|exact mq),?_⟩);exact trivial;(iterate 3 refine aF ?_);refine⟨.e8 rfl (by first|rfl|exact mq),?_⟩;(iterate 2 refine aF ?_);refine⟨.e8 rfl (by first|rfl|exact mq),?_⟩;refine aF ?_;refine⟨.e8 rfl (by first|rfl|exact mq),?_⟩;refine aF ?_;exact trivial)) rfl
 rintro⟨sl,ds,k⟩ ⟨hB,hk⟩
 simp only at hB hk
 have Mz:=hB.len
 cases k with
 |zero=>
  have lG:=hB.out
  (refine zo ?_;refine ka ?_;refine a_.geq rfl rfl rfl rfl rfl ?_;refine zd ?_;refine AW.jT rfl rfl ?_;refine D5 ?_;refine vh ?_;refine tH ?_)
  (apply gL ((x::ds:List Int)) (lG);((exact gk.one (.tmp rfl rfl)));((refine⟨.zS rfl (by first|with_reducible rfl|(rfl)),?_⟩;exact ye));((exact Q2));exact rfl)
 |succ k=>
  have ek:((k+1:Nat):Int) - 1=(k:Int):=by omega
  have JU:(k:Int).toNat<(s.ll 0).length:=by omega
  have Iz:k<(s.ll 0).length:=by omega
  obtain⟨y,hy⟩:∃y,y=(s.ll 0)[(k:Int).toNat]:=⟨_,rfl⟩
  have CT:(s.ll 0)[k]=y:=hy.symm
  have wY:=hs.ix.xg _ (cZ JU)
  rw[← hy] at wY
  have H6:0≤max y (-y):=by omega
  have KV:(max y (-y)).toNat<n+1:=by omega
  have Cf:(max y (-y)).toNat<sl.length:=by omega
  have x5:(max y (-y)).toNat<s.level.length:=by omega
  have T5:(max y (-y)).toNat<s.reason.length:=by omega
  have JW:sl.getD (fa y) false=sl[(max y (-y)).toNat]:=tj Cf
  have KR:e_ s y=s.level[(max y (-y)).toNat]:=fy x5
  have TL:s.reason.getD (fa y) 0=s.reason[(max y (-y)).toNat]:=fy T5
  have UN:=hs.nF (cZ JU)
  rw[← hy,KR] at UN
  rw[ek]
  cases kZ:sl[(max y (-y)).toNat] with
  |false=>
   have Oh:(!sl[(max y (-y)).toNat])=true:=by rw[kZ];rfl
   have qP:=hB.skip Iz (.inl (by rw[CT,JW];exact kZ))
   (refine zo ?_;refine ka ?_;refine Mu ?_;refine zm ?_;(with_reducible apply a_.eY 4);(iterate 8 exact rfl);exact ab;exact ab;refine aw ?_;refine kM ?_;(with_reducible apply AW.vU 8);(rw[← hy]);refine K3 ?_;refine au ?_;refine B9 ?_;refine RS ?_;refine Q0 ?_;refine zm ?_;refine CW ?_)
   exact Xf
  |true=>
   have Oh:(!sl[(max y (-y)).toNat])=false:=by rw[kZ];rfl
   by_cases uR:s.level[(max y (-y)).toNat]=0
   ·have qP:=hB.skip Iz (.inr (by rw[CT,KR];exact uR))
    (refine zo ?_;refine ka ?_;refine Mu ?_;refine zm ?_;(with_reducible apply a_.eY 4);(iterate 8 exact rfl);exact ab;exact ab;refine aw ?_;refine kM ?_;(with_reducible apply AW.vU 8);(rw[← hy]);refine K3 ?_;refine au ?_;refine a_.not rfl rfl rfl ?_;refine PW ?_;refine au ?_;refine FC ?_;refine na ?_;refine Ei ?_;refine Q0 ?_;refine zm ?_;refine CW ?_)
    exact Xf
   ·by_cases I2:s.reason[(max y (-y)).toNat]= -1
    ·have qP:=hB.dec hs Iz (by rw[CT,KR];exact uR) (by rw[CT,TL];exact I2)
     rw[CT] at qP
     have Ap:ds.length≤1000000:=by
      have:=jN (n:=2*n+2) (l:=ds.map eQ) (by
       unfold List.Nodup
       rw[dB]
       exact hB.nd.imp_of_mem fun {a b} ha hb qh e=>qh (gU (n:=n) (by obtain⟨q,p1,_,p3,_⟩:=hB.mem a ha;rw[← p3];exact hs.ix.xg _ (cZ p1)) (by obtain⟨q,p1,_,p3,_⟩:=hB.mem b hb;rw[← p3];exact hs.ix.xg _ (cZ p1)) (by rw[e]))) fun v hv=>by
       obtain⟨a,ha,rfl⟩:=bx.1 hv
       obtain⟨q,p1,_,p3,_⟩:=hB.mem a ha
       have:=hY (hs.ix.xg _ (cZ p1))
       rw[p3] at this
       omega
      simp only[a6] at this
      omega
     (refine zo ?_;refine ka ?_;refine Mu ?_;refine zm ?_;(with_reducible apply a_.eY 4);(iterate 8 exact rfl);exact ab;exact ab;refine aw ?_;refine kM ?_;(with_reducible apply AW.vU 8);(rw[← hy]);refine K3 ?_;refine au ?_;refine a_.not rfl rfl rfl ?_;refine PW ?_;refine au ?_;refine FC ?_;refine ph ?_;refine zo ?_;refine uK ?_;refine a_.c_ 92 2 2 rfl rfl rfl rfl ?_;refine jf ?_;refine rW ?_;refine au ?_;refine pN ?_;refine zc ?_;refine vh ?_;refine zm ?_;(with_reducible apply a_.nr);(iterate 5 exact rfl);exact ag;exact rfl;exact rfl;refine Q0 ?_;(with_reducible apply a_.fI);exact rfl;exact ah;(iterate 9 exact rfl);exact aa;refine Q0 ?_;refine D3 ?_;refine Ei ?_;refine Q0 ?_;refine zm ?_;refine CW ?_)
     exact⟨(sl,ds++ [y],k),⟨qP,show k≤(s.ll 0).length by omega⟩,by show k<k+1;omega,fp rfl (by(refine⟨.e9 (by first|rfl|(rw[← bu,cV];rfl)) rfl,?_⟩;refine⟨.e9 (by first|rfl|(rw[← bu,cV];rfl)) rfl,?_⟩;refine⟨.fg (by first|rfl|(rw[← bu,cV];rfl)),?_⟩;refine⟨.fg (by first|rfl|(rw[← bu,cV];rfl)),?_⟩;(iterate 2 refine aC ?_);exact trivial)) (by(refine aF ?_;refine aF ?_;refine⟨.box _ rfl ?_,?_⟩;refine⟨.e9 (by first|rfl|(rw[← bu,cV];rfl)) rfl,?_⟩;refine⟨.e9 (by first|rfl|(rw[← bu,cV];rfl)) rfl,?_⟩;refine⟨.e9 (by first|rfl|(rw[← bu,cV];rfl)) rfl,?_⟩;refine⟨.fg (by first|rfl|(rw[← bu,cV];rfl)),?_⟩;refine⟨.e9 (by first|rfl|(rw[← bu,cV];rfl)) rfl,?_⟩;refine⟨.fg (by first|rfl|(rw[← bu,cV];rfl)),?_⟩;refine⟨.e9 (by first|rfl|(rw[← bu,cV];rfl)) rfl,?_⟩;refine⟨.e9 (by first|rfl|(rw[← bu,cV];rfl)) rfl,?_⟩;refine⟨.fg (by first|rfl|(rw[← bu,cV];rfl)),?_⟩;refine⟨.fg (by first|rfl|(rw[← bu,cV];rfl)),?_⟩;refine⟨.fg (by first|rfl|(rw[← bu,cV];rfl)),?_⟩;refine⟨.e9 (by first|rfl|(rw[← bu,cV];rfl)) rfl,?_⟩;refine⟨.fg (by first|rfl|(rw[← bu,cV];rfl)),?_⟩;refine⟨.ib (by first|rfl|(rw[← bu,cV];rfl)),?_⟩;refine⟨.ib (by first|rfl|(rw[← bu,cV];rfl)),?_⟩;exact trivial;(iterate 3 refine aF ?_);refine⟨.e8 rfl (by first|rfl|(rw[← bu,cV];rfl)),?_⟩;(iterate 2 refine aF ?_);refine⟨.e8 rfl (by first|rfl|(rw[← bu,cV];rfl)),?_⟩;refine aF ?_;refine⟨.e8 rfl (by first|rfl|(rw[← bu,cV];rfl)),?_⟩;refine aF ?_;exact trivial)) rfl⟩
    ·obtain⟨j,hj,hR,Xn,XJ⟩:=(hs.pY k Iz).resolve_left (by rw[CT,TL];exact fun q=>I2 q.1)
     rw[CT] at hR Xn XJ
     rw[TL] at hR
     have W_:0≤s.reason[(max y (-y)).toNat]:=by omega
     have X4:(s.reason[(max y (-y)).toNat]).toNat<s.nc:=by omega
     have iR:=hs.CR hj
     have oV:=(hs.cls j hj).2.2
     have T7:=k8 s.nc s.hc
     (refine zo ?_;refine ka ?_;refine Mu ?_;refine zm ?_;(with_reducible apply a_.eY 4);(iterate 8 exact rfl);exact ab;exact ab;refine aw ?_;refine kM ?_;(with_reducible apply AW.vU 8);(rw[← hy]);refine K3 ?_;refine au ?_;refine a_.not rfl rfl rfl ?_;refine PW ?_;refine au ?_;refine FC ?_;refine ph ?_;refine zo ?_;refine uK ?_;refine a_.c_ 92 2 2 rfl rfl rfl rfl ?_;refine jf ?_;refine rW ?_;refine au ?_;refine pN ?_;refine uP ?_;refine zo ?_;(with_reducible apply AW.fY);exact rfl;exact rfl;kernel_rfl;(with_reducible assumption);refine H7 ?_;refine zb ?_;refine tn ?_;refine a_.c_ 92 2 2 rfl rfl rfl rfl ?_;refine jf ?_;refine rW ?_;refine au ?_;refine PF ?_;refine a_.jv rfl rfl rfl rfl (fun h_=>by cases h_) aJ ?_;refine a_.ny 7 rfl rfl rfl rfl rfl ?_;refine zZ ?_)
     rw[hR,dt j]
     (refine Q0 ?_;apply AW.gN [93,92,6,7,4,0,1000] [12,11,0,1,2,3,4,5,6,7,8,9,10] (fun p:List Bool×Nat=>([(5,.own 11 4 1 (p.1.map oz)),(94,eV p.2)]:List (Nat×AV))) (fun p:List Bool×Nat=>([]:List (Nat×Option Ob))) (fun p:List Bool×Nat=>CD n s sl j p.1 p.2) (fun p:List Bool×Nat=>(s.cl j).length - p.2) ((sl,0));(conv=>lhs;simp only[Nf.nN,Nf.all,di,reduceAdd,reduceSub]);(all_goals skip))
     ·exact .start Mz
     ·exact fp rfl (by(refine aE ?_;(iterate 3 refine aD ?_);refine aE ?_;(iterate 2 refine aD ?_);(iterate 2 refine aC ?_);exact trivial)) (by(refine aF ?_;refine aF ?_;refine⟨.box _ rfl ?_,?_⟩;(iterate 3 refine aE ?_);refine aD ?_;refine aE ?_;refine aD ?_;(iterate 2 refine aE ?_);(iterate 3 refine aD ?_);refine aE ?_;refine aD ?_;(iterate 2 refine aG ?_);exact trivial;(iterate 3 refine aF ?_);refine aH ?_;(iterate 2 refine aF ?_);refine aH ?_;refine aF ?_;refine aH ?_;refine aF ?_;exact trivial)) rfl
     rintro⟨sl2,i⟩ hW
     simp only at hW
     have Zv:=hW.hi
     have Aw:=hW.len
     by_cases fm:i<(s.cl j).length
     ·have t_:(i:Int).toNat<(s.cl j).length:=by omega
      obtain⟨z,hz⟩:∃z,z=(s.cl j)[(i:Int).toNat]:=⟨_,rfl⟩
      have GM:(s.cl j)[i]=z:=hz.symm
      have Uw:=oV _ (cZ t_)
      rw[← hz] at Uw
      obtain⟨_,_,_⟩:=Uw
      have hw0:0≤max z (-z):=by omega
      have Qx:(max z (-z)).toNat<sl2.length:=by omega
      have Pe:=hW.next fm (by rw[GM];unfold fa;omega)
      rw[GM] at Pe
      have kN:=G3 sl2 (max z (-z)).toNat
      (refine pZ ?_;(with_reducible apply a_.eY 7);(iterate 8 exact rfl);exact ab;exact ab;refine ax ?_;refine kM ?_;(with_reducible apply AW.atR 15);(rw[← hz]);refine qs ?_;refine a_.fT rfl rfl rfl ?_;refine J7 ?_;refine rW ?_;(with_reducible apply a_.gu);(iterate 4 exact rfl);exact ag;(iterate 3 exact rfl);refine Q0 ?_;refine xz ?_)
      exact⟨(sl2.set (fa z) true,i+1),Pe,by show(s.cl j).length - (i+1)<(s.cl j).length - i;omega,fp rfl (by(refine⟨.e9 (by first|rfl|exact kN) rfl,?_⟩;(iterate 3 refine⟨.fg (by first|rfl|exact kN),?_⟩);refine⟨.e9 (by first|rfl|exact kN) rfl,?_⟩;(iterate 2 refine⟨.fg (by first|rfl|exact kN),?_⟩);(iterate 2 refine aC ?_);exact trivial)) (by(refine aF ?_;refine aF ?_;refine⟨.box _ rfl ?_,?_⟩;(iterate 3 refine⟨.e9 (by first|rfl|exact kN) rfl,?_⟩);refine⟨.fg (by first|rfl|exact kN),?_⟩;refine⟨.e9 (by first|rfl|exact kN) rfl,?_⟩;refine⟨.fg (by first|rfl|exact kN),?_⟩;(iterate 2 refine⟨.e9 (by first|rfl|exact kN) rfl,?_⟩);(iterate 3 refine⟨.fg (by first|rfl|exact kN),?_⟩);refine⟨.e9 (by first|rfl|exact kN) rfl,?_⟩;refine⟨.fg (by first|rfl|exact kN),?_⟩;(iterate 2 refine⟨.ib (by first|rfl|exact kN),?_⟩);exact trivial;(iterate 3 refine aF ?_);refine⟨.e8 rfl (by first|rfl|exact kN),?_⟩;(iterate 2 refine aF ?_);refine⟨.e8 rfl (by first|rfl|exact kN),?_⟩;refine aF ?_;refine⟨.e8 rfl (by first|rfl|exact kN),?_⟩;refine aF ?_;exact trivial)) rfl⟩
     ·obtain rfl:i=(s.cl j).length:=by omega
      have qP:=hB.row hs Iz hj (by rw[CT];exact Xn) (by rw[CT];exact XJ) hW
      (refine ko ?_;refine zs ?_;refine zd ?_;refine zo ?_;refine zk ?_;refine AW.exit ?_;(iterate 2 refine jY ?_);refine hZ ?_;refine Gp ?_;refine Q0 ?_;refine zm ?_;refine CW ?_)
      exact⟨(sl2,ds,k),⟨qP,show k≤(s.ll 0).length by omega⟩,by show k<k+1;omega,fp rfl (by(refine aE ?_;refine aE ?_;(iterate 2 refine aD ?_);(iterate 2 refine aC ?_);exact trivial)) (by(refine aF ?_;refine aF ?_;refine⟨.box _ rfl ?_,?_⟩;(iterate 3 refine aE ?_);refine aD ?_;refine aE ?_;refine aD ?_;(iterate 2 refine aE ?_);(iterate 3 refine aD ?_);refine aE ?_;refine aD ?_;(iterate 2 refine aG ?_);exact trivial;(iterate 3 refine aF ?_);refine aH ?_;(iterate 2 refine aF ?_);refine aH ?_;refine aF ?_;refine aH ?_;refine aF ?_;exact trivial)) rfl⟩
end Go.Ab
