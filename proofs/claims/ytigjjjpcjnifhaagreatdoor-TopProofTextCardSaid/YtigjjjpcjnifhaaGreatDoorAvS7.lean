/- The solver's invariant, in plain terms: a literal pushed, a literal propagated, the kept watches. -/
import Derived.Test.YtigjjjpcjnifhaaGreatDoorAvA2
import Derived.Test.YtigjjjpcjnifhaaGreatDoorAbZ
import Derived.Test.YtigjjjpcjnifhaaGreatDoorAbL3
set_option linter.unusedSimpArgs false
set_option linter.unusedVariables false
open List renaming getD_eq_getElem?_getD→c8,getElem?_set→bG,countP_eq_length→dX,length_set→cM,length_append→bV,length_singleton→dC,getElem_append_left→dY,getElem_mem→cZ,getElem_append_right→dZ,getElem_cons_zero→ec,take_append_of_le_length→cR,mem_of_mem_take→cS,mem_append→bW,take_length→da,getElem_of_mem→dc,countP_le_length→ed,take_succ_eq_append_getElem→dp,mem_singleton→cp,getElem_inj→du,length_take→dI,append_assoc→dV,drop_eq_getElem_cons→dm,nodup_append→cm,nodup_cons→cX,mem_cons→bu,pairwise_map→dB,mem_map→bw,mem_of_getElem?→aU,mem_cons_self→ef,getElem?_eq_getElem→a8,getElem?_eq_some_iff→aW,getElem_set_self→eg,take_set_of_le→eh,getElem?_append_left→aT,append_nil→bs,length_drop→cQ,countP_congr→eo,mem_cons_of_mem→eu,mem_map_of_mem→dA,countP_cons→ew,replicate→bY,getElem?_replicate→ez,countP_eq_zero→eA,take_sublist→eB,map_append→cU,getElem_take→eD,getElem_map→dj,countP_pos_iff→eE,countP_append→eF,countP_nil→eG,mem_take_iff_getElem→eH,take_append_drop→dz,pairwise_iff_getElem→eJ,take_take→eL,length_map→a6,cons_append→bt
open Int renaming neg_neg→dv,toNat_natCast→dt,le_refl→eM,not_lt→eP
open Nat renaming le_refl→aP,sub_self→eb,min_eq_left→ee,zero_le→bk,zero_add→ba,strongRecOn→eI,lt_of_not_le→eK,exists_eq_add_of_le→eN,add_assoc→bF,pow_pos→eO,le_trans→aQ,reduceBEq→di
open Bool renaming false_and→c7,and_self→eC,and_eq_true→aZ
namespace Go.Ab
open Go Go.Proofs
theorem iX {s:SR} {x r:Int} {h:Value} {y:Int} (fZ:fm y≠fm x):fi (fL s x r h) y=fi s y:=by
 unfold fi fL
 simp only
 rw[c8,c8,bG,if_neg (Ne.symm fZ)]
theorem mA {n:Nat} {s:SR} (hs:fW n s) {x r:Int} {h:Value} (hx:Lit n x):fi (fL s x r h) x=s.marks.length:=by
 unfold fi fL
 simp only
 have:=jF hx
 rw[c8,bG,if_pos rfl,if_pos (by rw[hs.lvl];omega)];rfl
theorem oO {n:Nat} {L:List Int} {x y:Int} (h1:x∉L) (h2: -x∉L) (hy:y∈L∨ -y∈L):fm y≠fm x:=fun e=>by
 rcases FY.1 e with rfl|rfl
 ·rcases hy with hy|hy
  ·exact h1 hy
  ·exact h2 hy
 ·rcases hy with hy|hy
  ·exact h2 hy
  ·rw[dv] at hy;exact h1 hy
theorem qE {l:List Int} {b:Int} (h:∀m∈l,m≤b):l.countP (fun m=>decide (m≤b))=l.length:=by
 rw[dX]
 intro m hm
 simpa using h m hm
theorem fW.push {n:Nat} {s:SR} (hs:fW n s) {x r:Int} (h:Value) (hx:Lit n x) (h1:x∉s.ll 0) (h2: -x∉s.ll 0) (hr:(r= -1∧(((s.ll 0).length:Int)∈s.marks∨s.marks=[]))∨∃j:Nat,j<s.nc∧r=(j:Int)∧x∈s.cl j∧∀y∈s.cl j,y≠x→ -y∈s.ll 0):fW n (fL s x r h):=by
 have kz:(fL s x r h).ll 0=s.ll 0++ [x]:=by show fb s.ll 0 (s.ll 0++ [x]) 0=_;exact e8 _ _ _
 have hold:∀{y},y∈s.ll 0∨ -y∈s.ll 0→fm y≠fm x:=fun hy=>oO (n:=n) h1 h2 hy
 have s6:∀{y},fm y≠fm x→(fL s x r h).reason.getD (fm y) 0=s.reason.getD (fm y) 0:=fun {y} hy=>by
  unfold fL
  simp only
  rw[c8,c8,bG,if_neg (Ne.symm hy)]
 have Ll:s.head.toNat≤(s.ll 0).length:=by have:=hs.hd;omega
 exact
  {hn:=hs.hn
   iK:=by rw[kz];exact hs.iK.push hx h1 h2
   val:=by rw[kz];show s.value.set (fm x) (qP x)=_;rw[hs.val];exact yj hx h1 h2
   lvl:=by show(s.level.set _ _).length=_;rw[cM];exact hs.lvl
   oG:=by show(s.reason.set _ _).length=_;rw[cM];exact hs.oG
   hd:=by rw[kz];have:=hs.hd;simp only[bV,dC];exact⟨this.1,by show s.head≤_;omega⟩
   n3:=hs.n3
   pB:=hs.pB
   mG:=fun i hi=>by
    simp only[kz] at hi ⊢
    have kq:i<(s.ll 0).length+1:=by simpa using hi
    by_cases e:i<(s.ll 0).length
    ·rw[dY e,iX (hold (.inl (cZ e)))]
     exact hs.mG i e
    ·have e2:i=(s.ll 0).length:=by omega
     subst e2
     rw[dZ (aP _)]
     simp only[eb,ec]
     rw[mA hs hx]
     show _=((s.marks.countP _:Nat):Int)
     rw[qE fun m hm=>by have:=hs.n3 m hm;have:=hs.hd;omega]
   cls:=hs.cls,fresh:=hs.fresh,nc:=hs.nc,nw:=hs.nw,wt:=hs.wt,qU:=hs.qU,qX:=hs.qX
   two:=fun j hj w w' hw jb=>by
    have jb: -w∈((fL s x r h).ll 0).take s.head.toNat:=jb
    rw[kz,cR Ll] at jb
    obtain⟨q1,q2⟩:=hs.two j hj w w' hw jb
    rw[kz,iX (hold (.inl q1)),iX (hold (.inr (cS jb)))]
    exact⟨bW.2 (.inl q1),q2⟩
   qh:=fun i hi=>by
    simp only[kz] at hi ⊢
    have kq:i<(s.ll 0).length+1:=by simpa using hi
    by_cases e:i<(s.ll 0).length
    ·rw[dY e,s6 (hold (.inl (cZ e))),cR aJ,iX (hold (.inl (cZ e)))]
     exact hs.qh i e
    ·have e2:i=(s.ll 0).length:=by omega
     subst e2
     rw[dZ (aP _)]
     simp only[eb,ec]
     have e3:(fL s x r h).reason.getD (fm x) 0=r:=by
      have:=jF hx
      unfold fL
      simp only
      rw[c8,bG,if_pos rfl,if_pos (by rw[hs.oG];omega)];rfl
     rw[e3,cR (aP _),da,mA hs hx]
     rcases hr with ⟨q1,q2⟩|q
     ·refine .inl ⟨q1,q2.imp id fun q=>?_⟩
      rw[q];rfl
     ·exact .inr q}
theorem fW.done {n:Nat} {s:SR} (hs:fW n s) (hh:s.head.toNat<(s.ll 0).length) {g:Int} (hg:g= -(s.ll 0)[s.head.toNat]) (hE:∀e∈s.wl (eW g).toNat,∃j:Nat,j<s.nc∧e=(j:Int)∧c1 (s.cl j)=g∧c0 (s.cl j)∈s.ll 0):fW n {s with head:=s.head+1}:=by
 have hh0:=hs.hd
 have U7: -g∈s.ll 0:=by rw[hg,dv];exact cZ hh
 have hlg:fi s g=s.marks.length:=by
  have e:fi s g=fi s (s.ll 0)[s.head.toNat]:=by unfold fi;rw[hg,gJ]
  rw[e,hs.mG _ hh,qE fun m hm=>by have:=hs.n3 m hm;omega]
 have hle:∀y∈s.ll 0,fi s y≤s.marks.length:=fun y hy=>by
  obtain⟨i,hi,rfl⟩:=dc hy
  rw[hs.mG i hi]
  have:=ed (p:=fun m=>decide (m≤(i:Int))) (l:=s.marks)
  omega
 exact
  {hn:=hs.hn,iK:=hs.iK,val:=hs.val,lvl:=hs.lvl,oG:=hs.oG
   hd:=⟨by show 0≤s.head+1;omega,by show s.head+1≤((s.ll 0).length:Int);omega⟩
   n3:=fun m hm=>by have:=hs.n3 m hm;exact⟨this.1,by show m≤s.head+1;omega⟩
   pB:=hs.pB
   mG:=hs.mG,cls:=hs.cls,fresh:=hs.fresh,nc:=hs.nc,nw:=hs.nw,wt:=hs.wt,qU:=hs.qU,qX:=hs.qX
   two:=fun j hj w w' hw jb=>by
    have jb: -w∈(s.ll 0).take (s.head+1).toNat:=jb
    rw[show(s.head+1).toNat=s.head.toNat+1 by omega,dp hh,bW,cp] at jb
    rcases jb with jb|jb
    ·exact hs.two j hj w w' hw jb
    ·have hwg:w=g:=by rw[hg,← jb,dv]
     subst hwg
     have vG:(j:Int)∈s.wl (eW w).toNat:=by
      rcases hw with ⟨e,_⟩|⟨e,_⟩
      ·rw[e];exact(hs.qX j hj).1
      ·rw[e];exact(hs.qX j hj).2
     obtain⟨k,hk,e,q1,q2⟩:=hE _ vG
     have:k=j:=by omega
     subst this
     have j5:w'=c0 (s.cl k):=by
      rcases hw with ⟨e1,e2⟩|⟨_,e2⟩
      ·exfalso
       obtain⟨p1,p2,_⟩:=hs.cls k hk
       rw[show c0 (s.cl k)=(s.cl k)[0] from fF aJ] at e1
       rw[show c1 (s.cl k)=(s.cl k)[1] from fF aJ,e1] at q1
       have:=(du p2 (h₀:=by omega) (h₁:=by omega)).1 q1
       omega
      ·exact e2
     rw[j5]
     refine⟨q2,?_⟩
     show fi s (c0 (s.cl k))≤fi s w
     rw[hlg]
     exact hle _ q2
   qh:=hs.qh}
theorem ug {R:List Int} {m i:Nat} (hm:m≤i) (hi:i<R.length):(R.set m R[i]).take (m+1)++(R.set m R[i]).drop (i+1)=R.take m++R.drop i:=by
 rw[List.take_set,List.drop_set,if_pos aJ,dp aJ,List.set_append_right _ _ (by simp;omega)]
 simp only[dI]
 rw[ee aJ,eb,List.set_cons_zero,dV,List.singleton_append,← dm hi]
theorem drop_one {A B:List Int} {x:Int} (h:(A++x::B).Nodup) (e:Int):e∈A++B↔e∈A++x::B∧e≠x:=by
 have h1:=cm.1 h
 have h2:=cX.1 h1.2.1
 simp only[bW,bu]
 constructor
 ·rintro(h3|h3)
  ·exact⟨.inl h3,fun e'=>h1.2.2 _ h3 x (by simp) e'⟩
  ·exact⟨.inr (.inr h3),fun e'=>h2.1 (e'▸h3)⟩
 ·rintro⟨h3|rfl|h3,h4⟩
  ·exact .inl h3
  ·exact absurd rfl h4
  ·exact .inr h3
theorem D5 {A B:List Int} {x:Int} (h:(A++x::B).Nodup):(A++B).Nodup:=h.sublist (List.Sublist.append_left (List.sublist_cons_self _ _) _)
end Go.Ab
/- The solver's propagation,in plain terms:what it may turn,and how far it has come. -/
namespace Go.Ab
open Go Go.Proofs
structure uk (s t:SR):Prop where
 marks:t.marks=s.marks
 low:t.low=s.low
 added:t.added=s.added
 broken:t.broken=s.broken
 nc:t.nc=s.nc
 hc:t.hc=s.hc
 nw:t.nw=s.nw
 proof:t.proof=s.proof
 model:t.model=s.model
 core:t.core=s.core
 ll:∃ys,t.ll 0=s.ll 0++ys
 cl:∀j,lC (s.cl j) (t.cl j)
 A8:∀x∈s.ll 0,t.reason.getD (fm x) 0=s.reason.getD (fm x) 0
 new:∀x∈t.ll 0,x∉s.ll 0→t.reason.getD (fm x) 0≠ -1
theorem lC.refl (c:List Int):lC c c:=⟨rfl,id,fun _=>Iff.rfl⟩
theorem lC.trans {c d e:List Int} (h:lC c d) (k:lC d e):lC c e:=⟨k.len.trans h.len,fun x=>k.nd (h.nd x),fun x=>(k.mem x).trans (h.mem x)⟩
theorem uk.refl (s:SR):uk s s:=⟨rfl,rfl,rfl,rfl,rfl,rfl,rfl,rfl,rfl,rfl,⟨[],by simp⟩,fun _=> .refl _,fun _ _=>rfl,fun _ h k=>absurd h k⟩
theorem uk.Eo {s t:SR} (h:uk s t) {cl:Nat→List Int} {hw:Nat→Value} {wl:Nat→List Int} {hd:Int} (jq:∀j,lC (t.cl j) (cl j)):uk s {t with cl:=cl,hw:=hw,wl:=wl,head:=hd} where
 marks:=h.marks
 low:=h.low
 added:=h.added
 broken:=h.broken
 nc:=h.nc
 hc:=h.hc
 nw:=h.nw
 proof:=h.proof
 model:=h.model
 core:=h.core
 ll:=h.ll
 cl:=fun j=>(h.cl j).trans (jq j)
 A8:=h.A8
 new:=h.new
theorem l5 {s:SR} {x r:Int} {h:Value} {y:Int} (fZ:fm y≠fm x):(fL s x r h).reason.getD (fm y) 0=s.reason.getD (fm y) 0:=by
 unfold fL
 simp only
 rw[c8,c8,bG,if_neg (Ne.symm fZ)]
theorem jN (s:SR) (x r:Int) (h:Value):(fL s x r h).ll 0=s.ll 0++ [x]:=by
 show fb s.ll 0 (s.ll 0++ [x]) 0=_
 exact e8 _ _ _
theorem uk.push {n:Nat} {s t:SR} (h:uk s t) (ht:t.reason.length=n+1) {x r:Int} {hv:Value} (hx:Lit n x) (h1:x∉t.ll 0) (h2: -x∉t.ll 0) (hr:r≠ -1):uk s (fL t x r hv) where
 marks:=h.marks
 low:=h.low
 added:=h.added
 broken:=h.broken
 nc:=h.nc
 hc:=h.hc
 nw:=h.nw
 proof:=h.proof
 model:=h.model
 core:=h.core
 ll:=by
  obtain⟨ys,e⟩:=h.ll
  exact⟨ys++ [x],by rw[jN,e,dV]⟩
 cl:=h.cl
 A8:=fun y hy=>by
  obtain⟨ys,e⟩:=h.ll
  rw[l5 (oO (n:=n) h1 h2 (.inl (by rw[e];exact bW.2 (.inl hy))))]
  exact h.A8 y hy
 new:=fun y hy hny=>by
  rw[jN,bW,cp] at hy
  rcases hy with hy|rfl
  ·rw[l5 (oO (n:=n) h1 h2 (.inl hy))]
   exact h.new y hy hny
  ·have:=jF hx
   unfold fL
   simp only
   rw[c8,bG,if_pos rfl,if_pos (by rw[ht];omega)];exact hr
theorem fW.hw {n:Nat} {s:SR} (h:fW n s) (hv:Nat→Value):fW n {s with hw:=hv}:=
 {hn:=h.hn,iK:=h.iK,val:=h.val,lvl:=h.lvl,oG:=h.oG,hd:=h.hd,n3:=h.n3,mG:=h.mG,cls:=h.cls,fresh:=h.fresh,nc:=h.nc,nw:=h.nw,wt:=h.wt,qU:=h.qU,qX:=h.qX,two:=h.two,pB:=h.pB,qh:=h.qh}
theorem kn {n:Nat} {l:List Int} (h:l.Nodup) (hl:∀x∈l,0≤x∧x<n):l.length≤n:=by
 have:=ue n (l:=l.map fun x=>(x+1).toNat) (by
  unfold List.Nodup
  rw[dB]
  exact h.imp_of_mem fun {a b} ha hb r8 e=>by have:=hl a ha;have:=hl b hb;omega) fun v hv=>by
  obtain⟨x,hx,rfl⟩:=bw.1 hv
  have:=hl x hx
  omega
 simpa using this
theorem fW.Hr {n:Nat} {s:SR} (h:fW n s) {x:Int} (hx:Lit n x):(s.wl (eW x).toNat).length≤s.nc:=
 kn (h.qU _) fun e he=>by
  obtain⟨j,hj,rfl,_⟩:=h.wt x hx e he
  omega
theorem fW.D6 {n:Nat} {s:SR} (h:fW n s) {j:Nat} (hj:j<s.nc):(s.cl j).length≤2*n+2:=by
 obtain⟨_,h2,h3⟩:=h.cls j hj
 have:=kn (n:=2*n+2) (l:=(s.cl j).map eW) (by
  unfold List.Nodup
  rw[dB]
  exact h2.imp_of_mem fun {a b} ha hb r8 e=>r8 (ie (h3 a ha) (h3 b hb) (by rw[e]))) fun v hv=>by
  obtain⟨x,hx,rfl⟩:=bw.1 hv
  have:=ix (h3 x hx)
  omega
 simpa using this
structure ux (n:Nat) (s0:SR) (hd:Int) (N:Nat) (g:Int) (s:SR) (m i:Nat):Prop where
 inv:fW n {s with wl:=fb s.wl (eW g).toNat ((s.wl (eW g).toNat).take m++(s.wl (eW g).toNat).drop i)}
 ext:uk s0 s
 len:(s.wl (eW g).toNat).length=N
 mi:m≤i
 iN:i≤N
 hd:s.head=hd
 hh:(s.ll 0)[s.head.toNat]? =some (-g)
 done:∀e∈(s.wl (eW g).toNat).take m,∃j:Nat,j<s.nc∧e=(j:Int)∧c1 (s.cl j)=g∧c0 (s.cl j)∈s.ll 0
theorem fW.PF {n:Nat} {s:SR} (h:fW n s) {wl:Nat→List Int} (e:wl=s.wl):fW n {s with wl:=wl}:=by subst e;exact h
theorem ux.start {n:Nat} {s0 s:SR} {g:Int} (h:fW n s) (he:uk s0 s) (hh:(s.ll 0)[s.head.toNat]? =some (-g)):ux n s0 s.head (s.wl (eW g).toNat).length g s 0 0 where
 inv:=h.PF (by simp only[List.take_zero,List.drop_zero,List.nil_append];exact vn _ _)
 ext:=he
 len:=rfl
 mi:=aP _
 iN:=bk _
 hd:=rfl
 hh:=hh
 done:=fun e he=>by simp at he
section
variable {n:Nat} {s0:SR} {hd:Int} {N:Nat} {g:Int} {s:SR} {m i:Nat}
theorem ux.gl (h:ux n s0 hd N g s m i):Lit n g∧ -g∈s.ll 0:=by
 have hm:=aU h.hh
 have:=h.inv.iK.xz (-g) hm
 exact⟨⟨by omega,by omega,by omega⟩,hm⟩
theorem ux.clause (h:ux n s0 hd N g s m i) (hi:i<N):∃j:Nat,j<s.nc∧(s.wl (eW g).toNat)[i]? =some (j:Int)∧(c0 (s.cl j)=g∨c1 (s.cl j)=g)∧((j:Int)∉(s.wl (eW g).toNat).take m)∧2≤(s.cl j).length∧(s.cl j).length≤2*n+2∧(s.cl j).Nodup∧∀x∈s.cl j,Lit n x:=by
 have rJ:i<(s.wl (eW g).toNat).length:=by rw[h.len];exact hi
 have vG:(s.wl (eW g).toNat)[i]∈fb s.wl (eW g).toNat ((s.wl (eW g).toNat).take m++(s.wl (eW g).toNat).drop i) (eW g).toNat:=by
  rw[e8,bW]
  exact .inr (by rw[dm rJ];exact ef)
 obtain⟨j,hj,e,hw⟩:=h.inv.wt g h.gl.1 _ vG
 obtain⟨q1,q2,q3⟩:=h.inv.cls j hj
 refine⟨j,hj,by rw[a8 rJ,e],hw,fun hm=>?_,q1,h.inv.D6 hj,q2,q3⟩
 have hn:=h.inv.qU (eW g).toNat
 simp only[e8] at hn
 refine(cm.1 hn).2.2 _ hm _ ?_ rfl
 rw[dm rJ,e];simp
theorem ux.bnd (h:ux n s0 hd N g s m i):s.value.length=n+1∧s.level.length=n+1∧s.reason.length=n+1∧n≤20000∧(s.ll 0).length≤n∧s.marks.length≤s.marks.length∧s.nw=2*n+2∧s.nc≤100000:=
 ⟨by have:=h.inv.val;show s.value.length=_;rw[show s.value=lf n (s.ll 0) from this,ki],h.inv.lvl,h.inv.oG,h.inv.hn,h.inv.iK.len,aP _,h.inv.nw,h.inv.nc⟩
theorem ux.swap (h:ux n s0 hd N g s m i) {j:Nat} (hj:j<s.nc) (Kb:(j:Int)∉(s.wl (eW g).toNat).take m) {d:List Int} (hp:lC (s.cl j) d) (h0:c0 d=c1 (s.cl j)) (h1:c1 d=c0 (s.cl j)):ux n s0 hd N g {s with cl:=fb s.cl j d} m i where
 inv:=h.inv.swap hj hp h0 h1
 ext:=h.ext.Eo fun k=>by
  unfold fb;split
  ·next e=>subst e;exact hp
  ·exact .refl _
 len:=h.len
 mi:=h.mi
 iN:=h.iN
 hd:=h.hd
 hh:=h.hh
 done:=fun e he=>by
  obtain⟨k,q1,q2,q3,q4⟩:=h.done e he
  have fZ:k≠j:=by rintro rfl;exact Kb (q2▸he)
  exact⟨k,q1,q2,by show c1 (fb s.cl j d k)=g;rw[fA _ _ fZ];exact q3,by show c0 (fb s.cl j d k)∈_;rw[fA _ _ fZ];exact q4⟩
theorem ux.keep (h:ux n s0 hd N g s m i) {j:Nat} (hj:j<s.nc) (hi:(s.wl (eW g).toNat)[i]? =some (j:Int)) (EJ:c1 (s.cl j)=g) (De:c0 (s.cl j)∈s.ll 0):ux n s0 hd N g {s with wl:=fb s.wl (eW g).toNat ((s.wl (eW g).toNat).set m (j:Int))} (m+1) (i+1):=by
 obtain⟨rJ,e⟩:=aW.1 hi
 have hm:=h.mi
 have mB:fb (fb s.wl (eW g).toNat ((s.wl (eW g).toNat).set m (j:Int))) (eW g).toNat ((fb s.wl (eW g).toNat ((s.wl (eW g).toNat).set m (j:Int)) (eW g).toNat).take (m+1)++(fb s.wl (eW g).toNat ((s.wl (eW g).toNat).set m (j:Int)) (eW g).toNat).drop (i+1))=fb s.wl (eW g).toNat ((s.wl (eW g).toNat).take m++(s.wl (eW g).toNat).drop i):=by
  rw[jC,e8,← e,ug hm rJ]
 exact
  {inv:=by
    have:=h.inv
    rw[← mB] at this
    exact this
   ext:=h.ext.Eo fun _=> .refl _
   len:=by show(fb s.wl (eW g).toNat ((s.wl (eW g).toNat).set m (j:Int)) (eW g).toNat).length=_;rw[e8,cM];exact h.len
   mi:=by omega
   iN:=by rw[← h.len];omega
   hd:=h.hd,hh:=h.hh
   done:=fun x hx=>by
    have hx:x∈(fb s.wl (eW g).toNat ((s.wl (eW g).toNat).set m (j:Int)) (eW g).toNat).take (m+1):=hx
    rw[e8,dp (by simp;omega),bW,cp,eg,eh (aP _)] at hx
    rcases hx with hx|rfl
    ·exact h.done x hx
    ·exact⟨j,hj,rfl,EJ,De⟩}
theorem ux.move (h:ux n s0 hd N g s m i) {j:Nat} (hj:j<s.nc) (hi:(s.wl (eW g).toNat)[i]? =some (j:Int)) (Kb:(j:Int)∉(s.wl (eW g).toNat).take m) (EJ:c1 (s.cl j)=g) {d:List Int} {y:Int} (hp:lC (s.cl j) d) (h0:c0 d=c0 (s.cl j)) (h1:c1 d=y) (HR:y≠g) (Ql:y≠c0 (s.cl j)) (WT: -y∉s.ll 0) (hv:Nat→Value):
  ux n s0 hd N g {s with cl:=fb s.cl j d,hw:=hv,wl:=fb s.wl (eW y).toNat (s.wl (eW y).toNat++ [(j:Int)])} m (i+1):=by
 obtain⟨rJ,e⟩:=aW.1 hi
 have xu:Lit n y:=by
  obtain⟨q1,q2,q3⟩:=h.inv.cls j hj
  have q1:2≤(s.cl j).length:=q1
  have q3:∀x∈s.cl j,Lit n x:=q3
  refine q3 y ((hp.mem y).1 ?_)
  rw[← h1]
  exact(j6 (by rw[hp.len];exact q1)).2
 have fZ:(eW g).toNat≠(eW y).toNat:=fun q=>HR (ie xu h.gl.1 q.symm)
 have sW:fb s.wl (eW y).toNat (s.wl (eW y).toNat++ [(j:Int)]) (eW g).toNat=s.wl (eW g).toNat:=fA _ _ fZ
 have hE:(s.wl (eW g).toNat).take m++(s.wl (eW g).toNat).drop i=(s.wl (eW g).toNat).take m++(j:Int)::(s.wl (eW g).toNat).drop (i+1):=by
  rw[dm rJ,e]
 have jy:((s.wl (eW g).toNat).take m++(j:Int)::(s.wl (eW g).toNat).drop (i+1)).Nodup:=by
  have:=h.inv.qU (eW g).toNat
  simp only[e8] at this
  rw[hE] at this
  exact this
 have hm:=h.inv.move hj hp EJ h.gl.2 h0 h1 HR Ql WT (E:=(s.wl (eW g).toNat).take m++(s.wl (eW g).toNat).drop i) (E':=(s.wl (eW g).toNat).take m++(s.wl (eW g).toNat).drop (i+1)) (by exact e8 _ _ _) (fun x=>by rw[hE];exact drop_one jy x) (D5 jy) hv
 exact
  {inv:=by
    have e2:fb (fb (fb s.wl (eW g).toNat ((s.wl (eW g).toNat).take m++(s.wl (eW g).toNat).drop i)) (eW y).toNat (fb s.wl (eW g).toNat ((s.wl (eW g).toNat).take m++(s.wl (eW g).toNat).drop i) (eW y).toNat++ [(j:Int)])) (eW g).toNat ((s.wl (eW g).toNat).take m++(s.wl (eW g).toNat).drop (i+1))
      =fb (fb s.wl (eW y).toNat (s.wl (eW y).toNat++ [(j:Int)])) (eW g).toNat ((fb s.wl (eW y).toNat (s.wl (eW y).toNat++ [(j:Int)]) (eW g).toNat).take m++(fb s.wl (eW y).toNat (s.wl (eW y).toNat++ [(j:Int)]) (eW g).toNat).drop (i+1)):=by
     rw[sW,fA (k:=(eW g).toNat) _ _ (Ne.symm fZ)]
     funext x
     unfold fb
     split
     ·rfl
     ·rfl
    simp only at hm
    rw[e2] at hm
    exact hm
   ext:=h.ext.Eo fun k=>by
    unfold fb;split
    ·next q=>subst q;exact hp
    ·exact .refl _
   len:=by show(fb s.wl (eW y).toNat (s.wl (eW y).toNat++ [(j:Int)]) (eW g).toNat).length=_;rw[sW];exact h.len
   mi:=by have:=h.mi;omega
   iN:=by rw[← h.len];omega
   hd:=h.hd,hh:=h.hh
   done:=fun x hx=>by
    have Ba:x∈(fb s.wl (eW y).toNat (s.wl (eW y).toNat++ [(j:Int)]) (eW g).toNat).take m:=hx
    rw[sW] at Ba
    obtain⟨k,q1,q2,q3,q4⟩:=h.done x Ba
    have fZ:k≠j:=fun q=>Kb (by rw[← q,← q2];exact Ba)
    exact⟨k,q1,q2,by show c1 (fb s.cl j d k)=g;rw[fA _ _ fZ];exact q3,by show c0 (fb s.cl j d k)∈_;rw[fA _ _ fZ];exact q4⟩}
theorem ux.push (h:ux n s0 hd N g s m i) {j:Nat} (hj:j<s.nc) (hi:(s.wl (eW g).toNat)[i]? =some (j:Int)) (EJ:c1 (s.cl j)=g) (hf:∀y∈s.cl j,y≠c0 (s.cl j)→ -y∈s.ll 0) (h1:c0 (s.cl j)∉s.ll 0) (h2: -(c0 (s.cl j))∉s.ll 0) (hv:Value):
  ux n s0 hd N g (fL {s with wl:=fb s.wl (eW g).toNat ((s.wl (eW g).toNat).set m (j:Int))} (c0 (s.cl j)) (j:Int) hv) (m+1) (i+1):=by
 obtain⟨rJ,e⟩:=aW.1 hi
 have hm:=h.mi
 obtain⟨q1,q2,q3⟩:=h.inv.cls j hj
 have TP:Lit n (c0 (s.cl j)):=q3 _ (j6 q1).1
 have mB:fb (fb s.wl (eW g).toNat ((s.wl (eW g).toNat).set m (j:Int))) (eW g).toNat ((fb s.wl (eW g).toNat ((s.wl (eW g).toNat).set m (j:Int)) (eW g).toNat).take (m+1)++(fb s.wl (eW g).toNat ((s.wl (eW g).toNat).set m (j:Int)) (eW g).toNat).drop (i+1))=fb s.wl (eW g).toNat ((s.wl (eW g).toNat).take m++(s.wl (eW g).toNat).drop i):=by
  rw[jC,e8,← e,ug hm rJ]
 have hinv:=h.inv.push (r:=(j:Int)) hv TP h1 h2 (.inr ⟨j,hj,rfl,(j6 q1).1,hf⟩)
 exact
  {inv:=by
    have:=hinv
    unfold fL at this ⊢
    simp only at this ⊢
    rw[mB]
    exact this
   ext:=(h.ext.Eo (t:=s) (cl:=s.cl) (hw:=s.hw) (wl:=fb s.wl (eW g).toNat ((s.wl (eW g).toNat).set m (j:Int))) (hd:=s.head) fun _=> .refl _).push (n:=n) h.inv.oG TP h1 h2 (by omega)
   len:=by show(fb s.wl (eW g).toNat ((s.wl (eW g).toNat).set m (j:Int)) (eW g).toNat).length=_;rw[e8,cM];exact h.len
   mi:=by omega
   iN:=by rw[← h.len];omega
   hd:=h.hd
   hh:=by
    rw[jN]
    show(s.ll 0++_)[s.head.toNat]? =_
    have:=h.hh
    rw[aT (aW.1 this).1]
    exact this
   done:=fun x hx=>by
    have hx:x∈(fb s.wl (eW g).toNat ((s.wl (eW g).toNat).set m (j:Int)) (eW g).toNat).take (m+1):=hx
    rw[e8,dp (by simp;omega),bW,cp,eg,eh (aP _)] at hx
    rw[jN]
    rcases hx with hx|rfl
    ·obtain⟨k,p1,p2,p3,p4⟩:=h.done x hx
     exact⟨k,p1,p2,p3,bW.2 (.inl p4)⟩
    ·exact⟨j,hj,rfl,EJ,by simp;exact .inr rfl⟩}
theorem ux.fin (h:ux n s0 hd N g s m N) (hv:Nat→Value):fW n {s with hw:=hv,wl:=fb s.wl (eW g).toNat ((s.wl (eW g).toNat).take m),head:=s.head+1}:=by
 have h1:=h.inv
 have e:(s.wl (eW g).toNat).take m++(s.wl (eW g).toNat).drop N=(s.wl (eW g).toNat).take m:=by rw[List.drop_eq_nil_of_le (by rw[h.len];exact aP _),bs]
 rw[e] at h1
 obtain⟨q1,q2⟩:=aW.1 h.hh
 refine(h1.done (g:=g) q1 (by show g= -(s.ll 0)[s.head.toNat];rw[q2,dv]) fun x hx=>?_).hw hv
 have hx:x∈fb s.wl (eW g).toNat ((s.wl (eW g).toNat).take m) (eW g).toNat:=hx
 rw[e8] at hx
 exact h.done x hx
end
theorem Ff {R:List Int} {m i:Nat} {x:Int} (hm:m≤i) (hi:i<R.length) (hx:R[i]=x):(((R.set m x).take (m+1)++(R.set m x).drop ((i:Int)+1).toNat)++(R.set m x).drop (m+1+(R.length - ((i:Int)+1).toNat))).take (m+1+(R.length - ((i:Int)+1).toNat))=R.take m++R.drop i:=by
 have e:((i:Int)+1).toNat=i+1:=by omega
 have hl:((R.set m x).take (m+1)++(R.set m x).drop (i+1)).length=m+1+(R.length - (i+1)):=by
  simp only[bV,dI,cQ,cM];omega
 rw[e,cR (by rw[hl];exact aP _),List.take_of_length_le (by rw[hl];exact aP _),← hx,ug hm hi]
structure I4 (n:Nat) (s t:SR) (r:Int):Prop where
 inv:fW n t
 ext:uk s t
 res:(r= -1∧t.head=((t.ll 0).length:Int))∨∃j:Nat,j<t.nc∧r=(j:Int)∧∀x∈t.cl j,-x∈t.ll 0
theorem AW.atR {P:Program} {g:e6} {δ:DS} {Q:Exit→DS→Prop} (id:Nat) {l:Array Oper} {b:Bool} (h:AW P g (.region id l b) Q δ):AW P g (.region id l b) Q δ:=h
theorem AW.wJ {P:Program} {g:e6} {δ:DS} {Q:Exit→DS→Prop} (id:Nat) {l:Array Oper} {b:Bool} {c:Code} (h:AW P g (.seq (.region id l b) c) Q δ):AW P g (.seq (.region id l b) c) Q δ:=h
def Stop (p:Prop):Prop:=p
theorem Stop.go {p:Prop} (h:p):Stop p:=h
section
variable {P:Program} {g:e6} {δ:DS} {Q:Exit→DS→Prop} {l:Array Oper} {b:Bool} {c:Code}
theorem AW.lE (id:Nat) (h:Stop (AW P g (.seq (.region id l b) c) Q δ)):AW P g (.seq (.region id l b) c) Q δ:=h
theorem AW.N6 (id:Nat) (h:Stop (AW P g (.region id l b) Q δ)):AW P g (.region id l b) Q δ:=h
end
end Go.Ab
/- The solver's conflict analysis,in plain terms:how far it has come,and what it gives. -/
namespace Go.Ab
open Go Go.Proofs
theorem Dk {l:List Int} {p q:Int→Bool} {y:Int} (hn:(l.map fm).Nodup) (hy:y∈l) (hp:p y=false) (hq:q y=true) (hz:∀z∈l,fm z≠fm y→q z=p z):l.countP q=l.countP p+1:=by
 induction l with
 |nil=>simp at hy
 |cons a l ih=>
  rw[List.map_cons,cX] at hn
  rcases bu.1 hy with rfl|hy
  ·have:l.countP q=l.countP p:=by
    apply eo
    intro z HU
    rw[hz z (eu _ HU) fun e=>hn.1 (e▸dA HU)]
   rw[ew,ew,this,hp,hq];simp
  ·have fZ:fm a≠fm y:=fun e=>hn.1 (e▸dA hy)
   rw[ew,ew,ih hn.2 hy fun z HU=>hz z (eu _ HU),hz a ef fZ]
   omega
theorem m_ (l:List Bool) (v:Nat) (hv:v<l.length) (u:Nat):(l.set v true).getD u false=if u=v then true else l.getD u false:=by
 rw[c8,bG]
 by_cases e:v=u
 ·subst e;rw[if_pos rfl,if_pos hv,if_pos rfl];rfl
 ·rw[if_neg e,if_neg (Ne.symm e),c8]
theorem qy {l:List Bool} {v u:Nat} (hv:v<l.length) (h:l.getD u false=true):(l.set v true).getD u false=true:=by
 rw[m_ l v hv]
 by_cases e:u=v
 ·rw[if_pos e]
 ·rw[if_neg e];exact h
structure ph (n:Nat) (s:SR) (sl:List Bool) (rest:List Int) (op:Nat) (tz:Int) (k:Nat):Prop where
 len:sl.length=n+1
 sub:∀v,sl.getD v false=true→∃x∈s.ll 0,fm x=v∧0<fi s x
 low:∀x∈s.ll 0,sl.getD (fm x) false=true→fi s x<s.marks.length→ -x∈rest
 rst:∀x∈rest,-x∈s.ll 0∧sl.getD (fm x) false=true∧0<fi s x∧fi s x<s.marks.length∧fi s x≤tz
 rnd:(rest.map fm).Nodup
 tto:(tz=0∧rest=[])∨∃x∈rest,fi s x=tz
 cnt:op=((s.ll 0).take k).countP fun x=>sl.getD (fm x) false && decide (fi s x=s.marks.length)
theorem iz (s:SR) (x:Int):fi s (-x)=fi s x:=by unfold fi;rw[gJ]
theorem fW.n4 {n:Nat} {s:SR} (hs:fW n s) {x:Int} (hx:x∈s.ll 0):0≤fi s x∧fi s x≤s.marks.length:=by
 obtain⟨i,hi,rfl⟩:=dc hx
 rw[hs.mG i hi]
 have:=ed (p:=fun m=>decide (m≤(i:Int))) (l:=s.marks)
 omega
theorem ph.start {n:Nat} {s:SR} (k:Nat):ph n s (bY (n+1) false) [] 0 0 k where
 len:=by simp
 sub:=fun v hv=>by simp [c8,ez] at hv;split at hv<;>simp at hv
 low:=fun x _ hv=>by simp [c8,ez] at hv;split at hv<;>simp at hv
 rst:=fun x hx=>by simp at hx
 rnd:=by simp
 tto:=.inl ⟨rfl,rfl⟩
 cnt:=by
  symm
  rw[eA]
  intro x _
  have:(bY (n+1) false).getD (fm x) false=false:=by
   rw[c8,ez];split<;>rfl
  rw[this];simp
section
variable {n:Nat} {s:SR} {sl:List Bool} {rest:List Int} {op:Nat} {tz:Int} {k:Nat}
theorem j1.AX {n:Nat} {L:List Int} (h:j1 n L) {x:Int} (hx: -x∈L):fm x<n+1:=by
 have:=jF (h.xz _ hx)
 rw[gJ] at this
 omega
theorem ph.cur (h:ph n s sl rest op tz k) (hs:fW n s) {x:Int} (hx: -x∈(s.ll 0).take k) (q6:sl.getD (fm x) false=false) (hl:fi s x=s.marks.length) (hm:0<s.marks.length):ph n s (sl.set (fm x) true) rest (op+1) tz k:=by
 have Ry:=cS hx
 have hv:fm x<sl.length:=by rw[h.len];exact hs.iK.AX Ry
 have hg:=m_ sl (fm x) hv
 exact
  {len:=by rw[cM];exact h.len
   sub:=fun v yD=>by
    rw[hg] at yD
    split at yD
    ·next e=>subst e;exact⟨-x,Ry,gJ x,by rw[iz,hl];omega⟩
    ·exact h.sub v yD
   low:=fun y hy h1 h2=>by
    rw[hg] at h1
    split at h1
    ·next e=>
     exfalso
     have:y= -x:=hs.iK.once hy Ry (by rw[gJ,e])
     rw[this,iz,hl] at h2;omega
    ·exact h.low y hy h1 h2
   rst:=fun y hy=>by
    obtain⟨q1,q2,q3⟩:=h.rst y hy
    exact⟨q1,qy hv q2,q3⟩
   rnd:=h.rnd
   tto:=h.tto
   cnt:=by
    rw[h.cnt]
    symm
    refine Dk (y:= -x) ?_ hx ?_ ?_ ?_
    ·rw[List.map_take];exact hs.iK.nd.sublist (eB _ _)
    ·simp only[gJ,q6,c7]
    ·simp only[gJ,hg,iz,hl,if_pos,decide_true,eC]
    ·intro z _ hz
     rw[gJ] at hz
     simp only[hg,if_neg hz]}
theorem ph.A8 (h:ph n s sl rest op tz k) (hs:fW n s) {x:Int} (hx: -x∈s.ll 0) (q6:sl.getD (fm x) false=false) (hl:fi s x≠s.marks.length) (h0:fi s x≠0):ph n s (sl.set (fm x) true) (rest++ [x]) op (max tz (fi s x)) k:=by
 have hv:fm x<sl.length:=by rw[h.len];exact hs.iK.AX hx
 have hg:=m_ sl (fm x) hv
 have hle:=hs.n4 hx
 rw[iz] at hle
 exact
  {len:=by rw[cM];exact h.len
   sub:=fun v yD=>by
    rw[hg] at yD
    split at yD
    ·next e=>subst e;exact⟨-x,hx,gJ x,by rw[iz];omega⟩
    ·exact h.sub v yD
   low:=fun y hy h1 h2=>by
    rw[hg] at h1
    split at h1
    ·next e=>
     have:y= -x:=hs.iK.once hy hx (by rw[gJ,e])
     rw[this,dv];simp
    ·exact bW.2 (.inl (h.low y hy h1 h2))
   rst:=fun y hy=>by
    rcases bW.1 hy with hy|hy
    ·obtain⟨q1,q2,q3,q4,q5⟩:=h.rst y hy
     exact⟨q1,qy hv q2,q3,q4,by omega⟩
    ·rw[cp.1 hy]
     exact⟨hx,by rw[hg,if_pos rfl],by omega,by omega,by omega⟩
   rnd:=by
    rw[cU,cm]
    refine⟨h.rnd,by simp,fun a ha b hb=>?_⟩
    obtain⟨y,hy,rfl⟩:=bw.1 ha
    simp at hb
    subst hb
    intro e
    have:=(h.rst y hy).2.1
    rw[e,q6] at this;cases this
   tto:=by
    right
    rcases h.tto with ⟨q1,q2⟩|⟨y,hy,q⟩
    ·exact⟨x,by simp,by rw[q1];omega⟩
    ·by_cases e:tz≤fi s x
     ·exact⟨x,by simp,by omega⟩
     ·exact⟨y,by simp [hy],by omega⟩
   cnt:=by
    rw[h.cnt]
    apply eo
    intro z hz
    rw[hg]
    by_cases e:fm z=fm x
    ·have:z= -x:=hs.iK.once (cS hz) hx (by rw[gJ,e])
     subst this
     have:decide (fi s (-x)=(s.marks.length:Int))=false:=by rw[iz];simpa using hl
     simp [this]
    ·rw[if_neg e]}
end
def uG (s:SR) (sl:List Bool) (c:List Int) (piv:Int):Prop:=∀x∈c,x≠piv→sl.getD (fm x) false=true∨fi s x=0
def tj (s:SR) (sl:List Bool) (i:Nat):Prop:=∀x,(s.ll 0)[i]? =some x→∃j:Nat,j<s.nc∧x∈s.cl j∧(∀y∈s.cl j,y≠x→ -y∈(s.ll 0).take i)∧uG s sl (s.cl j) x
structure yQ (n:Nat) (s:SR) (j0:Nat) (sl:List Bool) (rest:List Int) (op:Nat) (tz:Int) (k:Nat) (piv:Int) (j:Nat):Prop where
 base:ph n s sl rest op tz k
 hk:k≤(s.ll 0).length
 hj:j<s.nc
 cf:∀x∈s.cl j,x≠piv→ -x∈(s.ll 0).take k
 done:∀i,k<i→i<(s.ll 0).length→∀x,(s.ll 0)[i]? =some x→sl.getD (fm x) false=true→fi s x=s.marks.length→tj s sl i
 st:(piv=0∧k=(s.ll 0).length∧j=j0∧∃x∈s.cl j,fi s x=s.marks.length)∨((s.ll 0)[k]? =some piv∧piv∈s.cl j∧fi s piv=s.marks.length∧uG s sl (s.cl j0) 0∧0<op)
 one:op≤1000000
theorem uG.mono {s:SR} {sl sl':List Bool} {c:List Int} {p:Int} (h:uG s sl c p) (hm:∀v,sl.getD v false=true→sl'.getD v false=true):uG s sl' c p:=fun x hx hp=>(h x hx hp).imp (hm _) id
theorem tj.mono {s:SR} {sl sl':List Bool} {i:Nat} (h:tj s sl i) (hm:∀v,sl.getD v false=true→sl'.getD v false=true):tj s sl' i:=fun x hx=>by
 obtain⟨j,q1,q2,q3,q4⟩:=h x hx
 exact⟨j,q1,q2,q3,q4.mono hm⟩
structure pq (n:Nat) (s:SR) (j0:Nat) (k:Nat) (piv:Int) (j:Nat) (sl:List Bool) (rest:List Int) (op:Nat) (tz:Int) (i:Nat):Prop where
 base:ph n s sl rest op tz k
 hi:i≤(s.cl j).length
 hk:k≤(s.ll 0).length
 hj:j<s.nc
 cf:∀x∈s.cl j,x≠piv→ -x∈(s.ll 0).take k
 done:∀i,k<i→i<(s.ll 0).length→∀x,(s.ll 0)[i]? =some x→sl.getD (fm x) false=true→fi s x=s.marks.length→tj s sl i
 st:(piv=0∧k=(s.ll 0).length∧j=j0∧∃x∈s.cl j,fi s x=s.marks.length)∨((s.ll 0)[k]? =some piv∧piv∈s.cl j∧fi s piv=s.marks.length∧uG s sl (s.cl j0) 0∧0<op)
 row:∀x∈(s.cl j).take i,x≠piv→sl.getD (fm x) false=true∨fi s x=0
section
variable {n:Nat} {s:SR} {j0 k j:Nat} {piv:Int} {sl:List Bool} {rest:List Int} {op:Nat} {tz:Int} {i:Nat}
theorem yQ.row (h:yQ n s j0 sl rest op tz k piv j):pq n s j0 k piv j sl rest op tz 0 where
 base:=h.base
 hi:=bk _
 hk:=h.hk
 hj:=h.hj
 cf:=h.cf
 done:=h.done
 st:=h.st
 row:=fun x hx=>by simp at hx
theorem pq.Yd (h:pq n s j0 k piv j sl rest op tz i) (hs:fW n s):op≤n∧rest.length≤n:=by
 constructor
 ·have:=ed (p:=fun x=>sl.getD (fm x) false && decide (fi s x=s.marks.length)) (l:=(s.ll 0).take k)
  rw[← h.base.cnt] at this
  have:=hs.iK.len
  simp at*;omega
 ·have:=ue n h.base.rnd fun v hv=>by
   obtain⟨x,hx,rfl⟩:=bw.1 hv
   have:=jF (hs.iK.xz _ (h.base.rst x hx).1)
   rwa [gJ] at this
  simpa using this
theorem pq.skip (h:pq n s j0 k piv j sl rest op tz i) (hi:i<(s.cl j).length) (hc:(s.cl j)[i]=piv∨sl.getD (fm (s.cl j)[i]) false=true∨fi s (s.cl j)[i]=0):pq n s j0 k piv j sl rest op tz (i+1):=
 {h with
  hi:=hi
  row:=fun x hx hp=>by
   rw[dp hi,bW,cp] at hx
   rcases hx with hx|rfl
   ·exact h.row x hx hp
   ·exact hc.resolve_left hp}
theorem pq.ZB (h:pq n s j0 k piv j sl rest op tz i) (hi:i<(s.cl j).length) {rest':List Int} {op':Nat} {tz':Int} (xW:op≤op') (hb:ph n s (sl.set (fm (s.cl j)[i]) true) rest' op' tz' k) (hv:fm (s.cl j)[i]<sl.length) (jy:∀q,k<q→∀x,(s.ll 0)[q]? =some x→fm x≠fm (s.cl j)[i]):pq n s j0 k piv j (sl.set (fm (s.cl j)[i]) true) rest' op' tz' (i+1):=by
 have hg:=m_ sl _ hv
 have hm:∀v,sl.getD v false=true→(sl.set (fm (s.cl j)[i]) true).getD v false=true:=fun v h=>qy hv h
 exact
  {base:=hb,hi:=hi,hk:=h.hk,hj:=h.hj,cf:=h.cf
   done:=fun q h1 h2 x h3 h4 h5=>by
    rw[hg,if_neg (jy q h1 x h3)] at h4
    exact(h.done q h1 h2 x h3 h4 h5).mono hm
   st:=h.st.imp id fun⟨q1,q2,q3,q4,q5⟩=>⟨q1,q2,q3,q4.mono hm,by omega⟩
   row:=fun x hx hp=>by
    rw[dp hi,bW,cp] at hx
    rcases hx with hx|rfl
    ·exact(h.row x hx hp).imp (hm _) id
    ·left;rw[hg,if_pos rfl]}
theorem CP (hs:fW n s) {x:Int} (hx: -x∈(s.ll 0).take k):∀q,k<q→∀y,(s.ll 0)[q]? =some y→fm y≠fm x:=fun q hq y hy e=>by
 obtain⟨a,ha,e2⟩:=dc hx
 rw[eD] at e2
 obtain⟨jr,Ey⟩:=aW.1 hy
 simp only[dI] at ha
 have:a=q:=(du hs.iK.nd (h₀:=by simp;omega) (h₁:=by simpa using jr)).1 (by rw[dj,dj,e2,Ey,gJ,e])
 omega
theorem pq.cur (h:pq n s j0 k piv j sl rest op tz i) (hs:fW n s) (hm:0<s.marks.length) (hi:i<(s.cl j).length) (hp:(s.cl j)[i]≠piv) (q6:sl.getD (fm (s.cl j)[i]) false=false) (hl:fi s (s.cl j)[i]=s.marks.length):pq n s j0 k piv j (sl.set (fm (s.cl j)[i]) true) rest (op+1) tz (i+1):=by
 have hx:=h.cf _ (cZ hi) hp
 exact h.ZB hi aJ (h.base.cur hs hx q6 hl hm) (by rw[h.base.len];exact hs.iK.AX (cS hx)) (CP hs hx)
theorem pq.A8 (h:pq n s j0 k piv j sl rest op tz i) (hs:fW n s) (hi:i<(s.cl j).length) (hp:(s.cl j)[i]≠piv) (q6:sl.getD (fm (s.cl j)[i]) false=false) (hl:fi s (s.cl j)[i]≠s.marks.length) (h0:fi s (s.cl j)[i]≠0):pq n s j0 k piv j (sl.set (fm (s.cl j)[i]) true) (rest++ [(s.cl j)[i]]) op (max tz (fi s (s.cl j)[i])) (i+1):=by
 have hx:=h.cf _ (cZ hi) hp
 exact h.ZB hi (aP _) (h.base.A8 hs (cS hx) q6 hl h0) (by rw[h.base.len];exact hs.iK.AX (cS hx)) (CP hs hx)
structure nk (n:Nat) (s:SR) (j0:Nat) (k:Nat) (sl:List Bool) (rest:List Int) (op:Nat) (tz:Int):Prop where
 base:ph n s sl rest op tz k
 hk:k≤(s.ll 0).length
 done:∀i,k≤i→i<(s.ll 0).length→∀x,(s.ll 0)[i]? =some x→sl.getD (fm x) false=true→fi s x=s.marks.length→tj s sl i
 sj:uG s sl (s.cl j0) 0
 op:0<op
theorem pq.fin (h:pq n s j0 k piv j sl rest op tz (s.cl j).length) (hs:fW n s) (hm:0<s.marks.length):nk n s j0 k sl rest op tz:=by
 have gC:uG s sl (s.cl j) piv:=fun x hx hp=>h.row x (by rw[da];exact hx) hp
 have Qd:∀x∈s.cl j,x≠0:=fun x hx=>((hs.cls j h.hj).2.2 x hx).1
 refine⟨h.base,h.hk,fun i h1 h2 x h3 h4 h5=>?_,?_,?_⟩
 ·by_cases e:i=k
  ·subst e
   rcases h.st with ⟨_,q,_⟩|⟨q1,q2,q3,_⟩
   ·omega
   ·intro y hy
    rw[q1] at hy
    obtain rfl:piv=y:=by simpa using hy
    exact⟨j,h.hj,q2,h.cf,gC⟩
  ·exact h.done i aJ h2 x h3 h4 h5
 ·rcases h.st with ⟨q1,_,q2,_⟩|⟨_,_,_,q,_⟩
  ·rw[← q2,← q1];exact gC
  ·exact q
 ·rcases h.st with ⟨q1,_,_,x,hx,hl⟩|⟨_,_,_,_,q⟩
  ·have Rx:x≠piv:=by rw[q1];exact Qd x hx
   have q6:sl.getD (fm x) false=true:=(gC x hx Rx).resolve_right (by omega)
   rw[h.base.cnt,eE]
   exact⟨-x,h.cf x hx Rx,by rw[gJ,q6,iz,hl];simp⟩
  ·exact q
end
structure sD (n:Nat) (s:SR) (j0:Nat) (l:List Int) (tz:Int):Prop where
 uip:∃a,∃h:a<(s.ll 0).length,∃rest,l= -(s.ll 0)[a]::rest∧fi s (s.ll 0)[a]=s.marks.length∧(∀x∈rest,-x∈s.ll 0∧0<fi s x∧fi s x<s.marks.length∧fi s x≤tz)∧(rest.map fm).Nodup∧((tz=0∧rest=[])∨∃x∈rest,fi s x=tz)
 der:∃sn:Nat→Prop,(∀x∈s.cl j0,sn (fm x)∨fi s x=0)∧∀i (h:i<(s.ll 0).length),sn (fm (s.ll 0)[i])→ -(s.ll 0)[i]∈l∨∃k,k<s.nc∧(s.ll 0)[i]∈s.cl k∧∀y∈s.cl k,y≠(s.ll 0)[i]→ -y∈(s.ll 0).take i∧(sn (fm y)∨fi s y=0)
section
variable {n:Nat} {s:SR} {j0 k:Nat} {sl:List Bool} {rest:List Int} {op:Nat} {tz:Int}
theorem nk.pos (h:nk n s j0 k sl rest op tz):0<k:=by
 have:=h.op
 rw[h.base.cnt,eE] at this
 obtain⟨x,hx,_⟩:=this
 cases k with
 |zero=>simp at hx
 |succ k=>omega
theorem nk.down (h:nk n s j0 (k+1) sl rest op tz) (hx:sl.getD (fm ((s.ll 0)[k]'h.hk)) false=false):nk n s j0 k sl rest op tz where
 base:={h.base with
  cnt:=by
   have:=h.base.cnt
   rw[dp h.hk,eF] at this
   simp only[ew,eG,hx,c7,Bool.false_eq_true,if_false,Nat.add_zero,ba] at this
   exact this}
 hk:=by have:=h.hk;omega
 done:=fun i h1 h2 x h3 h4 h5=>by
  by_cases e:i=k
  ·subst e
   rw[a8 h2] at h3
   simp only[Option.some.injEq] at h3
   rw[h3,h4] at hx;cases hx
  ·exact h.done i aJ h2 x h3 h4 h5
 sj:=h.sj
 op:=h.op
theorem count_le {l:List Int} {a b:Int} (h:a≤b):l.countP (fun m=>decide (m≤a))≤l.countP (fun m=>decide (m≤b)):=by
 apply List.countP_mono_left
 intro m _ hm
 simp at*;omega
theorem fW.Bf {n:Nat} {s:SR} (hs:fW n s) {a b:Nat} (r8:a≤b) (hb:b<(s.ll 0).length):fi s ((s.ll 0)[a]'(by omega))≤fi s (s.ll 0)[b]:=by
 rw[hs.mG a aJ,hs.mG b hb]
 have:=count_le (l:=s.marks) (a:=a) (b:=b) (by omega)
 omega
theorem nk.found (h:nk n s j0 (k+1) sl rest op tz) (hs:fW n s):fi s ((s.ll 0)[k]'h.hk)=s.marks.length:=by
 have:=h.op
 rw[h.base.cnt,eE] at this
 obtain⟨x,hx,hp⟩:=this
 obtain⟨a,ha,rfl⟩:=dc hx
 simp only[dI] at ha
 rw[eD] at hp
 simp only[aZ,decide_eq_true_eq] at hp
 have h1:=hs.Bf (a:=a) (b:=k) aJ h.hk
 have h2:=(hs.n4 (cZ h.hk)).2
 omega
theorem nk.Sv (h:nk n s j0 (k+1) sl rest op tz) (hs:fW n s) (hx:sl.getD (fm ((s.ll 0)[k]'h.hk)) false=true):op - 1=((s.ll 0).take k).countP fun x=>sl.getD (fm x) false && decide (fi s x=s.marks.length):=by
 have:=h.base.cnt
 rw[dp h.hk,eF] at this
 simp only[ew,eG,hx,h.found hs,decide_true,eC,if_pos] at this
 omega
theorem nk.out (h:nk n s j0 (k+1) sl rest 1 tz) (hs:fW n s) (hx:sl.getD (fm ((s.ll 0)[k]'h.hk)) false=true):sD n s j0 (-((s.ll 0)[k]'h.hk)::rest) tz where
 uip:=⟨k,h.hk,rest,rfl,h.found hs,fun x hx=>by obtain⟨q1,_,q2⟩:=h.base.rst x hx;exact⟨q1,q2⟩,h.base.rnd,h.base.tto⟩
 der:=⟨fun v=>sl.getD v false=true,fun x hx=>h.sj x hx ((hs.cls j0 (by
   -- the clause is a clause,or it has no element
   by_cases q:j0<s.nc
   ·exact q
   ·rw[(hs.fresh j0 aJ).1] at hx;simp at hx)).2.2 x hx).1,fun i hi q6=>by
  by_cases hl:fi s (s.ll 0)[i]<s.marks.length
  ·exact .inl (eu _ (h.base.low _ (cZ hi) q6 hl))
  ·have hle:=(hs.n4 (cZ hi)).2
   by_cases e:i=k
   ·subst e;exact .inl ef
   ·by_cases Yw:i<k
    ·exfalso
     have h0:=h.Sv hs hx
     have:0<((s.ll 0).take k).countP fun x=>sl.getD (fm x) false && decide (fi s x=s.marks.length):=by
      rw[eE]
      refine⟨(s.ll 0)[i],?_,by rw[q6,Bool.true_and];simp;omega⟩
      rw[eH]
      exact⟨i,by omega,rfl⟩
     omega
    ·obtain⟨j,q1,q2,q3,q4⟩:=h.done i aJ hi _ (a8 hi) q6 aJ _ (a8 hi)
     exact .inr ⟨j,q1,q2,fun y hy fZ=>⟨q3 y hy fZ,q4 y hy fZ⟩⟩⟩
theorem nk.next (h:nk n s j0 (k+1) sl rest op tz) (hs:fW n s) (hx:sl.getD (fm ((s.ll 0)[k]'h.hk)) false=true) (xW:op≠1):∃j:Nat,s.reason.getD (fm ((s.ll 0)[k]'h.hk)) 0=(j:Int)∧j<s.nc∧yQ n s j0 sl rest (op - 1) tz k ((s.ll 0)[k]'h.hk) j:=by
 have hk:=h.hk
 have EJ:=h.Sv hs hx
 have hf:=h.found hs
 have h0:=h.op
 have D4:0<((s.ll 0).take k).countP fun x=>sl.getD (fm x) false && decide (fi s x=s.marks.length):=by omega
 rw[eE] at D4
 obtain⟨x,vo,hp⟩:=D4
 obtain⟨a,ha,rfl⟩:=dc vo
 simp only[dI] at ha
 rw[eD] at hp
 simp only[aZ,decide_eq_true_eq] at hp
 have MN:0<fi s (s.ll 0)[k]:=by
  obtain⟨y,hy,e1,e2⟩:=h.base.sub _ hx
  have:y=(s.ll 0)[k]:=hs.iK.once hy (cZ hk) e1
  rw[← this];exact e2
 rcases hs.qh k hk with ⟨_,q|q⟩|⟨j,q1,q2,q3,q4⟩
 ·exfalso
  have e:=hp.2
  rw[hs.mG a aJ] at e
  have iT:∀m∈s.marks,decide (m≤(a:Int))=true:=by
   rw[← dX];omega
  have:=iT _ q
  simp at this;omega
 ·omega
 ·refine⟨j,q2,q1,{h.base with cnt:=EJ},by omega,q1,q4,fun i h1 h2=>h.done i aJ h2,.inr ⟨a8 hk,q3,hf,h.sj,by omega⟩,?_⟩
  have:=ed (p:=fun x=>sl.getD (fm x) false && decide (fi s x=s.marks.length)) (l:=(s.ll 0).take k)
  have:=hs.iK.len
  have:=hs.hn
  simp at*;omega
end
theorem fW.PB {n:Nat} {s:SR} (hs:fW n s) {j:Nat} (hj:j<s.nc) (hf:∀x∈s.cl j,-x∈s.ll 0):∃x∈s.cl j,fi s x=s.marks.length:=by
 obtain⟨q1,q2,q3⟩:=hs.cls j hj
 obtain⟨m0,m1⟩:=j6 q1
 refine⟨_,m0,?_⟩
 have CG: -(c0 (s.cl j))∉(s.ll 0).take s.head.toNat:=fun jb=>by
  have:=(hs.two j hj _ _ (.inl ⟨rfl,rfl⟩) jb).1
  exact hs.iK.nS this (hf _ m1)
 obtain⟨i,hi,e⟩:=dc (hf _ m0)
 have Cq:s.head.toNat≤i:=by
  apply Nat.le_of_not_lt
  intro fx
  apply CG
  rw[eH]
  exact⟨i,by omega,e⟩
 rw[← iz,← e,hs.mG i hi,qE fun m hm=>by have:=hs.n3 m hm;have:=hs.hd;omega]
theorem yQ.start {n:Nat} {s:SR} (hs:fW n s) {j:Nat} (hj:j<s.nc) (hf:∀x∈s.cl j,-x∈s.ll 0):yQ n s j (bY (n+1) false) [] 0 0 (s.ll 0).length 0 j where
 base:=.start _
 hk:=aP _
 hj:=hj
 cf:=fun x hx _=>by rw[da];exact hf x hx
 done:=fun i h1 h2=>by omega
 st:=.inl ⟨rfl,rfl,rfl,hs.PB hj hf⟩
 one:=by omega
end Go.Ab
/- Unit propagation as a closure;what the solver's state says about the formula. -/
namespace Go.Ab
open Go Go.Proofs
inductive pw (F:List (List Int)) (A:Int→Prop):Int→Prop
 |qS {x:Int} (h:A x):pw F A x
 |unit {c:List Int} {x:Int} (hc:c∈F) (hx:x∈c) (h:∀y∈c,y≠x→pw F A (-y)):pw F A x
def so (F:List (List Int)) (A:Int→Prop):Prop:=∃c∈F,∀y∈c,pw F A (-y)
abbrev D7 (c:List Int):Int→Prop:=fun x=> -x∈c
def PJ (F:List (List Int)) (c:List Int):Prop:=so F (D7 c)∨∃x,x∈c∧ -x∈c
abbrev K0:Int→Prop:=fun _=>False
theorem pw.cut {F F':List (List Int)} {A B:Int→Prop} {x:Int} (h:pw F A x) (hF:∀c∈F,c∈F') (hA:∀y,A y→pw F' B y):pw F' B x:=by
 induction h with
 |qS h=>exact hA _ h
 |unit hc hx _ ih=>exact .unit (hF _ hc) hx ih
theorem pw.mono {F F':List (List Int)} {A B:Int→Prop} {x:Int} (h:pw F A x) (hF:∀c∈F,c∈F') (hA:∀y,A y→B y):pw F' B x:=h.cut hF fun y hy=> .qS (hA y hy)
theorem pw.more {F:List (List Int)} {A:Int→Prop} {x:Int} (h:pw F K0 x):pw F A x:=h.mono (fun _ h=>h) fun _ h=>h.elim
theorem so.cut {F F':List (List Int)} {A B:Int→Prop} (h:so F A) (hF:∀c∈F,c∈F') (hA:∀y,A y→pw F' B y):so F' B:=by
 obtain⟨c,hc,h⟩:=h
 exact⟨c,hF c hc,fun y hy=>(h y hy).cut hF hA⟩
theorem pw.both {F:List (List Int)} {A:Int→Prop} {x:Int} (h:pw F A x) (h':pw F A (-x)):so F A∨∃y,A y∧A (-y):=by
 have key:∀{c:List Int} {z:Int},c∈F→z∈c→(∀y∈c,y≠z→pw F A (-y))→pw F A (-z)→so F A:=fun {c z} hc hz h hn=>
  ⟨c,hc,fun y hy=>by
   by_cases e:y=z
   ·rw[e];exact hn
   ·exact h y hy e⟩
 cases h with
 |unit hc hx h=>exact .inl (key hc hx h h')
 |qS h=>
  generalize hy: -x=y at h'
  cases h' with
  |qS h2=>subst hy;exact .inr ⟨x,h,h2⟩
  |unit hc hx h2=>subst hy;exact .inl (key hc hx h2 (by rw[dv];exact .qS h))
def j8 (σ:Nat→Bool) (x:Int):Prop:=if x<0 then σ (fm x)=false else σ (fm x)=true
def mO (σ:Nat→Bool) (F:List (List Int)):Prop:=∀c∈F,∃x∈c,j8 σ x
theorem j8.neg {σ:Nat→Bool} {x:Int} (h0:x≠0):j8 σ (-x)↔¬j8 σ x:=by
 unfold j8
 rw[gJ]
 by_cases h:x<0
 ·rw[if_pos h,if_neg aJ];simp
 ·rw[if_neg h,if_pos aJ];simp
theorem pw.sound {F:List (List Int)} {A:Int→Prop} {σ:Nat→Bool} {x:Int} (h:pw F A x) (hF:mO σ F) (h0:∀c∈F,∀x∈c,x≠0) (hA:∀y,A y→j8 σ y):j8 σ x:=by
 induction h with
 |qS h=>exact hA _ h
 | @unit c x hc hx _ ih=>
  obtain⟨y,hy,ht⟩:=hF c hc
  by_cases e:y=x
  ·rw[← e];exact ht
  ·exact absurd ht ((j8.neg (h0 c hc y hy)).1 (ih y hy e))
theorem so.sound {F:List (List Int)} {A:Int→Prop} {σ:Nat→Bool} (h:so F A) (hF:mO σ F) (h0:∀c∈F,∀x∈c,x≠0):¬∀y,A y→j8 σ y:=fun hA=>by
 obtain⟨c,hc,h⟩:=h
 obtain⟨y,hy,ht⟩:=hF c hc
 exact(j8.neg (h0 c hc y hy)).1 ((h y hy).sound hF h0 hA) ht
theorem PJ.sound {F:List (List Int)} {c:List Int} {σ:Nat→Bool} (h:PJ F c) (hF:mO σ F) (h0:∀c∈F,∀x∈c,x≠0) (hc:∀x∈c,x≠0):∃x∈c,j8 σ x:=by
 rcases h with h|⟨x,h1,h2⟩
 ·apply Classical.byContradiction
  intro hn
  refine h.sound hF h0 fun y hy=>?_
  have h3:¬j8 σ (-y):=fun hh=>hn ⟨_,hy,hh⟩
  have h4:=hc _ hy
  apply Classical.byContradiction
  intro h5
  exact h3 ((j8.neg aJ).2 h5)
 ·by_cases h3:j8 σ x
  ·exact⟨x,h1,h3⟩
  ·exact⟨-x,h2,(j8.neg (hc x h1)).2 h3⟩
def uv (F:List (List Int)) (P:List (List Int)):Prop:=∀i (h:i<P.length),PJ (F++P.take i) P[i]
theorem uv.snoc {F P:List (List Int)} {c:List Int} (h:uv F P) (hc:PJ (F++P) c):uv F (P++ [c]):=fun i hi=>by
 simp only[bV,dC] at hi
 by_cases e:i<P.length
 ·rw[dY e,cR aJ];exact h i e
 ·obtain rfl:i=P.length:=by omega
  rw[dZ (aP _),cR (aP _),da]
  simpa using hc
theorem uv.sound {F P:List (List Int)} {σ:Nat→Bool} (h:uv F P) (hF:mO σ F) (h0:∀c∈F++P,∀x∈c,x≠0):mO σ (F++P):=by
 have key:∀i,i≤P.length→mO σ (F++P.take i):=by
  intro i
  induction i with
  |zero=>intro _;simpa using hF
  |succ i ih=>
   intro hi
   have hP:=ih (by omega)
   have h1:∀c∈F++P.take i,∀x∈c,x≠0:=fun c hc=>h0 c (by
    rcases bW.1 hc with hc|hc
    ·exact bW.2 (.inl hc)
    ·exact bW.2 (.inr (cS hc)))
   have:=(h i aJ).sound hP h1 (h0 _ (bW.2 (.inr (cZ _))))
   rw[dp aJ,← dV]
   intro c hc
   rcases bW.1 hc with hc|hc
   ·exact hP c hc
   ·rw[cp.1 hc];exact this
 have:=key P.length (aP _)
 rwa [da] at this
structure Sem (n:Nat) (F:List (List Int)) (s:SR):Prop where
 lits:∀c∈F++s.proof,∀x∈c,Lit n x
 cls:∀j,j<s.nc→∃C∈F++s.proof,(∀x∈s.cl j,x∈C)∧∀x∈C,x∈s.cl j∨pw (F++s.proof) K0 (-x)
 pH:∀x∈s.ll 0,fi s x=0→pw (F++s.proof) K0 x
 bad:s.broken=true→so (F++s.proof) K0
 uh:uv F s.proof
 rep:∀C∈F,s.broken=true∨(∃x∈C,x∈s.ll 0∧fi s x=0)∨(∃x∈C,-x∈C)∨∃j,j<s.nc∧∀x∈s.cl j,x∈C
section
variable {n:Nat} {F:List (List Int)} {s:SR}
theorem Sem.unit (h:Sem n F s) {A:Int→Prop} {j:Nat} (hj:j<s.nc) {x:Int} (hx:x∈s.cl j) (hd:∀y∈s.cl j,y≠x→pw (F++s.proof) A (-y)):pw (F++s.proof) A x:=by
 obtain⟨C,hC,q1,q2⟩:=h.cls j hj
 refine .unit hC (q1 x hx) fun y hy fZ=>?_
 rcases q2 y hy with q|q
 ·exact hd y q fZ
 ·exact q.more
theorem Sem.Ex (h:Sem n F s) {A:Int→Prop} {j:Nat} (hj:j<s.nc) (hd:∀y∈s.cl j,pw (F++s.proof) A (-y)):so (F++s.proof) A:=by
 obtain⟨C,hC,q1,q2⟩:=h.cls j hj
 refine⟨C,hC,fun y hy=>?_⟩
 rcases q2 y hy with q|q
 ·exact hd y q
 ·exact q.more
theorem ss {s t:SR} (hs:fW n s) (ht:fW n t) (hx:uk s t) {x:Int} (h:x∈s.ll 0):fi t x=fi s x:=by
 obtain⟨ys,e⟩:=hx.ll
 obtain⟨i,hi,rfl⟩:=dc h
 have rJ:i<(t.ll 0).length:=by rw[e,bV];omega
 have e2:(t.ll 0)[i]=(s.ll 0)[i]:=by simp only[e,dY hi]
 have h1:=ht.mG i rJ
 rw[e2,hx.marks] at h1
 rw[h1,hs.mG i hi]
theorem Sem.prop {t:SR} {r:Int} (h:Sem n F s) (hs:fW n s) (hp:I4 n s t r):Sem n F t:=by
 have hx:=hp.ext
 have ht:=hp.inv
 have epr:t.proof=s.proof:=hx.proof
 have jq:∀j x,x∈t.cl j↔x∈s.cl j:=fun j x=>(hx.cl j).mem x
 have TS:∀j,j<t.nc→∃C∈F++t.proof,(∀x∈t.cl j,x∈C)∧∀x∈C,x∈t.cl j∨pw (F++t.proof) K0 (-x):=fun j hj=>by
  obtain⟨C,hC,q1,q2⟩:=h.cls j (by rw[← hx.nc];exact hj)
  rw[epr]
  exact⟨C,hC,fun x vo=>q1 x ((jq j x).1 vo),fun x vo=>(q2 x vo).imp (jq j x).2 id⟩
 obtain⟨ys,ell⟩:=hx.ll
 have hold:∀{x},x∈s.ll 0→x∈t.ll 0:=fun hm=>by rw[ell];exact bW.2 (.inl hm)
 refine⟨by rw[epr];exact h.lits,TS,?_,by rw[epr,hx.broken];exact h.bad,by rw[epr];exact h.uh,fun C hC=>?_⟩
 ·have key:∀i (hi:i<(t.ll 0).length),fi t (t.ll 0)[i]=0→pw (F++t.proof) K0 (t.ll 0)[i]:=by
   intro i
   induction i using eI with
   |ind i ih=>
    intro hi hl
    by_cases hm:(t.ll 0)[i]∈s.ll 0
    ·rw[epr];exact h.pH _ hm (by rw[← ss hs ht hx hm];exact hl)
    ·rcases ht.qh i hi with ⟨q,_⟩|⟨j,q1,q2,q3,q4⟩
     ·exact absurd q (hx.new _ (cZ hi) hm)
     ·obtain⟨C,hC,p1,p2⟩:=TS j q1
      refine .unit hC (p1 _ q3) fun y hy fZ=>?_
      rcases p2 y hy with p|p
      ·obtain⟨a,ha,e⟩:=dc (q4 y p fZ)
       simp only[dI] at ha
       rw[eD] at e
       have hle:=ht.Bf (a:=a) (b:=i) aJ hi
       have h0:=(ht.n4 (cZ (show a<(t.ll 0).length by omega))).1
       rw[← e]
       exact ih a aJ aJ (by omega)
      ·exact p
  intro x vo hl
  obtain⟨i,hi,rfl⟩:=dc vo
  exact key i hi hl
 ·rcases h.rep C hC with q|⟨x,q1,q2,q3⟩|q|⟨j,q1,q2⟩
  ·exact .inl (by rw[hx.broken];exact q)
  ·exact .inr (.inl ⟨x,q1,hold q2,by rw[ss hs ht hx q2];exact q3⟩)
  ·exact .inr (.inr (.inl q))
  ·exact .inr (.inr (.inr ⟨j,by rw[hx.nc];exact q1,fun x vo=>q2 x ((jq j x).1 vo)⟩))
theorem Sem.RZ {t:SR} {j:Nat} (h:Sem n F t) (ht:fW n t) (hm:t.marks=[]) (hj:j<t.nc) (hf:∀x∈t.cl j,-x∈t.ll 0):so (F++t.proof) K0:=
 h.Ex hj fun y hy=>h.pH _ (hf y hy) (by
  have:=ht.n4 (hf y hy)
  rw[hm] at this
  simp at this;omega)
theorem sD.XU {j:Nat} {l:List Int} {tz:Int} (h:sD n s j l tz) (hS:Sem n F s) (hs:fW n s) (hj:j<s.nc) (hf:∀x∈s.cl j,-x∈s.ll 0):so (F++s.proof) (D7 l):=by
 obtain⟨sn,d1,d2⟩:=h.der
 have key:∀i (hi:i<(s.ll 0).length),(sn (fm (s.ll 0)[i])∨fi s (s.ll 0)[i]=0)→pw (F++s.proof) (D7 l) (s.ll 0)[i]:=by
  intro i
  induction i using eI with
  |ind i ih=>
   intro hi hc
   rcases hc with hc|hc
   ·rcases d2 i hi hc with q|⟨k,q1,q2,q3⟩
    ·exact .qS q
    ·refine hS.unit q1 q2 fun y hy fZ=>?_
     obtain⟨p1,p2⟩:=q3 y hy fZ
     obtain⟨a,ha,e⟩:=dc p1
     simp only[dI] at ha
     rw[eD] at e
     rw[← e]
     refine ih a aJ aJ ?_
     rw[e,gJ,iz];exact p2
   ·exact(hS.pH _ (cZ hi) hc).more
 refine hS.Ex hj fun y hy=>?_
 obtain⟨i,hi,e⟩:=dc (hf y hy)
 rw[← e]
 refine key i hi ?_
 rw[e,gJ,iz];exact d1 y hy
theorem sD.lits {j:Nat} {l:List Int} {tz:Int} (h:sD n s j l tz) (hs:fW n s):∀x∈l,Lit n x:=by
 obtain⟨a,ha,rest,rfl,_,h2,_⟩:=h.uip
 have neg:∀x,-x∈s.ll 0→Lit n x:=fun x hx=>by
  have:=hs.iK.xz _ hx
  exact⟨by omega,by omega,by omega⟩
 intro x hx
 rcases bu.1 hx with rfl|hx
 ·exact neg _ (by rw[dv];exact cZ ha)
 ·exact neg x (h2 x hx).1
end
end Go.Ab
/- Going back tz a level;a clause attached;a literal pushed:the solver's invariant. -/
namespace Go.Ab
open Go Go.Proofs
theorem vY {M:List Int} (hs:M.Pairwise (·≤·)) {t:Nat} (ht:t<M.length) {i:Int} (hi:i<M[t]):M.countP (fun m=>decide (m≤i))=(M.take t).countP (fun m=>decide (m≤i))∧M.countP (fun m=>decide (m≤i))≤t:=by
 have e:M.countP (fun m=>decide (m≤i))=(M.take t).countP (fun m=>decide (m≤i)):=by
  conv=>lhs;rw[← dz t M,eF]
  have:(M.drop t).countP (fun m=>decide (m≤i))=0:=by
   rw[eA]
   intro m hm
   obtain⟨a,ha,rfl⟩:=dc hm
   rw[cQ] at ha
   rw[List.getElem_drop]
   have:=eJ.1 hs t (t+a) ht (by omega)
   by_cases e:a=0
   ·subst e;simp;omega
   ·have:=this (by omega)
    simp;omega
  omega
 refine⟨e,?_⟩
 rw[e]
 have:=ed (p:=fun m=>decide (m≤i)) (l:=M.take t)
 simp at this;omega
theorem Kt {M:List Int} (hs:M.Pairwise (·≤·)) {t:Nat} (ht:t<M.length) {i:Int} (hi:M[t]≤i):t+1≤M.countP (fun m=>decide (m≤i)):=by
 have h1:(M.take (t+1)).countP (fun m=>decide (m≤i))=(M.take (t+1)).length:=by
  rw[dX]
  intro m hm
  obtain⟨a,ha,rfl⟩:=dc hm
  rw[dI] at ha
  rw[eD]
  by_cases e:a=t
  ·subst e;simpa using hi
  ·have:=eJ.1 hs a t aJ ht (by omega)
   simp;omega
 have h2:(M.take (t+1)).countP (fun m=>decide (m≤i))≤M.countP (fun m=>decide (m≤i)):=(eB _ _).countP_le
 rw[h1,dI] at h2
 omega
theorem fW.l9 {n:Nat} {s:SR} (hs:fW n s) {t:Nat} (ht:t<s.marks.length) {i:Nat} (hi:i<(s.ll 0).length):fi s (s.ll 0)[i]≤t↔i<(s.marks[t]).toNat:=by
 rw[hs.mG i hi]
 have h0:=(hs.n3 _ (cZ ht)).1
 constructor
 ·intro h
  apply eK
  intro Cq
  have:=Kt hs.pB ht (i:=(i:Int)) (by omega)
  omega
 ·intro h
  have:=(vY hs.pB ht (i:=(i:Int)) aJ).2
  omega
abbrev gr (s:SR) (t:Nat):SR:=FQ (FF s t)
theorem fW.sG {n:Nat} {s:SR} (hs:fW n s) {t:Nat} (ht:t<s.marks.length):0≤s.marks[t]∧(s.marks[t]).toNat≤s.head.toNat∧s.head.toNat≤(s.ll 0).length:=by
 have:=hs.n3 _ (cZ ht)
 have:=hs.hd
 omega
theorem mK {n:Nat} {s:SR} (hs:fW n s) {t:Nat} (ht:t<s.marks.length):(gr s t).ll 0=(s.ll 0).take (s.marks[t]).toNat∧(gr s t).head=((s.marks[t]).toNat:Int)∧(gr s t).marks=s.marks.take t:=by
 have e:s.marks.getD t 0=s.marks[t]:=fF ht
 have h2:=hs.sG ht
 refine⟨?_,?_,rfl⟩
 ·show fb s.ll 0 ((s.ll 0).take (s.marks.getD t 0).toNat) 0=_
  rw[e8,e]
 ·show min s.head ((fb s.ll 0 ((s.ll 0).take (s.marks.getD t 0).toNat) 0).length:Int)=_
  have:=hs.hd
  rw[e8,e,dI];omega
theorem Bz (s:SR) (t:Nat) (x:Int):fi (gr s t) x=fi s x:=rfl
theorem fW.JM {n:Nat} {s:SR} (hs:fW n s) {t:Nat} (ht:t<s.marks.length):fW n (gr s t):=by
 obtain⟨e1,e2,e3⟩:=mK hs ht
 obtain⟨h0,h1,h2⟩:=hs.sG ht
 have e:s.marks.getD t 0=s.marks[t]:=fF ht
 have hlen:((s.ll 0).take (s.marks[t]).toNat).length=(s.marks[t]).toNat:=by rw[dI];omega
 exact
  {hn:=hs.hn
   iK:=by rw[e1];exact hs.iK.take _
   val:=by
    rw[e1]
    show zeroV s.value ((s.ll 0).drop (s.marks.getD t 0).toNat)=_
    rw[e,hs.val,Gu hs.iK]
   lvl:=hs.lvl,oG:=hs.oG
   hd:=by rw[e1,e2,hlen];omega
   n3:=fun m hm=>by
    rw[e3] at hm
    rw[e2]
    refine⟨(hs.n3 m (cS hm)).1,?_⟩
    obtain⟨a,ha,rfl⟩:=dc hm
    rw[dI] at ha
    rw[eD]
    have:=eJ.1 hs.pB a t aJ ht (by omega)
    omega
   mG:=fun i hi=>by
    simp only[e1] at hi ⊢
    rw[hlen] at hi
    rw[eD,Bz,hs.mG i aJ,e3,(vY hs.pB ht (i:=(i:Int)) aJ).1]
   cls:=hs.cls,fresh:=hs.fresh,nc:=hs.nc,nw:=hs.nw,wt:=hs.wt,qU:=hs.qU,qX:=hs.qX
   two:=fun j hj w w' hw jb=>by
    rw[e1,e2,dt,eL,Nat.min_self] at jb
    have L9: -w∈(s.ll 0).take s.head.toNat:=(List.take_sublist_take_left h1).subset jb
    obtain⟨q1,q2⟩:=hs.two j hj w w' hw L9
    refine⟨?_,q2⟩
    obtain⟨a,ha,ea⟩:=dc jb
    rw[hlen] at ha
    rw[eD] at ea
    have Rv:fi s w≤t:=by rw[← iz,← ea];exact(hs.l9 ht aJ).2 ha
    obtain⟨b,hb,rfl⟩:=dc q1
    have hbt:=(hs.l9 ht hb).1 (by omega)
    rw[e1,eH]
    exact⟨b,by omega,rfl⟩
   pB:=by rw[e3];exact hs.pB.sublist (eB _ _)
   qh:=fun i hi=>by
    simp only[e1] at hi ⊢
    rw[hlen] at hi
    rw[eD,Bz,eL,ee aJ]
    rcases hs.qh i aJ with ⟨q1,q2⟩|q
    ·refine .inl ⟨q1,q2.imp (fun q=>?_) id⟩
     rw[e3]
     obtain⟨a,ha,ea⟩:=dc q
     have s7:a<t:=by
      apply eK
      intro Cq
      by_cases e4:a=t
      ·subst e4;omega
      ·have:=eJ.1 hs.pB t a ht ha (by omega)
       omega
     rw[eH]
     exact⟨a,by omega,ea⟩
    ·exact .inr q}
theorem Sem.JM {n:Nat} {F:List (List Int)} {s:SR} (h:Sem n F s) (hs:fW n s) {t:Nat} (ht:t<s.marks.length):Sem n F (gr s t):=by
 obtain⟨e1,e2,e3⟩:=mK hs ht
 refine⟨h.lits,h.cls,fun x hx hl=>h.pH x (by rw[e1] at hx;exact cS hx) hl,h.bad,h.uh,fun C hC=>?_⟩
 rcases h.rep C hC with q|⟨x,q1,q2,q3⟩|q|q
 ·exact .inl q
 ·refine .inr (.inl ⟨x,q1,?_,q3⟩)
  obtain⟨i,hi,rfl⟩:=dc q2
  rw[e1,eH]
  have:=(hs.l9 ht hi).1 (by omega)
  exact⟨i,by omega,rfl⟩
 ·exact .inr (.inr (.inl q))
 ·exact .inr (.inr (.inr q))
def ld (s:SR) (c:List Int) (h0 h1 h2:Value):SR:=j_ (j_ {s with nc:=s.nc+1,hc:=fb s.hc s.nc h0,cl:=fb s.cl s.nc c} (c0 c) s.nc h1) (c1 c) s.nc h2
section
variable {n:Nat} {s:SR} {c:List Int} {h0 h1 h2:Value}
theorem Pc (hs:fW n s) (hc:2≤c.length) (jy:c.Nodup) (hl:∀x∈c,Lit n x) {x:Int} (hx:Lit n x):(ld s c h0 h1 h2).wl (eW x).toNat=s.wl (eW x).toNat++(if x=c0 c∨x=c1 c then [(s.nc:Int)] else []):=by
 obtain⟨m0,m1⟩:=j6 hc
 have fZ:c0 c≠c1 c:=fun e=>by
  rw[show c0 c=c[0] from fF aJ,show c1 c=c[1] from fF aJ] at e
  have:=(du jy (h₀:=by omega) (h₁:=by omega)).1 e
  omega
 have jh:∀{y},Lit n y→y≠x→(eW x).toNat≠(eW y).toNat:=fun hy fZ e=>fZ (ie hx hy e).symm
 show fb (fb s.wl (eW (c0 c)).toNat (s.wl (eW (c0 c)).toNat++ [(s.nc:Int)])) (eW (c1 c)).toNat (fb s.wl (eW (c0 c)).toNat (s.wl (eW (c0 c)).toNat++ [(s.nc:Int)]) (eW (c1 c)).toNat++ [(s.nc:Int)]) (eW x).toNat=_
 by_cases e1:x=c1 c
 ·subst e1
  rw[e8,fA _ _ (jh (hl _ m0) fZ),if_pos (.inr rfl)]
 ·rw[fA _ _ (jh (hl _ m1) (Ne.symm e1))]
  by_cases e0:x=c0 c
  ·subst e0
   rw[e8,if_pos (.inl rfl)]
  ·rw[fA _ _ (jh (hl _ m0) (Ne.symm e0)),if_neg (by rintro(h|h)<;>contradiction),bs]
theorem QM (hs:fW n s) (hc:2≤c.length) (jy:c.Nodup) (hl:∀x∈c,Lit n x) (k:Nat):((ld s c h0 h1 h2).wl k).Nodup:=by
 obtain⟨m0,m1⟩:=j6 hc
 have fZ:c0 c≠c1 c:=fun e=>by
  rw[show c0 c=c[0] from fF aJ,show c1 c=c[1] from fF aJ] at e
  have:=(du jy (h₀:=by omega) (h₁:=by omega)).1 e
  omega
 have A8:∀{x},Lit n x→(s.nc:Int)∉s.wl (eW x).toNat:=fun hx hm=>by
  obtain⟨j,hj,e,_⟩:=hs.wt _ hx _ hm
  omega
 have one:∀{x},Lit n x→(s.wl (eW x).toNat++ [(s.nc:Int)]).Nodup:=fun hx=>by
  rw[cm]
  refine⟨hs.qU _,by simp,fun a ha b hb=>?_⟩
  rw[cp.1 hb]
  rintro rfl
  exact A8 hx ha
 show(fb (fb s.wl (eW (c0 c)).toNat (s.wl (eW (c0 c)).toNat++ [(s.nc:Int)])) (eW (c1 c)).toNat (fb s.wl (eW (c0 c)).toNat (s.wl (eW (c0 c)).toNat++ [(s.nc:Int)]) (eW (c1 c)).toNat++ [(s.nc:Int)]) k).Nodup
 by_cases e1:k=(eW (c1 c)).toNat
 ·rw[e1,e8,fA _ _ (fun e=>fZ (ie (hl _ m0) (hl _ m1) e.symm))]
  exact one (hl _ m1)
 ·rw[fA _ _ e1]
  by_cases e0:k=(eW (c0 c)).toNat
  ·rw[e0,e8];exact one (hl _ m0)
  ·rw[fA _ _ e0];exact hs.qU k
theorem fW.UX (hs:fW n s) (hc:2≤c.length) (jy:c.Nodup) (hl:∀x∈c,Lit n x) (yh:s.nc+1≤100000) {t:SR} (e1:t.cl=(ld s c h0 h1 h2).cl) (e2:t.wl=(ld s c h0 h1 h2).wl) (e3:t.nc=s.nc+1) (e4:t.hc=(ld s c h0 h1 h2).hc) (e5:t.nw=s.nw)
  (iK:j1 n (t.ll 0)) (val:t.value=lf n (t.ll 0)) (lvl:t.level.length=n+1) (oG:t.reason.length=n+1) (hd:0≤t.head∧t.head≤((t.ll 0).length:Int)) (n3:∀m∈t.marks,0≤m∧m≤t.head)
  (mG:∀i (h:i<(t.ll 0).length),fi t (t.ll 0)[i]=(t.marks.countP fun m=>decide (m≤(i:Int)):Nat)) (pB:t.marks.Pairwise (·≤·))
  (two:∀j,j<s.nc→∀w w',(w=c0 (s.cl j)∧w'=c1 (s.cl j))∨(w=c1 (s.cl j)∧w'=c0 (s.cl j))→ -w∈(t.ll 0).take t.head.toNat→w'∈t.ll 0∧fi t w'≤fi t w)
  (twoc:∀w w',(w=c0 c∧w'=c1 c)∨(w=c1 c∧w'=c0 c)→ -w∈(t.ll 0).take t.head.toNat→w'∈t.ll 0∧fi t w'≤fi t w)
  (qh:∀i (h:i<(t.ll 0).length),(t.reason.getD (fm (t.ll 0)[i]) 0= -1∧((i:Int)∈t.marks∨fi t (t.ll 0)[i]=0))∨∃j:Nat,j<s.nc+1∧t.reason.getD (fm (t.ll 0)[i]) 0=(j:Int)∧(t.ll 0)[i]∈fb s.cl s.nc c j∧∀y∈fb s.cl s.nc c j,y≠(t.ll 0)[i]→ -y∈(t.ll 0).take i):fW n t:=by
 obtain⟨m0,m1⟩:=j6 hc
 have e1':t.cl=fb s.cl s.nc c:=e1
 have e4':t.hc=fb s.hc s.nc h0:=e4
 have A5:=fun {x:Int} (hx:Lit n x)=>Pc (h0:=h0) (h1:=h1) (h2:=h2) hs hc jy hl hx
 exact
  {hn:=hs.hn,iK:=iK,val:=val,lvl:=lvl,oG:=oG,hd:=hd,n3:=n3,mG:=mG,pB:=pB
   cls:=fun j hj=>by
    rw[e3] at hj
    rw[e1']
    by_cases e:j=s.nc
    ·subst e;rw[e8];exact⟨hc,jy,hl⟩
    ·rw[fA _ _ e];exact hs.cls j (by omega)
   fresh:=fun j hj=>by
    rw[e3] at hj
    rw[e1',e4',fA _ _ aJ,fA _ _ aJ]
    exact hs.fresh j (by omega)
   nc:=by rw[e3];exact yh
   nw:=by rw[e5];exact hs.nw
   wt:=fun x hx e he=>by
    rw[e2,A5 hx,bW] at he
    rw[e1',e3]
    rcases he with he|he
    ·obtain⟨j,hj,q1,q2⟩:=hs.wt x hx e he
     exact⟨j,by omega,q1,by rw[fA _ _ aJ];exact q2⟩
    ·split at he
     ·next tR=>
      refine⟨s.nc,by omega,by simpa using he,?_⟩
      rw[e8]
      exact tR.imp Eq.symm Eq.symm
     ·simp at he
   qU:=fun k=>by rw[e2];exact QM hs hc jy hl k
   qX:=fun j hj=>by
    rw[e3] at hj
    rw[e1',e2]
    by_cases e:j=s.nc
    ·subst e
     rw[e8,A5 (hl _ m0),A5 (hl _ m1),if_pos (.inl rfl),if_pos (.inr rfl)]
     simp
    ·rw[fA _ _ e]
     obtain⟨p1,_,p3⟩:=hs.cls j (by omega)
     obtain⟨n0,n1⟩:=j6 p1
     rw[A5 (p3 _ n0),A5 (p3 _ n1)]
     obtain⟨q1,q2⟩:=hs.qX j (by omega)
     exact⟨bW.2 (.inl q1),bW.2 (.inl q2)⟩
   two:=fun j hj w w' hw jb=>by
    rw[e3] at hj
    rw[e1'] at hw
    by_cases e:j=s.nc
    ·subst e;rw[e8] at hw;exact twoc w w' hw jb
    ·rw[fA _ _ e] at hw;exact two j aJ w w' hw jb
   qh:=fun i hi=>by rw[e1',e3];exact qh i hi}
theorem fW.attach (hs:fW n s) (hc:2≤c.length) (jy:c.Nodup) (hl:∀x∈c,Lit n x) (yh:s.nc+1≤100000) (hf:∀x∈c,-x∉s.ll 0):fW n (ld s c h0 h1 h2):=by
 obtain⟨m0,m1⟩:=j6 hc
 refine hs.UX hc jy hl yh rfl rfl rfl rfl rfl hs.iK hs.val hs.lvl hs.oG hs.hd hs.n3 hs.mG hs.pB hs.two (fun w w' hw jb=>?_) fun i hi=>?_
 ·exfalso
  have:=cS jb
  rcases hw with ⟨rfl,_⟩|⟨rfl,_⟩
  ·exact hf _ m0 this
  ·exact hf _ m1 this
 ·rcases hs.qh i hi with q|⟨j,q1,q2,q3,q4⟩
  ·exact .inl q
  ·exact .inr ⟨j,by omega,q2,by rw[fA _ _ aJ];exact q3,by rw[fA _ _ aJ];exact q4⟩
theorem fW.sP (hs:fW n s) (hc:2≤c.length) (jy:c.Nodup) (hl:∀x∈c,Lit n x) (yh:s.nc+1≤100000) (Yn:c0 c∉s.ll 0) (OH: -(c0 c)∉s.ll 0) (hf:∀x∈c,x≠c0 c→ -x∈s.ll 0) (MN:fi s (c1 c)=s.marks.length) {h:Value}:fW n (fL (ld s c h0 h1 h2) (c0 c) s.nc h):=by
 obtain⟨m0,m1⟩:=j6 hc
 have o9:=hl _ m0
 have fZ:c1 c≠c0 c:=fun e=>by
  rw[show c0 c=c[0] from fF aJ,show c1 c=c[1] from fF aJ] at e
  have:=(du jy (h₀:=by omega) (h₁:=by omega)).1 e
  omega
 have kz:(fL (ld s c h0 h1 h2) (c0 c) s.nc h).ll 0=s.ll 0++ [c0 c]:=jN _ _ _ _
 have hold:∀{y},y∈s.ll 0∨ -y∈s.ll 0→fm y≠fm (c0 c):=fun hy=>oO (n:=n) Yn OH hy
 have pk:∀{y},fm y≠fm (c0 c)→fi (fL (ld s c h0 h1 h2) (c0 c) s.nc h) y=fi s y:=fun hy=>iX (s:=ld s c h0 h1 h2) hy
 have Yv:fi (fL (ld s c h0 h1 h2) (c0 c) s.nc h) (c0 c)=s.marks.length:=by
  have:=jF o9
  unfold fi fL
  simp only
  rw[c8,bG,if_pos rfl,if_pos (by show _<s.level.length;rw[hs.lvl];omega)];rfl
 have s6:∀{y},fm y≠fm (c0 c)→(fL (ld s c h0 h1 h2) (c0 c) s.nc h).reason.getD (fm y) 0=s.reason.getD (fm y) 0:=fun hy=>l5 (s:=ld s c h0 h1 h2) hy
 have Ll:s.head.toNat≤(s.ll 0).length:=by have:=hs.hd;omega
 have OK:∀i (hi:i<((fL (ld s c h0 h1 h2) (c0 c) s.nc h).ll 0).length),(∃kq:i<(s.ll 0).length,((fL (ld s c h0 h1 h2) (c0 c) s.nc h).ll 0)[i]=(s.ll 0)[i])∨(i=(s.ll 0).length∧((fL (ld s c h0 h1 h2) (c0 c) s.nc h).ll 0)[i]=c0 c):=fun i hi=>by
  simp only[kz] at hi ⊢
  have kq:i<(s.ll 0).length+1:=by simpa using hi
  by_cases e:i<(s.ll 0).length
  ·exact .inl ⟨e,dY e⟩
  ·have e2:i=(s.ll 0).length:=by omega
   subst e2
   exact .inr ⟨rfl,by rw[dZ (aP _)];simp⟩
 refine hs.UX hc jy hl yh (h0:=h0) (h1:=h1) (h2:=h2) rfl rfl rfl rfl rfl (by rw[kz];exact hs.iK.push o9 Yn OH) (by rw[kz];show s.value.set _ _=_;rw[hs.val];exact yj o9 Yn OH) (by show(s.level.set _ _).length=_;rw[cM];exact hs.lvl) (by show(s.reason.set _ _).length=_;rw[cM];exact hs.oG)
  (by rw[kz];have:=hs.hd;simp only[bV,dC];exact⟨this.1,by show s.head≤_;omega⟩) hs.n3 (fun i hi=>?_) hs.pB (fun j hj w w' hw jb=>?_) (fun w w' hw jb=>?_) fun i hi=>?_
 ·rcases OK i hi with ⟨kq,e⟩|⟨e1,e⟩
  ·rw[e,pk (hold (.inl (cZ kq)))];exact hs.mG i kq
  ·rw[e,Yv,e1]
   show _=((s.marks.countP _:Nat):Int)
   rw[qE fun m hm=>by have:=hs.n3 m hm;have:=hs.hd;omega]
 ·have jb: -w∈((fL (ld s c h0 h1 h2) (c0 c) s.nc h).ll 0).take s.head.toNat:=jb
  rw[kz,cR Ll] at jb
  obtain⟨q1,q2⟩:=hs.two j hj w w' hw jb
  rw[kz,pk (hold (.inl q1)),pk (hold (.inr (cS jb)))]
  exact⟨bW.2 (.inl q1),q2⟩
 ·have jb: -w∈((fL (ld s c h0 h1 h2) (c0 c) s.nc h).ll 0).take s.head.toNat:=jb
  rw[kz,cR Ll] at jb
  have L9:=cS jb
  rcases hw with ⟨rfl,rfl⟩|⟨rfl,rfl⟩
  ·exact absurd L9 OH
  ·rw[kz,Yv,pk (hold (.inr L9)),MN]
   exact⟨by simp,eM _⟩
 ·rcases OK i hi with ⟨kq,e⟩|⟨e1,e⟩
  ·rw[e,s6 (hold (.inl (cZ kq))),pk (hold (.inl (cZ kq))),kz,cR aJ]
   rcases hs.qh i kq with q|⟨j,q1,q2,q3,q4⟩
   ·exact .inl q
   ·exact .inr ⟨j,by omega,q2,by rw[fA _ _ aJ];exact q3,by rw[fA _ _ aJ];exact q4⟩
  ·right
   refine⟨s.nc,by omega,?_,?_,?_⟩
   ·rw[e]
    have:=jF o9
    unfold fL
    simp only
    rw[c8,bG,if_pos rfl,if_pos (by show _<s.reason.length;rw[hs.oG];omega)];rfl
   ·rw[e,e8];exact m0
   ·rw[e,e1,e8,kz,cR (aP _),da]
    exact hf
end
end Go.Ab
/- The search's invariant:decisions,assumptions,the word that grows with each conflict. -/
namespace Go.Ab
open Go Go.Proofs
def mc (n:Nat) (M:List Int):Nat→Nat
 |0=>0
 |k+1=>mc n M k+(if (k:Int)∈M then 1 else 2)*3 ^ (n - 1 - k)
theorem qp (n:Nat) (M:List Int) (k:Nat):mc n M (k+1)=mc n M k+(if (k:Int)∈M then 1 else 2)*3 ^ (n - 1 - k):=rfl
theorem N1 (n:Nat) (M:List Int) {k:Nat} (hk:k+1≤n):mc n M (k+1)+3 ^ (n - (k+1))≤mc n M k+3 ^ (n - k):=by
 have e:n - k=(n - 1 - k)+1:=by omega
 have e2:n - (k+1)=n - 1 - k:=by omega
 rw[e2,e,Nat.pow_succ,qp]
 split<;>omega
theorem Fk (n:Nat) (M:List Int) {a b:Nat} (r8:a≤b) (hb:b≤n):mc n M b+3 ^ (n - b)≤mc n M a+3 ^ (n - a):=by
 obtain⟨d,rfl⟩:=eN r8
 clear r8
 induction d with
 |zero=>exact aP _
 |succ d ih=>
  have h1:=N1 n M (k:=a+d) hb
  have h2:=ih (by omega)
  rw[← bF]
  omega
theorem M_ (n:Nat) (M:List Int) {k:Nat} (hk:k≤n):mc n M k<3 ^ n:=by
 have:=Fk n M (bk k) hk
 simp only[mc,ba,Nat.sub_zero] at this
 have:0<3 ^ (n - k):=eO (by omega)
 omega
theorem yM (n:Nat) (M:List Int) {a b:Nat} (r8:a≤b):mc n M a≤mc n M b:=by
 obtain⟨d,rfl⟩:=eN r8
 clear r8
 induction d with
 |zero=>exact aP _
 |succ d ih=>rw[← bF,qp];omega
theorem wO (n:Nat) {M M':List Int} {k:Nat} (h:∀i,i<k→((i:Int)∈M↔(i:Int)∈M')):mc n M k=mc n M' k:=by
 induction k with
 |zero=>rfl
 |succ k ih=>
  rw[qp,qp,ih fun i hi=>h i aJ]
  by_cases e:(k:Int)∈M
  ·rw[if_pos e,if_pos ((h k aJ).1 e)]
  ·rw[if_neg e,if_neg (fun q=>e ((h k aJ).2 q))]
theorem IQ {n:Nat} {M:List Int} (hs:M.Pairwise (·≤·)) (h0:∀m∈M,0≤m) {t:Nat} (ht:t<M.length) (fx:t=0∨∀m∈M.take t,m<M[t]) {len:Nat} (hl:(M[t]).toNat≤len) (hn:len≤n) (hmn:(M[t]).toNat+1≤n):mc n M len<mc n (M.take t) ((M[t]).toNat+1):=by
 have Fz:=h0 _ (cZ ht)
 have kB:∀i:Nat,i<(M[t]).toNat→((i:Int)∈M↔(i:Int)∈M.take t):=fun i hi=>by
  refine⟨fun h=>?_,fun h=>cS h⟩
  obtain⟨a,ha,e⟩:=dc h
  have s7:a<t:=by
   apply eK
   intro Cq
   by_cases e4:a=t
   ·subst e4;omega
   ·have:=eJ.1 hs t a ht ha (by omega)
    omega
  rw[eH]
  exact⟨a,by omega,e⟩
 have e1:=wO n kB
 have Gv:¬(((M[t]).toNat:Nat):Int)∈M.take t:=fun h=>by
  rcases fx with rfl|q
  ·simp at h
  ·have:=q _ h;omega
 have e2:mc n (M.take t) ((M[t]).toNat+1)=mc n M (M[t]).toNat+2*3 ^ (n - 1 - (M[t]).toNat):=by
  rw[mc,← e1,if_neg Gv]
 have D4:0<3 ^ (n - 1 - (M[t]).toNat):=eO (by omega)
 by_cases e:(M[t]).toNat=len
 ·rw[← e,e2];omega
 ·have h3:=Fk n M (a:=(M[t]).toNat+1) (b:=len) aJ hn
  have jb:((((M[t]).toNat:Nat):Int))∈M:=by rw[Int.toNat_of_nonneg Fz];exact cZ ht
  have e3:mc n M ((M[t]).toNat+1)=mc n M (M[t]).toNat+1*3 ^ (n - 1 - (M[t]).toNat):=by rw[mc,if_pos jb]
  have e4:n - ((M[t]).toNat+1)=n - 1 - (M[t]).toNat:=by omega
  have:0<3 ^ (n - len):=eO (by omega)
  rw[e3,e4] at h3
  omega
def wy (n:Nat) (s:SR):Prop:=∃k:Nat,s.low=(k:Int)∧1≤k∧k≤n+1∧∀u:Nat,1≤u→u<k→(u:Int)∈s.ll 0∨ -(u:Int)∈s.ll 0
structure SI (n:Nat) (F:List (List Int)) (A:List Int) (P0 N0:Nat) (s:SR) (met:Nat):Prop where
 inv:fW n s
 ka:Sem n F s
 dec:∀m∈s.marks,∀x,(s.ll 0)[m.toNat]? =some x→s.reason.getD (fm x) 0= -1→x∈A∨(A.length:Int)<fi s x∧∃v:Nat,x= -(v:Int)∧∀u:Nat,0<u→u<v→(u:Int)∈(s.ll 0).take m.toNat∨ -(u:Int)∈(s.ll 0).take m.toNat
 qS:∀i,i<s.marks.length→∀x,A[i]? =some x→x∈s.ll 0∧fi s x≤i+1
 plen:s.proof.length=P0+met
 r_:s.nc≤N0+met
 wrd:met≤mc n s.marks (s.ll 0).length
 low:wy n s
section
variable {n:Nat} {F:List (List Int)} {A:List Int} {P0 N0:Nat} {s:SR} {met:Nat}
theorem SI.Jz (h:SI n F A P0 N0 s met):met<3 ^ n:=Nat.lt_of_le_of_lt h.wrd (M_ n _ h.inv.iK.len)
theorem SI.prop {t:SR} {r:Int} (h:SI n F A P0 N0 s met) (hp:I4 n s t r):SI n F A P0 N0 t met:=by
 have hx:=hp.ext
 obtain⟨ys,ell⟩:=hx.ll
 have hold:∀{x},x∈s.ll 0→x∈t.ll 0:=fun hm=>by rw[ell];exact bW.2 (.inl hm)
 exact
  {inv:=hp.inv
   ka:=h.ka.prop h.inv hp
   dec:=fun m hm x vo hr=>by
    rw[hx.marks] at hm
    have ql:=h.inv.n3 m hm
    have hd:=h.inv.hd
    by_cases e:x∈s.ll 0
    ·rw[hx.A8 x e] at hr
     have fx:m.toNat<(s.ll 0).length:=by
      apply eK
      intro Cq
      obtain⟨i,hi,ei⟩:=dc e
      obtain⟨Lf,em⟩:=aW.1 vo
      have e2:(t.ll 0)[i]'(by rw[ell,bV];omega)=x:=by simp only[ell,dY hi,ei]
      have:i=m.toNat:=(du hp.inv.iK.nd (h₀:=by simp [ell];omega) (h₁:=by simpa using Lf)).1 (by rw[dj,dj,e2,em])
      omega
     rw[ell,aT fx] at vo
     rw[ell,cR aJ,ss h.inv hp.inv hx e]
     exact h.dec m hm x vo hr
    ·exact absurd hr (hx.new x (aU vo) e)
   qS:=fun i hi x Un=>by
    rw[hx.marks] at hi
    obtain⟨q1,q2⟩:=h.qS i hi x Un
    exact⟨hold q1,by rw[ss h.inv hp.inv hx q1];exact q2⟩
   plen:=by rw[hx.proof];exact h.plen
   r_:=by rw[hx.nc];exact h.r_
   wrd:=by
    rw[hx.marks,ell,bV]
    exact aQ h.wrd (yM n _ aJ)
   low:=by
    obtain⟨k,q1,q2,q3,q4⟩:=h.low
    exact⟨k,by rw[hx.low];exact q1,q2,q3,fun u h1 h2=>(q4 u h1 h2).imp hold hold⟩}
theorem fW.uh (h:fW n s) (P:List (List Int)):fW n {s with proof:=P}:=
 {hn:=h.hn,iK:=h.iK,val:=h.val,lvl:=h.lvl,oG:=h.oG,hd:=h.hd,n3:=h.n3,mG:=h.mG,cls:=h.cls,fresh:=h.fresh,nc:=h.nc,nw:=h.nw,wt:=h.wt,qU:=h.qU,qX:=h.qX,two:=h.two,pB:=h.pB,qh:=h.qh}
def oV (s:SR) (l:List Int):SR:={s with proof:=s.proof++ [l]}
theorem Sem.more (h:Sem n F s) {l:List Int} (hr:PJ (F++s.proof) l) (hl:∀x∈l,Lit n x):Sem n F (oV s l):=by
 have kB:∀c∈F++s.proof,c∈F++(s.proof++ [l]):=fun c hc=>by
  rcases bW.1 hc with hc|hc
  ·exact bW.2 (.inl hc)
  ·exact bW.2 (.inr (bW.2 (.inl hc)))
 exact
  {lits:=fun c hc=>by
    have hc:c∈F++(s.proof++ [l]):=hc
    rw[← dV] at hc
    rcases bW.1 hc with hc|hc
    ·exact h.lits c hc
    ·rw[cp.1 hc];exact hl
   cls:=fun j hj=>by
    obtain⟨C,hC,q1,q2⟩:=h.cls j hj
    exact⟨C,kB C hC,q1,fun x hx=>(q2 x hx).imp id fun q=>q.mono kB fun _ h=>h⟩
   pH:=fun x hx hl=>(h.pH x hx hl).mono kB fun _ h=>h
   bad:=fun hb=>(h.bad hb).cut kB fun _ h=>h.elim
   uh:=h.uh.snoc hr
   rep:=h.rep}
theorem fW.mark (h:fW n s) (hh:s.head=((s.ll 0).length:Int)):fW n (iq s):=
 {hn:=h.hn,iK:=h.iK,val:=h.val,lvl:=h.lvl,oG:=h.oG,hd:=h.hd
  n3:=fun m hm=>by
   have hm:m∈s.marks++ [((s.ll 0).length:Int)]:=hm
   rcases bW.1 hm with hm|hm
   ·exact h.n3 m hm
   ·rw[cp.1 hm];show _∧_≤s.head;omega
  mG:=fun i hi=>by
   have e:(s.marks++ [((s.ll 0).length:Int)]).countP (fun m=>decide (m≤(i:Int)))=s.marks.countP (fun m=>decide (m≤(i:Int))):=by
    have hi:i<(s.ll 0).length:=hi
    rw[eF]
    have:decide (((s.ll 0).length:Int)≤(i:Int))=false:=by simp;omega
    rw[List.countP_singleton,this];rfl
   show fi s (s.ll 0)[i]=(((s.marks++ [((s.ll 0).length:Int)]).countP _:Nat):Int)
   rw[e];exact h.mG i hi
  cls:=h.cls,fresh:=h.fresh,nc:=h.nc,nw:=h.nw,wt:=h.wt,qU:=h.qU,qX:=h.qX,two:=h.two
  pB:=by
   show(s.marks++ [((s.ll 0).length:Int)]).Pairwise _
   rw[List.pairwise_append]
   exact⟨h.pB,by simp,fun a ha b hb=>by rw[cp.1 hb];have:=h.n3 a ha;have:=h.hd;omega⟩
  qh:=fun i hi=>(h.qh i hi).imp (fun⟨q1,q2⟩=>⟨q1,q2.imp (fun q=>bW.2 (.inl q)) id⟩) id}
theorem yV (n:Nat) (M:List Int) (k:Nat):mc n (M++ [(k:Int)]) k=mc n M k:=by
 refine wO n fun i hi=>?_
 rw[bW,cp]
 constructor
 ·rintro(h|h)
  ·exact h
  ·omega
 ·exact .inl
theorem SI.It (h:SI n F A P0 N0 s met) (hh:s.head=((s.ll 0).length:Int)) (hA:s.marks.length<A.length) (hx:A[s.marks.length]∈s.ll 0):SI n F A P0 N0 (iq s) met where
 inv:=h.inv.mark hh
 ka:=⟨h.ka.lits,h.ka.cls,h.ka.pH,h.ka.bad,h.ka.uh,h.ka.rep⟩
 dec:=fun m hm x vo hr=>by
  have hm:m∈s.marks++ [((s.ll 0).length:Int)]:=hm
  rcases bW.1 hm with hm|hm
  ·exact h.dec m hm x vo hr
  ·rw[cp.1 hm] at vo
   have vo:(s.ll 0)[((s.ll 0).length:Int).toNat]? =some x:=vo
   simp at vo
 qS:=fun i hi x Un=>by
  have hi:i<(s.marks++ [((s.ll 0).length:Int)]).length:=hi
  simp only[bV,dC] at hi
  by_cases e:i<s.marks.length
  ·exact h.qS i e x Un
  ·obtain rfl:i=s.marks.length:=by omega
   rw[a8 hA] at Un
   obtain rfl:A[s.marks.length]=x:=by simpa using Un
   have:=(h.inv.n4 hx).2
   exact⟨hx,by show fi s _≤_;omega⟩
 plen:=h.plen
 r_:=h.r_
 wrd:=by
  show met≤mc n (s.marks++ [((s.ll 0).length:Int)]) (s.ll 0).length
  rw[yV];exact h.wrd
 low:=h.low
theorem SI.K1 (h:SI n F A P0 N0 s met) (hh:s.head=((s.ll 0).length:Int)) {x:Int} (hx:Lit n x) (h1:x∉s.ll 0) (h2: -x∉s.ll 0) (hv:Value) (hA:∀y,A[s.marks.length]? =some y→x=y)
  (hd:x∈A∨A.length≤s.marks.length∧∃v:Nat,x= -(v:Int)∧∀u:Nat,0<u→u<v→(u:Int)∈s.ll 0∨ -(u:Int)∈s.ll 0):SI n F A P0 N0 (fL (iq s) x (-1) hv) met:=by
 have hm:=h.inv.mark hh
 have kz:(fL (iq s) x (-1) hv).ll 0=s.ll 0++ [x]:=jN _ _ _ _
 have hi:=hm.push (r:= -1) hv hx h1 h2 (.inl ⟨rfl,.inl (bW.2 (.inr (by simp [iq])))⟩)
 have hold:∀{y},y∈s.ll 0∨ -y∈s.ll 0→fm y≠fm x:=fun hy=>oO (n:=n) h1 h2 hy
 have pk:∀{y},y∈s.ll 0→fi (fL (iq s) x (-1) hv) y=fi s y:=fun hy=>iX (s:=iq s) (hold (.inl hy))
 have W0:fi (fL (iq s) x (-1) hv) x=(s.marks.length+1:Nat):=by
  rw[mA hm hx];show(((s.marks++ [_]).length:Nat):Int)=_;simp
 have EE:(fL (iq s) x (-1) hv).marks=s.marks++ [((s.ll 0).length:Int)]:=rfl
 exact
  {inv:=hi
   ka:=
    {lits:=h.ka.lits,cls:=h.ka.cls,bad:=h.ka.bad,uh:=h.ka.uh
     pH:=fun y hy hl=>by
      rw[kz] at hy
      rcases bW.1 hy with hy|hy
      ·exact h.ka.pH y hy (by rw[← pk hy];exact hl)
      ·rw[cp.1 hy,W0] at hl;omega
     rep:=fun C hC=>by
      rcases h.ka.rep C hC with q|⟨y,q1,q2,q3⟩|q|q
      ·exact .inl q
      ·exact .inr (.inl ⟨y,q1,by rw[kz];exact bW.2 (.inl q2),by rw[pk q2];exact q3⟩)
      ·exact .inr (.inr (.inl q))
      ·exact .inr (.inr (.inr q))}
   dec:=fun m ql y hy hr=>by
    rw[EE] at ql
    rw[kz] at hy ⊢
    have sL:m.toNat≤(s.ll 0).length:=by
     rcases bW.1 ql with q|q
     ·have:=h.inv.n3 m q;have:=h.inv.hd;omega
     ·rw[cp.1 q];simp
    rw[cR sL]
    by_cases e:m.toNat<(s.ll 0).length
    ·rw[aT e] at hy
     have Ey:=aU hy
     rw[l5 (s:=iq s) (hold (.inl Ey))] at hr
     rw[pk Ey]
     refine h.dec m ?_ y hy hr
     rcases bW.1 ql with q|q
     ·exact q
     ·rw[cp.1 q] at e;simp at e
    ·have e2:m.toNat=(s.ll 0).length:=by omega
     rw[e2,List.getElem?_append_right (aP _)] at hy
     obtain rfl:x=y:=by simpa using hy
     rw[e2,da,W0]
     exact hd.imp id fun⟨q1,q2⟩=>⟨by omega,q2⟩
   qS:=fun i rJ y hy=>by
    rw[EE] at rJ
    simp only[bV,dC] at rJ
    by_cases e:i<s.marks.length
    ·obtain⟨q1,q2⟩:=h.qS i e y hy
     exact⟨by rw[kz];exact bW.2 (.inl q1),by rw[pk q1];exact q2⟩
    ·obtain rfl:i=s.marks.length:=by omega
     rw[← hA y hy,kz,W0]
     exact⟨by simp,by omega⟩
   plen:=h.plen
   r_:=h.r_
   wrd:=by
    rw[EE,kz,bV]
    refine aQ ?_ (yM n _ (Nat.le_add_right _ _))
    rw[yV];exact h.wrd
   low:=by
    obtain⟨k,q1,q2,q3,q4⟩:=h.low
    exact⟨k,q1,q2,q3,fun u h1 h2=>by rw[kz];exact(q4 u h1 h2).imp (fun q=>bW.2 (.inl q)) (fun q=>bW.2 (.inl q))⟩}
end
end Go.Ab
/- The search's invariant:a clause learned. -/
namespace Go.Ab
open Go Go.Proofs
theorem As {l:List Int} {b u:Int}:u<pD b l↔u<b∧∀x∈l,u<max x (-x):=by
 unfold pD
 induction l generalizing b with
 |nil=>simp
 |cons x l ih=>
  rw[List.foldl_cons,ih]
  simp only[bu,forall_eq_or_imp]
  constructor
  ·rintro⟨h1,h2⟩;exact⟨by omega,by omega,h2⟩
  ·rintro⟨h1,h2,h3⟩;exact⟨by omega,h3⟩
section
variable {n:Nat} {F:List (List Int)} {A:List Int} {P0 N0:Nat} {s:SR} {met:Nat}
theorem qY {L:List Int} {m:Nat} {x:Int} (h:x∈L):x∈L.take m∨x∈L.drop m:=by
 rw[← bW,dz];exact h
theorem wy.JM (h:wy n s) (hs:fW n s) {t:Nat} (ht:t<s.marks.length):wy n (gr s t):=by
 obtain⟨k,q1,q2,q3,q4⟩:=h
 obtain⟨e1,_,_⟩:=mK hs ht
 have e:s.marks.getD t 0=s.marks[t]:=fF ht
 have elow:(gr s t).low=pD s.low ((s.ll 0).drop (s.marks[t]).toNat):=by
  show pD s.low ((s.ll 0).drop (s.marks.getD t 0).toNat)=_
  rw[e]
 have D4:0<pD s.low ((s.ll 0).drop (s.marks[t]).toNat):=As.2 ⟨by omega,fun x hx=>by have:=hs.iK.xz x (List.mem_of_mem_drop hx);omega⟩
 have hle:pD s.low ((s.ll 0).drop (s.marks[t]).toNat)≤s.low:=by
  apply eP.1
  intro fx
  have:=(As.1 fx).1
  omega
 refine⟨(pD s.low ((s.ll 0).drop (s.marks[t]).toNat)).toNat,by rw[elow];omega,by omega,by omega,fun u h1 h2=>?_⟩
 have hu:(u:Int)<pD s.low ((s.ll 0).drop (s.marks[t]).toNat):=by omega
 have jy:=(As.1 hu).2
 rw[e1]
 refine(q4 u h1 aJ).imp (fun q=>?_) fun q=>?_
 ·exact(qY q).resolve_right fun hd=>by have:=jy _ hd;omega
 ·exact(qY q).resolve_right fun hd=>by have:=jy _ hd;omega
theorem sD.lvl {j:Nat} {l:List Int} {tz:Int} (h:sD n s j l tz) (hs:fW n s) (hm:0<s.marks.length):0≤tz∧∃ht:tz.toNat<s.marks.length,(tz=0∨∀m∈s.marks.take tz.toNat,m<s.marks[tz.toNat]):=by
 obtain⟨a,ha,rest,_,_,h2,_,h4⟩:=h.uip
 rcases h4 with ⟨rfl,_⟩|⟨x,hx,e⟩
 ·exact⟨by omega,by simpa using hm,.inl rfl⟩
 ·obtain⟨p1,p2,p3,p4⟩:=h2 x hx
  have ht:tz.toNat<s.marks.length:=by omega
  refine⟨by omega,ht,.inr fun m Sq=>?_⟩
  obtain⟨i,hi,ei⟩:=dc p1
  have pk:fi s (s.ll 0)[i]=tz:=by rw[ei,iz];exact e
  have hib:=(hs.l9 ht hi).1 (by omega)
  have hcnt:=hs.mG i hi
  have h0:=(hs.sG ht).1
  obtain⟨q,hq,eq⟩:=dc Sq
  rw[dI] at hq
  rw[eD] at eq
  -- all of the first marks are at or below i
  have iT:m≤(i:Int):=by
   apply eP.1
   intro Zt
   have:=(vY hs.pB (t:=q) aJ (i:=(i:Int)) aJ).2
   omega
  omega
theorem SI.cut (h:SI n F A P0 N0 s met) {j:Nat} {l:List Int} {tz:Int} (ha:sD n s j l tz) (hm:0<s.marks.length) (hj:j<s.nc) (hf:∀x∈s.cl j,-x∈s.ll 0) (pk:∃ht:tz.toNat<s.marks.length,(tz=0∨∀m∈s.marks.take tz.toNat,m<s.marks[tz.toNat])):
  SI n F A (P0+met+1) (N0+met) (oV (gr s tz.toNat) l) 0:=by
 obtain⟨ht,fx⟩:=pk
 have hs:=h.inv
 obtain⟨e1,e2,e3⟩:=mK hs ht
 have WW:=ha.XU h.ka hs hj hf
 have IY:=h.low.JM hs ht
 exact
  {inv:=(hs.JM ht).uh _
   ka:=(h.ka.JM hs ht).more (.inl WW) (ha.lits hs)
   dec:=fun m Sq x hx hr=>by
    have Sq:m∈s.marks.take tz.toNat:=Sq
    have hx:((gr s tz.toNat).ll 0)[m.toNat]? =some x:=hx
    show _∨(A.length:Int)<fi s x∧∃v:Nat,x= -(v:Int)∧∀u:Nat,0<u→u<v→(u:Int)∈((gr s tz.toNat).ll 0).take m.toNat∨ -(u:Int)∈((gr s tz.toNat).ll 0).take m.toNat
    rw[e1] at hx ⊢
    obtain⟨G5,_⟩:=aW.1 hx
    rw[dI] at G5
    rw[List.getElem?_take,if_pos aJ] at hx
    rw[eL,ee aJ]
    exact h.dec m (cS Sq) x hx hr
   qS:=fun i hi x hx=>by
    have hi:i<(s.marks.take tz.toNat).length:=hi
    rw[dI] at hi
    obtain⟨q1,q2⟩:=h.qS i aJ x hx
    refine⟨?_,q2⟩
    show x∈(gr s tz.toNat).ll 0
    rw[e1]
    obtain⟨b,hb,rfl⟩:=dc q1
    have:=(hs.l9 ht hb).1 (by omega)
    rw[eH]
    exact⟨b,by omega,rfl⟩
   plen:=by show(s.proof++ [l]).length=_;rw[bV,h.plen];rfl
   r_:=h.r_
   wrd:=bk _
   low:=IY}
theorem sD.back {j:Nat} {l:List Int} {tz:Int} (ha:sD n s j l tz) (hs:fW n s) (pk:∃ht:tz.toNat<s.marks.length,(tz=0∨∀m∈s.marks.take tz.toNat,m<s.marks[tz.toNat])):
  ∃p rest,l=p::rest∧Lit n p∧p∉(gr s tz.toNat).ll 0∧ -p∉(gr s tz.toNat).ll 0∧l.Nodup∧(∀x∈rest,-x∈(gr s tz.toNat).ll 0∧Lit n x∧0<fi s x∧fi s x≤tz)∧(rest=[]∨∃x∈rest,fi s x=tz)∧(tz=0→rest=[]):=by
 obtain⟨ht,_⟩:=pk
 obtain⟨e1,_,_⟩:=mK hs ht
 have o_:=ha.lits hs
 obtain⟨a,Cg,rest,rfl,h1,h2,h3,h4⟩:=ha.uip
 have XZ:(s.ll 0)[a]∉(s.ll 0).take (s.marks[tz.toNat]).toNat:=fun hm=>by
  obtain⟨b,hb,e⟩:=dc hm
  rw[dI] at hb
  rw[eD] at e
  have:=(hs.l9 ht (i:=b) aJ).2 (by omega)
  rw[e,h1] at this;omega
 refine⟨_,rest,rfl,o_ _ (by simp),fun hm=>?_,by rw[dv,e1];exact XZ,?_,fun x hx=>?_,?_,?_⟩
 ·rw[e1] at hm
  exact hs.iK.nS (cZ Cg) (cS hm)
 ·rw[cX]
  refine⟨fun hm=>?_,?_⟩
  ·have:=(h2 _ hm).2.2.1
   rw[iz,h1] at this;omega
  ·exact List.Pairwise.of_map fm (fun a b r8 e=>r8 (by rw[e])) h3
 ·obtain⟨p1,p2,p3,p4⟩:=h2 x hx
  refine⟨?_,o_ x (by simp [hx]),p2,p4⟩
  obtain⟨i,hi,e⟩:=dc p1
  rw[e1,eH]
  refine⟨i,?_,e⟩
  have:=(hs.l9 ht hi).1 (by rw[e,iz];omega)
  omega
 ·exact h4.imp (fun q=>q.2) id
 ·intro e0
  rcases h4 with ⟨_,q⟩|⟨x,hx,q⟩
  ·exact q
  ·have:=(h2 x hx).2.1;omega
theorem SI.Sk (h:SI n F A P0 N0 s met) {tz:Int} (pk:∃ht:tz.toNat<s.marks.length,(tz=0∨∀m∈s.marks.take tz.toNat,m<s.marks[tz.toNat])) (O1:0≤tz) (hn:((gr s tz.toNat).ll 0).length+1≤n):met+1≤mc n (s.marks.take tz.toNat) (((gr s tz.toNat).ll 0).length+1):=by
 obtain⟨ht,fx⟩:=pk
 have hs:=h.inv
 obtain⟨e1,_,_⟩:=mK hs ht
 obtain⟨h0,h1,h2⟩:=hs.sG ht
 have hlen:((gr s tz.toNat).ll 0).length=(s.marks[tz.toNat]).toNat:=by rw[e1,dI];omega
 rw[hlen] at hn ⊢
 have:=IQ (n:=n) hs.pB (fun m hm=>(hs.n3 m hm).1) ht (fx.imp (fun e=>by omega) id) (len:=(s.ll 0).length) aJ hs.iK.len hn
 have:=h.wrd
 omega
theorem SI.Pk (h:SI n F A P0 N0 s met) {j:Nat} {p:Int} {tz:Int} (ha:sD n s j [p] tz) (hm:0<s.marks.length) (hj:j<s.nc) (hf:∀x∈s.cl j,-x∈s.ll 0) (hv:Value):
  tz=0∧SI n F A P0 N0 (fL (oV (gr s tz.toNat) [p]) p (-1) hv) (met+1):=by
 obtain⟨O1,pk⟩:=ha.lvl h.inv hm
 have hc:=h.cut ha hm hj hf pk
 obtain⟨p',rest,e,b1,b2,b3,b4,b5,b6,b7⟩:=ha.back h.inv pk
 simp only[List.cons.injEq] at e
 obtain⟨rfl,rfl⟩:=e
 have Gh:tz=0:=by
  obtain⟨a,Cg,rest,q1,_,_,_,q4⟩:=ha.uip
  simp only[List.cons.injEq] at q1
  rcases q4 with q|⟨x,hx,_⟩
  ·exact q.1
  ·rw[← q1.2] at hx;simp at hx
 refine⟨Gh,?_⟩
 have EE:(fL (oV (gr s tz.toNat) [p]) p (-1) hv).marks=[]:=by show s.marks.take tz.toNat=[];rw[Gh];rfl
 have kz:(fL (oV (gr s tz.toNat) [p]) p (-1) hv).ll 0=(gr s tz.toNat).ll 0++ [p]:=jN _ _ _ _
 have hinv:=hc.inv.push (r:= -1) hv b1 b2 b3 (.inl ⟨rfl,.inr EE⟩)
 have hold:∀{y},y∈(gr s tz.toNat).ll 0→fm y≠fm p:=fun hy=>oO (n:=n) b2 b3 (.inl hy)
 have hlen:=hinv.iK.len
 rw[kz,bV] at hlen
 exact
  {inv:=hinv
   ka:=
    {lits:=hc.ka.lits,cls:=hc.ka.cls,bad:=hc.ka.bad,uh:=hc.ka.uh
     pH:=fun y hy hl=>by
      rw[kz] at hy
      rcases bW.1 hy with hy|hy
      ·exact hc.ka.pH y hy (by rw[← hl];exact(iX (s:=(oV (gr s tz.toNat) [p])) (hold hy)).symm)
      ·rw[cp.1 hy]
       refine .unit (c:=[p]) ?_ (by simp) fun y hy fZ=>absurd (by simpa using hy) fZ
       show [p]∈F++(s.proof++ [[p]])
       simp
     rep:=fun C hC=>by
      rcases hc.ka.rep C hC with q|⟨y,q1,q2,q3⟩|q|q
      ·exact .inl q
      ·exact .inr (.inl ⟨y,q1,by rw[kz];exact bW.2 (.inl q2),by rw[← q3];exact iX (s:=(oV (gr s tz.toNat) [p])) (hold q2)⟩)
      ·exact .inr (.inr (.inl q))
      ·exact .inr (.inr (.inr q))}
   dec:=fun m ql=>by rw[EE] at ql;simp at ql
   qS:=fun i hi=>by rw[EE] at hi;simp at hi
   plen:=by have:=hc.plen;show(s.proof++ [[p]]).length=_;have:(s.proof++ [[p]]).length=P0+met+1+0:=this;omega
   r_:=by have:=h.r_;show s.nc≤_;omega
   wrd:=by
    have:=h.Sk pk O1 (by simpa using hlen)
    rw[kz,bV]
    exact this
   low:=by
    obtain⟨k,q1,q2,q3,q4⟩:=hc.low
    exact⟨k,q1,q2,q3,fun u h1 h2=>by rw[kz];exact(q4 u h1 h2).imp (fun q=>bW.2 (.inl q)) (fun q=>bW.2 (.inl q))⟩}
theorem SI.QR (h:SI n F A P0 N0 s met) {j:Nat} {l l':List Int} {tz:Int} (ha:sD n s j l tz) (hm:0<s.marks.length) (hj:j<s.nc) (hf:∀x∈s.cl j,-x∈s.ll 0) (h2:2≤l.length) (hp:lC l l') (e0:c0 l'=c0 l) (e1:c1 l'∈l.tail) (nC:∀x∈l.tail,fi s x≤fi s (c1 l')) (yh:s.nc+1≤100000) (h0 h1 h3 hv:Value):
  SI n F A P0 N0 (fL (ld (oV (gr s tz.toNat) l) l' h0 h1 h3) (c0 l') s.nc hv) (met+1):=by
 obtain⟨O1,pk⟩:=ha.lvl h.inv hm
 have hc:=h.cut ha hm hj hf pk
 have o_:=ha.lits h.inv
 obtain⟨p,rest,rfl,b1,b2,b3,b4,b5,b6,b7⟩:=ha.back h.inv pk
 obtain⟨ht,fx⟩:=pk
 have De:c0 (p::rest)=p:=rfl
 rw[De] at e0
 have fZ:rest≠ []:=fun e=>by rw[e] at h2;simp at h2
 have Th:fi s (c1 l')=tz:=by
  rcases b6 with q|⟨x,hx,q⟩
  ·exact absurd q fZ
  ·have:=nC x hx
   have:=(b5 _ e1).2.2.2
   omega
 have Gh:tz≠0:=fun e=>fZ (b7 e)
 have Tq:(gr s tz.toNat).marks.length=tz.toNat:=by show(s.marks.take tz.toNat).length=_;rw[dI];omega
 have vG:∀x∈l',x≠p→ -x∈(gr s tz.toNat).ll 0:=fun x hx Rx=>by
  rcases bu.1 ((hp.mem x).1 hx) with q|q
  ·exact absurd q Rx
  ·exact(b5 x q).1
 have hinv:fW n (fL (ld (oV (gr s tz.toNat) (p::rest)) l' h0 h1 h3) (c0 l') s.nc hv):=hc.inv.sP (c:=l') (h0:=h0) (h1:=h1) (h2:=h3) (h:=hv) (by rw[hp.len];exact h2) (hp.nd b4) (fun x hx=>o_ x ((hp.mem x).1 hx)) yh (by rw[e0];exact b2) (by rw[e0];exact b3) (fun x hx Rx=>vG x hx (by rw[← e0];exact Rx)) (by
  show fi s (c1 l')=((gr s tz.toNat).marks.length:Int)
  rw[Th,Tq];omega)
 rw[e0] at hinv ⊢
 have kz:(fL (ld (oV (gr s tz.toNat) (p::rest)) l' h0 h1 h3) p s.nc hv).ll 0=(gr s tz.toNat).ll 0++ [p]:=jN _ _ _ _
 have hold:∀{y},y∈(gr s tz.toNat).ll 0→fm y≠fm p:=fun hy=>oO (n:=n) b2 b3 (.inl hy)
 have NF:∀{y},y∈(gr s tz.toNat).ll 0→fi (fL (ld (oV (gr s tz.toNat) (p::rest)) l' h0 h1 h3) p s.nc hv) y=fi s y:=fun hy=>iX (s:=ld (oV (gr s tz.toNat) (p::rest)) l' h0 h1 h3) (hold hy)
 have Uv:fi (fL (ld (oV (gr s tz.toNat) (p::rest)) l' h0 h1 h3) p s.nc hv) p=(tz.toNat:Nat):=by
  have:=jF b1
  have h5:(fm p)<s.level.length:=by rw[h.inv.lvl];omega
  unfold fi fL
  simp only
  rw[c8,bG,if_pos rfl,if_pos (by exact h5)]
  show(((s.marks.take tz.toNat).length:Nat):Int)=_
  rw[dI];simp;omega
 have hlen:=hinv.iK.len
 rw[kz,bV] at hlen
 exact
  {inv:=hinv
   ka:=
    {lits:=hc.ka.lits
     cls:=fun k hk=>by
      have hk:k<s.nc+1:=hk
      show ∃C∈F++(s.proof++ [p::rest]),(∀x∈fb s.cl s.nc l' k,x∈C)∧∀x∈C,x∈fb s.cl s.nc l' k∨pw (F++(s.proof++ [p::rest])) K0 (-x)
      by_cases e:k=s.nc
      ·subst e
       rw[e8]
       exact⟨p::rest,by simp,fun x hx=>(hp.mem x).1 hx,fun x hx=> .inl ((hp.mem x).2 hx)⟩
      ·rw[fA _ _ e]
       exact hc.ka.cls k (by show k<s.nc;omega)
     bad:=hc.ka.bad,uh:=hc.ka.uh
     pH:=fun y hy hl=>by
      rw[kz] at hy
      rcases bW.1 hy with hy|hy
      ·exact hc.ka.pH y hy ((NF hy).symm.trans hl)
      ·rw[cp.1 hy,Uv] at hl;omega
     rep:=fun C hC=>by
      rcases hc.ka.rep C hC with q|⟨y,q1,q2,q3⟩|q|⟨k,q1,q2⟩
      ·exact .inl q
      ·exact .inr (.inl ⟨y,q1,by rw[kz];exact bW.2 (.inl q2),(NF q2).trans q3⟩)
      ·exact .inr (.inr (.inl q))
      ·have q1:k<s.nc:=q1
       refine .inr (.inr (.inr ⟨k,by show k<s.nc+1;omega,fun x hx=>q2 x ?_⟩))
       have hx:x∈fb s.cl s.nc l' k:=hx
       rwa [fA _ _ aJ] at hx}
   dec:=fun m ql y hy hr=>by
    have ql:m∈s.marks.take tz.toNat:=ql
    have DG:m<s.marks[tz.toNat]:=(fx.resolve_left Gh) m ql
    obtain⟨q1,q2,q3⟩:=h.inv.sG ht
    have Fz:=(h.inv.n3 m (cS ql)).1
    have YY:((gr s tz.toNat).ll 0).length=(s.marks[tz.toNat]).toNat:=by rw[(mK h.inv ht).1,dI];omega
    rw[kz] at hy ⊢
    rw[aT aJ] at hy
    rw[cR aJ]
    rw[l5 (s:=ld (oV (gr s tz.toNat) (p::rest)) l' h0 h1 h3) (hold (aU hy))] at hr
    rw[NF (aU hy)]
    exact hc.dec m ql y hy hr
   qS:=fun i hi y hy=>by
    obtain⟨q1,q2⟩:=hc.qS i hi y hy
    exact⟨by rw[kz];exact bW.2 (.inl q1),by rw[NF q1];exact q2⟩
   plen:=by show(s.proof++ [p::rest]).length=_;have:(s.proof++ [p::rest]).length=P0+met+1+0:=hc.plen;omega
   r_:=by have:=h.r_;show s.nc+1≤_;omega
   wrd:=by
    have:=h.Sk ⟨ht,fx⟩ O1 (by simpa using hlen)
    rw[kz,bV]
    exact this
   low:=by
    obtain⟨k,q1,q2,q3,q4⟩:=hc.low
    exact⟨k,q1,q2,q3,fun u h1 h2=>by rw[kz];exact(q4 u h1 h2).imp (fun q=>bW.2 (.inl q)) (fun q=>bW.2 (.inl q))⟩}
end
end Go.Ab
/- What the search gives:the least assignment,or the assumptions that are tz blame. -/
namespace Go.Ab
open Go Go.Proofs
section
variable {n:Nat} {F:List (List Int)} {A:List Int} {P0 N0:Nat} {s:SR} {met:Nat}
theorem Sem.nz (h:Sem n F s):∀c∈F++s.proof,∀x∈c,x≠0:=fun c hc x hx=>(h.lits c hc x hx).1
theorem Sem.Yk (h:Sem n F s) {σ:Nat→Bool} (hσ:mO σ F):mO σ (F++s.proof):=h.uh.sound hσ h.nz
theorem EB (hs:fW n s) (h:Sem n F s) {σ:Nat→Bool} (hσ:mO σ F) {p:Nat} (hd:∀i (hi:i<(s.ll 0).length),i≤p→(i:Int)∈s.marks→s.reason.getD (fm (s.ll 0)[i]) 0= -1→j8 σ (s.ll 0)[i]):∀i (hi:i<(s.ll 0).length),i≤p→j8 σ (s.ll 0)[i]:=by
 have hP:=h.Yk hσ
 intro i
 induction i using eI with
 |ind i ih=>
  intro hi Zb
  rcases hs.qh i hi with ⟨q1,q2|q2⟩|⟨j,q1,q2,q3,q4⟩
  ·exact hd i hi Zb q2 q1
  ·exact(h.pH _ (cZ hi) q2).sound hP h.nz fun _ h=>h.elim
  ·obtain⟨C,hC,p1,p2⟩:=h.cls j q1
   obtain⟨y,hy,ht⟩:=hP C hC
   have Ql:=h.nz C hC y hy
   rcases p2 y hy with WU|wY
   ·by_cases e:y=(s.ll 0)[i]
    ·rw[← e];exact ht
    ·obtain⟨a,ha,e2⟩:=dc (q4 y WU e)
     rw[dI] at ha
     rw[eD] at e2
     have:=ih a aJ aJ (by omega)
     rw[e2] at this
     exact absurd ht ((j8.neg Ql).1 this)
   ·exact absurd ht ((j8.neg Ql).1 (wY.sound hP h.nz fun _ h=>h.elim))
def pG (L:List Int) (v:Nat):Bool:=decide ((v:Int)∈L)
theorem Fi {x:Int} (h:0<x):x=(fm x:Int):=by unfold fm;omega
theorem wx {x:Int} (h:x<0):x= -(fm x:Int):=by unfold fm;omega
theorem pT {L:List Int} (ht:j1 n L) (hf:∀v:Nat,1≤v→v≤n→(v:Int)∈L∨ -(v:Int)∈L) {x:Int} (hx:Lit n x):j8 (pG L) x↔x∈L:=by
 have hv:=jF hx
 unfold j8 pG
 by_cases h:x<0
 ·rw[if_pos h,decide_eq_false_iff_not]
  have e:=wx h
  constructor
  ·intro h1
   rw[e];exact(hf _ hv.1 hv.2).resolve_left h1
  ·intro h1 h2
   rw[e] at h1
   exact ht.nS h2 h1
 ·rw[if_neg h,decide_eq_true_iff]
  have e:=Fi (x:=x) (by obtain⟨_,_,_⟩:=hx;omega)
  rw[← e]
structure yd (n:Nat) (F:List (List Int)) (A:List Int) (L:List Int):Prop where
 iK:j1 n L
 full:∀v:Nat,1≤v→v≤n→(v:Int)∈L∨ -(v:Int)∈L
 sat:mO (pG L) F
 qS:∀x∈A,x∈L
 min:∀σ,mO σ F→(∀x∈A,j8 σ x)→∀v:Nat,1≤v→v≤n→(∀u:Nat,1≤u→u<v→σ u=pG L u)→pG L v=true→σ v=true
theorem SI.sat (h:SI n F A P0 N0 s met) (hb:s.broken=false) (hh:s.head=((s.ll 0).length:Int)) (hA:A.length≤s.marks.length) (hf:∀v:Nat,1≤v→v≤n→(v:Int)∈s.ll 0∨ -(v:Int)∈s.ll 0):yd n F A (s.ll 0):=by
 have hs:=h.inv
 have OO:∀c∈F,∀x∈c,Lit n x:=fun c hc=>h.ka.lits c (bW.2 (.inl hc))
 have fx:=fun {x:Int} (hx:Lit n x)=>pT hs.iK hf hx
 refine⟨hs.iK,hf,fun C hC=>?_,fun x hx=>?_,fun σ hσ hσA v h1 h2 IY hv=>?_⟩
 ·rcases h.ka.rep C hC with q|⟨x,q1,q2,_⟩|⟨x,q1,q2⟩|⟨j,q1,q2⟩
  ·rw[hb] at q;cases q
  ·exact⟨x,q1,(fx (OO C hC x q1)).2 q2⟩
  ·by_cases e:j8 (pG (s.ll 0)) x
   ·exact⟨x,q1,e⟩
   ·exact⟨-x,q2,(j8.neg (OO C hC x q1).1).2 e⟩
  ·obtain⟨p1,_,p3⟩:=hs.cls j q1
   obtain⟨m0,m1⟩:=j6 p1
   have s9:=p3 _ m0
   by_cases e:c0 (s.cl j)∈s.ll 0
   ·exact⟨_,q2 _ m0,(fx s9).2 e⟩
   ·have Ap: -(c0 (s.cl j))∈s.ll 0:=by
     have hv:=jF s9
     have:=hf _ hv.1 hv.2
     by_cases hn:c0 (s.cl j)<0
     ·rw[← wx hn] at this
      rcases this with q|q
      ·rw[wx hn,dv];exact q
      ·exact absurd q e
     ·have e2:=Fi (x:=c0 (s.cl j)) (by obtain⟨_,_,_⟩:=s9;omega)
      rw[← e2] at this
      exact this.resolve_left e
    have:=(hs.two j q1 _ _ (.inl ⟨rfl,rfl⟩) (by rw[hh,dt,da];exact Ap)).1
    exact⟨_,q2 _ m1,(fx (p3 _ m1)).2 this⟩
 ·obtain⟨i,hi,e⟩:=dc hx
  exact(h.qS i aJ x (by rw[← e];exact a8 hi)).1
 ·have YW:(v:Int)∈s.ll 0:=by unfold pG at hv;simpa using hv
  obtain⟨p,hp,ep⟩:=dc YW
  have:=EB hs h.ka hσ (p:=p) (fun i hi Zb hm hr=>by
   rcases h.dec _ hm _ (a8 hi) hr with q|⟨_,u,q1,q2⟩
   ·exact hσA _ q
   ·have SL:=hs.iK.xz _ (cZ hi)
    have hup:0<u:=by omega
    have huv:¬v<u:=fun hvu=>by
     have Gv:∀y∈(s.ll 0).take i,fm y≠v:=fun y hy e=>by
      obtain⟨a,ha,e2⟩:=dc hy
      rw[dI] at ha
      rw[eD] at e2
      have:a=p:=(du hs.iK.nd (h₀:=by simp;omega) (h₁:=by simpa using hp)).1 (by rw[dj,dj,e2,ep,e];unfold fm;omega)
      omega
     rw[dt] at q2
     rcases q2 v h1 hvu with q|q
     ·exact Gv _ q (by unfold fm;omega)
     ·exact Gv _ q (by unfold fm;omega)
    have fZ:u≠v:=fun e=>by
     subst e
     exact hs.iK.nS YW (by rw[← q1];exact cZ hi)
    have huL: -(u:Int)∈s.ll 0:=by rw[← q1];exact cZ hi
    have hσu:=IY u hup (by omega)
    have:pG (s.ll 0) u=false:=by
     unfold pG
     rw[decide_eq_false_iff_not]
     exact fun q=>hs.iK.nS q huL
    rw[q1]
    unfold j8
    rw[if_pos aJ,gJ,show fm (u:Int)=u by unfold fm;omega,hσu,this]) p hp (aP _)
  rw[ep] at this
  unfold j8 at this
  rw[if_neg aJ,show fm (v:Int)=v by unfold fm;omega] at this
  exact this
structure EW (n:Nat) (s:SR) (x:Int) (sl:List Bool) (ds:List Int) (k:Nat):Prop where
 len:sl.length=n+1
 sx:sl.getD (fm x) false=true
 mem:∀y∈ds,∃q,∃h:q<(s.ll 0).length,k≤q∧(s.ll 0)[q]=y∧s.reason.getD (fm y) 0= -1∧fi s y≠0
 nd:ds.Nodup
 done:∀q (h:q<(s.ll 0).length),k≤q→sl.getD (fm (s.ll 0)[q]) false=true→fi s (s.ll 0)[q]=0∨(s.ll 0)[q]∈ds∨∃j,j<s.nc∧(s.ll 0)[q]∈s.cl j∧∀y∈s.cl j,y≠(s.ll 0)[q]→ -y∈(s.ll 0).take q∧sl.getD (fm y) false=true
structure DP (n:Nat) (s:SR) (x:Int) (core:List Int):Prop where
 eq:∃ds,core=x::ds∧(∀y∈ds,y∈s.ll 0∧s.reason.getD (fm y) 0= -1∧fi s y≠0)∧ds.Nodup∧∃sn:Nat→Prop,sn (fm x)∧∀q (h:q<(s.ll 0).length),sn (fm (s.ll 0)[q])→fi s (s.ll 0)[q]=0∨(s.ll 0)[q]∈ds∨∃j,j<s.nc∧(s.ll 0)[q]∈s.cl j∧∀y∈s.cl j,y≠(s.ll 0)[q]→ -y∈(s.ll 0).take q∧sn (fm y)
variable {x:Int} {sl:List Bool} {ds:List Int} {k:Nat}
theorem EW.start (hs:fW n s) (hx:Lit n x):EW n s x ((bY (n+1) false).set (fm x) true) [] (s.ll 0).length where
 len:=by simp
 sx:=by rw[m_ _ _ (by have:=jF hx;simp;omega),if_pos rfl]
 mem:=fun y hy=>by simp at hy
 nd:=by simp
 done:=fun q h1 h2=>by omega
theorem EW.skip (h:EW n s x sl ds (k+1)) (hk:k<(s.ll 0).length) (hc:sl.getD (fm (s.ll 0)[k]) false=false∨fi s (s.ll 0)[k]=0):EW n s x sl ds k:=
 {len:=h.len,sx:=h.sx,nd:=h.nd
  mem:=fun y hy=>by obtain⟨q,p1,p2,p3⟩:=h.mem y hy;exact⟨q,p1,by omega,p3⟩
  done:=fun q h1 h2 h3=>by
   by_cases e:q=k
   ·subst e
    rcases hc with hc|hc
    ·rw[hc] at h3;cases h3
    ·exact .inl hc
   ·exact h.done q h1 aJ h3}
theorem EW.dec (h:EW n s x sl ds (k+1)) (hs:fW n s) (hk:k<(s.ll 0).length) (hl:fi s (s.ll 0)[k]≠0) (hr:s.reason.getD (fm (s.ll 0)[k]) 0= -1):EW n s x sl (ds++ [(s.ll 0)[k]]) k:=
 {len:=h.len,sx:=h.sx
  nd:=by
   rw[cm]
   refine⟨h.nd,by simp,fun a ha b hb=>?_⟩
   rw[cp.1 hb]
   rintro rfl
   obtain⟨q,p1,p2,p3,_⟩:=h.mem _ ha
   have:q=k:=(du hs.iK.nd (h₀:=by simpa using p1) (h₁:=by simpa using hk)).1 (by rw[dj,dj,p3])
   omega
  mem:=fun y hy=>by
   rcases bW.1 hy with hy|hy
   ·obtain⟨q,p1,p2,p3⟩:=h.mem y hy;exact⟨q,p1,by omega,p3⟩
   ·rw[cp.1 hy];exact⟨k,hk,aP _,rfl,hr,hl⟩
  done:=fun q h1 h2 h3=>by
   by_cases e:q=k
   ·subst e;exact .inr (.inl (by simp))
   ·exact(h.done q h1 aJ h3).imp id (Or.imp (fun p=>bW.2 (.inl p)) id)}
structure DU (n:Nat) (s:SR) (sl0:List Bool) (j:Nat) (sl:List Bool) (i:Nat):Prop where
 hi:i≤(s.cl j).length
 len:sl.length=n+1
 ge:∀v,sl0.getD v false=true→sl.getD v false=true
 le:∀v,sl.getD v false=true→sl0.getD v false=true∨∃y∈s.cl j,fm y=v
 row:∀y∈(s.cl j).take i,sl.getD (fm y) false=true
theorem DU.start {sl0:List Bool} {j:Nat} (h:sl0.length=n+1):DU n s sl0 j sl0 0:=⟨bk _,h,fun _ h=>h,fun _ h=> .inl h,fun y hy=>by simp at hy⟩
theorem DU.next {sl0:List Bool} {j i:Nat} (h:DU n s sl0 j sl i) (hi:i<(s.cl j).length) (hv:fm (s.cl j)[i]<n+1):DU n s sl0 j (sl.set (fm (s.cl j)[i]) true) (i+1):=by
 have hg:=m_ sl (fm (s.cl j)[i]) (by rw[h.len];exact hv)
 refine⟨hi,by rw[cM];exact h.len,fun v hv=>?_,fun v hv=>?_,fun y hy=>?_⟩
 ·exact qy (by rw[h.len];exact ‹fm (s.cl j)[i]<n+1›) (h.ge v hv)
 ·rw[hg] at hv
  split at hv
  ·next e=>exact .inr ⟨_,cZ hi,e.symm⟩
  ·exact h.le v hv
 ·rw[hg]
  split
  ·rfl
  ·next e=>
   rw[dp hi,bW,cp] at hy
   rcases hy with hy|rfl
   ·exact h.row y hy
   ·exact absurd rfl e
theorem EW.row {j:Nat} {sl':List Bool} (h:EW n s x sl ds (k+1)) (hs:fW n s) (hk:k<(s.ll 0).length) (hj:j<s.nc) (hm:(s.ll 0)[k]∈s.cl j) (hf:∀y∈s.cl j,y≠(s.ll 0)[k]→ -y∈(s.ll 0).take k) (hr:DU n s sl j sl' (s.cl j).length):EW n s x sl' ds k:=
 {len:=hr.len,sx:=hr.ge _ h.sx,nd:=h.nd
  mem:=fun y hy=>by obtain⟨q,p1,p2,p3⟩:=h.mem y hy;exact⟨q,p1,by omega,p3⟩
  done:=fun q h1 h2 h3=>by
   have gC:∀y∈s.cl j,sl'.getD (fm y) false=true:=fun y hy=>hr.row y (by rw[da];exact hy)
   by_cases e:q=k
   ·subst e
    exact .inr (.inr ⟨j,hj,hm,fun y hy fZ=>⟨hf y hy fZ,gC y hy⟩⟩)
   ·have h4:sl.getD (fm (s.ll 0)[q]) false=true:=by
     rcases hr.le _ h3 with p|⟨y,hy,ey⟩
     ·exact p
     ·exfalso
      by_cases e2:y=(s.ll 0)[k]
      ·subst e2
       have:k=q:=(du hs.iK.nd (h₀:=by simpa using hk) (h₁:=by simpa using h1)).1 (by rw[dj,dj,ey])
       omega
      ·obtain⟨a,ha,e3⟩:=dc (hf y hy e2)
       rw[dI] at ha
       rw[eD] at e3
       have:a=q:=(du hs.iK.nd (h₀:=by simp;omega) (h₁:=by simpa using h1)).1 (by rw[dj,dj,e3,gJ,ey])
       omega
    rcases h.done q h1 aJ h4 with p|p|⟨j',p1,p2,p3⟩
    ·exact .inl p
    ·exact .inr (.inl p)
    ·exact .inr (.inr ⟨j',p1,p2,fun y hy fZ=>⟨(p3 y hy fZ).1,hr.ge _ (p3 y hy fZ).2⟩⟩)}
theorem EW.out (h:EW n s x sl ds 0):DP n s x (x::ds):=
 ⟨ds,rfl,fun y hy=>by obtain⟨q,p1,_,p3,p4⟩:=h.mem y hy;exact⟨by rw[← p3];exact cZ p1,p4⟩,h.nd,fun v=>sl.getD v false=true,h.sx,fun q hq q6=>h.done q hq (bk _) q6⟩
theorem DP.XU {core:List Int} (h:DP n s x core) (hS:Sem n F s) (hx: -x∈s.ll 0):PJ (F++s.proof) (core.map fun y=> -y):=by
 obtain⟨ds,rfl,_,_,sn,h1,h2⟩:=h.eq
 have hA:∀y,y∈x::ds→D7 ((x::ds).map fun y=> -y) y:=fun y hy=>bw.2 ⟨y,hy,rfl⟩
 have key:∀i (hi:i<(s.ll 0).length),sn (fm (s.ll 0)[i])→pw (F++s.proof) (D7 ((x::ds).map fun y=> -y)) (s.ll 0)[i]:=by
  intro i
  induction i using eI with
  |ind i ih=>
   intro hi q6
   rcases h2 i hi q6 with q|q|⟨j,q1,q2,q3⟩
   ·exact(hS.pH _ (cZ hi) q).more
   ·exact .qS (hA _ (eu _ q))
   ·refine hS.unit q1 q2 fun y hy fZ=>?_
    obtain⟨p1,p2⟩:=q3 y hy fZ
    obtain⟨a,ha,e⟩:=dc p1
    rw[dI] at ha
    rw[eD] at e
    rw[← e]
    refine ih a aJ aJ ?_
    rw[e,gJ];exact p2
 obtain⟨i,hi,e⟩:=dc hx
 have hd:=key i hi (by rw[e,gJ];exact h1)
 rw[e] at hd
 rcases pw.both (.qS (hA x ef)) hd with q|⟨y,q1,q2⟩
 ·exact .inl q
 ·refine .inr ⟨-y,q1,?_⟩
  exact q2
theorem DP.core {core:List Int} (h:DP n s x core) (hI:SI n F A P0 N0 s met) (hm:s.marks.length<A.length) (ND:x∈A) (hx: -x∈s.ll 0):(∀y∈core,y∈A)∧core.Nodup∧∀y∈core,Lit n y:=by
 obtain⟨ds,rfl,h1,h2,_⟩:=h.eq
 have hs:=hI.inv
 have UM:∀y∈ds,y∈A:=fun y hy=>by
  obtain⟨q1,q2,q3⟩:=h1 y hy
  obtain⟨i,hi,rfl⟩:=dc q1
  rcases hs.qh i hi with ⟨_,p|p⟩|⟨j,_,p,_⟩
  ·rcases hI.dec _ p _ (a8 hi) q2 with r|⟨r,_⟩
   ·exact r
   ·have:=(hs.n4 q1).2;omega
  ·exact absurd p q3
  ·omega
 have uP:Lit n x:=by have:=hs.iK.xz _ hx;exact⟨by omega,by omega,by omega⟩
 refine⟨fun y hy=>?_,?_,fun y hy=>?_⟩
 ·rcases bu.1 hy with rfl|hy
  ·exact ND
  ·exact UM y hy
 ·rw[cX]
  refine⟨fun hm=>?_,h2⟩
  exact hs.iK.nS (h1 x hm).1 hx
 ·rcases bu.1 hy with rfl|hy
  ·exact uP
  ·exact hs.iK.xz y (h1 y hy).1
end
end Go.Ab
/- A clause added tz the solver,in plain terms. -/
namespace Go.Ab
open Go Go.Proofs
structure l_ (n:Nat) (F:List (List Int)) (k:Nat) (s:SR):Prop where
 inv:fW n s
 ka:Sem n F s
 low:wy n s
 marks:s.marks=[]
 proof:s.proof=[]
 added:s.added=(k:Int)
 r_:s.nc≤k
structure pb (s:SR) (c:List Int) (l:List Int) (i:Nat):Prop where
 hi:i≤c.length
 nd:l.Nodup
 sub:∀x∈l,x∈c∧x∉s.ll 0∧ -x∉s.ll 0
 cov:∀x∈c.take i,x∈l∨ -x∈s.ll 0
section
variable {n:Nat} {F:List (List Int)} {k:Nat} {s:SR} {c l:List Int} {i:Nat}
theorem pb.start:pb s c [] 0:=⟨bk _,by simp,fun x hx=>by simp at hx,fun x hx=>by simp at hx⟩
theorem pb.skip (h:pb s c l i) (hi:i<c.length) (hc:c[i]∈l∨ -c[i]∈s.ll 0):pb s c l (i+1):=
 ⟨hi,h.nd,h.sub,fun x hx=>by
  rw[dp hi,bW,cp] at hx
  rcases hx with hx|rfl
  ·exact h.cov x hx
  ·exact hc⟩
theorem pb.add (h:pb s c l i) (hi:i<c.length) (h1:c[i]∉l) (h2:c[i]∉s.ll 0) (h3: -c[i]∉s.ll 0):pb s c (l++ [c[i]]) (i+1):=
 ⟨hi,by
  rw[cm]
  exact⟨h.nd,by simp,fun a ha b hb=>by rw[cp.1 hb];rintro rfl;exact h1 ha⟩,fun x hx=>by
  rcases bW.1 hx with hx|hx
  ·exact h.sub x hx
  ·rw[cp.1 hx];exact⟨cZ hi,h2,h3⟩,fun x hx=>by
  rw[dp hi,bW,cp] at hx
  rcases hx with hx|rfl
  ·exact(h.cov x hx).imp (fun q=>bW.2 (.inl q)) id
  ·exact .inl (by simp)⟩
theorem l_.mG (h:l_ n F k s) {x:Int} (hx:x∈s.ll 0):fi s x=0:=by
 have:=h.inv.n4 hx
 rw[h.marks] at this
 simp at this;omega
theorem fW.LD (h:fW n s) (a:Int) (b:Bool):fW n {s with added:=a,broken:=b}:=
 {hn:=h.hn,iK:=h.iK,val:=h.val,lvl:=h.lvl,oG:=h.oG,hd:=h.hd,n3:=h.n3,mG:=h.mG,cls:=h.cls,fresh:=h.fresh,nc:=h.nc,nw:=h.nw,wt:=h.wt,qU:=h.qU,qX:=h.qX,two:=h.two,pB:=h.pB,qh:=h.qh}
theorem l_.Mo (h:l_ n F k s) (hc:∀x∈c,Lit n x) {t:SR} (hp:t.proof=[])
  (cls:∀j,j<t.nc→(j<s.nc∧t.cl j=s.cl j)∨((∀x∈t.cl j,x∈c)∧∀x∈c,x∈t.cl j∨ -x∈s.ll 0))
  (ll:∀x∈t.ll 0,x∈s.ll 0∨(x∈c∧∀y∈c,y≠x→ -y∈s.ll 0)) (kz:∀x∈s.ll 0,x∈t.ll 0) (bad:t.broken=true→s.broken=true∨∀x∈c,-x∈s.ll 0) (Xk:s.broken=true→t.broken=true)
  (hold:∀j,j<s.nc→j<t.nc∧t.cl j=s.cl j) (mG:∀x∈t.ll 0,fi t x=0) (rep:t.broken=true∨(∃x∈c,x∈t.ll 0)∨(∃x∈c,-x∈c)∨∃j,j<t.nc∧∀x∈t.cl j,x∈c):Sem n (F++ [c]) t:=by
 have e0:F++s.proof=F:=by rw[h.proof,bs]
 have e1:F++ [c]++t.proof=F++ [c]:=by rw[hp,bs]
 have kB:∀d∈F,d∈F++ [c]:=fun d hd=>bW.2 (.inl hd)
 have MP:∀{x},x∈s.ll 0→pw (F++ [c]) K0 x:=fun hx=>(h.ka.pH _ hx (h.mG hx)).mono (by rw[e0];exact kB) fun _ h=>h
 have o_:=h.ka.lits
 rw[e0] at o_
 refine⟨?_,?_,?_,?_,?_,?_⟩
 ·rw[e1]
  intro d hd
  rcases bW.1 hd with hd|hd
  ·exact o_ d hd
  ·rw[cp.1 hd];exact hc
 ·rw[e1]
  intro j hj
  rcases cls j hj with ⟨q1,q2⟩|⟨q1,q2⟩
  ·obtain⟨C,hC,p1,p2⟩:=h.ka.cls j q1
   rw[e0] at hC p2
   rw[q2]
   exact⟨C,kB C hC,p1,fun x hx=>(p2 x hx).imp id fun q=>q.mono kB fun _ h=>h⟩
  ·exact⟨c,by simp,q1,fun x hx=>(q2 x hx).imp id MP⟩
 ·rw[e1]
  intro x hx _
  rcases ll x hx with q|⟨q1,q2⟩
  ·exact MP q
  ·exact .unit (c:=c) (by simp) q1 fun y hy fZ=>MP (q2 y hy fZ)
 ·rw[e1]
  intro hb
  rcases bad hb with q|q
  ·exact(h.ka.bad q).cut (by rw[e0];exact kB) fun _ h=>h.elim
  ·exact⟨c,by simp,fun y hy=>MP (q y hy)⟩
 ·intro j hj;rw[hp] at hj;simp at hj
 ·intro C hC
  rcases bW.1 hC with hC|hC
  ·rcases h.ka.rep C hC with q|⟨x,q1,q2,_⟩|q|⟨j,q1,q2⟩
   ·exact .inl (Xk q)
   ·exact .inr (.inl ⟨x,q1,kz x q2,mG x (kz x q2)⟩)
   ·exact .inr (.inr (.inl q))
   ·obtain⟨p1,p2⟩:=hold j q1
    exact .inr (.inr (.inr ⟨j,p1,by rw[p2];exact q2⟩))
  ·rw[cp.1 hC]
   rcases rep with q|⟨x,q1,q2⟩|q|q
   ·exact .inl q
   ·exact .inr (.inl ⟨x,q1,q2,mG x q2⟩)
   ·exact .inr (.inr (.inl q))
   ·exact .inr (.inr (.inr q))
theorem l_.R0 (h:l_ n F k s) (hc:∀x∈c,Lit n x) (ht:(∃x∈c,-x∈c)∨∃x∈c,x∈s.ll 0):l_ n (F++ [c]) (k+1) {s with added:=s.added+1} where
 inv:=h.inv.LD _ _
 ka:=h.Mo hc (t:={s with added:=s.added+1}) h.proof (fun j hj=> .inl ⟨hj,rfl⟩) (fun x hx=> .inl hx) (fun x hx=>hx) .inl id (fun j hj=>⟨hj,rfl⟩) (fun x hx=>h.mG hx) (.inr (ht.elim (fun q=> .inr (.inl q)) fun q=> .inl q))
 low:=h.low
 marks:=h.marks
 proof:=h.proof
 added:=by show s.added+1=_;rw[h.added];rfl
 r_:=by have:=h.r_;show s.nc≤_;omega
theorem l_.empty (h:l_ n F k s) (hc:∀x∈c,Lit n x) (ha:pb s c [] c.length):l_ n (F++ [c]) (k+1) {s with added:=s.added+1,broken:=true} where
 inv:=h.inv.LD _ _
 ka:=h.Mo hc (t:={s with added:=s.added+1,broken:=true}) h.proof (fun j hj=> .inl ⟨hj,rfl⟩) (fun x hx=> .inl hx) (fun x hx=>hx) (fun _=> .inr fun x hx=>(ha.cov x (by rw[da];exact hx)).resolve_left (by simp)) (fun _=>rfl) (fun j hj=>⟨hj,rfl⟩) (fun x hx=>h.mG hx) (.inl rfl)
 low:=h.low
 marks:=h.marks
 proof:=h.proof
 added:=by show s.added+1=_;rw[h.added];rfl
 r_:=by have:=h.r_;show s.nc≤_;omega
theorem l_.unit (h:l_ n F k s) (hc:∀x∈c,Lit n x) {x:Int} (ha:pb s c [x] c.length) (hv:Value):l_ n (F++ [c]) (k+1) (fL {s with added:=s.added+1} x (-1) hv):=by
 obtain⟨q1,q2,q3⟩:=ha.sub x (by simp)
 have kz:(fL {s with added:=s.added+1} x (-1) hv).ll 0=s.ll 0++ [x]:=jN _ _ _ _
 have hinv:=(h.inv.LD (s.added+1) s.broken).push (r:= -1) hv (hc x q1) q2 q3 (.inl ⟨rfl,.inr h.marks⟩)
 have MN:∀y∈(fL {s with added:=s.added+1} x (-1) hv).ll 0,fi (fL {s with added:=s.added+1} x (-1) hv) y=0:=fun y hy=>by
  have:=hinv.n4 hy
  rw[show(fL {s with added:=s.added+1} x (-1) hv).marks=[] from h.marks] at this
  simp at this;omega
 exact
  {inv:=hinv
   ka:=h.Mo hc h.proof (fun j hj=> .inl ⟨hj,rfl⟩) (fun y hy=>by
    rw[kz] at hy
    rcases bW.1 hy with hy|hy
    ·exact .inl hy
    ·rw[cp.1 hy]
     exact .inr ⟨q1,fun z hz fZ=>(ha.cov z (by rw[da];exact hz)).resolve_left (by simpa using fZ)⟩) (fun y hy=>by rw[kz];exact bW.2 (.inl hy)) .inl id (fun j hj=>⟨hj,rfl⟩) MN (.inr (.inl ⟨x,q1,by rw[kz];simp⟩))
   low:=by
    obtain⟨m,p1,p2,p3,p4⟩:=h.low
    exact⟨m,p1,p2,p3,fun u h1 h2=>by rw[kz];exact(p4 u h1 h2).imp (fun q=>bW.2 (.inl q)) (fun q=>bW.2 (.inl q))⟩
   marks:=h.marks
   proof:=h.proof
   added:=by show s.added+1=_;rw[h.added];rfl
   r_:=by have:=h.r_;show s.nc≤_;omega}
theorem l_.UX (h:l_ n F k s) (hc:∀x∈c,Lit n x) (hk:k<60000) (ha:pb s c l c.length) (h2:2≤l.length) (h0 h1 h3:Value):l_ n (F++ [c]) (k+1) (ld {s with added:=s.added+1} l h0 h1 h3):=by
 have hncl:=h.r_
 have o9:∀x∈l,Lit n x:=fun x hx=>hc x (ha.sub x hx).1
 exact
  {inv:=(h.inv.LD (s.added+1) s.broken).attach h2 ha.nd o9 (by show s.nc+1≤_;omega) fun x hx=>(ha.sub x hx).2.2
   ka:=h.Mo hc h.proof (fun j hj=>by
    have hj:j<s.nc+1:=hj
    show(j<s.nc∧fb s.cl s.nc l j=s.cl j)∨((∀x∈fb s.cl s.nc l j,x∈c)∧∀x∈c,x∈fb s.cl s.nc l j∨ -x∈s.ll 0)
    by_cases e:j=s.nc
    ·subst e
     rw[e8]
     exact .inr ⟨fun x hx=>(ha.sub x hx).1,fun x hx=>ha.cov x (by rw[da];exact hx)⟩
    ·have e:¬j=s.nc:=e
     exact .inl ⟨by omega,fA _ _ e⟩) (fun x hx=> .inl hx) (fun x hx=>hx) .inl id (fun j hj=>⟨by show j<s.nc+1;omega,fA _ _ (by show j≠s.nc;omega)⟩) (fun x hx=>h.mG hx) (.inr (.inr (.inr ⟨s.nc,by show s.nc<s.nc+1;omega,by show ∀x∈fb s.cl s.nc l s.nc,x∈c;rw[e8];exact fun x hx=>(ha.sub x hx).1⟩)))
   low:=h.low
   marks:=h.marks
   proof:=h.proof
   added:=by show s.added+1=_;rw[h.added];rfl
   r_:=by show s.nc+1≤_;omega}
theorem l_.si (h:l_ n F k s) (A:List Int):SI n F A 0 k s 0 where
 inv:=h.inv
 ka:=h.ka
 dec:=fun m hm=>by rw[h.marks] at hm;simp at hm
 qS:=fun i hi=>by rw[h.marks] at hi;simp at hi
 plen:=by rw[h.proof];rfl
 r_:=h.r_
 wrd:=bk _
 low:=h.low
def lF (n:Nat):SR:=⟨bY (n+1) 0,bY (n+1) 0,bY (n+1) 0,[],1,0,0,false,fun _=> .slice none 0 0,fun _=>[],0,fun _=> .slice none 0 0,fun _=>[],2*n+2,fun _=> .slice none 0 0,fun _=>[],[],[],[]⟩
theorem EP (hn:n≤20000):l_ n [] 0 (lF n) where
 inv:=
  {hn:=hn
   iK:=⟨fun x hx=>by simp [lF] at hx,by simp [lF]⟩
   val:=by
    show bY (n+1) 0=lf n []
    apply List.ext_getElem (by simp [lf])
    intro i _ _
    simp [lf]
   lvl:=by simp [lF]
   oG:=by simp [lF]
   hd:=⟨eM _,eM _⟩
   n3:=fun m hm=>by simp [lF] at hm
   mG:=fun i hi=>by simp [lF] at hi
   cls:=fun j hj=>by simp [lF] at hj
   fresh:=fun j _=>⟨rfl,rfl⟩
   nc:=by simp [lF]
   nw:=rfl
   wt:=fun x _ e he=>by simp [lF] at he
   qU:=fun k=>by simp [lF]
   qX:=fun j hj=>by simp [lF] at hj
   two:=fun j hj=>by simp [lF] at hj
   pB:=by simp [lF]
   qh:=fun i hi=>by simp [lF] at hi}
 ka:=⟨fun c hc=>by simp [lF] at hc,fun j hj=>by simp [lF] at hj,fun x hx=>by simp [lF] at hx,fun hb=>by simp [lF] at hb,fun i hi=>by simp [lF] at hi,fun C hC=>by simp at hC⟩
 low:=⟨1,rfl,by omega,by omega,fun u h1 h2=>by omega⟩
 marks:=rfl
 proof:=rfl
 added:=rfl
 r_:=aP _
end
end Go.Ab
/- The solver:the assumptions tz blame;the end of a search,walked. -/
namespace Go.Ab
open Go Go.Proofs
open Nat (reduceAdd reduceSub)
set_option maxRecDepth 20000
set_option maxHeartbeats 4000000
theorem tg {l:List Bool} {n:Nat} (h:n<l.length):l.getD n false=l[n]:=by simp [c8,h]
theorem Jc (l:List Bool) (i:Nat):(l.map oI).set i [PV.lit (.bool true)]=(l.set i true).map oI:=by
 rw[List.map_set];rfl
theorem Tp (n:Nat):bY n [PV.lit (.bool false)]=(bY n false).map oI:=by
 rw[List.map_replicate];rfl
attribute [local irreducible] gC AW a_ ga ft AR fB fp fG fU jw lA
theorem Jm (s:SR) (core:List Int) (hl:core.length≤100000) (hb:∀x∈core,-1000000≤x∧x≤1000000) (hp:s.proof.length≤1000000):mg Tryz.prog 53 11 (hX s) [.ptr 0 0,.pv (jX core)] (hX {s with core:=core,proof:=s.proof++ [core.map fun y=> -y]}) (e7 2):=by
 simp only[hX,hZ]
 refine mg.enter (n:=30) Tryz.func53 rfl rfl rfl rfl rfl (by decide) rfl rfl fun g fE fD=>?_;refine qz ?_
 (refine zq ?_;refine kh ?_;refine uX ?_;refine zm ?_;refine a_.fe rfl rfl rfl ?_;refine a_.b_ 94 9 14 rfl rfl rfl rfl ?_;(with_reducible apply a_.gv);(iterate 5 exact rfl);exact ag;(iterate 3 exact rfl);(with_reducible assumption);refine J0 ?_;refine lz ?_;refine zm ?_;refine zn ?_;refine a_.rq rfl rfl rfl rfl rfl rfl rfl rfl aJ ?_;refine J0 ?_;refine sH ?_;refine zo ?_;refine mj ?_;refine nj ?_)
 (refine J0 ?_;apply AW.gP [16,15,4,0,1000] [11,0,1,2,3,4,5,6,7,8,9,10] (fun k:Nat=>([(5,.own 11 3 1 (((core.take k).map fun y=> -y).map encI)),(17,e7 k)]:List (Nat×AV))) (fun k:Nat=>([]:List (Nat×Option Ob))) (fun k:Nat=>k≤core.length) (fun k:Nat=>core.length - k) (0);(conv=>lhs;simp only[Nf.n7,Nf.all,di,reduceAdd,reduceSub]);(all_goals skip))
 ·exact bk _
 ·exact fy rfl (by(refine aC ?_;(iterate 6 refine aC ?_);exact trivial)) (by(refine aF ?_;refine⟨.box _ rfl ?_,?_⟩;(iterate 15 refine aC ?_);exact trivial;(iterate 3 refine aF ?_);refine⟨.ff rfl (by first|with_reducible rfl|(with_reducible rfl)),?_⟩;(iterate 2 refine aF ?_);refine⟨.ff rfl (by first|with_reducible rfl|(with_reducible rfl)),?_⟩;refine aF ?_;refine⟨.ff rfl (by first|with_reducible rfl|(with_reducible rfl)),?_⟩;refine aF ?_;exact trivial)) rfl
 rintro k hk
 by_cases fx:k<core.length
 ·obtain⟨b1,b2⟩:=hb _ (cZ fx)
  have e:((core.take (k+1)).map fun y=> -y).map encI=((core.take k).map fun y=> -y).map encI++ [[PV.lit (.int .i64 (-core[k]))]]:=by
   rw[dp fx,cU,cU];rfl
  (refine zq ?_;refine pW ?_;refine J5 ?_;refine jB ?_;refine aA ?_;refine zr ?_;refine kh ?_;refine qJ ?_;refine xY ?_;refine a_.neg rfl rfl rfl aJ ?_;(with_reducible apply a_.nK);(iterate 5 exact rfl);exact ag;exact rfl;exact rfl;refine J0 ?_;(with_reducible apply a_.fJ);exact rfl;exact ah;(iterate 9 exact rfl);exact aa;refine J0 ?_;refine BK ?_;refine rC ?_)
  exact⟨k+1,by omega,by omega,fy rfl (by(refine⟨.fj (by first|rfl|exact e.symm) rfl,?_⟩;(iterate 2 refine⟨.fh (by first|rfl|exact e.symm),?_⟩);refine⟨.ia (by first|rfl|exact e.symm),?_⟩;refine⟨.fh (by first|rfl|exact e.symm),?_⟩;(iterate 2 refine aC ?_);exact trivial)) (by(refine aF ?_;refine⟨.box _ rfl ?_,?_⟩;(iterate 3 refine⟨.fj (by first|rfl|exact e.symm) rfl,?_⟩);refine⟨.fh (by first|rfl|exact e.symm),?_⟩;refine⟨.fj (by first|rfl|exact e.symm) rfl,?_⟩;refine⟨.fh (by first|rfl|exact e.symm),?_⟩;(iterate 2 refine⟨.fj (by first|rfl|exact e.symm) rfl,?_⟩);(iterate 3 refine⟨.fh (by first|rfl|exact e.symm),?_⟩);refine⟨.fj (by first|rfl|exact e.symm) rfl,?_⟩;refine⟨.fh (by first|rfl|exact e.symm),?_⟩;(iterate 2 refine⟨.ia (by first|rfl|exact e.symm),?_⟩);exact trivial;(iterate 3 refine aF ?_);refine⟨.ff rfl (by first|rfl|exact e.symm),?_⟩;(iterate 2 refine aF ?_);refine⟨.ff rfl (by first|rfl|exact e.symm),?_⟩;refine aF ?_;refine⟨.ff rfl (by first|rfl|exact e.symm),?_⟩;refine aF ?_;exact trivial)) rfl⟩
 ·obtain rfl:k=core.length:=by omega
  rw[da]
  have nq:=GB {s with core:=core} (core.map fun y=> -y) (by rw[a6];omega) hp
  simp only[hX,hZ] at nq
  (refine uB ?_;refine uX ?_;refine a_.gg rfl rfl rfl ?_;refine a_.M9 rfl rfl ?_;refine J0 ?_;refine zX (nq) ?_;refine kA ?_;refine lz ?_;refine kH ?_)
  (apply hY;((exact gn.one (.tmp rfl rfl)));((exact Bb));((exact J2));exact rfl)
theorem Ji (n:Nat) (s:SR) (hs:fW n s) (x:Int) (hx: -x∈s.ll 0):uo Tryz.prog 56 11 (hX s) [.ptr 0 0,e7 x] (fun core:List Int=>DP n s x core) (fun _=>hX s) (fun core=> .pv (jX core)):=by
 have rU:=hs.hn
 have kz:=hs.iK.len
 have yh:=hs.nc
 have UZ:=hs.oG
 have PY:=hs.lvl
 have uP:=hs.iK.xz _ hx
 have C6:s.value.length=n+1:=by rw[hs.val,ki]
 have Ry:0≤max x (-x):=by omega
 have xJ:(max x (-x)).toNat<n+1:=by omega
 have Rq:(max x (-x)).toNat<(bY (n+1) false).length:=by rw[List.length_replicate];exact xJ
 have jc:=EW.start hs (x:=x) ⟨by omega,by omega,by omega⟩
 unfold fm at jc
 have QQ:bY ((s.value.length:Nat):Int).toNat [PV.lit (.bool false)]=(bY (n+1) false).map oI:=by rw[dt,C6];exact Tp (n+1)
 have mB:=Jc (bY (n+1) false) (max x (-x)).toNat
 simp only[hX,hZ]
 refine uo.enter (n:=106) Tryz.func56 rfl rfl rfl rfl rfl (by decide) rfl (fun _=>rfl) fun g fE fD=>?_;refine qz ?_
 (refine zq ?_;refine sM ?_;refine Qu ?_;refine Rg ?_;refine J0 ?_;refine sH ?_;(with_reducible apply AW.wJ 2);(rw[QQ]);refine wN ?_;refine JZ ?_;refine s8 ?_;(with_reducible apply a_.gA);(iterate 4 exact rfl);exact ag;(iterate 3 exact rfl);refine J0 ?_;refine lz ?_;refine zm ?_;(with_reducible apply a_.nK);(iterate 5 exact rfl);exact ag;exact rfl;exact rfl;refine J0 ?_;refine sH ?_;refine zo ?_;refine jB ?_;refine Eb ?_;refine Gk ?_;refine DV ?_;refine AW.block ?_)
 (refine J0 ?_;apply AW.gP [4,0,1000] [12,11,0,1,2,3,4,5,6,7,8,9,10] (fun q:List Bool×List Int×Nat=>([(5,.own 11 4 1 (q.1.map oI)),(6,.own 12 3 1 ((x::q.2.1).map encI)),(7,e7 ((q.2.2:Int) - 1))]:List (Nat×AV))) (fun q:List Bool×List Int×Nat=>([]:List (Nat×Option Ob))) (fun q:List Bool×List Int×Nat=>(EW n s x q.1 q.2.1 q.2.2∧q.2.2≤(s.ll 0).length)) (fun q:List Bool×List Int×Nat=>q.2.2) (((bY (n+1) false).set (max x (-x)).toNat true,([]:List Int),(s.ll 0).length));(conv=>lhs;simp only[Nf.n7,Nf.all,di,reduceAdd,reduceSub]);(all_goals skip))
 ·exact⟨jc,aP _⟩
 ·exact fy rfl (by(refine⟨.fj (by first|rfl|exact mB) rfl,?_⟩;refine⟨.fj (by first|rfl|exact mB) rfl,?_⟩;(iterate 2 refine⟨.fh (by first|rfl|exact mB),?_⟩);(iterate 2 refine aC ?_);exact trivial)) (by(refine aF ?_;refine aF ?_;refine⟨.box _ rfl ?_,?_⟩;(iterate 3 refine⟨.fj (by first|rfl|exact mB) rfl,?_⟩);refine⟨.fh (by first|rfl|exact mB),?_⟩;refine⟨.fj (by first|rfl|exact mB) rfl,?_⟩;refine⟨.fh (by first|rfl|exact mB),?_⟩;(iterate 2 refine⟨.fj (by first|rfl|exact mB) rfl,?_⟩);(iterate 3 refine⟨.fh (by first|rfl|exact mB),?_⟩);refine⟨.fj (by first|rfl|exact mB) rfl,?_⟩;refine⟨.fh (by first|rfl|exact mB),?_⟩;(iterate 2 refine⟨.ia (by first|rfl|exact mB),?_⟩);exact trivial;(iterate 3 refine aF ?_);refine⟨.ff rfl (by first|rfl|exact mB),?_⟩;(iterate 2 refine aF ?_);refine⟨.ff rfl (by first|rfl|exact mB),?_⟩;refine aF ?_;refine⟨.ff rfl (by first|rfl|exact mB),?_⟩;refine aF ?_;exact trivial)) rfl
 rintro⟨sl,ds,k⟩ ⟨hB,hk⟩
 simp only at hB hk
 have H7:=hB.len
 cases k with
 |zero=>
  have lQ:=hB.out
  (refine zo ?_;refine mj ?_;refine a_.geq rfl rfl rfl rfl rfl ?_;refine zd ?_;refine AW.jV rfl rfl ?_;refine H8 ?_;refine wN ?_;refine tE ?_)
  (apply gS ((x::ds:List Int)) (lQ);((exact gn.one (.tmp rfl rfl)));((refine⟨.z6 rfl (by first|with_reducible rfl|(rfl)),?_⟩;exact vw));((exact J2));exact rfl)
 |succ k=>
  have ek:((k+1:Nat):Int) - 1=(k:Int):=by omega
  have Ha:(k:Int).toNat<(s.ll 0).length:=by omega
  have Jq:k<(s.ll 0).length:=by omega
  obtain⟨y,hy⟩:∃y,y=(s.ll 0)[(k:Int).toNat]:=⟨_,rfl⟩
  have Ey:(s.ll 0)[k]=y:=hy.symm
  have xu:=hs.iK.xz _ (cZ Ha)
  rw[← hy] at xu
  have JI:0≤max y (-y):=by omega
  have NX:(max y (-y)).toNat<n+1:=by omega
  have Dd:(max y (-y)).toNat<sl.length:=by omega
  have yD:(max y (-y)).toNat<s.level.length:=by omega
  have V5:(max y (-y)).toNat<s.reason.length:=by omega
  have Lg:sl.getD (fm y) false=sl[(max y (-y)).toNat]:=tg Dd
  have LK:fi s y=s.level[(max y (-y)).toNat]:=fF yD
  have XX:s.reason.getD (fm y) 0=s.reason[(max y (-y)).toNat]:=fF V5
  have W5:=hs.n4 (cZ Ha)
  rw[← hy,LK] at W5
  rw[ek]
  cases q6:sl[(max y (-y)).toNat] with
  |false=>
   have Ra:(!sl[(max y (-y)).toNat])=true:=by rw[q6];rfl
   have ri:=hB.skip Jq (.inl (by rw[Ey,Lg];exact q6))
   (refine MH ?_;(with_reducible apply a_.fa 4);(iterate 8 exact rfl);exact ab;exact ab;refine aw ?_;refine kh ?_;(with_reducible apply AW.wJ 8);(rw[← hy]);refine LB ?_;refine au ?_;refine a_.not rfl rfl rfl ?_;refine zm ?_;refine RM ?_;refine J0 ?_;refine zm ?_;refine DV ?_)
   exact Zk
  |true=>
   have Ra:(!sl[(max y (-y)).toNat])=false:=by rw[q6];rfl
   by_cases s9:s.level[(max y (-y)).toNat]=0
   ·have ri:=hB.skip Jq (.inr (by rw[Ey,LK];exact s9))
    (refine MH ?_;(with_reducible apply a_.fa 4);(iterate 8 exact rfl);exact ab;exact ab;refine aw ?_;refine kh ?_;(with_reducible apply AW.wJ 8);(rw[← hy]);refine LB ?_;refine au ?_;refine a_.not rfl rfl rfl ?_;refine Rc ?_;refine au ?_;refine Ge ?_;refine lq ?_;refine HZ ?_;refine J0 ?_;refine zm ?_;refine DV ?_)
    exact Zk
   ·by_cases Kw:s.reason[(max y (-y)).toNat]= -1
    ·have ri:=hB.dec hs Jq (by rw[Ey,LK];exact s9) (by rw[Ey,XX];exact Kw)
     rw[Ey] at ri
     have A2:ds.length≤1000000:=by
      have:=kn (n:=2*n+2) (l:=ds.map eW) (by
       unfold List.Nodup
       rw[dB]
       exact hB.nd.imp_of_mem fun {a b} ha hb r8 e=>r8 (ie (n:=n) (by obtain⟨q,p1,_,p3,_⟩:=hB.mem a ha;rw[← p3];exact hs.iK.xz _ (cZ p1)) (by obtain⟨q,p1,_,p3,_⟩:=hB.mem b hb;rw[← p3];exact hs.iK.xz _ (cZ p1)) (by rw[e]))) fun v hv=>by
       obtain⟨a,ha,rfl⟩:=bw.1 hv
       obtain⟨q,p1,_,p3,_⟩:=hB.mem a ha
       have:=ix (hs.iK.xz _ (cZ p1))
       rw[p3] at this
       omega
      simp only[a6] at this
      omega
     (refine MH ?_;(with_reducible apply a_.fa 4);(iterate 8 exact rfl);exact ab;exact ab;refine aw ?_;refine kh ?_;(with_reducible apply AW.wJ 8);(rw[← hy]);refine LB ?_;refine au ?_;refine a_.not rfl rfl rfl ?_;refine Rc ?_;refine au ?_;refine Ge ?_;refine vD ?_;refine zo ?_;refine jB ?_;refine Q8 ?_;refine au ?_;refine I3 ?_;refine wN ?_;refine zm ?_;(with_reducible apply a_.nK);(iterate 5 exact rfl);exact ag;exact rfl;exact rfl;refine J0 ?_;(with_reducible apply a_.fJ);exact rfl;exact ah;(iterate 9 exact rfl);exact aa;refine J0 ?_;refine sH ?_;refine HZ ?_;refine J0 ?_;refine zm ?_;refine DV ?_)
     exact⟨(sl,ds++ [y],k),⟨ri,show k≤(s.ll 0).length by omega⟩,by show k<k+1;omega,fy rfl (by(refine⟨.fj (by first|rfl|(rw[← bt,cU];rfl)) rfl,?_⟩;refine⟨.fj (by first|rfl|(rw[← bt,cU];rfl)) rfl,?_⟩;refine⟨.fh (by first|rfl|(rw[← bt,cU];rfl)),?_⟩;refine⟨.fh (by first|rfl|(rw[← bt,cU];rfl)),?_⟩;(iterate 2 refine aC ?_);exact trivial)) (by(refine aF ?_;refine aF ?_;refine⟨.box _ rfl ?_,?_⟩;refine⟨.fj (by first|rfl|(rw[← bt,cU];rfl)) rfl,?_⟩;refine⟨.fj (by first|rfl|(rw[← bt,cU];rfl)) rfl,?_⟩;refine⟨.fj (by first|rfl|(rw[← bt,cU];rfl)) rfl,?_⟩;refine⟨.fh (by first|rfl|(rw[← bt,cU];rfl)),?_⟩;refine⟨.fj (by first|rfl|(rw[← bt,cU];rfl)) rfl,?_⟩;refine⟨.fh (by first|rfl|(rw[← bt,cU];rfl)),?_⟩;refine⟨.fj (by first|rfl|(rw[← bt,cU];rfl)) rfl,?_⟩;refine⟨.fj (by first|rfl|(rw[← bt,cU];rfl)) rfl,?_⟩;refine⟨.fh (by first|rfl|(rw[← bt,cU];rfl)),?_⟩;refine⟨.fh (by first|rfl|(rw[← bt,cU];rfl)),?_⟩;refine⟨.fh (by first|rfl|(rw[← bt,cU];rfl)),?_⟩;refine⟨.fj (by first|rfl|(rw[← bt,cU];rfl)) rfl,?_⟩;refine⟨.fh (by first|rfl|(rw[← bt,cU];rfl)),?_⟩;refine⟨.ia (by first|rfl|(rw[← bt,cU];rfl)),?_⟩;refine⟨.ia (by first|rfl|(rw[← bt,cU];rfl)),?_⟩;exact trivial;(iterate 3 refine aF ?_);refine⟨.ff rfl (by first|rfl|(rw[← bt,cU];rfl)),?_⟩;(iterate 2 refine aF ?_);refine⟨.ff rfl (by first|rfl|(rw[← bt,cU];rfl)),?_⟩;refine aF ?_;refine⟨.ff rfl (by first|rfl|(rw[← bt,cU];rfl)),?_⟩;refine aF ?_;exact trivial)) rfl⟩
    ·obtain⟨j,hj,hR,Zi,Yz⟩:=(hs.qh k Jq).resolve_left (by rw[Ey,XX];exact fun q=>Kw q.1)
     rw[Ey] at hR Zi Yz
     rw[XX] at hR
     have Y0:0≤s.reason[(max y (-y)).toNat]:=by omega
     have Zj:(s.reason[(max y (-y)).toNat]).toNat<s.nc:=by omega
     have jq:=hs.D6 hj
     have o_:=(hs.cls j hj).2.2
     have Ys:=k9 s.nc s.hc
     (refine MH ?_;(with_reducible apply a_.fa 4);(iterate 8 exact rfl);exact ab;exact ab;refine aw ?_;refine kh ?_;(with_reducible apply AW.wJ 8);(rw[← hy]);refine LB ?_;refine au ?_;refine a_.not rfl rfl rfl ?_;refine Rc ?_;refine au ?_;refine Ge ?_;refine vD ?_;refine zo ?_;refine jB ?_;refine Q8 ?_;refine au ?_;refine Cm ?_;refine zo ?_;(with_reducible apply AW.gk);exact rfl;exact rfl;kernel_rfl;(with_reducible assumption);refine Ki ?_;refine zb ?_;refine Q8 ?_;refine au ?_;refine Ru ?_;refine a_.jI rfl rfl rfl rfl (fun h_=>by cases h_) aJ ?_;refine a_.nL 7 rfl rfl rfl rfl rfl ?_;refine CX ?_)
     rw[hR,dt j]
     (refine J0 ?_;apply AW.gP [93,92,6,7,4,0,1000] [12,11,0,1,2,3,4,5,6,7,8,9,10] (fun p:List Bool×Nat=>([(5,.own 11 4 1 (p.1.map oI)),(94,e7 p.2)]:List (Nat×AV))) (fun p:List Bool×Nat=>([]:List (Nat×Option Ob))) (fun p:List Bool×Nat=>DU n s sl j p.1 p.2) (fun p:List Bool×Nat=>(s.cl j).length - p.2) ((sl,0));(conv=>lhs;simp only[Nf.n7,Nf.all,di,reduceAdd,reduceSub]);(all_goals skip))
     ·exact .start H7
     ·exact fy rfl (by(refine aE ?_;(iterate 3 refine aD ?_);refine aE ?_;(iterate 2 refine aD ?_);(iterate 2 refine aC ?_);exact trivial)) (by(refine aF ?_;refine aF ?_;refine⟨.box _ rfl ?_,?_⟩;(iterate 3 refine aE ?_);refine aD ?_;refine aE ?_;refine aD ?_;(iterate 2 refine aE ?_);(iterate 3 refine aD ?_);refine aE ?_;refine aD ?_;(iterate 2 refine aG ?_);exact trivial;(iterate 3 refine aF ?_);refine aH ?_;(iterate 2 refine aF ?_);refine aH ?_;refine aF ?_;refine aH ?_;refine aF ?_;exact trivial)) rfl
     rintro⟨sl2,i⟩ hW
     simp only at hW
     have Z9:=hW.hi
     have A5:=hW.len
     by_cases fx:i<(s.cl j).length
     ·have uq:(i:Int).toNat<(s.cl j).length:=by omega
      obtain⟨z,hz⟩:∃z,z=(s.cl j)[(i:Int).toNat]:=⟨_,rfl⟩
      have HU:(s.cl j)[i]=z:=hz.symm
      have X9:=o_ _ (cZ uq)
      rw[← hz] at X9
      obtain⟨_,_,_⟩:=X9
      have Ld:0≤max z (-z):=by omega
      have KX:(max z (-z)).toNat<sl2.length:=by omega
      have Qg:=hW.next fx (by rw[HU];unfold fm;omega)
      rw[HU] at Qg
      have k8:=Jc sl2 (max z (-z)).toNat
      (refine qa ?_;(with_reducible apply a_.fa 7);(iterate 8 exact rfl);exact ab;exact ab;refine ax ?_;refine kh ?_;(with_reducible apply AW.atR 15);(rw[← hz]);refine qJ ?_;refine a_.gg rfl rfl rfl ?_;refine JZ ?_;refine s8 ?_;(with_reducible apply a_.gA);(iterate 4 exact rfl);exact ag;(iterate 3 exact rfl);refine J0 ?_;refine GK ?_;refine yy ?_)
      exact⟨(sl2.set (fm z) true,i+1),Qg,by show(s.cl j).length - (i+1)<(s.cl j).length - i;omega,fy rfl (by(refine⟨.fj (by first|rfl|exact k8) rfl,?_⟩;(iterate 3 refine⟨.fh (by first|rfl|exact k8),?_⟩);refine⟨.fj (by first|rfl|exact k8) rfl,?_⟩;(iterate 2 refine⟨.fh (by first|rfl|exact k8),?_⟩);(iterate 2 refine aC ?_);exact trivial)) (by(refine aF ?_;refine aF ?_;refine⟨.box _ rfl ?_,?_⟩;(iterate 3 refine⟨.fj (by first|rfl|exact k8) rfl,?_⟩);refine⟨.fh (by first|rfl|exact k8),?_⟩;refine⟨.fj (by first|rfl|exact k8) rfl,?_⟩;refine⟨.fh (by first|rfl|exact k8),?_⟩;(iterate 2 refine⟨.fj (by first|rfl|exact k8) rfl,?_⟩);(iterate 3 refine⟨.fh (by first|rfl|exact k8),?_⟩);refine⟨.fj (by first|rfl|exact k8) rfl,?_⟩;refine⟨.fh (by first|rfl|exact k8),?_⟩;(iterate 2 refine⟨.ia (by first|rfl|exact k8),?_⟩);exact trivial;(iterate 3 refine aF ?_);refine⟨.ff rfl (by first|rfl|exact k8),?_⟩;(iterate 2 refine aF ?_);refine⟨.ff rfl (by first|rfl|exact k8),?_⟩;refine aF ?_;refine⟨.ff rfl (by first|rfl|exact k8),?_⟩;refine aF ?_;exact trivial)) rfl⟩
     ·obtain rfl:i=(s.cl j).length:=by omega
      have ri:=hB.row hs Jq hj (by rw[Ey];exact Zi) (by rw[Ey];exact Yz) hW
      (refine jB ?_;refine pW ?_;refine zo ?_;refine zk ?_;refine AW.exit ?_;(iterate 2 refine ke ?_);refine ir ?_;refine C4 ?_;refine J0 ?_;refine zm ?_;refine DV ?_)
      exact⟨(sl2,ds,k),⟨ri,show k≤(s.ll 0).length by omega⟩,by show k<k+1;omega,fy rfl (by(refine aE ?_;refine aE ?_;(iterate 2 refine aD ?_);(iterate 2 refine aC ?_);exact trivial)) (by(refine aF ?_;refine aF ?_;refine⟨.box _ rfl ?_,?_⟩;(iterate 3 refine aE ?_);refine aD ?_;refine aE ?_;refine aD ?_;(iterate 2 refine aE ?_);(iterate 3 refine aD ?_);refine aE ?_;refine aD ?_;(iterate 2 refine aG ?_);exact trivial;(iterate 3 refine aF ?_);refine aH ?_;(iterate 2 refine aF ?_);refine aH ?_;refine aF ?_;refine aH ?_;refine aF ?_;exact trivial)) rfl⟩
end Go.Ab
