/- The solver's invariant, in plain terms: a literal pushed, a literal propagated, the kept watches. -/
import Derived.Test.YtigjjjpcjnifhaaAtA2
import Derived.Test.YtigjjjpcjnifhaaAbZ
import Derived.Test.YtigjjjpcjnifhaaAbL3
set_option linter.unusedSimpArgs false
set_option linter.unusedVariables false
namespace Go.Ab
open Go Go.Proofs
theorem cV {s:SR} {x r:Int} {h:Value} {y:Int} (br:aF y≠aF x):aD (a6 s x r h) y=aD s y:=by
 unfold aD a6
 simp only
 rw[List.getD_eq_getElem?_getD,List.getD_eq_getElem?_getD,List.getElem?_set,if_neg (Ne.symm br)]
theorem gD {n:Nat} {s:SR} (hs:bj n s) {x r:Int} {h:Value} (hx:Lit n x):aD (a6 s x r h) x=s.marks.length:=by
 unfold aD a6
 simp only
 have:=dz hx
 rw[List.getD_eq_getElem?_getD,List.getElem?_set,if_pos rfl,if_pos (by rw[hs.lvl];omega)];rfl
theorem jr {n:Nat} {L:List Int} {x y:Int} (h1:x∉L) (h2: -x∉L) (hy:y∈L∨ -y∈L):aF y≠aF x:=fun e=>by
 rcases xD.1 e with rfl|rfl
 ·rcases hy with hy|hy
  ·exact h1 hy
  ·exact h2 hy
 ·rcases hy with hy|hy
  ·exact h2 hy
  ·rw[Int.neg_neg] at hy;exact h1 hy
theorem kr {l:List Int} {b:Int} (h:∀m∈l,m≤b):l.countP (fun m=>decide (m≤b))=l.length:=by
 rw[List.countP_eq_length]
 intro m hm
 simpa using h m hm
theorem bj.push {n:Nat} {s:SR} (hs:bj n s) {x r:Int} (h:Value) (hx:Lit n x) (h1:x∉s.ll 0) (h2: -x∉s.ll 0) (hr:(r= -1∧(((s.ll 0).length:Int)∈s.marks∨s.marks=[]))∨∃j:Nat,j<s.nc∧r=(j:Int)∧x∈s.cl j∧∀y∈s.cl j,y≠x→ -y∈s.ll 0):bj n (a6 s x r h):=by
 have eC:(a6 s x r h).ll 0=s.ll 0++ [x]:=by show aB s.ll 0 (s.ll 0++ [x]) 0=_;exact ab _ _ _
 have hold:∀{y},y∈s.ll 0∨ -y∈s.ll 0→aF y≠aF x:=fun hy=>jr (n:=n) h1 h2 hy
 have mE:∀{y},aF y≠aF x→(a6 s x r h).reason.getD (aF y) 0=s.reason.getD (aF y) 0:=fun {y} hy=>by
  unfold a6
  simp only
  rw[List.getD_eq_getElem?_getD,List.getD_eq_getElem?_getD,List.getElem?_set,if_neg (Ne.symm hy)]
 have De:s.head.toNat≤(s.ll 0).length:=by have:=hs.hd;omega
 exact
  {hn:=hs.hn
   trl:=by rw[eC];exact hs.trl.push hx h1 h2
   val:=by rw[eC];show s.value.set (aF x) (kJ x)=_;rw[hs.val];exact rQ hx h1 h2
   lvl:=by show(s.level.set _ _).length=_;rw[List.length_set];exact hs.lvl
   rsn:=by show(s.reason.set _ _).length=_;rw[List.length_set];exact hs.rsn
   hd:=by rw[eC];have:=hs.hd;simp only[List.length_append,List.length_singleton];exact⟨this.1,by show s.head≤_;omega⟩
   mrk:=hs.mrk
   srt:=hs.srt
   lev:=fun i hi=>by
    simp only[eC] at hi ⊢
    have hi':i<(s.ll 0).length+1:=by simpa using hi
    by_cases e:i<(s.ll 0).length
    ·rw[List.getElem_append_left e,cV (hold (.inl (List.getElem_mem e)))]
     exact hs.lev i e
    ·have e2:i=(s.ll 0).length:=by omega
     subst e2
     rw[List.getElem_append_right (Nat.le_refl _)]
     simp only[Nat.sub_self,List.getElem_cons_zero]
     rw[gD hs hx]
     show _=((s.marks.countP _:Nat):Int)
     rw[kr fun m hm=>by have:=hs.mrk m hm;have:=hs.hd;omega]
   cls:=hs.cls,fresh:=hs.fresh,nc:=hs.nc,nw:=hs.nw,wt:=hs.wt,wnd:=hs.wnd,wto:=hs.wto
   two:=fun j hj w w' hw cZ=>by
    have cZ: -w∈((a6 s x r h).ll 0).take s.head.toNat:=cZ
    rw[eC,List.take_append_of_le_length De] at cZ
    obtain⟨q1,q2⟩:=hs.two j hj w w' hw cZ
    rw[eC,cV (hold (.inl q1)),cV (hold (.inr (List.mem_of_mem_take cZ)))]
    exact⟨List.mem_append.2 (.inl q1),q2⟩
   rea:=fun i hi=>by
    simp only[eC] at hi ⊢
    have hi':i<(s.ll 0).length+1:=by simpa using hi
    by_cases e:i<(s.ll 0).length
    ·rw[List.getElem_append_left e,mE (hold (.inl (List.getElem_mem e))),List.take_append_of_le_length (by omega),cV (hold (.inl (List.getElem_mem e)))]
     exact hs.rea i e
    ·have e2:i=(s.ll 0).length:=by omega
     subst e2
     rw[List.getElem_append_right (Nat.le_refl _)]
     simp only[Nat.sub_self,List.getElem_cons_zero]
     have e3:(a6 s x r h).reason.getD (aF x) 0=r:=by
      have:=dz hx
      unfold a6
      simp only
      rw[List.getD_eq_getElem?_getD,List.getElem?_set,if_pos rfl,if_pos (by rw[hs.rsn];omega)];rfl
     rw[e3,List.take_append_of_le_length (Nat.le_refl _),List.take_length,gD hs hx]
     rcases hr with ⟨q1,q2⟩|q
     ·refine .inl ⟨q1,q2.imp id fun q=>?_⟩
      rw[q];rfl
     ·exact .inr q}
theorem bj.done {n:Nat} {s:SR} (hs:bj n s) (hh:s.head.toNat<(s.ll 0).length) {g:Int} (hg:g= -(s.ll 0)[s.head.toNat]) (hE:∀e∈s.wl (al g).toNat,∃j:Nat,j<s.nc∧e=(j:Int)∧c1 (s.cl j)=g∧c0 (s.cl j)∈s.ll 0):bj n {s with head:=s.head+1}:=by
 have hh0:=hs.hd
 have Pu: -g∈s.ll 0:=by rw[hg,Int.neg_neg];exact List.getElem_mem hh
 have QF:aD s g=s.marks.length:=by
  have e:aD s g=aD s (s.ll 0)[s.head.toNat]:=by unfold aD;rw[hg,bP]
  rw[e,hs.lev _ hh,kr fun m hm=>by have:=hs.mrk m hm;omega]
 have hle:∀y∈s.ll 0,aD s y≤s.marks.length:=fun y hy=>by
  obtain⟨i,hi,rfl⟩:=List.getElem_of_mem hy
  rw[hs.lev i hi]
  have:=List.countP_le_length (p:=fun m=>decide (m≤(i:Int))) (l:=s.marks)
  omega
 exact
  {hn:=hs.hn,trl:=hs.trl,val:=hs.val,lvl:=hs.lvl,rsn:=hs.rsn
   hd:=⟨by show 0≤s.head+1;omega,by show s.head+1≤((s.ll 0).length:Int);omega⟩
   mrk:=fun m hm=>by have:=hs.mrk m hm;exact⟨this.1,by show m≤s.head+1;omega⟩
   srt:=hs.srt
   lev:=hs.lev,cls:=hs.cls,fresh:=hs.fresh,nc:=hs.nc,nw:=hs.nw,wt:=hs.wt,wnd:=hs.wnd,wto:=hs.wto
   two:=fun j hj w w' hw cZ=>by
    have cZ: -w∈(s.ll 0).take (s.head+1).toNat:=cZ
    rw[show(s.head+1).toNat=s.head.toNat+1 by omega,List.take_succ_eq_append_getElem hh,List.mem_append,List.mem_singleton] at cZ
    rcases cZ with cZ|cZ
    ·exact hs.two j hj w w' hw cZ
    ·have PY:w=g:=by rw[hg,← cZ,Int.neg_neg]
     subst PY
     have pX:(j:Int)∈s.wl (al w).toNat:=by
      rcases hw with ⟨e,_⟩|⟨e,_⟩
      ·rw[e];exact(hs.wto j hj).1
      ·rw[e];exact(hs.wto j hj).2
     obtain⟨k,hk,e,q1,q2⟩:=hE _ pX
     have:k=j:=by omega
     subst this
     have hw':w'=c0 (s.cl k):=by
      rcases hw with ⟨e1,e2⟩|⟨_,e2⟩
      ·exfalso
       obtain⟨p1,p2,_⟩:=hs.cls k hk
       rw[show c0 (s.cl k)=(s.cl k)[0] from aQ (by omega)] at e1
       rw[show c1 (s.cl k)=(s.cl k)[1] from aQ (by omega),e1] at q1
       have:=(List.getElem_inj p2 (h₀:=by omega) (h₁:=by omega)).1 q1
       omega
      ·exact e2
     rw[hw']
     refine⟨q2,?_⟩
     show aD s (c0 (s.cl k))≤aD s w
     rw[QF]
     exact hle _ q2
   rea:=hs.rea}
theorem mP {R:List Int} {m i:Nat} (hm:m≤i) (hi:i<R.length):(R.set m R[i]).take (m+1)++(R.set m R[i]).drop (i+1)=R.take m++R.drop i:=by
 rw[List.take_set,List.drop_set,if_pos (by omega),List.take_succ_eq_append_getElem (by omega),List.set_append_right _ _ (by simp;omega)]
 simp only[List.length_take]
 rw[Nat.min_eq_left (by omega),Nat.sub_self,List.set_cons_zero,List.append_assoc,List.singleton_append,← List.drop_eq_getElem_cons hi]
theorem drop_one {A B:List Int} {x:Int} (h:(A++x::B).Nodup) (e:Int):e∈A++B↔e∈A++x::B∧e≠x:=by
 have h1:=List.nodup_append.1 h
 have h2:=List.nodup_cons.1 h1.2.1
 simp only[List.mem_append,List.mem_cons]
 constructor
 ·rintro(h3|h3)
  ·exact⟨.inl h3,fun e'=>h1.2.2 _ h3 x (by simp) e'⟩
  ·exact⟨.inr (.inr h3),fun e'=>h2.1 (e'▸h3)⟩
 ·rintro⟨h3|rfl|h3,h4⟩
  ·exact .inl h3
  ·exact absurd rfl h4
  ·exact .inr h3
theorem vz {A B:List Int} {x:Int} (h:(A++x::B).Nodup):(A++B).Nodup:=h.sublist (List.Sublist.append_left (List.sublist_cons_self _ _) _)
end Go.Ab
/- The solver's propagation,in plain terms:what it may turn,and how far it has come. -/
namespace Go.Ab
open Go Go.Proofs
structure nJ (s t:SR):Prop where
 marks:t.marks=s.marks
 low:t.low=s.low
 added:t.added=s.added
 broken:t.broken=s.broken
 nc:t.nc=s.nc
 hc:t.hc=s.hc
 nw:t.nw=s.nw
 proof:t.proof=s.proof
 model:t.model=s.model
 core:t.core=s.core
 ll:∃ys,t.ll 0=s.ll 0++ys
 cl:∀j,fz (s.cl j) (t.cl j)
 tu:∀x∈s.ll 0,t.reason.getD (aF x) 0=s.reason.getD (aF x) 0
 new:∀x∈t.ll 0,x∉s.ll 0→t.reason.getD (aF x) 0≠ -1
theorem fz.refl (c:List Int):fz c c:=⟨rfl,id,fun _=>Iff.rfl⟩
theorem fz.trans {c d e:List Int} (h:fz c d) (k:fz d e):fz c e:=⟨k.len.trans h.len,fun x=>k.nd (h.nd x),fun x=>(k.mem x).trans (h.mem x)⟩
theorem nJ.refl (s:SR):nJ s s:=⟨rfl,rfl,rfl,rfl,rfl,rfl,rfl,rfl,rfl,rfl,⟨[],by simp⟩,fun _=> .refl _,fun _ _=>rfl,fun _ h k=>absurd h k⟩
theorem nJ.wa {s t:SR} (h:nJ s t) {cl:Nat→List Int} {hw:Nat→Value} {wl:Nat→List Int} {hd:Int} (dO:∀j,fz (t.cl j) (cl j)):nJ s {t with cl:=cl,hw:=hw,wl:=wl,head:=hd} where
 marks:=h.marks
 low:=h.low
 added:=h.added
 broken:=h.broken
 nc:=h.nc
 hc:=h.hc
 nw:=h.nw
 proof:=h.proof
 model:=h.model
 core:=h.core
 ll:=h.ll
 cl:=fun j=>(h.cl j).trans (dO j)
 tu:=h.tu
 new:=h.new
theorem gf {s:SR} {x r:Int} {h:Value} {y:Int} (br:aF y≠aF x):(a6 s x r h).reason.getD (aF y) 0=s.reason.getD (aF y) 0:=by
 unfold a6
 simp only
 rw[List.getD_eq_getElem?_getD,List.getD_eq_getElem?_getD,List.getElem?_set,if_neg (Ne.symm br)]
theorem dL (s:SR) (x r:Int) (h:Value):(a6 s x r h).ll 0=s.ll 0++ [x]:=by
 show aB s.ll 0 (s.ll 0++ [x]) 0=_
 exact ab _ _ _
theorem nJ.push {n:Nat} {s t:SR} (h:nJ s t) (ht:t.reason.length=n+1) {x r:Int} {hv:Value} (hx:Lit n x) (h1:x∉t.ll 0) (h2: -x∉t.ll 0) (hr:r≠ -1):nJ s (a6 t x r hv) where
 marks:=h.marks
 low:=h.low
 added:=h.added
 broken:=h.broken
 nc:=h.nc
 hc:=h.hc
 nw:=h.nw
 proof:=h.proof
 model:=h.model
 core:=h.core
 ll:=by
  obtain⟨ys,e⟩:=h.ll
  exact⟨ys++ [x],by rw[dL,e,List.append_assoc]⟩
 cl:=h.cl
 tu:=fun y hy=>by
  obtain⟨ys,e⟩:=h.ll
  rw[gf (jr (n:=n) h1 h2 (.inl (by rw[e];exact List.mem_append.2 (.inl hy))))]
  exact h.tu y hy
 new:=fun y hy QZ=>by
  rw[dL,List.mem_append,List.mem_singleton] at hy
  rcases hy with hy|rfl
  ·rw[gf (jr (n:=n) h1 h2 (.inl hy))]
   exact h.new y hy QZ
  ·have:=dz hx
   unfold a6
   simp only
   rw[List.getD_eq_getElem?_getD,List.getElem?_set,if_pos rfl,if_pos (by rw[ht];omega)];exact hr
theorem bj.hw {n:Nat} {s:SR} (h:bj n s) (hv:Nat→Value):bj n {s with hw:=hv}:=
 {hn:=h.hn,trl:=h.trl,val:=h.val,lvl:=h.lvl,rsn:=h.rsn,hd:=h.hd,mrk:=h.mrk,lev:=h.lev,cls:=h.cls,fresh:=h.fresh,nc:=h.nc,nw:=h.nw,wt:=h.wt,wnd:=h.wnd,wto:=h.wto,two:=h.two,srt:=h.srt,rea:=h.rea}
theorem eW {n:Nat} {l:List Int} (h:l.Nodup) (hl:∀x∈l,0≤x∧x<n):l.length≤n:=by
 have:=mV n (l:=l.map fun x=>(x+1).toNat) (by
  unfold List.Nodup
  rw[List.pairwise_map]
  exact h.imp_of_mem fun {a b} ha hb mK e=>by have:=hl a ha;have:=hl b hb;omega) fun v hv=>by
  obtain⟨x,hx,rfl⟩:=List.mem_map.1 hv
  have:=hl x hx
  omega
 simpa using this
theorem bj.y4 {n:Nat} {s:SR} (h:bj n s) {x:Int} (hx:Lit n x):(s.wl (al x).toNat).length≤s.nc:=
 eW (h.wnd _) fun e he=>by
  obtain⟨j,hj,rfl,_⟩:=h.wt x hx e he
  omega
theorem bj.wN {n:Nat} {s:SR} (h:bj n s) {j:Nat} (hj:j<s.nc):(s.cl j).length≤2*n+2:=by
 obtain⟨_,h2,h3⟩:=h.cls j hj
 have:=eW (n:=2*n+2) (l:=(s.cl j).map al) (by
  unfold List.Nodup
  rw[List.pairwise_map]
  exact h2.imp_of_mem fun {a b} ha hb mK e=>mK (cA (h3 a ha) (h3 b hb) (by rw[e]))) fun v hv=>by
  obtain⟨x,hx,rfl⟩:=List.mem_map.1 hv
  have:=da (h3 x hx)
  omega
 simpa using this
structure nX (n:Nat) (s0:SR) (hd:Int) (N:Nat) (g:Int) (s:SR) (m i:Nat):Prop where
 inv:bj n {s with wl:=aB s.wl (al g).toNat ((s.wl (al g).toNat).take m++(s.wl (al g).toNat).drop i)}
 ext:nJ s0 s
 len:(s.wl (al g).toNat).length=N
 mi:m≤i
 iN:i≤N
 hd:s.head=hd
 hh:(s.ll 0)[s.head.toNat]? =some (-g)
 done:∀e∈(s.wl (al g).toNat).take m,∃j:Nat,j<s.nc∧e=(j:Int)∧c1 (s.cl j)=g∧c0 (s.cl j)∈s.ll 0
theorem bj.Hv {n:Nat} {s:SR} (h:bj n s) {wl:Nat→List Int} (e:wl=s.wl):bj n {s with wl:=wl}:=by subst e;exact h
theorem nX.start {n:Nat} {s0 s:SR} {g:Int} (h:bj n s) (he:nJ s0 s) (hh:(s.ll 0)[s.head.toNat]? =some (-g)):nX n s0 s.head (s.wl (al g).toNat).length g s 0 0 where
 inv:=h.Hv (by simp only[List.take_zero,List.drop_zero,List.nil_append];exact oP _ _)
 ext:=he
 len:=rfl
 mi:=Nat.le_refl _
 iN:=Nat.zero_le _
 hd:=rfl
 hh:=hh
 done:=fun e he=>by simp at he
section
variable {n:Nat} {s0:SR} {hd:Int} {N:Nat} {g:Int} {s:SR} {m i:Nat}
theorem nX.gl (h:nX n s0 hd N g s m i):Lit n g∧ -g∈s.ll 0:=by
 have hm:=List.mem_of_getElem? h.hh
 have:=h.inv.trl.rng (-g) hm
 exact⟨⟨by omega,by omega,by omega⟩,hm⟩
theorem nX.clause (h:nX n s0 hd N g s m i) (hi:i<N):∃j:Nat,j<s.nc∧(s.wl (al g).toNat)[i]? =some (j:Int)∧(c0 (s.cl j)=g∨c1 (s.cl j)=g)∧((j:Int)∉(s.wl (al g).toNat).take m)∧2≤(s.cl j).length∧(s.cl j).length≤2*n+2∧(s.cl j).Nodup∧∀x∈s.cl j,Lit n x:=by
 have hi2:i<(s.wl (al g).toNat).length:=by rw[h.len];exact hi
 have pX:(s.wl (al g).toNat)[i]∈aB s.wl (al g).toNat ((s.wl (al g).toNat).take m++(s.wl (al g).toNat).drop i) (al g).toNat:=by
  rw[ab,List.mem_append]
  exact .inr (by rw[List.drop_eq_getElem_cons hi2];exact List.mem_cons_self)
 obtain⟨j,hj,e,hw⟩:=h.inv.wt g h.gl.1 _ pX
 obtain⟨q1,q2,q3⟩:=h.inv.cls j hj
 refine⟨j,hj,by rw[List.getElem?_eq_getElem hi2,e],hw,fun hm=>?_,q1,h.inv.wN hj,q2,q3⟩
 have hn:=h.inv.wnd (al g).toNat
 simp only[ab] at hn
 refine(List.nodup_append.1 hn).2.2 _ hm _ ?_ rfl
 rw[List.drop_eq_getElem_cons hi2,e];simp
theorem nX.Pr (h:nX n s0 hd N g s m i):s.value.length=n+1∧s.level.length=n+1∧s.reason.length=n+1∧n≤20000∧(s.ll 0).length≤n∧s.marks.length≤s.marks.length∧s.nw=2*n+2∧s.nc≤100000:=
 ⟨by have:=h.inv.val;show s.value.length=_;rw[show s.value=fe n (s.ll 0) from this,er],h.inv.lvl,h.inv.rsn,h.inv.hn,h.inv.trl.len,Nat.le_refl _,h.inv.nw,h.inv.nc⟩
theorem nX.swap (h:nX n s0 hd N g s m i) {j:Nat} (hj:j<s.nc) (Cz:(j:Int)∉(s.wl (al g).toNat).take m) {d:List Int} (hp:fz (s.cl j) d) (h0:c0 d=c1 (s.cl j)) (h1:c1 d=c0 (s.cl j)):nX n s0 hd N g {s with cl:=aB s.cl j d} m i where
 inv:=h.inv.swap hj hp h0 h1
 ext:=h.ext.wa fun k=>by
  unfold aB;split
  ·next e=>subst e;exact hp
  ·exact .refl _
 len:=h.len
 mi:=h.mi
 iN:=h.iN
 hd:=h.hd
 hh:=h.hh
 done:=fun e he=>by
  obtain⟨k,q1,q2,q3,q4⟩:=h.done e he
  have br:k≠j:=by rintro rfl;exact Cz (q2▸he)
  exact⟨k,q1,q2,by show c1 (aB s.cl j d k)=g;rw[aO _ _ br];exact q3,by show c0 (aB s.cl j d k)∈_;rw[aO _ _ br];exact q4⟩
theorem nX.keep (h:nX n s0 hd N g s m i) {j:Nat} (hj:j<s.nc) (hi:(s.wl (al g).toNat)[i]? =some (j:Int)) (hc1:c1 (s.cl j)=g) (hc0:c0 (s.cl j)∈s.ll 0):nX n s0 hd N g {s with wl:=aB s.wl (al g).toNat ((s.wl (al g).toNat).set m (j:Int))} (m+1) (i+1):=by
 obtain⟨hi2,e⟩:=List.getElem?_eq_some_iff.1 hi
 have hm:=h.mi
 have gz:aB (aB s.wl (al g).toNat ((s.wl (al g).toNat).set m (j:Int))) (al g).toNat ((aB s.wl (al g).toNat ((s.wl (al g).toNat).set m (j:Int)) (al g).toNat).take (m+1)++(aB s.wl (al g).toNat ((s.wl (al g).toNat).set m (j:Int)) (al g).toNat).drop (i+1))=aB s.wl (al g).toNat ((s.wl (al g).toNat).take m++(s.wl (al g).toNat).drop i):=by
  rw[dB,ab,← e,mP hm hi2]
 exact
  {inv:=by
    have:=h.inv
    rw[← gz] at this
    exact this
   ext:=h.ext.wa fun _=> .refl _
   len:=by show(aB s.wl (al g).toNat ((s.wl (al g).toNat).set m (j:Int)) (al g).toNat).length=_;rw[ab,List.length_set];exact h.len
   mi:=by omega
   iN:=by rw[← h.len];omega
   hd:=h.hd,hh:=h.hh
   done:=fun x hx=>by
    have hx:x∈(aB s.wl (al g).toNat ((s.wl (al g).toNat).set m (j:Int)) (al g).toNat).take (m+1):=hx
    rw[ab,List.take_succ_eq_append_getElem (by simp;omega),List.mem_append,List.mem_singleton,List.getElem_set_self,List.take_set_of_le (Nat.le_refl _)] at hx
    rcases hx with hx|rfl
    ·exact h.done x hx
    ·exact⟨j,hj,rfl,hc1,hc0⟩}
theorem nX.move (h:nX n s0 hd N g s m i) {j:Nat} (hj:j<s.nc) (hi:(s.wl (al g).toNat)[i]? =some (j:Int)) (Cz:(j:Int)∉(s.wl (al g).toNat).take m) (hc1:c1 (s.cl j)=g) {d:List Int} {y:Int} (hp:fz (s.cl j) d) (h0:c0 d=c0 (s.cl j)) (h1:c1 d=y) (Ar:y≠g) (hy0:y≠c0 (s.cl j)) (Ng: -y∉s.ll 0) (hv:Nat→Value):
  nX n s0 hd N g {s with cl:=aB s.cl j d,hw:=hv,wl:=aB s.wl (al y).toNat (s.wl (al y).toNat++ [(j:Int)])} m (i+1):=by
 obtain⟨hi2,e⟩:=List.getElem?_eq_some_iff.1 hi
 have qA:Lit n y:=by
  obtain⟨q1,q2,q3⟩:=h.inv.cls j hj
  have q1:2≤(s.cl j).length:=q1
  have q3:∀x∈s.cl j,Lit n x:=q3
  refine q3 y ((hp.mem y).1 ?_)
  rw[← h1]
  exact(dW (by rw[hp.len];exact q1)).2
 have br:(al g).toNat≠(al y).toNat:=fun q=>Ar (cA qA h.gl.1 q.symm)
 have l6:aB s.wl (al y).toNat (s.wl (al y).toNat++ [(j:Int)]) (al g).toNat=s.wl (al g).toNat:=aO _ _ br
 have hE:(s.wl (al g).toNat).take m++(s.wl (al g).toNat).drop i=(s.wl (al g).toNat).take m++(j:Int)::(s.wl (al g).toNat).drop (i+1):=by
  rw[List.drop_eq_getElem_cons hi2,e]
 have dt:((s.wl (al g).toNat).take m++(j:Int)::(s.wl (al g).toNat).drop (i+1)).Nodup:=by
  have:=h.inv.wnd (al g).toNat
  simp only[ab] at this
  rw[hE] at this
  exact this
 have hm:=h.inv.move hj hp hc1 h.gl.2 h0 h1 Ar hy0 Ng (E:=(s.wl (al g).toNat).take m++(s.wl (al g).toNat).drop i) (E':=(s.wl (al g).toNat).take m++(s.wl (al g).toNat).drop (i+1)) (by exact ab _ _ _) (fun x=>by rw[hE];exact drop_one dt x) (vz dt) hv
 exact
  {inv:=by
    have e2:aB (aB (aB s.wl (al g).toNat ((s.wl (al g).toNat).take m++(s.wl (al g).toNat).drop i)) (al y).toNat (aB s.wl (al g).toNat ((s.wl (al g).toNat).take m++(s.wl (al g).toNat).drop i) (al y).toNat++ [(j:Int)])) (al g).toNat ((s.wl (al g).toNat).take m++(s.wl (al g).toNat).drop (i+1))
      =aB (aB s.wl (al y).toNat (s.wl (al y).toNat++ [(j:Int)])) (al g).toNat ((aB s.wl (al y).toNat (s.wl (al y).toNat++ [(j:Int)]) (al g).toNat).take m++(aB s.wl (al y).toNat (s.wl (al y).toNat++ [(j:Int)]) (al g).toNat).drop (i+1)):=by
     rw[l6,aO (k:=(al g).toNat) _ _ (Ne.symm br)]
     funext x
     unfold aB
     split
     ·rfl
     ·rfl
    simp only at hm
    rw[e2] at hm
    exact hm
   ext:=h.ext.wa fun k=>by
    unfold aB;split
    ·next q=>subst q;exact hp
    ·exact .refl _
   len:=by show(aB s.wl (al y).toNat (s.wl (al y).toNat++ [(j:Int)]) (al g).toNat).length=_;rw[l6];exact h.len
   mi:=by have:=h.mi;omega
   iN:=by rw[← h.len];omega
   hd:=h.hd,hh:=h.hh
   done:=fun x hx=>by
    have hx':x∈(aB s.wl (al y).toNat (s.wl (al y).toNat++ [(j:Int)]) (al g).toNat).take m:=hx
    rw[l6] at hx'
    obtain⟨k,q1,q2,q3,q4⟩:=h.done x hx'
    have br:k≠j:=fun q=>Cz (by rw[← q,← q2];exact hx')
    exact⟨k,q1,q2,by show c1 (aB s.cl j d k)=g;rw[aO _ _ br];exact q3,by show c0 (aB s.cl j d k)∈_;rw[aO _ _ br];exact q4⟩}
theorem nX.push (h:nX n s0 hd N g s m i) {j:Nat} (hj:j<s.nc) (hi:(s.wl (al g).toNat)[i]? =some (j:Int)) (hc1:c1 (s.cl j)=g) (hf:∀y∈s.cl j,y≠c0 (s.cl j)→ -y∈s.ll 0) (h1:c0 (s.cl j)∉s.ll 0) (h2: -(c0 (s.cl j))∉s.ll 0) (hv:Value):
  nX n s0 hd N g (a6 {s with wl:=aB s.wl (al g).toNat ((s.wl (al g).toNat).set m (j:Int))} (c0 (s.cl j)) (j:Int) hv) (m+1) (i+1):=by
 obtain⟨hi2,e⟩:=List.getElem?_eq_some_iff.1 hi
 have hm:=h.mi
 obtain⟨q1,q2,q3⟩:=h.inv.cls j hj
 have hc0l:Lit n (c0 (s.cl j)):=q3 _ (dW q1).1
 have gz:aB (aB s.wl (al g).toNat ((s.wl (al g).toNat).set m (j:Int))) (al g).toNat ((aB s.wl (al g).toNat ((s.wl (al g).toNat).set m (j:Int)) (al g).toNat).take (m+1)++(aB s.wl (al g).toNat ((s.wl (al g).toNat).set m (j:Int)) (al g).toNat).drop (i+1))=aB s.wl (al g).toNat ((s.wl (al g).toNat).take m++(s.wl (al g).toNat).drop i):=by
  rw[dB,ab,← e,mP hm hi2]
 have hinv:=h.inv.push (r:=(j:Int)) hv hc0l h1 h2 (.inr ⟨j,hj,rfl,(dW q1).1,hf⟩)
 exact
  {inv:=by
    have:=hinv
    unfold a6 at this ⊢
    simp only at this ⊢
    rw[gz]
    exact this
   ext:=(h.ext.wa (t:=s) (cl:=s.cl) (hw:=s.hw) (wl:=aB s.wl (al g).toNat ((s.wl (al g).toNat).set m (j:Int))) (hd:=s.head) fun _=> .refl _).push (n:=n) h.inv.rsn hc0l h1 h2 (by omega)
   len:=by show(aB s.wl (al g).toNat ((s.wl (al g).toNat).set m (j:Int)) (al g).toNat).length=_;rw[ab,List.length_set];exact h.len
   mi:=by omega
   iN:=by rw[← h.len];omega
   hd:=h.hd
   hh:=by
    rw[dL]
    show(s.ll 0++_)[s.head.toNat]? =_
    have:=h.hh
    rw[List.getElem?_append_left (List.getElem?_eq_some_iff.1 this).1]
    exact this
   done:=fun x hx=>by
    have hx:x∈(aB s.wl (al g).toNat ((s.wl (al g).toNat).set m (j:Int)) (al g).toNat).take (m+1):=hx
    rw[ab,List.take_succ_eq_append_getElem (by simp;omega),List.mem_append,List.mem_singleton,List.getElem_set_self,List.take_set_of_le (Nat.le_refl _)] at hx
    rw[dL]
    rcases hx with hx|rfl
    ·obtain⟨k,p1,p2,p3,p4⟩:=h.done x hx
     exact⟨k,p1,p2,p3,List.mem_append.2 (.inl p4)⟩
    ·exact⟨j,hj,rfl,hc1,by simp;exact .inr rfl⟩}
theorem nX.fin (h:nX n s0 hd N g s m N) (hv:Nat→Value):bj n {s with hw:=hv,wl:=aB s.wl (al g).toNat ((s.wl (al g).toNat).take m),head:=s.head+1}:=by
 have h1:=h.inv
 have e:(s.wl (al g).toNat).take m++(s.wl (al g).toNat).drop N=(s.wl (al g).toNat).take m:=by rw[List.drop_eq_nil_of_le (by rw[h.len];exact Nat.le_refl _),List.append_nil]
 rw[e] at h1
 obtain⟨q1,q2⟩:=List.getElem?_eq_some_iff.1 h.hh
 refine(h1.done (g:=g) q1 (by show g= -(s.ll 0)[s.head.toNat];rw[q2,Int.neg_neg]) fun x hx=>?_).hw hv
 have hx:x∈aB s.wl (al g).toNat ((s.wl (al g).toNat).take m) (al g).toNat:=hx
 rw[ab] at hx
 exact h.done x hx
end
theorem xZ {R:List Int} {m i:Nat} {x:Int} (hm:m≤i) (hi:i<R.length) (hx:R[i]=x):(((R.set m x).take (m+1)++(R.set m x).drop ((i:Int)+1).toNat)++(R.set m x).drop (m+1+(R.length - ((i:Int)+1).toNat))).take (m+1+(R.length - ((i:Int)+1).toNat))=R.take m++R.drop i:=by
 have e:((i:Int)+1).toNat=i+1:=by omega
 have hl:((R.set m x).take (m+1)++(R.set m x).drop (i+1)).length=m+1+(R.length - (i+1)):=by
  simp only[List.length_append,List.length_take,List.length_drop,List.length_set];omega
 rw[e,List.take_append_of_le_length (by rw[hl];exact Nat.le_refl _),List.take_of_length_le (by rw[hl];exact Nat.le_refl _),← hx,mP hm hi]
structure BB (n:Nat) (s t:SR) (r:Int):Prop where
 inv:bj n t
 ext:nJ s t
 res:(r= -1∧t.head=((t.ll 0).length:Int))∨∃j:Nat,j<t.nc∧r=(j:Int)∧∀x∈t.cl j,-x∈t.ll 0
theorem AW.atR {P:Program} {g:ar} {δ:DS} {Q:Exit→DS→Prop} (id:Nat) {l:Array Oper} {b:Bool} (h:AW P g (.region id l b) Q δ):AW P g (.region id l b) Q δ:=h
theorem AW.pj {P:Program} {g:ar} {δ:DS} {Q:Exit→DS→Prop} (id:Nat) {l:Array Oper} {b:Bool} {c:Code} (h:AW P g (.seq (.region id l b) c) Q δ):AW P g (.seq (.region id l b) c) Q δ:=h
def Stop (p:Prop):Prop:=p
theorem Stop.go {p:Prop} (h:p):Stop p:=h
section
variable {P:Program} {g:ar} {δ:DS} {Q:Exit→DS→Prop} {l:Array Oper} {b:Bool} {c:Code}
theorem AW.fk (id:Nat) (h:Stop (AW P g (.seq (.region id l b) c) Q δ)):AW P g (.seq (.region id l b) c) Q δ:=h
theorem AW.FY (id:Nat) (h:Stop (AW P g (.region id l b) Q δ)):AW P g (.region id l b) Q δ:=h
end
end Go.Ab
/- The solver's conflict analysis,in plain terms:how far it has come,and what it gives. -/
namespace Go.Ab
open Go Go.Proofs
theorem xn {l:List Int} {p q:Int→Bool} {y:Int} (hn:(l.map aF).Nodup) (hy:y∈l) (hp:p y=false) (hq:q y=true) (hz:∀z∈l,aF z≠aF y→q z=p z):l.countP q=l.countP p+1:=by
 induction l with
 |nil=>simp at hy
 |cons a l ih=>
  rw[List.map_cons,List.nodup_cons] at hn
  rcases List.mem_cons.1 hy with rfl|hy
  ·have:l.countP q=l.countP p:=by
    apply List.countP_congr
    intro z hz2
    rw[hz z (List.mem_cons_of_mem _ hz2) fun e=>hn.1 (e▸List.mem_map_of_mem hz2)]
   rw[List.countP_cons,List.countP_cons,this,hp,hq];simp
  ·have br:aF a≠aF y:=fun e=>hn.1 (e▸List.mem_map_of_mem hy)
   rw[List.countP_cons,List.countP_cons,ih hn.2 hy fun z hz2=>hz z (List.mem_cons_of_mem _ hz2),hz a List.mem_cons_self br]
   omega
theorem gN (l:List Bool) (v:Nat) (hv:v<l.length) (u:Nat):(l.set v true).getD u false=if u=v then true else l.getD u false:=by
 rw[List.getD_eq_getElem?_getD,List.getElem?_set]
 by_cases e:v=u
 ·subst e;rw[if_pos rfl,if_pos hv,if_pos rfl];rfl
 ·rw[if_neg e,if_neg (Ne.symm e),List.getD_eq_getElem?_getD]
theorem kH {l:List Bool} {v u:Nat} (hv:v<l.length) (h:l.getD u false=true):(l.set v true).getD u false=true:=by
 rw[gN l v hv]
 by_cases e:u=v
 ·rw[if_pos e]
 ·rw[if_neg e];exact h
structure jE (n:Nat) (s:SR) (sl:List Bool) (rest:List Int) (op:Nat) (to:Int) (k:Nat):Prop where
 len:sl.length=n+1
 sub:∀v,sl.getD v false=true→∃x∈s.ll 0,aF x=v∧0<aD s x
 low:∀x∈s.ll 0,sl.getD (aF x) false=true→aD s x<s.marks.length→ -x∈rest
 rst:∀x∈rest,-x∈s.ll 0∧sl.getD (aF x) false=true∧0<aD s x∧aD s x<s.marks.length∧aD s x≤to
 rnd:(rest.map aF).Nodup
 tto:(to=0∧rest=[])∨∃x∈rest,aD s x=to
 cnt:op=((s.ll 0).take k).countP fun x=>sl.getD (aF x) false && decide (aD s x=s.marks.length)
theorem cB (s:SR) (x:Int):aD s (-x)=aD s x:=by unfold aD;rw[bP]
theorem bj.ix {n:Nat} {s:SR} (hs:bj n s) {x:Int} (hx:x∈s.ll 0):0≤aD s x∧aD s x≤s.marks.length:=by
 obtain⟨i,hi,rfl⟩:=List.getElem_of_mem hx
 rw[hs.lev i hi]
 have:=List.countP_le_length (p:=fun m=>decide (m≤(i:Int))) (l:=s.marks)
 omega
theorem jE.start {n:Nat} {s:SR} (k:Nat):jE n s (List.replicate (n+1) false) [] 0 0 k where
 len:=by simp
 sub:=fun v hv=>by simp [List.getD_eq_getElem?_getD,List.getElem?_replicate] at hv;split at hv<;>simp at hv
 low:=fun x _ hv=>by simp [List.getD_eq_getElem?_getD,List.getElem?_replicate] at hv;split at hv<;>simp at hv
 rst:=fun x hx=>by simp at hx
 rnd:=by simp
 tto:=.inl ⟨rfl,rfl⟩
 cnt:=by
  symm
  rw[List.countP_eq_zero]
  intro x _
  have:(List.replicate (n+1) false).getD (aF x) false=false:=by
   rw[List.getD_eq_getElem?_getD,List.getElem?_replicate];split<;>rfl
  rw[this];simp
section
variable {n:Nat} {s:SR} {sl:List Bool} {rest:List Int} {op:Nat} {to:Int} {k:Nat}
theorem dT.sd {n:Nat} {L:List Int} (h:dT n L) {x:Int} (hx: -x∈L):aF x<n+1:=by
 have:=dz (h.rng _ hx)
 rw[bP] at this
 omega
theorem jE.cur (h:jE n s sl rest op to k) (hs:bj n s) {x:Int} (hx: -x∈(s.ll 0).take k) (jW:sl.getD (aF x) false=false) (hl:aD s x=s.marks.length) (hm:0<s.marks.length):jE n s (sl.set (aF x) true) rest (op+1) to k:=by
 have hx0:=List.mem_of_mem_take hx
 have hv:aF x<sl.length:=by rw[h.len];exact hs.trl.sd hx0
 have hg:=gN sl (aF x) hv
 exact
  {len:=by rw[List.length_set];exact h.len
   sub:=fun v hv2=>by
    rw[hg] at hv2
    split at hv2
    ·next e=>subst e;exact⟨-x,hx0,bP x,by rw[cB,hl];omega⟩
    ·exact h.sub v hv2
   low:=fun y hy h1 h2=>by
    rw[hg] at h1
    split at h1
    ·next e=>
     exfalso
     have:y= -x:=hs.trl.once hy hx0 (by rw[bP,e])
     rw[this,cB,hl] at h2;omega
    ·exact h.low y hy h1 h2
   rst:=fun y hy=>by
    obtain⟨q1,q2,q3⟩:=h.rst y hy
    exact⟨q1,kH hv q2,q3⟩
   rnd:=h.rnd
   tto:=h.tto
   cnt:=by
    rw[h.cnt]
    symm
    refine xn (y:= -x) ?_ hx ?_ ?_ ?_
    ·rw[List.map_take];exact hs.trl.nd.sublist (List.take_sublist _ _)
    ·simp only[bP,jW,Bool.false_and]
    ·simp only[bP,hg,cB,hl,if_pos,decide_true,Bool.and_self]
    ·intro z _ hz
     rw[bP] at hz
     simp only[hg,if_neg hz]}
theorem jE.tu (h:jE n s sl rest op to k) (hs:bj n s) {x:Int} (hx: -x∈s.ll 0) (jW:sl.getD (aF x) false=false) (hl:aD s x≠s.marks.length) (h0:aD s x≠0):jE n s (sl.set (aF x) true) (rest++ [x]) op (max to (aD s x)) k:=by
 have hv:aF x<sl.length:=by rw[h.len];exact hs.trl.sd hx
 have hg:=gN sl (aF x) hv
 have hle:=hs.ix hx
 rw[cB] at hle
 exact
  {len:=by rw[List.length_set];exact h.len
   sub:=fun v hv2=>by
    rw[hg] at hv2
    split at hv2
    ·next e=>subst e;exact⟨-x,hx,bP x,by rw[cB];omega⟩
    ·exact h.sub v hv2
   low:=fun y hy h1 h2=>by
    rw[hg] at h1
    split at h1
    ·next e=>
     have:y= -x:=hs.trl.once hy hx (by rw[bP,e])
     rw[this,Int.neg_neg];simp
    ·exact List.mem_append.2 (.inl (h.low y hy h1 h2))
   rst:=fun y hy=>by
    rcases List.mem_append.1 hy with hy|hy
    ·obtain⟨q1,q2,q3,q4,q5⟩:=h.rst y hy
     exact⟨q1,kH hv q2,q3,q4,by omega⟩
    ·rw[List.mem_singleton.1 hy]
     exact⟨hx,by rw[hg,if_pos rfl],by omega,by omega,by omega⟩
   rnd:=by
    rw[List.map_append,List.nodup_append]
    refine⟨h.rnd,by simp,fun a ha b hb=>?_⟩
    obtain⟨y,hy,rfl⟩:=List.mem_map.1 ha
    simp at hb
    subst hb
    intro e
    have:=(h.rst y hy).2.1
    rw[e,jW] at this;cases this
   tto:=by
    right
    rcases h.tto with ⟨q1,q2⟩|⟨y,hy,q⟩
    ·exact⟨x,by simp,by rw[q1];omega⟩
    ·by_cases e:to≤aD s x
     ·exact⟨x,by simp,by omega⟩
     ·exact⟨y,by simp [hy],by omega⟩
   cnt:=by
    rw[h.cnt]
    apply List.countP_congr
    intro z hz
    rw[hg]
    by_cases e:aF z=aF x
    ·have:z= -x:=hs.trl.once (List.mem_of_mem_take hz) hx (by rw[bP,e])
     subst this
     have:decide (aD s (-x)=(s.marks.length:Int))=false:=by rw[cB];simpa using hl
     simp [this]
    ·rw[if_neg e]}
end
def nR (s:SR) (sl:List Bool) (c:List Int) (piv:Int):Prop:=∀x∈c,x≠piv→sl.getD (aF x) false=true∨aD s x=0
def mW (s:SR) (sl:List Bool) (i:Nat):Prop:=∀x,(s.ll 0)[i]? =some x→∃j:Nat,j<s.nc∧x∈s.cl j∧(∀y∈s.cl j,y≠x→ -y∈(s.ll 0).take i)∧nR s sl (s.cl j) x
structure rG (n:Nat) (s:SR) (j0:Nat) (sl:List Bool) (rest:List Int) (op:Nat) (to:Int) (k:Nat) (piv:Int) (j:Nat):Prop where
 base:jE n s sl rest op to k
 hk:k≤(s.ll 0).length
 hj:j<s.nc
 cf:∀x∈s.cl j,x≠piv→ -x∈(s.ll 0).take k
 done:∀i,k<i→i<(s.ll 0).length→∀x,(s.ll 0)[i]? =some x→sl.getD (aF x) false=true→aD s x=s.marks.length→mW s sl i
 st:(piv=0∧k=(s.ll 0).length∧j=j0∧∃x∈s.cl j,aD s x=s.marks.length)∨((s.ll 0)[k]? =some piv∧piv∈s.cl j∧aD s piv=s.marks.length∧nR s sl (s.cl j0) 0∧0<op)
 one:op≤1000000
theorem nR.mono {s:SR} {sl sl':List Bool} {c:List Int} {p:Int} (h:nR s sl c p) (hm:∀v,sl.getD v false=true→sl'.getD v false=true):nR s sl' c p:=fun x hx hp=>(h x hx hp).imp (hm _) id
theorem mW.mono {s:SR} {sl sl':List Bool} {i:Nat} (h:mW s sl i) (hm:∀v,sl.getD v false=true→sl'.getD v false=true):mW s sl' i:=fun x hx=>by
 obtain⟨j,q1,q2,q3,q4⟩:=h x hx
 exact⟨j,q1,q2,q3,q4.mono hm⟩
structure jR (n:Nat) (s:SR) (j0:Nat) (k:Nat) (piv:Int) (j:Nat) (sl:List Bool) (rest:List Int) (op:Nat) (to:Int) (i:Nat):Prop where
 base:jE n s sl rest op to k
 hi:i≤(s.cl j).length
 hk:k≤(s.ll 0).length
 hj:j<s.nc
 cf:∀x∈s.cl j,x≠piv→ -x∈(s.ll 0).take k
 done:∀i,k<i→i<(s.ll 0).length→∀x,(s.ll 0)[i]? =some x→sl.getD (aF x) false=true→aD s x=s.marks.length→mW s sl i
 st:(piv=0∧k=(s.ll 0).length∧j=j0∧∃x∈s.cl j,aD s x=s.marks.length)∨((s.ll 0)[k]? =some piv∧piv∈s.cl j∧aD s piv=s.marks.length∧nR s sl (s.cl j0) 0∧0<op)
 row:∀x∈(s.cl j).take i,x≠piv→sl.getD (aF x) false=true∨aD s x=0
section
variable {n:Nat} {s:SR} {j0 k j:Nat} {piv:Int} {sl:List Bool} {rest:List Int} {op:Nat} {to:Int} {i:Nat}
theorem rG.row (h:rG n s j0 sl rest op to k piv j):jR n s j0 k piv j sl rest op to 0 where
 base:=h.base
 hi:=Nat.zero_le _
 hk:=h.hk
 hj:=h.hj
 cf:=h.cf
 done:=h.done
 st:=h.st
 row:=fun x hx=>by simp at hx
theorem jR.Ms (h:jR n s j0 k piv j sl rest op to i) (hs:bj n s):op≤n∧rest.length≤n:=by
 constructor
 ·have:=List.countP_le_length (p:=fun x=>sl.getD (aF x) false && decide (aD s x=s.marks.length)) (l:=(s.ll 0).take k)
  rw[← h.base.cnt] at this
  have:=hs.trl.len
  simp at*;omega
 ·have:=mV n h.base.rnd fun v hv=>by
   obtain⟨x,hx,rfl⟩:=List.mem_map.1 hv
   have:=dz (hs.trl.rng _ (h.base.rst x hx).1)
   rwa [bP] at this
  simpa using this
theorem jR.skip (h:jR n s j0 k piv j sl rest op to i) (hi:i<(s.cl j).length) (hc:(s.cl j)[i]=piv∨sl.getD (aF (s.cl j)[i]) false=true∨aD s (s.cl j)[i]=0):jR n s j0 k piv j sl rest op to (i+1):=
 {h with
  hi:=hi
  row:=fun x hx hp=>by
   rw[List.take_succ_eq_append_getElem hi,List.mem_append,List.mem_singleton] at hx
   rcases hx with hx|rfl
   ·exact h.row x hx hp
   ·exact hc.resolve_left hp}
theorem jR.OH (h:jR n s j0 k piv j sl rest op to i) (hi:i<(s.cl j).length) {rest':List Int} {op':Nat} {to':Int} (qw:op≤op') (hb:jE n s (sl.set (aF (s.cl j)[i]) true) rest' op' to' k) (hv:aF (s.cl j)[i]<sl.length) (dt:∀q,k<q→∀x,(s.ll 0)[q]? =some x→aF x≠aF (s.cl j)[i]):jR n s j0 k piv j (sl.set (aF (s.cl j)[i]) true) rest' op' to' (i+1):=by
 have hg:=gN sl _ hv
 have hm:∀v,sl.getD v false=true→(sl.set (aF (s.cl j)[i]) true).getD v false=true:=fun v h=>kH hv h
 exact
  {base:=hb,hi:=hi,hk:=h.hk,hj:=h.hj,cf:=h.cf
   done:=fun q h1 h2 x h3 h4 h5=>by
    rw[hg,if_neg (dt q h1 x h3)] at h4
    exact(h.done q h1 h2 x h3 h4 h5).mono hm
   st:=h.st.imp id fun⟨q1,q2,q3,q4,q5⟩=>⟨q1,q2,q3,q4.mono hm,by omega⟩
   row:=fun x hx hp=>by
    rw[List.take_succ_eq_append_getElem hi,List.mem_append,List.mem_singleton] at hx
    rcases hx with hx|rfl
    ·exact(h.row x hx hp).imp (hm _) id
    ·left;rw[hg,if_pos rfl]}
theorem uH (hs:bj n s) {x:Int} (hx: -x∈(s.ll 0).take k):∀q,k<q→∀y,(s.ll 0)[q]? =some y→aF y≠aF x:=fun q hq y hy e=>by
 obtain⟨a,ha,e2⟩:=List.getElem_of_mem hx
 rw[List.getElem_take] at e2
 obtain⟨hq2,hy2⟩:=List.getElem?_eq_some_iff.1 hy
 simp only[List.length_take] at ha
 have:a=q:=(List.getElem_inj hs.trl.nd (h₀:=by simp;omega) (h₁:=by simpa using hq2)).1 (by rw[List.getElem_map,List.getElem_map,e2,hy2,bP,e])
 omega
theorem jR.cur (h:jR n s j0 k piv j sl rest op to i) (hs:bj n s) (hm:0<s.marks.length) (hi:i<(s.cl j).length) (hp:(s.cl j)[i]≠piv) (jW:sl.getD (aF (s.cl j)[i]) false=false) (hl:aD s (s.cl j)[i]=s.marks.length):jR n s j0 k piv j (sl.set (aF (s.cl j)[i]) true) rest (op+1) to (i+1):=by
 have hx:=h.cf _ (List.getElem_mem hi) hp
 exact h.OH hi (by omega) (h.base.cur hs hx jW hl hm) (by rw[h.base.len];exact hs.trl.sd (List.mem_of_mem_take hx)) (uH hs hx)
theorem jR.tu (h:jR n s j0 k piv j sl rest op to i) (hs:bj n s) (hi:i<(s.cl j).length) (hp:(s.cl j)[i]≠piv) (jW:sl.getD (aF (s.cl j)[i]) false=false) (hl:aD s (s.cl j)[i]≠s.marks.length) (h0:aD s (s.cl j)[i]≠0):jR n s j0 k piv j (sl.set (aF (s.cl j)[i]) true) (rest++ [(s.cl j)[i]]) op (max to (aD s (s.cl j)[i])) (i+1):=by
 have hx:=h.cf _ (List.getElem_mem hi) hp
 exact h.OH hi (Nat.le_refl _) (h.base.tu hs (List.mem_of_mem_take hx) jW hl h0) (by rw[h.base.len];exact hs.trl.sd (List.mem_of_mem_take hx)) (uH hs hx)
structure gR (n:Nat) (s:SR) (j0:Nat) (k:Nat) (sl:List Bool) (rest:List Int) (op:Nat) (to:Int):Prop where
 base:jE n s sl rest op to k
 hk:k≤(s.ll 0).length
 done:∀i,k≤i→i<(s.ll 0).length→∀x,(s.ll 0)[i]? =some x→sl.getD (aF x) false=true→aD s x=s.marks.length→mW s sl i
 sj:nR s sl (s.cl j0) 0
 op:0<op
theorem jR.fin (h:jR n s j0 k piv j sl rest op to (s.cl j).length) (hs:bj n s) (hm:0<s.marks.length):gR n s j0 k sl rest op to:=by
 have bK:nR s sl (s.cl j) piv:=fun x hx hp=>h.row x (by rw[List.take_length];exact hx) hp
 have Gm:∀x∈s.cl j,x≠0:=fun x hx=>((hs.cls j h.hj).2.2 x hx).1
 refine⟨h.base,h.hk,fun i h1 h2 x h3 h4 h5=>?_,?_,?_⟩
 ·by_cases e:i=k
  ·subst e
   rcases h.st with ⟨_,q,_⟩|⟨q1,q2,q3,_⟩
   ·omega
   ·intro y hy
    rw[q1] at hy
    obtain rfl:piv=y:=by simpa using hy
    exact⟨j,h.hj,q2,h.cf,bK⟩
  ·exact h.done i (by omega) h2 x h3 h4 h5
 ·rcases h.st with ⟨q1,_,q2,_⟩|⟨_,_,_,q,_⟩
  ·rw[← q2,← q1];exact bK
  ·exact q
 ·rcases h.st with ⟨q1,_,_,x,hx,hl⟩|⟨_,_,_,_,q⟩
  ·have Ip:x≠piv:=by rw[q1];exact Gm x hx
   have jW:sl.getD (aF x) false=true:=(bK x hx Ip).resolve_right (by omega)
   rw[h.base.cnt,List.countP_pos_iff]
   exact⟨-x,h.cf x hx Ip,by rw[bP,jW,cB,hl];simp⟩
  ·exact q
end
structure l_ (n:Nat) (s:SR) (j0:Nat) (l:List Int) (to:Int):Prop where
 uip:∃a,∃h:a<(s.ll 0).length,∃rest,l= -(s.ll 0)[a]::rest∧aD s (s.ll 0)[a]=s.marks.length∧(∀x∈rest,-x∈s.ll 0∧0<aD s x∧aD s x<s.marks.length∧aD s x≤to)∧(rest.map aF).Nodup∧((to=0∧rest=[])∨∃x∈rest,aD s x=to)
 der:∃sn:Nat→Prop,(∀x∈s.cl j0,sn (aF x)∨aD s x=0)∧∀i (h:i<(s.ll 0).length),sn (aF (s.ll 0)[i])→ -(s.ll 0)[i]∈l∨∃k,k<s.nc∧(s.ll 0)[i]∈s.cl k∧∀y∈s.cl k,y≠(s.ll 0)[i]→ -y∈(s.ll 0).take i∧(sn (aF y)∨aD s y=0)
section
variable {n:Nat} {s:SR} {j0 k:Nat} {sl:List Bool} {rest:List Int} {op:Nat} {to:Int}
theorem gR.pos (h:gR n s j0 k sl rest op to):0<k:=by
 have:=h.op
 rw[h.base.cnt,List.countP_pos_iff] at this
 obtain⟨x,hx,_⟩:=this
 cases k with
 |zero=>simp at hx
 |succ k=>omega
theorem gR.down (h:gR n s j0 (k+1) sl rest op to) (hx:sl.getD (aF ((s.ll 0)[k]'h.hk)) false=false):gR n s j0 k sl rest op to where
 base:={h.base with
  cnt:=by
   have:=h.base.cnt
   rw[List.take_succ_eq_append_getElem h.hk,List.countP_append] at this
   simp only[List.countP_cons,List.countP_nil,hx,Bool.false_and,Bool.false_eq_true,if_false,Nat.add_zero,Nat.zero_add] at this
   exact this}
 hk:=by have:=h.hk;omega
 done:=fun i h1 h2 x h3 h4 h5=>by
  by_cases e:i=k
  ·subst e
   rw[List.getElem?_eq_getElem h2] at h3
   simp only[Option.some.injEq] at h3
   rw[h3,h4] at hx;cases hx
  ·exact h.done i (by omega) h2 x h3 h4 h5
 sj:=h.sj
 op:=h.op
theorem count_le {l:List Int} {a b:Int} (h:a≤b):l.countP (fun m=>decide (m≤a))≤l.countP (fun m=>decide (m≤b)):=by
 apply List.countP_mono_left
 intro m _ hm
 simp at*;omega
theorem bj.uY {n:Nat} {s:SR} (hs:bj n s) {a b:Nat} (mK:a≤b) (hb:b<(s.ll 0).length):aD s ((s.ll 0)[a]'(by omega))≤aD s (s.ll 0)[b]:=by
 rw[hs.lev a (by omega),hs.lev b hb]
 have:=count_le (l:=s.marks) (a:=a) (b:=b) (by omega)
 omega
theorem gR.found (h:gR n s j0 (k+1) sl rest op to) (hs:bj n s):aD s ((s.ll 0)[k]'h.hk)=s.marks.length:=by
 have:=h.op
 rw[h.base.cnt,List.countP_pos_iff] at this
 obtain⟨x,hx,hp⟩:=this
 obtain⟨a,ha,rfl⟩:=List.getElem_of_mem hx
 simp only[List.length_take] at ha
 rw[List.getElem_take] at hp
 simp only[Bool.and_eq_true,decide_eq_true_eq] at hp
 have h1:=hs.uY (a:=a) (b:=k) (by omega) h.hk
 have h2:=(hs.ix (List.getElem_mem h.hk)).2
 omega
theorem gR.J9 (h:gR n s j0 (k+1) sl rest op to) (hs:bj n s) (hx:sl.getD (aF ((s.ll 0)[k]'h.hk)) false=true):op - 1=((s.ll 0).take k).countP fun x=>sl.getD (aF x) false && decide (aD s x=s.marks.length):=by
 have:=h.base.cnt
 rw[List.take_succ_eq_append_getElem h.hk,List.countP_append] at this
 simp only[List.countP_cons,List.countP_nil,hx,h.found hs,decide_true,Bool.and_self,if_pos] at this
 omega
theorem gR.out (h:gR n s j0 (k+1) sl rest 1 to) (hs:bj n s) (hx:sl.getD (aF ((s.ll 0)[k]'h.hk)) false=true):l_ n s j0 (-((s.ll 0)[k]'h.hk)::rest) to where
 uip:=⟨k,h.hk,rest,rfl,h.found hs,fun x hx=>by obtain⟨q1,_,q2⟩:=h.base.rst x hx;exact⟨q1,q2⟩,h.base.rnd,h.base.tto⟩
 der:=⟨fun v=>sl.getD v false=true,fun x hx=>h.sj x hx ((hs.cls j0 (by
   -- the clause is a clause,or it has no element
   by_cases q:j0<s.nc
   ·exact q
   ·rw[(hs.fresh j0 (by omega)).1] at hx;simp at hx)).2.2 x hx).1,fun i hi jW=>by
  by_cases hl:aD s (s.ll 0)[i]<s.marks.length
  ·exact .inl (List.mem_cons_of_mem _ (h.base.low _ (List.getElem_mem hi) jW hl))
  ·have hle:=(hs.ix (List.getElem_mem hi)).2
   by_cases e:i=k
   ·subst e;exact .inl List.mem_cons_self
   ·by_cases OJ:i<k
    ·exfalso
     have h0:=h.J9 hs hx
     have:0<((s.ll 0).take k).countP fun x=>sl.getD (aF x) false && decide (aD s x=s.marks.length):=by
      rw[List.countP_pos_iff]
      refine⟨(s.ll 0)[i],?_,by rw[jW,Bool.true_and];simp;omega⟩
      rw[List.mem_take_iff_getElem]
      exact⟨i,by omega,rfl⟩
     omega
    ·obtain⟨j,q1,q2,q3,q4⟩:=h.done i (by omega) hi _ (List.getElem?_eq_getElem hi) jW (by omega) _ (List.getElem?_eq_getElem hi)
     exact .inr ⟨j,q1,q2,fun y hy br=>⟨q3 y hy br,q4 y hy br⟩⟩⟩
theorem gR.next (h:gR n s j0 (k+1) sl rest op to) (hs:bj n s) (hx:sl.getD (aF ((s.ll 0)[k]'h.hk)) false=true) (qw:op≠1):∃j:Nat,s.reason.getD (aF ((s.ll 0)[k]'h.hk)) 0=(j:Int)∧j<s.nc∧rG n s j0 sl rest (op - 1) to k ((s.ll 0)[k]'h.hk) j:=by
 have hk:=h.hk
 have hc1:=h.J9 hs hx
 have hf:=h.found hs
 have h0:=h.op
 have wV:0<((s.ll 0).take k).countP fun x=>sl.getD (aF x) false && decide (aD s x=s.marks.length):=by omega
 rw[List.countP_pos_iff] at wV
 obtain⟨x,oL,hp⟩:=wV
 obtain⟨a,ha,rfl⟩:=List.getElem_of_mem oL
 simp only[List.length_take] at ha
 rw[List.getElem_take] at hp
 simp only[Bool.and_eq_true,decide_eq_true_eq] at hp
 have ER:0<aD s (s.ll 0)[k]:=by
  obtain⟨y,hy,e1,e2⟩:=h.base.sub _ hx
  have:y=(s.ll 0)[k]:=hs.trl.once hy (List.getElem_mem hk) e1
  rw[← this];exact e2
 rcases hs.rea k hk with ⟨_,q|q⟩|⟨j,q1,q2,q3,q4⟩
 ·exfalso
  have e:=hp.2
  rw[hs.lev a (by omega)] at e
  have ec:∀m∈s.marks,decide (m≤(a:Int))=true:=by
   rw[← List.countP_eq_length];omega
  have:=ec _ q
  simp at this;omega
 ·omega
 ·refine⟨j,q2,q1,{h.base with cnt:=hc1},by omega,q1,q4,fun i h1 h2=>h.done i (by omega) h2,.inr ⟨List.getElem?_eq_getElem hk,q3,hf,h.sj,by omega⟩,?_⟩
  have:=List.countP_le_length (p:=fun x=>sl.getD (aF x) false && decide (aD s x=s.marks.length)) (l:=(s.ll 0).take k)
  have:=hs.trl.len
  have:=hs.hn
  simp at*;omega
end
theorem bj.GS {n:Nat} {s:SR} (hs:bj n s) {j:Nat} (hj:j<s.nc) (hf:∀x∈s.cl j,-x∈s.ll 0):∃x∈s.cl j,aD s x=s.marks.length:=by
 obtain⟨q1,q2,q3⟩:=hs.cls j hj
 obtain⟨m0,m1⟩:=dW q1
 refine⟨_,m0,?_⟩
 have hn0: -(c0 (s.cl j))∉(s.ll 0).take s.head.toNat:=fun cZ=>by
  have:=(hs.two j hj _ _ (.inl ⟨rfl,rfl⟩) cZ).1
  exact hs.trl.iy this (hf _ m1)
 obtain⟨i,hi,e⟩:=List.getElem_of_mem (hf _ m0)
 have uc:s.head.toNat≤i:=by
  apply Nat.le_of_not_lt
  intro aP
  apply hn0
  rw[List.mem_take_iff_getElem]
  exact⟨i,by omega,e⟩
 rw[← cB,← e,hs.lev i hi,kr fun m hm=>by have:=hs.mrk m hm;have:=hs.hd;omega]
theorem rG.start {n:Nat} {s:SR} (hs:bj n s) {j:Nat} (hj:j<s.nc) (hf:∀x∈s.cl j,-x∈s.ll 0):rG n s j (List.replicate (n+1) false) [] 0 0 (s.ll 0).length 0 j where
 base:=.start _
 hk:=Nat.le_refl _
 hj:=hj
 cf:=fun x hx _=>by rw[List.take_length];exact hf x hx
 done:=fun i h1 h2=>by omega
 st:=.inl ⟨rfl,rfl,rfl,hs.GS hj hf⟩
 one:=by omega
end Go.Ab
/- Unit propagation as a closure;what the solver's state says about the formula. -/
namespace Go.Ab
open Go Go.Proofs
inductive kI (F:List (List Int)) (A:Int→Prop):Int→Prop
 |asm {x:Int} (h:A x):kI F A x
 |unit {c:List Int} {x:Int} (hc:c∈F) (hx:x∈c) (h:∀y∈c,y≠x→kI F A (-y)):kI F A x
def mb (F:List (List Int)) (A:Int→Prop):Prop:=∃c∈F,∀y∈c,kI F A (-y)
abbrev BS (c:List Int):Int→Prop:=fun x=> -x∈c
def H8 (F:List (List Int)) (c:List Int):Prop:=mb F (BS c)∨∃x,x∈c∧ -x∈c
abbrev Bq:Int→Prop:=fun _=>False
theorem kI.cut {F F':List (List Int)} {A B:Int→Prop} {x:Int} (h:kI F A x) (hF:∀c∈F,c∈F') (hA:∀y,A y→kI F' B y):kI F' B x:=by
 induction h with
 |asm h=>exact hA _ h
 |unit hc hx _ ih=>exact .unit (hF _ hc) hx ih
theorem kI.mono {F F':List (List Int)} {A B:Int→Prop} {x:Int} (h:kI F A x) (hF:∀c∈F,c∈F') (hA:∀y,A y→B y):kI F' B x:=h.cut hF fun y hy=> .asm (hA y hy)
theorem kI.more {F:List (List Int)} {A:Int→Prop} {x:Int} (h:kI F Bq x):kI F A x:=h.mono (fun _ h=>h) fun _ h=>h.elim
theorem mb.cut {F F':List (List Int)} {A B:Int→Prop} (h:mb F A) (hF:∀c∈F,c∈F') (hA:∀y,A y→kI F' B y):mb F' B:=by
 obtain⟨c,hc,h⟩:=h
 exact⟨c,hF c hc,fun y hy=>(h y hy).cut hF hA⟩
theorem kI.both {F:List (List Int)} {A:Int→Prop} {x:Int} (h:kI F A x) (h':kI F A (-x)):mb F A∨∃y,A y∧A (-y):=by
 have key:∀{c:List Int} {z:Int},c∈F→z∈c→(∀y∈c,y≠z→kI F A (-y))→kI F A (-z)→mb F A:=fun {c z} hc hz h hn=>
  ⟨c,hc,fun y hy=>by
   by_cases e:y=z
   ·rw[e];exact hn
   ·exact h y hy e⟩
 cases h with
 |unit hc hx h=>exact .inl (key hc hx h h')
 |asm h=>
  generalize hy: -x=y at h'
  cases h' with
  |asm h2=>subst hy;exact .inr ⟨x,h,h2⟩
  |unit hc hx h2=>subst hy;exact .inl (key hc hx h2 (by rw[Int.neg_neg];exact .asm h))
def dV (σ:Nat→Bool) (x:Int):Prop:=if x<0 then σ (aF x)=false else σ (aF x)=true
def fJ (σ:Nat→Bool) (F:List (List Int)):Prop:=∀c∈F,∃x∈c,dV σ x
theorem dV.neg {σ:Nat→Bool} {x:Int} (h0:x≠0):dV σ (-x)↔¬dV σ x:=by
 unfold dV
 rw[bP]
 by_cases h:x<0
 ·rw[if_pos h,if_neg (by omega)];simp
 ·rw[if_neg h,if_pos (by omega)];simp
theorem kI.sound {F:List (List Int)} {A:Int→Prop} {σ:Nat→Bool} {x:Int} (h:kI F A x) (hF:fJ σ F) (h0:∀c∈F,∀x∈c,x≠0) (hA:∀y,A y→dV σ y):dV σ x:=by
 induction h with
 |asm h=>exact hA _ h
 | @unit c x hc hx _ ih=>
  obtain⟨y,hy,ht⟩:=hF c hc
  by_cases e:y=x
  ·rw[← e];exact ht
  ·exact absurd ht ((dV.neg (h0 c hc y hy)).1 (ih y hy e))
theorem mb.sound {F:List (List Int)} {A:Int→Prop} {σ:Nat→Bool} (h:mb F A) (hF:fJ σ F) (h0:∀c∈F,∀x∈c,x≠0):¬∀y,A y→dV σ y:=fun hA=>by
 obtain⟨c,hc,h⟩:=h
 obtain⟨y,hy,ht⟩:=hF c hc
 exact(dV.neg (h0 c hc y hy)).1 ((h y hy).sound hF h0 hA) ht
theorem H8.sound {F:List (List Int)} {c:List Int} {σ:Nat→Bool} (h:H8 F c) (hF:fJ σ F) (h0:∀c∈F,∀x∈c,x≠0) (hc:∀x∈c,x≠0):∃x∈c,dV σ x:=by
 rcases h with h|⟨x,h1,h2⟩
 ·apply Classical.byContradiction
  intro hn
  refine h.sound hF h0 fun y hy=>?_
  have h3:¬dV σ (-y):=fun hh=>hn ⟨_,hy,hh⟩
  have h4:=hc _ hy
  apply Classical.byContradiction
  intro h5
  exact h3 ((dV.neg (by omega)).2 h5)
 ·by_cases h3:dV σ x
  ·exact⟨x,h1,h3⟩
  ·exact⟨-x,h2,(dV.neg (hc x h1)).2 h3⟩
def oV (F:List (List Int)) (P:List (List Int)):Prop:=∀i (h:i<P.length),H8 (F++P.take i) P[i]
theorem oV.snoc {F P:List (List Int)} {c:List Int} (h:oV F P) (hc:H8 (F++P) c):oV F (P++ [c]):=fun i hi=>by
 simp only[List.length_append,List.length_singleton] at hi
 by_cases e:i<P.length
 ·rw[List.getElem_append_left e,List.take_append_of_le_length (by omega)];exact h i e
 ·obtain rfl:i=P.length:=by omega
  rw[List.getElem_append_right (Nat.le_refl _),List.take_append_of_le_length (Nat.le_refl _),List.take_length]
  simpa using hc
theorem oV.sound {F P:List (List Int)} {σ:Nat→Bool} (h:oV F P) (hF:fJ σ F) (h0:∀c∈F++P,∀x∈c,x≠0):fJ σ (F++P):=by
 have key:∀i,i≤P.length→fJ σ (F++P.take i):=by
  intro i
  induction i with
  |zero=>intro _;simpa using hF
  |succ i ih=>
   intro hi
   have hP:=ih (by omega)
   have h1:∀c∈F++P.take i,∀x∈c,x≠0:=fun c hc=>h0 c (by
    rcases List.mem_append.1 hc with hc|hc
    ·exact List.mem_append.2 (.inl hc)
    ·exact List.mem_append.2 (.inr (List.mem_of_mem_take hc)))
   have:=(h i (by omega)).sound hP h1 (h0 _ (List.mem_append.2 (.inr (List.getElem_mem _))))
   rw[List.take_succ_eq_append_getElem (by omega),← List.append_assoc]
   intro c hc
   rcases List.mem_append.1 hc with hc|hc
   ·exact hP c hc
   ·rw[List.mem_singleton.1 hc];exact this
 have:=key P.length (Nat.le_refl _)
 rwa [List.take_length] at this
structure Sem (n:Nat) (F:List (List Int)) (s:SR):Prop where
 lits:∀c∈F++s.proof,∀x∈c,Lit n x
 cls:∀j,j<s.nc→∃C∈F++s.proof,(∀x∈s.cl j,x∈C)∧∀x∈C,x∈s.cl j∨kI (F++s.proof) Bq (-x)
 lev0:∀x∈s.ll 0,aD s x=0→kI (F++s.proof) Bq x
 bad:s.broken=true→mb (F++s.proof) Bq
 prf:oV F s.proof
 rep:∀C∈F,s.broken=true∨(∃x∈C,x∈s.ll 0∧aD s x=0)∨(∃x∈C,-x∈C)∨∃j,j<s.nc∧∀x∈s.cl j,x∈C
section
variable {n:Nat} {F:List (List Int)} {s:SR}
theorem Sem.unit (h:Sem n F s) {A:Int→Prop} {j:Nat} (hj:j<s.nc) {x:Int} (hx:x∈s.cl j) (hd:∀y∈s.cl j,y≠x→kI (F++s.proof) A (-y)):kI (F++s.proof) A x:=by
 obtain⟨C,hC,q1,q2⟩:=h.cls j hj
 refine .unit hC (q1 x hx) fun y hy br=>?_
 rcases q2 y hy with q|q
 ·exact hd y q br
 ·exact q.more
theorem Sem.vZ (h:Sem n F s) {A:Int→Prop} {j:Nat} (hj:j<s.nc) (hd:∀y∈s.cl j,kI (F++s.proof) A (-y)):mb (F++s.proof) A:=by
 obtain⟨C,hC,q1,q2⟩:=h.cls j hj
 refine⟨C,hC,fun y hy=>?_⟩
 rcases q2 y hy with q|q
 ·exact hd y q
 ·exact q.more
theorem l4 {s t:SR} (hs:bj n s) (ht:bj n t) (hx:nJ s t) {x:Int} (h:x∈s.ll 0):aD t x=aD s x:=by
 obtain⟨ys,e⟩:=hx.ll
 obtain⟨i,hi,rfl⟩:=List.getElem_of_mem h
 have hi2:i<(t.ll 0).length:=by rw[e,List.length_append];omega
 have e2:(t.ll 0)[i]=(s.ll 0)[i]:=by simp only[e,List.getElem_append_left hi]
 have h1:=ht.lev i hi2
 rw[e2,hx.marks] at h1
 rw[h1,hs.lev i hi]
theorem Sem.prop {t:SR} {r:Int} (h:Sem n F s) (hs:bj n s) (hp:BB n s t r):Sem n F t:=by
 have hx:=hp.ext
 have ht:=hp.inv
 have epr:t.proof=s.proof:=hx.proof
 have dO:∀j x,x∈t.cl j↔x∈s.cl j:=fun j x=>(hx.cl j).mem x
 have II:∀j,j<t.nc→∃C∈F++t.proof,(∀x∈t.cl j,x∈C)∧∀x∈C,x∈t.cl j∨kI (F++t.proof) Bq (-x):=fun j hj=>by
  obtain⟨C,hC,q1,q2⟩:=h.cls j (by rw[← hx.nc];exact hj)
  rw[epr]
  exact⟨C,hC,fun x oL=>q1 x ((dO j x).1 oL),fun x oL=>(q2 x oL).imp (dO j x).2 id⟩
 obtain⟨ys,ell⟩:=hx.ll
 have hold:∀{x},x∈s.ll 0→x∈t.ll 0:=fun hm=>by rw[ell];exact List.mem_append.2 (.inl hm)
 refine⟨by rw[epr];exact h.lits,II,?_,by rw[epr,hx.broken];exact h.bad,by rw[epr];exact h.prf,fun C hC=>?_⟩
 ·have key:∀i (hi:i<(t.ll 0).length),aD t (t.ll 0)[i]=0→kI (F++t.proof) Bq (t.ll 0)[i]:=by
   intro i
   induction i using Nat.strongRecOn with
   |ind i ih=>
    intro hi hl
    by_cases hm:(t.ll 0)[i]∈s.ll 0
    ·rw[epr];exact h.lev0 _ hm (by rw[← l4 hs ht hx hm];exact hl)
    ·rcases ht.rea i hi with ⟨q,_⟩|⟨j,q1,q2,q3,q4⟩
     ·exact absurd q (hx.new _ (List.getElem_mem hi) hm)
     ·obtain⟨C,hC,p1,p2⟩:=II j q1
      refine .unit hC (p1 _ q3) fun y hy br=>?_
      rcases p2 y hy with p|p
      ·obtain⟨a,ha,e⟩:=List.getElem_of_mem (q4 y p br)
       simp only[List.length_take] at ha
       rw[List.getElem_take] at e
       have hle:=ht.uY (a:=a) (b:=i) (by omega) hi
       have h0:=(ht.ix (List.getElem_mem (show a<(t.ll 0).length by omega))).1
       rw[← e]
       exact ih a (by omega) (by omega) (by omega)
      ·exact p
  intro x oL hl
  obtain⟨i,hi,rfl⟩:=List.getElem_of_mem oL
  exact key i hi hl
 ·rcases h.rep C hC with q|⟨x,q1,q2,q3⟩|q|⟨j,q1,q2⟩
  ·exact .inl (by rw[hx.broken];exact q)
  ·exact .inr (.inl ⟨x,q1,hold q2,by rw[l4 hs ht hx q2];exact q3⟩)
  ·exact .inr (.inr (.inl q))
  ·exact .inr (.inr (.inr ⟨j,by rw[hx.nc];exact q1,fun x oL=>q2 x ((dO j x).1 oL)⟩))
theorem Sem.Jm {t:SR} {j:Nat} (h:Sem n F t) (ht:bj n t) (hm:t.marks=[]) (hj:j<t.nc) (hf:∀x∈t.cl j,-x∈t.ll 0):mb (F++t.proof) Bq:=
 h.vZ hj fun y hy=>h.lev0 _ (hf y hy) (by
  have:=ht.ix (hf y hy)
  rw[hm] at this
  simp at this;omega)
theorem l_.L5 {j:Nat} {l:List Int} {to:Int} (h:l_ n s j l to) (hS:Sem n F s) (hs:bj n s) (hj:j<s.nc) (hf:∀x∈s.cl j,-x∈s.ll 0):mb (F++s.proof) (BS l):=by
 obtain⟨sn,d1,d2⟩:=h.der
 have key:∀i (hi:i<(s.ll 0).length),(sn (aF (s.ll 0)[i])∨aD s (s.ll 0)[i]=0)→kI (F++s.proof) (BS l) (s.ll 0)[i]:=by
  intro i
  induction i using Nat.strongRecOn with
  |ind i ih=>
   intro hi hc
   rcases hc with hc|hc
   ·rcases d2 i hi hc with q|⟨k,q1,q2,q3⟩
    ·exact .asm q
    ·refine hS.unit q1 q2 fun y hy br=>?_
     obtain⟨p1,p2⟩:=q3 y hy br
     obtain⟨a,ha,e⟩:=List.getElem_of_mem p1
     simp only[List.length_take] at ha
     rw[List.getElem_take] at e
     rw[← e]
     refine ih a (by omega) (by omega) ?_
     rw[e,bP,cB];exact p2
   ·exact(hS.lev0 _ (List.getElem_mem hi) hc).more
 refine hS.vZ hj fun y hy=>?_
 obtain⟨i,hi,e⟩:=List.getElem_of_mem (hf y hy)
 rw[← e]
 refine key i hi ?_
 rw[e,bP,cB];exact d1 y hy
theorem l_.lits {j:Nat} {l:List Int} {to:Int} (h:l_ n s j l to) (hs:bj n s):∀x∈l,Lit n x:=by
 obtain⟨a,ha,rest,rfl,_,h2,_⟩:=h.uip
 have neg:∀x,-x∈s.ll 0→Lit n x:=fun x hx=>by
  have:=hs.trl.rng _ hx
  exact⟨by omega,by omega,by omega⟩
 intro x hx
 rcases List.mem_cons.1 hx with rfl|hx
 ·exact neg _ (by rw[Int.neg_neg];exact List.getElem_mem ha)
 ·exact neg x (h2 x hx).1
end
end Go.Ab
/- Going back to a level;a clause attached;a literal pushed:the solver's invariant. -/
namespace Go.Ab
open Go Go.Proofs
theorem pG {M:List Int} (hs:M.Pairwise (·≤·)) {t:Nat} (ht:t<M.length) {i:Int} (hi:i<M[t]):M.countP (fun m=>decide (m≤i))=(M.take t).countP (fun m=>decide (m≤i))∧M.countP (fun m=>decide (m≤i))≤t:=by
 have e:M.countP (fun m=>decide (m≤i))=(M.take t).countP (fun m=>decide (m≤i)):=by
  conv=>lhs;rw[← List.take_append_drop t M,List.countP_append]
  have:(M.drop t).countP (fun m=>decide (m≤i))=0:=by
   rw[List.countP_eq_zero]
   intro m hm
   obtain⟨a,ha,rfl⟩:=List.getElem_of_mem hm
   rw[List.length_drop] at ha
   rw[List.getElem_drop]
   have:=List.pairwise_iff_getElem.1 hs t (t+a) ht (by omega)
   by_cases e:a=0
   ·subst e;simp;omega
   ·have:=this (by omega)
    simp;omega
  omega
 refine⟨e,?_⟩
 rw[e]
 have:=List.countP_le_length (p:=fun m=>decide (m≤i)) (l:=M.take t)
 simp at this;omega
theorem Bw {M:List Int} (hs:M.Pairwise (·≤·)) {t:Nat} (ht:t<M.length) {i:Int} (hi:M[t]≤i):t+1≤M.countP (fun m=>decide (m≤i)):=by
 have h1:(M.take (t+1)).countP (fun m=>decide (m≤i))=(M.take (t+1)).length:=by
  rw[List.countP_eq_length]
  intro m hm
  obtain⟨a,ha,rfl⟩:=List.getElem_of_mem hm
  rw[List.length_take] at ha
  rw[List.getElem_take]
  by_cases e:a=t
  ·subst e;simpa using hi
  ·have:=List.pairwise_iff_getElem.1 hs a t (by omega) ht (by omega)
   simp;omega
 have h2:(M.take (t+1)).countP (fun m=>decide (m≤i))≤M.countP (fun m=>decide (m≤i)):=(List.take_sublist _ _).countP_le
 rw[h1,List.length_take] at h2
 omega
theorem bj.fY {n:Nat} {s:SR} (hs:bj n s) {t:Nat} (ht:t<s.marks.length) {i:Nat} (hi:i<(s.ll 0).length):aD s (s.ll 0)[i]≤t↔i<(s.marks[t]).toNat:=by
 rw[hs.lev i hi]
 have h0:=(hs.mrk _ (List.getElem_mem ht)).1
 constructor
 ·intro h
  apply Nat.lt_of_not_le
  intro uc
  have:=Bw hs.srt ht (i:=(i:Int)) (by omega)
  omega
 ·intro h
  have:=(pG hs.srt ht (i:=(i:Int)) (by omega)).2
  omega
abbrev bA (s:SR) (t:Nat):SR:=x7 (xL s t)
theorem bj.mo {n:Nat} {s:SR} (hs:bj n s) {t:Nat} (ht:t<s.marks.length):0≤s.marks[t]∧(s.marks[t]).toNat≤s.head.toNat∧s.head.toNat≤(s.ll 0).length:=by
 have:=hs.mrk _ (List.getElem_mem ht)
 have:=hs.hd
 omega
theorem gy {n:Nat} {s:SR} (hs:bj n s) {t:Nat} (ht:t<s.marks.length):(bA s t).ll 0=(s.ll 0).take (s.marks[t]).toNat∧(bA s t).head=((s.marks[t]).toNat:Int)∧(bA s t).marks=s.marks.take t:=by
 have e:s.marks.getD t 0=s.marks[t]:=aQ ht
 have h2:=hs.mo ht
 refine⟨?_,?_,rfl⟩
 ·show aB s.ll 0 ((s.ll 0).take (s.marks.getD t 0).toNat) 0=_
  rw[ab,e]
 ·show min s.head ((aB s.ll 0 ((s.ll 0).take (s.marks.getD t 0).toNat) 0).length:Int)=_
  have:=hs.hd
  rw[ab,e,List.length_take];omega
theorem uu (s:SR) (t:Nat) (x:Int):aD (bA s t) x=aD s x:=rfl
theorem bj.Cl {n:Nat} {s:SR} (hs:bj n s) {t:Nat} (ht:t<s.marks.length):bj n (bA s t):=by
 obtain⟨e1,e2,e3⟩:=gy hs ht
 obtain⟨h0,h1,h2⟩:=hs.mo ht
 have e:s.marks.getD t 0=s.marks[t]:=aQ ht
 have hlen:((s.ll 0).take (s.marks[t]).toNat).length=(s.marks[t]).toNat:=by rw[List.length_take];omega
 exact
  {hn:=hs.hn
   trl:=by rw[e1];exact hs.trl.take _
   val:=by
    rw[e1]
    show zeroV s.value ((s.ll 0).drop (s.marks.getD t 0).toNat)=_
    rw[e,hs.val,yZ hs.trl]
   lvl:=hs.lvl,rsn:=hs.rsn
   hd:=by rw[e1,e2,hlen];omega
   mrk:=fun m hm=>by
    rw[e3] at hm
    rw[e2]
    refine⟨(hs.mrk m (List.mem_of_mem_take hm)).1,?_⟩
    obtain⟨a,ha,rfl⟩:=List.getElem_of_mem hm
    rw[List.length_take] at ha
    rw[List.getElem_take]
    have:=List.pairwise_iff_getElem.1 hs.srt a t (by omega) ht (by omega)
    omega
   lev:=fun i hi=>by
    simp only[e1] at hi ⊢
    rw[hlen] at hi
    rw[List.getElem_take,uu,hs.lev i (by omega),e3,(pG hs.srt ht (i:=(i:Int)) (by omega)).1]
   cls:=hs.cls,fresh:=hs.fresh,nc:=hs.nc,nw:=hs.nw,wt:=hs.wt,wnd:=hs.wnd,wto:=hs.wto
   two:=fun j hj w w' hw cZ=>by
    rw[e1,e2,Int.toNat_natCast,List.take_take,Nat.min_self] at cZ
    have xb: -w∈(s.ll 0).take s.head.toNat:=(List.take_sublist_take_left h1).subset cZ
    obtain⟨q1,q2⟩:=hs.two j hj w w' hw xb
    refine⟨?_,q2⟩
    obtain⟨a,ha,ea⟩:=List.getElem_of_mem cZ
    rw[hlen] at ha
    rw[List.getElem_take] at ea
    have Il:aD s w≤t:=by rw[← cB,← ea];exact(hs.fY ht (by omega)).2 ha
    obtain⟨b,hb,rfl⟩:=List.getElem_of_mem q1
    have Rw:=(hs.fY ht hb).1 (by omega)
    rw[e1,List.mem_take_iff_getElem]
    exact⟨b,by omega,rfl⟩
   srt:=by rw[e3];exact hs.srt.sublist (List.take_sublist _ _)
   rea:=fun i hi=>by
    simp only[e1] at hi ⊢
    rw[hlen] at hi
    rw[List.getElem_take,uu,List.take_take,Nat.min_eq_left (by omega)]
    rcases hs.rea i (by omega) with ⟨q1,q2⟩|q
    ·refine .inl ⟨q1,q2.imp (fun q=>?_) id⟩
     rw[e3]
     obtain⟨a,ha,ea⟩:=List.getElem_of_mem q
     have oq:a<t:=by
      apply Nat.lt_of_not_le
      intro uc
      by_cases e4:a=t
      ·subst e4;omega
      ·have:=List.pairwise_iff_getElem.1 hs.srt t a ht ha (by omega)
       omega
     rw[List.mem_take_iff_getElem]
     exact⟨a,by omega,ea⟩
    ·exact .inr q}
theorem Sem.Cl {n:Nat} {F:List (List Int)} {s:SR} (h:Sem n F s) (hs:bj n s) {t:Nat} (ht:t<s.marks.length):Sem n F (bA s t):=by
 obtain⟨e1,e2,e3⟩:=gy hs ht
 refine⟨h.lits,h.cls,fun x hx hl=>h.lev0 x (by rw[e1] at hx;exact List.mem_of_mem_take hx) hl,h.bad,h.prf,fun C hC=>?_⟩
 rcases h.rep C hC with q|⟨x,q1,q2,q3⟩|q|q
 ·exact .inl q
 ·refine .inr (.inl ⟨x,q1,?_,q3⟩)
  obtain⟨i,hi,rfl⟩:=List.getElem_of_mem q2
  rw[e1,List.mem_take_iff_getElem]
  have:=(hs.fY ht hi).1 (by omega)
  exact⟨i,by omega,rfl⟩
 ·exact .inr (.inr (.inl q))
 ·exact .inr (.inr (.inr q))
def fi (s:SR) (c:List Int) (h0 h1 h2:Value):SR:=dU (dU {s with nc:=s.nc+1,hc:=aB s.hc s.nc h0,cl:=aB s.cl s.nc c} (c0 c) s.nc h1) (c1 c) s.nc h2
section
variable {n:Nat} {s:SR} {c:List Int} {h0 h1 h2:Value}
theorem G0 (hs:bj n s) (hc:2≤c.length) (dt:c.Nodup) (hl:∀x∈c,Lit n x) {x:Int} (hx:Lit n x):(fi s c h0 h1 h2).wl (al x).toNat=s.wl (al x).toNat++(if x=c0 c∨x=c1 c then [(s.nc:Int)] else []):=by
 obtain⟨m0,m1⟩:=dW hc
 have br:c0 c≠c1 c:=fun e=>by
  rw[show c0 c=c[0] from aQ (by omega),show c1 c=c[1] from aQ (by omega)] at e
  have:=(List.getElem_inj dt (h₀:=by omega) (h₁:=by omega)).1 e
  omega
 have dA:∀{y},Lit n y→y≠x→(al x).toNat≠(al y).toNat:=fun hy br e=>br (cA hx hy e).symm
 show aB (aB s.wl (al (c0 c)).toNat (s.wl (al (c0 c)).toNat++ [(s.nc:Int)])) (al (c1 c)).toNat (aB s.wl (al (c0 c)).toNat (s.wl (al (c0 c)).toNat++ [(s.nc:Int)]) (al (c1 c)).toNat++ [(s.nc:Int)]) (al x).toNat=_
 by_cases e1:x=c1 c
 ·subst e1
  rw[ab,aO _ _ (dA (hl _ m0) br),if_pos (.inr rfl)]
 ·rw[aO _ _ (dA (hl _ m1) (Ne.symm e1))]
  by_cases e0:x=c0 c
  ·subst e0
   rw[ab,if_pos (.inl rfl)]
  ·rw[aO _ _ (dA (hl _ m0) (Ne.symm e0)),if_neg (by rintro(h|h)<;>contradiction),List.append_nil]
theorem HY (hs:bj n s) (hc:2≤c.length) (dt:c.Nodup) (hl:∀x∈c,Lit n x) (k:Nat):((fi s c h0 h1 h2).wl k).Nodup:=by
 obtain⟨m0,m1⟩:=dW hc
 have br:c0 c≠c1 c:=fun e=>by
  rw[show c0 c=c[0] from aQ (by omega),show c1 c=c[1] from aQ (by omega)] at e
  have:=(List.getElem_inj dt (h₀:=by omega) (h₁:=by omega)).1 e
  omega
 have tu:∀{x},Lit n x→(s.nc:Int)∉s.wl (al x).toNat:=fun hx hm=>by
  obtain⟨j,hj,e,_⟩:=hs.wt _ hx _ hm
  omega
 have one:∀{x},Lit n x→(s.wl (al x).toNat++ [(s.nc:Int)]).Nodup:=fun hx=>by
  rw[List.nodup_append]
  refine⟨hs.wnd _,by simp,fun a ha b hb=>?_⟩
  rw[List.mem_singleton.1 hb]
  rintro rfl
  exact tu hx ha
 show(aB (aB s.wl (al (c0 c)).toNat (s.wl (al (c0 c)).toNat++ [(s.nc:Int)])) (al (c1 c)).toNat (aB s.wl (al (c0 c)).toNat (s.wl (al (c0 c)).toNat++ [(s.nc:Int)]) (al (c1 c)).toNat++ [(s.nc:Int)]) k).Nodup
 by_cases e1:k=(al (c1 c)).toNat
 ·rw[e1,ab,aO _ _ (fun e=>br (cA (hl _ m0) (hl _ m1) e.symm))]
  exact one (hl _ m1)
 ·rw[aO _ _ e1]
  by_cases e0:k=(al (c0 c)).toNat
  ·rw[e0,ab];exact one (hl _ m0)
  ·rw[aO _ _ e0];exact hs.wnd k
theorem bj.Lq (hs:bj n s) (hc:2≤c.length) (dt:c.Nodup) (hl:∀x∈c,Lit n x) (sC:s.nc+1≤100000) {t:SR} (e1:t.cl=(fi s c h0 h1 h2).cl) (e2:t.wl=(fi s c h0 h1 h2).wl) (e3:t.nc=s.nc+1) (e4:t.hc=(fi s c h0 h1 h2).hc) (e5:t.nw=s.nw)
  (trl:dT n (t.ll 0)) (val:t.value=fe n (t.ll 0)) (lvl:t.level.length=n+1) (rsn:t.reason.length=n+1) (hd:0≤t.head∧t.head≤((t.ll 0).length:Int)) (mrk:∀m∈t.marks,0≤m∧m≤t.head)
  (lev:∀i (h:i<(t.ll 0).length),aD t (t.ll 0)[i]=(t.marks.countP fun m=>decide (m≤(i:Int)):Nat)) (srt:t.marks.Pairwise (·≤·))
  (two:∀j,j<s.nc→∀w w',(w=c0 (s.cl j)∧w'=c1 (s.cl j))∨(w=c1 (s.cl j)∧w'=c0 (s.cl j))→ -w∈(t.ll 0).take t.head.toNat→w'∈t.ll 0∧aD t w'≤aD t w)
  (twoc:∀w w',(w=c0 c∧w'=c1 c)∨(w=c1 c∧w'=c0 c)→ -w∈(t.ll 0).take t.head.toNat→w'∈t.ll 0∧aD t w'≤aD t w)
  (rea:∀i (h:i<(t.ll 0).length),(t.reason.getD (aF (t.ll 0)[i]) 0= -1∧((i:Int)∈t.marks∨aD t (t.ll 0)[i]=0))∨∃j:Nat,j<s.nc+1∧t.reason.getD (aF (t.ll 0)[i]) 0=(j:Int)∧(t.ll 0)[i]∈aB s.cl s.nc c j∧∀y∈aB s.cl s.nc c j,y≠(t.ll 0)[i]→ -y∈(t.ll 0).take i):bj n t:=by
 obtain⟨m0,m1⟩:=dW hc
 have e1':t.cl=aB s.cl s.nc c:=e1
 have e4':t.hc=aB s.hc s.nc h0:=e4
 have p8:=fun {x:Int} (hx:Lit n x)=>G0 (h0:=h0) (h1:=h1) (h2:=h2) hs hc dt hl hx
 exact
  {hn:=hs.hn,trl:=trl,val:=val,lvl:=lvl,rsn:=rsn,hd:=hd,mrk:=mrk,lev:=lev,srt:=srt
   cls:=fun j hj=>by
    rw[e3] at hj
    rw[e1']
    by_cases e:j=s.nc
    ·subst e;rw[ab];exact⟨hc,dt,hl⟩
    ·rw[aO _ _ e];exact hs.cls j (by omega)
   fresh:=fun j hj=>by
    rw[e3] at hj
    rw[e1',e4',aO _ _ (by omega),aO _ _ (by omega)]
    exact hs.fresh j (by omega)
   nc:=by rw[e3];exact sC
   nw:=by rw[e5];exact hs.nw
   wt:=fun x hx e he=>by
    rw[e2,p8 hx,List.mem_append] at he
    rw[e1',e3]
    rcases he with he|he
    ·obtain⟨j,hj,q1,q2⟩:=hs.wt x hx e he
     exact⟨j,by omega,q1,by rw[aO _ _ (by omega)];exact q2⟩
    ·split at he
     ·next hx2=>
      refine⟨s.nc,by omega,by simpa using he,?_⟩
      rw[ab]
      exact hx2.imp Eq.symm Eq.symm
     ·simp at he
   wnd:=fun k=>by rw[e2];exact HY hs hc dt hl k
   wto:=fun j hj=>by
    rw[e3] at hj
    rw[e1',e2]
    by_cases e:j=s.nc
    ·subst e
     rw[ab,p8 (hl _ m0),p8 (hl _ m1),if_pos (.inl rfl),if_pos (.inr rfl)]
     simp
    ·rw[aO _ _ e]
     obtain⟨p1,_,p3⟩:=hs.cls j (by omega)
     obtain⟨n0,n1⟩:=dW p1
     rw[p8 (p3 _ n0),p8 (p3 _ n1)]
     obtain⟨q1,q2⟩:=hs.wto j (by omega)
     exact⟨List.mem_append.2 (.inl q1),List.mem_append.2 (.inl q2)⟩
   two:=fun j hj w w' hw cZ=>by
    rw[e3] at hj
    rw[e1'] at hw
    by_cases e:j=s.nc
    ·subst e;rw[ab] at hw;exact twoc w w' hw cZ
    ·rw[aO _ _ e] at hw;exact two j (by omega) w w' hw cZ
   rea:=fun i hi=>by rw[e1',e3];exact rea i hi}
theorem bj.attach (hs:bj n s) (hc:2≤c.length) (dt:c.Nodup) (hl:∀x∈c,Lit n x) (sC:s.nc+1≤100000) (hf:∀x∈c,-x∉s.ll 0):bj n (fi s c h0 h1 h2):=by
 obtain⟨m0,m1⟩:=dW hc
 refine hs.Lq hc dt hl sC rfl rfl rfl rfl rfl hs.trl hs.val hs.lvl hs.rsn hs.hd hs.mrk hs.lev hs.srt hs.two (fun w w' hw cZ=>?_) fun i hi=>?_
 ·exfalso
  have:=List.mem_of_mem_take cZ
  rcases hw with ⟨rfl,_⟩|⟨rfl,_⟩
  ·exact hf _ m0 this
  ·exact hf _ m1 this
 ·rcases hs.rea i hi with q|⟨j,q1,q2,q3,q4⟩
  ·exact .inl q
  ·exact .inr ⟨j,by omega,q2,by rw[aO _ _ (by omega)];exact q3,by rw[aO _ _ (by omega)];exact q4⟩
theorem bj.lW (hs:bj n s) (hc:2≤c.length) (dt:c.Nodup) (hl:∀x∈c,Lit n x) (sC:s.nc+1≤100000) (hu1:c0 c∉s.ll 0) (hu2: -(c0 c)∉s.ll 0) (hf:∀x∈c,x≠c0 c→ -x∈s.ll 0) (ER:aD s (c1 c)=s.marks.length) {h:Value}:bj n (a6 (fi s c h0 h1 h2) (c0 c) s.nc h):=by
 obtain⟨m0,m1⟩:=dW hc
 have jC:=hl _ m0
 have br:c1 c≠c0 c:=fun e=>by
  rw[show c0 c=c[0] from aQ (by omega),show c1 c=c[1] from aQ (by omega)] at e
  have:=(List.getElem_inj dt (h₀:=by omega) (h₁:=by omega)).1 e
  omega
 have eC:(a6 (fi s c h0 h1 h2) (c0 c) s.nc h).ll 0=s.ll 0++ [c0 c]:=dL _ _ _ _
 have hold:∀{y},y∈s.ll 0∨ -y∈s.ll 0→aF y≠aF (c0 c):=fun hy=>jr (n:=n) hu1 hu2 hy
 have lL:∀{y},aF y≠aF (c0 c)→aD (a6 (fi s c h0 h1 h2) (c0 c) s.nc h) y=aD s y:=fun hy=>cV (s:=fi s c h0 h1 h2) hy
 have OA:aD (a6 (fi s c h0 h1 h2) (c0 c) s.nc h) (c0 c)=s.marks.length:=by
  have:=dz jC
  unfold aD a6
  simp only
  rw[List.getD_eq_getElem?_getD,List.getElem?_set,if_pos rfl,if_pos (by show _<s.level.length;rw[hs.lvl];omega)];rfl
 have mE:∀{y},aF y≠aF (c0 c)→(a6 (fi s c h0 h1 h2) (c0 c) s.nc h).reason.getD (aF y) 0=s.reason.getD (aF y) 0:=fun hy=>gf (s:=fi s c h0 h1 h2) hy
 have De:s.head.toNat≤(s.ll 0).length:=by have:=hs.hd;omega
 have F2:∀i (hi:i<((a6 (fi s c h0 h1 h2) (c0 c) s.nc h).ll 0).length),(∃hi':i<(s.ll 0).length,((a6 (fi s c h0 h1 h2) (c0 c) s.nc h).ll 0)[i]=(s.ll 0)[i])∨(i=(s.ll 0).length∧((a6 (fi s c h0 h1 h2) (c0 c) s.nc h).ll 0)[i]=c0 c):=fun i hi=>by
  simp only[eC] at hi ⊢
  have hi':i<(s.ll 0).length+1:=by simpa using hi
  by_cases e:i<(s.ll 0).length
  ·exact .inl ⟨e,List.getElem_append_left e⟩
  ·have e2:i=(s.ll 0).length:=by omega
   subst e2
   exact .inr ⟨rfl,by rw[List.getElem_append_right (Nat.le_refl _)];simp⟩
 refine hs.Lq hc dt hl sC (h0:=h0) (h1:=h1) (h2:=h2) rfl rfl rfl rfl rfl (by rw[eC];exact hs.trl.push jC hu1 hu2) (by rw[eC];show s.value.set _ _=_;rw[hs.val];exact rQ jC hu1 hu2) (by show(s.level.set _ _).length=_;rw[List.length_set];exact hs.lvl) (by show(s.reason.set _ _).length=_;rw[List.length_set];exact hs.rsn)
  (by rw[eC];have:=hs.hd;simp only[List.length_append,List.length_singleton];exact⟨this.1,by show s.head≤_;omega⟩) hs.mrk (fun i hi=>?_) hs.srt (fun j hj w w' hw cZ=>?_) (fun w w' hw cZ=>?_) fun i hi=>?_
 ·rcases F2 i hi with ⟨hi',e⟩|⟨e1,e⟩
  ·rw[e,lL (hold (.inl (List.getElem_mem hi')))];exact hs.lev i hi'
  ·rw[e,OA,e1]
   show _=((s.marks.countP _:Nat):Int)
   rw[kr fun m hm=>by have:=hs.mrk m hm;have:=hs.hd;omega]
 ·have cZ: -w∈((a6 (fi s c h0 h1 h2) (c0 c) s.nc h).ll 0).take s.head.toNat:=cZ
  rw[eC,List.take_append_of_le_length De] at cZ
  obtain⟨q1,q2⟩:=hs.two j hj w w' hw cZ
  rw[eC,lL (hold (.inl q1)),lL (hold (.inr (List.mem_of_mem_take cZ)))]
  exact⟨List.mem_append.2 (.inl q1),q2⟩
 ·have cZ: -w∈((a6 (fi s c h0 h1 h2) (c0 c) s.nc h).ll 0).take s.head.toNat:=cZ
  rw[eC,List.take_append_of_le_length De] at cZ
  have xb:=List.mem_of_mem_take cZ
  rcases hw with ⟨rfl,rfl⟩|⟨rfl,rfl⟩
  ·exact absurd xb hu2
  ·rw[eC,OA,lL (hold (.inr xb)),ER]
   exact⟨by simp,Int.le_refl _⟩
 ·rcases F2 i hi with ⟨hi',e⟩|⟨e1,e⟩
  ·rw[e,mE (hold (.inl (List.getElem_mem hi'))),lL (hold (.inl (List.getElem_mem hi'))),eC,List.take_append_of_le_length (by omega)]
   rcases hs.rea i hi' with q|⟨j,q1,q2,q3,q4⟩
   ·exact .inl q
   ·exact .inr ⟨j,by omega,q2,by rw[aO _ _ (by omega)];exact q3,by rw[aO _ _ (by omega)];exact q4⟩
  ·right
   refine⟨s.nc,by omega,?_,?_,?_⟩
   ·rw[e]
    have:=dz jC
    unfold a6
    simp only
    rw[List.getD_eq_getElem?_getD,List.getElem?_set,if_pos rfl,if_pos (by show _<s.reason.length;rw[hs.rsn];omega)];rfl
   ·rw[e,ab];exact m0
   ·rw[e,e1,ab,eC,List.take_append_of_le_length (Nat.le_refl _),List.take_length]
    exact hf
end
end Go.Ab
/- The search's invariant:decisions,assumptions,the word that grows with each conflict. -/
namespace Go.Ab
open Go Go.Proofs
def fX (n:Nat) (M:List Int):Nat→Nat
 |0=>0
 |k+1=>fX n M k+(if (k:Int)∈M then 1 else 2)*3 ^ (n - 1 - k)
theorem ko (n:Nat) (M:List Int) (k:Nat):fX n M (k+1)=fX n M k+(if (k:Int)∈M then 1 else 2)*3 ^ (n - 1 - k):=rfl
theorem EP (n:Nat) (M:List Int) {k:Nat} (hk:k+1≤n):fX n M (k+1)+3 ^ (n - (k+1))≤fX n M k+3 ^ (n - k):=by
 have e:n - k=(n - 1 - k)+1:=by omega
 have e2:n - (k+1)=n - 1 - k:=by omega
 rw[e2,e,Nat.pow_succ,ko]
 split<;>omega
theorem xr (n:Nat) (M:List Int) {a b:Nat} (mK:a≤b) (hb:b≤n):fX n M b+3 ^ (n - b)≤fX n M a+3 ^ (n - a):=by
 obtain⟨d,rfl⟩:=Nat.exists_eq_add_of_le mK
 clear mK
 induction d with
 |zero=>exact Nat.le_refl _
 |succ d ih=>
  have h1:=EP n M (k:=a+d) hb
  have h2:=ih (by omega)
  rw[← Nat.add_assoc]
  omega
theorem Fe (n:Nat) (M:List Int) {k:Nat} (hk:k≤n):fX n M k<3 ^ n:=by
 have:=xr n M (Nat.zero_le k) hk
 simp only[fX,Nat.zero_add,Nat.sub_zero] at this
 have:0<3 ^ (n - k):=Nat.pow_pos (by omega)
 omega
theorem rh (n:Nat) (M:List Int) {a b:Nat} (mK:a≤b):fX n M a≤fX n M b:=by
 obtain⟨d,rfl⟩:=Nat.exists_eq_add_of_le mK
 clear mK
 induction d with
 |zero=>exact Nat.le_refl _
 |succ d ih=>rw[← Nat.add_assoc,ko];omega
theorem oZ (n:Nat) {M M':List Int} {k:Nat} (h:∀i,i<k→((i:Int)∈M↔(i:Int)∈M')):fX n M k=fX n M' k:=by
 induction k with
 |zero=>rfl
 |succ k ih=>
  rw[ko,ko,ih fun i hi=>h i (by omega)]
  by_cases e:(k:Int)∈M
  ·rw[if_pos e,if_pos ((h k (by omega)).1 e)]
  ·rw[if_neg e,if_neg (fun q=>e ((h k (by omega)).2 q))]
theorem CW {n:Nat} {M:List Int} (hs:M.Pairwise (·≤·)) (h0:∀m∈M,0≤m) {t:Nat} (ht:t<M.length) (aP:t=0∨∀m∈M.take t,m<M[t]) {len:Nat} (hl:(M[t]).toNat≤len) (hn:len≤n) (RB:(M[t]).toNat+1≤n):fX n M len<fX n (M.take t) ((M[t]).toNat+1):=by
 have hm0:=h0 _ (List.getElem_mem ht)
 have eE:∀i:Nat,i<(M[t]).toNat→((i:Int)∈M↔(i:Int)∈M.take t):=fun i hi=>by
  refine⟨fun h=>?_,fun h=>List.mem_of_mem_take h⟩
  obtain⟨a,ha,e⟩:=List.getElem_of_mem h
  have oq:a<t:=by
   apply Nat.lt_of_not_le
   intro uc
   by_cases e4:a=t
   ·subst e4;omega
   ·have:=List.pairwise_iff_getElem.1 hs t a ht ha (by omega)
    omega
  rw[List.mem_take_iff_getElem]
  exact⟨a,by omega,e⟩
 have e1:=oZ n eE
 have zO:¬(((M[t]).toNat:Nat):Int)∈M.take t:=fun h=>by
  rcases aP with rfl|q
  ·simp at h
  ·have:=q _ h;omega
 have e2:fX n (M.take t) ((M[t]).toNat+1)=fX n M (M[t]).toNat+2*3 ^ (n - 1 - (M[t]).toNat):=by
  rw[fX,← e1,if_neg zO]
 have wV:0<3 ^ (n - 1 - (M[t]).toNat):=Nat.pow_pos (by omega)
 by_cases e:(M[t]).toNat=len
 ·rw[← e,e2];omega
 ·have h3:=xr n M (a:=(M[t]).toNat+1) (b:=len) (by omega) hn
  have cZ:((((M[t]).toNat:Nat):Int))∈M:=by rw[Int.toNat_of_nonneg hm0];exact List.getElem_mem ht
  have e3:fX n M ((M[t]).toNat+1)=fX n M (M[t]).toNat+1*3 ^ (n - 1 - (M[t]).toNat):=by rw[fX,if_pos cZ]
  have e4:n - ((M[t]).toNat+1)=n - 1 - (M[t]).toNat:=by omega
  have:0<3 ^ (n - len):=Nat.pow_pos (by omega)
  rw[e3,e4] at h3
  omega
def qf (n:Nat) (s:SR):Prop:=∃k:Nat,s.low=(k:Int)∧1≤k∧k≤n+1∧∀u:Nat,1≤u→u<k→(u:Int)∈s.ll 0∨ -(u:Int)∈s.ll 0
structure SI (n:Nat) (F:List (List Int)) (A:List Int) (P0 N0:Nat) (s:SR) (met:Nat):Prop where
 inv:bj n s
 sem:Sem n F s
 dec:∀m∈s.marks,∀x,(s.ll 0)[m.toNat]? =some x→s.reason.getD (aF x) 0= -1→x∈A∨(A.length:Int)<aD s x∧∃v:Nat,x= -(v:Int)∧∀u:Nat,0<u→u<v→(u:Int)∈(s.ll 0).take m.toNat∨ -(u:Int)∈(s.ll 0).take m.toNat
 asm:∀i,i<s.marks.length→∀x,A[i]? =some x→x∈s.ll 0∧aD s x≤i+1
 plen:s.proof.length=P0+met
 ncl:s.nc≤N0+met
 wrd:met≤fX n s.marks (s.ll 0).length
 low:qf n s
section
variable {n:Nat} {F:List (List Int)} {A:List Int} {P0 N0:Nat} {s:SR} {met:Nat}
theorem SI.AI (h:SI n F A P0 N0 s met):met<3 ^ n:=Nat.lt_of_le_of_lt h.wrd (Fe n _ h.inv.trl.len)
theorem SI.prop {t:SR} {r:Int} (h:SI n F A P0 N0 s met) (hp:BB n s t r):SI n F A P0 N0 t met:=by
 have hx:=hp.ext
 obtain⟨ys,ell⟩:=hx.ll
 have hold:∀{x},x∈s.ll 0→x∈t.ll 0:=fun hm=>by rw[ell];exact List.mem_append.2 (.inl hm)
 exact
  {inv:=hp.inv
   sem:=h.sem.prop h.inv hp
   dec:=fun m hm x oL hr=>by
    rw[hx.marks] at hm
    have hm2:=h.inv.mrk m hm
    have hd:=h.inv.hd
    by_cases e:x∈s.ll 0
    ·rw[hx.tu x e] at hr
     have aP:m.toNat<(s.ll 0).length:=by
      apply Nat.lt_of_not_le
      intro uc
      obtain⟨i,hi,ei⟩:=List.getElem_of_mem e
      obtain⟨hm3,em⟩:=List.getElem?_eq_some_iff.1 oL
      have e2:(t.ll 0)[i]'(by rw[ell,List.length_append];omega)=x:=by simp only[ell,List.getElem_append_left hi,ei]
      have:i=m.toNat:=(List.getElem_inj hp.inv.trl.nd (h₀:=by simp [ell];omega) (h₁:=by simpa using hm3)).1 (by rw[List.getElem_map,List.getElem_map,e2,em])
      omega
     rw[ell,List.getElem?_append_left aP] at oL
     rw[ell,List.take_append_of_le_length (by omega),l4 h.inv hp.inv hx e]
     exact h.dec m hm x oL hr
    ·exact absurd hr (hx.new x (List.mem_of_getElem? oL) e)
   asm:=fun i hi x JK=>by
    rw[hx.marks] at hi
    obtain⟨q1,q2⟩:=h.asm i hi x JK
    exact⟨hold q1,by rw[l4 h.inv hp.inv hx q1];exact q2⟩
   plen:=by rw[hx.proof];exact h.plen
   ncl:=by rw[hx.nc];exact h.ncl
   wrd:=by
    rw[hx.marks,ell,List.length_append]
    exact Nat.le_trans h.wrd (rh n _ (by omega))
   low:=by
    obtain⟨k,q1,q2,q3,q4⟩:=h.low
    exact⟨k,by rw[hx.low];exact q1,q2,q3,fun u h1 h2=>(q4 u h1 h2).imp hold hold⟩}
theorem bj.prf (h:bj n s) (P:List (List Int)):bj n {s with proof:=P}:=
 {hn:=h.hn,trl:=h.trl,val:=h.val,lvl:=h.lvl,rsn:=h.rsn,hd:=h.hd,mrk:=h.mrk,lev:=h.lev,cls:=h.cls,fresh:=h.fresh,nc:=h.nc,nw:=h.nw,wt:=h.wt,wnd:=h.wnd,wto:=h.wto,two:=h.two,srt:=h.srt,rea:=h.rea}
def ji (s:SR) (l:List Int):SR:={s with proof:=s.proof++ [l]}
theorem Sem.more (h:Sem n F s) {l:List Int} (hr:H8 (F++s.proof) l) (hl:∀x∈l,Lit n x):Sem n F (ji s l):=by
 have eE:∀c∈F++s.proof,c∈F++(s.proof++ [l]):=fun c hc=>by
  rcases List.mem_append.1 hc with hc|hc
  ·exact List.mem_append.2 (.inl hc)
  ·exact List.mem_append.2 (.inr (List.mem_append.2 (.inl hc)))
 exact
  {lits:=fun c hc=>by
    have hc:c∈F++(s.proof++ [l]):=hc
    rw[← List.append_assoc] at hc
    rcases List.mem_append.1 hc with hc|hc
    ·exact h.lits c hc
    ·rw[List.mem_singleton.1 hc];exact hl
   cls:=fun j hj=>by
    obtain⟨C,hC,q1,q2⟩:=h.cls j hj
    exact⟨C,eE C hC,q1,fun x hx=>(q2 x hx).imp id fun q=>q.mono eE fun _ h=>h⟩
   lev0:=fun x hx hl=>(h.lev0 x hx hl).mono eE fun _ h=>h
   bad:=fun hb=>(h.bad hb).cut eE fun _ h=>h.elim
   prf:=h.prf.snoc hr
   rep:=h.rep}
theorem bj.mark (h:bj n s) (hh:s.head=((s.ll 0).length:Int)):bj n (cu s):=
 {hn:=h.hn,trl:=h.trl,val:=h.val,lvl:=h.lvl,rsn:=h.rsn,hd:=h.hd
  mrk:=fun m hm=>by
   have hm:m∈s.marks++ [((s.ll 0).length:Int)]:=hm
   rcases List.mem_append.1 hm with hm|hm
   ·exact h.mrk m hm
   ·rw[List.mem_singleton.1 hm];show _∧_≤s.head;omega
  lev:=fun i hi=>by
   have e:(s.marks++ [((s.ll 0).length:Int)]).countP (fun m=>decide (m≤(i:Int)))=s.marks.countP (fun m=>decide (m≤(i:Int))):=by
    have hi:i<(s.ll 0).length:=hi
    rw[List.countP_append]
    have:decide (((s.ll 0).length:Int)≤(i:Int))=false:=by simp;omega
    rw[List.countP_singleton,this];rfl
   show aD s (s.ll 0)[i]=(((s.marks++ [((s.ll 0).length:Int)]).countP _:Nat):Int)
   rw[e];exact h.lev i hi
  cls:=h.cls,fresh:=h.fresh,nc:=h.nc,nw:=h.nw,wt:=h.wt,wnd:=h.wnd,wto:=h.wto,two:=h.two
  srt:=by
   show(s.marks++ [((s.ll 0).length:Int)]).Pairwise _
   rw[List.pairwise_append]
   exact⟨h.srt,by simp,fun a ha b hb=>by rw[List.mem_singleton.1 hb];have:=h.mrk a ha;have:=h.hd;omega⟩
  rea:=fun i hi=>(h.rea i hi).imp (fun⟨q1,q2⟩=>⟨q1,q2.imp (fun q=>List.mem_append.2 (.inl q)) id⟩) id}
theorem ri (n:Nat) (M:List Int) (k:Nat):fX n (M++ [(k:Int)]) k=fX n M k:=by
 refine oZ n fun i hi=>?_
 rw[List.mem_append,List.mem_singleton]
 constructor
 ·rintro(h|h)
  ·exact h
  ·omega
 ·exact .inl
theorem SI.Bk (h:SI n F A P0 N0 s met) (hh:s.head=((s.ll 0).length:Int)) (hA:s.marks.length<A.length) (hx:A[s.marks.length]∈s.ll 0):SI n F A P0 N0 (cu s) met where
 inv:=h.inv.mark hh
 sem:=⟨h.sem.lits,h.sem.cls,h.sem.lev0,h.sem.bad,h.sem.prf,h.sem.rep⟩
 dec:=fun m hm x oL hr=>by
  have hm:m∈s.marks++ [((s.ll 0).length:Int)]:=hm
  rcases List.mem_append.1 hm with hm|hm
  ·exact h.dec m hm x oL hr
  ·rw[List.mem_singleton.1 hm] at oL
   have oL:(s.ll 0)[((s.ll 0).length:Int).toNat]? =some x:=oL
   simp at oL
 asm:=fun i hi x JK=>by
  have hi:i<(s.marks++ [((s.ll 0).length:Int)]).length:=hi
  simp only[List.length_append,List.length_singleton] at hi
  by_cases e:i<s.marks.length
  ·exact h.asm i e x JK
  ·obtain rfl:i=s.marks.length:=by omega
   rw[List.getElem?_eq_getElem hA] at JK
   obtain rfl:A[s.marks.length]=x:=by simpa using JK
   have:=(h.inv.ix hx).2
   exact⟨hx,by show aD s _≤_;omega⟩
 plen:=h.plen
 ncl:=h.ncl
 wrd:=by
  show met≤fX n (s.marks++ [((s.ll 0).length:Int)]) (s.ll 0).length
  rw[ri];exact h.wrd
 low:=h.low
theorem SI.Bu (h:SI n F A P0 N0 s met) (hh:s.head=((s.ll 0).length:Int)) {x:Int} (hx:Lit n x) (h1:x∉s.ll 0) (h2: -x∉s.ll 0) (hv:Value) (hA:∀y,A[s.marks.length]? =some y→x=y)
  (hd:x∈A∨A.length≤s.marks.length∧∃v:Nat,x= -(v:Int)∧∀u:Nat,0<u→u<v→(u:Int)∈s.ll 0∨ -(u:Int)∈s.ll 0):SI n F A P0 N0 (a6 (cu s) x (-1) hv) met:=by
 have hm:=h.inv.mark hh
 have eC:(a6 (cu s) x (-1) hv).ll 0=s.ll 0++ [x]:=dL _ _ _ _
 have hi:=hm.push (r:= -1) hv hx h1 h2 (.inl ⟨rfl,.inl (List.mem_append.2 (.inr (by simp [cu])))⟩)
 have hold:∀{y},y∈s.ll 0∨ -y∈s.ll 0→aF y≠aF x:=fun hy=>jr (n:=n) h1 h2 hy
 have lL:∀{y},y∈s.ll 0→aD (a6 (cu s) x (-1) hv) y=aD s y:=fun hy=>cV (s:=cu s) (hold (.inl hy))
 have My:aD (a6 (cu s) x (-1) hv) x=(s.marks.length+1:Nat):=by
  rw[gD hm hx];show(((s.marks++ [_]).length:Nat):Int)=_;simp
 have vR:(a6 (cu s) x (-1) hv).marks=s.marks++ [((s.ll 0).length:Int)]:=rfl
 exact
  {inv:=hi
   sem:=
    {lits:=h.sem.lits,cls:=h.sem.cls,bad:=h.sem.bad,prf:=h.sem.prf
     lev0:=fun y hy hl=>by
      rw[eC] at hy
      rcases List.mem_append.1 hy with hy|hy
      ·exact h.sem.lev0 y hy (by rw[← lL hy];exact hl)
      ·rw[List.mem_singleton.1 hy,My] at hl;omega
     rep:=fun C hC=>by
      rcases h.sem.rep C hC with q|⟨y,q1,q2,q3⟩|q|q
      ·exact .inl q
      ·exact .inr (.inl ⟨y,q1,by rw[eC];exact List.mem_append.2 (.inl q2),by rw[lL q2];exact q3⟩)
      ·exact .inr (.inr (.inl q))
      ·exact .inr (.inr (.inr q))}
   dec:=fun m hm2 y hy hr=>by
    rw[vR] at hm2
    rw[eC] at hy ⊢
    have rE:m.toNat≤(s.ll 0).length:=by
     rcases List.mem_append.1 hm2 with q|q
     ·have:=h.inv.mrk m q;have:=h.inv.hd;omega
     ·rw[List.mem_singleton.1 q];simp
    rw[List.take_append_of_le_length rE]
    by_cases e:m.toNat<(s.ll 0).length
    ·rw[List.getElem?_append_left e] at hy
     have hy2:=List.mem_of_getElem? hy
     rw[gf (s:=cu s) (hold (.inl hy2))] at hr
     rw[lL hy2]
     refine h.dec m ?_ y hy hr
     rcases List.mem_append.1 hm2 with q|q
     ·exact q
     ·rw[List.mem_singleton.1 q] at e;simp at e
    ·have e2:m.toNat=(s.ll 0).length:=by omega
     rw[e2,List.getElem?_append_right (Nat.le_refl _)] at hy
     obtain rfl:x=y:=by simpa using hy
     rw[e2,List.take_length,My]
     exact hd.imp id fun⟨q1,q2⟩=>⟨by omega,q2⟩
   asm:=fun i hi2 y hy=>by
    rw[vR] at hi2
    simp only[List.length_append,List.length_singleton] at hi2
    by_cases e:i<s.marks.length
    ·obtain⟨q1,q2⟩:=h.asm i e y hy
     exact⟨by rw[eC];exact List.mem_append.2 (.inl q1),by rw[lL q1];exact q2⟩
    ·obtain rfl:i=s.marks.length:=by omega
     rw[← hA y hy,eC,My]
     exact⟨by simp,by omega⟩
   plen:=h.plen
   ncl:=h.ncl
   wrd:=by
    rw[vR,eC,List.length_append]
    refine Nat.le_trans ?_ (rh n _ (Nat.le_add_right _ _))
    rw[ri];exact h.wrd
   low:=by
    obtain⟨k,q1,q2,q3,q4⟩:=h.low
    exact⟨k,q1,q2,q3,fun u h1 h2=>by rw[eC];exact(q4 u h1 h2).imp (fun q=>List.mem_append.2 (.inl q)) (fun q=>List.mem_append.2 (.inl q))⟩}
end
end Go.Ab
/- The search's invariant:a clause learned. -/
namespace Go.Ab
open Go Go.Proofs
theorem sJ {l:List Int} {b u:Int}:u<jN b l↔u<b∧∀x∈l,u<max x (-x):=by
 unfold jN
 induction l generalizing b with
 |nil=>simp
 |cons x l ih=>
  rw[List.foldl_cons,ih]
  simp only[List.mem_cons,forall_eq_or_imp]
  constructor
  ·rintro⟨h1,h2⟩;exact⟨by omega,by omega,h2⟩
  ·rintro⟨h1,h2,h3⟩;exact⟨by omega,h3⟩
section
variable {n:Nat} {F:List (List Int)} {A:List Int} {P0 N0:Nat} {s:SR} {met:Nat}
theorem k8 {L:List Int} {m:Nat} {x:Int} (h:x∈L):x∈L.take m∨x∈L.drop m:=by
 rw[← List.mem_append,List.take_append_drop];exact h
theorem qf.Cl (h:qf n s) (hs:bj n s) {t:Nat} (ht:t<s.marks.length):qf n (bA s t):=by
 obtain⟨k,q1,q2,q3,q4⟩:=h
 obtain⟨e1,_,_⟩:=gy hs ht
 have e:s.marks.getD t 0=s.marks[t]:=aQ ht
 have elow:(bA s t).low=jN s.low ((s.ll 0).drop (s.marks[t]).toNat):=by
  show jN s.low ((s.ll 0).drop (s.marks.getD t 0).toNat)=_
  rw[e]
 have wV:0<jN s.low ((s.ll 0).drop (s.marks[t]).toNat):=sJ.2 ⟨by omega,fun x hx=>by have:=hs.trl.rng x (List.mem_of_mem_drop hx);omega⟩
 have hle:jN s.low ((s.ll 0).drop (s.marks[t]).toNat)≤s.low:=by
  apply Int.not_lt.1
  intro aP
  have:=(sJ.1 aP).1
  omega
 refine⟨(jN s.low ((s.ll 0).drop (s.marks[t]).toNat)).toNat,by rw[elow];omega,by omega,by omega,fun u h1 h2=>?_⟩
 have hu:(u:Int)<jN s.low ((s.ll 0).drop (s.marks[t]).toNat):=by omega
 have dt:=(sJ.1 hu).2
 rw[e1]
 refine(q4 u h1 (by omega)).imp (fun q=>?_) fun q=>?_
 ·exact(k8 q).resolve_right fun hd=>by have:=dt _ hd;omega
 ·exact(k8 q).resolve_right fun hd=>by have:=dt _ hd;omega
theorem l_.lvl {j:Nat} {l:List Int} {to:Int} (h:l_ n s j l to) (hs:bj n s) (hm:0<s.marks.length):0≤to∧∃ht:to.toNat<s.marks.length,(to=0∨∀m∈s.marks.take to.toNat,m<s.marks[to.toNat]):=by
 obtain⟨a,ha,rest,_,_,h2,_,h4⟩:=h.uip
 rcases h4 with ⟨rfl,_⟩|⟨x,hx,e⟩
 ·exact⟨by omega,by simpa using hm,.inl rfl⟩
 ·obtain⟨p1,p2,p3,p4⟩:=h2 x hx
  have ht:to.toNat<s.marks.length:=by omega
  refine⟨by omega,ht,.inr fun m JW=>?_⟩
  obtain⟨i,hi,ei⟩:=List.getElem_of_mem p1
  have lL:aD s (s.ll 0)[i]=to:=by rw[ei,cB];exact e
  have Rv:=(hs.fY ht hi).1 (by omega)
  have Pe:=hs.lev i hi
  have h0:=(hs.mo ht).1
  obtain⟨q,hq,eq⟩:=List.getElem_of_mem JW
  rw[List.length_take] at hq
  rw[List.getElem_take] at eq
  -- all of the first marks are at or below i
  have ec:m≤(i:Int):=by
   apply Int.not_lt.1
   intro On
   have:=(pG hs.srt (t:=q) (by omega) (i:=(i:Int)) (by omega)).2
   omega
  omega
theorem SI.cut (h:SI n F A P0 N0 s met) {j:Nat} {l:List Int} {to:Int} (ha:l_ n s j l to) (hm:0<s.marks.length) (hj:j<s.nc) (hf:∀x∈s.cl j,-x∈s.ll 0) (lL:∃ht:to.toNat<s.marks.length,(to=0∨∀m∈s.marks.take to.toNat,m<s.marks[to.toNat])):
  SI n F A (P0+met+1) (N0+met) (ji (bA s to.toNat) l) 0:=by
 obtain⟨ht,aP⟩:=lL
 have hs:=h.inv
 obtain⟨e1,e2,e3⟩:=gy hs ht
 have MT:=ha.L5 h.sem hs hj hf
 have GC:=h.low.Cl hs ht
 exact
  {inv:=(hs.Cl ht).prf _
   sem:=(h.sem.Cl hs ht).more (.inl MT) (ha.lits hs)
   dec:=fun m JW x hx hr=>by
    have JW:m∈s.marks.take to.toNat:=JW
    have hx:((bA s to.toNat).ll 0)[m.toNat]? =some x:=hx
    show _∨(A.length:Int)<aD s x∧∃v:Nat,x= -(v:Int)∧∀u:Nat,0<u→u<v→(u:Int)∈((bA s to.toNat).ll 0).take m.toNat∨ -(u:Int)∈((bA s to.toNat).ll 0).take m.toNat
    rw[e1] at hx ⊢
    obtain⟨hl2,_⟩:=List.getElem?_eq_some_iff.1 hx
    rw[List.length_take] at hl2
    rw[List.getElem?_take,if_pos (by omega)] at hx
    rw[List.take_take,Nat.min_eq_left (by omega)]
    exact h.dec m (List.mem_of_mem_take JW) x hx hr
   asm:=fun i hi x hx=>by
    have hi:i<(s.marks.take to.toNat).length:=hi
    rw[List.length_take] at hi
    obtain⟨q1,q2⟩:=h.asm i (by omega) x hx
    refine⟨?_,q2⟩
    show x∈(bA s to.toNat).ll 0
    rw[e1]
    obtain⟨b,hb,rfl⟩:=List.getElem_of_mem q1
    have:=(hs.fY ht hb).1 (by omega)
    rw[List.mem_take_iff_getElem]
    exact⟨b,by omega,rfl⟩
   plen:=by show(s.proof++ [l]).length=_;rw[List.length_append,h.plen];rfl
   ncl:=h.ncl
   wrd:=Nat.zero_le _
   low:=GC}
theorem l_.back {j:Nat} {l:List Int} {to:Int} (ha:l_ n s j l to) (hs:bj n s) (lL:∃ht:to.toNat<s.marks.length,(to=0∨∀m∈s.marks.take to.toNat,m<s.marks[to.toNat])):
  ∃p rest,l=p::rest∧Lit n p∧p∉(bA s to.toNat).ll 0∧ -p∉(bA s to.toNat).ll 0∧l.Nodup∧(∀x∈rest,-x∈(bA s to.toNat).ll 0∧Lit n x∧0<aD s x∧aD s x≤to)∧(rest=[]∨∃x∈rest,aD s x=to)∧(to=0→rest=[]):=by
 obtain⟨ht,_⟩:=lL
 obtain⟨e1,_,_⟩:=gy hs ht
 have jI:=ha.lits hs
 obtain⟨a,kO,rest,rfl,h1,h2,h3,h4⟩:=ha.uip
 have MO:(s.ll 0)[a]∉(s.ll 0).take (s.marks[to.toNat]).toNat:=fun hm=>by
  obtain⟨b,hb,e⟩:=List.getElem_of_mem hm
  rw[List.length_take] at hb
  rw[List.getElem_take] at e
  have:=(hs.fY ht (i:=b) (by omega)).2 (by omega)
  rw[e,h1] at this;omega
 refine⟨_,rest,rfl,jI _ (by simp),fun hm=>?_,by rw[Int.neg_neg,e1];exact MO,?_,fun x hx=>?_,?_,?_⟩
 ·rw[e1] at hm
  exact hs.trl.iy (List.getElem_mem kO) (List.mem_of_mem_take hm)
 ·rw[List.nodup_cons]
  refine⟨fun hm=>?_,?_⟩
  ·have:=(h2 _ hm).2.2.1
   rw[cB,h1] at this;omega
  ·exact List.Pairwise.of_map aF (fun a b mK e=>mK (by rw[e])) h3
 ·obtain⟨p1,p2,p3,p4⟩:=h2 x hx
  refine⟨?_,jI x (by simp [hx]),p2,p4⟩
  obtain⟨i,hi,e⟩:=List.getElem_of_mem p1
  rw[e1,List.mem_take_iff_getElem]
  refine⟨i,?_,e⟩
  have:=(hs.fY ht hi).1 (by rw[e,cB];omega)
  omega
 ·exact h4.imp (fun q=>q.2) id
 ·intro e0
  rcases h4 with ⟨_,q⟩|⟨x,hx,q⟩
  ·exact q
  ·have:=(h2 x hx).2.1;omega
theorem SI.KM (h:SI n F A P0 N0 s met) {to:Int} (lL:∃ht:to.toNat<s.marks.length,(to=0∨∀m∈s.marks.take to.toNat,m<s.marks[to.toNat])) (GV:0≤to) (hn:((bA s to.toNat).ll 0).length+1≤n):met+1≤fX n (s.marks.take to.toNat) (((bA s to.toNat).ll 0).length+1):=by
 obtain⟨ht,aP⟩:=lL
 have hs:=h.inv
 obtain⟨e1,_,_⟩:=gy hs ht
 obtain⟨h0,h1,h2⟩:=hs.mo ht
 have hlen:((bA s to.toNat).ll 0).length=(s.marks[to.toNat]).toNat:=by rw[e1,List.length_take];omega
 rw[hlen] at hn ⊢
 have:=CW (n:=n) hs.srt (fun m hm=>(hs.mrk m hm).1) ht (aP.imp (fun e=>by omega) id) (len:=(s.ll 0).length) (by omega) hs.trl.len hn
 have:=h.wrd
 omega
theorem SI.GZ (h:SI n F A P0 N0 s met) {j:Nat} {p:Int} {to:Int} (ha:l_ n s j [p] to) (hm:0<s.marks.length) (hj:j<s.nc) (hf:∀x∈s.cl j,-x∈s.ll 0) (hv:Value):
  to=0∧SI n F A P0 N0 (a6 (ji (bA s to.toNat) [p]) p (-1) hv) (met+1):=by
 obtain⟨GV,lL⟩:=ha.lvl h.inv hm
 have hc:=h.cut ha hm hj hf lL
 obtain⟨p',rest,e,b1,b2,b3,b4,b5,b6,b7⟩:=ha.back h.inv lL
 simp only[List.cons.injEq] at e
 obtain⟨rfl,rfl⟩:=e
 have yH:to=0:=by
  obtain⟨a,kO,rest,q1,_,_,_,q4⟩:=ha.uip
  simp only[List.cons.injEq] at q1
  rcases q4 with q|⟨x,hx,_⟩
  ·exact q.1
  ·rw[← q1.2] at hx;simp at hx
 refine⟨yH,?_⟩
 have vR:(a6 (ji (bA s to.toNat) [p]) p (-1) hv).marks=[]:=by show s.marks.take to.toNat=[];rw[yH];rfl
 have eC:(a6 (ji (bA s to.toNat) [p]) p (-1) hv).ll 0=(bA s to.toNat).ll 0++ [p]:=dL _ _ _ _
 have hinv:=hc.inv.push (r:= -1) hv b1 b2 b3 (.inl ⟨rfl,.inr vR⟩)
 have hold:∀{y},y∈(bA s to.toNat).ll 0→aF y≠aF p:=fun hy=>jr (n:=n) b2 b3 (.inl hy)
 have hlen:=hinv.trl.len
 rw[eC,List.length_append] at hlen
 exact
  {inv:=hinv
   sem:=
    {lits:=hc.sem.lits,cls:=hc.sem.cls,bad:=hc.sem.bad,prf:=hc.sem.prf
     lev0:=fun y hy hl=>by
      rw[eC] at hy
      rcases List.mem_append.1 hy with hy|hy
      ·exact hc.sem.lev0 y hy (by rw[← hl];exact(cV (s:=(ji (bA s to.toNat) [p])) (hold hy)).symm)
      ·rw[List.mem_singleton.1 hy]
       refine .unit (c:=[p]) ?_ (by simp) fun y hy br=>absurd (by simpa using hy) br
       show [p]∈F++(s.proof++ [[p]])
       simp
     rep:=fun C hC=>by
      rcases hc.sem.rep C hC with q|⟨y,q1,q2,q3⟩|q|q
      ·exact .inl q
      ·exact .inr (.inl ⟨y,q1,by rw[eC];exact List.mem_append.2 (.inl q2),by rw[← q3];exact cV (s:=(ji (bA s to.toNat) [p])) (hold q2)⟩)
      ·exact .inr (.inr (.inl q))
      ·exact .inr (.inr (.inr q))}
   dec:=fun m hm2=>by rw[vR] at hm2;simp at hm2
   asm:=fun i hi=>by rw[vR] at hi;simp at hi
   plen:=by have:=hc.plen;show(s.proof++ [[p]]).length=_;have:(s.proof++ [[p]]).length=P0+met+1+0:=this;omega
   ncl:=by have:=h.ncl;show s.nc≤_;omega
   wrd:=by
    have:=h.KM lL GV (by simpa using hlen)
    rw[eC,List.length_append]
    exact this
   low:=by
    obtain⟨k,q1,q2,q3,q4⟩:=hc.low
    exact⟨k,q1,q2,q3,fun u h1 h2=>by rw[eC];exact(q4 u h1 h2).imp (fun q=>List.mem_append.2 (.inl q)) (fun q=>List.mem_append.2 (.inl q))⟩}
theorem SI.HH (h:SI n F A P0 N0 s met) {j:Nat} {l l':List Int} {to:Int} (ha:l_ n s j l to) (hm:0<s.marks.length) (hj:j<s.nc) (hf:∀x∈s.cl j,-x∈s.ll 0) (h2:2≤l.length) (hp:fz l l') (e0:c0 l'=c0 l) (e1:c1 l'∈l.tail) (iD:∀x∈l.tail,aD s x≤aD s (c1 l')) (sC:s.nc+1≤100000) (h0 h1 h3 hv:Value):
  SI n F A P0 N0 (a6 (fi (ji (bA s to.toNat) l) l' h0 h1 h3) (c0 l') s.nc hv) (met+1):=by
 obtain⟨GV,lL⟩:=ha.lvl h.inv hm
 have hc:=h.cut ha hm hj hf lL
 have jI:=ha.lits h.inv
 obtain⟨p,rest,rfl,b1,b2,b3,b4,b5,b6,b7⟩:=ha.back h.inv lL
 obtain⟨ht,aP⟩:=lL
 have hc0:c0 (p::rest)=p:=rfl
 rw[hc0] at e0
 have br:rest≠ []:=fun e=>by rw[e] at h2;simp at h2
 have Ju:aD s (c1 l')=to:=by
  rcases b6 with q|⟨x,hx,q⟩
  ·exact absurd q br
  ·have:=iD x hx
   have:=(b5 _ e1).2.2.2
   omega
 have yH:to≠0:=fun e=>br (b7 e)
 have IG:(bA s to.toNat).marks.length=to.toNat:=by show(s.marks.take to.toNat).length=_;rw[List.length_take];omega
 have pX:∀x∈l',x≠p→ -x∈(bA s to.toNat).ll 0:=fun x hx Ip=>by
  rcases List.mem_cons.1 ((hp.mem x).1 hx) with q|q
  ·exact absurd q Ip
  ·exact(b5 x q).1
 have hinv:bj n (a6 (fi (ji (bA s to.toNat) (p::rest)) l' h0 h1 h3) (c0 l') s.nc hv):=hc.inv.lW (c:=l') (h0:=h0) (h1:=h1) (h2:=h3) (h:=hv) (by rw[hp.len];exact h2) (hp.nd b4) (fun x hx=>jI x ((hp.mem x).1 hx)) sC (by rw[e0];exact b2) (by rw[e0];exact b3) (fun x hx Ip=>pX x hx (by rw[← e0];exact Ip)) (by
  show aD s (c1 l')=((bA s to.toNat).marks.length:Int)
  rw[Ju,IG];omega)
 rw[e0] at hinv ⊢
 have eC:(a6 (fi (ji (bA s to.toNat) (p::rest)) l' h0 h1 h3) p s.nc hv).ll 0=(bA s to.toNat).ll 0++ [p]:=dL _ _ _ _
 have hold:∀{y},y∈(bA s to.toNat).ll 0→aF y≠aF p:=fun hy=>jr (n:=n) b2 b3 (.inl hy)
 have Dl:∀{y},y∈(bA s to.toNat).ll 0→aD (a6 (fi (ji (bA s to.toNat) (p::rest)) l' h0 h1 h3) p s.nc hv) y=aD s y:=fun hy=>cV (s:=fi (ji (bA s to.toNat) (p::rest)) l' h0 h1 h3) (hold hy)
 have Ja:aD (a6 (fi (ji (bA s to.toNat) (p::rest)) l' h0 h1 h3) p s.nc hv) p=(to.toNat:Nat):=by
  have:=dz b1
  have h5:(aF p)<s.level.length:=by rw[h.inv.lvl];omega
  unfold aD a6
  simp only
  rw[List.getD_eq_getElem?_getD,List.getElem?_set,if_pos rfl,if_pos (by exact h5)]
  show(((s.marks.take to.toNat).length:Nat):Int)=_
  rw[List.length_take];simp;omega
 have hlen:=hinv.trl.len
 rw[eC,List.length_append] at hlen
 exact
  {inv:=hinv
   sem:=
    {lits:=hc.sem.lits
     cls:=fun k hk=>by
      have hk:k<s.nc+1:=hk
      show ∃C∈F++(s.proof++ [p::rest]),(∀x∈aB s.cl s.nc l' k,x∈C)∧∀x∈C,x∈aB s.cl s.nc l' k∨kI (F++(s.proof++ [p::rest])) Bq (-x)
      by_cases e:k=s.nc
      ·subst e
       rw[ab]
       exact⟨p::rest,by simp,fun x hx=>(hp.mem x).1 hx,fun x hx=> .inl ((hp.mem x).2 hx)⟩
      ·rw[aO _ _ e]
       exact hc.sem.cls k (by show k<s.nc;omega)
     bad:=hc.sem.bad,prf:=hc.sem.prf
     lev0:=fun y hy hl=>by
      rw[eC] at hy
      rcases List.mem_append.1 hy with hy|hy
      ·exact hc.sem.lev0 y hy ((Dl hy).symm.trans hl)
      ·rw[List.mem_singleton.1 hy,Ja] at hl;omega
     rep:=fun C hC=>by
      rcases hc.sem.rep C hC with q|⟨y,q1,q2,q3⟩|q|⟨k,q1,q2⟩
      ·exact .inl q
      ·exact .inr (.inl ⟨y,q1,by rw[eC];exact List.mem_append.2 (.inl q2),(Dl q2).trans q3⟩)
      ·exact .inr (.inr (.inl q))
      ·have q1:k<s.nc:=q1
       refine .inr (.inr (.inr ⟨k,by show k<s.nc+1;omega,fun x hx=>q2 x ?_⟩))
       have hx:x∈aB s.cl s.nc l' k:=hx
       rwa [aO _ _ (by omega)] at hx}
   dec:=fun m hm2 y hy hr=>by
    have hm2:m∈s.marks.take to.toNat:=hm2
    have wm:m<s.marks[to.toNat]:=(aP.resolve_left yH) m hm2
    obtain⟨q1,q2,q3⟩:=h.inv.mo ht
    have hm0:=(h.inv.mrk m (List.mem_of_mem_take hm2)).1
    have NZ:((bA s to.toNat).ll 0).length=(s.marks[to.toNat]).toNat:=by rw[(gy h.inv ht).1,List.length_take];omega
    rw[eC] at hy ⊢
    rw[List.getElem?_append_left (by omega)] at hy
    rw[List.take_append_of_le_length (by omega)]
    rw[gf (s:=fi (ji (bA s to.toNat) (p::rest)) l' h0 h1 h3) (hold (List.mem_of_getElem? hy))] at hr
    rw[Dl (List.mem_of_getElem? hy)]
    exact hc.dec m hm2 y hy hr
   asm:=fun i hi y hy=>by
    obtain⟨q1,q2⟩:=hc.asm i hi y hy
    exact⟨by rw[eC];exact List.mem_append.2 (.inl q1),by rw[Dl q1];exact q2⟩
   plen:=by show(s.proof++ [p::rest]).length=_;have:(s.proof++ [p::rest]).length=P0+met+1+0:=hc.plen;omega
   ncl:=by have:=h.ncl;show s.nc+1≤_;omega
   wrd:=by
    have:=h.KM ⟨ht,aP⟩ GV (by simpa using hlen)
    rw[eC,List.length_append]
    exact this
   low:=by
    obtain⟨k,q1,q2,q3,q4⟩:=hc.low
    exact⟨k,q1,q2,q3,fun u h1 h2=>by rw[eC];exact(q4 u h1 h2).imp (fun q=>List.mem_append.2 (.inl q)) (fun q=>List.mem_append.2 (.inl q))⟩}
end
end Go.Ab
/- What the search gives:the least assignment,or the assumptions that are to blame. -/
namespace Go.Ab
open Go Go.Proofs
section
variable {n:Nat} {F:List (List Int)} {A:List Int} {P0 N0:Nat} {s:SR} {met:Nat}
theorem Sem.nz (h:Sem n F s):∀c∈F++s.proof,∀x∈c,x≠0:=fun c hc x hx=>(h.lits c hc x hx).1
theorem Sem.MV (h:Sem n F s) {σ:Nat→Bool} (hσ:fJ σ F):fJ σ (F++s.proof):=h.prf.sound hσ h.nz
theorem wc (hs:bj n s) (h:Sem n F s) {σ:Nat→Bool} (hσ:fJ σ F) {p:Nat} (hd:∀i (hi:i<(s.ll 0).length),i≤p→(i:Int)∈s.marks→s.reason.getD (aF (s.ll 0)[i]) 0= -1→dV σ (s.ll 0)[i]):∀i (hi:i<(s.ll 0).length),i≤p→dV σ (s.ll 0)[i]:=by
 have hP:=h.MV hσ
 intro i
 induction i using Nat.strongRecOn with
 |ind i ih=>
  intro hi Od
  rcases hs.rea i hi with ⟨q1,q2|q2⟩|⟨j,q1,q2,q3,q4⟩
  ·exact hd i hi Od q2 q1
  ·exact(h.lev0 _ (List.getElem_mem hi) q2).sound hP h.nz fun _ h=>h.elim
  ·obtain⟨C,hC,p1,p2⟩:=h.cls j q1
   obtain⟨y,hy,ht⟩:=hP C hC
   have hy0:=h.nz C hC y hy
   rcases p2 y hy with NY|pQ
   ·by_cases e:y=(s.ll 0)[i]
    ·rw[← e];exact ht
    ·obtain⟨a,ha,e2⟩:=List.getElem_of_mem (q4 y NY e)
     rw[List.length_take] at ha
     rw[List.getElem_take] at e2
     have:=ih a (by omega) (by omega) (by omega)
     rw[e2] at this
     exact absurd ht ((dV.neg hy0).1 this)
   ·exact absurd ht ((dV.neg hy0).1 (pQ.sound hP h.nz fun _ h=>h.elim))
def km (L:List Int) (v:Nat):Bool:=decide ((v:Int)∈L)
theorem xJ {x:Int} (h:0<x):x=(aF x:Int):=by unfold aF;omega
theorem o6 {x:Int} (h:x<0):x= -(aF x:Int):=by unfold aF;omega
theorem mq {L:List Int} (ht:dT n L) (hf:∀v:Nat,1≤v→v≤n→(v:Int)∈L∨ -(v:Int)∈L) {x:Int} (hx:Lit n x):dV (km L) x↔x∈L:=by
 have hv:=dz hx
 unfold dV km
 by_cases h:x<0
 ·rw[if_pos h,decide_eq_false_iff_not]
  have e:=o6 h
  constructor
  ·intro h1
   rw[e];exact(hf _ hv.1 hv.2).resolve_left h1
  ·intro h1 h2
   rw[e] at h1
   exact ht.iy h2 h1
 ·rw[if_neg h,decide_eq_true_iff]
  have e:=xJ (x:=x) (by obtain⟨_,_,_⟩:=hx;omega)
  rw[← e]
structure rX (n:Nat) (F:List (List Int)) (A:List Int) (L:List Int):Prop where
 trl:dT n L
 full:∀v:Nat,1≤v→v≤n→(v:Int)∈L∨ -(v:Int)∈L
 sat:fJ (km L) F
 asm:∀x∈A,x∈L
 min:∀σ,fJ σ F→(∀x∈A,dV σ x)→∀v:Nat,1≤v→v≤n→(∀u:Nat,1≤u→u<v→σ u=km L u)→km L v=true→σ v=true
theorem SI.sat (h:SI n F A P0 N0 s met) (hb:s.broken=false) (hh:s.head=((s.ll 0).length:Int)) (hA:A.length≤s.marks.length) (hf:∀v:Nat,1≤v→v≤n→(v:Int)∈s.ll 0∨ -(v:Int)∈s.ll 0):rX n F A (s.ll 0):=by
 have hs:=h.inv
 have hlitF:∀c∈F,∀x∈c,Lit n x:=fun c hc=>h.sem.lits c (List.mem_append.2 (.inl hc))
 have aP:=fun {x:Int} (hx:Lit n x)=>mq hs.trl hf hx
 refine⟨hs.trl,hf,fun C hC=>?_,fun x hx=>?_,fun σ hσ hσA v h1 h2 GC hv=>?_⟩
 ·rcases h.sem.rep C hC with q|⟨x,q1,q2,_⟩|⟨x,q1,q2⟩|⟨j,q1,q2⟩
  ·rw[hb] at q;cases q
  ·exact⟨x,q1,(aP (hlitF C hC x q1)).2 q2⟩
  ·by_cases e:dV (km (s.ll 0)) x
   ·exact⟨x,q1,e⟩
   ·exact⟨-x,q2,(dV.neg (hlitF C hC x q1).1).2 e⟩
  ·obtain⟨p1,_,p3⟩:=hs.cls j q1
   obtain⟨m0,m1⟩:=dW p1
   have hl0:=p3 _ m0
   by_cases e:c0 (s.cl j)∈s.ll 0
   ·exact⟨_,q2 _ m0,(aP hl0).2 e⟩
   ·have sE: -(c0 (s.cl j))∈s.ll 0:=by
     have hv:=dz hl0
     have:=hf _ hv.1 hv.2
     by_cases hn:c0 (s.cl j)<0
     ·rw[← o6 hn] at this
      rcases this with q|q
      ·rw[o6 hn,Int.neg_neg];exact q
      ·exact absurd q e
     ·have e2:=xJ (x:=c0 (s.cl j)) (by obtain⟨_,_,_⟩:=hl0;omega)
      rw[← e2] at this
      exact this.resolve_left e
    have:=(hs.two j q1 _ _ (.inl ⟨rfl,rfl⟩) (by rw[hh,Int.toNat_natCast,List.take_length];exact sE)).1
    exact⟨_,q2 _ m1,(aP (p3 _ m1)).2 this⟩
 ·obtain⟨i,hi,e⟩:=List.getElem_of_mem hx
  exact(h.asm i (by omega) x (by rw[← e];exact List.getElem?_eq_getElem hi)).1
 ·have hvL:(v:Int)∈s.ll 0:=by unfold km at hv;simpa using hv
  obtain⟨p,hp,ep⟩:=List.getElem_of_mem hvL
  have:=wc hs h.sem hσ (p:=p) (fun i hi Od hm hr=>by
   rcases h.dec _ hm _ (List.getElem?_eq_getElem hi) hr with q|⟨_,u,q1,q2⟩
   ·exact hσA _ q
   ·have JB:=hs.trl.rng _ (List.getElem_mem hi)
    have PG:0<u:=by omega
    have Rt:¬v<u:=fun Px=>by
     have zO:∀y∈(s.ll 0).take i,aF y≠v:=fun y hy e=>by
      obtain⟨a,ha,e2⟩:=List.getElem_of_mem hy
      rw[List.length_take] at ha
      rw[List.getElem_take] at e2
      have:a=p:=(List.getElem_inj hs.trl.nd (h₀:=by simp;omega) (h₁:=by simpa using hp)).1 (by rw[List.getElem_map,List.getElem_map,e2,ep,e];unfold aF;omega)
      omega
     rw[Int.toNat_natCast] at q2
     rcases q2 v h1 Px with q|q
     ·exact zO _ q (by unfold aF;omega)
     ·exact zO _ q (by unfold aF;omega)
    have br:u≠v:=fun e=>by
     subst e
     exact hs.trl.iy hvL (by rw[← q1];exact List.getElem_mem hi)
    have huL: -(u:Int)∈s.ll 0:=by rw[← q1];exact List.getElem_mem hi
    have hσu:=GC u PG (by omega)
    have:km (s.ll 0) u=false:=by
     unfold km
     rw[decide_eq_false_iff_not]
     exact fun q=>hs.trl.iy q huL
    rw[q1]
    unfold dV
    rw[if_pos (by omega),bP,show aF (u:Int)=u by unfold aF;omega,hσu,this]) p hp (Nat.le_refl _)
  rw[ep] at this
  unfold dV at this
  rw[if_neg (by omega),show aF (v:Int)=v by unfold aF;omega] at this
  exact this
structure wb (n:Nat) (s:SR) (x:Int) (sl:List Bool) (ds:List Int) (k:Nat):Prop where
 len:sl.length=n+1
 sx:sl.getD (aF x) false=true
 mem:∀y∈ds,∃q,∃h:q<(s.ll 0).length,k≤q∧(s.ll 0)[q]=y∧s.reason.getD (aF y) 0= -1∧aD s y≠0
 nd:ds.Nodup
 done:∀q (h:q<(s.ll 0).length),k≤q→sl.getD (aF (s.ll 0)[q]) false=true→aD s (s.ll 0)[q]=0∨(s.ll 0)[q]∈ds∨∃j,j<s.nc∧(s.ll 0)[q]∈s.cl j∧∀y∈s.cl j,y≠(s.ll 0)[q]→ -y∈(s.ll 0).take q∧sl.getD (aF y) false=true
structure wR (n:Nat) (s:SR) (x:Int) (core:List Int):Prop where
 eq:∃ds,core=x::ds∧(∀y∈ds,y∈s.ll 0∧s.reason.getD (aF y) 0= -1∧aD s y≠0)∧ds.Nodup∧∃sn:Nat→Prop,sn (aF x)∧∀q (h:q<(s.ll 0).length),sn (aF (s.ll 0)[q])→aD s (s.ll 0)[q]=0∨(s.ll 0)[q]∈ds∨∃j,j<s.nc∧(s.ll 0)[q]∈s.cl j∧∀y∈s.cl j,y≠(s.ll 0)[q]→ -y∈(s.ll 0).take q∧sn (aF y)
variable {x:Int} {sl:List Bool} {ds:List Int} {k:Nat}
theorem wb.start (hs:bj n s) (hx:Lit n x):wb n s x ((List.replicate (n+1) false).set (aF x) true) [] (s.ll 0).length where
 len:=by simp
 sx:=by rw[gN _ _ (by have:=dz hx;simp;omega),if_pos rfl]
 mem:=fun y hy=>by simp at hy
 nd:=by simp
 done:=fun q h1 h2=>by omega
theorem wb.skip (h:wb n s x sl ds (k+1)) (hk:k<(s.ll 0).length) (hc:sl.getD (aF (s.ll 0)[k]) false=false∨aD s (s.ll 0)[k]=0):wb n s x sl ds k:=
 {len:=h.len,sx:=h.sx,nd:=h.nd
  mem:=fun y hy=>by obtain⟨q,p1,p2,p3⟩:=h.mem y hy;exact⟨q,p1,by omega,p3⟩
  done:=fun q h1 h2 h3=>by
   by_cases e:q=k
   ·subst e
    rcases hc with hc|hc
    ·rw[hc] at h3;cases h3
    ·exact .inl hc
   ·exact h.done q h1 (by omega) h3}
theorem wb.dec (h:wb n s x sl ds (k+1)) (hs:bj n s) (hk:k<(s.ll 0).length) (hl:aD s (s.ll 0)[k]≠0) (hr:s.reason.getD (aF (s.ll 0)[k]) 0= -1):wb n s x sl (ds++ [(s.ll 0)[k]]) k:=
 {len:=h.len,sx:=h.sx
  nd:=by
   rw[List.nodup_append]
   refine⟨h.nd,by simp,fun a ha b hb=>?_⟩
   rw[List.mem_singleton.1 hb]
   rintro rfl
   obtain⟨q,p1,p2,p3,_⟩:=h.mem _ ha
   have:q=k:=(List.getElem_inj hs.trl.nd (h₀:=by simpa using p1) (h₁:=by simpa using hk)).1 (by rw[List.getElem_map,List.getElem_map,p3])
   omega
  mem:=fun y hy=>by
   rcases List.mem_append.1 hy with hy|hy
   ·obtain⟨q,p1,p2,p3⟩:=h.mem y hy;exact⟨q,p1,by omega,p3⟩
   ·rw[List.mem_singleton.1 hy];exact⟨k,hk,Nat.le_refl _,rfl,hr,hl⟩
  done:=fun q h1 h2 h3=>by
   by_cases e:q=k
   ·subst e;exact .inr (.inl (by simp))
   ·exact(h.done q h1 (by omega) h3).imp id (Or.imp (fun p=>List.mem_append.2 (.inl p)) id)}
structure vO (n:Nat) (s:SR) (sl0:List Bool) (j:Nat) (sl:List Bool) (i:Nat):Prop where
 hi:i≤(s.cl j).length
 len:sl.length=n+1
 ge:∀v,sl0.getD v false=true→sl.getD v false=true
 le:∀v,sl.getD v false=true→sl0.getD v false=true∨∃y∈s.cl j,aF y=v
 row:∀y∈(s.cl j).take i,sl.getD (aF y) false=true
theorem vO.start {sl0:List Bool} {j:Nat} (h:sl0.length=n+1):vO n s sl0 j sl0 0:=⟨Nat.zero_le _,h,fun _ h=>h,fun _ h=> .inl h,fun y hy=>by simp at hy⟩
theorem vO.next {sl0:List Bool} {j i:Nat} (h:vO n s sl0 j sl i) (hi:i<(s.cl j).length) (hv:aF (s.cl j)[i]<n+1):vO n s sl0 j (sl.set (aF (s.cl j)[i]) true) (i+1):=by
 have hg:=gN sl (aF (s.cl j)[i]) (by rw[h.len];exact hv)
 refine⟨hi,by rw[List.length_set];exact h.len,fun v hv=>?_,fun v hv=>?_,fun y hy=>?_⟩
 ·exact kH (by rw[h.len];exact ‹aF (s.cl j)[i]<n+1›) (h.ge v hv)
 ·rw[hg] at hv
  split at hv
  ·next e=>exact .inr ⟨_,List.getElem_mem hi,e.symm⟩
  ·exact h.le v hv
 ·rw[hg]
  split
  ·rfl
  ·next e=>
   rw[List.take_succ_eq_append_getElem hi,List.mem_append,List.mem_singleton] at hy
   rcases hy with hy|rfl
   ·exact h.row y hy
   ·exact absurd rfl e
theorem wb.row {j:Nat} {sl':List Bool} (h:wb n s x sl ds (k+1)) (hs:bj n s) (hk:k<(s.ll 0).length) (hj:j<s.nc) (hm:(s.ll 0)[k]∈s.cl j) (hf:∀y∈s.cl j,y≠(s.ll 0)[k]→ -y∈(s.ll 0).take k) (hr:vO n s sl j sl' (s.cl j).length):wb n s x sl' ds k:=
 {len:=hr.len,sx:=hr.ge _ h.sx,nd:=h.nd
  mem:=fun y hy=>by obtain⟨q,p1,p2,p3⟩:=h.mem y hy;exact⟨q,p1,by omega,p3⟩
  done:=fun q h1 h2 h3=>by
   have bK:∀y∈s.cl j,sl'.getD (aF y) false=true:=fun y hy=>hr.row y (by rw[List.take_length];exact hy)
   by_cases e:q=k
   ·subst e
    exact .inr (.inr ⟨j,hj,hm,fun y hy br=>⟨hf y hy br,bK y hy⟩⟩)
   ·have h4:sl.getD (aF (s.ll 0)[q]) false=true:=by
     rcases hr.le _ h3 with p|⟨y,hy,ey⟩
     ·exact p
     ·exfalso
      by_cases e2:y=(s.ll 0)[k]
      ·subst e2
       have:k=q:=(List.getElem_inj hs.trl.nd (h₀:=by simpa using hk) (h₁:=by simpa using h1)).1 (by rw[List.getElem_map,List.getElem_map,ey])
       omega
      ·obtain⟨a,ha,e3⟩:=List.getElem_of_mem (hf y hy e2)
       rw[List.length_take] at ha
       rw[List.getElem_take] at e3
       have:a=q:=(List.getElem_inj hs.trl.nd (h₀:=by simp;omega) (h₁:=by simpa using h1)).1 (by rw[List.getElem_map,List.getElem_map,e3,bP,ey])
       omega
    rcases h.done q h1 (by omega) h4 with p|p|⟨j',p1,p2,p3⟩
    ·exact .inl p
    ·exact .inr (.inl p)
    ·exact .inr (.inr ⟨j',p1,p2,fun y hy br=>⟨(p3 y hy br).1,hr.ge _ (p3 y hy br).2⟩⟩)}
theorem wb.out (h:wb n s x sl ds 0):wR n s x (x::ds):=
 ⟨ds,rfl,fun y hy=>by obtain⟨q,p1,_,p3,p4⟩:=h.mem y hy;exact⟨by rw[← p3];exact List.getElem_mem p1,p4⟩,h.nd,fun v=>sl.getD v false=true,h.sx,fun q hq jW=>h.done q hq (Nat.zero_le _) jW⟩
theorem wR.L5 {core:List Int} (h:wR n s x core) (hS:Sem n F s) (hx: -x∈s.ll 0):H8 (F++s.proof) (core.map fun y=> -y):=by
 obtain⟨ds,rfl,_,_,sn,h1,h2⟩:=h.eq
 have hA:∀y,y∈x::ds→BS ((x::ds).map fun y=> -y) y:=fun y hy=>List.mem_map.2 ⟨y,hy,rfl⟩
 have key:∀i (hi:i<(s.ll 0).length),sn (aF (s.ll 0)[i])→kI (F++s.proof) (BS ((x::ds).map fun y=> -y)) (s.ll 0)[i]:=by
  intro i
  induction i using Nat.strongRecOn with
  |ind i ih=>
   intro hi jW
   rcases h2 i hi jW with q|q|⟨j,q1,q2,q3⟩
   ·exact(hS.lev0 _ (List.getElem_mem hi) q).more
   ·exact .asm (hA _ (List.mem_cons_of_mem _ q))
   ·refine hS.unit q1 q2 fun y hy br=>?_
    obtain⟨p1,p2⟩:=q3 y hy br
    obtain⟨a,ha,e⟩:=List.getElem_of_mem p1
    rw[List.length_take] at ha
    rw[List.getElem_take] at e
    rw[← e]
    refine ih a (by omega) (by omega) ?_
    rw[e,bP];exact p2
 obtain⟨i,hi,e⟩:=List.getElem_of_mem hx
 have hd:=key i hi (by rw[e,bP];exact h1)
 rw[e] at hd
 rcases kI.both (.asm (hA x List.mem_cons_self)) hd with q|⟨y,q1,q2⟩
 ·exact .inl q
 ·refine .inr ⟨-y,q1,?_⟩
  exact q2
theorem wR.core {core:List Int} (h:wR n s x core) (hI:SI n F A P0 N0 s met) (hm:s.marks.length<A.length) (hxA:x∈A) (hx: -x∈s.ll 0):(∀y∈core,y∈A)∧core.Nodup∧∀y∈core,Lit n y:=by
 obtain⟨ds,rfl,h1,h2,_⟩:=h.eq
 have hs:=hI.inv
 have Ls:∀y∈ds,y∈A:=fun y hy=>by
  obtain⟨q1,q2,q3⟩:=h1 y hy
  obtain⟨i,hi,rfl⟩:=List.getElem_of_mem q1
  rcases hs.rea i hi with ⟨_,p|p⟩|⟨j,_,p,_⟩
  ·rcases hI.dec _ p _ (List.getElem?_eq_getElem hi) q2 with r|⟨r,_⟩
   ·exact r
   ·have:=(hs.ix q1).2;omega
  ·exact absurd p q3
  ·omega
 have qz:Lit n x:=by have:=hs.trl.rng _ hx;exact⟨by omega,by omega,by omega⟩
 refine⟨fun y hy=>?_,?_,fun y hy=>?_⟩
 ·rcases List.mem_cons.1 hy with rfl|hy
  ·exact hxA
  ·exact Ls y hy
 ·rw[List.nodup_cons]
  refine⟨fun hm=>?_,h2⟩
  exact hs.trl.iy (h1 x hm).1 hx
 ·rcases List.mem_cons.1 hy with rfl|hy
  ·exact qz
  ·exact hs.trl.rng y (h1 y hy).1
end
end Go.Ab
/- A clause added to the solver,in plain terms. -/
namespace Go.Ab
open Go Go.Proofs
structure gg (n:Nat) (F:List (List Int)) (k:Nat) (s:SR):Prop where
 inv:bj n s
 sem:Sem n F s
 low:qf n s
 marks:s.marks=[]
 proof:s.proof=[]
 added:s.added=(k:Int)
 ncl:s.nc≤k
structure jF (s:SR) (c:List Int) (l:List Int) (i:Nat):Prop where
 hi:i≤c.length
 nd:l.Nodup
 sub:∀x∈l,x∈c∧x∉s.ll 0∧ -x∉s.ll 0
 cov:∀x∈c.take i,x∈l∨ -x∈s.ll 0
section
variable {n:Nat} {F:List (List Int)} {k:Nat} {s:SR} {c l:List Int} {i:Nat}
theorem jF.start:jF s c [] 0:=⟨Nat.zero_le _,by simp,fun x hx=>by simp at hx,fun x hx=>by simp at hx⟩
theorem jF.skip (h:jF s c l i) (hi:i<c.length) (hc:c[i]∈l∨ -c[i]∈s.ll 0):jF s c l (i+1):=
 ⟨hi,h.nd,h.sub,fun x hx=>by
  rw[List.take_succ_eq_append_getElem hi,List.mem_append,List.mem_singleton] at hx
  rcases hx with hx|rfl
  ·exact h.cov x hx
  ·exact hc⟩
theorem jF.add (h:jF s c l i) (hi:i<c.length) (h1:c[i]∉l) (h2:c[i]∉s.ll 0) (h3: -c[i]∉s.ll 0):jF s c (l++ [c[i]]) (i+1):=
 ⟨hi,by
  rw[List.nodup_append]
  exact⟨h.nd,by simp,fun a ha b hb=>by rw[List.mem_singleton.1 hb];rintro rfl;exact h1 ha⟩,fun x hx=>by
  rcases List.mem_append.1 hx with hx|hx
  ·exact h.sub x hx
  ·rw[List.mem_singleton.1 hx];exact⟨List.getElem_mem hi,h2,h3⟩,fun x hx=>by
  rw[List.take_succ_eq_append_getElem hi,List.mem_append,List.mem_singleton] at hx
  rcases hx with hx|rfl
  ·exact(h.cov x hx).imp (fun q=>List.mem_append.2 (.inl q)) id
  ·exact .inl (by simp)⟩
theorem gg.lev (h:gg n F k s) {x:Int} (hx:x∈s.ll 0):aD s x=0:=by
 have:=h.inv.ix hx
 rw[h.marks] at this
 simp at this;omega
theorem bj.Fc (h:bj n s) (a:Int) (b:Bool):bj n {s with added:=a,broken:=b}:=
 {hn:=h.hn,trl:=h.trl,val:=h.val,lvl:=h.lvl,rsn:=h.rsn,hd:=h.hd,mrk:=h.mrk,lev:=h.lev,cls:=h.cls,fresh:=h.fresh,nc:=h.nc,nw:=h.nw,wt:=h.wt,wnd:=h.wnd,wto:=h.wto,two:=h.two,srt:=h.srt,rea:=h.rea}
theorem gg.Et (h:gg n F k s) (hc:∀x∈c,Lit n x) {t:SR} (hp:t.proof=[])
  (cls:∀j,j<t.nc→(j<s.nc∧t.cl j=s.cl j)∨((∀x∈t.cl j,x∈c)∧∀x∈c,x∈t.cl j∨ -x∈s.ll 0))
  (ll:∀x∈t.ll 0,x∈s.ll 0∨(x∈c∧∀y∈c,y≠x→ -y∈s.ll 0)) (eC:∀x∈s.ll 0,x∈t.ll 0) (bad:t.broken=true→s.broken=true∨∀x∈c,-x∈s.ll 0) (Ly:s.broken=true→t.broken=true)
  (hold:∀j,j<s.nc→j<t.nc∧t.cl j=s.cl j) (lev:∀x∈t.ll 0,aD t x=0) (rep:t.broken=true∨(∃x∈c,x∈t.ll 0)∨(∃x∈c,-x∈c)∨∃j,j<t.nc∧∀x∈t.cl j,x∈c):Sem n (F++ [c]) t:=by
 have e0:F++s.proof=F:=by rw[h.proof,List.append_nil]
 have e1:F++ [c]++t.proof=F++ [c]:=by rw[hp,List.append_nil]
 have eE:∀d∈F,d∈F++ [c]:=fun d hd=>List.mem_append.2 (.inl hd)
 have EZ:∀{x},x∈s.ll 0→kI (F++ [c]) Bq x:=fun hx=>(h.sem.lev0 _ hx (h.lev hx)).mono (by rw[e0];exact eE) fun _ h=>h
 have jI:=h.sem.lits
 rw[e0] at jI
 refine⟨?_,?_,?_,?_,?_,?_⟩
 ·rw[e1]
  intro d hd
  rcases List.mem_append.1 hd with hd|hd
  ·exact jI d hd
  ·rw[List.mem_singleton.1 hd];exact hc
 ·rw[e1]
  intro j hj
  rcases cls j hj with ⟨q1,q2⟩|⟨q1,q2⟩
  ·obtain⟨C,hC,p1,p2⟩:=h.sem.cls j q1
   rw[e0] at hC p2
   rw[q2]
   exact⟨C,eE C hC,p1,fun x hx=>(p2 x hx).imp id fun q=>q.mono eE fun _ h=>h⟩
  ·exact⟨c,by simp,q1,fun x hx=>(q2 x hx).imp id EZ⟩
 ·rw[e1]
  intro x hx _
  rcases ll x hx with q|⟨q1,q2⟩
  ·exact EZ q
  ·exact .unit (c:=c) (by simp) q1 fun y hy br=>EZ (q2 y hy br)
 ·rw[e1]
  intro hb
  rcases bad hb with q|q
  ·exact(h.sem.bad q).cut (by rw[e0];exact eE) fun _ h=>h.elim
  ·exact⟨c,by simp,fun y hy=>EZ (q y hy)⟩
 ·intro j hj;rw[hp] at hj;simp at hj
 ·intro C hC
  rcases List.mem_append.1 hC with hC|hC
  ·rcases h.sem.rep C hC with q|⟨x,q1,q2,_⟩|q|⟨j,q1,q2⟩
   ·exact .inl (Ly q)
   ·exact .inr (.inl ⟨x,q1,eC x q2,lev x (eC x q2)⟩)
   ·exact .inr (.inr (.inl q))
   ·obtain⟨p1,p2⟩:=hold j q1
    exact .inr (.inr (.inr ⟨j,p1,by rw[p2];exact q2⟩))
  ·rw[List.mem_singleton.1 hC]
   rcases rep with q|⟨x,q1,q2⟩|q|q
   ·exact .inl q
   ·exact .inr (.inl ⟨x,q1,q2,lev x q2⟩)
   ·exact .inr (.inr (.inl q))
   ·exact .inr (.inr (.inr q))
theorem gg.JS (h:gg n F k s) (hc:∀x∈c,Lit n x) (ht:(∃x∈c,-x∈c)∨∃x∈c,x∈s.ll 0):gg n (F++ [c]) (k+1) {s with added:=s.added+1} where
 inv:=h.inv.Fc _ _
 sem:=h.Et hc (t:={s with added:=s.added+1}) h.proof (fun j hj=> .inl ⟨hj,rfl⟩) (fun x hx=> .inl hx) (fun x hx=>hx) .inl id (fun j hj=>⟨hj,rfl⟩) (fun x hx=>h.lev hx) (.inr (ht.elim (fun q=> .inr (.inl q)) fun q=> .inl q))
 low:=h.low
 marks:=h.marks
 proof:=h.proof
 added:=by show s.added+1=_;rw[h.added];rfl
 ncl:=by have:=h.ncl;show s.nc≤_;omega
theorem gg.empty (h:gg n F k s) (hc:∀x∈c,Lit n x) (ha:jF s c [] c.length):gg n (F++ [c]) (k+1) {s with added:=s.added+1,broken:=true} where
 inv:=h.inv.Fc _ _
 sem:=h.Et hc (t:={s with added:=s.added+1,broken:=true}) h.proof (fun j hj=> .inl ⟨hj,rfl⟩) (fun x hx=> .inl hx) (fun x hx=>hx) (fun _=> .inr fun x hx=>(ha.cov x (by rw[List.take_length];exact hx)).resolve_left (by simp)) (fun _=>rfl) (fun j hj=>⟨hj,rfl⟩) (fun x hx=>h.lev hx) (.inl rfl)
 low:=h.low
 marks:=h.marks
 proof:=h.proof
 added:=by show s.added+1=_;rw[h.added];rfl
 ncl:=by have:=h.ncl;show s.nc≤_;omega
theorem gg.unit (h:gg n F k s) (hc:∀x∈c,Lit n x) {x:Int} (ha:jF s c [x] c.length) (hv:Value):gg n (F++ [c]) (k+1) (a6 {s with added:=s.added+1} x (-1) hv):=by
 obtain⟨q1,q2,q3⟩:=ha.sub x (by simp)
 have eC:(a6 {s with added:=s.added+1} x (-1) hv).ll 0=s.ll 0++ [x]:=dL _ _ _ _
 have hinv:=(h.inv.Fc (s.added+1) s.broken).push (r:= -1) hv (hc x q1) q2 q3 (.inl ⟨rfl,.inr h.marks⟩)
 have ER:∀y∈(a6 {s with added:=s.added+1} x (-1) hv).ll 0,aD (a6 {s with added:=s.added+1} x (-1) hv) y=0:=fun y hy=>by
  have:=hinv.ix hy
  rw[show(a6 {s with added:=s.added+1} x (-1) hv).marks=[] from h.marks] at this
  simp at this;omega
 exact
  {inv:=hinv
   sem:=h.Et hc h.proof (fun j hj=> .inl ⟨hj,rfl⟩) (fun y hy=>by
    rw[eC] at hy
    rcases List.mem_append.1 hy with hy|hy
    ·exact .inl hy
    ·rw[List.mem_singleton.1 hy]
     exact .inr ⟨q1,fun z hz br=>(ha.cov z (by rw[List.take_length];exact hz)).resolve_left (by simpa using br)⟩) (fun y hy=>by rw[eC];exact List.mem_append.2 (.inl hy)) .inl id (fun j hj=>⟨hj,rfl⟩) ER (.inr (.inl ⟨x,q1,by rw[eC];simp⟩))
   low:=by
    obtain⟨m,p1,p2,p3,p4⟩:=h.low
    exact⟨m,p1,p2,p3,fun u h1 h2=>by rw[eC];exact(p4 u h1 h2).imp (fun q=>List.mem_append.2 (.inl q)) (fun q=>List.mem_append.2 (.inl q))⟩
   marks:=h.marks
   proof:=h.proof
   added:=by show s.added+1=_;rw[h.added];rfl
   ncl:=by have:=h.ncl;show s.nc≤_;omega}
theorem gg.Lq (h:gg n F k s) (hc:∀x∈c,Lit n x) (hk:k<60000) (ha:jF s c l c.length) (h2:2≤l.length) (h0 h1 h3:Value):gg n (F++ [c]) (k+1) (fi {s with added:=s.added+1} l h0 h1 h3):=by
 have Ro:=h.ncl
 have jC:∀x∈l,Lit n x:=fun x hx=>hc x (ha.sub x hx).1
 exact
  {inv:=(h.inv.Fc (s.added+1) s.broken).attach h2 ha.nd jC (by show s.nc+1≤_;omega) fun x hx=>(ha.sub x hx).2.2
   sem:=h.Et hc h.proof (fun j hj=>by
    have hj:j<s.nc+1:=hj
    show(j<s.nc∧aB s.cl s.nc l j=s.cl j)∨((∀x∈aB s.cl s.nc l j,x∈c)∧∀x∈c,x∈aB s.cl s.nc l j∨ -x∈s.ll 0)
    by_cases e:j=s.nc
    ·subst e
     rw[ab]
     exact .inr ⟨fun x hx=>(ha.sub x hx).1,fun x hx=>ha.cov x (by rw[List.take_length];exact hx)⟩
    ·have e:¬j=s.nc:=e
     exact .inl ⟨by omega,aO _ _ e⟩) (fun x hx=> .inl hx) (fun x hx=>hx) .inl id (fun j hj=>⟨by show j<s.nc+1;omega,aO _ _ (by show j≠s.nc;omega)⟩) (fun x hx=>h.lev hx) (.inr (.inr (.inr ⟨s.nc,by show s.nc<s.nc+1;omega,by show ∀x∈aB s.cl s.nc l s.nc,x∈c;rw[ab];exact fun x hx=>(ha.sub x hx).1⟩)))
   low:=h.low
   marks:=h.marks
   proof:=h.proof
   added:=by show s.added+1=_;rw[h.added];rfl
   ncl:=by show s.nc+1≤_;omega}
theorem gg.si (h:gg n F k s) (A:List Int):SI n F A 0 k s 0 where
 inv:=h.inv
 sem:=h.sem
 dec:=fun m hm=>by rw[h.marks] at hm;simp at hm
 asm:=fun i hi=>by rw[h.marks] at hi;simp at hi
 plen:=by rw[h.proof];rfl
 ncl:=h.ncl
 wrd:=Nat.zero_le _
 low:=h.low
def fH (n:Nat):SR:=⟨List.replicate (n+1) 0,List.replicate (n+1) 0,List.replicate (n+1) 0,[],1,0,0,false,fun _=> .slice none 0 0,fun _=>[],0,fun _=> .slice none 0 0,fun _=>[],2*n+2,fun _=> .slice none 0 0,fun _=>[],[],[],[]⟩
theorem vr (hn:n≤20000):gg n [] 0 (fH n) where
 inv:=
  {hn:=hn
   trl:=⟨fun x hx=>by simp [fH] at hx,by simp [fH]⟩
   val:=by
    show List.replicate (n+1) 0=fe n []
    apply List.ext_getElem (by simp [fe])
    intro i _ _
    simp [fe]
   lvl:=by simp [fH]
   rsn:=by simp [fH]
   hd:=⟨Int.le_refl _,Int.le_refl _⟩
   mrk:=fun m hm=>by simp [fH] at hm
   lev:=fun i hi=>by simp [fH] at hi
   cls:=fun j hj=>by simp [fH] at hj
   fresh:=fun j _=>⟨rfl,rfl⟩
   nc:=by simp [fH]
   nw:=rfl
   wt:=fun x _ e he=>by simp [fH] at he
   wnd:=fun k=>by simp [fH]
   wto:=fun j hj=>by simp [fH] at hj
   two:=fun j hj=>by simp [fH] at hj
   srt:=by simp [fH]
   rea:=fun i hi=>by simp [fH] at hi}
 sem:=⟨fun c hc=>by simp [fH] at hc,fun j hj=>by simp [fH] at hj,fun x hx=>by simp [fH] at hx,fun hb=>by simp [fH] at hb,fun i hi=>by simp [fH] at hi,fun C hC=>by simp at hC⟩
 low:=⟨1,rfl,by omega,by omega,fun u h1 h2=>by omega⟩
 marks:=rfl
 proof:=rfl
 added:=rfl
 ncl:=Nat.le_refl _
end
end Go.Ab
/- The solver:the assumptions to blame;the end of a search,walked. -/
namespace Go.Ab
open Go Go.Proofs
open Nat (reduceAdd reduceSub)
set_option maxRecDepth 20000
set_option maxHeartbeats 4000000
theorem m_ {l:List Bool} {n:Nat} (h:n<l.length):l.getD n false=l[n]:=by simp [List.getD_eq_getElem?_getD,h]
theorem AJ (l:List Bool) (i:Nat):(l.map jj).set i [PV.lit (.bool true)]=(l.set i true).map jj:=by
 rw[List.map_set];rfl
theorem JO (n:Nat):List.replicate n [PV.lit (.bool false)]=(List.replicate n false).map jj:=by
 rw[List.map_replicate];rfl
attribute [local irreducible] bK AW aa bM a8 AR bm a_ bs bT fm fw
theorem BQ (s:SR) (core:List Int) (hl:core.length≤100000) (hb:∀x∈core,-1000000≤x∧x≤1000000) (hp:s.proof.length≤1000000):jf Try.prog 39 11 (cd s) [.ptr 0 0,.pv (dP core)] (cd {s with core:=core,proof:=s.proof++ [core.map fun y=> -y]}) (aw 2):=by
 simp only[cd,cg]
 refine jf.enter (n:=30) Try.func39 rfl rfl rfl rfl rfl (by decide) rfl rfl fun g aY aW=>?_;refine mL ?_
 (refine zq ?_;refine eD ?_;refine ox ?_;refine zm ?_;refine aa.aJ rfl rfl rfl ?_;refine aa.ah 67 9 14 rfl rfl rfl rfl ?_;(with_reducible apply aa.bB);(iterate 5 exact rfl);(first|exact rfl|assumption|exact dm _|exact dj _ _|exact dF _|exact dG _ _);(iterate 3 exact rfl);(with_reducible assumption);refine gH ?_;refine lZ ?_;refine zn ?_;refine aa.lk rfl rfl rfl rfl rfl rfl rfl rfl (by omega) ?_;refine Q0 ?_;refine vn ?_;refine zo ?_;refine dk ?_;refine iv ?_)
 (refine Q0 ?_;apply AW.ck [16,15,4,0,1000] [11,0,1,2,3,4,5,6,7,8,9,10] (fun k:Nat=>([(5,.own 11 3 1 (((core.take k).map fun y=> -y).map encI)),(17,aw k)]:List (Nat×AV))) (fun k:Nat=>([]:List (Nat×Option Ob))) (fun k:Nat=>k≤core.length) (fun k:Nat=>core.length - k) (0);(conv=>lhs;simp only[Nf.jJ,Nf.all,Nat.reduceBEq,reduceAdd,reduceSub]);(all_goals skip))
 ·exact Nat.zero_le _
 ·exact aN rfl (by(refine⟨.eq rfl rfl,?_⟩;(iterate 6 refine⟨.eq rfl rfl,?_⟩);exact trivial)) (by(refine⟨.row rfl,?_⟩;refine⟨.box _ rfl ?_,?_⟩;(iterate 15 refine⟨.eq rfl rfl,?_⟩);exact trivial;(iterate 3 refine⟨.row rfl,?_⟩);refine⟨.pool rfl (by first|with_reducible rfl|(with_reducible rfl)),?_⟩;(iterate 2 refine⟨.row rfl,?_⟩);refine⟨.pool rfl (by first|with_reducible rfl|(with_reducible rfl)),?_⟩;refine⟨.row rfl,?_⟩;refine⟨.pool rfl (by first|with_reducible rfl|(with_reducible rfl)),?_⟩;refine⟨.row rfl,?_⟩;exact trivial)) rfl
 rintro k hk
 by_cases aP:k<core.length
 ·obtain⟨b1,b2⟩:=hb _ (List.getElem_mem aP)
  have e:((core.take (k+1)).map fun y=> -y).map encI=((core.take k).map fun y=> -y).map encI++ [[PV.lit (.int .i64 (-core[k]))]]:=by
   rw[List.take_succ_eq_append_getElem aP,List.map_append,List.map_append];rfl
  (refine yz ?_;refine Q5 ?_;refine dH ?_;(focus ((with_reducible apply aa.ak);(iterate 7 exact rfl);rotate_left;omega));refine zr ?_;refine eD ?_;refine kM ?_;refine qn ?_;refine aa.neg rfl rfl rfl (by omega) ?_;(with_reducible apply aa.il);(iterate 5 exact rfl);(first|exact rfl|assumption|exact dm _|exact dj _ _|exact dF _|exact dG _ _);exact rfl;exact rfl;refine Q0 ?_;(with_reducible apply aa.aZ);exact rfl;(first|exact .pv rfl|exact .own rfl|exact .nil rfl);(iterate 9 exact rfl);(first|omega|(simp only[List.length_map,List.length_append,List.length_cons,List.length_nil,List.length_drop,List.length_take,List.length_set,List.length_range,aE];omega));refine Q0 ?_;refine qL ?_;refine lx ?_)
  exact⟨k+1,by omega,by omega,aN rfl (by(refine⟨.aj (by first|rfl|exact e.symm) rfl,?_⟩;(iterate 2 refine⟨.ai (by first|rfl|exact e.symm),?_⟩);refine⟨.bz (by first|rfl|exact e.symm),?_⟩;refine⟨.ai (by first|rfl|exact e.symm),?_⟩;(iterate 2 refine⟨.eq rfl rfl,?_⟩);exact trivial)) (by(refine⟨.row rfl,?_⟩;refine⟨.box _ rfl ?_,?_⟩;(iterate 3 refine⟨.aj (by first|rfl|exact e.symm) rfl,?_⟩);refine⟨.ai (by first|rfl|exact e.symm),?_⟩;refine⟨.aj (by first|rfl|exact e.symm) rfl,?_⟩;refine⟨.ai (by first|rfl|exact e.symm),?_⟩;(iterate 2 refine⟨.aj (by first|rfl|exact e.symm) rfl,?_⟩);(iterate 3 refine⟨.ai (by first|rfl|exact e.symm),?_⟩);refine⟨.aj (by first|rfl|exact e.symm) rfl,?_⟩;refine⟨.ai (by first|rfl|exact e.symm),?_⟩;(iterate 2 refine⟨.bz (by first|rfl|exact e.symm),?_⟩);exact trivial;(iterate 3 refine⟨.row rfl,?_⟩);refine⟨.pool rfl (by first|rfl|exact e.symm),?_⟩;(iterate 2 refine⟨.row rfl,?_⟩);refine⟨.pool rfl (by first|rfl|exact e.symm),?_⟩;refine⟨.row rfl,?_⟩;refine⟨.pool rfl (by first|rfl|exact e.symm),?_⟩;refine⟨.row rfl,?_⟩;exact trivial)) rfl⟩
 ·obtain rfl:k=core.length:=by omega
  rw[List.take_length]
  have ir:=Ad {s with core:=core} (core.map fun y=> -y) (by rw[List.length_map];omega) hp
  simp only[cd,cg] at ir
  (refine zq ?_;refine xB ?_;refine ox ?_;refine aa.bt rfl rfl rfl ?_;refine aa.D7 rfl rfl ?_;refine Q0 ?_;refine zX (ir) ?_;refine fE ?_;refine zd ?_;refine zq ?_;refine e_ ?_)
  (apply c7;((exact bD.one (.tmp rfl rfl)));((exact tn));((exact Q2));exact rfl)
theorem CC (n:Nat) (s:SR) (hs:bj n s) (x:Int) (hx: -x∈s.ll 0):nf Try.prog 42 11 (cd s) [.ptr 0 0,aw x] (fun core:List Int=>wR n s x core) (fun _=>cd s) (fun core=> .pv (dP core)):=by
 have mG:=hs.hn
 have eC:=hs.trl.len
 have sC:=hs.nc
 have Li:=hs.rsn
 have D_:=hs.lvl
 have qz:=hs.trl.rng _ hx
 have vl:s.value.length=n+1:=by rw[hs.val,er]
 have hx0:0≤max x (-x):=by omega
 have wQ:(max x (-x)).toNat<n+1:=by omega
 have Iq:(max x (-x)).toNat<(List.replicate (n+1) false).length:=by rw[List.length_replicate];exact wQ
 have dp:=wb.start hs (x:=x) ⟨by omega,by omega,by omega⟩
 unfold aF at dp
 have GO:List.replicate ((s.value.length:Nat):Int).toNat [PV.lit (.bool false)]=(List.replicate (n+1) false).map jj:=by rw[Int.toNat_natCast,vl];exact JO (n+1)
 have gz:=AJ (List.replicate (n+1) false) (max x (-x)).toNat
 simp only[cd,cg]
 refine nf.enter (n:=106) Try.func42 rfl rfl rfl rfl rfl (by decide) rfl (fun _=>rfl) fun g aY aW=>?_;refine mL ?_
 (refine zq ?_;refine eD ?_;refine F_ ?_;refine Lf ?_;refine vn ?_;(with_reducible apply AW.pj 2);(rw[GO]);refine pz ?_;refine B6 ?_;refine mD ?_;(with_reducible apply aa.bI);(iterate 4 exact rfl);(first|exact rfl|assumption|exact dm _|exact dj _ _|exact dF _|exact dG _ _);(iterate 3 exact rfl);refine gH ?_;refine lZ ?_;(with_reducible apply aa.il);(iterate 5 exact rfl);(first|exact rfl|assumption|exact dm _|exact dj _ _|exact dF _|exact dG _ _);exact rfl;exact rfl;refine Q0 ?_;refine vn ?_;refine zo ?_;refine dH ?_;refine xf ?_;refine Ah ?_;refine vV ?_;refine AW.block ?_)
 (refine Q0 ?_;apply AW.ck [4,0,1000] [12,11,0,1,2,3,4,5,6,7,8,9,10] (fun q:List Bool×List Int×Nat=>([(5,.own 11 4 1 (q.1.map jj)),(6,.own 12 3 1 ((x::q.2.1).map encI)),(7,aw ((q.2.2:Int) - 1))]:List (Nat×AV))) (fun q:List Bool×List Int×Nat=>([]:List (Nat×Option Ob))) (fun q:List Bool×List Int×Nat=>(wb n s x q.1 q.2.1 q.2.2∧q.2.2≤(s.ll 0).length)) (fun q:List Bool×List Int×Nat=>q.2.2) (((List.replicate (n+1) false).set (max x (-x)).toNat true,([]:List Int),(s.ll 0).length));(conv=>lhs;simp only[Nf.jJ,Nf.all,Nat.reduceBEq,reduceAdd,reduceSub]);(all_goals skip))
 ·exact⟨dp,Nat.le_refl _⟩
 ·exact aN rfl (by(refine⟨.aj (by first|rfl|exact gz) rfl,?_⟩;refine⟨.aj (by first|rfl|exact gz) rfl,?_⟩;(iterate 2 refine⟨.ai (by first|rfl|exact gz),?_⟩);(iterate 2 refine⟨.eq rfl rfl,?_⟩);exact trivial)) (by(refine⟨.row rfl,?_⟩;refine⟨.row rfl,?_⟩;refine⟨.box _ rfl ?_,?_⟩;(iterate 3 refine⟨.aj (by first|rfl|exact gz) rfl,?_⟩);refine⟨.ai (by first|rfl|exact gz),?_⟩;refine⟨.aj (by first|rfl|exact gz) rfl,?_⟩;refine⟨.ai (by first|rfl|exact gz),?_⟩;(iterate 2 refine⟨.aj (by first|rfl|exact gz) rfl,?_⟩);(iterate 3 refine⟨.ai (by first|rfl|exact gz),?_⟩);refine⟨.aj (by first|rfl|exact gz) rfl,?_⟩;refine⟨.ai (by first|rfl|exact gz),?_⟩;(iterate 2 refine⟨.bz (by first|rfl|exact gz),?_⟩);exact trivial;(iterate 3 refine⟨.row rfl,?_⟩);refine⟨.pool rfl (by first|rfl|exact gz),?_⟩;(iterate 2 refine⟨.row rfl,?_⟩);refine⟨.pool rfl (by first|rfl|exact gz),?_⟩;refine⟨.row rfl,?_⟩;refine⟨.pool rfl (by first|rfl|exact gz),?_⟩;refine⟨.row rfl,?_⟩;exact trivial)) rfl
 rintro⟨sl,ds,k⟩ ⟨hB,hk⟩
 simp only at hB hk
 have Gj:=hB.len
 cases k with
 |zero=>
  have fA:=hB.out
  (refine zo ?_;refine dk ?_;refine aa.geq rfl rfl rfl rfl rfl ?_;refine vx ?_;refine vj ?_;refine pz ?_;refine ot ?_)
  (apply bW ((x::ds:List Int)) (fA);((exact bD.one (.tmp rfl rfl)));((refine⟨.su rfl (by first|with_reducible rfl|(rfl)),?_⟩;exact rP));((exact Q2));exact rfl)
 |succ k=>
  have ek:((k+1:Nat):Int) - 1=(k:Int):=by omega
  have Di:(k:Int).toNat<(s.ll 0).length:=by omega
  have CS:k<(s.ll 0).length:=by omega
  obtain⟨y,hy⟩:∃y,y=(s.ll 0)[(k:Int).toNat]:=⟨_,rfl⟩
  have hy2:(s.ll 0)[k]=y:=hy.symm
  have qA:=hs.trl.rng _ (List.getElem_mem Di)
  rw[← hy] at qA
  have hv0:0≤max y (-y):=by omega
  have Ff:(max y (-y)).toNat<n+1:=by omega
  have hv1:(max y (-y)).toNat<sl.length:=by omega
  have hv2:(max y (-y)).toNat<s.level.length:=by omega
  have hv3:(max y (-y)).toNat<s.reason.length:=by omega
  have hg1:sl.getD (aF y) false=sl[(max y (-y)).toNat]:=m_ hv1
  have hg2:aD s y=s.level[(max y (-y)).toNat]:=aQ hv2
  have hg3:s.reason.getD (aF y) 0=s.reason[(max y (-y)).toNat]:=aQ hv3
  have LL:=hs.ix (List.getElem_mem Di)
  rw[← hy,hg2] at LL
  rw[ek]
  cases jW:sl[(max y (-y)).toNat] with
  |false=>
   have Hb:(!sl[(max y (-y)).toNat])=true:=by rw[jW];rfl
   have la:=hB.skip CS (.inl (by rw[hy2,hg1];exact jW))
   (refine zo ?_;refine dk ?_;refine DA ?_;(with_reducible apply aa.aA 4);(iterate 8 exact rfl);(first|(with_reducible assumption)|omega|(simp only[ab,List.length_set];omega));(first|(with_reducible assumption)|omega|(simp only[ab,List.length_set];omega));(focus ((with_reducible apply aa.ax 4);(iterate 5 exact rfl);(focus (intro h_;cases h_;done));rotate_left;(first|(with_reducible assumption)|omega|(simp only[ab,List.length_set];omega))));refine eD ?_;(with_reducible apply AW.pj 8);(rw[← hy]);refine DQ ?_;(focus ((with_reducible apply aa.aC);(iterate 4 exact rfl);(focus (intro h_;cases h_;done));rotate_left;(first|omega|exact Nat.zero_lt_one|(simp;done))));refine uI ?_;refine JX ?_;refine Q0 ?_;refine zm ?_;refine vV ?_)
   exact OX
  |true=>
   have Hb:(!sl[(max y (-y)).toNat])=false:=by rw[jW];rfl
   by_cases hl0:s.level[(max y (-y)).toNat]=0
   ·have la:=hB.skip CS (.inr (by rw[hy2,hg2];exact hl0))
    (refine zo ?_;refine dk ?_;refine DA ?_;(with_reducible apply aa.aA 4);(iterate 8 exact rfl);(first|(with_reducible assumption)|omega|(simp only[ab,List.length_set];omega));(first|(with_reducible assumption)|omega|(simp only[ab,List.length_set];omega));(focus ((with_reducible apply aa.ax 4);(iterate 5 exact rfl);(focus (intro h_;cases h_;done));rotate_left;(first|(with_reducible assumption)|omega|(simp only[ab,List.length_set];omega))));refine eD ?_;(with_reducible apply AW.pj 8);(rw[← hy]);refine DQ ?_;(focus ((with_reducible apply aa.aC);(iterate 4 exact rfl);(focus (intro h_;cases h_;done));rotate_left;(first|omega|exact Nat.zero_lt_one|(simp;done))));refine aa.not rfl rfl rfl ?_;refine Is ?_;(focus ((with_reducible apply aa.aC);(iterate 4 exact rfl);(focus (intro h_;cases h_;done));rotate_left;(first|omega|exact Nat.zero_lt_one|(simp;done))));refine y7 ?_;refine gG ?_;refine Aw ?_;refine Q0 ?_;refine zm ?_;refine vV ?_)
    exact OX
   ·by_cases hr0:s.reason[(max y (-y)).toNat]= -1
    ·have la:=hB.dec hs CS (by rw[hy2,hg2];exact hl0) (by rw[hy2,hg3];exact hr0)
     rw[hy2] at la
     have xT:ds.length≤1000000:=by
      have:=eW (n:=2*n+2) (l:=ds.map al) (by
       unfold List.Nodup
       rw[List.pairwise_map]
       exact hB.nd.imp_of_mem fun {a b} ha hb mK e=>mK (cA (n:=n) (by obtain⟨q,p1,_,p3,_⟩:=hB.mem a ha;rw[← p3];exact hs.trl.rng _ (List.getElem_mem p1)) (by obtain⟨q,p1,_,p3,_⟩:=hB.mem b hb;rw[← p3];exact hs.trl.rng _ (List.getElem_mem p1)) (by rw[e]))) fun v hv=>by
       obtain⟨a,ha,rfl⟩:=List.mem_map.1 hv
       obtain⟨q,p1,_,p3,_⟩:=hB.mem a ha
       have:=da (hs.trl.rng _ (List.getElem_mem p1))
       rw[p3] at this
       omega
      simp only[List.length_map] at this
      omega
     (refine zo ?_;refine dk ?_;refine DA ?_;(with_reducible apply aa.aA 4);(iterate 8 exact rfl);(first|(with_reducible assumption)|omega|(simp only[ab,List.length_set];omega));(first|(with_reducible assumption)|omega|(simp only[ab,List.length_set];omega));(focus ((with_reducible apply aa.ax 4);(iterate 5 exact rfl);(focus (intro h_;cases h_;done));rotate_left;(first|(with_reducible assumption)|omega|(simp only[ab,List.length_set];omega))));refine eD ?_;(with_reducible apply AW.pj 8);(rw[← hy]);refine DQ ?_;(focus ((with_reducible apply aa.aC);(iterate 4 exact rfl);(focus (intro h_;cases h_;done));rotate_left;(first|omega|exact Nat.zero_lt_one|(simp;done))));refine aa.not rfl rfl rfl ?_;refine Is ?_;(focus ((with_reducible apply aa.aC);(iterate 4 exact rfl);(focus (intro h_;cases h_;done));rotate_left;(first|omega|exact Nat.zero_lt_one|(simp;done))));refine y7 ?_;refine hO ?_;refine zo ?_;refine dH ?_;refine F5 ?_;(focus ((with_reducible apply aa.aC);(iterate 4 exact rfl);(focus (intro h_;cases h_;done));rotate_left;(first|omega|exact Nat.zero_lt_one|(simp;done))));refine Cw ?_;refine pz ?_;refine zm ?_;(with_reducible apply aa.il);(iterate 5 exact rfl);(first|exact rfl|assumption|exact dm _|exact dj _ _|exact dF _|exact dG _ _);exact rfl;exact rfl;refine Q0 ?_;(with_reducible apply aa.aZ);exact rfl;(first|exact .pv rfl|exact .own rfl|exact .nil rfl);(iterate 9 exact rfl);(first|omega|(simp only[List.length_map,List.length_append,List.length_cons,List.length_nil,List.length_drop,List.length_take,List.length_set,List.length_range,aE];omega));refine Q0 ?_;refine vn ?_;refine Aw ?_;refine Q0 ?_;refine zm ?_;refine vV ?_)
     exact⟨(sl,ds++ [y],k),⟨la,show k≤(s.ll 0).length by omega⟩,by show k<k+1;omega,aN rfl (by(refine⟨.aj (by first|rfl|(rw[← List.cons_append,List.map_append];rfl)) rfl,?_⟩;refine⟨.aj (by first|rfl|(rw[← List.cons_append,List.map_append];rfl)) rfl,?_⟩;refine⟨.ai (by first|rfl|(rw[← List.cons_append,List.map_append];rfl)),?_⟩;refine⟨.ai (by first|rfl|(rw[← List.cons_append,List.map_append];rfl)),?_⟩;(iterate 2 refine⟨.eq rfl rfl,?_⟩);exact trivial)) (by(refine⟨.row rfl,?_⟩;refine⟨.row rfl,?_⟩;refine⟨.box _ rfl ?_,?_⟩;refine⟨.aj (by first|rfl|(rw[← List.cons_append,List.map_append];rfl)) rfl,?_⟩;refine⟨.aj (by first|rfl|(rw[← List.cons_append,List.map_append];rfl)) rfl,?_⟩;refine⟨.aj (by first|rfl|(rw[← List.cons_append,List.map_append];rfl)) rfl,?_⟩;refine⟨.ai (by first|rfl|(rw[← List.cons_append,List.map_append];rfl)),?_⟩;refine⟨.aj (by first|rfl|(rw[← List.cons_append,List.map_append];rfl)) rfl,?_⟩;refine⟨.ai (by first|rfl|(rw[← List.cons_append,List.map_append];rfl)),?_⟩;refine⟨.aj (by first|rfl|(rw[← List.cons_append,List.map_append];rfl)) rfl,?_⟩;refine⟨.aj (by first|rfl|(rw[← List.cons_append,List.map_append];rfl)) rfl,?_⟩;refine⟨.ai (by first|rfl|(rw[← List.cons_append,List.map_append];rfl)),?_⟩;refine⟨.ai (by first|rfl|(rw[← List.cons_append,List.map_append];rfl)),?_⟩;refine⟨.ai (by first|rfl|(rw[← List.cons_append,List.map_append];rfl)),?_⟩;refine⟨.aj (by first|rfl|(rw[← List.cons_append,List.map_append];rfl)) rfl,?_⟩;refine⟨.ai (by first|rfl|(rw[← List.cons_append,List.map_append];rfl)),?_⟩;refine⟨.bz (by first|rfl|(rw[← List.cons_append,List.map_append];rfl)),?_⟩;refine⟨.bz (by first|rfl|(rw[← List.cons_append,List.map_append];rfl)),?_⟩;exact trivial;(iterate 3 refine⟨.row rfl,?_⟩);refine⟨.pool rfl (by first|rfl|(rw[← List.cons_append,List.map_append];rfl)),?_⟩;(iterate 2 refine⟨.row rfl,?_⟩);refine⟨.pool rfl (by first|rfl|(rw[← List.cons_append,List.map_append];rfl)),?_⟩;refine⟨.row rfl,?_⟩;refine⟨.pool rfl (by first|rfl|(rw[← List.cons_append,List.map_append];rfl)),?_⟩;refine⟨.row rfl,?_⟩;exact trivial)) rfl⟩
    ·obtain⟨j,hj,hR,N9,OY⟩:=(hs.rea k CS).resolve_left (by rw[hy2,hg3];exact fun q=>hr0 q.1)
     rw[hy2] at hR N9 OY
     rw[hg3] at hR
     have hR1:0≤s.reason[(max y (-y)).toNat]:=by omega
     have hR2:(s.reason[(max y (-y)).toNat]).toNat<s.nc:=by omega
     have dO:=hs.wN hj
     have jI:=(hs.cls j hj).2.2
     have ND:=ff s.nc s.hc
     (refine zo ?_;refine dk ?_;refine DA ?_;(with_reducible apply aa.aA 4);(iterate 8 exact rfl);(first|(with_reducible assumption)|omega|(simp only[ab,List.length_set];omega));(first|(with_reducible assumption)|omega|(simp only[ab,List.length_set];omega));(focus ((with_reducible apply aa.ax 4);(iterate 5 exact rfl);(focus (intro h_;cases h_;done));rotate_left;(first|(with_reducible assumption)|omega|(simp only[ab,List.length_set];omega))));refine eD ?_;(with_reducible apply AW.pj 8);(rw[← hy]);refine DQ ?_;(focus ((with_reducible apply aa.aC);(iterate 4 exact rfl);(focus (intro h_;cases h_;done));rotate_left;(first|omega|exact Nat.zero_lt_one|(simp;done))));refine aa.not rfl rfl rfl ?_;refine Is ?_;(focus ((with_reducible apply aa.aC);(iterate 4 exact rfl);(focus (intro h_;cases h_;done));rotate_left;(first|omega|exact Nat.zero_lt_one|(simp;done))));refine y7 ?_;refine hO ?_;refine zo ?_;refine dH ?_;refine F5 ?_;(focus ((with_reducible apply aa.aC);(iterate 4 exact rfl);(focus (intro h_;cases h_;done));rotate_left;(first|omega|exact Nat.zero_lt_one|(simp;done))));refine wx ?_;refine zo ?_;(with_reducible apply AW.bn);exact rfl;exact rfl;kernel_rfl;(with_reducible assumption);refine BK ?_;refine zb ?_;refine F5 ?_;(focus ((with_reducible apply aa.aC);(iterate 4 exact rfl);(focus (intro h_;cases h_;done));rotate_left;(first|omega|exact Nat.zero_lt_one|(simp;done))));refine Ii ?_;refine aa.dE rfl rfl rfl rfl (fun h_=>by cases h_) (by omega) ?_;refine aa.ig 7 rfl rfl rfl rfl rfl ?_;refine zm ?_;refine pT ?_)
     rw[hR,Int.toNat_natCast j]
     (refine Q0 ?_;apply AW.ck [93,92,6,7,4,0,1000] [12,11,0,1,2,3,4,5,6,7,8,9,10] (fun p:List Bool×Nat=>([(5,.own 11 4 1 (p.1.map jj)),(94,aw p.2)]:List (Nat×AV))) (fun p:List Bool×Nat=>([]:List (Nat×Option Ob))) (fun p:List Bool×Nat=>vO n s sl j p.1 p.2) (fun p:List Bool×Nat=>(s.cl j).length - p.2) ((sl,0));(conv=>lhs;simp only[Nf.jJ,Nf.all,Nat.reduceBEq,reduceAdd,reduceSub]);(all_goals skip))
     ·exact .start Gj
     ·exact aN rfl (by(refine⟨.aj (by rfl) rfl,?_⟩;(iterate 3 refine⟨.ai (by rfl),?_⟩);refine⟨.aj (by rfl) rfl,?_⟩;(iterate 2 refine⟨.ai (by rfl),?_⟩);(iterate 2 refine⟨.eq rfl rfl,?_⟩);exact trivial)) (by(refine⟨.row rfl,?_⟩;refine⟨.row rfl,?_⟩;refine⟨.box _ rfl ?_,?_⟩;(iterate 3 refine⟨.aj (by rfl) rfl,?_⟩);refine⟨.ai (by rfl),?_⟩;refine⟨.aj (by rfl) rfl,?_⟩;refine⟨.ai (by rfl),?_⟩;(iterate 2 refine⟨.aj (by rfl) rfl,?_⟩);(iterate 3 refine⟨.ai (by rfl),?_⟩);refine⟨.aj (by rfl) rfl,?_⟩;refine⟨.ai (by rfl),?_⟩;(iterate 2 refine⟨.bz (by rfl),?_⟩);exact trivial;(iterate 3 refine⟨.row rfl,?_⟩);refine⟨.pool rfl (by rfl),?_⟩;(iterate 2 refine⟨.row rfl,?_⟩);refine⟨.pool rfl (by rfl),?_⟩;refine⟨.row rfl,?_⟩;refine⟨.pool rfl (by rfl),?_⟩;refine⟨.row rfl,?_⟩;exact trivial)) rfl
     rintro⟨sl2,i⟩ hW
     simp only at hW
     have PT:=hW.hi
     have p8:=hW.len
     by_cases aP:i<(s.cl j).length
     ·have oK:(i:Int).toNat<(s.cl j).length:=by omega
      obtain⟨z,hz⟩:∃z,z=(s.cl j)[(i:Int).toNat]:=⟨_,rfl⟩
      have hz2:(s.cl j)[i]=z:=hz.symm
      have Ns:=jI _ (List.getElem_mem oK)
      rw[← hz] at Ns
      obtain⟨_,_,_⟩:=Ns
      have hw0:0≤max z (-z):=by omega
      have hw1:(max z (-z)).toNat<sl2.length:=by omega
      have Gh:=hW.next aP (by rw[hz2];unfold aF;omega)
      rw[hz2] at Gh
      have fb:=AJ sl2 (max z (-z)).toNat
      (refine j6 ?_;(with_reducible apply aa.aA 7);(iterate 8 exact rfl);(first|(with_reducible assumption)|omega|(simp only[ab,List.length_set];omega));(first|(with_reducible assumption)|omega|(simp only[ab,List.length_set];omega));(focus ((with_reducible apply aa.ax 7);(iterate 5 exact rfl);(focus (intro h_;cases h_;done));rotate_left;(first|(with_reducible assumption)|omega|(simp only[ab,List.length_set];omega))));refine eD ?_;(with_reducible apply AW.atR 15);(rw[← hz]);refine kM ?_;refine aa.bt rfl rfl rfl ?_;refine B6 ?_;refine mD ?_;(with_reducible apply aa.bI);(iterate 4 exact rfl);(first|exact rfl|assumption|exact dm _|exact dj _ _|exact dF _|exact dG _ _);(iterate 3 exact rfl);refine Q0 ?_;refine uj ?_)
      exact⟨(sl2.set (aF z) true,i+1),Gh,by show(s.cl j).length - (i+1)<(s.cl j).length - i;omega,aN rfl (by(refine⟨.aj (by first|rfl|exact fb) rfl,?_⟩;(iterate 3 refine⟨.ai (by first|rfl|exact fb),?_⟩);refine⟨.aj (by first|rfl|exact fb) rfl,?_⟩;(iterate 2 refine⟨.ai (by first|rfl|exact fb),?_⟩);(iterate 2 refine⟨.eq rfl rfl,?_⟩);exact trivial)) (by(refine⟨.row rfl,?_⟩;refine⟨.row rfl,?_⟩;refine⟨.box _ rfl ?_,?_⟩;(iterate 3 refine⟨.aj (by first|rfl|exact fb) rfl,?_⟩);refine⟨.ai (by first|rfl|exact fb),?_⟩;refine⟨.aj (by first|rfl|exact fb) rfl,?_⟩;refine⟨.ai (by first|rfl|exact fb),?_⟩;(iterate 2 refine⟨.aj (by first|rfl|exact fb) rfl,?_⟩);(iterate 3 refine⟨.ai (by first|rfl|exact fb),?_⟩);refine⟨.aj (by first|rfl|exact fb) rfl,?_⟩;refine⟨.ai (by first|rfl|exact fb),?_⟩;(iterate 2 refine⟨.bz (by first|rfl|exact fb),?_⟩);exact trivial;(iterate 3 refine⟨.row rfl,?_⟩);refine⟨.pool rfl (by first|rfl|exact fb),?_⟩;(iterate 2 refine⟨.row rfl,?_⟩);refine⟨.pool rfl (by first|rfl|exact fb),?_⟩;refine⟨.row rfl,?_⟩;refine⟨.pool rfl (by first|rfl|exact fb),?_⟩;refine⟨.row rfl,?_⟩;exact trivial)) rfl⟩
     ·obtain rfl:i=(s.cl j).length:=by omega
      have la:=hB.row hs CS hj (by rw[hy2];exact N9) (by rw[hy2];exact OY) hW
      (refine dH ?_;refine zs ?_;refine zd ?_;refine zo ?_;refine zk ?_;refine AW.exit ?_;(iterate 2 refine eo ?_);refine cv ?_;refine yu ?_;refine Q0 ?_;refine zm ?_;refine vV ?_)
      exact⟨(sl2,ds,k),⟨la,show k≤(s.ll 0).length by omega⟩,by show k<k+1;omega,aN rfl (by(refine⟨.aj (by rfl) rfl,?_⟩;refine⟨.aj (by rfl) rfl,?_⟩;(iterate 2 refine⟨.ai (by rfl),?_⟩);(iterate 2 refine⟨.eq rfl rfl,?_⟩);exact trivial)) (by(refine⟨.row rfl,?_⟩;refine⟨.row rfl,?_⟩;refine⟨.box _ rfl ?_,?_⟩;(iterate 3 refine⟨.aj (by rfl) rfl,?_⟩);refine⟨.ai (by rfl),?_⟩;refine⟨.aj (by rfl) rfl,?_⟩;refine⟨.ai (by rfl),?_⟩;(iterate 2 refine⟨.aj (by rfl) rfl,?_⟩);(iterate 3 refine⟨.ai (by rfl),?_⟩);refine⟨.aj (by rfl) rfl,?_⟩;refine⟨.ai (by rfl),?_⟩;(iterate 2 refine⟨.bz (by rfl),?_⟩);exact trivial;(iterate 3 refine⟨.row rfl,?_⟩);refine⟨.pool rfl (by rfl),?_⟩;(iterate 2 refine⟨.row rfl,?_⟩);refine⟨.pool rfl (by rfl),?_⟩;refine⟨.row rfl,?_⟩;refine⟨.pool rfl (by rfl),?_⟩;refine⟨.row rfl,?_⟩;exact trivial)) rfl⟩
end Go.Ab
