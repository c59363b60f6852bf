/- The solver's propagation, in plain terms: what it may turn, and how far it has come. -/
import Derived.Test.YtigjjjpcjnifhaaAtA3
import Derived.Test.YtigjjjpcjnifhaaAbZ
import Derived.Test.YtigjjjpcjnifhaaAbL3
set_option linter.unusedSimpArgs false
set_option linter.unusedVariables false
namespace Go.Ab
open Go Go.Proofs
structure SExt (s t:SR):Prop where
 marks:t.marks=s.marks
 low:t.low=s.low
 added:t.added=s.added
 broken:t.broken=s.broken
 nc:t.nc=s.nc
 hc:t.hc=s.hc
 nw:t.nw=s.nw
 proof:t.proof=s.proof
 model:t.model=s.model
 core:t.core=s.core
 ll:∃ys,t.ll 0=s.ll 0++ys
 cl:∀j,Perm2 (s.cl j) (t.cl j)
 old:∀x∈s.ll 0,t.reason.getD (varN x) 0=s.reason.getD (varN x) 0
 new:∀x∈t.ll 0,x∉s.ll 0→t.reason.getD (varN x) 0≠ -1
theorem Perm2.refl (c:List Int):Perm2 c c:=⟨rfl,id,fun _=>Iff.rfl⟩
theorem Perm2.trans {c d e:List Int} (h:Perm2 c d) (k:Perm2 d e):Perm2 c e:=⟨k.len.trans h.len,fun x=>k.nd (h.nd x),fun x=>(k.mem x).trans (h.mem x)⟩
theorem SExt.refl (s:SR):SExt s s:=⟨rfl,rfl,rfl,rfl,rfl,rfl,rfl,rfl,rfl,rfl,⟨[],by simp⟩,fun _=> .refl _,fun _ _=>rfl,fun _ h k=>absurd h k⟩
theorem SExt.turn {s t:SR} (h:SExt s t) {cl:Nat→List Int} {hw:Nat→Value} {wl:Nat→List Int} {hd:Int} (hcl:∀j,Perm2 (t.cl j) (cl j)):SExt s {t with cl:=cl,hw:=hw,wl:=wl,head:=hd} where
 marks:=h.marks
 low:=h.low
 added:=h.added
 broken:=h.broken
 nc:=h.nc
 hc:=h.hc
 nw:=h.nw
 proof:=h.proof
 model:=h.model
 core:=h.core
 ll:=h.ll
 cl:=fun j=>(h.cl j).trans (hcl j)
 old:=h.old
 new:=h.new
theorem reason_push {s:SR} {x r:Int} {h:Value} {y:Int} (hne:varN y≠varN x):(pushS s x r h).reason.getD (varN y) 0=s.reason.getD (varN y) 0:=by
 unfold pushS
 simp only
 rw[List.getD_eq_getElem?_getD,List.getD_eq_getElem?_getD,List.getElem?_set,if_neg (Ne.symm hne)]
theorem ll_push (s:SR) (x r:Int) (h:Value):(pushS s x r h).ll 0=s.ll 0++ [x]:=by
 show fset s.ll 0 (s.ll 0++ [x]) 0=_
 exact fset_same _ _ _
theorem SExt.push {n:Nat} {s t:SR} (h:SExt s t) (ht:t.reason.length=n+1) {x r:Int} {hv:Value} (hx:Lit n x) (h1:x∉t.ll 0) (h2: -x∉t.ll 0) (hr:r≠ -1):SExt s (pushS t x r hv) where
 marks:=h.marks
 low:=h.low
 added:=h.added
 broken:=h.broken
 nc:=h.nc
 hc:=h.hc
 nw:=h.nw
 proof:=h.proof
 model:=h.model
 core:=h.core
 ll:=by
  obtain⟨ys,e⟩:=h.ll
  exact⟨ys++ [x],by rw[ll_push,e,List.append_assoc]⟩
 cl:=h.cl
 old:=fun y hy=>by
  obtain⟨ys,e⟩:=h.ll
  rw[reason_push (var_ne (n:=n) h1 h2 (.inl (by rw[e];exact List.mem_append.2 (.inl hy))))]
  exact h.old y hy
 new:=fun y hy hny=>by
  rw[ll_push,List.mem_append,List.mem_singleton] at hy
  rcases hy with hy|rfl
  ·rw[reason_push (var_ne (n:=n) h1 h2 (.inl hy))]
   exact h.new y hy hny
  ·have:=varN_rng hx
   unfold pushS
   simp only
   rw[List.getD_eq_getElem?_getD,List.getElem?_set,if_pos rfl,if_pos (by rw[ht];omega)];exact hr
theorem SInv.hw {n:Nat} {s:SR} (h:SInv n s) (hv:Nat→Value):SInv n {s with hw:=hv}:=
 {hn:=h.hn,trl:=h.trl,val:=h.val,lvl:=h.lvl,rsn:=h.rsn,hd:=h.hd,mrk:=h.mrk,lev:=h.lev,cls:=h.cls,fresh:=h.fresh,nc:=h.nc,nw:=h.nw,wt:=h.wt,wnd:=h.wnd,wto:=h.wto,two:=h.two,srt:=h.srt,rea:=h.rea}
theorem nodup_leI {n:Nat} {l:List Int} (h:l.Nodup) (hl:∀x∈l,0≤x∧x<n):l.length≤n:=by
 have:=nodup_leS n (l:=l.map fun x=>(x+1).toNat) (by
  unfold List.Nodup
  rw[List.pairwise_map]
  exact h.imp_of_mem fun {a b} ha hb hab e=>by have:=hl a ha;have:=hl b hb;omega) fun v hv=>by
  obtain⟨x,hx,rfl⟩:=List.mem_map.1 hv
  have:=hl x hx
  omega
 simpa using this
theorem SInv.wlen {n:Nat} {s:SR} (h:SInv n s) {x:Int} (hx:Lit n x):(s.wl (idxI x).toNat).length≤s.nc:=
 nodup_leI (h.wnd _) fun e he=>by
  obtain⟨j,hj,rfl,_⟩:=h.wt x hx e he
  omega
theorem SInv.clen {n:Nat} {s:SR} (h:SInv n s) {j:Nat} (hj:j<s.nc):(s.cl j).length≤2*n+2:=by
 obtain⟨_,h2,h3⟩:=h.cls j hj
 have:=nodup_leI (n:=2*n+2) (l:=(s.cl j).map idxI) (by
  unfold List.Nodup
  rw[List.pairwise_map]
  exact h2.imp_of_mem fun {a b} ha hb hab e=>hab (idxI_inj (h3 a ha) (h3 b hb) (by rw[e]))) fun v hv=>by
  obtain⟨x,hx,rfl⟩:=List.mem_map.1 hv
  have:=idxI_lt (h3 x hx)
  omega
 simpa using this
structure PIn (n:Nat) (s0:SR) (hd:Int) (N:Nat) (g:Int) (s:SR) (m i:Nat):Prop where
 inv:SInv n {s with wl:=fset s.wl (idxI g).toNat ((s.wl (idxI g).toNat).take m++(s.wl (idxI g).toNat).drop i)}
 ext:SExt s0 s
 len:(s.wl (idxI g).toNat).length=N
 mi:m≤i
 iN:i≤N
 hd:s.head=hd
 hh:(s.ll 0)[s.head.toNat]? =some (-g)
 done:∀e∈(s.wl (idxI g).toNat).take m,∃j:Nat,j<s.nc∧e=(j:Int)∧c1 (s.cl j)=g∧c0 (s.cl j)∈s.ll 0
theorem SInv.wlsame {n:Nat} {s:SR} (h:SInv n s) {wl:Nat→List Int} (e:wl=s.wl):SInv n {s with wl:=wl}:=by subst e;exact h
theorem PIn.start {n:Nat} {s0 s:SR} {g:Int} (h:SInv n s) (he:SExt s0 s) (hh:(s.ll 0)[s.head.toNat]? =some (-g)):PIn n s0 s.head (s.wl (idxI g).toNat).length g s 0 0 where
 inv:=h.wlsame (by simp only[List.take_zero,List.drop_zero,List.nil_append];exact fset_id _ _)
 ext:=he
 len:=rfl
 mi:=Nat.le_refl _
 iN:=Nat.zero_le _
 hd:=rfl
 hh:=hh
 done:=fun e he=>by simp at he
section
variable {n:Nat} {s0:SR} {hd:Int} {N:Nat} {g:Int} {s:SR} {m i:Nat}
theorem PIn.gl (h:PIn n s0 hd N g s m i):Lit n g∧ -g∈s.ll 0:=by
 have hm:=List.mem_of_getElem? h.hh
 have:=h.inv.trl.rng (-g) hm
 exact⟨⟨by omega,by omega,by omega⟩,hm⟩
theorem PIn.clause (h:PIn n s0 hd N g s m i) (hi:i<N):∃j:Nat,j<s.nc∧(s.wl (idxI g).toNat)[i]? =some (j:Int)∧(c0 (s.cl j)=g∨c1 (s.cl j)=g)∧((j:Int)∉(s.wl (idxI g).toNat).take m)∧2≤(s.cl j).length∧(s.cl j).length≤2*n+2∧(s.cl j).Nodup∧∀x∈s.cl j,Lit n x:=by
 have hi2:i<(s.wl (idxI g).toNat).length:=by rw[h.len];exact hi
 have hmem:(s.wl (idxI g).toNat)[i]∈fset s.wl (idxI g).toNat ((s.wl (idxI g).toNat).take m++(s.wl (idxI g).toNat).drop i) (idxI g).toNat:=by
  rw[fset_same,List.mem_append]
  exact .inr (by rw[List.drop_eq_getElem_cons hi2];exact List.mem_cons_self)
 obtain⟨j,hj,e,hw⟩:=h.inv.wt g h.gl.1 _ hmem
 obtain⟨q1,q2,q3⟩:=h.inv.cls j hj
 refine⟨j,hj,by rw[List.getElem?_eq_getElem hi2,e],hw,fun hm=>?_,q1,h.inv.clen hj,q2,q3⟩
 have hn:=h.inv.wnd (idxI g).toNat
 simp only[fset_same] at hn
 refine(List.nodup_append.1 hn).2.2 _ hm _ ?_ rfl
 rw[List.drop_eq_getElem_cons hi2,e];simp
theorem PIn.bnd (h:PIn n s0 hd N g s m i):s.value.length=n+1∧s.level.length=n+1∧s.reason.length=n+1∧n≤20000∧(s.ll 0).length≤n∧s.marks.length≤s.marks.length∧s.nw=2*n+2∧s.nc≤100000:=
 ⟨by have:=h.inv.val;show s.value.length=_;rw[show s.value=valV n (s.ll 0) from this,valV_len],h.inv.lvl,h.inv.rsn,h.inv.hn,h.inv.trl.len,Nat.le_refl _,h.inv.nw,h.inv.nc⟩
theorem PIn.swap (h:PIn n s0 hd N g s m i) {j:Nat} (hj:j<s.nc) (hjm:(j:Int)∉(s.wl (idxI g).toNat).take m) {d:List Int} (hp:Perm2 (s.cl j) d) (h0:c0 d=c1 (s.cl j)) (h1:c1 d=c0 (s.cl j)):PIn n s0 hd N g {s with cl:=fset s.cl j d} m i where
 inv:=h.inv.swap hj hp h0 h1
 ext:=h.ext.turn fun k=>by
  unfold fset;split
  ·next e=>subst e;exact hp
  ·exact .refl _
 len:=h.len
 mi:=h.mi
 iN:=h.iN
 hd:=h.hd
 hh:=h.hh
 done:=fun e he=>by
  obtain⟨k,q1,q2,q3,q4⟩:=h.done e he
  have hne:k≠j:=by rintro rfl;exact hjm (q2▸he)
  exact⟨k,q1,q2,by show c1 (fset s.cl j d k)=g;rw[fset_ne _ _ hne];exact q3,by show c0 (fset s.cl j d k)∈_;rw[fset_ne _ _ hne];exact q4⟩
theorem PIn.keep (h:PIn n s0 hd N g s m i) {j:Nat} (hj:j<s.nc) (hi:(s.wl (idxI g).toNat)[i]? =some (j:Int)) (hc1:c1 (s.cl j)=g) (hc0:c0 (s.cl j)∈s.ll 0):PIn n s0 hd N g {s with wl:=fset s.wl (idxI g).toNat ((s.wl (idxI g).toNat).set m (j:Int))} (m+1) (i+1):=by
 obtain⟨hi2,e⟩:=List.getElem?_eq_some_iff.1 hi
 have hm:=h.mi
 have hset:fset (fset s.wl (idxI g).toNat ((s.wl (idxI g).toNat).set m (j:Int))) (idxI g).toNat ((fset s.wl (idxI g).toNat ((s.wl (idxI g).toNat).set m (j:Int)) (idxI g).toNat).take (m+1)++(fset s.wl (idxI g).toNat ((s.wl (idxI g).toNat).set m (j:Int)) (idxI g).toNat).drop (i+1))=fset s.wl (idxI g).toNat ((s.wl (idxI g).toNat).take m++(s.wl (idxI g).toNat).drop i):=by
  rw[fset_fset,fset_same,← e,keep_same hm hi2]
 exact
  {inv:=by
    have:=h.inv
    rw[← hset] at this
    exact this
   ext:=h.ext.turn fun _=> .refl _
   len:=by show(fset s.wl (idxI g).toNat ((s.wl (idxI g).toNat).set m (j:Int)) (idxI g).toNat).length=_;rw[fset_same,List.length_set];exact h.len
   mi:=by omega
   iN:=by rw[← h.len];omega
   hd:=h.hd,hh:=h.hh
   done:=fun x hx=>by
    have hx:x∈(fset s.wl (idxI g).toNat ((s.wl (idxI g).toNat).set m (j:Int)) (idxI g).toNat).take (m+1):=hx
    rw[fset_same,List.take_succ_eq_append_getElem (by simp;omega),List.mem_append,List.mem_singleton,List.getElem_set_self,List.take_set_of_le (Nat.le_refl _)] at hx
    rcases hx with hx|rfl
    ·exact h.done x hx
    ·exact⟨j,hj,rfl,hc1,hc0⟩}
theorem PIn.move (h:PIn n s0 hd N g s m i) {j:Nat} (hj:j<s.nc) (hi:(s.wl (idxI g).toNat)[i]? =some (j:Int)) (hjm:(j:Int)∉(s.wl (idxI g).toNat).take m) (hc1:c1 (s.cl j)=g) {d:List Int} {y:Int} (hp:Perm2 (s.cl j) d) (h0:c0 d=c0 (s.cl j)) (h1:c1 d=y) (hyg:y≠g) (hy0:y≠c0 (s.cl j)) (hyf: -y∉s.ll 0) (hv:Nat→Value):
  PIn n s0 hd N g {s with cl:=fset s.cl j d,hw:=hv,wl:=fset s.wl (idxI y).toNat (s.wl (idxI y).toNat++ [(j:Int)])} m (i+1):=by
 obtain⟨hi2,e⟩:=List.getElem?_eq_some_iff.1 hi
 have hyl:Lit n y:=by
  obtain⟨q1,q2,q3⟩:=h.inv.cls j hj
  have q1:2≤(s.cl j).length:=q1
  have q3:∀x∈s.cl j,Lit n x:=q3
  refine q3 y ((hp.mem y).1 ?_)
  rw[← h1]
  exact(c0_mem (by rw[hp.len];exact q1)).2
 have hne:(idxI g).toNat≠(idxI y).toNat:=fun q=>hyg (idxI_inj hyl h.gl.1 q.symm)
 have hsame:fset s.wl (idxI y).toNat (s.wl (idxI y).toNat++ [(j:Int)]) (idxI g).toNat=s.wl (idxI g).toNat:=fset_ne _ _ hne
 have hE:(s.wl (idxI g).toNat).take m++(s.wl (idxI g).toNat).drop i=(s.wl (idxI g).toNat).take m++(j:Int)::(s.wl (idxI g).toNat).drop (i+1):=by
  rw[List.drop_eq_getElem_cons hi2,e]
 have hnd:((s.wl (idxI g).toNat).take m++(j:Int)::(s.wl (idxI g).toNat).drop (i+1)).Nodup:=by
  have:=h.inv.wnd (idxI g).toNat
  simp only[fset_same] at this
  rw[hE] at this
  exact this
 have hm:=h.inv.move hj hp hc1 h.gl.2 h0 h1 hyg hy0 hyf (E:=(s.wl (idxI g).toNat).take m++(s.wl (idxI g).toNat).drop i) (E':=(s.wl (idxI g).toNat).take m++(s.wl (idxI g).toNat).drop (i+1)) (by exact fset_same _ _ _) (fun x=>by rw[hE];exact drop_one hnd x) (drop_nodup hnd) hv
 exact
  {inv:=by
    have e2:fset (fset (fset s.wl (idxI g).toNat ((s.wl (idxI g).toNat).take m++(s.wl (idxI g).toNat).drop i)) (idxI y).toNat (fset s.wl (idxI g).toNat ((s.wl (idxI g).toNat).take m++(s.wl (idxI g).toNat).drop i) (idxI y).toNat++ [(j:Int)])) (idxI g).toNat ((s.wl (idxI g).toNat).take m++(s.wl (idxI g).toNat).drop (i+1))
      =fset (fset s.wl (idxI y).toNat (s.wl (idxI y).toNat++ [(j:Int)])) (idxI g).toNat ((fset s.wl (idxI y).toNat (s.wl (idxI y).toNat++ [(j:Int)]) (idxI g).toNat).take m++(fset s.wl (idxI y).toNat (s.wl (idxI y).toNat++ [(j:Int)]) (idxI g).toNat).drop (i+1)):=by
     rw[hsame,fset_ne (k:=(idxI g).toNat) _ _ (Ne.symm hne)]
     funext x
     unfold fset
     split
     ·rfl
     ·rfl
    simp only at hm
    rw[e2] at hm
    exact hm
   ext:=h.ext.turn fun k=>by
    unfold fset;split
    ·next q=>subst q;exact hp
    ·exact .refl _
   len:=by show(fset s.wl (idxI y).toNat (s.wl (idxI y).toNat++ [(j:Int)]) (idxI g).toNat).length=_;rw[hsame];exact h.len
   mi:=by have:=h.mi;omega
   iN:=by rw[← h.len];omega
   hd:=h.hd,hh:=h.hh
   done:=fun x hx=>by
    have hx':x∈(fset s.wl (idxI y).toNat (s.wl (idxI y).toNat++ [(j:Int)]) (idxI g).toNat).take m:=hx
    rw[hsame] at hx'
    obtain⟨k,q1,q2,q3,q4⟩:=h.done x hx'
    have hne:k≠j:=fun q=>hjm (by rw[← q,← q2];exact hx')
    exact⟨k,q1,q2,by show c1 (fset s.cl j d k)=g;rw[fset_ne _ _ hne];exact q3,by show c0 (fset s.cl j d k)∈_;rw[fset_ne _ _ hne];exact q4⟩}
theorem PIn.push (h:PIn n s0 hd N g s m i) {j:Nat} (hj:j<s.nc) (hi:(s.wl (idxI g).toNat)[i]? =some (j:Int)) (hc1:c1 (s.cl j)=g) (hf:∀y∈s.cl j,y≠c0 (s.cl j)→ -y∈s.ll 0) (h1:c0 (s.cl j)∉s.ll 0) (h2: -(c0 (s.cl j))∉s.ll 0) (hv:Value):
  PIn n s0 hd N g (pushS {s with wl:=fset s.wl (idxI g).toNat ((s.wl (idxI g).toNat).set m (j:Int))} (c0 (s.cl j)) (j:Int) hv) (m+1) (i+1):=by
 obtain⟨hi2,e⟩:=List.getElem?_eq_some_iff.1 hi
 have hm:=h.mi
 obtain⟨q1,q2,q3⟩:=h.inv.cls j hj
 have hc0l:Lit n (c0 (s.cl j)):=q3 _ (c0_mem q1).1
 have hset:fset (fset s.wl (idxI g).toNat ((s.wl (idxI g).toNat).set m (j:Int))) (idxI g).toNat ((fset s.wl (idxI g).toNat ((s.wl (idxI g).toNat).set m (j:Int)) (idxI g).toNat).take (m+1)++(fset s.wl (idxI g).toNat ((s.wl (idxI g).toNat).set m (j:Int)) (idxI g).toNat).drop (i+1))=fset s.wl (idxI g).toNat ((s.wl (idxI g).toNat).take m++(s.wl (idxI g).toNat).drop i):=by
  rw[fset_fset,fset_same,← e,keep_same hm hi2]
 have hinv:=h.inv.push (r:=(j:Int)) hv hc0l h1 h2 (.inr ⟨j,hj,rfl,(c0_mem q1).1,hf⟩)
 exact
  {inv:=by
    have:=hinv
    unfold pushS at this ⊢
    simp only at this ⊢
    rw[hset]
    exact this
   ext:=(h.ext.turn (t:=s) (cl:=s.cl) (hw:=s.hw) (wl:=fset s.wl (idxI g).toNat ((s.wl (idxI g).toNat).set m (j:Int))) (hd:=s.head) fun _=> .refl _).push (n:=n) h.inv.rsn hc0l h1 h2 (by omega)
   len:=by show(fset s.wl (idxI g).toNat ((s.wl (idxI g).toNat).set m (j:Int)) (idxI g).toNat).length=_;rw[fset_same,List.length_set];exact h.len
   mi:=by omega
   iN:=by rw[← h.len];omega
   hd:=h.hd
   hh:=by
    rw[ll_push]
    show(s.ll 0++_)[s.head.toNat]? =_
    have:=h.hh
    rw[List.getElem?_append_left (List.getElem?_eq_some_iff.1 this).1]
    exact this
   done:=fun x hx=>by
    have hx:x∈(fset s.wl (idxI g).toNat ((s.wl (idxI g).toNat).set m (j:Int)) (idxI g).toNat).take (m+1):=hx
    rw[fset_same,List.take_succ_eq_append_getElem (by simp;omega),List.mem_append,List.mem_singleton,List.getElem_set_self,List.take_set_of_le (Nat.le_refl _)] at hx
    rw[ll_push]
    rcases hx with hx|rfl
    ·obtain⟨k,p1,p2,p3,p4⟩:=h.done x hx
     exact⟨k,p1,p2,p3,List.mem_append.2 (.inl p4)⟩
    ·exact⟨j,hj,rfl,hc1,by simp;exact .inr rfl⟩}
theorem PIn.fin (h:PIn n s0 hd N g s m N) (hv:Nat→Value):SInv n {s with hw:=hv,wl:=fset s.wl (idxI g).toNat ((s.wl (idxI g).toNat).take m),head:=s.head+1}:=by
 have h1:=h.inv
 have e:(s.wl (idxI g).toNat).take m++(s.wl (idxI g).toNat).drop N=(s.wl (idxI g).toNat).take m:=by rw[List.drop_eq_nil_of_le (by rw[h.len];exact Nat.le_refl _),List.append_nil]
 rw[e] at h1
 obtain⟨q1,q2⟩:=List.getElem?_eq_some_iff.1 h.hh
 refine(h1.done (g:=g) q1 (by show g= -(s.ll 0)[s.head.toNat];rw[q2,Int.neg_neg]) fun x hx=>?_).hw hv
 have hx:x∈fset s.wl (idxI g).toNat ((s.wl (idxI g).toNat).take m) (idxI g).toNat:=hx
 rw[fset_same] at hx
 exact h.done x hx
end
theorem tail_eq {R:List Int} {m i:Nat} {x:Int} (hm:m≤i) (hi:i<R.length) (hx:R[i]=x):(((R.set m x).take (m+1)++(R.set m x).drop ((i:Int)+1).toNat)++(R.set m x).drop (m+1+(R.length - ((i:Int)+1).toNat))).take (m+1+(R.length - ((i:Int)+1).toNat))=R.take m++R.drop i:=by
 have e:((i:Int)+1).toNat=i+1:=by omega
 have hl:((R.set m x).take (m+1)++(R.set m x).drop (i+1)).length=m+1+(R.length - (i+1)):=by
  simp only[List.length_append,List.length_take,List.length_drop,List.length_set];omega
 rw[e,List.take_append_of_le_length (by rw[hl];exact Nat.le_refl _),List.take_of_length_le (by rw[hl];exact Nat.le_refl _),← hx,keep_same hm hi]
structure POut (n:Nat) (s t:SR) (r:Int):Prop where
 inv:SInv n t
 ext:SExt s t
 res:(r= -1∧t.head=((t.ll 0).length:Int))∨∃j:Nat,j<t.nc∧r=(j:Int)∧∀x∈t.cl j,-x∈t.ll 0
theorem AW.atR {P:Program} {g:Ghost} {δ:DS} {Q:Exit→DS→Prop} (id:Nat) {l:Array Oper} {b:Bool} (h:AW P g (.region id l b) Q δ):AW P g (.region id l b) Q δ:=h
theorem AW.atS {P:Program} {g:Ghost} {δ:DS} {Q:Exit→DS→Prop} (id:Nat) {l:Array Oper} {b:Bool} {c:Code} (h:AW P g (.seq (.region id l b) c) Q δ):AW P g (.seq (.region id l b) c) Q δ:=h
def Stop (p:Prop):Prop:=p
theorem Stop.go {p:Prop} (h:p):Stop p:=h
section
variable {P:Program} {g:Ghost} {δ:DS} {Q:Exit→DS→Prop} {l:Array Oper} {b:Bool} {c:Code}
theorem AW.stopS (id:Nat) (h:Stop (AW P g (.seq (.region id l b) c) Q δ)):AW P g (.seq (.region id l b) c) Q δ:=h
theorem AW.stopR (id:Nat) (h:Stop (AW P g (.region id l b) Q δ)):AW P g (.region id l b) Q δ:=h
end
end Go.Ab
/- The solver's conflict analysis,in plain terms:how far it has come,and what it gives. -/
namespace Go.Ab
open Go Go.Proofs
theorem countP_one {l:List Int} {p q:Int→Bool} {y:Int} (hn:(l.map varN).Nodup) (hy:y∈l) (hp:p y=false) (hq:q y=true) (hz:∀z∈l,varN z≠varN y→q z=p z):l.countP q=l.countP p+1:=by
 induction l with
 |nil=>simp at hy
 |cons a l ih=>
  rw[List.map_cons,List.nodup_cons] at hn
  rcases List.mem_cons.1 hy with rfl|hy
  ·have:l.countP q=l.countP p:=by
    apply List.countP_congr
    intro z hz2
    rw[hz z (List.mem_cons_of_mem _ hz2) fun e=>hn.1 (e▸List.mem_map_of_mem hz2)]
   rw[List.countP_cons,List.countP_cons,this,hp,hq];simp
  ·have hne:varN a≠varN y:=fun e=>hn.1 (e▸List.mem_map_of_mem hy)
   rw[List.countP_cons,List.countP_cons,ih hn.2 hy fun z hz2=>hz z (List.mem_cons_of_mem _ hz2),hz a List.mem_cons_self hne]
   omega
theorem getD_setB (l:List Bool) (v:Nat) (hv:v<l.length) (u:Nat):(l.set v true).getD u false=if u=v then true else l.getD u false:=by
 rw[List.getD_eq_getElem?_getD,List.getElem?_set]
 by_cases e:v=u
 ·subst e;rw[if_pos rfl,if_pos hv,if_pos rfl];rfl
 ·rw[if_neg e,if_neg (Ne.symm e),List.getD_eq_getElem?_getD]
theorem getD_setT {l:List Bool} {v u:Nat} (hv:v<l.length) (h:l.getD u false=true):(l.set v true).getD u false=true:=by
 rw[getD_setB l v hv]
 by_cases e:u=v
 ·rw[if_pos e]
 ·rw[if_neg e];exact h
structure ABase (n:Nat) (s:SR) (sl:List Bool) (rest:List Int) (op:Nat) (to:Int) (k:Nat):Prop where
 len:sl.length=n+1
 sub:∀v,sl.getD v false=true→∃x∈s.ll 0,varN x=v∧0<levOf s x
 low:∀x∈s.ll 0,sl.getD (varN x) false=true→levOf s x<s.marks.length→ -x∈rest
 rst:∀x∈rest,-x∈s.ll 0∧sl.getD (varN x) false=true∧0<levOf s x∧levOf s x<s.marks.length∧levOf s x≤to
 rnd:(rest.map varN).Nodup
 tto:(to=0∧rest=[])∨∃x∈rest,levOf s x=to
 cnt:op=((s.ll 0).take k).countP fun x=>sl.getD (varN x) false && decide (levOf s x=s.marks.length)
theorem levOf_neg (s:SR) (x:Int):levOf s (-x)=levOf s x:=by unfold levOf;rw[varN_neg]
theorem SInv.lev_le {n:Nat} {s:SR} (hs:SInv n s) {x:Int} (hx:x∈s.ll 0):0≤levOf s x∧levOf s x≤s.marks.length:=by
 obtain⟨i,hi,rfl⟩:=List.getElem_of_mem hx
 rw[hs.lev i hi]
 have:=List.countP_le_length (p:=fun m=>decide (m≤(i:Int))) (l:=s.marks)
 omega
theorem ABase.start {n:Nat} {s:SR} (k:Nat):ABase n s (List.replicate (n+1) false) [] 0 0 k where
 len:=by simp
 sub:=fun v hv=>by simp [List.getD_eq_getElem?_getD,List.getElem?_replicate] at hv;split at hv<;>simp at hv
 low:=fun x _ hv=>by simp [List.getD_eq_getElem?_getD,List.getElem?_replicate] at hv;split at hv<;>simp at hv
 rst:=fun x hx=>by simp at hx
 rnd:=by simp
 tto:=.inl ⟨rfl,rfl⟩
 cnt:=by
  symm
  rw[List.countP_eq_zero]
  intro x _
  have:(List.replicate (n+1) false).getD (varN x) false=false:=by
   rw[List.getD_eq_getElem?_getD,List.getElem?_replicate];split<;>rfl
  rw[this];simp
section
variable {n:Nat} {s:SR} {sl:List Bool} {rest:List Int} {op:Nat} {to:Int} {k:Nat}
theorem TrlOk.var_lt {n:Nat} {L:List Int} (h:TrlOk n L) {x:Int} (hx: -x∈L):varN x<n+1:=by
 have:=varN_rng (h.rng _ hx)
 rw[varN_neg] at this
 omega
theorem ABase.cur (h:ABase n s sl rest op to k) (hs:SInv n s) {x:Int} (hx: -x∈(s.ll 0).take k) (hsn:sl.getD (varN x) false=false) (hl:levOf s x=s.marks.length) (hm:0<s.marks.length):ABase n s (sl.set (varN x) true) rest (op+1) to k:=by
 have hx0:=List.mem_of_mem_take hx
 have hv:varN x<sl.length:=by rw[h.len];exact hs.trl.var_lt hx0
 have hg:=getD_setB sl (varN x) hv
 exact
  {len:=by rw[List.length_set];exact h.len
   sub:=fun v hv2=>by
    rw[hg] at hv2
    split at hv2
    ·next e=>subst e;exact⟨-x,hx0,varN_neg x,by rw[levOf_neg,hl];omega⟩
    ·exact h.sub v hv2
   low:=fun y hy h1 h2=>by
    rw[hg] at h1
    split at h1
    ·next e=>
     exfalso
     have:y= -x:=hs.trl.once hy hx0 (by rw[varN_neg,e])
     rw[this,levOf_neg,hl] at h2;omega
    ·exact h.low y hy h1 h2
   rst:=fun y hy=>by
    obtain⟨q1,q2,q3⟩:=h.rst y hy
    exact⟨q1,getD_setT hv q2,q3⟩
   rnd:=h.rnd
   tto:=h.tto
   cnt:=by
    rw[h.cnt]
    symm
    refine countP_one (y:= -x) ?_ hx ?_ ?_ ?_
    ·rw[List.map_take];exact hs.trl.nd.sublist (List.take_sublist _ _)
    ·simp only[varN_neg,hsn,Bool.false_and]
    ·simp only[varN_neg,hg,levOf_neg,hl,if_pos,decide_true,Bool.and_self]
    ·intro z _ hz
     rw[varN_neg] at hz
     simp only[hg,if_neg hz]}
theorem ABase.old (h:ABase n s sl rest op to k) (hs:SInv n s) {x:Int} (hx: -x∈s.ll 0) (hsn:sl.getD (varN x) false=false) (hl:levOf s x≠s.marks.length) (h0:levOf s x≠0):ABase n s (sl.set (varN x) true) (rest++ [x]) op (max to (levOf s x)) k:=by
 have hv:varN x<sl.length:=by rw[h.len];exact hs.trl.var_lt hx
 have hg:=getD_setB sl (varN x) hv
 have hle:=hs.lev_le hx
 rw[levOf_neg] at hle
 exact
  {len:=by rw[List.length_set];exact h.len
   sub:=fun v hv2=>by
    rw[hg] at hv2
    split at hv2
    ·next e=>subst e;exact⟨-x,hx,varN_neg x,by rw[levOf_neg];omega⟩
    ·exact h.sub v hv2
   low:=fun y hy h1 h2=>by
    rw[hg] at h1
    split at h1
    ·next e=>
     have:y= -x:=hs.trl.once hy hx (by rw[varN_neg,e])
     rw[this,Int.neg_neg];simp
    ·exact List.mem_append.2 (.inl (h.low y hy h1 h2))
   rst:=fun y hy=>by
    rcases List.mem_append.1 hy with hy|hy
    ·obtain⟨q1,q2,q3,q4,q5⟩:=h.rst y hy
     exact⟨q1,getD_setT hv q2,q3,q4,by omega⟩
    ·rw[List.mem_singleton.1 hy]
     exact⟨hx,by rw[hg,if_pos rfl],by omega,by omega,by omega⟩
   rnd:=by
    rw[List.map_append,List.nodup_append]
    refine⟨h.rnd,by simp,fun a ha b hb=>?_⟩
    obtain⟨y,hy,rfl⟩:=List.mem_map.1 ha
    simp at hb
    subst hb
    intro e
    have:=(h.rst y hy).2.1
    rw[e,hsn] at this;cases this
   tto:=by
    right
    rcases h.tto with ⟨q1,q2⟩|⟨y,hy,q⟩
    ·exact⟨x,by simp,by rw[q1];omega⟩
    ·by_cases e:to≤levOf s x
     ·exact⟨x,by simp,by omega⟩
     ·exact⟨y,by simp [hy],by omega⟩
   cnt:=by
    rw[h.cnt]
    apply List.countP_congr
    intro z hz
    rw[hg]
    by_cases e:varN z=varN x
    ·have:z= -x:=hs.trl.once (List.mem_of_mem_take hz) hx (by rw[varN_neg,e])
     subst this
     have:decide (levOf s (-x)=(s.marks.length:Int))=false:=by rw[levOf_neg];simpa using hl
     simp [this]
    ·rw[if_neg e]}
end
def SeenC (s:SR) (sl:List Bool) (c:List Int) (piv:Int):Prop:=∀x∈c,x≠piv→sl.getD (varN x) false=true∨levOf s x=0
def Closed (s:SR) (sl:List Bool) (i:Nat):Prop:=∀x,(s.ll 0)[i]? =some x→∃j:Nat,j<s.nc∧x∈s.cl j∧(∀y∈s.cl j,y≠x→ -y∈(s.ll 0).take i)∧SeenC s sl (s.cl j) x
structure AHead (n:Nat) (s:SR) (j0:Nat) (sl:List Bool) (rest:List Int) (op:Nat) (to:Int) (k:Nat) (piv:Int) (j:Nat):Prop where
 base:ABase n s sl rest op to k
 hk:k≤(s.ll 0).length
 hj:j<s.nc
 cf:∀x∈s.cl j,x≠piv→ -x∈(s.ll 0).take k
 done:∀i,k<i→i<(s.ll 0).length→∀x,(s.ll 0)[i]? =some x→sl.getD (varN x) false=true→levOf s x=s.marks.length→Closed s sl i
 st:(piv=0∧k=(s.ll 0).length∧j=j0∧∃x∈s.cl j,levOf s x=s.marks.length)∨((s.ll 0)[k]? =some piv∧piv∈s.cl j∧levOf s piv=s.marks.length∧SeenC s sl (s.cl j0) 0∧0<op)
 one:op≤1000000
theorem SeenC.mono {s:SR} {sl sl':List Bool} {c:List Int} {p:Int} (h:SeenC s sl c p) (hm:∀v,sl.getD v false=true→sl'.getD v false=true):SeenC s sl' c p:=fun x hx hp=>(h x hx hp).imp (hm _) id
theorem Closed.mono {s:SR} {sl sl':List Bool} {i:Nat} (h:Closed s sl i) (hm:∀v,sl.getD v false=true→sl'.getD v false=true):Closed s sl' i:=fun x hx=>by
 obtain⟨j,q1,q2,q3,q4⟩:=h x hx
 exact⟨j,q1,q2,q3,q4.mono hm⟩
structure ARow (n:Nat) (s:SR) (j0:Nat) (k:Nat) (piv:Int) (j:Nat) (sl:List Bool) (rest:List Int) (op:Nat) (to:Int) (i:Nat):Prop where
 base:ABase n s sl rest op to k
 hi:i≤(s.cl j).length
 hk:k≤(s.ll 0).length
 hj:j<s.nc
 cf:∀x∈s.cl j,x≠piv→ -x∈(s.ll 0).take k
 done:∀i,k<i→i<(s.ll 0).length→∀x,(s.ll 0)[i]? =some x→sl.getD (varN x) false=true→levOf s x=s.marks.length→Closed s sl i
 st:(piv=0∧k=(s.ll 0).length∧j=j0∧∃x∈s.cl j,levOf s x=s.marks.length)∨((s.ll 0)[k]? =some piv∧piv∈s.cl j∧levOf s piv=s.marks.length∧SeenC s sl (s.cl j0) 0∧0<op)
 row:∀x∈(s.cl j).take i,x≠piv→sl.getD (varN x) false=true∨levOf s x=0
section
variable {n:Nat} {s:SR} {j0 k j:Nat} {piv:Int} {sl:List Bool} {rest:List Int} {op:Nat} {to:Int} {i:Nat}
theorem AHead.row (h:AHead n s j0 sl rest op to k piv j):ARow n s j0 k piv j sl rest op to 0 where
 base:=h.base
 hi:=Nat.zero_le _
 hk:=h.hk
 hj:=h.hj
 cf:=h.cf
 done:=h.done
 st:=h.st
 row:=fun x hx=>by simp at hx
theorem ARow.opLe (h:ARow n s j0 k piv j sl rest op to i) (hs:SInv n s):op≤n∧rest.length≤n:=by
 constructor
 ·have:=List.countP_le_length (p:=fun x=>sl.getD (varN x) false && decide (levOf s x=s.marks.length)) (l:=(s.ll 0).take k)
  rw[← h.base.cnt] at this
  have:=hs.trl.len
  simp at*;omega
 ·have:=nodup_leS n h.base.rnd fun v hv=>by
   obtain⟨x,hx,rfl⟩:=List.mem_map.1 hv
   have:=varN_rng (hs.trl.rng _ (h.base.rst x hx).1)
   rwa [varN_neg] at this
  simpa using this
theorem ARow.skip (h:ARow n s j0 k piv j sl rest op to i) (hi:i<(s.cl j).length) (hc:(s.cl j)[i]=piv∨sl.getD (varN (s.cl j)[i]) false=true∨levOf s (s.cl j)[i]=0):ARow n s j0 k piv j sl rest op to (i+1):=
 {h with
  hi:=hi
  row:=fun x hx hp=>by
   rw[List.take_succ_eq_append_getElem hi,List.mem_append,List.mem_singleton] at hx
   rcases hx with hx|rfl
   ·exact h.row x hx hp
   ·exact hc.resolve_left hp}
theorem ARow.see (h:ARow n s j0 k piv j sl rest op to i) (hi:i<(s.cl j).length) {rest':List Int} {op':Nat} {to':Int} (hop:op≤op') (hb:ABase n s (sl.set (varN (s.cl j)[i]) true) rest' op' to' k) (hv:varN (s.cl j)[i]<sl.length) (hnd:∀q,k<q→∀x,(s.ll 0)[q]? =some x→varN x≠varN (s.cl j)[i]):ARow n s j0 k piv j (sl.set (varN (s.cl j)[i]) true) rest' op' to' (i+1):=by
 have hg:=getD_setB sl _ hv
 have hm:∀v,sl.getD v false=true→(sl.set (varN (s.cl j)[i]) true).getD v false=true:=fun v h=>getD_setT hv h
 exact
  {base:=hb,hi:=hi,hk:=h.hk,hj:=h.hj,cf:=h.cf
   done:=fun q h1 h2 x h3 h4 h5=>by
    rw[hg,if_neg (hnd q h1 x h3)] at h4
    exact(h.done q h1 h2 x h3 h4 h5).mono hm
   st:=h.st.imp id fun⟨q1,q2,q3,q4,q5⟩=>⟨q1,q2,q3,q4.mono hm,by omega⟩
   row:=fun x hx hp=>by
    rw[List.take_succ_eq_append_getElem hi,List.mem_append,List.mem_singleton] at hx
    rcases hx with hx|rfl
    ·exact(h.row x hx hp).imp (hm _) id
    ·left;rw[hg,if_pos rfl]}
theorem after_ne (hs:SInv n s) {x:Int} (hx: -x∈(s.ll 0).take k):∀q,k<q→∀y,(s.ll 0)[q]? =some y→varN y≠varN x:=fun q hq y hy e=>by
 obtain⟨a,ha,e2⟩:=List.getElem_of_mem hx
 rw[List.getElem_take] at e2
 obtain⟨hq2,hy2⟩:=List.getElem?_eq_some_iff.1 hy
 simp only[List.length_take] at ha
 have:a=q:=(List.getElem_inj hs.trl.nd (h₀:=by simp;omega) (h₁:=by simpa using hq2)).1 (by rw[List.getElem_map,List.getElem_map,e2,hy2,varN_neg,e])
 omega
theorem ARow.cur (h:ARow n s j0 k piv j sl rest op to i) (hs:SInv n s) (hm:0<s.marks.length) (hi:i<(s.cl j).length) (hp:(s.cl j)[i]≠piv) (hsn:sl.getD (varN (s.cl j)[i]) false=false) (hl:levOf s (s.cl j)[i]=s.marks.length):ARow n s j0 k piv j (sl.set (varN (s.cl j)[i]) true) rest (op+1) to (i+1):=by
 have hx:=h.cf _ (List.getElem_mem hi) hp
 exact h.see hi (by omega) (h.base.cur hs hx hsn hl hm) (by rw[h.base.len];exact hs.trl.var_lt (List.mem_of_mem_take hx)) (after_ne hs hx)
theorem ARow.old (h:ARow n s j0 k piv j sl rest op to i) (hs:SInv n s) (hi:i<(s.cl j).length) (hp:(s.cl j)[i]≠piv) (hsn:sl.getD (varN (s.cl j)[i]) false=false) (hl:levOf s (s.cl j)[i]≠s.marks.length) (h0:levOf s (s.cl j)[i]≠0):ARow n s j0 k piv j (sl.set (varN (s.cl j)[i]) true) (rest++ [(s.cl j)[i]]) op (max to (levOf s (s.cl j)[i])) (i+1):=by
 have hx:=h.cf _ (List.getElem_mem hi) hp
 exact h.see hi (Nat.le_refl _) (h.base.old hs (List.mem_of_mem_take hx) hsn hl h0) (by rw[h.base.len];exact hs.trl.var_lt (List.mem_of_mem_take hx)) (after_ne hs hx)
structure ADone (n:Nat) (s:SR) (j0:Nat) (k:Nat) (sl:List Bool) (rest:List Int) (op:Nat) (to:Int):Prop where
 base:ABase n s sl rest op to k
 hk:k≤(s.ll 0).length
 done:∀i,k≤i→i<(s.ll 0).length→∀x,(s.ll 0)[i]? =some x→sl.getD (varN x) false=true→levOf s x=s.marks.length→Closed s sl i
 sj:SeenC s sl (s.cl j0) 0
 op:0<op
theorem ARow.fin (h:ARow n s j0 k piv j sl rest op to (s.cl j).length) (hs:SInv n s) (hm:0<s.marks.length):ADone n s j0 k sl rest op to:=by
 have hrow:SeenC s sl (s.cl j) piv:=fun x hx hp=>h.row x (by rw[List.take_length];exact hx) hp
 have hne0:∀x∈s.cl j,x≠0:=fun x hx=>((hs.cls j h.hj).2.2 x hx).1
 refine⟨h.base,h.hk,fun i h1 h2 x h3 h4 h5=>?_,?_,?_⟩
 ·by_cases e:i=k
  ·subst e
   rcases h.st with ⟨_,q,_⟩|⟨q1,q2,q3,_⟩
   ·omega
   ·intro y hy
    rw[q1] at hy
    obtain rfl:piv=y:=by simpa using hy
    exact⟨j,h.hj,q2,h.cf,hrow⟩
  ·exact h.done i (by omega) h2 x h3 h4 h5
 ·rcases h.st with ⟨q1,_,q2,_⟩|⟨_,_,_,q,_⟩
  ·rw[← q2,← q1];exact hrow
  ·exact q
 ·rcases h.st with ⟨q1,_,_,x,hx,hl⟩|⟨_,_,_,_,q⟩
  ·have hxp:x≠piv:=by rw[q1];exact hne0 x hx
   have hsn:sl.getD (varN x) false=true:=(hrow x hx hxp).resolve_right (by omega)
   rw[h.base.cnt,List.countP_pos_iff]
   exact⟨-x,h.cf x hx hxp,by rw[varN_neg,hsn,levOf_neg,hl];simp⟩
  ·exact q
end
structure AOut (n:Nat) (s:SR) (j0:Nat) (l:List Int) (to:Int):Prop where
 uip:∃a,∃h:a<(s.ll 0).length,∃rest,l= -(s.ll 0)[a]::rest∧levOf s (s.ll 0)[a]=s.marks.length∧(∀x∈rest,-x∈s.ll 0∧0<levOf s x∧levOf s x<s.marks.length∧levOf s x≤to)∧(rest.map varN).Nodup∧((to=0∧rest=[])∨∃x∈rest,levOf s x=to)
 der:∃sn:Nat→Prop,(∀x∈s.cl j0,sn (varN x)∨levOf s x=0)∧∀i (h:i<(s.ll 0).length),sn (varN (s.ll 0)[i])→ -(s.ll 0)[i]∈l∨∃k,k<s.nc∧(s.ll 0)[i]∈s.cl k∧∀y∈s.cl k,y≠(s.ll 0)[i]→ -y∈(s.ll 0).take i∧(sn (varN y)∨levOf s y=0)
section
variable {n:Nat} {s:SR} {j0 k:Nat} {sl:List Bool} {rest:List Int} {op:Nat} {to:Int}
theorem ADone.pos (h:ADone n s j0 k sl rest op to):0<k:=by
 have:=h.op
 rw[h.base.cnt,List.countP_pos_iff] at this
 obtain⟨x,hx,_⟩:=this
 cases k with
 |zero=>simp at hx
 |succ k=>omega
theorem ADone.down (h:ADone n s j0 (k+1) sl rest op to) (hx:sl.getD (varN ((s.ll 0)[k]'h.hk)) false=false):ADone n s j0 k sl rest op to where
 base:={h.base with
  cnt:=by
   have:=h.base.cnt
   rw[List.take_succ_eq_append_getElem h.hk,List.countP_append] at this
   simp only[List.countP_cons,List.countP_nil,hx,Bool.false_and,Bool.false_eq_true,if_false,Nat.add_zero,Nat.zero_add] at this
   exact this}
 hk:=by have:=h.hk;omega
 done:=fun i h1 h2 x h3 h4 h5=>by
  by_cases e:i=k
  ·subst e
   rw[List.getElem?_eq_getElem h2] at h3
   simp only[Option.some.injEq] at h3
   rw[h3,h4] at hx;cases hx
  ·exact h.done i (by omega) h2 x h3 h4 h5
 sj:=h.sj
 op:=h.op
theorem count_le {l:List Int} {a b:Int} (h:a≤b):l.countP (fun m=>decide (m≤a))≤l.countP (fun m=>decide (m≤b)):=by
 apply List.countP_mono_left
 intro m _ hm
 simp at*;omega
theorem SInv.lev_mono {n:Nat} {s:SR} (hs:SInv n s) {a b:Nat} (hab:a≤b) (hb:b<(s.ll 0).length):levOf s ((s.ll 0)[a]'(by omega))≤levOf s (s.ll 0)[b]:=by
 rw[hs.lev a (by omega),hs.lev b hb]
 have:=count_le (l:=s.marks) (a:=a) (b:=b) (by omega)
 omega
theorem ADone.found (h:ADone n s j0 (k+1) sl rest op to) (hs:SInv n s):levOf s ((s.ll 0)[k]'h.hk)=s.marks.length:=by
 have:=h.op
 rw[h.base.cnt,List.countP_pos_iff] at this
 obtain⟨x,hx,hp⟩:=this
 obtain⟨a,ha,rfl⟩:=List.getElem_of_mem hx
 simp only[List.length_take] at ha
 rw[List.getElem_take] at hp
 simp only[Bool.and_eq_true,decide_eq_true_eq] at hp
 have h1:=hs.lev_mono (a:=a) (b:=k) (by omega) h.hk
 have h2:=(hs.lev_le (List.getElem_mem h.hk)).2
 omega
theorem ADone.cnt1 (h:ADone n s j0 (k+1) sl rest op to) (hs:SInv n s) (hx:sl.getD (varN ((s.ll 0)[k]'h.hk)) false=true):op - 1=((s.ll 0).take k).countP fun x=>sl.getD (varN x) false && decide (levOf s x=s.marks.length):=by
 have:=h.base.cnt
 rw[List.take_succ_eq_append_getElem h.hk,List.countP_append] at this
 simp only[List.countP_cons,List.countP_nil,hx,h.found hs,decide_true,Bool.and_self,if_pos] at this
 omega
theorem ADone.out (h:ADone n s j0 (k+1) sl rest 1 to) (hs:SInv n s) (hx:sl.getD (varN ((s.ll 0)[k]'h.hk)) false=true):AOut n s j0 (-((s.ll 0)[k]'h.hk)::rest) to where
 uip:=⟨k,h.hk,rest,rfl,h.found hs,fun x hx=>by obtain⟨q1,_,q2⟩:=h.base.rst x hx;exact⟨q1,q2⟩,h.base.rnd,h.base.tto⟩
 der:=⟨fun v=>sl.getD v false=true,fun x hx=>h.sj x hx ((hs.cls j0 (by
   -- the clause is a clause,or it has no element
   by_cases q:j0<s.nc
   ·exact q
   ·rw[(hs.fresh j0 (by omega)).1] at hx;simp at hx)).2.2 x hx).1,fun i hi hsn=>by
  by_cases hl:levOf s (s.ll 0)[i]<s.marks.length
  ·exact .inl (List.mem_cons_of_mem _ (h.base.low _ (List.getElem_mem hi) hsn hl))
  ·have hle:=(hs.lev_le (List.getElem_mem hi)).2
   by_cases e:i=k
   ·subst e;exact .inl List.mem_cons_self
   ·by_cases hik:i<k
    ·exfalso
     have h0:=h.cnt1 hs hx
     have:0<((s.ll 0).take k).countP fun x=>sl.getD (varN x) false && decide (levOf s x=s.marks.length):=by
      rw[List.countP_pos_iff]
      refine⟨(s.ll 0)[i],?_,by rw[hsn,Bool.true_and];simp;omega⟩
      rw[List.mem_take_iff_getElem]
      exact⟨i,by omega,rfl⟩
     omega
    ·obtain⟨j,q1,q2,q3,q4⟩:=h.done i (by omega) hi _ (List.getElem?_eq_getElem hi) hsn (by omega) _ (List.getElem?_eq_getElem hi)
     exact .inr ⟨j,q1,q2,fun y hy hne=>⟨q3 y hy hne,q4 y hy hne⟩⟩⟩
theorem ADone.next (h:ADone n s j0 (k+1) sl rest op to) (hs:SInv n s) (hx:sl.getD (varN ((s.ll 0)[k]'h.hk)) false=true) (hop:op≠1):∃j:Nat,s.reason.getD (varN ((s.ll 0)[k]'h.hk)) 0=(j:Int)∧j<s.nc∧AHead n s j0 sl rest (op - 1) to k ((s.ll 0)[k]'h.hk) j:=by
 have hk:=h.hk
 have hc1:=h.cnt1 hs hx
 have hf:=h.found hs
 have h0:=h.op
 have hpos:0<((s.ll 0).take k).countP fun x=>sl.getD (varN x) false && decide (levOf s x=s.marks.length):=by omega
 rw[List.countP_pos_iff] at hpos
 obtain⟨x,hxm,hp⟩:=hpos
 obtain⟨a,ha,rfl⟩:=List.getElem_of_mem hxm
 simp only[List.length_take] at ha
 rw[List.getElem_take] at hp
 simp only[Bool.and_eq_true,decide_eq_true_eq] at hp
 have hlev:0<levOf s (s.ll 0)[k]:=by
  obtain⟨y,hy,e1,e2⟩:=h.base.sub _ hx
  have:y=(s.ll 0)[k]:=hs.trl.once hy (List.getElem_mem hk) e1
  rw[← this];exact e2
 rcases hs.rea k hk with ⟨_,q|q⟩|⟨j,q1,q2,q3,q4⟩
 ·exfalso
  have e:=hp.2
  rw[hs.lev a (by omega)] at e
  have hall:∀m∈s.marks,decide (m≤(a:Int))=true:=by
   rw[← List.countP_eq_length];omega
  have:=hall _ q
  simp at this;omega
 ·omega
 ·refine⟨j,q2,q1,{h.base with cnt:=hc1},by omega,q1,q4,fun i h1 h2=>h.done i (by omega) h2,.inr ⟨List.getElem?_eq_getElem hk,q3,hf,h.sj,by omega⟩,?_⟩
  have:=List.countP_le_length (p:=fun x=>sl.getD (varN x) false && decide (levOf s x=s.marks.length)) (l:=(s.ll 0).take k)
  have:=hs.trl.len
  have:=hs.hn
  simp at*;omega
end
theorem SInv.curlit {n:Nat} {s:SR} (hs:SInv n s) {j:Nat} (hj:j<s.nc) (hf:∀x∈s.cl j,-x∈s.ll 0):∃x∈s.cl j,levOf s x=s.marks.length:=by
 obtain⟨q1,q2,q3⟩:=hs.cls j hj
 obtain⟨m0,m1⟩:=c0_mem q1
 refine⟨_,m0,?_⟩
 have hn0: -(c0 (s.cl j))∉(s.ll 0).take s.head.toNat:=fun hin=>by
  have:=(hs.two j hj _ _ (.inl ⟨rfl,rfl⟩) hin).1
  exact hs.trl.no_neg this (hf _ m1)
 obtain⟨i,hi,e⟩:=List.getElem_of_mem (hf _ m0)
 have hge:s.head.toNat≤i:=by
  apply Nat.le_of_not_lt
  intro hlt
  apply hn0
  rw[List.mem_take_iff_getElem]
  exact⟨i,by omega,e⟩
 rw[← levOf_neg,← e,hs.lev i hi,count_all fun m hm=>by have:=hs.mrk m hm;have:=hs.hd;omega]
theorem AHead.start {n:Nat} {s:SR} (hs:SInv n s) {j:Nat} (hj:j<s.nc) (hf:∀x∈s.cl j,-x∈s.ll 0):AHead n s j (List.replicate (n+1) false) [] 0 0 (s.ll 0).length 0 j where
 base:=.start _
 hk:=Nat.le_refl _
 hj:=hj
 cf:=fun x hx _=>by rw[List.take_length];exact hf x hx
 done:=fun i h1 h2=>by omega
 st:=.inl ⟨rfl,rfl,rfl,hs.curlit hj hf⟩
 one:=by omega
end Go.Ab
/- Unit propagation as a closure;what the solver's state says about the formula. -/
namespace Go.Ab
open Go Go.Proofs
inductive Der (F:List (List Int)) (A:Int→Prop):Int→Prop
 |asm {x:Int} (h:A x):Der F A x
 |unit {c:List Int} {x:Int} (hc:c∈F) (hx:x∈c) (h:∀y∈c,y≠x→Der F A (-y)):Der F A x
def Conf (F:List (List Int)) (A:Int→Prop):Prop:=∃c∈F,∀y∈c,Der F A (-y)
abbrev NegC (c:List Int):Int→Prop:=fun x=> -x∈c
def Rup (F:List (List Int)) (c:List Int):Prop:=Conf F (NegC c)∨∃x,x∈c∧ -x∈c
abbrev NoA:Int→Prop:=fun _=>False
theorem Der.cut {F F':List (List Int)} {A B:Int→Prop} {x:Int} (h:Der F A x) (hF:∀c∈F,c∈F') (hA:∀y,A y→Der F' B y):Der F' B x:=by
 induction h with
 |asm h=>exact hA _ h
 |unit hc hx _ ih=>exact .unit (hF _ hc) hx ih
theorem Der.mono {F F':List (List Int)} {A B:Int→Prop} {x:Int} (h:Der F A x) (hF:∀c∈F,c∈F') (hA:∀y,A y→B y):Der F' B x:=h.cut hF fun y hy=> .asm (hA y hy)
theorem Der.more {F:List (List Int)} {A:Int→Prop} {x:Int} (h:Der F NoA x):Der F A x:=h.mono (fun _ h=>h) fun _ h=>h.elim
theorem Conf.cut {F F':List (List Int)} {A B:Int→Prop} (h:Conf F A) (hF:∀c∈F,c∈F') (hA:∀y,A y→Der F' B y):Conf F' B:=by
 obtain⟨c,hc,h⟩:=h
 exact⟨c,hF c hc,fun y hy=>(h y hy).cut hF hA⟩
theorem Der.both {F:List (List Int)} {A:Int→Prop} {x:Int} (h:Der F A x) (h':Der F A (-x)):Conf F A∨∃y,A y∧A (-y):=by
 have key:∀{c:List Int} {z:Int},c∈F→z∈c→(∀y∈c,y≠z→Der F A (-y))→Der F A (-z)→Conf F A:=fun {c z} hc hz h hn=>
  ⟨c,hc,fun y hy=>by
   by_cases e:y=z
   ·rw[e];exact hn
   ·exact h y hy e⟩
 cases h with
 |unit hc hx h=>exact .inl (key hc hx h h')
 |asm h=>
  generalize hy: -x=y at h'
  cases h' with
  |asm h2=>subst hy;exact .inr ⟨x,h,h2⟩
  |unit hc hx h2=>subst hy;exact .inl (key hc hx h2 (by rw[Int.neg_neg];exact .asm h))
def LitT (σ:Nat→Bool) (x:Int):Prop:=if x<0 then σ (varN x)=false else σ (varN x)=true
def SatF (σ:Nat→Bool) (F:List (List Int)):Prop:=∀c∈F,∃x∈c,LitT σ x
theorem LitT.neg {σ:Nat→Bool} {x:Int} (h0:x≠0):LitT σ (-x)↔¬LitT σ x:=by
 unfold LitT
 rw[varN_neg]
 by_cases h:x<0
 ·rw[if_pos h,if_neg (by omega)];simp
 ·rw[if_neg h,if_pos (by omega)];simp
theorem Der.sound {F:List (List Int)} {A:Int→Prop} {σ:Nat→Bool} {x:Int} (h:Der F A x) (hF:SatF σ F) (h0:∀c∈F,∀x∈c,x≠0) (hA:∀y,A y→LitT σ y):LitT σ x:=by
 induction h with
 |asm h=>exact hA _ h
 | @unit c x hc hx _ ih=>
  obtain⟨y,hy,ht⟩:=hF c hc
  by_cases e:y=x
  ·rw[← e];exact ht
  ·exact absurd ht ((LitT.neg (h0 c hc y hy)).1 (ih y hy e))
theorem Conf.sound {F:List (List Int)} {A:Int→Prop} {σ:Nat→Bool} (h:Conf F A) (hF:SatF σ F) (h0:∀c∈F,∀x∈c,x≠0):¬∀y,A y→LitT σ y:=fun hA=>by
 obtain⟨c,hc,h⟩:=h
 obtain⟨y,hy,ht⟩:=hF c hc
 exact(LitT.neg (h0 c hc y hy)).1 ((h y hy).sound hF h0 hA) ht
theorem Rup.sound {F:List (List Int)} {c:List Int} {σ:Nat→Bool} (h:Rup F c) (hF:SatF σ F) (h0:∀c∈F,∀x∈c,x≠0) (hc:∀x∈c,x≠0):∃x∈c,LitT σ x:=by
 rcases h with h|⟨x,h1,h2⟩
 ·apply Classical.byContradiction
  intro hn
  refine h.sound hF h0 fun y hy=>?_
  have h3:¬LitT σ (-y):=fun hh=>hn ⟨_,hy,hh⟩
  have h4:=hc _ hy
  apply Classical.byContradiction
  intro h5
  exact h3 ((LitT.neg (by omega)).2 h5)
 ·by_cases h3:LitT σ x
  ·exact⟨x,h1,h3⟩
  ·exact⟨-x,h2,(LitT.neg (hc x h1)).2 h3⟩
def Chain (F:List (List Int)) (P:List (List Int)):Prop:=∀i (h:i<P.length),Rup (F++P.take i) P[i]
theorem Chain.snoc {F P:List (List Int)} {c:List Int} (h:Chain F P) (hc:Rup (F++P) c):Chain F (P++ [c]):=fun i hi=>by
 simp only[List.length_append,List.length_singleton] at hi
 by_cases e:i<P.length
 ·rw[List.getElem_append_left e,List.take_append_of_le_length (by omega)];exact h i e
 ·obtain rfl:i=P.length:=by omega
  rw[List.getElem_append_right (Nat.le_refl _),List.take_append_of_le_length (Nat.le_refl _),List.take_length]
  simpa using hc
theorem Chain.sound {F P:List (List Int)} {σ:Nat→Bool} (h:Chain F P) (hF:SatF σ F) (h0:∀c∈F++P,∀x∈c,x≠0):SatF σ (F++P):=by
 have key:∀i,i≤P.length→SatF σ (F++P.take i):=by
  intro i
  induction i with
  |zero=>intro _;simpa using hF
  |succ i ih=>
   intro hi
   have hP:=ih (by omega)
   have h1:∀c∈F++P.take i,∀x∈c,x≠0:=fun c hc=>h0 c (by
    rcases List.mem_append.1 hc with hc|hc
    ·exact List.mem_append.2 (.inl hc)
    ·exact List.mem_append.2 (.inr (List.mem_of_mem_take hc)))
   have:=(h i (by omega)).sound hP h1 (h0 _ (List.mem_append.2 (.inr (List.getElem_mem _))))
   rw[List.take_succ_eq_append_getElem (by omega),← List.append_assoc]
   intro c hc
   rcases List.mem_append.1 hc with hc|hc
   ·exact hP c hc
   ·rw[List.mem_singleton.1 hc];exact this
 have:=key P.length (Nat.le_refl _)
 rwa [List.take_length] at this
structure Sem (n:Nat) (F:List (List Int)) (s:SR):Prop where
 lits:∀c∈F++s.proof,∀x∈c,Lit n x
 cls:∀j,j<s.nc→∃C∈F++s.proof,(∀x∈s.cl j,x∈C)∧∀x∈C,x∈s.cl j∨Der (F++s.proof) NoA (-x)
 lev0:∀x∈s.ll 0,levOf s x=0→Der (F++s.proof) NoA x
 bad:s.broken=true→Conf (F++s.proof) NoA
 prf:Chain F s.proof
 rep:∀C∈F,s.broken=true∨(∃x∈C,x∈s.ll 0∧levOf s x=0)∨(∃x∈C,-x∈C)∨∃j,j<s.nc∧∀x∈s.cl j,x∈C
section
variable {n:Nat} {F:List (List Int)} {s:SR}
theorem Sem.unit (h:Sem n F s) {A:Int→Prop} {j:Nat} (hj:j<s.nc) {x:Int} (hx:x∈s.cl j) (hd:∀y∈s.cl j,y≠x→Der (F++s.proof) A (-y)):Der (F++s.proof) A x:=by
 obtain⟨C,hC,q1,q2⟩:=h.cls j hj
 refine .unit hC (q1 x hx) fun y hy hne=>?_
 rcases q2 y hy with q|q
 ·exact hd y q hne
 ·exact q.more
theorem Sem.conf (h:Sem n F s) {A:Int→Prop} {j:Nat} (hj:j<s.nc) (hd:∀y∈s.cl j,Der (F++s.proof) A (-y)):Conf (F++s.proof) A:=by
 obtain⟨C,hC,q1,q2⟩:=h.cls j hj
 refine⟨C,hC,fun y hy=>?_⟩
 rcases q2 y hy with q|q
 ·exact hd y q
 ·exact q.more
theorem lev_ext {s t:SR} (hs:SInv n s) (ht:SInv n t) (hx:SExt s t) {x:Int} (h:x∈s.ll 0):levOf t x=levOf s x:=by
 obtain⟨ys,e⟩:=hx.ll
 obtain⟨i,hi,rfl⟩:=List.getElem_of_mem h
 have hi2:i<(t.ll 0).length:=by rw[e,List.length_append];omega
 have e2:(t.ll 0)[i]=(s.ll 0)[i]:=by simp only[e,List.getElem_append_left hi]
 have h1:=ht.lev i hi2
 rw[e2,hx.marks] at h1
 rw[h1,hs.lev i hi]
theorem Sem.prop {t:SR} {r:Int} (h:Sem n F s) (hs:SInv n s) (hp:POut n s t r):Sem n F t:=by
 have hx:=hp.ext
 have ht:=hp.inv
 have epr:t.proof=s.proof:=hx.proof
 have hcl:∀j x,x∈t.cl j↔x∈s.cl j:=fun j x=>(hx.cl j).mem x
 have hcls:∀j,j<t.nc→∃C∈F++t.proof,(∀x∈t.cl j,x∈C)∧∀x∈C,x∈t.cl j∨Der (F++t.proof) NoA (-x):=fun j hj=>by
  obtain⟨C,hC,q1,q2⟩:=h.cls j (by rw[← hx.nc];exact hj)
  rw[epr]
  exact⟨C,hC,fun x hxm=>q1 x ((hcl j x).1 hxm),fun x hxm=>(q2 x hxm).imp (hcl j x).2 id⟩
 obtain⟨ys,ell⟩:=hx.ll
 have hold:∀{x},x∈s.ll 0→x∈t.ll 0:=fun hm=>by rw[ell];exact List.mem_append.2 (.inl hm)
 refine⟨by rw[epr];exact h.lits,hcls,?_,by rw[epr,hx.broken];exact h.bad,by rw[epr];exact h.prf,fun C hC=>?_⟩
 ·have key:∀i (hi:i<(t.ll 0).length),levOf t (t.ll 0)[i]=0→Der (F++t.proof) NoA (t.ll 0)[i]:=by
   intro i
   induction i using Nat.strongRecOn with
   |ind i ih=>
    intro hi hl
    by_cases hm:(t.ll 0)[i]∈s.ll 0
    ·rw[epr];exact h.lev0 _ hm (by rw[← lev_ext hs ht hx hm];exact hl)
    ·rcases ht.rea i hi with ⟨q,_⟩|⟨j,q1,q2,q3,q4⟩
     ·exact absurd q (hx.new _ (List.getElem_mem hi) hm)
     ·obtain⟨C,hC,p1,p2⟩:=hcls j q1
      refine .unit hC (p1 _ q3) fun y hy hne=>?_
      rcases p2 y hy with p|p
      ·obtain⟨a,ha,e⟩:=List.getElem_of_mem (q4 y p hne)
       simp only[List.length_take] at ha
       rw[List.getElem_take] at e
       have hle:=ht.lev_mono (a:=a) (b:=i) (by omega) hi
       have h0:=(ht.lev_le (List.getElem_mem (show a<(t.ll 0).length by omega))).1
       rw[← e]
       exact ih a (by omega) (by omega) (by omega)
      ·exact p
  intro x hxm hl
  obtain⟨i,hi,rfl⟩:=List.getElem_of_mem hxm
  exact key i hi hl
 ·rcases h.rep C hC with q|⟨x,q1,q2,q3⟩|q|⟨j,q1,q2⟩
  ·exact .inl (by rw[hx.broken];exact q)
  ·exact .inr (.inl ⟨x,q1,hold q2,by rw[lev_ext hs ht hx q2];exact q3⟩)
  ·exact .inr (.inr (.inl q))
  ·exact .inr (.inr (.inr ⟨j,by rw[hx.nc];exact q1,fun x hxm=>q2 x ((hcl j x).1 hxm)⟩))
theorem Sem.conf0 {t:SR} {j:Nat} (h:Sem n F t) (ht:SInv n t) (hm:t.marks=[]) (hj:j<t.nc) (hf:∀x∈t.cl j,-x∈t.ll 0):Conf (F++t.proof) NoA:=
 h.conf hj fun y hy=>h.lev0 _ (hf y hy) (by
  have:=ht.lev_le (hf y hy)
  rw[hm] at this
  simp at this;omega)
theorem AOut.rup {j:Nat} {l:List Int} {to:Int} (h:AOut n s j l to) (hS:Sem n F s) (hs:SInv n s) (hj:j<s.nc) (hf:∀x∈s.cl j,-x∈s.ll 0):Conf (F++s.proof) (NegC l):=by
 obtain⟨sn,d1,d2⟩:=h.der
 have key:∀i (hi:i<(s.ll 0).length),(sn (varN (s.ll 0)[i])∨levOf s (s.ll 0)[i]=0)→Der (F++s.proof) (NegC l) (s.ll 0)[i]:=by
  intro i
  induction i using Nat.strongRecOn with
  |ind i ih=>
   intro hi hc
   rcases hc with hc|hc
   ·rcases d2 i hi hc with q|⟨k,q1,q2,q3⟩
    ·exact .asm q
    ·refine hS.unit q1 q2 fun y hy hne=>?_
     obtain⟨p1,p2⟩:=q3 y hy hne
     obtain⟨a,ha,e⟩:=List.getElem_of_mem p1
     simp only[List.length_take] at ha
     rw[List.getElem_take] at e
     rw[← e]
     refine ih a (by omega) (by omega) ?_
     rw[e,varN_neg,levOf_neg];exact p2
   ·exact(hS.lev0 _ (List.getElem_mem hi) hc).more
 refine hS.conf hj fun y hy=>?_
 obtain⟨i,hi,e⟩:=List.getElem_of_mem (hf y hy)
 rw[← e]
 refine key i hi ?_
 rw[e,varN_neg,levOf_neg];exact d1 y hy
theorem AOut.lits {j:Nat} {l:List Int} {to:Int} (h:AOut n s j l to) (hs:SInv n s):∀x∈l,Lit n x:=by
 obtain⟨a,ha,rest,rfl,_,h2,_⟩:=h.uip
 have neg:∀x,-x∈s.ll 0→Lit n x:=fun x hx=>by
  have:=hs.trl.rng _ hx
  exact⟨by omega,by omega,by omega⟩
 intro x hx
 rcases List.mem_cons.1 hx with rfl|hx
 ·exact neg _ (by rw[Int.neg_neg];exact List.getElem_mem ha)
 ·exact neg x (h2 x hx).1
end
end Go.Ab
/- Going back to a level;a clause attached;a literal pushed:the solver's invariant. -/
namespace Go.Ab
open Go Go.Proofs
theorem marks_lt {M:List Int} (hs:M.Pairwise (·≤·)) {t:Nat} (ht:t<M.length) {i:Int} (hi:i<M[t]):M.countP (fun m=>decide (m≤i))=(M.take t).countP (fun m=>decide (m≤i))∧M.countP (fun m=>decide (m≤i))≤t:=by
 have e:M.countP (fun m=>decide (m≤i))=(M.take t).countP (fun m=>decide (m≤i)):=by
  conv=>lhs;rw[← List.take_append_drop t M,List.countP_append]
  have:(M.drop t).countP (fun m=>decide (m≤i))=0:=by
   rw[List.countP_eq_zero]
   intro m hm
   obtain⟨a,ha,rfl⟩:=List.getElem_of_mem hm
   rw[List.length_drop] at ha
   rw[List.getElem_drop]
   have:=List.pairwise_iff_getElem.1 hs t (t+a) ht (by omega)
   by_cases e:a=0
   ·subst e;simp;omega
   ·have:=this (by omega)
    simp;omega
  omega
 refine⟨e,?_⟩
 rw[e]
 have:=List.countP_le_length (p:=fun m=>decide (m≤i)) (l:=M.take t)
 simp at this;omega
theorem marks_ge {M:List Int} (hs:M.Pairwise (·≤·)) {t:Nat} (ht:t<M.length) {i:Int} (hi:M[t]≤i):t+1≤M.countP (fun m=>decide (m≤i)):=by
 have h1:(M.take (t+1)).countP (fun m=>decide (m≤i))=(M.take (t+1)).length:=by
  rw[List.countP_eq_length]
  intro m hm
  obtain⟨a,ha,rfl⟩:=List.getElem_of_mem hm
  rw[List.length_take] at ha
  rw[List.getElem_take]
  by_cases e:a=t
  ·subst e;simpa using hi
  ·have:=List.pairwise_iff_getElem.1 hs a t (by omega) ht (by omega)
   simp;omega
 have h2:(M.take (t+1)).countP (fun m=>decide (m≤i))≤M.countP (fun m=>decide (m≤i)):=(List.take_sublist _ _).countP_le
 rw[h1,List.length_take] at h2
 omega
theorem SInv.lev_back {n:Nat} {s:SR} (hs:SInv n s) {t:Nat} (ht:t<s.marks.length) {i:Nat} (hi:i<(s.ll 0).length):levOf s (s.ll 0)[i]≤t↔i<(s.marks[t]).toNat:=by
 rw[hs.lev i hi]
 have h0:=(hs.mrk _ (List.getElem_mem ht)).1
 constructor
 ·intro h
  apply Nat.lt_of_not_le
  intro hge
  have:=marks_ge hs.srt ht (i:=(i:Int)) (by omega)
  omega
 ·intro h
  have:=(marks_lt hs.srt ht (i:=(i:Int)) (by omega)).2
  omega
abbrev undoS (s:SR) (t:Nat):SR:=headS (backS s t)
theorem SInv.mark_le {n:Nat} {s:SR} (hs:SInv n s) {t:Nat} (ht:t<s.marks.length):0≤s.marks[t]∧(s.marks[t]).toNat≤s.head.toNat∧s.head.toNat≤(s.ll 0).length:=by
 have:=hs.mrk _ (List.getElem_mem ht)
 have:=hs.hd
 omega
theorem undo_ll {n:Nat} {s:SR} (hs:SInv n s) {t:Nat} (ht:t<s.marks.length):(undoS s t).ll 0=(s.ll 0).take (s.marks[t]).toNat∧(undoS s t).head=((s.marks[t]).toNat:Int)∧(undoS s t).marks=s.marks.take t:=by
 have e:s.marks.getD t 0=s.marks[t]:=getD_get ht
 have h2:=hs.mark_le ht
 refine⟨?_,?_,rfl⟩
 ·show fset s.ll 0 ((s.ll 0).take (s.marks.getD t 0).toNat) 0=_
  rw[fset_same,e]
 ·show min s.head ((fset s.ll 0 ((s.ll 0).take (s.marks.getD t 0).toNat) 0).length:Int)=_
  have:=hs.hd
  rw[fset_same,e,List.length_take];omega
theorem undo_lev (s:SR) (t:Nat) (x:Int):levOf (undoS s t) x=levOf s x:=rfl
theorem SInv.undo {n:Nat} {s:SR} (hs:SInv n s) {t:Nat} (ht:t<s.marks.length):SInv n (undoS s t):=by
 obtain⟨e1,e2,e3⟩:=undo_ll hs ht
 obtain⟨h0,h1,h2⟩:=hs.mark_le ht
 have e:s.marks.getD t 0=s.marks[t]:=getD_get ht
 have hlen:((s.ll 0).take (s.marks[t]).toNat).length=(s.marks[t]).toNat:=by rw[List.length_take];omega
 exact
  {hn:=hs.hn
   trl:=by rw[e1];exact hs.trl.take _
   val:=by
    rw[e1]
    show zeroV s.value ((s.ll 0).drop (s.marks.getD t 0).toNat)=_
    rw[e,hs.val,valV_back hs.trl]
   lvl:=hs.lvl,rsn:=hs.rsn
   hd:=by rw[e1,e2,hlen];omega
   mrk:=fun m hm=>by
    rw[e3] at hm
    rw[e2]
    refine⟨(hs.mrk m (List.mem_of_mem_take hm)).1,?_⟩
    obtain⟨a,ha,rfl⟩:=List.getElem_of_mem hm
    rw[List.length_take] at ha
    rw[List.getElem_take]
    have:=List.pairwise_iff_getElem.1 hs.srt a t (by omega) ht (by omega)
    omega
   lev:=fun i hi=>by
    simp only[e1] at hi ⊢
    rw[hlen] at hi
    rw[List.getElem_take,undo_lev,hs.lev i (by omega),e3,(marks_lt hs.srt ht (i:=(i:Int)) (by omega)).1]
   cls:=hs.cls,fresh:=hs.fresh,nc:=hs.nc,nw:=hs.nw,wt:=hs.wt,wnd:=hs.wnd,wto:=hs.wto
   two:=fun j hj w w' hw hin=>by
    rw[e1,e2,Int.toNat_natCast,List.take_take,Nat.min_self] at hin
    have hin2: -w∈(s.ll 0).take s.head.toNat:=(List.take_sublist_take_left h1).subset hin
    obtain⟨q1,q2⟩:=hs.two j hj w w' hw hin2
    refine⟨?_,q2⟩
    obtain⟨a,ha,ea⟩:=List.getElem_of_mem hin
    rw[hlen] at ha
    rw[List.getElem_take] at ea
    have hlw:levOf s w≤t:=by rw[← levOf_neg,← ea];exact(hs.lev_back ht (by omega)).2 ha
    obtain⟨b,hb,rfl⟩:=List.getElem_of_mem q1
    have hbt:=(hs.lev_back ht hb).1 (by omega)
    rw[e1,List.mem_take_iff_getElem]
    exact⟨b,by omega,rfl⟩
   srt:=by rw[e3];exact hs.srt.sublist (List.take_sublist _ _)
   rea:=fun i hi=>by
    simp only[e1] at hi ⊢
    rw[hlen] at hi
    rw[List.getElem_take,undo_lev,List.take_take,Nat.min_eq_left (by omega)]
    rcases hs.rea i (by omega) with ⟨q1,q2⟩|q
    ·refine .inl ⟨q1,q2.imp (fun q=>?_) id⟩
     rw[e3]
     obtain⟨a,ha,ea⟩:=List.getElem_of_mem q
     have hat:a<t:=by
      apply Nat.lt_of_not_le
      intro hge
      by_cases e4:a=t
      ·subst e4;omega
      ·have:=List.pairwise_iff_getElem.1 hs.srt t a ht ha (by omega)
       omega
     rw[List.mem_take_iff_getElem]
     exact⟨a,by omega,ea⟩
    ·exact .inr q}
theorem Sem.undo {n:Nat} {F:List (List Int)} {s:SR} (h:Sem n F s) (hs:SInv n s) {t:Nat} (ht:t<s.marks.length):Sem n F (undoS s t):=by
 obtain⟨e1,e2,e3⟩:=undo_ll hs ht
 refine⟨h.lits,h.cls,fun x hx hl=>h.lev0 x (by rw[e1] at hx;exact List.mem_of_mem_take hx) hl,h.bad,h.prf,fun C hC=>?_⟩
 rcases h.rep C hC with q|⟨x,q1,q2,q3⟩|q|q
 ·exact .inl q
 ·refine .inr (.inl ⟨x,q1,?_,q3⟩)
  obtain⟨i,hi,rfl⟩:=List.getElem_of_mem q2
  rw[e1,List.mem_take_iff_getElem]
  have:=(hs.lev_back ht hi).1 (by omega)
  exact⟨i,by omega,rfl⟩
 ·exact .inr (.inr (.inl q))
 ·exact .inr (.inr (.inr q))
def attS (s:SR) (c:List Int) (h0 h1 h2:Value):SR:=watchS (watchS {s with nc:=s.nc+1,hc:=fset s.hc s.nc h0,cl:=fset s.cl s.nc c} (c0 c) s.nc h1) (c1 c) s.nc h2
section
variable {n:Nat} {s:SR} {c:List Int} {h0 h1 h2:Value}
theorem att_wl (hs:SInv n s) (hc:2≤c.length) (hnd:c.Nodup) (hl:∀x∈c,Lit n x) {x:Int} (hx:Lit n x):(attS s c h0 h1 h2).wl (idxI x).toNat=s.wl (idxI x).toNat++(if x=c0 c∨x=c1 c then [(s.nc:Int)] else []):=by
 obtain⟨m0,m1⟩:=c0_mem hc
 have hne:c0 c≠c1 c:=fun e=>by
  rw[show c0 c=c[0] from getD_get (by omega),show c1 c=c[1] from getD_get (by omega)] at e
  have:=(List.getElem_inj hnd (h₀:=by omega) (h₁:=by omega)).1 e
  omega
 have hi0:∀{y},Lit n y→y≠x→(idxI x).toNat≠(idxI y).toNat:=fun hy hne e=>hne (idxI_inj hx hy e).symm
 show fset (fset s.wl (idxI (c0 c)).toNat (s.wl (idxI (c0 c)).toNat++ [(s.nc:Int)])) (idxI (c1 c)).toNat (fset s.wl (idxI (c0 c)).toNat (s.wl (idxI (c0 c)).toNat++ [(s.nc:Int)]) (idxI (c1 c)).toNat++ [(s.nc:Int)]) (idxI x).toNat=_
 by_cases e1:x=c1 c
 ·subst e1
  rw[fset_same,fset_ne _ _ (hi0 (hl _ m0) hne),if_pos (.inr rfl)]
 ·rw[fset_ne _ _ (hi0 (hl _ m1) (Ne.symm e1))]
  by_cases e0:x=c0 c
  ·subst e0
   rw[fset_same,if_pos (.inl rfl)]
  ·rw[fset_ne _ _ (hi0 (hl _ m0) (Ne.symm e0)),if_neg (by rintro(h|h)<;>contradiction),List.append_nil]
theorem att_nd (hs:SInv n s) (hc:2≤c.length) (hnd:c.Nodup) (hl:∀x∈c,Lit n x) (k:Nat):((attS s c h0 h1 h2).wl k).Nodup:=by
 obtain⟨m0,m1⟩:=c0_mem hc
 have hne:c0 c≠c1 c:=fun e=>by
  rw[show c0 c=c[0] from getD_get (by omega),show c1 c=c[1] from getD_get (by omega)] at e
  have:=(List.getElem_inj hnd (h₀:=by omega) (h₁:=by omega)).1 e
  omega
 have old:∀{x},Lit n x→(s.nc:Int)∉s.wl (idxI x).toNat:=fun hx hm=>by
  obtain⟨j,hj,e,_⟩:=hs.wt _ hx _ hm
  omega
 have one:∀{x},Lit n x→(s.wl (idxI x).toNat++ [(s.nc:Int)]).Nodup:=fun hx=>by
  rw[List.nodup_append]
  refine⟨hs.wnd _,by simp,fun a ha b hb=>?_⟩
  rw[List.mem_singleton.1 hb]
  rintro rfl
  exact old hx ha
 show(fset (fset s.wl (idxI (c0 c)).toNat (s.wl (idxI (c0 c)).toNat++ [(s.nc:Int)])) (idxI (c1 c)).toNat (fset s.wl (idxI (c0 c)).toNat (s.wl (idxI (c0 c)).toNat++ [(s.nc:Int)]) (idxI (c1 c)).toNat++ [(s.nc:Int)]) k).Nodup
 by_cases e1:k=(idxI (c1 c)).toNat
 ·rw[e1,fset_same,fset_ne _ _ (fun e=>hne (idxI_inj (hl _ m0) (hl _ m1) e.symm))]
  exact one (hl _ m1)
 ·rw[fset_ne _ _ e1]
  by_cases e0:k=(idxI (c0 c)).toNat
  ·rw[e0,fset_same];exact one (hl _ m0)
  ·rw[fset_ne _ _ e0];exact hs.wnd k
theorem SInv.att (hs:SInv n s) (hc:2≤c.length) (hnd:c.Nodup) (hl:∀x∈c,Lit n x) (hnc:s.nc+1≤100000) {t:SR} (e1:t.cl=(attS s c h0 h1 h2).cl) (e2:t.wl=(attS s c h0 h1 h2).wl) (e3:t.nc=s.nc+1) (e4:t.hc=(attS s c h0 h1 h2).hc) (e5:t.nw=s.nw)
  (trl:TrlOk n (t.ll 0)) (val:t.value=valV n (t.ll 0)) (lvl:t.level.length=n+1) (rsn:t.reason.length=n+1) (hd:0≤t.head∧t.head≤((t.ll 0).length:Int)) (mrk:∀m∈t.marks,0≤m∧m≤t.head)
  (lev:∀i (h:i<(t.ll 0).length),levOf t (t.ll 0)[i]=(t.marks.countP fun m=>decide (m≤(i:Int)):Nat)) (srt:t.marks.Pairwise (·≤·))
  (two:∀j,j<s.nc→∀w w',(w=c0 (s.cl j)∧w'=c1 (s.cl j))∨(w=c1 (s.cl j)∧w'=c0 (s.cl j))→ -w∈(t.ll 0).take t.head.toNat→w'∈t.ll 0∧levOf t w'≤levOf t w)
  (twoc:∀w w',(w=c0 c∧w'=c1 c)∨(w=c1 c∧w'=c0 c)→ -w∈(t.ll 0).take t.head.toNat→w'∈t.ll 0∧levOf t w'≤levOf t w)
  (rea:∀i (h:i<(t.ll 0).length),(t.reason.getD (varN (t.ll 0)[i]) 0= -1∧((i:Int)∈t.marks∨levOf t (t.ll 0)[i]=0))∨∃j:Nat,j<s.nc+1∧t.reason.getD (varN (t.ll 0)[i]) 0=(j:Int)∧(t.ll 0)[i]∈fset s.cl s.nc c j∧∀y∈fset s.cl s.nc c j,y≠(t.ll 0)[i]→ -y∈(t.ll 0).take i):SInv n t:=by
 obtain⟨m0,m1⟩:=c0_mem hc
 have e1':t.cl=fset s.cl s.nc c:=e1
 have e4':t.hc=fset s.hc s.nc h0:=e4
 have hwl:=fun {x:Int} (hx:Lit n x)=>att_wl (h0:=h0) (h1:=h1) (h2:=h2) hs hc hnd hl hx
 exact
  {hn:=hs.hn,trl:=trl,val:=val,lvl:=lvl,rsn:=rsn,hd:=hd,mrk:=mrk,lev:=lev,srt:=srt
   cls:=fun j hj=>by
    rw[e3] at hj
    rw[e1']
    by_cases e:j=s.nc
    ·subst e;rw[fset_same];exact⟨hc,hnd,hl⟩
    ·rw[fset_ne _ _ e];exact hs.cls j (by omega)
   fresh:=fun j hj=>by
    rw[e3] at hj
    rw[e1',e4',fset_ne _ _ (by omega),fset_ne _ _ (by omega)]
    exact hs.fresh j (by omega)
   nc:=by rw[e3];exact hnc
   nw:=by rw[e5];exact hs.nw
   wt:=fun x hx e he=>by
    rw[e2,hwl hx,List.mem_append] at he
    rw[e1',e3]
    rcases he with he|he
    ·obtain⟨j,hj,q1,q2⟩:=hs.wt x hx e he
     exact⟨j,by omega,q1,by rw[fset_ne _ _ (by omega)];exact q2⟩
    ·split at he
     ·next hx2=>
      refine⟨s.nc,by omega,by simpa using he,?_⟩
      rw[fset_same]
      exact hx2.imp Eq.symm Eq.symm
     ·simp at he
   wnd:=fun k=>by rw[e2];exact att_nd hs hc hnd hl k
   wto:=fun j hj=>by
    rw[e3] at hj
    rw[e1',e2]
    by_cases e:j=s.nc
    ·subst e
     rw[fset_same,hwl (hl _ m0),hwl (hl _ m1),if_pos (.inl rfl),if_pos (.inr rfl)]
     simp
    ·rw[fset_ne _ _ e]
     obtain⟨p1,_,p3⟩:=hs.cls j (by omega)
     obtain⟨n0,n1⟩:=c0_mem p1
     rw[hwl (p3 _ n0),hwl (p3 _ n1)]
     obtain⟨q1,q2⟩:=hs.wto j (by omega)
     exact⟨List.mem_append.2 (.inl q1),List.mem_append.2 (.inl q2)⟩
   two:=fun j hj w w' hw hin=>by
    rw[e3] at hj
    rw[e1'] at hw
    by_cases e:j=s.nc
    ·subst e;rw[fset_same] at hw;exact twoc w w' hw hin
    ·rw[fset_ne _ _ e] at hw;exact two j (by omega) w w' hw hin
   rea:=fun i hi=>by rw[e1',e3];exact rea i hi}
theorem SInv.attach (hs:SInv n s) (hc:2≤c.length) (hnd:c.Nodup) (hl:∀x∈c,Lit n x) (hnc:s.nc+1≤100000) (hf:∀x∈c,-x∉s.ll 0):SInv n (attS s c h0 h1 h2):=by
 obtain⟨m0,m1⟩:=c0_mem hc
 refine hs.att hc hnd hl hnc rfl rfl rfl rfl rfl hs.trl hs.val hs.lvl hs.rsn hs.hd hs.mrk hs.lev hs.srt hs.two (fun w w' hw hin=>?_) fun i hi=>?_
 ·exfalso
  have:=List.mem_of_mem_take hin
  rcases hw with ⟨rfl,_⟩|⟨rfl,_⟩
  ·exact hf _ m0 this
  ·exact hf _ m1 this
 ·rcases hs.rea i hi with q|⟨j,q1,q2,q3,q4⟩
  ·exact .inl q
  ·exact .inr ⟨j,by omega,q2,by rw[fset_ne _ _ (by omega)];exact q3,by rw[fset_ne _ _ (by omega)];exact q4⟩
theorem SInv.learn (hs:SInv n s) (hc:2≤c.length) (hnd:c.Nodup) (hl:∀x∈c,Lit n x) (hnc:s.nc+1≤100000) (hu1:c0 c∉s.ll 0) (hu2: -(c0 c)∉s.ll 0) (hf:∀x∈c,x≠c0 c→ -x∈s.ll 0) (hlev:levOf s (c1 c)=s.marks.length) {h:Value}:SInv n (pushS (attS s c h0 h1 h2) (c0 c) s.nc h):=by
 obtain⟨m0,m1⟩:=c0_mem hc
 have hlit:=hl _ m0
 have hne:c1 c≠c0 c:=fun e=>by
  rw[show c0 c=c[0] from getD_get (by omega),show c1 c=c[1] from getD_get (by omega)] at e
  have:=(List.getElem_inj hnd (h₀:=by omega) (h₁:=by omega)).1 e
  omega
 have hll:(pushS (attS s c h0 h1 h2) (c0 c) s.nc h).ll 0=s.ll 0++ [c0 c]:=ll_push _ _ _ _
 have hold:∀{y},y∈s.ll 0∨ -y∈s.ll 0→varN y≠varN (c0 c):=fun hy=>var_ne (n:=n) hu1 hu2 hy
 have hlv:∀{y},varN y≠varN (c0 c)→levOf (pushS (attS s c h0 h1 h2) (c0 c) s.nc h) y=levOf s y:=fun hy=>levOf_push (s:=attS s c h0 h1 h2) hy
 have hlu:levOf (pushS (attS s c h0 h1 h2) (c0 c) s.nc h) (c0 c)=s.marks.length:=by
  have:=varN_rng hlit
  unfold levOf pushS
  simp only
  rw[List.getD_eq_getElem?_getD,List.getElem?_set,if_pos rfl,if_pos (by show _<s.level.length;rw[hs.lvl];omega)];rfl
 have hrs:∀{y},varN y≠varN (c0 c)→(pushS (attS s c h0 h1 h2) (c0 c) s.nc h).reason.getD (varN y) 0=s.reason.getD (varN y) 0:=fun hy=>reason_push (s:=attS s c h0 h1 h2) hy
 have hhd:s.head.toNat≤(s.ll 0).length:=by have:=hs.hd;omega
 have hlast:∀i (hi:i<((pushS (attS s c h0 h1 h2) (c0 c) s.nc h).ll 0).length),(∃hi':i<(s.ll 0).length,((pushS (attS s c h0 h1 h2) (c0 c) s.nc h).ll 0)[i]=(s.ll 0)[i])∨(i=(s.ll 0).length∧((pushS (attS s c h0 h1 h2) (c0 c) s.nc h).ll 0)[i]=c0 c):=fun i hi=>by
  simp only[hll] at hi ⊢
  have hi':i<(s.ll 0).length+1:=by simpa using hi
  by_cases e:i<(s.ll 0).length
  ·exact .inl ⟨e,List.getElem_append_left e⟩
  ·have e2:i=(s.ll 0).length:=by omega
   subst e2
   exact .inr ⟨rfl,by rw[List.getElem_append_right (Nat.le_refl _)];simp⟩
 refine hs.att hc hnd hl hnc (h0:=h0) (h1:=h1) (h2:=h2) rfl rfl rfl rfl rfl (by rw[hll];exact hs.trl.push hlit hu1 hu2) (by rw[hll];show s.value.set _ _=_;rw[hs.val];exact valV_push hlit hu1 hu2) (by show(s.level.set _ _).length=_;rw[List.length_set];exact hs.lvl) (by show(s.reason.set _ _).length=_;rw[List.length_set];exact hs.rsn)
  (by rw[hll];have:=hs.hd;simp only[List.length_append,List.length_singleton];exact⟨this.1,by show s.head≤_;omega⟩) hs.mrk (fun i hi=>?_) hs.srt (fun j hj w w' hw hin=>?_) (fun w w' hw hin=>?_) fun i hi=>?_
 ·rcases hlast i hi with ⟨hi',e⟩|⟨e1,e⟩
  ·rw[e,hlv (hold (.inl (List.getElem_mem hi')))];exact hs.lev i hi'
  ·rw[e,hlu,e1]
   show _=((s.marks.countP _:Nat):Int)
   rw[count_all fun m hm=>by have:=hs.mrk m hm;have:=hs.hd;omega]
 ·have hin: -w∈((pushS (attS s c h0 h1 h2) (c0 c) s.nc h).ll 0).take s.head.toNat:=hin
  rw[hll,List.take_append_of_le_length hhd] at hin
  obtain⟨q1,q2⟩:=hs.two j hj w w' hw hin
  rw[hll,hlv (hold (.inl q1)),hlv (hold (.inr (List.mem_of_mem_take hin)))]
  exact⟨List.mem_append.2 (.inl q1),q2⟩
 ·have hin: -w∈((pushS (attS s c h0 h1 h2) (c0 c) s.nc h).ll 0).take s.head.toNat:=hin
  rw[hll,List.take_append_of_le_length hhd] at hin
  have hin2:=List.mem_of_mem_take hin
  rcases hw with ⟨rfl,rfl⟩|⟨rfl,rfl⟩
  ·exact absurd hin2 hu2
  ·rw[hll,hlu,hlv (hold (.inr hin2)),hlev]
   exact⟨by simp,Int.le_refl _⟩
 ·rcases hlast i hi with ⟨hi',e⟩|⟨e1,e⟩
  ·rw[e,hrs (hold (.inl (List.getElem_mem hi'))),hlv (hold (.inl (List.getElem_mem hi'))),hll,List.take_append_of_le_length (by omega)]
   rcases hs.rea i hi' with q|⟨j,q1,q2,q3,q4⟩
   ·exact .inl q
   ·exact .inr ⟨j,by omega,q2,by rw[fset_ne _ _ (by omega)];exact q3,by rw[fset_ne _ _ (by omega)];exact q4⟩
  ·right
   refine⟨s.nc,by omega,?_,?_,?_⟩
   ·rw[e]
    have:=varN_rng hlit
    unfold pushS
    simp only
    rw[List.getD_eq_getElem?_getD,List.getElem?_set,if_pos rfl,if_pos (by show _<s.reason.length;rw[hs.rsn];omega)];rfl
   ·rw[e,fset_same];exact m0
   ·rw[e,e1,fset_same,hll,List.take_append_of_le_length (Nat.le_refl _),List.take_length]
    exact hf
end
end Go.Ab
/- The search's invariant:decisions,assumptions,the word that grows with each conflict. -/
namespace Go.Ab
open Go Go.Proofs
def wrdT (n:Nat) (M:List Int):Nat→Nat
 |0=>0
 |k+1=>wrdT n M k+(if (k:Int)∈M then 1 else 2)*3 ^ (n - 1 - k)
theorem wrdT_succ (n:Nat) (M:List Int) (k:Nat):wrdT n M (k+1)=wrdT n M k+(if (k:Int)∈M then 1 else 2)*3 ^ (n - 1 - k):=rfl
theorem wrdT_up (n:Nat) (M:List Int) {k:Nat} (hk:k+1≤n):wrdT n M (k+1)+3 ^ (n - (k+1))≤wrdT n M k+3 ^ (n - k):=by
 have e:n - k=(n - 1 - k)+1:=by omega
 have e2:n - (k+1)=n - 1 - k:=by omega
 rw[e2,e,Nat.pow_succ,wrdT_succ]
 split<;>omega
theorem wrdT_le (n:Nat) (M:List Int) {a b:Nat} (hab:a≤b) (hb:b≤n):wrdT n M b+3 ^ (n - b)≤wrdT n M a+3 ^ (n - a):=by
 obtain⟨d,rfl⟩:=Nat.exists_eq_add_of_le hab
 clear hab
 induction d with
 |zero=>exact Nat.le_refl _
 |succ d ih=>
  have h1:=wrdT_up n M (k:=a+d) hb
  have h2:=ih (by omega)
  rw[← Nat.add_assoc]
  omega
theorem wrdT_lt (n:Nat) (M:List Int) {k:Nat} (hk:k≤n):wrdT n M k<3 ^ n:=by
 have:=wrdT_le n M (Nat.zero_le k) hk
 simp only[wrdT,Nat.zero_add,Nat.sub_zero] at this
 have:0<3 ^ (n - k):=Nat.pow_pos (by omega)
 omega
theorem wrdT_mono (n:Nat) (M:List Int) {a b:Nat} (hab:a≤b):wrdT n M a≤wrdT n M b:=by
 obtain⟨d,rfl⟩:=Nat.exists_eq_add_of_le hab
 clear hab
 induction d with
 |zero=>exact Nat.le_refl _
 |succ d ih=>rw[← Nat.add_assoc,wrdT_succ];omega
theorem wrdT_congr (n:Nat) {M M':List Int} {k:Nat} (h:∀i,i<k→((i:Int)∈M↔(i:Int)∈M')):wrdT n M k=wrdT n M' k:=by
 induction k with
 |zero=>rfl
 |succ k ih=>
  rw[wrdT_succ,wrdT_succ,ih fun i hi=>h i (by omega)]
  by_cases e:(k:Int)∈M
  ·rw[if_pos e,if_pos ((h k (by omega)).1 e)]
  ·rw[if_neg e,if_neg (fun q=>e ((h k (by omega)).2 q))]
theorem wrdT_cut {n:Nat} {M:List Int} (hs:M.Pairwise (·≤·)) (h0:∀m∈M,0≤m) {t:Nat} (ht:t<M.length) (hlt:t=0∨∀m∈M.take t,m<M[t]) {len:Nat} (hl:(M[t]).toNat≤len) (hn:len≤n) (hmn:(M[t]).toNat+1≤n):wrdT n M len<wrdT n (M.take t) ((M[t]).toNat+1):=by
 have hm0:=h0 _ (List.getElem_mem ht)
 have hsub:∀i:Nat,i<(M[t]).toNat→((i:Int)∈M↔(i:Int)∈M.take t):=fun i hi=>by
  refine⟨fun h=>?_,fun h=>List.mem_of_mem_take h⟩
  obtain⟨a,ha,e⟩:=List.getElem_of_mem h
  have hat:a<t:=by
   apply Nat.lt_of_not_le
   intro hge
   by_cases e4:a=t
   ·subst e4;omega
   ·have:=List.pairwise_iff_getElem.1 hs t a ht ha (by omega)
    omega
  rw[List.mem_take_iff_getElem]
  exact⟨a,by omega,e⟩
 have e1:=wrdT_congr n hsub
 have hnot:¬(((M[t]).toNat:Nat):Int)∈M.take t:=fun h=>by
  rcases hlt with rfl|q
  ·simp at h
  ·have:=q _ h;omega
 have e2:wrdT n (M.take t) ((M[t]).toNat+1)=wrdT n M (M[t]).toNat+2*3 ^ (n - 1 - (M[t]).toNat):=by
  rw[wrdT,← e1,if_neg hnot]
 have hpos:0<3 ^ (n - 1 - (M[t]).toNat):=Nat.pow_pos (by omega)
 by_cases e:(M[t]).toNat=len
 ·rw[← e,e2];omega
 ·have h3:=wrdT_le n M (a:=(M[t]).toNat+1) (b:=len) (by omega) hn
  have hin:((((M[t]).toNat:Nat):Int))∈M:=by rw[Int.toNat_of_nonneg hm0];exact List.getElem_mem ht
  have e3:wrdT n M ((M[t]).toNat+1)=wrdT n M (M[t]).toNat+1*3 ^ (n - 1 - (M[t]).toNat):=by rw[wrdT,if_pos hin]
  have e4:n - ((M[t]).toNat+1)=n - 1 - (M[t]).toNat:=by omega
  have:0<3 ^ (n - len):=Nat.pow_pos (by omega)
  rw[e3,e4] at h3
  omega
def LowOk (n:Nat) (s:SR):Prop:=∃k:Nat,s.low=(k:Int)∧1≤k∧k≤n+1∧∀u:Nat,1≤u→u<k→(u:Int)∈s.ll 0∨ -(u:Int)∈s.ll 0
structure SI (n:Nat) (F:List (List Int)) (A:List Int) (P0 N0:Nat) (s:SR) (met:Nat):Prop where
 inv:SInv n s
 sem:Sem n F s
 dec:∀m∈s.marks,∀x,(s.ll 0)[m.toNat]? =some x→s.reason.getD (varN x) 0= -1→x∈A∨(A.length:Int)<levOf s x∧∃v:Nat,x= -(v:Int)∧∀u:Nat,0<u→u<v→(u:Int)∈(s.ll 0).take m.toNat∨ -(u:Int)∈(s.ll 0).take m.toNat
 asm:∀i,i<s.marks.length→∀x,A[i]? =some x→x∈s.ll 0∧levOf s x≤i+1
 plen:s.proof.length=P0+met
 ncl:s.nc≤N0+met
 wrd:met≤wrdT n s.marks (s.ll 0).length
 low:LowOk n s
section
variable {n:Nat} {F:List (List Int)} {A:List Int} {P0 N0:Nat} {s:SR} {met:Nat}
theorem SI.met_lt (h:SI n F A P0 N0 s met):met<3 ^ n:=Nat.lt_of_le_of_lt h.wrd (wrdT_lt n _ h.inv.trl.len)
theorem SI.prop {t:SR} {r:Int} (h:SI n F A P0 N0 s met) (hp:POut n s t r):SI n F A P0 N0 t met:=by
 have hx:=hp.ext
 obtain⟨ys,ell⟩:=hx.ll
 have hold:∀{x},x∈s.ll 0→x∈t.ll 0:=fun hm=>by rw[ell];exact List.mem_append.2 (.inl hm)
 exact
  {inv:=hp.inv
   sem:=h.sem.prop h.inv hp
   dec:=fun m hm x hxm hr=>by
    rw[hx.marks] at hm
    have hm2:=h.inv.mrk m hm
    have hd:=h.inv.hd
    by_cases e:x∈s.ll 0
    ·rw[hx.old x e] at hr
     have hlt:m.toNat<(s.ll 0).length:=by
      apply Nat.lt_of_not_le
      intro hge
      obtain⟨i,hi,ei⟩:=List.getElem_of_mem e
      obtain⟨hm3,em⟩:=List.getElem?_eq_some_iff.1 hxm
      have e2:(t.ll 0)[i]'(by rw[ell,List.length_append];omega)=x:=by simp only[ell,List.getElem_append_left hi,ei]
      have:i=m.toNat:=(List.getElem_inj hp.inv.trl.nd (h₀:=by simp [ell];omega) (h₁:=by simpa using hm3)).1 (by rw[List.getElem_map,List.getElem_map,e2,em])
      omega
     rw[ell,List.getElem?_append_left hlt] at hxm
     rw[ell,List.take_append_of_le_length (by omega),lev_ext h.inv hp.inv hx e]
     exact h.dec m hm x hxm hr
    ·exact absurd hr (hx.new x (List.mem_of_getElem? hxm) e)
   asm:=fun i hi x hxi=>by
    rw[hx.marks] at hi
    obtain⟨q1,q2⟩:=h.asm i hi x hxi
    exact⟨hold q1,by rw[lev_ext h.inv hp.inv hx q1];exact q2⟩
   plen:=by rw[hx.proof];exact h.plen
   ncl:=by rw[hx.nc];exact h.ncl
   wrd:=by
    rw[hx.marks,ell,List.length_append]
    exact Nat.le_trans h.wrd (wrdT_mono n _ (by omega))
   low:=by
    obtain⟨k,q1,q2,q3,q4⟩:=h.low
    exact⟨k,by rw[hx.low];exact q1,q2,q3,fun u h1 h2=>(q4 u h1 h2).imp hold hold⟩}
theorem SInv.prf (h:SInv n s) (P:List (List Int)):SInv n {s with proof:=P}:=
 {hn:=h.hn,trl:=h.trl,val:=h.val,lvl:=h.lvl,rsn:=h.rsn,hd:=h.hd,mrk:=h.mrk,lev:=h.lev,cls:=h.cls,fresh:=h.fresh,nc:=h.nc,nw:=h.nw,wt:=h.wt,wnd:=h.wnd,wto:=h.wto,two:=h.two,srt:=h.srt,rea:=h.rea}
def logS (s:SR) (l:List Int):SR:={s with proof:=s.proof++ [l]}
theorem Sem.more (h:Sem n F s) {l:List Int} (hr:Rup (F++s.proof) l) (hl:∀x∈l,Lit n x):Sem n F (logS s l):=by
 have hsub:∀c∈F++s.proof,c∈F++(s.proof++ [l]):=fun c hc=>by
  rcases List.mem_append.1 hc with hc|hc
  ·exact List.mem_append.2 (.inl hc)
  ·exact List.mem_append.2 (.inr (List.mem_append.2 (.inl hc)))
 exact
  {lits:=fun c hc=>by
    have hc:c∈F++(s.proof++ [l]):=hc
    rw[← List.append_assoc] at hc
    rcases List.mem_append.1 hc with hc|hc
    ·exact h.lits c hc
    ·rw[List.mem_singleton.1 hc];exact hl
   cls:=fun j hj=>by
    obtain⟨C,hC,q1,q2⟩:=h.cls j hj
    exact⟨C,hsub C hC,q1,fun x hx=>(q2 x hx).imp id fun q=>q.mono hsub fun _ h=>h⟩
   lev0:=fun x hx hl=>(h.lev0 x hx hl).mono hsub fun _ h=>h
   bad:=fun hb=>(h.bad hb).cut hsub fun _ h=>h.elim
   prf:=h.prf.snoc hr
   rep:=h.rep}
theorem SInv.mark (h:SInv n s) (hh:s.head=((s.ll 0).length:Int)):SInv n (markS s):=
 {hn:=h.hn,trl:=h.trl,val:=h.val,lvl:=h.lvl,rsn:=h.rsn,hd:=h.hd
  mrk:=fun m hm=>by
   have hm:m∈s.marks++ [((s.ll 0).length:Int)]:=hm
   rcases List.mem_append.1 hm with hm|hm
   ·exact h.mrk m hm
   ·rw[List.mem_singleton.1 hm];show _∧_≤s.head;omega
  lev:=fun i hi=>by
   have e:(s.marks++ [((s.ll 0).length:Int)]).countP (fun m=>decide (m≤(i:Int)))=s.marks.countP (fun m=>decide (m≤(i:Int))):=by
    have hi:i<(s.ll 0).length:=hi
    rw[List.countP_append]
    have:decide (((s.ll 0).length:Int)≤(i:Int))=false:=by simp;omega
    rw[List.countP_singleton,this];rfl
   show levOf s (s.ll 0)[i]=(((s.marks++ [((s.ll 0).length:Int)]).countP _:Nat):Int)
   rw[e];exact h.lev i hi
  cls:=h.cls,fresh:=h.fresh,nc:=h.nc,nw:=h.nw,wt:=h.wt,wnd:=h.wnd,wto:=h.wto,two:=h.two
  srt:=by
   show(s.marks++ [((s.ll 0).length:Int)]).Pairwise _
   rw[List.pairwise_append]
   exact⟨h.srt,by simp,fun a ha b hb=>by rw[List.mem_singleton.1 hb];have:=h.mrk a ha;have:=h.hd;omega⟩
  rea:=fun i hi=>(h.rea i hi).imp (fun⟨q1,q2⟩=>⟨q1,q2.imp (fun q=>List.mem_append.2 (.inl q)) id⟩) id}
theorem wrdT_mark (n:Nat) (M:List Int) (k:Nat):wrdT n (M++ [(k:Int)]) k=wrdT n M k:=by
 refine wrdT_congr n fun i hi=>?_
 rw[List.mem_append,List.mem_singleton]
 constructor
 ·rintro(h|h)
  ·exact h
  ·omega
 ·exact .inl
theorem SI.dec0 (h:SI n F A P0 N0 s met) (hh:s.head=((s.ll 0).length:Int)) (hA:s.marks.length<A.length) (hx:A[s.marks.length]∈s.ll 0):SI n F A P0 N0 (markS s) met where
 inv:=h.inv.mark hh
 sem:=⟨h.sem.lits,h.sem.cls,h.sem.lev0,h.sem.bad,h.sem.prf,h.sem.rep⟩
 dec:=fun m hm x hxm hr=>by
  have hm:m∈s.marks++ [((s.ll 0).length:Int)]:=hm
  rcases List.mem_append.1 hm with hm|hm
  ·exact h.dec m hm x hxm hr
  ·rw[List.mem_singleton.1 hm] at hxm
   have hxm:(s.ll 0)[((s.ll 0).length:Int).toNat]? =some x:=hxm
   simp at hxm
 asm:=fun i hi x hxi=>by
  have hi:i<(s.marks++ [((s.ll 0).length:Int)]).length:=hi
  simp only[List.length_append,List.length_singleton] at hi
  by_cases e:i<s.marks.length
  ·exact h.asm i e x hxi
  ·obtain rfl:i=s.marks.length:=by omega
   rw[List.getElem?_eq_getElem hA] at hxi
   obtain rfl:A[s.marks.length]=x:=by simpa using hxi
   have:=(h.inv.lev_le hx).2
   exact⟨hx,by show levOf s _≤_;omega⟩
 plen:=h.plen
 ncl:=h.ncl
 wrd:=by
  show met≤wrdT n (s.marks++ [((s.ll 0).length:Int)]) (s.ll 0).length
  rw[wrdT_mark];exact h.wrd
 low:=h.low
theorem SI.dec1 (h:SI n F A P0 N0 s met) (hh:s.head=((s.ll 0).length:Int)) {x:Int} (hx:Lit n x) (h1:x∉s.ll 0) (h2: -x∉s.ll 0) (hv:Value) (hA:∀y,A[s.marks.length]? =some y→x=y)
  (hd:x∈A∨A.length≤s.marks.length∧∃v:Nat,x= -(v:Int)∧∀u:Nat,0<u→u<v→(u:Int)∈s.ll 0∨ -(u:Int)∈s.ll 0):SI n F A P0 N0 (pushS (markS s) x (-1) hv) met:=by
 have hm:=h.inv.mark hh
 have hll:(pushS (markS s) x (-1) hv).ll 0=s.ll 0++ [x]:=ll_push _ _ _ _
 have hi:=hm.push (r:= -1) hv hx h1 h2 (.inl ⟨rfl,.inl (List.mem_append.2 (.inr (by simp [markS])))⟩)
 have hold:∀{y},y∈s.ll 0∨ -y∈s.ll 0→varN y≠varN x:=fun hy=>var_ne (n:=n) h1 h2 hy
 have hlv:∀{y},y∈s.ll 0→levOf (pushS (markS s) x (-1) hv) y=levOf s y:=fun hy=>levOf_push (s:=markS s) (hold (.inl hy))
 have hlx:levOf (pushS (markS s) x (-1) hv) x=(s.marks.length+1:Nat):=by
  rw[levOf_pushed hm hx];show(((s.marks++ [_]).length:Nat):Int)=_;simp
 have hmar:(pushS (markS s) x (-1) hv).marks=s.marks++ [((s.ll 0).length:Int)]:=rfl
 exact
  {inv:=hi
   sem:=
    {lits:=h.sem.lits,cls:=h.sem.cls,bad:=h.sem.bad,prf:=h.sem.prf
     lev0:=fun y hy hl=>by
      rw[hll] at hy
      rcases List.mem_append.1 hy with hy|hy
      ·exact h.sem.lev0 y hy (by rw[← hlv hy];exact hl)
      ·rw[List.mem_singleton.1 hy,hlx] at hl;omega
     rep:=fun C hC=>by
      rcases h.sem.rep C hC with q|⟨y,q1,q2,q3⟩|q|q
      ·exact .inl q
      ·exact .inr (.inl ⟨y,q1,by rw[hll];exact List.mem_append.2 (.inl q2),by rw[hlv q2];exact q3⟩)
      ·exact .inr (.inr (.inl q))
      ·exact .inr (.inr (.inr q))}
   dec:=fun m hm2 y hy hr=>by
    rw[hmar] at hm2
    rw[hll] at hy ⊢
    have hml:m.toNat≤(s.ll 0).length:=by
     rcases List.mem_append.1 hm2 with q|q
     ·have:=h.inv.mrk m q;have:=h.inv.hd;omega
     ·rw[List.mem_singleton.1 q];simp
    rw[List.take_append_of_le_length hml]
    by_cases e:m.toNat<(s.ll 0).length
    ·rw[List.getElem?_append_left e] at hy
     have hy2:=List.mem_of_getElem? hy
     rw[reason_push (s:=markS s) (hold (.inl hy2))] at hr
     rw[hlv hy2]
     refine h.dec m ?_ y hy hr
     rcases List.mem_append.1 hm2 with q|q
     ·exact q
     ·rw[List.mem_singleton.1 q] at e;simp at e
    ·have e2:m.toNat=(s.ll 0).length:=by omega
     rw[e2,List.getElem?_append_right (Nat.le_refl _)] at hy
     obtain rfl:x=y:=by simpa using hy
     rw[e2,List.take_length,hlx]
     exact hd.imp id fun⟨q1,q2⟩=>⟨by omega,q2⟩
   asm:=fun i hi2 y hy=>by
    rw[hmar] at hi2
    simp only[List.length_append,List.length_singleton] at hi2
    by_cases e:i<s.marks.length
    ·obtain⟨q1,q2⟩:=h.asm i e y hy
     exact⟨by rw[hll];exact List.mem_append.2 (.inl q1),by rw[hlv q1];exact q2⟩
    ·obtain rfl:i=s.marks.length:=by omega
     rw[← hA y hy,hll,hlx]
     exact⟨by simp,by omega⟩
   plen:=h.plen
   ncl:=h.ncl
   wrd:=by
    rw[hmar,hll,List.length_append]
    refine Nat.le_trans ?_ (wrdT_mono n _ (Nat.le_add_right _ _))
    rw[wrdT_mark];exact h.wrd
   low:=by
    obtain⟨k,q1,q2,q3,q4⟩:=h.low
    exact⟨k,q1,q2,q3,fun u h1 h2=>by rw[hll];exact(q4 u h1 h2).imp (fun q=>List.mem_append.2 (.inl q)) (fun q=>List.mem_append.2 (.inl q))⟩}
end
end Go.Ab
/- The search's invariant:a clause learned. -/
namespace Go.Ab
open Go Go.Proofs
theorem lowB_lt {l:List Int} {b u:Int}:u<lowB b l↔u<b∧∀x∈l,u<max x (-x):=by
 unfold lowB
 induction l generalizing b with
 |nil=>simp
 |cons x l ih=>
  rw[List.foldl_cons,ih]
  simp only[List.mem_cons,forall_eq_or_imp]
  constructor
  ·rintro⟨h1,h2⟩;exact⟨by omega,by omega,h2⟩
  ·rintro⟨h1,h2,h3⟩;exact⟨by omega,h3⟩
section
variable {n:Nat} {F:List (List Int)} {A:List Int} {P0 N0:Nat} {s:SR} {met:Nat}
theorem mem_take_drop {L:List Int} {m:Nat} {x:Int} (h:x∈L):x∈L.take m∨x∈L.drop m:=by
 rw[← List.mem_append,List.take_append_drop];exact h
theorem LowOk.undo (h:LowOk n s) (hs:SInv n s) {t:Nat} (ht:t<s.marks.length):LowOk n (undoS s t):=by
 obtain⟨k,q1,q2,q3,q4⟩:=h
 obtain⟨e1,_,_⟩:=undo_ll hs ht
 have e:s.marks.getD t 0=s.marks[t]:=getD_get ht
 have elow:(undoS s t).low=lowB s.low ((s.ll 0).drop (s.marks[t]).toNat):=by
  show lowB s.low ((s.ll 0).drop (s.marks.getD t 0).toNat)=_
  rw[e]
 have hpos:0<lowB s.low ((s.ll 0).drop (s.marks[t]).toNat):=lowB_lt.2 ⟨by omega,fun x hx=>by have:=hs.trl.rng x (List.mem_of_mem_drop hx);omega⟩
 have hle:lowB s.low ((s.ll 0).drop (s.marks[t]).toNat)≤s.low:=by
  apply Int.not_lt.1
  intro hlt
  have:=(lowB_lt.1 hlt).1
  omega
 refine⟨(lowB s.low ((s.ll 0).drop (s.marks[t]).toNat)).toNat,by rw[elow];omega,by omega,by omega,fun u h1 h2=>?_⟩
 have hu:(u:Int)<lowB s.low ((s.ll 0).drop (s.marks[t]).toNat):=by omega
 have hnd:=(lowB_lt.1 hu).2
 rw[e1]
 refine(q4 u h1 (by omega)).imp (fun q=>?_) fun q=>?_
 ·exact(mem_take_drop q).resolve_right fun hd=>by have:=hnd _ hd;omega
 ·exact(mem_take_drop q).resolve_right fun hd=>by have:=hnd _ hd;omega
theorem AOut.lvl {j:Nat} {l:List Int} {to:Int} (h:AOut n s j l to) (hs:SInv n s) (hm:0<s.marks.length):0≤to∧∃ht:to.toNat<s.marks.length,(to=0∨∀m∈s.marks.take to.toNat,m<s.marks[to.toNat]):=by
 obtain⟨a,ha,rest,_,_,h2,_,h4⟩:=h.uip
 rcases h4 with ⟨rfl,_⟩|⟨x,hx,e⟩
 ·exact⟨by omega,by simpa using hm,.inl rfl⟩
 ·obtain⟨p1,p2,p3,p4⟩:=h2 x hx
  have ht:to.toNat<s.marks.length:=by omega
  refine⟨by omega,ht,.inr fun m hmm=>?_⟩
  obtain⟨i,hi,ei⟩:=List.getElem_of_mem p1
  have hlv:levOf s (s.ll 0)[i]=to:=by rw[ei,levOf_neg];exact e
  have hib:=(hs.lev_back ht hi).1 (by omega)
  have hcnt:=hs.lev i hi
  have h0:=(hs.mark_le ht).1
  obtain⟨q,hq,eq⟩:=List.getElem_of_mem hmm
  rw[List.length_take] at hq
  rw[List.getElem_take] at eq
  -- all of the first marks are at or below i
  have hall:m≤(i:Int):=by
   apply Int.not_lt.1
   intro hgt
   have:=(marks_lt hs.srt (t:=q) (by omega) (i:=(i:Int)) (by omega)).2
   omega
  omega
theorem SI.cut (h:SI n F A P0 N0 s met) {j:Nat} {l:List Int} {to:Int} (ha:AOut n s j l to) (hm:0<s.marks.length) (hj:j<s.nc) (hf:∀x∈s.cl j,-x∈s.ll 0) (hlv:∃ht:to.toNat<s.marks.length,(to=0∨∀m∈s.marks.take to.toNat,m<s.marks[to.toNat])):
  SI n F A (P0+met+1) (N0+met) (logS (undoS s to.toNat) l) 0:=by
 obtain⟨ht,hlt⟩:=hlv
 have hs:=h.inv
 obtain⟨e1,e2,e3⟩:=undo_ll hs ht
 have hrup:=ha.rup h.sem hs hj hf
 have hlow:=h.low.undo hs ht
 exact
  {inv:=(hs.undo ht).prf _
   sem:=(h.sem.undo hs ht).more (.inl hrup) (ha.lits hs)
   dec:=fun m hmm x hx hr=>by
    have hmm:m∈s.marks.take to.toNat:=hmm
    have hx:((undoS s to.toNat).ll 0)[m.toNat]? =some x:=hx
    show _∨(A.length:Int)<levOf s x∧∃v:Nat,x= -(v:Int)∧∀u:Nat,0<u→u<v→(u:Int)∈((undoS s to.toNat).ll 0).take m.toNat∨ -(u:Int)∈((undoS s to.toNat).ll 0).take m.toNat
    rw[e1] at hx ⊢
    obtain⟨hl2,_⟩:=List.getElem?_eq_some_iff.1 hx
    rw[List.length_take] at hl2
    rw[List.getElem?_take,if_pos (by omega)] at hx
    rw[List.take_take,Nat.min_eq_left (by omega)]
    exact h.dec m (List.mem_of_mem_take hmm) x hx hr
   asm:=fun i hi x hx=>by
    have hi:i<(s.marks.take to.toNat).length:=hi
    rw[List.length_take] at hi
    obtain⟨q1,q2⟩:=h.asm i (by omega) x hx
    refine⟨?_,q2⟩
    show x∈(undoS s to.toNat).ll 0
    rw[e1]
    obtain⟨b,hb,rfl⟩:=List.getElem_of_mem q1
    have:=(hs.lev_back ht hb).1 (by omega)
    rw[List.mem_take_iff_getElem]
    exact⟨b,by omega,rfl⟩
   plen:=by show(s.proof++ [l]).length=_;rw[List.length_append,h.plen];rfl
   ncl:=h.ncl
   wrd:=Nat.zero_le _
   low:=hlow}
theorem AOut.back {j:Nat} {l:List Int} {to:Int} (ha:AOut n s j l to) (hs:SInv n s) (hlv:∃ht:to.toNat<s.marks.length,(to=0∨∀m∈s.marks.take to.toNat,m<s.marks[to.toNat])):
  ∃p rest,l=p::rest∧Lit n p∧p∉(undoS s to.toNat).ll 0∧ -p∉(undoS s to.toNat).ll 0∧l.Nodup∧(∀x∈rest,-x∈(undoS s to.toNat).ll 0∧Lit n x∧0<levOf s x∧levOf s x≤to)∧(rest=[]∨∃x∈rest,levOf s x=to)∧(to=0→rest=[]):=by
 obtain⟨ht,_⟩:=hlv
 obtain⟨e1,_,_⟩:=undo_ll hs ht
 have hlits:=ha.lits hs
 obtain⟨a,hal,rest,rfl,h1,h2,h3,h4⟩:=ha.uip
 have hnb:(s.ll 0)[a]∉(s.ll 0).take (s.marks[to.toNat]).toNat:=fun hm=>by
  obtain⟨b,hb,e⟩:=List.getElem_of_mem hm
  rw[List.length_take] at hb
  rw[List.getElem_take] at e
  have:=(hs.lev_back ht (i:=b) (by omega)).2 (by omega)
  rw[e,h1] at this;omega
 refine⟨_,rest,rfl,hlits _ (by simp),fun hm=>?_,by rw[Int.neg_neg,e1];exact hnb,?_,fun x hx=>?_,?_,?_⟩
 ·rw[e1] at hm
  exact hs.trl.no_neg (List.getElem_mem hal) (List.mem_of_mem_take hm)
 ·rw[List.nodup_cons]
  refine⟨fun hm=>?_,?_⟩
  ·have:=(h2 _ hm).2.2.1
   rw[levOf_neg,h1] at this;omega
  ·exact List.Pairwise.of_map varN (fun a b hab e=>hab (by rw[e])) h3
 ·obtain⟨p1,p2,p3,p4⟩:=h2 x hx
  refine⟨?_,hlits x (by simp [hx]),p2,p4⟩
  obtain⟨i,hi,e⟩:=List.getElem_of_mem p1
  rw[e1,List.mem_take_iff_getElem]
  refine⟨i,?_,e⟩
  have:=(hs.lev_back ht hi).1 (by rw[e,levOf_neg];omega)
  omega
 ·exact h4.imp (fun q=>q.2) id
 ·intro e0
  rcases h4 with ⟨_,q⟩|⟨x,hx,q⟩
  ·exact q
  ·have:=(h2 x hx).2.1;omega
theorem SI.cutw (h:SI n F A P0 N0 s met) {to:Int} (hlv:∃ht:to.toNat<s.marks.length,(to=0∨∀m∈s.marks.take to.toNat,m<s.marks[to.toNat])) (hto:0≤to) (hn:((undoS s to.toNat).ll 0).length+1≤n):met+1≤wrdT n (s.marks.take to.toNat) (((undoS s to.toNat).ll 0).length+1):=by
 obtain⟨ht,hlt⟩:=hlv
 have hs:=h.inv
 obtain⟨e1,_,_⟩:=undo_ll hs ht
 obtain⟨h0,h1,h2⟩:=hs.mark_le ht
 have hlen:((undoS s to.toNat).ll 0).length=(s.marks[to.toNat]).toNat:=by rw[e1,List.length_take];omega
 rw[hlen] at hn ⊢
 have:=wrdT_cut (n:=n) hs.srt (fun m hm=>(hs.mrk m hm).1) ht (hlt.imp (fun e=>by omega) id) (len:=(s.ll 0).length) (by omega) hs.trl.len hn
 have:=h.wrd
 omega
theorem SI.learn1 (h:SI n F A P0 N0 s met) {j:Nat} {p:Int} {to:Int} (ha:AOut n s j [p] to) (hm:0<s.marks.length) (hj:j<s.nc) (hf:∀x∈s.cl j,-x∈s.ll 0) (hv:Value):
  to=0∧SI n F A P0 N0 (pushS (logS (undoS s to.toNat) [p]) p (-1) hv) (met+1):=by
 obtain⟨hto,hlv⟩:=ha.lvl h.inv hm
 have hc:=h.cut ha hm hj hf hlv
 obtain⟨p',rest,e,b1,b2,b3,b4,b5,b6,b7⟩:=ha.back h.inv hlv
 simp only[List.cons.injEq] at e
 obtain⟨rfl,rfl⟩:=e
 have hto0:to=0:=by
  obtain⟨a,hal,rest,q1,_,_,_,q4⟩:=ha.uip
  simp only[List.cons.injEq] at q1
  rcases q4 with q|⟨x,hx,_⟩
  ·exact q.1
  ·rw[← q1.2] at hx;simp at hx
 refine⟨hto0,?_⟩
 have hmar:(pushS (logS (undoS s to.toNat) [p]) p (-1) hv).marks=[]:=by show s.marks.take to.toNat=[];rw[hto0];rfl
 have hll:(pushS (logS (undoS s to.toNat) [p]) p (-1) hv).ll 0=(undoS s to.toNat).ll 0++ [p]:=ll_push _ _ _ _
 have hinv:=hc.inv.push (r:= -1) hv b1 b2 b3 (.inl ⟨rfl,.inr hmar⟩)
 have hold:∀{y},y∈(undoS s to.toNat).ll 0→varN y≠varN p:=fun hy=>var_ne (n:=n) b2 b3 (.inl hy)
 have hlen:=hinv.trl.len
 rw[hll,List.length_append] at hlen
 exact
  {inv:=hinv
   sem:=
    {lits:=hc.sem.lits,cls:=hc.sem.cls,bad:=hc.sem.bad,prf:=hc.sem.prf
     lev0:=fun y hy hl=>by
      rw[hll] at hy
      rcases List.mem_append.1 hy with hy|hy
      ·exact hc.sem.lev0 y hy (by rw[← hl];exact(levOf_push (s:=(logS (undoS s to.toNat) [p])) (hold hy)).symm)
      ·rw[List.mem_singleton.1 hy]
       refine .unit (c:=[p]) ?_ (by simp) fun y hy hne=>absurd (by simpa using hy) hne
       show [p]∈F++(s.proof++ [[p]])
       simp
     rep:=fun C hC=>by
      rcases hc.sem.rep C hC with q|⟨y,q1,q2,q3⟩|q|q
      ·exact .inl q
      ·exact .inr (.inl ⟨y,q1,by rw[hll];exact List.mem_append.2 (.inl q2),by rw[← q3];exact levOf_push (s:=(logS (undoS s to.toNat) [p])) (hold q2)⟩)
      ·exact .inr (.inr (.inl q))
      ·exact .inr (.inr (.inr q))}
   dec:=fun m hm2=>by rw[hmar] at hm2;simp at hm2
   asm:=fun i hi=>by rw[hmar] at hi;simp at hi
   plen:=by have:=hc.plen;show(s.proof++ [[p]]).length=_;have:(s.proof++ [[p]]).length=P0+met+1+0:=this;omega
   ncl:=by have:=h.ncl;show s.nc≤_;omega
   wrd:=by
    have:=h.cutw hlv hto (by simpa using hlen)
    rw[hll,List.length_append]
    exact this
   low:=by
    obtain⟨k,q1,q2,q3,q4⟩:=hc.low
    exact⟨k,q1,q2,q3,fun u h1 h2=>by rw[hll];exact(q4 u h1 h2).imp (fun q=>List.mem_append.2 (.inl q)) (fun q=>List.mem_append.2 (.inl q))⟩}
theorem SI.learn2 (h:SI n F A P0 N0 s met) {j:Nat} {l l':List Int} {to:Int} (ha:AOut n s j l to) (hm:0<s.marks.length) (hj:j<s.nc) (hf:∀x∈s.cl j,-x∈s.ll 0) (h2:2≤l.length) (hp:Perm2 l l') (e0:c0 l'=c0 l) (e1:c1 l'∈l.tail) (hmax:∀x∈l.tail,levOf s x≤levOf s (c1 l')) (hnc:s.nc+1≤100000) (h0 h1 h3 hv:Value):
  SI n F A P0 N0 (pushS (attS (logS (undoS s to.toNat) l) l' h0 h1 h3) (c0 l') s.nc hv) (met+1):=by
 obtain⟨hto,hlv⟩:=ha.lvl h.inv hm
 have hc:=h.cut ha hm hj hf hlv
 have hlits:=ha.lits h.inv
 obtain⟨p,rest,rfl,b1,b2,b3,b4,b5,b6,b7⟩:=ha.back h.inv hlv
 obtain⟨ht,hlt⟩:=hlv
 have hc0:c0 (p::rest)=p:=rfl
 rw[hc0] at e0
 have hne:rest≠ []:=fun e=>by rw[e] at h2;simp at h2
 have hlev1:levOf s (c1 l')=to:=by
  rcases b6 with q|⟨x,hx,q⟩
  ·exact absurd q hne
  ·have:=hmax x hx
   have:=(b5 _ e1).2.2.2
   omega
 have hto0:to≠0:=fun e=>hne (b7 e)
 have hmar0:(undoS s to.toNat).marks.length=to.toNat:=by show(s.marks.take to.toNat).length=_;rw[List.length_take];omega
 have hmem:∀x∈l',x≠p→ -x∈(undoS s to.toNat).ll 0:=fun x hx hxp=>by
  rcases List.mem_cons.1 ((hp.mem x).1 hx) with q|q
  ·exact absurd q hxp
  ·exact(b5 x q).1
 have hinv:SInv n (pushS (attS (logS (undoS s to.toNat) (p::rest)) l' h0 h1 h3) (c0 l') s.nc hv):=hc.inv.learn (c:=l') (h0:=h0) (h1:=h1) (h2:=h3) (h:=hv) (by rw[hp.len];exact h2) (hp.nd b4) (fun x hx=>hlits x ((hp.mem x).1 hx)) hnc (by rw[e0];exact b2) (by rw[e0];exact b3) (fun x hx hxp=>hmem x hx (by rw[← e0];exact hxp)) (by
  show levOf s (c1 l')=((undoS s to.toNat).marks.length:Int)
  rw[hlev1,hmar0];omega)
 rw[e0] at hinv ⊢
 have hll:(pushS (attS (logS (undoS s to.toNat) (p::rest)) l' h0 h1 h3) p s.nc hv).ll 0=(undoS s to.toNat).ll 0++ [p]:=ll_push _ _ _ _
 have hold:∀{y},y∈(undoS s to.toNat).ll 0→varN y≠varN p:=fun hy=>var_ne (n:=n) b2 b3 (.inl hy)
 have hlv2:∀{y},y∈(undoS s to.toNat).ll 0→levOf (pushS (attS (logS (undoS s to.toNat) (p::rest)) l' h0 h1 h3) p s.nc hv) y=levOf s y:=fun hy=>levOf_push (s:=attS (logS (undoS s to.toNat) (p::rest)) l' h0 h1 h3) (hold hy)
 have hlp:levOf (pushS (attS (logS (undoS s to.toNat) (p::rest)) l' h0 h1 h3) p s.nc hv) p=(to.toNat:Nat):=by
  have:=varN_rng b1
  have h5:(varN p)<s.level.length:=by rw[h.inv.lvl];omega
  unfold levOf pushS
  simp only
  rw[List.getD_eq_getElem?_getD,List.getElem?_set,if_pos rfl,if_pos (by exact h5)]
  show(((s.marks.take to.toNat).length:Nat):Int)=_
  rw[List.length_take];simp;omega
 have hlen:=hinv.trl.len
 rw[hll,List.length_append] at hlen
 exact
  {inv:=hinv
   sem:=
    {lits:=hc.sem.lits
     cls:=fun k hk=>by
      have hk:k<s.nc+1:=hk
      show ∃C∈F++(s.proof++ [p::rest]),(∀x∈fset s.cl s.nc l' k,x∈C)∧∀x∈C,x∈fset s.cl s.nc l' k∨Der (F++(s.proof++ [p::rest])) NoA (-x)
      by_cases e:k=s.nc
      ·subst e
       rw[fset_same]
       exact⟨p::rest,by simp,fun x hx=>(hp.mem x).1 hx,fun x hx=> .inl ((hp.mem x).2 hx)⟩
      ·rw[fset_ne _ _ e]
       exact hc.sem.cls k (by show k<s.nc;omega)
     bad:=hc.sem.bad,prf:=hc.sem.prf
     lev0:=fun y hy hl=>by
      rw[hll] at hy
      rcases List.mem_append.1 hy with hy|hy
      ·exact hc.sem.lev0 y hy ((hlv2 hy).symm.trans hl)
      ·rw[List.mem_singleton.1 hy,hlp] at hl;omega
     rep:=fun C hC=>by
      rcases hc.sem.rep C hC with q|⟨y,q1,q2,q3⟩|q|⟨k,q1,q2⟩
      ·exact .inl q
      ·exact .inr (.inl ⟨y,q1,by rw[hll];exact List.mem_append.2 (.inl q2),(hlv2 q2).trans q3⟩)
      ·exact .inr (.inr (.inl q))
      ·have q1:k<s.nc:=q1
       refine .inr (.inr (.inr ⟨k,by show k<s.nc+1;omega,fun x hx=>q2 x ?_⟩))
       have hx:x∈fset s.cl s.nc l' k:=hx
       rwa [fset_ne _ _ (by omega)] at hx}
   dec:=fun m hm2 y hy hr=>by
    have hm2:m∈s.marks.take to.toNat:=hm2
    have hlt2:m<s.marks[to.toNat]:=(hlt.resolve_left hto0) m hm2
    obtain⟨q1,q2,q3⟩:=h.inv.mark_le ht
    have hm0:=(h.inv.mrk m (List.mem_of_mem_take hm2)).1
    have hlen2:((undoS s to.toNat).ll 0).length=(s.marks[to.toNat]).toNat:=by rw[(undo_ll h.inv ht).1,List.length_take];omega
    rw[hll] at hy ⊢
    rw[List.getElem?_append_left (by omega)] at hy
    rw[List.take_append_of_le_length (by omega)]
    rw[reason_push (s:=attS (logS (undoS s to.toNat) (p::rest)) l' h0 h1 h3) (hold (List.mem_of_getElem? hy))] at hr
    rw[hlv2 (List.mem_of_getElem? hy)]
    exact hc.dec m hm2 y hy hr
   asm:=fun i hi y hy=>by
    obtain⟨q1,q2⟩:=hc.asm i hi y hy
    exact⟨by rw[hll];exact List.mem_append.2 (.inl q1),by rw[hlv2 q1];exact q2⟩
   plen:=by show(s.proof++ [p::rest]).length=_;have:(s.proof++ [p::rest]).length=P0+met+1+0:=hc.plen;omega
   ncl:=by have:=h.ncl;show s.nc+1≤_;omega
   wrd:=by
    have:=h.cutw ⟨ht,hlt⟩ hto (by simpa using hlen)
    rw[hll,List.length_append]
    exact this
   low:=by
    obtain⟨k,q1,q2,q3,q4⟩:=hc.low
    exact⟨k,q1,q2,q3,fun u h1 h2=>by rw[hll];exact(q4 u h1 h2).imp (fun q=>List.mem_append.2 (.inl q)) (fun q=>List.mem_append.2 (.inl q))⟩}
end
end Go.Ab
/- What the search gives:the least assignment,or the assumptions that are to blame. -/
namespace Go.Ab
open Go Go.Proofs
section
variable {n:Nat} {F:List (List Int)} {A:List Int} {P0 N0:Nat} {s:SR} {met:Nat}
theorem Sem.nz (h:Sem n F s):∀c∈F++s.proof,∀x∈c,x≠0:=fun c hc x hx=>(h.lits c hc x hx).1
theorem Sem.satP (h:Sem n F s) {σ:Nat→Bool} (hσ:SatF σ F):SatF σ (F++s.proof):=h.prf.sound hσ h.nz
theorem trail_true (hs:SInv n s) (h:Sem n F s) {σ:Nat→Bool} (hσ:SatF σ F) {p:Nat} (hd:∀i (hi:i<(s.ll 0).length),i≤p→(i:Int)∈s.marks→s.reason.getD (varN (s.ll 0)[i]) 0= -1→LitT σ (s.ll 0)[i]):∀i (hi:i<(s.ll 0).length),i≤p→LitT σ (s.ll 0)[i]:=by
 have hP:=h.satP hσ
 intro i
 induction i using Nat.strongRecOn with
 |ind i ih=>
  intro hi hip
  rcases hs.rea i hi with ⟨q1,q2|q2⟩|⟨j,q1,q2,q3,q4⟩
  ·exact hd i hi hip q2 q1
  ·exact(h.lev0 _ (List.getElem_mem hi) q2).sound hP h.nz fun _ h=>h.elim
  ·obtain⟨C,hC,p1,p2⟩:=h.cls j q1
   obtain⟨y,hy,ht⟩:=hP C hC
   have hy0:=h.nz C hC y hy
   rcases p2 y hy with hyc|hdn
   ·by_cases e:y=(s.ll 0)[i]
    ·rw[← e];exact ht
    ·obtain⟨a,ha,e2⟩:=List.getElem_of_mem (q4 y hyc e)
     rw[List.length_take] at ha
     rw[List.getElem_take] at e2
     have:=ih a (by omega) (by omega) (by omega)
     rw[e2] at this
     exact absurd ht ((LitT.neg hy0).1 this)
   ·exact absurd ht ((LitT.neg hy0).1 (hdn.sound hP h.nz fun _ h=>h.elim))
def trlA (L:List Int) (v:Nat):Bool:=decide ((v:Int)∈L)
theorem lit_var {x:Int} (h:0<x):x=(varN x:Int):=by unfold varN;omega
theorem lit_nvar {x:Int} (h:x<0):x= -(varN x:Int):=by unfold varN;omega
theorem trlA_lit {L:List Int} (ht:TrlOk n L) (hf:∀v:Nat,1≤v→v≤n→(v:Int)∈L∨ -(v:Int)∈L) {x:Int} (hx:Lit n x):LitT (trlA L) x↔x∈L:=by
 have hv:=varN_rng hx
 unfold LitT trlA
 by_cases h:x<0
 ·rw[if_pos h,decide_eq_false_iff_not]
  have e:=lit_nvar h
  constructor
  ·intro h1
   rw[e];exact(hf _ hv.1 hv.2).resolve_left h1
  ·intro h1 h2
   rw[e] at h1
   exact ht.no_neg h2 h1
 ·rw[if_neg h,decide_eq_true_iff]
  have e:=lit_var (x:=x) (by obtain⟨_,_,_⟩:=hx;omega)
  rw[← e]
structure Least (n:Nat) (F:List (List Int)) (A:List Int) (L:List Int):Prop where
 trl:TrlOk n L
 full:∀v:Nat,1≤v→v≤n→(v:Int)∈L∨ -(v:Int)∈L
 sat:SatF (trlA L) F
 asm:∀x∈A,x∈L
 min:∀σ,SatF σ F→(∀x∈A,LitT σ x)→∀v:Nat,1≤v→v≤n→(∀u:Nat,1≤u→u<v→σ u=trlA L u)→trlA L v=true→σ v=true
theorem SI.sat (h:SI n F A P0 N0 s met) (hb:s.broken=false) (hh:s.head=((s.ll 0).length:Int)) (hA:A.length≤s.marks.length) (hf:∀v:Nat,1≤v→v≤n→(v:Int)∈s.ll 0∨ -(v:Int)∈s.ll 0):Least n F A (s.ll 0):=by
 have hs:=h.inv
 have hlitF:∀c∈F,∀x∈c,Lit n x:=fun c hc=>h.sem.lits c (List.mem_append.2 (.inl hc))
 have hlt:=fun {x:Int} (hx:Lit n x)=>trlA_lit hs.trl hf hx
 refine⟨hs.trl,hf,fun C hC=>?_,fun x hx=>?_,fun σ hσ hσA v h1 h2 hlow hv=>?_⟩
 ·rcases h.sem.rep C hC with q|⟨x,q1,q2,_⟩|⟨x,q1,q2⟩|⟨j,q1,q2⟩
  ·rw[hb] at q;cases q
  ·exact⟨x,q1,(hlt (hlitF C hC x q1)).2 q2⟩
  ·by_cases e:LitT (trlA (s.ll 0)) x
   ·exact⟨x,q1,e⟩
   ·exact⟨-x,q2,(LitT.neg (hlitF C hC x q1).1).2 e⟩
  ·obtain⟨p1,_,p3⟩:=hs.cls j q1
   obtain⟨m0,m1⟩:=c0_mem p1
   have hl0:=p3 _ m0
   by_cases e:c0 (s.cl j)∈s.ll 0
   ·exact⟨_,q2 _ m0,(hlt hl0).2 e⟩
   ·have hneg: -(c0 (s.cl j))∈s.ll 0:=by
     have hv:=varN_rng hl0
     have:=hf _ hv.1 hv.2
     by_cases hn:c0 (s.cl j)<0
     ·rw[← lit_nvar hn] at this
      rcases this with q|q
      ·rw[lit_nvar hn,Int.neg_neg];exact q
      ·exact absurd q e
     ·have e2:=lit_var (x:=c0 (s.cl j)) (by obtain⟨_,_,_⟩:=hl0;omega)
      rw[← e2] at this
      exact this.resolve_left e
    have:=(hs.two j q1 _ _ (.inl ⟨rfl,rfl⟩) (by rw[hh,Int.toNat_natCast,List.take_length];exact hneg)).1
    exact⟨_,q2 _ m1,(hlt (p3 _ m1)).2 this⟩
 ·obtain⟨i,hi,e⟩:=List.getElem_of_mem hx
  exact(h.asm i (by omega) x (by rw[← e];exact List.getElem?_eq_getElem hi)).1
 ·have hvL:(v:Int)∈s.ll 0:=by unfold trlA at hv;simpa using hv
  obtain⟨p,hp,ep⟩:=List.getElem_of_mem hvL
  have:=trail_true hs h.sem hσ (p:=p) (fun i hi hip hm hr=>by
   rcases h.dec _ hm _ (List.getElem?_eq_getElem hi) hr with q|⟨_,u,q1,q2⟩
   ·exact hσA _ q
   ·have hul:=hs.trl.rng _ (List.getElem_mem hi)
    have hup:0<u:=by omega
    have huv:¬v<u:=fun hvu=>by
     have hnot:∀y∈(s.ll 0).take i,varN y≠v:=fun y hy e=>by
      obtain⟨a,ha,e2⟩:=List.getElem_of_mem hy
      rw[List.length_take] at ha
      rw[List.getElem_take] at e2
      have:a=p:=(List.getElem_inj hs.trl.nd (h₀:=by simp;omega) (h₁:=by simpa using hp)).1 (by rw[List.getElem_map,List.getElem_map,e2,ep,e];unfold varN;omega)
      omega
     rw[Int.toNat_natCast] at q2
     rcases q2 v h1 hvu with q|q
     ·exact hnot _ q (by unfold varN;omega)
     ·exact hnot _ q (by unfold varN;omega)
    have hne:u≠v:=fun e=>by
     subst e
     exact hs.trl.no_neg hvL (by rw[← q1];exact List.getElem_mem hi)
    have huL: -(u:Int)∈s.ll 0:=by rw[← q1];exact List.getElem_mem hi
    have hσu:=hlow u hup (by omega)
    have:trlA (s.ll 0) u=false:=by
     unfold trlA
     rw[decide_eq_false_iff_not]
     exact fun q=>hs.trl.no_neg q huL
    rw[q1]
    unfold LitT
    rw[if_pos (by omega),varN_neg,show varN (u:Int)=u by unfold varN;omega,hσu,this]) p hp (Nat.le_refl _)
  rw[ep] at this
  unfold LitT at this
  rw[if_neg (by omega),show varN (v:Int)=v by unfold varN;omega] at this
  exact this
structure BIn (n:Nat) (s:SR) (x:Int) (sl:List Bool) (ds:List Int) (k:Nat):Prop where
 len:sl.length=n+1
 sx:sl.getD (varN x) false=true
 mem:∀y∈ds,∃q,∃h:q<(s.ll 0).length,k≤q∧(s.ll 0)[q]=y∧s.reason.getD (varN y) 0= -1∧levOf s y≠0
 nd:ds.Nodup
 done:∀q (h:q<(s.ll 0).length),k≤q→sl.getD (varN (s.ll 0)[q]) false=true→levOf s (s.ll 0)[q]=0∨(s.ll 0)[q]∈ds∨∃j,j<s.nc∧(s.ll 0)[q]∈s.cl j∧∀y∈s.cl j,y≠(s.ll 0)[q]→ -y∈(s.ll 0).take q∧sl.getD (varN y) false=true
structure BOut (n:Nat) (s:SR) (x:Int) (core:List Int):Prop where
 eq:∃ds,core=x::ds∧(∀y∈ds,y∈s.ll 0∧s.reason.getD (varN y) 0= -1∧levOf s y≠0)∧ds.Nodup∧∃sn:Nat→Prop,sn (varN x)∧∀q (h:q<(s.ll 0).length),sn (varN (s.ll 0)[q])→levOf s (s.ll 0)[q]=0∨(s.ll 0)[q]∈ds∨∃j,j<s.nc∧(s.ll 0)[q]∈s.cl j∧∀y∈s.cl j,y≠(s.ll 0)[q]→ -y∈(s.ll 0).take q∧sn (varN y)
variable {x:Int} {sl:List Bool} {ds:List Int} {k:Nat}
theorem BIn.start (hs:SInv n s) (hx:Lit n x):BIn n s x ((List.replicate (n+1) false).set (varN x) true) [] (s.ll 0).length where
 len:=by simp
 sx:=by rw[getD_setB _ _ (by have:=varN_rng hx;simp;omega),if_pos rfl]
 mem:=fun y hy=>by simp at hy
 nd:=by simp
 done:=fun q h1 h2=>by omega
theorem BIn.skip (h:BIn n s x sl ds (k+1)) (hk:k<(s.ll 0).length) (hc:sl.getD (varN (s.ll 0)[k]) false=false∨levOf s (s.ll 0)[k]=0):BIn n s x sl ds k:=
 {len:=h.len,sx:=h.sx,nd:=h.nd
  mem:=fun y hy=>by obtain⟨q,p1,p2,p3⟩:=h.mem y hy;exact⟨q,p1,by omega,p3⟩
  done:=fun q h1 h2 h3=>by
   by_cases e:q=k
   ·subst e
    rcases hc with hc|hc
    ·rw[hc] at h3;cases h3
    ·exact .inl hc
   ·exact h.done q h1 (by omega) h3}
theorem BIn.dec (h:BIn n s x sl ds (k+1)) (hs:SInv n s) (hk:k<(s.ll 0).length) (hl:levOf s (s.ll 0)[k]≠0) (hr:s.reason.getD (varN (s.ll 0)[k]) 0= -1):BIn n s x sl (ds++ [(s.ll 0)[k]]) k:=
 {len:=h.len,sx:=h.sx
  nd:=by
   rw[List.nodup_append]
   refine⟨h.nd,by simp,fun a ha b hb=>?_⟩
   rw[List.mem_singleton.1 hb]
   rintro rfl
   obtain⟨q,p1,p2,p3,_⟩:=h.mem _ ha
   have:q=k:=(List.getElem_inj hs.trl.nd (h₀:=by simpa using p1) (h₁:=by simpa using hk)).1 (by rw[List.getElem_map,List.getElem_map,p3])
   omega
  mem:=fun y hy=>by
   rcases List.mem_append.1 hy with hy|hy
   ·obtain⟨q,p1,p2,p3⟩:=h.mem y hy;exact⟨q,p1,by omega,p3⟩
   ·rw[List.mem_singleton.1 hy];exact⟨k,hk,Nat.le_refl _,rfl,hr,hl⟩
  done:=fun q h1 h2 h3=>by
   by_cases e:q=k
   ·subst e;exact .inr (.inl (by simp))
   ·exact(h.done q h1 (by omega) h3).imp id (Or.imp (fun p=>List.mem_append.2 (.inl p)) id)}
structure BRow (n:Nat) (s:SR) (sl0:List Bool) (j:Nat) (sl:List Bool) (i:Nat):Prop where
 hi:i≤(s.cl j).length
 len:sl.length=n+1
 ge:∀v,sl0.getD v false=true→sl.getD v false=true
 le:∀v,sl.getD v false=true→sl0.getD v false=true∨∃y∈s.cl j,varN y=v
 row:∀y∈(s.cl j).take i,sl.getD (varN y) false=true
theorem BRow.start {sl0:List Bool} {j:Nat} (h:sl0.length=n+1):BRow n s sl0 j sl0 0:=⟨Nat.zero_le _,h,fun _ h=>h,fun _ h=> .inl h,fun y hy=>by simp at hy⟩
theorem BRow.next {sl0:List Bool} {j i:Nat} (h:BRow n s sl0 j sl i) (hi:i<(s.cl j).length) (hv:varN (s.cl j)[i]<n+1):BRow n s sl0 j (sl.set (varN (s.cl j)[i]) true) (i+1):=by
 have hg:=getD_setB sl (varN (s.cl j)[i]) (by rw[h.len];exact hv)
 refine⟨hi,by rw[List.length_set];exact h.len,fun v hv=>?_,fun v hv=>?_,fun y hy=>?_⟩
 ·exact getD_setT (by rw[h.len];exact ‹varN (s.cl j)[i]<n+1›) (h.ge v hv)
 ·rw[hg] at hv
  split at hv
  ·next e=>exact .inr ⟨_,List.getElem_mem hi,e.symm⟩
  ·exact h.le v hv
 ·rw[hg]
  split
  ·rfl
  ·next e=>
   rw[List.take_succ_eq_append_getElem hi,List.mem_append,List.mem_singleton] at hy
   rcases hy with hy|rfl
   ·exact h.row y hy
   ·exact absurd rfl e
theorem BIn.row {j:Nat} {sl':List Bool} (h:BIn n s x sl ds (k+1)) (hs:SInv n s) (hk:k<(s.ll 0).length) (hj:j<s.nc) (hm:(s.ll 0)[k]∈s.cl j) (hf:∀y∈s.cl j,y≠(s.ll 0)[k]→ -y∈(s.ll 0).take k) (hr:BRow n s sl j sl' (s.cl j).length):BIn n s x sl' ds k:=
 {len:=hr.len,sx:=hr.ge _ h.sx,nd:=h.nd
  mem:=fun y hy=>by obtain⟨q,p1,p2,p3⟩:=h.mem y hy;exact⟨q,p1,by omega,p3⟩
  done:=fun q h1 h2 h3=>by
   have hrow:∀y∈s.cl j,sl'.getD (varN y) false=true:=fun y hy=>hr.row y (by rw[List.take_length];exact hy)
   by_cases e:q=k
   ·subst e
    exact .inr (.inr ⟨j,hj,hm,fun y hy hne=>⟨hf y hy hne,hrow y hy⟩⟩)
   ·have h4:sl.getD (varN (s.ll 0)[q]) false=true:=by
     rcases hr.le _ h3 with p|⟨y,hy,ey⟩
     ·exact p
     ·exfalso
      by_cases e2:y=(s.ll 0)[k]
      ·subst e2
       have:k=q:=(List.getElem_inj hs.trl.nd (h₀:=by simpa using hk) (h₁:=by simpa using h1)).1 (by rw[List.getElem_map,List.getElem_map,ey])
       omega
      ·obtain⟨a,ha,e3⟩:=List.getElem_of_mem (hf y hy e2)
       rw[List.length_take] at ha
       rw[List.getElem_take] at e3
       have:a=q:=(List.getElem_inj hs.trl.nd (h₀:=by simp;omega) (h₁:=by simpa using h1)).1 (by rw[List.getElem_map,List.getElem_map,e3,varN_neg,ey])
       omega
    rcases h.done q h1 (by omega) h4 with p|p|⟨j',p1,p2,p3⟩
    ·exact .inl p
    ·exact .inr (.inl p)
    ·exact .inr (.inr ⟨j',p1,p2,fun y hy hne=>⟨(p3 y hy hne).1,hr.ge _ (p3 y hy hne).2⟩⟩)}
theorem BIn.out (h:BIn n s x sl ds 0):BOut n s x (x::ds):=
 ⟨ds,rfl,fun y hy=>by obtain⟨q,p1,_,p3,p4⟩:=h.mem y hy;exact⟨by rw[← p3];exact List.getElem_mem p1,p4⟩,h.nd,fun v=>sl.getD v false=true,h.sx,fun q hq hsn=>h.done q hq (Nat.zero_le _) hsn⟩
theorem BOut.rup {core:List Int} (h:BOut n s x core) (hS:Sem n F s) (hx: -x∈s.ll 0):Rup (F++s.proof) (core.map fun y=> -y):=by
 obtain⟨ds,rfl,_,_,sn,h1,h2⟩:=h.eq
 have hA:∀y,y∈x::ds→NegC ((x::ds).map fun y=> -y) y:=fun y hy=>List.mem_map.2 ⟨y,hy,rfl⟩
 have key:∀i (hi:i<(s.ll 0).length),sn (varN (s.ll 0)[i])→Der (F++s.proof) (NegC ((x::ds).map fun y=> -y)) (s.ll 0)[i]:=by
  intro i
  induction i using Nat.strongRecOn with
  |ind i ih=>
   intro hi hsn
   rcases h2 i hi hsn with q|q|⟨j,q1,q2,q3⟩
   ·exact(hS.lev0 _ (List.getElem_mem hi) q).more
   ·exact .asm (hA _ (List.mem_cons_of_mem _ q))
   ·refine hS.unit q1 q2 fun y hy hne=>?_
    obtain⟨p1,p2⟩:=q3 y hy hne
    obtain⟨a,ha,e⟩:=List.getElem_of_mem p1
    rw[List.length_take] at ha
    rw[List.getElem_take] at e
    rw[← e]
    refine ih a (by omega) (by omega) ?_
    rw[e,varN_neg];exact p2
 obtain⟨i,hi,e⟩:=List.getElem_of_mem hx
 have hd:=key i hi (by rw[e,varN_neg];exact h1)
 rw[e] at hd
 rcases Der.both (.asm (hA x List.mem_cons_self)) hd with q|⟨y,q1,q2⟩
 ·exact .inl q
 ·refine .inr ⟨-y,q1,?_⟩
  exact q2
theorem BOut.core {core:List Int} (h:BOut n s x core) (hI:SI n F A P0 N0 s met) (hm:s.marks.length<A.length) (hxA:x∈A) (hx: -x∈s.ll 0):(∀y∈core,y∈A)∧core.Nodup∧∀y∈core,Lit n y:=by
 obtain⟨ds,rfl,h1,h2,_⟩:=h.eq
 have hs:=hI.inv
 have hds:∀y∈ds,y∈A:=fun y hy=>by
  obtain⟨q1,q2,q3⟩:=h1 y hy
  obtain⟨i,hi,rfl⟩:=List.getElem_of_mem q1
  rcases hs.rea i hi with ⟨_,p|p⟩|⟨j,_,p,_⟩
  ·rcases hI.dec _ p _ (List.getElem?_eq_getElem hi) q2 with r|⟨r,_⟩
   ·exact r
   ·have:=(hs.lev_le q1).2;omega
  ·exact absurd p q3
  ·omega
 have hxl:Lit n x:=by have:=hs.trl.rng _ hx;exact⟨by omega,by omega,by omega⟩
 refine⟨fun y hy=>?_,?_,fun y hy=>?_⟩
 ·rcases List.mem_cons.1 hy with rfl|hy
  ·exact hxA
  ·exact hds y hy
 ·rw[List.nodup_cons]
  refine⟨fun hm=>?_,h2⟩
  exact hs.trl.no_neg (h1 x hm).1 hx
 ·rcases List.mem_cons.1 hy with rfl|hy
  ·exact hxl
  ·exact hs.trl.rng y (h1 y hy).1
end
end Go.Ab
/- A clause added to the solver,in plain terms. -/
namespace Go.Ab
open Go Go.Proofs
structure SNew (n:Nat) (F:List (List Int)) (k:Nat) (s:SR):Prop where
 inv:SInv n s
 sem:Sem n F s
 low:LowOk n s
 marks:s.marks=[]
 proof:s.proof=[]
 added:s.added=(k:Int)
 ncl:s.nc≤k
structure AddIn (s:SR) (c:List Int) (l:List Int) (i:Nat):Prop where
 hi:i≤c.length
 nd:l.Nodup
 sub:∀x∈l,x∈c∧x∉s.ll 0∧ -x∉s.ll 0
 cov:∀x∈c.take i,x∈l∨ -x∈s.ll 0
section
variable {n:Nat} {F:List (List Int)} {k:Nat} {s:SR} {c l:List Int} {i:Nat}
theorem AddIn.start:AddIn s c [] 0:=⟨Nat.zero_le _,by simp,fun x hx=>by simp at hx,fun x hx=>by simp at hx⟩
theorem AddIn.skip (h:AddIn s c l i) (hi:i<c.length) (hc:c[i]∈l∨ -c[i]∈s.ll 0):AddIn s c l (i+1):=
 ⟨hi,h.nd,h.sub,fun x hx=>by
  rw[List.take_succ_eq_append_getElem hi,List.mem_append,List.mem_singleton] at hx
  rcases hx with hx|rfl
  ·exact h.cov x hx
  ·exact hc⟩
theorem AddIn.add (h:AddIn s c l i) (hi:i<c.length) (h1:c[i]∉l) (h2:c[i]∉s.ll 0) (h3: -c[i]∉s.ll 0):AddIn s c (l++ [c[i]]) (i+1):=
 ⟨hi,by
  rw[List.nodup_append]
  exact⟨h.nd,by simp,fun a ha b hb=>by rw[List.mem_singleton.1 hb];rintro rfl;exact h1 ha⟩,fun x hx=>by
  rcases List.mem_append.1 hx with hx|hx
  ·exact h.sub x hx
  ·rw[List.mem_singleton.1 hx];exact⟨List.getElem_mem hi,h2,h3⟩,fun x hx=>by
  rw[List.take_succ_eq_append_getElem hi,List.mem_append,List.mem_singleton] at hx
  rcases hx with hx|rfl
  ·exact(h.cov x hx).imp (fun q=>List.mem_append.2 (.inl q)) id
  ·exact .inl (by simp)⟩
theorem SNew.lev (h:SNew n F k s) {x:Int} (hx:x∈s.ll 0):levOf s x=0:=by
 have:=h.inv.lev_le hx
 rw[h.marks] at this
 simp at this;omega
theorem SInv.add1 (h:SInv n s) (a:Int) (b:Bool):SInv n {s with added:=a,broken:=b}:=
 {hn:=h.hn,trl:=h.trl,val:=h.val,lvl:=h.lvl,rsn:=h.rsn,hd:=h.hd,mrk:=h.mrk,lev:=h.lev,cls:=h.cls,fresh:=h.fresh,nc:=h.nc,nw:=h.nw,wt:=h.wt,wnd:=h.wnd,wto:=h.wto,two:=h.two,srt:=h.srt,rea:=h.rea}
theorem SNew.sem' (h:SNew n F k s) (hc:∀x∈c,Lit n x) {t:SR} (hp:t.proof=[])
  (cls:∀j,j<t.nc→(j<s.nc∧t.cl j=s.cl j)∨((∀x∈t.cl j,x∈c)∧∀x∈c,x∈t.cl j∨ -x∈s.ll 0))
  (ll:∀x∈t.ll 0,x∈s.ll 0∨(x∈c∧∀y∈c,y≠x→ -y∈s.ll 0)) (hll:∀x∈s.ll 0,x∈t.ll 0) (bad:t.broken=true→s.broken=true∨∀x∈c,-x∈s.ll 0) (hbad:s.broken=true→t.broken=true)
  (hold:∀j,j<s.nc→j<t.nc∧t.cl j=s.cl j) (lev:∀x∈t.ll 0,levOf t x=0) (rep:t.broken=true∨(∃x∈c,x∈t.ll 0)∨(∃x∈c,-x∈c)∨∃j,j<t.nc∧∀x∈t.cl j,x∈c):Sem n (F++ [c]) t:=by
 have e0:F++s.proof=F:=by rw[h.proof,List.append_nil]
 have e1:F++ [c]++t.proof=F++ [c]:=by rw[hp,List.append_nil]
 have hsub:∀d∈F,d∈F++ [c]:=fun d hd=>List.mem_append.2 (.inl hd)
 have hder:∀{x},x∈s.ll 0→Der (F++ [c]) NoA x:=fun hx=>(h.sem.lev0 _ hx (h.lev hx)).mono (by rw[e0];exact hsub) fun _ h=>h
 have hlits:=h.sem.lits
 rw[e0] at hlits
 refine⟨?_,?_,?_,?_,?_,?_⟩
 ·rw[e1]
  intro d hd
  rcases List.mem_append.1 hd with hd|hd
  ·exact hlits d hd
  ·rw[List.mem_singleton.1 hd];exact hc
 ·rw[e1]
  intro j hj
  rcases cls j hj with ⟨q1,q2⟩|⟨q1,q2⟩
  ·obtain⟨C,hC,p1,p2⟩:=h.sem.cls j q1
   rw[e0] at hC p2
   rw[q2]
   exact⟨C,hsub C hC,p1,fun x hx=>(p2 x hx).imp id fun q=>q.mono hsub fun _ h=>h⟩
  ·exact⟨c,by simp,q1,fun x hx=>(q2 x hx).imp id hder⟩
 ·rw[e1]
  intro x hx _
  rcases ll x hx with q|⟨q1,q2⟩
  ·exact hder q
  ·exact .unit (c:=c) (by simp) q1 fun y hy hne=>hder (q2 y hy hne)
 ·rw[e1]
  intro hb
  rcases bad hb with q|q
  ·exact(h.sem.bad q).cut (by rw[e0];exact hsub) fun _ h=>h.elim
  ·exact⟨c,by simp,fun y hy=>hder (q y hy)⟩
 ·intro j hj;rw[hp] at hj;simp at hj
 ·intro C hC
  rcases List.mem_append.1 hC with hC|hC
  ·rcases h.sem.rep C hC with q|⟨x,q1,q2,_⟩|q|⟨j,q1,q2⟩
   ·exact .inl (hbad q)
   ·exact .inr (.inl ⟨x,q1,hll x q2,lev x (hll x q2)⟩)
   ·exact .inr (.inr (.inl q))
   ·obtain⟨p1,p2⟩:=hold j q1
    exact .inr (.inr (.inr ⟨j,p1,by rw[p2];exact q2⟩))
  ·rw[List.mem_singleton.1 hC]
   rcases rep with q|⟨x,q1,q2⟩|q|q
   ·exact .inl q
   ·exact .inr (.inl ⟨x,q1,q2,lev x q2⟩)
   ·exact .inr (.inr (.inl q))
   ·exact .inr (.inr (.inr q))
theorem SNew.taut (h:SNew n F k s) (hc:∀x∈c,Lit n x) (ht:(∃x∈c,-x∈c)∨∃x∈c,x∈s.ll 0):SNew n (F++ [c]) (k+1) {s with added:=s.added+1} where
 inv:=h.inv.add1 _ _
 sem:=h.sem' hc (t:={s with added:=s.added+1}) h.proof (fun j hj=> .inl ⟨hj,rfl⟩) (fun x hx=> .inl hx) (fun x hx=>hx) .inl id (fun j hj=>⟨hj,rfl⟩) (fun x hx=>h.lev hx) (.inr (ht.elim (fun q=> .inr (.inl q)) fun q=> .inl q))
 low:=h.low
 marks:=h.marks
 proof:=h.proof
 added:=by show s.added+1=_;rw[h.added];rfl
 ncl:=by have:=h.ncl;show s.nc≤_;omega
theorem SNew.empty (h:SNew n F k s) (hc:∀x∈c,Lit n x) (ha:AddIn s c [] c.length):SNew n (F++ [c]) (k+1) {s with added:=s.added+1,broken:=true} where
 inv:=h.inv.add1 _ _
 sem:=h.sem' hc (t:={s with added:=s.added+1,broken:=true}) h.proof (fun j hj=> .inl ⟨hj,rfl⟩) (fun x hx=> .inl hx) (fun x hx=>hx) (fun _=> .inr fun x hx=>(ha.cov x (by rw[List.take_length];exact hx)).resolve_left (by simp)) (fun _=>rfl) (fun j hj=>⟨hj,rfl⟩) (fun x hx=>h.lev hx) (.inl rfl)
 low:=h.low
 marks:=h.marks
 proof:=h.proof
 added:=by show s.added+1=_;rw[h.added];rfl
 ncl:=by have:=h.ncl;show s.nc≤_;omega
theorem SNew.unit (h:SNew n F k s) (hc:∀x∈c,Lit n x) {x:Int} (ha:AddIn s c [x] c.length) (hv:Value):SNew n (F++ [c]) (k+1) (pushS {s with added:=s.added+1} x (-1) hv):=by
 obtain⟨q1,q2,q3⟩:=ha.sub x (by simp)
 have hll:(pushS {s with added:=s.added+1} x (-1) hv).ll 0=s.ll 0++ [x]:=ll_push _ _ _ _
 have hinv:=(h.inv.add1 (s.added+1) s.broken).push (r:= -1) hv (hc x q1) q2 q3 (.inl ⟨rfl,.inr h.marks⟩)
 have hlev:∀y∈(pushS {s with added:=s.added+1} x (-1) hv).ll 0,levOf (pushS {s with added:=s.added+1} x (-1) hv) y=0:=fun y hy=>by
  have:=hinv.lev_le hy
  rw[show(pushS {s with added:=s.added+1} x (-1) hv).marks=[] from h.marks] at this
  simp at this;omega
 exact
  {inv:=hinv
   sem:=h.sem' hc h.proof (fun j hj=> .inl ⟨hj,rfl⟩) (fun y hy=>by
    rw[hll] at hy
    rcases List.mem_append.1 hy with hy|hy
    ·exact .inl hy
    ·rw[List.mem_singleton.1 hy]
     exact .inr ⟨q1,fun z hz hne=>(ha.cov z (by rw[List.take_length];exact hz)).resolve_left (by simpa using hne)⟩) (fun y hy=>by rw[hll];exact List.mem_append.2 (.inl hy)) .inl id (fun j hj=>⟨hj,rfl⟩) hlev (.inr (.inl ⟨x,q1,by rw[hll];simp⟩))
   low:=by
    obtain⟨m,p1,p2,p3,p4⟩:=h.low
    exact⟨m,p1,p2,p3,fun u h1 h2=>by rw[hll];exact(p4 u h1 h2).imp (fun q=>List.mem_append.2 (.inl q)) (fun q=>List.mem_append.2 (.inl q))⟩
   marks:=h.marks
   proof:=h.proof
   added:=by show s.added+1=_;rw[h.added];rfl
   ncl:=by have:=h.ncl;show s.nc≤_;omega}
theorem SNew.att (h:SNew n F k s) (hc:∀x∈c,Lit n x) (hk:k<60000) (ha:AddIn s c l c.length) (h2:2≤l.length) (h0 h1 h3:Value):SNew n (F++ [c]) (k+1) (attS {s with added:=s.added+1} l h0 h1 h3):=by
 have hncl:=h.ncl
 have hlit:∀x∈l,Lit n x:=fun x hx=>hc x (ha.sub x hx).1
 exact
  {inv:=(h.inv.add1 (s.added+1) s.broken).attach h2 ha.nd hlit (by show s.nc+1≤_;omega) fun x hx=>(ha.sub x hx).2.2
   sem:=h.sem' hc h.proof (fun j hj=>by
    have hj:j<s.nc+1:=hj
    show(j<s.nc∧fset s.cl s.nc l j=s.cl j)∨((∀x∈fset s.cl s.nc l j,x∈c)∧∀x∈c,x∈fset s.cl s.nc l j∨ -x∈s.ll 0)
    by_cases e:j=s.nc
    ·subst e
     rw[fset_same]
     exact .inr ⟨fun x hx=>(ha.sub x hx).1,fun x hx=>ha.cov x (by rw[List.take_length];exact hx)⟩
    ·have e:¬j=s.nc:=e
     exact .inl ⟨by omega,fset_ne _ _ e⟩) (fun x hx=> .inl hx) (fun x hx=>hx) .inl id (fun j hj=>⟨by show j<s.nc+1;omega,fset_ne _ _ (by show j≠s.nc;omega)⟩) (fun x hx=>h.lev hx) (.inr (.inr (.inr ⟨s.nc,by show s.nc<s.nc+1;omega,by show ∀x∈fset s.cl s.nc l s.nc,x∈c;rw[fset_same];exact fun x hx=>(ha.sub x hx).1⟩)))
   low:=h.low
   marks:=h.marks
   proof:=h.proof
   added:=by show s.added+1=_;rw[h.added];rfl
   ncl:=by show s.nc+1≤_;omega}
theorem SNew.si (h:SNew n F k s) (A:List Int):SI n F A 0 k s 0 where
 inv:=h.inv
 sem:=h.sem
 dec:=fun m hm=>by rw[h.marks] at hm;simp at hm
 asm:=fun i hi=>by rw[h.marks] at hi;simp at hi
 plen:=by rw[h.proof];rfl
 ncl:=h.ncl
 wrd:=Nat.zero_le _
 low:=h.low
def newS (n:Nat):SR:=⟨List.replicate (n+1) 0,List.replicate (n+1) 0,List.replicate (n+1) 0,[],1,0,0,false,fun _=> .slice none 0 0,fun _=>[],0,fun _=> .slice none 0 0,fun _=>[],2*n+2,fun _=> .slice none 0 0,fun _=>[],[],[],[]⟩
theorem newS_fresh (hn:n≤20000):SNew n [] 0 (newS n) where
 inv:=
  {hn:=hn
   trl:=⟨fun x hx=>by simp [newS] at hx,by simp [newS]⟩
   val:=by
    show List.replicate (n+1) 0=valV n []
    apply List.ext_getElem (by simp [valV])
    intro i _ _
    simp [valV]
   lvl:=by simp [newS]
   rsn:=by simp [newS]
   hd:=⟨Int.le_refl _,Int.le_refl _⟩
   mrk:=fun m hm=>by simp [newS] at hm
   lev:=fun i hi=>by simp [newS] at hi
   cls:=fun j hj=>by simp [newS] at hj
   fresh:=fun j _=>⟨rfl,rfl⟩
   nc:=by simp [newS]
   nw:=rfl
   wt:=fun x _ e he=>by simp [newS] at he
   wnd:=fun k=>by simp [newS]
   wto:=fun j hj=>by simp [newS] at hj
   two:=fun j hj=>by simp [newS] at hj
   srt:=by simp [newS]
   rea:=fun i hi=>by simp [newS] at hi}
 sem:=⟨fun c hc=>by simp [newS] at hc,fun j hj=>by simp [newS] at hj,fun x hx=>by simp [newS] at hx,fun hb=>by simp [newS] at hb,fun i hi=>by simp [newS] at hi,fun C hC=>by simp at hC⟩
 low:=⟨1,rfl,by omega,by omega,fun u h1 h2=>by omega⟩
 marks:=rfl
 proof:=rfl
 added:=rfl
 ncl:=Nat.le_refl _
end
end Go.Ab
/- The solver:the assumptions to blame;the end of a search,walked. -/
namespace Go.Ab
open Go Go.Proofs
open Nat (reduceAdd reduceSub)
set_option maxRecDepth 20000
set_option maxHeartbeats 4000000
theorem getD_getB {l:List Bool} {n:Nat} (h:n<l.length):l.getD n false=l[n]:=by simp [List.getD_eq_getElem?_getD,h]
theorem setB1 (l:List Bool) (i:Nat):(l.map encB).set i [PV.lit (.bool true)]=(l.set i true).map encB:=by
 rw[List.map_set];rfl
theorem repB (n:Nat):List.replicate n [PV.lit (.bool false)]=(List.replicate n false).map encB:=by
 rw[List.map_replicate];rfl
attribute [local irreducible] hrow AW AOps thenD inBlockD AR iterEnds roundEndsN inlEnds noGotoD EndsX EndsQ
theorem end_fn (s:SR) (core:List Int) (hl:core.length≤100000) (hb:∀x∈core,-1000000≤x∧x≤1000000) (hp:s.proof.length≤1000000):FnX Try.prog 39 11 (SOb s) [.ptr 0 0,.pv (nums core)] (SOb {s with core:=core,proof:=s.proof++ [core.map fun y=> -y]}) (litI 2):=by
 simp only[SOb,SBox]
 refine FnX.enter (n:=30) Try.func39 rfl rfl rfl rfl rfl (by decide) rfl rfl fun g hro_ hwt_=>?_;refine Q25 ?_
 (refine zq ?_;refine Q11 ?_;refine Q168 ?_;refine zm ?_;refine AOps.nilCheck_ptr rfl rfl rfl ?_;refine AOps.fieldAddrN 67 9 14 rfl rfl rfl rfl ?_;(with_reducible apply AOps.store_b1);(iterate 5 exact rfl);(first|exact rfl|assumption|exact o1_ _|exact o2_ _ _|exact o3_ _|exact o4_ _ _);(iterate 3 exact rfl);(with_reducible assumption);refine Q206 ?_;refine zq ?_;refine zm ?_;refine zn ?_;refine AOps.makeSlice0 rfl rfl rfl rfl rfl rfl rfl rfl (by omega) ?_;refine Q0 ?_;refine Q104 ?_;refine zo ?_;refine Q40 ?_;refine Q190 ?_)
 (refine Q0 ?_;apply AW.loopR [16,15,4,0,1000] [11,0,1,2,3,4,5,6,7,8,9,10] (fun k:Nat=>([(5,.own 11 3 1 (((core.take k).map fun y=> -y).map encI)),(17,litI k)]:List (Nat×AV))) (fun k:Nat=>([]:List (Nat×Option Ob))) (fun k:Nat=>k≤core.length) (fun k:Nat=>core.length - k) (0);(conv=>lhs;simp only[Nf.lpR,Nf.all,Nat.reduceBEq,reduceAdd,reduceSub]);(all_goals skip))
 ·exact Nat.zero_le _
 ·exact weak rfl (by(refine⟨.eq rfl rfl,?_⟩;(iterate 6 refine⟨.eq rfl rfl,?_⟩);exact trivial)) (by(refine⟨.row rfl,?_⟩;refine⟨.box _ rfl ?_,?_⟩;(iterate 15 refine⟨.eq rfl rfl,?_⟩);exact trivial;(iterate 3 refine⟨.row rfl,?_⟩);refine⟨.pool rfl (by first|with_reducible rfl|(with_reducible rfl)),?_⟩;(iterate 2 refine⟨.row rfl,?_⟩);refine⟨.pool rfl (by first|with_reducible rfl|(with_reducible rfl)),?_⟩;refine⟨.row rfl,?_⟩;refine⟨.pool rfl (by first|with_reducible rfl|(with_reducible rfl)),?_⟩;refine⟨.row rfl,?_⟩;exact trivial)) rfl
 rintro k hk
 by_cases hlt:k<core.length
 ·obtain⟨b1,b2⟩:=hb _ (List.getElem_mem hlt)
  have e:((core.take (k+1)).map fun y=> -y).map encI=((core.take k).map fun y=> -y).map encI++ [[PV.lit (.int .i64 (-core[k]))]]:=by
   rw[List.take_succ_eq_append_getElem hlt,List.map_append,List.map_append];rfl
  (refine Q266 ?_;refine Q5 ?_;refine Q40 ?_;(focus ((with_reducible apply AOps.index_map);(iterate 7 exact rfl);rotate_left;omega));refine zr ?_;refine Q11 ?_;refine Q177 ?_;refine Q226 ?_;refine AOps.neg rfl rfl rfl (by omega) ?_;(with_reducible apply AOps.bs1);(iterate 5 exact rfl);(first|exact rfl|assumption|exact o1_ _|exact o2_ _ _|exact o3_ _|exact o4_ _ _);exact rfl;exact rfl;refine Q0 ?_;(with_reducible apply AOps.appendS);exact rfl;(first|exact .pv rfl|exact .own rfl|exact .nil rfl);(iterate 9 exact rfl);(first|omega|(simp only[List.length_map,List.length_append,List.length_cons,List.length_nil,List.length_drop,List.length_take,List.length_set,List.length_range,chunk_len];omega));refine Q0 ?_;refine Q149 ?_;refine Q257 ?_)
  exact⟨k+1,by omega,by omega,weak rfl (by(refine⟨.ownE (by first|rfl|exact e.symm) rfl,?_⟩;(iterate 2 refine⟨.litE (by first|rfl|exact e.symm),?_⟩);refine⟨.pvE (by first|rfl|exact e.symm),?_⟩;refine⟨.litE (by first|rfl|exact e.symm),?_⟩;(iterate 2 refine⟨.eq rfl rfl,?_⟩);exact trivial)) (by(refine⟨.row rfl,?_⟩;refine⟨.box _ rfl ?_,?_⟩;(iterate 3 refine⟨.ownE (by first|rfl|exact e.symm) rfl,?_⟩);refine⟨.litE (by first|rfl|exact e.symm),?_⟩;refine⟨.ownE (by first|rfl|exact e.symm) rfl,?_⟩;refine⟨.litE (by first|rfl|exact e.symm),?_⟩;(iterate 2 refine⟨.ownE (by first|rfl|exact e.symm) rfl,?_⟩);(iterate 3 refine⟨.litE (by first|rfl|exact e.symm),?_⟩);refine⟨.ownE (by first|rfl|exact e.symm) rfl,?_⟩;refine⟨.litE (by first|rfl|exact e.symm),?_⟩;(iterate 2 refine⟨.pvE (by first|rfl|exact e.symm),?_⟩);exact trivial;(iterate 3 refine⟨.row rfl,?_⟩);refine⟨.pool rfl (by first|rfl|exact e.symm),?_⟩;(iterate 2 refine⟨.row rfl,?_⟩);refine⟨.pool rfl (by first|rfl|exact e.symm),?_⟩;refine⟨.row rfl,?_⟩;refine⟨.pool rfl (by first|rfl|exact e.symm),?_⟩;refine⟨.row rfl,?_⟩;exact trivial)) rfl⟩
 ·obtain rfl:k=core.length:=by omega
  rw[List.take_length]
  have hlr:=learnT_fn {s with core:=core} (core.map fun y=> -y) (by rw[List.length_map];omega) hp
  simp only[SOb,SBox] at hlr
  (refine Q208 ?_;refine Q168 ?_;refine AOps.move_own rfl rfl rfl ?_;refine AOps.frzC rfl rfl ?_;refine Q0 ?_;refine zX (hlr) ?_;refine Q87 ?_;refine zd ?_;refine zq ?_;refine Q28 ?_)
  (apply endsX_ret;((exact Res.one (.tmp rfl rfl)));((exact Q76));((exact Q2));exact rfl)
theorem blame_fn (n:Nat) (s:SR) (hs:SInv n s) (x:Int) (hx: -x∈s.ll 0):FnR Try.prog 42 11 (SOb s) [.ptr 0 0,litI x] (fun core:List Int=>BOut n s x core) (fun _=>SOb s) (fun core=> .pv (nums core)):=by
 have hnn:=hs.hn
 have hll:=hs.trl.len
 have hnc:=hs.nc
 have hrl:=hs.rsn
 have hvl:=hs.lvl
 have hxl:=hs.trl.rng _ hx
 have hvv:s.value.length=n+1:=by rw[hs.val,valV_len]
 have hx0:0≤max x (-x):=by omega
 have hxv:(max x (-x)).toNat<n+1:=by omega
 have hxr:(max x (-x)).toNat<(List.replicate (n+1) false).length:=by rw[List.length_replicate];exact hxv
 have hst:=BIn.start hs (x:=x) ⟨by omega,by omega,by omega⟩
 unfold varN at hst
 have hrep:List.replicate ((s.value.length:Nat):Int).toNat [PV.lit (.bool false)]=(List.replicate (n+1) false).map encB:=by rw[Int.toNat_natCast,hvv];exact repB (n+1)
 have hset:=setB1 (List.replicate (n+1) false) (max x (-x)).toNat
 simp only[SOb,SBox]
 refine FnR.enter (n:=106) Try.func42 rfl rfl rfl rfl rfl (by decide) rfl (fun _=>rfl) fun g hro_ hwt_=>?_;refine Q25 ?_
 (refine zq ?_;refine Q259 ?_;refine Q299 ?_;refine Q68 ?_;refine Q104 ?_;(with_reducible apply AW.atS 2);(rw[hrep]);refine Q124 ?_;refine Q49 ?_;refine Q27 ?_;(with_reducible apply AOps.store_o1);(iterate 4 exact rfl);(first|exact rfl|assumption|exact o1_ _|exact o2_ _ _|exact o3_ _|exact o4_ _ _);(iterate 3 exact rfl);refine Q206 ?_;refine zq ?_;refine zm ?_;(with_reducible apply AOps.bs1);(iterate 5 exact rfl);(first|exact rfl|assumption|exact o1_ _|exact o2_ _ _|exact o3_ _|exact o4_ _ _);exact rfl;exact rfl;refine Q0 ?_;refine Q104 ?_;refine zo ?_;refine Q40 ?_;refine Q78 ?_;refine Q251 ?_;refine Q176 ?_;refine AW.block ?_)
 (refine Q0 ?_;apply AW.loopR [4,0,1000] [12,11,0,1,2,3,4,5,6,7,8,9,10] (fun q:List Bool×List Int×Nat=>([(5,.own 11 4 1 (q.1.map encB)),(6,.own 12 3 1 ((x::q.2.1).map encI)),(7,litI ((q.2.2:Int) - 1))]:List (Nat×AV))) (fun q:List Bool×List Int×Nat=>([]:List (Nat×Option Ob))) (fun q:List Bool×List Int×Nat=>(BIn n s x q.1 q.2.1 q.2.2∧q.2.2≤(s.ll 0).length)) (fun q:List Bool×List Int×Nat=>q.2.2) (((List.replicate (n+1) false).set (max x (-x)).toNat true,([]:List Int),(s.ll 0).length));(conv=>lhs;simp only[Nf.lpR,Nf.all,Nat.reduceBEq,reduceAdd,reduceSub]);(all_goals skip))
 ·exact⟨hst,Nat.le_refl _⟩
 ·exact weak rfl (by(refine⟨.ownE (by first|rfl|exact hset) rfl,?_⟩;refine⟨.ownE (by first|rfl|exact hset) rfl,?_⟩;(iterate 2 refine⟨.litE (by first|rfl|exact hset),?_⟩);(iterate 2 refine⟨.eq rfl rfl,?_⟩);exact trivial)) (by(refine⟨.row rfl,?_⟩;refine⟨.row rfl,?_⟩;refine⟨.box _ rfl ?_,?_⟩;(iterate 3 refine⟨.ownE (by first|rfl|exact hset) rfl,?_⟩);refine⟨.litE (by first|rfl|exact hset),?_⟩;refine⟨.ownE (by first|rfl|exact hset) rfl,?_⟩;refine⟨.litE (by first|rfl|exact hset),?_⟩;(iterate 2 refine⟨.ownE (by first|rfl|exact hset) rfl,?_⟩);(iterate 3 refine⟨.litE (by first|rfl|exact hset),?_⟩);refine⟨.ownE (by first|rfl|exact hset) rfl,?_⟩;refine⟨.litE (by first|rfl|exact hset),?_⟩;(iterate 2 refine⟨.pvE (by first|rfl|exact hset),?_⟩);exact trivial;(iterate 3 refine⟨.row rfl,?_⟩);refine⟨.pool rfl (by first|rfl|exact hset),?_⟩;(iterate 2 refine⟨.row rfl,?_⟩);refine⟨.pool rfl (by first|rfl|exact hset),?_⟩;refine⟨.row rfl,?_⟩;refine⟨.pool rfl (by first|rfl|exact hset),?_⟩;refine⟨.row rfl,?_⟩;exact trivial)) rfl
 rintro⟨sl,ds,k⟩ ⟨hB,hk⟩
 simp only at hB hk
 have hsl:=hB.len
 cases k with
 |zero=>
  have hout:=hB.out
  (refine zo ?_;refine Q202 ?_;refine AOps.geq rfl rfl rfl rfl rfl ?_;refine Q67 ?_;refine Q14 ?_;refine Q124 ?_;refine Q269 ?_)
  (apply endsQ_ret ((x::ds:List Int)) (hout);((exact Res.one (.tmp rfl rfl)));((refine⟨.freezeE rfl (by first|with_reducible rfl|(rfl)),?_⟩;exact Q33));((exact Q2));exact rfl)
 |succ k=>
  have ek:((k+1:Nat):Int) - 1=(k:Int):=by omega
  have hkl:(k:Int).toNat<(s.ll 0).length:=by omega
  have hkl2:k<(s.ll 0).length:=by omega
  obtain⟨y,hy⟩:∃y,y=(s.ll 0)[(k:Int).toNat]:=⟨_,rfl⟩
  have hy2:(s.ll 0)[k]=y:=hy.symm
  have hyl:=hs.trl.rng _ (List.getElem_mem hkl)
  rw[← hy] at hyl
  have hv0:0≤max y (-y):=by omega
  have hvn:(max y (-y)).toNat<n+1:=by omega
  have hv1:(max y (-y)).toNat<sl.length:=by omega
  have hv2:(max y (-y)).toNat<s.level.length:=by omega
  have hv3:(max y (-y)).toNat<s.reason.length:=by omega
  have hg1:sl.getD (varN y) false=sl[(max y (-y)).toNat]:=getD_getB hv1
  have hg2:levOf s y=s.level[(max y (-y)).toNat]:=getD_get hv2
  have hg3:s.reason.getD (varN y) 0=s.reason[(max y (-y)).toNat]:=getD_get hv3
  have hlv0:=hs.lev_le (List.getElem_mem hkl)
  rw[← hy,hg2] at hlv0
  rw[ek]
  cases hsn:sl[(max y (-y)).toNat] with
  |false=>
   have hsn2:(!sl[(max y (-y)).toNat])=true:=by rw[hsn];rfl
   have hnx:=hB.skip hkl2 (.inl (by rw[hy2,hg1];exact hsn))
   (refine zo ?_;refine Q202 ?_;refine Q180 ?_;(with_reducible apply AOps.plI_index 4);(iterate 8 exact rfl);(first|(with_reducible assumption)|omega|(simp only[fset_same,List.length_set];omega));(first|(with_reducible assumption)|omega|(simp only[fset_same,List.length_set];omega));(focus ((with_reducible apply AOps.plI_load 4);(iterate 5 exact rfl);(focus (intro h_;cases h_;done));rotate_left;(first|(with_reducible assumption)|omega|(simp only[fset_same,List.length_set];omega))));refine Q11 ?_;(with_reducible apply AW.atS 8);(rw[← hy]);refine Q313 ?_;(focus ((with_reducible apply AOps.load_o1_mapI);(iterate 4 exact rfl);(focus (intro h_;cases h_;done));rotate_left;(first|omega|exact Nat.zero_lt_one|(simp;done))));refine Q328 ?_;refine Q297 ?_;refine Q0 ?_;refine zm ?_;refine Q176 ?_)
   exact Q47
  |true=>
   have hsn2:(!sl[(max y (-y)).toNat])=false:=by rw[hsn];rfl
   by_cases hl0:s.level[(max y (-y)).toNat]=0
   ·have hnx:=hB.skip hkl2 (.inr (by rw[hy2,hg2];exact hl0))
    (refine zo ?_;refine Q202 ?_;refine Q180 ?_;(with_reducible apply AOps.plI_index 4);(iterate 8 exact rfl);(first|(with_reducible assumption)|omega|(simp only[fset_same,List.length_set];omega));(first|(with_reducible assumption)|omega|(simp only[fset_same,List.length_set];omega));(focus ((with_reducible apply AOps.plI_load 4);(iterate 5 exact rfl);(focus (intro h_;cases h_;done));rotate_left;(first|(with_reducible assumption)|omega|(simp only[fset_same,List.length_set];omega))));refine Q11 ?_;(with_reducible apply AW.atS 8);(rw[← hy]);refine Q313 ?_;(focus ((with_reducible apply AOps.load_o1_mapI);(iterate 4 exact rfl);(focus (intro h_;cases h_;done));rotate_left;(first|omega|exact Nat.zero_lt_one|(simp;done))));refine AOps.not rfl rfl rfl ?_;refine Q53 ?_;(focus ((with_reducible apply AOps.load_o1_mapI);(iterate 4 exact rfl);(focus (intro h_;cases h_;done));rotate_left;(first|omega|exact Nat.zero_lt_one|(simp;done))));refine Q127 ?_;refine Q185 ?_;refine Q63 ?_;refine Q0 ?_;refine zm ?_;refine Q176 ?_)
    exact Q47
   ·by_cases hr0:s.reason[(max y (-y)).toNat]= -1
    ·have hnx:=hB.dec hs hkl2 (by rw[hy2,hg2];exact hl0) (by rw[hy2,hg3];exact hr0)
     rw[hy2] at hnx
     have hdl:ds.length≤1000000:=by
      have:=nodup_leI (n:=2*n+2) (l:=ds.map idxI) (by
       unfold List.Nodup
       rw[List.pairwise_map]
       exact hB.nd.imp_of_mem fun {a b} ha hb hab e=>hab (idxI_inj (n:=n) (by obtain⟨q,p1,_,p3,_⟩:=hB.mem a ha;rw[← p3];exact hs.trl.rng _ (List.getElem_mem p1)) (by obtain⟨q,p1,_,p3,_⟩:=hB.mem b hb;rw[← p3];exact hs.trl.rng _ (List.getElem_mem p1)) (by rw[e]))) fun v hv=>by
       obtain⟨a,ha,rfl⟩:=List.mem_map.1 hv
       obtain⟨q,p1,_,p3,_⟩:=hB.mem a ha
       have:=idxI_lt (hs.trl.rng _ (List.getElem_mem p1))
       rw[p3] at this
       omega
      simp only[List.length_map] at this
      omega
     (refine zo ?_;refine Q202 ?_;refine Q180 ?_;(with_reducible apply AOps.plI_index 4);(iterate 8 exact rfl);(first|(with_reducible assumption)|omega|(simp only[fset_same,List.length_set];omega));(first|(with_reducible assumption)|omega|(simp only[fset_same,List.length_set];omega));(focus ((with_reducible apply AOps.plI_load 4);(iterate 5 exact rfl);(focus (intro h_;cases h_;done));rotate_left;(first|(with_reducible assumption)|omega|(simp only[fset_same,List.length_set];omega))));refine Q11 ?_;(with_reducible apply AW.atS 8);(rw[← hy]);refine Q313 ?_;(focus ((with_reducible apply AOps.load_o1_mapI);(iterate 4 exact rfl);(focus (intro h_;cases h_;done));rotate_left;(first|omega|exact Nat.zero_lt_one|(simp;done))));refine AOps.not rfl rfl rfl ?_;refine Q53 ?_;(focus ((with_reducible apply AOps.load_o1_mapI);(iterate 4 exact rfl);(focus (intro h_;cases h_;done));rotate_left;(first|omega|exact Nat.zero_lt_one|(simp;done))));refine Q127 ?_;refine Q116 ?_;refine zo ?_;refine Q40 ?_;refine Q311 ?_;(focus ((with_reducible apply AOps.load_o1_mapI);(iterate 4 exact rfl);(focus (intro h_;cases h_;done));rotate_left;(first|omega|exact Nat.zero_lt_one|(simp;done))));refine Q294 ?_;refine Q124 ?_;refine zm ?_;(with_reducible apply AOps.bs1);(iterate 5 exact rfl);(first|exact rfl|assumption|exact o1_ _|exact o2_ _ _|exact o3_ _|exact o4_ _ _);exact rfl;exact rfl;refine Q0 ?_;(with_reducible apply AOps.appendS);exact rfl;(first|exact .pv rfl|exact .own rfl|exact .nil rfl);(iterate 9 exact rfl);(first|omega|(simp only[List.length_map,List.length_append,List.length_cons,List.length_nil,List.length_drop,List.length_take,List.length_set,List.length_range,chunk_len];omega));refine Q0 ?_;refine Q104 ?_;refine Q63 ?_;refine Q0 ?_;refine zm ?_;refine Q176 ?_)
     exact⟨(sl,ds++ [y],k),⟨hnx,show k≤(s.ll 0).length by omega⟩,by show k<k+1;omega,weak rfl (by(refine⟨.ownE (by first|rfl|(rw[← List.cons_append,List.map_append];rfl)) rfl,?_⟩;refine⟨.ownE (by first|rfl|(rw[← List.cons_append,List.map_append];rfl)) rfl,?_⟩;refine⟨.litE (by first|rfl|(rw[← List.cons_append,List.map_append];rfl)),?_⟩;refine⟨.litE (by first|rfl|(rw[← List.cons_append,List.map_append];rfl)),?_⟩;(iterate 2 refine⟨.eq rfl rfl,?_⟩);exact trivial)) (by(refine⟨.row rfl,?_⟩;refine⟨.row rfl,?_⟩;refine⟨.box _ rfl ?_,?_⟩;refine⟨.ownE (by first|rfl|(rw[← List.cons_append,List.map_append];rfl)) rfl,?_⟩;refine⟨.ownE (by first|rfl|(rw[← List.cons_append,List.map_append];rfl)) rfl,?_⟩;refine⟨.ownE (by first|rfl|(rw[← List.cons_append,List.map_append];rfl)) rfl,?_⟩;refine⟨.litE (by first|rfl|(rw[← List.cons_append,List.map_append];rfl)),?_⟩;refine⟨.ownE (by first|rfl|(rw[← List.cons_append,List.map_append];rfl)) rfl,?_⟩;refine⟨.litE (by first|rfl|(rw[← List.cons_append,List.map_append];rfl)),?_⟩;refine⟨.ownE (by first|rfl|(rw[← List.cons_append,List.map_append];rfl)) rfl,?_⟩;refine⟨.ownE (by first|rfl|(rw[← List.cons_append,List.map_append];rfl)) rfl,?_⟩;refine⟨.litE (by first|rfl|(rw[← List.cons_append,List.map_append];rfl)),?_⟩;refine⟨.litE (by first|rfl|(rw[← List.cons_append,List.map_append];rfl)),?_⟩;refine⟨.litE (by first|rfl|(rw[← List.cons_append,List.map_append];rfl)),?_⟩;refine⟨.ownE (by first|rfl|(rw[← List.cons_append,List.map_append];rfl)) rfl,?_⟩;refine⟨.litE (by first|rfl|(rw[← List.cons_append,List.map_append];rfl)),?_⟩;refine⟨.pvE (by first|rfl|(rw[← List.cons_append,List.map_append];rfl)),?_⟩;refine⟨.pvE (by first|rfl|(rw[← List.cons_append,List.map_append];rfl)),?_⟩;exact trivial;(iterate 3 refine⟨.row rfl,?_⟩);refine⟨.pool rfl (by first|rfl|(rw[← List.cons_append,List.map_append];rfl)),?_⟩;(iterate 2 refine⟨.row rfl,?_⟩);refine⟨.pool rfl (by first|rfl|(rw[← List.cons_append,List.map_append];rfl)),?_⟩;refine⟨.row rfl,?_⟩;refine⟨.pool rfl (by first|rfl|(rw[← List.cons_append,List.map_append];rfl)),?_⟩;refine⟨.row rfl,?_⟩;exact trivial)) rfl⟩
    ·obtain⟨j,hj,hR,hmj,hfj⟩:=(hs.rea k hkl2).resolve_left (by rw[hy2,hg3];exact fun q=>hr0 q.1)
     rw[hy2] at hR hmj hfj
     rw[hg3] at hR
     have hR1:0≤s.reason[(max y (-y)).toNat]:=by omega
     have hR2:(s.reason[(max y (-y)).toNat]).toNat<s.nc:=by omega
     have hcl:=hs.clen hj
     have hlits:=(hs.cls j hj).2.2
     have hrl1:=hrow_len s.nc s.hc
     (refine zo ?_;refine Q202 ?_;refine Q180 ?_;(with_reducible apply AOps.plI_index 4);(iterate 8 exact rfl);(first|(with_reducible assumption)|omega|(simp only[fset_same,List.length_set];omega));(first|(with_reducible assumption)|omega|(simp only[fset_same,List.length_set];omega));(focus ((with_reducible apply AOps.plI_load 4);(iterate 5 exact rfl);(focus (intro h_;cases h_;done));rotate_left;(first|(with_reducible assumption)|omega|(simp only[fset_same,List.length_set];omega))));refine Q11 ?_;(with_reducible apply AW.atS 8);(rw[← hy]);refine Q313 ?_;(focus ((with_reducible apply AOps.load_o1_mapI);(iterate 4 exact rfl);(focus (intro h_;cases h_;done));rotate_left;(first|omega|exact Nat.zero_lt_one|(simp;done))));refine AOps.not rfl rfl rfl ?_;refine Q53 ?_;(focus ((with_reducible apply AOps.load_o1_mapI);(iterate 4 exact rfl);(focus (intro h_;cases h_;done));rotate_left;(first|omega|exact Nat.zero_lt_one|(simp;done))));refine Q127 ?_;refine Q116 ?_;refine zo ?_;refine Q40 ?_;refine Q311 ?_;(focus ((with_reducible apply AOps.load_o1_mapI);(iterate 4 exact rfl);(focus (intro h_;cases h_;done));rotate_left;(first|omega|exact Nat.zero_lt_one|(simp;done))));refine Q224 ?_;refine zo ?_;(with_reducible apply AW.regionQ);exact rfl;exact rfl;kernel_rfl;(with_reducible assumption);refine Q249 ?_;refine zb ?_;refine Q311 ?_;(focus ((with_reducible apply AOps.load_o1_mapI);(iterate 4 exact rfl);(focus (intro h_;cases h_;done));rotate_left;(first|omega|exact Nat.zero_lt_one|(simp;done))));refine Q77 ?_;refine AOps.hrow_load rfl rfl rfl rfl (fun h_=>by cases h_) (by omega) ?_;refine AOps.plI_len 7 rfl rfl rfl rfl rfl ?_;refine Q337 ?_)
     rw[hR,Int.toNat_natCast j]
     (refine Q0 ?_;apply AW.loopR [93,92,6,7,4,0,1000] [12,11,0,1,2,3,4,5,6,7,8,9,10] (fun p:List Bool×Nat=>([(5,.own 11 4 1 (p.1.map encB)),(94,litI p.2)]:List (Nat×AV))) (fun p:List Bool×Nat=>([]:List (Nat×Option Ob))) (fun p:List Bool×Nat=>BRow n s sl j p.1 p.2) (fun p:List Bool×Nat=>(s.cl j).length - p.2) ((sl,0));(conv=>lhs;simp only[Nf.lpR,Nf.all,Nat.reduceBEq,reduceAdd,reduceSub]);(all_goals skip))
     ·exact .start hsl
     ·exact weak rfl (by(refine⟨.ownE (by rfl) rfl,?_⟩;(iterate 3 refine⟨.litE (by rfl),?_⟩);refine⟨.ownE (by rfl) rfl,?_⟩;(iterate 2 refine⟨.litE (by rfl),?_⟩);(iterate 2 refine⟨.eq rfl rfl,?_⟩);exact trivial)) (by(refine⟨.row rfl,?_⟩;refine⟨.row rfl,?_⟩;refine⟨.box _ rfl ?_,?_⟩;(iterate 3 refine⟨.ownE (by rfl) rfl,?_⟩);refine⟨.litE (by rfl),?_⟩;refine⟨.ownE (by rfl) rfl,?_⟩;refine⟨.litE (by rfl),?_⟩;(iterate 2 refine⟨.ownE (by rfl) rfl,?_⟩);(iterate 3 refine⟨.litE (by rfl),?_⟩);refine⟨.ownE (by rfl) rfl,?_⟩;refine⟨.litE (by rfl),?_⟩;(iterate 2 refine⟨.pvE (by rfl),?_⟩);exact trivial;(iterate 3 refine⟨.row rfl,?_⟩);refine⟨.pool rfl (by rfl),?_⟩;(iterate 2 refine⟨.row rfl,?_⟩);refine⟨.pool rfl (by rfl),?_⟩;refine⟨.row rfl,?_⟩;refine⟨.pool rfl (by rfl),?_⟩;refine⟨.row rfl,?_⟩;exact trivial)) rfl
     rintro⟨sl2,i⟩ hW
     simp only at hW
     have hwi:=hW.hi
     have hwl:=hW.len
     by_cases hlt:i<(s.cl j).length
     ·have hil:(i:Int).toNat<(s.cl j).length:=by omega
      obtain⟨z,hz⟩:∃z,z=(s.cl j)[(i:Int).toNat]:=⟨_,rfl⟩
      have hz2:(s.cl j)[i]=z:=hz.symm
      have hzl:=hlits _ (List.getElem_mem hil)
      rw[← hz] at hzl
      obtain⟨_,_,_⟩:=hzl
      have hw0:0≤max z (-z):=by omega
      have hw1:(max z (-z)).toNat<sl2.length:=by omega
      have hwn:=hW.next hlt (by rw[hz2];unfold varN;omega)
      rw[hz2] at hwn
      have hws:=setB1 sl2 (max z (-z)).toNat
      (refine Q73 ?_;(with_reducible apply AOps.plI_index 7);(iterate 8 exact rfl);(first|(with_reducible assumption)|omega|(simp only[fset_same,List.length_set];omega));(first|(with_reducible assumption)|omega|(simp only[fset_same,List.length_set];omega));(focus ((with_reducible apply AOps.plI_load 7);(iterate 5 exact rfl);(focus (intro h_;cases h_;done));rotate_left;(first|(with_reducible assumption)|omega|(simp only[fset_same,List.length_set];omega))));refine Q11 ?_;(with_reducible apply AW.atR 15);(rw[← hz]);refine Q177 ?_;refine AOps.move_own rfl rfl rfl ?_;refine Q49 ?_;refine Q27 ?_;(with_reducible apply AOps.store_o1);(iterate 4 exact rfl);(first|exact rfl|assumption|exact o1_ _|exact o2_ _ _|exact o3_ _|exact o4_ _ _);(iterate 3 exact rfl);refine Q0 ?_;refine Q225 ?_)
      exact⟨(sl2.set (varN z) true,i+1),hwn,by show(s.cl j).length - (i+1)<(s.cl j).length - i;omega,weak rfl (by(refine⟨.ownE (by first|rfl|exact hws) rfl,?_⟩;(iterate 3 refine⟨.litE (by first|rfl|exact hws),?_⟩);refine⟨.ownE (by first|rfl|exact hws) rfl,?_⟩;(iterate 2 refine⟨.litE (by first|rfl|exact hws),?_⟩);(iterate 2 refine⟨.eq rfl rfl,?_⟩);exact trivial)) (by(refine⟨.row rfl,?_⟩;refine⟨.row rfl,?_⟩;refine⟨.box _ rfl ?_,?_⟩;(iterate 3 refine⟨.ownE (by first|rfl|exact hws) rfl,?_⟩);refine⟨.litE (by first|rfl|exact hws),?_⟩;refine⟨.ownE (by first|rfl|exact hws) rfl,?_⟩;refine⟨.litE (by first|rfl|exact hws),?_⟩;(iterate 2 refine⟨.ownE (by first|rfl|exact hws) rfl,?_⟩);(iterate 3 refine⟨.litE (by first|rfl|exact hws),?_⟩);refine⟨.ownE (by first|rfl|exact hws) rfl,?_⟩;refine⟨.litE (by first|rfl|exact hws),?_⟩;(iterate 2 refine⟨.pvE (by first|rfl|exact hws),?_⟩);exact trivial;(iterate 3 refine⟨.row rfl,?_⟩);refine⟨.pool rfl (by first|rfl|exact hws),?_⟩;(iterate 2 refine⟨.row rfl,?_⟩);refine⟨.pool rfl (by first|rfl|exact hws),?_⟩;refine⟨.row rfl,?_⟩;refine⟨.pool rfl (by first|rfl|exact hws),?_⟩;refine⟨.row rfl,?_⟩;exact trivial)) rfl⟩
     ·obtain rfl:i=(s.cl j).length:=by omega
      have hnx:=hB.row hs hkl2 hj (by rw[hy2];exact hmj) (by rw[hy2];exact hfj) hW
      (refine Q40 ?_;refine zs ?_;refine zd ?_;refine zo ?_;refine zk ?_;refine AW.exit ?_;(iterate 2 refine thenD_exit ?_);refine inBlockD_exit ?_;refine Q29 ?_;refine Q0 ?_;refine zm ?_;refine Q176 ?_)
      exact⟨(sl2,ds,k),⟨hnx,show k≤(s.ll 0).length by omega⟩,by show k<k+1;omega,weak rfl (by(refine⟨.ownE (by rfl) rfl,?_⟩;refine⟨.ownE (by rfl) rfl,?_⟩;(iterate 2 refine⟨.litE (by rfl),?_⟩);(iterate 2 refine⟨.eq rfl rfl,?_⟩);exact trivial)) (by(refine⟨.row rfl,?_⟩;refine⟨.row rfl,?_⟩;refine⟨.box _ rfl ?_,?_⟩;(iterate 3 refine⟨.ownE (by rfl) rfl,?_⟩);refine⟨.litE (by rfl),?_⟩;refine⟨.ownE (by rfl) rfl,?_⟩;refine⟨.litE (by rfl),?_⟩;(iterate 2 refine⟨.ownE (by rfl) rfl,?_⟩);(iterate 3 refine⟨.litE (by rfl),?_⟩);refine⟨.ownE (by rfl) rfl,?_⟩;refine⟨.litE (by rfl),?_⟩;(iterate 2 refine⟨.pvE (by rfl),?_⟩);exact trivial;(iterate 3 refine⟨.row rfl,?_⟩);refine⟨.pool rfl (by rfl),?_⟩;(iterate 2 refine⟨.row rfl,?_⟩);refine⟨.pool rfl (by rfl),?_⟩;refine⟨.row rfl,?_⟩;refine⟨.pool rfl (by rfl),?_⟩;refine⟨.row rfl,?_⟩;exact trivial)) rfl⟩
end Go.Ab
