/- The solver: the conflict analysis, walked. -/
import Derived.Test.YtigjjjpcjnifhaaGreatDoorAvS7
import Derived.Test.YtigjjjpcjnifhaaGreatDoorAbZ
import Derived.Test.YtigjjjpcjnifhaaGreatDoorAbL3
import Derived.Test.YtigjjjpcjnifhaaGreatDoorAvA2
set_option linter.unusedSimpArgs false
set_option linter.unusedVariables false
open List renaming replicate→bY,getElem_mem→cZ,cons_append→bt,map_append→cU
open Int renaming toNat_natCast→dt
open Nat renaming reduceBEq→di,le_refl→aP
namespace Go.Ab
open Go Go.Proofs
open Nat (reduceAdd reduceSub)
set_option maxRecDepth 20000
set_option maxHeartbeats 8000000
structure AQ where
 sl:List Bool
 rest:List Int
 op:Nat
 tz:Int
 k:Nat
 piv:Int
 j:Nat
theorem iS (n:Nat) (h:Nat→Value) (v:Value):gC n h=gC n (fb h n v):=by
 unfold gC
 apply List.map_congr_left
 intro k hk
 rw[fA _ _ (by have:=List.mem_range.1 hk;omega)]
attribute [local irreducible] gC AW a_ ga ft AR fB fp fG fU jw lA
theorem Ej (n:Nat) (s:SR) (hs:fW n s) (j0:Nat) (Qc:j0<s.nc) (hf:∀x∈s.cl j0,-x∈s.ll 0) (hm:0<s.marks.length) (hmb:s.marks.length≤1000000):uo Tryz.prog 54 11 (hX s) [.ptr 0 0,e7 (j0:Nat)] (fun q:Value×List Int×Int=>q.1.oneCell'=true∧sD n s j0 q.2.1 q.2.2) (fun q=>hX {s with hc:=fb s.hc s.nc q.1,cl:=fb s.cl s.nc q.2.1}) (fun q=> .gM [.pv (.lit q.1),e7 q.2.2]):=by
 have rU:=hs.hn
 have kz:=hs.iK.len
 have yh:=hs.nc
 have UZ:=hs.oG
 have PY:=hs.lvl
 have C6:s.value.length=n+1:=by rw[hs.val,ki]
 have QQ:bY ((s.value.length:Nat):Int).toNat [PV.lit (.bool false)]=(bY (n+1) false).map oI:=by rw[dt,C6];exact Tp (n+1)
 have Ys:=k9 s.nc s.hc
 simp only[hX,hZ]
 refine uo.enter (n:=155) Tryz.func54 rfl rfl rfl rfl rfl (by decide) rfl (fun _=>rfl) fun g fE fD=>?_;refine qz ?_
 (refine zq ?_;refine lj ?_;refine jB ?_;refine Qu ?_;refine Rg ?_;refine J0 ?_;refine sH ?_;(with_reducible apply AW.wJ 2);(rw[QQ]);refine jB ?_;(with_reducible apply a_.nK);(iterate 5 exact rfl);exact ag;exact rfl;exact rfl;refine J0 ?_;refine sH ?_;refine jB ?_;refine lj ?_;refine jB ?_;refine Eb ?_;refine Gk ?_;refine sM ?_;refine kh ?_;refine AW.block ?_)
 (refine J0 ?_;apply AW.gP [0,1000] [12,11,0,1,2,3,4,5,6,7,8,9,10] (fun q:AQ=>([(1,e7 (q.j:Nat)),(6,.own 11 4 1 (q.sl.map oI)),(7,.own 12 3 1 ((0::q.rest).map encI)),(8,e7 (q.op:Nat)),(9,e7 q.tz),(10,e7 (q.k:Nat)),(11,e7 q.piv)]:List (Nat×AV))) (fun q:AQ=>([]:List (Nat×Option Ob))) (fun q:AQ=>yQ n s j0 q.sl q.rest q.op q.tz q.k q.piv q.j) (fun q:AQ=>q.k) ((⟨bY (n+1) false,[],0,0,(s.ll 0).length,0,j0⟩:AQ));(conv=>lhs;simp only[Nf.n7,Nf.all,di,reduceAdd,reduceSub]);(all_goals skip))
 ·exact .start hs Qc hf
 ·exact fy rfl (by(refine aD ?_;(iterate 2 refine aE ?_);(iterate 4 refine aD ?_);(iterate 2 refine aC ?_);exact trivial)) (by(refine aF ?_;refine aF ?_;refine⟨.box _ rfl ?_,?_⟩;(iterate 3 refine aE ?_);refine aD ?_;refine aE ?_;refine aD ?_;(iterate 2 refine aE ?_);(iterate 3 refine aD ?_);refine aE ?_;refine aD ?_;(iterate 2 refine aG ?_);exact trivial;(iterate 3 refine aF ?_);refine aH ?_;(iterate 2 refine aF ?_);refine aH ?_;refine aF ?_;refine aH ?_;refine aF ?_;exact trivial)) rfl
 rintro⟨sl0,rest0,op0,to0,k,piv,j⟩ hA
 simp only at hA
 have hj:=hA.hj
 have jq:=hs.D6 hj
 have o_:=(hs.cls j hj).2.2
 have T9:=hA.row
 have Ha:=hA.hk
 have M7:(j:Int).toNat<s.nc:=by omega
 (refine AW.block ?_;refine zo ?_;refine jB ?_;refine Ki ?_;refine iL ?_;refine Ru ?_;refine a_.jI rfl rfl rfl rfl (fun h_=>by cases h_) aJ ?_;refine a_.nL 7 rfl rfl rfl rfl rfl ?_;refine CX ?_)
 rw[dt j]
 (refine J0 ?_;apply AW.gP [36,35,1,10,11,0,1000] [12,11,0,1,2,3,4,5,6,7,8,9,10] (fun q:AQ=>([(6,.own 11 4 1 (q.sl.map oI)),(7,.own 12 3 1 ((0::q.rest).map encI)),(8,e7 (q.op:Nat)),(9,e7 q.tz),(37,e7 (q.k:Nat))]:List (Nat×AV))) (fun q:AQ=>([]:List (Nat×Option Ob))) (fun q:AQ=>pq n s j0 k piv j q.sl q.rest q.op q.tz q.k) (fun q:AQ=>(s.cl j).length - q.k) ((⟨sl0,rest0,op0,to0,0,0,0⟩:AQ));(conv=>lhs;simp only[Nf.n7,Nf.all,di,reduceAdd,reduceSub]);(all_goals skip))
 ·exact T9
 ·exact fy rfl (by(refine aE ?_;refine aE ?_;(iterate 8 refine aD ?_);(iterate 2 refine aC ?_);exact trivial)) (by(refine aF ?_;refine aF ?_;refine⟨.box _ rfl ?_,?_⟩;(iterate 3 refine aE ?_);refine aD ?_;refine aE ?_;refine aD ?_;(iterate 2 refine aE ?_);(iterate 3 refine aD ?_);refine aE ?_;refine aD ?_;(iterate 2 refine aG ?_);exact trivial;(iterate 3 refine aF ?_);refine aH ?_;(iterate 2 refine aF ?_);refine aH ?_;refine aF ?_;refine aH ?_;refine aF ?_;exact trivial)) rfl
 rintro⟨sl,rest,op,tz,i,z1,z2⟩ hR
 simp only at hR
 clear hA T9
 have xW:=hR.Yd hs
 have H7:=hR.base.len
 have hi:=hR.hi
 by_cases fx:i<(s.cl j).length
 ·have uq:(i:Int).toNat<(s.cl j).length:=by omega
  obtain⟨x,hx⟩:∃x,x=(s.cl j)[(i:Int).toNat]:=⟨_,rfl⟩
  have tR:(s.cl j)[i]=x:=hx.symm
  have uP:=o_ _ (cZ uq)
  rw[← hx] at uP
  obtain⟨_,_,_⟩:=uP
  have JI:0≤max x (-x):=by omega
  have Dd:(max x (-x)).toNat<sl.length:=by omega
  have yD:(max x (-x)).toNat<s.level.length:=by omega
  have Lg:sl.getD (fm x) false=sl[(max x (-x)).toNat]:=tg Dd
  have LK:fi s x=s.level[(max x (-x)).toNat]:=fF yD
  by_cases hp:x=piv
  ·have mq:decide (x=piv)=true:=by simpa using hp
   have ri:=hR.skip fx (.inl (by rw[tR];exact hp))
   (refine qa ?_;(with_reducible apply a_.fa 7);(iterate 8 exact rfl);exact ab;exact ab;refine ax ?_;refine kh ?_;(with_reducible apply AW.wJ 9);(rw[← hx]);refine jB ?_;refine JZ ?_;refine rD ?_;refine jB ?_;(iterate 2 refine zm ?_);refine Ij ?_;refine Ms ?_;refine zm ?_;(iterate 9 refine a_.gu rfl rfl rfl rfl rfl rfl rfl ?_);refine Bk ?_;refine HZ ?_;refine rC ?_)
   exact Yb
  ·have mq:decide (x=piv)=false:=by simpa using hp
   cases q6:sl[(max x (-x)).toNat] with
   |true=>
    have ri:=hR.skip fx (.inr (.inl (by rw[tR,Lg];exact q6)))
    (refine qa ?_;(with_reducible apply a_.fa 7);(iterate 8 exact rfl);exact ab;exact ab;refine ax ?_;refine kh ?_;(with_reducible apply AW.wJ 9);(rw[← hx]);refine Nd ?_;refine au ?_;refine zF ?_;refine zm ?_;refine RM ?_;refine rC ?_)
    exact Yb
   |false=>
    have k8:=Jc sl (max x (-x)).toNat
    by_cases s9:s.level[(max x (-x)).toNat]=0
    ·have Wm:decide (s.level[(max x (-x)).toNat]=0)=true:=by simpa using s9
     have ri:=hR.skip fx (.inr (.inr (by rw[tR,LK];exact s9)))
     (refine qa ?_;(with_reducible apply a_.fa 7);(iterate 8 exact rfl);exact ab;exact ab;refine ax ?_;refine kh ?_;(with_reducible apply AW.wJ 9);(rw[← hx]);refine Nd ?_;refine au ?_;refine zF ?_;refine Rc ?_;refine au ?_;refine Ge ?_;refine lq ?_;refine HZ ?_;refine rC ?_)
     exact Yb
    ·have Wm:decide (s.level[(max x (-x)).toNat]=0)=false:=by simpa using s9
     by_cases Oy:s.level[(max x (-x)).toNat]=(s.marks.length:Int)
     ·have XP:decide (s.level[(max x (-x)).toNat]=(s.marks.length:Int))=true:=by simpa using Oy
      have ri:=hR.cur hs hm fx (by rw[tR];exact hp) (by rw[tR,Lg];exact q6) (by rw[tR,LK];exact Oy)
      rw[tR] at ri
      (refine qa ?_;(with_reducible apply a_.fa 7);(iterate 8 exact rfl);exact ab;exact ab;refine ax ?_;refine kh ?_;(with_reducible apply AW.wJ 9);(rw[← hx]);refine Nd ?_;refine au ?_;refine zF ?_;refine Rc ?_;refine au ?_;refine Ge ?_;refine vD ?_;refine wN ?_;refine zm ?_;refine s8 ?_;(with_reducible apply a_.gA);(iterate 4 exact rfl);exact ag;(iterate 3 exact rfl);refine rM ?_;(iterate 2 refine zo ?_);(with_reducible apply AW.gk);exact rfl;exact rfl;kernel_rfl;(with_reducible assumption);refine AZ ?_;refine IJ ?_;refine s8 ?_;refine au ?_;refine AZ ?_;refine zG ?_;refine I3 ?_;refine mj ?_;refine zj ?_;refine kh ?_;refine HZ ?_;refine rC ?_)
      exact⟨(⟨sl.set (fm x) true,rest,op+1,tz,i+1,z1,z2⟩:AQ),ri,by show(s.cl j).length - (i+1)<(s.cl j).length - i;omega,fy rfl (by(refine⟨.fj (by first|rfl|exact k8) rfl,?_⟩;refine⟨.fj (by first|rfl|exact k8) rfl,?_⟩;(iterate 8 refine⟨.fh (by first|rfl|exact k8),?_⟩);(iterate 2 refine aC ?_);exact trivial)) (by(refine aF ?_;refine aF ?_;refine⟨.box _ rfl ?_,?_⟩;(iterate 3 refine⟨.fj (by first|rfl|exact k8) rfl,?_⟩);refine⟨.fh (by first|rfl|exact k8),?_⟩;refine⟨.fj (by first|rfl|exact k8) rfl,?_⟩;refine⟨.fh (by first|rfl|exact k8),?_⟩;(iterate 2 refine⟨.fj (by first|rfl|exact k8) rfl,?_⟩);(iterate 3 refine⟨.fh (by first|rfl|exact k8),?_⟩);refine⟨.fj (by first|rfl|exact k8) rfl,?_⟩;refine⟨.fh (by first|rfl|exact k8),?_⟩;(iterate 2 refine⟨.ia (by first|rfl|exact k8),?_⟩);exact trivial;(iterate 3 refine aF ?_);refine⟨.ff rfl (by first|rfl|exact k8),?_⟩;(iterate 2 refine aF ?_);refine⟨.ff rfl (by first|rfl|exact k8),?_⟩;refine aF ?_;refine⟨.ff rfl (by first|rfl|exact k8),?_⟩;refine aF ?_;exact trivial)) rfl⟩
     ·have XP:decide (s.level[(max x (-x)).toNat]=(s.marks.length:Int))=false:=by simpa using Oy
      have ri:=hR.A8 hs fx (by rw[tR];exact hp) (by rw[tR,Lg];exact q6) (by rw[tR,LK];exact Oy) (by rw[tR,LK];exact s9)
      rw[tR,LK] at ri
      (refine qa ?_;(with_reducible apply a_.fa 7);(iterate 8 exact rfl);exact ab;exact ab;refine ax ?_;refine kh ?_;(with_reducible apply AW.wJ 9);(rw[← hx]);refine Nd ?_;refine au ?_;refine zF ?_;refine Rc ?_;refine au ?_;refine Ge ?_;refine vD ?_;refine wN ?_;refine zm ?_;refine s8 ?_;(with_reducible apply a_.gA);(iterate 4 exact rfl);exact ag;(iterate 3 exact rfl);refine rM ?_;(iterate 2 refine zo ?_);(with_reducible apply AW.gk);exact rfl;exact rfl;kernel_rfl;(with_reducible assumption);refine AZ ?_;refine IJ ?_;refine s8 ?_;refine au ?_;refine AZ ?_;refine zG ?_;refine Cm ?_;refine wN ?_;refine zm ?_;(with_reducible apply a_.nK);(iterate 5 exact rfl);exact ag;exact rfl;exact rfl;refine J0 ?_;(with_reducible apply a_.fJ);exact rfl;exact ah;(iterate 9 exact rfl);exact aa;refine J0 ?_;refine sH ?_;refine qJ ?_;refine zm ?_;refine AZ ?_;refine IJ ?_;refine s8 ?_;refine au ?_;refine a_.max2 rfl rfl rfl rfl rfl ?_;refine za ?_;refine GK ?_;refine rC ?_)
      exact⟨(⟨sl.set (fm x) true,rest++ [x],op,max tz s.level[(max x (-x)).toNat],i+1,z1,z2⟩:AQ),ri,by show(s.cl j).length - (i+1)<(s.cl j).length - i;omega,fy rfl (by(refine⟨.fj (by first|rfl|exact k8|(rw[← bt,cU];rfl)) rfl,?_⟩;refine⟨.fj (by first|rfl|exact k8|(rw[← bt,cU];rfl)) rfl,?_⟩;refine⟨.fh (by first|rfl|exact k8|(rw[← bt,cU];rfl)),?_⟩;refine⟨.fh (by first|rfl|exact k8|(rw[← bt,cU];rfl)),?_⟩;refine⟨.fh (by first|rfl|exact k8|(rw[← bt,cU];rfl)),?_⟩;refine⟨.fh (by first|rfl|exact k8|(rw[← bt,cU];rfl)),?_⟩;refine⟨.fh (by first|rfl|exact k8|(rw[← bt,cU];rfl)),?_⟩;refine⟨.fh (by first|rfl|exact k8|(rw[← bt,cU];rfl)),?_⟩;refine⟨.fh (by first|rfl|exact k8|(rw[← bt,cU];rfl)),?_⟩;refine⟨.fh (by first|rfl|exact k8|(rw[← bt,cU];rfl)),?_⟩;(iterate 2 refine aC ?_);exact trivial)) (by(refine aF ?_;refine aF ?_;refine⟨.box _ rfl ?_,?_⟩;refine⟨.fj (by first|rfl|exact k8|(rw[← bt,cU];rfl)) rfl,?_⟩;refine⟨.fj (by first|rfl|exact k8|(rw[← bt,cU];rfl)) rfl,?_⟩;refine⟨.fj (by first|rfl|exact k8|(rw[← bt,cU];rfl)) rfl,?_⟩;refine⟨.fh (by first|rfl|exact k8|(rw[← bt,cU];rfl)),?_⟩;refine⟨.fj (by first|rfl|exact k8|(rw[← bt,cU];rfl)) rfl,?_⟩;refine⟨.fh (by first|rfl|exact k8|(rw[← bt,cU];rfl)),?_⟩;refine⟨.fj (by first|rfl|exact k8|(rw[← bt,cU];rfl)) rfl,?_⟩;refine⟨.fj (by first|rfl|exact k8|(rw[← bt,cU];rfl)) rfl,?_⟩;refine⟨.fh (by first|rfl|exact k8|(rw[← bt,cU];rfl)),?_⟩;refine⟨.fh (by first|rfl|exact k8|(rw[← bt,cU];rfl)),?_⟩;refine⟨.fh (by first|rfl|exact k8|(rw[← bt,cU];rfl)),?_⟩;refine⟨.fj (by first|rfl|exact k8|(rw[← bt,cU];rfl)) rfl,?_⟩;refine⟨.fh (by first|rfl|exact k8|(rw[← bt,cU];rfl)),?_⟩;refine⟨.ia (by first|rfl|exact k8|(rw[← bt,cU];rfl)),?_⟩;refine⟨.ia (by first|rfl|exact k8|(rw[← bt,cU];rfl)),?_⟩;exact trivial;(iterate 3 refine aF ?_);refine⟨.ff rfl (by first|rfl|exact k8|(rw[← bt,cU];rfl)),?_⟩;(iterate 2 refine aF ?_);refine⟨.ff rfl (by first|rfl|exact k8|(rw[← bt,cU];rfl)),?_⟩;refine aF ?_;refine⟨.ff rfl (by first|rfl|exact k8|(rw[← bt,cU];rfl)),?_⟩;refine aF ?_;exact trivial)) rfl⟩
 ·obtain rfl:i=(s.cl j).length:=by omega
  have hD:=hR.fin hs hm
  have D4:=hD.pos
  obtain⟨a0,rfl⟩:∃a0,k=a0+1:=⟨k - 1,by omega⟩
  have ek:((a0+1:Nat):Int) - 1=(a0:Int):=by omega
  (refine jB ?_;refine pW ?_;refine zo ?_;refine vj ?_;refine zo ?_;refine mj ?_;refine DV ?_;refine AW.block ?_)
  (refine J0 ?_;apply AW.gP [6,7,8,9,1,11,0,1000] [12,11,0,1,2,3,4,5,6,7,8,9,10] (fun a:Nat=>([(10,e7 (a:Nat))]:List (Nat×AV))) (fun a:Nat=>([]:List (Nat×Option Ob))) (fun a:Nat=>(nk n s j0 (a+1) sl rest op tz∧a≤a0)) (fun a:Nat=>a) (a0);(conv=>lhs;simp only[Nf.n7,Nf.all,di,reduceAdd,reduceSub]);(all_goals skip))
  ·exact⟨hD,aP _⟩
  ·exact fy rfl (by(refine⟨.fh (by first|rfl|(rw[ek])),?_⟩;refine⟨.fj (by first|rfl|(rw[ek])) rfl,?_⟩;refine⟨.fj (by first|rfl|(rw[ek])) rfl,?_⟩;refine⟨.fh (by first|rfl|(rw[ek])),?_⟩;refine⟨.fh (by first|rfl|(rw[ek])),?_⟩;refine⟨.fh (by first|rfl|(rw[ek])),?_⟩;refine⟨.fh (by first|rfl|(rw[ek])),?_⟩;(iterate 2 refine aC ?_);exact trivial)) (by(refine aF ?_;refine aF ?_;refine⟨.box _ rfl ?_,?_⟩;refine⟨.fj (by first|rfl|(rw[ek])) rfl,?_⟩;refine⟨.fj (by first|rfl|(rw[ek])) rfl,?_⟩;refine⟨.fj (by first|rfl|(rw[ek])) rfl,?_⟩;refine⟨.fh (by first|rfl|(rw[ek])),?_⟩;refine⟨.fj (by first|rfl|(rw[ek])) rfl,?_⟩;refine⟨.fh (by first|rfl|(rw[ek])),?_⟩;refine⟨.fj (by first|rfl|(rw[ek])) rfl,?_⟩;refine⟨.fj (by first|rfl|(rw[ek])) rfl,?_⟩;refine⟨.fh (by first|rfl|(rw[ek])),?_⟩;refine⟨.fh (by first|rfl|(rw[ek])),?_⟩;refine⟨.fh (by first|rfl|(rw[ek])),?_⟩;refine⟨.fj (by first|rfl|(rw[ek])) rfl,?_⟩;refine⟨.fh (by first|rfl|(rw[ek])),?_⟩;refine⟨.ia (by first|rfl|(rw[ek])),?_⟩;refine⟨.ia (by first|rfl|(rw[ek])),?_⟩;exact trivial;(iterate 3 refine aF ?_);refine⟨.ff rfl (by first|rfl|(rw[ek])),?_⟩;(iterate 2 refine aF ?_);refine⟨.ff rfl (by first|rfl|(rw[ek])),?_⟩;refine aF ?_;refine⟨.ff rfl (by first|rfl|(rw[ek])),?_⟩;refine aF ?_;exact trivial)) rfl
  rintro a ⟨hE,hle⟩
  have hak:=hE.hk
  have Cg:(a:Int).toNat<(s.ll 0).length:=by omega
  obtain⟨y,hy⟩:∃y,y=(s.ll 0)[(a:Int).toNat]:=⟨_,rfl⟩
  have Ey:(s.ll 0)[a]=y:=hy.symm
  have xu:=hs.iK.xz _ (cZ Cg)
  rw[← hy] at xu
  have JI:0≤max y (-y):=by omega
  have Dd:(max y (-y)).toNat<sl.length:=by omega
  have V5:(max y (-y)).toNat<s.reason.length:=by omega
  rw[hy] at xu JI Dd
  have Lg:sl.getD (fm (s.ll 0)[a]) false=sl[(max (s.ll 0)[(a:Int).toNat] (-(s.ll 0)[(a:Int).toNat])).toNat]:=tg Dd
  cases q6:sl[(max (s.ll 0)[(a:Int).toNat] (-(s.ll 0)[(a:Int).toNat])).toNat] with
  |false=>
   have Ra:(!sl[(max (s.ll 0)[(a:Int).toNat] (-(s.ll 0)[(a:Int).toNat])).toNat])=true:=by rw[q6];rfl
   have hd:=hE.down (by rw[Lg];exact q6)
   have hdp:=hd.pos
   obtain⟨a1,rfl⟩:∃a1,a=a1+1:=⟨a - 1,by omega⟩
   have uQ:((a1+1:Nat):Int) - 1=(a1:Int):=by omega
   ((iterate 2 refine zo ?_);(with_reducible apply AW.gk);exact rfl;exact rfl;kernel_rfl;(with_reducible assumption);refine a_.gg rfl rfl rfl ?_;refine Eb ?_;refine iL ?_;(with_reducible apply a_.fa 4);(iterate 8 exact rfl);exact ab;exact ab;refine aw ?_;refine Eb ?_;refine iL ?_;(with_reducible apply a_.fa 4);(iterate 8 exact rfl);exact ab;exact ab;refine aw ?_;refine Qa ?_;refine au ?_;refine a_.not rfl rfl rfl ?_;refine zd ?_;refine AW.DL rfl rfl (by assumption) ?_;refine F7 ?_;refine AW.skip ?_;refine C4 ?_;refine J0 ?_;refine zm ?_;refine DV ?_)
   exact⟨a1,⟨hd,by omega⟩,by omega,fy rfl (by(refine⟨.fh (by first|rfl|(rw[uQ])),?_⟩;refine⟨.fj (by first|rfl|(rw[uQ])) rfl,?_⟩;refine⟨.fj (by first|rfl|(rw[uQ])) rfl,?_⟩;refine⟨.fh (by first|rfl|(rw[uQ])),?_⟩;refine⟨.fh (by first|rfl|(rw[uQ])),?_⟩;refine⟨.fh (by first|rfl|(rw[uQ])),?_⟩;refine⟨.fh (by first|rfl|(rw[uQ])),?_⟩;(iterate 2 refine aC ?_);exact trivial)) (by(refine aF ?_;refine aF ?_;refine⟨.box _ rfl ?_,?_⟩;refine⟨.fj (by first|rfl|(rw[uQ])) rfl,?_⟩;refine⟨.fj (by first|rfl|(rw[uQ])) rfl,?_⟩;refine⟨.fj (by first|rfl|(rw[uQ])) rfl,?_⟩;refine⟨.fh (by first|rfl|(rw[uQ])),?_⟩;refine⟨.fj (by first|rfl|(rw[uQ])) rfl,?_⟩;refine⟨.fh (by first|rfl|(rw[uQ])),?_⟩;refine⟨.fj (by first|rfl|(rw[uQ])) rfl,?_⟩;refine⟨.fj (by first|rfl|(rw[uQ])) rfl,?_⟩;refine⟨.fh (by first|rfl|(rw[uQ])),?_⟩;refine⟨.fh (by first|rfl|(rw[uQ])),?_⟩;refine⟨.fh (by first|rfl|(rw[uQ])),?_⟩;refine⟨.fj (by first|rfl|(rw[uQ])) rfl,?_⟩;refine⟨.fh (by first|rfl|(rw[uQ])),?_⟩;refine⟨.ia (by first|rfl|(rw[uQ])),?_⟩;refine⟨.ia (by first|rfl|(rw[uQ])),?_⟩;exact trivial;(iterate 3 refine aF ?_);refine⟨.ff rfl (by first|rfl|(rw[uQ])),?_⟩;(iterate 2 refine aF ?_);refine⟨.ff rfl (by first|rfl|(rw[uQ])),?_⟩;refine aF ?_;refine⟨.ff rfl (by first|rfl|(rw[uQ])),?_⟩;refine aF ?_;exact trivial)) rfl⟩
  |true=>
   have Ra:(!sl[(max (s.ll 0)[(a:Int).toNat] (-(s.ll 0)[(a:Int).toNat])).toNat])=false:=by rw[q6];rfl
   have Us:sl.getD (fm (s.ll 0)[a]) false=true:=by rw[Lg];exact q6
   have Vy:(max (s.ll 0)[(a:Int).toNat] (-(s.ll 0)[(a:Int).toNat])).toNat<s.reason.length:=by rw[← hy];exact V5
   by_cases St:op=1
   ·subst St
    have lQ:=hE.out hs Us
    ((iterate 2 refine zo ?_);(with_reducible apply AW.gk);exact rfl;exact rfl;kernel_rfl;(with_reducible assumption);refine a_.gg rfl rfl rfl ?_;refine Eb ?_;refine iL ?_;(with_reducible apply a_.fa 4);(iterate 8 exact rfl);exact ab;exact ab;refine aw ?_;refine Eb ?_;refine iL ?_;(with_reducible apply a_.fa 4);(iterate 8 exact rfl);exact ab;exact ab;refine aw ?_;refine Qa ?_;refine au ?_;refine a_.not rfl rfl rfl ?_;refine zd ?_;refine AW.y_ rfl rfl (by assumption) ?_;refine H8 ?_;refine jB ?_;refine Eb ?_;refine iL ?_;(with_reducible apply a_.fa 4);(iterate 8 exact rfl);exact ab;exact ab;refine aw ?_;refine kh ?_;refine mj ?_;refine a_.sub rfl rfl rfl rfl rfl aJ ?_;refine rW ?_;refine JQ ?_;refine wN ?_;refine zm ?_;refine a_.neg rfl rfl rfl aJ ?_;(with_reducible apply a_.vV);(iterate 7 exact rfl);omega;exact aa;(with_reducible apply a_.gA);(iterate 4 exact rfl);exact ag;(iterate 3 exact rfl);refine rM ?_;refine AW.lE 24 ?_)
    refine Stop.go ?_
    refine AW.ym 7 12 s.nc 7 (us:= -(s.ll 0)[(a:Int).toNat]::rest) rfl rfl rfl rfl (hs.fresh s.nc (aP _)).2 fun v_ JN=>?_
    refine aB ?_
    (refine zq ?_;(iterate 2 refine zm ?_);refine lj ?_;refine AW.ret ?_;(iterate 2 refine xM ?_))
    (apply gS (((v_,-(s.ll 0)[(a:Int).toNat]::rest,tz):Value×List Int×Int)) (⟨JN,lQ⟩);((exact gn.two (.tmp rfl rfl) (.tmp rfl rfl)));((exact py));((exact Jf));exact rfl)
   ·obtain⟨j',n8,hj'n,hN⟩:=hE.next hs Us St
    have ZY:=hE.op
    have r7:s.reason[(max (s.ll 0)[(a:Int).toNat] (-(s.ll 0)[(a:Int).toNat])).toNat]'Vy=(j':Int):=by rw[← fF Vy];exact n8
    have uS:(op:Int) - 1=((op - 1:Nat):Int):=by omega
    ((iterate 2 refine zo ?_);(with_reducible apply AW.gk);exact rfl;exact rfl;kernel_rfl;(with_reducible assumption);refine a_.gg rfl rfl rfl ?_;refine Eb ?_;refine iL ?_;(with_reducible apply a_.fa 4);(iterate 8 exact rfl);exact ab;exact ab;refine aw ?_;refine Eb ?_;refine iL ?_;(with_reducible apply a_.fa 4);(iterate 8 exact rfl);exact ab;exact ab;refine aw ?_;refine Qa ?_;refine au ?_;refine a_.not rfl rfl rfl ?_;refine zd ?_;refine AW.y_ rfl rfl (by assumption) ?_;refine H8 ?_;refine jB ?_;refine Eb ?_;refine iL ?_;(with_reducible apply a_.fa 4);(iterate 8 exact rfl);exact ab;exact ab;refine aw ?_;refine kh ?_;refine mj ?_;refine a_.sub rfl rfl rfl rfl rfl aJ ?_;refine rW ?_;refine Cm ?_;refine qJ ?_;refine AZ ?_;refine a_.b_ 92 2 2 rfl rfl rfl rfl ?_;refine zb ?_;refine JZ ?_;refine s8 ?_;refine au ?_;refine za ?_;refine zu ?_)
    exact⟨(⟨sl,rest,op - 1,tz,a,(s.ll 0)[(a:Int).toNat],j'⟩:AQ),hN,by show a<a0+1;omega,fy rfl (by(refine⟨.fh (by first|rfl|(rw[uS])|(rw[r7])),?_⟩;refine⟨.fj (by first|rfl|(rw[uS])|(rw[r7])) rfl,?_⟩;refine⟨.fj (by first|rfl|(rw[uS])|(rw[r7])) rfl,?_⟩;refine⟨.fh (by first|rfl|(rw[uS])|(rw[r7])),?_⟩;refine⟨.fh (by first|rfl|(rw[uS])|(rw[r7])),?_⟩;refine⟨.fh (by first|rfl|(rw[uS])|(rw[r7])),?_⟩;refine⟨.fh (by first|rfl|(rw[uS])|(rw[r7])),?_⟩;(iterate 2 refine aC ?_);exact trivial)) (by(refine aF ?_;refine aF ?_;refine⟨.box _ rfl ?_,?_⟩;refine⟨.fj (by first|rfl|(rw[uS])|(rw[r7])) rfl,?_⟩;refine⟨.fj (by first|rfl|(rw[uS])|(rw[r7])) rfl,?_⟩;refine⟨.fj (by first|rfl|(rw[uS])|(rw[r7])) rfl,?_⟩;refine⟨.fh (by first|rfl|(rw[uS])|(rw[r7])),?_⟩;refine⟨.fj (by first|rfl|(rw[uS])|(rw[r7])) rfl,?_⟩;refine⟨.fh (by first|rfl|(rw[uS])|(rw[r7])),?_⟩;refine⟨.fj (by first|rfl|(rw[uS])|(rw[r7])) rfl,?_⟩;refine⟨.fj (by first|rfl|(rw[uS])|(rw[r7])) rfl,?_⟩;refine⟨.fh (by first|rfl|(rw[uS])|(rw[r7])),?_⟩;refine⟨.fh (by first|rfl|(rw[uS])|(rw[r7])),?_⟩;refine⟨.fh (by first|rfl|(rw[uS])|(rw[r7])),?_⟩;refine⟨.fj (by first|rfl|(rw[uS])|(rw[r7])) rfl,?_⟩;refine⟨.fh (by first|rfl|(rw[uS])|(rw[r7])),?_⟩;refine⟨.ia (by first|rfl|(rw[uS])|(rw[r7])),?_⟩;refine⟨.ia (by first|rfl|(rw[uS])|(rw[r7])),?_⟩;exact trivial;(iterate 3 refine aF ?_);refine⟨.ff rfl (by first|rfl|(rw[uS])|(rw[r7])),?_⟩;(iterate 2 refine aF ?_);refine⟨.ff rfl (by first|rfl|(rw[uS])|(rw[r7])),?_⟩;refine aF ?_;refine⟨.ff rfl (by first|rfl|(rw[uS])|(rw[r7])),?_⟩;refine aF ?_;exact trivial)) rfl⟩
end Go.Ab
/- The solver:a clause attached,the bounds told of the two lists alone. -/
namespace Go.Ab
open Go Go.Proofs
open Nat (reduceAdd reduceSub)
set_option maxRecDepth 20000
set_option maxHeartbeats 4000000
attribute [local irreducible] gC AW a_ ga ft AR fB fp fG fU jw lA eW
theorem wa (s:SR) (x y:Int) (r:List Int) (hc:s.cl s.nc=x::y::r) (Xc:eW x≠eW y) (hx:0≤eW x∧(eW x).toNat<s.nw) (hy:0≤eW y∧(eW y).toNat<s.nw) (hbx: -1000000≤x∧x≤1000000) (Ie: -1000000≤y∧y≤1000000)
  (hl:s.nc≤1000000) (Vg:(s.wl (eW x).toNat).length≤1000000) (Wi:(s.wl (eW y).toNat).length≤1000000) (zE:s.nw≤1000000) (UZ:r.length≤1000000):
  uo Tryz.prog 50 11 (hX s) [.ptr 0 0,.pv (.lit (s.hc s.nc))] (fun h:Value×Value=>h.1.oneCell'=true∧h.2.oneCell'=true) (fun h=>hX (j_ (j_ {s with nc:=s.nc+1} x s.nc h.1) y s.nc h.2)) (fun _=>e7 s.nc):=by
 have jq:2≤(s.cl s.nc).length:=by rw[hc];simp
 have e0:=k9 s.nc s.hc
 have e1:∀h,(gC s.nw h).length=s.nw:=k9 s.nw
 simp only[hX,hZ]
 refine uo.enter (n:=50) Tryz.func50 rfl rfl rfl rfl rfl (by decide) rfl (fun _=>rfl) fun g fE fD=>?_;refine qz ?_
 refine AW.Aq 7 rfl fun WL V4=>?_
 (refine zq ?_;refine sM ?_;refine Ki ?_;refine zb ?_;refine a_.k9 rfl rfl rfl rfl ?_;refine sM ?_;refine zV ?_;refine a_.b_ 94 1 6 rfl rfl rfl rfl ?_;refine iL ?_;(with_reducible apply a_.nK);(iterate 5 exact rfl);exact ag;exact rfl;exact rfl;refine J0 ?_;(with_reducible apply a_.fJ);exact rfl;exact ah;(iterate 9 exact rfl);exact aa;refine JY ?_;refine a_.b_ 94 1 6 rfl rfl rfl rfl ?_;(with_reducible apply a_.gv);(iterate 5 exact rfl);exact ag;(iterate 3 exact rfl);(with_reducible assumption);refine rM ?_;refine mD ?_;(with_reducible apply a_.ub 7);(iterate 8 exact rfl);exact ab;exact ab;(with_reducible apply a_.DM 7);(iterate 5 exact rfl);exact ab;refine CX ?_)
 (refine J0 ?_;apply AW.gP [25,24,5,4,0,1000] [1,2,3,4,5,6,7,8,10] (fun q:Nat×(Nat→Value)×(Nat→List Int)=>([(26,e7 q.1)]:List (Nat×AV))) (fun q:Nat×(Nat→Value)×(Nat→List Int)=>([(0,some (.box [.own 1 3 1 ((s.value).map encI),.own 2 3 1 ((s.level).map encI),.own 3 3 1 ((s.reason).map encI),.pv (.lit (s.hl 0)),.own 5 3 1 ((s.marks).map encI),e7 (s.low),.own 6 29 1 (gC (s.nc+1) s.hc),.own 8 29 1 (gC s.nw q.2.1),e7 (s.head),e7 (s.added),fu (s.broken),.own 10 65 3 ((s.proof).map mI),e7 0,.pv (jX (s.model)),.pv (jX (s.core))])),(9,some (.ff 3 (kl q.2.1 q.2.2)))]:List (Nat×Option Ob))) (fun q:Nat×(Nat→Value)×(Nat→List Int)=>AtI s x y q.1 q.2.1 q.2.2) (fun q:Nat×(Nat→Value)×(Nat→List Int)=>2 - q.1) (((0:Nat),s.hw,s.wl));(conv=>lhs;simp only[Nf.n7,Nf.all,di,reduceAdd,reduceSub]);(all_goals skip))
 ·exact⟨by omega,fun _=>⟨rfl,rfl⟩,fun h=>by omega,fun h=>by omega⟩
 ·exact fy rfl (by(refine⟨.fh (by first|rfl|(rw[← fz])|exact fz _ _),?_⟩;refine⟨.fh (by first|rfl|(rw[← fz])|exact fz _ _),?_⟩;refine⟨.fh (by first|rfl|(rw[← fz])|exact fz _ _),?_⟩;refine⟨.fh (by first|rfl|(rw[← fz])|exact fz _ _),?_⟩;refine⟨.fh (by first|rfl|(rw[← fz])|exact fz _ _),?_⟩;(iterate 2 refine aC ?_);exact trivial)) (by(refine⟨.box _ rfl ?_,?_⟩;refine⟨.fj (by first|rfl|(rw[← fz])|exact fz _ _) rfl,?_⟩;refine⟨.fj (by first|rfl|(rw[← fz])|exact fz _ _) rfl,?_⟩;refine⟨.fj (by first|rfl|(rw[← fz])|exact fz _ _) rfl,?_⟩;refine⟨.fh (by first|rfl|(rw[← fz])|exact fz _ _),?_⟩;refine⟨.fj (by first|rfl|(rw[← fz])|exact fz _ _) rfl,?_⟩;refine⟨.fh (by first|rfl|(rw[← fz])|exact fz _ _),?_⟩;refine⟨.fj (by first|rfl|(rw[← fz])|exact fz _ _) rfl,?_⟩;refine⟨.fj (by first|rfl|(rw[← fz])|exact fz _ _) rfl,?_⟩;refine⟨.fh (by first|rfl|(rw[← fz])|exact fz _ _),?_⟩;refine⟨.fh (by first|rfl|(rw[← fz])|exact fz _ _),?_⟩;refine⟨.fh (by first|rfl|(rw[← fz])|exact fz _ _),?_⟩;refine⟨.fj (by first|rfl|(rw[← fz])|exact fz _ _) rfl,?_⟩;refine⟨.fh (by first|rfl|(rw[← fz])|exact fz _ _),?_⟩;refine⟨.ia (by first|rfl|(rw[← fz])|exact fz _ _),?_⟩;refine⟨.ia (by first|rfl|(rw[← fz])|exact fz _ _),?_⟩;exact trivial;refine⟨.ff rfl (by first|rfl|(rw[← fz])|exact fz _ _),?_⟩;(iterate 3 refine aF ?_);refine⟨.ff rfl (by first|rfl|(rw[← fz])|exact fz _ _),?_⟩;(iterate 2 refine aF ?_);refine⟨.ff rfl (by first|rfl|(rw[← fz])|exact fz _ _),?_⟩;(iterate 2 refine aF ?_);exact trivial)) rfl
 rintro⟨k,hw,wl⟩ ⟨hk,i0,i1,i2⟩
 simp only at hk i0 i1 i2
 by_cases fx:k<2
 ·have Ha:(k:Int).toNat<(s.cl s.nc).length:=by omega
  obtain⟨z,hz⟩:∃z,z=(s.cl s.nc)[(k:Int).toNat]:=⟨_,rfl⟩
  have C7:(0≤eW z∧(eW z).toNat<s.nw)∧ -1000000≤z∧z≤1000000:=by
   have sd:k=0∨k=1:=by omega
   rcases sd with rfl|rfl
   ·have e:z=x:=by rw[hz];simp [hc]
    rw[e];exact⟨hx,hbx⟩
   ·have e:z=y:=by rw[hz];simp [hc]
    rw[e];exact⟨hy,Ie⟩
  have mh:(k=0→z=x)∧(k=1→z=y):=⟨by rintro rfl;rw[hz];simp [hc],by rintro rfl;rw[hz];simp [hc]⟩
  have hw2:(wl (eW z).toNat).length≤2000000:=by
   have sd:k=0∨k=1:=by omega
   rcases sd with rfl|rfl
   ·obtain⟨_,rfl⟩:=i0 rfl
    rw[mh.1 rfl];omega
   ·obtain⟨_,_,_,rfl⟩:=i1 rfl
    rw[mh.2 rfl,fA _ _ (fun e=>Xc aJ)];omega
  rw[hz] at C7 hw2
  obtain⟨⟨r1,r2⟩,r3⟩:=C7
  have EK:=vq _ r3
  (refine qa ?_;(with_reducible apply a_.zD 7);(iterate 8 exact rfl);exact ab;exact ab;exact ab;refine ax ?_;refine kh ?_;refine AW.gB [0,1,2,3,4,6,7,8,9,10,14] [18] rfl (by assumption) aI aI rfl ?_;show a_ .held _ _ _ [_,_,_,_,_,_,_,_,_,_,_] _ _;refine xP ?_;refine iL ?_;refine xP ?_;refine Be ?_;refine J4 ?_;intro k_ ja;refine J0 ?_;apply AR.cut [14,10,9,8,7,6,4,3,2,1,0,5,11,12,13,15];intro nA;apply AR.cut [14,10,9,8,7,6,4,3,2,1,0,5,11,12,15];intro qK;apply AR.cut [14,10,9,8,7,6,4,3,2,1,0,5,11,15];intro pP;apply AR.cut [14,10,9,8,7,6,4,3,2,1,0,5,15];intro tB;(refine AR.gX (i:=5) (j:=15) rfl aI rfl rfl ?_ ?_<;>intro g_ c_ gh);refine zA (EK) ?_;refine J4 ?_;(refine AR.gX (i:=11) (j:=15) rfl aI rfl rfl ?_ ?_<;>intro g_ c_ gh);refine zA (EK) ?_;refine J4 ?_;(refine AR.gX (i:=12) (j:=15) rfl aI rfl rfl ?_ ?_<;>intro g_ c_ gh);refine uW ?_;(refine AR.gX (i:=13) (j:=15) rfl aI rfl rfl ?_ ?_<;>intro g_ c_ gh);refine a_.jI rfl rfl rfl rfl (fun h_=>by cases h_) aJ ?_;refine J4 ?_;refine AR.fM (i:=15) rfl aI rfl ?_;intro g_ c_ gh;(with_reducible apply a_.nK);(iterate 5 exact rfl);exact ag;exact rfl;exact rfl;refine mV ?_;refine aB ?_;exact x8;(with_reducible apply a_.nK);(iterate 5 exact rfl);exact ag;exact rfl;exact rfl;refine mV ?_;refine aB ?_;exact HE;(with_reducible apply a_.nK);(iterate 5 exact rfl);exact ag;exact rfl;exact rfl;refine mV ?_;refine aB ?_;refine u0 ?_;exact AR.perm aI pP;(with_reducible apply a_.nK);(iterate 5 exact rfl);exact ag;exact rfl;exact rfl;refine mV ?_;refine aB ?_;refine u0 ?_;exact AR.perm aI tB;(with_reducible apply a_.nK);(iterate 5 exact rfl);exact ag;exact rfl;exact rfl;refine mV ?_;refine AR.fM (i:=5) rfl aI rfl ?_;intro g_ c_ gh;refine zA (EK) ?_;refine J4 ?_;refine aB ?_;refine AR.meet tB aI (fun g_=>fy rfl ?_ ?_ rfl);(iterate 24 refine aC ?_);exact trivial;exact UR;refine AR.fM (i:=11) rfl aI rfl ?_;intro g_ c_ gh;refine zA (EK) ?_;refine J4 ?_;refine aB ?_;refine AR.meet pP aI (fun g_=>fy rfl ?_ ?_ rfl);(iterate 25 refine aC ?_);exact trivial;exact UR;refine AR.fM (i:=12) rfl aI rfl ?_;intro g_ c_ gh;refine uW ?_;refine aB ?_;refine AR.meet qK aI (fun g_=>fy rfl ?_ ?_ rfl);(iterate 26 refine aC ?_);exact trivial;exact UR;refine AR.fM (i:=13) rfl aI rfl ?_;intro g_ c_ gh;refine a_.jI rfl rfl rfl rfl (fun h_=>by cases h_) aJ ?_;refine J4 ?_;refine aB ?_;refine AR.meet nA aI (fun g_=>fy rfl ?_ ?_ rfl);(iterate 27 refine aC ?_);exact trivial;exact UR;refine AR.fM (i:=16) rfl aI rfl ?_;intro g_ c_ gh;(with_reducible apply a_.ma 9);exact rfl;exact rfl;exact ah;(iterate 8 exact rfl);omega;(intro v_ JN);refine mV ?_;refine AR.iI [17] aI aI aI aI ?_;intro g_ c_;show a_ .held _ _ _ [_] _ _;refine uW ?_;intro k_ ja;refine J0 ?_;refine AR.gY (i:=18) rfl aI rfl aI ?_;intro g_ c_ fk;(with_reducible apply a_.gA);(iterate 4 exact rfl);exact ag;(iterate 3 exact rfl);refine wz ?_;refine C4 ?_;refine yy ?_)
  rw[← hz] at*
  refine⟨(k+1,fb hw (eW z).toNat v_,fb wl (eW z).toNat (wl (eW z).toNat++ [(s.nc:Int)])),⟨by omega,fun h=>by simp at h,fun h=>?_,fun h=>?_⟩,by show 2 - (k+1)<2 - k;omega,fy rfl (by(refine NV ?_;(iterate 4 refine⟨.fh (by first|rfl|exact fT _ r2 _),?_⟩);exact Kl)) (by(refine⟨.box _ rfl ?_,?_⟩;(iterate 3 refine⟨.fj (by first|rfl|exact fT _ r2 _) rfl,?_⟩);refine NV ?_;refine⟨.fj (by first|rfl|exact fT _ r2 _) rfl,?_⟩;refine NV ?_;(iterate 2 refine⟨.fj (by first|rfl|exact fT _ r2 _) rfl,?_⟩);(iterate 3 refine⟨.fh (by first|rfl|exact fT _ r2 _),?_⟩);refine⟨.fj (by first|rfl|exact fT _ r2 _) rfl,?_⟩;refine NV ?_;(iterate 2 refine⟨.ia (by first|rfl|exact fT _ r2 _),?_⟩);exact trivial;refine OT ?_;(iterate 3 refine aF ?_);refine OT ?_;(iterate 2 refine aF ?_);refine OT ?_;(iterate 2 refine aF ?_);exact trivial)) rfl⟩
  ·obtain rfl:k=0:=by simpa using h
   obtain⟨rfl,rfl⟩:=i0 rfl
   rw[mh.1 rfl]
   exact⟨v_,JN,rfl,rfl⟩
  ·obtain rfl:k=1:=by simpa using h
   obtain⟨h1,q1,rfl,rfl⟩:=i1 rfl
   rw[mh.2 rfl]
   exact⟨h1,v_,q1,JN,rfl,rfl⟩
 ·obtain rfl:k=2:=by omega
  obtain⟨h1,h2,q1,q2,rfl,rfl⟩:=i2 rfl
  (refine jB ?_;refine pW ?_;refine zo ?_;refine AW.jV rfl rfl ?_;refine H8 ?_;refine mj ?_;refine kH ?_)
  (apply gS (((h1,h2):Value×Value)) (⟨q1,q2⟩);((exact gn.one (.tmp rfl rfl)));((exact Bb));((exact J2));exact rfl)
end Go.Ab
/- The solver:a learned clause asserted,walked. -/
namespace Go.Ab
open Go Go.Proofs
open Nat (reduceAdd reduceSub)
set_option maxRecDepth 20000
set_option maxHeartbeats 8000000
section
variable {P:Program} {g:e6} {δ:DS} {Q:Exit→DS→Prop}
theorem AW.LJ (h:Stop (AW P g .ret Q δ)):AW P g .ret Q δ:=h
end
theorem JV {l:List Int} (h:l.length=1) (h0:(0:Int).toNat<l.length):l=[l[(0:Int).toNat]]:=by
 match l,h with
 |[a],_=>rfl
theorem Pj {c:List Int} {m:Nat} (h2:2≤c.length) (h:1≤m) (hm:m<c.length):c0 ((c.set 1 c[m]).set m (c[1]'(by omega)))=c0 c∧c1 ((c.set 1 c[m]).set m (c[1]'(by omega)))=c[m]:=by
 match c,m,h,hm,h2 with
 |a::b::r,1,_,_,_=>exact⟨rfl,rfl⟩
 |a::b::r,k+2,_,hk,_=>exact⟨rfl,by simp [c1]⟩
theorem JT {D:List Int} (h:2≤D.length):D=c0 D::c1 D::D.drop 2:=by
 match D,h with
 |a::b::r,_=>rfl
theorem qj {l:List Int} {m:Nat} (h:1≤m) (hm:m<l.length):l[m]∈l.tail:=by
 match l,m,h,hm with
 |a::r,k+1,_,hk=>simp
theorem wK {u:SR} {l:List Int} {m:Nat} (h:∀p (hp:p<l.length) (hq:m<l.length),1≤p→p<l.length→fi u l[p]≤fi u l[m]) (hm:m<l.length):∀x∈l.tail,fi u x≤fi u l[m]:=fun x hx=>by
 obtain⟨i,hi,rfl⟩:=List.getElem_of_mem hx
 rw[List.length_tail] at hi
 rw[List.getElem_tail]
 exact h (i+1) aJ hm aJ (by omega)
def JH (u q:SR):Prop:=
 (∃p h,u.cl u.nc=[p]∧q=fL {u with hc:=fb u.hc u.nc (.slice none 0 0),cl:=fb u.cl u.nc [],proof:=u.proof++ [u.cl u.nc]} p (-1) h)∨
 ∃l' h1 h2 h,2≤(u.cl u.nc).length∧lC (u.cl u.nc) l'∧c0 l'=c0 (u.cl u.nc)∧c1 l'∈(u.cl u.nc).tail∧(∀x∈(u.cl u.nc).tail,fi u x≤fi u (c1 l'))∧q=fL (j_ (j_ {u with nc:=u.nc+1,cl:=fb u.cl u.nc l',proof:=u.proof++ [u.cl u.nc]} (c0 l') u.nc h1) (c1 l') u.nc h2) (c0 l') u.nc h
attribute [local irreducible] gC AW a_ ga ft AR fB fp fG fU jw lA eW
theorem Hv (n:Nat) (u:SR) (hn:n≤20000) (hl:0<(u.cl u.nc).length) (kz:(u.cl u.nc).length≤1000000) (o9:∀x∈u.cl u.nc,Lit n x) (jy:(u.cl u.nc).Nodup) (hv:u.value.length=n+1) (pk:u.level.length=n+1) (hr:u.reason.length=n+1) (E3:(u.ll 0).length≤1000000) (hm:u.marks.length≤1000000) (hp:u.proof.length≤1000000) (yh:u.nc≤1000000) (zE:u.nw=2*n+2) (A5:∀x,Lit n x→(u.wl (eW x).toNat).length≤1000000):
  uo Tryz.prog 55 11 (hX u) [.ptr 0 0,.pv (.lit (u.hc u.nc))] (fun q:SR=>JH u q) (fun q=>hX q) (fun _=> .gM []):=by
 have nq:=Ga u kz hp hl
 have mE:(0:Int).toNat<(u.cl u.nc).length:=show 0<_ by omega
 have Ry:=o9 _ (cZ mE)
 obtain⟨_,_,_⟩:=Ry
 by_cases h1:(u.cl u.nc).length=1
 ·have Lh:=qC {u with proof:=u.proof++ [u.cl u.nc]} (u.cl u.nc)[(0:Int).toNat] (-1) aJ (by show _<(u.value.length:Int)∧_<(u.value.length:Int);omega) (by show u.level.length=u.value.length;omega) (by show u.reason.length=u.value.length;omega) E3 hm
  simp only[hX,hZ] at nq Lh ⊢
  refine uo.enter (n:=87) Tryz.func55 rfl rfl rfl rfl rfl (by decide) rfl (fun _=>rfl) fun g fE fD=>?_;refine qz ?_
  (refine B6 ?_;refine zm ?_;refine zX (nq) ?_;refine kA ?_;refine zd ?_;refine mD ?_;refine a_.nL 7 rfl rfl rfl rfl rfl ?_;refine I3 ?_;refine zo ?_;refine PT ?_;show a_ .held _ _ _ [_,_,_,_,_] _ _;refine oz ?_;(with_reducible apply a_.fa 7);(iterate 8 exact rfl);exact ab;exact ab;refine J4 ?_;intro k_ ja;refine DR ?_;intro g_ c_ gh;refine ax ?_;refine vH ?_;intro g_ c_ fk;(with_reducible apply a_.kc (hf:=Lh));(with_reducible assumption);(iterate 3 exact rfl);exact aq;exact ak;(intro x_;exact rfl);exact rfl;exact al;(intro x_;exact al);(intro x_;exact rfl);exact rfl;(intro x_ pI);refine J1 ?_;refine rz ?_;refine AW.LJ ?_)
  refine Stop.go ?_
  refine AW.KF 7 u.nc rfl ?_
  refine aB ?_
  have e1:=JV h1 mE
  (refine AW.ret ?_;refine im ?_)
  (apply gS ((fL {u with hc:=fb u.hc u.nc (.slice none 0 0),cl:=fb u.cl u.nc [],proof:=u.proof++ [u.cl u.nc]} (u.cl u.nc)[(0:Int).toNat] (-1) x_:SR)) ((.inl ⟨(u.cl u.nc)[(0:Int).toNat],x_,e1,rfl⟩));((exact gn.none));((exact py));((exact Jf));exact rfl)
 ·have h2:2≤(u.cl u.nc).length:=by omega
  have yP:(1:Int).toNat<(u.cl u.nc).length:=show 1<_ by omega
  simp only[hX,hZ] at nq ⊢
  refine uo.enter (n:=87) Tryz.func55 rfl rfl rfl rfl rfl (by decide) rfl (fun _=>rfl) fun g fE fD=>?_;refine qz ?_
  (refine B6 ?_;refine zm ?_;refine zX (nq) ?_;refine kA ?_;refine zd ?_;refine mD ?_;refine a_.nL 7 rfl rfl rfl rfl rfl ?_;refine Cm ?_;refine jB ?_;refine rW ?_;refine a_.nL 7 rfl rfl rfl rfl rfl ?_;refine CX ?_)
  (refine J0 ?_;apply AW.gP [20,0,1,1000] [0,1,2,3,4,5,6,7,8,9,10] (fun q:Nat×Nat=>([(4,e7 (q.1:Nat)),(21,e7 (q.2:Nat))]:List (Nat×AV))) (fun q:Nat×Nat=>([]:List (Nat×Option Ob))) (fun q:Nat×Nat=>(1≤q.1∧q.1<(u.cl u.nc).length∧q.2≤(u.cl u.nc).length∧∀p (hp:p<(u.cl u.nc).length) (hq:q.1<(u.cl u.nc).length),1≤p→p<q.2→fi u (u.cl u.nc)[p]≤fi u (u.cl u.nc)[q.1])) (fun q:Nat×Nat=>(u.cl u.nc).length - q.2) (((1,0):Nat×Nat));(conv=>lhs;simp only[Nf.n7,Nf.all,di,reduceAdd,reduceSub]);(all_goals skip))
  ·exact⟨aP _,h2,Nat.zero_le _,fun p _ _ q1 q2=>by omega⟩
  ·exact fy rfl (by(refine aD ?_;(iterate 2 refine aD ?_);refine aC ?_;refine aD ?_;refine aC ?_;exact trivial)) (by(refine⟨.box _ rfl ?_,?_⟩;(iterate 3 refine aE ?_);refine aD ?_;refine aE ?_;refine aD ?_;(iterate 2 refine aE ?_);(iterate 3 refine aD ?_);refine aE ?_;refine aD ?_;(iterate 2 refine aG ?_);exact trivial;(iterate 3 refine aF ?_);refine aH ?_;(iterate 2 refine aF ?_);refine aH ?_;refine aF ?_;refine aH ?_;refine aF ?_;exact trivial)) rfl
  rintro⟨m,i⟩ ⟨E4,ql,hi,nC⟩
  simp only at E4 ql hi nC
  by_cases fx:i<(u.cl u.nc).length
  ·have uq:(i:Int).toNat<(u.cl u.nc).length:=by omega
   have sL:(m:Int).toNat<(u.cl u.nc).length:=by omega
   obtain⟨a1,a2,a3⟩:=o9 _ (cZ uq)
   obtain⟨b1,b2,b3⟩:=o9 _ (cZ sL)
   have JI:0≤max (u.cl u.nc)[(i:Int).toNat] (-(u.cl u.nc)[(i:Int).toNat]):=by omega
   have Dd:(max (u.cl u.nc)[(i:Int).toNat] (-(u.cl u.nc)[(i:Int).toNat])).toNat<u.level.length:=by omega
   have Ld:0≤max (u.cl u.nc)[(m:Int).toNat] (-(u.cl u.nc)[(m:Int).toNat]):=by omega
   have KX:(max (u.cl u.nc)[(m:Int).toNat] (-(u.cl u.nc)[(m:Int).toNat])).toNat<u.level.length:=by omega
   have g1:fi u (u.cl u.nc)[i]=u.level[(max (u.cl u.nc)[(i:Int).toNat] (-(u.cl u.nc)[(i:Int).toNat])).toNat]:=fF Dd
   have g2:fi u (u.cl u.nc)[m]=u.level[(max (u.cl u.nc)[(m:Int).toNat] (-(u.cl u.nc)[(m:Int).toNat])).toNat]:=fF KX
   have OM:¬(1≤i∧fi u (u.cl u.nc)[m]<fi u (u.cl u.nc)[i])→∀p (hp:p<(u.cl u.nc).length) (hq:m<(u.cl u.nc).length),1≤p→p<i+1→fi u (u.cl u.nc)[p]≤fi u (u.cl u.nc)[m]:=fun mL p hp hq q1 q2=>by
    by_cases e:p=i
    ·subst e
     apply Int.not_lt.1
     exact fun hh=>mL ⟨q1,hh⟩
    ·exact nC p hp hq q1 (by omega)
   by_cases jh:0<i
   ·have VC:decide ((i:Int)>0)=true:=by simpa using jh
    by_cases Zt:u.level[(max (u.cl u.nc)[(m:Int).toNat] (-(u.cl u.nc)[(m:Int).toNat])).toNat]<u.level[(max (u.cl u.nc)[(i:Int).toNat] (-(u.cl u.nc)[(i:Int).toNat])).toNat]
    ·have uj:∀p (hp:p<(u.cl u.nc).length) (hq:i<(u.cl u.nc).length),1≤p→p<i+1→fi u (u.cl u.nc)[p]≤fi u (u.cl u.nc)[i]:=fun p hp hq q1 q2=>by
      by_cases e:p=i
      ·subst e;exact Int.le_refl _
      ·have:=nC p hp ql q1 (by omega)
       omega
     (refine qa ?_;refine zm ?_;refine rD ?_;(with_reducible apply AW.gk);exact rfl;exact rfl;kernel_rfl;(with_reducible assumption);refine zm ?_;refine a_.gtr rfl rfl rfl rfl rfl ?_;refine zm ?_;refine NR ?_;(with_reducible apply a_.fa 7);(iterate 8 exact rfl);exact ab;exact ab;refine zt ?_;refine ax ?_;refine zh ?_;refine zm ?_;refine zt ?_;(with_reducible apply a_.fa 7);(iterate 8 exact rfl);exact ab;exact ab;refine zt ?_;refine ax ?_;refine Ny ?_;refine au ?_;refine NR ?_;(with_reducible apply a_.fa 7);(iterate 8 exact rfl);exact ab;exact ab;refine zt ?_;refine ax ?_;refine zh ?_;refine zm ?_;refine zt ?_;(with_reducible apply a_.fa 7);(iterate 8 exact rfl);exact ab;exact ab;refine zt ?_;refine ax ?_;refine Ny ?_;refine au ?_;refine zt ?_;refine a_.gtr rfl rfl rfl rfl rfl ?_;refine zT ?_;refine lq ?_;refine qJ ?_;refine zm ?_;refine za ?_;refine GK ?_;refine rC ?_)
     exact⟨((i,i+1):Nat×Nat),⟨jh,fx,fx,uj⟩,by show(u.cl u.nc).length - (i+1)<(u.cl u.nc).length - i;omega,fy rfl (by(refine aD ?_;(iterate 2 refine aD ?_);refine aC ?_;refine aD ?_;refine aC ?_;exact trivial)) (by(refine⟨.box _ rfl ?_,?_⟩;(iterate 3 refine aE ?_);refine aD ?_;refine aE ?_;refine aD ?_;(iterate 2 refine aE ?_);(iterate 3 refine aD ?_);refine aE ?_;refine aD ?_;(iterate 2 refine aG ?_);exact trivial;(iterate 3 refine aF ?_);refine aH ?_;(iterate 2 refine aF ?_);refine aH ?_;refine aF ?_;refine aH ?_;refine aF ?_;exact trivial)) rfl⟩
    ·have jc:=OM (fun q=>Zt (by rw[← g1,← g2];exact q.2))
     (refine qa ?_;refine zm ?_;refine rD ?_;(with_reducible apply AW.gk);exact rfl;exact rfl;kernel_rfl;(with_reducible assumption);refine zm ?_;refine a_.gtr rfl rfl rfl rfl rfl ?_;refine zm ?_;refine NR ?_;(with_reducible apply a_.fa 7);(iterate 8 exact rfl);exact ab;exact ab;refine zt ?_;refine ax ?_;refine zh ?_;refine zm ?_;refine zt ?_;(with_reducible apply a_.fa 7);(iterate 8 exact rfl);exact ab;exact ab;refine zt ?_;refine ax ?_;refine Ny ?_;refine au ?_;refine NR ?_;(with_reducible apply a_.fa 7);(iterate 8 exact rfl);exact ab;exact ab;refine zt ?_;refine ax ?_;refine zh ?_;refine zm ?_;refine zt ?_;(with_reducible apply a_.fa 7);(iterate 8 exact rfl);exact ab;exact ab;refine zt ?_;refine ax ?_;refine Ny ?_;refine au ?_;refine zt ?_;refine a_.gtr rfl rfl rfl rfl rfl ?_;refine zT ?_;refine F8 ?_;refine rC ?_)
     exact YL
   ·have VC:decide ((i:Int)>0)=false:=by simpa using jh
    have jc:=OM (fun q=>by omega)
    (refine qa ?_;refine zm ?_;refine rD ?_;(with_reducible apply AW.gk);exact rfl;exact rfl;kernel_rfl;(with_reducible assumption);refine zm ?_;refine a_.gtr rfl rfl rfl rfl rfl ?_;refine zm ?_;(iterate 35 refine a_.oW rfl rfl rfl rfl rfl rfl (by first|omega|decide) ?_);refine zF ?_;refine qO ?_;refine rC ?_)
    exact YL
  ·obtain rfl:i=(u.cl u.nc).length:=by omega
   have sL:(m:Int).toNat<(u.cl u.nc).length:=by omega
   obtain⟨D,hD⟩:∃D,D=((u.cl u.nc).set (1:Int).toNat (u.cl u.nc)[(m:Int).toNat]).set (m:Int).toNat (u.cl u.nc)[(1:Int).toNat]:=⟨_,rfl⟩
   have YD:(m:Int).toNat<(fb u.cl u.nc ((u.cl u.nc).set (1:Int).toNat (u.cl u.nc)[(m:Int).toNat]) u.nc).length:=by rw[e8,List.length_set];exact sL
   obtain⟨d0,d1⟩:=Pj h2 E4 ql
   have OI:D=((u.cl u.nc).set 1 (u.cl u.nc)[m]).set m ((u.cl u.nc)[1]'(by omega)):=hD
   have E9:lC (u.cl u.nc) D:=by rw[OI];exact o4 (i:=1) (k:=m) aJ ql
   rw[← OI] at d0 d1
   have QK:2≤D.length:=by rw[E9.len];exact h2
   have Yq:(0:Int).toNat<(fb u.cl u.nc D u.nc).length:=by rw[e8];show 0<_;omega
   have Rq:(fb u.cl u.nc D u.nc)[(0:Int).toNat]=c0 D:=by
    have:∀(L:List Int) (hL:(0:Int).toNat<L.length),L=D→L[(0:Int).toNat]=c0 D:=fun L hL e=>by subst e;exact(fF hL).symm
    exact this _ Yq (e8 _ _ _)
   have m0:Lit n (c0 D):=o9 _ ((E9.mem _).1 (j6 QK).1)
   have m1:Lit n (c1 D):=o9 _ ((E9.mem _).1 (j6 QK).2)
   have fZ:c0 D≠c1 D:=fun e=>by
    rw[show c0 D=D[0] from fF aJ,show c1 D=D[1] from fF aJ] at e
    have:=(List.getElem_inj (E9.nd jy) (h₀:=by omega) (h₁:=by omega)).1 e
    omega
   have Vg:=A5 _ m0
   have Wi:=A5 _ m1
   have i0:=ix m0
   have i1:=ix m1
   have A2:(D.drop 2).length≤1000000:=by rw[List.length_drop,E9.len];omega
   obtain⟨_,_,_⟩:=m0
   obtain⟨_,_,_⟩:=m1
   have s7:=wa {u with cl:=fb u.cl u.nc D,proof:=u.proof++ [u.cl u.nc]} (c0 D) (c1 D) (D.drop 2) (by show fb u.cl u.nc D u.nc=_;rw[e8];exact JT QK) (fun e=>fZ (ie (n:=n) ⟨by omega,by omega,by omega⟩ ⟨by omega,by omega,by omega⟩ (by rw[e]))) (by show 0≤eW (c0 D)∧_<u.nw;omega) (by show 0≤eW (c1 D)∧_<u.nw;omega) aJ aJ yh Vg Wi (by show u.nw≤_;omega) A2
   have Lh:=fun h1 h2:Value=>qC (j_ (j_ {u with nc:=u.nc+1,cl:=fb u.cl u.nc D,proof:=u.proof++ [u.cl u.nc]} (c0 D) u.nc h1) (c1 D) u.nc h2) (fb u.cl u.nc D u.nc)[(0:Int).toNat] (u.nc:Nat) (by rw[Rq];omega) (by rw[Rq];show _<(u.value.length:Int)∧_<(u.value.length:Int);omega) (by show u.level.length=u.value.length;omega) (by show u.reason.length=u.value.length;omega) E3 hm
   simp only[hX,hZ,j_] at s7 Lh
   (refine jB ?_;refine pW ?_;refine zo ?_;refine vj ?_;refine zo ?_;refine AW.gB [0,3,4,5,7,8] [11] rfl (by assumption) aI aI rfl ?_;show a_ .held _ _ _ [_,_,_,_,_,_] _ _;(iterate 3 refine zm ?_);(with_reducible apply a_.fa 7);(iterate 8 exact rfl);exact ab;exact ab;refine zm ?_;(with_reducible apply a_.fa 7);(iterate 8 exact rfl);exact ab;exact ab;refine J4 ?_;intro k_ ja;refine J0 ?_;(refine AR.free 1 aI rfl rfl rfl (by first|exact fO.fC rfl rfl|exact fO.iu rfl rfl|exact fO.nilCheck rfl rfl) ?_);(refine AR.free 2 aI rfl rfl rfl (by first|exact fO.fC rfl rfl|exact fO.iu rfl rfl|exact fO.nilCheck rfl rfl) ?_);apply AR.cut [2,1,8,7,5,4,3,0,6,9];intro nA;(refine AR.gX (i:=6) (j:=9) rfl aI rfl rfl ?_ ?_<;>intro g_ c_ gh);refine ax ?_;refine NJ ?_;intro g_ c_ gh;refine ax ?_;refine J4 ?_;refine aB ?_;exact x8;refine ax ?_;refine J4 ?_;refine AR.fM (i:=6) rfl aI rfl ?_;intro g_ c_ gh;refine ax ?_;refine J4 ?_;refine aB ?_;refine AR.meet nA aI (fun g_=>fy rfl ?_ ?_ rfl);(iterate 17 refine aC ?_);exact trivial;exact Pb;refine AR.iI [10] aI aI aI aI ?_;intro g_ c_;show a_ .held _ _ _ [_] _ _;(with_reducible apply a_.fa 7);(iterate 8 exact rfl);exact ab;exact ab;refine J4 ?_;intro k_ ja;refine J0 ?_;refine EX ?_;intro g_ c_ fk;(with_reducible apply a_.kR 7);(iterate 7 exact rfl);exact ab;refine mV ?_;refine FX ?_;intro g_ c_ fk;(with_reducible apply a_.fa 7);(iterate 8 exact rfl);exact ab;exact ab;refine J4 ?_;refine xR ?_;intro g_ c_ fk;(with_reducible apply a_.kR 7);(iterate 7 exact rfl);exact ab;refine rz ?_;(with_reducible apply AW.atR 11);(rw[jC]);(rw[e8]);(rw[← hD]);refine AW.N6 11 ?_)
   refine Stop.go ?_
   have Y4:True:=trivial
   (refine AW.gB [6,7] [8] rfl (by assumption) aI aI rfl ?_;show a_ .held _ _ _ [_,_] _ _;refine Eg ?_;refine J4 ?_;intro k_ ja;refine J0 ?_;(refine AR.free 0 aI rfl rfl rfl (by first|exact fO.fC rfl rfl|exact fO.iu rfl rfl|exact fO.nilCheck rfl rfl) ?_);(refine AR.free 1 aI rfl rfl rfl (by first|exact fO.fC rfl rfl|exact fO.iu rfl rfl|exact fO.nilCheck rfl rfl) ?_);refine AR.free 2 aI rfl rfl rfl (fO.fieldAddr _ _ 0 rfl rfl rfl) ?_;refine aB ?_;(refine AR.free 3 aI rfl rfl rfl (by first|exact fO.fC rfl rfl|exact fO.iu rfl rfl|exact fO.nilCheck rfl rfl) ?_);(refine AR.rS (i:=4) (j:=8) rfl aI rfl rfl aI ?_ ?_<;>intro g_ c_ fk);(with_reducible apply a_.fa 7);(iterate 8 exact rfl);exact ab;exact ab;refine J4 ?_;(refine AR.rS (i:=5) (j:=8) rfl aI rfl rfl aI ?_ ?_<;>intro g_ c_ fk);refine ax ?_;refine J4 ?_;refine Gf ?_;intro g_ c_ fk;(with_reducible apply a_.kc (hf:=s7));(with_reducible assumption);(iterate 3 exact rfl);exact aq;exact ak;(intro x_;exact rfl);exact rfl;exact al;(intro x_;exact al);(intro x_;exact rfl);exact rfl;(intro x_ pI);refine J1 ?_;refine mV ?_;refine IF ?_;intro g_ c_ fk;(with_reducible apply a_.kc (hf:=(Lh _ _)));(with_reducible assumption);(iterate 3 exact rfl);exact aq;exact ak;(intro x_;exact rfl);exact rfl;exact al;(intro x_;exact al);(intro x_;exact rfl);exact rfl;(intro x_ pI);refine J1 ?_;refine wz ?_;(all_goals skip);rotate_left;(with_reducible apply a_.kc (hf:=s7));(with_reducible assumption);(iterate 3 exact rfl);exact aq;exact ak;(intro x_;exact rfl);exact rfl;exact al;(intro x_;exact al);(intro x_;exact rfl);exact rfl;(intro x_ pI);refine J1 ?_;refine mV ?_;refine AR.gY (i:=5) rfl aI rfl aI ?_;intro g_ c_ fk;refine ax ?_;refine J4 ?_;refine IF ?_;intro g_ c_ fk;(with_reducible apply a_.kc (hf:=(Lh _ _)));(with_reducible assumption);(iterate 3 exact rfl);exact aq;exact ak;(intro x_;exact rfl);exact rfl;exact al;(intro x_;exact al);(intro x_;exact rfl);exact rfl;(intro x_ pI);refine J1 ?_;refine wz ?_;(all_goals skip);rotate_left;(with_reducible apply a_.kc (hf:=s7));(with_reducible assumption);(iterate 3 exact rfl);exact aq;exact ak;(intro x_;exact rfl);exact rfl;exact al;(intro x_;exact al);(intro x_;exact rfl);exact rfl;(intro x_ pI);refine J1 ?_;refine mV ?_;refine KY ?_;intro g_ c_ fk;(with_reducible apply a_.fa 7);(iterate 8 exact rfl);exact ab;exact ab;refine J4 ?_;refine AR.gY (i:=5) rfl aI rfl aI ?_;intro g_ c_ fk;refine ax ?_;refine J4 ?_;refine IF ?_;intro g_ c_ fk;(with_reducible apply a_.kc (hf:=(Lh _ _)));(with_reducible assumption);(iterate 3 exact rfl);exact aq;exact ak;(intro x_;exact rfl);exact rfl;exact al;(intro x_;exact al);(intro x_;exact rfl);exact rfl;(intro x_ pI);refine J1 ?_;refine wz ?_;(all_goals skip);rotate_left)
   ·(apply mQ ((fL (j_ (j_ {u with nc:=u.nc+1,cl:=fb u.cl u.nc D,proof:=u.proof++ [u.cl u.nc]} (c0 D) u.nc ‹Value×Value›.1) (c1 D) u.nc ‹Value×Value›.2) (fb u.cl u.nc D u.nc)[(0:Int).toNat] (u.nc:Nat) x_:SR)) ((.inr ⟨D,‹Value×Value›.1,‹Value×Value›.2,x_,h2,E9,d0,by rw[d1];exact qj E4 ql,fun x hx=>by rw[d1];exact wK nC ql x hx,by rw[Rq]⟩));((exact gn.none));((exact py));((exact Jf));exact rfl)
   ·(apply mQ ((fL (j_ (j_ {u with nc:=u.nc+1,cl:=fb u.cl u.nc D,proof:=u.proof++ [u.cl u.nc]} (c0 D) u.nc ‹Value×Value›.1) (c1 D) u.nc ‹Value×Value›.2) (fb u.cl u.nc D u.nc)[(0:Int).toNat] (u.nc:Nat) x_:SR)) ((.inr ⟨D,‹Value×Value›.1,‹Value×Value›.2,x_,h2,E9,d0,by rw[d1];exact qj E4 ql,fun x hx=>by rw[d1];exact wK nC ql x hx,by rw[Rq]⟩));((exact gn.none));((exact py));((exact Jf));exact rfl)
   ·(apply mQ ((fL (j_ (j_ {u with nc:=u.nc+1,cl:=fb u.cl u.nc D,proof:=u.proof++ [u.cl u.nc]} (c0 D) u.nc ‹Value×Value›.1) (c1 D) u.nc ‹Value×Value›.2) (fb u.cl u.nc D u.nc)[(0:Int).toNat] (u.nc:Nat) x_:SR)) ((.inr ⟨D,‹Value×Value›.1,‹Value×Value›.2,x_,h2,E9,d0,by rw[d1];exact qj E4 ql,fun x hx=>by rw[d1];exact wK nC ql x hx,by rw[Rq]⟩));((exact gn.none));((exact py));((exact Jf));exact rfl)
end Go.Ab
