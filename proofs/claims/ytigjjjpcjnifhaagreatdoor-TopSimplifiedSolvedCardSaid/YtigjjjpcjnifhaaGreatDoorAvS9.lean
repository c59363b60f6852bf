/- The solver: the conflict analysis, walked. -/
import Derived.Test.YtigjjjpcjnifhaaGreatDoorAvS7
import Derived.Test.YtigjjjpcjnifhaaGreatDoorAbZ
import Derived.Test.YtigjjjpcjnifhaaGreatDoorAbL3
import Derived.Test.YtigjjjpcjnifhaaGreatDoorAvA2
set_option linter.unusedSimpArgs false
set_option linter.unusedVariables false
open List renaming replicate→bZ,getElem_mem→cZ,cons_append→bu,map_append→cV
open Int renaming toNat_natCast→dt
open Nat renaming reduceBEq→di,le_refl→aP
namespace Go.Ab
open Go Go.Proofs
open Nat (reduceAdd reduceSub)
set_option maxRecDepth 20000
set_option maxHeartbeats 8000000
structure AQ where
 sl:List Bool
 rest:List Int
 op:Nat
 tz:Int
 k:Nat
 piv:Int
 j:Nat
theorem iz (n:Nat) (h:Nat→Value) (v:Value):gx n h=gx n (eZ h n v):=by
 unfold gx
 apply List.map_congr_left
 intro k hk
 rw[ft _ _ (by have:=List.mem_range.1 hk;omega)]
attribute [local irreducible] gx AW a_ gb fq AR fz fk fJ fX kp lh
theorem CI (n:Nat) (s:SR) (hs:fR n s) (j0:Nat) (PA:j0<s.nc) (hf:∀x∈s.cl j0,-x∈s.ll 0) (hm:0<s.marks.length) (hmb:s.marks.length≤1000000):tP Tryz.prog 54 11 (gV s) [.ptr 0 0,eV (j0:Nat)] (fun q:Value×List Int×Int=>q.1.oneCell'=true∧rV n s j0 q.2.1 q.2.2) (fun q=>gV {s with hc:=eZ s.hc s.nc q.1,cl:=eZ s.cl s.nc q.2.1}) (fun q=> .gX [.pv (.lit q.1),eV q.2.2]):=by
 have qR:=hs.hn
 have ke:=hs.ix.len
 have z8:=hs.nc
 have TA:=hs.od
 have Ny:=hs.lvl
 have Ci:s.value.length=n+1:=by rw[hs.val,j5]
 have OL:bZ ((s.value.length:Nat):Int).toNat [PV.lit (.bool false)]=(bZ (n+1) false).map oz:=by rw[dt,Ci];exact S0 (n+1)
 have T7:=k8 s.nc s.hc
 simp only[gV,gW]
 refine tP.enter (n:=155) Tryz.func54 rfl rfl rfl rfl rfl (by decide) rfl (fun _=>rfl) fun g fD fB=>?_;refine sF ?_
 (refine zq ?_;refine ur ?_;refine NX ?_;refine TE ?_;refine D3 ?_;(with_reducible apply AW.vU 2);(rw[OL]);refine ko ?_;(with_reducible apply a_.nr);(iterate 5 exact rfl);exact ag;exact rfl;exact rfl;refine Q0 ?_;refine D3 ?_;refine ko ?_;refine ur ?_;refine uK ?_;refine Ds ?_;refine uO ?_;refine Aa ?_)
 (refine Q0 ?_;apply AW.gN [0,1000] [12,11,0,1,2,3,4,5,6,7,8,9,10] (fun q:AQ=>([(1,eV (q.j:Nat)),(6,.own 11 4 1 (q.sl.map oz)),(7,.own 12 3 1 ((0::q.rest).map encI)),(8,eV (q.op:Nat)),(9,eV q.tz),(10,eV (q.k:Nat)),(11,eV q.piv)]:List (Nat×AV))) (fun q:AQ=>([]:List (Nat×Option Ob))) (fun q:AQ=>yd n s j0 q.sl q.rest q.op q.tz q.k q.piv q.j) (fun q:AQ=>q.k) ((⟨bZ (n+1) false,[],0,0,(s.ll 0).length,0,j0⟩:AQ));(conv=>lhs;simp only[Nf.nN,Nf.all,di,reduceAdd,reduceSub]);(all_goals skip))
 ·exact .start hs PA hf
 ·exact fp rfl (by(refine aD ?_;(iterate 2 refine aE ?_);(iterate 4 refine aD ?_);(iterate 2 refine aC ?_);exact trivial)) (by(refine aF ?_;refine aF ?_;refine⟨.box _ rfl ?_,?_⟩;(iterate 3 refine aE ?_);refine aD ?_;refine aE ?_;refine aD ?_;(iterate 2 refine aE ?_);(iterate 3 refine aD ?_);refine aE ?_;refine aD ?_;(iterate 2 refine aG ?_);exact trivial;(iterate 3 refine aF ?_);refine aH ?_;(iterate 2 refine aF ?_);refine aH ?_;refine aF ?_;refine aH ?_;refine aF ?_;exact trivial)) rfl
 rintro⟨sl0,rest0,op0,to0,k,piv,j⟩ hA
 simp only at hA
 have hj:=hA.hj
 have iR:=hs.CR hj
 have oV:=(hs.cls j hj).2.2
 have SK:=hA.row
 have JU:=hA.hk
 have Lk:(j:Int).toNat<s.nc:=by omega
 (refine AW.block ?_;refine zo ?_;refine ko ?_;refine H7 ?_;refine jf ?_;refine PF ?_;refine a_.jv rfl rfl rfl rfl (fun h_=>by cases h_) aJ ?_;refine a_.ny 7 rfl rfl rfl rfl rfl ?_;refine zZ ?_)
 rw[dt j]
 (refine Q0 ?_;apply AW.gN [36,35,1,10,11,0,1000] [12,11,0,1,2,3,4,5,6,7,8,9,10] (fun q:AQ=>([(6,.own 11 4 1 (q.sl.map oz)),(7,.own 12 3 1 ((0::q.rest).map encI)),(8,eV (q.op:Nat)),(9,eV q.tz),(37,eV (q.k:Nat))]:List (Nat×AV))) (fun q:AQ=>([]:List (Nat×Option Ob))) (fun q:AQ=>pj n s j0 k piv j q.sl q.rest q.op q.tz q.k) (fun q:AQ=>(s.cl j).length - q.k) ((⟨sl0,rest0,op0,to0,0,0,0⟩:AQ));(conv=>lhs;simp only[Nf.nN,Nf.all,di,reduceAdd,reduceSub]);(all_goals skip))
 ·exact SK
 ·exact fp rfl (by(refine aE ?_;refine aE ?_;(iterate 8 refine aD ?_);(iterate 2 refine aC ?_);exact trivial)) (by(refine aF ?_;refine aF ?_;refine⟨.box _ rfl ?_,?_⟩;(iterate 3 refine aE ?_);refine aD ?_;refine aE ?_;refine aD ?_;(iterate 2 refine aE ?_);(iterate 3 refine aD ?_);refine aE ?_;refine aD ?_;(iterate 2 refine aG ?_);exact trivial;(iterate 3 refine aF ?_);refine aH ?_;(iterate 2 refine aF ?_);refine aH ?_;refine aF ?_;refine aH ?_;refine aF ?_;exact trivial)) rfl
 rintro⟨sl,rest,op,tz,i,z1,z2⟩ hR
 simp only at hR
 clear hA SK
 have wy:=hR.V_ hs
 have Mz:=hR.base.len
 have hi:=hR.hi
 by_cases fm:i<(s.cl j).length
 ·have t_:(i:Int).toNat<(s.cl j).length:=by omega
  obtain⟨x,hx⟩:∃x,x=(s.cl j)[(i:Int).toNat]:=⟨_,rfl⟩
  have td:(s.cl j)[i]=x:=hx.symm
  have sD:=oV _ (cZ t_)
  rw[← hx] at sD
  obtain⟨_,_,_⟩:=sD
  have H6:0≤max x (-x):=by omega
  have Cf:(max x (-x)).toNat<sl.length:=by omega
  have x5:(max x (-x)).toNat<s.level.length:=by omega
  have JW:sl.getD (fa x) false=sl[(max x (-x)).toNat]:=tj Cf
  have KR:e_ s x=s.level[(max x (-x)).toNat]:=fy x5
  by_cases hp:x=piv
  ·have l9:decide (x=piv)=true:=by simpa using hp
   have qP:=hR.skip fm (.inl (by rw[td];exact hp))
   (refine pZ ?_;(with_reducible apply a_.eY 7);(iterate 8 exact rfl);exact ab;exact ab;refine ax ?_;refine kM ?_;(with_reducible apply AW.vU 9);(rw[← hx]);refine ko ?_;refine J7 ?_;refine pz ?_;refine ko ?_;(iterate 2 refine zm ?_);refine a_.eql rfl rfl rfl rfl rfl ?_;refine zm ?_;refine LQ ?_;refine zm ?_;(iterate 9 refine a_.gg rfl rfl rfl rfl rfl rfl rfl ?_);refine AK ?_;refine Ei ?_;refine rj ?_)
   exact U3
  ·have l9:decide (x=piv)=false:=by simpa using hp
   cases kZ:sl[(max x (-x)).toNat] with
   |true=>
    have qP:=hR.skip fm (.inr (.inl (by rw[td,JW];exact kZ)))
    (refine pZ ?_;(with_reducible apply a_.eY 7);(iterate 8 exact rfl);exact ab;exact ab;refine ax ?_;refine kM ?_;(with_reducible apply AW.vU 9);(rw[← hx]);refine K4 ?_;refine au ?_;refine zF ?_;refine zm ?_;refine RS ?_;refine rj ?_)
    exact U3
   |false=>
    have kN:=G3 sl (max x (-x)).toNat
    by_cases uR:s.level[(max x (-x)).toNat]=0
    ·have Ua:decide (s.level[(max x (-x)).toNat]=0)=true:=by simpa using uR
     have qP:=hR.skip fm (.inr (.inr (by rw[td,KR];exact uR)))
     (refine pZ ?_;(with_reducible apply a_.eY 7);(iterate 8 exact rfl);exact ab;exact ab;refine ax ?_;refine kM ?_;(with_reducible apply AW.vU 9);(rw[← hx]);refine K4 ?_;refine au ?_;refine zF ?_;refine PW ?_;refine au ?_;refine FC ?_;refine na ?_;refine Ei ?_;refine rj ?_)
     exact U3
    ·have Ua:decide (s.level[(max x (-x)).toNat]=0)=false:=by simpa using uR
     by_cases PC:s.level[(max x (-x)).toNat]=(s.marks.length:Int)
     ·have Wy:decide (s.level[(max x (-x)).toNat]=(s.marks.length:Int))=true:=by simpa using PC
      have qP:=hR.cur hs hm fm (by rw[td];exact hp) (by rw[td,JW];exact kZ) (by rw[td,KR];exact PC)
      rw[td] at qP
      (refine pZ ?_;(with_reducible apply a_.eY 7);(iterate 8 exact rfl);exact ab;exact ab;refine ax ?_;refine kM ?_;(with_reducible apply AW.vU 9);(rw[← hx]);refine K4 ?_;refine au ?_;refine zF ?_;refine PW ?_;refine au ?_;refine FC ?_;refine ph ?_;refine vh ?_;refine zm ?_;refine rW ?_;(with_reducible apply a_.gu);(iterate 4 exact rfl);exact ag;(iterate 3 exact rfl);refine mw ?_;(iterate 2 refine zo ?_);(with_reducible apply AW.fY);exact rfl;exact rfl;kernel_rfl;(with_reducible assumption);refine tn ?_;refine HP ?_;refine rW ?_;refine au ?_;refine tn ?_;refine zC ?_;refine pN ?_;refine zc ?_;refine ka ?_;refine zj ?_;refine kM ?_;refine Ei ?_;refine rj ?_)
      exact⟨(⟨sl.set (fa x) true,rest,op+1,tz,i+1,z1,z2⟩:AQ),qP,by show(s.cl j).length - (i+1)<(s.cl j).length - i;omega,fp rfl (by(refine⟨.e9 (by first|rfl|exact kN) rfl,?_⟩;refine⟨.e9 (by first|rfl|exact kN) rfl,?_⟩;(iterate 8 refine⟨.fg (by first|rfl|exact kN),?_⟩);(iterate 2 refine aC ?_);exact trivial)) (by(refine aF ?_;refine aF ?_;refine⟨.box _ rfl ?_,?_⟩;(iterate 3 refine⟨.e9 (by first|rfl|exact kN) rfl,?_⟩);refine⟨.fg (by first|rfl|exact kN),?_⟩;refine⟨.e9 (by first|rfl|exact kN) rfl,?_⟩;refine⟨.fg (by first|rfl|exact kN),?_⟩;(iterate 2 refine⟨.e9 (by first|rfl|exact kN) rfl,?_⟩);(iterate 3 refine⟨.fg (by first|rfl|exact kN),?_⟩);refine⟨.e9 (by first|rfl|exact kN) rfl,?_⟩;refine⟨.fg (by first|rfl|exact kN),?_⟩;(iterate 2 refine⟨.ib (by first|rfl|exact kN),?_⟩);exact trivial;(iterate 3 refine aF ?_);refine⟨.e8 rfl (by first|rfl|exact kN),?_⟩;(iterate 2 refine aF ?_);refine⟨.e8 rfl (by first|rfl|exact kN),?_⟩;refine aF ?_;refine⟨.e8 rfl (by first|rfl|exact kN),?_⟩;refine aF ?_;exact trivial)) rfl⟩
     ·have Wy:decide (s.level[(max x (-x)).toNat]=(s.marks.length:Int))=false:=by simpa using PC
      have qP:=hR.Au hs fm (by rw[td];exact hp) (by rw[td,JW];exact kZ) (by rw[td,KR];exact PC) (by rw[td,KR];exact uR)
      rw[td,KR] at qP
      (refine pZ ?_;(with_reducible apply a_.eY 7);(iterate 8 exact rfl);exact ab;exact ab;refine ax ?_;refine kM ?_;(with_reducible apply AW.vU 9);(rw[← hx]);refine K4 ?_;refine au ?_;refine zF ?_;refine PW ?_;refine au ?_;refine FC ?_;refine ph ?_;refine vh ?_;refine zm ?_;refine rW ?_;(with_reducible apply a_.gu);(iterate 4 exact rfl);exact ag;(iterate 3 exact rfl);refine mw ?_;(iterate 2 refine zo ?_);(with_reducible apply AW.fY);exact rfl;exact rfl;kernel_rfl;(with_reducible assumption);refine tn ?_;refine HP ?_;refine rW ?_;refine au ?_;refine tn ?_;refine zC ?_;refine pN ?_;refine uP ?_;refine vh ?_;refine zm ?_;(with_reducible apply a_.nr);(iterate 5 exact rfl);exact ag;exact rfl;exact rfl;refine Q0 ?_;(with_reducible apply a_.fI);exact rfl;exact ah;(iterate 9 exact rfl);exact aa;refine Q0 ?_;refine D3 ?_;refine qs ?_;refine zm ?_;refine tn ?_;refine HP ?_;refine rW ?_;refine au ?_;refine a_.max2 rfl rfl rfl rfl rfl ?_;refine za ?_;refine a_.nil ?_;refine Gp ?_;refine rj ?_)
      exact⟨(⟨sl.set (fa x) true,rest++ [x],op,max tz s.level[(max x (-x)).toNat],i+1,z1,z2⟩:AQ),qP,by show(s.cl j).length - (i+1)<(s.cl j).length - i;omega,fp rfl (by(refine⟨.e9 (by first|rfl|exact kN|(rw[← bu,cV];rfl)) rfl,?_⟩;refine⟨.e9 (by first|rfl|exact kN|(rw[← bu,cV];rfl)) rfl,?_⟩;refine⟨.fg (by first|rfl|exact kN|(rw[← bu,cV];rfl)),?_⟩;refine⟨.fg (by first|rfl|exact kN|(rw[← bu,cV];rfl)),?_⟩;refine⟨.fg (by first|rfl|exact kN|(rw[← bu,cV];rfl)),?_⟩;refine⟨.fg (by first|rfl|exact kN|(rw[← bu,cV];rfl)),?_⟩;refine⟨.fg (by first|rfl|exact kN|(rw[← bu,cV];rfl)),?_⟩;refine⟨.fg (by first|rfl|exact kN|(rw[← bu,cV];rfl)),?_⟩;refine⟨.fg (by first|rfl|exact kN|(rw[← bu,cV];rfl)),?_⟩;refine⟨.fg (by first|rfl|exact kN|(rw[← bu,cV];rfl)),?_⟩;(iterate 2 refine aC ?_);exact trivial)) (by(refine aF ?_;refine aF ?_;refine⟨.box _ rfl ?_,?_⟩;refine⟨.e9 (by first|rfl|exact kN|(rw[← bu,cV];rfl)) rfl,?_⟩;refine⟨.e9 (by first|rfl|exact kN|(rw[← bu,cV];rfl)) rfl,?_⟩;refine⟨.e9 (by first|rfl|exact kN|(rw[← bu,cV];rfl)) rfl,?_⟩;refine⟨.fg (by first|rfl|exact kN|(rw[← bu,cV];rfl)),?_⟩;refine⟨.e9 (by first|rfl|exact kN|(rw[← bu,cV];rfl)) rfl,?_⟩;refine⟨.fg (by first|rfl|exact kN|(rw[← bu,cV];rfl)),?_⟩;refine⟨.e9 (by first|rfl|exact kN|(rw[← bu,cV];rfl)) rfl,?_⟩;refine⟨.e9 (by first|rfl|exact kN|(rw[← bu,cV];rfl)) rfl,?_⟩;refine⟨.fg (by first|rfl|exact kN|(rw[← bu,cV];rfl)),?_⟩;refine⟨.fg (by first|rfl|exact kN|(rw[← bu,cV];rfl)),?_⟩;refine⟨.fg (by first|rfl|exact kN|(rw[← bu,cV];rfl)),?_⟩;refine⟨.e9 (by first|rfl|exact kN|(rw[← bu,cV];rfl)) rfl,?_⟩;refine⟨.fg (by first|rfl|exact kN|(rw[← bu,cV];rfl)),?_⟩;refine⟨.ib (by first|rfl|exact kN|(rw[← bu,cV];rfl)),?_⟩;refine⟨.ib (by first|rfl|exact kN|(rw[← bu,cV];rfl)),?_⟩;exact trivial;(iterate 3 refine aF ?_);refine⟨.e8 rfl (by first|rfl|exact kN|(rw[← bu,cV];rfl)),?_⟩;(iterate 2 refine aF ?_);refine⟨.e8 rfl (by first|rfl|exact kN|(rw[← bu,cV];rfl)),?_⟩;refine aF ?_;refine⟨.e8 rfl (by first|rfl|exact kN|(rw[← bu,cV];rfl)),?_⟩;refine aF ?_;exact trivial)) rfl⟩
 ·obtain rfl:i=(s.cl j).length:=by omega
  have hD:=hR.fin hs hm
  have DP:=hD.pos
  obtain⟨a0,rfl⟩:∃a0,k=a0+1:=⟨k - 1,by omega⟩
  have ek:((a0+1:Nat):Int) - 1=(a0:Int):=by omega
  (refine ko ?_;refine P8 ?_;refine zo ?_;refine ka ?_;refine CW ?_;refine AW.block ?_)
  (refine Q0 ?_;apply AW.gN [6,7,8,9,1,11,0,1000] [12,11,0,1,2,3,4,5,6,7,8,9,10] (fun a:Nat=>([(10,eV (a:Nat))]:List (Nat×AV))) (fun a:Nat=>([]:List (Nat×Option Ob))) (fun a:Nat=>(mS n s j0 (a+1) sl rest op tz∧a≤a0)) (fun a:Nat=>a) (a0);(conv=>lhs;simp only[Nf.nN,Nf.all,di,reduceAdd,reduceSub]);(all_goals skip))
  ·exact⟨hD,aP _⟩
  ·exact fp rfl (by(refine⟨.fg (by first|rfl|(rw[ek])),?_⟩;refine⟨.e9 (by first|rfl|(rw[ek])) rfl,?_⟩;refine⟨.e9 (by first|rfl|(rw[ek])) rfl,?_⟩;refine⟨.fg (by first|rfl|(rw[ek])),?_⟩;refine⟨.fg (by first|rfl|(rw[ek])),?_⟩;refine⟨.fg (by first|rfl|(rw[ek])),?_⟩;refine⟨.fg (by first|rfl|(rw[ek])),?_⟩;(iterate 2 refine aC ?_);exact trivial)) (by(refine aF ?_;refine aF ?_;refine⟨.box _ rfl ?_,?_⟩;refine⟨.e9 (by first|rfl|(rw[ek])) rfl,?_⟩;refine⟨.e9 (by first|rfl|(rw[ek])) rfl,?_⟩;refine⟨.e9 (by first|rfl|(rw[ek])) rfl,?_⟩;refine⟨.fg (by first|rfl|(rw[ek])),?_⟩;refine⟨.e9 (by first|rfl|(rw[ek])) rfl,?_⟩;refine⟨.fg (by first|rfl|(rw[ek])),?_⟩;refine⟨.e9 (by first|rfl|(rw[ek])) rfl,?_⟩;refine⟨.e9 (by first|rfl|(rw[ek])) rfl,?_⟩;refine⟨.fg (by first|rfl|(rw[ek])),?_⟩;refine⟨.fg (by first|rfl|(rw[ek])),?_⟩;refine⟨.fg (by first|rfl|(rw[ek])),?_⟩;refine⟨.e9 (by first|rfl|(rw[ek])) rfl,?_⟩;refine⟨.fg (by first|rfl|(rw[ek])),?_⟩;refine⟨.ib (by first|rfl|(rw[ek])),?_⟩;refine⟨.ib (by first|rfl|(rw[ek])),?_⟩;exact trivial;(iterate 3 refine aF ?_);refine⟨.e8 rfl (by first|rfl|(rw[ek])),?_⟩;(iterate 2 refine aF ?_);refine⟨.e8 rfl (by first|rfl|(rw[ek])),?_⟩;refine aF ?_;refine⟨.e8 rfl (by first|rfl|(rw[ek])),?_⟩;refine aF ?_;exact trivial)) rfl
  rintro a ⟨hE,hle⟩
  have hak:=hE.hk
  have BY:(a:Int).toNat<(s.ll 0).length:=by omega
  obtain⟨y,hy⟩:∃y,y=(s.ll 0)[(a:Int).toNat]:=⟨_,rfl⟩
  have CT:(s.ll 0)[a]=y:=hy.symm
  have wY:=hs.ix.xg _ (cZ BY)
  rw[← hy] at wY
  have H6:0≤max y (-y):=by omega
  have Cf:(max y (-y)).toNat<sl.length:=by omega
  have T5:(max y (-y)).toNat<s.reason.length:=by omega
  rw[hy] at wY H6 Cf
  have JW:sl.getD (fa (s.ll 0)[a]) false=sl[(max (s.ll 0)[(a:Int).toNat] (-(s.ll 0)[(a:Int).toNat])).toNat]:=tj Cf
  cases kZ:sl[(max (s.ll 0)[(a:Int).toNat] (-(s.ll 0)[(a:Int).toNat])).toNat] with
  |false=>
   have Oh:(!sl[(max (s.ll 0)[(a:Int).toNat] (-(s.ll 0)[(a:Int).toNat])).toNat])=true:=by rw[kZ];rfl
   have hd:=hE.down (by rw[JW];exact kZ)
   have hdp:=hd.pos
   obtain⟨a1,rfl⟩:∃a1,a=a1+1:=⟨a - 1,by omega⟩
   have uF:((a1+1:Nat):Int) - 1=(a1:Int):=by omega
   ((iterate 2 refine zo ?_);(with_reducible apply AW.fY);exact rfl;exact rfl;kernel_rfl;(with_reducible assumption);refine a_.fT rfl rfl rfl ?_;refine tn ?_;refine C9 ?_;refine zm ?_;(with_reducible apply a_.eY 4);(iterate 8 exact rfl);exact ab;exact ab;refine aw ?_;refine tn ?_;refine C9 ?_;refine zm ?_;(with_reducible apply a_.eY 4);(iterate 8 exact rfl);exact ab;exact ab;refine aw ?_;refine Oy ?_;refine au ?_;refine a_.not rfl rfl rfl ?_;refine zd ?_;refine AW.CX rfl rfl (by assumption) ?_;refine Cd ?_;refine zo ?_;refine AW.block ?_;refine uB ?_;refine Q0 ?_;refine zm ?_;refine CW ?_)
   exact⟨a1,⟨hd,by omega⟩,by omega,fp rfl (by(refine⟨.fg (by first|rfl|(rw[uF])),?_⟩;refine⟨.e9 (by first|rfl|(rw[uF])) rfl,?_⟩;refine⟨.e9 (by first|rfl|(rw[uF])) rfl,?_⟩;refine⟨.fg (by first|rfl|(rw[uF])),?_⟩;refine⟨.fg (by first|rfl|(rw[uF])),?_⟩;refine⟨.fg (by first|rfl|(rw[uF])),?_⟩;refine⟨.fg (by first|rfl|(rw[uF])),?_⟩;(iterate 2 refine aC ?_);exact trivial)) (by(refine aF ?_;refine aF ?_;refine⟨.box _ rfl ?_,?_⟩;refine⟨.e9 (by first|rfl|(rw[uF])) rfl,?_⟩;refine⟨.e9 (by first|rfl|(rw[uF])) rfl,?_⟩;refine⟨.e9 (by first|rfl|(rw[uF])) rfl,?_⟩;refine⟨.fg (by first|rfl|(rw[uF])),?_⟩;refine⟨.e9 (by first|rfl|(rw[uF])) rfl,?_⟩;refine⟨.fg (by first|rfl|(rw[uF])),?_⟩;refine⟨.e9 (by first|rfl|(rw[uF])) rfl,?_⟩;refine⟨.e9 (by first|rfl|(rw[uF])) rfl,?_⟩;refine⟨.fg (by first|rfl|(rw[uF])),?_⟩;refine⟨.fg (by first|rfl|(rw[uF])),?_⟩;refine⟨.fg (by first|rfl|(rw[uF])),?_⟩;refine⟨.e9 (by first|rfl|(rw[uF])) rfl,?_⟩;refine⟨.fg (by first|rfl|(rw[uF])),?_⟩;refine⟨.ib (by first|rfl|(rw[uF])),?_⟩;refine⟨.ib (by first|rfl|(rw[uF])),?_⟩;exact trivial;(iterate 3 refine aF ?_);refine⟨.e8 rfl (by first|rfl|(rw[uF])),?_⟩;(iterate 2 refine aF ?_);refine⟨.e8 rfl (by first|rfl|(rw[uF])),?_⟩;refine aF ?_;refine⟨.e8 rfl (by first|rfl|(rw[uF])),?_⟩;refine aF ?_;exact trivial)) rfl⟩
  |true=>
   have Oh:(!sl[(max (s.ll 0)[(a:Int).toNat] (-(s.ll 0)[(a:Int).toNat])).toNat])=false:=by rw[kZ];rfl
   have RV:sl.getD (fa (s.ll 0)[a]) false=true:=by rw[JW];exact kZ
   have UI:(max (s.ll 0)[(a:Int).toNat] (-(s.ll 0)[(a:Int).toNat])).toNat<s.reason.length:=by rw[← hy];exact T5
   by_cases S2:op=1
   ·subst S2
    have lG:=hE.out hs RV
    ((iterate 2 refine zo ?_);(with_reducible apply AW.fY);exact rfl;exact rfl;kernel_rfl;(with_reducible assumption);refine a_.fT rfl rfl rfl ?_;refine tn ?_;refine C9 ?_;refine zm ?_;(with_reducible apply a_.eY 4);(iterate 8 exact rfl);exact ab;exact ab;refine aw ?_;refine tn ?_;refine C9 ?_;refine zm ?_;(with_reducible apply a_.eY 4);(iterate 8 exact rfl);exact ab;exact ab;refine aw ?_;refine Oy ?_;refine au ?_;refine a_.not rfl rfl rfl ?_;refine zd ?_;refine AW.yQ rfl rfl (by assumption) ?_;refine D5 ?_;refine uK ?_;refine C9 ?_;refine zm ?_;(with_reducible apply a_.eY 4);(iterate 8 exact rfl);exact ab;exact ab;refine aw ?_;refine kM ?_;refine ka ?_;refine a_.sub rfl rfl rfl rfl rfl aJ ?_;refine pz ?_;refine ka ?_;refine a_.eql rfl rfl rfl rfl rfl ?_;refine th ?_;refine vh ?_;refine FR ?_;(with_reducible apply a_.wJ);(iterate 7 exact rfl);omega;exact aa;(with_reducible apply a_.gu);(iterate 4 exact rfl);exact ag;(iterate 3 exact rfl);refine mw ?_;refine AW.lq 24 ?_)
    refine Stop.go ?_
    refine AW.xM 7 12 s.nc 7 (us:= -(s.ll 0)[(a:Int).toNat]::rest) rfl rfl rfl rfl (hs.fresh s.nc (aP _)).2 fun v_ Jc=>?_
    refine aB ?_
    (refine zq ?_;(iterate 2 refine zm ?_);refine ur ?_;refine AW.ret ?_;(iterate 2 refine Bf ?_))
    (apply gL (((v_,-(s.ll 0)[(a:Int).toNat]::rest,tz):Value×List Int×Int)) (⟨Jc,lG⟩);((exact gk.two (.tmp rfl rfl) (.tmp rfl rfl)));((exact qS));((exact Qt));exact rfl)
   ·obtain⟨j',ng,hj'n,hN⟩:=hE.next hs RV S2
    have YF:=hE.op
    have rB:s.reason[(max (s.ll 0)[(a:Int).toNat] (-(s.ll 0)[(a:Int).toNat])).toNat]'UI=(j':Int):=by rw[← fy UI];exact ng
    have uq:(op:Int) - 1=((op - 1:Nat):Int):=by omega
    ((iterate 2 refine zo ?_);(with_reducible apply AW.fY);exact rfl;exact rfl;kernel_rfl;(with_reducible assumption);refine a_.fT rfl rfl rfl ?_;refine tn ?_;refine C9 ?_;refine zm ?_;(with_reducible apply a_.eY 4);(iterate 8 exact rfl);exact ab;exact ab;refine aw ?_;refine tn ?_;refine C9 ?_;refine zm ?_;(with_reducible apply a_.eY 4);(iterate 8 exact rfl);exact ab;exact ab;refine aw ?_;refine Oy ?_;refine au ?_;refine a_.not rfl rfl rfl ?_;refine zd ?_;refine AW.yQ rfl rfl (by assumption) ?_;refine D5 ?_;refine uK ?_;refine C9 ?_;refine zm ?_;(with_reducible apply a_.eY 4);(iterate 8 exact rfl);exact ab;exact ab;refine aw ?_;refine kM ?_;refine ka ?_;refine a_.sub rfl rfl rfl rfl rfl aJ ?_;refine pz ?_;refine ka ?_;refine pN ?_;refine uP ?_;refine qs ?_;refine tn ?_;refine a_.c_ 92 2 2 rfl rfl rfl rfl ?_;refine zb ?_;refine J7 ?_;refine rW ?_;refine au ?_;refine za ?_;refine E_ ?_)
    exact⟨(⟨sl,rest,op - 1,tz,a,(s.ll 0)[(a:Int).toNat],j'⟩:AQ),hN,by show a<a0+1;omega,fp rfl (by(refine⟨.fg (by first|rfl|(rw[uq])|(rw[rB])),?_⟩;refine⟨.e9 (by first|rfl|(rw[uq])|(rw[rB])) rfl,?_⟩;refine⟨.e9 (by first|rfl|(rw[uq])|(rw[rB])) rfl,?_⟩;refine⟨.fg (by first|rfl|(rw[uq])|(rw[rB])),?_⟩;refine⟨.fg (by first|rfl|(rw[uq])|(rw[rB])),?_⟩;refine⟨.fg (by first|rfl|(rw[uq])|(rw[rB])),?_⟩;refine⟨.fg (by first|rfl|(rw[uq])|(rw[rB])),?_⟩;(iterate 2 refine aC ?_);exact trivial)) (by(refine aF ?_;refine aF ?_;refine⟨.box _ rfl ?_,?_⟩;refine⟨.e9 (by first|rfl|(rw[uq])|(rw[rB])) rfl,?_⟩;refine⟨.e9 (by first|rfl|(rw[uq])|(rw[rB])) rfl,?_⟩;refine⟨.e9 (by first|rfl|(rw[uq])|(rw[rB])) rfl,?_⟩;refine⟨.fg (by first|rfl|(rw[uq])|(rw[rB])),?_⟩;refine⟨.e9 (by first|rfl|(rw[uq])|(rw[rB])) rfl,?_⟩;refine⟨.fg (by first|rfl|(rw[uq])|(rw[rB])),?_⟩;refine⟨.e9 (by first|rfl|(rw[uq])|(rw[rB])) rfl,?_⟩;refine⟨.e9 (by first|rfl|(rw[uq])|(rw[rB])) rfl,?_⟩;refine⟨.fg (by first|rfl|(rw[uq])|(rw[rB])),?_⟩;refine⟨.fg (by first|rfl|(rw[uq])|(rw[rB])),?_⟩;refine⟨.fg (by first|rfl|(rw[uq])|(rw[rB])),?_⟩;refine⟨.e9 (by first|rfl|(rw[uq])|(rw[rB])) rfl,?_⟩;refine⟨.fg (by first|rfl|(rw[uq])|(rw[rB])),?_⟩;refine⟨.ib (by first|rfl|(rw[uq])|(rw[rB])),?_⟩;refine⟨.ib (by first|rfl|(rw[uq])|(rw[rB])),?_⟩;exact trivial;(iterate 3 refine aF ?_);refine⟨.e8 rfl (by first|rfl|(rw[uq])|(rw[rB])),?_⟩;(iterate 2 refine aF ?_);refine⟨.e8 rfl (by first|rfl|(rw[uq])|(rw[rB])),?_⟩;refine aF ?_;refine⟨.e8 rfl (by first|rfl|(rw[uq])|(rw[rB])),?_⟩;refine aF ?_;exact trivial)) rfl⟩
end Go.Ab
/- The solver:a clause attached,the bounds told of the two lists alone. -/
namespace Go.Ab
open Go Go.Proofs
open Nat (reduceAdd reduceSub)
set_option maxRecDepth 20000
set_option maxHeartbeats 4000000
attribute [local irreducible] gx AW a_ gb fq AR fz fk fJ fX kp lh eQ
theorem vO (s:SR) (x y:Int) (r:List Int) (hc:s.cl s.nc=x::y::r) (Uj:eQ x≠eQ y) (hx:0≤eQ x∧(eQ x).toNat<s.nw) (hy:0≤eQ y∧(eQ y).toNat<s.nw) (YK: -1000000≤x∧x≤1000000) (Jk: -1000000≤y∧y≤1000000)
  (hl:s.nc≤1000000) (Uq:(s.wl (eQ x).toNat).length≤1000000) (Vx:(s.wl (eQ y).toNat).length≤1000000) (zD:s.nw≤1000000) (TA:r.length≤1000000):
  tP Tryz.prog 50 11 (gV s) [.ptr 0 0,.pv (.lit (s.hc s.nc))] (fun h:Value×Value=>h.1.oneCell'=true∧h.2.oneCell'=true) (fun h=>gV (jP (jP {s with nc:=s.nc+1} x s.nc h.1) y s.nc h.2)) (fun _=>eV s.nc):=by
 have iR:2≤(s.cl s.nc).length:=by rw[hc];simp
 have e0:=k8 s.nc s.hc
 have e1:∀h,(gx s.nw h).length=s.nw:=k8 s.nw
 simp only[gV,gW]
 refine tP.enter (n:=50) Tryz.func50 rfl rfl rfl rfl rfl (by decide) rfl (fun _=>rfl) fun g fD fB=>?_;refine sF ?_
 refine AW.yT 7 rfl fun UR Wm=>?_
 (refine zq ?_;refine uO ?_;refine H7 ?_;refine zb ?_;refine a_.k8 rfl rfl rfl rfl ?_;refine uO ?_;refine Eb ?_;refine a_.c_ 94 1 6 rfl rfl rfl rfl ?_;refine jf ?_;(with_reducible apply a_.nr);(iterate 5 exact rfl);exact ag;exact rfl;exact rfl;refine Q0 ?_;(with_reducible apply a_.fI);exact rfl;exact ah;(iterate 9 exact rfl);exact aa;refine IQ ?_;refine a_.c_ 94 1 6 rfl rfl rfl rfl ?_;(with_reducible apply a_.gn);(iterate 5 exact rfl);exact ag;(iterate 3 exact rfl);(with_reducible assumption);refine mw ?_;refine nf ?_;(with_reducible apply a_.tt 7);(iterate 8 exact rfl);exact ab;exact ab;(with_reducible apply a_.DM 7);(iterate 5 exact rfl);exact ab;refine zZ ?_)
 (refine Q0 ?_;apply AW.gN [25,24,5,4,0,1000] [1,2,3,4,5,6,7,8,10] (fun q:Nat×(Nat→Value)×(Nat→List Int)=>([(26,eV q.1)]:List (Nat×AV))) (fun q:Nat×(Nat→Value)×(Nat→List Int)=>([(0,some (.box [.own 1 3 1 ((s.value).map encI),.own 2 3 1 ((s.level).map encI),.own 3 3 1 ((s.reason).map encI),.pv (.lit (s.hl 0)),.own 5 3 1 ((s.marks).map encI),eV (s.low),.own 6 29 1 (gx (s.nc+1) s.hc),.own 8 29 1 (gx s.nw q.2.1),eV (s.head),eV (s.added),fh (s.broken),.own 10 65 3 ((s.proof).map o_),eV 0,.pv (jI (s.model)),.pv (jI (s.core))])),(9,some (.e8 3 (j9 q.2.1 q.2.2)))]:List (Nat×Option Ob))) (fun q:Nat×(Nat→Value)×(Nat→List Int)=>AtI s x y q.1 q.2.1 q.2.2) (fun q:Nat×(Nat→Value)×(Nat→List Int)=>2 - q.1) (((0:Nat),s.hw,s.wl));(conv=>lhs;simp only[Nf.nN,Nf.all,di,reduceAdd,reduceSub]);(all_goals skip))
 ·exact⟨by omega,fun _=>⟨rfl,rfl⟩,fun h=>by omega,fun h=>by omega⟩
 ·exact fp rfl (by(refine⟨.fg (by first|rfl|(rw[← fl])|exact fl _ _),?_⟩;refine⟨.fg (by first|rfl|(rw[← fl])|exact fl _ _),?_⟩;refine⟨.fg (by first|rfl|(rw[← fl])|exact fl _ _),?_⟩;refine⟨.fg (by first|rfl|(rw[← fl])|exact fl _ _),?_⟩;refine⟨.fg (by first|rfl|(rw[← fl])|exact fl _ _),?_⟩;(iterate 2 refine aC ?_);exact trivial)) (by(refine⟨.box _ rfl ?_,?_⟩;refine⟨.e9 (by first|rfl|(rw[← fl])|exact fl _ _) rfl,?_⟩;refine⟨.e9 (by first|rfl|(rw[← fl])|exact fl _ _) rfl,?_⟩;refine⟨.e9 (by first|rfl|(rw[← fl])|exact fl _ _) rfl,?_⟩;refine⟨.fg (by first|rfl|(rw[← fl])|exact fl _ _),?_⟩;refine⟨.e9 (by first|rfl|(rw[← fl])|exact fl _ _) rfl,?_⟩;refine⟨.fg (by first|rfl|(rw[← fl])|exact fl _ _),?_⟩;refine⟨.e9 (by first|rfl|(rw[← fl])|exact fl _ _) rfl,?_⟩;refine⟨.e9 (by first|rfl|(rw[← fl])|exact fl _ _) rfl,?_⟩;refine⟨.fg (by first|rfl|(rw[← fl])|exact fl _ _),?_⟩;refine⟨.fg (by first|rfl|(rw[← fl])|exact fl _ _),?_⟩;refine⟨.fg (by first|rfl|(rw[← fl])|exact fl _ _),?_⟩;refine⟨.e9 (by first|rfl|(rw[← fl])|exact fl _ _) rfl,?_⟩;refine⟨.fg (by first|rfl|(rw[← fl])|exact fl _ _),?_⟩;refine⟨.ib (by first|rfl|(rw[← fl])|exact fl _ _),?_⟩;refine⟨.ib (by first|rfl|(rw[← fl])|exact fl _ _),?_⟩;exact trivial;refine⟨.e8 rfl (by first|rfl|(rw[← fl])|exact fl _ _),?_⟩;(iterate 3 refine aF ?_);refine⟨.e8 rfl (by first|rfl|(rw[← fl])|exact fl _ _),?_⟩;(iterate 2 refine aF ?_);refine⟨.e8 rfl (by first|rfl|(rw[← fl])|exact fl _ _),?_⟩;(iterate 2 refine aF ?_);exact trivial)) rfl
 rintro⟨k,hw,wl⟩ ⟨hk,i0,i1,i2⟩
 simp only at hk i0 i1 i2
 by_cases fm:k<2
 ·have JU:(k:Int).toNat<(s.cl s.nc).length:=by omega
  obtain⟨z,hz⟩:∃z,z=(s.cl s.nc)[(k:Int).toNat]:=⟨_,rfl⟩
  have Ai:(0≤eQ z∧(eQ z).toNat<s.nw)∧ -1000000≤z∧z≤1000000:=by
   have rE:k=0∨k=1:=by omega
   rcases rE with rfl|rfl
   ·have e:z=x:=by rw[hz];simp [hc]
    rw[e];exact⟨hx,YK⟩
   ·have e:z=y:=by rw[hz];simp [hc]
    rw[e];exact⟨hy,Jk⟩
  have l7:(k=0→z=x)∧(k=1→z=y):=⟨by rintro rfl;rw[hz];simp [hc],by rintro rfl;rw[hz];simp [hc]⟩
  have hw2:(wl (eQ z).toNat).length≤2000000:=by
   have rE:k=0∨k=1:=by omega
   rcases rE with rfl|rfl
   ·obtain⟨_,rfl⟩:=i0 rfl
    rw[l7.1 rfl];omega
   ·obtain⟨_,_,_,rfl⟩:=i1 rfl
    rw[l7.2 rfl,ft _ _ (fun e=>Uj aJ)];omega
  rw[hz] at Ai hw2
  obtain⟨⟨r1,r2⟩,r3⟩:=Ai
  have DR:=vc _ r3
  (refine pZ ?_;(with_reducible apply a_.yS 7);(iterate 8 exact rfl);exact ab;exact ab;exact ab;refine ax ?_;refine kM ?_;refine AW.gv [0,1,2,3,4,6,7,8,9,10,14] [18] rfl (by assumption) aI aI rfl ?_;show a_ .held _ _ _ [_,_,_,_,_,_,_,_,_,_,_] _ _;refine CY ?_;refine jf ?_;refine K5 ?_;intro k_ iL;refine Q0 ?_;apply AR.cut [14,10,9,8,7,6,4,3,2,1,0,5,11,12,13,15];intro oK;apply AR.cut [14,10,9,8,7,6,4,3,2,1,0,5,11,12,15];intro tS;apply AR.cut [14,10,9,8,7,6,4,3,2,1,0,5,11,15];intro sd;apply AR.cut [14,10,9,8,7,6,4,3,2,1,0,5,15];intro sU;(refine AR.gP (i:=5) (j:=15) rfl aI rfl rfl ?_ ?_<;>intro g_ b_ f_);refine zA (DR) ?_;refine Q4 ?_;(refine AR.gP (i:=11) (j:=15) rfl aI rfl rfl ?_ ?_<;>intro g_ b_ f_);refine zA (DR) ?_;refine Q4 ?_;(refine AR.gP (i:=12) (j:=15) rfl aI rfl rfl ?_ ?_<;>intro g_ b_ f_);refine um ?_;(refine AR.gP (i:=13) (j:=15) rfl aI rfl rfl ?_ ?_<;>intro g_ b_ f_);refine a_.jv rfl rfl rfl rfl (fun h_=>by cases h_) aJ ?_;refine Q4 ?_;refine AR.fG (i:=15) rfl aI rfl ?_;intro g_ b_ f_;(with_reducible apply a_.nr);(iterate 5 exact rfl);exact ag;exact rfl;exact rfl;refine jS ?_;refine aB ?_;exact xk;(with_reducible apply a_.nr);(iterate 5 exact rfl);exact ag;exact rfl;exact rfl;refine jS ?_;refine aB ?_;exact Gq;(with_reducible apply a_.nr);(iterate 5 exact rfl);exact ag;exact rfl;exact rfl;refine jS ?_;refine aB ?_;refine u9 ?_;exact AR.perm aI sd;(with_reducible apply a_.nr);(iterate 5 exact rfl);exact ag;exact rfl;exact rfl;refine jS ?_;refine aB ?_;refine u9 ?_;exact AR.perm aI sU;(with_reducible apply a_.nr);(iterate 5 exact rfl);exact ag;exact rfl;exact rfl;refine jS ?_;refine AR.fG (i:=5) rfl aI rfl ?_;intro g_ b_ f_;refine zA (DR) ?_;refine Q4 ?_;refine aB ?_;refine AR.meet sU aI (fun g_=>fp rfl ?_ ?_ rfl);(iterate 24 refine aC ?_);exact trivial;exact Tp;refine AR.fG (i:=11) rfl aI rfl ?_;intro g_ b_ f_;refine zA (DR) ?_;refine Q4 ?_;refine aB ?_;refine AR.meet sd aI (fun g_=>fp rfl ?_ ?_ rfl);(iterate 25 refine aC ?_);exact trivial;exact Tp;refine AR.fG (i:=12) rfl aI rfl ?_;intro g_ b_ f_;refine um ?_;refine aB ?_;refine AR.meet tS aI (fun g_=>fp rfl ?_ ?_ rfl);(iterate 26 refine aC ?_);exact trivial;exact Tp;refine AR.fG (i:=13) rfl aI rfl ?_;intro g_ b_ f_;refine a_.jv rfl rfl rfl rfl (fun h_=>by cases h_) aJ ?_;refine Q4 ?_;refine aB ?_;refine AR.meet oK aI (fun g_=>fp rfl ?_ ?_ rfl);(iterate 27 refine aC ?_);exact trivial;exact Tp;refine AR.fG (i:=16) rfl aI rfl ?_;intro g_ b_ f_;(with_reducible apply a_.lO 9);exact rfl;exact rfl;exact ah;(iterate 8 exact rfl);omega;(intro v_ Jc);refine jS ?_;refine AR.iw [17] aI aI aI aI ?_;intro g_ b_;show a_ .held _ _ _ [_] _ _;refine um ?_;intro k_ iL;refine Q0 ?_;refine AR.iI (i:=18) rfl aI rfl aI ?_;intro g_ b_ fe;(with_reducible apply a_.gu);(iterate 4 exact rfl);exact ag;(iterate 3 exact rfl);refine Q0 ?_;refine FM ?_;refine Gp ?_;refine Ba ?_)
  rw[← hz] at*
  refine⟨(k+1,eZ hw (eQ z).toNat v_,eZ wl (eQ z).toNat (wl (eQ z).toNat++ [(s.nc:Int)])),⟨by omega,fun h=>by simp at h,fun h=>?_,fun h=>?_⟩,by show 2 - (k+1)<2 - k;omega,fp rfl (by(refine LU ?_;(iterate 4 refine⟨.fg (by first|rfl|exact fN _ r2 _),?_⟩);exact Bs)) (by(refine⟨.box _ rfl ?_,?_⟩;(iterate 3 refine⟨.e9 (by first|rfl|exact fN _ r2 _) rfl,?_⟩);refine LU ?_;refine⟨.e9 (by first|rfl|exact fN _ r2 _) rfl,?_⟩;refine LU ?_;(iterate 2 refine⟨.e9 (by first|rfl|exact fN _ r2 _) rfl,?_⟩);(iterate 3 refine⟨.fg (by first|rfl|exact fN _ r2 _),?_⟩);refine⟨.e9 (by first|rfl|exact fN _ r2 _) rfl,?_⟩;refine LU ?_;(iterate 2 refine⟨.ib (by first|rfl|exact fN _ r2 _),?_⟩);exact trivial;refine O1 ?_;(iterate 3 refine aF ?_);refine O1 ?_;(iterate 2 refine aF ?_);refine O1 ?_;(iterate 2 refine aF ?_);exact trivial)) rfl⟩
  ·obtain rfl:k=0:=by simpa using h
   obtain⟨rfl,rfl⟩:=i0 rfl
   rw[l7.1 rfl]
   exact⟨v_,Jc,rfl,rfl⟩
  ·obtain rfl:k=1:=by simpa using h
   obtain⟨h1,q1,rfl,rfl⟩:=i1 rfl
   rw[l7.2 rfl]
   exact⟨h1,v_,q1,Jc,rfl,rfl⟩
 ·obtain rfl:k=2:=by omega
  obtain⟨h1,h2,q1,q2,rfl,rfl⟩:=i2 rfl
  (refine ko ?_;refine zs ?_;refine zd ?_;refine zo ?_;refine AW.jT rfl rfl ?_;refine D5 ?_;refine ka ?_;refine kQ ?_)
  (apply gL (((h1,h2):Value×Value)) (⟨q1,q2⟩);((exact gk.one (.tmp rfl rfl)));((exact Al));((exact Q2));exact rfl)
end Go.Ab
/- The solver:a learned clause asserted,walked. -/
namespace Go.Ab
open Go Go.Proofs
open Nat (reduceAdd reduceSub)
set_option maxRecDepth 20000
set_option maxHeartbeats 8000000
section
variable {P:Program} {g:eR} {δ:DS} {Q:Exit→DS→Prop}
theorem AW.KY (h:Stop (AW P g .ret Q δ)):AW P g .ret Q δ:=h
end
theorem IS {l:List Int} (h:l.length=1) (h0:(0:Int).toNat<l.length):l=[l[(0:Int).toNat]]:=by
 match l,h with
 |[a],_=>rfl
theorem OG {c:List Int} {m:Nat} (h2:2≤c.length) (h:1≤m) (hm:m<c.length):c0 ((c.set 1 c[m]).set m (c[1]'(by omega)))=c0 c∧c1 ((c.set 1 c[m]).set m (c[1]'(by omega)))=c[m]:=by
 match c,m,h,hm,h2 with
 |a::b::r,1,_,_,_=>exact⟨rfl,rfl⟩
 |a::b::r,k+2,_,hk,_=>exact⟨rfl,by simp [c1]⟩
theorem IZ {D:List Int} (h:2≤D.length):D=c0 D::c1 D::D.drop 2:=by
 match D,h with
 |a::b::r,_=>rfl
theorem pT {l:List Int} {m:Nat} (h:1≤m) (hm:m<l.length):l[m]∈l.tail:=by
 match l,m,h,hm with
 |a::r,k+1,_,hk=>simp
theorem vK {u:SR} {l:List Int} {m:Nat} (h:∀p (hp:p<l.length) (hq:m<l.length),1≤p→p<l.length→e_ u l[p]≤e_ u l[m]) (hm:m<l.length):∀x∈l.tail,e_ u x≤e_ u l[m]:=fun x hx=>by
 obtain⟨i,hi,rfl⟩:=List.getElem_of_mem hx
 rw[List.length_tail] at hi
 rw[List.getElem_tail]
 exact h (i+1) aJ hm aJ (by omega)
def Ju (u q:SR):Prop:=
 (∃p h,u.cl u.nc=[p]∧q=fF {u with hc:=eZ u.hc u.nc (.slice none 0 0),cl:=eZ u.cl u.nc [],proof:=u.proof++ [u.cl u.nc]} p (-1) h)∨
 ∃l' h1 h2 h,2≤(u.cl u.nc).length∧lk (u.cl u.nc) l'∧c0 l'=c0 (u.cl u.nc)∧c1 l'∈(u.cl u.nc).tail∧(∀x∈(u.cl u.nc).tail,e_ u x≤e_ u (c1 l'))∧q=fF (jP (jP {u with nc:=u.nc+1,cl:=eZ u.cl u.nc l',proof:=u.proof++ [u.cl u.nc]} (c0 l') u.nc h1) (c1 l') u.nc h2) (c0 l') u.nc h
attribute [local irreducible] gx AW a_ gb fq AR fz fk fJ fX kp lh eQ
theorem Gy (n:Nat) (u:SR) (hn:n≤20000) (hl:0<(u.cl u.nc).length) (ke:(u.cl u.nc).length≤1000000) (kd:∀x∈u.cl u.nc,Lit n x) (jl:(u.cl u.nc).Nodup) (hv:u.value.length=n+1) (qV:u.level.length=n+1) (hr:u.reason.length=n+1) (GP:(u.ll 0).length≤1000000) (hm:u.marks.length≤1000000) (hp:u.proof.length≤1000000) (z8:u.nc≤1000000) (zD:u.nw=2*n+2) (Aw:∀x,Lit n x→(u.wl (eQ x).toNat).length≤1000000):
  tP Tryz.prog 55 11 (gV u) [.ptr 0 0,.pv (.lit (u.hc u.nc))] (fun q:SR=>Ju u q) (fun q=>gV q) (fun _=> .gX []):=by
 have m_:=F6 u ke hp hl
 have nv:(0:Int).toNat<(u.cl u.nc).length:=show 0<_ by omega
 have PT:=kd _ (cZ nv)
 obtain⟨_,_,_⟩:=PT
 by_cases h1:(u.cl u.nc).length=1
 ·have JX:=qa {u with proof:=u.proof++ [u.cl u.nc]} (u.cl u.nc)[(0:Int).toNat] (-1) aJ (by show _<(u.value.length:Int)∧_<(u.value.length:Int);omega) (by show u.level.length=u.value.length;omega) (by show u.reason.length=u.value.length;omega) GP hm
  simp only[gV,gW] at m_ JX ⊢
  refine tP.enter (n:=87) Tryz.func55 rfl rfl rfl rfl rfl (by decide) rfl (fun _=>rfl) fun g fD fB=>?_;refine sF ?_
  (refine xy ?_;refine zm ?_;refine zX (m_) ?_;refine mB ?_;refine zd ?_;refine nf ?_;refine a_.ny 7 rfl rfl rfl rfl rfl ?_;refine pN ?_;refine zc ?_;refine zo ?_;refine Pf ?_;show a_ .held _ _ _ [_,_,_,_,_] _ _;refine tk ?_;(with_reducible apply a_.eY 7);(iterate 8 exact rfl);exact ab;exact ab;refine Q4 ?_;intro k_ iL;refine C2 ?_;intro g_ b_ f_;refine ax ?_;refine wK ?_;intro g_ b_ fe;(with_reducible apply a_.jU (hf:=JX));(with_reducible assumption);(iterate 3 exact rfl);exact aq;exact ak;(intro x_;exact rfl);exact rfl;exact al;(intro x_;exact al);(intro x_;exact rfl);exact rfl;(intro x_ pq);refine mB ?_;refine wH ?_;refine AW.KY ?_)
  refine Stop.go ?_
  refine AW.Jq 7 u.nc rfl ?_
  refine aB ?_
  have e1:=IS h1 nv
  (refine AW.ret ?_;refine gH ?_)
  (apply gL ((fF {u with hc:=eZ u.hc u.nc (.slice none 0 0),cl:=eZ u.cl u.nc [],proof:=u.proof++ [u.cl u.nc]} (u.cl u.nc)[(0:Int).toNat] (-1) x_:SR)) ((.inl ⟨(u.cl u.nc)[(0:Int).toNat],x_,e1,rfl⟩));((exact gk.none));((exact qS));((exact Qt));exact rfl)
 ·have h2:2≤(u.cl u.nc).length:=by omega
  have Ae:(1:Int).toNat<(u.cl u.nc).length:=show 1<_ by omega
  simp only[gV,gW] at m_ ⊢
  refine tP.enter (n:=87) Tryz.func55 rfl rfl rfl rfl rfl (by decide) rfl (fun _=>rfl) fun g fD fB=>?_;refine sF ?_
  (refine xy ?_;refine zm ?_;refine zX (m_) ?_;refine mB ?_;refine zd ?_;refine nf ?_;refine a_.ny 7 rfl rfl rfl rfl rfl ?_;refine pN ?_;refine uP ?_;refine ko ?_;refine pz ?_;refine ka ?_;refine a_.ny 7 rfl rfl rfl rfl rfl ?_;refine zZ ?_)
  (refine Q0 ?_;apply AW.gN [20,0,1,1000] [0,1,2,3,4,5,6,7,8,9,10] (fun q:Nat×Nat=>([(4,eV (q.1:Nat)),(21,eV (q.2:Nat))]:List (Nat×AV))) (fun q:Nat×Nat=>([]:List (Nat×Option Ob))) (fun q:Nat×Nat=>(1≤q.1∧q.1<(u.cl u.nc).length∧q.2≤(u.cl u.nc).length∧∀p (hp:p<(u.cl u.nc).length) (hq:q.1<(u.cl u.nc).length),1≤p→p<q.2→e_ u (u.cl u.nc)[p]≤e_ u (u.cl u.nc)[q.1])) (fun q:Nat×Nat=>(u.cl u.nc).length - q.2) (((1,0):Nat×Nat));(conv=>lhs;simp only[Nf.nN,Nf.all,di,reduceAdd,reduceSub]);(all_goals skip))
  ·exact⟨aP _,h2,Nat.zero_le _,fun p _ _ q1 q2=>by omega⟩
  ·exact fp rfl (by(refine aD ?_;(iterate 2 refine aD ?_);refine aC ?_;refine aD ?_;refine aC ?_;exact trivial)) (by(refine⟨.box _ rfl ?_,?_⟩;(iterate 3 refine aE ?_);refine aD ?_;refine aE ?_;refine aD ?_;(iterate 2 refine aE ?_);(iterate 3 refine aD ?_);refine aE ?_;refine aD ?_;(iterate 2 refine aG ?_);exact trivial;(iterate 3 refine aF ?_);refine aH ?_;(iterate 2 refine aF ?_);refine aH ?_;refine aF ?_;refine aH ?_;refine aF ?_;exact trivial)) rfl
  rintro⟨m,i⟩ ⟨EK,pP,hi,nk⟩
  simp only at EK pP hi nk
  by_cases fm:i<(u.cl u.nc).length
  ·have t_:(i:Int).toNat<(u.cl u.nc).length:=by omega
   have yh:(m:Int).toNat<(u.cl u.nc).length:=by omega
   obtain⟨a1,a2,a3⟩:=kd _ (cZ t_)
   obtain⟨b1,b2,b3⟩:=kd _ (cZ yh)
   have H6:0≤max (u.cl u.nc)[(i:Int).toNat] (-(u.cl u.nc)[(i:Int).toNat]):=by omega
   have Cf:(max (u.cl u.nc)[(i:Int).toNat] (-(u.cl u.nc)[(i:Int).toNat])).toNat<u.level.length:=by omega
   have hw0:0≤max (u.cl u.nc)[(m:Int).toNat] (-(u.cl u.nc)[(m:Int).toNat]):=by omega
   have Qx:(max (u.cl u.nc)[(m:Int).toNat] (-(u.cl u.nc)[(m:Int).toNat])).toNat<u.level.length:=by omega
   have g1:e_ u (u.cl u.nc)[i]=u.level[(max (u.cl u.nc)[(i:Int).toNat] (-(u.cl u.nc)[(i:Int).toNat])).toNat]:=fy Cf
   have g2:e_ u (u.cl u.nc)[m]=u.level[(max (u.cl u.nc)[(m:Int).toNat] (-(u.cl u.nc)[(m:Int).toNat])).toNat]:=fy Qx
   have MJ:¬(1≤i∧e_ u (u.cl u.nc)[m]<e_ u (u.cl u.nc)[i])→∀p (hp:p<(u.cl u.nc).length) (hq:m<(u.cl u.nc).length),1≤p→p<i+1→e_ u (u.cl u.nc)[p]≤e_ u (u.cl u.nc)[m]:=fun kY p hp hq q1 q2=>by
    by_cases e:p=i
    ·subst e
     apply Int.not_lt.1
     exact fun hh=>kY ⟨q1,hh⟩
    ·exact nk p hp hq q1 (by omega)
   by_cases ju:0<i
   ·have Vs:decide ((i:Int)>0)=true:=by simpa using ju
    by_cases WZ:u.level[(max (u.cl u.nc)[(m:Int).toNat] (-(u.cl u.nc)[(m:Int).toNat])).toNat]<u.level[(max (u.cl u.nc)[(i:Int).toNat] (-(u.cl u.nc)[(i:Int).toNat])).toNat]
    ·have vk:∀p (hp:p<(u.cl u.nc).length) (hq:i<(u.cl u.nc).length),1≤p→p<i+1→e_ u (u.cl u.nc)[p]≤e_ u (u.cl u.nc)[i]:=fun p hp hq q1 q2=>by
      by_cases e:p=i
      ·subst e;exact Int.le_refl _
      ·have:=nk p hp pP q1 (by omega)
       omega
     (refine pZ ?_;refine zm ?_;refine pz ?_;(with_reducible apply AW.fY);exact rfl;exact rfl;kernel_rfl;(with_reducible assumption);refine Hb ?_;refine zm ?_;refine LY ?_;refine zm ?_;refine zt ?_;(with_reducible apply a_.eY 7);(iterate 8 exact rfl);exact ab;exact ab;refine zt ?_;refine ax ?_;refine zN ?_;refine zm ?_;refine zt ?_;(with_reducible apply a_.eY 7);(iterate 8 exact rfl);exact ab;exact ab;refine zt ?_;refine ax ?_;refine KW ?_;refine au ?_;refine LY ?_;refine zm ?_;refine zt ?_;(with_reducible apply a_.eY 7);(iterate 8 exact rfl);exact ab;exact ab;refine zt ?_;refine ax ?_;refine zN ?_;refine zm ?_;refine zt ?_;(with_reducible apply a_.eY 7);(iterate 8 exact rfl);exact ab;exact ab;refine zt ?_;refine ax ?_;refine KW ?_;refine au ?_;refine zt ?_;refine a_.gtr rfl rfl rfl rfl rfl ?_;refine zT ?_;refine na ?_;refine qs ?_;refine zm ?_;refine za ?_;refine a_.nil ?_;refine Gp ?_;refine rj ?_)
     exact⟨((i,i+1):Nat×Nat),⟨ju,fm,fm,vk⟩,by show(u.cl u.nc).length - (i+1)<(u.cl u.nc).length - i;omega,fp rfl (by(refine aD ?_;(iterate 2 refine aD ?_);refine aC ?_;refine aD ?_;refine aC ?_;exact trivial)) (by(refine⟨.box _ rfl ?_,?_⟩;(iterate 3 refine aE ?_);refine aD ?_;refine aE ?_;refine aD ?_;(iterate 2 refine aE ?_);(iterate 3 refine aD ?_);refine aE ?_;refine aD ?_;(iterate 2 refine aG ?_);exact trivial;(iterate 3 refine aF ?_);refine aH ?_;(iterate 2 refine aF ?_);refine aH ?_;refine aF ?_;refine aH ?_;refine aF ?_;exact trivial)) rfl⟩
    ·have jn:=MJ (fun q=>WZ (by rw[← g1,← g2];exact q.2))
     (refine pZ ?_;refine zm ?_;refine pz ?_;(with_reducible apply AW.fY);exact rfl;exact rfl;kernel_rfl;(with_reducible assumption);refine Hb ?_;refine zm ?_;refine LY ?_;refine zm ?_;refine zt ?_;(with_reducible apply a_.eY 7);(iterate 8 exact rfl);exact ab;exact ab;refine zt ?_;refine ax ?_;refine zN ?_;refine zm ?_;refine zt ?_;(with_reducible apply a_.eY 7);(iterate 8 exact rfl);exact ab;exact ab;refine zt ?_;refine ax ?_;refine KW ?_;refine au ?_;refine LY ?_;refine zm ?_;refine zt ?_;(with_reducible apply a_.eY 7);(iterate 8 exact rfl);exact ab;exact ab;refine zt ?_;refine ax ?_;refine zN ?_;refine zm ?_;refine zt ?_;(with_reducible apply a_.eY 7);(iterate 8 exact rfl);exact ab;exact ab;refine zt ?_;refine ax ?_;refine KW ?_;refine au ?_;refine zt ?_;refine a_.gtr rfl rfl rfl rfl rfl ?_;refine zT ?_;refine zd ?_;refine zk ?_;refine uB ?_;refine rj ?_)
     exact W6
   ·have Vs:decide ((i:Int)>0)=false:=by simpa using ju
    have jn:=MJ (fun q=>by omega)
    (refine pZ ?_;refine zm ?_;refine pz ?_;(with_reducible apply AW.fY);exact rfl;exact rfl;kernel_rfl;(with_reducible assumption);refine Hb ?_;refine zm ?_;(iterate 35 refine a_.oo rfl rfl rfl rfl rfl rfl (by first|omega|decide) ?_);refine zF ?_;refine rK ?_;refine rj ?_)
    exact W6
  ·obtain rfl:i=(u.cl u.nc).length:=by omega
   have yh:(m:Int).toNat<(u.cl u.nc).length:=by omega
   obtain⟨D,hD⟩:∃D,D=((u.cl u.nc).set (1:Int).toNat (u.cl u.nc)[(m:Int).toNat]).set (m:Int).toNat (u.cl u.nc)[(1:Int).toNat]:=⟨_,rfl⟩
   have X7:(m:Int).toNat<(eZ u.cl u.nc ((u.cl u.nc).set (1:Int).toNat (u.cl u.nc)[(m:Int).toNat]) u.nc).length:=by rw[eW,List.length_set];exact yh
   obtain⟨d0,d1⟩:=OG h2 EK pP
   have MY:D=((u.cl u.nc).set 1 (u.cl u.nc)[m]).set m ((u.cl u.nc)[1]'(by omega)):=hD
   have EM:lk (u.cl u.nc) D:=by rw[MY];exact oH (i:=1) (k:=m) aJ pP
   rw[← MY] at d0 d1
   have Ov:2≤D.length:=by rw[EM.len];exact h2
   have WB:(0:Int).toNat<(eZ u.cl u.nc D u.nc).length:=by rw[eW];show 0<_;omega
   have M5:(eZ u.cl u.nc D u.nc)[(0:Int).toNat]=c0 D:=by
    have:∀(L:List Int) (hL:(0:Int).toNat<L.length),L=D→L[(0:Int).toNat]=c0 D:=fun L hL e=>by subst e;exact(fy hL).symm
    exact this _ WB (eW _ _ _)
   have m0:Lit n (c0 D):=kd _ ((EM.mem _).1 (jR Ov).1)
   have m1:Lit n (c1 D):=kd _ ((EM.mem _).1 (jR Ov).2)
   have fW:c0 D≠c1 D:=fun e=>by
    rw[show c0 D=D[0] from fy aJ,show c1 D=D[1] from fy aJ] at e
    have:=(List.getElem_inj (EM.nd jl) (h₀:=by omega) (h₁:=by omega)).1 e
    omega
   have Uq:=Aw _ m0
   have Vx:=Aw _ m1
   have i0:=hY m0
   have i1:=hY m1
   have Ap:(D.drop 2).length≤1000000:=by rw[List.length_drop,EM.len];omega
   obtain⟨_,_,_⟩:=m0
   obtain⟨_,_,_⟩:=m1
   have sH:=vO {u with cl:=eZ u.cl u.nc D,proof:=u.proof++ [u.cl u.nc]} (c0 D) (c1 D) (D.drop 2) (by show eZ u.cl u.nc D u.nc=_;rw[eW];exact IZ Ov) (fun e=>fW (gU (n:=n) ⟨by omega,by omega,by omega⟩ ⟨by omega,by omega,by omega⟩ (by rw[e]))) (by show 0≤eQ (c0 D)∧_<u.nw;omega) (by show 0≤eQ (c1 D)∧_<u.nw;omega) aJ aJ z8 Uq Vx (by show u.nw≤_;omega) Ap
   have JX:=fun h1 h2:Value=>qa (jP (jP {u with nc:=u.nc+1,cl:=eZ u.cl u.nc D,proof:=u.proof++ [u.cl u.nc]} (c0 D) u.nc h1) (c1 D) u.nc h2) (eZ u.cl u.nc D u.nc)[(0:Int).toNat] (u.nc:Nat) (by rw[M5];omega) (by rw[M5];show _<(u.value.length:Int)∧_<(u.value.length:Int);omega) (by show u.level.length=u.value.length;omega) (by show u.reason.length=u.value.length;omega) GP hm
   simp only[gV,gW,jP] at sH JX
   (refine ko ?_;refine P8 ?_;refine zo ?_;refine AW.gv [0,3,4,5,7,8] [11] rfl (by assumption) aI aI rfl ?_;show a_ .held _ _ _ [_,_,_,_,_,_] _ _;(iterate 3 refine zm ?_);(with_reducible apply a_.eY 7);(iterate 8 exact rfl);exact ab;exact ab;refine zm ?_;(with_reducible apply a_.eY 7);(iterate 8 exact rfl);exact ab;exact ab;refine Q4 ?_;intro k_ iL;refine Q0 ?_;(refine AR.free 1 aI rfl rfl rfl (by first|exact fS.fH rfl rfl|exact fS.iu rfl rfl|exact fS.nilCheck rfl rfl) ?_);(refine AR.free 2 aI rfl rfl rfl (by first|exact fS.fH rfl rfl|exact fS.iu rfl rfl|exact fS.nilCheck rfl rfl) ?_);apply AR.cut [2,1,8,7,5,4,3,0,6,9];intro oK;(refine AR.gP (i:=6) (j:=9) rfl aI rfl rfl ?_ ?_<;>intro g_ b_ f_);refine ax ?_;refine Mn ?_;intro g_ b_ f_;refine ax ?_;refine Q4 ?_;refine aB ?_;exact xk;refine ax ?_;refine Q4 ?_;refine AR.fG (i:=6) rfl aI rfl ?_;intro g_ b_ f_;refine ax ?_;refine Q4 ?_;refine aB ?_;refine AR.meet oK aI (fun g_=>fp rfl ?_ ?_ rfl);(iterate 17 refine aC ?_);exact trivial;exact OM;refine AR.iw [10] aI aI aI aI ?_;intro g_ b_;show a_ .held _ _ _ [_] _ _;(with_reducible apply a_.eY 7);(iterate 8 exact rfl);exact ab;exact ab;refine Q4 ?_;intro k_ iL;refine Q0 ?_;refine DN ?_;intro g_ b_ fe;(with_reducible apply a_.kG 7);(iterate 7 exact rfl);exact ab;refine jS ?_;refine DZ ?_;intro g_ b_ fe;(with_reducible apply a_.eY 7);(iterate 8 exact rfl);exact ab;exact ab;refine Q4 ?_;refine xD ?_;intro g_ b_ fe;(with_reducible apply a_.kG 7);(iterate 7 exact rfl);exact ab;refine r9 ?_;(with_reducible apply AW.atR 11);(rw[jr]);(rw[eW]);(rw[← hD]);refine AW.Nh 11 ?_)
   refine Stop.go ?_
   have WN:True:=trivial
   (refine AW.gv [6,7] [8] rfl (by assumption) aI aI rfl ?_;show a_ .held _ _ _ [_,_] _ _;refine FU ?_;refine Q4 ?_;intro k_ iL;refine Q0 ?_;(refine AR.free 0 aI rfl rfl rfl (by first|exact fS.fH rfl rfl|exact fS.iu rfl rfl|exact fS.nilCheck rfl rfl) ?_);(refine AR.free 1 aI rfl rfl rfl (by first|exact fS.fH rfl rfl|exact fS.iu rfl rfl|exact fS.nilCheck rfl rfl) ?_);refine AR.free 2 aI rfl rfl rfl (fS.fieldAddr _ _ 0 rfl rfl rfl) ?_;refine aB ?_;(refine AR.free 3 aI rfl rfl rfl (by first|exact fS.fH rfl rfl|exact fS.iu rfl rfl|exact fS.nilCheck rfl rfl) ?_);(refine AR.z7 (i:=4) (j:=8) rfl aI rfl rfl aI ?_ ?_<;>intro g_ b_ fe);(with_reducible apply a_.eY 7);(iterate 8 exact rfl);exact ab;exact ab;refine Q4 ?_;(refine AR.z7 (i:=5) (j:=8) rfl aI rfl rfl aI ?_ ?_<;>intro g_ b_ fe);refine ax ?_;refine Q4 ?_;refine G9 ?_;intro g_ b_ fe;(with_reducible apply a_.jU (hf:=sH));(with_reducible assumption);(iterate 3 exact rfl);exact aq;exact ak;(intro x_;exact rfl);exact rfl;exact al;(intro x_;exact al);(intro x_;exact rfl);exact rfl;(intro x_ pq);refine mB ?_;refine Q4 ?_;refine Ja ?_;intro g_ b_ fe;(with_reducible apply a_.jU (hf:=(JX _ _)));(with_reducible assumption);(iterate 3 exact rfl);exact aq;exact ak;(intro x_;exact rfl);exact rfl;exact al;(intro x_;exact al);(intro x_;exact rfl);exact rfl;(intro x_ pq);refine mB ?_;refine FM ?_;(all_goals skip);rotate_left;(with_reducible apply a_.jU (hf:=sH));(with_reducible assumption);(iterate 3 exact rfl);exact aq;exact ak;(intro x_;exact rfl);exact rfl;exact al;(intro x_;exact al);(intro x_;exact rfl);exact rfl;(intro x_ pq);refine mB ?_;refine Q4 ?_;refine AR.iI (i:=5) rfl aI rfl aI ?_;intro g_ b_ fe;refine ax ?_;refine Q4 ?_;refine Ja ?_;intro g_ b_ fe;(with_reducible apply a_.jU (hf:=(JX _ _)));(with_reducible assumption);(iterate 3 exact rfl);exact aq;exact ak;(intro x_;exact rfl);exact rfl;exact al;(intro x_;exact al);(intro x_;exact rfl);exact rfl;(intro x_ pq);refine mB ?_;refine FM ?_;(all_goals skip);rotate_left;(with_reducible apply a_.jU (hf:=sH));(with_reducible assumption);(iterate 3 exact rfl);exact aq;exact ak;(intro x_;exact rfl);exact rfl;exact al;(intro x_;exact al);(intro x_;exact rfl);exact rfl;(intro x_ pq);refine mB ?_;refine Q4 ?_;refine KZ ?_;intro g_ b_ fe;(with_reducible apply a_.eY 7);(iterate 8 exact rfl);exact ab;exact ab;refine Q4 ?_;refine AR.iI (i:=5) rfl aI rfl aI ?_;intro g_ b_ fe;refine ax ?_;refine Q4 ?_;refine Ja ?_;intro g_ b_ fe;(with_reducible apply a_.jU (hf:=(JX _ _)));(with_reducible assumption);(iterate 3 exact rfl);exact aq;exact ak;(intro x_;exact rfl);exact rfl;exact al;(intro x_;exact al);(intro x_;exact rfl);exact rfl;(intro x_ pq);refine mB ?_;refine FM ?_;(all_goals skip);rotate_left)
   ·(apply mF ((fF (jP (jP {u with nc:=u.nc+1,cl:=eZ u.cl u.nc D,proof:=u.proof++ [u.cl u.nc]} (c0 D) u.nc ‹Value×Value›.1) (c1 D) u.nc ‹Value×Value›.2) (eZ u.cl u.nc D u.nc)[(0:Int).toNat] (u.nc:Nat) x_:SR)) ((.inr ⟨D,‹Value×Value›.1,‹Value×Value›.2,x_,h2,EM,d0,by rw[d1];exact pT EK pP,fun x hx=>by rw[d1];exact vK nk pP x hx,by rw[M5]⟩));((exact gk.none));((exact qS));((exact Qt));exact rfl)
   ·(apply mF ((fF (jP (jP {u with nc:=u.nc+1,cl:=eZ u.cl u.nc D,proof:=u.proof++ [u.cl u.nc]} (c0 D) u.nc ‹Value×Value›.1) (c1 D) u.nc ‹Value×Value›.2) (eZ u.cl u.nc D u.nc)[(0:Int).toNat] (u.nc:Nat) x_:SR)) ((.inr ⟨D,‹Value×Value›.1,‹Value×Value›.2,x_,h2,EM,d0,by rw[d1];exact pT EK pP,fun x hx=>by rw[d1];exact vK nk pP x hx,by rw[M5]⟩));((exact gk.none));((exact qS));((exact Qt));exact rfl)
   ·(apply mF ((fF (jP (jP {u with nc:=u.nc+1,cl:=eZ u.cl u.nc D,proof:=u.proof++ [u.cl u.nc]} (c0 D) u.nc ‹Value×Value›.1) (c1 D) u.nc ‹Value×Value›.2) (eZ u.cl u.nc D u.nc)[(0:Int).toNat] (u.nc:Nat) x_:SR)) ((.inr ⟨D,‹Value×Value›.1,‹Value×Value›.2,x_,h2,EM,d0,by rw[d1];exact pT EK pP,fun x hx=>by rw[d1];exact vK nk pP x hx,by rw[M5]⟩));((exact gk.none));((exact qS));((exact Qt));exact rfl)
end Go.Ab
