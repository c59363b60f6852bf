/- The solver: the conflict analysis, walked. -/
import Derived.Test.YtigjjjpcjnifhaaGreatAuS7
import Derived.Test.YtigjjjpcjnifhaaGreatAbZ
import Derived.Test.YtigjjjpcjnifhaaGreatAbL3
import Derived.Test.YtigjjjpcjnifhaaGreatAuA3
set_option linter.unusedSimpArgs false
set_option linter.unusedVariables false
open List renaming replicate→bZ,getElem_mem→cY,cons_append→bu,map_append→cR
open Int renaming toNat_natCast→dq
open Nat renaming reduceBEq→df,le_refl→aP
namespace Go.Ab
open Go Go.Proofs
open Nat (reduceAdd reduceSub)
set_option maxRecDepth 20000
set_option maxHeartbeats 8000000
structure AQ where
 sl:List Bool
 rest:List Int
 op:Nat
 to:Int
 k:Nat
 piv:Int
 j:Nat
theorem iZ (n:Nat) (h:Nat→Value) (v:Value):gG n h=gG n (e_ h n v):=by
 unfold gG
 apply List.map_congr_left
 intro k hk
 rw[fC _ _ (by have:=List.mem_range.1 hk;omega)]
attribute [local irreducible] gG AW a_ gr fz AR fH fv fM gk lk me
theorem Gk (n:Nat) (s:SR) (hs:fY n s) (j0:Nat) (RZ:j0<s.nc) (hf:∀x∈s.cl j0,-x∈s.ll 0) (hm:0<s.marks.length) (hmb:s.marks.length≤1000000):vo Tryz.prog 61 11 (ie s) [.ptr 0 0,eU (j0:Nat)] (fun q:Value×List Int×Int=>q.1.oneCell'=true∧uz n s j0 q.2.1 q.2.2) (fun q=>ie {s with hc:=e_ s.hc s.nc q.1,cl:=e_ s.cl s.nc q.2.1}) (fun q=> .gY [.pv (.lit q.1),eU q.2.2]):=by
 have sA:=hs.hn
 have kY:=hs.iU.len
 have A_:=hs.nc
 have M_:=hs.pH
 have Rg:=hs.lvl
 have EA:s.value.length=n+1:=by rw[hs.val,kE]
 have LR:bZ ((s.value.length:Nat):Int).toNat [PV.lit (.bool false)]=(bZ (n+1) false).map kX:=by rw[dq,EA];exact SD (n+1)
 have Xy:=lZ s.nc s.hc
 simp only[ie,ij]
 refine vo.enter (n:=155) Tryz.func61 rfl rfl rfl rfl rfl (by decide) rfl (fun _=>rfl) fun g fp fl=>?_;refine s9 ?_
 (refine zq ?_;refine uf ?_;refine Rj ?_;refine PQ ?_;refine Q0 ?_;refine B8 ?_;(with_reducible apply AW.xe 2);(rw[LR]);refine kJ ?_;(with_reducible apply a_.oE);(iterate 5 exact rfl);exact ag;exact rfl;exact rfl;refine Q0 ?_;refine B8 ?_;refine kJ ?_;refine uf ?_;refine vh ?_;refine Gq ?_;refine qJ ?_;refine wX ?_)
 (refine Q0 ?_;apply AW.gJ [0,1000] [12,11,0,1,2,3,4,5,6,7,8,9,10] (fun q:AQ=>([(1,eU (q.j:Nat)),(6,.own 11 4 1 (q.sl.map kX)),(7,.own 12 3 1 ((0::q.rest).map encI)),(8,eU (q.op:Nat)),(9,eU q.to),(10,eU (q.k:Nat)),(11,eU q.piv)]:List (Nat×AV))) (fun q:AQ=>([]:List (Nat×Option Ob))) (fun q:AQ=>Av n s j0 q.sl q.rest q.op q.to q.k q.piv q.j) (fun q:AQ=>q.k) ((⟨bZ (n+1) false,[],0,0,(s.ll 0).length,0,j0⟩:AQ));(conv=>lhs;simp only[Nf.ot,Nf.all,df,reduceAdd,reduceSub]);(all_goals skip))
 ·exact .start hs RZ hf
 ·exact fe rfl (by(refine aD ?_;(iterate 2 refine aE ?_);(iterate 4 refine aD ?_);(iterate 2 refine aC ?_);exact trivial)) (by(refine aF ?_;refine aF ?_;refine⟨.box _ rfl ?_,?_⟩;(iterate 3 refine aE ?_);refine aD ?_;refine aE ?_;refine aD ?_;(iterate 2 refine aE ?_);(iterate 3 refine aD ?_);refine aE ?_;refine aD ?_;(iterate 2 refine aG ?_);exact trivial;(iterate 3 refine aF ?_);refine aH ?_;(iterate 2 refine aF ?_);refine aH ?_;refine aF ?_;refine aH ?_;refine aF ?_;exact trivial)) rfl
 rintro⟨sl0,rest0,op0,to0,k,piv,j⟩ hA
 simp only at hA
 have hj:=hA.hj
 have iX:=hs.FT hj
 have qf:=(hs.cls j hj).2.2
 have Vf:=hA.row
 have MX:=hA.hk
 have Ou:(j:Int).toNat<s.nc:=by omega
 (refine AW.block ?_;refine zo ?_;refine kJ ?_;refine Mt ?_;refine iY ?_;refine TG ?_;refine a_.jP rfl rfl rfl rfl (fun h_=>by cases h_) aJ ?_;refine a_.pR 7 rfl rfl rfl rfl rfl ?_;refine zp ?_)
 rw[dq j]
 (refine Q0 ?_;apply AW.gJ [36,35,1,10,11,0,1000] [12,11,0,1,2,3,4,5,6,7,8,9,10] (fun q:AQ=>([(6,.own 11 4 1 (q.sl.map kX)),(7,.own 12 3 1 ((0::q.rest).map encI)),(8,eU (q.op:Nat)),(9,eU q.to),(37,eU (q.k:Nat))]:List (Nat×AV))) (fun q:AQ=>([]:List (Nat×Option Ob))) (fun q:AQ=>qu n s j0 k piv j q.sl q.rest q.op q.to q.k) (fun q:AQ=>(s.cl j).length - q.k) ((⟨sl0,rest0,op0,to0,0,0,0⟩:AQ));(conv=>lhs;simp only[Nf.ot,Nf.all,df,reduceAdd,reduceSub]);(all_goals skip))
 ·exact Vf
 ·exact fe rfl (by(refine aE ?_;refine aE ?_;(iterate 8 refine aD ?_);(iterate 2 refine aC ?_);exact trivial)) (by(refine aF ?_;refine aF ?_;refine⟨.box _ rfl ?_,?_⟩;(iterate 3 refine aE ?_);refine aD ?_;refine aE ?_;refine aD ?_;(iterate 2 refine aE ?_);(iterate 3 refine aD ?_);refine aE ?_;refine aD ?_;(iterate 2 refine aG ?_);exact trivial;(iterate 3 refine aF ?_);refine aH ?_;(iterate 2 refine aF ?_);refine aH ?_;refine aF ?_;refine aH ?_;refine aF ?_;exact trivial)) rfl
 rintro⟨sl,rest,op,to,i,z1,z2⟩ hR
 simp only at hR
 clear hA Vf
 have uZ:=hR.Yq hs
 have S5:=hR.base.len
 have hi:=hR.hi
 by_cases fy:i<(s.cl j).length
 ·have vT:(i:Int).toNat<(s.cl j).length:=by omega
  obtain⟨x,hx⟩:∃x,x=(s.cl j)[(i:Int).toNat]:=⟨_,rfl⟩
  have ve:(s.cl j)[i]=x:=hx.symm
  have wk:=qf _ (cY vT)
  rw[← hx] at wk
  obtain⟨_,_,_⟩:=wk
  have Ke:0≤max x (-x):=by omega
  have Ew:(max x (-x)).toNat<sl.length:=by omega
  have Am:(max x (-x)).toNat<s.level.length:=by omega
  have MT:sl.getD (fk x) false=sl[(max x (-x)).toNat]:=vR Ew
  have NV:fh s x=s.level[(max x (-x)).toNat]:=fJ Am
  by_cases hp:x=piv
  ·have mZ:decide (x=piv)=true:=by simpa using hp
   have sO:=hR.skip fy (.inl (by rw[ve];exact hp))
   (refine ru ?_;(with_reducible apply a_.e9 7);(iterate 8 exact rfl);exact ab;exact ab;refine ax ?_;refine lK ?_;(with_reducible apply AW.xe 9);(rw[← hx]);refine kJ ?_;refine JD ?_;refine vt ?_;(iterate 2 refine zm ?_);refine a_.eql rfl rfl rfl rfl rfl ?_;refine zm ?_;refine OE ?_;refine zm ?_;(iterate 9 refine a_.gE rfl rfl rfl rfl rfl rfl rfl ?_);refine A9 ?_;refine Jy ?_;refine td ?_)
   exact Yg
  ·have mZ:decide (x=piv)=false:=by simpa using hp
   cases jY:sl[(max x (-x)).toNat] with
   |true=>
    have sO:=hR.skip fy (.inr (.inl (by rw[ve,MT];exact jY)))
    (refine ru ?_;(with_reducible apply a_.e9 7);(iterate 8 exact rfl);exact ab;exact ab;refine ax ?_;refine lK ?_;(with_reducible apply AW.xe 9);(rw[← hx]);refine NQ ?_;refine au ?_;refine zF ?_;refine zm ?_;refine U7 ?_;refine td ?_)
    exact Yg
   |false=>
    have lU:=JX sl (max x (-x)).toNat
    by_cases xb:s.level[(max x (-x)).toNat]=0
    ·have ZL:decide (s.level[(max x (-x)).toNat]=0)=true:=by simpa using xb
     have sO:=hR.skip fy (.inr (.inr (by rw[ve,NV];exact xb)))
     (refine ru ?_;(with_reducible apply a_.e9 7);(iterate 8 exact rfl);exact ab;exact ab;refine ax ?_;refine lK ?_;(with_reducible apply AW.xe 9);(rw[← hx]);refine NQ ?_;refine au ?_;refine zF ?_;refine TD ?_;refine au ?_;refine HC ?_;refine jD ?_;refine Jy ?_;refine td ?_)
     exact Yg
    ·have ZL:decide (s.level[(max x (-x)).toNat]=0)=false:=by simpa using xb
     by_cases RI:s.level[(max x (-x)).toNat]=(s.marks.length:Int)
     ·have YZ:decide (s.level[(max x (-x)).toNat]=(s.marks.length:Int))=true:=by simpa using RI
      have sO:=hR.cur hs hm fy (by rw[ve];exact hp) (by rw[ve,MT];exact jY) (by rw[ve,NV];exact RI)
      rw[ve] at sO
      (refine ru ?_;(with_reducible apply a_.e9 7);(iterate 8 exact rfl);exact ab;exact ab;refine ax ?_;refine lK ?_;(with_reducible apply AW.xe 9);(rw[← hx]);refine NQ ?_;refine au ?_;refine zF ?_;refine TD ?_;refine au ?_;refine HC ?_;refine uD ?_;refine kJ ?_;refine se ?_;refine tw ?_;(with_reducible apply a_.gQ);(iterate 4 exact rfl);exact ag;(iterate 3 exact rfl);refine Q0 ?_;refine zd ?_;(iterate 2 refine zo ?_);(with_reducible apply AW.gb);exact rfl;exact rfl;kernel_rfl;(with_reducible assumption);refine wx ?_;refine K9 ?_;refine tw ?_;refine au ?_;refine wx ?_;refine BT ?_;refine a_.eql rfl rfl rfl rfl rfl ?_;refine jD ?_;refine qw ?_;refine zj ?_;refine lK ?_;refine Jy ?_;refine td ?_)
      exact⟨(⟨sl.set (fk x) true,rest,op+1,to,i+1,z1,z2⟩:AQ),sO,by show(s.cl j).length - (i+1)<(s.cl j).length - i;omega,fe rfl (by(refine⟨.ff (by first|rfl|exact lU) rfl,?_⟩;refine⟨.ff (by first|rfl|exact lU) rfl,?_⟩;(iterate 8 refine⟨.fm (by first|rfl|exact lU),?_⟩);(iterate 2 refine aC ?_);exact trivial)) (by(refine aF ?_;refine aF ?_;refine⟨.box _ rfl ?_,?_⟩;(iterate 3 refine⟨.ff (by first|rfl|exact lU) rfl,?_⟩);refine⟨.fm (by first|rfl|exact lU),?_⟩;refine⟨.ff (by first|rfl|exact lU) rfl,?_⟩;refine⟨.fm (by first|rfl|exact lU),?_⟩;(iterate 2 refine⟨.ff (by first|rfl|exact lU) rfl,?_⟩);(iterate 3 refine⟨.fm (by first|rfl|exact lU),?_⟩);refine⟨.ff (by first|rfl|exact lU) rfl,?_⟩;refine⟨.fm (by first|rfl|exact lU),?_⟩;(iterate 2 refine⟨.iz (by first|rfl|exact lU),?_⟩);exact trivial;(iterate 3 refine aF ?_);refine⟨.fb rfl (by first|rfl|exact lU),?_⟩;(iterate 2 refine aF ?_);refine⟨.fb rfl (by first|rfl|exact lU),?_⟩;refine aF ?_;refine⟨.fb rfl (by first|rfl|exact lU),?_⟩;refine aF ?_;exact trivial)) rfl⟩
     ·have YZ:decide (s.level[(max x (-x)).toNat]=(s.marks.length:Int))=false:=by simpa using RI
      have sO:=hR.Cr hs fy (by rw[ve];exact hp) (by rw[ve,MT];exact jY) (by rw[ve,NV];exact RI) (by rw[ve,NV];exact xb)
      rw[ve,NV] at sO
      (refine ru ?_;(with_reducible apply a_.e9 7);(iterate 8 exact rfl);exact ab;exact ab;refine ax ?_;refine lK ?_;(with_reducible apply AW.xe 9);(rw[← hx]);refine NQ ?_;refine au ?_;refine zF ?_;refine TD ?_;refine au ?_;refine HC ?_;refine uD ?_;refine kJ ?_;refine se ?_;refine tw ?_;(with_reducible apply a_.gQ);(iterate 4 exact rfl);exact ag;(iterate 3 exact rfl);refine Q0 ?_;refine zd ?_;(iterate 2 refine zo ?_);(with_reducible apply AW.gb);exact rfl;exact rfl;kernel_rfl;(with_reducible assumption);refine wx ?_;refine K9 ?_;refine tw ?_;refine au ?_;refine wx ?_;refine BT ?_;refine a_.eql rfl rfl rfl rfl rfl ?_;refine uD ?_;refine kJ ?_;refine se ?_;(with_reducible apply a_.oE);(iterate 5 exact rfl);exact ag;exact rfl;exact rfl;refine Q0 ?_;(with_reducible apply a_.fD);exact rfl;exact ah;(iterate 9 exact rfl);exact aa;refine Q0 ?_;refine B8 ?_;refine tu ?_;refine zm ?_;refine wx ?_;refine K9 ?_;refine tw ?_;refine au ?_;refine a_.max2 rfl rfl rfl rfl rfl ?_;refine za ?_;refine a_.nil ?_;refine uH ?_;refine td ?_)
      exact⟨(⟨sl.set (fk x) true,rest++ [x],op,max to s.level[(max x (-x)).toNat],i+1,z1,z2⟩:AQ),sO,by show(s.cl j).length - (i+1)<(s.cl j).length - i;omega,fe rfl (by(refine⟨.ff (by first|rfl|exact lU|(rw[← bu,cR];rfl)) rfl,?_⟩;refine⟨.ff (by first|rfl|exact lU|(rw[← bu,cR];rfl)) rfl,?_⟩;refine⟨.fm (by first|rfl|exact lU|(rw[← bu,cR];rfl)),?_⟩;refine⟨.fm (by first|rfl|exact lU|(rw[← bu,cR];rfl)),?_⟩;refine⟨.fm (by first|rfl|exact lU|(rw[← bu,cR];rfl)),?_⟩;refine⟨.fm (by first|rfl|exact lU|(rw[← bu,cR];rfl)),?_⟩;refine⟨.fm (by first|rfl|exact lU|(rw[← bu,cR];rfl)),?_⟩;refine⟨.fm (by first|rfl|exact lU|(rw[← bu,cR];rfl)),?_⟩;refine⟨.fm (by first|rfl|exact lU|(rw[← bu,cR];rfl)),?_⟩;refine⟨.fm (by first|rfl|exact lU|(rw[← bu,cR];rfl)),?_⟩;(iterate 2 refine aC ?_);exact trivial)) (by(refine aF ?_;refine aF ?_;refine⟨.box _ rfl ?_,?_⟩;refine⟨.ff (by first|rfl|exact lU|(rw[← bu,cR];rfl)) rfl,?_⟩;refine⟨.ff (by first|rfl|exact lU|(rw[← bu,cR];rfl)) rfl,?_⟩;refine⟨.ff (by first|rfl|exact lU|(rw[← bu,cR];rfl)) rfl,?_⟩;refine⟨.fm (by first|rfl|exact lU|(rw[← bu,cR];rfl)),?_⟩;refine⟨.ff (by first|rfl|exact lU|(rw[← bu,cR];rfl)) rfl,?_⟩;refine⟨.fm (by first|rfl|exact lU|(rw[← bu,cR];rfl)),?_⟩;refine⟨.ff (by first|rfl|exact lU|(rw[← bu,cR];rfl)) rfl,?_⟩;refine⟨.ff (by first|rfl|exact lU|(rw[← bu,cR];rfl)) rfl,?_⟩;refine⟨.fm (by first|rfl|exact lU|(rw[← bu,cR];rfl)),?_⟩;refine⟨.fm (by first|rfl|exact lU|(rw[← bu,cR];rfl)),?_⟩;refine⟨.fm (by first|rfl|exact lU|(rw[← bu,cR];rfl)),?_⟩;refine⟨.ff (by first|rfl|exact lU|(rw[← bu,cR];rfl)) rfl,?_⟩;refine⟨.fm (by first|rfl|exact lU|(rw[← bu,cR];rfl)),?_⟩;refine⟨.iz (by first|rfl|exact lU|(rw[← bu,cR];rfl)),?_⟩;refine⟨.iz (by first|rfl|exact lU|(rw[← bu,cR];rfl)),?_⟩;exact trivial;(iterate 3 refine aF ?_);refine⟨.fb rfl (by first|rfl|exact lU|(rw[← bu,cR];rfl)),?_⟩;(iterate 2 refine aF ?_);refine⟨.fb rfl (by first|rfl|exact lU|(rw[← bu,cR];rfl)),?_⟩;refine aF ?_;refine⟨.fb rfl (by first|rfl|exact lU|(rw[← bu,cR];rfl)),?_⟩;refine aF ?_;exact trivial)) rfl⟩
 ·obtain rfl:i=(s.cl j).length:=by omega
  have hD:=hR.fin hs hm
  have Fe:=hD.pos
  obtain⟨a0,rfl⟩:∃a0,k=a0+1:=⟨k - 1,by omega⟩
  have ek:((a0+1:Nat):Int) - 1=(a0:Int):=by omega
  (refine kJ ?_;refine zs ?_;refine kW ?_;refine tW ?_;refine zo ?_;refine qw ?_;refine Bc ?_;refine AW.block ?_)
  (refine Q0 ?_;apply AW.gJ [6,7,8,9,1,11,0,1000] [12,11,0,1,2,3,4,5,6,7,8,9,10] (fun a:Nat=>([(10,eU (a:Nat))]:List (Nat×AV))) (fun a:Nat=>([]:List (Nat×Option Ob))) (fun a:Nat=>(om n s j0 (a+1) sl rest op to∧a≤a0)) (fun a:Nat=>a) (a0);(conv=>lhs;simp only[Nf.ot,Nf.all,df,reduceAdd,reduceSub]);(all_goals skip))
  ·exact⟨hD,aP _⟩
  ·exact fe rfl (by(refine⟨.fm (by first|rfl|(rw[ek])),?_⟩;refine⟨.ff (by first|rfl|(rw[ek])) rfl,?_⟩;refine⟨.ff (by first|rfl|(rw[ek])) rfl,?_⟩;refine⟨.fm (by first|rfl|(rw[ek])),?_⟩;refine⟨.fm (by first|rfl|(rw[ek])),?_⟩;refine⟨.fm (by first|rfl|(rw[ek])),?_⟩;refine⟨.fm (by first|rfl|(rw[ek])),?_⟩;(iterate 2 refine aC ?_);exact trivial)) (by(refine aF ?_;refine aF ?_;refine⟨.box _ rfl ?_,?_⟩;refine⟨.ff (by first|rfl|(rw[ek])) rfl,?_⟩;refine⟨.ff (by first|rfl|(rw[ek])) rfl,?_⟩;refine⟨.ff (by first|rfl|(rw[ek])) rfl,?_⟩;refine⟨.fm (by first|rfl|(rw[ek])),?_⟩;refine⟨.ff (by first|rfl|(rw[ek])) rfl,?_⟩;refine⟨.fm (by first|rfl|(rw[ek])),?_⟩;refine⟨.ff (by first|rfl|(rw[ek])) rfl,?_⟩;refine⟨.ff (by first|rfl|(rw[ek])) rfl,?_⟩;refine⟨.fm (by first|rfl|(rw[ek])),?_⟩;refine⟨.fm (by first|rfl|(rw[ek])),?_⟩;refine⟨.fm (by first|rfl|(rw[ek])),?_⟩;refine⟨.ff (by first|rfl|(rw[ek])) rfl,?_⟩;refine⟨.fm (by first|rfl|(rw[ek])),?_⟩;refine⟨.iz (by first|rfl|(rw[ek])),?_⟩;refine⟨.iz (by first|rfl|(rw[ek])),?_⟩;exact trivial;(iterate 3 refine aF ?_);refine⟨.fb rfl (by first|rfl|(rw[ek])),?_⟩;(iterate 2 refine aF ?_);refine⟨.fb rfl (by first|rfl|(rw[ek])),?_⟩;refine aF ?_;refine⟨.fb rfl (by first|rfl|(rw[ek])),?_⟩;refine aF ?_;exact trivial)) rfl
  rintro a ⟨hE,hle⟩
  have hak:=hE.hk
  have EE:(a:Int).toNat<(s.ll 0).length:=by omega
  obtain⟨y,hy⟩:∃y,y=(s.ll 0)[(a:Int).toNat]:=⟨_,rfl⟩
  have F3:(s.ll 0)[a]=y:=hy.symm
  have y8:=hs.iU.zK _ (cY EE)
  rw[← hy] at y8
  have Ke:0≤max y (-y):=by omega
  have Ew:(max y (-y)).toNat<sl.length:=by omega
  have ZU:(max y (-y)).toNat<s.reason.length:=by omega
  rw[hy] at y8 Ke Ew
  have MT:sl.getD (fk (s.ll 0)[a]) false=sl[(max (s.ll 0)[(a:Int).toNat] (-(s.ll 0)[(a:Int).toNat])).toNat]:=vR Ew
  cases jY:sl[(max (s.ll 0)[(a:Int).toNat] (-(s.ll 0)[(a:Int).toNat])).toNat] with
  |false=>
   have SN:(!sl[(max (s.ll 0)[(a:Int).toNat] (-(s.ll 0)[(a:Int).toNat])).toNat])=true:=by rw[jY];rfl
   have hd:=hE.down (by rw[MT];exact jY)
   have hdp:=hd.pos
   obtain⟨a1,rfl⟩:∃a1,a=a1+1:=⟨a - 1,by omega⟩
   have wJ:((a1+1:Nat):Int) - 1=(a1:Int):=by omega
   ((iterate 2 refine zo ?_);(with_reducible apply AW.gb);exact rfl;exact rfl;kernel_rfl;(with_reducible assumption);refine a_.fX rfl rfl rfl ?_;refine wx ?_;refine Fc ?_;refine zm ?_;(with_reducible apply a_.e9 4);(iterate 8 exact rfl);exact ab;exact ab;refine aw ?_;refine wx ?_;refine Fc ?_;refine zm ?_;(with_reducible apply a_.e9 4);(iterate 8 exact rfl);exact ab;exact ab;refine aw ?_;refine QF ?_;refine au ?_;refine a_.not rfl rfl rfl ?_;refine zd ?_;refine AW.EZ rfl rfl (by assumption) ?_;refine vH ?_;refine zo ?_;refine AW.block ?_;refine AW.skip ?_;refine uH ?_;refine Q0 ?_;refine zm ?_;refine Bc ?_)
   exact⟨a1,⟨hd,by omega⟩,by omega,fe rfl (by(refine⟨.fm (by first|rfl|(rw[wJ])),?_⟩;refine⟨.ff (by first|rfl|(rw[wJ])) rfl,?_⟩;refine⟨.ff (by first|rfl|(rw[wJ])) rfl,?_⟩;refine⟨.fm (by first|rfl|(rw[wJ])),?_⟩;refine⟨.fm (by first|rfl|(rw[wJ])),?_⟩;refine⟨.fm (by first|rfl|(rw[wJ])),?_⟩;refine⟨.fm (by first|rfl|(rw[wJ])),?_⟩;(iterate 2 refine aC ?_);exact trivial)) (by(refine aF ?_;refine aF ?_;refine⟨.box _ rfl ?_,?_⟩;refine⟨.ff (by first|rfl|(rw[wJ])) rfl,?_⟩;refine⟨.ff (by first|rfl|(rw[wJ])) rfl,?_⟩;refine⟨.ff (by first|rfl|(rw[wJ])) rfl,?_⟩;refine⟨.fm (by first|rfl|(rw[wJ])),?_⟩;refine⟨.ff (by first|rfl|(rw[wJ])) rfl,?_⟩;refine⟨.fm (by first|rfl|(rw[wJ])),?_⟩;refine⟨.ff (by first|rfl|(rw[wJ])) rfl,?_⟩;refine⟨.ff (by first|rfl|(rw[wJ])) rfl,?_⟩;refine⟨.fm (by first|rfl|(rw[wJ])),?_⟩;refine⟨.fm (by first|rfl|(rw[wJ])),?_⟩;refine⟨.fm (by first|rfl|(rw[wJ])),?_⟩;refine⟨.ff (by first|rfl|(rw[wJ])) rfl,?_⟩;refine⟨.fm (by first|rfl|(rw[wJ])),?_⟩;refine⟨.iz (by first|rfl|(rw[wJ])),?_⟩;refine⟨.iz (by first|rfl|(rw[wJ])),?_⟩;exact trivial;(iterate 3 refine aF ?_);refine⟨.fb rfl (by first|rfl|(rw[wJ])),?_⟩;(iterate 2 refine aF ?_);refine⟨.fb rfl (by first|rfl|(rw[wJ])),?_⟩;refine aF ?_;refine⟨.fb rfl (by first|rfl|(rw[wJ])),?_⟩;refine aF ?_;exact trivial)) rfl⟩
  |true=>
   have SN:(!sl[(max (s.ll 0)[(a:Int).toNat] (-(s.ll 0)[(a:Int).toNat])).toNat])=false:=by rw[jY];rfl
   have UK:sl.getD (fk (s.ll 0)[a]) false=true:=by rw[MT];exact jY
   have Yb:(max (s.ll 0)[(a:Int).toNat] (-(s.ll 0)[(a:Int).toNat])).toNat<s.reason.length:=by rw[← hy];exact ZU
   by_cases Ww:op=1
   ·subst Ww
    have mq:=hE.out hs UK
    ((iterate 2 refine zo ?_);(with_reducible apply AW.gb);exact rfl;exact rfl;kernel_rfl;(with_reducible assumption);refine a_.fX rfl rfl rfl ?_;refine wx ?_;refine Fc ?_;refine zm ?_;(with_reducible apply a_.e9 4);(iterate 8 exact rfl);exact ab;exact ab;refine aw ?_;refine wx ?_;refine Fc ?_;refine zm ?_;(with_reducible apply a_.e9 4);(iterate 8 exact rfl);exact ab;exact ab;refine aw ?_;refine QF ?_;refine au ?_;refine a_.not rfl rfl rfl ?_;refine zd ?_;refine AW.BC rfl rfl (by assumption) ?_;refine I6 ?_;refine vh ?_;refine Fc ?_;refine zm ?_;(with_reducible apply a_.e9 4);(iterate 8 exact rfl);exact ab;exact ab;refine aw ?_;refine qJ ?_;refine zm ?_;refine a_.sub rfl rfl rfl rfl rfl aJ ?_;refine vt ?_;refine qI ?_;refine xj ?_;refine kJ ?_;refine Lh ?_;(with_reducible apply a_.yT);(iterate 7 exact rfl);omega;exact aa;(with_reducible apply a_.gQ);(iterate 4 exact rfl);exact ag;(iterate 3 exact rfl);refine Q0 ?_;refine zd ?_;refine AW.mS 24 ?_)
    refine Stop.go ?_
    refine AW.Ai 7 12 s.nc 7 (us:= -(s.ll 0)[(a:Int).toNat]::rest) rfl rfl rfl rfl (hs.fresh s.nc (aP _)).2 fun v_ Kk=>?_
    refine aB ?_
    (refine zq ?_;(iterate 2 refine zm ?_);refine uf ?_;refine AW.ret ?_;(iterate 2 refine DE ?_))
    (apply hX (((v_,-(s.ll 0)[(a:Int).toNat]::rest,to):Value×List Int×Int)) (⟨Kk,mq⟩);((exact gm.two (.tmp rfl rfl) (.tmp rfl rfl)));((exact qH));((exact UD));exact rfl)
   ·obtain⟨j',oB,hj'n,hN⟩:=hE.next hs UK Ww
    have hop0:=hE.op
    have qN:s.reason[(max (s.ll 0)[(a:Int).toNat] (-(s.ll 0)[(a:Int).toNat])).toNat]'Yb=(j':Int):=by rw[← fJ Yb];exact oB
    have wZ:(op:Int) - 1=((op - 1:Nat):Int):=by omega
    ((iterate 2 refine zo ?_);(with_reducible apply AW.gb);exact rfl;exact rfl;kernel_rfl;(with_reducible assumption);refine a_.fX rfl rfl rfl ?_;refine wx ?_;refine Fc ?_;refine zm ?_;(with_reducible apply a_.e9 4);(iterate 8 exact rfl);exact ab;exact ab;refine aw ?_;refine wx ?_;refine Fc ?_;refine zm ?_;(with_reducible apply a_.e9 4);(iterate 8 exact rfl);exact ab;exact ab;refine aw ?_;refine QF ?_;refine au ?_;refine a_.not rfl rfl rfl ?_;refine zd ?_;refine AW.BC rfl rfl (by assumption) ?_;refine I6 ?_;refine vh ?_;refine Fc ?_;refine zm ?_;(with_reducible apply a_.e9 4);(iterate 8 exact rfl);exact ab;exact ab;refine aw ?_;refine qJ ?_;refine zm ?_;refine a_.sub rfl rfl rfl rfl rfl aJ ?_;refine vt ?_;refine qI ?_;refine uD ?_;refine tu ?_;refine wx ?_;refine a_.c_ 94 2 2 rfl rfl rfl rfl ?_;refine zb ?_;refine JD ?_;refine tw ?_;refine au ?_;refine za ?_;refine a_.nil ?_;refine yM ?_)
    exact⟨(⟨sl,rest,op - 1,to,a,(s.ll 0)[(a:Int).toNat],j'⟩:AQ),hN,by show a<a0+1;omega,fe rfl (by(refine⟨.fm (by first|rfl|(rw[wZ])|(rw[qN])),?_⟩;refine⟨.ff (by first|rfl|(rw[wZ])|(rw[qN])) rfl,?_⟩;refine⟨.ff (by first|rfl|(rw[wZ])|(rw[qN])) rfl,?_⟩;refine⟨.fm (by first|rfl|(rw[wZ])|(rw[qN])),?_⟩;refine⟨.fm (by first|rfl|(rw[wZ])|(rw[qN])),?_⟩;refine⟨.fm (by first|rfl|(rw[wZ])|(rw[qN])),?_⟩;refine⟨.fm (by first|rfl|(rw[wZ])|(rw[qN])),?_⟩;(iterate 2 refine aC ?_);exact trivial)) (by(refine aF ?_;refine aF ?_;refine⟨.box _ rfl ?_,?_⟩;refine⟨.ff (by first|rfl|(rw[wZ])|(rw[qN])) rfl,?_⟩;refine⟨.ff (by first|rfl|(rw[wZ])|(rw[qN])) rfl,?_⟩;refine⟨.ff (by first|rfl|(rw[wZ])|(rw[qN])) rfl,?_⟩;refine⟨.fm (by first|rfl|(rw[wZ])|(rw[qN])),?_⟩;refine⟨.ff (by first|rfl|(rw[wZ])|(rw[qN])) rfl,?_⟩;refine⟨.fm (by first|rfl|(rw[wZ])|(rw[qN])),?_⟩;refine⟨.ff (by first|rfl|(rw[wZ])|(rw[qN])) rfl,?_⟩;refine⟨.ff (by first|rfl|(rw[wZ])|(rw[qN])) rfl,?_⟩;refine⟨.fm (by first|rfl|(rw[wZ])|(rw[qN])),?_⟩;refine⟨.fm (by first|rfl|(rw[wZ])|(rw[qN])),?_⟩;refine⟨.fm (by first|rfl|(rw[wZ])|(rw[qN])),?_⟩;refine⟨.ff (by first|rfl|(rw[wZ])|(rw[qN])) rfl,?_⟩;refine⟨.fm (by first|rfl|(rw[wZ])|(rw[qN])),?_⟩;refine⟨.iz (by first|rfl|(rw[wZ])|(rw[qN])),?_⟩;refine⟨.iz (by first|rfl|(rw[wZ])|(rw[qN])),?_⟩;exact trivial;(iterate 3 refine aF ?_);refine⟨.fb rfl (by first|rfl|(rw[wZ])|(rw[qN])),?_⟩;(iterate 2 refine aF ?_);refine⟨.fb rfl (by first|rfl|(rw[wZ])|(rw[qN])),?_⟩;refine aF ?_;refine⟨.fb rfl (by first|rfl|(rw[wZ])|(rw[qN])),?_⟩;refine aF ?_;exact trivial)) rfl⟩
end Go.Ab
/- The solver:a clause attached,the bounds told of the two lists alone. -/
namespace Go.Ab
open Go Go.Proofs
open Nat (reduceAdd reduceSub)
set_option maxRecDepth 20000
set_option maxHeartbeats 4000000
attribute [local irreducible] gG AW a_ gr fz AR fH fv fM gk lk me eX
theorem y5 (s:SR) (x y:Int) (r:List Int) (hc:s.cl s.nc=x::y::r) (hxy:eX x≠eX y) (hx:0≤eX x∧(eX x).toNat<s.nw) (hy:0≤eX y∧(eX y).toNat<s.nw) (hbx: -1000000≤x∧x≤1000000) (Ft: -1000000≤y∧y≤1000000)
  (hl:s.nc≤1000000) (XJ:(s.wl (eX x).toNat).length≤1000000) (Y6:(s.wl (eX y).toNat).length≤1000000) (BP:s.nw≤1000000) (M_:r.length≤1000000):
  vo Tryz.prog 57 11 (ie s) [.ptr 0 0,.pv (.lit (s.hc s.nc))] (fun h:Value×Value=>h.1.oneCell'=true∧h.2.oneCell'=true) (fun h=>ie (kn (kn {s with nc:=s.nc+1} x s.nc h.1) y s.nc h.2)) (fun _=>eU s.nc):=by
 have iX:2≤(s.cl s.nc).length:=by rw[hc];simp
 have e0:=lZ s.nc s.hc
 have e1:∀h,(gG s.nw h).length=s.nw:=lZ s.nw
 simp only[ie,ij]
 refine vo.enter (n:=50) Tryz.func57 rfl rfl rfl rfl rfl (by decide) rfl (fun _=>rfl) fun g fp fl=>?_;refine s9 ?_
 refine AW.Cc 7 rfl fun YD X1=>?_
 (refine zq ?_;refine qJ ?_;refine Mt ?_;refine zb ?_;refine a_.lZ rfl rfl rfl rfl ?_;refine qJ ?_;refine GW ?_;refine a_.c_ 96 1 6 rfl rfl rfl rfl ?_;refine iY ?_;(with_reducible apply a_.oE);(iterate 5 exact rfl);exact ag;exact rfl;exact rfl;refine Q0 ?_;(with_reducible apply a_.fD);exact rfl;exact ah;(iterate 9 exact rfl);exact aa;refine J5 ?_;refine a_.c_ 96 1 6 rfl rfl rfl rfl ?_;(with_reducible apply a_.gy);(iterate 5 exact rfl);exact ag;(iterate 3 exact rfl);(with_reducible assumption);refine Q0 ?_;refine kW ?_;refine qE ?_;(with_reducible apply a_.uR 7);(iterate 8 exact rfl);exact ab;exact ab;(with_reducible apply a_.FY 7);(iterate 5 exact rfl);exact ab;refine zp ?_)
 (refine Q0 ?_;apply AW.gJ [25,24,5,4,0,1000] [1,2,3,4,5,6,7,8,10] (fun q:Nat×(Nat→Value)×(Nat→List Int)=>([(26,eU q.1)]:List (Nat×AV))) (fun q:Nat×(Nat→Value)×(Nat→List Int)=>([(0,some (.box [.own 1 3 1 ((s.value).map encI),.own 2 3 1 ((s.level).map encI),.own 3 3 1 ((s.reason).map encI),.pv (.lit (s.hl 0)),.own 5 3 1 ((s.marks).map encI),eU (s.low),.own 6 25 1 (gG (s.nc+1) s.hc),.own 8 25 1 (gG s.nw q.2.1),eU (s.head),eU (s.added),fq (s.broken),.own 10 44 3 ((s.proof).map qv),eU 0,.pv (ke (s.model)),.pv (ke (s.core))])),(9,some (.fb 3 (kK q.2.1 q.2.2)))]:List (Nat×Option Ob))) (fun q:Nat×(Nat→Value)×(Nat→List Int)=>AtI s x y q.1 q.2.1 q.2.2) (fun q:Nat×(Nat→Value)×(Nat→List Int)=>2 - q.1) (((0:Nat),s.hw,s.wl));(conv=>lhs;simp only[Nf.ot,Nf.all,df,reduceAdd,reduceSub]);(all_goals skip))
 ·exact⟨by omega,fun _=>⟨rfl,rfl⟩,fun h=>by omega,fun h=>by omega⟩
 ·exact fe rfl (by(refine⟨.fm (by first|rfl|(rw[← fB])|exact fB _ _),?_⟩;refine⟨.fm (by first|rfl|(rw[← fB])|exact fB _ _),?_⟩;refine⟨.fm (by first|rfl|(rw[← fB])|exact fB _ _),?_⟩;refine⟨.fm (by first|rfl|(rw[← fB])|exact fB _ _),?_⟩;refine⟨.fm (by first|rfl|(rw[← fB])|exact fB _ _),?_⟩;(iterate 2 refine aC ?_);exact trivial)) (by(refine⟨.box _ rfl ?_,?_⟩;refine⟨.ff (by first|rfl|(rw[← fB])|exact fB _ _) rfl,?_⟩;refine⟨.ff (by first|rfl|(rw[← fB])|exact fB _ _) rfl,?_⟩;refine⟨.ff (by first|rfl|(rw[← fB])|exact fB _ _) rfl,?_⟩;refine⟨.fm (by first|rfl|(rw[← fB])|exact fB _ _),?_⟩;refine⟨.ff (by first|rfl|(rw[← fB])|exact fB _ _) rfl,?_⟩;refine⟨.fm (by first|rfl|(rw[← fB])|exact fB _ _),?_⟩;refine⟨.ff (by first|rfl|(rw[← fB])|exact fB _ _) rfl,?_⟩;refine⟨.ff (by first|rfl|(rw[← fB])|exact fB _ _) rfl,?_⟩;refine⟨.fm (by first|rfl|(rw[← fB])|exact fB _ _),?_⟩;refine⟨.fm (by first|rfl|(rw[← fB])|exact fB _ _),?_⟩;refine⟨.fm (by first|rfl|(rw[← fB])|exact fB _ _),?_⟩;refine⟨.ff (by first|rfl|(rw[← fB])|exact fB _ _) rfl,?_⟩;refine⟨.fm (by first|rfl|(rw[← fB])|exact fB _ _),?_⟩;refine⟨.iz (by first|rfl|(rw[← fB])|exact fB _ _),?_⟩;refine⟨.iz (by first|rfl|(rw[← fB])|exact fB _ _),?_⟩;exact trivial;refine⟨.fb rfl (by first|rfl|(rw[← fB])|exact fB _ _),?_⟩;(iterate 3 refine aF ?_);refine⟨.fb rfl (by first|rfl|(rw[← fB])|exact fB _ _),?_⟩;(iterate 2 refine aF ?_);refine⟨.fb rfl (by first|rfl|(rw[← fB])|exact fB _ _),?_⟩;(iterate 2 refine aF ?_);exact trivial)) rfl
 rintro⟨k,hw,wl⟩ ⟨hk,i0,i1,i2⟩
 simp only at hk i0 i1 i2
 by_cases fy:k<2
 ·have MX:(k:Int).toNat<(s.cl s.nc).length:=by omega
  obtain⟨z,hz⟩:∃z,z=(s.cl s.nc)[(k:Int).toNat]:=⟨_,rfl⟩
  have Ey:(0≤eX z∧(eX z).toNat<s.nw)∧ -1000000≤z∧z≤1000000:=by
   have qh:k=0∨k=1:=by omega
   rcases qh with rfl|rfl
   ·have e:z=x:=by rw[hz];simp [hc]
    rw[e];exact⟨hx,hbx⟩
   ·have e:z=y:=by rw[hz];simp [hc]
    rw[e];exact⟨hy,Ft⟩
  have mA:(k=0→z=x)∧(k=1→z=y):=⟨by rintro rfl;rw[hz];simp [hc],by rintro rfl;rw[hz];simp [hc]⟩
  have hw2:(wl (eX z).toNat).length≤2000000:=by
   have qh:k=0∨k=1:=by omega
   rcases qh with rfl|rfl
   ·obtain⟨_,rfl⟩:=i0 rfl
    rw[mA.1 rfl];omega
   ·obtain⟨_,_,_,rfl⟩:=i1 rfl
    rw[mA.2 rfl,fC _ _ (fun e=>hxy aJ)];omega
  rw[hz] at Ey hw2
  obtain⟨⟨r1,r2⟩,r3⟩:=Ey
  have F6:=xt _ r3
  (refine ru ?_;(with_reducible apply a_.Bl 7);(iterate 8 exact rfl);exact ab;exact ab;exact ab;refine ax ?_;refine lK ?_;refine AW.gg [0,1,2,3,4,6,7,8,9,10,14] [18] rfl (by assumption) aI aI rfl ?_;show a_ .held _ _ _ [_,_,_,_,_,_,_,_,_,_,_] _ _;refine Aa ?_;refine iY ?_;refine Aa ?_;refine DP ?_;refine Q3 ?_;intro k_ iE;refine Q0 ?_;apply AR.cut [14,10,9,8,7,6,4,3,2,1,0,5,11,12,13,15];intro kv;apply AR.cut [14,10,9,8,7,6,4,3,2,1,0,5,11,12,15];intro ly;apply AR.cut [14,10,9,8,7,6,4,3,2,1,0,5,11,15];intro lu;apply AR.cut [14,10,9,8,7,6,4,3,2,1,0,5,15];intro lF;(refine AR.gh (i:=5) (j:=15) rfl aI rfl rfl ?_ ?_<;>intro g_ b_ fU);refine zA (F6) ?_;refine Q3 ?_;(refine AR.gh (i:=11) (j:=15) rfl aI rfl rfl ?_ ?_<;>intro g_ b_ fU);refine zA (F6) ?_;refine Q3 ?_;(refine AR.gh (i:=12) (j:=15) rfl aI rfl rfl ?_ ?_<;>intro g_ b_ fU);refine w7 ?_;(refine AR.gh (i:=13) (j:=15) rfl aI rfl rfl ?_ ?_<;>intro g_ b_ fU);refine a_.jP rfl rfl rfl rfl (fun h_=>by cases h_) aJ ?_;refine Q3 ?_;refine AR.fA (i:=15) rfl aI rfl ?_;intro g_ b_ fU;(with_reducible apply a_.oE);(iterate 5 exact rfl);exact ag;exact rfl;exact rfl;refine oy ?_;refine aB ?_;exact pE;(with_reducible apply a_.oE);(iterate 5 exact rfl);exact ag;exact rfl;exact rfl;refine oy ?_;refine aB ?_;exact ss;(with_reducible apply a_.oE);(iterate 5 exact rfl);exact ag;exact rfl;exact rfl;refine oy ?_;refine aB ?_;exact BV;(with_reducible apply a_.oE);(iterate 5 exact rfl);exact ag;exact rfl;exact rfl;refine oy ?_;refine aB ?_;exact Jh;(with_reducible apply a_.oE);(iterate 5 exact rfl);exact ag;exact rfl;exact rfl;refine oy ?_;refine AR.fA (i:=5) rfl aI rfl ?_;intro g_ b_ fU;refine zA (F6) ?_;refine Q3 ?_;refine aB ?_;refine AR.meet lF aI (fun g_=>fe rfl ?_ ?_ rfl);(iterate 24 refine aC ?_);exact trivial;refine Ox ?_;exact trivial;refine AR.fA (i:=11) rfl aI rfl ?_;intro g_ b_ fU;refine zA (F6) ?_;refine Q3 ?_;refine aB ?_;refine AR.meet lu aI (fun g_=>fe rfl ?_ ?_ rfl);(iterate 25 refine aC ?_);exact trivial;refine Ox ?_;exact trivial;refine AR.fA (i:=12) rfl aI rfl ?_;intro g_ b_ fU;refine w7 ?_;refine aB ?_;refine AR.meet ly aI (fun g_=>fe rfl ?_ ?_ rfl);(iterate 26 refine aC ?_);exact trivial;refine Ox ?_;exact trivial;refine AR.fA (i:=13) rfl aI rfl ?_;intro g_ b_ fU;refine a_.jP rfl rfl rfl rfl (fun h_=>by cases h_) aJ ?_;refine Q3 ?_;refine aB ?_;refine AR.meet kv aI (fun g_=>fe rfl ?_ ?_ rfl);(iterate 27 refine aC ?_);exact trivial;refine Ox ?_;exact trivial;refine AR.fA (i:=16) rfl aI rfl ?_;intro g_ b_ fU;(with_reducible apply a_.mL 9);exact rfl;exact rfl;exact ah;(iterate 8 exact rfl);omega;(intro v_ Kk);refine oy ?_;refine AR.iP [17] aI aI aI aI ?_;intro g_ b_;show a_ .held _ _ _ [_] _ _;refine w7 ?_;intro k_ iE;refine Q0 ?_;refine AR.im (i:=18) rfl aI rfl aI ?_;intro g_ b_ eT;(with_reducible apply a_.gQ);(iterate 4 exact rfl);exact ag;(iterate 3 exact rfl);refine ya ?_;refine tP ?_)
  rw[← hz] at*
  refine⟨(k+1,e_ hw (eX z).toNat v_,e_ wl (eX z).toNat (wl (eX z).toNat++ [(s.nc:Int)])),⟨by omega,fun h=>by simp at h,fun h=>?_,fun h=>?_⟩,by show 2 - (k+1)<2 - k;omega,fe rfl (by(refine Nn ?_;(iterate 4 refine⟨.fm (by first|rfl|exact fZ _ r2 _),?_⟩);exact Fq)) (by(refine⟨.box _ rfl ?_,?_⟩;(iterate 3 refine⟨.ff (by first|rfl|exact fZ _ r2 _) rfl,?_⟩);refine Nn ?_;refine⟨.ff (by first|rfl|exact fZ _ r2 _) rfl,?_⟩;refine Nn ?_;(iterate 2 refine⟨.ff (by first|rfl|exact fZ _ r2 _) rfl,?_⟩);(iterate 3 refine⟨.fm (by first|rfl|exact fZ _ r2 _),?_⟩);refine⟨.ff (by first|rfl|exact fZ _ r2 _) rfl,?_⟩;refine Nn ?_;(iterate 2 refine⟨.iz (by first|rfl|exact fZ _ r2 _),?_⟩);exact trivial;refine SA ?_;(iterate 3 refine aF ?_);refine SA ?_;(iterate 2 refine aF ?_);refine SA ?_;(iterate 2 refine aF ?_);exact trivial)) rfl⟩
  ·obtain rfl:k=0:=by simpa using h
   obtain⟨rfl,rfl⟩:=i0 rfl
   rw[mA.1 rfl]
   exact⟨v_,Kk,rfl,rfl⟩
  ·obtain rfl:k=1:=by simpa using h
   obtain⟨h1,q1,rfl,rfl⟩:=i1 rfl
   rw[mA.2 rfl]
   exact⟨h1,v_,q1,Kk,rfl,rfl⟩
 ·obtain rfl:k=2:=by omega
  obtain⟨h1,h2,q1,q2,rfl,rfl⟩:=i2 rfl
  (refine kJ ?_;refine zs ?_;refine kW ?_;refine AW.j8 rfl rfl ?_;refine I6 ?_;refine qw ?_;refine ku ?_)
  (apply hX (((h1,h2):Value×Value)) (⟨q1,q2⟩);((exact gm.one (.tmp rfl rfl)));((exact qA));((exact Q2));exact rfl)
end Go.Ab
/- The solver:a learned clause asserted,walked. -/
namespace Go.Ab
open Go Go.Proofs
open Nat (reduceAdd reduceSub)
set_option maxRecDepth 20000
set_option maxHeartbeats 8000000
section
variable {P:Program} {g:eZ} {δ:DS} {Q:Exit→DS→Prop}
theorem AW.NG (h:Stop (AW P g .ret Q δ)):AW P g .ret Q δ:=h
end
theorem Lk {l:List Int} (h:l.length=1) (h0:(0:Int).toNat<l.length):l=[l[(0:Int).toNat]]:=by
 match l,h with
 |[a],_=>rfl
theorem Tg {c:List Int} {m:Nat} (h2:2≤c.length) (h:1≤m) (hm:m<c.length):c0 ((c.set 1 c[m]).set m (c[1]'(by omega)))=c0 c∧c1 ((c.set 1 c[m]).set m (c[1]'(by omega)))=c[m]:=by
 match c,m,h,hm,h2 with
 |a::b::r,1,_,_,_=>exact⟨rfl,rfl⟩
 |a::b::r,k+2,_,hk,_=>exact⟨rfl,by simp [c1]⟩
theorem K1 {D:List Int} (h:2≤D.length):D=c0 D::c1 D::D.drop 2:=by
 match D,h with
 |a::b::r,_=>rfl
theorem rj {l:List Int} {m:Nat} (h:1≤m) (hm:m<l.length):l[m]∈l.tail:=by
 match l,m,h,hm with
 |a::r,k+1,_,hk=>simp
theorem xJ {u:SR} {l:List Int} {m:Nat} (h:∀p (hp:p<l.length) (hq:m<l.length),1≤p→p<l.length→fh u l[p]≤fh u l[m]) (hm:m<l.length):∀x∈l.tail,fh u x≤fh u l[m]:=fun x hx=>by
 obtain⟨i,hi,rfl⟩:=List.getElem_of_mem hx
 rw[List.length_tail] at hi
 rw[List.getElem_tail]
 exact h (i+1) aJ hm aJ (by omega)
def Kb (u q:SR):Prop:=
 (∃p h,u.cl u.nc=[p]∧q=fO {u with hc:=e_ u.hc u.nc (.slice none 0 0),cl:=e_ u.cl u.nc [],proof:=u.proof++ [u.cl u.nc]} p (-1) h)∨
 ∃l' h1 h2 h,2≤(u.cl u.nc).length∧mb (u.cl u.nc) l'∧c0 l'=c0 (u.cl u.nc)∧c1 l'∈(u.cl u.nc).tail∧(∀x∈(u.cl u.nc).tail,fh u x≤fh u (c1 l'))∧q=fO (kn (kn {u with nc:=u.nc+1,cl:=e_ u.cl u.nc l',proof:=u.proof++ [u.cl u.nc]} (c0 l') u.nc h1) (c1 l') u.nc h2) (c0 l') u.nc h
attribute [local irreducible] gG AW a_ gr fz AR fH fv fM gk lk me eX
theorem Iy (n:Nat) (u:SR) (hn:n≤20000) (hl:0<(u.cl u.nc).length) (kY:(u.cl u.nc).length≤1000000) (lY:∀x∈u.cl u.nc,Lit n x) (jg:(u.cl u.nc).Nodup) (hv:u.value.length=n+1) (tf:u.level.length=n+1) (hr:u.reason.length=n+1) (FL:(u.ll 0).length≤1000000) (hm:u.marks.length≤1000000) (hp:u.proof.length≤1000000) (A_:u.nc≤1000000) (BP:u.nw=2*n+2) (Cs:∀x,Lit n x→(u.wl (eX x).toNat).length≤1000000):
  vo Tryz.prog 62 11 (ie u) [.ptr 0 0,.pv (.lit (u.hc u.nc))] (fun q:SR=>Kb u q) (fun q=>ie q) (fun _=> .gY []):=by
 have ox:=Ik u kY hp hl
 have oH:(0:Int).toNat<(u.cl u.nc).length:=show 0<_ by omega
 have Ts:=lY _ (cY oH)
 obtain⟨_,_,_⟩:=Ts
 by_cases h1:(u.cl u.nc).length=1
 ·have MQ:=rQ {u with proof:=u.proof++ [u.cl u.nc]} (u.cl u.nc)[(0:Int).toNat] (-1) aJ (by show _<(u.value.length:Int)∧_<(u.value.length:Int);omega) (by show u.level.length=u.value.length;omega) (by show u.reason.length=u.value.length;omega) FL hm
  simp only[ie,ij] at ox MQ ⊢
  refine vo.enter (n:=87) Tryz.func62 rfl rfl rfl rfl rfl (by decide) rfl (fun _=>rfl) fun g fp fl=>?_;refine s9 ?_
  (refine VE ?_;refine jD ?_;refine zo ?_;refine EL ?_;show a_ .held _ _ _ [_,_,_,_,_] _ _;refine tN ?_;(with_reducible apply a_.e9 7);(iterate 8 exact rfl);exact ab;exact ab;refine Q3 ?_;intro k_ iE;refine s8 ?_;intro g_ b_ fU;refine ax ?_;refine xr ?_;intro g_ b_ eT;(with_reducible apply a_.kI (hf:=MQ));(with_reducible assumption);(iterate 3 exact rfl);exact aq;exact ak;(intro x_;exact rfl);exact rfl;exact al;(intro x_;exact al);(intro x_;exact rfl);exact rfl;(intro x_ rL);refine Q1 ?_;refine s5 ?_;refine AW.NG ?_)
  refine Stop.go ?_
  refine AW.Mg 7 u.nc rfl ?_
  refine aB ?_
  have e1:=Lk h1 oH
  (refine AW.ret ?_;refine gV ?_)
  (apply hX ((fO {u with hc:=e_ u.hc u.nc (.slice none 0 0),cl:=e_ u.cl u.nc [],proof:=u.proof++ [u.cl u.nc]} (u.cl u.nc)[(0:Int).toNat] (-1) x_:SR)) ((.inl ⟨(u.cl u.nc)[(0:Int).toNat],x_,e1,rfl⟩));((exact gm.none));((exact qH));((exact UD));exact rfl)
 ·have h2:2≤(u.cl u.nc).length:=by omega
  have Bu:(1:Int).toNat<(u.cl u.nc).length:=show 1<_ by omega
  simp only[ie,ij] at ox ⊢
  refine vo.enter (n:=87) Tryz.func62 rfl rfl rfl rfl rfl (by decide) rfl (fun _=>rfl) fun g fp fl=>?_;refine s9 ?_
  (refine VE ?_;refine uD ?_;refine kJ ?_;refine vt ?_;refine zm ?_;refine a_.pR 7 rfl rfl rfl rfl rfl ?_;refine zp ?_)
  (refine Q0 ?_;apply AW.gJ [20,0,1,1000] [0,1,2,3,4,5,6,7,8,9,10] (fun q:Nat×Nat=>([(4,eU (q.1:Nat)),(21,eU (q.2:Nat))]:List (Nat×AV))) (fun q:Nat×Nat=>([]:List (Nat×Option Ob))) (fun q:Nat×Nat=>(1≤q.1∧q.1<(u.cl u.nc).length∧q.2≤(u.cl u.nc).length∧∀p (hp:p<(u.cl u.nc).length) (hq:q.1<(u.cl u.nc).length),1≤p→p<q.2→fh u (u.cl u.nc)[p]≤fh u (u.cl u.nc)[q.1])) (fun q:Nat×Nat=>(u.cl u.nc).length - q.2) (((1,0):Nat×Nat));(conv=>lhs;simp only[Nf.ot,Nf.all,df,reduceAdd,reduceSub]);(all_goals skip))
  ·exact⟨aP _,h2,Nat.zero_le _,fun p _ _ q1 q2=>by omega⟩
  ·exact fe rfl (by(refine aD ?_;(iterate 2 refine aD ?_);refine aC ?_;refine aD ?_;refine aC ?_;exact trivial)) (by(refine⟨.box _ rfl ?_,?_⟩;(iterate 3 refine aE ?_);refine aD ?_;refine aE ?_;refine aD ?_;(iterate 2 refine aE ?_);(iterate 3 refine aD ?_);refine aE ?_;refine aD ?_;(iterate 2 refine aG ?_);exact trivial;(iterate 3 refine aF ?_);refine aH ?_;(iterate 2 refine aF ?_);refine aH ?_;refine aF ?_;refine aH ?_;refine aF ?_;exact trivial)) rfl
  rintro⟨m,i⟩ ⟨F9,qM,hi,oC⟩
  simp only at F9 qM hi oC
  by_cases fy:i<(u.cl u.nc).length
  ·have vT:(i:Int).toNat<(u.cl u.nc).length:=by omega
   have y6:(m:Int).toNat<(u.cl u.nc).length:=by omega
   obtain⟨a1,a2,a3⟩:=lY _ (cY vT)
   obtain⟨b1,b2,b3⟩:=lY _ (cY y6)
   have Ke:0≤max (u.cl u.nc)[(i:Int).toNat] (-(u.cl u.nc)[(i:Int).toNat]):=by omega
   have Ew:(max (u.cl u.nc)[(i:Int).toNat] (-(u.cl u.nc)[(i:Int).toNat])).toNat<u.level.length:=by omega
   have hw0:0≤max (u.cl u.nc)[(m:Int).toNat] (-(u.cl u.nc)[(m:Int).toNat]):=by omega
   have Ue:(max (u.cl u.nc)[(m:Int).toNat] (-(u.cl u.nc)[(m:Int).toNat])).toNat<u.level.length:=by omega
   have g1:fh u (u.cl u.nc)[i]=u.level[(max (u.cl u.nc)[(i:Int).toNat] (-(u.cl u.nc)[(i:Int).toNat])).toNat]:=fJ Ew
   have g2:fh u (u.cl u.nc)[m]=u.level[(max (u.cl u.nc)[(m:Int).toNat] (-(u.cl u.nc)[(m:Int).toNat])).toNat]:=fJ Ue
   have PJ:¬(1≤i∧fh u (u.cl u.nc)[m]<fh u (u.cl u.nc)[i])→∀p (hp:p<(u.cl u.nc).length) (hq:m<(u.cl u.nc).length),1≤p→p<i+1→fh u (u.cl u.nc)[p]≤fh u (u.cl u.nc)[m]:=fun jI p hp hq q1 q2=>by
    by_cases e:p=i
    ·subst e
     apply Int.not_lt.1
     exact fun hh=>jI ⟨q1,hh⟩
    ·exact oC p hp hq q1 (by omega)
   by_cases jM:0<i
   ·have XH:decide ((i:Int)>0)=true:=by simpa using jM
    by_cases hgt:u.level[(max (u.cl u.nc)[(m:Int).toNat] (-(u.cl u.nc)[(m:Int).toNat])).toNat]<u.level[(max (u.cl u.nc)[(i:Int).toNat] (-(u.cl u.nc)[(i:Int).toNat])).toNat]
    ·have tj:∀p (hp:p<(u.cl u.nc).length) (hq:i<(u.cl u.nc).length),1≤p→p<i+1→fh u (u.cl u.nc)[p]≤fh u (u.cl u.nc)[i]:=fun p hp hq q1 q2=>by
      by_cases e:p=i
      ·subst e;exact Int.le_refl _
      ·have:=oC p hp qM q1 (by omega)
       omega
     (refine ru ?_;refine zm ?_;refine kc ?_;(with_reducible apply AW.gb);exact rfl;exact rfl;kernel_rfl;(with_reducible assumption);refine zm ?_;refine a_.gtr rfl rfl rfl rfl rfl ?_;refine zm ?_;refine NN ?_;refine zm ?_;refine zt ?_;(with_reducible apply a_.e9 7);(iterate 8 exact rfl);exact ab;exact ab;refine zt ?_;refine ax ?_;refine uW ?_;refine zm ?_;refine zt ?_;(with_reducible apply a_.e9 7);(iterate 8 exact rfl);exact ab;exact ab;refine zt ?_;refine ax ?_;refine OW ?_;refine au ?_;refine NN ?_;refine zm ?_;refine zt ?_;(with_reducible apply a_.e9 7);(iterate 8 exact rfl);exact ab;exact ab;refine zt ?_;refine ax ?_;refine uW ?_;refine zm ?_;refine zt ?_;(with_reducible apply a_.e9 7);(iterate 8 exact rfl);exact ab;exact ab;refine zt ?_;refine ax ?_;refine OW ?_;refine au ?_;refine zt ?_;refine a_.gtr rfl rfl rfl rfl rfl ?_;refine zT ?_;refine jD ?_;refine tu ?_;refine zm ?_;refine za ?_;refine a_.nil ?_;refine uH ?_;refine td ?_)
     exact⟨((i,i+1):Nat×Nat),⟨jM,fy,fy,tj⟩,by show(u.cl u.nc).length - (i+1)<(u.cl u.nc).length - i;omega,fe rfl (by(refine aD ?_;(iterate 2 refine aD ?_);refine aC ?_;refine aD ?_;refine aC ?_;exact trivial)) (by(refine⟨.box _ rfl ?_,?_⟩;(iterate 3 refine aE ?_);refine aD ?_;refine aE ?_;refine aD ?_;(iterate 2 refine aE ?_);(iterate 3 refine aD ?_);refine aE ?_;refine aD ?_;(iterate 2 refine aG ?_);exact trivial;(iterate 3 refine aF ?_);refine aH ?_;(iterate 2 refine aF ?_);refine aH ?_;refine aF ?_;refine aH ?_;refine aF ?_;exact trivial)) rfl⟩
    ·have i_:=PJ (fun q=>hgt (by rw[← g1,← g2];exact q.2))
     (refine ru ?_;refine zm ?_;refine kc ?_;(with_reducible apply AW.gb);exact rfl;exact rfl;kernel_rfl;(with_reducible assumption);refine zm ?_;refine a_.gtr rfl rfl rfl rfl rfl ?_;refine zm ?_;refine NN ?_;refine zm ?_;refine zt ?_;(with_reducible apply a_.e9 7);(iterate 8 exact rfl);exact ab;exact ab;refine zt ?_;refine ax ?_;refine uW ?_;refine zm ?_;refine zt ?_;(with_reducible apply a_.e9 7);(iterate 8 exact rfl);exact ab;exact ab;refine zt ?_;refine ax ?_;refine OW ?_;refine au ?_;refine NN ?_;refine zm ?_;refine zt ?_;(with_reducible apply a_.e9 7);(iterate 8 exact rfl);exact ab;exact ab;refine zt ?_;refine ax ?_;refine uW ?_;refine zm ?_;refine zt ?_;(with_reducible apply a_.e9 7);(iterate 8 exact rfl);exact ab;exact ab;refine zt ?_;refine ax ?_;refine OW ?_;refine au ?_;refine zt ?_;refine a_.gtr rfl rfl rfl rfl rfl ?_;refine zT ?_;refine EM ?_;refine uH ?_;refine td ?_)
     exact Q64
   ·have XH:decide ((i:Int)>0)=false:=by simpa using jM
    have i_:=PJ (fun q=>by omega)
    (refine ru ?_;refine zm ?_;refine kc ?_;(with_reducible apply AW.gb);exact rfl;exact rfl;kernel_rfl;(with_reducible assumption);refine zm ?_;refine a_.gtr rfl rfl rfl rfl rfl ?_;refine zm ?_;(iterate 35 refine a_.mG rfl rfl rfl rfl rfl rfl (by first|omega|decide) ?_);refine zF ?_;refine Ci ?_;refine uH ?_;refine td ?_)
    exact Q64
  ·obtain rfl:i=(u.cl u.nc).length:=by omega
   have y6:(m:Int).toNat<(u.cl u.nc).length:=by omega
   obtain⟨D,hD⟩:∃D,D=((u.cl u.nc).set (1:Int).toNat (u.cl u.nc)[(m:Int).toNat]).set (m:Int).toNat (u.cl u.nc)[(1:Int).toNat]:=⟨_,rfl⟩
   have hS2:(m:Int).toNat<(e_ u.cl u.nc ((u.cl u.nc).set (1:Int).toNat (u.cl u.nc)[(m:Int).toNat]) u.nc).length:=by rw[e7,List.length_set];exact y6
   obtain⟨d0,d1⟩:=Tg h2 F9 qM
   have PR:D=((u.cl u.nc).set 1 (u.cl u.nc)[m]).set m ((u.cl u.nc)[1]'(by omega)):=hD
   have GQ:mb (u.cl u.nc) D:=by rw[PR];exact pK (i:=1) (k:=m) aJ qM
   rw[← PR] at d0 d1
   have SQ:2≤D.length:=by rw[GQ.len];exact h2
   have ZB:(0:Int).toNat<(e_ u.cl u.nc D u.nc).length:=by rw[e7];show 0<_;omega
   have PY:(e_ u.cl u.nc D u.nc)[(0:Int).toNat]=c0 D:=by
    have:∀(L:List Int) (hL:(0:Int).toNat<L.length),L=D→L[(0:Int).toNat]=c0 D:=fun L hL e=>by subst e;exact(fJ hL).symm
    exact this _ ZB (e7 _ _ _)
   have m0:Lit n (c0 D):=lY _ ((GQ.mem _).1 (km SQ).1)
   have m1:Lit n (c1 D):=lY _ ((GQ.mem _).1 (km SQ).2)
   have gn:c0 D≠c1 D:=fun e=>by
    rw[show c0 D=D[0] from fJ aJ,show c1 D=D[1] from fJ aJ] at e
    have:=(List.getElem_inj (GQ.nd jg) (h₀:=by omega) (h₁:=by omega)).1 e
    omega
   have XJ:=Cs _ m0
   have Y6:=Cs _ m1
   have i0:=gT m0
   have i1:=gT m1
   have C9:(D.drop 2).length≤1000000:=by rw[List.length_drop,GQ.len];omega
   obtain⟨_,_,_⟩:=m0
   obtain⟨_,_,_⟩:=m1
   have r8:=y5 {u with cl:=e_ u.cl u.nc D,proof:=u.proof++ [u.cl u.nc]} (c0 D) (c1 D) (D.drop 2) (by show e_ u.cl u.nc D u.nc=_;rw[e7];exact K1 SQ) (fun e=>gn (iw (n:=n) ⟨by omega,by omega,by omega⟩ ⟨by omega,by omega,by omega⟩ (by rw[e]))) (by show 0≤eX (c0 D)∧_<u.nw;omega) (by show 0≤eX (c1 D)∧_<u.nw;omega) aJ aJ A_ XJ Y6 (by show u.nw≤_;omega) C9
   have MQ:=fun h1 h2:Value=>rQ (kn (kn {u with nc:=u.nc+1,cl:=e_ u.cl u.nc D,proof:=u.proof++ [u.cl u.nc]} (c0 D) u.nc h1) (c1 D) u.nc h2) (e_ u.cl u.nc D u.nc)[(0:Int).toNat] (u.nc:Nat) (by rw[PY];omega) (by rw[PY];show _<(u.value.length:Int)∧_<(u.value.length:Int);omega) (by show u.level.length=u.value.length;omega) (by show u.reason.length=u.value.length;omega) FL hm
   simp only[ie,ij,kn] at r8 MQ
   (refine kJ ?_;refine zs ?_;refine kW ?_;refine tW ?_;refine zo ?_;refine AW.gg [0,3,4,5,7,8] [11] rfl (by assumption) aI aI rfl ?_;show a_ .held _ _ _ [_,_,_,_,_,_] _ _;(iterate 3 refine zm ?_);(with_reducible apply a_.e9 7);(iterate 8 exact rfl);exact ab;exact ab;refine zm ?_;(with_reducible apply a_.e9 7);(iterate 8 exact rfl);exact ab;exact ab;refine Q3 ?_;intro k_ iE;refine Q0 ?_;(refine AR.free 1 aI rfl rfl rfl (by first|exact fS.fN rfl rfl|exact fS.iD rfl rfl|exact fS.nilCheck rfl rfl) ?_);(refine AR.free 2 aI rfl rfl rfl (by first|exact fS.fN rfl rfl|exact fS.iD rfl rfl|exact fS.nilCheck rfl rfl) ?_);apply AR.cut [2,1,8,7,5,4,3,0,6,9];intro kv;(refine AR.gh (i:=6) (j:=9) rfl aI rfl rfl ?_ ?_<;>intro g_ b_ fU);refine ax ?_;refine Pe ?_;intro g_ b_ fU;refine ax ?_;refine Q3 ?_;refine aB ?_;exact pE;refine ax ?_;refine JV ?_;intro g_ b_ fU;refine ax ?_;refine Q3 ?_;refine aB ?_;refine AR.meet kv aI (fun g_=>fe rfl ?_ ?_ rfl);(iterate 17 refine aC ?_);exact trivial;refine R3 ?_;exact trivial;refine AR.iP [10] aI aI aI aI ?_;intro g_ b_;show a_ .held _ _ _ [_] _ _;(with_reducible apply a_.e9 7);(iterate 8 exact rfl);exact ab;exact ab;refine Q3 ?_;intro k_ iE;refine Q0 ?_;refine uo ?_;intro g_ b_ eT;(with_reducible apply a_.lN 7);(iterate 7 exact rfl);exact ab;refine oy ?_;refine AM ?_;intro g_ b_ eT;(with_reducible apply a_.e9 7);(iterate 8 exact rfl);exact ab;exact ab;refine Q3 ?_;refine wE ?_;intro g_ b_ eT;(with_reducible apply a_.lN 7);(iterate 7 exact rfl);exact ab;refine s5 ?_;(with_reducible apply AW.atR 11);(rw[jQ]);(rw[e7]);(rw[← hD]);refine AW.PO 11 ?_)
   refine Stop.go ?_
   have tree_:True:=trivial
   (refine AW.gg [6,7] [8] rfl (by assumption) aI aI rfl ?_;show a_ .held _ _ _ [_,_] _ _;refine Fo ?_;refine Q3 ?_;intro k_ iE;refine Q0 ?_;(refine AR.free 0 aI rfl rfl rfl (by first|exact fS.fN rfl rfl|exact fS.iD rfl rfl|exact fS.nilCheck rfl rfl) ?_);(refine AR.free 1 aI rfl rfl rfl (by first|exact fS.fN rfl rfl|exact fS.iD rfl rfl|exact fS.nilCheck rfl rfl) ?_);refine AR.free 2 aI rfl rfl rfl (fS.fieldAddr _ _ 0 rfl rfl rfl) ?_;refine aB ?_;(refine AR.free 3 aI rfl rfl rfl (by first|exact fS.fN rfl rfl|exact fS.iD rfl rfl|exact fS.nilCheck rfl rfl) ?_);(refine AR.m_ (i:=4) (j:=8) rfl aI rfl rfl aI ?_ ?_<;>intro g_ b_ eT);(with_reducible apply a_.e9 7);(iterate 8 exact rfl);exact ab;exact ab;refine Q3 ?_;(refine AR.m_ (i:=5) (j:=8) rfl aI rfl rfl aI ?_ ?_<;>intro g_ b_ eT);refine ax ?_;refine Q3 ?_;refine vS ?_;intro g_ b_ eT;(with_reducible apply a_.kI (hf:=r8));(with_reducible assumption);(iterate 3 exact rfl);exact aq;exact ak;(intro x_;exact rfl);exact rfl;exact al;(intro x_;exact al);(intro x_;exact rfl);exact rfl;(intro x_ rL);refine Q1 ?_;refine oy ?_;refine wL ?_;intro g_ b_ eT;(with_reducible apply a_.kI (hf:=(MQ _ _)));(with_reducible assumption);(iterate 3 exact rfl);exact aq;exact ak;(intro x_;exact rfl);exact rfl;exact al;(intro x_;exact al);(intro x_;exact rfl);exact rfl;(intro x_ rL);refine Q1 ?_;refine ya ?_;(all_goals skip);rotate_left;(with_reducible apply a_.kI (hf:=r8));(with_reducible assumption);(iterate 3 exact rfl);exact aq;exact ak;(intro x_;exact rfl);exact rfl;exact al;(intro x_;exact al);(intro x_;exact rfl);exact rfl;(intro x_ rL);refine Q1 ?_;refine oy ?_;refine MJ ?_;intro g_ b_ eT;refine ax ?_;refine Q3 ?_;refine wL ?_;intro g_ b_ eT;(with_reducible apply a_.kI (hf:=(MQ _ _)));(with_reducible assumption);(iterate 3 exact rfl);exact aq;exact ak;(intro x_;exact rfl);exact rfl;exact al;(intro x_;exact al);(intro x_;exact rfl);exact rfl;(intro x_ rL);refine Q1 ?_;refine ya ?_;(all_goals skip);rotate_left;(with_reducible apply a_.kI (hf:=r8));(with_reducible assumption);(iterate 3 exact rfl);exact aq;exact ak;(intro x_;exact rfl);exact rfl;exact al;(intro x_;exact al);(intro x_;exact rfl);exact rfl;(intro x_ rL);refine Q1 ?_;refine oy ?_;refine HL ?_;intro g_ b_ eT;(with_reducible apply a_.e9 7);(iterate 8 exact rfl);exact ab;exact ab;refine Q3 ?_;refine MJ ?_;intro g_ b_ eT;refine ax ?_;refine Q3 ?_;refine wL ?_;intro g_ b_ eT;(with_reducible apply a_.kI (hf:=(MQ _ _)));(with_reducible assumption);(iterate 3 exact rfl);exact aq;exact ak;(intro x_;exact rfl);exact rfl;exact al;(intro x_;exact al);(intro x_;exact rfl);exact rfl;(intro x_ rL);refine Q1 ?_;refine ya ?_;(all_goals skip);rotate_left)
   ·(apply nV ((fO (kn (kn {u with nc:=u.nc+1,cl:=e_ u.cl u.nc D,proof:=u.proof++ [u.cl u.nc]} (c0 D) u.nc ‹Value×Value›.1) (c1 D) u.nc ‹Value×Value›.2) (e_ u.cl u.nc D u.nc)[(0:Int).toNat] (u.nc:Nat) x_:SR)) ((.inr ⟨D,‹Value×Value›.1,‹Value×Value›.2,x_,h2,GQ,d0,by rw[d1];exact rj F9 qM,fun x hx=>by rw[d1];exact xJ oC qM x hx,by rw[PY]⟩));((exact gm.none));((exact qH));((exact UD));exact rfl)
   ·(apply nV ((fO (kn (kn {u with nc:=u.nc+1,cl:=e_ u.cl u.nc D,proof:=u.proof++ [u.cl u.nc]} (c0 D) u.nc ‹Value×Value›.1) (c1 D) u.nc ‹Value×Value›.2) (e_ u.cl u.nc D u.nc)[(0:Int).toNat] (u.nc:Nat) x_:SR)) ((.inr ⟨D,‹Value×Value›.1,‹Value×Value›.2,x_,h2,GQ,d0,by rw[d1];exact rj F9 qM,fun x hx=>by rw[d1];exact xJ oC qM x hx,by rw[PY]⟩));((exact gm.none));((exact qH));((exact UD));exact rfl)
   ·(apply nV ((fO (kn (kn {u with nc:=u.nc+1,cl:=e_ u.cl u.nc D,proof:=u.proof++ [u.cl u.nc]} (c0 D) u.nc ‹Value×Value›.1) (c1 D) u.nc ‹Value×Value›.2) (e_ u.cl u.nc D u.nc)[(0:Int).toNat] (u.nc:Nat) x_:SR)) ((.inr ⟨D,‹Value×Value›.1,‹Value×Value›.2,x_,h2,GQ,d0,by rw[d1];exact rj F9 qM,fun x hx=>by rw[d1];exact xJ oC qM x hx,by rw[PY]⟩));((exact gm.none));((exact qH));((exact UD));exact rfl)
end Go.Ab
