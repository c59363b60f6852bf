/- The solver: the conflict analysis, walked. -/
import Derived.Test.YtigjjjpcjnifhaaAtS7
import Derived.Test.YtigjjjpcjnifhaaAbZ
import Derived.Test.YtigjjjpcjnifhaaAbL3
import Derived.Test.YtigjjjpcjnifhaaAtA2
set_option linter.unusedSimpArgs false
set_option linter.unusedVariables false
namespace Go.Ab
open Go Go.Proofs
open Nat (reduceAdd reduceSub)
set_option maxRecDepth 20000
set_option maxHeartbeats 8000000
structure AQ where
 sl:List Bool
 rest:List Int
 op:Nat
 to:Int
 k:Nat
 piv:Int
 j:Nat
theorem cP (n:Nat) (h:Nat→Value) (v:Value):bK n h=bK n (aB h n v):=by
 unfold bK
 apply List.map_congr_left
 intro k hk
 rw[aO _ _ (by have:=List.mem_range.1 hk;omega)]
attribute [local irreducible] bK AW aa bM a8 AR bm a_ bs bT fm fw
theorem vD (n:Nat) (s:SR) (hs:bj n s) (j0:Nat) (hj0:j0<s.nc) (hf:∀x∈s.cl j0,-x∈s.ll 0) (hm:0<s.marks.length) (RD:s.marks.length≤1000000):nf Try.prog 40 11 (cd s) [.ptr 0 0,aw (j0:Nat)] (fun q:Value×List Int×Int=>q.1.oneCell'=true∧l_ n s j0 q.2.1 q.2.2) (fun q=>cd {s with hc:=aB s.hc s.nc q.1,cl:=aB s.cl s.nc q.2.1}) (fun q=> .tup [.pv (.lit q.1),aw q.2.2]):=by
 have mG:=hs.hn
 have eC:=hs.trl.len
 have sC:=hs.nc
 have Li:=hs.rsn
 have D_:=hs.lvl
 have vl:s.value.length=n+1:=by rw[hs.val,er]
 have GO:List.replicate ((s.value.length:Nat):Int).toNat [PV.lit (.bool false)]=(List.replicate (n+1) false).map jj:=by rw[Int.toNat_natCast,vl];exact JO (n+1)
 have ND:=ff s.nc s.hc
 simp only[cd,cg]
 refine nf.enter (n:=155) Try.func40 rfl rfl rfl rfl rfl (by decide) rfl (fun _=>rfl) fun g aY aW=>?_;refine mL ?_
 (refine zq ?_;refine ju ?_;refine F_ ?_;refine Lf ?_;refine vn ?_;(with_reducible apply AW.pj 2);(rw[GO]);refine dH ?_;(with_reducible apply aa.il);(iterate 5 exact rfl);(first|exact rfl|assumption|exact dm _|exact dj _ _|exact dF _|exact dG _ _);exact rfl;exact rfl;refine Q0 ?_;refine vn ?_;refine dH ?_;refine ju ?_;refine dH ?_;refine xf ?_;refine Ah ?_;refine eD ?_;refine dH ?_;refine pY ?_)
 (refine Q0 ?_;apply AW.ck [0,1000] [12,11,0,1,2,3,4,5,6,7,8,9,10] (fun q:AQ=>([(1,aw (q.j:Nat)),(6,.own 11 4 1 (q.sl.map jj)),(7,.own 12 3 1 ((0::q.rest).map encI)),(8,aw (q.op:Nat)),(9,aw q.to),(10,aw (q.k:Nat)),(11,aw q.piv)]:List (Nat×AV))) (fun q:AQ=>([]:List (Nat×Option Ob))) (fun q:AQ=>rG n s j0 q.sl q.rest q.op q.to q.k q.piv q.j) (fun q:AQ=>q.k) ((⟨List.replicate (n+1) false,[],0,0,(s.ll 0).length,0,j0⟩:AQ));(conv=>lhs;simp only[Nf.jJ,Nf.all,Nat.reduceBEq,reduceAdd,reduceSub]);(all_goals skip))
 ·exact .start hs hj0 hf
 ·exact aN rfl (by(refine⟨.ai (by rfl),?_⟩;(iterate 2 refine⟨.aj (by rfl) rfl,?_⟩);(iterate 4 refine⟨.ai (by rfl),?_⟩);(iterate 2 refine⟨.eq rfl rfl,?_⟩);exact trivial)) (by(refine⟨.row rfl,?_⟩;refine⟨.row rfl,?_⟩;refine⟨.box _ rfl ?_,?_⟩;(iterate 3 refine⟨.aj (by rfl) rfl,?_⟩);refine⟨.ai (by rfl),?_⟩;refine⟨.aj (by rfl) rfl,?_⟩;refine⟨.ai (by rfl),?_⟩;(iterate 2 refine⟨.aj (by rfl) rfl,?_⟩);(iterate 3 refine⟨.ai (by rfl),?_⟩);refine⟨.aj (by rfl) rfl,?_⟩;refine⟨.ai (by rfl),?_⟩;(iterate 2 refine⟨.bz (by rfl),?_⟩);exact trivial;(iterate 3 refine⟨.row rfl,?_⟩);refine⟨.pool rfl (by rfl),?_⟩;(iterate 2 refine⟨.row rfl,?_⟩);refine⟨.pool rfl (by rfl),?_⟩;refine⟨.row rfl,?_⟩;refine⟨.pool rfl (by rfl),?_⟩;refine⟨.row rfl,?_⟩;exact trivial)) rfl
 rintro⟨sl0,rest0,op0,to0,k,piv,j⟩ hA
 simp only at hA
 have hj:=hA.hj
 have dO:=hs.wN hj
 have jI:=(hs.cls j hj).2.2
 have hA0:=hA.row
 have Di:=hA.hk
 have Rx:(j:Int).toNat<s.nc:=by omega
 (refine AW.block ?_;refine zo ?_;refine dH ?_;refine BK ?_;refine cJ ?_;refine Ii ?_;refine aa.dE rfl rfl rfl rfl (fun h_=>by cases h_) (by omega) ?_;refine aa.ig 7 rfl rfl rfl rfl rfl ?_;refine zm ?_;refine pT ?_)
 rw[Int.toNat_natCast j]
 (refine Q0 ?_;apply AW.ck [36,35,1,10,11,0,1000] [12,11,0,1,2,3,4,5,6,7,8,9,10] (fun q:AQ=>([(6,.own 11 4 1 (q.sl.map jj)),(7,.own 12 3 1 ((0::q.rest).map encI)),(8,aw (q.op:Nat)),(9,aw q.to),(37,aw (q.k:Nat))]:List (Nat×AV))) (fun q:AQ=>([]:List (Nat×Option Ob))) (fun q:AQ=>jR n s j0 k piv j q.sl q.rest q.op q.to q.k) (fun q:AQ=>(s.cl j).length - q.k) ((⟨sl0,rest0,op0,to0,0,0,0⟩:AQ));(conv=>lhs;simp only[Nf.jJ,Nf.all,Nat.reduceBEq,reduceAdd,reduceSub]);(all_goals skip))
 ·exact hA0
 ·exact aN rfl (by(refine⟨.aj (by rfl) rfl,?_⟩;refine⟨.aj (by rfl) rfl,?_⟩;(iterate 8 refine⟨.ai (by rfl),?_⟩);(iterate 2 refine⟨.eq rfl rfl,?_⟩);exact trivial)) (by(refine⟨.row rfl,?_⟩;refine⟨.row rfl,?_⟩;refine⟨.box _ rfl ?_,?_⟩;(iterate 3 refine⟨.aj (by rfl) rfl,?_⟩);refine⟨.ai (by rfl),?_⟩;refine⟨.aj (by rfl) rfl,?_⟩;refine⟨.ai (by rfl),?_⟩;(iterate 2 refine⟨.aj (by rfl) rfl,?_⟩);(iterate 3 refine⟨.ai (by rfl),?_⟩);refine⟨.aj (by rfl) rfl,?_⟩;refine⟨.ai (by rfl),?_⟩;(iterate 2 refine⟨.bz (by rfl),?_⟩);exact trivial;(iterate 3 refine⟨.row rfl,?_⟩);refine⟨.pool rfl (by rfl),?_⟩;(iterate 2 refine⟨.row rfl,?_⟩);refine⟨.pool rfl (by rfl),?_⟩;refine⟨.row rfl,?_⟩;refine⟨.pool rfl (by rfl),?_⟩;refine⟨.row rfl,?_⟩;exact trivial)) rfl
 rintro⟨sl,rest,op,to,i,z1,z2⟩ hR
 simp only at hR
 clear hA hA0
 have qw:=hR.Ms hs
 have Gj:=hR.base.len
 have hi:=hR.hi
 by_cases aP:i<(s.cl j).length
 ·have oK:(i:Int).toNat<(s.cl j).length:=by omega
  obtain⟨x,hx⟩:∃x,x=(s.cl j)[(i:Int).toNat]:=⟨_,rfl⟩
  have hx2:(s.cl j)[i]=x:=hx.symm
  have qz:=jI _ (List.getElem_mem oK)
  rw[← hx] at qz
  obtain⟨_,_,_⟩:=qz
  have hv0:0≤max x (-x):=by omega
  have hv1:(max x (-x)).toNat<sl.length:=by omega
  have hv2:(max x (-x)).toNat<s.level.length:=by omega
  have hg1:sl.getD (aF x) false=sl[(max x (-x)).toNat]:=m_ hv1
  have hg2:aD s x=s.level[(max x (-x)).toNat]:=aQ hv2
  by_cases hp:x=piv
  ·have hp':decide (x=piv)=true:=by simpa using hp
   have la:=hR.skip aP (.inl (by rw[hx2];exact hp))
   (refine j6 ?_;(with_reducible apply aa.aA 7);(iterate 8 exact rfl);(first|(with_reducible assumption)|omega|(simp only[ab,List.length_set];omega));(first|(with_reducible assumption)|omega|(simp only[ab,List.length_set];omega));(focus ((with_reducible apply aa.ax 7);(iterate 5 exact rfl);(focus (intro h_;cases h_;done));rotate_left;(first|(with_reducible assumption)|omega|(simp only[ab,List.length_set];omega))));refine eD ?_;(with_reducible apply AW.pj 9);(rw[← hx]);refine dH ?_;refine B6 ?_;refine jX ?_;refine vu ?_;refine qP ?_;refine Dm ?_;refine zm ?_;refine G6 ?_;refine rj ?_;refine Aw ?_;refine lx ?_)
   exact MC
  ·have hp':decide (x=piv)=false:=by simpa using hp
   cases jW:sl[(max x (-x)).toNat] with
   |true=>
    have la:=hR.skip aP (.inr (.inl (by rw[hx2,hg1];exact jW)))
    (refine j6 ?_;(with_reducible apply aa.aA 7);(iterate 8 exact rfl);(first|(with_reducible assumption)|omega|(simp only[ab,List.length_set];omega));(first|(with_reducible assumption)|omega|(simp only[ab,List.length_set];omega));(focus ((with_reducible apply aa.ax 7);(iterate 5 exact rfl);(focus (intro h_;cases h_;done));rotate_left;(first|(with_reducible assumption)|omega|(simp only[ab,List.length_set];omega))));refine eD ?_;(with_reducible apply AW.pj 9);(rw[← hx]);refine DO ?_;(focus ((with_reducible apply aa.aC);(iterate 4 exact rfl);(focus (intro h_;cases h_;done));rotate_left;(first|omega|exact Nat.zero_lt_one|(simp;done))));refine zF ?_;refine zm ?_;refine JX ?_;refine lx ?_)
    exact MC
   |false=>
    have fb:=AJ sl (max x (-x)).toNat
    by_cases hl0:s.level[(max x (-x)).toNat]=0
    ·have hl0':decide (s.level[(max x (-x)).toNat]=0)=true:=by simpa using hl0
     have la:=hR.skip aP (.inr (.inr (by rw[hx2,hg2];exact hl0)))
     (refine j6 ?_;(with_reducible apply aa.aA 7);(iterate 8 exact rfl);(first|(with_reducible assumption)|omega|(simp only[ab,List.length_set];omega));(first|(with_reducible assumption)|omega|(simp only[ab,List.length_set];omega));(focus ((with_reducible apply aa.ax 7);(iterate 5 exact rfl);(focus (intro h_;cases h_;done));rotate_left;(first|(with_reducible assumption)|omega|(simp only[ab,List.length_set];omega))));refine eD ?_;(with_reducible apply AW.pj 9);(rw[← hx]);refine DO ?_;(focus ((with_reducible apply aa.aC);(iterate 4 exact rfl);(focus (intro h_;cases h_;done));rotate_left;(first|omega|exact Nat.zero_lt_one|(simp;done))));refine zF ?_;refine Is ?_;(focus ((with_reducible apply aa.aC);(iterate 4 exact rfl);(focus (intro h_;cases h_;done));rotate_left;(first|omega|exact Nat.zero_lt_one|(simp;done))));refine y7 ?_;refine gG ?_;refine Aw ?_;refine lx ?_)
     exact MC
    ·have hl0':decide (s.level[(max x (-x)).toNat]=0)=false:=by simpa using hl0
     by_cases Df:s.level[(max x (-x)).toNat]=(s.marks.length:Int)
     ·have LP:decide (s.level[(max x (-x)).toNat]=(s.marks.length:Int))=true:=by simpa using Df
      have la:=hR.cur hs hm aP (by rw[hx2];exact hp) (by rw[hx2,hg1];exact jW) (by rw[hx2,hg2];exact Df)
      rw[hx2] at la
      (refine j6 ?_;(with_reducible apply aa.aA 7);(iterate 8 exact rfl);(first|(with_reducible assumption)|omega|(simp only[ab,List.length_set];omega));(first|(with_reducible assumption)|omega|(simp only[ab,List.length_set];omega));(focus ((with_reducible apply aa.ax 7);(iterate 5 exact rfl);(focus (intro h_;cases h_;done));rotate_left;(first|(with_reducible assumption)|omega|(simp only[ab,List.length_set];omega))));refine eD ?_;(with_reducible apply AW.pj 9);(rw[← hx]);refine DO ?_;(focus ((with_reducible apply aa.aC);(iterate 4 exact rfl);(focus (intro h_;cases h_;done));rotate_left;(first|omega|exact Nat.zero_lt_one|(simp;done))));refine zF ?_;refine Is ?_;(focus ((with_reducible apply aa.aC);(iterate 4 exact rfl);(focus (intro h_;cases h_;done));rotate_left;(first|omega|exact Nat.zero_lt_one|(simp;done))));refine y7 ?_;refine hO ?_;refine pz ?_;refine zm ?_;refine mD ?_;(with_reducible apply aa.bI);(iterate 4 exact rfl);(first|exact rfl|assumption|exact dm _|exact dj _ _|exact dF _|exact dG _ _);(iterate 3 exact rfl);refine gH ?_;(iterate 2 refine zo ?_);(with_reducible apply AW.bn);exact rfl;exact rfl;kernel_rfl;(with_reducible assumption);refine tg ?_;refine Bo ?_;refine mD ?_;(focus ((with_reducible apply aa.aC);(iterate 4 exact rfl);(focus (intro h_;cases h_;done));rotate_left;(first|omega|exact Nat.zero_lt_one|(simp;done))));refine tg ?_;refine sM ?_;refine Cw ?_;refine dk ?_;refine zj ?_;refine eD ?_;refine Aw ?_;refine lx ?_)
      exact⟨(⟨sl.set (aF x) true,rest,op+1,to,i+1,z1,z2⟩:AQ),la,by show(s.cl j).length - (i+1)<(s.cl j).length - i;omega,aN rfl (by(refine⟨.aj (by first|rfl|exact fb) rfl,?_⟩;refine⟨.aj (by first|rfl|exact fb) rfl,?_⟩;(iterate 8 refine⟨.ai (by first|rfl|exact fb),?_⟩);(iterate 2 refine⟨.eq rfl rfl,?_⟩);exact trivial)) (by(refine⟨.row rfl,?_⟩;refine⟨.row rfl,?_⟩;refine⟨.box _ rfl ?_,?_⟩;(iterate 3 refine⟨.aj (by first|rfl|exact fb) rfl,?_⟩);refine⟨.ai (by first|rfl|exact fb),?_⟩;refine⟨.aj (by first|rfl|exact fb) rfl,?_⟩;refine⟨.ai (by first|rfl|exact fb),?_⟩;(iterate 2 refine⟨.aj (by first|rfl|exact fb) rfl,?_⟩);(iterate 3 refine⟨.ai (by first|rfl|exact fb),?_⟩);refine⟨.aj (by first|rfl|exact fb) rfl,?_⟩;refine⟨.ai (by first|rfl|exact fb),?_⟩;(iterate 2 refine⟨.bz (by first|rfl|exact fb),?_⟩);exact trivial;(iterate 3 refine⟨.row rfl,?_⟩);refine⟨.pool rfl (by first|rfl|exact fb),?_⟩;(iterate 2 refine⟨.row rfl,?_⟩);refine⟨.pool rfl (by first|rfl|exact fb),?_⟩;refine⟨.row rfl,?_⟩;refine⟨.pool rfl (by first|rfl|exact fb),?_⟩;refine⟨.row rfl,?_⟩;exact trivial)) rfl⟩
     ·have LP:decide (s.level[(max x (-x)).toNat]=(s.marks.length:Int))=false:=by simpa using Df
      have la:=hR.tu hs aP (by rw[hx2];exact hp) (by rw[hx2,hg1];exact jW) (by rw[hx2,hg2];exact Df) (by rw[hx2,hg2];exact hl0)
      rw[hx2,hg2] at la
      (refine j6 ?_;(with_reducible apply aa.aA 7);(iterate 8 exact rfl);(first|(with_reducible assumption)|omega|(simp only[ab,List.length_set];omega));(first|(with_reducible assumption)|omega|(simp only[ab,List.length_set];omega));(focus ((with_reducible apply aa.ax 7);(iterate 5 exact rfl);(focus (intro h_;cases h_;done));rotate_left;(first|(with_reducible assumption)|omega|(simp only[ab,List.length_set];omega))));refine eD ?_;(with_reducible apply AW.pj 9);(rw[← hx]);refine DO ?_;(focus ((with_reducible apply aa.aC);(iterate 4 exact rfl);(focus (intro h_;cases h_;done));rotate_left;(first|omega|exact Nat.zero_lt_one|(simp;done))));refine zF ?_;refine Is ?_;(focus ((with_reducible apply aa.aC);(iterate 4 exact rfl);(focus (intro h_;cases h_;done));rotate_left;(first|omega|exact Nat.zero_lt_one|(simp;done))));refine y7 ?_;refine hO ?_;refine pz ?_;refine zm ?_;refine mD ?_;(with_reducible apply aa.bI);(iterate 4 exact rfl);(first|exact rfl|assumption|exact dm _|exact dj _ _|exact dF _|exact dG _ _);(iterate 3 exact rfl);refine gH ?_;(iterate 2 refine zo ?_);(with_reducible apply AW.bn);exact rfl;exact rfl;kernel_rfl;(with_reducible assumption);refine tg ?_;refine Bo ?_;refine mD ?_;(focus ((with_reducible apply aa.aC);(iterate 4 exact rfl);(focus (intro h_;cases h_;done));rotate_left;(first|omega|exact Nat.zero_lt_one|(simp;done))));refine tg ?_;refine sM ?_;refine wx ?_;refine pz ?_;refine zm ?_;(with_reducible apply aa.il);(iterate 5 exact rfl);(first|exact rfl|assumption|exact dm _|exact dj _ _|exact dF _|exact dG _ _);exact rfl;exact rfl;refine Q0 ?_;(with_reducible apply aa.aZ);exact rfl;(first|exact .pv rfl|exact .own rfl|exact .nil rfl);(iterate 9 exact rfl);(first|omega|(simp only[List.length_map,List.length_append,List.length_cons,List.length_nil,List.length_drop,List.length_take,List.length_set,List.length_range,aE];omega));refine Q0 ?_;refine vn ?_;refine kM ?_;refine zm ?_;refine tg ?_;refine Bo ?_;refine mD ?_;(focus ((with_reducible apply aa.aC);(iterate 4 exact rfl);(focus (intro h_;cases h_;done));rotate_left;(first|omega|exact Nat.zero_lt_one|(simp;done))));refine aa.max2 rfl rfl rfl rfl rfl ?_;refine za ?_;refine aa.nil ?_;refine yu ?_;refine lx ?_)
      exact⟨(⟨sl.set (aF x) true,rest++ [x],op,max to s.level[(max x (-x)).toNat],i+1,z1,z2⟩:AQ),la,by show(s.cl j).length - (i+1)<(s.cl j).length - i;omega,aN rfl (by(refine⟨.aj (by first|rfl|exact fb|(rw[← List.cons_append,List.map_append];rfl)) rfl,?_⟩;refine⟨.aj (by first|rfl|exact fb|(rw[← List.cons_append,List.map_append];rfl)) rfl,?_⟩;refine⟨.ai (by first|rfl|exact fb|(rw[← List.cons_append,List.map_append];rfl)),?_⟩;refine⟨.ai (by first|rfl|exact fb|(rw[← List.cons_append,List.map_append];rfl)),?_⟩;refine⟨.ai (by first|rfl|exact fb|(rw[← List.cons_append,List.map_append];rfl)),?_⟩;refine⟨.ai (by first|rfl|exact fb|(rw[← List.cons_append,List.map_append];rfl)),?_⟩;refine⟨.ai (by first|rfl|exact fb|(rw[← List.cons_append,List.map_append];rfl)),?_⟩;refine⟨.ai (by first|rfl|exact fb|(rw[← List.cons_append,List.map_append];rfl)),?_⟩;refine⟨.ai (by first|rfl|exact fb|(rw[← List.cons_append,List.map_append];rfl)),?_⟩;refine⟨.ai (by first|rfl|exact fb|(rw[← List.cons_append,List.map_append];rfl)),?_⟩;(iterate 2 refine⟨.eq rfl rfl,?_⟩);exact trivial)) (by(refine⟨.row rfl,?_⟩;refine⟨.row rfl,?_⟩;refine⟨.box _ rfl ?_,?_⟩;refine⟨.aj (by first|rfl|exact fb|(rw[← List.cons_append,List.map_append];rfl)) rfl,?_⟩;refine⟨.aj (by first|rfl|exact fb|(rw[← List.cons_append,List.map_append];rfl)) rfl,?_⟩;refine⟨.aj (by first|rfl|exact fb|(rw[← List.cons_append,List.map_append];rfl)) rfl,?_⟩;refine⟨.ai (by first|rfl|exact fb|(rw[← List.cons_append,List.map_append];rfl)),?_⟩;refine⟨.aj (by first|rfl|exact fb|(rw[← List.cons_append,List.map_append];rfl)) rfl,?_⟩;refine⟨.ai (by first|rfl|exact fb|(rw[← List.cons_append,List.map_append];rfl)),?_⟩;refine⟨.aj (by first|rfl|exact fb|(rw[← List.cons_append,List.map_append];rfl)) rfl,?_⟩;refine⟨.aj (by first|rfl|exact fb|(rw[← List.cons_append,List.map_append];rfl)) rfl,?_⟩;refine⟨.ai (by first|rfl|exact fb|(rw[← List.cons_append,List.map_append];rfl)),?_⟩;refine⟨.ai (by first|rfl|exact fb|(rw[← List.cons_append,List.map_append];rfl)),?_⟩;refine⟨.ai (by first|rfl|exact fb|(rw[← List.cons_append,List.map_append];rfl)),?_⟩;refine⟨.aj (by first|rfl|exact fb|(rw[← List.cons_append,List.map_append];rfl)) rfl,?_⟩;refine⟨.ai (by first|rfl|exact fb|(rw[← List.cons_append,List.map_append];rfl)),?_⟩;refine⟨.bz (by first|rfl|exact fb|(rw[← List.cons_append,List.map_append];rfl)),?_⟩;refine⟨.bz (by first|rfl|exact fb|(rw[← List.cons_append,List.map_append];rfl)),?_⟩;exact trivial;(iterate 3 refine⟨.row rfl,?_⟩);refine⟨.pool rfl (by first|rfl|exact fb|(rw[← List.cons_append,List.map_append];rfl)),?_⟩;(iterate 2 refine⟨.row rfl,?_⟩);refine⟨.pool rfl (by first|rfl|exact fb|(rw[← List.cons_append,List.map_append];rfl)),?_⟩;refine⟨.row rfl,?_⟩;refine⟨.pool rfl (by first|rfl|exact fb|(rw[← List.cons_append,List.map_append];rfl)),?_⟩;refine⟨.row rfl,?_⟩;exact trivial)) rfl⟩
 ·obtain rfl:i=(s.cl j).length:=by omega
  have hD:=hR.fin hs hm
  have wV:=hD.pos
  obtain⟨a0,rfl⟩:∃a0,k=a0+1:=⟨k - 1,by omega⟩
  have ek:((a0+1:Nat):Int) - 1=(a0:Int):=by omega
  (refine dH ?_;refine xB ?_;refine zo ?_;refine dk ?_;refine vV ?_;refine AW.block ?_)
  (refine Q0 ?_;apply AW.ck [6,7,8,9,1,11,0,1000] [12,11,0,1,2,3,4,5,6,7,8,9,10] (fun a:Nat=>([(10,aw (a:Nat))]:List (Nat×AV))) (fun a:Nat=>([]:List (Nat×Option Ob))) (fun a:Nat=>(gR n s j0 (a+1) sl rest op to∧a≤a0)) (fun a:Nat=>a) (a0);(conv=>lhs;simp only[Nf.jJ,Nf.all,Nat.reduceBEq,reduceAdd,reduceSub]);(all_goals skip))
  ·exact⟨hD,Nat.le_refl _⟩
  ·exact aN rfl (by(refine⟨.ai (by first|rfl|(rw[ek])),?_⟩;refine⟨.aj (by first|rfl|(rw[ek])) rfl,?_⟩;refine⟨.aj (by first|rfl|(rw[ek])) rfl,?_⟩;refine⟨.ai (by first|rfl|(rw[ek])),?_⟩;refine⟨.ai (by first|rfl|(rw[ek])),?_⟩;refine⟨.ai (by first|rfl|(rw[ek])),?_⟩;refine⟨.ai (by first|rfl|(rw[ek])),?_⟩;(iterate 2 refine⟨.eq rfl rfl,?_⟩);exact trivial)) (by(refine⟨.row rfl,?_⟩;refine⟨.row rfl,?_⟩;refine⟨.box _ rfl ?_,?_⟩;refine⟨.aj (by first|rfl|(rw[ek])) rfl,?_⟩;refine⟨.aj (by first|rfl|(rw[ek])) rfl,?_⟩;refine⟨.aj (by first|rfl|(rw[ek])) rfl,?_⟩;refine⟨.ai (by first|rfl|(rw[ek])),?_⟩;refine⟨.aj (by first|rfl|(rw[ek])) rfl,?_⟩;refine⟨.ai (by first|rfl|(rw[ek])),?_⟩;refine⟨.aj (by first|rfl|(rw[ek])) rfl,?_⟩;refine⟨.aj (by first|rfl|(rw[ek])) rfl,?_⟩;refine⟨.ai (by first|rfl|(rw[ek])),?_⟩;refine⟨.ai (by first|rfl|(rw[ek])),?_⟩;refine⟨.ai (by first|rfl|(rw[ek])),?_⟩;refine⟨.aj (by first|rfl|(rw[ek])) rfl,?_⟩;refine⟨.ai (by first|rfl|(rw[ek])),?_⟩;refine⟨.bz (by first|rfl|(rw[ek])),?_⟩;refine⟨.bz (by first|rfl|(rw[ek])),?_⟩;exact trivial;(iterate 3 refine⟨.row rfl,?_⟩);refine⟨.pool rfl (by first|rfl|(rw[ek])),?_⟩;(iterate 2 refine⟨.row rfl,?_⟩);refine⟨.pool rfl (by first|rfl|(rw[ek])),?_⟩;refine⟨.row rfl,?_⟩;refine⟨.pool rfl (by first|rfl|(rw[ek])),?_⟩;refine⟨.row rfl,?_⟩;exact trivial)) rfl
  rintro a ⟨hE,hle⟩
  have Rz:=hE.hk
  have kO:(a:Int).toNat<(s.ll 0).length:=by omega
  obtain⟨y,hy⟩:∃y,y=(s.ll 0)[(a:Int).toNat]:=⟨_,rfl⟩
  have hy2:(s.ll 0)[a]=y:=hy.symm
  have qA:=hs.trl.rng _ (List.getElem_mem kO)
  rw[← hy] at qA
  have hv0:0≤max y (-y):=by omega
  have hv1:(max y (-y)).toNat<sl.length:=by omega
  have hv3:(max y (-y)).toNat<s.reason.length:=by omega
  rw[hy] at qA hv0 hv1
  have hg1:sl.getD (aF (s.ll 0)[a]) false=sl[(max (s.ll 0)[(a:Int).toNat] (-(s.ll 0)[(a:Int).toNat])).toNat]:=m_ hv1
  cases jW:sl[(max (s.ll 0)[(a:Int).toNat] (-(s.ll 0)[(a:Int).toNat])).toNat] with
  |false=>
   have Hb:(!sl[(max (s.ll 0)[(a:Int).toNat] (-(s.ll 0)[(a:Int).toNat])).toNat])=true:=by rw[jW];rfl
   have hd:=hE.down (by rw[hg1];exact jW)
   have Ry:=hd.pos
   obtain⟨a1,rfl⟩:∃a1,a=a1+1:=⟨a - 1,by omega⟩
   have ek1:((a1+1:Nat):Int) - 1=(a1:Int):=by omega
   ((iterate 2 refine zo ?_);(with_reducible apply AW.bn);exact rfl;exact rfl;kernel_rfl;(with_reducible assumption);refine aa.bt rfl rfl rfl ?_;refine xf ?_;refine cJ ?_;(with_reducible apply aa.aA 4);(iterate 8 exact rfl);(first|(with_reducible assumption)|omega|(simp only[ab,List.length_set];omega));(first|(with_reducible assumption)|omega|(simp only[ab,List.length_set];omega));(focus ((with_reducible apply aa.ax 4);(iterate 5 exact rfl);(focus (intro h_;cases h_;done));rotate_left;(first|(with_reducible assumption)|omega|(simp only[ab,List.length_set];omega))));refine xf ?_;refine cJ ?_;(with_reducible apply aa.aA 4);(iterate 8 exact rfl);(first|(with_reducible assumption)|omega|(simp only[ab,List.length_set];omega));(first|(with_reducible assumption)|omega|(simp only[ab,List.length_set];omega));(focus ((with_reducible apply aa.ax 4);(iterate 5 exact rfl);(focus (intro h_;cases h_;done));rotate_left;(first|(with_reducible assumption)|omega|(simp only[ab,List.length_set];omega))));refine GF ?_;(focus ((with_reducible apply aa.aC);(iterate 4 exact rfl);(focus (intro h_;cases h_;done));rotate_left;(first|omega|exact Nat.zero_lt_one|(simp;done))));refine aa.not rfl rfl rfl ?_;refine zd ?_;refine AW.wB rfl rfl (by assumption) ?_;refine oc ?_;refine zo ?_;refine AW.block ?_;refine lN ?_;refine Q0 ?_;refine zm ?_;refine vV ?_)
   exact⟨a1,⟨hd,by omega⟩,by omega,aN rfl (by(refine⟨.ai (by first|rfl|(rw[ek1])),?_⟩;refine⟨.aj (by first|rfl|(rw[ek1])) rfl,?_⟩;refine⟨.aj (by first|rfl|(rw[ek1])) rfl,?_⟩;refine⟨.ai (by first|rfl|(rw[ek1])),?_⟩;refine⟨.ai (by first|rfl|(rw[ek1])),?_⟩;refine⟨.ai (by first|rfl|(rw[ek1])),?_⟩;refine⟨.ai (by first|rfl|(rw[ek1])),?_⟩;(iterate 2 refine⟨.eq rfl rfl,?_⟩);exact trivial)) (by(refine⟨.row rfl,?_⟩;refine⟨.row rfl,?_⟩;refine⟨.box _ rfl ?_,?_⟩;refine⟨.aj (by first|rfl|(rw[ek1])) rfl,?_⟩;refine⟨.aj (by first|rfl|(rw[ek1])) rfl,?_⟩;refine⟨.aj (by first|rfl|(rw[ek1])) rfl,?_⟩;refine⟨.ai (by first|rfl|(rw[ek1])),?_⟩;refine⟨.aj (by first|rfl|(rw[ek1])) rfl,?_⟩;refine⟨.ai (by first|rfl|(rw[ek1])),?_⟩;refine⟨.aj (by first|rfl|(rw[ek1])) rfl,?_⟩;refine⟨.aj (by first|rfl|(rw[ek1])) rfl,?_⟩;refine⟨.ai (by first|rfl|(rw[ek1])),?_⟩;refine⟨.ai (by first|rfl|(rw[ek1])),?_⟩;refine⟨.ai (by first|rfl|(rw[ek1])),?_⟩;refine⟨.aj (by first|rfl|(rw[ek1])) rfl,?_⟩;refine⟨.ai (by first|rfl|(rw[ek1])),?_⟩;refine⟨.bz (by first|rfl|(rw[ek1])),?_⟩;refine⟨.bz (by first|rfl|(rw[ek1])),?_⟩;exact trivial;(iterate 3 refine⟨.row rfl,?_⟩);refine⟨.pool rfl (by first|rfl|(rw[ek1])),?_⟩;(iterate 2 refine⟨.row rfl,?_⟩);refine⟨.pool rfl (by first|rfl|(rw[ek1])),?_⟩;refine⟨.row rfl,?_⟩;refine⟨.pool rfl (by first|rfl|(rw[ek1])),?_⟩;refine⟨.row rfl,?_⟩;exact trivial)) rfl⟩
  |true=>
   have Hb:(!sl[(max (s.ll 0)[(a:Int).toNat] (-(s.ll 0)[(a:Int).toNat])).toNat])=false:=by rw[jW];rfl
   have Kk:sl.getD (aF (s.ll 0)[a]) false=true:=by rw[hg1];exact jW
   have NS:(max (s.ll 0)[(a:Int).toNat] (-(s.ll 0)[(a:Int).toNat])).toNat<s.reason.length:=by rw[← hy];exact hv3
   by_cases IF:op=1
   ·subst IF
    have fA:=hE.out hs Kk
    ((iterate 2 refine zo ?_);(with_reducible apply AW.bn);exact rfl;exact rfl;kernel_rfl;(with_reducible assumption);refine aa.bt rfl rfl rfl ?_;refine xf ?_;refine cJ ?_;(with_reducible apply aa.aA 4);(iterate 8 exact rfl);(first|(with_reducible assumption)|omega|(simp only[ab,List.length_set];omega));(first|(with_reducible assumption)|omega|(simp only[ab,List.length_set];omega));(focus ((with_reducible apply aa.ax 4);(iterate 5 exact rfl);(focus (intro h_;cases h_;done));rotate_left;(first|(with_reducible assumption)|omega|(simp only[ab,List.length_set];omega))));refine xf ?_;refine cJ ?_;(with_reducible apply aa.aA 4);(iterate 8 exact rfl);(first|(with_reducible assumption)|omega|(simp only[ab,List.length_set];omega));(first|(with_reducible assumption)|omega|(simp only[ab,List.length_set];omega));(focus ((with_reducible apply aa.ax 4);(iterate 5 exact rfl);(focus (intro h_;cases h_;done));rotate_left;(first|(with_reducible assumption)|omega|(simp only[ab,List.length_set];omega))));refine GF ?_;(focus ((with_reducible apply aa.aC);(iterate 4 exact rfl);(focus (intro h_;cases h_;done));rotate_left;(first|omega|exact Nat.zero_lt_one|(simp;done))));refine aa.not rfl rfl rfl ?_;refine zd ?_;refine AW.r7 rfl rfl (by assumption) ?_;refine vj ?_;refine dH ?_;refine xf ?_;refine cJ ?_;(with_reducible apply aa.aA 4);(iterate 8 exact rfl);(first|(with_reducible assumption)|omega|(simp only[ab,List.length_set];omega));(first|(with_reducible assumption)|omega|(simp only[ab,List.length_set];omega));(focus ((with_reducible apply aa.ax 4);(iterate 5 exact rfl);(focus (intro h_;cases h_;done));rotate_left;(first|(with_reducible assumption)|omega|(simp only[ab,List.length_set];omega))));refine eD ?_;refine dk ?_;refine aa.sub rfl rfl rfl rfl rfl (by omega) ?_;refine jX ?_;refine dk ?_;refine aa.eql rfl rfl rfl rfl rfl ?_;refine rj ?_;refine pz ?_;refine zm ?_;refine aa.neg rfl rfl rfl (by omega) ?_;(with_reducible apply aa.oW);(iterate 7 exact rfl);omega;(first|omega|(simp only[List.length_map,List.length_append,List.length_cons,List.length_nil,List.length_drop,List.length_take,List.length_set,List.length_range,aE];omega));(with_reducible apply aa.bI);(iterate 4 exact rfl);(first|exact rfl|assumption|exact dm _|exact dj _ _|exact dF _|exact dG _ _);(iterate 3 exact rfl);refine gH ?_;refine AW.fk 24 ?_)
    refine Stop.go ?_
    refine AW.q_ 7 12 s.nc 7 (us:= -(s.ll 0)[(a:Int).toNat]::rest) rfl rfl rfl rfl (hs.fresh s.nc (Nat.le_refl _)).2 fun v_ CD=>?_
    (try (conv=>rhs;simp only[Nf.cG,Nf.all,Nat.reduceBEq,reduceAdd,reduceSub]))
    (refine zq ?_;(iterate 2 refine zm ?_);refine ju ?_;refine AW.ret ?_;(iterate 2 refine tB ?_))
    (apply bW (((v_,-(s.ll 0)[(a:Int).toNat]::rest,to):Value×List Int×Int)) (⟨CD,fA⟩);((exact bD.two (.tmp rfl rfl) (.tmp rfl rfl)));((exact lR));((exact A3));exact rfl)
   ·obtain⟨j',hj',hj'n,hN⟩:=hE.next hs Kk IF
    have Rm:=hE.op
    have hj2:s.reason[(max (s.ll 0)[(a:Int).toNat] (-(s.ll 0)[(a:Int).toNat])).toNat]'NS=(j':Int):=by rw[← aQ NS];exact hj'
    have eop:(op:Int) - 1=((op - 1:Nat):Int):=by omega
    ((iterate 2 refine zo ?_);(with_reducible apply AW.bn);exact rfl;exact rfl;kernel_rfl;(with_reducible assumption);refine aa.bt rfl rfl rfl ?_;refine xf ?_;refine cJ ?_;(with_reducible apply aa.aA 4);(iterate 8 exact rfl);(first|(with_reducible assumption)|omega|(simp only[ab,List.length_set];omega));(first|(with_reducible assumption)|omega|(simp only[ab,List.length_set];omega));(focus ((with_reducible apply aa.ax 4);(iterate 5 exact rfl);(focus (intro h_;cases h_;done));rotate_left;(first|(with_reducible assumption)|omega|(simp only[ab,List.length_set];omega))));refine xf ?_;refine cJ ?_;(with_reducible apply aa.aA 4);(iterate 8 exact rfl);(first|(with_reducible assumption)|omega|(simp only[ab,List.length_set];omega));(first|(with_reducible assumption)|omega|(simp only[ab,List.length_set];omega));(focus ((with_reducible apply aa.ax 4);(iterate 5 exact rfl);(focus (intro h_;cases h_;done));rotate_left;(first|(with_reducible assumption)|omega|(simp only[ab,List.length_set];omega))));refine GF ?_;(focus ((with_reducible apply aa.aC);(iterate 4 exact rfl);(focus (intro h_;cases h_;done));rotate_left;(first|omega|exact Nat.zero_lt_one|(simp;done))));refine aa.not rfl rfl rfl ?_;refine zd ?_;refine AW.r7 rfl rfl (by assumption) ?_;refine vj ?_;refine dH ?_;refine xf ?_;refine cJ ?_;(with_reducible apply aa.aA 4);(iterate 8 exact rfl);(first|(with_reducible assumption)|omega|(simp only[ab,List.length_set];omega));(first|(with_reducible assumption)|omega|(simp only[ab,List.length_set];omega));(focus ((with_reducible apply aa.ax 4);(iterate 5 exact rfl);(focus (intro h_;cases h_;done));rotate_left;(first|(with_reducible assumption)|omega|(simp only[ab,List.length_set];omega))));refine eD ?_;refine dk ?_;refine aa.sub rfl rfl rfl rfl rfl (by omega) ?_;refine jX ?_;refine dk ?_;refine wx ?_;refine kM ?_;refine tg ?_;refine aa.ah 65 2 2 rfl rfl rfl rfl ?_;refine zb ?_;refine B6 ?_;refine mD ?_;(focus ((with_reducible apply aa.aC);(iterate 4 exact rfl);(focus (intro h_;cases h_;done));rotate_left;(first|omega|exact Nat.zero_lt_one|(simp;done))));refine za ?_;refine y8 ?_)
    exact⟨(⟨sl,rest,op - 1,to,a,(s.ll 0)[(a:Int).toNat],j'⟩:AQ),hN,by show a<a0+1;omega,aN rfl (by(refine⟨.ai (by first|rfl|(rw[eop])|(rw[hj2])),?_⟩;refine⟨.aj (by first|rfl|(rw[eop])|(rw[hj2])) rfl,?_⟩;refine⟨.aj (by first|rfl|(rw[eop])|(rw[hj2])) rfl,?_⟩;refine⟨.ai (by first|rfl|(rw[eop])|(rw[hj2])),?_⟩;refine⟨.ai (by first|rfl|(rw[eop])|(rw[hj2])),?_⟩;refine⟨.ai (by first|rfl|(rw[eop])|(rw[hj2])),?_⟩;refine⟨.ai (by first|rfl|(rw[eop])|(rw[hj2])),?_⟩;(iterate 2 refine⟨.eq rfl rfl,?_⟩);exact trivial)) (by(refine⟨.row rfl,?_⟩;refine⟨.row rfl,?_⟩;refine⟨.box _ rfl ?_,?_⟩;refine⟨.aj (by first|rfl|(rw[eop])|(rw[hj2])) rfl,?_⟩;refine⟨.aj (by first|rfl|(rw[eop])|(rw[hj2])) rfl,?_⟩;refine⟨.aj (by first|rfl|(rw[eop])|(rw[hj2])) rfl,?_⟩;refine⟨.ai (by first|rfl|(rw[eop])|(rw[hj2])),?_⟩;refine⟨.aj (by first|rfl|(rw[eop])|(rw[hj2])) rfl,?_⟩;refine⟨.ai (by first|rfl|(rw[eop])|(rw[hj2])),?_⟩;refine⟨.aj (by first|rfl|(rw[eop])|(rw[hj2])) rfl,?_⟩;refine⟨.aj (by first|rfl|(rw[eop])|(rw[hj2])) rfl,?_⟩;refine⟨.ai (by first|rfl|(rw[eop])|(rw[hj2])),?_⟩;refine⟨.ai (by first|rfl|(rw[eop])|(rw[hj2])),?_⟩;refine⟨.ai (by first|rfl|(rw[eop])|(rw[hj2])),?_⟩;refine⟨.aj (by first|rfl|(rw[eop])|(rw[hj2])) rfl,?_⟩;refine⟨.ai (by first|rfl|(rw[eop])|(rw[hj2])),?_⟩;refine⟨.bz (by first|rfl|(rw[eop])|(rw[hj2])),?_⟩;refine⟨.bz (by first|rfl|(rw[eop])|(rw[hj2])),?_⟩;exact trivial;(iterate 3 refine⟨.row rfl,?_⟩);refine⟨.pool rfl (by first|rfl|(rw[eop])|(rw[hj2])),?_⟩;(iterate 2 refine⟨.row rfl,?_⟩);refine⟨.pool rfl (by first|rfl|(rw[eop])|(rw[hj2])),?_⟩;refine⟨.row rfl,?_⟩;refine⟨.pool rfl (by first|rfl|(rw[eop])|(rw[hj2])),?_⟩;refine⟨.row rfl,?_⟩;exact trivial)) rfl⟩
end Go.Ab
/- The solver:a clause attached,the bounds told of the two lists alone. -/
namespace Go.Ab
open Go Go.Proofs
open Nat (reduceAdd reduceSub)
set_option maxRecDepth 20000
set_option maxHeartbeats 4000000
attribute [local irreducible] bK AW aa bM a8 AR bm a_ bs bT fm fw al
theorem pC (s:SR) (x y:Int) (r:List Int) (hc:s.cl s.nc=x::y::r) (NM:al x≠al y) (hx:0≤al x∧(al x).toNat<s.nw) (hy:0≤al y∧(al y).toNat<s.nw) (O5: -1000000≤x∧x≤1000000) (Bs: -1000000≤y∧y≤1000000)
  (hl:s.nc≤1000000) (Nk:(s.wl (al x).toNat).length≤1000000) (Mk:(s.wl (al y).toNat).length≤1000000) (vp:s.nw≤1000000) (Li:r.length≤1000000):
  nf Try.prog 36 11 (cd s) [.ptr 0 0,.pv (.lit (s.hc s.nc))] (fun h:Value×Value=>h.1.oneCell'=true∧h.2.oneCell'=true) (fun h=>cd (dU (dU {s with nc:=s.nc+1} x s.nc h.1) y s.nc h.2)) (fun _=>aw s.nc):=by
 have dO:2≤(s.cl s.nc).length:=by rw[hc];simp
 have e0:=ff s.nc s.hc
 have e1:∀h,(bK s.nw h).length=s.nw:=ff s.nw
 simp only[cd,cg]
 refine nf.enter (n:=50) Try.func36 rfl rfl rfl rfl rfl (by decide) rfl (fun _=>rfl) fun g aY aW=>?_;refine mL ?_
 refine AW.tf 7 rfl fun dm dj=>?_
 (refine zq ?_;refine eD ?_;refine dH ?_;refine BK ?_;refine zb ?_;refine aa.ff rfl rfl rfl rfl ?_;refine eD ?_;refine dH ?_;refine zg ?_;refine aa.ah 67 1 6 rfl rfl rfl rfl ?_;refine cJ ?_;(with_reducible apply aa.il);(iterate 5 exact rfl);(first|exact rfl|assumption|exact dm _|exact dj _ _|exact dF _|exact dG _ _);exact rfl;exact rfl;refine Q0 ?_;(with_reducible apply aa.aZ);exact rfl;(first|exact .pv rfl|exact .own rfl|exact .nil rfl);(iterate 9 exact rfl);(first|omega|(simp only[List.length_map,List.length_append,List.length_cons,List.length_nil,List.length_drop,List.length_take,List.length_set,List.length_range,aE];omega));refine B5 ?_;refine aa.ah 67 1 6 rfl rfl rfl rfl ?_;(with_reducible apply aa.bB);(iterate 5 exact rfl);(first|exact rfl|assumption|exact dm _|exact dj _ _|exact dF _|exact dG _ _);(iterate 3 exact rfl);(with_reducible assumption);refine gH ?_;refine im ?_;(with_reducible apply aa.nK 7);(iterate 8 exact rfl);(first|(with_reducible assumption)|omega|(simp only[ab,List.length_set];omega));(first|(with_reducible assumption)|omega|(simp only[ab,List.length_set];omega));(with_reducible apply aa.xo 7);(iterate 5 exact rfl);(first|(with_reducible assumption)|omega|(simp only[ab,List.length_set];omega));refine zm ?_;refine pT ?_)
 (refine Q0 ?_;apply AW.ck [25,24,5,4,0,1000] [1,2,3,4,5,6,7,8,10] (fun q:Nat×(Nat→Value)×(Nat→List Int)=>([(26,aw q.1)]:List (Nat×AV))) (fun q:Nat×(Nat→Value)×(Nat→List Int)=>([(0,some (.box [.own 1 3 1 ((s.value).map encI),.own 2 3 1 ((s.level).map encI),.own 3 3 1 ((s.reason).map encI),.pv (.lit (s.hl 0)),.own 5 3 1 ((s.marks).map encI),aw (s.low),.own 6 28 1 (bK (s.nc+1) s.hc),.own 8 28 1 (bK s.nw q.2.1),aw (s.head),aw (s.added),aM (s.broken),.own 10 30 3 ((s.proof).map jY),aw 0,.pv (dP (s.model)),.pv (dP (s.core))])),(9,some (.pool 3 (ew q.2.1 q.2.2)))]:List (Nat×Option Ob))) (fun q:Nat×(Nat→Value)×(Nat→List Int)=>PN s x y q.1 q.2.1 q.2.2) (fun q:Nat×(Nat→Value)×(Nat→List Int)=>2 - q.1) (((0:Nat),s.hw,s.wl));(conv=>lhs;simp only[Nf.jJ,Nf.all,Nat.reduceBEq,reduceAdd,reduceSub]);(all_goals skip))
 ·exact⟨by omega,fun _=>⟨rfl,rfl⟩,fun h=>by omega,fun h=>by omega⟩
 ·exact aN rfl (by(refine⟨.ai (by first|rfl|(rw[← aL])|exact aL _ _),?_⟩;refine⟨.ai (by first|rfl|(rw[← aL])|exact aL _ _),?_⟩;refine⟨.ai (by first|rfl|(rw[← aL])|exact aL _ _),?_⟩;refine⟨.ai (by first|rfl|(rw[← aL])|exact aL _ _),?_⟩;refine⟨.ai (by first|rfl|(rw[← aL])|exact aL _ _),?_⟩;(iterate 2 refine⟨.eq rfl rfl,?_⟩);exact trivial)) (by(refine⟨.box _ rfl ?_,?_⟩;refine⟨.aj (by first|rfl|(rw[← aL])|exact aL _ _) rfl,?_⟩;refine⟨.aj (by first|rfl|(rw[← aL])|exact aL _ _) rfl,?_⟩;refine⟨.aj (by first|rfl|(rw[← aL])|exact aL _ _) rfl,?_⟩;refine⟨.ai (by first|rfl|(rw[← aL])|exact aL _ _),?_⟩;refine⟨.aj (by first|rfl|(rw[← aL])|exact aL _ _) rfl,?_⟩;refine⟨.ai (by first|rfl|(rw[← aL])|exact aL _ _),?_⟩;refine⟨.aj (by first|rfl|(rw[← aL])|exact aL _ _) rfl,?_⟩;refine⟨.aj (by first|rfl|(rw[← aL])|exact aL _ _) rfl,?_⟩;refine⟨.ai (by first|rfl|(rw[← aL])|exact aL _ _),?_⟩;refine⟨.ai (by first|rfl|(rw[← aL])|exact aL _ _),?_⟩;refine⟨.ai (by first|rfl|(rw[← aL])|exact aL _ _),?_⟩;refine⟨.aj (by first|rfl|(rw[← aL])|exact aL _ _) rfl,?_⟩;refine⟨.ai (by first|rfl|(rw[← aL])|exact aL _ _),?_⟩;refine⟨.bz (by first|rfl|(rw[← aL])|exact aL _ _),?_⟩;refine⟨.bz (by first|rfl|(rw[← aL])|exact aL _ _),?_⟩;exact trivial;refine⟨.pool rfl (by first|rfl|(rw[← aL])|exact aL _ _),?_⟩;(iterate 3 refine⟨.row rfl,?_⟩);refine⟨.pool rfl (by first|rfl|(rw[← aL])|exact aL _ _),?_⟩;(iterate 2 refine⟨.row rfl,?_⟩);refine⟨.pool rfl (by first|rfl|(rw[← aL])|exact aL _ _),?_⟩;(iterate 2 refine⟨.row rfl,?_⟩);exact trivial)) rfl
 rintro⟨k,hw,wl⟩ ⟨hk,i0,i1,i2⟩
 simp only at hk i0 i1 i2
 by_cases aP:k<2
 ·have Di:(k:Int).toNat<(s.cl s.nc).length:=by omega
  obtain⟨z,hz⟩:∃z,z=(s.cl s.nc)[(k:Int).toNat]:=⟨_,rfl⟩
  have vm:(0≤al z∧(al z).toNat<s.nw)∧ -1000000≤z∧z≤1000000:=by
   have hk2:k=0∨k=1:=by omega
   rcases hk2 with rfl|rfl
   ·have e:z=x:=by rw[hz];simp [hc]
    rw[e];exact⟨hx,O5⟩
   ·have e:z=y:=by rw[hz];simp [hc]
    rw[e];exact⟨hy,Bs⟩
  have fD:(k=0→z=x)∧(k=1→z=y):=⟨by rintro rfl;rw[hz];simp [hc],by rintro rfl;rw[hz];simp [hc]⟩
  have hw2:(wl (al z).toNat).length≤2000000:=by
   have hk2:k=0∨k=1:=by omega
   rcases hk2 with rfl|rfl
   ·obtain⟨_,rfl⟩:=i0 rfl
    rw[fD.1 rfl];omega
   ·obtain⟨_,_,_,rfl⟩:=i1 rfl
    rw[fD.2 rfl,aO _ _ (fun e=>NM (by omega))];omega
  rw[hz] at vm hw2
  obtain⟨⟨r1,r2⟩,r3⟩:=vm
  have xl:=oT _ r3
  (refine j6 ?_;(with_reducible apply aa.sL 7);(iterate 8 exact rfl);(first|(with_reducible assumption)|omega|(simp only[ab,List.length_set];omega));(first|(with_reducible assumption)|omega|(simp only[ab,List.length_set];omega));(first|(with_reducible assumption)|omega|(simp only[ab,List.length_set];omega));(focus ((with_reducible apply aa.ax 7);(iterate 5 exact rfl);(focus (intro h_;cases h_;done));rotate_left;(first|(with_reducible assumption)|omega|(simp only[ab,List.length_set];omega))));refine eD ?_;refine AW.bE [0,1,2,3,4,6,7,8,9,10,14] [18] rfl (by assumption) (by kernel_rfl) (by kernel_rfl) rfl ?_;show aa .held _ _ _ [_,_,_,_,_,_,_,_,_,_,_] _ _;refine wY ?_;refine cJ ?_;refine DG ?_;intro k_ cI;refine Q0 ?_;apply AR.cut [14,10,9,8,7,6,4,3,2,1,0,5,11,12,13,15];intro iq;apply AR.cut [14,10,9,8,7,6,4,3,2,1,0,5,11,12,15];intro lM;apply AR.cut [14,10,9,8,7,6,4,3,2,1,0,5,11,15];intro lU;apply AR.cut [14,10,9,8,7,6,4,3,2,1,0,5,15];intro na;(refine AR.bR (i:=5) (j:=15) rfl (by kernel_rfl) rfl rfl ?_ ?_<;>intro g_ ag bq);refine zA (xl) ?_;refine Q4 ?_;(refine AR.bR (i:=11) (j:=15) rfl (by kernel_rfl) rfl rfl ?_ ?_<;>intro g_ ag bq);refine zA (xl) ?_;refine Q4 ?_;(refine AR.bR (i:=12) (j:=15) rfl (by kernel_rfl) rfl rfl ?_ ?_<;>intro g_ ag bq);refine oB ?_;(refine AR.bR (i:=13) (j:=15) rfl (by kernel_rfl) rfl rfl ?_ ?_<;>intro g_ ag bq);refine aa.dE rfl rfl rfl rfl (fun h_=>by cases h_) (by omega) ?_;refine Q4 ?_;refine AR.aS (i:=15) rfl (by kernel_rfl) rfl ?_;intro g_ ag bq;(with_reducible apply aa.il);(iterate 5 exact rfl);(first|exact rfl|assumption|exact dm _|exact dj _ _|exact dF _|exact dG _ _);exact rfl;exact rfl;refine dX ?_;(try (conv=>rhs;simp only[Nf.cG,Nf.all,Nat.reduceBEq,reduceAdd,reduceSub]));exact ph;(with_reducible apply aa.il);(iterate 5 exact rfl);(first|exact rfl|assumption|exact dm _|exact dj _ _|exact dF _|exact dG _ _);exact rfl;exact rfl;refine dX ?_;(try (conv=>rhs;simp only[Nf.cG,Nf.all,Nat.reduceBEq,reduceAdd,reduceSub]));exact wi;(with_reducible apply aa.il);(iterate 5 exact rfl);(first|exact rfl|assumption|exact dm _|exact dj _ _|exact dF _|exact dG _ _);exact rfl;exact rfl;refine dX ?_;(try (conv=>rhs;simp only[Nf.cG,Nf.all,Nat.reduceBEq,reduceAdd,reduceSub]));refine oS ?_;exact AR.perm (by kernel_rfl) lU;(with_reducible apply aa.il);(iterate 5 exact rfl);(first|exact rfl|assumption|exact dm _|exact dj _ _|exact dF _|exact dG _ _);exact rfl;exact rfl;refine dX ?_;(try (conv=>rhs;simp only[Nf.cG,Nf.all,Nat.reduceBEq,reduceAdd,reduceSub]));refine oS ?_;exact AR.perm (by kernel_rfl) na;(with_reducible apply aa.il);(iterate 5 exact rfl);(first|exact rfl|assumption|exact dm _|exact dj _ _|exact dF _|exact dG _ _);exact rfl;exact rfl;refine dX ?_;refine AR.aS (i:=5) rfl (by kernel_rfl) rfl ?_;intro g_ ag bq;refine zA (xl) ?_;refine Q4 ?_;(try (conv=>rhs;simp only[Nf.cG,Nf.all,Nat.reduceBEq,reduceAdd,reduceSub]));refine AR.meet na (by kernel_rfl) (fun g_=>aN rfl ?_ ?_ rfl);(iterate 24 refine⟨.eq rfl rfl,?_⟩);exact trivial;exact K_;refine AR.aS (i:=11) rfl (by kernel_rfl) rfl ?_;intro g_ ag bq;refine zA (xl) ?_;refine Q4 ?_;(try (conv=>rhs;simp only[Nf.cG,Nf.all,Nat.reduceBEq,reduceAdd,reduceSub]));refine AR.meet lU (by kernel_rfl) (fun g_=>aN rfl ?_ ?_ rfl);(iterate 25 refine⟨.eq rfl rfl,?_⟩);exact trivial;exact K_;refine AR.aS (i:=12) rfl (by kernel_rfl) rfl ?_;intro g_ ag bq;refine oB ?_;(try (conv=>rhs;simp only[Nf.cG,Nf.all,Nat.reduceBEq,reduceAdd,reduceSub]));refine AR.meet lM (by kernel_rfl) (fun g_=>aN rfl ?_ ?_ rfl);(iterate 26 refine⟨.eq rfl rfl,?_⟩);exact trivial;exact K_;refine AR.aS (i:=13) rfl (by kernel_rfl) rfl ?_;intro g_ ag bq;refine aa.dE rfl rfl rfl rfl (fun h_=>by cases h_) (by omega) ?_;refine Q4 ?_;(try (conv=>rhs;simp only[Nf.cG,Nf.all,Nat.reduceBEq,reduceAdd,reduceSub]));refine AR.meet iq (by kernel_rfl) (fun g_=>aN rfl ?_ ?_ rfl);(iterate 27 refine⟨.eq rfl rfl,?_⟩);exact trivial;exact K_;refine AR.aS (i:=16) rfl (by kernel_rfl) rfl ?_;intro g_ ag bq;(with_reducible apply aa.ga 9);exact rfl;exact rfl;(first|exact .pv rfl|exact .own rfl|exact .nil rfl);(iterate 8 exact rfl);omega;(intro v_ CD);refine dX ?_;refine AR.cU [17] (by kernel_rfl) (by kernel_rfl) (by kernel_rfl) (by kernel_rfl) ?_;intro g_ ag;show aa .held _ _ _ [_] _ _;refine oB ?_;intro k_ cI;refine Q0 ?_;refine AR.cX (i:=18) rfl (by kernel_rfl) rfl (by kernel_rfl) ?_;intro g_ ag aH;(with_reducible apply aa.bI);(iterate 4 exact rfl);(first|exact rfl|assumption|exact dm _|exact dj _ _|exact dF _|exact dG _ _);(iterate 3 exact rfl);refine Q0 ?_;refine xt ?_;refine yu ?_;refine vg ?_)
  rw[← hz] at*
  refine⟨(k+1,aB hw (al z).toNat v_,aB wl (al z).toNat (wl (al z).toNat++ [(s.nc:Int)])),⟨by omega,fun h=>by simp at h,fun h=>?_,fun h=>?_⟩,by show 2 - (k+1)<2 - k;omega,aN rfl (by(refine DD ?_;(iterate 4 refine⟨.ai (by first|rfl|exact bg _ r2 _),?_⟩);exact q8)) (by(refine⟨.box _ rfl ?_,?_⟩;(iterate 3 refine⟨.aj (by first|rfl|exact bg _ r2 _) rfl,?_⟩);refine DD ?_;refine⟨.aj (by first|rfl|exact bg _ r2 _) rfl,?_⟩;refine DD ?_;(iterate 2 refine⟨.aj (by first|rfl|exact bg _ r2 _) rfl,?_⟩);(iterate 3 refine⟨.ai (by first|rfl|exact bg _ r2 _),?_⟩);refine⟨.aj (by first|rfl|exact bg _ r2 _) rfl,?_⟩;refine DD ?_;(iterate 2 refine⟨.bz (by first|rfl|exact bg _ r2 _),?_⟩);exact trivial;refine HW ?_;(iterate 3 refine⟨.row rfl,?_⟩);refine HW ?_;(iterate 2 refine⟨.row rfl,?_⟩);refine HW ?_;(iterate 2 refine⟨.row rfl,?_⟩);exact trivial)) rfl⟩
  ·obtain rfl:k=0:=by simpa using h
   obtain⟨rfl,rfl⟩:=i0 rfl
   rw[fD.1 rfl]
   exact⟨v_,CD,rfl,rfl⟩
  ·obtain rfl:k=1:=by simpa using h
   obtain⟨h1,q1,rfl,rfl⟩:=i1 rfl
   rw[fD.2 rfl]
   exact⟨h1,v_,q1,CD,rfl,rfl⟩
 ·obtain rfl:k=2:=by omega
  obtain⟨h1,h2,q1,q2,rfl,rfl⟩:=i2 rfl
  (refine dH ?_;refine zs ?_;refine zd ?_;refine zo ?_;refine AW.fT rfl rfl ?_;refine vj ?_;refine dk ?_;refine e_ ?_)
  (apply bW (((h1,h2):Value×Value)) (⟨q1,q2⟩);((exact bD.one (.tmp rfl rfl)));((exact tn));((exact Q2));exact rfl)
end Go.Ab
/- The solver:a learned clause asserted,walked. -/
namespace Go.Ab
open Go Go.Proofs
open Nat (reduceAdd reduceSub)
set_option maxRecDepth 20000
set_option maxHeartbeats 8000000
section
variable {P:Program} {g:ar} {δ:DS} {Q:Exit→DS→Prop}
theorem AW.E5 (h:Stop (AW P g .ret Q δ)):AW P g .ret Q δ:=h
end
theorem Cn {l:List Int} (h:l.length=1) (h0:(0:Int).toNat<l.length):l=[l[(0:Int).toNat]]:=by
 match l,h with
 |[a],_=>rfl
theorem Gd {c:List Int} {m:Nat} (h2:2≤c.length) (h:1≤m) (hm:m<c.length):c0 ((c.set 1 c[m]).set m (c[1]'(by omega)))=c0 c∧c1 ((c.set 1 c[m]).set m (c[1]'(by omega)))=c[m]:=by
 match c,m,h,hm,h2 with
 |a::b::r,1,_,_,_=>exact⟨rfl,rfl⟩
 |a::b::r,k+2,_,hk,_=>exact⟨rfl,by simp [c1]⟩
theorem BP {D:List Int} (h:2≤D.length):D=c0 D::c1 D::D.drop 2:=by
 match D,h with
 |a::b::r,_=>rfl
theorem kd {l:List Int} {m:Nat} (h:1≤m) (hm:m<l.length):l[m]∈l.tail:=by
 match l,m,h,hm with
 |a::r,k+1,_,hk=>simp
theorem pK {u:SR} {l:List Int} {m:Nat} (h:∀p (hp:p<l.length) (hq:m<l.length),1≤p→p<l.length→aD u l[p]≤aD u l[m]) (hm:m<l.length):∀x∈l.tail,aD u x≤aD u l[m]:=fun x hx=>by
 obtain⟨i,hi,rfl⟩:=List.getElem_of_mem hx
 rw[List.length_tail] at hi
 rw[List.getElem_tail]
 exact h (i+1) (by omega) hm (by omega) (by omega)
def BW (u q:SR):Prop:=
 (∃p h,u.cl u.nc=[p]∧q=a6 {u with hc:=aB u.hc u.nc (.slice none 0 0),cl:=aB u.cl u.nc [],proof:=u.proof++ [u.cl u.nc]} p (-1) h)∨
 ∃l' h1 h2 h,2≤(u.cl u.nc).length∧fz (u.cl u.nc) l'∧c0 l'=c0 (u.cl u.nc)∧c1 l'∈(u.cl u.nc).tail∧(∀x∈(u.cl u.nc).tail,aD u x≤aD u (c1 l'))∧q=a6 (dU (dU {u with nc:=u.nc+1,cl:=aB u.cl u.nc l',proof:=u.proof++ [u.cl u.nc]} (c0 l') u.nc h1) (c1 l') u.nc h2) (c0 l') u.nc h
attribute [local irreducible] bK AW aa bM a8 AR bm a_ bs bT fm fw al
theorem yO (n:Nat) (u:SR) (hn:n≤20000) (hl:0<(u.cl u.nc).length) (eC:(u.cl u.nc).length≤1000000) (jC:∀x∈u.cl u.nc,Lit n x) (dt:(u.cl u.nc).Nodup) (hv:u.value.length=n+1) (lL:u.level.length=n+1) (hr:u.reason.length=n+1) (Ao:(u.ll 0).length≤1000000) (hm:u.marks.length≤1000000) (hp:u.proof.length≤1000000) (sC:u.nc≤1000000) (vp:u.nw=2*n+2) (p8:∀x,Lit n x→(u.wl (al x).toNat).length≤1000000):
  nf Try.prog 41 11 (cd u) [.ptr 0 0,.pv (.lit (u.hc u.nc))] (fun q:SR=>BW u q) (fun q=>cd q) (fun _=> .tup []):=by
 have ir:=Af u eC hp hl
 have hz0:(0:Int).toNat<(u.cl u.nc).length:=show 0<_ by omega
 have hx0:=jC _ (List.getElem_mem hz0)
 obtain⟨_,_,_⟩:=hx0
 by_cases h1:(u.cl u.nc).length=1
 ·have Dd:=kA {u with proof:=u.proof++ [u.cl u.nc]} (u.cl u.nc)[(0:Int).toNat] (-1) (by omega) (by show _<(u.value.length:Int)∧_<(u.value.length:Int);omega) (by show u.level.length=u.value.length;omega) (by show u.reason.length=u.value.length;omega) Ao hm
  simp only[cd,cg] at ir Dd ⊢
  refine nf.enter (n:=87) Try.func41 rfl rfl rfl rfl rfl (by decide) rfl (fun _=>rfl) fun g aY aW=>?_;refine mL ?_
  (refine qI ?_;refine zm ?_;refine zX (ir) ?_;refine fE ?_;refine zd ?_;refine im ?_;refine aa.ig 7 rfl rfl rfl rfl rfl ?_;refine Cw ?_;refine zo ?_;refine Gw ?_;show aa .held _ _ _ [_,_,_,_,_] _ _;refine ly ?_;(with_reducible apply aa.aA 7);(iterate 8 exact rfl);(first|(with_reducible assumption)|omega|(simp only[ab,List.length_set];omega));(first|(with_reducible assumption)|omega|(simp only[ab,List.length_set];omega));refine Q4 ?_;intro k_ cI;refine xj ?_;intro g_ ag bq;(focus ((with_reducible apply aa.ax 7);(iterate 5 exact rfl);(focus (intro h_;cases h_;done));rotate_left;(first|(with_reducible assumption)|omega|(simp only[ab,List.length_set];omega))));refine p9 ?_;intro g_ ag aH;(with_reducible apply aa.dZ (hf:=Dd));(with_reducible assumption);(iterate 3 exact rfl);(repeat (first|exact trivial|refine⟨rfl,?_⟩));(repeat (first|exact .nil|(refine .cons ?_ ?_;(first|exact .eq rfl rfl|exact .nil _|exact .any _))));(intro x_;exact rfl);exact rfl;(repeat (first|exact trivial|refine⟨rfl,?_⟩|refine⟨aI,?_⟩));(intro x_;(repeat (first|exact trivial|refine⟨rfl,?_⟩|refine⟨aI,?_⟩)));(intro x_;exact rfl);exact rfl;(intro x_ jQ);refine fE ?_;refine pL ?_;refine AW.E5 ?_)
  refine Stop.go ?_
  refine AW.CF 7 u.nc rfl ?_
  (try (conv=>rhs;simp only[Nf.cG,Nf.all,Nat.reduceBEq,reduceAdd,reduceSub]))
  have e1:=Cn h1 hz0
  (refine AW.ret ?_;refine cO ?_)
  (apply bW ((a6 {u with hc:=aB u.hc u.nc (.slice none 0 0),cl:=aB u.cl u.nc [],proof:=u.proof++ [u.cl u.nc]} (u.cl u.nc)[(0:Int).toNat] (-1) x_:SR)) ((.inl ⟨(u.cl u.nc)[(0:Int).toNat],x_,e1,rfl⟩));((exact bD.none));((exact lR));((exact A3));exact rfl)
 ·have h2:2≤(u.cl u.nc).length:=by omega
  have hz1:(1:Int).toNat<(u.cl u.nc).length:=show 1<_ by omega
  simp only[cd,cg] at ir ⊢
  refine nf.enter (n:=87) Try.func41 rfl rfl rfl rfl rfl (by decide) rfl (fun _=>rfl) fun g aY aW=>?_;refine mL ?_
  (refine qI ?_;refine zm ?_;refine zX (ir) ?_;refine fE ?_;refine zd ?_;refine im ?_;refine aa.ig 7 rfl rfl rfl rfl rfl ?_;refine wx ?_;refine dH ?_;refine jX ?_;refine dk ?_;refine aa.ig 7 rfl rfl rfl rfl rfl ?_;refine zm ?_;refine pT ?_)
  (refine Q0 ?_;apply AW.ck [20,0,1,1000] [0,1,2,3,4,5,6,7,8,9,10] (fun q:Nat×Nat=>([(4,aw (q.1:Nat)),(21,aw (q.2:Nat))]:List (Nat×AV))) (fun q:Nat×Nat=>([]:List (Nat×Option Ob))) (fun q:Nat×Nat=>(1≤q.1∧q.1<(u.cl u.nc).length∧q.2≤(u.cl u.nc).length∧∀p (hp:p<(u.cl u.nc).length) (hq:q.1<(u.cl u.nc).length),1≤p→p<q.2→aD u (u.cl u.nc)[p]≤aD u (u.cl u.nc)[q.1])) (fun q:Nat×Nat=>(u.cl u.nc).length - q.2) (((1,0):Nat×Nat));(conv=>lhs;simp only[Nf.jJ,Nf.all,Nat.reduceBEq,reduceAdd,reduceSub]);(all_goals skip))
  ·exact⟨Nat.le_refl _,h2,Nat.zero_le _,fun p _ _ q1 q2=>by omega⟩
  ·exact aN rfl (by(refine⟨.ai (by rfl),?_⟩;(iterate 2 refine⟨.ai (by rfl),?_⟩);refine⟨.eq rfl rfl,?_⟩;refine⟨.ai (by rfl),?_⟩;refine⟨.eq rfl rfl,?_⟩;exact trivial)) (by(refine⟨.box _ rfl ?_,?_⟩;(iterate 3 refine⟨.aj (by rfl) rfl,?_⟩);refine⟨.ai (by rfl),?_⟩;refine⟨.aj (by rfl) rfl,?_⟩;refine⟨.ai (by rfl),?_⟩;(iterate 2 refine⟨.aj (by rfl) rfl,?_⟩);(iterate 3 refine⟨.ai (by rfl),?_⟩);refine⟨.aj (by rfl) rfl,?_⟩;refine⟨.ai (by rfl),?_⟩;(iterate 2 refine⟨.bz (by rfl),?_⟩);exact trivial;(iterate 3 refine⟨.row rfl,?_⟩);refine⟨.pool rfl (by rfl),?_⟩;(iterate 2 refine⟨.row rfl,?_⟩);refine⟨.pool rfl (by rfl),?_⟩;refine⟨.row rfl,?_⟩;refine⟨.pool rfl (by rfl),?_⟩;refine⟨.row rfl,?_⟩;exact trivial)) rfl
  rintro⟨m,i⟩ ⟨hm1,hm2,hi,iD⟩
  simp only at hm1 hm2 hi iD
  by_cases aP:i<(u.cl u.nc).length
  ·have oK:(i:Int).toNat<(u.cl u.nc).length:=by omega
   have rE:(m:Int).toNat<(u.cl u.nc).length:=by omega
   obtain⟨a1,a2,a3⟩:=jC _ (List.getElem_mem oK)
   obtain⟨b1,b2,b3⟩:=jC _ (List.getElem_mem rE)
   have hv0:0≤max (u.cl u.nc)[(i:Int).toNat] (-(u.cl u.nc)[(i:Int).toNat]):=by omega
   have hv1:(max (u.cl u.nc)[(i:Int).toNat] (-(u.cl u.nc)[(i:Int).toNat])).toNat<u.level.length:=by omega
   have hw0:0≤max (u.cl u.nc)[(m:Int).toNat] (-(u.cl u.nc)[(m:Int).toNat]):=by omega
   have hw1:(max (u.cl u.nc)[(m:Int).toNat] (-(u.cl u.nc)[(m:Int).toNat])).toNat<u.level.length:=by omega
   have g1:aD u (u.cl u.nc)[i]=u.level[(max (u.cl u.nc)[(i:Int).toNat] (-(u.cl u.nc)[(i:Int).toNat])).toNat]:=aQ hv1
   have g2:aD u (u.cl u.nc)[m]=u.level[(max (u.cl u.nc)[(m:Int).toNat] (-(u.cl u.nc)[(m:Int).toNat])).toNat]:=aQ hw1
   have Fx:¬(1≤i∧aD u (u.cl u.nc)[m]<aD u (u.cl u.nc)[i])→∀p (hp:p<(u.cl u.nc).length) (hq:m<(u.cl u.nc).length),1≤p→p<i+1→aD u (u.cl u.nc)[p]≤aD u (u.cl u.nc)[m]:=fun gB p hp hq q1 q2=>by
    by_cases e:p=i
    ·subst e
     apply Int.not_lt.1
     exact fun hh=>gB ⟨q1,hh⟩
    ·exact iD p hp hq q1 (by omega)
   by_cases dA:0<i
   ·have hi0':decide ((i:Int)>0)=true:=by simpa using dA
    by_cases On:u.level[(max (u.cl u.nc)[(m:Int).toNat] (-(u.cl u.nc)[(m:Int).toNat])).toNat]<u.level[(max (u.cl u.nc)[(i:Int).toNat] (-(u.cl u.nc)[(i:Int).toNat])).toNat]
    ·have pf:∀p (hp:p<(u.cl u.nc).length) (hq:i<(u.cl u.nc).length),1≤p→p<i+1→aD u (u.cl u.nc)[p]≤aD u (u.cl u.nc)[i]:=fun p hp hq q1 q2=>by
      by_cases e:p=i
      ·subst e;exact Int.le_refl _
      ·have:=iD p hp hm2 q1 (by omega)
       omega
     (refine j6 ?_;refine zm ?_;refine jX ?_;(with_reducible apply AW.bn);exact rfl;exact rfl;kernel_rfl;(with_reducible assumption);refine zm ?_;refine yK ?_;refine EK ?_;refine zm ?_;refine od ?_;(with_reducible apply aa.aA 7);(iterate 8 exact rfl);(first|(with_reducible assumption)|omega|(simp only[ab,List.length_set];omega));(first|(with_reducible assumption)|omega|(simp only[ab,List.length_set];omega));refine zt ?_;(focus ((with_reducible apply aa.ax 7);(iterate 5 exact rfl);(focus (intro h_;cases h_;done));rotate_left;(first|(with_reducible assumption)|omega|(simp only[ab,List.length_set];omega))));refine od ?_;refine zm ?_;refine zt ?_;(with_reducible apply aa.aA 7);(iterate 8 exact rfl);(first|(with_reducible assumption)|omega|(simp only[ab,List.length_set];omega));(first|(with_reducible assumption)|omega|(simp only[ab,List.length_set];omega));refine zt ?_;(focus ((with_reducible apply aa.ax 7);(iterate 5 exact rfl);(focus (intro h_;cases h_;done));rotate_left;(first|(with_reducible assumption)|omega|(simp only[ab,List.length_set];omega))));refine EX ?_;(focus ((with_reducible apply aa.aC);(iterate 4 exact rfl);(focus (intro h_;cases h_;done));rotate_left;(first|omega|exact Nat.zero_lt_one|(simp;done))));refine EK ?_;refine zm ?_;refine od ?_;(with_reducible apply aa.aA 7);(iterate 8 exact rfl);(first|(with_reducible assumption)|omega|(simp only[ab,List.length_set];omega));(first|(with_reducible assumption)|omega|(simp only[ab,List.length_set];omega));refine zt ?_;(focus ((with_reducible apply aa.ax 7);(iterate 5 exact rfl);(focus (intro h_;cases h_;done));rotate_left;(first|(with_reducible assumption)|omega|(simp only[ab,List.length_set];omega))));refine od ?_;refine zm ?_;refine zt ?_;(with_reducible apply aa.aA 7);(iterate 8 exact rfl);(first|(with_reducible assumption)|omega|(simp only[ab,List.length_set];omega));(first|(with_reducible assumption)|omega|(simp only[ab,List.length_set];omega));refine zt ?_;(focus ((with_reducible apply aa.ax 7);(iterate 5 exact rfl);(focus (intro h_;cases h_;done));rotate_left;(first|(with_reducible assumption)|omega|(simp only[ab,List.length_set];omega))));refine EX ?_;(focus ((with_reducible apply aa.aC);(iterate 4 exact rfl);(focus (intro h_;cases h_;done));rotate_left;(first|omega|exact Nat.zero_lt_one|(simp;done))));refine zt ?_;refine aa.gtr rfl rfl rfl rfl rfl ?_;refine zT ?_;refine gG ?_;refine kM ?_;refine zm ?_;refine za ?_;refine aa.nil ?_;refine yu ?_;refine lx ?_)
     exact⟨((i,i+1):Nat×Nat),⟨dA,aP,aP,pf⟩,by show(u.cl u.nc).length - (i+1)<(u.cl u.nc).length - i;omega,aN rfl (by(refine⟨.ai (by rfl),?_⟩;(iterate 2 refine⟨.ai (by rfl),?_⟩);refine⟨.eq rfl rfl,?_⟩;refine⟨.ai (by rfl),?_⟩;refine⟨.eq rfl rfl,?_⟩;exact trivial)) (by(refine⟨.box _ rfl ?_,?_⟩;(iterate 3 refine⟨.aj (by rfl) rfl,?_⟩);refine⟨.ai (by rfl),?_⟩;refine⟨.aj (by rfl) rfl,?_⟩;refine⟨.ai (by rfl),?_⟩;(iterate 2 refine⟨.aj (by rfl) rfl,?_⟩);(iterate 3 refine⟨.ai (by rfl),?_⟩);refine⟨.aj (by rfl) rfl,?_⟩;refine⟨.ai (by rfl),?_⟩;(iterate 2 refine⟨.bz (by rfl),?_⟩);exact trivial;(iterate 3 refine⟨.row rfl,?_⟩);refine⟨.pool rfl (by rfl),?_⟩;(iterate 2 refine⟨.row rfl,?_⟩);refine⟨.pool rfl (by rfl),?_⟩;refine⟨.row rfl,?_⟩;refine⟨.pool rfl (by rfl),?_⟩;refine⟨.row rfl,?_⟩;exact trivial)) rfl⟩
    ·have dp:=Fx (fun q=>On (by rw[← g1,← g2];exact q.2))
     (refine j6 ?_;refine zm ?_;refine jX ?_;(with_reducible apply AW.bn);exact rfl;exact rfl;kernel_rfl;(with_reducible assumption);refine zm ?_;refine yK ?_;refine EK ?_;refine zm ?_;refine od ?_;(with_reducible apply aa.aA 7);(iterate 8 exact rfl);(first|(with_reducible assumption)|omega|(simp only[ab,List.length_set];omega));(first|(with_reducible assumption)|omega|(simp only[ab,List.length_set];omega));refine zt ?_;(focus ((with_reducible apply aa.ax 7);(iterate 5 exact rfl);(focus (intro h_;cases h_;done));rotate_left;(first|(with_reducible assumption)|omega|(simp only[ab,List.length_set];omega))));refine od ?_;refine zm ?_;refine zt ?_;(with_reducible apply aa.aA 7);(iterate 8 exact rfl);(first|(with_reducible assumption)|omega|(simp only[ab,List.length_set];omega));(first|(with_reducible assumption)|omega|(simp only[ab,List.length_set];omega));refine zt ?_;(focus ((with_reducible apply aa.ax 7);(iterate 5 exact rfl);(focus (intro h_;cases h_;done));rotate_left;(first|(with_reducible assumption)|omega|(simp only[ab,List.length_set];omega))));refine EX ?_;(focus ((with_reducible apply aa.aC);(iterate 4 exact rfl);(focus (intro h_;cases h_;done));rotate_left;(first|omega|exact Nat.zero_lt_one|(simp;done))));refine EK ?_;refine zm ?_;refine od ?_;(with_reducible apply aa.aA 7);(iterate 8 exact rfl);(first|(with_reducible assumption)|omega|(simp only[ab,List.length_set];omega));(first|(with_reducible assumption)|omega|(simp only[ab,List.length_set];omega));refine zt ?_;(focus ((with_reducible apply aa.ax 7);(iterate 5 exact rfl);(focus (intro h_;cases h_;done));rotate_left;(first|(with_reducible assumption)|omega|(simp only[ab,List.length_set];omega))));refine od ?_;refine zm ?_;refine zt ?_;(with_reducible apply aa.aA 7);(iterate 8 exact rfl);(first|(with_reducible assumption)|omega|(simp only[ab,List.length_set];omega));(first|(with_reducible assumption)|omega|(simp only[ab,List.length_set];omega));refine zt ?_;(focus ((with_reducible apply aa.ax 7);(iterate 5 exact rfl);(focus (intro h_;cases h_;done));rotate_left;(first|(with_reducible assumption)|omega|(simp only[ab,List.length_set];omega))));refine EX ?_;(focus ((with_reducible apply aa.aC);(iterate 4 exact rfl);(focus (intro h_;cases h_;done));rotate_left;(first|omega|exact Nat.zero_lt_one|(simp;done))));refine zt ?_;refine aa.gtr rfl rfl rfl rfl rfl ?_;refine zT ?_;refine zd ?_;refine zk ?_;refine lN ?_;refine lx ?_)
     exact OP
   ·have hi0':decide ((i:Int)>0)=false:=by simpa using dA
    have dp:=Fx (fun q=>by omega)
    (refine j6 ?_;refine zm ?_;refine jX ?_;(with_reducible apply AW.bn);exact rfl;exact rfl;kernel_rfl;(with_reducible assumption);refine zm ?_;refine yK ?_;(iterate 35 refine aa.jn rfl rfl rfl rfl rfl rfl (by first|omega|decide) ?_);refine zF ?_;refine oz ?_;refine lx ?_)
    exact OP
  ·obtain rfl:i=(u.cl u.nc).length:=by omega
   have rE:(m:Int).toNat<(u.cl u.nc).length:=by omega
   obtain⟨D,hD⟩:∃D,D=((u.cl u.nc).set (1:Int).toNat (u.cl u.nc)[(m:Int).toNat]).set (m:Int).toNat (u.cl u.nc)[(1:Int).toNat]:=⟨_,rfl⟩
   have hS2:(m:Int).toNat<(aB u.cl u.nc ((u.cl u.nc).set (1:Int).toNat (u.cl u.nc)[(m:Int).toNat]) u.nc).length:=by rw[ab,List.length_set];exact rE
   obtain⟨d0,d1⟩:=Gd h2 hm1 hm2
   have hDe:D=((u.cl u.nc).set 1 (u.cl u.nc)[m]).set m ((u.cl u.nc)[1]'(by omega)):=hD
   have hDp:fz (u.cl u.nc) D:=by rw[hDe];exact jm (i:=1) (k:=m) (by omega) hm2
   rw[← hDe] at d0 d1
   have hDl:2≤D.length:=by rw[hDp.len];exact h2
   have hz0D:(0:Int).toNat<(aB u.cl u.nc D u.nc).length:=by rw[ab];show 0<_;omega
   have Iq:(aB u.cl u.nc D u.nc)[(0:Int).toNat]=c0 D:=by
    have:∀(L:List Int) (hL:(0:Int).toNat<L.length),L=D→L[(0:Int).toNat]=c0 D:=fun L hL e=>by subst e;exact(aQ hL).symm
    exact this _ hz0D (ab _ _ _)
   have m0:Lit n (c0 D):=jC _ ((hDp.mem _).1 (dW hDl).1)
   have m1:Lit n (c1 D):=jC _ ((hDp.mem _).1 (dW hDl).2)
   have br:c0 D≠c1 D:=fun e=>by
    rw[show c0 D=D[0] from aQ (by omega),show c1 D=D[1] from aQ (by omega)] at e
    have:=(List.getElem_inj (hDp.nd dt) (h₀:=by omega) (h₁:=by omega)).1 e
    omega
   have Nk:=p8 _ m0
   have Mk:=p8 _ m1
   have i0:=da m0
   have i1:=da m1
   have xT:(D.drop 2).length≤1000000:=by rw[List.length_drop,hDp.len];omega
   obtain⟨_,_,_⟩:=m0
   obtain⟨_,_,_⟩:=m1
   have oq:=pC {u with cl:=aB u.cl u.nc D,proof:=u.proof++ [u.cl u.nc]} (c0 D) (c1 D) (D.drop 2) (by show aB u.cl u.nc D u.nc=_;rw[ab];exact BP hDl) (fun e=>br (cA (n:=n) ⟨by omega,by omega,by omega⟩ ⟨by omega,by omega,by omega⟩ (by rw[e]))) (by show 0≤al (c0 D)∧_<u.nw;omega) (by show 0≤al (c1 D)∧_<u.nw;omega) (by omega) (by omega) sC Nk Mk (by show u.nw≤_;omega) xT
   have Dd:=fun h1 h2:Value=>kA (dU (dU {u with nc:=u.nc+1,cl:=aB u.cl u.nc D,proof:=u.proof++ [u.cl u.nc]} (c0 D) u.nc h1) (c1 D) u.nc h2) (aB u.cl u.nc D u.nc)[(0:Int).toNat] (u.nc:Nat) (by rw[Iq];omega) (by rw[Iq];show _<(u.value.length:Int)∧_<(u.value.length:Int);omega) (by show u.level.length=u.value.length;omega) (by show u.reason.length=u.value.length;omega) Ao hm
   simp only[cd,cg,dU] at oq Dd
   (refine dH ?_;refine xB ?_;refine zo ?_;refine AW.bE [0,3,4,5,7,8] [11] rfl (by assumption) (by kernel_rfl) (by kernel_rfl) rfl ?_;show aa .held _ _ _ [_,_,_,_,_,_] _ _;(iterate 3 refine zm ?_);(with_reducible apply aa.aA 7);(iterate 8 exact rfl);(first|(with_reducible assumption)|omega|(simp only[ab,List.length_set];omega));(first|(with_reducible assumption)|omega|(simp only[ab,List.length_set];omega));refine zm ?_;(with_reducible apply aa.aA 7);(iterate 8 exact rfl);(first|(with_reducible assumption)|omega|(simp only[ab,List.length_set];omega));(first|(with_reducible assumption)|omega|(simp only[ab,List.length_set];omega));refine Q4 ?_;intro k_ cI;refine Q0 ?_;(refine AR.free 1 (by kernel_rfl) rfl rfl rfl (by first|exact bh.a7 rfl rfl|exact bh.cK rfl rfl|exact bh.nilCheck rfl rfl) ?_);(refine AR.free 2 (by kernel_rfl) rfl rfl rfl (by first|exact bh.a7 rfl rfl|exact bh.cK rfl rfl|exact bh.nilCheck rfl rfl) ?_);apply AR.cut [2,1,8,7,5,4,3,0,6,9];intro iq;(refine AR.bR (i:=6) (j:=9) rfl (by kernel_rfl) rfl rfl ?_ ?_<;>intro g_ ag bq);(focus ((with_reducible apply aa.ax 7);(iterate 5 exact rfl);(focus (intro h_;cases h_;done));rotate_left;(first|(with_reducible assumption)|omega|(simp only[ab,List.length_set];omega))));refine D6 ?_;intro g_ ag bq;(focus ((with_reducible apply aa.ax 7);(iterate 5 exact rfl);(focus (intro h_;cases h_;done));rotate_left;(first|(with_reducible assumption)|omega|(simp only[ab,List.length_set];omega))));refine Q4 ?_;(try (conv=>rhs;simp only[Nf.cG,Nf.all,Nat.reduceBEq,reduceAdd,reduceSub]));exact ph;(focus ((with_reducible apply aa.ax 7);(iterate 5 exact rfl);(focus (intro h_;cases h_;done));rotate_left;(first|(with_reducible assumption)|omega|(simp only[ab,List.length_set];omega))));refine Q4 ?_;refine AR.aS (i:=6) rfl (by kernel_rfl) rfl ?_;intro g_ ag bq;(focus ((with_reducible apply aa.ax 7);(iterate 5 exact rfl);(focus (intro h_;cases h_;done));rotate_left;(first|(with_reducible assumption)|omega|(simp only[ab,List.length_set];omega))));refine Q4 ?_;(try (conv=>rhs;simp only[Nf.cG,Nf.all,Nat.reduceBEq,reduceAdd,reduceSub]));refine AR.meet iq (by kernel_rfl) (fun g_=>aN rfl ?_ ?_ rfl);(iterate 17 refine⟨.eq rfl rfl,?_⟩);exact trivial;exact F7;refine Em ?_;intro g_ ag;show aa .held _ _ _ [_] _ _;(with_reducible apply aa.aA 7);(iterate 8 exact rfl);(first|(with_reducible assumption)|omega|(simp only[ab,List.length_set];omega));(first|(with_reducible assumption)|omega|(simp only[ab,List.length_set];omega));refine Q4 ?_;intro k_ cI;refine Q0 ?_;refine u7 ?_;intro g_ ag aH;(with_reducible apply aa.eU 7);(iterate 7 exact rfl);(first|(with_reducible assumption)|omega|(simp only[ab,List.length_set];omega));refine dX ?_;refine mA ?_;intro g_ ag aH;(with_reducible apply aa.aA 7);(iterate 8 exact rfl);(first|(with_reducible assumption)|omega|(simp only[ab,List.length_set];omega));(first|(with_reducible assumption)|omega|(simp only[ab,List.length_set];omega));refine Q4 ?_;refine qX ?_;intro g_ ag aH;(with_reducible apply aa.eU 7);(iterate 7 exact rfl);(first|(with_reducible assumption)|omega|(simp only[ab,List.length_set];omega));refine l5 ?_;(with_reducible apply AW.atR 11);(rw[dB]);(rw[ab]);(rw[← hD]);refine AW.FY 11 ?_)
   refine Stop.go ?_
   have Ox:True:=trivial
   (refine AW.bE [6,7] [8] rfl (by assumption) (by kernel_rfl) (by kernel_rfl) rfl ?_;show aa .held _ _ _ [_,_] _ _;refine zp ?_;refine Q4 ?_;intro k_ cI;refine Q0 ?_;(refine AR.free 0 (by kernel_rfl) rfl rfl rfl (by first|exact bh.a7 rfl rfl|exact bh.cK rfl rfl|exact bh.nilCheck rfl rfl) ?_);(refine AR.free 1 (by kernel_rfl) rfl rfl rfl (by first|exact bh.a7 rfl rfl|exact bh.cK rfl rfl|exact bh.nilCheck rfl rfl) ?_);refine AR.free 2 (by kernel_rfl) rfl rfl rfl (bh.fieldAddr _ _ 0 rfl rfl rfl) ?_;(try (conv=>rhs;simp only[Nf.cG,Nf.all,Nat.reduceBEq,reduceAdd,reduceSub]));(refine AR.free 3 (by kernel_rfl) rfl rfl rfl (by first|exact bh.a7 rfl rfl|exact bh.cK rfl rfl|exact bh.nilCheck rfl rfl) ?_);(refine AR.sG (i:=4) (j:=8) rfl (by kernel_rfl) rfl rfl (by kernel_rfl) ?_ ?_<;>intro g_ ag aH);(with_reducible apply aa.aA 7);(iterate 8 exact rfl);(first|(with_reducible assumption)|omega|(simp only[ab,List.length_set];omega));(first|(with_reducible assumption)|omega|(simp only[ab,List.length_set];omega));refine Q4 ?_;(refine AR.sG (i:=5) (j:=8) rfl (by kernel_rfl) rfl rfl (by kernel_rfl) ?_ ?_<;>intro g_ ag aH);(focus ((with_reducible apply aa.ax 7);(iterate 5 exact rfl);(focus (intro h_;cases h_;done));rotate_left;(first|(with_reducible assumption)|omega|(simp only[ab,List.length_set];omega))));refine Q4 ?_;refine yt ?_;intro g_ ag aH;(with_reducible apply aa.dZ (hf:=oq));(with_reducible assumption);(iterate 3 exact rfl);(repeat (first|exact trivial|refine⟨rfl,?_⟩));(repeat (first|exact .nil|(refine .cons ?_ ?_;(first|exact .eq rfl rfl|exact .nil _|exact .any _))));(intro x_;exact rfl);exact rfl;(repeat (first|exact trivial|refine⟨rfl,?_⟩|refine⟨aI,?_⟩));(intro x_;(repeat (first|exact trivial|refine⟨rfl,?_⟩|refine⟨aI,?_⟩)));(intro x_;exact rfl);exact rfl;(intro x_ jQ);refine fE ?_;refine Q4 ?_;refine A4 ?_;intro g_ ag aH;(with_reducible apply aa.dZ (hf:=(Dd _ _)));(with_reducible assumption);(iterate 3 exact rfl);(repeat (first|exact trivial|refine⟨rfl,?_⟩));(repeat (first|exact .nil|(refine .cons ?_ ?_;(first|exact .eq rfl rfl|exact .nil _|exact .any _))));(intro x_;exact rfl);exact rfl;(repeat (first|exact trivial|refine⟨rfl,?_⟩|refine⟨aI,?_⟩));(intro x_;(repeat (first|exact trivial|refine⟨rfl,?_⟩|refine⟨aI,?_⟩)));(intro x_;exact rfl);exact rfl;(intro x_ jQ);refine fE ?_;refine xt ?_;(all_goals skip);rotate_left;(with_reducible apply aa.dZ (hf:=oq));(with_reducible assumption);(iterate 3 exact rfl);(repeat (first|exact trivial|refine⟨rfl,?_⟩));(repeat (first|exact .nil|(refine .cons ?_ ?_;(first|exact .eq rfl rfl|exact .nil _|exact .any _))));(intro x_;exact rfl);exact rfl;(repeat (first|exact trivial|refine⟨rfl,?_⟩|refine⟨aI,?_⟩));(intro x_;(repeat (first|exact trivial|refine⟨rfl,?_⟩|refine⟨aI,?_⟩)));(intro x_;exact rfl);exact rfl;(intro x_ jQ);refine fE ?_;refine Q4 ?_;refine AR.cX (i:=5) rfl (by kernel_rfl) rfl (by kernel_rfl) ?_;intro g_ ag aH;(focus ((with_reducible apply aa.ax 7);(iterate 5 exact rfl);(focus (intro h_;cases h_;done));rotate_left;(first|(with_reducible assumption)|omega|(simp only[ab,List.length_set];omega))));refine Q4 ?_;refine A4 ?_;intro g_ ag aH;(with_reducible apply aa.dZ (hf:=(Dd _ _)));(with_reducible assumption);(iterate 3 exact rfl);(repeat (first|exact trivial|refine⟨rfl,?_⟩));(repeat (first|exact .nil|(refine .cons ?_ ?_;(first|exact .eq rfl rfl|exact .nil _|exact .any _))));(intro x_;exact rfl);exact rfl;(repeat (first|exact trivial|refine⟨rfl,?_⟩|refine⟨aI,?_⟩));(intro x_;(repeat (first|exact trivial|refine⟨rfl,?_⟩|refine⟨aI,?_⟩)));(intro x_;exact rfl);exact rfl;(intro x_ jQ);refine fE ?_;refine xt ?_;(all_goals skip);rotate_left;(with_reducible apply aa.dZ (hf:=oq));(with_reducible assumption);(iterate 3 exact rfl);(repeat (first|exact trivial|refine⟨rfl,?_⟩));(repeat (first|exact .nil|(refine .cons ?_ ?_;(first|exact .eq rfl rfl|exact .nil _|exact .any _))));(intro x_;exact rfl);exact rfl;(repeat (first|exact trivial|refine⟨rfl,?_⟩|refine⟨aI,?_⟩));(intro x_;(repeat (first|exact trivial|refine⟨rfl,?_⟩|refine⟨aI,?_⟩)));(intro x_;exact rfl);exact rfl;(intro x_ jQ);refine fE ?_;refine Q4 ?_;refine Ei ?_;intro g_ ag aH;(with_reducible apply aa.aA 7);(iterate 8 exact rfl);(first|(with_reducible assumption)|omega|(simp only[ab,List.length_set];omega));(first|(with_reducible assumption)|omega|(simp only[ab,List.length_set];omega));refine Q4 ?_;refine AR.cX (i:=5) rfl (by kernel_rfl) rfl (by kernel_rfl) ?_;intro g_ ag aH;(focus ((with_reducible apply aa.ax 7);(iterate 5 exact rfl);(focus (intro h_;cases h_;done));rotate_left;(first|(with_reducible assumption)|omega|(simp only[ab,List.length_set];omega))));refine Q4 ?_;refine A4 ?_;intro g_ ag aH;(with_reducible apply aa.dZ (hf:=(Dd _ _)));(with_reducible assumption);(iterate 3 exact rfl);(repeat (first|exact trivial|refine⟨rfl,?_⟩));(repeat (first|exact .nil|(refine .cons ?_ ?_;(first|exact .eq rfl rfl|exact .nil _|exact .any _))));(intro x_;exact rfl);exact rfl;(repeat (first|exact trivial|refine⟨rfl,?_⟩|refine⟨aI,?_⟩));(intro x_;(repeat (first|exact trivial|refine⟨rfl,?_⟩|refine⟨aI,?_⟩)));(intro x_;exact rfl);exact rfl;(intro x_ jQ);refine fE ?_;refine xt ?_;(all_goals skip);rotate_left)
   ·(apply gI ((a6 (dU (dU {u with nc:=u.nc+1,cl:=aB u.cl u.nc D,proof:=u.proof++ [u.cl u.nc]} (c0 D) u.nc ‹Value×Value›.1) (c1 D) u.nc ‹Value×Value›.2) (aB u.cl u.nc D u.nc)[(0:Int).toNat] (u.nc:Nat) x_:SR)) ((.inr ⟨D,‹Value×Value›.1,‹Value×Value›.2,x_,h2,hDp,d0,by rw[d1];exact kd hm1 hm2,fun x hx=>by rw[d1];exact pK iD hm2 x hx,by rw[Iq]⟩));((exact bD.none));((exact lR));((exact A3));exact rfl)
   ·(apply gI ((a6 (dU (dU {u with nc:=u.nc+1,cl:=aB u.cl u.nc D,proof:=u.proof++ [u.cl u.nc]} (c0 D) u.nc ‹Value×Value›.1) (c1 D) u.nc ‹Value×Value›.2) (aB u.cl u.nc D u.nc)[(0:Int).toNat] (u.nc:Nat) x_:SR)) ((.inr ⟨D,‹Value×Value›.1,‹Value×Value›.2,x_,h2,hDp,d0,by rw[d1];exact kd hm1 hm2,fun x hx=>by rw[d1];exact pK iD hm2 x hx,by rw[Iq]⟩));((exact bD.none));((exact lR));((exact A3));exact rfl)
   ·(apply gI ((a6 (dU (dU {u with nc:=u.nc+1,cl:=aB u.cl u.nc D,proof:=u.proof++ [u.cl u.nc]} (c0 D) u.nc ‹Value×Value›.1) (c1 D) u.nc ‹Value×Value›.2) (aB u.cl u.nc D u.nc)[(0:Int).toNat] (u.nc:Nat) x_:SR)) ((.inr ⟨D,‹Value×Value›.1,‹Value×Value›.2,x_,h2,hDp,d0,by rw[d1];exact kd hm1 hm2,fun x hx=>by rw[d1];exact pK iD hm2 x hx,by rw[Iq]⟩));((exact bD.none));((exact lR));((exact A3));exact rfl)
end Go.Ab
