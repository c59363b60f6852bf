/- The solver: the conflict analysis, walked. -/
import Derived.Test.YtigjjjpcjnifhaaGreatAuS7
import Derived.Test.YtigjjjpcjnifhaaGreatAbZ
import Derived.Test.YtigjjjpcjnifhaaGreatAbL3
import Derived.Test.YtigjjjpcjnifhaaGreatAuA2
set_option linter.unusedSimpArgs false
set_option linter.unusedVariables false
namespace Go.Ab
open Go Go.Proofs
open Nat (reduceAdd reduceSub)
set_option maxRecDepth 20000
set_option maxHeartbeats 8000000
structure AQ where
 sl:List Bool
 rest:List Int
 op:Nat
 to:Int
 k:Nat
 piv:Int
 j:Nat
theorem cX (n:Nat) (h:Nat→Value) (v:Value):bO n h=bO n (aC h n v):=by
 unfold bO
 apply List.map_congr_left
 intro k hk
 rw[aQ _ _ (by have:=List.mem_range.1 hk;omega)]
attribute [local irreducible] bO AW aa bE aX AR bd aW bm bD fy fI
theorem wo (n:Nat) (s:SR) (hs:br n s) (j0:Nat) (hj0:j0<s.nc) (hf:∀x∈s.cl j0,-x∈s.ll 0) (hm:0<s.marks.length) (Ts:s.marks.length≤1000000):n8 Tryz.prog 61 11 (cu s) [.ptr 0 0,al (j0:Nat)] (fun q:Value×List Int×Int=>q.1.oneCell'=true∧mz n s j0 q.2.1 q.2.2) (fun q=>cu {s with hc:=aC s.hc s.nc q.1,cl:=aC s.cl s.nc q.2.1}) (fun q=> .tup [.pv (.lit q.1),al q.2.2]):=by
 have nb:=hs.hn
 have eN:=hs.trl.len
 have tL:=hs.nc
 have M3:=hs.rsn
 have HP:=hs.lvl
 have v8:s.value.length=n+1:=by rw[hs.val,eC]
 have Dr:List.replicate ((s.value.length:Nat):Int).toNat [PV.lit (.bool false)]=(List.replicate (n+1) false).map hX:=by rw[Int.toNat_natCast,v8];exact HA (n+1)
 have Nr:=fz s.nc s.hc
 simp only[cu,cv]
 refine n8.enter (n:=155) Tryz.func61 rfl rfl rfl rfl rfl (by decide) rfl (fun _=>rfl) fun g aU aT=>?_;refine nk ?_
 (refine zq ?_;refine lx ?_;refine dZ ?_;refine rI ?_;refine pR ?_;refine aa.cy rfl rfl rfl rfl ?_;refine HX ?_;refine Q0 ?_;refine od ?_;(with_reducible apply AW.pg 2);(rw[Dr]);refine dZ ?_;(with_reducible apply aa.iD);(iterate 5 exact rfl);(first|exact rfl|assumption|exact dy _|exact dz _ _|exact dO _|exact dP _ _);exact rfl;exact rfl;refine Q0 ?_;refine od ?_;refine dZ ?_;refine lx ?_;refine dZ ?_;refine xl ?_;refine zN ?_;refine mP ?_;refine kn ?_)
 (refine Q0 ?_;apply AW.bM [0,1000] [12,11,0,1,2,3,4,5,6,7,8,9,10] (fun q:AQ=>([(1,al (q.j:Nat)),(6,.own 11 4 1 (q.sl.map hX)),(7,.own 12 3 1 ((0::q.rest).map encI)),(8,al (q.op:Nat)),(9,al q.to),(10,al (q.k:Nat)),(11,al q.piv)]:List (Nat×AV))) (fun q:AQ=>([]:List (Nat×Option Ob))) (fun q:AQ=>sk n s j0 q.sl q.rest q.op q.to q.k q.piv q.j) (fun q:AQ=>q.k) ((⟨List.replicate (n+1) false,[],0,0,(s.ll 0).length,0,j0⟩:AQ));(conv=>lhs;simp only[Nf.gQ,Nf.all,Nat.reduceBEq,reduceAdd,reduceSub]);(all_goals skip))
 ·exact .start hs hj0 hf
 ·exact aO rfl (by(refine⟨.ai (by rfl),?_⟩;(iterate 2 refine⟨.ak (by rfl) rfl,?_⟩);(iterate 4 refine⟨.ai (by rfl),?_⟩);(iterate 2 refine⟨.eq rfl rfl,?_⟩);exact trivial)) (by(refine⟨.row rfl,?_⟩;refine⟨.row rfl,?_⟩;refine⟨.box _ rfl ?_,?_⟩;(iterate 3 refine⟨.ak (by rfl) rfl,?_⟩);refine⟨.ai (by rfl),?_⟩;refine⟨.ak (by rfl) rfl,?_⟩;refine⟨.ai (by rfl),?_⟩;(iterate 2 refine⟨.ak (by rfl) rfl,?_⟩);(iterate 3 refine⟨.ai (by rfl),?_⟩);refine⟨.ak (by rfl) rfl,?_⟩;refine⟨.ai (by rfl),?_⟩;(iterate 2 refine⟨.bF (by rfl),?_⟩);exact trivial;(iterate 3 refine⟨.row rfl,?_⟩);refine⟨.pool rfl (by rfl),?_⟩;(iterate 2 refine⟨.row rfl,?_⟩);refine⟨.pool rfl (by rfl),?_⟩;refine⟨.row rfl,?_⟩;refine⟨.pool rfl (by rfl),?_⟩;refine⟨.row rfl,?_⟩;exact trivial)) rfl
 rintro⟨sl0,rest0,op0,to0,k,piv,j⟩ hA
 simp only at hA
 have hj:=hA.hj
 have dq:=hs.x4 hj
 have j2:=(hs.cls j hj).2.2
 have hA0:=hA.row
 have Eo:=hA.hk
 have Tv:(j:Int).toNat<s.nc:=by omega
 (refine AW.block ?_;refine zo ?_;refine dZ ?_;refine Ef ?_;refine dX ?_;refine JH ?_;refine aa.dK rfl rfl rfl rfl (fun h_=>by cases h_) (by omega) ?_;refine aa.iB 7 rfl rfl rfl rfl rfl ?_;refine zm ?_;refine lf ?_)
 rw[Int.toNat_natCast j]
 (refine Q0 ?_;apply AW.bM [36,35,1,10,11,0,1000] [12,11,0,1,2,3,4,5,6,7,8,9,10] (fun q:AQ=>([(6,.own 11 4 1 (q.sl.map hX)),(7,.own 12 3 1 ((0::q.rest).map encI)),(8,al (q.op:Nat)),(9,al q.to),(37,al (q.k:Nat))]:List (Nat×AV))) (fun q:AQ=>([]:List (Nat×Option Ob))) (fun q:AQ=>j3 n s j0 k piv j q.sl q.rest q.op q.to q.k) (fun q:AQ=>(s.cl j).length - q.k) ((⟨sl0,rest0,op0,to0,0,0,0⟩:AQ));(conv=>lhs;simp only[Nf.gQ,Nf.all,Nat.reduceBEq,reduceAdd,reduceSub]);(all_goals skip))
 ·exact hA0
 ·exact aO rfl (by(refine⟨.ak (by rfl) rfl,?_⟩;refine⟨.ak (by rfl) rfl,?_⟩;(iterate 8 refine⟨.ai (by rfl),?_⟩);(iterate 2 refine⟨.eq rfl rfl,?_⟩);exact trivial)) (by(refine⟨.row rfl,?_⟩;refine⟨.row rfl,?_⟩;refine⟨.box _ rfl ?_,?_⟩;(iterate 3 refine⟨.ak (by rfl) rfl,?_⟩);refine⟨.ai (by rfl),?_⟩;refine⟨.ak (by rfl) rfl,?_⟩;refine⟨.ai (by rfl),?_⟩;(iterate 2 refine⟨.ak (by rfl) rfl,?_⟩);(iterate 3 refine⟨.ai (by rfl),?_⟩);refine⟨.ak (by rfl) rfl,?_⟩;refine⟨.ai (by rfl),?_⟩;(iterate 2 refine⟨.bF (by rfl),?_⟩);exact trivial;(iterate 3 refine⟨.row rfl,?_⟩);refine⟨.pool rfl (by rfl),?_⟩;(iterate 2 refine⟨.row rfl,?_⟩);refine⟨.pool rfl (by rfl),?_⟩;refine⟨.row rfl,?_⟩;refine⟨.pool rfl (by rfl),?_⟩;refine⟨.row rfl,?_⟩;exact trivial)) rfl
 rintro⟨sl,rest,op,to,i,z1,z2⟩ hR
 simp only at hR
 clear hA hA0
 have qA:=hR.NR hs
 have G6:=hR.base.len
 have hi:=hR.hi
 by_cases aM:i<(s.cl j).length
 ·have ri:(i:Int).toNat<(s.cl j).length:=by omega
  obtain⟨x,hx⟩:∃x,x=(s.cl j)[(i:Int).toNat]:=⟨_,rfl⟩
  have hx2:(s.cl j)[i]=x:=hx.symm
  have q9:=j2 _ (List.getElem_mem ri)
  rw[← hx] at q9
  obtain⟨_,_,_⟩:=q9
  have hv0:0≤max x (-x):=by omega
  have hv1:(max x (-x)).toNat<sl.length:=by omega
  have hv2:(max x (-x)).toNat<s.level.length:=by omega
  have hg1:sl.getD (aG x) false=sl[(max x (-x)).toNat]:=np hv1
  have hg2:aE s x=s.level[(max x (-x)).toNat]:=aZ hv2
  by_cases hp:x=piv
  ·have hp':decide (x=piv)=true:=by simpa using hp
   have lF:=hR.skip aM (.inl (by rw[hx2];exact hp))
   (refine uG ?_;(with_reducible apply aa.aB 7);(iterate 8 exact rfl);(first|(with_reducible assumption)|omega|(simp only[ab,List.length_set];omega));(first|(with_reducible assumption)|omega|(simp only[ab,List.length_set];omega));(focus ((with_reducible apply aa.aA 7);(iterate 5 exact rfl);(focus (intro h_;cases h_;done));rotate_left;(first|(with_reducible assumption)|omega|(simp only[ab,List.length_set];omega))));refine eO ?_;(with_reducible apply AW.pg 9);(rw[← hx]);refine MM ?_;refine zm ?_;refine FL ?_;refine zm ?_;refine H7 ?_;refine wi ?_;refine Bu ?_;refine l5 ?_)
   exact O1
  ·have hp':decide (x=piv)=false:=by simpa using hp
   cases ki:sl[(max x (-x)).toNat] with
   |true=>
    have lF:=hR.skip aM (.inr (.inl (by rw[hx2,hg1];exact ki)))
    (refine uG ?_;(with_reducible apply aa.aB 7);(iterate 8 exact rfl);(first|(with_reducible assumption)|omega|(simp only[ab,List.length_set];omega));(first|(with_reducible assumption)|omega|(simp only[ab,List.length_set];omega));(focus ((with_reducible apply aa.aA 7);(iterate 5 exact rfl);(focus (intro h_;cases h_;done));rotate_left;(first|(with_reducible assumption)|omega|(simp only[ab,List.length_set];omega))));refine eO ?_;(with_reducible apply AW.pg 9);(rw[← hx]);refine Fa ?_;(focus ((with_reducible apply aa.aD);(iterate 4 exact rfl);(focus (intro h_;cases h_;done));rotate_left;(first|omega|exact Nat.zero_lt_one|(simp;done))));refine zF ?_;refine zm ?_;refine LL ?_;refine l5 ?_)
    exact O1
   |false=>
    have fq:=B7 sl (max x (-x)).toNat
    by_cases hl0:s.level[(max x (-x)).toNat]=0
    ·have hl0':decide (s.level[(max x (-x)).toNat]=0)=true:=by simpa using hl0
     have lF:=hR.skip aM (.inr (.inr (by rw[hx2,hg2];exact hl0)))
     (refine uG ?_;(with_reducible apply aa.aB 7);(iterate 8 exact rfl);(first|(with_reducible assumption)|omega|(simp only[ab,List.length_set];omega));(first|(with_reducible assumption)|omega|(simp only[ab,List.length_set];omega));(focus ((with_reducible apply aa.aA 7);(iterate 5 exact rfl);(focus (intro h_;cases h_;done));rotate_left;(first|(with_reducible assumption)|omega|(simp only[ab,List.length_set];omega))));refine eO ?_;(with_reducible apply AW.pg 9);(rw[← hx]);refine Fa ?_;(focus ((with_reducible apply aa.aD);(iterate 4 exact rfl);(focus (intro h_;cases h_;done));rotate_left;(first|omega|exact Nat.zero_lt_one|(simp;done))));refine zF ?_;refine JM ?_;(focus ((with_reducible apply aa.aD);(iterate 4 exact rfl);(focus (intro h_;cases h_;done));rotate_left;(first|omega|exact Nat.zero_lt_one|(simp;done))));refine zC ?_;refine zd ?_;refine zc ?_;refine Bu ?_;refine l5 ?_)
     exact O1
    ·have hl0':decide (s.level[(max x (-x)).toNat]=0)=false:=by simpa using hl0
     by_cases I6:s.level[(max x (-x)).toNat]=(s.marks.length:Int)
     ·have Ph:decide (s.level[(max x (-x)).toNat]=(s.marks.length:Int))=true:=by simpa using I6
      have lF:=hR.cur hs hm aM (by rw[hx2];exact hp) (by rw[hx2,hg1];exact ki) (by rw[hx2,hg2];exact I6)
      rw[hx2] at lF
      (refine uG ?_;(with_reducible apply aa.aB 7);(iterate 8 exact rfl);(first|(with_reducible assumption)|omega|(simp only[ab,List.length_set];omega));(first|(with_reducible assumption)|omega|(simp only[ab,List.length_set];omega));(focus ((with_reducible apply aa.aA 7);(iterate 5 exact rfl);(focus (intro h_;cases h_;done));rotate_left;(first|(with_reducible assumption)|omega|(simp only[ab,List.length_set];omega))));refine eO ?_;(with_reducible apply AW.pg 9);(rw[← hx]);refine Fa ?_;(focus ((with_reducible apply aa.aD);(iterate 4 exact rfl);(focus (intro h_;cases h_;done));rotate_left;(first|omega|exact Nat.zero_lt_one|(simp;done))));refine zF ?_;refine JM ?_;(focus ((with_reducible apply aa.aD);(iterate 4 exact rfl);(focus (intro h_;cases h_;done));rotate_left;(first|omega|exact Nat.zero_lt_one|(simp;done))));refine zC ?_;refine zd ?_;refine lP ?_;refine p9 ?_;refine zm ?_;refine nh ?_;(with_reducible apply aa.bQ);(iterate 4 exact rfl);(first|exact rfl|assumption|exact dy _|exact dz _ _|exact dO _|exact dP _ _);(iterate 3 exact rfl);refine gM ?_;(iterate 2 refine zo ?_);(with_reducible apply AW.bu);exact rfl;exact rfl;kernel_rfl;(with_reducible assumption);refine rI ?_;refine Dt ?_;refine nh ?_;(focus ((with_reducible apply aa.aD);(iterate 4 exact rfl);(focus (intro h_;cases h_;done));rotate_left;(first|omega|exact Nat.zero_lt_one|(simp;done))));refine rI ?_;refine tJ ?_;refine lh ?_;refine zc ?_;refine ez ?_;refine zj ?_;refine eO ?_;refine Bu ?_;refine l5 ?_)
      exact⟨(⟨sl.set (aG x) true,rest,op+1,to,i+1,z1,z2⟩:AQ),lF,by show(s.cl j).length - (i+1)<(s.cl j).length - i;omega,aO rfl (by(refine⟨.ak (by first|rfl|exact fq) rfl,?_⟩;refine⟨.ak (by first|rfl|exact fq) rfl,?_⟩;(iterate 8 refine⟨.ai (by first|rfl|exact fq),?_⟩);(iterate 2 refine⟨.eq rfl rfl,?_⟩);exact trivial)) (by(refine⟨.row rfl,?_⟩;refine⟨.row rfl,?_⟩;refine⟨.box _ rfl ?_,?_⟩;(iterate 3 refine⟨.ak (by first|rfl|exact fq) rfl,?_⟩);refine⟨.ai (by first|rfl|exact fq),?_⟩;refine⟨.ak (by first|rfl|exact fq) rfl,?_⟩;refine⟨.ai (by first|rfl|exact fq),?_⟩;(iterate 2 refine⟨.ak (by first|rfl|exact fq) rfl,?_⟩);(iterate 3 refine⟨.ai (by first|rfl|exact fq),?_⟩);refine⟨.ak (by first|rfl|exact fq) rfl,?_⟩;refine⟨.ai (by first|rfl|exact fq),?_⟩;(iterate 2 refine⟨.bF (by first|rfl|exact fq),?_⟩);exact trivial;(iterate 3 refine⟨.row rfl,?_⟩);refine⟨.pool rfl (by first|rfl|exact fq),?_⟩;(iterate 2 refine⟨.row rfl,?_⟩);refine⟨.pool rfl (by first|rfl|exact fq),?_⟩;refine⟨.row rfl,?_⟩;refine⟨.pool rfl (by first|rfl|exact fq),?_⟩;refine⟨.row rfl,?_⟩;exact trivial)) rfl⟩
     ·have Ph:decide (s.level[(max x (-x)).toNat]=(s.marks.length:Int))=false:=by simpa using I6
      have lF:=hR.uk hs aM (by rw[hx2];exact hp) (by rw[hx2,hg1];exact ki) (by rw[hx2,hg2];exact I6) (by rw[hx2,hg2];exact hl0)
      rw[hx2,hg2] at lF
      (refine uG ?_;(with_reducible apply aa.aB 7);(iterate 8 exact rfl);(first|(with_reducible assumption)|omega|(simp only[ab,List.length_set];omega));(first|(with_reducible assumption)|omega|(simp only[ab,List.length_set];omega));(focus ((with_reducible apply aa.aA 7);(iterate 5 exact rfl);(focus (intro h_;cases h_;done));rotate_left;(first|(with_reducible assumption)|omega|(simp only[ab,List.length_set];omega))));refine eO ?_;(with_reducible apply AW.pg 9);(rw[← hx]);refine Fa ?_;(focus ((with_reducible apply aa.aD);(iterate 4 exact rfl);(focus (intro h_;cases h_;done));rotate_left;(first|omega|exact Nat.zero_lt_one|(simp;done))));refine zF ?_;refine JM ?_;(focus ((with_reducible apply aa.aD);(iterate 4 exact rfl);(focus (intro h_;cases h_;done));rotate_left;(first|omega|exact Nat.zero_lt_one|(simp;done))));refine zC ?_;refine zd ?_;refine lP ?_;refine p9 ?_;refine zm ?_;refine nh ?_;(with_reducible apply aa.bQ);(iterate 4 exact rfl);(first|exact rfl|assumption|exact dy _|exact dz _ _|exact dO _|exact dP _ _);(iterate 3 exact rfl);refine gM ?_;(iterate 2 refine zo ?_);(with_reducible apply AW.bu);exact rfl;exact rfl;kernel_rfl;(with_reducible assumption);refine rI ?_;refine Dt ?_;refine nh ?_;(focus ((with_reducible apply aa.aD);(iterate 4 exact rfl);(focus (intro h_;cases h_;done));rotate_left;(first|omega|exact Nat.zero_lt_one|(simp;done))));refine rI ?_;refine tJ ?_;refine lh ?_;refine lP ?_;refine p9 ?_;refine zm ?_;(with_reducible apply aa.iD);(iterate 5 exact rfl);(first|exact rfl|assumption|exact dy _|exact dz _ _|exact dO _|exact dP _ _);exact rfl;exact rfl;refine Q0 ?_;(with_reducible apply aa.bh);exact rfl;(first|exact .pv rfl|exact .own rfl|exact .nil rfl);(iterate 9 exact rfl);(first|omega|(simp only[List.length_map,List.length_append,List.length_cons,List.length_nil,List.length_drop,List.length_take,List.length_set,List.length_range,aL];omega));refine Q0 ?_;refine od ?_;refine lq ?_;refine zm ?_;refine rI ?_;refine Dt ?_;refine nh ?_;(focus ((with_reducible apply aa.aD);(iterate 4 exact rfl);(focus (intro h_;cases h_;done));rotate_left;(first|omega|exact Nat.zero_lt_one|(simp;done))));refine aa.max2 rfl rfl rfl rfl rfl ?_;refine za ?_;refine aa.nil ?_;refine we ?_;refine l5 ?_)
      exact⟨(⟨sl.set (aG x) true,rest++ [x],op,max to s.level[(max x (-x)).toNat],i+1,z1,z2⟩:AQ),lF,by show(s.cl j).length - (i+1)<(s.cl j).length - i;omega,aO rfl (by(refine⟨.ak (by first|rfl|exact fq|(rw[← List.cons_append,List.map_append];rfl)) rfl,?_⟩;refine⟨.ak (by first|rfl|exact fq|(rw[← List.cons_append,List.map_append];rfl)) rfl,?_⟩;refine⟨.ai (by first|rfl|exact fq|(rw[← List.cons_append,List.map_append];rfl)),?_⟩;refine⟨.ai (by first|rfl|exact fq|(rw[← List.cons_append,List.map_append];rfl)),?_⟩;refine⟨.ai (by first|rfl|exact fq|(rw[← List.cons_append,List.map_append];rfl)),?_⟩;refine⟨.ai (by first|rfl|exact fq|(rw[← List.cons_append,List.map_append];rfl)),?_⟩;refine⟨.ai (by first|rfl|exact fq|(rw[← List.cons_append,List.map_append];rfl)),?_⟩;refine⟨.ai (by first|rfl|exact fq|(rw[← List.cons_append,List.map_append];rfl)),?_⟩;refine⟨.ai (by first|rfl|exact fq|(rw[← List.cons_append,List.map_append];rfl)),?_⟩;refine⟨.ai (by first|rfl|exact fq|(rw[← List.cons_append,List.map_append];rfl)),?_⟩;(iterate 2 refine⟨.eq rfl rfl,?_⟩);exact trivial)) (by(refine⟨.row rfl,?_⟩;refine⟨.row rfl,?_⟩;refine⟨.box _ rfl ?_,?_⟩;refine⟨.ak (by first|rfl|exact fq|(rw[← List.cons_append,List.map_append];rfl)) rfl,?_⟩;refine⟨.ak (by first|rfl|exact fq|(rw[← List.cons_append,List.map_append];rfl)) rfl,?_⟩;refine⟨.ak (by first|rfl|exact fq|(rw[← List.cons_append,List.map_append];rfl)) rfl,?_⟩;refine⟨.ai (by first|rfl|exact fq|(rw[← List.cons_append,List.map_append];rfl)),?_⟩;refine⟨.ak (by first|rfl|exact fq|(rw[← List.cons_append,List.map_append];rfl)) rfl,?_⟩;refine⟨.ai (by first|rfl|exact fq|(rw[← List.cons_append,List.map_append];rfl)),?_⟩;refine⟨.ak (by first|rfl|exact fq|(rw[← List.cons_append,List.map_append];rfl)) rfl,?_⟩;refine⟨.ak (by first|rfl|exact fq|(rw[← List.cons_append,List.map_append];rfl)) rfl,?_⟩;refine⟨.ai (by first|rfl|exact fq|(rw[← List.cons_append,List.map_append];rfl)),?_⟩;refine⟨.ai (by first|rfl|exact fq|(rw[← List.cons_append,List.map_append];rfl)),?_⟩;refine⟨.ai (by first|rfl|exact fq|(rw[← List.cons_append,List.map_append];rfl)),?_⟩;refine⟨.ak (by first|rfl|exact fq|(rw[← List.cons_append,List.map_append];rfl)) rfl,?_⟩;refine⟨.ai (by first|rfl|exact fq|(rw[← List.cons_append,List.map_append];rfl)),?_⟩;refine⟨.bF (by first|rfl|exact fq|(rw[← List.cons_append,List.map_append];rfl)),?_⟩;refine⟨.bF (by first|rfl|exact fq|(rw[← List.cons_append,List.map_append];rfl)),?_⟩;exact trivial;(iterate 3 refine⟨.row rfl,?_⟩);refine⟨.pool rfl (by first|rfl|exact fq|(rw[← List.cons_append,List.map_append];rfl)),?_⟩;(iterate 2 refine⟨.row rfl,?_⟩);refine⟨.pool rfl (by first|rfl|exact fq|(rw[← List.cons_append,List.map_append];rfl)),?_⟩;refine⟨.row rfl,?_⟩;refine⟨.pool rfl (by first|rfl|exact fq|(rw[← List.cons_append,List.map_append];rfl)),?_⟩;refine⟨.row rfl,?_⟩;exact trivial)) rfl⟩
 ·obtain rfl:i=(s.cl j).length:=by omega
  have hD:=hR.fin hs hm
  have wD:=hD.pos
  obtain⟨a0,rfl⟩:∃a0,k=a0+1:=⟨k - 1,by omega⟩
  have ek:((a0+1:Nat):Int) - 1=(a0:Int):=by omega
  (refine dZ ?_;refine yg ?_;refine zo ?_;refine ez ?_;refine tW ?_;refine AW.block ?_)
  (refine Q0 ?_;apply AW.bM [6,7,8,9,1,11,0,1000] [12,11,0,1,2,3,4,5,6,7,8,9,10] (fun a:Nat=>([(10,al (a:Nat))]:List (Nat×AV))) (fun a:Nat=>([]:List (Nat×Option Ob))) (fun a:Nat=>(ij n s j0 (a+1) sl rest op to∧a≤a0)) (fun a:Nat=>a) (a0);(conv=>lhs;simp only[Nf.gQ,Nf.all,Nat.reduceBEq,reduceAdd,reduceSub]);(all_goals skip))
  ·exact⟨hD,Nat.le_refl _⟩
  ·exact aO rfl (by(refine⟨.ai (by first|rfl|(rw[ek])),?_⟩;refine⟨.ak (by first|rfl|(rw[ek])) rfl,?_⟩;refine⟨.ak (by first|rfl|(rw[ek])) rfl,?_⟩;refine⟨.ai (by first|rfl|(rw[ek])),?_⟩;refine⟨.ai (by first|rfl|(rw[ek])),?_⟩;refine⟨.ai (by first|rfl|(rw[ek])),?_⟩;refine⟨.ai (by first|rfl|(rw[ek])),?_⟩;(iterate 2 refine⟨.eq rfl rfl,?_⟩);exact trivial)) (by(refine⟨.row rfl,?_⟩;refine⟨.row rfl,?_⟩;refine⟨.box _ rfl ?_,?_⟩;refine⟨.ak (by first|rfl|(rw[ek])) rfl,?_⟩;refine⟨.ak (by first|rfl|(rw[ek])) rfl,?_⟩;refine⟨.ak (by first|rfl|(rw[ek])) rfl,?_⟩;refine⟨.ai (by first|rfl|(rw[ek])),?_⟩;refine⟨.ak (by first|rfl|(rw[ek])) rfl,?_⟩;refine⟨.ai (by first|rfl|(rw[ek])),?_⟩;refine⟨.ak (by first|rfl|(rw[ek])) rfl,?_⟩;refine⟨.ak (by first|rfl|(rw[ek])) rfl,?_⟩;refine⟨.ai (by first|rfl|(rw[ek])),?_⟩;refine⟨.ai (by first|rfl|(rw[ek])),?_⟩;refine⟨.ai (by first|rfl|(rw[ek])),?_⟩;refine⟨.ak (by first|rfl|(rw[ek])) rfl,?_⟩;refine⟨.ai (by first|rfl|(rw[ek])),?_⟩;refine⟨.bF (by first|rfl|(rw[ek])),?_⟩;refine⟨.bF (by first|rfl|(rw[ek])),?_⟩;exact trivial;(iterate 3 refine⟨.row rfl,?_⟩);refine⟨.pool rfl (by first|rfl|(rw[ek])),?_⟩;(iterate 2 refine⟨.row rfl,?_⟩);refine⟨.pool rfl (by first|rfl|(rw[ek])),?_⟩;refine⟨.row rfl,?_⟩;refine⟨.pool rfl (by first|rfl|(rw[ek])),?_⟩;refine⟨.row rfl,?_⟩;exact trivial)) rfl
  rintro a ⟨hE,hle⟩
  have Tt:=hE.hk
  have oU:(a:Int).toNat<(s.ll 0).length:=by omega
  obtain⟨y,hy⟩:∃y,y=(s.ll 0)[(a:Int).toNat]:=⟨_,rfl⟩
  have hy2:(s.ll 0)[a]=y:=hy.symm
  have rj:=hs.trl.rng _ (List.getElem_mem oU)
  rw[← hy] at rj
  have hv0:0≤max y (-y):=by omega
  have hv1:(max y (-y)).toNat<sl.length:=by omega
  have hv3:(max y (-y)).toNat<s.reason.length:=by omega
  rw[hy] at rj hv0 hv1
  have hg1:sl.getD (aG (s.ll 0)[a]) false=sl[(max (s.ll 0)[(a:Int).toNat] (-(s.ll 0)[(a:Int).toNat])).toNat]:=np hv1
  cases ki:sl[(max (s.ll 0)[(a:Int).toNat] (-(s.ll 0)[(a:Int).toNat])).toNat] with
  |false=>
   have Ia:(!sl[(max (s.ll 0)[(a:Int).toNat] (-(s.ll 0)[(a:Int).toNat])).toNat])=true:=by rw[ki];rfl
   have hd:=hE.down (by rw[hg1];exact ki)
   have TA:=hd.pos
   obtain⟨a1,rfl⟩:∃a1,a=a1+1:=⟨a - 1,by omega⟩
   have ek1:((a1+1:Nat):Int) - 1=(a1:Int):=by omega
   ((iterate 2 refine zo ?_);(with_reducible apply AW.bu);exact rfl;exact rfl;kernel_rfl;(with_reducible assumption);refine aa.bz rfl rfl rfl ?_;refine xl ?_;refine dX ?_;(with_reducible apply aa.aB 4);(iterate 8 exact rfl);(first|(with_reducible assumption)|omega|(simp only[ab,List.length_set];omega));(first|(with_reducible assumption)|omega|(simp only[ab,List.length_set];omega));(focus ((with_reducible apply aa.aA 4);(iterate 5 exact rfl);(focus (intro h_;cases h_;done));rotate_left;(first|(with_reducible assumption)|omega|(simp only[ab,List.length_set];omega))));refine xl ?_;refine dX ?_;(with_reducible apply aa.aB 4);(iterate 8 exact rfl);(first|(with_reducible assumption)|omega|(simp only[ab,List.length_set];omega));(first|(with_reducible assumption)|omega|(simp only[ab,List.length_set];omega));(focus ((with_reducible apply aa.aA 4);(iterate 5 exact rfl);(focus (intro h_;cases h_;done));rotate_left;(first|(with_reducible assumption)|omega|(simp only[ab,List.length_set];omega))));refine H0 ?_;(focus ((with_reducible apply aa.aD);(iterate 4 exact rfl);(focus (intro h_;cases h_;done));rotate_left;(first|omega|exact Nat.zero_lt_one|(simp;done))));refine aa.not rfl rfl rfl ?_;refine zd ?_;refine AW.xW rfl rfl (by assumption) ?_;refine qi ?_;refine zo ?_;refine AW.block ?_;refine AW.skip ?_;refine we ?_;refine Q0 ?_;refine zm ?_;refine tW ?_)
   exact⟨a1,⟨hd,by omega⟩,by omega,aO rfl (by(refine⟨.ai (by first|rfl|(rw[ek1])),?_⟩;refine⟨.ak (by first|rfl|(rw[ek1])) rfl,?_⟩;refine⟨.ak (by first|rfl|(rw[ek1])) rfl,?_⟩;refine⟨.ai (by first|rfl|(rw[ek1])),?_⟩;refine⟨.ai (by first|rfl|(rw[ek1])),?_⟩;refine⟨.ai (by first|rfl|(rw[ek1])),?_⟩;refine⟨.ai (by first|rfl|(rw[ek1])),?_⟩;(iterate 2 refine⟨.eq rfl rfl,?_⟩);exact trivial)) (by(refine⟨.row rfl,?_⟩;refine⟨.row rfl,?_⟩;refine⟨.box _ rfl ?_,?_⟩;refine⟨.ak (by first|rfl|(rw[ek1])) rfl,?_⟩;refine⟨.ak (by first|rfl|(rw[ek1])) rfl,?_⟩;refine⟨.ak (by first|rfl|(rw[ek1])) rfl,?_⟩;refine⟨.ai (by first|rfl|(rw[ek1])),?_⟩;refine⟨.ak (by first|rfl|(rw[ek1])) rfl,?_⟩;refine⟨.ai (by first|rfl|(rw[ek1])),?_⟩;refine⟨.ak (by first|rfl|(rw[ek1])) rfl,?_⟩;refine⟨.ak (by first|rfl|(rw[ek1])) rfl,?_⟩;refine⟨.ai (by first|rfl|(rw[ek1])),?_⟩;refine⟨.ai (by first|rfl|(rw[ek1])),?_⟩;refine⟨.ai (by first|rfl|(rw[ek1])),?_⟩;refine⟨.ak (by first|rfl|(rw[ek1])) rfl,?_⟩;refine⟨.ai (by first|rfl|(rw[ek1])),?_⟩;refine⟨.bF (by first|rfl|(rw[ek1])),?_⟩;refine⟨.bF (by first|rfl|(rw[ek1])),?_⟩;exact trivial;(iterate 3 refine⟨.row rfl,?_⟩);refine⟨.pool rfl (by first|rfl|(rw[ek1])),?_⟩;(iterate 2 refine⟨.row rfl,?_⟩);refine⟨.pool rfl (by first|rfl|(rw[ek1])),?_⟩;refine⟨.row rfl,?_⟩;refine⟨.pool rfl (by first|rfl|(rw[ek1])),?_⟩;refine⟨.row rfl,?_⟩;exact trivial)) rfl⟩
  |true=>
   have Ia:(!sl[(max (s.ll 0)[(a:Int).toNat] (-(s.ll 0)[(a:Int).toNat])).toNat])=false:=by rw[ki];rfl
   have Mc:sl.getD (aG (s.ll 0)[a]) false=true:=by rw[hg1];exact ki
   have Np:(max (s.ll 0)[(a:Int).toNat] (-(s.ll 0)[(a:Int).toNat])).toNat<s.reason.length:=by rw[← hy];exact hv3
   by_cases Mg:op=1
   ·subst Mg
    have fP:=hE.out hs Mc
    ((iterate 2 refine zo ?_);(with_reducible apply AW.bu);exact rfl;exact rfl;kernel_rfl;(with_reducible assumption);refine aa.bz rfl rfl rfl ?_;refine xl ?_;refine dX ?_;(with_reducible apply aa.aB 4);(iterate 8 exact rfl);(first|(with_reducible assumption)|omega|(simp only[ab,List.length_set];omega));(first|(with_reducible assumption)|omega|(simp only[ab,List.length_set];omega));(focus ((with_reducible apply aa.aA 4);(iterate 5 exact rfl);(focus (intro h_;cases h_;done));rotate_left;(first|(with_reducible assumption)|omega|(simp only[ab,List.length_set];omega))));refine xl ?_;refine dX ?_;(with_reducible apply aa.aB 4);(iterate 8 exact rfl);(first|(with_reducible assumption)|omega|(simp only[ab,List.length_set];omega));(first|(with_reducible assumption)|omega|(simp only[ab,List.length_set];omega));(focus ((with_reducible apply aa.aA 4);(iterate 5 exact rfl);(focus (intro h_;cases h_;done));rotate_left;(first|(with_reducible assumption)|omega|(simp only[ab,List.length_set];omega))));refine H0 ?_;(focus ((with_reducible apply aa.aD);(iterate 4 exact rfl);(focus (intro h_;cases h_;done));rotate_left;(first|omega|exact Nat.zero_lt_one|(simp;done))));refine aa.not rfl rfl rfl ?_;refine zd ?_;refine AW.sP rfl rfl (by assumption) ?_;refine r8 ?_;refine dZ ?_;refine xl ?_;refine dX ?_;(with_reducible apply aa.aB 4);(iterate 8 exact rfl);(first|(with_reducible assumption)|omega|(simp only[ab,List.length_set];omega));(first|(with_reducible assumption)|omega|(simp only[ab,List.length_set];omega));(focus ((with_reducible apply aa.aA 4);(iterate 5 exact rfl);(focus (intro h_;cases h_;done));rotate_left;(first|(with_reducible assumption)|omega|(simp only[ab,List.length_set];omega))));refine eO ?_;refine ez ?_;refine aa.sub rfl rfl rfl rfl rfl (by omega) ?_;refine kh ?_;refine ez ?_;refine aa.eql rfl rfl rfl rfl rfl ?_;refine wi ?_;refine p9 ?_;refine D4 ?_;(with_reducible apply aa.p7);(iterate 7 exact rfl);omega;(first|omega|(simp only[List.length_map,List.length_append,List.length_cons,List.length_nil,List.length_drop,List.length_take,List.length_set,List.length_range,aL];omega));(with_reducible apply aa.bQ);(iterate 4 exact rfl);(first|exact rfl|assumption|exact dy _|exact dz _ _|exact dO _|exact dP _ _);(iterate 3 exact rfl);refine gM ?_;refine AW.gf 24 ?_)
    refine Stop.go ?_
    refine AW.rZ 7 12 s.nc 7 (us:= -(s.ll 0)[(a:Int).toNat]::rest) rfl rfl rfl rfl (hs.fresh s.nc (Nat.le_refl _)).2 fun v_ DZ=>?_
    (try (conv=>rhs;simp only[Nf.cP,Nf.all,Nat.reduceBEq,reduceAdd,reduceSub]))
    (refine zq ?_;(iterate 2 refine zm ?_);refine lx ?_;refine AW.ret ?_;(iterate 2 refine uJ ?_))
    (apply cg (((v_,-(s.ll 0)[(a:Int).toNat]::rest,to):Value×List Int×Int)) (⟨DZ,fP⟩);((exact bA.two (.tmp rfl rfl) (.tmp rfl rfl)));((exact mn));((exact Mp));exact rfl)
   ·obtain⟨j',hj',hj'n,hN⟩:=hE.next hs Mc Mg
    have Rm:=hE.op
    have hj2:s.reason[(max (s.ll 0)[(a:Int).toNat] (-(s.ll 0)[(a:Int).toNat])).toNat]'Np=(j':Int):=by rw[← aZ Np];exact hj'
    have eop:(op:Int) - 1=((op - 1:Nat):Int):=by omega
    ((iterate 2 refine zo ?_);(with_reducible apply AW.bu);exact rfl;exact rfl;kernel_rfl;(with_reducible assumption);refine aa.bz rfl rfl rfl ?_;refine xl ?_;refine dX ?_;(with_reducible apply aa.aB 4);(iterate 8 exact rfl);(first|(with_reducible assumption)|omega|(simp only[ab,List.length_set];omega));(first|(with_reducible assumption)|omega|(simp only[ab,List.length_set];omega));(focus ((with_reducible apply aa.aA 4);(iterate 5 exact rfl);(focus (intro h_;cases h_;done));rotate_left;(first|(with_reducible assumption)|omega|(simp only[ab,List.length_set];omega))));refine xl ?_;refine dX ?_;(with_reducible apply aa.aB 4);(iterate 8 exact rfl);(first|(with_reducible assumption)|omega|(simp only[ab,List.length_set];omega));(first|(with_reducible assumption)|omega|(simp only[ab,List.length_set];omega));(focus ((with_reducible apply aa.aA 4);(iterate 5 exact rfl);(focus (intro h_;cases h_;done));rotate_left;(first|(with_reducible assumption)|omega|(simp only[ab,List.length_set];omega))));refine H0 ?_;(focus ((with_reducible apply aa.aD);(iterate 4 exact rfl);(focus (intro h_;cases h_;done));rotate_left;(first|omega|exact Nat.zero_lt_one|(simp;done))));refine aa.not rfl rfl rfl ?_;refine zd ?_;refine AW.sP rfl rfl (by assumption) ?_;refine r8 ?_;refine dZ ?_;refine xl ?_;refine dX ?_;(with_reducible apply aa.aB 4);(iterate 8 exact rfl);(first|(with_reducible assumption)|omega|(simp only[ab,List.length_set];omega));(first|(with_reducible assumption)|omega|(simp only[ab,List.length_set];omega));(focus ((with_reducible apply aa.aA 4);(iterate 5 exact rfl);(focus (intro h_;cases h_;done));rotate_left;(first|(with_reducible assumption)|omega|(simp only[ab,List.length_set];omega))));refine eO ?_;refine ez ?_;refine aa.sub rfl rfl rfl rfl rfl (by omega) ?_;refine kh ?_;refine ez ?_;refine lh ?_;refine lP ?_;refine lq ?_;refine rI ?_;refine aa.ah 94 2 2 rfl rfl rfl rfl ?_;refine zb ?_;refine CZ ?_;refine nh ?_;(focus ((with_reducible apply aa.aD);(iterate 4 exact rfl);(focus (intro h_;cases h_;done));rotate_left;(first|omega|exact Nat.zero_lt_one|(simp;done))));refine za ?_;refine Ag ?_)
    exact⟨(⟨sl,rest,op - 1,to,a,(s.ll 0)[(a:Int).toNat],j'⟩:AQ),hN,by show a<a0+1;omega,aO rfl (by(refine⟨.ai (by first|rfl|(rw[eop])|(rw[hj2])),?_⟩;refine⟨.ak (by first|rfl|(rw[eop])|(rw[hj2])) rfl,?_⟩;refine⟨.ak (by first|rfl|(rw[eop])|(rw[hj2])) rfl,?_⟩;refine⟨.ai (by first|rfl|(rw[eop])|(rw[hj2])),?_⟩;refine⟨.ai (by first|rfl|(rw[eop])|(rw[hj2])),?_⟩;refine⟨.ai (by first|rfl|(rw[eop])|(rw[hj2])),?_⟩;refine⟨.ai (by first|rfl|(rw[eop])|(rw[hj2])),?_⟩;(iterate 2 refine⟨.eq rfl rfl,?_⟩);exact trivial)) (by(refine⟨.row rfl,?_⟩;refine⟨.row rfl,?_⟩;refine⟨.box _ rfl ?_,?_⟩;refine⟨.ak (by first|rfl|(rw[eop])|(rw[hj2])) rfl,?_⟩;refine⟨.ak (by first|rfl|(rw[eop])|(rw[hj2])) rfl,?_⟩;refine⟨.ak (by first|rfl|(rw[eop])|(rw[hj2])) rfl,?_⟩;refine⟨.ai (by first|rfl|(rw[eop])|(rw[hj2])),?_⟩;refine⟨.ak (by first|rfl|(rw[eop])|(rw[hj2])) rfl,?_⟩;refine⟨.ai (by first|rfl|(rw[eop])|(rw[hj2])),?_⟩;refine⟨.ak (by first|rfl|(rw[eop])|(rw[hj2])) rfl,?_⟩;refine⟨.ak (by first|rfl|(rw[eop])|(rw[hj2])) rfl,?_⟩;refine⟨.ai (by first|rfl|(rw[eop])|(rw[hj2])),?_⟩;refine⟨.ai (by first|rfl|(rw[eop])|(rw[hj2])),?_⟩;refine⟨.ai (by first|rfl|(rw[eop])|(rw[hj2])),?_⟩;refine⟨.ak (by first|rfl|(rw[eop])|(rw[hj2])) rfl,?_⟩;refine⟨.ai (by first|rfl|(rw[eop])|(rw[hj2])),?_⟩;refine⟨.bF (by first|rfl|(rw[eop])|(rw[hj2])),?_⟩;refine⟨.bF (by first|rfl|(rw[eop])|(rw[hj2])),?_⟩;exact trivial;(iterate 3 refine⟨.row rfl,?_⟩);refine⟨.pool rfl (by first|rfl|(rw[eop])|(rw[hj2])),?_⟩;(iterate 2 refine⟨.row rfl,?_⟩);refine⟨.pool rfl (by first|rfl|(rw[eop])|(rw[hj2])),?_⟩;refine⟨.row rfl,?_⟩;refine⟨.pool rfl (by first|rfl|(rw[eop])|(rw[hj2])),?_⟩;refine⟨.row rfl,?_⟩;exact trivial)) rfl⟩
end Go.Ab
/- The solver:a clause attached,the bounds told of the two lists alone. -/
namespace Go.Ab
open Go Go.Proofs
open Nat (reduceAdd reduceSub)
set_option maxRecDepth 20000
set_option maxHeartbeats 4000000
attribute [local irreducible] bO AW aa bE aX AR bd aW bm bD fy fI aq
theorem pT (s:SR) (x y:Int) (r:List Int) (hc:s.cl s.nc=x::y::r) (OM:aq x≠aq y) (hx:0≤aq x∧(aq x).toNat<s.nw) (hy:0≤aq y∧(aq y).toNat<s.nw) (Tg: -1000000≤x∧x≤1000000) (CB: -1000000≤y∧y≤1000000)
  (hl:s.nc≤1000000) (Pr:(s.wl (aq x).toNat).length≤1000000) (OX:(s.wl (aq y).toNat).length≤1000000) (wj:s.nw≤1000000) (M3:r.length≤1000000):
  n8 Tryz.prog 57 11 (cu s) [.ptr 0 0,.pv (.lit (s.hc s.nc))] (fun h:Value×Value=>h.1.oneCell'=true∧h.2.oneCell'=true) (fun h=>cu (er (er {s with nc:=s.nc+1} x s.nc h.1) y s.nc h.2)) (fun _=>al s.nc):=by
 have dq:2≤(s.cl s.nc).length:=by rw[hc];simp
 have e0:=fz s.nc s.hc
 have e1:∀h,(bO s.nw h).length=s.nw:=fz s.nw
 simp only[cu,cv]
 refine n8.enter (n:=50) Tryz.func57 rfl rfl rfl rfl rfl (by decide) rfl (fun _=>rfl) fun g aU aT=>?_;refine nk ?_
 refine AW.tt 7 rfl fun dy dz=>?_
 (refine zq ?_;refine mP ?_;refine Ef ?_;refine zb ?_;refine aa.fz rfl rfl rfl rfl ?_;refine mP ?_;refine yd ?_;refine aa.ah 96 1 6 rfl rfl rfl rfl ?_;refine dX ?_;(with_reducible apply aa.iD);(iterate 5 exact rfl);(first|exact rfl|assumption|exact dy _|exact dz _ _|exact dO _|exact dP _ _);exact rfl;exact rfl;refine Q0 ?_;(with_reducible apply aa.bh);exact rfl;(first|exact .pv rfl|exact .own rfl|exact .nil rfl);(iterate 9 exact rfl);(first|omega|(simp only[List.length_map,List.length_append,List.length_cons,List.length_nil,List.length_drop,List.length_take,List.length_set,List.length_range,aL];omega));refine Dj ?_;refine aa.ah 96 1 6 rfl rfl rfl rfl ?_;(with_reducible apply aa.bG);(iterate 5 exact rfl);(first|exact rfl|assumption|exact dy _|exact dz _ _|exact dO _|exact dP _ _);(iterate 3 exact rfl);(with_reducible assumption);refine gM ?_;refine jL ?_;(with_reducible apply aa.nM 7);(iterate 8 exact rfl);(first|(with_reducible assumption)|omega|(simp only[ab,List.length_set];omega));(first|(with_reducible assumption)|omega|(simp only[ab,List.length_set];omega));(with_reducible apply aa.xY 7);(iterate 5 exact rfl);(first|(with_reducible assumption)|omega|(simp only[ab,List.length_set];omega));refine zm ?_;refine lf ?_)
 (refine Q0 ?_;apply AW.bM [25,24,5,4,0,1000] [1,2,3,4,5,6,7,8,10] (fun q:Nat×(Nat→Value)×(Nat→List Int)=>([(26,al q.1)]:List (Nat×AV))) (fun q:Nat×(Nat→Value)×(Nat→List Int)=>([(0,some (.box [.own 1 3 1 ((s.value).map encI),.own 2 3 1 ((s.level).map encI),.own 3 3 1 ((s.reason).map encI),.pv (.lit (s.hl 0)),.own 5 3 1 ((s.marks).map encI),al (s.low),.own 6 25 1 (bO (s.nc+1) s.hc),.own 8 25 1 (bO s.nw q.2.1),al (s.head),al (s.added),aF (s.broken),.own 10 44 3 ((s.proof).map j6),al 0,.pv (ec (s.model)),.pv (ec (s.core))])),(9,some (.pool 3 (eJ q.2.1 q.2.2)))]:List (Nat×Option Ob))) (fun q:Nat×(Nat→Value)×(Nat→List Int)=>RK s x y q.1 q.2.1 q.2.2) (fun q:Nat×(Nat→Value)×(Nat→List Int)=>2 - q.1) (((0:Nat),s.hw,s.wl));(conv=>lhs;simp only[Nf.gQ,Nf.all,Nat.reduceBEq,reduceAdd,reduceSub]);(all_goals skip))
 ·exact⟨by omega,fun _=>⟨rfl,rfl⟩,fun h=>by omega,fun h=>by omega⟩
 ·exact aO rfl (by(refine⟨.ai (by first|rfl|(rw[← aP])|exact aP _ _),?_⟩;refine⟨.ai (by first|rfl|(rw[← aP])|exact aP _ _),?_⟩;refine⟨.ai (by first|rfl|(rw[← aP])|exact aP _ _),?_⟩;refine⟨.ai (by first|rfl|(rw[← aP])|exact aP _ _),?_⟩;refine⟨.ai (by first|rfl|(rw[← aP])|exact aP _ _),?_⟩;(iterate 2 refine⟨.eq rfl rfl,?_⟩);exact trivial)) (by(refine⟨.box _ rfl ?_,?_⟩;refine⟨.ak (by first|rfl|(rw[← aP])|exact aP _ _) rfl,?_⟩;refine⟨.ak (by first|rfl|(rw[← aP])|exact aP _ _) rfl,?_⟩;refine⟨.ak (by first|rfl|(rw[← aP])|exact aP _ _) rfl,?_⟩;refine⟨.ai (by first|rfl|(rw[← aP])|exact aP _ _),?_⟩;refine⟨.ak (by first|rfl|(rw[← aP])|exact aP _ _) rfl,?_⟩;refine⟨.ai (by first|rfl|(rw[← aP])|exact aP _ _),?_⟩;refine⟨.ak (by first|rfl|(rw[← aP])|exact aP _ _) rfl,?_⟩;refine⟨.ak (by first|rfl|(rw[← aP])|exact aP _ _) rfl,?_⟩;refine⟨.ai (by first|rfl|(rw[← aP])|exact aP _ _),?_⟩;refine⟨.ai (by first|rfl|(rw[← aP])|exact aP _ _),?_⟩;refine⟨.ai (by first|rfl|(rw[← aP])|exact aP _ _),?_⟩;refine⟨.ak (by first|rfl|(rw[← aP])|exact aP _ _) rfl,?_⟩;refine⟨.ai (by first|rfl|(rw[← aP])|exact aP _ _),?_⟩;refine⟨.bF (by first|rfl|(rw[← aP])|exact aP _ _),?_⟩;refine⟨.bF (by first|rfl|(rw[← aP])|exact aP _ _),?_⟩;exact trivial;refine⟨.pool rfl (by first|rfl|(rw[← aP])|exact aP _ _),?_⟩;(iterate 3 refine⟨.row rfl,?_⟩);refine⟨.pool rfl (by first|rfl|(rw[← aP])|exact aP _ _),?_⟩;(iterate 2 refine⟨.row rfl,?_⟩);refine⟨.pool rfl (by first|rfl|(rw[← aP])|exact aP _ _),?_⟩;(iterate 2 refine⟨.row rfl,?_⟩);exact trivial)) rfl
 rintro⟨k,hw,wl⟩ ⟨hk,i0,i1,i2⟩
 simp only at hk i0 i1 i2
 by_cases aM:k<2
 ·have Eo:(k:Int).toNat<(s.cl s.nc).length:=by omega
  obtain⟨z,hz⟩:∃z,z=(s.cl s.nc)[(k:Int).toNat]:=⟨_,rfl⟩
  have wg:(0≤aq z∧(aq z).toNat<s.nw)∧ -1000000≤z∧z≤1000000:=by
   have hk2:k=0∨k=1:=by omega
   rcases hk2 with rfl|rfl
   ·have e:z=x:=by rw[hz];simp [hc]
    rw[e];exact⟨hx,Tg⟩
   ·have e:z=y:=by rw[hz];simp [hc]
    rw[e];exact⟨hy,CB⟩
  have gz:(k=0→z=x)∧(k=1→z=y):=⟨by rintro rfl;rw[hz];simp [hc],by rintro rfl;rw[hz];simp [hc]⟩
  have hw2:(wl (aq z).toNat).length≤2000000:=by
   have hk2:k=0∨k=1:=by omega
   rcases hk2 with rfl|rfl
   ·obtain⟨_,rfl⟩:=i0 rfl
    rw[gz.1 rfl];omega
   ·obtain⟨_,_,_,rfl⟩:=i1 rfl
    rw[gz.2 rfl,aQ _ _ (fun e=>OM (by omega))];omega
  rw[hz] at wg hw2
  obtain⟨⟨r1,r2⟩,r3⟩:=wg
  have ue:=o9 _ r3
  (refine uG ?_;(with_reducible apply aa.tO 7);(iterate 8 exact rfl);(first|(with_reducible assumption)|omega|(simp only[ab,List.length_set];omega));(first|(with_reducible assumption)|omega|(simp only[ab,List.length_set];omega));(first|(with_reducible assumption)|omega|(simp only[ab,List.length_set];omega));(focus ((with_reducible apply aa.aA 7);(iterate 5 exact rfl);(focus (intro h_;cases h_;done));rotate_left;(first|(with_reducible assumption)|omega|(simp only[ab,List.length_set];omega))));refine eO ?_;refine AW.bN [0,1,2,3,4,6,7,8,9,10,14] [18] rfl (by assumption) (by kernel_rfl) (by kernel_rfl) rfl ?_;show aa .held _ _ _ [_,_,_,_,_,_,_,_,_,_,_] _ _;refine rC ?_;refine zm ?_;refine rC ?_;(iterate 2 refine zm ?_);refine Q4 ?_;intro k_ cR;refine Q0 ?_;apply AR.cut [14,10,9,8,7,6,4,3,2,1,0,5,11,12,13,15];intro jt;apply AR.cut [14,10,9,8,7,6,4,3,2,1,0,5,11,12,15];intro nB;apply AR.cut [14,10,9,8,7,6,4,3,2,1,0,5,11,15];intro mW;apply AR.cut [14,10,9,8,7,6,4,3,2,1,0,5,15];intro nq;(refine AR.ck (i:=5) (j:=15) rfl (by kernel_rfl) rfl rfl ?_ ?_<;>intro g_ ag bw);refine zA (ue) ?_;refine Q4 ?_;(refine AR.ck (i:=11) (j:=15) rfl (by kernel_rfl) rfl rfl ?_ ?_<;>intro g_ ag bw);refine zA (ue) ?_;refine Q4 ?_;(refine AR.ck (i:=12) (j:=15) rfl (by kernel_rfl) rfl rfl ?_ ?_<;>intro g_ ag bw);refine oX ?_;(refine AR.ck (i:=13) (j:=15) rfl (by kernel_rfl) rfl rfl ?_ ?_<;>intro g_ ag bw);refine aa.dK rfl rfl rfl rfl (fun h_=>by cases h_) (by omega) ?_;refine Q4 ?_;refine AR.ba (i:=15) rfl (by kernel_rfl) rfl ?_;intro g_ ag bw;(with_reducible apply aa.iD);(iterate 5 exact rfl);(first|exact rfl|assumption|exact dy _|exact dz _ _|exact dO _|exact dP _ _);exact rfl;exact rfl;refine im ?_;(try (conv=>rhs;simp only[Nf.cP,Nf.all,Nat.reduceBEq,reduceAdd,reduceSub]));exact rK;(with_reducible apply aa.iD);(iterate 5 exact rfl);(first|exact rfl|assumption|exact dy _|exact dz _ _|exact dO _|exact dP _ _);exact rfl;exact rfl;refine im ?_;(try (conv=>rhs;simp only[Nf.cP,Nf.all,Nat.reduceBEq,reduceAdd,reduceSub]));exact Bc;(with_reducible apply aa.iD);(iterate 5 exact rfl);(first|exact rfl|assumption|exact dy _|exact dz _ _|exact dO _|exact dP _ _);exact rfl;exact rfl;refine im ?_;(try (conv=>rhs;simp only[Nf.cP,Nf.all,Nat.reduceBEq,reduceAdd,reduceSub]));refine o8 ?_;exact AR.perm (by kernel_rfl) mW;(with_reducible apply aa.iD);(iterate 5 exact rfl);(first|exact rfl|assumption|exact dy _|exact dz _ _|exact dO _|exact dP _ _);exact rfl;exact rfl;refine im ?_;(try (conv=>rhs;simp only[Nf.cP,Nf.all,Nat.reduceBEq,reduceAdd,reduceSub]));refine o8 ?_;exact AR.perm (by kernel_rfl) nq;(with_reducible apply aa.iD);(iterate 5 exact rfl);(first|exact rfl|assumption|exact dy _|exact dz _ _|exact dO _|exact dP _ _);exact rfl;exact rfl;refine im ?_;refine AR.ba (i:=5) rfl (by kernel_rfl) rfl ?_;intro g_ ag bw;refine zA (ue) ?_;refine Q4 ?_;(try (conv=>rhs;simp only[Nf.cP,Nf.all,Nat.reduceBEq,reduceAdd,reduceSub]));refine AR.meet nq (by kernel_rfl) (fun g_=>aO rfl ?_ ?_ rfl);(iterate 24 refine⟨.eq rfl rfl,?_⟩);exact trivial;exact MX;refine AR.ba (i:=11) rfl (by kernel_rfl) rfl ?_;intro g_ ag bw;refine zA (ue) ?_;refine Q4 ?_;(try (conv=>rhs;simp only[Nf.cP,Nf.all,Nat.reduceBEq,reduceAdd,reduceSub]));refine AR.meet mW (by kernel_rfl) (fun g_=>aO rfl ?_ ?_ rfl);(iterate 25 refine⟨.eq rfl rfl,?_⟩);exact trivial;exact MX;refine AR.ba (i:=12) rfl (by kernel_rfl) rfl ?_;intro g_ ag bw;refine oX ?_;(try (conv=>rhs;simp only[Nf.cP,Nf.all,Nat.reduceBEq,reduceAdd,reduceSub]));refine AR.meet nB (by kernel_rfl) (fun g_=>aO rfl ?_ ?_ rfl);(iterate 26 refine⟨.eq rfl rfl,?_⟩);exact trivial;exact MX;refine AR.ba (i:=13) rfl (by kernel_rfl) rfl ?_;intro g_ ag bw;refine aa.dK rfl rfl rfl rfl (fun h_=>by cases h_) (by omega) ?_;refine Q4 ?_;(try (conv=>rhs;simp only[Nf.cP,Nf.all,Nat.reduceBEq,reduceAdd,reduceSub]));refine AR.meet jt (by kernel_rfl) (fun g_=>aO rfl ?_ ?_ rfl);(iterate 27 refine⟨.eq rfl rfl,?_⟩);exact trivial;exact MX;refine AR.ba (i:=16) rfl (by kernel_rfl) rfl ?_;intro g_ ag bw;(with_reducible apply aa.gr 9);exact rfl;exact rfl;(first|exact .pv rfl|exact .own rfl|exact .nil rfl);(iterate 8 exact rfl);omega;(intro v_ DZ);refine im ?_;refine AR.c9 [17] (by kernel_rfl) (by kernel_rfl) (by kernel_rfl) (by kernel_rfl) ?_;intro g_ ag;show aa .held _ _ _ [_] _ _;refine oX ?_;intro k_ cR;refine Q0 ?_;refine AR.cK (i:=18) rfl (by kernel_rfl) rfl (by kernel_rfl) ?_;intro g_ ag aJ;(with_reducible apply aa.bQ);(iterate 4 exact rfl);(first|exact rfl|assumption|exact dy _|exact dz _ _|exact dO _|exact dP _ _);(iterate 3 exact rfl);refine pM ?_;refine jB ?_)
  rw[← hz] at*
  refine⟨(k+1,aC hw (aq z).toNat v_,aC wl (aq z).toNat (wl (aq z).toNat++ [(s.nc:Int)])),⟨by omega,fun h=>by simp at h,fun h=>?_,fun h=>?_⟩,by show 2 - (k+1)<2 - k;omega,aO rfl (by(refine GF ?_;(iterate 4 refine⟨.ai (by first|rfl|exact bk _ r2 _),?_⟩);exact ta)) (by(refine⟨.box _ rfl ?_,?_⟩;(iterate 3 refine⟨.ak (by first|rfl|exact bk _ r2 _) rfl,?_⟩);refine GF ?_;refine⟨.ak (by first|rfl|exact bk _ r2 _) rfl,?_⟩;refine GF ?_;(iterate 2 refine⟨.ak (by first|rfl|exact bk _ r2 _) rfl,?_⟩);(iterate 3 refine⟨.ai (by first|rfl|exact bk _ r2 _),?_⟩);refine⟨.ak (by first|rfl|exact bk _ r2 _) rfl,?_⟩;refine GF ?_;(iterate 2 refine⟨.bF (by first|rfl|exact bk _ r2 _),?_⟩);exact trivial;refine HK ?_;(iterate 3 refine⟨.row rfl,?_⟩);refine HK ?_;(iterate 2 refine⟨.row rfl,?_⟩);refine HK ?_;(iterate 2 refine⟨.row rfl,?_⟩);exact trivial)) rfl⟩
  ·obtain rfl:k=0:=by simpa using h
   obtain⟨rfl,rfl⟩:=i0 rfl
   rw[gz.1 rfl]
   exact⟨v_,DZ,rfl,rfl⟩
  ·obtain rfl:k=1:=by simpa using h
   obtain⟨h1,q1,rfl,rfl⟩:=i1 rfl
   rw[gz.2 rfl]
   exact⟨h1,v_,q1,DZ,rfl,rfl⟩
 ·obtain rfl:k=2:=by omega
  obtain⟨h1,h2,q1,q2,rfl,rfl⟩:=i2 rfl
  (refine dZ ?_;refine iO ?_;refine zo ?_;refine AW.e8 rfl rfl ?_;refine r8 ?_;refine ez ?_;refine fL ?_)
  (apply cg (((h1,h2):Value×Value)) (⟨q1,q2⟩);((exact bA.one (.tmp rfl rfl)));((exact ui));((exact Q2));exact rfl)
end Go.Ab
/- The solver:a learned clause asserted,walked. -/
namespace Go.Ab
open Go Go.Proofs
open Nat (reduceAdd reduceSub)
set_option maxRecDepth 20000
set_option maxHeartbeats 8000000
section
variable {P:Program} {g:au} {δ:DS} {Q:Exit→DS→Prop}
theorem AW.F3 (h:Stop (AW P g .ret Q δ)):AW P g .ret Q δ:=h
end
theorem Dv {l:List Int} (h:l.length=1) (h0:(0:Int).toNat<l.length):l=[l[(0:Int).toNat]]:=by
 match l,h with
 |[a],_=>rfl
theorem Jw {c:List Int} {m:Nat} (h2:2≤c.length) (h:1≤m) (hm:m<c.length):c0 ((c.set 1 c[m]).set m (c[1]'(by omega)))=c0 c∧c1 ((c.set 1 c[m]).set m (c[1]'(by omega)))=c[m]:=by
 match c,m,h,hm,h2 with
 |a::b::r,1,_,_,_=>exact⟨rfl,rfl⟩
 |a::b::r,k+2,_,hk,_=>exact⟨rfl,by simp [c1]⟩
theorem Dn {D:List Int} (h:2≤D.length):D=c0 D::c1 D::D.drop 2:=by
 match D,h with
 |a::b::r,_=>rfl
theorem kD {l:List Int} {m:Nat} (h:1≤m) (hm:m<l.length):l[m]∈l.tail:=by
 match l,m,h,hm with
 |a::r,k+1,_,hk=>simp
theorem qe {u:SR} {l:List Int} {m:Nat} (h:∀p (hp:p<l.length) (hq:m<l.length),1≤p→p<l.length→aE u l[p]≤aE u l[m]) (hm:m<l.length):∀x∈l.tail,aE u x≤aE u l[m]:=fun x hx=>by
 obtain⟨i,hi,rfl⟩:=List.getElem_of_mem hx
 rw[List.length_tail] at hi
 rw[List.getElem_tail]
 exact h (i+1) (by omega) hm (by omega) (by omega)
def CC (u q:SR):Prop:=
 (∃p h,u.cl u.nc=[p]∧q=a_ {u with hc:=aC u.hc u.nc (.slice none 0 0),cl:=aC u.cl u.nc [],proof:=u.proof++ [u.cl u.nc]} p (-1) h)∨
 ∃l' h1 h2 h,2≤(u.cl u.nc).length∧fF (u.cl u.nc) l'∧c0 l'=c0 (u.cl u.nc)∧c1 l'∈(u.cl u.nc).tail∧(∀x∈(u.cl u.nc).tail,aE u x≤aE u (c1 l'))∧q=a_ (er (er {u with nc:=u.nc+1,cl:=aC u.cl u.nc l',proof:=u.proof++ [u.cl u.nc]} (c0 l') u.nc h1) (c1 l') u.nc h2) (c0 l') u.nc h
attribute [local irreducible] bO AW aa bE aX AR bd aW bm bD fy fI aq
theorem AO (n:Nat) (u:SR) (hn:n≤20000) (hl:0<(u.cl u.nc).length) (eN:(u.cl u.nc).length≤1000000) (jD:∀x∈u.cl u.nc,Lit n x) (dB:(u.cl u.nc).Nodup) (hv:u.value.length=n+1) (l6:u.level.length=n+1) (hr:u.reason.length=n+1) (Aa:(u.ll 0).length≤1000000) (hm:u.marks.length≤1000000) (hp:u.proof.length≤1000000) (tL:u.nc≤1000000) (wj:u.nw=2*n+2) (ug:∀x,Lit n x→(u.wl (aq x).toNat).length≤1000000):
  n8 Tryz.prog 62 11 (cu u) [.ptr 0 0,.pv (.lit (u.hc u.nc))] (fun q:SR=>CC u q) (fun q=>cu q) (fun _=> .tup []):=by
 have iJ:=AJ u eN hp hl
 have hz0:(0:Int).toNat<(u.cl u.nc).length:=show 0<_ by omega
 have hx0:=jD _ (List.getElem_mem hz0)
 obtain⟨_,_,_⟩:=hx0
 by_cases h1:(u.cl u.nc).length=1
 ·have El:=kX {u with proof:=u.proof++ [u.cl u.nc]} (u.cl u.nc)[(0:Int).toNat] (-1) (by omega) (by show _<(u.value.length:Int)∧_<(u.value.length:Int);omega) (by show u.level.length=u.value.length;omega) (by show u.reason.length=u.value.length;omega) Aa hm
  simp only[cu,cv] at iJ El ⊢
  refine n8.enter (n:=87) Tryz.func62 rfl rfl rfl rfl rfl (by decide) rfl (fun _=>rfl) fun g aU aT=>?_;refine nk ?_
  (refine rV ?_;refine zm ?_;refine zX (iJ) ?_;refine eV ?_;refine zd ?_;refine jL ?_;refine aa.iB 7 rfl rfl rfl rfl rfl ?_;refine lh ?_;refine zc ?_;refine zo ?_;refine wR ?_;show aa .held _ _ _ [_,_,_,_,_] _ _;refine kc ?_;(with_reducible apply aa.aB 7);(iterate 8 exact rfl);(first|(with_reducible assumption)|omega|(simp only[ab,List.length_set];omega));(first|(with_reducible assumption)|omega|(simp only[ab,List.length_set];omega));refine Q4 ?_;intro k_ cR;refine mg ?_;intro g_ ag bw;(focus ((with_reducible apply aa.aA 7);(iterate 5 exact rfl);(focus (intro h_;cases h_;done));rotate_left;(first|(with_reducible assumption)|omega|(simp only[ab,List.length_set];omega))));refine qQ ?_;intro g_ ag aJ;(with_reducible apply aa.eH (hf:=El));(with_reducible assumption);(iterate 3 exact rfl);(repeat (first|exact trivial|refine⟨rfl,?_⟩));(repeat (first|exact .nil|(refine .cons ?_ ?_;(first|exact .eq rfl rfl|exact .nil _|exact .any _))));(intro x_;exact rfl);exact rfl;(repeat (first|exact trivial|refine⟨rfl,?_⟩|refine⟨aN,?_⟩));(intro x_;(repeat (first|exact trivial|refine⟨rfl,?_⟩|refine⟨aN,?_⟩)));(intro x_;exact rfl);exact rfl;(intro x_ kH);refine Q1 ?_;refine mE ?_;refine AW.F3 ?_)
  refine Stop.go ?_
  refine AW.CN 7 u.nc rfl ?_
  (try (conv=>rhs;simp only[Nf.cP,Nf.all,Nat.reduceBEq,reduceAdd,reduceSub]))
  have e1:=Dv h1 hz0
  (refine AW.ret ?_;refine bZ ?_)
  (apply cg ((a_ {u with hc:=aC u.hc u.nc (.slice none 0 0),cl:=aC u.cl u.nc [],proof:=u.proof++ [u.cl u.nc]} (u.cl u.nc)[(0:Int).toNat] (-1) x_:SR)) ((.inl ⟨(u.cl u.nc)[(0:Int).toNat],x_,e1,rfl⟩));((exact bA.none));((exact mn));((exact Mp));exact rfl)
 ·have h2:2≤(u.cl u.nc).length:=by omega
  have hz1:(1:Int).toNat<(u.cl u.nc).length:=show 1<_ by omega
  simp only[cu,cv] at iJ ⊢
  refine n8.enter (n:=87) Tryz.func62 rfl rfl rfl rfl rfl (by decide) rfl (fun _=>rfl) fun g aU aT=>?_;refine nk ?_
  (refine rV ?_;refine zm ?_;refine zX (iJ) ?_;refine eV ?_;refine zd ?_;refine jL ?_;refine aa.iB 7 rfl rfl rfl rfl rfl ?_;refine lh ?_;refine lP ?_;refine dZ ?_;refine kh ?_;refine ez ?_;refine aa.iB 7 rfl rfl rfl rfl rfl ?_;refine zm ?_;refine lf ?_)
  (refine Q0 ?_;apply AW.bM [20,0,1,1000] [0,1,2,3,4,5,6,7,8,9,10] (fun q:Nat×Nat=>([(4,al (q.1:Nat)),(21,al (q.2:Nat))]:List (Nat×AV))) (fun q:Nat×Nat=>([]:List (Nat×Option Ob))) (fun q:Nat×Nat=>(1≤q.1∧q.1<(u.cl u.nc).length∧q.2≤(u.cl u.nc).length∧∀p (hp:p<(u.cl u.nc).length) (hq:q.1<(u.cl u.nc).length),1≤p→p<q.2→aE u (u.cl u.nc)[p]≤aE u (u.cl u.nc)[q.1])) (fun q:Nat×Nat=>(u.cl u.nc).length - q.2) (((1,0):Nat×Nat));(conv=>lhs;simp only[Nf.gQ,Nf.all,Nat.reduceBEq,reduceAdd,reduceSub]);(all_goals skip))
  ·exact⟨Nat.le_refl _,h2,Nat.zero_le _,fun p _ _ q1 q2=>by omega⟩
  ·exact aO rfl (by(refine⟨.ai (by rfl),?_⟩;(iterate 2 refine⟨.ai (by rfl),?_⟩);refine⟨.eq rfl rfl,?_⟩;refine⟨.ai (by rfl),?_⟩;refine⟨.eq rfl rfl,?_⟩;exact trivial)) (by(refine⟨.box _ rfl ?_,?_⟩;(iterate 3 refine⟨.ak (by rfl) rfl,?_⟩);refine⟨.ai (by rfl),?_⟩;refine⟨.ak (by rfl) rfl,?_⟩;refine⟨.ai (by rfl),?_⟩;(iterate 2 refine⟨.ak (by rfl) rfl,?_⟩);(iterate 3 refine⟨.ai (by rfl),?_⟩);refine⟨.ak (by rfl) rfl,?_⟩;refine⟨.ai (by rfl),?_⟩;(iterate 2 refine⟨.bF (by rfl),?_⟩);exact trivial;(iterate 3 refine⟨.row rfl,?_⟩);refine⟨.pool rfl (by rfl),?_⟩;(iterate 2 refine⟨.row rfl,?_⟩);refine⟨.pool rfl (by rfl),?_⟩;refine⟨.row rfl,?_⟩;refine⟨.pool rfl (by rfl),?_⟩;refine⟨.row rfl,?_⟩;exact trivial)) rfl
  rintro⟨m,i⟩ ⟨hm1,hm2,hi,iG⟩
  simp only at hm1 hm2 hi iG
  by_cases aM:i<(u.cl u.nc).length
  ·have ri:(i:Int).toNat<(u.cl u.nc).length:=by omega
   have sK:(m:Int).toNat<(u.cl u.nc).length:=by omega
   obtain⟨a1,a2,a3⟩:=jD _ (List.getElem_mem ri)
   obtain⟨b1,b2,b3⟩:=jD _ (List.getElem_mem sK)
   have hv0:0≤max (u.cl u.nc)[(i:Int).toNat] (-(u.cl u.nc)[(i:Int).toNat]):=by omega
   have hv1:(max (u.cl u.nc)[(i:Int).toNat] (-(u.cl u.nc)[(i:Int).toNat])).toNat<u.level.length:=by omega
   have hw0:0≤max (u.cl u.nc)[(m:Int).toNat] (-(u.cl u.nc)[(m:Int).toNat]):=by omega
   have hw1:(max (u.cl u.nc)[(m:Int).toNat] (-(u.cl u.nc)[(m:Int).toNat])).toNat<u.level.length:=by omega
   have g1:aE u (u.cl u.nc)[i]=u.level[(max (u.cl u.nc)[(i:Int).toNat] (-(u.cl u.nc)[(i:Int).toNat])).toNat]:=aZ hv1
   have g2:aE u (u.cl u.nc)[m]=u.level[(max (u.cl u.nc)[(m:Int).toNat] (-(u.cl u.nc)[(m:Int).toNat])).toNat]:=aZ hw1
   have G7:¬(1≤i∧aE u (u.cl u.nc)[m]<aE u (u.cl u.nc)[i])→∀p (hp:p<(u.cl u.nc).length) (hq:m<(u.cl u.nc).length),1≤p→p<i+1→aE u (u.cl u.nc)[p]≤aE u (u.cl u.nc)[m]:=fun ew p hp hq q1 q2=>by
    by_cases e:p=i
    ·subst e
     apply Int.not_lt.1
     exact fun hh=>ew ⟨q1,hh⟩
    ·exact iG p hp hq q1 (by omega)
   by_cases dF:0<i
   ·have hi0':decide ((i:Int)>0)=true:=by simpa using dF
    by_cases P7:u.level[(max (u.cl u.nc)[(m:Int).toNat] (-(u.cl u.nc)[(m:Int).toNat])).toNat]<u.level[(max (u.cl u.nc)[(i:Int).toNat] (-(u.cl u.nc)[(i:Int).toNat])).toNat]
    ·have qc:∀p (hp:p<(u.cl u.nc).length) (hq:i<(u.cl u.nc).length),1≤p→p<i+1→aE u (u.cl u.nc)[p]≤aE u (u.cl u.nc)[i]:=fun p hp hq q1 q2=>by
      by_cases e:p=i
      ·subst e;exact Int.le_refl _
      ·have:=iG p hp hm2 q1 (by omega)
       omega
     (refine uG ?_;refine zm ?_;refine kh ?_;(with_reducible apply AW.bu);exact rfl;exact rfl;kernel_rfl;(with_reducible assumption);refine zm ?_;refine qq ?_;refine Gw ?_;refine zm ?_;refine zt ?_;(with_reducible apply aa.aB 7);(iterate 8 exact rfl);(first|(with_reducible assumption)|omega|(simp only[ab,List.length_set];omega));(first|(with_reducible assumption)|omega|(simp only[ab,List.length_set];omega));refine zt ?_;(focus ((with_reducible apply aa.aA 7);(iterate 5 exact rfl);(focus (intro h_;cases h_;done));rotate_left;(first|(with_reducible assumption)|omega|(simp only[ab,List.length_set];omega))));refine j8 ?_;refine zm ?_;refine zt ?_;(with_reducible apply aa.aB 7);(iterate 8 exact rfl);(first|(with_reducible assumption)|omega|(simp only[ab,List.length_set];omega));(first|(with_reducible assumption)|omega|(simp only[ab,List.length_set];omega));refine zt ?_;(focus ((with_reducible apply aa.aA 7);(iterate 5 exact rfl);(focus (intro h_;cases h_;done));rotate_left;(first|(with_reducible assumption)|omega|(simp only[ab,List.length_set];omega))));refine EX ?_;(focus ((with_reducible apply aa.aD);(iterate 4 exact rfl);(focus (intro h_;cases h_;done));rotate_left;(first|omega|exact Nat.zero_lt_one|(simp;done))));refine Gw ?_;refine zm ?_;refine zt ?_;(with_reducible apply aa.aB 7);(iterate 8 exact rfl);(first|(with_reducible assumption)|omega|(simp only[ab,List.length_set];omega));(first|(with_reducible assumption)|omega|(simp only[ab,List.length_set];omega));refine zt ?_;(focus ((with_reducible apply aa.aA 7);(iterate 5 exact rfl);(focus (intro h_;cases h_;done));rotate_left;(first|(with_reducible assumption)|omega|(simp only[ab,List.length_set];omega))));refine j8 ?_;refine zm ?_;refine zt ?_;(with_reducible apply aa.aB 7);(iterate 8 exact rfl);(first|(with_reducible assumption)|omega|(simp only[ab,List.length_set];omega));(first|(with_reducible assumption)|omega|(simp only[ab,List.length_set];omega));refine zt ?_;(focus ((with_reducible apply aa.aA 7);(iterate 5 exact rfl);(focus (intro h_;cases h_;done));rotate_left;(first|(with_reducible assumption)|omega|(simp only[ab,List.length_set];omega))));refine EX ?_;(focus ((with_reducible apply aa.aD);(iterate 4 exact rfl);(focus (intro h_;cases h_;done));rotate_left;(first|omega|exact Nat.zero_lt_one|(simp;done))));refine zt ?_;refine aa.gtr rfl rfl rfl rfl rfl ?_;refine zT ?_;refine zd ?_;refine zc ?_;refine lq ?_;refine zm ?_;refine za ?_;refine aa.nil ?_;refine we ?_;refine l5 ?_)
     exact⟨((i,i+1):Nat×Nat),⟨dF,aM,aM,qc⟩,by show(u.cl u.nc).length - (i+1)<(u.cl u.nc).length - i;omega,aO rfl (by(refine⟨.ai (by rfl),?_⟩;(iterate 2 refine⟨.ai (by rfl),?_⟩);refine⟨.eq rfl rfl,?_⟩;refine⟨.ai (by rfl),?_⟩;refine⟨.eq rfl rfl,?_⟩;exact trivial)) (by(refine⟨.box _ rfl ?_,?_⟩;(iterate 3 refine⟨.ak (by rfl) rfl,?_⟩);refine⟨.ai (by rfl),?_⟩;refine⟨.ak (by rfl) rfl,?_⟩;refine⟨.ai (by rfl),?_⟩;(iterate 2 refine⟨.ak (by rfl) rfl,?_⟩);(iterate 3 refine⟨.ai (by rfl),?_⟩);refine⟨.ak (by rfl) rfl,?_⟩;refine⟨.ai (by rfl),?_⟩;(iterate 2 refine⟨.bF (by rfl),?_⟩);exact trivial;(iterate 3 refine⟨.row rfl,?_⟩);refine⟨.pool rfl (by rfl),?_⟩;(iterate 2 refine⟨.row rfl,?_⟩);refine⟨.pool rfl (by rfl),?_⟩;refine⟨.row rfl,?_⟩;refine⟨.pool rfl (by rfl),?_⟩;refine⟨.row rfl,?_⟩;exact trivial)) rfl⟩
    ·have de:=G7 (fun q=>P7 (by rw[← g1,← g2];exact q.2))
     (refine uG ?_;refine zm ?_;refine kh ?_;(with_reducible apply AW.bu);exact rfl;exact rfl;kernel_rfl;(with_reducible assumption);refine zm ?_;refine qq ?_;refine Gw ?_;refine zm ?_;refine zt ?_;(with_reducible apply aa.aB 7);(iterate 8 exact rfl);(first|(with_reducible assumption)|omega|(simp only[ab,List.length_set];omega));(first|(with_reducible assumption)|omega|(simp only[ab,List.length_set];omega));refine zt ?_;(focus ((with_reducible apply aa.aA 7);(iterate 5 exact rfl);(focus (intro h_;cases h_;done));rotate_left;(first|(with_reducible assumption)|omega|(simp only[ab,List.length_set];omega))));refine j8 ?_;refine zm ?_;refine zt ?_;(with_reducible apply aa.aB 7);(iterate 8 exact rfl);(first|(with_reducible assumption)|omega|(simp only[ab,List.length_set];omega));(first|(with_reducible assumption)|omega|(simp only[ab,List.length_set];omega));refine zt ?_;(focus ((with_reducible apply aa.aA 7);(iterate 5 exact rfl);(focus (intro h_;cases h_;done));rotate_left;(first|(with_reducible assumption)|omega|(simp only[ab,List.length_set];omega))));refine EX ?_;(focus ((with_reducible apply aa.aD);(iterate 4 exact rfl);(focus (intro h_;cases h_;done));rotate_left;(first|omega|exact Nat.zero_lt_one|(simp;done))));refine Gw ?_;refine zm ?_;refine zt ?_;(with_reducible apply aa.aB 7);(iterate 8 exact rfl);(first|(with_reducible assumption)|omega|(simp only[ab,List.length_set];omega));(first|(with_reducible assumption)|omega|(simp only[ab,List.length_set];omega));refine zt ?_;(focus ((with_reducible apply aa.aA 7);(iterate 5 exact rfl);(focus (intro h_;cases h_;done));rotate_left;(first|(with_reducible assumption)|omega|(simp only[ab,List.length_set];omega))));refine j8 ?_;refine zm ?_;refine zt ?_;(with_reducible apply aa.aB 7);(iterate 8 exact rfl);(first|(with_reducible assumption)|omega|(simp only[ab,List.length_set];omega));(first|(with_reducible assumption)|omega|(simp only[ab,List.length_set];omega));refine zt ?_;(focus ((with_reducible apply aa.aA 7);(iterate 5 exact rfl);(focus (intro h_;cases h_;done));rotate_left;(first|(with_reducible assumption)|omega|(simp only[ab,List.length_set];omega))));refine EX ?_;(focus ((with_reducible apply aa.aD);(iterate 4 exact rfl);(focus (intro h_;cases h_;done));rotate_left;(first|omega|exact Nat.zero_lt_one|(simp;done))));refine zt ?_;refine aa.gtr rfl rfl rfl rfl rfl ?_;refine zT ?_;refine zd ?_;refine rL ?_;refine we ?_;refine l5 ?_)
     exact PX
   ·have hi0':decide ((i:Int)>0)=false:=by simpa using dF
    have de:=G7 (fun q=>by omega)
    (refine uG ?_;refine zm ?_;refine kh ?_;(with_reducible apply AW.bu);exact rfl;exact rfl;kernel_rfl;(with_reducible assumption);refine zm ?_;refine qq ?_;(iterate 35 refine aa.gG rfl rfl rfl rfl rfl rfl (by first|omega|decide) ?_);refine zF ?_;refine kg ?_;refine we ?_;refine l5 ?_)
    exact PX
  ·obtain rfl:i=(u.cl u.nc).length:=by omega
   have sK:(m:Int).toNat<(u.cl u.nc).length:=by omega
   obtain⟨D,hD⟩:∃D,D=((u.cl u.nc).set (1:Int).toNat (u.cl u.nc)[(m:Int).toNat]).set (m:Int).toNat (u.cl u.nc)[(1:Int).toNat]:=⟨_,rfl⟩
   have hS2:(m:Int).toNat<(aC u.cl u.nc ((u.cl u.nc).set (1:Int).toNat (u.cl u.nc)[(m:Int).toNat]) u.nc).length:=by rw[ab,List.length_set];exact sK
   obtain⟨d0,d1⟩:=Jw h2 hm1 hm2
   have hDe:D=((u.cl u.nc).set 1 (u.cl u.nc)[m]).set m ((u.cl u.nc)[1]'(by omega)):=hD
   have hDp:fF (u.cl u.nc) D:=by rw[hDe];exact jM (i:=1) (k:=m) (by omega) hm2
   rw[← hDe] at d0 d1
   have hDl:2≤D.length:=by rw[hDp.len];exact h2
   have hz0D:(0:Int).toNat<(aC u.cl u.nc D u.nc).length:=by rw[ab];show 0<_;omega
   have Hh:(aC u.cl u.nc D u.nc)[(0:Int).toNat]=c0 D:=by
    have:∀(L:List Int) (hL:(0:Int).toNat<L.length),L=D→L[(0:Int).toNat]=c0 D:=fun L hL e=>by subst e;exact(aZ hL).symm
    exact this _ hz0D (ab _ _ _)
   have m0:Lit n (c0 D):=jD _ ((hDp.mem _).1 (eo hDl).1)
   have m1:Lit n (c1 D):=jD _ ((hDp.mem _).1 (eo hDl).2)
   have bx:c0 D≠c1 D:=fun e=>by
    rw[show c0 D=D[0] from aZ (by omega),show c1 D=D[1] from aZ (by omega)] at e
    have:=(List.getElem_inj (hDp.nd dB) (h₀:=by omega) (h₁:=by omega)).1 e
    omega
   have Pr:=ug _ m0
   have OX:=ug _ m1
   have i0:=cL m0
   have i1:=cL m1
   have ye:(D.drop 2).length≤1000000:=by rw[List.length_drop,hDp.len];omega
   obtain⟨_,_,_⟩:=m0
   obtain⟨_,_,_⟩:=m1
   have kT:=pT {u with cl:=aC u.cl u.nc D,proof:=u.proof++ [u.cl u.nc]} (c0 D) (c1 D) (D.drop 2) (by show aC u.cl u.nc D u.nc=_;rw[ab];exact Dn hDl) (fun e=>bx (cB (n:=n) ⟨by omega,by omega,by omega⟩ ⟨by omega,by omega,by omega⟩ (by rw[e]))) (by show 0≤aq (c0 D)∧_<u.nw;omega) (by show 0≤aq (c1 D)∧_<u.nw;omega) (by omega) (by omega) tL Pr OX (by show u.nw≤_;omega) ye
   have El:=fun h1 h2:Value=>kX (er (er {u with nc:=u.nc+1,cl:=aC u.cl u.nc D,proof:=u.proof++ [u.cl u.nc]} (c0 D) u.nc h1) (c1 D) u.nc h2) (aC u.cl u.nc D u.nc)[(0:Int).toNat] (u.nc:Nat) (by rw[Hh];omega) (by rw[Hh];show _<(u.value.length:Int)∧_<(u.value.length:Int);omega) (by show u.level.length=u.value.length;omega) (by show u.reason.length=u.value.length;omega) Aa hm
   simp only[cu,cv,er] at kT El
   (refine dZ ?_;refine yg ?_;refine zo ?_;refine AW.bN [0,3,4,5,7,8] [11] rfl (by assumption) (by kernel_rfl) (by kernel_rfl) rfl ?_;show aa .held _ _ _ [_,_,_,_,_,_] _ _;(iterate 3 refine zm ?_);(with_reducible apply aa.aB 7);(iterate 8 exact rfl);(first|(with_reducible assumption)|omega|(simp only[ab,List.length_set];omega));(first|(with_reducible assumption)|omega|(simp only[ab,List.length_set];omega));refine zm ?_;(with_reducible apply aa.aB 7);(iterate 8 exact rfl);(first|(with_reducible assumption)|omega|(simp only[ab,List.length_set];omega));(first|(with_reducible assumption)|omega|(simp only[ab,List.length_set];omega));refine Q4 ?_;intro k_ cR;refine Q0 ?_;(refine AR.free 1 (by kernel_rfl) rfl rfl rfl (by first|exact bq.bc rfl rfl|exact bq.cU rfl rfl|exact bq.nilCheck rfl rfl) ?_);(refine AR.free 2 (by kernel_rfl) rfl rfl rfl (by first|exact bq.bc rfl rfl|exact bq.cU rfl rfl|exact bq.nilCheck rfl rfl) ?_);apply AR.cut [2,1,8,7,5,4,3,0,6,9];intro jt;(refine AR.ck (i:=6) (j:=9) rfl (by kernel_rfl) rfl rfl ?_ ?_<;>intro g_ ag bw);(focus ((with_reducible apply aa.aA 7);(iterate 5 exact rfl);(focus (intro h_;cases h_;done));rotate_left;(first|(with_reducible assumption)|omega|(simp only[ab,List.length_set];omega))));refine FM ?_;intro g_ ag bw;(focus ((with_reducible apply aa.aA 7);(iterate 5 exact rfl);(focus (intro h_;cases h_;done));rotate_left;(first|(with_reducible assumption)|omega|(simp only[ab,List.length_set];omega))));refine Q4 ?_;(try (conv=>rhs;simp only[Nf.cP,Nf.all,Nat.reduceBEq,reduceAdd,reduceSub]));exact rK;(focus ((with_reducible apply aa.aA 7);(iterate 5 exact rfl);(focus (intro h_;cases h_;done));rotate_left;(first|(with_reducible assumption)|omega|(simp only[ab,List.length_set];omega))));refine wA ?_;intro g_ ag bw;(focus ((with_reducible apply aa.aA 7);(iterate 5 exact rfl);(focus (intro h_;cases h_;done));rotate_left;(first|(with_reducible assumption)|omega|(simp only[ab,List.length_set];omega))));refine Q4 ?_;(try (conv=>rhs;simp only[Nf.cP,Nf.all,Nat.reduceBEq,reduceAdd,reduceSub]));refine AR.meet jt (by kernel_rfl) (fun g_=>aO rfl ?_ ?_ rfl);(iterate 17 refine⟨.eq rfl rfl,?_⟩);exact trivial;exact HV;refine AR.c9 [10] (by kernel_rfl) (by kernel_rfl) (by kernel_rfl) (by kernel_rfl) ?_;intro g_ ag;show aa .held _ _ _ [_] _ _;(with_reducible apply aa.aB 7);(iterate 8 exact rfl);(first|(with_reducible assumption)|omega|(simp only[ab,List.length_set];omega));(first|(with_reducible assumption)|omega|(simp only[ab,List.length_set];omega));refine Q4 ?_;intro k_ cR;refine Q0 ?_;refine wK ?_;intro g_ ag aJ;(with_reducible apply aa.fh 7);(iterate 7 exact rfl);(first|(with_reducible assumption)|omega|(simp only[ab,List.length_set];omega));refine im ?_;refine mI ?_;intro g_ ag aJ;(with_reducible apply aa.aB 7);(iterate 8 exact rfl);(first|(with_reducible assumption)|omega|(simp only[ab,List.length_set];omega));(first|(with_reducible assumption)|omega|(simp only[ab,List.length_set];omega));refine Q4 ?_;refine rH ?_;intro g_ ag aJ;(with_reducible apply aa.fh 7);(iterate 7 exact rfl);(first|(with_reducible assumption)|omega|(simp only[ab,List.length_set];omega));refine mE ?_;(with_reducible apply AW.atR 11);(rw[dC]);(rw[ab]);(rw[← hD]);refine AW.Hi 11 ?_)
   refine Stop.go ?_
   have QA:True:=trivial
   (refine AW.bN [6,7] [8] rfl (by assumption) (by kernel_rfl) (by kernel_rfl) rfl ?_;show aa .held _ _ _ [_,_] _ _;refine A8 ?_;refine Q4 ?_;intro k_ cR;refine Q0 ?_;(refine AR.free 0 (by kernel_rfl) rfl rfl rfl (by first|exact bq.bc rfl rfl|exact bq.cU rfl rfl|exact bq.nilCheck rfl rfl) ?_);(refine AR.free 1 (by kernel_rfl) rfl rfl rfl (by first|exact bq.bc rfl rfl|exact bq.cU rfl rfl|exact bq.nilCheck rfl rfl) ?_);refine AR.free 2 (by kernel_rfl) rfl rfl rfl (bq.fieldAddr _ _ 0 rfl rfl rfl) ?_;(try (conv=>rhs;simp only[Nf.cP,Nf.all,Nat.reduceBEq,reduceAdd,reduceSub]));(refine AR.free 3 (by kernel_rfl) rfl rfl rfl (by first|exact bq.bc rfl rfl|exact bq.cU rfl rfl|exact bq.nilCheck rfl rfl) ?_);(refine AR.tX (i:=4) (j:=8) rfl (by kernel_rfl) rfl rfl (by kernel_rfl) ?_ ?_<;>intro g_ ag aJ);(with_reducible apply aa.aB 7);(iterate 8 exact rfl);(first|(with_reducible assumption)|omega|(simp only[ab,List.length_set];omega));(first|(with_reducible assumption)|omega|(simp only[ab,List.length_set];omega));refine Q4 ?_;(refine AR.tX (i:=5) (j:=8) rfl (by kernel_rfl) rfl rfl (by kernel_rfl) ?_ ?_<;>intro g_ ag aJ);(focus ((with_reducible apply aa.aA 7);(iterate 5 exact rfl);(focus (intro h_;cases h_;done));rotate_left;(first|(with_reducible assumption)|omega|(simp only[ab,List.length_set];omega))));refine Q4 ?_;refine DW ?_;intro g_ ag aJ;(with_reducible apply aa.eH (hf:=kT));(with_reducible assumption);(iterate 3 exact rfl);(repeat (first|exact trivial|refine⟨rfl,?_⟩));(repeat (first|exact .nil|(refine .cons ?_ ?_;(first|exact .eq rfl rfl|exact .nil _|exact .any _))));(intro x_;exact rfl);exact rfl;(repeat (first|exact trivial|refine⟨rfl,?_⟩|refine⟨aN,?_⟩));(intro x_;(repeat (first|exact trivial|refine⟨rfl,?_⟩|refine⟨aN,?_⟩)));(intro x_;exact rfl);exact rfl;(intro x_ kH);refine Q1 ?_;refine im ?_;refine BZ ?_;intro g_ ag aJ;(with_reducible apply aa.eH (hf:=(El _ _)));(with_reducible assumption);(iterate 3 exact rfl);(repeat (first|exact trivial|refine⟨rfl,?_⟩));(repeat (first|exact .nil|(refine .cons ?_ ?_;(first|exact .eq rfl rfl|exact .nil _|exact .any _))));(intro x_;exact rfl);exact rfl;(repeat (first|exact trivial|refine⟨rfl,?_⟩|refine⟨aN,?_⟩));(intro x_;(repeat (first|exact trivial|refine⟨rfl,?_⟩|refine⟨aN,?_⟩)));(intro x_;exact rfl);exact rfl;(intro x_ kH);refine Q1 ?_;refine pM ?_;(all_goals skip);rotate_left;(with_reducible apply aa.eH (hf:=kT));(with_reducible assumption);(iterate 3 exact rfl);(repeat (first|exact trivial|refine⟨rfl,?_⟩));(repeat (first|exact .nil|(refine .cons ?_ ?_;(first|exact .eq rfl rfl|exact .nil _|exact .any _))));(intro x_;exact rfl);exact rfl;(repeat (first|exact trivial|refine⟨rfl,?_⟩|refine⟨aN,?_⟩));(intro x_;(repeat (first|exact trivial|refine⟨rfl,?_⟩|refine⟨aN,?_⟩)));(intro x_;exact rfl);exact rfl;(intro x_ kH);refine Q1 ?_;refine im ?_;refine AR.cK (i:=5) rfl (by kernel_rfl) rfl (by kernel_rfl) ?_;intro g_ ag aJ;(focus ((with_reducible apply aa.aA 7);(iterate 5 exact rfl);(focus (intro h_;cases h_;done));rotate_left;(first|(with_reducible assumption)|omega|(simp only[ab,List.length_set];omega))));refine Q4 ?_;refine BZ ?_;intro g_ ag aJ;(with_reducible apply aa.eH (hf:=(El _ _)));(with_reducible assumption);(iterate 3 exact rfl);(repeat (first|exact trivial|refine⟨rfl,?_⟩));(repeat (first|exact .nil|(refine .cons ?_ ?_;(first|exact .eq rfl rfl|exact .nil _|exact .any _))));(intro x_;exact rfl);exact rfl;(repeat (first|exact trivial|refine⟨rfl,?_⟩|refine⟨aN,?_⟩));(intro x_;(repeat (first|exact trivial|refine⟨rfl,?_⟩|refine⟨aN,?_⟩)));(intro x_;exact rfl);exact rfl;(intro x_ kH);refine Q1 ?_;refine pM ?_;(all_goals skip);rotate_left;(with_reducible apply aa.eH (hf:=kT));(with_reducible assumption);(iterate 3 exact rfl);(repeat (first|exact trivial|refine⟨rfl,?_⟩));(repeat (first|exact .nil|(refine .cons ?_ ?_;(first|exact .eq rfl rfl|exact .nil _|exact .any _))));(intro x_;exact rfl);exact rfl;(repeat (first|exact trivial|refine⟨rfl,?_⟩|refine⟨aN,?_⟩));(intro x_;(repeat (first|exact trivial|refine⟨rfl,?_⟩|refine⟨aN,?_⟩)));(intro x_;exact rfl);exact rfl;(intro x_ kH);refine Q1 ?_;refine im ?_;refine EC ?_;intro g_ ag aJ;(with_reducible apply aa.aB 7);(iterate 8 exact rfl);(first|(with_reducible assumption)|omega|(simp only[ab,List.length_set];omega));(first|(with_reducible assumption)|omega|(simp only[ab,List.length_set];omega));refine Q4 ?_;refine AR.cK (i:=5) rfl (by kernel_rfl) rfl (by kernel_rfl) ?_;intro g_ ag aJ;(focus ((with_reducible apply aa.aA 7);(iterate 5 exact rfl);(focus (intro h_;cases h_;done));rotate_left;(first|(with_reducible assumption)|omega|(simp only[ab,List.length_set];omega))));refine Q4 ?_;refine BZ ?_;intro g_ ag aJ;(with_reducible apply aa.eH (hf:=(El _ _)));(with_reducible assumption);(iterate 3 exact rfl);(repeat (first|exact trivial|refine⟨rfl,?_⟩));(repeat (first|exact .nil|(refine .cons ?_ ?_;(first|exact .eq rfl rfl|exact .nil _|exact .any _))));(intro x_;exact rfl);exact rfl;(repeat (first|exact trivial|refine⟨rfl,?_⟩|refine⟨aN,?_⟩));(intro x_;(repeat (first|exact trivial|refine⟨rfl,?_⟩|refine⟨aN,?_⟩)));(intro x_;exact rfl);exact rfl;(intro x_ kH);refine Q1 ?_;refine pM ?_;(all_goals skip);rotate_left)
   ·(apply gW ((a_ (er (er {u with nc:=u.nc+1,cl:=aC u.cl u.nc D,proof:=u.proof++ [u.cl u.nc]} (c0 D) u.nc ‹Value×Value›.1) (c1 D) u.nc ‹Value×Value›.2) (aC u.cl u.nc D u.nc)[(0:Int).toNat] (u.nc:Nat) x_:SR)) ((.inr ⟨D,‹Value×Value›.1,‹Value×Value›.2,x_,h2,hDp,d0,by rw[d1];exact kD hm1 hm2,fun x hx=>by rw[d1];exact qe iG hm2 x hx,by rw[Hh]⟩));((exact bA.none));((exact mn));((exact Mp));exact rfl)
   ·(apply gW ((a_ (er (er {u with nc:=u.nc+1,cl:=aC u.cl u.nc D,proof:=u.proof++ [u.cl u.nc]} (c0 D) u.nc ‹Value×Value›.1) (c1 D) u.nc ‹Value×Value›.2) (aC u.cl u.nc D u.nc)[(0:Int).toNat] (u.nc:Nat) x_:SR)) ((.inr ⟨D,‹Value×Value›.1,‹Value×Value›.2,x_,h2,hDp,d0,by rw[d1];exact kD hm1 hm2,fun x hx=>by rw[d1];exact qe iG hm2 x hx,by rw[Hh]⟩));((exact bA.none));((exact mn));((exact Mp));exact rfl)
   ·(apply gW ((a_ (er (er {u with nc:=u.nc+1,cl:=aC u.cl u.nc D,proof:=u.proof++ [u.cl u.nc]} (c0 D) u.nc ‹Value×Value›.1) (c1 D) u.nc ‹Value×Value›.2) (aC u.cl u.nc D u.nc)[(0:Int).toNat] (u.nc:Nat) x_:SR)) ((.inr ⟨D,‹Value×Value›.1,‹Value×Value›.2,x_,h2,hDp,d0,by rw[d1];exact kD hm1 hm2,fun x hx=>by rw[d1];exact qe iG hm2 x hx,by rw[Hh]⟩));((exact bA.none));((exact mn));((exact Mp));exact rfl)
end Go.Ab
