/- The solver: literals checked; a clause added, walked. -/
import Derived.Test.YtigjjjpcjnifhaaGreatAuS9
import Derived.Test.YtigjjjpcjnifhaaGreatAbZ
import Derived.Test.YtigjjjpcjnifhaaGreatAbL3
import Derived.Test.YtigjjjpcjnifhaaGreatAuC3
set_option linter.unusedSimpArgs false
set_option linter.unusedVariables false
namespace Go.Ab
open Go Go.Proofs
open Nat (reduceAdd reduceSub)
set_option maxRecDepth 20000
set_option maxHeartbeats 8000000
attribute [local irreducible] bO AW aa bE aX AR bd aW bm bD fy fI aq
theorem vq (n:Nat) (s:SR) (l:List Int) (hn:n≤20000) (hv:s.value.length=n+1) (hl:∀x∈l,Lit n x):jq Tryz.prog 52 11 (cu s) [.ptr 0 0,.pv (ec l)] (cu s) (aF true):=by
 simp only[cu,cv]
 refine jq.enter (n:=17) Tryz.func52 rfl rfl rfl rfl rfl (by decide) rfl rfl fun g aU aT=>?_;refine nk ?_
 refine AW.cF 1 rfl fun hlen=>?_
 (refine zq ?_;refine mP ?_;refine rI ?_;refine pR ?_;refine aa.cy rfl rfl rfl rfl ?_;refine aa.sub rfl rfl rfl rfl rfl (by omega) ?_;refine aa.mx rfl rfl rfl rfl ?_;refine Q0 ?_;(with_reducible apply aa.bG);(iterate 5 exact rfl);(first|exact rfl|assumption|exact dy _|exact dz _ _|exact dO _|exact dP _ _);(iterate 3 exact rfl);(with_reducible assumption);refine gM ?_;refine zq ?_;refine zm ?_;refine aa.dT rfl rfl rfl ?_;(with_reducible apply aa.inline (hf:=Tryz.func39));(with_reducible assumption);(iterate 10 exact rfl);intro g_ aU aT;refine Q0 ?_;refine zq ?_;refine eO ?_;refine ez ?_;refine aa.dM rfl rfl rfl ?_;(with_reducible apply aa.inline (hf:=Tryz.func78));(with_reducible assumption);(iterate 10 exact rfl);intro g_ aU aT;refine Q0 ?_;refine jw ?_;refine dZ ?_;refine l8 ?_)
 (refine Q0 ?_;apply AW.bM [7,0,1,1006,1005,1004,1000,1001,2014,2013,2005,2004,2000,2001,3000] [11,0,1,2,3,4,5,6,7,8,9,10] (fun k:Nat=>([(8,al k)]:List (Nat×AV))) (fun k:Nat=>([]:List (Nat×Option Ob))) (fun k:Nat=>k≤l.length) (fun k:Nat=>l.length - k) (0);(conv=>lhs;simp only[Nf.gQ,Nf.all,Nat.reduceBEq,reduceAdd,reduceSub]);(all_goals skip))
 ·exact Nat.zero_le _
 ·exact aO rfl (by(refine⟨.ai (by rfl),?_⟩;refine⟨.ai (by rfl),?_⟩;refine⟨.bF (by rfl),?_⟩;(iterate 2 refine⟨.eq rfl rfl,?_⟩);refine⟨.bF (by rfl),?_⟩;refine⟨.ai (by rfl),?_⟩;refine⟨.bF (by rfl),?_⟩;(iterate 2 refine⟨.eq rfl rfl,?_⟩);refine⟨.bF (by rfl),?_⟩;refine⟨.eq rfl rfl,?_⟩;refine⟨.ai (by rfl),?_⟩;refine⟨.eq rfl rfl,?_⟩;refine⟨.bF (by rfl),?_⟩;refine⟨.eq rfl rfl,?_⟩;exact trivial)) (by(refine⟨.box _ rfl ?_,?_⟩;refine⟨.ai (by rfl),?_⟩;exact trivial;refine⟨.box _ rfl ?_,?_⟩;(iterate 3 refine⟨.ak (by rfl) rfl,?_⟩);refine⟨.ai (by rfl),?_⟩;refine⟨.ak (by rfl) rfl,?_⟩;refine⟨.ai (by rfl),?_⟩;(iterate 2 refine⟨.ak (by rfl) rfl,?_⟩);(iterate 3 refine⟨.ai (by rfl),?_⟩);refine⟨.ak (by rfl) rfl,?_⟩;refine⟨.ai (by rfl),?_⟩;(iterate 2 refine⟨.bF (by rfl),?_⟩);exact trivial;(iterate 3 refine⟨.row rfl,?_⟩);refine⟨.pool rfl (by rfl),?_⟩;(iterate 2 refine⟨.row rfl,?_⟩);refine⟨.pool rfl (by rfl),?_⟩;refine⟨.row rfl,?_⟩;refine⟨.pool rfl (by rfl),?_⟩;refine⟨.row rfl,?_⟩;exact trivial)) rfl
 rintro k hk
 by_cases aM:k<l.length
 ·obtain⟨b1,b2,b3⟩:=hl _ (List.getElem_mem aM)
  have b4:¬l[k]< -((s.value.length:Int) - 1):=by omega
  have b5:¬((s.value.length:Int) - 1)<l[k]:=by omega
  (refine zq ?_;refine iO ?_;refine zo ?_;refine Q5 ?_;refine ez ?_;refine mP ?_;refine aa.dM rfl rfl rfl ?_;(iterate 2 refine zm ?_);(focus ((with_reducible apply aa.aj);(iterate 7 exact rfl);rotate_left;omega));refine zr ?_;(with_reducible apply aa.inline (hf:=Tryz.func90));(with_reducible assumption);(iterate 10 exact rfl);intro g_ aU aT;refine Q0 ?_;refine zq ?_;refine eO ?_;refine ez ?_;refine E9 ?_;refine Ep ?_;refine gM ?_;refine rL ?_;refine jB ?_)
  exact⟨k+1,by omega,by omega,aO rfl (by(refine⟨.ai (by rfl),?_⟩;refine⟨.ai (by rfl),?_⟩;refine⟨.bF (by rfl),?_⟩;(iterate 2 refine⟨.eq rfl rfl,?_⟩);refine⟨.bF (by rfl),?_⟩;refine⟨.ai (by rfl),?_⟩;refine⟨.bF (by rfl),?_⟩;(iterate 2 refine⟨.eq rfl rfl,?_⟩);refine⟨.bF (by rfl),?_⟩;refine⟨.eq rfl rfl,?_⟩;refine⟨.ai (by rfl),?_⟩;refine⟨.eq rfl rfl,?_⟩;refine⟨.bF (by rfl),?_⟩;refine⟨.eq rfl rfl,?_⟩;exact trivial)) (by(refine⟨.box _ rfl ?_,?_⟩;refine⟨.ai (by rfl),?_⟩;exact trivial;refine⟨.box _ rfl ?_,?_⟩;(iterate 3 refine⟨.ak (by rfl) rfl,?_⟩);refine⟨.ai (by rfl),?_⟩;refine⟨.ak (by rfl) rfl,?_⟩;refine⟨.ai (by rfl),?_⟩;(iterate 2 refine⟨.ak (by rfl) rfl,?_⟩);(iterate 3 refine⟨.ai (by rfl),?_⟩);refine⟨.ak (by rfl) rfl,?_⟩;refine⟨.ai (by rfl),?_⟩;(iterate 2 refine⟨.bF (by rfl),?_⟩);exact trivial;(iterate 3 refine⟨.row rfl,?_⟩);refine⟨.pool rfl (by rfl),?_⟩;(iterate 2 refine⟨.row rfl,?_⟩);refine⟨.pool rfl (by rfl),?_⟩;refine⟨.row rfl,?_⟩;refine⟨.pool rfl (by rfl),?_⟩;refine⟨.row rfl,?_⟩;exact trivial)) rfl⟩
 ·(refine zq ?_;refine yg ?_;refine dZ ?_;refine Ep ?_;refine Q0 ?_;refine aa.geq rfl rfl rfl rfl rfl ?_;refine Ep ?_;refine Q0 ?_;refine aa.D9 rfl rfl rfl ?_;refine fL ?_)
  (apply di;((exact bA.one (.tmp rfl rfl)));((exact ui));((exact Q2));exact rfl)
theorem EF {n:Nat} {s:SR} (v:s.value=fD n (s.ll 0)) (ht:ee n (s.ll 0)) (hn:n≤20000) {x:Int} (hx:Lit n x) {r:Int} (hr:r=if x∈s.ll 0 then 1 else if -x∈s.ll 0 then -1 else 0):jq Tryz.prog 55 11 (cu s) [.ptr 0 0,al x] (cu s) (al r):=by
 have hl:s.value.length=n+1:=by rw[v,eC]
 have:=G5 s x (by obtain⟨_,_,_⟩:=hx;omega) (by obtain⟨_,_,_⟩:=hx;omega) (by rw[v];exact vN)
 rw[v,DN hx ht,← hr] at this
 exact this
theorem sY {n:Nat} {s:SR} (hs:br n s) {x:Int} (hx:Lit n x) {r:Int} (hr:r=if x∈s.ll 0 then 1 else if -x∈s.ll 0 then -1 else 0) (a:Int):jq Tryz.prog 55 11 (cu {s with added:=a}) [.ptr 0 0,al x] (cu {s with added:=a}) (al r):=
 EF (s:={s with added:=a}) hs.val hs.trl hs.hn hx hr
theorem tI (n:Nat) (F:List (List Int)) (k:Nat) (s:SR) (hS:gg n F k s) (hk:k<60000) (c:List Int) (hc:∀x∈c,Lit n x) (dq:c.length≤1000000):n8 Tryz.prog 27 11 (cu s) [.ptr 0 0,.pv (ec c)] (fun q:SR=>gg n (F++ [c]) (k+1) q) (fun q=>cu q) (fun _=>aF true):=by
 have hs:=hS.inv
 have nb:=hs.hn
 have eN:=hs.trl.len
 have tL:=hS.ncl
 have v8:s.value.length=n+1:=by rw[hs.val,eC]
 have cW:=vq n s c nb v8 hc
 have JG:=py {s with added:=s.added+1} 0 (by show(s.marks.length:Int)≤0;rw[hS.marks];simp)
 have MP:=hS.added
 have S_:¬(60000:Int)≤s.added:=by omega
 simp only[cu,cv] at cW JG ⊢
 refine n8.enter (n:=84) Tryz.func27 rfl rfl rfl rfl rfl (by decide) rfl (fun _=>rfl) fun g aU aT=>?_;refine nk ?_
 refine AW.cF 1 rfl fun hlen=>?_
 (refine jw ?_;refine oM ?_;refine zm ?_;refine zX (cW) ?_;refine eV ?_;refine aa.not rfl rfl rfl ?_;refine jY ?_;refine aa.bc rfl rfl rfl ?_;refine zl ?_;refine aa.aI rfl rfl rfl ?_;refine zl ?_;refine aa.ah 96 4 9 rfl rfl rfl rfl ?_;refine zl ?_;refine zb ?_;refine zl ?_;refine aa.geq rfl rfl rfl rfl rfl ?_;refine tB ?_;refine lP ?_;refine dZ ?_;refine Q9 ?_;refine aa.ah 96 4 9 rfl rfl rfl rfl ?_;refine zb ?_;refine zj ?_;refine aa.aI rfl rfl rfl ?_;refine aa.ah 96 4 9 rfl rfl rfl rfl ?_;(with_reducible apply aa.bG);(iterate 5 exact rfl);(first|exact rfl|assumption|exact dy _|exact dz _ _|exact dO _|exact dP _ _);(iterate 3 exact rfl);(with_reducible assumption);refine gM ?_;refine zq ?_;refine rI ?_;refine zX (JG) ?_;refine eV ?_;refine zd ?_;refine jw ?_;refine dZ ?_;refine l8 ?_)
 (refine Q0 ?_;apply AW.bM [31,30,0,1,1000] [0,1,2,3,4,5,6,7,8,9,10] (fun q:List Int×Nat=>([(5,.own 11 3 1 (q.1.map encI)),(32,al q.2)]:List (Nat×AV))) (fun q:List Int×Nat=>([(11,some .row)]:List (Nat×Option Ob))) (fun q:List Int×Nat=>jZ s c q.1 q.2) (fun q:List Int×Nat=>c.length - q.2) ((([]:List Int),(0:Nat)));(conv=>lhs;simp only[Nf.gQ,Nf.all,Nat.reduceBEq,reduceAdd,reduceSub]);(all_goals skip))
 ·exact .start
 ·exact aO rfl (by(refine⟨.nilown _ _ _ rfl rfl,?_⟩;(iterate 2 refine⟨.ai (by rfl),?_⟩);refine⟨.bF (by rfl),?_⟩;refine⟨.eq rfl rfl,?_⟩;refine⟨.bF (by rfl),?_⟩;refine⟨.eq rfl rfl,?_⟩;exact trivial)) (by(refine⟨.newrow rfl,?_⟩;refine⟨.box _ rfl ?_,?_⟩;(iterate 3 refine⟨.ak (by rfl) rfl,?_⟩);refine⟨.ai (by rfl),?_⟩;refine⟨.ak (by rfl) rfl,?_⟩;refine⟨.ai (by rfl),?_⟩;(iterate 2 refine⟨.ak (by rfl) rfl,?_⟩);(iterate 3 refine⟨.ai (by rfl),?_⟩);refine⟨.ak (by rfl) rfl,?_⟩;refine⟨.ai (by rfl),?_⟩;(iterate 2 refine⟨.bF (by rfl),?_⟩);exact trivial;(iterate 3 refine⟨.row rfl,?_⟩);refine⟨.pool rfl (by rfl),?_⟩;(iterate 2 refine⟨.row rfl,?_⟩);refine⟨.pool rfl (by rfl),?_⟩;refine⟨.row rfl,?_⟩;refine⟨.pool rfl (by rfl),?_⟩;refine⟨.row rfl,?_⟩;exact trivial)) rfl
 rintro⟨l,i⟩ hA
 simp only at hA
 have hi:=hA.hi
 have o6:l.length≤1000000:=by
  have:=eL (n:=2*n+2) (l:=l.map aq) (by
   unfold List.Nodup
   rw[List.pairwise_map]
   exact hA.nd.imp_of_mem fun {a b} ha hb mo e=>mo (cB (hc a (hA.sub a ha).1) (hc b (hA.sub b hb).1) (by rw[e]))) fun v hv=>by
   obtain⟨a,ha,rfl⟩:=List.mem_map.1 hv
   have:=cL (hc a (hA.sub a ha).1)
   omega
  simp only[List.length_map] at this
  omega
 by_cases aM:i<c.length
 ·have ri:(i:Int).toNat<c.length:=by omega
  obtain⟨x,hx⟩:∃x,x=c[i]:=⟨_,rfl⟩
  have q9:=hc _ (List.getElem_mem aM)
  have pk:c[i]∈c:=List.getElem_mem aM
  rw[← hx] at q9 pk
  have GJ: -1000000≤x∧x≤1000000:=by obtain⟨_,_,_⟩:=q9;omega
  have JR:=iE c (-x)
  have CD:=iE l x
  by_cases sV: -x∈c
  ·have hT:=hS.L7 hc (.inl ⟨x,pk,sV⟩)
   rw[decide_eq_true sV] at JR
   (refine uG ?_;(focus ((with_reducible apply aa.aj);(iterate 7 exact rfl);rotate_left;omega));refine zr ?_;refine kh ?_;(with_reducible apply AW.pg 9);(rw[← hx]);refine dZ ?_;(iterate 2 refine zm ?_);refine aa.neg rfl rfl rfl (by omega) ?_;refine zA (JR) ?_;refine zm ?_;(iterate 6 refine aa.bY rfl rfl rfl rfl rfl rfl rfl ?_);refine aa.bL rfl rfl rfl rfl rfl rfl ?_;refine wi ?_;refine dZ ?_;refine fL ?_;refine L0 ?_)
   (apply cg (({s with added:=s.added+1}:SR)) (hT);((exact bA.one (.tmp rfl rfl)));((exact ui));((exact Q2));exact rfl)
  ·rw[decide_eq_false sV] at JR
   by_cases hp1:x∈s.ll 0
   ·have hT:=hS.L7 hc (.inr ⟨x,pk,hp1⟩)
    have mm:=sY hs q9 (r:=1) (if_pos hp1).symm (s.added+1)
    simp only[cu,cv] at mm
    (refine uG ?_;(focus ((with_reducible apply aa.aj);(iterate 7 exact rfl);rotate_left;omega));refine zr ?_;refine kh ?_;(with_reducible apply AW.pg 9);(rw[← hx]);refine MQ ?_;refine wi ?_;refine dZ ?_;refine fL ?_;refine L0 ?_)
    (apply cg (({s with added:=s.added+1}:SR)) (hT);((exact bA.one (.tmp rfl rfl)));((exact ui));((exact Q2));exact rfl)
   ·by_cases hp2: -x∈s.ll 0
    ·have mm:=sY hs q9 (r:= -1) (by rw[if_neg hp1,if_pos hp2]) (s.added+1)
     have lF:=hA.skip aM (.inr (by rw[← hx];exact hp2))
     simp only[cu,cv] at mm
     (refine uG ?_;(focus ((with_reducible apply aa.aj);(iterate 7 exact rfl);rotate_left;omega));refine zr ?_;refine kh ?_;(with_reducible apply AW.pg 9);(rw[← hx]);refine MQ ?_;refine qJ ?_;refine dZ ?_;refine kc ?_;refine zX (mm) ?_;refine eV ?_;refine aa.eql rfl rfl rfl rfl rfl ?_;refine zm ?_;(iterate 4 refine aa.bY rfl rfl rfl rfl rfl rfl rfl ?_);refine tB ?_;refine Ej ?_;refine we ?_;refine l5 ?_)
     exact Qs
    ·have mm:=sY hs q9 (r:=0) (by rw[if_neg hp1,if_neg hp2]) (s.added+1)
     simp only[cu,cv] at mm
     by_cases cZ:x∈l
     ·rw[decide_eq_true cZ] at CD
      have lF:=hA.skip aM (.inl (by rw[← hx];exact cZ))
      (refine uG ?_;(focus ((with_reducible apply aa.aj);(iterate 7 exact rfl);rotate_left;omega));refine zr ?_;refine kh ?_;(with_reducible apply AW.pg 9);(rw[← hx]);refine MQ ?_;refine qJ ?_;refine dZ ?_;refine kc ?_;refine KP ?_;refine kg ?_;refine we ?_;refine l5 ?_)
      exact Qs
     ·rw[decide_eq_false cZ] at CD
      have lF:=hA.add aM (by rw[← hx];exact cZ) (by rw[← hx];exact hp1) (by rw[← hx];exact hp2)
      rw[← hx] at lF
      (refine uG ?_;(focus ((with_reducible apply aa.aj);(iterate 7 exact rfl);rotate_left;omega));refine zr ?_;refine kh ?_;(with_reducible apply AW.pg 9);(rw[← hx]);refine MQ ?_;refine qJ ?_;refine dZ ?_;refine kc ?_;refine KP ?_;refine wi ?_;refine lq ?_;refine aa.bz rfl rfl rfl ?_;refine zm ?_;(with_reducible apply aa.iD);(iterate 5 exact rfl);(first|exact rfl|assumption|exact dy _|exact dz _ _|exact dO _|exact dP _ _);exact rfl;exact rfl;refine Q0 ?_;(with_reducible apply aa.bh);exact rfl;(first|exact .pv rfl|exact .own rfl|exact .nil rfl);(iterate 9 exact rfl);(first|omega|(simp only[List.length_map,List.length_append,List.length_cons,List.length_nil,List.length_drop,List.length_take,List.length_set,List.length_range,aL];omega));refine Q0 ?_;refine sU ?_;refine l5 ?_)
      exact⟨((l++ [x],i+1):List Int×Nat),lF,by show c.length - (i+1)<c.length - i;omega,aO rfl (by(refine⟨.ak (by first|rfl|(rw[List.map_append];rfl)) rfl,?_⟩;refine⟨.ai (by first|rfl|(rw[List.map_append];rfl)),?_⟩;refine⟨.ai (by first|rfl|(rw[List.map_append];rfl)),?_⟩;refine⟨.bF (by first|rfl|(rw[List.map_append];rfl)),?_⟩;refine⟨.eq rfl rfl,?_⟩;refine⟨.bF (by first|rfl|(rw[List.map_append];rfl)),?_⟩;refine⟨.eq rfl rfl,?_⟩;exact trivial)) (by(refine⟨.row rfl,?_⟩;refine⟨.box _ rfl ?_,?_⟩;refine⟨.ak (by first|rfl|(rw[List.map_append];rfl)) rfl,?_⟩;refine⟨.ak (by first|rfl|(rw[List.map_append];rfl)) rfl,?_⟩;refine⟨.ak (by first|rfl|(rw[List.map_append];rfl)) rfl,?_⟩;refine⟨.ai (by first|rfl|(rw[List.map_append];rfl)),?_⟩;refine⟨.ak (by first|rfl|(rw[List.map_append];rfl)) rfl,?_⟩;refine⟨.ai (by first|rfl|(rw[List.map_append];rfl)),?_⟩;refine⟨.ak (by first|rfl|(rw[List.map_append];rfl)) rfl,?_⟩;refine⟨.ak (by first|rfl|(rw[List.map_append];rfl)) rfl,?_⟩;refine⟨.ai (by first|rfl|(rw[List.map_append];rfl)),?_⟩;refine⟨.ai (by first|rfl|(rw[List.map_append];rfl)),?_⟩;refine⟨.ai (by first|rfl|(rw[List.map_append];rfl)),?_⟩;refine⟨.ak (by first|rfl|(rw[List.map_append];rfl)) rfl,?_⟩;refine⟨.ai (by first|rfl|(rw[List.map_append];rfl)),?_⟩;refine⟨.bF (by first|rfl|(rw[List.map_append];rfl)),?_⟩;refine⟨.bF (by first|rfl|(rw[List.map_append];rfl)),?_⟩;exact trivial;(iterate 3 refine⟨.row rfl,?_⟩);refine⟨.pool rfl (by first|rfl|(rw[List.map_append];rfl)),?_⟩;(iterate 2 refine⟨.row rfl,?_⟩);refine⟨.pool rfl (by first|rfl|(rw[List.map_append];rfl)),?_⟩;refine⟨.row rfl,?_⟩;refine⟨.pool rfl (by first|rfl|(rw[List.map_append];rfl)),?_⟩;refine⟨.row rfl,?_⟩;exact trivial)) rfl⟩
 ·obtain rfl:i=c.length:=by omega
  by_cases h0:l=[]
  ·subst h0
   have hT:=hS.empty hc hA
   (refine Iu ?_;refine eO ?_;refine AW.ix rfl rfl ?_;refine lq ?_;refine Q9 ?_;refine aa.ah 96 5 10 rfl rfl rfl rfl ?_;(with_reducible apply aa.bG);(iterate 5 exact rfl);(first|exact rfl|assumption|exact dy _|exact dz _ _|exact dO _|exact dP _ _);(iterate 3 exact rfl);(with_reducible assumption);refine Q0 ?_;refine Ag ?_;refine zq ?_;refine fL ?_)
   (apply cg (({s with added:=s.added+1,broken:=true}:SR)) (hT);((exact bA.one (.tmp rfl rfl)));((exact ui));((exact Q2));exact rfl)
  ·have Ml:0<l.length:=List.length_pos_iff.2 h0
   have hz0:(0:Int).toNat<l.length:=show 0<_ by omega
   by_cases h1:l.length=1
   ·have e1:=Dv h1 hz0
    have hm0:=hc _ (hA.sub _ (List.getElem_mem hz0)).1
    have hT:=fun h:Value=>hS.unit hc (by rw[← e1];exact hA) h
    have El:=kX {s with added:=s.added+1} l[(0:Int).toNat] (-1) (by obtain⟨_,_,_⟩:=hm0;omega) (by obtain⟨_,_,_⟩:=hm0;show _<(s.value.length:Int)∧_<(s.value.length:Int);omega) (by show s.level.length=s.value.length;rw[hs.lvl,v8]) (by show s.reason.length=s.value.length;rw[hs.rsn,v8]) (by show(s.ll 0).length≤_;omega) (by show s.marks.length≤_;rw[hS.marks];simp)
    simp only[cu,cv] at El
    (refine Iu ?_;refine eO ?_;refine zk ?_;refine dZ ?_;refine AY ?_;refine zc ?_;refine wR ?_;show aa .held _ _ _ [_,_,_,_,_] _ _;refine rI ?_;refine aa.bz rfl rfl rfl ?_;refine uu ?_;refine Q4 ?_;intro k_ cR;refine mg ?_;intro g_ ag bw;(focus ((with_reducible apply aa.aD);(iterate 4 exact rfl);(focus (intro h_;cases h_;done));rotate_left;(first|omega|exact Nat.zero_lt_one|(simp;done))));refine qQ ?_;intro g_ ag aJ;(with_reducible apply aa.eH (hf:=El));(with_reducible assumption);(iterate 3 exact rfl);(repeat (first|exact trivial|refine⟨rfl,?_⟩));(repeat (first|exact .nil|(refine .cons ?_ ?_;(first|exact .eq rfl rfl|exact .nil _|exact .any _))));(intro x_;exact rfl);exact rfl;(repeat (first|exact trivial|refine⟨rfl,?_⟩|refine⟨aN,?_⟩));(intro x_;(repeat (first|exact trivial|refine⟨rfl,?_⟩|refine⟨aN,?_⟩)));(intro x_;exact rfl);exact rfl;(intro x_ kH);refine Q1 ?_;refine pM ?_;refine cb ?_;refine b_ ?_;refine zq ?_;refine fL ?_)
    (apply cg ((a_ {s with added:=s.added+1} l[(0:Int).toNat] (-1) x_:SR)) (hT x_);((exact bA.one (.tmp rfl rfl)));((exact ui));((exact Q2));exact rfl)
   ·have h2:2≤l.length:=by omega
    (refine Iu ?_;refine eO ?_;refine zk ?_;refine dZ ?_;refine AY ?_;refine zk ?_;refine AW.Hi 15 ?_)
    refine Stop.go ?_
    refine AW.rZ 7 11 s.nc 5 (us:=l) rfl rfl rfl rfl (hs.fresh s.nc (Nat.le_refl _)).2 fun v_ DZ=>?_
    (try (conv=>rhs;simp only[Nf.cP,Nf.all,Nat.reduceBEq,reduceAdd,reduceSub]))
    have hT:=fun h1 h3:Value=>hS.M1 hc hk hA h2 v_ h1 h3
    have jD:∀x∈l,Lit n x:=fun x hx=>hc x (hA.sub x hx).1
    have m0:=jD _ (eo h2).1
    have m1:=jD _ (eo h2).2
    have bx:c0 l≠c1 l:=fun e=>by
     rw[show c0 l=l[0] from aZ (by omega),show c1 l=l[1] from aZ (by omega)] at e
     have:=(List.getElem_inj hA.nd (h₀:=by omega) (h₁:=by omega)).1 e
     omega
    have i0:=cL m0
    have i1:=cL m1
    have ye:(l.drop 2).length≤1000000:=by rw[List.length_drop];omega
    have wj:=hs.nw
    have Pr:=hs.Ad m0
    have OX:=hs.Ad m1
    have Sa:aq (c0 l)≠aq (c1 l):=fun e=>bx (cB m0 m1 (by rw[e]))
    obtain⟨_,_,_⟩:=m0
    obtain⟨_,_,_⟩:=m1
    have kT:=pT {s with added:=s.added+1,hc:=aC s.hc s.nc v_,cl:=aC s.cl s.nc l} (c0 l) (c1 l) (l.drop 2) (by show aC s.cl s.nc l s.nc=_;rw[ab];exact Dn h2) Sa (by show 0≤aq (c0 l)∧_<s.nw;omega) (by show 0≤aq (c1 l)∧_<s.nw;omega) (by omega) (by omega) (by show s.nc≤_;omega) (by show(s.wl _).length≤_;omega) (by show(s.wl _).length≤_;omega) (by show s.nw≤_;omega) ye
    simp only[cu,cv,ab,er] at kT
    rw[cX s.nc s.hc v_]
    (refine AW.region ?_;refine A8 ?_;(with_reducible apply aa.eH (hf:=kT));(with_reducible assumption);(iterate 3 exact rfl);(repeat (first|exact trivial|refine⟨rfl,?_⟩));(repeat (first|exact .nil|(refine .cons ?_ ?_;(first|exact .eq rfl rfl|exact .nil _|exact .any _))));(intro x_;exact rfl);exact rfl;(repeat (first|exact trivial|refine⟨rfl,?_⟩|refine⟨aN,?_⟩));(intro x_;(repeat (first|exact trivial|refine⟨rfl,?_⟩|refine⟨aN,?_⟩)));(intro x_;exact rfl);exact rfl;(intro x_ kH);refine Q1 ?_;refine Ag ?_;refine zq ?_;refine fL ?_)
    (apply cg ((fA {s with added:=s.added+1} l v_ x_.1 x_.2:SR)) (hT x_.1 x_.2);((exact bA.one (.tmp rfl rfl)));((exact ui));((exact Q2));exact rfl)
end Go.Ab
/- What a search leaves;the invariant of its loop. -/
namespace Go.Ab
open Go Go.Proofs
structure eZ (n:Nat) (F:List (List Int)) (A:List Int) (fuel:Nat) (t:SR) (k:Int):Prop where
 hn:n≤20000
 prf:oG F t.proof
 lits:∀c∈F++t.proof,∀x∈c,Lit n x
 plen:t.proof.length≤3 ^ n
 plen2:t.proof.length≤20000
 nd:∀c∈t.proof,c.Nodup
 res:(k=1∧∃L,t.model=fD n L∧t.core=[]∧sc n F A L)∨(k=2∧t.model=[]∧∃P,t.proof=P++ [t.core.map fun y=> -y]∧(∀y∈t.core,y∈A)∧t.core.Nodup∧∀y∈t.core,Lit n y)∨(k=0∧t.model=[]∧t.core=[]∧(fuel<3 ^ n∨20000<3 ^ n))
def LV (A:List Int) (s:SR):Prop:=∀l:Nat,A.length<l→l≤s.marks.length→∃x∈s.ll 0,aE s x=(l:Int)
theorem DR {a:Nat}:∀{b:Nat} {S:List Int},(∀l:Nat,a<l→l≤b→(l:Int)∈S)→b≤a+S.length
 |0,_,_=>by omega
 |b+1,S,h=>by
  by_cases e:b+1≤a
  ·omega
  ·have hm:=h (b+1) (by omega) (Nat.le_refl _)
   have:=DR (b:=b) (S:=S.erase ((b+1:Nat):Int)) fun l h1 h2=>(List.mem_erase_of_ne (by omega)).2 (h l h1 (by omega))
   rw[List.length_erase_of_mem hm] at this
   have:0<S.length:=List.length_pos_of_mem hm
   omega
section
variable {n:Nat} {F:List (List Int)} {A:List Int} {P0 N0:Nat} {s:SR} {met:Nat}
theorem LV.len (h:LV A s) (hs:br n s):s.marks.length≤A.length+n:=by
 have:=DR (a:=A.length) (b:=s.marks.length) (S:=(s.ll 0).map (aE s)) fun l h1 h2=>by
  obtain⟨x,hx,e⟩:=h l h1 h2
  exact List.mem_map.2 ⟨x,hx,e⟩
 rw[List.length_map] at this
 have:=hs.trl.len
 omega
theorem LV.prop {t:SR} {r:Int} (h:LV A s) (hs:br n s) (hp:C5 n s t r):LV A t:=fun l h1 h2=>by
 rw[hp.ext.marks] at h2
 obtain⟨x,hx,e⟩:=h l h1 h2
 obtain⟨ys,ell⟩:=hp.ext.ll
 exact⟨x,by rw[ell];exact List.mem_append.2 (.inl hx),by rw[mX hs hp.inv hp.ext hx];exact e⟩
theorem LV.Cb (hA:s.marks.length<A.length):LV A (cE s):=fun l h1 h2=>by
 have h2:l≤(s.marks++ [((s.ll 0).length:Int)]).length:=h2
 simp only[List.length_append,List.length_singleton] at h2
 omega
theorem LV.BN {x:Int} {hv:Value} (h:LV A s) (hi:br n (a_ (cE s) x (-1) hv)) (hs:br n s) (hh:s.head=((s.ll 0).length:Int)) (hx:Lit n x) (h1:x∉s.ll 0) (h2: -x∉s.ll 0):LV A (a_ (cE s) x (-1) hv):=fun l q1 q2=>by
 have eN:(a_ (cE s) x (-1) hv).ll 0=s.ll 0++ [x]:=dY _ _ _ _
 have q2:l≤(s.marks++ [((s.ll 0).length:Int)]).length:=q2
 simp only[List.length_append,List.length_singleton] at q2
 by_cases e:l≤s.marks.length
 ·obtain⟨y,hy,ey⟩:=h l q1 e
  exact⟨y,by rw[eN];exact List.mem_append.2 (.inl hy),(c6 (s:=cE s) (jE (n:=n) h1 h2 (.inl hy))).trans ey⟩
 ·obtain rfl:l=s.marks.length+1:=by omega
  refine⟨x,by rw[eN];simp,?_⟩
  rw[gK (hs.mark hh) hx]
  show(((s.marks++ [_]).length:Nat):Int)=_
  simp
theorem LV.cut (h:LV A s) (hs:br n s) {t:Nat} (ht:t<s.marks.length):∀l:Nat,A.length<l→l≤t→∃x∈(bC s t).ll 0,aE s x=(l:Int):=fun l q1 q2=>by
 obtain⟨x,hx,e⟩:=h l q1 (by omega)
 obtain⟨i,hi,rfl⟩:=List.getElem_of_mem hx
 have:=(hs.gb ht hi).1 (by omega)
 rw[(gS hs ht).1]
 exact⟨_,List.mem_take_iff_getElem.2 ⟨i,by omega,rfl⟩,e⟩
structure SJ (n:Nat) (F:List (List Int)) (A:List Int) (N0 fuel:Nat) (s:SR) (met:Nat):Prop where
 si:SI n F A 0 N0 s met
 lv:LV A s
 model:s.model=[]
 core:s.core=[]
 mf:met<fuel
 nd:∀c∈s.proof,c.Nodup
theorem Cw (hs:br n s):x8 s=s:=by
 have:=hs.hd
 show({s with head:=min s.head ((s.ll 0).length:Int)}:SR)=s
 rw[Int.min_eq_left (by omega)]
theorem gg.sj {k fuel:Nat} (h:gg n F k s) (hf:0<fuel):SJ n F A k fuel {s with core:=[],model:=[]} 0:=by
 have h2:gg n F k {s with core:=[],model:=[]}:=
  {inv:={hn:=h.inv.hn,trl:=h.inv.trl,val:=h.inv.val,lvl:=h.inv.lvl,rsn:=h.inv.rsn,hd:=h.inv.hd,mrk:=h.inv.mrk,lev:=h.inv.lev,cls:=h.inv.cls,fresh:=h.inv.fresh,nc:=h.inv.nc,nw:=h.inv.nw,wt:=h.inv.wt,wnd:=h.inv.wnd,wto:=h.inv.wto,two:=h.inv.two,srt:=h.inv.srt,rea:=h.inv.rea}
   sem:=⟨h.sem.lits,h.sem.cls,h.sem.lev0,h.sem.bad,h.sem.prf,h.sem.rep⟩
   low:=h.low,marks:=h.marks,proof:=h.proof,added:=h.added,ncl:=h.ncl}
 exact⟨h2.si A,fun l _ h1=>by have h1:l≤s.marks.length:=h1;rw[h.marks] at h1;simp at h1;omega,rfl,rfl,hf,fun c hc=>by have hc:c∈s.proof:=hc;rw[h.proof] at hc;simp at hc⟩
theorem SJ.prop {N0 fuel:Nat} {t:SR} {r:Int} (h:SJ n F A N0 fuel s met) (hp:C5 n s t r):SJ n F A N0 fuel t met:=
 ⟨h.si.prop hp,h.lv.prop h.si.inv hp,by rw[hp.ext.model];exact h.model,by rw[hp.ext.core];exact h.core,h.mf,by rw[hp.ext.proof];exact h.nd⟩
theorem SJ.mL {N0 fuel:Nat} {j:Nat} {v:Value} {l:List Int} {to:Int} {q:SR} (h:SJ n F A N0 fuel s met) (ha:mz n s j l to) (hm:0<s.marks.length) (hj:j<s.nc) (hf:∀x∈s.cl j,-x∈s.ll 0) (hN:N0≤60000) (Tp:fuel≤30000) (hq:CC (bC {s with hc:=aC s.hc s.nc v,cl:=aC s.cl s.nc l} to.toNat) q):
  SI n F A 0 N0 q (met+1)∧LV A q∧q.model=[]∧q.core=[]∧∀c∈q.proof,c.Nodup:=by
 have hs:=h.si.inv
 obtain⟨II,ht,aM⟩:=ha.lvl hs hm
 have N5:=h.lv.cut hs ht
 have dq:(bC {s with hc:=aC s.hc s.nc v,cl:=aC s.cl s.nc l} to.toNat).cl (bC {s with hc:=aC s.hc s.nc v,cl:=aC s.cl s.nc l} to.toNat).nc=l:=by
  show aC s.cl s.nc l s.nc=l
  exact ab _ _ _
 have Hp:=ha.back hs ⟨ht,aM⟩
 have dB:∀c∈s.proof++ [l],c.Nodup:=fun c hc=>by
  obtain⟨_,_,_,_,_,_,r5,_⟩:=Hp
  rcases List.mem_append.1 hc with hc|hc
  ·exact h.nd c hc
  ·rw[List.mem_singleton.1 hc];exact r5
 rcases hq with ⟨p,hv,e1,e2⟩|⟨l',h1,h2,hv,e0,e1,e2,e3,e4,e5⟩
 ·rw[dq] at e1
  subst e1
  obtain⟨Az,hSI⟩:=h.si.It ha hm hj hf hv
  have eq:q=a_ (jH (bC s to.toNat) [p]) p (-1) hv:=by
   rw[e2,dq]
   have e3:({bC {s with hc:=aC s.hc s.nc v,cl:=aC s.cl s.nc [p]} to.toNat with hc:=aC (aC s.hc s.nc v) s.nc (.slice none 0 0),cl:=aC (aC s.cl s.nc [p]) s.nc [],proof:=s.proof++ [[p]]}:SR)=jH (bC s to.toNat) [p]:=by
    obtain⟨f1,f2⟩:=hs.fresh s.nc (Nat.le_refl _)
    rw[dC,dC]
    have g1:aC s.hc s.nc (.slice none 0 0)=s.hc:=by rw[← f2];exact pj _ _
    have g2:aC s.cl s.nc []=s.cl:=by rw[← f1];exact pj _ _
    rw[g1,g2];rfl
   exact congrArg (fun z=>a_ z p (-1) hv) e3
  rw[eq]
  refine⟨hSI,fun l h1 h2=>?_,h.model,h.core,dB⟩
  have h2:l≤(s.marks.take to.toNat).length:=h2
  rw[Az] at h2
  simp at h2;omega
 ·rw[dq] at e0 e1 e2 e3 e4 e5
  have tL:s.nc+1≤100000:=by have:=h.si.ncl;have:=h.mf;omega
  have hSI:=h.si.JE ha hm hj hf e0 e1 e2 e3 e4 tL v h1 h2 hv
  have eq:q=a_ (fA (jH (bC s to.toNat) l) l' v h1 h2) (c0 l') s.nc hv:=by
   rw[e5]
   have e3:({bC {s with hc:=aC s.hc s.nc v,cl:=aC s.cl s.nc l} to.toNat with nc:=s.nc+1,cl:=aC (aC s.cl s.nc l) s.nc l',proof:=s.proof++ [l]}:SR)={jH (bC s to.toNat) l with nc:=s.nc+1,hc:=aC s.hc s.nc v,cl:=aC s.cl s.nc l'}:=by
    rw[dC];rfl
   exact congrArg (fun z=>a_ (er (er z (c0 l') s.nc h1) (c1 l') s.nc h2) (c0 l') (s.nc:Nat) hv) e3
  rw[eq]
  refine⟨hSI,fun l2 q1 q2=>?_,h.model,h.core,dB⟩
  have q2:l2≤(s.marks.take to.toNat).length:=q2
  rw[List.length_take] at q2
  obtain⟨x,hx,ex⟩:=N5 l2 q1 (by omega)
  obtain⟨p,rest,r1,r2,r3,r4,_⟩:=Hp
  have ec0:c0 l'=p:=by rw[e2,r1];rfl
  refine⟨x,by rw[dY];exact List.mem_append.2 (.inl hx),?_⟩
  rw[ec0]
  exact(c6 (s:=fA (jH (bC s to.toNat) l) l' v h1 h2) (jE (n:=n) r3 r4 (.inl hx))).trans ex
end
end Go.Ab
/- What the search's endings leave;the least free variable. -/
namespace Go.Ab
open Go Go.Proofs
theorem nC {v:List Int}:∀{m low:Nat},v.length - low=m→(∀i,low≤i→i<eT v low→v.getD i 0≠0)∧(eT v low<v.length→v.getD (eT v low) 0=0)
 |0,low,h=>by
  rw[pF (by omega)]
  exact⟨fun i h1 h2=>by omega,fun h1=>by omega⟩
 |m+1,low,h=>by
  have aM:low<v.length:=by omega
  by_cases h0:v[low]=0
  ·rw[nG aM h0]
   exact⟨fun i h1 h2=>by omega,fun _=>by rw[aZ aM];exact h0⟩
  ·rw[nO aM h0]
   obtain⟨q1,q2⟩:=nC (v:=v) (m:=m) (low:=low+1) (by omega)
   refine⟨fun i h1 h2=>?_,q2⟩
   by_cases e:i=low
   ·subst e;rw[aZ aM];exact h0
   ·exact q1 i (by omega) h2
theorem xd {n:Nat} {L:List Int} {u:Nat} (hu:u≤n):(fD n L).getD u 0≠0↔(u:Int)∈L∨ -(u:Int)∈L:=by
 rw[mA L hu]
 by_cases h1:(u:Int)∈L
 ·simp [h1]
 ·by_cases h2: -(u:Int)∈L
  ·simp [h1,h2]
  ·simp [h1,h2]
section
variable {n:Nat} {F:List (List Int)} {A:List Int} {N0 fuel:Nat} {s t:SR} {met:Nat}
theorem SJ.plen (h:SJ n F A N0 fuel s met):s.proof.length=met∧met<3 ^ n:=⟨by have:=h.si.plen;omega,h.si.C2⟩
theorem qt {P:List (List Int)} {c:List Int} (h:∀d∈F++P,∀x∈d,Lit n x) (hc:∀x∈c,Lit n x):∀d∈F++(P++ [c]),∀x∈d,Lit n x:=fun d hd=>by
 rw[← List.append_assoc] at hd
 rcases List.mem_append.1 hd with hd|hd
 ·exact h d hd
 ·rw[List.mem_singleton.1 hd];exact hc
theorem yp {P:List (List Int)} {c:List Int} (h:∀d∈P,d.Nodup) (hc:c.Nodup):∀d∈P++ [c],d.Nodup:=fun d hd=>by
 rcases List.mem_append.1 hd with hd|hd
 ·exact h d hd
 ·rw[List.mem_singleton.1 hd];exact hc
theorem SJ.N_ (h:SJ n F A N0 fuel s met) (hf:fuel≤20000) (hc:mZ (F++s.proof) Df) (e1:t.proof=s.proof++ [([]:List Int).map fun y=> -y]) (e2:t.core=[]) (e3:t.model=[]):eZ n F A fuel t 2:=by
 obtain⟨p1,p2⟩:=h.plen
 have:=h.mf
 exact
  {hn:=h.si.inv.hn
   prf:=by rw[e1];exact h.si.sem.prf.snoc (.inl (hc.cut (fun _ h=>h) fun _ h=>h.elim))
   lits:=by rw[e1];exact qt h.si.sem.lits fun x hx=>by simp at hx
   plen:=by rw[e1,List.length_append,List.length_singleton];omega
   plen2:=by rw[e1,List.length_append,List.length_singleton];omega
   nd:=by rw[e1];exact yp h.nd (by simp)
   res:=.inr (.inl ⟨rfl,e3,s.proof,by rw[e2];exact e1,by rw[e2];simp,by rw[e2];simp,by rw[e2];simp⟩)}
theorem SJ.Ou (h:SJ n F A N0 fuel s met) (hf:fuel≤20000) {x:Int} {core:List Int} (hb:xX n s x core) (hm:s.marks.length<A.length) (hxA:x∈A) (hx: -x∈s.ll 0) (e1:t.proof=s.proof++ [core.map fun y=> -y]) (e2:t.core=core) (e3:t.model=[]):eZ n F A fuel t 2:=by
 obtain⟨p1,p2⟩:=h.plen
 have:=h.mf
 obtain⟨b1,b2,b3⟩:=hb.core h.si hm hxA hx
 exact
  {hn:=h.si.inv.hn
   prf:=by rw[e1];exact h.si.sem.prf.snoc (hb.Nc h.si.sem hx)
   lits:=by
    rw[e1]
    refine qt h.si.sem.lits fun y hy=>?_
    obtain⟨z,hz,rfl⟩:=List.mem_map.1 hy
    obtain⟨_,_,_⟩:=b3 z hz
    exact⟨by omega,by omega,by omega⟩
   plen:=by rw[e1,List.length_append,List.length_singleton];omega
   plen2:=by rw[e1,List.length_append,List.length_singleton];omega
   nd:=by rw[e1];exact yp h.nd (by unfold List.Nodup;rw[List.pairwise_map];exact b2.imp fun mo e=>mo (by omega))
   res:=.inr (.inl ⟨rfl,e3,s.proof,by rw[e2];exact e1,by rw[e2];exact b1,by rw[e2];exact b2,by rw[e2];exact b3⟩)}
theorem SI.Ny (h:SI n F A 0 N0 s met) (dB:∀c∈s.proof,c.Nodup) (hf:fuel≤20000) (hm:met=fuel) (e1:t.proof=s.proof) (e2:t.core=[]) (e3:t.model=[]):eZ n F A fuel t 0:=by
 have p1:=h.plen
 have p2:=h.C2
 exact
  {hn:=h.inv.hn
   prf:=by rw[e1];exact h.sem.prf
   lits:=by rw[e1];exact h.sem.lits
   plen:=by rw[e1];omega
   plen2:=by rw[e1];omega
   nd:=by rw[e1];exact dB
   res:=.inr (.inr ⟨rfl,e3,e2,.inl (by omega)⟩)}
theorem SJ.full (h:SJ n F A N0 fuel s met) {low:Nat} (hl:s.low=(low:Int)) (he:eT s.value low=s.value.length):∀v:Nat,1≤v→v≤n→(v:Int)∈s.ll 0∨ -(v:Int)∈s.ll 0:=fun v h1 h2=>by
 obtain⟨k,q1,q2,q3,q4⟩:=h.si.low
 have Eo:k=low:=by omega
 subst Eo
 by_cases e:v<k
 ·exact q4 v h1 e
 ·have:=(nC (v:=s.value) (low:=k) rfl).1 v (by omega) (by rw[he,h.si.inv.val,eC];omega)
  rw[h.si.inv.val] at this
  exact(xd h2).1 this
theorem SJ.Pp (h:SJ n F A N0 fuel s met) (hf:fuel≤20000) (hb:s.broken=false) (hh:s.head=((s.ll 0).length:Int)) (hA:A.length≤s.marks.length) (yU:∀v:Nat,1≤v→v≤n→(v:Int)∈s.ll 0∨ -(v:Int)∈s.ll 0) (e1:t.proof=s.proof) (e2:t.core=[]) (e3:t.model=s.value):eZ n F A fuel t 1:=by
 obtain⟨p1,p2⟩:=h.plen
 have:=h.mf
 exact
  {hn:=h.si.inv.hn
   prf:=by rw[e1];exact h.si.sem.prf
   lits:=by rw[e1];exact h.si.sem.lits
   plen:=by rw[e1];omega
   plen2:=by rw[e1];omega
   nd:=by rw[e1];exact h.nd
   res:=.inl ⟨rfl,s.ll 0,by rw[e3];exact h.si.inv.val,e2,h.si.sat hb hh hA yU⟩}
theorem br.Jo (h:br n s) (k:Int):br n {s with low:=k}:=
 {hn:=h.hn,trl:=h.trl,val:=h.val,lvl:=h.lvl,rsn:=h.rsn,hd:=h.hd,mrk:=h.mrk,lev:=h.lev,cls:=h.cls,fresh:=h.fresh,nc:=h.nc,nw:=h.nw,wt:=h.wt,wnd:=h.wnd,wto:=h.wto,two:=h.two,srt:=h.srt,rea:=h.rea}
theorem SJ.free (h:SJ n F A N0 fuel s met) {low:Nat} (hl:s.low=(low:Int)) (he:eT s.value low≠s.value.length):∃v:Nat,eT s.value low=v∧1≤v∧v≤n∧(v:Int)∉s.ll 0∧ -(v:Int)∉s.ll 0∧(∀u:Nat,0<u→u<v→(u:Int)∈s.ll 0∨ -(u:Int)∈s.ll 0)∧SJ n F A N0 fuel {s with low:=(v:Int)} met:=by
 obtain⟨k,q1,q2,q3,q4⟩:=h.si.low
 have Eo:k=low:=by omega
 subst Eo
 have HP:s.value.length=n+1:=by rw[h.si.inv.val,eC]
 obtain⟨b1,b2⟩:=tY (v:=s.value) (low:=k) rfl (by omega)
 obtain⟨c1,c2⟩:=nC (v:=s.value) (low:=k) rfl
 have aM:eT s.value k<s.value.length:=by omega
 have hz:=c2 aM
 have ew:¬((eT s.value k:Int)∈s.ll 0∨ -(eT s.value k:Int)∈s.ll 0):=fun hh=>by
  have:=(xd (n:=n) (L:=s.ll 0) (u:=eT s.value k) (by omega)).2 hh
  rw[← h.si.inv.val] at this
  exact this hz
 have dV:∀u:Nat,0<u→u<eT s.value k→(u:Int)∈s.ll 0∨ -(u:Int)∈s.ll 0:=fun u h1 h2=>by
  by_cases e:u<k
  ·exact q4 u h1 e
  ·have:=c1 u (by omega) h2
   rw[h.si.inv.val] at this
   exact(xd (by omega)).1 this
 refine⟨eT s.value k,rfl,by omega,by omega,fun hh=>ew (.inl hh),fun hh=>ew (.inr hh),dV,?_⟩
 exact
  {si:=
    {inv:=h.si.inv.Jo _
     sem:=⟨h.si.sem.lits,h.si.sem.cls,h.si.sem.lev0,h.si.sem.bad,h.si.sem.prf,h.si.sem.rep⟩
     dec:=h.si.dec,asm:=h.si.asm,plen:=h.si.plen,ncl:=h.si.ncl,wrd:=h.si.wrd
     low:=⟨eT s.value k,rfl,by omega,by omega,dV⟩}
   lv:=h.lv,model:=h.model,core:=h.core,mf:=h.mf,nd:=h.nd}
theorem SJ.Px (h:SJ n F A N0 fuel s met) (hh:s.head=((s.ll 0).length:Int)) (hA:A.length≤s.marks.length) {v:Nat} (h1:1≤v) (h2:v≤n) (h3:(v:Int)∉s.ll 0) (h4: -(v:Int)∉s.ll 0) (h5:∀u:Nat,0<u→u<v→(u:Int)∈s.ll 0∨ -(u:Int)∈s.ll 0) (hv:Value):SJ n F A N0 fuel (a_ (cE s) (-(v:Int)) (-1) hv) met:=by
 have hl:Lit n (-(v:Int)):=⟨by omega,by omega,by omega⟩
 have hs:=h.si.BN hh hl h4 (by rw[Int.neg_neg];exact h3) hv (fun y hy=>by rw[List.getElem?_eq_none (by omega)] at hy;cases hy) (.inr ⟨hA,v,rfl,h5⟩)
 exact⟨hs,h.lv.BN hs.inv h.si.inv hh hl h4 (by rw[Int.neg_neg];exact h3),h.model,h.core,h.mf,h.nd⟩
theorem SJ.Pn (h:SJ n F A N0 fuel s met) (hh:s.head=((s.ll 0).length:Int)) (hA:s.marks.length<A.length) (hl:Lit n A[s.marks.length]) (h1:A[s.marks.length]∉s.ll 0) (h2: -A[s.marks.length]∉s.ll 0) (hv:Value):SJ n F A N0 fuel (a_ (cE s) A[s.marks.length] (-1) hv) met:=by
 have hs:=h.si.BN hh hl h1 h2 hv (fun y hy=>by rw[List.getElem?_eq_getElem hA] at hy;simpa using hy) (.inl (List.getElem_mem _))
 exact⟨hs,h.lv.BN hs.inv h.si.inv hh hl h1 h2,h.model,h.core,h.mf,h.nd⟩
theorem SJ.Cb (h:SJ n F A N0 fuel s met) (hh:s.head=((s.ll 0).length:Int)) (hA:s.marks.length<A.length) (hx:A[s.marks.length]∈s.ll 0):SJ n F A N0 fuel (cE s) met:=
 ⟨h.si.Cb hh hA hx,LV.Cb hA,h.model,h.core,h.mf,h.nd⟩
end
end Go.Ab
