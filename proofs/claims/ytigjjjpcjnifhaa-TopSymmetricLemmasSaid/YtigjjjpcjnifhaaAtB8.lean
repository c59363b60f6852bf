/- The solver: literals checked; a clause added, walked. -/
import Derived.Test.YtigjjjpcjnifhaaAtS9
import Derived.Test.YtigjjjpcjnifhaaAbZ
import Derived.Test.YtigjjjpcjnifhaaAbL3
import Derived.Test.YtigjjjpcjnifhaaAtC3
set_option linter.unusedSimpArgs false
set_option linter.unusedVariables false
namespace Go.Ab
open Go Go.Proofs
open Nat (reduceAdd reduceSub)
set_option maxRecDepth 20000
set_option maxHeartbeats 8000000
attribute [local irreducible] bK AW aa bM a8 AR bm a_ bs bT fm fw al
theorem tY (n:Nat) (s:SR) (l:List Int) (hn:n≤20000) (hv:s.value.length=n+1) (hl:∀x∈l,Lit n x):jf Try.prog 31 11 (cd s) [.ptr 0 0,.pv (dP l)] (cd s) (aM true):=by
 simp only[cd,cg]
 refine jf.enter (n:=17) Try.func31 rfl rfl rfl rfl rfl (by decide) rfl rfl fun g aY aW=>?_;refine mL ?_
 refine AW.d_ 1 rfl fun hlen=>?_
 (refine zq ?_;refine eD ?_;refine F_ ?_;refine aa.sub rfl rfl rfl rfl rfl (by omega) ?_;refine aa.lY rfl rfl rfl rfl ?_;refine Q0 ?_;(with_reducible apply aa.bB);(iterate 5 exact rfl);(first|exact rfl|assumption|exact dm _|exact dj _ _|exact dF _|exact dG _ _);(iterate 3 exact rfl);(with_reducible assumption);refine gH ?_;refine lZ ?_;refine aa.gQ rfl rfl rfl ?_;(with_reducible apply aa.inline (hf:=Try.func53));(with_reducible assumption);(iterate 10 exact rfl);intro g_ aY aW;refine Q0 ?_;refine zq ?_;refine eD ?_;refine dk ?_;refine aa.eI rfl rfl rfl ?_;(with_reducible apply aa.inline (hf:=Try.func69));(with_reducible assumption);(iterate 10 exact rfl);intro g_ aY aW;refine Q0 ?_;refine jD ?_;refine dk ?_;refine iv ?_)
 (refine Q0 ?_;apply AW.ck [7,0,1,1006,1005,1004,1000,1001,2014,2013,2005,2004,2000,2001,3000] [11,0,1,2,3,4,5,6,7,8,9,10] (fun k:Nat=>([(8,aw k)]:List (Nat×AV))) (fun k:Nat=>([]:List (Nat×Option Ob))) (fun k:Nat=>k≤l.length) (fun k:Nat=>l.length - k) (0);(conv=>lhs;simp only[Nf.jJ,Nf.all,Nat.reduceBEq,reduceAdd,reduceSub]);(all_goals skip))
 ·exact Nat.zero_le _
 ·exact aN rfl (by(refine⟨.ai (by rfl),?_⟩;refine⟨.ai (by rfl),?_⟩;refine⟨.bz (by rfl),?_⟩;(iterate 2 refine⟨.eq rfl rfl,?_⟩);refine⟨.bz (by rfl),?_⟩;refine⟨.ai (by rfl),?_⟩;refine⟨.bz (by rfl),?_⟩;(iterate 2 refine⟨.eq rfl rfl,?_⟩);refine⟨.bz (by rfl),?_⟩;refine⟨.eq rfl rfl,?_⟩;refine⟨.ai (by rfl),?_⟩;refine⟨.eq rfl rfl,?_⟩;refine⟨.bz (by rfl),?_⟩;refine⟨.eq rfl rfl,?_⟩;exact trivial)) (by(refine⟨.box _ rfl ?_,?_⟩;refine⟨.ai (by rfl),?_⟩;exact trivial;refine⟨.box _ rfl ?_,?_⟩;(iterate 3 refine⟨.aj (by rfl) rfl,?_⟩);refine⟨.ai (by rfl),?_⟩;refine⟨.aj (by rfl) rfl,?_⟩;refine⟨.ai (by rfl),?_⟩;(iterate 2 refine⟨.aj (by rfl) rfl,?_⟩);(iterate 3 refine⟨.ai (by rfl),?_⟩);refine⟨.aj (by rfl) rfl,?_⟩;refine⟨.ai (by rfl),?_⟩;(iterate 2 refine⟨.bz (by rfl),?_⟩);exact trivial;(iterate 3 refine⟨.row rfl,?_⟩);refine⟨.pool rfl (by rfl),?_⟩;(iterate 2 refine⟨.row rfl,?_⟩);refine⟨.pool rfl (by rfl),?_⟩;refine⟨.row rfl,?_⟩;refine⟨.pool rfl (by rfl),?_⟩;refine⟨.row rfl,?_⟩;exact trivial)) rfl
 rintro k hk
 by_cases aP:k<l.length
 ·obtain⟨b1,b2,b3⟩:=hl _ (List.getElem_mem aP)
  have b4:¬l[k]< -((s.value.length:Int) - 1):=by omega
  have b5:¬((s.value.length:Int) - 1)<l[k]:=by omega
  (refine yz ?_;refine Q5 ?_;refine dk ?_;refine eD ?_;refine dH ?_;refine aa.eI rfl rfl rfl ?_;(iterate 2 refine zm ?_);(focus ((with_reducible apply aa.ak);(iterate 7 exact rfl);rotate_left;omega));refine zr ?_;(with_reducible apply aa.inline (hf:=Try.func61));(with_reducible assumption);(iterate 10 exact rfl);intro g_ aY aW;refine Q0 ?_;refine zq ?_;refine eD ?_;refine dk ?_;refine HP ?_;refine f_ rfl rfl ?_;refine gH ?_;refine zk ?_;refine lN ?_;refine vg ?_)
  exact⟨k+1,by omega,by omega,aN rfl (by(refine⟨.ai (by rfl),?_⟩;refine⟨.ai (by rfl),?_⟩;refine⟨.bz (by rfl),?_⟩;(iterate 2 refine⟨.eq rfl rfl,?_⟩);refine⟨.bz (by rfl),?_⟩;refine⟨.ai (by rfl),?_⟩;refine⟨.bz (by rfl),?_⟩;(iterate 2 refine⟨.eq rfl rfl,?_⟩);refine⟨.bz (by rfl),?_⟩;refine⟨.eq rfl rfl,?_⟩;refine⟨.ai (by rfl),?_⟩;refine⟨.eq rfl rfl,?_⟩;refine⟨.bz (by rfl),?_⟩;refine⟨.eq rfl rfl,?_⟩;exact trivial)) (by(refine⟨.box _ rfl ?_,?_⟩;refine⟨.ai (by rfl),?_⟩;exact trivial;refine⟨.box _ rfl ?_,?_⟩;(iterate 3 refine⟨.aj (by rfl) rfl,?_⟩);refine⟨.ai (by rfl),?_⟩;refine⟨.aj (by rfl) rfl,?_⟩;refine⟨.ai (by rfl),?_⟩;(iterate 2 refine⟨.aj (by rfl) rfl,?_⟩);(iterate 3 refine⟨.ai (by rfl),?_⟩);refine⟨.aj (by rfl) rfl,?_⟩;refine⟨.ai (by rfl),?_⟩;(iterate 2 refine⟨.bz (by rfl),?_⟩);exact trivial;(iterate 3 refine⟨.row rfl,?_⟩);refine⟨.pool rfl (by rfl),?_⟩;(iterate 2 refine⟨.row rfl,?_⟩);refine⟨.pool rfl (by rfl),?_⟩;refine⟨.row rfl,?_⟩;refine⟨.pool rfl (by rfl),?_⟩;refine⟨.row rfl,?_⟩;exact trivial)) rfl⟩
 ·(refine zq ?_;refine xB ?_;refine dH ?_;refine e_ ?_;refine f_ rfl rfl ?_;refine Q0 ?_;refine z8 ?_;refine f_ rfl rfl ?_;refine Q0 ?_;refine aa.AN rfl rfl rfl ?_;refine e_ ?_)
  (apply c7;((exact bD.one (.tmp rfl rfl)));((exact tn));((exact Q2));exact rfl)
theorem Ed {n:Nat} {s:SR} (v:s.value=fe n (s.ll 0)) (ht:dT n (s.ll 0)) (hn:n≤20000) {x:Int} (hx:Lit n x) {r:Int} (hr:r=if x∈s.ll 0 then 1 else if -x∈s.ll 0 then -1 else 0):jf Try.prog 34 11 (cd s) [.ptr 0 0,aw x] (cd s) (aw r):=by
 have hl:s.value.length=n+1:=by rw[v,er]
 have:=Fp s x (by obtain⟨_,_,_⟩:=hx;omega) (by obtain⟨_,_,_⟩:=hx;omega) (by rw[v];exact vf)
 rw[v,BD hx ht,← hr] at this
 exact this
theorem s5 {n:Nat} {s:SR} (hs:bj n s) {x:Int} (hx:Lit n x) {r:Int} (hr:r=if x∈s.ll 0 then 1 else if -x∈s.ll 0 then -1 else 0) (a:Int):jf Try.prog 34 11 (cd {s with added:=a}) [.ptr 0 0,aw x] (cd {s with added:=a}) (aw r):=
 Ed (s:={s with added:=a}) hs.val hs.trl hs.hn hx hr
theorem sN (n:Nat) (F:List (List Int)) (k:Nat) (s:SR) (hS:gg n F k s) (hk:k<60000) (c:List Int) (hc:∀x∈c,Lit n x) (dO:c.length≤1000000):nf Try.prog 18 11 (cd s) [.ptr 0 0,.pv (dP c)] (fun q:SR=>gg n (F++ [c]) (k+1) q) (fun q=>cd q) (fun _=>aM true):=by
 have hs:=hS.inv
 have mG:=hs.hn
 have eC:=hs.trl.len
 have sC:=hS.ncl
 have vl:s.value.length=n+1:=by rw[hs.val,er]
 have eK:=tY n s c mG vl hc
 have Lg:=qg {s with added:=s.added+1} 0 (by show(s.marks.length:Int)≤0;rw[hS.marks];simp)
 have Lt:=hS.added
 have PS:¬(60000:Int)≤s.added:=by omega
 simp only[cd,cg] at eK Lg ⊢
 refine nf.enter (n:=84) Try.func18 rfl rfl rfl rfl rfl (by decide) rfl (fun _=>rfl) fun g aY aW=>?_;refine mL ?_
 refine AW.d_ 1 rfl fun hlen=>?_
 (refine jD ?_;refine ox ?_;refine zm ?_;refine zX (eK) ?_;refine fE ?_;refine uI ?_;refine Je ?_;refine aa.ah 67 4 9 rfl rfl rfl rfl ?_;refine zl ?_;refine zb ?_;refine zl ?_;refine aa.geq rfl rfl rfl rfl rfl ?_;refine aa.dr rfl rfl rfl rfl rfl rfl ?_;refine hO ?_;refine dH ?_;refine jG ?_;refine aa.ah 67 4 9 rfl rfl rfl rfl ?_;refine zb ?_;refine zj ?_;refine aa.aJ rfl rfl rfl ?_;refine aa.ah 67 4 9 rfl rfl rfl rfl ?_;(with_reducible apply aa.bB);(iterate 5 exact rfl);(first|exact rfl|assumption|exact dm _|exact dj _ _|exact dF _|exact dG _ _);(iterate 3 exact rfl);(with_reducible assumption);refine gH ?_;refine zq ?_;refine tg ?_;refine zX (Lg) ?_;refine fE ?_;refine zd ?_;refine jD ?_;refine dk ?_;refine iv ?_)
 (refine Q0 ?_;apply AW.ck [31,30,0,1,1000] [0,1,2,3,4,5,6,7,8,9,10] (fun q:List Int×Nat=>([(5,.own 11 3 1 (q.1.map encI)),(32,aw q.2)]:List (Nat×AV))) (fun q:List Int×Nat=>([(11,some .row)]:List (Nat×Option Ob))) (fun q:List Int×Nat=>jF s c q.1 q.2) (fun q:List Int×Nat=>c.length - q.2) ((([]:List Int),(0:Nat)));(conv=>lhs;simp only[Nf.jJ,Nf.all,Nat.reduceBEq,reduceAdd,reduceSub]);(all_goals skip))
 ·exact .start
 ·exact aN rfl (by(refine⟨.nilown _ _ _ rfl rfl,?_⟩;(iterate 2 refine⟨.ai (by rfl),?_⟩);refine⟨.bz (by rfl),?_⟩;refine⟨.eq rfl rfl,?_⟩;refine⟨.bz (by rfl),?_⟩;refine⟨.eq rfl rfl,?_⟩;exact trivial)) (by(refine⟨.newrow rfl,?_⟩;refine⟨.box _ rfl ?_,?_⟩;(iterate 3 refine⟨.aj (by rfl) rfl,?_⟩);refine⟨.ai (by rfl),?_⟩;refine⟨.aj (by rfl) rfl,?_⟩;refine⟨.ai (by rfl),?_⟩;(iterate 2 refine⟨.aj (by rfl) rfl,?_⟩);(iterate 3 refine⟨.ai (by rfl),?_⟩);refine⟨.aj (by rfl) rfl,?_⟩;refine⟨.ai (by rfl),?_⟩;(iterate 2 refine⟨.bz (by rfl),?_⟩);exact trivial;(iterate 3 refine⟨.row rfl,?_⟩);refine⟨.pool rfl (by rfl),?_⟩;(iterate 2 refine⟨.row rfl,?_⟩);refine⟨.pool rfl (by rfl),?_⟩;refine⟨.row rfl,?_⟩;refine⟨.pool rfl (by rfl),?_⟩;refine⟨.row rfl,?_⟩;exact trivial)) rfl
 rintro⟨l,i⟩ hA
 simp only at hA
 have hi:=hA.hi
 have oF:l.length≤1000000:=by
  have:=eW (n:=2*n+2) (l:=l.map al) (by
   unfold List.Nodup
   rw[List.pairwise_map]
   exact hA.nd.imp_of_mem fun {a b} ha hb mK e=>mK (cA (hc a (hA.sub a ha).1) (hc b (hA.sub b hb).1) (by rw[e]))) fun v hv=>by
   obtain⟨a,ha,rfl⟩:=List.mem_map.1 hv
   have:=da (hc a (hA.sub a ha).1)
   omega
  simp only[List.length_map] at this
  omega
 by_cases aP:i<c.length
 ·have oK:(i:Int).toNat<c.length:=by omega
  obtain⟨x,hx⟩:∃x,x=c[i]:=⟨_,rfl⟩
  have qz:=hc _ (List.getElem_mem aP)
  have oL:c[i]∈c:=List.getElem_mem aP
  rw[← hx] at qz oL
  have Dt: -1000000≤x∧x≤1000000:=by obtain⟨_,_,_⟩:=qz;omega
  have Ho:=ia c (-x)
  have AY:=ia l x
  by_cases sE: -x∈c
  ·have hT:=hS.JS hc (.inl ⟨x,oL,sE⟩)
   rw[decide_eq_true sE] at Ho
   (refine j6 ?_;(focus ((with_reducible apply aa.ak);(iterate 7 exact rfl);rotate_left;omega));refine zr ?_;refine jX ?_;(with_reducible apply AW.pj 9);(rw[← hx]);refine vu ?_;refine aa.neg rfl rfl rfl (by omega) ?_;refine zA (Ho) ?_;refine zm ?_;(iterate 6 refine aa.bV rfl rfl rfl rfl rfl rfl rfl ?_);refine aa.cY rfl rfl rfl rfl rfl rfl ?_;refine rj ?_;refine dH ?_;refine mH ?_;refine Bj ?_)
   (apply bW (({s with added:=s.added+1}:SR)) (hT);((exact bD.one (.tmp rfl rfl)));((exact tn));((exact Q2));exact rfl)
  ·rw[decide_eq_false sE] at Ho
   by_cases hp1:x∈s.ll 0
   ·have hT:=hS.JS hc (.inr ⟨x,oL,hp1⟩)
    have lI:=s5 hs qz (r:=1) (if_pos hp1).symm (s.added+1)
    simp only[cd,cg] at lI
    (refine j6 ?_;(focus ((with_reducible apply aa.ak);(iterate 7 exact rfl);rotate_left;omega));refine zr ?_;refine jX ?_;(with_reducible apply AW.pj 9);(rw[← hx]);refine vu ?_;refine aa.neg rfl rfl rfl (by omega) ?_;refine zA (Ho) ?_;refine zm ?_;refine Je ?_;refine aa.ah 67 0 0 rfl rfl rfl rfl ?_;refine iO ?_;refine zX (lI) ?_;refine fE ?_;refine E3 ?_;refine rj ?_;refine dH ?_;refine mH ?_;refine Bj ?_)
    (apply bW (({s with added:=s.added+1}:SR)) (hT);((exact bD.one (.tmp rfl rfl)));((exact tn));((exact Q2));exact rfl)
   ·by_cases hp2: -x∈s.ll 0
    ·have lI:=s5 hs qz (r:= -1) (by rw[if_neg hp1,if_pos hp2]) (s.added+1)
     have la:=hA.skip aP (.inr (by rw[← hx];exact hp2))
     simp only[cd,cg] at lI
     (refine j6 ?_;(focus ((with_reducible apply aa.ak);(iterate 7 exact rfl);rotate_left;omega));refine zr ?_;refine jX ?_;(with_reducible apply AW.pj 9);(rw[← hx]);refine IJ ?_;(iterate 4 refine aa.bV rfl rfl rfl rfl rfl rfl rfl ?_);refine aa.dr rfl rfl rfl rfl rfl rfl ?_;refine oz ?_;refine lx ?_)
     exact OO
    ·have lI:=s5 hs qz (r:=0) (by rw[if_neg hp1,if_neg hp2]) (s.added+1)
     simp only[cd,cg] at lI
     by_cases cZ:x∈l
     ·rw[decide_eq_true cZ] at AY
      have la:=hA.skip aP (.inl (by rw[← hx];exact cZ))
      (refine j6 ?_;(focus ((with_reducible apply aa.ak);(iterate 7 exact rfl);rotate_left;omega));refine zr ?_;refine jX ?_;(with_reducible apply AW.pj 9);(rw[← hx]);refine J2 ?_;refine oz ?_;refine lx ?_)
      exact OO
     ·rw[decide_eq_false cZ] at AY
      have la:=hA.add aP (by rw[← hx];exact cZ) (by rw[← hx];exact hp1) (by rw[← hx];exact hp2)
      rw[← hx] at la
      (refine j6 ?_;(focus ((with_reducible apply aa.ak);(iterate 7 exact rfl);rotate_left;omega));refine zr ?_;refine jX ?_;(with_reducible apply AW.pj 9);(rw[← hx]);refine J2 ?_;refine rj ?_;refine kM ?_;refine qn ?_;(with_reducible apply aa.il);(iterate 5 exact rfl);(first|exact rfl|assumption|exact dm _|exact dj _ _|exact dF _|exact dG _ _);exact rfl;exact rfl;refine Q0 ?_;(with_reducible apply aa.aZ);exact rfl;(first|exact .pv rfl|exact .own rfl|exact .nil rfl);(iterate 9 exact rfl);(first|omega|(simp only[List.length_map,List.length_append,List.length_cons,List.length_nil,List.length_drop,List.length_take,List.length_set,List.length_range,aE];omega));refine Q0 ?_;refine qL ?_;refine lx ?_)
      exact⟨((l++ [x],i+1):List Int×Nat),la,by show c.length - (i+1)<c.length - i;omega,aN rfl (by(refine⟨.aj (by first|rfl|(rw[List.map_append];rfl)) rfl,?_⟩;refine⟨.ai (by first|rfl|(rw[List.map_append];rfl)),?_⟩;refine⟨.ai (by first|rfl|(rw[List.map_append];rfl)),?_⟩;refine⟨.bz (by first|rfl|(rw[List.map_append];rfl)),?_⟩;refine⟨.eq rfl rfl,?_⟩;refine⟨.bz (by first|rfl|(rw[List.map_append];rfl)),?_⟩;refine⟨.eq rfl rfl,?_⟩;exact trivial)) (by(refine⟨.row rfl,?_⟩;refine⟨.box _ rfl ?_,?_⟩;refine⟨.aj (by first|rfl|(rw[List.map_append];rfl)) rfl,?_⟩;refine⟨.aj (by first|rfl|(rw[List.map_append];rfl)) rfl,?_⟩;refine⟨.aj (by first|rfl|(rw[List.map_append];rfl)) rfl,?_⟩;refine⟨.ai (by first|rfl|(rw[List.map_append];rfl)),?_⟩;refine⟨.aj (by first|rfl|(rw[List.map_append];rfl)) rfl,?_⟩;refine⟨.ai (by first|rfl|(rw[List.map_append];rfl)),?_⟩;refine⟨.aj (by first|rfl|(rw[List.map_append];rfl)) rfl,?_⟩;refine⟨.aj (by first|rfl|(rw[List.map_append];rfl)) rfl,?_⟩;refine⟨.ai (by first|rfl|(rw[List.map_append];rfl)),?_⟩;refine⟨.ai (by first|rfl|(rw[List.map_append];rfl)),?_⟩;refine⟨.ai (by first|rfl|(rw[List.map_append];rfl)),?_⟩;refine⟨.aj (by first|rfl|(rw[List.map_append];rfl)) rfl,?_⟩;refine⟨.ai (by first|rfl|(rw[List.map_append];rfl)),?_⟩;refine⟨.bz (by first|rfl|(rw[List.map_append];rfl)),?_⟩;refine⟨.bz (by first|rfl|(rw[List.map_append];rfl)),?_⟩;exact trivial;(iterate 3 refine⟨.row rfl,?_⟩);refine⟨.pool rfl (by first|rfl|(rw[List.map_append];rfl)),?_⟩;(iterate 2 refine⟨.row rfl,?_⟩);refine⟨.pool rfl (by first|rfl|(rw[List.map_append];rfl)),?_⟩;refine⟨.row rfl,?_⟩;refine⟨.pool rfl (by first|rfl|(rw[List.map_append];rfl)),?_⟩;refine⟨.row rfl,?_⟩;exact trivial)) rfl⟩
 ·obtain rfl:i=c.length:=by omega
  by_cases h0:l=[]
  ·subst h0
   have hT:=hS.empty hc hA
   (refine F9 ?_;refine AW.fN rfl rfl ?_;refine kM ?_;refine jG ?_;refine aa.ah 67 5 10 rfl rfl rfl rfl ?_;(with_reducible apply aa.bB);(iterate 5 exact rfl);(first|exact rfl|assumption|exact dm _|exact dj _ _|exact dF _|exact dG _ _);(iterate 3 exact rfl);(with_reducible assumption);refine Q0 ?_;refine y8 ?_;refine zq ?_;refine e_ ?_)
   (apply bW (({s with added:=s.added+1,broken:=true}:SR)) (hT);((exact bD.one (.tmp rfl rfl)));((exact tn));((exact Q2));exact rfl)
  ·have Ja:0<l.length:=List.length_pos_iff.2 h0
   have hz0:(0:Int).toNat<l.length:=show 0<_ by omega
   by_cases h1:l.length=1
   ·have e1:=Cn h1 hz0
    have hm0:=hc _ (hA.sub _ (List.getElem_mem hz0)).1
    have hT:=fun h:Value=>hS.unit hc (by rw[← e1];exact hA) h
    have Dd:=kA {s with added:=s.added+1} l[(0:Int).toNat] (-1) (by obtain⟨_,_,_⟩:=hm0;omega) (by obtain⟨_,_,_⟩:=hm0;show _<(s.value.length:Int)∧_<(s.value.length:Int);omega) (by show s.level.length=s.value.length;rw[hs.lvl,vl]) (by show s.reason.length=s.value.length;rw[hs.rsn,vl]) (by show(s.ll 0).length≤_;omega) (by show s.marks.length≤_;rw[hS.marks];simp)
    simp only[cd,cg] at Dd
    (refine F9 ?_;refine zk ?_;refine dH ?_;refine ym ?_;refine zc ?_;refine Gw ?_;show aa .held _ _ _ [_,_,_,_,_] _ _;refine tg ?_;refine aa.bt rfl rfl rfl ?_;refine wo ?_;refine Q4 ?_;intro k_ cI;refine xj ?_;intro g_ ag bq;(focus ((with_reducible apply aa.aC);(iterate 4 exact rfl);(focus (intro h_;cases h_;done));rotate_left;(first|omega|exact Nat.zero_lt_one|(simp;done))));refine p9 ?_;intro g_ ag aH;(with_reducible apply aa.dZ (hf:=Dd));(with_reducible assumption);(iterate 3 exact rfl);(repeat (first|exact trivial|refine⟨rfl,?_⟩));(repeat (first|exact .nil|(refine .cons ?_ ?_;(first|exact .eq rfl rfl|exact .nil _|exact .any _))));(intro x_;exact rfl);exact rfl;(repeat (first|exact trivial|refine⟨rfl,?_⟩|refine⟨aI,?_⟩));(intro x_;(repeat (first|exact trivial|refine⟨rfl,?_⟩|refine⟨aI,?_⟩)));(intro x_;exact rfl);exact rfl;(intro x_ jQ);refine fE ?_;refine xt ?_;refine ca ?_;refine cw ?_;refine zq ?_;refine e_ ?_)
    (apply bW ((a6 {s with added:=s.added+1} l[(0:Int).toNat] (-1) x_:SR)) (hT x_);((exact bD.one (.tmp rfl rfl)));((exact tn));((exact Q2));exact rfl)
   ·have h2:2≤l.length:=by omega
    (refine F9 ?_;refine zk ?_;refine dH ?_;refine ym ?_;refine zk ?_;refine AW.FY 15 ?_)
    refine Stop.go ?_
    refine AW.q_ 7 11 s.nc 5 (us:=l) rfl rfl rfl rfl (hs.fresh s.nc (Nat.le_refl _)).2 fun v_ CD=>?_
    (try (conv=>rhs;simp only[Nf.cG,Nf.all,Nat.reduceBEq,reduceAdd,reduceSub]))
    have hT:=fun h1 h3:Value=>hS.Lq hc hk hA h2 v_ h1 h3
    have jC:∀x∈l,Lit n x:=fun x hx=>hc x (hA.sub x hx).1
    have m0:=jC _ (dW h2).1
    have m1:=jC _ (dW h2).2
    have br:c0 l≠c1 l:=fun e=>by
     rw[show c0 l=l[0] from aQ (by omega),show c1 l=l[1] from aQ (by omega)] at e
     have:=(List.getElem_inj hA.nd (h₀:=by omega) (h₁:=by omega)).1 e
     omega
    have i0:=da m0
    have i1:=da m1
    have xT:(l.drop 2).length≤1000000:=by rw[List.length_drop];omega
    have vp:=hs.nw
    have Nk:=hs.y4 m0
    have Mk:=hs.y4 m1
    have Pa:al (c0 l)≠al (c1 l):=fun e=>br (cA m0 m1 (by rw[e]))
    obtain⟨_,_,_⟩:=m0
    obtain⟨_,_,_⟩:=m1
    have oq:=pC {s with added:=s.added+1,hc:=aB s.hc s.nc v_,cl:=aB s.cl s.nc l} (c0 l) (c1 l) (l.drop 2) (by show aB s.cl s.nc l s.nc=_;rw[ab];exact BP h2) Pa (by show 0≤al (c0 l)∧_<s.nw;omega) (by show 0≤al (c1 l)∧_<s.nw;omega) (by omega) (by omega) (by show s.nc≤_;omega) (by show(s.wl _).length≤_;omega) (by show(s.wl _).length≤_;omega) (by show s.nw≤_;omega) xT
    simp only[cd,cg,ab,dU] at oq
    rw[cP s.nc s.hc v_]
    (refine AW.region ?_;refine zp ?_;(with_reducible apply aa.dZ (hf:=oq));(with_reducible assumption);(iterate 3 exact rfl);(repeat (first|exact trivial|refine⟨rfl,?_⟩));(repeat (first|exact .nil|(refine .cons ?_ ?_;(first|exact .eq rfl rfl|exact .nil _|exact .any _))));(intro x_;exact rfl);exact rfl;(repeat (first|exact trivial|refine⟨rfl,?_⟩|refine⟨aI,?_⟩));(intro x_;(repeat (first|exact trivial|refine⟨rfl,?_⟩|refine⟨aI,?_⟩)));(intro x_;exact rfl);exact rfl;(intro x_ jQ);refine Q1 ?_;refine y8 ?_;refine zq ?_;refine e_ ?_)
    (apply bW ((fi {s with added:=s.added+1} l v_ x_.1 x_.2:SR)) (hT x_.1 x_.2);((exact bD.one (.tmp rfl rfl)));((exact tn));((exact Q2));exact rfl)
end Go.Ab
/- What a search leaves;the invariant of its loop. -/
namespace Go.Ab
open Go Go.Proofs
structure eM (n:Nat) (F:List (List Int)) (A:List Int) (fuel:Nat) (t:SR) (k:Int):Prop where
 hn:n≤20000
 prf:oV F t.proof
 lits:∀c∈F++t.proof,∀x∈c,Lit n x
 plen:t.proof.length≤3 ^ n
 plen2:t.proof.length≤20000
 nd:∀c∈t.proof,c.Nodup
 res:(k=1∧∃L,t.model=fe n L∧t.core=[]∧rX n F A L)∨(k=2∧t.model=[]∧∃P,t.proof=P++ [t.core.map fun y=> -y]∧(∀y∈t.core,y∈A)∧t.core.Nodup∧∀y∈t.core,Lit n y)∨(k=0∧t.model=[]∧t.core=[]∧(fuel<3 ^ n∨20000<3 ^ n))
def LV (A:List Int) (s:SR):Prop:=∀l:Nat,A.length<l→l≤s.marks.length→∃x∈s.ll 0,aD s x=(l:Int)
theorem C0 {a:Nat}:∀{b:Nat} {S:List Int},(∀l:Nat,a<l→l≤b→(l:Int)∈S)→b≤a+S.length
 |0,_,_=>by omega
 |b+1,S,h=>by
  by_cases e:b+1≤a
  ·omega
  ·have hm:=h (b+1) (by omega) (Nat.le_refl _)
   have:=C0 (b:=b) (S:=S.erase ((b+1:Nat):Int)) fun l h1 h2=>(List.mem_erase_of_ne (by omega)).2 (h l h1 (by omega))
   rw[List.length_erase_of_mem hm] at this
   have:0<S.length:=List.length_pos_of_mem hm
   omega
section
variable {n:Nat} {F:List (List Int)} {A:List Int} {P0 N0:Nat} {s:SR} {met:Nat}
theorem LV.len (h:LV A s) (hs:bj n s):s.marks.length≤A.length+n:=by
 have:=C0 (a:=A.length) (b:=s.marks.length) (S:=(s.ll 0).map (aD s)) fun l h1 h2=>by
  obtain⟨x,hx,e⟩:=h l h1 h2
  exact List.mem_map.2 ⟨x,hx,e⟩
 rw[List.length_map] at this
 have:=hs.trl.len
 omega
theorem LV.prop {t:SR} {r:Int} (h:LV A s) (hs:bj n s) (hp:BB n s t r):LV A t:=fun l h1 h2=>by
 rw[hp.ext.marks] at h2
 obtain⟨x,hx,e⟩:=h l h1 h2
 obtain⟨ys,ell⟩:=hp.ext.ll
 exact⟨x,by rw[ell];exact List.mem_append.2 (.inl hx),by rw[l4 hs hp.inv hp.ext hx];exact e⟩
theorem LV.Bk (hA:s.marks.length<A.length):LV A (cu s):=fun l h1 h2=>by
 have h2:l≤(s.marks++ [((s.ll 0).length:Int)]).length:=h2
 simp only[List.length_append,List.length_singleton] at h2
 omega
theorem LV.Bu {x:Int} {hv:Value} (h:LV A s) (hi:bj n (a6 (cu s) x (-1) hv)) (hs:bj n s) (hh:s.head=((s.ll 0).length:Int)) (hx:Lit n x) (h1:x∉s.ll 0) (h2: -x∉s.ll 0):LV A (a6 (cu s) x (-1) hv):=fun l q1 q2=>by
 have eC:(a6 (cu s) x (-1) hv).ll 0=s.ll 0++ [x]:=dL _ _ _ _
 have q2:l≤(s.marks++ [((s.ll 0).length:Int)]).length:=q2
 simp only[List.length_append,List.length_singleton] at q2
 by_cases e:l≤s.marks.length
 ·obtain⟨y,hy,ey⟩:=h l q1 e
  exact⟨y,by rw[eC];exact List.mem_append.2 (.inl hy),(cV (s:=cu s) (jr (n:=n) h1 h2 (.inl hy))).trans ey⟩
 ·obtain rfl:l=s.marks.length+1:=by omega
  refine⟨x,by rw[eC];simp,?_⟩
  rw[gD (hs.mark hh) hx]
  show(((s.marks++ [_]).length:Nat):Int)=_
  simp
theorem LV.cut (h:LV A s) (hs:bj n s) {t:Nat} (ht:t<s.marks.length):∀l:Nat,A.length<l→l≤t→∃x∈(bA s t).ll 0,aD s x=(l:Int):=fun l q1 q2=>by
 obtain⟨x,hx,e⟩:=h l q1 (by omega)
 obtain⟨i,hi,rfl⟩:=List.getElem_of_mem hx
 have:=(hs.fY ht hi).1 (by omega)
 rw[(gy hs ht).1]
 exact⟨_,List.mem_take_iff_getElem.2 ⟨i,by omega,rfl⟩,e⟩
structure SJ (n:Nat) (F:List (List Int)) (A:List Int) (N0 fuel:Nat) (s:SR) (met:Nat):Prop where
 si:SI n F A 0 N0 s met
 lv:LV A s
 model:s.model=[]
 core:s.core=[]
 mf:met<fuel
 nd:∀c∈s.proof,c.Nodup
theorem Cf (hs:bj n s):x7 s=s:=by
 have:=hs.hd
 show({s with head:=min s.head ((s.ll 0).length:Int)}:SR)=s
 rw[Int.min_eq_left (by omega)]
theorem gg.sj {k fuel:Nat} (h:gg n F k s) (hf:0<fuel):SJ n F A k fuel {s with core:=[],model:=[]} 0:=by
 have h2:gg n F k {s with core:=[],model:=[]}:=
  {inv:={hn:=h.inv.hn,trl:=h.inv.trl,val:=h.inv.val,lvl:=h.inv.lvl,rsn:=h.inv.rsn,hd:=h.inv.hd,mrk:=h.inv.mrk,lev:=h.inv.lev,cls:=h.inv.cls,fresh:=h.inv.fresh,nc:=h.inv.nc,nw:=h.inv.nw,wt:=h.inv.wt,wnd:=h.inv.wnd,wto:=h.inv.wto,two:=h.inv.two,srt:=h.inv.srt,rea:=h.inv.rea}
   sem:=⟨h.sem.lits,h.sem.cls,h.sem.lev0,h.sem.bad,h.sem.prf,h.sem.rep⟩
   low:=h.low,marks:=h.marks,proof:=h.proof,added:=h.added,ncl:=h.ncl}
 exact⟨h2.si A,fun l _ h1=>by have h1:l≤s.marks.length:=h1;rw[h.marks] at h1;simp at h1;omega,rfl,rfl,hf,fun c hc=>by have hc:c∈s.proof:=hc;rw[h.proof] at hc;simp at hc⟩
theorem SJ.prop {N0 fuel:Nat} {t:SR} {r:Int} (h:SJ n F A N0 fuel s met) (hp:BB n s t r):SJ n F A N0 fuel t met:=
 ⟨h.si.prop hp,h.lv.prop h.si.inv hp,by rw[hp.ext.model];exact h.model,by rw[hp.ext.core];exact h.core,h.mf,by rw[hp.ext.proof];exact h.nd⟩
theorem SJ.lW {N0 fuel:Nat} {j:Nat} {v:Value} {l:List Int} {to:Int} {q:SR} (h:SJ n F A N0 fuel s met) (ha:l_ n s j l to) (hm:0<s.marks.length) (hj:j<s.nc) (hf:∀x∈s.cl j,-x∈s.ll 0) (hN:N0≤60000) (Pm:fuel≤30000) (hq:BW (bA {s with hc:=aB s.hc s.nc v,cl:=aB s.cl s.nc l} to.toNat) q):
  SI n F A 0 N0 q (met+1)∧LV A q∧q.model=[]∧q.core=[]∧∀c∈q.proof,c.Nodup:=by
 have hs:=h.si.inv
 obtain⟨GV,ht,aP⟩:=ha.lvl hs hm
 have M0:=h.lv.cut hs ht
 have dO:(bA {s with hc:=aB s.hc s.nc v,cl:=aB s.cl s.nc l} to.toNat).cl (bA {s with hc:=aB s.hc s.nc v,cl:=aB s.cl s.nc l} to.toNat).nc=l:=by
  show aB s.cl s.nc l s.nc=l
  exact ab _ _ _
 have FE:=ha.back hs ⟨ht,aP⟩
 have dt:∀c∈s.proof++ [l],c.Nodup:=fun c hc=>by
  obtain⟨_,_,_,_,_,_,r5,_⟩:=FE
  rcases List.mem_append.1 hc with hc|hc
  ·exact h.nd c hc
  ·rw[List.mem_singleton.1 hc];exact r5
 rcases hq with ⟨p,hv,e1,e2⟩|⟨l',h1,h2,hv,e0,e1,e2,e3,e4,e5⟩
 ·rw[dO] at e1
  subst e1
  obtain⟨yH,hSI⟩:=h.si.GZ ha hm hj hf hv
  have eq:q=a6 (ji (bA s to.toNat) [p]) p (-1) hv:=by
   rw[e2,dO]
   have e3:({bA {s with hc:=aB s.hc s.nc v,cl:=aB s.cl s.nc [p]} to.toNat with hc:=aB (aB s.hc s.nc v) s.nc (.slice none 0 0),cl:=aB (aB s.cl s.nc [p]) s.nc [],proof:=s.proof++ [[p]]}:SR)=ji (bA s to.toNat) [p]:=by
    obtain⟨f1,f2⟩:=hs.fresh s.nc (Nat.le_refl _)
    rw[dB,dB]
    have g1:aB s.hc s.nc (.slice none 0 0)=s.hc:=by rw[← f2];exact oP _ _
    have g2:aB s.cl s.nc []=s.cl:=by rw[← f1];exact oP _ _
    rw[g1,g2];rfl
   exact congrArg (fun z=>a6 z p (-1) hv) e3
  rw[eq]
  refine⟨hSI,fun l h1 h2=>?_,h.model,h.core,dt⟩
  have h2:l≤(s.marks.take to.toNat).length:=h2
  rw[yH] at h2
  simp at h2;omega
 ·rw[dO] at e0 e1 e2 e3 e4 e5
  have sC:s.nc+1≤100000:=by have:=h.si.ncl;have:=h.mf;omega
  have hSI:=h.si.HH ha hm hj hf e0 e1 e2 e3 e4 sC v h1 h2 hv
  have eq:q=a6 (fi (ji (bA s to.toNat) l) l' v h1 h2) (c0 l') s.nc hv:=by
   rw[e5]
   have e3:({bA {s with hc:=aB s.hc s.nc v,cl:=aB s.cl s.nc l} to.toNat with nc:=s.nc+1,cl:=aB (aB s.cl s.nc l) s.nc l',proof:=s.proof++ [l]}:SR)={ji (bA s to.toNat) l with nc:=s.nc+1,hc:=aB s.hc s.nc v,cl:=aB s.cl s.nc l'}:=by
    rw[dB];rfl
   exact congrArg (fun z=>a6 (dU (dU z (c0 l') s.nc h1) (c1 l') s.nc h2) (c0 l') (s.nc:Nat) hv) e3
  rw[eq]
  refine⟨hSI,fun l2 q1 q2=>?_,h.model,h.core,dt⟩
  have q2:l2≤(s.marks.take to.toNat).length:=q2
  rw[List.length_take] at q2
  obtain⟨x,hx,ex⟩:=M0 l2 q1 (by omega)
  obtain⟨p,rest,r1,r2,r3,r4,_⟩:=FE
  have ec0:c0 l'=p:=by rw[e2,r1];rfl
  refine⟨x,by rw[dL];exact List.mem_append.2 (.inl hx),?_⟩
  rw[ec0]
  exact(cV (s:=fi (ji (bA s to.toNat) l) l' v h1 h2) (jr (n:=n) r3 r4 (.inl hx))).trans ex
end
end Go.Ab
/- What the search's endings leave;the least free variable. -/
namespace Go.Ab
open Go Go.Proofs
theorem nL {v:List Int}:∀{m low:Nat},v.length - low=m→(∀i,low≤i→i<eF v low→v.getD i 0≠0)∧(eF v low<v.length→v.getD (eF v low) 0=0)
 |0,low,h=>by
  rw[pV (by omega)]
  exact⟨fun i h1 h2=>by omega,fun h1=>by omega⟩
 |m+1,low,h=>by
  have aP:low<v.length:=by omega
  by_cases h0:v[low]=0
  ·rw[nk aP h0]
   exact⟨fun i h1 h2=>by omega,fun _=>by rw[aQ aP];exact h0⟩
  ·rw[nG aP h0]
   obtain⟨q1,q2⟩:=nL (v:=v) (m:=m) (low:=low+1) (by omega)
   refine⟨fun i h1 h2=>?_,q2⟩
   by_cases e:i=low
   ·subst e;rw[aQ aP];exact h0
   ·exact q1 i (by omega) h2
theorem wL {n:Nat} {L:List Int} {u:Nat} (hu:u≤n):(fe n L).getD u 0≠0↔(u:Int)∈L∨ -(u:Int)∈L:=by
 rw[me L hu]
 by_cases h1:(u:Int)∈L
 ·simp [h1]
 ·by_cases h2: -(u:Int)∈L
  ·simp [h1,h2]
  ·simp [h1,h2]
section
variable {n:Nat} {F:List (List Int)} {A:List Int} {N0 fuel:Nat} {s t:SR} {met:Nat}
theorem SJ.plen (h:SJ n F A N0 fuel s met):s.proof.length=met∧met<3 ^ n:=⟨by have:=h.si.plen;omega,h.si.AI⟩
theorem o_ {P:List (List Int)} {c:List Int} (h:∀d∈F++P,∀x∈d,Lit n x) (hc:∀x∈c,Lit n x):∀d∈F++(P++ [c]),∀x∈d,Lit n x:=fun d hd=>by
 rw[← List.append_assoc] at hd
 rcases List.mem_append.1 hd with hd|hd
 ·exact h d hd
 ·rw[List.mem_singleton.1 hd];exact hc
theorem xH {P:List (List Int)} {c:List Int} (h:∀d∈P,d.Nodup) (hc:c.Nodup):∀d∈P++ [c],d.Nodup:=fun d hd=>by
 rcases List.mem_append.1 hd with hd|hd
 ·exact h d hd
 ·rw[List.mem_singleton.1 hd];exact hc
theorem SJ.Mf (h:SJ n F A N0 fuel s met) (hf:fuel≤20000) (hc:mb (F++s.proof) Bq) (e1:t.proof=s.proof++ [([]:List Int).map fun y=> -y]) (e2:t.core=[]) (e3:t.model=[]):eM n F A fuel t 2:=by
 obtain⟨p1,p2⟩:=h.plen
 have:=h.mf
 exact
  {hn:=h.si.inv.hn
   prf:=by rw[e1];exact h.si.sem.prf.snoc (.inl (hc.cut (fun _ h=>h) fun _ h=>h.elim))
   lits:=by rw[e1];exact o_ h.si.sem.lits fun x hx=>by simp at hx
   plen:=by rw[e1,List.length_append,List.length_singleton];omega
   plen2:=by rw[e1,List.length_append,List.length_singleton];omega
   nd:=by rw[e1];exact xH h.nd (by simp)
   res:=.inr (.inl ⟨rfl,e3,s.proof,by rw[e2];exact e1,by rw[e2];simp,by rw[e2];simp,by rw[e2];simp⟩)}
theorem SJ.Mn (h:SJ n F A N0 fuel s met) (hf:fuel≤20000) {x:Int} {core:List Int} (hb:wR n s x core) (hm:s.marks.length<A.length) (hxA:x∈A) (hx: -x∈s.ll 0) (e1:t.proof=s.proof++ [core.map fun y=> -y]) (e2:t.core=core) (e3:t.model=[]):eM n F A fuel t 2:=by
 obtain⟨p1,p2⟩:=h.plen
 have:=h.mf
 obtain⟨b1,b2,b3⟩:=hb.core h.si hm hxA hx
 exact
  {hn:=h.si.inv.hn
   prf:=by rw[e1];exact h.si.sem.prf.snoc (hb.L5 h.si.sem hx)
   lits:=by
    rw[e1]
    refine o_ h.si.sem.lits fun y hy=>?_
    obtain⟨z,hz,rfl⟩:=List.mem_map.1 hy
    obtain⟨_,_,_⟩:=b3 z hz
    exact⟨by omega,by omega,by omega⟩
   plen:=by rw[e1,List.length_append,List.length_singleton];omega
   plen2:=by rw[e1,List.length_append,List.length_singleton];omega
   nd:=by rw[e1];exact xH h.nd (by unfold List.Nodup;rw[List.pairwise_map];exact b2.imp fun mK e=>mK (by omega))
   res:=.inr (.inl ⟨rfl,e3,s.proof,by rw[e2];exact e1,by rw[e2];exact b1,by rw[e2];exact b2,by rw[e2];exact b3⟩)}
theorem SI.ME (h:SI n F A 0 N0 s met) (dt:∀c∈s.proof,c.Nodup) (hf:fuel≤20000) (hm:met=fuel) (e1:t.proof=s.proof) (e2:t.core=[]) (e3:t.model=[]):eM n F A fuel t 0:=by
 have p1:=h.plen
 have p2:=h.AI
 exact
  {hn:=h.inv.hn
   prf:=by rw[e1];exact h.sem.prf
   lits:=by rw[e1];exact h.sem.lits
   plen:=by rw[e1];omega
   plen2:=by rw[e1];omega
   nd:=by rw[e1];exact dt
   res:=.inr (.inr ⟨rfl,e3,e2,.inl (by omega)⟩)}
theorem SJ.full (h:SJ n F A N0 fuel s met) {low:Nat} (hl:s.low=(low:Int)) (he:eF s.value low=s.value.length):∀v:Nat,1≤v→v≤n→(v:Int)∈s.ll 0∨ -(v:Int)∈s.ll 0:=fun v h1 h2=>by
 obtain⟨k,q1,q2,q3,q4⟩:=h.si.low
 have Di:k=low:=by omega
 subst Di
 by_cases e:v<k
 ·exact q4 v h1 e
 ·have:=(nL (v:=s.value) (low:=k) rfl).1 v (by omega) (by rw[he,h.si.inv.val,er];omega)
  rw[h.si.inv.val] at this
  exact(wL h2).1 this
theorem SJ.NC (h:SJ n F A N0 fuel s met) (hf:fuel≤20000) (hb:s.broken=false) (hh:s.head=((s.ll 0).length:Int)) (hA:A.length≤s.marks.length) (xz:∀v:Nat,1≤v→v≤n→(v:Int)∈s.ll 0∨ -(v:Int)∈s.ll 0) (e1:t.proof=s.proof) (e2:t.core=[]) (e3:t.model=s.value):eM n F A fuel t 1:=by
 obtain⟨p1,p2⟩:=h.plen
 have:=h.mf
 exact
  {hn:=h.si.inv.hn
   prf:=by rw[e1];exact h.si.sem.prf
   lits:=by rw[e1];exact h.si.sem.lits
   plen:=by rw[e1];omega
   plen2:=by rw[e1];omega
   nd:=by rw[e1];exact h.nd
   res:=.inl ⟨rfl,s.ll 0,by rw[e3];exact h.si.inv.val,e2,h.si.sat hb hh hA xz⟩}
theorem bj.F6 (h:bj n s) (k:Int):bj n {s with low:=k}:=
 {hn:=h.hn,trl:=h.trl,val:=h.val,lvl:=h.lvl,rsn:=h.rsn,hd:=h.hd,mrk:=h.mrk,lev:=h.lev,cls:=h.cls,fresh:=h.fresh,nc:=h.nc,nw:=h.nw,wt:=h.wt,wnd:=h.wnd,wto:=h.wto,two:=h.two,srt:=h.srt,rea:=h.rea}
theorem SJ.free (h:SJ n F A N0 fuel s met) {low:Nat} (hl:s.low=(low:Int)) (he:eF s.value low≠s.value.length):∃v:Nat,eF s.value low=v∧1≤v∧v≤n∧(v:Int)∉s.ll 0∧ -(v:Int)∉s.ll 0∧(∀u:Nat,0<u→u<v→(u:Int)∈s.ll 0∨ -(u:Int)∈s.ll 0)∧SJ n F A N0 fuel {s with low:=(v:Int)} met:=by
 obtain⟨k,q1,q2,q3,q4⟩:=h.si.low
 have Di:k=low:=by omega
 subst Di
 have D_:s.value.length=n+1:=by rw[h.si.inv.val,er]
 obtain⟨b1,b2⟩:=r9 (v:=s.value) (low:=k) rfl (by omega)
 obtain⟨c1,c2⟩:=nL (v:=s.value) (low:=k) rfl
 have aP:eF s.value k<s.value.length:=by omega
 have hz:=c2 aP
 have gB:¬((eF s.value k:Int)∈s.ll 0∨ -(eF s.value k:Int)∈s.ll 0):=fun hh=>by
  have:=(wL (n:=n) (L:=s.ll 0) (u:=eF s.value k) (by omega)).2 hh
  rw[← h.si.inv.val] at this
  exact this hz
 have ec:∀u:Nat,0<u→u<eF s.value k→(u:Int)∈s.ll 0∨ -(u:Int)∈s.ll 0:=fun u h1 h2=>by
  by_cases e:u<k
  ·exact q4 u h1 e
  ·have:=c1 u (by omega) h2
   rw[h.si.inv.val] at this
   exact(wL (by omega)).1 this
 refine⟨eF s.value k,rfl,by omega,by omega,fun hh=>gB (.inl hh),fun hh=>gB (.inr hh),ec,?_⟩
 exact
  {si:=
    {inv:=h.si.inv.F6 _
     sem:=⟨h.si.sem.lits,h.si.sem.cls,h.si.sem.lev0,h.si.sem.bad,h.si.sem.prf,h.si.sem.rep⟩
     dec:=h.si.dec,asm:=h.si.asm,plen:=h.si.plen,ncl:=h.si.ncl,wrd:=h.si.wrd
     low:=⟨eF s.value k,rfl,by omega,by omega,ec⟩}
   lv:=h.lv,model:=h.model,core:=h.core,mf:=h.mf,nd:=h.nd}
theorem SJ.Mz (h:SJ n F A N0 fuel s met) (hh:s.head=((s.ll 0).length:Int)) (hA:A.length≤s.marks.length) {v:Nat} (h1:1≤v) (h2:v≤n) (h3:(v:Int)∉s.ll 0) (h4: -(v:Int)∉s.ll 0) (h5:∀u:Nat,0<u→u<v→(u:Int)∈s.ll 0∨ -(u:Int)∈s.ll 0) (hv:Value):SJ n F A N0 fuel (a6 (cu s) (-(v:Int)) (-1) hv) met:=by
 have hl:Lit n (-(v:Int)):=⟨by omega,by omega,by omega⟩
 have hs:=h.si.Bu hh hl h4 (by rw[Int.neg_neg];exact h3) hv (fun y hy=>by rw[List.getElem?_eq_none (by omega)] at hy;cases hy) (.inr ⟨hA,v,rfl,h5⟩)
 exact⟨hs,h.lv.Bu hs.inv h.si.inv hh hl h4 (by rw[Int.neg_neg];exact h3),h.model,h.core,h.mf,h.nd⟩
theorem SJ.NW (h:SJ n F A N0 fuel s met) (hh:s.head=((s.ll 0).length:Int)) (hA:s.marks.length<A.length) (hl:Lit n A[s.marks.length]) (h1:A[s.marks.length]∉s.ll 0) (h2: -A[s.marks.length]∉s.ll 0) (hv:Value):SJ n F A N0 fuel (a6 (cu s) A[s.marks.length] (-1) hv) met:=by
 have hs:=h.si.Bu hh hl h1 h2 hv (fun y hy=>by rw[List.getElem?_eq_getElem hA] at hy;simpa using hy) (.inl (List.getElem_mem _))
 exact⟨hs,h.lv.Bu hs.inv h.si.inv hh hl h1 h2,h.model,h.core,h.mf,h.nd⟩
theorem SJ.Bk (h:SJ n F A N0 fuel s met) (hh:s.head=((s.ll 0).length:Int)) (hA:s.marks.length<A.length) (hx:A[s.marks.length]∈s.ll 0):SJ n F A N0 fuel (cu s) met:=
 ⟨h.si.Bk hh hA hx,LV.Bk hA,h.model,h.core,h.mf,h.nd⟩
end
end Go.Ab
