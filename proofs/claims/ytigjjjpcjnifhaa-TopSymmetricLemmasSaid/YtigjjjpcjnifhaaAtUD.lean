/- The solver: the search, walked. -/
import Derived.Test.YtigjjjpcjnifhaaAtB8
import Derived.Test.YtigjjjpcjnifhaaAbZ
import Derived.Test.YtigjjjpcjnifhaaAbL3
import Derived.Test.YtigjjjpcjnifhaaAtS5
import Derived.Test.YtigjjjpcjnifhaaAbL4
import Derived.Test.YtigjjjpcjnifhaaAbL2
import Derived.Test.YtigjjjpcjnifhaaAtC3
import Derived.Test.YtigjjjpcjnifhaaAtA2
import Derived.Test.YtigjjjpcjnifhaaAtS7
set_option linter.unusedSimpArgs false
set_option linter.unusedVariables false
namespace Go.Ab
open Go Go.Proofs
open Nat (reduceAdd reduceSub)
set_option maxRecDepth 20000
set_option maxHeartbeats 8000000
attribute [local irreducible] bK AW aa bM a8 AR bm a_ bs bT fm fw al
theorem uq (n:Nat) (s:SR) (t:Nat) (ht:t<s.marks.length) (hn:n≤20000) (hv:s.value.length=n+1) (trl:dT n (s.ll 0)) (mk:∀m∈s.marks,0≤m∧m.toNat≤(s.ll 0).length) (Il:0≤s.low∧s.low≤1000000):jf Try.prog 37 11 (cd s) [.ptr 0 0,aw t] (cd (bA s t)) (.tup []):=by
 have hl:=trl.len
 exact sS s (xL s t) t (Bz s t ht (mk _ (List.getElem_mem ht)) (by omega) Il fun x hx=>by
  obtain⟨_,_,_⟩:=trl.rng x hx
  refine⟨by omega,?_⟩
  rw[hv]
  unfold aF;omega)
theorem qq (n:Nat) (s:SR) (hs:bj n s) (Il:qf n s):∃s':SR,jf Try.prog 37 11 (cd s) [.ptr 0 0,aw 0] (cd s') (.tup [])∧s'.proof=s.proof∧s'.model=s.model∧s'.core=s.core:=by
 by_cases h:0<s.marks.length
 ·refine⟨bA s 0,?_,rfl,rfl,rfl⟩
  obtain⟨k,q1,q2,q3,_⟩:=Il
  have hn:=hs.hn
  exact uq n s 0 h hs.hn (by rw[hs.val,er]) hs.trl (fun m hm=>by have:=hs.mrk m hm;have:=hs.hd;omega) (by omega)
 ·refine⟨x7 s,sS s s 0 (qg s 0 (by omega)),rfl,rfl,rfl⟩
theorem Bp (n:Nat) (F:List (List Int)) (k:Nat) (s:SR) (hS:gg n F k s) (hk:k≤60000) (A:List Int) (hA:∀x∈A,Lit n x) (hAl:A.length≤50000) (fuel:Nat) (hf0:0<fuel) (hf1:fuel≤20000):nf Try.prog 19 11 (cd s) [.ptr 0 0,.pv (dP A),aw (fuel:Nat)] (fun q:SR×Int=>eM n F A fuel q.1 q.2) (fun q=>cd q.1) (fun q=>aw q.2):=by
 have hJ0:=hS.sj (A:=A) hf0
 obtain⟨s1,hs1⟩:∃s1,s1={s with core:=[],model:=[]}:=⟨_,rfl⟩
 have QQ:cd {s with core:=[],model:=[]}=cd s1:=by rw[hs1]
 rw[← hs1] at hJ0
 have dA:=hJ0.si.inv
 have mG:=dA.hn
 have eK:=tY n s1 A mG (by rw[dA.val,er]) hA
 have LO:s1.marks=[]:=by rw[hs1];exact hS.marks
 have Ia:=sS s1 s1 0 (qg s1 0 (by rw[LO];simp))
 rw[Cf dA] at Ia
 simp only[cd,cg] at eK Ia ⊢
 refine nf.enter (n:=151) Try.func19 rfl rfl rfl rfl rfl (by decide) rfl (fun _=>rfl) fun g aY aW=>?_;refine mL ?_
 refine AW.d_ 1 rfl fun hlen=>?_
 (refine zq ?_;refine eD ?_;refine AW.scope ?_;refine dH ?_;refine zg ?_;refine aa.ah 67 9 14 rfl rfl rfl rfl ?_;(with_reducible apply aa.bB);(iterate 5 exact rfl);(first|exact rfl|assumption|exact dm _|exact dj _ _|exact dF _|exact dG _ _);(iterate 3 exact rfl);(with_reducible assumption);refine B5 ?_;refine aa.ah 67 8 13 rfl rfl rfl rfl ?_;(with_reducible apply aa.bB);(iterate 5 exact rfl);(first|exact rfl|assumption|exact dm _|exact dj _ _|exact dF _|exact dG _ _);(iterate 3 exact rfl);(with_reducible assumption);refine gH ?_;refine zo ?_;refine AW.fk 2 ?_)
 refine Stop.go ?_
 refine AW.aN (δ':=⟨151,[(0,.ptr 0 0),(1,.pv (dP A)),(2,aw (fuel:Nat)),(1000,.agg [.ptr 0 0])],cd s1,11⟩) ?_ ?_
 ·subst hs1
  exact aN rfl (by(refine⟨.eq rfl rfl,?_⟩;refine⟨.bz (by rfl),?_⟩;refine⟨.ai (by rfl),?_⟩;refine⟨.eq rfl rfl,?_⟩;exact trivial)) (by(refine⟨.box _ rfl ?_,?_⟩;(iterate 3 refine⟨.aj (by rfl) rfl,?_⟩);refine⟨.ai (by rfl),?_⟩;refine⟨.aj (by rfl) rfl,?_⟩;refine⟨.ai (by rfl),?_⟩;(iterate 2 refine⟨.aj (by rfl) rfl,?_⟩);(iterate 3 refine⟨.ai (by rfl),?_⟩);refine⟨.aj (by rfl) rfl,?_⟩;refine⟨.ai (by rfl),?_⟩;(iterate 2 refine⟨.C7 (by first|rfl),?_⟩);exact trivial;(iterate 3 refine⟨.row rfl,?_⟩);refine⟨.pool rfl (by rfl),?_⟩;(iterate 2 refine⟨.row rfl,?_⟩);refine⟨.pool rfl (by rfl),?_⟩;refine⟨.row rfl,?_⟩;refine⟨.pool rfl (by rfl),?_⟩;refine⟨.row rfl,?_⟩;exact trivial)) rfl
 simp only[cd,cg]
 have hf0':¬(fuel:Int)≤0:=by omega
 (refine qI ?_;refine zm ?_;refine zX (eK) ?_;refine fE ?_;refine uI ?_;refine iO ?_;refine aa.leq rfl rfl rfl rfl rfl ?_;refine aa.dr rfl rfl rfl rfl rfl rfl ?_;refine hO ?_;refine ox ?_;refine zX (Ia) ?_;refine fE ?_;refine zd ?_;refine jD ?_;refine AW.label ?_;refine cw ?_;refine zo ?_;refine AW.block ?_)
 (refine Q0 ?_;apply AW.ck [0,1,2,1000] [1,2,3,5,6,8,10] (fun q:SR×Nat=>([(7,aw (q.2:Nat))]:List (Nat×AV))) (fun q:SR×Nat=>([(0,some (.box [.own 1 3 1 ((q.1.value).map encI),.own 2 3 1 ((q.1.level).map encI),.own 3 3 1 ((q.1.reason).map encI),.pv (.lit (q.1.hl 0)),.own 5 3 1 ((q.1.marks).map encI),aw (q.1.low),.own 6 28 1 (bK q.1.nc q.1.hc),.own 8 28 1 (bK q.1.nw q.1.hw),aw (q.1.head),aw (q.1.added),aM (q.1.broken),.own 10 30 3 ((q.1.proof).map jY),aw 0,.pv (dP (q.1.model)),.pv (dP (q.1.core))])),(4,some (.pool 3 (ew q.1.hl q.1.ll))),(7,some (.pool 3 (ew q.1.hc q.1.cl))),(9,some (.pool 3 (ew q.1.hw q.1.wl)))]:List (Nat×Option Ob))) (fun q:SR×Nat=>SJ n F A k fuel q.1 q.2) (fun q:SR×Nat=>(fuel - q.2)*(A.length+n+2)+(A.length - q.1.marks.length)+(n - (q.1.ll 0).length)) ((s1,0));(conv=>lhs;simp only[Nf.jJ,Nf.all,Nat.reduceBEq,reduceAdd,reduceSub]);(all_goals skip))
 ·exact hJ0
 ·exact aN rfl (by(refine⟨.ai (by rfl),?_⟩;refine⟨.eq rfl rfl,?_⟩;refine⟨.bz (by rfl),?_⟩;refine⟨.ai (by rfl),?_⟩;refine⟨.eq rfl rfl,?_⟩;exact trivial)) (by(refine⟨.box _ rfl ?_,?_⟩;(iterate 3 refine⟨.aj (by rfl) rfl,?_⟩);refine⟨.ai (by rfl),?_⟩;refine⟨.aj (by rfl) rfl,?_⟩;refine⟨.ai (by rfl),?_⟩;(iterate 2 refine⟨.aj (by rfl) rfl,?_⟩);(iterate 3 refine⟨.ai (by rfl),?_⟩);refine⟨.aj (by rfl) rfl,?_⟩;refine⟨.ai (by rfl),?_⟩;(iterate 2 refine⟨.bz (by rfl),?_⟩);exact trivial;(iterate 3 refine⟨.pool rfl (by rfl),?_⟩);(iterate 7 refine⟨.row rfl,?_⟩);exact trivial)) rfl
 rintro⟨σ,met⟩ hσ
 simp only at hσ
 have Fq:=hσ.si.inv
 have RH:=hσ.mf
 obtain⟨E9,hp3⟩:=hσ.plen
 have rE:=hσ.lv.len Fq
 have hP:=sq n σ Fq (by omega)
 have PR:¬(20000:Int)≤(σ.proof.length:Int):=by omega
 simp only[cd,cg] at hP
 (refine AW.block ?_;refine zo ?_;refine dH ?_;refine jG ?_;refine aa.ah 67 6 11 rfl rfl rfl rfl ?_;refine zb ?_;refine aa.cM rfl rfl rfl rfl ?_;refine aa.geq rfl rfl rfl rfl rfl ?_;refine hO ?_;refine ox ?_;(with_reducible apply aa.dZ (hf:=hP));(with_reducible assumption);(iterate 3 exact rfl);(repeat (first|exact trivial|refine⟨rfl,?_⟩));(repeat (first|exact .nil|(refine .cons ?_ ?_;(first|exact .eq rfl rfl|exact .nil _|exact .any _))));(intro x_;exact rfl);exact rfl;(repeat (first|exact trivial|refine⟨rfl,?_⟩|refine⟨aI,?_⟩));(intro x_;(repeat (first|exact trivial|refine⟨rfl,?_⟩|refine⟨aI,?_⟩)));(intro x_;exact rfl);exact rfl;(intro x_ jQ);refine fE ?_;refine pY ?_;refine AW.fk 14 ?_)
 obtain⟨τ,r⟩:=x_
 have hτ:=hσ.prop jQ
 have gh:=hτ.si.inv
 have zN:=jQ.ext.marks
 have Ao:(σ.ll 0).length≤(τ.ll 0).length:=by obtain⟨ys,e⟩:=jQ.ext.ll;rw[e,List.length_append];omega
 have vt:=jQ.res
 have eC:=gh.trl.len
 have sC:=gh.nc
 have vl:τ.value.length=n+1:=by rw[gh.val,er]
 obtain⟨MF,_⟩:=hτ.plen
 have MK:=hτ.lv.len gh
 simp only at hτ gh zN Ao vt eC sC vl MF MK ⊢
 refine Stop.go ?_
 by_cases Jz:τ.broken=true∨(r≠ -1∧τ.marks=[])
 ·have K1:mb (F++τ.proof) Bq:=by
   rcases Jz with q|⟨q1,q2⟩
   ·exact hτ.si.sem.bad q
   ·rcases vt with ⟨q,_⟩|⟨j,hj,_,hf⟩
    ·exact absurd q q1
    ·exact hτ.si.sem.Jm gh q2 hj hf
  have r_:=BQ {τ with broken:=true} [] (by simp) (fun x hx=>by simp at hx) (by show τ.proof.length≤_;omega)
  have fA:=hτ.Mf (t:={τ with broken:=true,core:=[],proof:=τ.proof++ [([]:List Int).map fun y=> -y]}) hf1 K1 rfl rfl hτ.model
  simp only[cd,cg] at r_
  cases hb1:τ.broken with
  |true=>
   (refine AK ?_;refine cJ ?_;(iterate 3 refine aa.bV rfl rfl rfl rfl rfl rfl rfl ?_);(iterate 7 refine aa.DE rfl rfl rfl rfl rfl rfl ?_);refine w7 ?_;refine eD ?_;refine AW.fN rfl rfl ?_;refine AK ?_;(with_reducible apply aa.bB);(iterate 5 exact rfl);(first|exact rfl|assumption|exact dm _|exact dj _ _|exact dF _|exact dG _ _);(iterate 3 exact rfl);(with_reducible assumption);refine JN ?_)
   (apply bW ((({τ with broken:=true,core:=[],proof:=τ.proof++ [([]:List Int).map fun y=> -y]},2):SR×Int)) (fA);((exact bD.one (.tmp rfl rfl)));((exact tn));((exact Q2));exact rfl)
  |false=>
   rw[hb1] at Jz
   obtain⟨hr1,hm0⟩:=Jz.resolve_left (by simp)
   have hr1':decide (r≠ -1)=true:=by simpa using hr1
   have hm0':(τ.marks.length:Int)=0:=by rw[hm0];rfl
   (refine AK ?_;refine cJ ?_;refine iO ?_;refine aa.neq rfl rfl rfl rfl rfl ?_;refine zl ?_;refine zm ?_;refine GR ?_;refine aa.ah 65 4 4 rfl rfl rfl rfl ?_;refine zt ?_;refine zb ?_;refine zt ?_;refine aa.cM rfl rfl rfl rfl ?_;refine zt ?_;refine aa.eql rfl rfl rfl rfl rfl ?_;refine zl ?_;refine zT ?_;refine aa.dr rfl rfl rfl rfl rfl rfl ?_;refine eD ?_;refine zc ?_;refine AK ?_;(with_reducible apply aa.bB);(iterate 5 exact rfl);(first|exact rfl|assumption|exact dm _|exact dj _ _|exact dF _|exact dG _ _);(iterate 3 exact rfl);(with_reducible assumption);refine JN ?_)
   (apply bW ((({τ with broken:=true,core:=[],proof:=τ.proof++ [([]:List Int).map fun y=> -y]},2):SR×Int)) (fA);((exact bD.one (.tmp rfl rfl)));((exact tn));((exact Q2));exact rfl)
 ·have hb1:τ.broken=false:=by
   cases h:τ.broken with
   |true=>exact absurd (.inl h) Jz
   |false=>rfl
  rcases vt with ⟨rfl,De⟩|⟨j,hj,rfl,hf⟩
  ·by_cases aP:τ.marks.length<A.length
   ·have oK:((τ.marks.length:Nat):Int).toNat<A.length:=by rw[Int.toNat_natCast];exact aP
    obtain⟨x,hx⟩:∃x,x=A[τ.marks.length]:=⟨_,rfl⟩
    have hx':A[τ.marks.length]=x:=hx.symm
    have hxA:x∈A:=by rw[hx];exact List.getElem_mem aP
    have qz:=hA x hxA
    by_cases hx1:x∈τ.ll 0
    ·have lI:=eS (s:=τ) gh.val gh.trl mG qz (r:=1) (if_pos hx1).symm
     have hd0:=vL τ (by omega) (by omega)
     have la:=hτ.Bk De aP (by rw[hx'];exact hx1)
     simp only[cd,cg] at lI hd0
     (refine Jr ?_;refine zc ?_;refine dk ?_;refine tg ?_;refine sM ?_;(focus ((with_reducible apply aa.ak);(iterate 7 exact rfl);rotate_left;omega));refine zr ?_;refine eD ?_;(with_reducible apply AW.pj 25);(rw[← hx]);refine Gy ?_;refine AW.fT rfl rfl ?_;refine dH ?_;refine ym ?_;refine AW.fN rfl rfl ?_;refine kM ?_;refine tg ?_;refine zX (hd0) ?_;refine fE ?_;refine aa.nil ?_;(iterate 3 refine ca ?_);refine cw ?_)
     exact⟨(cu τ,met),la,by show(fuel - met)*(A.length+n+2)+(A.length - (τ.marks++ [_]).length)+(n - (τ.ll 0).length)<(fuel - met)*(A.length+n+2)+(A.length - σ.marks.length)+(n - (σ.ll 0).length);rw[List.length_append,List.length_singleton,← zN];omega,aN rfl (by(refine⟨.ai (by rfl),?_⟩;refine⟨.eq rfl rfl,?_⟩;refine⟨.bz (by rfl),?_⟩;refine⟨.ai (by rfl),?_⟩;refine⟨.eq rfl rfl,?_⟩;exact trivial)) (by(refine⟨.box _ rfl ?_,?_⟩;(iterate 3 refine⟨.aj (by rfl) rfl,?_⟩);refine⟨.ai (by rfl),?_⟩;refine⟨.aj (by rfl) rfl,?_⟩;refine⟨.ai (by rfl),?_⟩;(iterate 2 refine⟨.aj (by rfl) rfl,?_⟩);(iterate 3 refine⟨.ai (by rfl),?_⟩);refine⟨.aj (by rfl) rfl,?_⟩;refine⟨.ai (by rfl),?_⟩;(iterate 2 refine⟨.bz (by rfl),?_⟩);exact trivial;(iterate 3 refine⟨.pool rfl (by rfl),?_⟩);(iterate 7 refine⟨.row rfl,?_⟩);exact trivial)) rfl⟩
    ·by_cases hx2: -x∈τ.ll 0
     ·have lI:=eS (s:=τ) gh.val gh.trl mG qz (r:= -1) (by rw[if_neg hx1,if_pos hx2])
      have rq:=CC n τ gh x hx2
      obtain⟨s4,hu4,f1,f2,f3⟩:=qq n τ gh hτ.si.low
      simp only[cd,cg] at lI rq hu4
      (refine Jr ?_;refine zc ?_;refine dk ?_;refine tg ?_;refine sM ?_;(focus ((with_reducible apply aa.ak);(iterate 7 exact rfl);rotate_left;omega));refine zr ?_;refine eD ?_;(with_reducible apply AW.pj 25);(rw[← hx]);refine Gy ?_;refine AW.fN rfl rfl ?_;refine ox ?_;refine zm ?_;(with_reducible apply aa.dZ (hf:=rq));(with_reducible assumption);(iterate 3 exact rfl);(repeat (first|exact trivial|refine⟨rfl,?_⟩));(repeat (first|exact .nil|(refine .cons ?_ ?_;(first|exact .eq rfl rfl|exact .nil _|exact .any _))));(intro x_;exact rfl);exact rfl;(repeat (first|exact trivial|refine⟨rfl,?_⟩|refine⟨aI,?_⟩));(intro x_;(repeat (first|exact trivial|refine⟨rfl,?_⟩|refine⟨aI,?_⟩)));(intro x_;exact rfl);exact rfl;(intro x_ jQ);refine fE ?_;refine eD ?_;refine ox ?_;refine zX (hu4) ?_;refine fE ?_;refine zd ?_;refine AW.fk 30 ?_)
      refine Stop.go ?_
      have zC:=jQ
      obtain⟨_,_,dO⟩:=zC.core hτ.si aP hxA hx2
      have IB:x_.length≤100000:=by
       have:=eW (n:=2*n+2) (l:=x_.map al) (by
        unfold List.Nodup
        rw[List.pairwise_map]
        exact(zC.core hτ.si aP hxA hx2).2.1.imp_of_mem fun {a b} ha hb mK e=>mK (cA (dO a ha) (dO b hb) (by rw[e]))) fun v hv=>by
        obtain⟨a,ha,rfl⟩:=List.mem_map.1 hv
        have:=da (dO a ha)
        omega
       simp only[List.length_map] at this
       omega
      have r_:=BQ s4 x_ IB (fun y hy=>by obtain⟨_,_,_⟩:=dO y hy;omega) (by rw[f1];omega)
      have fA:=hτ.Mn (t:={s4 with core:=x_,proof:=s4.proof++ [x_.map fun y=> -y]}) hf1 zC aP hxA hx2 (by show s4.proof++_=_;rw[f1]) rfl (by show s4.model=_;rw[f2];exact hτ.model)
      simp only[cd,cg] at r_
      (refine qI ?_;refine zm ?_;refine zX (r_) ?_;refine fE ?_;refine e_ ?_;(iterate 3 refine de ?_);refine tB ?_;refine cO ?_;refine hZ ?_)
      (apply bW ((({s4 with core:=x_,proof:=s4.proof++ [x_.map fun y=> -y]},2):SR×Int)) (fA);((exact bD.one (.tmp rfl rfl)));((exact tn));((exact Q2));exact rfl)
     ·have lI:=eS (s:=τ) gh.val gh.trl mG qz (r:=0) (by rw[if_neg hx1,if_neg hx2])
      obtain⟨g1,g2,g3⟩:=qz
      have hd1:=pw τ x g1 (by omega) (by omega) (by rw[gh.lvl,vl]) (by rw[gh.rsn,vl]) (by omega) (by omega)
      have la:=fun h:Value=>hτ.NW De aP (by rw[hx'];exact hA x hxA) (by rw[hx'];exact hx1) (by rw[hx'];exact hx2) h
      rw[hx'] at la
      have hlen:=(la (.bool true)).si.inv.trl.len
      rw[dL,List.length_append,List.length_singleton] at hlen
      simp only[cd,cg] at lI hd1
      (refine Jr ?_;refine zc ?_;refine dk ?_;refine tg ?_;refine sM ?_;(focus ((with_reducible apply aa.ak);(iterate 7 exact rfl);rotate_left;omega));refine zr ?_;refine eD ?_;(with_reducible apply AW.pj 25);(rw[← hx]);refine Gy ?_;refine AW.fT rfl rfl ?_;refine dH ?_;refine ym ?_;refine AW.fT rfl rfl ?_;refine kM ?_;refine ly ?_;(with_reducible apply aa.dZ (hf:=hd1));(with_reducible assumption);(iterate 3 exact rfl);(repeat (first|exact trivial|refine⟨rfl,?_⟩));(repeat (first|exact .nil|(refine .cons ?_ ?_;(first|exact .eq rfl rfl|exact .nil _|exact .any _))));(intro x_;exact rfl);exact rfl;(repeat (first|exact trivial|refine⟨rfl,?_⟩|refine⟨aI,?_⟩));(intro x_;(repeat (first|exact trivial|refine⟨rfl,?_⟩|refine⟨aI,?_⟩)));(intro x_;exact rfl);exact rfl;(intro x_ jQ);refine fE ?_;refine aa.nil ?_;(iterate 3 refine ca ?_);refine cw ?_)
      exact⟨(a6 (cu τ) x (-1) x_,met),la x_,by show(fuel - met)*(A.length+n+2)+(A.length - (τ.marks++ [_]).length)+(n - ((a6 (cu τ) x (-1) x_).ll 0).length)<(fuel - met)*(A.length+n+2)+(A.length - σ.marks.length)+(n - (σ.ll 0).length);rw[dL,List.length_append,List.length_append,List.length_singleton,List.length_singleton,← zN];have:(cu τ).ll 0=τ.ll 0:=rfl;rw[this];omega,aN rfl (by(refine⟨.ai (by rfl),?_⟩;refine⟨.eq rfl rfl,?_⟩;refine⟨.bz (by rfl),?_⟩;refine⟨.ai (by rfl),?_⟩;refine⟨.eq rfl rfl,?_⟩;exact trivial)) (by(refine⟨.box _ rfl ?_,?_⟩;(iterate 3 refine⟨.aj (by rfl) rfl,?_⟩);refine⟨.ai (by rfl),?_⟩;refine⟨.aj (by rfl) rfl,?_⟩;refine⟨.ai (by rfl),?_⟩;(iterate 2 refine⟨.aj (by rfl) rfl,?_⟩);(iterate 3 refine⟨.ai (by rfl),?_⟩);refine⟨.aj (by rfl) rfl,?_⟩;refine⟨.ai (by rfl),?_⟩;(iterate 2 refine⟨.bz (by rfl),?_⟩);exact trivial;(iterate 3 refine⟨.pool rfl (by rfl),?_⟩);(iterate 7 refine⟨.row rfl,?_⟩);exact trivial)) rfl⟩
   ·obtain⟨k0,q1,q2,q3,_⟩:=id hτ.si.low
    have uF:=Ek τ k0 q1 (by omega) (by omega)
    by_cases IV:eF τ.value k0=τ.value.length
    ·rw[if_pos IV] at uF
     have xz:=hτ.full q1 IV
     have hi2:bj n {τ with low:=(eF τ.value k0:Int),model:=τ.value}:={hn:=gh.hn,trl:=gh.trl,val:=gh.val,lvl:=gh.lvl,rsn:=gh.rsn,hd:=gh.hd,mrk:=gh.mrk,lev:=gh.lev,cls:=gh.cls,fresh:=gh.fresh,nc:=gh.nc,nw:=gh.nw,wt:=gh.wt,wnd:=gh.wnd,wto:=gh.wto,two:=gh.two,srt:=gh.srt,rea:=gh.rea}
     have lT:qf n {τ with low:=(eF τ.value k0:Int),model:=τ.value}:=⟨n+1,by show(eF τ.value k0:Int)=_;rw[IV,vl],by omega,by omega,fun u h1 h2=>xz u h1 (by omega)⟩
     obtain⟨s4,hu4,f1,f2,f3⟩:=qq n _ hi2 lT
     have fA:=hτ.NC (t:=s4) hf1 hb1 De (by omega) xz f1 (by rw[f3];exact hτ.core) f2
     simp only[cd,cg] at uF hu4
     have NS:0<(τ.value.map encI).length:=by rw[List.length_map];omega
     (refine Jr ?_;refine zk ?_;refine dH ?_;refine tg ?_;refine zX (uF) ?_;refine fE ?_;refine jX ?_;refine dk ?_;refine aa.eql rfl rfl rfl rfl rfl ?_;refine rj ?_;refine dH ?_;(iterate 2 refine aa.a7 rfl rfl rfl ?_);refine Q9 ?_;refine aa.ah 65 0 0 rfl rfl rfl rfl ?_;refine zb ?_;(with_reducible apply aa.inline (hf:=Try.func45));(with_reducible assumption);(iterate 10 exact rfl);intro g_ aY aW;refine Q0 ?_;refine jD ?_;refine pz ?_;(with_reducible apply aa.zD);(iterate 6 exact rfl);(with_reducible assumption);(try (conv=>rhs;simp only[Nf.cG,Nf.all,Nat.reduceBEq,reduceAdd,reduceSub]));refine vx ?_;refine oc ?_;refine zq ?_;refine aa.FR rfl rfl rfl rfl rfl ?_;refine Q0 ?_;refine aa.bt rfl rfl rfl ?_;(with_reducible apply aa.aZ);exact rfl;(first|exact .pv rfl|exact .own rfl|exact .nil rfl);(iterate 9 exact rfl);(first|omega|(simp only[List.length_map,List.length_append,List.length_cons,List.length_nil,List.length_drop,List.length_take,List.length_set,List.length_range,aE];omega));refine Q0 ?_;refine ot ?_;refine sP rfl rfl ?_;refine B5 ?_;refine aa.ah 67 8 13 rfl rfl rfl rfl ?_;(with_reducible apply aa.bB);(iterate 5 exact rfl);(first|exact rfl|assumption|exact dm _|exact dj _ _|exact dF _|exact dG _ _);(iterate 3 exact rfl);(with_reducible assumption);refine gH ?_;refine AW.fk 11 ?_)
     refine Stop.go ?_
     refine AW.DN 11 rfl ?_
     (try (conv=>rhs;simp only[Nf.cG,Nf.all,Nat.reduceBEq,reduceAdd,reduceSub]))
     (refine qI ?_;refine zX (hu4) ?_;refine fE ?_;refine zd ?_;refine zq ?_;refine mH ?_;(iterate 2 refine de ?_);refine tB ?_;refine cO ?_;refine hZ ?_)
     (apply bW (((s4,1):SR×Int)) (fA);((exact bD.one (.tmp rfl rfl)));((exact tn));((exact Q2));exact rfl)
    ·rw[if_neg IV] at uF
     obtain⟨v,e,g1,g2,g3,g4,g5,hJ2⟩:=hτ.free q1 IV
     rw[e] at uF
     have hv0:¬(v:Int)=0:=by omega
     have hd1:=pw {τ with low:=(v:Int)} (-(v:Int)) (by omega) (by omega) (by show _<(τ.value.length:Int)∧_<(τ.value.length:Int);omega) (by show τ.level.length=τ.value.length;rw[gh.lvl,vl]) (by show τ.reason.length=τ.value.length;rw[gh.rsn,vl]) (by show(τ.ll 0).length≤_;omega) (by show τ.marks.length≤_;omega)
     have la:=fun h:Value=>hJ2.Mz De (by show A.length≤τ.marks.length;omega) g1 g2 g3 g4 g5 h
     have hlen:=(la (.bool true)).si.inv.trl.len
     rw[dL,List.length_append,List.length_singleton] at hlen
     have hlen:(τ.ll 0).length+1≤n:=hlen
     simp only[cd,cg] at uF hd1
     (refine Jr ?_;refine zk ?_;refine dH ?_;refine tg ?_;refine zX (uF) ?_;refine fE ?_;refine jX ?_;refine dk ?_;refine wx ?_;refine kM ?_;refine ly ?_;refine aa.neg rfl rfl rfl (by omega) ?_;(with_reducible apply aa.dZ (hf:=hd1));(with_reducible assumption);(iterate 3 exact rfl);(repeat (first|exact trivial|refine⟨rfl,?_⟩));(repeat (first|exact .nil|(refine .cons ?_ ?_;(first|exact .eq rfl rfl|exact .nil _|exact .any _))));(intro x_;exact rfl);exact rfl;(repeat (first|exact trivial|refine⟨rfl,?_⟩|refine⟨aI,?_⟩));(intro x_;(repeat (first|exact trivial|refine⟨rfl,?_⟩|refine⟨aI,?_⟩)));(intro x_;exact rfl);exact rfl;(intro x_ jQ);refine fE ?_;refine aa.nil ?_;(iterate 2 refine ca ?_);refine cw ?_)
     exact⟨(a6 (cu {τ with low:=(v:Int)}) (-(v:Int)) (-1) x_,met),la x_,by show(fuel - met)*(A.length+n+2)+(A.length - (τ.marks++ [_]).length)+(n - ((a6 (cu {τ with low:=(v:Int)}) (-(v:Int)) (-1) x_).ll 0).length)<(fuel - met)*(A.length+n+2)+(A.length - σ.marks.length)+(n - (σ.ll 0).length);rw[dL,List.length_append,List.length_append,List.length_singleton,List.length_singleton,← zN];have:(cu {τ with low:=(v:Int)}).ll 0=τ.ll 0:=rfl;rw[this];omega,aN rfl (by(refine⟨.ai (by rfl),?_⟩;refine⟨.eq rfl rfl,?_⟩;refine⟨.bz (by rfl),?_⟩;refine⟨.ai (by rfl),?_⟩;refine⟨.eq rfl rfl,?_⟩;exact trivial)) (by(refine⟨.box _ rfl ?_,?_⟩;(iterate 3 refine⟨.aj (by rfl) rfl,?_⟩);refine⟨.ai (by rfl),?_⟩;refine⟨.aj (by rfl) rfl,?_⟩;refine⟨.ai (by rfl),?_⟩;(iterate 2 refine⟨.aj (by rfl) rfl,?_⟩);(iterate 3 refine⟨.ai (by rfl),?_⟩);refine⟨.aj (by rfl) rfl,?_⟩;refine⟨.ai (by rfl),?_⟩;(iterate 2 refine⟨.bz (by rfl),?_⟩);exact trivial;(iterate 3 refine⟨.pool rfl (by rfl),?_⟩);(iterate 7 refine⟨.row rfl,?_⟩);exact trivial)) rfl⟩
  ·have hm0:0<τ.marks.length:=by
    apply Nat.pos_of_ne_zero
    intro h
    exact Jz (.inr ⟨by omega,List.eq_nil_of_length_eq_zero h⟩)
   have hm0':¬(τ.marks.length:Int)=0:=by omega
   have hr1':decide ((j:Int)≠ -1)=true:=by simp
   have sK:=vD n τ gh j hj hf hm0 (by omega)
   simp only[cd,cg] at sK
   (refine AK ?_;refine cJ ?_;refine ux ?_;refine zm ?_;refine ux ?_;refine aa.neq rfl rfl rfl rfl rfl ?_;refine ux ?_;refine zm ?_;refine Je ?_;refine aa.ah 67 0 0 rfl rfl rfl rfl ?_;refine zl ?_;refine aa.ah 65 4 4 rfl rfl rfl rfl ?_;refine zl ?_;refine zb ?_;refine zl ?_;refine aa.cM rfl rfl rfl rfl ?_;refine zl ?_;refine aa.eql rfl rfl rfl rfl rfl ?_;refine ux ?_;refine aa.cY rfl rfl rfl rfl rfl rfl ?_;refine aa.vP rfl rfl (by assumption) rfl rfl rfl rfl ?_;refine eD ?_;refine zk ?_;refine dk ?_;refine aa.neq rfl rfl rfl rfl rfl ?_;refine eD ?_;refine AW.fN rfl rfl ?_;refine ox ?_;refine zm ?_;(with_reducible apply aa.dZ (hf:=sK));(with_reducible assumption);(iterate 3 exact rfl);(repeat (first|exact trivial|refine⟨rfl,?_⟩));(repeat (first|exact .nil|(refine .cons ?_ ?_;(first|exact .eq rfl rfl|exact .nil _|exact .any _))));(intro x_;exact rfl);exact rfl;(repeat (first|exact trivial|refine⟨rfl,?_⟩|refine⟨aI,?_⟩));(intro x_;(repeat (first|exact trivial|refine⟨rfl,?_⟩|refine⟨aI,?_⟩)));(intro x_;exact rfl);exact rfl;(intro x_ jQ);refine fE ?_;refine Hw ?_;refine ju ?_;refine AW.fk 19 ?_)
   refine Stop.go ?_
   obtain⟨v,l,to⟩:=x_
   obtain⟨hv1,KS⟩:=jQ
   simp only at hv1 KS ⊢
   obtain⟨GV,ht,_⟩:=KS.lvl gh hm0
   obtain⟨k0,q1,q2,q3,_⟩:=id hτ.si.low
   obtain⟨p0,rest0,ep,Ol,_,_,pnd,pl2,_⟩:=KS.back gh ⟨ht,‹_›⟩
   have xK:=KS.lits gh
   obtain⟨u,hu⟩:∃u,u=bA ({τ with hc:=aB τ.hc τ.nc v,cl:=aB τ.cl τ.nc l}:SR) to.toNat:=⟨_,rfl⟩
   have HI:=uq n ({τ with hc:=aB τ.hc τ.nc v,cl:=aB τ.cl τ.nc l}:SR) to.toNat ht mG vl gh.trl (fun m hm=>by have:=gh.mrk m hm;have:=gh.hd;show 0≤m∧m.toNat≤(τ.ll 0).length;omega) (by show 0≤τ.low∧τ.low≤1000000;omega)
   rw[← hu,Int.toNat_of_nonneg GV] at HI
   have D2:u.cl u.nc=l:=by rw[hu];exact ab _ _ _
   have NQ:u.hc u.nc=v:=by rw[hu];exact ab _ _ _
   have M3:u.nc=τ.nc:=by rw[hu];rfl
   have Nv:(u.ll 0).length≤1000000:=by
    have e:u.ll 0=(τ.ll 0).take (τ.marks[to.toNat]).toNat:=by rw[hu];exact(gy gh ht).1
    rw[e,List.length_take];omega
   have PK:u.marks.length≤1000000:=by
    have e:u.marks=τ.marks.take to.toNat:=by rw[hu];rfl
    rw[e,List.length_take];omega
   have Jv:l.length≤1000000:=by
    have:=eW (n:=2*n+2) (l:=l.map al) (by
     unfold List.Nodup
     rw[List.pairwise_map]
     exact pnd.imp_of_mem fun {a b} ha hb mK e=>mK (cA (xK a ha) (xK b hb) (by rw[e]))) fun v hv=>by
     obtain⟨a,ha,rfl⟩:=List.mem_map.1 hv
     have:=da (xK a ha)
     omega
    simp only[List.length_map] at this
    omega
   have has:=yO n u mG (by rw[D2,ep];simp) (by rw[D2];exact Jv) (by rw[D2];exact xK) (by rw[D2];exact pnd) (by rw[hu];show(zeroV τ.value _).length=_;rw[kn];exact vl) (by rw[hu];exact gh.lvl) (by rw[hu];exact gh.rsn) Nv PK (by rw[hu];show τ.proof.length≤_;omega) (by rw[M3];omega) (by rw[hu];exact gh.nw) (fun x hx=>by rw[hu];have:=gh.y4 hx;show(τ.wl _).length≤_;omega)
   rw[NQ] at has
   simp only[cd,cg] at HI has
   (refine ox ?_;refine zm ?_;refine zX (HI) ?_;refine fE ?_;refine zd ?_;refine qI ?_;refine zm ?_;(with_reducible apply aa.dZ (hf:=has));(with_reducible assumption);(iterate 3 exact rfl);(repeat (first|exact trivial|refine⟨rfl,?_⟩));(repeat (first|exact .nil|(refine .cons ?_ ?_;(first|exact .eq rfl rfl|exact .nil _|exact .any _))));(intro x_;exact rfl);exact rfl;(repeat (first|exact trivial|refine⟨rfl,?_⟩|refine⟨aI,?_⟩));(intro x_;(repeat (first|exact trivial|refine⟨rfl,?_⟩|refine⟨aI,?_⟩)));(intro x_;exact rfl);exact rfl;(intro x_ jQ);refine fE ?_;refine zd ?_;refine AW.fk 21 ?_)
   refine Stop.go ?_
   obtain⟨hSI,hLV,Oh,KI,dt⟩:=hτ.lW KS hm0 hj hf hk (by omega) (by rw[← hu];exact jQ)
   by_cases uc:fuel≤met+1
   ·have L7:(fuel:Int)≤(met:Int)+1:=by omega
    obtain⟨s4,hu4,f1,f2,f3⟩:=qq n x_ hSI.inv hSI.low
    have fA:=hSI.ME (t:=s4) dt hf1 (by omega) f1 (by rw[f3];exact KI) (by rw[f2];exact Oh)
    simp only[cd,cg] at hu4
    (refine zq ?_;refine oA ?_;refine vu ?_;refine aa.geq rfl rfl rfl rfl rfl ?_;refine gG ?_;refine AW.exit ?_;(iterate 2 refine gW rfl ?_);refine eo ?_;refine cv ?_;refine cw ?_;refine ox ?_;refine zX (hu4) ?_;refine fE ?_;refine zd ?_;refine zq ?_;refine e_ ?_;refine hZ ?_)
    (apply bW (((s4,0):SR×Int)) (fA);((exact bD.one (.tmp rfl rfl)));((exact tn));((exact Q2));exact rfl)
   ·have L7:¬(fuel:Int)≤(met:Int)+1:=by omega
    have Jj:(fuel - (met+1))*(A.length+n+2)+(A.length - x_.marks.length)+(n - (x_.ll 0).length)<(fuel - met)*(A.length+n+2)+(A.length - σ.marks.length)+(n - (σ.ll 0).length):=by
     obtain⟨d,hd⟩:∃d,fuel - met=d+1:=⟨fuel - met - 1,by omega⟩
     rw[show fuel - (met+1)=d by omega,hd,Nat.add_mul,Nat.one_mul]
     omega
    (refine zq ?_;refine oA ?_;refine vu ?_;refine aa.geq rfl rfl rfl rfl rfl ?_;refine zd ?_;refine zk ?_;refine AW.skip ?_;(iterate 2 refine ca ?_);refine cw ?_)
    exact⟨(x_,met+1),⟨hSI,hLV,Oh,KI,by omega,dt⟩,Jj,aN rfl (by(refine⟨.ai (by rfl),?_⟩;refine⟨.eq rfl rfl,?_⟩;refine⟨.bz (by rfl),?_⟩;refine⟨.ai (by rfl),?_⟩;refine⟨.eq rfl rfl,?_⟩;exact trivial)) (by(refine⟨.box _ rfl ?_,?_⟩;(iterate 3 refine⟨.aj (by rfl) rfl,?_⟩);refine⟨.ai (by rfl),?_⟩;refine⟨.aj (by rfl) rfl,?_⟩;refine⟨.ai (by rfl),?_⟩;(iterate 2 refine⟨.aj (by rfl) rfl,?_⟩);(iterate 3 refine⟨.ai (by rfl),?_⟩);refine⟨.aj (by rfl) rfl,?_⟩;refine⟨.ai (by rfl),?_⟩;(iterate 2 refine⟨.bz (by rfl),?_⟩);exact trivial;(iterate 3 refine⟨.pool rfl (by rfl),?_⟩);(iterate 7 refine⟨.row rfl,?_⟩);exact trivial)) rfl⟩
end Go.Ab
/- The solver:values,core and proof told,walked. -/
namespace Go.Ab
open Go Go.Proofs
open Nat (reduceAdd reduceSub)
set_option maxRecDepth 20000
set_option maxHeartbeats 8000000
attribute [local irreducible] bK AW aa bM a8 AR bm a_ bs bT fm fw al
theorem C3 (s:SR) (v:Nat) (hv:0<v):jf Try.prog 20 11 (cd s) [.ptr 0 0,aw v] (cd s) (aM (decide (0<s.model.getD v 0))):=by
 simp only[cd,cg]
 by_cases h:v<s.model.length
 ·have hl:(v:Int).toNat<s.model.length:=by omega
  have PQ:(v:Int)<(s.model.length:Int):=by omega
  have e:s.model.getD v 0=s.model[(v:Int).toNat]:=aQ hl
  rw[e]
  refine jf.enter (n:=26) Try.func20 rfl rfl rfl rfl rfl (by decide) rfl rfl fun g aY aW=>?_;refine mL ?_
  (refine Jf ?_;refine KG ?_;refine aa.ah 67 8 13 rfl rfl rfl rfl ?_;refine zt ?_;refine zb ?_;refine od ?_;(focus ((with_reducible apply aa.ak);(iterate 7 exact rfl);rotate_left;omega));refine zt ?_;refine zr ?_;refine zt ?_;refine aa.gtr rfl rfl rfl rfl rfl ?_;refine zT ?_;refine e_ ?_)
  (apply c7;((exact bD.one (.tmp rfl rfl)));((refine wk ?_;exact rP));((exact Kw));exact rfl)
 ·have PQ:¬(v:Int)<(s.model.length:Int):=by omega
  have e:s.model.getD v 0=0:=by rw[List.getD_eq_getElem?_getD,List.getElem?_eq_none (by omega)];rfl
  rw[e]
  refine jf.enter (n:=26) Try.func20 rfl rfl rfl rfl rfl (by decide) rfl rfl fun g aY aW=>?_;refine mL ?_
  (refine Jf ?_;(iterate 8 refine aa.jn rfl rfl rfl rfl rfl rfl (by with_reducible assumption) ?_);refine zF ?_;refine e_ ?_)
  (apply c7;((exact bD.one (.tmp rfl rfl)));((refine wk ?_;exact rP));((exact Kw));exact rfl)
theorem Er (s:SR) (hl:s.core.length≤1000000):jf Try.prog 21 11 (cd s) [.ptr 0 0] (cd s) (.pv (dP s.core)):=by
 have hc:=nr s.core hl
 simp only[cd,cg]
 refine jf.enter (n:=8) Try.func21 rfl rfl rfl rfl rfl (by decide) rfl rfl fun g aY aW=>?_;refine mL ?_
 (refine zq ?_;refine eD ?_;refine dH ?_;refine jG ?_;refine aa.ah 67 9 14 rfl rfl rfl rfl ?_;refine zb ?_;refine zP (hc) ?_;refine e_ ?_)
 (apply c7;((exact bD.one (.tmp rfl rfl)));((refine⟨.bz (by rfl),?_⟩;exact rP));((exact Kw));exact rfl)
theorem vG (l:List Int) (hl:l.length≤1000000):Fn Try.prog 46 [.agg [.pv (.lit (.int .i64 1)),.pv (dP l),.pv (.lit (.int .i64 0))]] (.agg [.pv (.lit (.int .i64 1)),.pv (dP l),.pv (.lit (.int .i64 0))]):=by
 have hc:=nr l hl
 refine Fn.enter (n:=8) Try.func46 rfl rfl rfl rfl rfl (by decide) fun g aY aW=>?_;(try (conv=>rhs;simp only[Nf.cG,Nf.all,Nat.reduceBEq,reduceAdd,reduceSub]))
 (refine zq ?_;refine aa.box rfl rfl rfl rfl ?_;refine Q0 ?_;refine aa.lY rfl rfl rfl rfl ?_;refine gH ?_;refine zq ?_;refine ml ?_;refine zP (hc) ?_;refine aa.ah 30 1 1 rfl rfl rfl rfl ?_;(with_reducible apply aa.bB);(iterate 5 exact rfl);(first|exact rfl|assumption|exact dm _|exact dj _ _|exact dF _|exact dG _ _);(iterate 3 exact rfl);(with_reducible assumption);refine gH ?_;refine zq ?_;refine zL ?_;refine Q0 ?_;refine zB ?_;refine gH ?_;refine AW.ret ?_)
 (apply az;(exact bD.one (.cell rfl rfl rfl rfl));(refine Le.uJ ?_;refine fu.cons ?_ ?_;(with_reducible exact Le.pv _);refine fu.cons ?_ ?_;(with_reducible exact Le.pv _);refine fu.cons ?_ ?_;(with_reducible exact Le.pv _);exact fu.nil))
abbrev B0 (s:SR):List AV:=[.own 1 3 1 (s.value.map encI),.own 2 3 1 (s.level.map encI),.own 3 3 1 (s.reason.map encI),.pv (.lit (s.hl 0)),.own 5 3 1 (s.marks.map encI),aw s.low,.own 6 28 1 (bK s.nc s.hc),.own 8 28 1 (bK s.nw s.hw),aw s.head,aw s.added,aM s.broken,.pv (.slice 3 (s.proof.map jY)),aw 0,.pv (dP s.model),.pv (dP s.core)]
abbrev H0 (s:SR):List (Nat×Option Ob):=[(0,some (.box (B0 s))),(1,some .row),(2,some .row),(3,some .row),(4,some (.pool 3 (ew s.hl s.ll))),(5,some .row),(6,some .row),(7,some (.pool 3 (ew s.hc s.cl))),(8,some .row),(9,some (.pool 3 (ew s.hw s.wl))),(10,some .row)]
theorem AX (s:SR) (hp:s.proof.length≤100000) (hl:∀l∈s.proof,l.length≤1000000):jf Try.prog 22 11 (cd s) [.ptr 0 0] (H0 s) (.pv (.slice 3 (s.proof.map jY))):=by
 simp only[cd,cg,H0,B0]
 refine jf.enter (n:=24) Try.func22 rfl rfl rfl rfl rfl (by decide) rfl rfl fun g aY aW=>?_;refine mL ?_
 refine AW.DN 10 rfl ?_
 (try (conv=>rhs;simp only[Nf.cG,Nf.all,Nat.reduceBEq,reduceAdd,reduceSub]))
 (refine zq ?_;refine eD ?_;refine dH ?_;refine aa.assign rfl rfl rfl ?_;refine gH ?_;refine jD ?_;refine dH ?_;refine jG ?_;refine aa.ah 67 6 11 rfl rfl rfl rfl ?_;refine zb ?_;refine iv ?_)
 (refine Q0 ?_;apply AW.ck [11,10,3,2,1000] [0,1,2,3,4,5,6,7,8,9] (fun k:Nat=>([(4,.own 11 30 3 ((s.proof.take k).map jY)),(12,aw k)]:List (Nat×AV))) (fun k:Nat=>([(11,some .row)]:List (Nat×Option Ob))) (fun k:Nat=>k≤s.proof.length) (fun k:Nat=>s.proof.length - k) (0);(conv=>lhs;simp only[Nf.jJ,Nf.all,Nat.reduceBEq,reduceAdd,reduceSub]);(all_goals skip))
 ·exact Nat.zero_le _
 ·exact aN rfl (by(refine⟨.nilown _ _ _ rfl rfl,?_⟩;(iterate 2 refine⟨.ai (by rfl),?_⟩);refine⟨.bz (by rfl),?_⟩;refine⟨.eq rfl rfl,?_⟩;refine⟨.ai (by rfl),?_⟩;refine⟨.eq rfl rfl,?_⟩;exact trivial)) (by(refine⟨.newrow rfl,?_⟩;refine⟨.box _ rfl ?_,?_⟩;(iterate 3 refine⟨.aj (by rfl) rfl,?_⟩);refine⟨.ai (by rfl),?_⟩;refine⟨.aj (by rfl) rfl,?_⟩;refine⟨.ai (by rfl),?_⟩;(iterate 2 refine⟨.aj (by rfl) rfl,?_⟩);(iterate 3 refine⟨.ai (by rfl),?_⟩);refine⟨.bz (by rfl),?_⟩;refine⟨.ai (by rfl),?_⟩;(iterate 2 refine⟨.bz (by rfl),?_⟩);exact trivial;(iterate 3 refine⟨.row rfl,?_⟩);refine⟨.pool rfl (by rfl),?_⟩;(iterate 2 refine⟨.row rfl,?_⟩);refine⟨.pool rfl (by rfl),?_⟩;refine⟨.row rfl,?_⟩;refine⟨.pool rfl (by rfl),?_⟩;exact trivial)) rfl
 rintro k hk
 by_cases aP:k<s.proof.length
 ·have hc:=vG s.proof[k] (hl _ (List.getElem_mem aP))
  have Ao:=List.length_take_le k s.proof
  have e:((s.proof.take (k+1)).map jY)=(s.proof.take k).map jY++ [jY s.proof[k]]:=by
   rw[List.take_succ_eq_append_getElem aP,List.map_append];rfl
  (refine yz ?_;refine Q5 ?_;refine dH ?_;(focus ((with_reducible apply aa.ak);(iterate 7 exact rfl);rotate_left;omega));refine aa.sa rfl rfl rfl rfl ?_;refine Q0 ?_;refine aa.lY rfl rfl rfl rfl ?_;refine Q0 ?_;refine zB ?_;refine gH ?_;refine AW.region ?_;refine aa.bt rfl rfl rfl ?_;refine aa.eI rfl rfl rfl ?_;refine zL ?_;refine Q0 ?_;(with_reducible apply aa.Gr (hf:=hc));exact rfl;exact rfl;(repeat (first|exact .nil|(refine .cons rfl ?_ ?_;(first|exact .pv _|exact .own _ _ _ _ rfl|exact .nil _|exact .any _|exact .rptr _|(refine .uJ ?_;repeat (first|exact .nil|(refine .cons ?_ ?_;(first|exact .pv _|exact .own _ _ _ _ rfl|exact .nil _))))))));exact rfl;refine aa.ug rfl rfl rfl rfl rfl rfl rfl rfl rfl rfl ?_;refine Q0 ?_;(with_reducible apply aa.aZ);exact rfl;(first|exact .pv rfl|exact .own rfl|exact .nil rfl);(iterate 9 exact rfl);(first|omega|(simp only[List.length_map,List.length_append,List.length_cons,List.length_nil,List.length_drop,List.length_take,List.length_set,List.length_range,aE];omega));refine Q0 ?_;refine qL ?_;refine lx ?_)
  exact⟨k+1,by omega,by omega,aN rfl (by(refine⟨.aj (by first|rfl|(rw[e])) rfl,?_⟩;refine⟨.ai (by first|rfl|(rw[e])),?_⟩;refine⟨.ai (by first|rfl|(rw[e])),?_⟩;refine⟨.bz (by first|rfl|(rw[e])),?_⟩;refine⟨.eq rfl rfl,?_⟩;refine⟨.ai (by first|rfl|(rw[e])),?_⟩;refine⟨.eq rfl rfl,?_⟩;exact trivial)) (by(refine⟨.row rfl,?_⟩;refine⟨.box _ rfl ?_,?_⟩;refine⟨.aj (by first|rfl|(rw[e])) rfl,?_⟩;refine⟨.aj (by first|rfl|(rw[e])) rfl,?_⟩;refine⟨.aj (by first|rfl|(rw[e])) rfl,?_⟩;refine⟨.ai (by first|rfl|(rw[e])),?_⟩;refine⟨.aj (by first|rfl|(rw[e])) rfl,?_⟩;refine⟨.ai (by first|rfl|(rw[e])),?_⟩;refine⟨.aj (by first|rfl|(rw[e])) rfl,?_⟩;refine⟨.aj (by first|rfl|(rw[e])) rfl,?_⟩;refine⟨.ai (by first|rfl|(rw[e])),?_⟩;refine⟨.ai (by first|rfl|(rw[e])),?_⟩;refine⟨.ai (by first|rfl|(rw[e])),?_⟩;refine⟨.bz (by first|rfl|(rw[e])),?_⟩;refine⟨.ai (by first|rfl|(rw[e])),?_⟩;refine⟨.bz (by first|rfl|(rw[e])),?_⟩;refine⟨.bz (by first|rfl|(rw[e])),?_⟩;exact trivial;(iterate 3 refine⟨.row rfl,?_⟩);refine⟨.pool rfl (by first|rfl|(rw[e])),?_⟩;(iterate 2 refine⟨.row rfl,?_⟩);refine⟨.pool rfl (by first|rfl|(rw[e])),?_⟩;refine⟨.row rfl,?_⟩;refine⟨.pool rfl (by first|rfl|(rw[e])),?_⟩;exact trivial)) rfl⟩
 ·obtain rfl:k=s.proof.length:=by omega
  rw[List.take_length]
  (refine zq ?_;refine xB ?_;refine pz ?_;refine ot ?_)
  (apply c7;((exact bD.one (.tmp rfl rfl)));((refine⟨.su rfl (by rfl),?_⟩;exact rP));((refine⟨.box _ rfl ?_,?_⟩;(iterate 3 refine⟨.aj (by rfl) rfl,?_⟩);refine wk ?_;refine⟨.aj (by rfl) rfl,?_⟩;refine wk ?_;(iterate 2 refine⟨.aj (by rfl) rfl,?_⟩);(iterate 3 refine⟨.ai (by rfl),?_⟩);refine⟨.bz (by rfl),?_⟩;refine wk ?_;(iterate 2 refine⟨.bz (by rfl),?_⟩);exact trivial;(iterate 3 refine⟨.row rfl,?_⟩);refine⟨.pool rfl (by rfl),?_⟩;(iterate 2 refine⟨.row rfl,?_⟩);refine⟨.pool rfl (by rfl),?_⟩;refine⟨.row rfl,?_⟩;refine⟨.pool rfl (by rfl),?_⟩;refine⟨.newrow rfl,?_⟩;exact trivial));exact rfl)
end Go.Ab
/- A formula solved:a new solver,its clauses,the search,walked. -/
namespace Go.Ab
open Go Go.Proofs
open Nat (reduceAdd reduceSub)
set_option maxRecDepth 20000
set_option maxHeartbeats 8000000
section
variable {P:Program} {g:ar} {δ:DS} {Q:Exit→DS→Prop}
theorem AW.w6 (m:Nat) {c:Code} (h:Nat.ble δ.nx m=true) (hK:AW P g c Q {δ with nx:=m}):AW P g c Q δ:=fun κ a w r=>
 hK κ a w {n:=r.n,dfr:=r.dfr,env:=r.env,obj:=r.obj,inj:=r.inj,lo:=r.lo,nx:=fun i hi=>Nat.lt_of_lt_of_le (r.nx i hi) (by simpa using h),wt:=r.wt,below:=r.below,hB:=r.hB,N0:=r.N0,fr:=r.fr,mkf:=r.mkf}
theorem AW.FA (i j:Nat) {c:Code} (dg:g.wt=none) (hi:Nat.blt i δ.nx=true) (hj:Nat.blt j δ.nx=true) (hK:AW P g c Q (δ.sw i j)):AW P g c Q δ:=AW.aN (jT.sw i j dg hi hj (fun κ a w r=>⟨κ,r⟩)) hK
end
theorem y5 (h:Nat→Value):bK 0 h=[]:=rfl
theorem A6 (n:Nat):List.replicate n [PV.lit (.slice none 0 0)]=bK n (fun _=> .slice none 0 0):=by
 unfold bK
 symm
 rw[List.eq_replicate_iff]
 refine⟨by simp,fun x hx=>?_⟩
 obtain⟨_,_,rfl⟩:=List.mem_map.1 hx
 rfl
def jH (n:Nat) (m:List Int):List Bool:=(List.range n).map fun i=>decide (0<m.getD (i+1) 0)
def bJ (n:Nat) (F:List (List Int)) (A:List Int) (q:Int×List Bool×List Int×List (List Int)):Prop:=∃t,eM n F A 10000 t q.1∧q.2.1=jH n t.model∧q.2.2.1=t.core∧q.2.2.2=t.proof
attribute [local irreducible] bK AW aa bM a8 AR bm a_ bs bT fm fw se al
theorem uk {n:Nat} (hn:n≤20000) {l:List Int} (dt:l.Nodup) (hl:∀x∈l,Lit n x):l.length≤1000000:=by
 have:=eW (n:=2*n+2) (l:=l.map al) (by
  unfold List.Nodup
  rw[List.pairwise_map]
  exact dt.imp_of_mem fun {a b} ha hb mK e=>mK (cA (hl a ha) (hl b hb) (by rw[e]))) fun v hv=>by
  obtain⟨a,ha,rfl⟩:=List.mem_map.1 hv
  have:=da (hl a ha)
  omega
 simp only[List.length_map] at this
 omega
theorem eM.wN {n:Nat} {F:List (List Int)} {A:List Int} {fuel:Nat} {t:SR} {k:Int} (h:eM n F A fuel t k):t.core.length≤1000000:=by
 rcases h.res with ⟨_,_,_,e,_⟩|⟨_,_,_,_,_,e1,e2⟩|⟨_,_,e,_⟩
 ·rw[e];simp
 ·exact uk h.hn e1 e2
 ·rw[e];simp
theorem eM.Ki {n:Nat} {F:List (List Int)} {A:List Int} {fuel:Nat} {t:SR} {k:Int} (h:eM n F A fuel t k):∀l∈t.proof,l.length≤1000000:=fun l hl=>
 uk h.hn (h.nd l hl) (h.lits l (List.mem_append.2 (.inr hl)))
theorem kB (n:Nat) (F:List (List Int)) (A:List Int) (hn:n≤20000) (hF:F.length≤50000) (hc:∀c∈F,c.length≤1000000∧∀x∈c,Lit n x) (hA:∀x∈A,Lit n x) (hAl:A.length≤50000):nf Try.prog 8 0 [] [Dg (n:Nat) F,.pv (dP A)] (fun q:Int×List Bool×List Int×List (List Int)=>bJ n F A q) (fun _=>[]) (fun q=> .tup [aw q.1,.pv (AP q.2.1),.pv (dP q.2.2.1),.pv (.slice 3 (q.2.2.2.map jY))]):=by
 have hn1:¬(n:Int)<0:=by omega
 have hn2:¬(20000:Int)<(n:Int):=by omega
 have hz:List.replicate ((n:Int)+1).toNat [PV.lit (.int .i64 0)]=(fH n).value.map encI:=by
  rw[show((n:Int)+1).toNat=n+1 by omega]
  show _=(List.replicate (n+1) 0).map encI
  rw[List.map_replicate];rfl
 have hw:List.replicate (2*(n:Int)+2).toNat [PV.lit (.slice none 0 0)]=bK (fH n).nw (fH n).hw:=by
  rw[show(2*(n:Int)+2).toNat=2*n+2 by omega]
  exact A6 _
 have h00:bK (fH n).nc (fH n).hc=[]:=y5 _
 refine nf.HL (n:=54) Try.func8 rfl rfl rfl rfl rfl (by decide) rfl (fun _=>rfl) fun g aY aW=>?_;refine mL ?_
 (refine zq ?_;refine aa.box rfl rfl rfl rfl ?_;refine Q0 ?_;(iterate 4 refine za ?_);refine zd ?_;refine dH ?_;refine ry ?_;(with_reducible apply aa.inline (hf:=Try.func17));(with_reducible assumption);(iterate 10 exact rfl);intro g_ aY aW;refine Q0 ?_;refine jD ?_;refine dk ?_;refine zs ?_;refine zm ?_;refine zl ?_;refine zm ?_;refine E3 ?_;refine hO ?_;refine dk ?_;refine aa.mul rfl rfl rfl rfl rfl (by omega) ?_;refine zj ?_;refine Lf ?_;refine aa.sb 67 [7] rfl rfl rfl rfl rfl rfl rfl rfl rfl ?_;refine Q0 ?_;refine aa.box rfl rfl rfl rfl ?_;refine Q0 ?_;refine aa.jw rfl rfl rfl ?_;refine zd ?_;refine zo ?_;refine AW.bE [0,1,2,4,5,7,8] [13] rfl (by assumption) (by kernel_rfl) (by kernel_rfl) rfl ?_;show aa .held _ _ _ [_,_,_,_,_,_,_] _ _;refine zp ?_;refine zj ?_;refine zm ?_;refine zj ?_;refine zm ?_;refine zj ?_;refine Q4 ?_;intro k_ cI;refine Q0 ?_;apply AR.cut [8,7,5,4,2,1,0,3,6,9];intro iq;apply AR.cut [8,7,5,4,2,1,0,3,9];intro lM;apply AR.cut [8,7,5,4,2,1,0,6,9];intro lU;apply AR.cut [8,7,5,4,2,1,0,3,6];intro na;(refine AR.mY (i:=3) (j:=6) (m:=9) rfl (by kernel_rfl) rfl rfl rfl ?_ ?_ ?_<;>intro g_ ag bq);refine oE ?_;(refine AR.bR (i:=6) (j:=9) rfl (by kernel_rfl) rfl rfl ?_ ?_<;>intro g_ ag bq);refine oE ?_;(try (conv=>rhs;simp only[Nf.cG,Nf.all,Nat.reduceBEq,reduceAdd,reduceSub]));refine oS ?_;exact AR.perm (by kernel_rfl) na;refine oE ?_;(try (conv=>rhs;simp only[Nf.cG,Nf.all,Nat.reduceBEq,reduceAdd,reduceSub]));exact wi;refine oE ?_;(refine AR.bR (i:=3) (j:=9) rfl (by kernel_rfl) rfl rfl ?_ ?_<;>intro g_ ag bq);refine oE ?_;(try (conv=>rhs;simp only[Nf.cG,Nf.all,Nat.reduceBEq,reduceAdd,reduceSub]));refine EI ?_;refine AR.meet na (by kernel_rfl) (fun g_=>aN rfl ?_ ?_ rfl);(iterate 34 refine⟨.eq rfl rfl,?_⟩);exact trivial;(iterate 2 refine⟨.row rfl,?_⟩);exact Jx;refine oE ?_;(try (conv=>rhs;simp only[Nf.cG,Nf.all,Nat.reduceBEq,reduceAdd,reduceSub]));refine oS ?_;exact AR.perm (by kernel_rfl) lU;refine oE ?_;(refine AR.bR (i:=3) (j:=6) rfl (by kernel_rfl) rfl rfl ?_ ?_<;>intro g_ ag bq);refine oE ?_;(try (conv=>rhs;simp only[Nf.cG,Nf.all,Nat.reduceBEq,reduceAdd,reduceSub]));refine EI ?_;refine AR.meet lM (by kernel_rfl) (fun g_=>aN rfl ?_ ?_ rfl);(iterate 34 refine⟨.eq rfl rfl,?_⟩);exact trivial;(iterate 2 refine⟨.row rfl,?_⟩);exact Jx;refine oE ?_;(try (conv=>rhs;simp only[Nf.cG,Nf.all,Nat.reduceBEq,reduceAdd,reduceSub]));refine EI ?_;refine AR.meet lU (by kernel_rfl) (fun g_=>aN rfl ?_ ?_ rfl);(iterate 34 refine⟨.eq rfl rfl,?_⟩);exact trivial;(iterate 2 refine⟨.row rfl,?_⟩);exact Jx;refine AR.aS (i:=9) rfl (by kernel_rfl) rfl ?_;intro g_ ag bq;refine oE ?_;(try (conv=>rhs;simp only[Nf.cG,Nf.all,Nat.reduceBEq,reduceAdd,reduceSub]));exact ph;refine AR.aS (i:=3) rfl (by kernel_rfl) rfl ?_;intro g_ ag bq;refine oE ?_;(try (conv=>rhs;simp only[Nf.cG,Nf.all,Nat.reduceBEq,reduceAdd,reduceSub]));refine AR.sw 4 5 (by assumption) (by kernel_rfl) (by kernel_rfl) ?_;refine vM ?_;refine EI ?_;refine Gu ?_;(iterate 3 refine⟨.row rfl,?_⟩);exact Jx;refine AR.aS (i:=6) rfl (by kernel_rfl) rfl ?_;intro g_ ag bq;refine oE ?_;(try (conv=>rhs;simp only[Nf.cG,Nf.all,Nat.reduceBEq,reduceAdd,reduceSub]));refine AR.sw 4 5 (by assumption) (by kernel_rfl) (by kernel_rfl) ?_;refine vM ?_;refine Gu ?_;(iterate 3 refine⟨.row rfl,?_⟩);exact Jx;refine AR.free 10 (by kernel_rfl) rfl rfl rfl (bh.build 65 [0,1,2,5] rfl rfl rfl rfl rfl rfl rfl rfl) ?_;(try (conv=>rhs;simp only[Nf.cG,Nf.all,Nat.reduceBEq,reduceAdd,reduceSub]));refine AR.cU [11,12] (by kernel_rfl) (by kernel_rfl) (by kernel_rfl) (by kernel_rfl) ?_;intro g_ ag;show aa .held _ _ _ [_,_] _ _;refine Q9 ?_;refine Q4 ?_;intro k_ cI;refine Q0 ?_;refine qX ?_;intro g_ ag aH;(with_reducible apply aa.oY);(iterate 3 exact rfl);(repeat' first|exact ov.nil|apply ov.take|apply ov.skip);(iterate 5 exact rfl);(with_reducible assumption);refine l5 ?_;refine qI ?_;refine aa.jw rfl rfl rfl ?_;refine zd ?_;refine AW.ret ?_;refine sD rfl rfl ?_;refine Q0 ?_;refine aa.jw rfl rfl rfl ?_;refine zd ?_;refine zo ?_;refine AW.fk 2 ?_)
 refine Stop.go ?_
 refine AW.sI 3 ?_
 refine AW.sI 3 ?_
 refine AW.sI 3 ?_
 refine AW.w6 20 (by rfl) ?_
 refine AW.FA 0 11 (by assumption) rfl rfl ?_
 refine AW.FA 2 0 (by assumption) rfl rfl ?_
 refine AW.FA 1 8 (by assumption) rfl rfl ?_
 refine AW.FA 3 1 (by assumption) rfl rfl ?_
 refine AW.FA 4 2 (by assumption) rfl rfl ?_
 refine AW.FA 3 4 (by assumption) rfl rfl ?_
 refine AW.FA 5 3 (by assumption) rfl rfl ?_
 refine AW.FA 6 9 (by assumption) rfl rfl ?_
 refine vM ?_
 refine AW.aN (δ':=⟨54,[(8,.ptr 0 0),(2,.ptr 11 0),(1,.pv (dP A)),(1000,.agg [])],cd (fH n)++ [(11,some (.box [aw n,.pv (dy F)]))],20⟩) ?_ ?_
 ·exact aN rfl (by(refine⟨.eq rfl rfl,?_⟩;refine⟨.eq rfl rfl,?_⟩;refine⟨.bz (by first|rfl|exact hz|exact hw|exact h00),?_⟩;refine⟨.eq rfl rfl,?_⟩;exact trivial)) (by(refine⟨.box _ rfl ?_,?_⟩;(iterate 3 refine⟨.aj (by first|rfl|exact hz|exact hw|exact h00) rfl,?_⟩);refine⟨.ai (by first|rfl|exact hz|exact hw|exact h00),?_⟩;refine⟨.nilown _ _ _ rfl rfl,?_⟩;refine⟨.ai (by first|rfl|exact hz|exact hw|exact h00),?_⟩;refine⟨.x5 (by first|rfl|exact hz|exact hw|exact h00) rfl rfl,?_⟩;refine⟨.aj (by first|rfl|exact hz|exact hw|exact h00) rfl,?_⟩;(iterate 3 refine⟨.ai (by first|rfl|exact hz|exact hw|exact h00),?_⟩);refine⟨.nilown _ _ _ rfl rfl,?_⟩;refine⟨.ai (by first|rfl|exact hz|exact hw|exact h00),?_⟩;(iterate 2 refine⟨.C7 (by first|rfl|exact hz|exact hw|exact h00),?_⟩);exact trivial;(iterate 3 refine⟨.row rfl,?_⟩);refine⟨.pool rfl (by first|rfl|exact hz|exact hw|exact h00),?_⟩;(iterate 2 refine⟨.newrow rfl,?_⟩);refine⟨.pool rfl (by first|rfl|exact hz|exact hw|exact h00),?_⟩;refine⟨.row rfl,?_⟩;refine⟨.pool rfl (by first|rfl|exact hz|exact hw|exact h00),?_⟩;refine⟨.newrow rfl,?_⟩;refine⟨.box _ rfl ?_,?_⟩;refine⟨.ai (by first|rfl|exact hz|exact hw|exact h00),?_⟩;refine⟨.bz (by first|rfl|exact hz|exact hw|exact h00),?_⟩;(iterate 2 exact trivial))) rfl
 simp only[cd,cg,List.cons_append,List.nil_append]
 (refine qI ?_;refine aa.Kl rfl rfl rfl rfl rfl rfl rfl ?_;refine vx ?_;refine oc ?_;refine zo ?_;refine dH ?_;refine pY ?_)
 (refine Q0 ?_;apply AW.ck [8,2,1,1000] [1,2,3,5,6,8,10,11] (fun q:SR×Nat=>([(9,aw (q.2:Nat))]:List (Nat×AV))) (fun q:SR×Nat=>([(0,some (.box [.own 1 3 1 ((q.1.value).map encI),.own 2 3 1 ((q.1.level).map encI),.own 3 3 1 ((q.1.reason).map encI),.pv (.lit (q.1.hl 0)),.own 5 3 1 ((q.1.marks).map encI),aw (q.1.low),.own 6 28 1 (bK q.1.nc q.1.hc),.own 8 28 1 (bK q.1.nw q.1.hw),aw (q.1.head),aw (q.1.added),aM (q.1.broken),.own 10 30 3 ((q.1.proof).map jY),aw 0,.pv (dP (q.1.model)),.pv (dP (q.1.core))])),(4,some (.pool 3 (ew q.1.hl q.1.ll))),(7,some (.pool 3 (ew q.1.hc q.1.cl))),(9,some (.pool 3 (ew q.1.hw q.1.wl)))]:List (Nat×Option Ob))) (fun q:SR×Nat=>(gg n (F.take q.2) q.2 q.1∧q.2≤F.length)) (fun q:SR×Nat=>F.length - q.2) ((fH n,0));(conv=>lhs;simp only[Nf.jJ,Nf.all,Nat.reduceBEq,reduceAdd,reduceSub]);(all_goals skip))
 ·exact⟨vr hn,Nat.zero_le _⟩
 ·exact aN rfl (by(refine⟨.ai (by rfl),?_⟩;(iterate 2 refine⟨.eq rfl rfl,?_⟩);refine⟨.bz (by rfl),?_⟩;refine⟨.eq rfl rfl,?_⟩;exact trivial)) (by(refine⟨.box _ rfl ?_,?_⟩;(iterate 3 refine⟨.aj (by rfl) rfl,?_⟩);refine⟨.ai (by rfl),?_⟩;refine⟨.aj (by rfl) rfl,?_⟩;refine⟨.ai (by rfl),?_⟩;(iterate 2 refine⟨.aj (by rfl) rfl,?_⟩);(iterate 3 refine⟨.ai (by rfl),?_⟩);refine⟨.aj (by rfl) rfl,?_⟩;refine⟨.ai (by rfl),?_⟩;(iterate 2 refine⟨.bz (by rfl),?_⟩);exact trivial;(iterate 3 refine⟨.pool rfl (by rfl),?_⟩);(iterate 7 refine⟨.row rfl,?_⟩);refine⟨.box _ rfl ?_,?_⟩;refine⟨.ai (by rfl),?_⟩;refine⟨.bz (by rfl),?_⟩;(iterate 2 exact trivial))) rfl
 rintro⟨σ,i⟩ ⟨hσ,hi⟩
 simp only at hσ hi
 by_cases aP:i<F.length
 ·obtain⟨hc1,hc2⟩:=hc _ (List.getElem_mem aP)
  have Lt:=sN n (F.take i) i σ hσ (by omega) F[i] hc2 hc1
  rw[← List.take_succ_eq_append_getElem aP] at Lt
  simp only[cd,cg] at Lt
  (refine zo ?_;refine dk ?_;refine uL ?_;refine Q5 ?_;refine ox ?_;refine uV ?_;refine zm ?_;(focus ((with_reducible apply aa.ak);(iterate 7 exact rfl);rotate_left;omega));refine zr ?_;(with_reducible apply aa.dZ (hf:=Lt));(with_reducible assumption);(iterate 3 exact rfl);(repeat (first|exact trivial|refine⟨rfl,?_⟩));(repeat (first|exact .nil|(refine .cons ?_ ?_;(first|exact .eq rfl rfl|exact .nil _|exact .any _))));(intro x_;exact rfl);exact rfl;(repeat (first|exact trivial|refine⟨rfl,?_⟩|refine⟨aI,?_⟩));(intro x_;(repeat (first|exact trivial|refine⟨rfl,?_⟩|refine⟨aI,?_⟩)));(intro x_;exact rfl);exact rfl;(intro x_ jQ);refine fE ?_;refine aa.not rfl rfl rfl ?_;refine oz ?_;refine Q0 ?_;refine oA ?_)
  exact⟨(x_,i+1),⟨jQ,aP⟩,by show F.length - (i+1)<F.length - i;omega,aN rfl (by(refine⟨.ai (by rfl),?_⟩;(iterate 2 refine⟨.eq rfl rfl,?_⟩);refine⟨.bz (by rfl),?_⟩;refine⟨.eq rfl rfl,?_⟩;exact trivial)) (by(refine⟨.box _ rfl ?_,?_⟩;(iterate 3 refine⟨.aj (by rfl) rfl,?_⟩);refine⟨.ai (by rfl),?_⟩;refine⟨.aj (by rfl) rfl,?_⟩;refine⟨.ai (by rfl),?_⟩;(iterate 2 refine⟨.aj (by rfl) rfl,?_⟩);(iterate 3 refine⟨.ai (by rfl),?_⟩);refine⟨.aj (by rfl) rfl,?_⟩;refine⟨.ai (by rfl),?_⟩;(iterate 2 refine⟨.bz (by rfl),?_⟩);exact trivial;(iterate 3 refine⟨.pool rfl (by rfl),?_⟩);(iterate 7 refine⟨.row rfl,?_⟩);refine⟨.box _ rfl ?_,?_⟩;refine⟨.ai (by rfl),?_⟩;refine⟨.bz (by rfl),?_⟩;(iterate 2 exact trivial))) rfl⟩
 ·obtain rfl:i=F.length:=by omega
  rw[List.take_length] at hσ
  have It:=Bp n F F.length σ hσ (by omega) A hA hAl 10000 (by omega) (by omega)
  rw[show((10000:Nat):Int)=10000 from rfl] at It
  simp only[cd,cg] at It
  (refine zo ?_;refine dk ?_;refine uL ?_;refine zk ?_;refine vj ?_;refine ox ?_;refine zm ?_;(with_reducible apply aa.dZ (hf:=It));(with_reducible assumption);(iterate 3 exact rfl);(repeat (first|exact trivial|refine⟨rfl,?_⟩));(repeat (first|exact .nil|(refine .cons ?_ ?_;(first|exact .eq rfl rfl|exact .nil _|exact .any _))));(intro x_;exact rfl);exact rfl;(repeat (first|exact trivial|refine⟨rfl,?_⟩|refine⟨aI,?_⟩));(intro x_;(repeat (first|exact trivial|refine⟨rfl,?_⟩|refine⟨aI,?_⟩)));(intro x_;exact rfl);exact rfl;(intro x_ jQ);refine fE ?_;refine eD ?_;refine AW.fk 10 ?_)
  refine Stop.go ?_
  obtain⟨t,k⟩:=x_
  have ht:=jQ
  simp only at ht ⊢
  have E9:=ht.plen2
  have jI:=ht.lits
  have Ff:∀m,(jH n m).length=n:=fun m=>by simp [jH]
  (refine dH ?_;refine jX ?_;refine dH ?_;refine pY ?_)
  (refine Q0 ?_;apply AW.ck [10,8,2,1000] [0,1,2,3,4,5,6,7,8,9,10,11] (fun v:Nat=>([(11,.own 12 4 1 (((jH n t.model).take v).map jj)),(12,aw ((v:Int)+1))]:List (Nat×AV))) (fun v:Nat=>([(12,some .row)]:List (Nat×Option Ob))) (fun v:Nat=>v≤n) (fun v:Nat=>n - v) (0);(conv=>lhs;simp only[Nf.jJ,Nf.all,Nat.reduceBEq,reduceAdd,reduceSub]);(all_goals skip))
  ·exact Nat.zero_le _
  ·exact aN rfl (by(refine⟨.nilown _ _ _ rfl rfl,?_⟩;(iterate 2 refine⟨.ai (by rfl),?_⟩);(iterate 3 refine⟨.eq rfl rfl,?_⟩);exact trivial)) (by(refine⟨.newrow rfl,?_⟩;refine⟨.box _ rfl ?_,?_⟩;(iterate 3 refine⟨.aj (by rfl) rfl,?_⟩);refine⟨.ai (by rfl),?_⟩;refine⟨.aj (by rfl) rfl,?_⟩;refine⟨.ai (by rfl),?_⟩;(iterate 2 refine⟨.aj (by rfl) rfl,?_⟩);(iterate 3 refine⟨.ai (by rfl),?_⟩);refine⟨.aj (by rfl) rfl,?_⟩;refine⟨.ai (by rfl),?_⟩;(iterate 2 refine⟨.bz (by rfl),?_⟩);exact trivial;(iterate 3 refine⟨.row rfl,?_⟩);refine⟨.pool rfl (by rfl),?_⟩;(iterate 2 refine⟨.row rfl,?_⟩);refine⟨.pool rfl (by rfl),?_⟩;refine⟨.row rfl,?_⟩;refine⟨.pool rfl (by rfl),?_⟩;refine⟨.row rfl,?_⟩;refine⟨.box _ rfl ?_,?_⟩;refine⟨.ai (by rfl),?_⟩;refine⟨.bz (by rfl),?_⟩;(iterate 2 exact trivial))) rfl
  rintro v hv
  by_cases lL:v<n
  ·have LY:=C3 t (v+1) (by omega)
   have e:((jH n t.model).take (v+1)).map jj=((jH n t.model).take v).map jj++ [jj (decide (0<t.model.getD (v+1) 0))]:=by
    rw[List.take_succ_eq_append_getElem (by rw[Ff];exact lL),List.map_append]
    simp [jH]
   rw[show((v+1:Nat):Int)=(v:Int)+1 from rfl] at LY
   have n4:=List.length_take_le v (jH n t.model)
   simp only[cd,cg] at LY
   (refine im ?_;refine ry ?_;refine aa.leq rfl rfl rfl rfl rfl ?_;refine zd ?_;refine Q5 ?_;refine kM ?_;refine aa.bt rfl rfl rfl ?_;refine zp ?_;refine zX (LY) ?_;refine fE ?_;(with_reducible apply aa.il);(iterate 5 exact rfl);(first|exact rfl|assumption|exact dm _|exact dj _ _|exact dF _|exact dG _ _);exact rfl;exact rfl;refine Q0 ?_;(with_reducible apply aa.aZ);exact rfl;(first|exact .pv rfl|exact .own rfl|exact .nil rfl);(iterate 9 exact rfl);(first|omega|(simp only[List.length_map,List.length_append,List.length_cons,List.length_nil,List.length_drop,List.length_take,List.length_set,List.length_range,aE];omega));refine Q0 ?_;refine qL ?_;refine Q0 ?_;refine oA ?_)
   exact⟨v+1,by omega,by omega,aN rfl (by(refine⟨.aj (by first|rfl|(rw[e];rfl)) rfl,?_⟩;refine⟨.ai (by first|rfl|(rw[e];rfl)),?_⟩;refine⟨.ai (by first|rfl|(rw[e];rfl)),?_⟩;(iterate 3 refine⟨.eq rfl rfl,?_⟩);exact trivial)) (by(refine⟨.row rfl,?_⟩;refine⟨.box _ rfl ?_,?_⟩;refine⟨.aj (by first|rfl|(rw[e];rfl)) rfl,?_⟩;refine⟨.aj (by first|rfl|(rw[e];rfl)) rfl,?_⟩;refine⟨.aj (by first|rfl|(rw[e];rfl)) rfl,?_⟩;refine⟨.ai (by first|rfl|(rw[e];rfl)),?_⟩;refine⟨.aj (by first|rfl|(rw[e];rfl)) rfl,?_⟩;refine⟨.ai (by first|rfl|(rw[e];rfl)),?_⟩;refine⟨.aj (by first|rfl|(rw[e];rfl)) rfl,?_⟩;refine⟨.aj (by first|rfl|(rw[e];rfl)) rfl,?_⟩;refine⟨.ai (by first|rfl|(rw[e];rfl)),?_⟩;refine⟨.ai (by first|rfl|(rw[e];rfl)),?_⟩;refine⟨.ai (by first|rfl|(rw[e];rfl)),?_⟩;refine⟨.aj (by first|rfl|(rw[e];rfl)) rfl,?_⟩;refine⟨.ai (by first|rfl|(rw[e];rfl)),?_⟩;refine⟨.bz (by first|rfl|(rw[e];rfl)),?_⟩;refine⟨.bz (by first|rfl|(rw[e];rfl)),?_⟩;exact trivial;(iterate 3 refine⟨.row rfl,?_⟩);refine⟨.pool rfl (by first|rfl|(rw[e];rfl)),?_⟩;(iterate 2 refine⟨.row rfl,?_⟩);refine⟨.pool rfl (by first|rfl|(rw[e];rfl)),?_⟩;refine⟨.row rfl,?_⟩;refine⟨.pool rfl (by first|rfl|(rw[e];rfl)),?_⟩;refine⟨.row rfl,?_⟩;refine⟨.box _ rfl ?_,?_⟩;refine⟨.ai (by first|rfl|(rw[e];rfl)),?_⟩;refine⟨.bz (by first|rfl|(rw[e];rfl)),?_⟩;(iterate 2 exact trivial))) rfl⟩
  ·obtain rfl:v=n:=by omega
   rw[show(jH v t.model).take v=jH v t.model from List.take_of_length_le (by rw[Ff];exact Nat.le_refl _)]
   have dO:=ht.wN
   have eC:=ht.Ki
   have KI:=Er t dO
   have N5:=AX t (by omega) eC
   simp only[cd,cg,H0,B0] at KI N5
   (refine im ?_;refine ry ?_;refine aa.leq rfl rfl rfl rfl rfl ?_;refine zd ?_;refine zk ?_;refine vj ?_;refine AW.fk 15 ?_)
   refine Stop.go ?_
   refine AW.DN 12 rfl ?_
   (try (conv=>rhs;simp only[Nf.cG,Nf.all,Nat.reduceBEq,reduceAdd,reduceSub]))
   (refine zq ?_;(iterate 2 refine zm ?_);refine aa.a7 rfl rfl rfl ?_;refine zX (KI) ?_;refine fE ?_;refine aa.a7 rfl rfl rfl ?_;refine zX (N5) ?_;refine fE ?_;(iterate 4 refine za ?_);refine zd ?_;refine AW.ret ?_)
   (apply vQ (((k,jH v t.model,t.core,t.proof):Int×List Bool×List Int×List (List Int))) (⟨t,ht,rfl,rfl,rfl⟩);((exact vd.four (.tmp rfl rfl) (.tmp rfl rfl) (.tmp rfl rfl) (.tmp rfl rfl)));(((iterate 2 refine⟨.eq rfl rfl,?_⟩);(iterate 2 exact trivial)));(skip);exact rfl)
end Go.Ab
/- What solving gives,in terms of assignments. -/
namespace Go.Ab
open Go Go.Proofs
def xk (v:List Bool):Nat→Bool:=fun u=>v.getD (u - 1) false
theorem ke {n:Nat} {v:List Bool} {x:Int} (hx:Lit n x):dV (xk v) x↔dS v x=true:=by
 obtain⟨h0,_,_⟩:=hx
 unfold dV dS xk
 by_cases h:x<0
 ·rw[if_pos h,if_neg (by omega),if_pos h,show aF x - 1=(0 - x - 1).toNat by unfold aF;omega]
  cases v.getD (0 - x - 1).toNat false<;>simp
 ·rw[if_neg h,if_pos (by omega),show aF x - 1=(x - 1).toNat by unfold aF;omega]
theorem gZ {n:Nat} {v:List Bool} {F:List (List Int)} (hF:∀c∈F,∀x∈c,Lit n x):fJ (xk v) F↔allM v F=true:=by
 unfold fJ allM eh
 simp only[List.all_eq_true,List.any_eq_true]
 constructor
 ·intro h c hc
  obtain⟨x,hx,ht⟩:=h c hc
  exact⟨x,hx,(ke (hF c hc x hx)).1 ht⟩
 ·intro h c hc
  obtain⟨x,hx,ht⟩:=h c hc
  exact⟨x,hx,(ke (hF c hc x hx)).2 ht⟩
def s9 (n:Nat) (L:List Int):List Bool:=(List.range n).map fun i=>decide (((i+1:Nat):Int)∈L)
theorem AB (n:Nat) (L:List Int):(s9 n L).length=n:=by simp [s9]
theorem yc {n:Nat} {L:List Int} {u:Nat} (h1:1≤u) (h2:u≤n):xk (s9 n L) u=km L u:=by
 unfold xk s9 km
 rw[List.getD_eq_getElem?_getD,List.getElem?_map,List.getElem?_range (by omega)]
 simp only[Option.map_some,Option.getD_some]
 rw[show u - 1+1=u by omega]
theorem dV.congr {n:Nat} {σ τ:Nat→Bool} {x:Int} (hx:Lit n x) (h:∀u,1≤u→u≤n→σ u=τ u):dV σ x↔dV τ x:=by
 have:=dz hx
 unfold dV
 rw[h _ this.1 this.2]
theorem fJ.congr {n:Nat} {σ τ:Nat→Bool} {F:List (List Int)} (hF:∀c∈F,∀x∈c,Lit n x) (h:∀u,1≤u→u≤n→σ u=τ u) (hs:fJ σ F):fJ τ F:=fun c hc=>by
 obtain⟨x,hx,ht⟩:=hs c hc
 exact⟨x,hx,(dV.congr (hF c hc x hx) h).1 ht⟩
section
variable {n:Nat} {F:List (List Int)} {A:List Int} {q:Int×List Bool×List Int×List (List Int)}
theorem bJ.one (h:bJ n F A q) (hn:n≤8):q.1=1∨q.1=2:=by
 obtain⟨t,h1,_⟩:=h
 rcases h1.res with ⟨e,_⟩|⟨e,_⟩|⟨_,_,_,e⟩
 ·exact .inl e
 ·exact .inr e
 ·exfalso
  have:3 ^ n≤3 ^ 8:=Nat.pow_le_pow_right (by omega) hn
  have:3 ^ 8=6561:=by decide
  omega
theorem bJ.xg (h:bJ n F A q):∀c∈F,∀x∈c,Lit n x:=by
 obtain⟨t,h1,_⟩:=h
 exact fun c hc=>h1.lits c (List.mem_append.2 (.inl hc))
theorem bJ.Ef (h:bJ n F A q) {σ:Nat→Bool} (hσ:fJ σ F):fJ σ (F++q.2.2.2):=by
 obtain⟨t,h1,_,_,e⟩:=h
 rw[e]
 exact h1.prf.sound hσ fun c hc x hx=>(h1.lits c hc x hx).1
theorem bJ.unsat (h:bJ n F A q) (h2:q.1=2) {σ:Nat→Bool} (hσ:fJ σ F) (hA:∀x∈A,dV σ x):False:=by
 have hL:=h.Ef hσ
 obtain⟨t,h1,_,_,e⟩:=h
 rcases h1.res with ⟨e1,_⟩|⟨_,_,P,e2,e3,_,e4⟩|⟨e1,_⟩
 ·omega
 ·rw[e,e2] at hL
  obtain⟨y,hy,ht⟩:=hL (t.core.map fun y=> -y) (by simp)
  obtain⟨x,hx,rfl⟩:=List.mem_map.1 hy
  exact(dV.neg (e4 x hx).1).1 ht (hA x (e3 x hx))
 ·omega
theorem bJ.sat (h:bJ n F A q) (h2:q.1=1):∃L,rX n F A L∧q.2.1=s9 n L∧q.2.2.1=[]:=by
 obtain⟨t,h1,e1,e3,_⟩:=h
 rcases h1.res with ⟨_,L,e2,e4,hl⟩|⟨e2,_⟩|⟨e2,_⟩
 ·refine⟨L,hl,?_,by rw[e3,e4]⟩
  rw[e1,e2]
  unfold jH s9
  apply List.map_congr_left
  intro i hi
  have hi:=List.mem_range.1 hi
  rw[me L (by omega)]
  by_cases h3:((i+1:Nat):Int)∈L
  ·rw[if_pos h3,decide_eq_true h3];rfl
  ·rw[if_neg h3,decide_eq_false h3,decide_eq_false_iff_not]
   split<;>omega
 ·omega
 ·omega
theorem bJ.EG (h:bJ n F A q) (h2:q.1=1):q.2.1.length=n∧allM q.2.1 F=true:=by
 obtain⟨L,hl,e,_⟩:=h.sat h2
 rw[e]
 refine⟨AB n L,(gZ h.xg).1 (fJ.congr h.xg (fun u h1 h2=>(yc h1 h2).symm) hl.sat)⟩
theorem bJ.iff (h:bJ n F A q) (hn:n≤8) (hA:∀x∈A,Lit n x):q.1=1↔∃v:List Bool,v.length=n∧allM v F=true∧j9 v A=true:=by
 constructor
 ·intro h2
  obtain⟨L,hl,e,_⟩:=h.sat h2
  obtain⟨q1,q2⟩:=h.EG h2
  refine⟨q.2.1,q1,q2,?_⟩
  unfold j9
  rw[List.all_eq_true]
  intro x hx
  rw[e,← ke (hA x hx)]
  exact(dV.congr (hA x hx) fun u h1 h2=>(yc h1 h2).symm).1 ((mq hl.trl hl.full (hA x hx)).2 (hl.asm x hx))
 ·rintro⟨v,q1,q2,q3⟩
  rcases h.one hn with e|e
  ·exact e
  ·exfalso
   refine h.unsat e ((gZ h.xg).2 q2) fun x hx=>(ke (hA x hx)).2 ?_
   unfold j9 at q3
   exact List.all_eq_true.1 q3 x hx
end
end Go.Ab
/- Unit propagation's run,and what is derived:the same. -/
namespace Go.Ab
open Go Go.Proofs
end Go.Ab
/- The laws through the layers:the examples at their heads. -/
namespace Go.Ab
open Go Go.Proofs
set_option maxRecDepth 20000
set_option maxHeartbeats 8000000
def jL (P:List (List Int)):List bu:=P.map fun l=>⟨1,l,0⟩
theorem zh (P:List (List Int)):P.map jY=(jL P).map encS:=by
 unfold jL
 rw[List.map_map];rfl
theorem o9 {v:Int} {cl:List (List Int)} {s:List (List Int)}:lq ⟨v,cl,s⟩ (ct v cl) [] where
 len:=fun v h1 h2=>h1
 all:=fun v h1 h2=>h2
 pre:=fun v h1 h2=>⟨[],by rw[List.append_nil];rfl⟩
 noref:=fun hr v h1 h2=>by
  have hr:(cl.any fun c=>decide ((c.length:Int)=0))=true:=hr
  obtain⟨c,hc,h0⟩:=List.any_eq_true.1 hr
  have h0:c=[]:=List.eq_nil_of_length_eq_zero (by simpa using h0)
  have:=List.all_eq_true.1 h2 c hc
  rw[h0] at this
  simp [eh] at this
def AA (n:Nat) (cl syms:List (List Int)) (l:List bu):Bool:=decide ((bX ⟨n,cl,syms⟩ (ct n cl) l).2=l.length) && (bX ⟨n,cl,syms⟩ (ct n cl) l).1.ref
theorem xi {n:Nat} {cl syms:List (List Int)} {l:List bu} (cZ:Ci n cl syms l) (h:AA n cl syms l=true) {v:List Bool} (h1:v.length=n) (h2:allM v cl=true):False:=by
 unfold AA at h
 rw[Bool.and_eq_true,decide_eq_true_eq] at h
 exact(nH (e:=⟨n,cl,syms⟩) (fun c hc=>(cZ.dO c hc).1) (by show(0:Int)≤n;omega) l o9 cZ.ok cZ.hl.2 h.1).2 h.2 v (by rw[h1]) h2
theorem DX {n:Nat} {P:List (List Int)} (h:∀c∈P,c.length≤n):wS (jL P)≤P.length*(n+1):=by
 induction P with
 |nil=>simp [wS,jL]
 |cons c P ih=>
  have h1:=ih fun d hd=>h d (by simp [hd])
  have h2:=h c (by simp)
  unfold wS jL at*
  simp only[List.map_cons,List.sum_cons,List.length_cons,Nat.add_mul]
  omega
theorem Bv {m:Nat}:∀{l:List bu},(∀t∈l,t.lits.length≤m)→wS l≤l.length*(m+1)
 |[],_=>by simp [wS]
 |t::l,h=>by
  have h1:=Bv (m:=m) (l:=l) fun d hd=>h d (by simp [hd])
  have h2:=h t (by simp)
  unfold wS at*
  simp only[List.map_cons,List.sum_cons,List.length_cons,Nat.add_mul]
  omega
theorem bJ.Pc {n:Nat} {F:List (List Int)} {A:List Int} {q:Int×List Bool×List Int×List (List Int)} (h:bJ n F A q) (hn:n≤8) {G:List (List Int)} (hG:∀c∈G,ay n c=true∧c.length≤1000) (hGl:G.length≤1000):Ci n G [] (jL q.2.2.2):=by
 obtain⟨t,h1,_,_,e⟩:=h
 have hlen:∀c∈t.proof,c.length≤2*n+2:=fun c hc=>by
  have:=eW (n:=2*n+2) (l:=c.map al) (by
   unfold List.Nodup
   rw[List.pairwise_map]
   exact(h1.nd c hc).imp_of_mem fun {a b} ha hb mK e=>mK (cA (h1.lits c (List.mem_append.2 (.inr hc)) a ha) (h1.lits c (List.mem_append.2 (.inr hc)) b hb) (by rw[e]))) fun v hv=>by
   obtain⟨a,ha,rfl⟩:=List.mem_map.1 hv
   have:=da (h1.lits c (List.mem_append.2 (.inr hc)) a ha)
   omega
  simpa using this
 have hw:=DX hlen
 have hp:=h1.plen2
 rw[e]
 refine⟨by omega,hG,hGl,⟨by simp,fun c hc=>by simp at hc⟩,⟨?_,fun s hs=>?_⟩,by unfold jL;rw[List.length_map];exact hp⟩
 ·have:t.proof.length*(2*n+2+1)≤20000*19:=Nat.mul_le_mul hp (by omega)
  omega
 ·unfold jL at hs
  obtain⟨c,hc,rfl⟩:=List.mem_map.1 hs
  have:=hlen c hc
  show c.length≤900
  omega
abbrev Gb:List (List Int):=[[1,2],[-1,2],[1,-2]]
abbrev IC:List (List Int):=[[1,2],[-1,2],[1,-2],[-1,-2]]
theorem Ew:∀v:List Bool,v.length=2→allM v Gb=true→v=[true,true]:=by
 intro v h1 h2
 match v,h1 with
 |[a,b],_=>cases a<;>cases b<;>first|rfl|(exfalso;revert h2;decide)
theorem Ch:∀v:List Bool,v.length=2→allM v IC=true→False:=by
 intro v h1 h2
 match v,h1 with
 |[a,b],_=>cases a<;>cases b<;>(revert h2;decide)
theorem C6 {F:List (List Int)} (h:(F.all fun c=>c.all fun x=>decide (x≠0∧ -2≤x∧x≤2))=true):∀c∈F,∀x∈c,Lit 2 x:=fun c hc x hx=>by
 rw[List.all_eq_true] at h
 have:=List.all_eq_true.1 (h c hc) x hx
 simp only[decide_eq_true_eq] at this
 exact⟨this.1,by omega,by omega⟩
theorem vi {F:List (List Int)} (h:∀c∈F,∀x∈c,Lit 2 x) (h2:(F.all fun c=>decide (c.length≤2))=true):(∀c∈F,c.length≤1000000∧∀x∈c,Lit 2 x)∧∀c∈F,ay (2:Nat) c=true∧c.length≤1000:=by
 rw[List.all_eq_true] at h2
 refine⟨fun c hc=>⟨by have:=h2 c hc;simp at this;omega,h c hc⟩,fun c hc=>⟨?_,by have:=h2 c hc;simp at this;omega⟩⟩
 unfold ay
 rw[List.all_eq_true]
 intro x hx
 obtain⟨_,_,_⟩:=h c hc x hx
 simp only[decide_eq_true_eq]
 omega
theorem L8:ay (2:Nat) [1]=true:=by decide
attribute [local irreducible] AW aa bM a8 AR bm a_ bs bT canon gO ed iR jS cL ay cN db bX cm
theorem BV:Fn Try.prog 6 [] (aM true):=by
 obtain⟨f1,f2⟩:=vi (F:=Gb) (C6 (by decide)) (by decide)
 obtain⟨g1,g2⟩:=vi (F:=IC) (C6 (by decide)) (by decide)
 have h1:=kB 2 Gb [] (by omega) (by simp) f1 (by simp) (by simp)
 have h2:=kB 2 IC [1] (by omega) (by simp) g1 (by intro x hx;simp at hx;subst hx;exact⟨by omega,by omega,by omega⟩) (by simp)
 refine Fn.enter (n:=77) Try.func6 rfl rfl rfl rfl rfl (by decide) fun g aY aW=>?_;(try refine nz ?_)
 (refine zq ?_;refine iw ?_;refine IH ?_;refine aa.LG rfl rfl rfl rfl rfl rfl rfl rfl rfl rfl rfl rfl rfl rfl ?_;refine IL ?_;refine aa.D7 rfl rfl ?_;refine nz ?_;(with_reducible apply aa.dZ (hf:=h1));(with_reducible assumption);(iterate 3 exact rfl);(repeat (first|exact trivial|refine⟨rfl,?_⟩));(repeat (first|exact .nil|(refine .cons ?_ ?_;(first|exact .eq rfl rfl|exact .nil _|exact .any _))));(intro x_;exact rfl);exact rfl;(repeat (first|exact trivial|refine⟨rfl,?_⟩|refine⟨aI,?_⟩));(intro x_;(repeat (first|exact trivial|refine⟨rfl,?_⟩|refine⟨aI,?_⟩)));(intro x_;exact rfl);exact rfl;(intro x_ jQ);refine DV ?_;refine AW.fk 3 ?_)
 obtain⟨k,vals,core,P⟩:=x_
 have hs:=jQ
 simp only at hs ⊢
 have hk:k=1:=(hs.iff (by omega) (by simp)).2 ⟨[true,true],rfl,by decide,by decide⟩
 subst hk
 obtain⟨q1,q2⟩:=hs.EG rfl
 have hv:=Ew vals q1 q2
 subst hv
 refine Stop.go ?_
 (refine fV ?_;refine we ?_;refine nz ?_;refine IH ?_;refine aa.Cs rfl rfl ?_;refine nz ?_;refine aa.Mb rfl rfl rfl rfl rfl rfl rfl rfl rfl rfl rfl rfl rfl rfl rfl rfl rfl ?_;refine IL ?_;refine oQ ?_;refine aa.D7 rfl rfl ?_;refine nz ?_;refine aa.D7 rfl rfl ?_;refine nz ?_;(with_reducible apply aa.dZ (hf:=h2));(with_reducible assumption);(iterate 3 exact rfl);(repeat (first|exact trivial|refine⟨rfl,?_⟩));(repeat (first|exact .nil|(refine .cons ?_ ?_;(first|exact .eq rfl rfl|exact .nil _|exact .any _))));(intro x_;exact rfl);exact rfl;(repeat (first|exact trivial|refine⟨rfl,?_⟩|refine⟨aI,?_⟩));(intro x_;(repeat (first|exact trivial|refine⟨rfl,?_⟩|refine⟨aI,?_⟩)));(intro x_;exact rfl);exact rfl;(intro x_ jQ);refine DV ?_;refine zo ?_;refine AW.fk 5 ?_)
 obtain⟨k2,vals2,core2,P2⟩:=x_
 have hs2:=jQ
 simp only at hs2 ⊢
 refine Stop.go ?_
 have hk2:k2=2:=(hs2.one (by omega)).resolve_left fun e=>by
  obtain⟨q1,q2⟩:=hs2.EG e
  exact Ch vals2 q1 q2
 subst hk2
 have dO:core2.length≤1∧0<P2.length:=by
  obtain⟨t,t1,_,t2,t3⟩:=hs2
  rcases t1.res with ⟨e,_⟩|⟨_,_,Q,e1,e2,e3,_⟩|⟨e,_⟩
  ·cases e
  ·have t2:core2=t.core:=t2
   have t3:P2=t.proof:=t3
   refine⟨?_,by rw[t3,e1];simp⟩
   rw[t2]
   match t.core,e2,e3 with
   |[],_,_=>simp
   |[a],_,_=>simp
   |a::b::r,e2,e3=>
    exfalso
    have ha:=e2 a (by simp)
    have hb:=e2 b (by simp)
    simp at ha hb
    subst ha
    subst hb
    simp at e3
  ·cases e
 obtain⟨c1,c2⟩:=dO
 have cZ:=hs2.Pc (by omega) (G:=Gb) f2 (by simp)
 have hr:=xh (2:Nat) Gb [] (jL P2) cZ
 have K8:AA 2 Gb [] (jL P2)=false:=by
  cases h:AA 2 Gb [] (jL P2) with
  |false=>rfl
  |true=>exact(xi cZ h (v:=[true,true]) rfl (by decide)).elim
 unfold AA at K8
 rw[K8] at hr
 rw[show steps (jL P2)=PV.slice 3 (P2.map jY) from by rw[zh]] at hr
 have hi:=xN (2:Nat) IC [1] ⟨by omega,fun c hc=>⟨(g2 c hc).1,by have:=(g2 c hc).2;omega⟩,by simp⟩ (by simp) L8
 rw[show db (2:Nat) IC [1]=true by decide+kernel] at hi
 have hP:¬((P2.length:Nat):Int)=0:=by omega
 (refine mc ?_;refine zn ?_;refine aa.neq rfl rfl rfl rfl rfl ?_;refine zm ?_;refine Fi ?_;refine hO ?_;refine mc ?_;refine qP ?_;refine iO ?_;refine aa.rY rfl rfl rfl rfl rfl rfl rfl rfl (by omega) ?_;refine nz ?_;refine zl ?_;refine zr ?_;refine wg ?_;refine iO ?_;refine aa.rY rfl rfl rfl rfl rfl rfl rfl rfl (by omega) ?_;refine nz ?_;refine zl ?_;refine zr ?_;refine wg ?_;refine iO ?_;refine aa.eql rfl rfl rfl rfl rfl ?_;refine wg ?_;refine iO ?_;refine zn ?_;refine zl ?_;refine aa.leq rfl rfl rfl rfl rfl ?_;refine wg ?_;refine zt ?_;refine oy ?_;refine od ?_;refine zA (hr) ?_;refine zt ?_;refine aa.not rfl rfl rfl ?_;refine zT ?_;refine zm ?_;refine zl ?_;refine oy ?_;refine zl ?_;refine oQ ?_;refine zl ?_;refine zA (hi) ?_;refine aa.cY rfl rfl rfl rfl rfl rfl ?_;refine e_ ?_)
 (apply az;(exact bD.one (.tmp rfl rfl));(refine Le.aM ?_;(first|rfl)))
end Go.Ab
/- The laws through the layers:learned clauses are redundant. -/
namespace Go.Ab
open Go Go.Proofs
open Nat (reduceAdd reduceSub)
set_option maxRecDepth 20000
set_option maxHeartbeats 8000000
theorem rX.uniq {n:Nat} {F G:List (List Int)} {A L M:List Int} (h1:rX n F A L) (h2:rX n G A M) (jC:∀x∈A,Lit n x) (hs:∀σ,fJ σ F↔fJ σ G):s9 n L=s9 n M:=by
 have key:∀v:Nat,1≤v→v≤n→km L v=km M v:=by
  intro v
  induction v using Nat.strongRecOn with
  |ind v ih=>
   intro q1 q2
   have e1:=fun h=>h1.min (km M) ((hs _).2 h2.sat) (fun x hx=>(mq h2.trl h2.full (jC x hx)).2 (h2.asm x hx)) v q1 q2 (fun u p1 p2=>(ih u p2 p1 (by omega)).symm) h
   have e2:=fun h=>h2.min (km L) ((hs _).1 h1.sat) (fun x hx=>(mq h1.trl h1.full (jC x hx)).2 (h1.asm x hx)) v q1 q2 (fun u p1 p2=>ih u p2 p1 (by omega)) h
   cases ha:km L v with
   |true=>rw[e1 ha]
   |false=>
    cases hb:km M v with
    |false=>rfl
    |true=>rw[e2 hb] at ha;cases ha
 unfold s9
 apply List.map_congr_left
 intro i hi
 exact key (i+1) (by omega) (by have:=List.mem_range.1 hi;omega)
theorem bJ.same {n:Nat} {F G:List (List Int)} {A:List Int} {q r:Int×List Bool×List Int×List (List Int)} (hq:bJ n F A q) (hr:bJ n G A r) (hn:n≤8) (hA:∀x∈A,Lit n x) (hs:∀σ,fJ σ F↔fJ σ G):q.1=r.1∧(q.1=1→q.2.1=r.2.1):=by
 have Mm:q.1=1↔r.1=1:=by
  rw[hq.iff hn hA,hr.iff hn hA]
  constructor
  ·rintro⟨v,p1,p2,p3⟩
   exact⟨v,p1,(gZ hr.xg).1 ((hs _).1 ((gZ hq.xg).2 p2)),p3⟩
  ·rintro⟨v,p1,p2,p3⟩
   exact⟨v,p1,(gZ hq.xg).1 ((hs _).2 ((gZ hr.xg).2 p2)),p3⟩
 have h1:=hq.one hn
 have h2:=hr.one hn
 refine⟨by omega,fun h=>?_⟩
 obtain⟨L,l1,l2,_⟩:=hq.sat h
 obtain⟨M,m1,m2,_⟩:=hr.sat (Mm.1 h)
 rw[l2,m2]
 exact l1.uniq m1 hA hs
attribute [local irreducible] AW aa bM a8 AR bm a_ bs bT canon gO ed iR jS cL ay cN db bX cm gn
theorem Cq (a:List Bool) (ha:a.length≤1000000):Fn Try.prog 12 [.pv (AP a),.pv (AP a)] (aM true):=by
 refine Fn.enter (n:=26) Try.func12 rfl rfl rfl rfl rfl (by decide) fun g aY aW=>?_;(try refine nz ?_)
 refine AW.d_ 0 rfl fun hlen=>?_
 (refine Hr ?_;refine hO ?_;refine iZ ?_;refine pY ?_)
 (refine nz ?_;apply AW.ck [0,1] [] (fun i:Nat=>([(5,aw i)]:List (Nat×AV))) (fun i:Nat=>([]:List (Nat×Option Ob))) (fun i:Nat=>i≤a.length) (fun i:Nat=>a.length - i) (0);(conv=>lhs;simp only[Nf.jJ,Nf.all,Nat.reduceBEq,reduceAdd,reduceSub]);(all_goals skip))
 ·exact Nat.zero_le _
 ·exact aN rfl (by(refine⟨.eq rfl rfl,?_⟩;(iterate 2 refine⟨.eq rfl rfl,?_⟩);exact trivial)) (by(exact trivial)) rfl
 rintro i hi
 by_cases aP:i<a.length
 ·cases hc:a[i] with
  |true=>
   (refine Hm ?_;refine Q5 ?_;refine zo ?_;(with_reducible apply AW.bn);exact rfl;exact rfl;kernel_rfl;(with_reducible assumption);(iterate 2 refine zm ?_);(focus ((with_reducible apply aa.ak);(iterate 7 exact rfl);rotate_left;omega));refine zr ?_;(iterate 2 refine zm ?_);(focus ((with_reducible apply aa.ak);(iterate 7 exact rfl);rotate_left;omega));refine zr ?_;refine aa.KA rfl rfl rfl rfl rfl rfl ?_;refine zd ?_;(focus ((with_reducible apply AW.lf);exact rfl;exact rfl;all_goals intro lC));refine fV ?_;refine lP ?_;(all_goals skip);rotate_left;refine lN ?_;refine nz ?_;refine oA ?_;(all_goals skip);rotate_left)
   all_goals first|exact absurd rfl lC|exact⟨i+1,by omega,by omega,aN rfl (by(refine⟨.eq rfl rfl,?_⟩;exact q8)) (by(exact trivial)) rfl⟩
  |false=>
   (refine Hm ?_;refine Q5 ?_;refine zo ?_;(with_reducible apply AW.bn);exact rfl;exact rfl;kernel_rfl;(with_reducible assumption);(iterate 2 refine zm ?_);(focus ((with_reducible apply aa.ak);(iterate 7 exact rfl);rotate_left;omega));refine zr ?_;(iterate 2 refine zm ?_);(focus ((with_reducible apply aa.ak);(iterate 7 exact rfl);rotate_left;omega));refine zr ?_;refine aa.KA rfl rfl rfl rfl rfl rfl ?_;refine zd ?_;(focus ((with_reducible apply AW.lf);exact rfl;exact rfl;all_goals intro lC));refine fV ?_;refine lP ?_;(all_goals skip);rotate_left;refine lN ?_;refine nz ?_;refine oA ?_;(all_goals skip);rotate_left)
   all_goals first|exact absurd rfl lC|exact⟨i+1,by omega,by omega,aN rfl (by(refine⟨.eq rfl rfl,?_⟩;exact q8)) (by(exact trivial)) rfl⟩
 ·(refine E4 ?_;refine e_ ?_)
  (apply az;(exact bD.one (.tmp rfl rfl));(refine Le.aM ?_;(rfl)))
end Go.Ab
