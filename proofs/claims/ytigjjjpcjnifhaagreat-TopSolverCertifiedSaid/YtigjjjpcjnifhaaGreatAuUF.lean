/- The solver: the search, walked. -/
import Derived.Test.YtigjjjpcjnifhaaGreatAuB8
import Derived.Test.YtigjjjpcjnifhaaGreatAbZ
import Derived.Test.YtigjjjpcjnifhaaGreatAbL3
import Derived.Test.YtigjjjpcjnifhaaGreatAuS5
import Derived.Test.YtigjjjpcjnifhaaGreatAbL4
import Derived.Test.YtigjjjpcjnifhaaGreatAbL2
import Derived.Test.YtigjjjpcjnifhaaGreatAuC3
import Derived.Test.YtigjjjpcjnifhaaGreatAuA2
import Derived.Test.YtigjjjpcjnifhaaGreatAuS7
set_option linter.unusedSimpArgs false
set_option linter.unusedVariables false
namespace Go.Ab
open Go Go.Proofs
open Nat (reduceAdd reduceSub)
set_option maxRecDepth 20000
set_option maxHeartbeats 8000000
attribute [local irreducible] bO AW aa bE aX AR bd aW bm bD fy fI aq
theorem vm (n:Nat) (s:SR) (t:Nat) (ht:t<s.marks.length) (hn:n≤20000) (hv:s.value.length=n+1) (trl:ee n (s.ll 0)) (mk:∀m∈s.marks,0≤m∧m.toNat≤(s.ll 0).length) (JN:0≤s.low∧s.low≤1000000):jq Tryz.prog 58 11 (cu s) [.ptr 0 0,al t] (cu (bC s t)) (.tup []):=by
 have hl:=trl.len
 exact s8 s (yj s t) t (CR s t ht (mk _ (List.getElem_mem ht)) (by omega) JN fun x hx=>by
  obtain⟨_,_,_⟩:=trl.rng x hx
  refine⟨by omega,?_⟩
  rw[hv]
  unfold aG;omega)
theorem qb (n:Nat) (s:SR) (hs:br n s) (JN:qf n s):∃s':SR,jq Tryz.prog 58 11 (cu s) [.ptr 0 0,al 0] (cu s') (.tup [])∧s'.proof=s.proof∧s'.model=s.model∧s'.core=s.core:=by
 by_cases h:0<s.marks.length
 ·refine⟨bC s 0,?_,rfl,rfl,rfl⟩
  obtain⟨k,q1,q2,q3,_⟩:=JN
  have hn:=hs.hn
  exact vm n s 0 h hs.hn (by rw[hs.val,eC]) hs.trl (fun m hm=>by have:=hs.mrk m hm;have:=hs.hd;omega) (by omega)
 ·refine⟨x8 s,s8 s s 0 (py s 0 (by omega)),rfl,rfl,rfl⟩
theorem CO (n:Nat) (F:List (List Int)) (k:Nat) (s:SR) (hS:gg n F k s) (hk:k≤60000) (A:List Int) (hA:∀x∈A,Lit n x) (hAl:A.length≤50000) (fuel:Nat) (hf0:0<fuel) (hf1:fuel≤20000):n8 Tryz.prog 28 11 (cu s) [.ptr 0 0,.pv (ec A),al (fuel:Nat)] (fun q:SR×Int=>eZ n F A fuel q.1 q.2) (fun q=>cu q.1) (fun q=>al q.2):=by
 have hJ0:=hS.sj (A:=A) hf0
 obtain⟨s1,hs1⟩:∃s1,s1={s with core:=[],model:=[]}:=⟨_,rfl⟩
 have R2:cu {s with core:=[],model:=[]}=cu s1:=by rw[hs1]
 rw[← hs1] at hJ0
 have dF:=hJ0.si.inv
 have nb:=dF.hn
 have cW:=vq n s1 A nb (by rw[dF.val,eC]) hA
 have Nt:s1.marks=[]:=by rw[hs1];exact hS.marks
 have JK:=s8 s1 s1 0 (py s1 0 (by rw[Nt];simp))
 rw[Cw dF] at JK
 simp only[cu,cv] at cW JK ⊢
 refine n8.enter (n:=151) Tryz.func28 rfl rfl rfl rfl rfl (by decide) rfl (fun _=>rfl) fun g aU aT=>?_;refine nk ?_
 refine AW.cF 1 rfl fun hlen=>?_
 (refine zq ?_;refine eO ?_;refine AW.scope ?_;refine dZ ?_;refine yd ?_;refine aa.ah 96 9 14 rfl rfl rfl rfl ?_;(with_reducible apply aa.bG);(iterate 5 exact rfl);(first|exact rfl|assumption|exact dy _|exact dz _ _|exact dO _|exact dP _ _);(iterate 3 exact rfl);(with_reducible assumption);refine Dj ?_;refine aa.ah 96 8 13 rfl rfl rfl rfl ?_;(with_reducible apply aa.bG);(iterate 5 exact rfl);(first|exact rfl|assumption|exact dy _|exact dz _ _|exact dO _|exact dP _ _);(iterate 3 exact rfl);(with_reducible assumption);refine gM ?_;refine zo ?_;refine AW.gf 2 ?_)
 refine Stop.go ?_
 refine AW.aO (δ':=⟨151,[(0,.ptr 0 0),(1,.pv (ec A)),(2,al (fuel:Nat)),(1000,.agg [.ptr 0 0])],cu s1,11⟩) ?_ ?_
 ·subst hs1
  exact aO rfl (by(refine⟨.eq rfl rfl,?_⟩;refine⟨.bF (by rfl),?_⟩;refine⟨.ai (by rfl),?_⟩;refine⟨.eq rfl rfl,?_⟩;exact trivial)) (by(refine⟨.box _ rfl ?_,?_⟩;(iterate 3 refine⟨.ak (by rfl) rfl,?_⟩);refine⟨.ai (by rfl),?_⟩;refine⟨.ak (by rfl) rfl,?_⟩;refine⟨.ai (by rfl),?_⟩;(iterate 2 refine⟨.ak (by rfl) rfl,?_⟩);(iterate 3 refine⟨.ai (by rfl),?_⟩);refine⟨.ak (by rfl) rfl,?_⟩;refine⟨.ai (by rfl),?_⟩;(iterate 2 refine⟨.BP (by first|rfl),?_⟩);exact trivial;(iterate 3 refine⟨.row rfl,?_⟩);refine⟨.pool rfl (by rfl),?_⟩;(iterate 2 refine⟨.row rfl,?_⟩);refine⟨.pool rfl (by rfl),?_⟩;refine⟨.row rfl,?_⟩;refine⟨.pool rfl (by rfl),?_⟩;refine⟨.row rfl,?_⟩;exact trivial)) rfl
 simp only[cu,cv]
 have hf0':¬(fuel:Int)≤0:=by omega
 (refine rV ?_;refine zm ?_;refine zX (cW) ?_;refine eV ?_;refine aa.not rfl rfl rfl ?_;refine l9 ?_;refine aa.leq rfl rfl rfl rfl rfl ?_;refine tB ?_;refine lP ?_;refine oM ?_;refine zX (JK) ?_;refine eV ?_;refine zd ?_;refine jw ?_;refine AW.label ?_;refine b_ ?_;refine zo ?_;refine AW.block ?_)
 (refine Q0 ?_;apply AW.bM [0,1,2,1000] [1,2,3,5,6,8,10] (fun q:SR×Nat=>([(7,al (q.2:Nat))]:List (Nat×AV))) (fun q:SR×Nat=>([(0,some (.box [.own 1 3 1 ((q.1.value).map encI),.own 2 3 1 ((q.1.level).map encI),.own 3 3 1 ((q.1.reason).map encI),.pv (.lit (q.1.hl 0)),.own 5 3 1 ((q.1.marks).map encI),al (q.1.low),.own 6 25 1 (bO q.1.nc q.1.hc),.own 8 25 1 (bO q.1.nw q.1.hw),al (q.1.head),al (q.1.added),aF (q.1.broken),.own 10 44 3 ((q.1.proof).map j6),al 0,.pv (ec (q.1.model)),.pv (ec (q.1.core))])),(4,some (.pool 3 (eJ q.1.hl q.1.ll))),(7,some (.pool 3 (eJ q.1.hc q.1.cl))),(9,some (.pool 3 (eJ q.1.hw q.1.wl)))]:List (Nat×Option Ob))) (fun q:SR×Nat=>SJ n F A k fuel q.1 q.2) (fun q:SR×Nat=>(fuel - q.2)*(A.length+n+2)+(A.length - q.1.marks.length)+(n - (q.1.ll 0).length)) ((s1,0));(conv=>lhs;simp only[Nf.gQ,Nf.all,Nat.reduceBEq,reduceAdd,reduceSub]);(all_goals skip))
 ·exact hJ0
 ·exact aO rfl (by(refine⟨.ai (by rfl),?_⟩;refine⟨.eq rfl rfl,?_⟩;refine⟨.bF (by rfl),?_⟩;refine⟨.ai (by rfl),?_⟩;refine⟨.eq rfl rfl,?_⟩;exact trivial)) (by(refine⟨.box _ rfl ?_,?_⟩;(iterate 3 refine⟨.ak (by rfl) rfl,?_⟩);refine⟨.ai (by rfl),?_⟩;refine⟨.ak (by rfl) rfl,?_⟩;refine⟨.ai (by rfl),?_⟩;(iterate 2 refine⟨.ak (by rfl) rfl,?_⟩);(iterate 3 refine⟨.ai (by rfl),?_⟩);refine⟨.ak (by rfl) rfl,?_⟩;refine⟨.ai (by rfl),?_⟩;(iterate 2 refine⟨.bF (by rfl),?_⟩);exact trivial;(iterate 3 refine⟨.pool rfl (by rfl),?_⟩);(iterate 7 refine⟨.row rfl,?_⟩);exact trivial)) rfl
 rintro⟨σ,met⟩ hσ
 simp only at hσ
 have QT:=hσ.si.inv
 have Tx:=hσ.mf
 obtain⟨BK,hp3⟩:=hσ.plen
 have sK:=hσ.lv.len QT
 have hP:=sZ n σ QT (by omega)
 have SC:¬(20000:Int)≤(σ.proof.length:Int):=by omega
 simp only[cu,cv] at hP
 (refine AW.block ?_;refine zo ?_;refine dZ ?_;refine Q9 ?_;refine aa.ah 96 6 11 rfl rfl rfl rfl ?_;refine zb ?_;refine aa.cy rfl rfl rfl rfl ?_;refine xT ?_;refine lP ?_;refine oM ?_;(with_reducible apply aa.eH (hf:=hP));(with_reducible assumption);(iterate 3 exact rfl);(repeat (first|exact trivial|refine⟨rfl,?_⟩));(repeat (first|exact .nil|(refine .cons ?_ ?_;(first|exact .eq rfl rfl|exact .nil _|exact .any _))));(intro x_;exact rfl);exact rfl;(repeat (first|exact trivial|refine⟨rfl,?_⟩|refine⟨aN,?_⟩));(intro x_;(repeat (first|exact trivial|refine⟨rfl,?_⟩|refine⟨aN,?_⟩)));(intro x_;exact rfl);exact rfl;(intro x_ kH);refine eV ?_;refine kn ?_;refine AW.gf 14 ?_)
 obtain⟨τ,r⟩:=x_
 have hτ:=hσ.prop kH
 have gu:=hτ.si.inv
 have Ax:=kH.ext.marks
 have Aa:(σ.ll 0).length≤(τ.ll 0).length:=by obtain⟨ys,e⟩:=kH.ext.ll;rw[e,List.length_append];omega
 have wM:=kH.res
 have eN:=gu.trl.len
 have tL:=gu.nc
 have v8:τ.value.length=n+1:=by rw[gu.val,eC]
 obtain⟨OK,_⟩:=hτ.plen
 have N4:=hτ.lv.len gu
 simp only at hτ gu Ax Aa wM eN tL v8 OK N4 ⊢
 refine Stop.go ?_
 by_cases KC:τ.broken=true∨(r≠ -1∧τ.marks=[])
 ·have My:mZ (F++τ.proof) Df:=by
   rcases KC with q|⟨q1,q2⟩
   ·exact hτ.si.sem.bad q
   ·rcases wM with ⟨q,_⟩|⟨j,hj,_,hf⟩
    ·exact absurd q q1
    ·exact hτ.si.sem.Ka gu q2 hj hf
  have uc:=BD {τ with broken:=true} [] (by simp) (fun x hx=>by simp at hx) (by show τ.proof.length≤_;omega)
  have fP:=hτ.N_ (t:={τ with broken:=true,core:=[],proof:=τ.proof++ [([]:List Int).map fun y=> -y]}) hf1 My rfl rfl hτ.model
  simp only[cu,cv] at uc
  cases hb1:τ.broken with
  |true=>
   (refine D2 ?_;refine dX ?_;(iterate 3 refine aa.bY rfl rfl rfl rfl rfl rfl rfl ?_);(iterate 7 refine aa.yu rfl rfl rfl rfl rfl rfl ?_);refine AD ?_;refine eO ?_;refine AW.ix rfl rfl ?_;refine D2 ?_;(with_reducible apply aa.bG);(iterate 5 exact rfl);(first|exact rfl|assumption|exact dy _|exact dz _ _|exact dO _|exact dP _ _);(iterate 3 exact rfl);(with_reducible assumption);refine MO ?_)
   (apply cg ((({τ with broken:=true,core:=[],proof:=τ.proof++ [([]:List Int).map fun y=> -y]},2):SR×Int)) (fP);((exact bA.one (.tmp rfl rfl)));((exact ui));((exact Q2));exact rfl)
  |false=>
   rw[hb1] at KC
   obtain⟨hr1,hm0⟩:=KC.resolve_left (by simp)
   have hr1':decide (r≠ -1)=true:=by simpa using hr1
   have hm0':(τ.marks.length:Int)=0:=by rw[hm0];rfl
   (refine D2 ?_;refine zb ?_;refine l9 ?_;refine aa.neq rfl rfl rfl rfl rfl ?_;refine zl ?_;refine zm ?_;refine I9 ?_;refine zt ?_;refine aa.ah 94 4 4 rfl rfl rfl rfl ?_;refine zt ?_;refine zb ?_;refine zt ?_;refine aa.cy rfl rfl rfl rfl ?_;refine zt ?_;refine aa.eql rfl rfl rfl rfl rfl ?_;refine zl ?_;refine zT ?_;refine aa.dm rfl rfl rfl rfl rfl rfl ?_;refine eO ?_;refine zc ?_;refine D2 ?_;(with_reducible apply aa.bG);(iterate 5 exact rfl);(first|exact rfl|assumption|exact dy _|exact dz _ _|exact dO _|exact dP _ _);(iterate 3 exact rfl);(with_reducible assumption);refine MO ?_)
   (apply cg ((({τ with broken:=true,core:=[],proof:=τ.proof++ [([]:List Int).map fun y=> -y]},2):SR×Int)) (fP);((exact bA.one (.tmp rfl rfl)));((exact ui));((exact Q2));exact rfl)
 ·have hb1:τ.broken=false:=by
   cases h:τ.broken with
   |true=>exact absurd (.inl h) KC
   |false=>rfl
  rcases wM with ⟨rfl,Es⟩|⟨j,hj,rfl,hf⟩
  ·by_cases aM:τ.marks.length<A.length
   ·have ri:((τ.marks.length:Nat):Int).toNat<A.length:=by rw[Int.toNat_natCast];exact aM
    obtain⟨x,hx⟩:∃x,x=A[τ.marks.length]:=⟨_,rfl⟩
    have hx':A[τ.marks.length]=x:=hx.symm
    have hxA:x∈A:=by rw[hx];exact List.getElem_mem aM
    have q9:=hA x hxA
    by_cases hx1:x∈τ.ll 0
    ·have mm:=fe (s:=τ) gu.val gu.trl nb q9 (r:=1) (if_pos hx1).symm
     have hd0:=xH τ (by omega) (by omega)
     have lF:=hτ.Cb Es aM (by rw[hx'];exact hx1)
     simp only[cu,cv] at mm hd0
     (refine MN ?_;refine zc ?_;refine ez ?_;refine rI ?_;refine tJ ?_;(focus ((with_reducible apply aa.aj);(iterate 7 exact rfl);rotate_left;omega));refine zr ?_;refine eO ?_;(with_reducible apply AW.pg 25);(rw[← hx]);refine HE ?_;refine AW.e8 rfl rfl ?_;refine dZ ?_;refine AY ?_;refine AW.ix rfl rfl ?_;refine lq ?_;refine rI ?_;refine zX (hd0) ?_;refine eV ?_;refine aa.nil ?_;(iterate 3 refine cb ?_);refine b_ ?_)
     exact⟨(cE τ,met),lF,by show(fuel - met)*(A.length+n+2)+(A.length - (τ.marks++ [_]).length)+(n - (τ.ll 0).length)<(fuel - met)*(A.length+n+2)+(A.length - σ.marks.length)+(n - (σ.ll 0).length);rw[List.length_append,List.length_singleton,← Ax];omega,aO rfl (by(refine⟨.ai (by rfl),?_⟩;refine⟨.eq rfl rfl,?_⟩;refine⟨.bF (by rfl),?_⟩;refine⟨.ai (by rfl),?_⟩;refine⟨.eq rfl rfl,?_⟩;exact trivial)) (by(refine⟨.box _ rfl ?_,?_⟩;(iterate 3 refine⟨.ak (by rfl) rfl,?_⟩);refine⟨.ai (by rfl),?_⟩;refine⟨.ak (by rfl) rfl,?_⟩;refine⟨.ai (by rfl),?_⟩;(iterate 2 refine⟨.ak (by rfl) rfl,?_⟩);(iterate 3 refine⟨.ai (by rfl),?_⟩);refine⟨.ak (by rfl) rfl,?_⟩;refine⟨.ai (by rfl),?_⟩;(iterate 2 refine⟨.bF (by rfl),?_⟩);exact trivial;(iterate 3 refine⟨.pool rfl (by rfl),?_⟩);(iterate 7 refine⟨.row rfl,?_⟩);exact trivial)) rfl⟩
    ·by_cases hx2: -x∈τ.ll 0
     ·have mm:=fe (s:=τ) gu.val gu.trl nb q9 (r:= -1) (by rw[if_neg hx1,if_pos hx2])
      have q_:=Ed n τ gu x hx2
      obtain⟨s4,hu4,f1,f2,f3⟩:=qb n τ gu hτ.si.low
      simp only[cu,cv] at mm q_ hu4
      (refine MN ?_;refine zc ?_;refine ez ?_;refine rI ?_;refine tJ ?_;(focus ((with_reducible apply aa.aj);(iterate 7 exact rfl);rotate_left;omega));refine zr ?_;refine eO ?_;(with_reducible apply AW.pg 25);(rw[← hx]);refine HE ?_;refine AW.ix rfl rfl ?_;refine oM ?_;refine zm ?_;(with_reducible apply aa.eH (hf:=q_));(with_reducible assumption);(iterate 3 exact rfl);(repeat (first|exact trivial|refine⟨rfl,?_⟩));(repeat (first|exact .nil|(refine .cons ?_ ?_;(first|exact .eq rfl rfl|exact .nil _|exact .any _))));(intro x_;exact rfl);exact rfl;(repeat (first|exact trivial|refine⟨rfl,?_⟩|refine⟨aN,?_⟩));(intro x_;(repeat (first|exact trivial|refine⟨rfl,?_⟩|refine⟨aN,?_⟩)));(intro x_;exact rfl);exact rfl;(intro x_ kH);refine eV ?_;refine eO ?_;refine oM ?_;refine zX (hu4) ?_;refine eV ?_;refine zd ?_;refine AW.gf 30 ?_)
      refine Stop.go ?_
      have y3:=kH
      obtain⟨_,_,dq⟩:=y3.core hτ.si aM hxA hx2
      have Kn:x_.length≤100000:=by
       have:=eL (n:=2*n+2) (l:=x_.map aq) (by
        unfold List.Nodup
        rw[List.pairwise_map]
        exact(y3.core hτ.si aM hxA hx2).2.1.imp_of_mem fun {a b} ha hb mo e=>mo (cB (dq a ha) (dq b hb) (by rw[e]))) fun v hv=>by
        obtain⟨a,ha,rfl⟩:=List.mem_map.1 hv
        have:=cL (dq a ha)
        omega
       simp only[List.length_map] at this
       omega
      have uc:=BD s4 x_ Kn (fun y hy=>by obtain⟨_,_,_⟩:=dq y hy;omega) (by rw[f1];omega)
      have fP:=hτ.Ou (t:={s4 with core:=x_,proof:=s4.proof++ [x_.map fun y=> -y]}) hf1 y3 aM hxA hx2 (by show s4.proof++_=_;rw[f1]) rfl (by show s4.model=_;rw[f2];exact hτ.model)
      simp only[cu,cv] at uc
      (refine rV ?_;refine zm ?_;refine zX (uc) ?_;refine eV ?_;refine fL ?_;(iterate 3 refine ca ?_);refine uJ ?_;refine bZ ?_;refine iA ?_)
      (apply cg ((({s4 with core:=x_,proof:=s4.proof++ [x_.map fun y=> -y]},2):SR×Int)) (fP);((exact bA.one (.tmp rfl rfl)));((exact ui));((exact Q2));exact rfl)
     ·have mm:=fe (s:=τ) gu.val gu.trl nb q9 (r:=0) (by rw[if_neg hx1,if_neg hx2])
      obtain⟨g1,g2,g3⟩:=q9
      have hd1:=pS τ x g1 (by omega) (by omega) (by rw[gu.lvl,v8]) (by rw[gu.rsn,v8]) (by omega) (by omega)
      have lF:=fun h:Value=>hτ.Pn Es aM (by rw[hx'];exact hA x hxA) (by rw[hx'];exact hx1) (by rw[hx'];exact hx2) h
      rw[hx'] at lF
      have hlen:=(lF (.bool true)).si.inv.trl.len
      rw[dY,List.length_append,List.length_singleton] at hlen
      simp only[cu,cv] at mm hd1
      (refine MN ?_;refine zc ?_;refine ez ?_;refine rI ?_;refine tJ ?_;(focus ((with_reducible apply aa.aj);(iterate 7 exact rfl);rotate_left;omega));refine zr ?_;refine eO ?_;(with_reducible apply AW.pg 25);(rw[← hx]);refine HE ?_;refine AW.e8 rfl rfl ?_;refine dZ ?_;refine AY ?_;refine AW.e8 rfl rfl ?_;refine lq ?_;refine kc ?_;(with_reducible apply aa.eH (hf:=hd1));(with_reducible assumption);(iterate 3 exact rfl);(repeat (first|exact trivial|refine⟨rfl,?_⟩));(repeat (first|exact .nil|(refine .cons ?_ ?_;(first|exact .eq rfl rfl|exact .nil _|exact .any _))));(intro x_;exact rfl);exact rfl;(repeat (first|exact trivial|refine⟨rfl,?_⟩|refine⟨aN,?_⟩));(intro x_;(repeat (first|exact trivial|refine⟨rfl,?_⟩|refine⟨aN,?_⟩)));(intro x_;exact rfl);exact rfl;(intro x_ kH);refine eV ?_;refine aa.nil ?_;(iterate 3 refine cb ?_);refine b_ ?_)
      exact⟨(a_ (cE τ) x (-1) x_,met),lF x_,by show(fuel - met)*(A.length+n+2)+(A.length - (τ.marks++ [_]).length)+(n - ((a_ (cE τ) x (-1) x_).ll 0).length)<(fuel - met)*(A.length+n+2)+(A.length - σ.marks.length)+(n - (σ.ll 0).length);rw[dY,List.length_append,List.length_append,List.length_singleton,List.length_singleton,← Ax];have:(cE τ).ll 0=τ.ll 0:=rfl;rw[this];omega,aO rfl (by(refine⟨.ai (by rfl),?_⟩;refine⟨.eq rfl rfl,?_⟩;refine⟨.bF (by rfl),?_⟩;refine⟨.ai (by rfl),?_⟩;refine⟨.eq rfl rfl,?_⟩;exact trivial)) (by(refine⟨.box _ rfl ?_,?_⟩;(iterate 3 refine⟨.ak (by rfl) rfl,?_⟩);refine⟨.ai (by rfl),?_⟩;refine⟨.ak (by rfl) rfl,?_⟩;refine⟨.ai (by rfl),?_⟩;(iterate 2 refine⟨.ak (by rfl) rfl,?_⟩);(iterate 3 refine⟨.ai (by rfl),?_⟩);refine⟨.ak (by rfl) rfl,?_⟩;refine⟨.ai (by rfl),?_⟩;(iterate 2 refine⟨.bF (by rfl),?_⟩);exact trivial;(iterate 3 refine⟨.pool rfl (by rfl),?_⟩);(iterate 7 refine⟨.row rfl,?_⟩);exact trivial)) rfl⟩
   ·obtain⟨k0,q1,q2,q3,_⟩:=id hτ.si.low
    have uP:=Fy τ k0 q1 (by omega) (by omega)
    by_cases KO:eT τ.value k0=τ.value.length
    ·rw[if_pos KO] at uP
     have yU:=hτ.full q1 KO
     have hi2:br n {τ with low:=(eT τ.value k0:Int),model:=τ.value}:={hn:=gu.hn,trl:=gu.trl,val:=gu.val,lvl:=gu.lvl,rsn:=gu.rsn,hd:=gu.hd,mrk:=gu.mrk,lev:=gu.lev,cls:=gu.cls,fresh:=gu.fresh,nc:=gu.nc,nw:=gu.nw,wt:=gu.wt,wnd:=gu.wnd,wto:=gu.wto,two:=gu.two,srt:=gu.srt,rea:=gu.rea}
     have mq:qf n {τ with low:=(eT τ.value k0:Int),model:=τ.value}:=⟨n+1,by show(eT τ.value k0:Int)=_;rw[KO,v8],by omega,by omega,fun u h1 h2=>yU u h1 (by omega)⟩
     obtain⟨s4,hu4,f1,f2,f3⟩:=qb n _ hi2 mq
     have fP:=hτ.Pp (t:=s4) hf1 hb1 Es (by omega) yU f1 (by rw[f3];exact hτ.core) f2
     simp only[cu,cv] at uP hu4
     have Np:0<(τ.value.map encI).length:=by rw[List.length_map];omega
     (refine MN ?_;refine zk ?_;refine dZ ?_;refine rI ?_;refine zX (uP) ?_;refine eV ?_;refine kh ?_;refine ez ?_;refine aa.eql rfl rfl rfl rfl rfl ?_;refine wi ?_;refine dZ ?_;refine yd ?_;refine aa.ah 96 0 0 rfl rfl rfl rfl ?_;refine pR ?_;(with_reducible apply aa.inline (hf:=Tryz.func66));(with_reducible assumption);(iterate 10 exact rfl);intro g_ aU aT;refine Q0 ?_;refine jw ?_;refine p9 ?_;(with_reducible apply aa.AF);(iterate 6 exact rfl);(with_reducible assumption);(try (conv=>rhs;simp only[Nf.cP,Nf.all,Nat.reduceBEq,reduceAdd,reduceSub]));refine qJ ?_;refine zq ?_;refine aa.JO rfl rfl rfl rfl rfl ?_;refine Q0 ?_;refine aa.bz rfl rfl rfl ?_;(with_reducible apply aa.bh);exact rfl;(first|exact .pv rfl|exact .own rfl|exact .nil rfl);(iterate 9 exact rfl);(first|omega|(simp only[List.length_map,List.length_append,List.length_cons,List.length_nil,List.length_drop,List.length_take,List.length_set,List.length_range,aL];omega));refine Q0 ?_;refine nN ?_;refine sQ rfl rfl ?_;refine Dj ?_;refine aa.ah 96 8 13 rfl rfl rfl rfl ?_;(with_reducible apply aa.bG);(iterate 5 exact rfl);(first|exact rfl|assumption|exact dy _|exact dz _ _|exact dO _|exact dP _ _);(iterate 3 exact rfl);(with_reducible assumption);refine gM ?_;refine AW.gf 11 ?_)
     refine Stop.go ?_
     refine AW.IW 11 rfl ?_
     (try (conv=>rhs;simp only[Nf.cP,Nf.all,Nat.reduceBEq,reduceAdd,reduceSub]))
     (refine rV ?_;refine zX (hu4) ?_;refine eV ?_;refine mN ?_;refine iM ?_;(iterate 2 refine ca ?_);refine uJ ?_;refine bZ ?_;refine iA ?_)
     (apply cg (((s4,1):SR×Int)) (fP);((exact bA.one (.tmp rfl rfl)));((exact ui));((exact Q2));exact rfl)
    ·rw[if_neg KO] at uP
     obtain⟨v,e,g1,g2,g3,g4,g5,hJ2⟩:=hτ.free q1 KO
     rw[e] at uP
     have hv0:¬(v:Int)=0:=by omega
     have hd1:=pS {τ with low:=(v:Int)} (-(v:Int)) (by omega) (by omega) (by show _<(τ.value.length:Int)∧_<(τ.value.length:Int);omega) (by show τ.level.length=τ.value.length;rw[gu.lvl,v8]) (by show τ.reason.length=τ.value.length;rw[gu.rsn,v8]) (by show(τ.ll 0).length≤_;omega) (by show τ.marks.length≤_;omega)
     have lF:=fun h:Value=>hJ2.Px Es (by show A.length≤τ.marks.length;omega) g1 g2 g3 g4 g5 h
     have hlen:=(lF (.bool true)).si.inv.trl.len
     rw[dY,List.length_append,List.length_singleton] at hlen
     have hlen:(τ.ll 0).length+1≤n:=hlen
     simp only[cu,cv] at uP hd1
     (refine MN ?_;refine zk ?_;refine dZ ?_;refine rI ?_;refine zX (uP) ?_;refine eV ?_;refine kh ?_;refine ez ?_;refine lh ?_;refine lP ?_;refine lq ?_;refine kc ?_;refine aa.neg rfl rfl rfl (by omega) ?_;(with_reducible apply aa.eH (hf:=hd1));(with_reducible assumption);(iterate 3 exact rfl);(repeat (first|exact trivial|refine⟨rfl,?_⟩));(repeat (first|exact .nil|(refine .cons ?_ ?_;(first|exact .eq rfl rfl|exact .nil _|exact .any _))));(intro x_;exact rfl);exact rfl;(repeat (first|exact trivial|refine⟨rfl,?_⟩|refine⟨aN,?_⟩));(intro x_;(repeat (first|exact trivial|refine⟨rfl,?_⟩|refine⟨aN,?_⟩)));(intro x_;exact rfl);exact rfl;(intro x_ kH);refine eV ?_;refine aa.nil ?_;(iterate 2 refine cb ?_);refine b_ ?_)
     exact⟨(a_ (cE {τ with low:=(v:Int)}) (-(v:Int)) (-1) x_,met),lF x_,by show(fuel - met)*(A.length+n+2)+(A.length - (τ.marks++ [_]).length)+(n - ((a_ (cE {τ with low:=(v:Int)}) (-(v:Int)) (-1) x_).ll 0).length)<(fuel - met)*(A.length+n+2)+(A.length - σ.marks.length)+(n - (σ.ll 0).length);rw[dY,List.length_append,List.length_append,List.length_singleton,List.length_singleton,← Ax];have:(cE {τ with low:=(v:Int)}).ll 0=τ.ll 0:=rfl;rw[this];omega,aO rfl (by(refine⟨.ai (by rfl),?_⟩;refine⟨.eq rfl rfl,?_⟩;refine⟨.bF (by rfl),?_⟩;refine⟨.ai (by rfl),?_⟩;refine⟨.eq rfl rfl,?_⟩;exact trivial)) (by(refine⟨.box _ rfl ?_,?_⟩;(iterate 3 refine⟨.ak (by rfl) rfl,?_⟩);refine⟨.ai (by rfl),?_⟩;refine⟨.ak (by rfl) rfl,?_⟩;refine⟨.ai (by rfl),?_⟩;(iterate 2 refine⟨.ak (by rfl) rfl,?_⟩);(iterate 3 refine⟨.ai (by rfl),?_⟩);refine⟨.ak (by rfl) rfl,?_⟩;refine⟨.ai (by rfl),?_⟩;(iterate 2 refine⟨.bF (by rfl),?_⟩);exact trivial;(iterate 3 refine⟨.pool rfl (by rfl),?_⟩);(iterate 7 refine⟨.row rfl,?_⟩);exact trivial)) rfl⟩
  ·have hm0:0<τ.marks.length:=by
    apply Nat.pos_of_ne_zero
    intro h
    exact KC (.inr ⟨by omega,List.eq_nil_of_length_eq_zero h⟩)
   have hm0':¬(τ.marks.length:Int)=0:=by omega
   have hr1':decide ((j:Int)≠ -1)=true:=by simp
   have tA:=wo n τ gu j hj hf hm0 (by omega)
   simp only[cu,cv] at tA
   (refine D2 ?_;refine dX ?_;refine pt ?_;refine zm ?_;refine pt ?_;refine aa.neq rfl rfl rfl rfl rfl ?_;refine pt ?_;refine jY ?_;refine aa.bc rfl rfl rfl ?_;refine zl ?_;refine aa.aI rfl rfl rfl ?_;refine zl ?_;refine aa.ah 96 0 0 rfl rfl rfl rfl ?_;refine zl ?_;refine aa.ah 94 4 4 rfl rfl rfl rfl ?_;refine zl ?_;refine zb ?_;refine zl ?_;refine aa.cy rfl rfl rfl rfl ?_;refine zl ?_;refine aa.eql rfl rfl rfl rfl rfl ?_;refine pt ?_;refine aa.bL rfl rfl rfl rfl rfl rfl ?_;refine aa.s_ rfl rfl (by assumption) rfl rfl rfl rfl ?_;refine eO ?_;refine zk ?_;refine ez ?_;refine aa.neq rfl rfl rfl rfl rfl ?_;refine eO ?_;refine AW.ix rfl rfl ?_;refine oM ?_;refine zm ?_;(with_reducible apply aa.eH (hf:=tA));(with_reducible assumption);(iterate 3 exact rfl);(repeat (first|exact trivial|refine⟨rfl,?_⟩));(repeat (first|exact .nil|(refine .cons ?_ ?_;(first|exact .eq rfl rfl|exact .nil _|exact .any _))));(intro x_;exact rfl);exact rfl;(repeat (first|exact trivial|refine⟨rfl,?_⟩|refine⟨aN,?_⟩));(intro x_;(repeat (first|exact trivial|refine⟨rfl,?_⟩|refine⟨aN,?_⟩)));(intro x_;exact rfl);exact rfl;(intro x_ kH);refine eV ?_;refine IC ?_;refine AW.gf 19 ?_)
   refine Stop.go ?_
   obtain⟨v,l,to⟩:=x_
   obtain⟨hv1,Mq⟩:=kH
   simp only at hv1 Mq ⊢
   obtain⟨II,ht,_⟩:=Mq.lvl gu hm0
   obtain⟨k0,q1,q2,q3,_⟩:=id hτ.si.low
   obtain⟨p0,rest0,ep,PS,_,_,pnd,pl2,_⟩:=Mq.back gu ⟨ht,‹_›⟩
   have yA:=Mq.lits gu
   obtain⟨u,hu⟩:∃u,u=bC ({τ with hc:=aC τ.hc τ.nc v,cl:=aC τ.cl τ.nc l}:SR) to.toNat:=⟨_,rfl⟩
   have HR:=vm n ({τ with hc:=aC τ.hc τ.nc v,cl:=aC τ.cl τ.nc l}:SR) to.toNat ht nb v8 gu.trl (fun m hm=>by have:=gu.mrk m hm;have:=gu.hd;show 0≤m∧m.toNat≤(τ.ll 0).length;omega) (by show 0≤τ.low∧τ.low≤1000000;omega)
   rw[← hu,Int.toNat_of_nonneg II] at HR
   have Gy:u.cl u.nc=l:=by rw[hu];exact ab _ _ _
   have Pm:u.hc u.nc=v:=by rw[hu];exact ab _ _ _
   have Ot:u.nc=τ.nc:=by rw[hu];rfl
   have Nh:(u.ll 0).length≤1000000:=by
    have e:u.ll 0=(τ.ll 0).take (τ.marks[to.toNat]).toNat:=by rw[hu];exact(gS gu ht).1
    rw[e,List.length_take];omega
   have SB:u.marks.length≤1000000:=by
    have e:u.marks=τ.marks.take to.toNat:=by rw[hu];rfl
    rw[e,List.length_take];omega
   have Om:l.length≤1000000:=by
    have:=eL (n:=2*n+2) (l:=l.map aq) (by
     unfold List.Nodup
     rw[List.pairwise_map]
     exact pnd.imp_of_mem fun {a b} ha hb mo e=>mo (cB (yA a ha) (yA b hb) (by rw[e]))) fun v hv=>by
     obtain⟨a,ha,rfl⟩:=List.mem_map.1 hv
     have:=cL (yA a ha)
     omega
    simp only[List.length_map] at this
    omega
   have has:=AO n u nb (by rw[Gy,ep];simp) (by rw[Gy];exact Om) (by rw[Gy];exact yA) (by rw[Gy];exact pnd) (by rw[hu];show(zeroV τ.value _).length=_;rw[kY];exact v8) (by rw[hu];exact gu.lvl) (by rw[hu];exact gu.rsn) Nh SB (by rw[hu];show τ.proof.length≤_;omega) (by rw[Ot];omega) (by rw[hu];exact gu.nw) (fun x hx=>by rw[hu];have:=gu.Ad hx;show(τ.wl _).length≤_;omega)
   rw[Pm] at has
   simp only[cu,cv] at HR has
   (refine oM ?_;refine zm ?_;refine zX (HR) ?_;refine eV ?_;refine zd ?_;refine rV ?_;refine zm ?_;(with_reducible apply aa.eH (hf:=has));(with_reducible assumption);(iterate 3 exact rfl);(repeat (first|exact trivial|refine⟨rfl,?_⟩));(repeat (first|exact .nil|(refine .cons ?_ ?_;(first|exact .eq rfl rfl|exact .nil _|exact .any _))));(intro x_;exact rfl);exact rfl;(repeat (first|exact trivial|refine⟨rfl,?_⟩|refine⟨aN,?_⟩));(intro x_;(repeat (first|exact trivial|refine⟨rfl,?_⟩|refine⟨aN,?_⟩)));(intro x_;exact rfl);exact rfl;(intro x_ kH);refine eV ?_;refine zd ?_;refine AW.gf 21 ?_)
   refine Stop.go ?_
   obtain⟨hSI,hLV,QN,Kc,dB⟩:=hτ.mL Mq hm0 hj hf hk (by omega) (by rw[← hu];exact kH)
   by_cases tu:fuel≤met+1
   ·have Pe:(fuel:Int)≤(met:Int)+1:=by omega
    obtain⟨s4,hu4,f1,f2,f3⟩:=qb n x_ hSI.inv hSI.low
    have fP:=hSI.Ny (t:=s4) dB hf1 (by omega) f1 (by rw[f3];exact Kc) (by rw[f2];exact QN)
    simp only[cu,cv] at hu4
    (refine zq ?_;refine zm ?_;refine zj ?_;refine mP ?_;(iterate 2 refine zm ?_);refine xT ?_;refine zc ?_;refine AW.exit ?_;(iterate 2 refine ia rfl ?_);refine eE ?_;refine cG ?_;refine b_ ?_;refine oM ?_;refine zX (hu4) ?_;refine eV ?_;refine mN ?_;refine fL ?_;refine iA ?_)
    (apply cg (((s4,0):SR×Int)) (fP);((exact bA.one (.tmp rfl rfl)));((exact ui));((exact Q2));exact rfl)
   ·have Pe:¬(fuel:Int)≤(met:Int)+1:=by omega
    have Lh:(fuel - (met+1))*(A.length+n+2)+(A.length - x_.marks.length)+(n - (x_.ll 0).length)<(fuel - met)*(A.length+n+2)+(A.length - σ.marks.length)+(n - (σ.ll 0).length):=by
     obtain⟨d,hd⟩:∃d,fuel - met=d+1:=⟨fuel - met - 1,by omega⟩
     rw[show fuel - (met+1)=d by omega,hd,Nat.add_mul,Nat.one_mul]
     omega
    (refine zq ?_;refine zm ?_;refine zj ?_;refine mP ?_;(iterate 2 refine zm ?_);refine xT ?_;refine rL ?_;(iterate 2 refine cb ?_);refine b_ ?_)
    exact⟨(x_,met+1),⟨hSI,hLV,QN,Kc,by omega,dB⟩,Lh,aO rfl (by(refine⟨.ai (by rfl),?_⟩;refine⟨.eq rfl rfl,?_⟩;refine⟨.bF (by rfl),?_⟩;refine⟨.ai (by rfl),?_⟩;refine⟨.eq rfl rfl,?_⟩;exact trivial)) (by(refine⟨.box _ rfl ?_,?_⟩;(iterate 3 refine⟨.ak (by rfl) rfl,?_⟩);refine⟨.ai (by rfl),?_⟩;refine⟨.ak (by rfl) rfl,?_⟩;refine⟨.ai (by rfl),?_⟩;(iterate 2 refine⟨.ak (by rfl) rfl,?_⟩);(iterate 3 refine⟨.ai (by rfl),?_⟩);refine⟨.ak (by rfl) rfl,?_⟩;refine⟨.ai (by rfl),?_⟩;(iterate 2 refine⟨.bF (by rfl),?_⟩);exact trivial;(iterate 3 refine⟨.pool rfl (by rfl),?_⟩);(iterate 7 refine⟨.row rfl,?_⟩);exact trivial)) rfl⟩
end Go.Ab
/- The solver:values,core and proof told,walked. -/
namespace Go.Ab
open Go Go.Proofs
open Nat (reduceAdd reduceSub)
set_option maxRecDepth 20000
set_option maxHeartbeats 8000000
attribute [local irreducible] bO AW aa bE aX AR bd aW bm bD fy fI aq
theorem BE (s:SR) (v:Nat) (hv:0<v):jq Tryz.prog 29 11 (cu s) [.ptr 0 0,al v] (cu s) (aF (decide (0<s.model.getD v 0))):=by
 simp only[cu,cv]
 by_cases h:v<s.model.length
 ·have hl:(v:Int).toNat<s.model.length:=by omega
  have S4:(v:Int)<(s.model.length:Int):=by omega
  have e:s.model.getD v 0=s.model[(v:Int).toNat]:=aZ hl
  rw[e]
  refine jq.enter (n:=26) Tryz.func29 rfl rfl rfl rfl rfl (by decide) rfl rfl fun g aU aT=>?_;refine nk ?_
  (refine LI ?_;refine LM ?_;refine aa.ah 96 8 13 rfl rfl rfl rfl ?_;refine zt ?_;refine zb ?_;refine j8 ?_;(focus ((with_reducible apply aa.aj);(iterate 7 exact rfl);rotate_left;omega));refine wQ ?_;refine aa.gtr rfl rfl rfl rfl rfl ?_;refine zT ?_;refine fL ?_)
  (apply di;((exact bA.one (.tmp rfl rfl)));((refine xk ?_;exact sB));((exact Lp));exact rfl)
 ·have S4:¬(v:Int)<(s.model.length:Int):=by omega
  have e:s.model.getD v 0=0:=by rw[List.getD_eq_getElem?_getD,List.getElem?_eq_none (by omega)];rfl
  rw[e]
  refine jq.enter (n:=26) Tryz.func29 rfl rfl rfl rfl rfl (by decide) rfl rfl fun g aU aT=>?_;refine nk ?_
  (refine LI ?_;refine Hw ?_;refine fL ?_)
  (apply di;((exact bA.one (.tmp rfl rfl)));((refine xk ?_;exact sB));((exact Lp));exact rfl)
theorem EN (s:SR) (hl:s.core.length≤1000000):jq Tryz.prog 30 11 (cu s) [.ptr 0 0] (cu s) (.pv (ec s.core)):=by
 have hc:=nT s.core hl
 simp only[cu,cv]
 refine jq.enter (n:=8) Tryz.func30 rfl rfl rfl rfl rfl (by decide) rfl rfl fun g aU aT=>?_;refine nk ?_
 (refine zq ?_;refine mP ?_;refine Q9 ?_;refine aa.ah 96 9 14 rfl rfl rfl rfl ?_;refine zb ?_;refine zP (hc) ?_;refine fL ?_)
 (apply di;((exact bA.one (.tmp rfl rfl)));((refine⟨.bF (by rfl),?_⟩;exact sB));((exact Lp));exact rfl)
theorem wH (l:List Int) (hl:l.length≤1000000):Fn Tryz.prog 67 [.agg [.pv (.lit (.int .i64 1)),.pv (ec l),.pv (.lit (.int .i64 0))]] (.agg [.pv (.lit (.int .i64 1)),.pv (ec l),.pv (.lit (.int .i64 0))]):=by
 have hc:=nT l hl
 refine Fn.enter (n:=8) Tryz.func67 rfl rfl rfl rfl rfl (by decide) fun g aU aT=>?_;(try (conv=>rhs;simp only[Nf.cP,Nf.all,Nat.reduceBEq,reduceAdd,reduceSub]))
 (refine C0 ?_;refine Q0 ?_;refine aa.mx rfl rfl rfl rfl ?_;refine gM ?_;refine zq ?_;refine mw ?_;refine zP (hc) ?_;refine aa.ah 44 1 1 rfl rfl rfl rfl ?_;(with_reducible apply aa.bG);(iterate 5 exact rfl);(first|exact rfl|assumption|exact dy _|exact dz _ _|exact dO _|exact dP _ _);(iterate 3 exact rfl);(with_reducible assumption);refine gM ?_;refine zq ?_;refine zL ?_;refine Q0 ?_;refine zB ?_;refine gM ?_;refine AW.ret ?_)
 (apply ax;(exact bA.one (.cell rfl rfl rfl rfl));(refine Le.mb ?_;refine fH.cons ?_ ?_;(with_reducible exact Le.pv _);refine fH.cons ?_ ?_;(with_reducible exact Le.pv _);refine fH.cons ?_ ?_;(with_reducible exact Le.pv _);exact fH.nil))
abbrev De (s:SR):List AV:=[.own 1 3 1 (s.value.map encI),.own 2 3 1 (s.level.map encI),.own 3 3 1 (s.reason.map encI),.pv (.lit (s.hl 0)),.own 5 3 1 (s.marks.map encI),al s.low,.own 6 25 1 (bO s.nc s.hc),.own 8 25 1 (bO s.nw s.hw),al s.head,al s.added,aF s.broken,.pv (.slice 3 (s.proof.map j6)),al 0,.pv (ec s.model),.pv (ec s.core)]
abbrev Ii (s:SR):List (Nat×Option Ob):=[(0,some (.box (De s))),(1,some .row),(2,some .row),(3,some .row),(4,some (.pool 3 (eJ s.hl s.ll))),(5,some .row),(6,some .row),(7,some (.pool 3 (eJ s.hc s.cl))),(8,some .row),(9,some (.pool 3 (eJ s.hw s.wl))),(10,some .row)]
theorem DA (s:SR) (hp:s.proof.length≤100000) (hl:∀l∈s.proof,l.length≤1000000):jq Tryz.prog 31 11 (cu s) [.ptr 0 0] (Ii s) (.pv (.slice 3 (s.proof.map j6))):=by
 simp only[cu,cv,Ii,De]
 refine jq.enter (n:=24) Tryz.func31 rfl rfl rfl rfl rfl (by decide) rfl rfl fun g aU aT=>?_;refine nk ?_
 refine AW.IW 10 rfl ?_
 (try (conv=>rhs;simp only[Nf.cP,Nf.all,Nat.reduceBEq,reduceAdd,reduceSub]))
 (refine zq ?_;refine mP ?_;refine aa.assign rfl rfl rfl ?_;refine gM ?_;refine jw ?_;refine dZ ?_;refine Q9 ?_;refine aa.ah 96 6 11 rfl rfl rfl rfl ?_;refine zb ?_;refine zn ?_;refine zm ?_;refine lf ?_)
 (refine Q0 ?_;apply AW.bM [11,10,3,2,1000] [0,1,2,3,4,5,6,7,8,9] (fun k:Nat=>([(4,.own 11 44 3 ((s.proof.take k).map j6)),(12,al k)]:List (Nat×AV))) (fun k:Nat=>([(11,some .row)]:List (Nat×Option Ob))) (fun k:Nat=>k≤s.proof.length) (fun k:Nat=>s.proof.length - k) (0);(conv=>lhs;simp only[Nf.gQ,Nf.all,Nat.reduceBEq,reduceAdd,reduceSub]);(all_goals skip))
 ·exact Nat.zero_le _
 ·exact aO rfl (by(refine⟨.nilown _ _ _ rfl rfl,?_⟩;(iterate 2 refine⟨.ai (by rfl),?_⟩);refine⟨.bF (by rfl),?_⟩;refine⟨.eq rfl rfl,?_⟩;refine⟨.ai (by rfl),?_⟩;refine⟨.eq rfl rfl,?_⟩;exact trivial)) (by(refine⟨.newrow rfl,?_⟩;refine⟨.box _ rfl ?_,?_⟩;(iterate 3 refine⟨.ak (by rfl) rfl,?_⟩);refine⟨.ai (by rfl),?_⟩;refine⟨.ak (by rfl) rfl,?_⟩;refine⟨.ai (by rfl),?_⟩;(iterate 2 refine⟨.ak (by rfl) rfl,?_⟩);(iterate 3 refine⟨.ai (by rfl),?_⟩);refine⟨.bF (by rfl),?_⟩;refine⟨.ai (by rfl),?_⟩;(iterate 2 refine⟨.bF (by rfl),?_⟩);exact trivial;(iterate 3 refine⟨.row rfl,?_⟩);refine⟨.pool rfl (by rfl),?_⟩;(iterate 2 refine⟨.row rfl,?_⟩);refine⟨.pool rfl (by rfl),?_⟩;refine⟨.row rfl,?_⟩;refine⟨.pool rfl (by rfl),?_⟩;exact trivial)) rfl
 rintro k hk
 by_cases aM:k<s.proof.length
 ·have hc:=wH s.proof[k] (hl _ (List.getElem_mem aM))
  have Aa:=List.length_take_le k s.proof
  have e:((s.proof.take (k+1)).map j6)=(s.proof.take k).map j6++ [j6 s.proof[k]]:=by
   rw[List.take_succ_eq_append_getElem aM,List.map_append];rfl
  (refine zq ?_;refine iO ?_;refine zo ?_;refine Q5 ?_;refine dZ ?_;(focus ((with_reducible apply aa.aj);(iterate 7 exact rfl);rotate_left;omega));refine aa.pc rfl rfl rfl rfl ?_;refine Q0 ?_;refine aa.mx rfl rfl rfl rfl ?_;refine Q0 ?_;refine zB ?_;refine gM ?_;refine AW.region ?_;refine aa.bz rfl rfl rfl ?_;refine aa.dM rfl rfl rfl ?_;refine zL ?_;refine Q0 ?_;(with_reducible apply aa.IB (hf:=hc));exact rfl;exact rfl;(repeat (first|exact .nil|(refine .cons rfl ?_ ?_;(first|exact .pv _|exact .own _ _ _ _ rfl|exact .nil _|exact .any _|exact .rptr _|(refine .mb ?_;repeat (first|exact .nil|(refine .cons ?_ ?_;(first|exact .pv _|exact .own _ _ _ _ rfl|exact .nil _))))))));exact rfl;refine aa.yt rfl rfl rfl rfl rfl rfl rfl rfl rfl rfl ?_;refine Q0 ?_;(with_reducible apply aa.bh);exact rfl;(first|exact .pv rfl|exact .own rfl|exact .nil rfl);(iterate 9 exact rfl);(first|omega|(simp only[List.length_map,List.length_append,List.length_cons,List.length_nil,List.length_drop,List.length_take,List.length_set,List.length_range,aL];omega));refine Q0 ?_;refine sU ?_;refine l5 ?_)
  exact⟨k+1,by omega,by omega,aO rfl (by(refine⟨.ak (by first|rfl|(rw[e])) rfl,?_⟩;refine⟨.ai (by first|rfl|(rw[e])),?_⟩;refine⟨.ai (by first|rfl|(rw[e])),?_⟩;refine⟨.bF (by first|rfl|(rw[e])),?_⟩;refine⟨.eq rfl rfl,?_⟩;refine⟨.ai (by first|rfl|(rw[e])),?_⟩;refine⟨.eq rfl rfl,?_⟩;exact trivial)) (by(refine⟨.row rfl,?_⟩;refine⟨.box _ rfl ?_,?_⟩;refine⟨.ak (by first|rfl|(rw[e])) rfl,?_⟩;refine⟨.ak (by first|rfl|(rw[e])) rfl,?_⟩;refine⟨.ak (by first|rfl|(rw[e])) rfl,?_⟩;refine⟨.ai (by first|rfl|(rw[e])),?_⟩;refine⟨.ak (by first|rfl|(rw[e])) rfl,?_⟩;refine⟨.ai (by first|rfl|(rw[e])),?_⟩;refine⟨.ak (by first|rfl|(rw[e])) rfl,?_⟩;refine⟨.ak (by first|rfl|(rw[e])) rfl,?_⟩;refine⟨.ai (by first|rfl|(rw[e])),?_⟩;refine⟨.ai (by first|rfl|(rw[e])),?_⟩;refine⟨.ai (by first|rfl|(rw[e])),?_⟩;refine⟨.bF (by first|rfl|(rw[e])),?_⟩;refine⟨.ai (by first|rfl|(rw[e])),?_⟩;refine⟨.bF (by first|rfl|(rw[e])),?_⟩;refine⟨.bF (by first|rfl|(rw[e])),?_⟩;exact trivial;(iterate 3 refine⟨.row rfl,?_⟩);refine⟨.pool rfl (by first|rfl|(rw[e])),?_⟩;(iterate 2 refine⟨.row rfl,?_⟩);refine⟨.pool rfl (by first|rfl|(rw[e])),?_⟩;refine⟨.row rfl,?_⟩;refine⟨.pool rfl (by first|rfl|(rw[e])),?_⟩;exact trivial)) rfl⟩
 ·obtain rfl:k=s.proof.length:=by omega
  rw[List.take_length]
  (refine zq ?_;refine yg ?_;refine p9 ?_;refine nN ?_)
  (apply di;((exact bA.one (.tmp rfl rfl)));((refine⟨.s5 rfl (by rfl),?_⟩;exact sB));((refine⟨.box _ rfl ?_,?_⟩;(iterate 3 refine⟨.ak (by rfl) rfl,?_⟩);refine xk ?_;refine⟨.ak (by rfl) rfl,?_⟩;refine xk ?_;(iterate 2 refine⟨.ak (by rfl) rfl,?_⟩);(iterate 3 refine⟨.ai (by rfl),?_⟩);refine⟨.bF (by rfl),?_⟩;refine xk ?_;(iterate 2 refine⟨.bF (by rfl),?_⟩);exact trivial;(iterate 3 refine⟨.row rfl,?_⟩);refine⟨.pool rfl (by rfl),?_⟩;(iterate 2 refine⟨.row rfl,?_⟩);refine⟨.pool rfl (by rfl),?_⟩;refine⟨.row rfl,?_⟩;refine⟨.pool rfl (by rfl),?_⟩;refine⟨.newrow rfl,?_⟩;exact trivial));exact rfl)
end Go.Ab
/- A formula solved:a new solver,its clauses,the search,walked. -/
namespace Go.Ab
open Go Go.Proofs
open Nat (reduceAdd reduceSub)
set_option maxRecDepth 20000
set_option maxHeartbeats 8000000
section
variable {P:Program} {g:au} {δ:DS} {Q:Exit→DS→Prop}
theorem AW.wB (m:Nat) {c:Code} (h:Nat.ble δ.nx m=true) (hK:AW P g c Q {δ with nx:=m}):AW P g c Q δ:=fun κ a w r=>
 hK κ a w {n:=r.n,dfr:=r.dfr,env:=r.env,obj:=r.obj,inj:=r.inj,lo:=r.lo,nx:=fun i hi=>Nat.lt_of_lt_of_le (r.nx i hi) (by simpa using h),wt:=r.wt,below:=r.below,hB:=r.hB,N0:=r.N0,fr:=r.fr,mkf:=r.mkf}
theorem AW.G4 (i j:Nat) {c:Code} (du:g.wt=none) (hi:Nat.blt i δ.nx=true) (hj:Nat.blt j δ.nx=true) (hK:AW P g c Q (δ.sw i j)):AW P g c Q δ:=AW.aO (kd.sw i j du hi hj (fun κ a w r=>⟨κ,r⟩)) hK
end
theorem zD (h:Nat→Value):bO 0 h=[]:=rfl
theorem Dg (n:Nat):List.replicate n [PV.lit (.slice none 0 0)]=bO n (fun _=> .slice none 0 0):=by
 unfold bO
 symm
 rw[List.eq_replicate_iff]
 refine⟨by simp,fun x hx=>?_⟩
 obtain⟨_,_,rfl⟩:=List.mem_map.1 hx
 rfl
def jT (n:Nat) (m:List Int):List Bool:=(List.range n).map fun i=>decide (0<m.getD (i+1) 0)
def a8 (n:Nat) (F:List (List Int)) (A:List Int) (q:Int×List Bool×List Int×List (List Int)):Prop:=∃t,eZ n F A 10000 t q.1∧q.2.1=jT n t.model∧q.2.2.1=t.core∧q.2.2.2=t.proof
attribute [local irreducible] bO AW aa bE aX AR bd aW bm bD fy fI tg aq
theorem uQ {n:Nat} (hn:n≤20000) {l:List Int} (dB:l.Nodup) (hl:∀x∈l,Lit n x):l.length≤1000000:=by
 have:=eL (n:=2*n+2) (l:=l.map aq) (by
  unfold List.Nodup
  rw[List.pairwise_map]
  exact dB.imp_of_mem fun {a b} ha hb mo e=>mo (cB (hl a ha) (hl b hb) (by rw[e]))) fun v hv=>by
  obtain⟨a,ha,rfl⟩:=List.mem_map.1 hv
  have:=cL (hl a ha)
  omega
 simp only[List.length_map] at this
 omega
theorem eZ.x4 {n:Nat} {F:List (List Int)} {A:List Int} {fuel:Nat} {t:SR} {k:Int} (h:eZ n F A fuel t k):t.core.length≤1000000:=by
 rcases h.res with ⟨_,_,_,e,_⟩|⟨_,_,_,_,_,e1,e2⟩|⟨_,_,e,_⟩
 ·rw[e];simp
 ·exact uQ h.hn e1 e2
 ·rw[e];simp
theorem eZ.Ln {n:Nat} {F:List (List Int)} {A:List Int} {fuel:Nat} {t:SR} {k:Int} (h:eZ n F A fuel t k):∀l∈t.proof,l.length≤1000000:=fun l hl=>
 uQ h.hn (h.nd l hl) (h.lits l (List.mem_append.2 (.inr hl)))
theorem n6 (n:Nat) (F:List (List Int)) (A:List Int) (hn:n≤20000) (hF:F.length≤50000) (hc:∀c∈F,c.length≤1000000∧∀x∈c,Lit n x) (hA:∀x∈A,Lit n x) (hAl:A.length≤50000):n8 Tryz.prog 8 0 [] [w6 (n:Nat) F,.pv (ec A)] (fun q:Int×List Bool×List Int×List (List Int)=>a8 n F A q) (fun _=>[]) (fun q=> .tup [al q.1,.pv (jj q.2.1),.pv (ec q.2.2.1),.pv (.slice 3 (q.2.2.2.map j6))]):=by
 have hn1:¬(n:Int)<0:=by omega
 have hn2:¬(20000:Int)<(n:Int):=by omega
 have hz:List.replicate ((n:Int)+1).toNat [PV.lit (.int .i64 0)]=(fQ n).value.map encI:=by
  rw[show((n:Int)+1).toNat=n+1 by omega]
  show _=(List.replicate (n+1) 0).map encI
  rw[List.map_replicate];rfl
 have hw:List.replicate (2*(n:Int)+2).toNat [PV.lit (.slice none 0 0)]=bO (fQ n).nw (fQ n).hw:=by
  rw[show(2*(n:Int)+2).toNat=2*n+2 by omega]
  exact Dg _
 have h00:bO (fQ n).nc (fQ n).hc=[]:=zD _
 refine n8.Js (n:=54) Tryz.func8 rfl rfl rfl rfl rfl (by decide) rfl (fun _=>rfl) fun g aU aT=>?_;refine nk ?_
 (refine C0 ?_;refine Q0 ?_;(iterate 4 refine za ?_);refine zd ?_;refine dZ ?_;refine oJ ?_;(with_reducible apply aa.inline (hf:=Tryz.func26));(with_reducible assumption);(iterate 10 exact rfl);intro g_ aU aT;refine Q0 ?_;refine jw ?_;refine ez ?_;refine zs ?_;refine l9 ?_;refine aa.gtr rfl rfl rfl rfl rfl ?_;refine tB ?_;refine lP ?_;refine ez ?_;refine aa.mul rfl rfl rfl rfl rfl (by omega) ?_;refine zj ?_;refine HX ?_;refine Q0 ?_;refine aa.xz 96 [7] rfl rfl rfl rfl rfl rfl rfl rfl rfl ?_;refine Q0 ?_;refine aa.box rfl rfl rfl rfl ?_;refine Q0 ?_;refine aa.jx rfl rfl rfl ?_;refine zd ?_;refine zo ?_;refine AW.bN [0,1,2,4,5,7,8] [13] rfl (by assumption) (by kernel_rfl) (by kernel_rfl) rfl ?_;show aa .held _ _ _ [_,_,_,_,_,_,_] _ _;refine A8 ?_;refine zj ?_;refine zm ?_;refine zj ?_;refine zm ?_;refine zj ?_;refine Q4 ?_;intro k_ cR;refine Q0 ?_;apply AR.cut [8,7,5,4,2,1,0,3,6,9];intro jt;apply AR.cut [8,7,5,4,2,1,0,3,9];intro nB;apply AR.cut [8,7,5,4,2,1,0,6,9];intro mW;apply AR.cut [8,7,5,4,2,1,0,3,6];intro nq;(refine AR.nR (i:=3) (j:=6) (m:=9) rfl (by kernel_rfl) rfl rfl rfl ?_ ?_ ?_<;>intro g_ ag bw);refine oR ?_;(refine AR.ck (i:=6) (j:=9) rfl (by kernel_rfl) rfl rfl ?_ ?_<;>intro g_ ag bw);refine oR ?_;(try (conv=>rhs;simp only[Nf.cP,Nf.all,Nat.reduceBEq,reduceAdd,reduceSub]));refine o8 ?_;exact AR.perm (by kernel_rfl) nq;refine oR ?_;(try (conv=>rhs;simp only[Nf.cP,Nf.all,Nat.reduceBEq,reduceAdd,reduceSub]));exact Bc;refine oR ?_;(refine AR.ck (i:=3) (j:=9) rfl (by kernel_rfl) rfl rfl ?_ ?_<;>intro g_ ag bw);refine oR ?_;(try (conv=>rhs;simp only[Nf.cP,Nf.all,Nat.reduceBEq,reduceAdd,reduceSub]));refine Ev ?_;refine AR.meet nq (by kernel_rfl) (fun g_=>aO rfl ?_ ?_ rfl);(iterate 34 refine⟨.eq rfl rfl,?_⟩);exact trivial;(iterate 2 refine⟨.row rfl,?_⟩);exact J_;refine oR ?_;(try (conv=>rhs;simp only[Nf.cP,Nf.all,Nat.reduceBEq,reduceAdd,reduceSub]));refine o8 ?_;exact AR.perm (by kernel_rfl) mW;refine oR ?_;(refine AR.ck (i:=3) (j:=6) rfl (by kernel_rfl) rfl rfl ?_ ?_<;>intro g_ ag bw);refine oR ?_;(try (conv=>rhs;simp only[Nf.cP,Nf.all,Nat.reduceBEq,reduceAdd,reduceSub]));refine Ev ?_;refine AR.meet nB (by kernel_rfl) (fun g_=>aO rfl ?_ ?_ rfl);(iterate 34 refine⟨.eq rfl rfl,?_⟩);exact trivial;(iterate 2 refine⟨.row rfl,?_⟩);exact J_;refine oR ?_;(try (conv=>rhs;simp only[Nf.cP,Nf.all,Nat.reduceBEq,reduceAdd,reduceSub]));refine Ev ?_;refine AR.meet mW (by kernel_rfl) (fun g_=>aO rfl ?_ ?_ rfl);(iterate 34 refine⟨.eq rfl rfl,?_⟩);exact trivial;(iterate 2 refine⟨.row rfl,?_⟩);exact J_;refine AR.ba (i:=9) rfl (by kernel_rfl) rfl ?_;intro g_ ag bw;refine oR ?_;(try (conv=>rhs;simp only[Nf.cP,Nf.all,Nat.reduceBEq,reduceAdd,reduceSub]));exact rK;refine AR.ba (i:=3) rfl (by kernel_rfl) rfl ?_;intro g_ ag bw;refine oR ?_;(try (conv=>rhs;simp only[Nf.cP,Nf.all,Nat.reduceBEq,reduceAdd,reduceSub]));refine AR.sw 4 5 (by assumption) (by kernel_rfl) (by kernel_rfl) ?_;refine Ay ?_;refine Ev ?_;refine H8 ?_;(iterate 3 refine⟨.row rfl,?_⟩);exact J_;refine AR.ba (i:=6) rfl (by kernel_rfl) rfl ?_;intro g_ ag bw;refine oR ?_;(try (conv=>rhs;simp only[Nf.cP,Nf.all,Nat.reduceBEq,reduceAdd,reduceSub]));refine AR.sw 4 5 (by assumption) (by kernel_rfl) (by kernel_rfl) ?_;refine Ay ?_;refine H8 ?_;(iterate 3 refine⟨.row rfl,?_⟩);exact J_;refine AR.free 10 (by kernel_rfl) rfl rfl rfl (bq.build 94 [0,1,2,5] rfl rfl rfl rfl rfl rfl rfl rfl) ?_;(try (conv=>rhs;simp only[Nf.cP,Nf.all,Nat.reduceBEq,reduceAdd,reduceSub]));refine AR.c9 [11,12] (by kernel_rfl) (by kernel_rfl) (by kernel_rfl) (by kernel_rfl) ?_;intro g_ ag;show aa .held _ _ _ [_,_] _ _;refine aa.aI rfl rfl rfl ?_;refine aa.ah 96 0 0 rfl rfl rfl rfl ?_;refine Q4 ?_;intro k_ cR;refine Q0 ?_;refine rH ?_;intro g_ ag aJ;(with_reducible apply aa.qR);(iterate 3 exact rfl);(repeat' first|exact oT.nil|apply oT.take|apply oT.skip);(iterate 5 exact rfl);(with_reducible assumption);refine mE ?_;refine rV ?_;refine aa.jx rfl rfl rfl ?_;refine zd ?_;refine AW.ret ?_;refine tT rfl rfl ?_;refine Q0 ?_;refine aa.jx rfl rfl rfl ?_;refine zd ?_;refine zo ?_;refine AW.gf 2 ?_)
 refine Stop.go ?_
 refine AW.s6 3 ?_
 refine AW.s6 3 ?_
 refine AW.s6 3 ?_
 refine AW.wB 20 (by rfl) ?_
 refine AW.G4 0 11 (by assumption) rfl rfl ?_
 refine AW.G4 2 0 (by assumption) rfl rfl ?_
 refine AW.G4 1 8 (by assumption) rfl rfl ?_
 refine AW.G4 3 1 (by assumption) rfl rfl ?_
 refine AW.G4 4 2 (by assumption) rfl rfl ?_
 refine AW.G4 3 4 (by assumption) rfl rfl ?_
 refine AW.G4 5 3 (by assumption) rfl rfl ?_
 refine AW.G4 6 9 (by assumption) rfl rfl ?_
 refine Ay ?_
 refine AW.aO (δ':=⟨54,[(8,.ptr 0 0),(2,.ptr 11 0),(1,.pv (ec A)),(1000,.agg [])],cu (fQ n)++ [(11,some (.box [al n,.pv (cV F)]))],20⟩) ?_ ?_
 ·exact aO rfl (by(refine⟨.eq rfl rfl,?_⟩;refine⟨.eq rfl rfl,?_⟩;refine⟨.bF (by first|rfl|exact hz|exact hw|exact h00),?_⟩;refine⟨.eq rfl rfl,?_⟩;exact trivial)) (by(refine⟨.box _ rfl ?_,?_⟩;(iterate 3 refine⟨.ak (by first|rfl|exact hz|exact hw|exact h00) rfl,?_⟩);refine⟨.ai (by first|rfl|exact hz|exact hw|exact h00),?_⟩;refine⟨.nilown _ _ _ rfl rfl,?_⟩;refine⟨.ai (by first|rfl|exact hz|exact hw|exact h00),?_⟩;refine⟨.Fq (by first|rfl|exact hz|exact hw|exact h00) rfl rfl,?_⟩;refine⟨.ak (by first|rfl|exact hz|exact hw|exact h00) rfl,?_⟩;(iterate 3 refine⟨.ai (by first|rfl|exact hz|exact hw|exact h00),?_⟩);refine⟨.nilown _ _ _ rfl rfl,?_⟩;refine⟨.ai (by first|rfl|exact hz|exact hw|exact h00),?_⟩;(iterate 2 refine⟨.BP (by first|rfl|exact hz|exact hw|exact h00),?_⟩);exact trivial;(iterate 3 refine⟨.row rfl,?_⟩);refine⟨.pool rfl (by first|rfl|exact hz|exact hw|exact h00),?_⟩;(iterate 2 refine⟨.newrow rfl,?_⟩);refine⟨.pool rfl (by first|rfl|exact hz|exact hw|exact h00),?_⟩;refine⟨.row rfl,?_⟩;refine⟨.pool rfl (by first|rfl|exact hz|exact hw|exact h00),?_⟩;refine⟨.newrow rfl,?_⟩;refine⟨.box _ rfl ?_,?_⟩;refine⟨.ai (by first|rfl|exact hz|exact hw|exact h00),?_⟩;refine⟨.bF (by first|rfl|exact hz|exact hw|exact h00),?_⟩;(iterate 2 exact trivial))) rfl
 simp only[cu,cv,List.cons_append,List.nil_append]
 (refine rV ?_;refine aa.Mx rfl rfl rfl rfl rfl rfl rfl ?_;refine qJ ?_;refine zo ?_;refine dZ ?_;refine kn ?_)
 (refine Q0 ?_;apply AW.bM [8,2,1,1000] [1,2,3,5,6,8,10,11] (fun q:SR×Nat=>([(9,al (q.2:Nat))]:List (Nat×AV))) (fun q:SR×Nat=>([(0,some (.box [.own 1 3 1 ((q.1.value).map encI),.own 2 3 1 ((q.1.level).map encI),.own 3 3 1 ((q.1.reason).map encI),.pv (.lit (q.1.hl 0)),.own 5 3 1 ((q.1.marks).map encI),al (q.1.low),.own 6 25 1 (bO q.1.nc q.1.hc),.own 8 25 1 (bO q.1.nw q.1.hw),al (q.1.head),al (q.1.added),aF (q.1.broken),.own 10 44 3 ((q.1.proof).map j6),al 0,.pv (ec (q.1.model)),.pv (ec (q.1.core))])),(4,some (.pool 3 (eJ q.1.hl q.1.ll))),(7,some (.pool 3 (eJ q.1.hc q.1.cl))),(9,some (.pool 3 (eJ q.1.hw q.1.wl)))]:List (Nat×Option Ob))) (fun q:SR×Nat=>(gg n (F.take q.2) q.2 q.1∧q.2≤F.length)) (fun q:SR×Nat=>F.length - q.2) ((fQ n,0));(conv=>lhs;simp only[Nf.gQ,Nf.all,Nat.reduceBEq,reduceAdd,reduceSub]);(all_goals skip))
 ·exact⟨xr hn,Nat.zero_le _⟩
 ·exact aO rfl (by(refine⟨.ai (by rfl),?_⟩;(iterate 2 refine⟨.eq rfl rfl,?_⟩);refine⟨.bF (by rfl),?_⟩;refine⟨.eq rfl rfl,?_⟩;exact trivial)) (by(refine⟨.box _ rfl ?_,?_⟩;(iterate 3 refine⟨.ak (by rfl) rfl,?_⟩);refine⟨.ai (by rfl),?_⟩;refine⟨.ak (by rfl) rfl,?_⟩;refine⟨.ai (by rfl),?_⟩;(iterate 2 refine⟨.ak (by rfl) rfl,?_⟩);(iterate 3 refine⟨.ai (by rfl),?_⟩);refine⟨.ak (by rfl) rfl,?_⟩;refine⟨.ai (by rfl),?_⟩;(iterate 2 refine⟨.bF (by rfl),?_⟩);exact trivial;(iterate 3 refine⟨.pool rfl (by rfl),?_⟩);(iterate 7 refine⟨.row rfl,?_⟩);refine⟨.box _ rfl ?_,?_⟩;refine⟨.ai (by rfl),?_⟩;refine⟨.bF (by rfl),?_⟩;(iterate 2 exact trivial))) rfl
 rintro⟨σ,i⟩ ⟨hσ,hi⟩
 simp only at hσ hi
 by_cases aM:i<F.length
 ·obtain⟨hc1,hc2⟩:=hc _ (List.getElem_mem aM)
  have MP:=tI n (F.take i) i σ hσ (by omega) F[i] hc2 hc1
  rw[← List.take_succ_eq_append_getElem aM] at MP
  simp only[cu,cv] at MP
  (refine zo ?_;refine ez ?_;refine rh ?_;refine zn ?_;refine iO ?_;refine Q5 ?_;refine oM ?_;refine rh ?_;refine zm ?_;(focus ((with_reducible apply aa.aj);(iterate 7 exact rfl);rotate_left;omega));refine zr ?_;(with_reducible apply aa.eH (hf:=MP));(with_reducible assumption);(iterate 3 exact rfl);(repeat (first|exact trivial|refine⟨rfl,?_⟩));(repeat (first|exact .nil|(refine .cons ?_ ?_;(first|exact .eq rfl rfl|exact .nil _|exact .any _))));(intro x_;exact rfl);exact rfl;(repeat (first|exact trivial|refine⟨rfl,?_⟩|refine⟨aN,?_⟩));(intro x_;(repeat (first|exact trivial|refine⟨rfl,?_⟩|refine⟨aN,?_⟩)));(intro x_;exact rfl);exact rfl;(intro x_ kH);refine eV ?_;refine aa.not rfl rfl rfl ?_;refine kg ?_;refine we ?_;refine Q0 ?_;refine zm ?_;refine zj ?_;refine eO ?_)
  exact⟨(x_,i+1),⟨kH,aM⟩,by show F.length - (i+1)<F.length - i;omega,aO rfl (by(refine⟨.ai (by rfl),?_⟩;(iterate 2 refine⟨.eq rfl rfl,?_⟩);refine⟨.bF (by rfl),?_⟩;refine⟨.eq rfl rfl,?_⟩;exact trivial)) (by(refine⟨.box _ rfl ?_,?_⟩;(iterate 3 refine⟨.ak (by rfl) rfl,?_⟩);refine⟨.ai (by rfl),?_⟩;refine⟨.ak (by rfl) rfl,?_⟩;refine⟨.ai (by rfl),?_⟩;(iterate 2 refine⟨.ak (by rfl) rfl,?_⟩);(iterate 3 refine⟨.ai (by rfl),?_⟩);refine⟨.ak (by rfl) rfl,?_⟩;refine⟨.ai (by rfl),?_⟩;(iterate 2 refine⟨.bF (by rfl),?_⟩);exact trivial;(iterate 3 refine⟨.pool rfl (by rfl),?_⟩);(iterate 7 refine⟨.row rfl,?_⟩);refine⟨.box _ rfl ?_,?_⟩;refine⟨.ai (by rfl),?_⟩;refine⟨.bF (by rfl),?_⟩;(iterate 2 exact trivial))) rfl⟩
 ·obtain rfl:i=F.length:=by omega
  rw[List.take_length] at hσ
  have MU:=CO n F F.length σ hσ (by omega) A hA hAl 10000 (by omega) (by omega)
  rw[show((10000:Nat):Int)=10000 from rfl] at MU
  simp only[cu,cv] at MU
  (refine zo ?_;refine ez ?_;refine rh ?_;refine zn ?_;refine iO ?_;refine zk ?_;refine r8 ?_;refine oM ?_;refine zm ?_;(with_reducible apply aa.eH (hf:=MU));(with_reducible assumption);(iterate 3 exact rfl);(repeat (first|exact trivial|refine⟨rfl,?_⟩));(repeat (first|exact .nil|(refine .cons ?_ ?_;(first|exact .eq rfl rfl|exact .nil _|exact .any _))));(intro x_;exact rfl);exact rfl;(repeat (first|exact trivial|refine⟨rfl,?_⟩|refine⟨aN,?_⟩));(intro x_;(repeat (first|exact trivial|refine⟨rfl,?_⟩|refine⟨aN,?_⟩)));(intro x_;exact rfl);exact rfl;(intro x_ kH);refine eV ?_;refine eO ?_;refine AW.gf 10 ?_)
  refine Stop.go ?_
  obtain⟨t,k⟩:=x_
  have ht:=kH
  simp only at ht ⊢
  have BK:=ht.plen2
  have j2:=ht.lits
  have Fx:∀m,(jT n m).length=n:=fun m=>by simp [jT]
  (refine dZ ?_;refine kh ?_;refine dZ ?_;refine kn ?_)
  (refine Q0 ?_;apply AW.bM [10,8,2,1000] [0,1,2,3,4,5,6,7,8,9,10,11] (fun v:Nat=>([(11,.own 12 4 1 (((jT n t.model).take v).map hX)),(12,al ((v:Int)+1))]:List (Nat×AV))) (fun v:Nat=>([(12,some .row)]:List (Nat×Option Ob))) (fun v:Nat=>v≤n) (fun v:Nat=>n - v) (0);(conv=>lhs;simp only[Nf.gQ,Nf.all,Nat.reduceBEq,reduceAdd,reduceSub]);(all_goals skip))
  ·exact Nat.zero_le _
  ·exact aO rfl (by(refine⟨.nilown _ _ _ rfl rfl,?_⟩;(iterate 2 refine⟨.ai (by rfl),?_⟩);(iterate 3 refine⟨.eq rfl rfl,?_⟩);exact trivial)) (by(refine⟨.newrow rfl,?_⟩;refine⟨.box _ rfl ?_,?_⟩;(iterate 3 refine⟨.ak (by rfl) rfl,?_⟩);refine⟨.ai (by rfl),?_⟩;refine⟨.ak (by rfl) rfl,?_⟩;refine⟨.ai (by rfl),?_⟩;(iterate 2 refine⟨.ak (by rfl) rfl,?_⟩);(iterate 3 refine⟨.ai (by rfl),?_⟩);refine⟨.ak (by rfl) rfl,?_⟩;refine⟨.ai (by rfl),?_⟩;(iterate 2 refine⟨.bF (by rfl),?_⟩);exact trivial;(iterate 3 refine⟨.row rfl,?_⟩);refine⟨.pool rfl (by rfl),?_⟩;(iterate 2 refine⟨.row rfl,?_⟩);refine⟨.pool rfl (by rfl),?_⟩;refine⟨.row rfl,?_⟩;refine⟨.pool rfl (by rfl),?_⟩;refine⟨.row rfl,?_⟩;refine⟨.box _ rfl ?_,?_⟩;refine⟨.ai (by rfl),?_⟩;refine⟨.bF (by rfl),?_⟩;(iterate 2 exact trivial))) rfl
  rintro v hv
  by_cases l6:v<n
  ·have Oq:=BE t (v+1) (by omega)
   have e:((jT n t.model).take (v+1)).map hX=((jT n t.model).take v).map hX++ [hX (decide (0<t.model.getD (v+1) 0))]:=by
    rw[List.take_succ_eq_append_getElem (by rw[Fx];exact l6),List.map_append]
    simp [jT]
   rw[show((v+1:Nat):Int)=(v:Int)+1 from rfl] at Oq
   have ot:=List.length_take_le v (jT n t.model)
   simp only[cu,cv] at Oq
   (refine jL ?_;refine oJ ?_;refine aa.leq rfl rfl rfl rfl rfl ?_;refine zd ?_;refine Q5 ?_;refine lq ?_;refine aa.bz rfl rfl rfl ?_;refine A8 ?_;refine zX (Oq) ?_;refine eV ?_;(with_reducible apply aa.iD);(iterate 5 exact rfl);(first|exact rfl|assumption|exact dy _|exact dz _ _|exact dO _|exact dP _ _);exact rfl;exact rfl;refine Q0 ?_;(with_reducible apply aa.bh);exact rfl;(first|exact .pv rfl|exact .own rfl|exact .nil rfl);(iterate 9 exact rfl);(first|omega|(simp only[List.length_map,List.length_append,List.length_cons,List.length_nil,List.length_drop,List.length_take,List.length_set,List.length_range,aL];omega));refine Q0 ?_;refine sU ?_;refine Q0 ?_;refine zm ?_;refine zj ?_;refine eO ?_)
   exact⟨v+1,by omega,by omega,aO rfl (by(refine⟨.ak (by first|rfl|(rw[e];rfl)) rfl,?_⟩;refine⟨.ai (by first|rfl|(rw[e];rfl)),?_⟩;refine⟨.ai (by first|rfl|(rw[e];rfl)),?_⟩;(iterate 3 refine⟨.eq rfl rfl,?_⟩);exact trivial)) (by(refine⟨.row rfl,?_⟩;refine⟨.box _ rfl ?_,?_⟩;refine⟨.ak (by first|rfl|(rw[e];rfl)) rfl,?_⟩;refine⟨.ak (by first|rfl|(rw[e];rfl)) rfl,?_⟩;refine⟨.ak (by first|rfl|(rw[e];rfl)) rfl,?_⟩;refine⟨.ai (by first|rfl|(rw[e];rfl)),?_⟩;refine⟨.ak (by first|rfl|(rw[e];rfl)) rfl,?_⟩;refine⟨.ai (by first|rfl|(rw[e];rfl)),?_⟩;refine⟨.ak (by first|rfl|(rw[e];rfl)) rfl,?_⟩;refine⟨.ak (by first|rfl|(rw[e];rfl)) rfl,?_⟩;refine⟨.ai (by first|rfl|(rw[e];rfl)),?_⟩;refine⟨.ai (by first|rfl|(rw[e];rfl)),?_⟩;refine⟨.ai (by first|rfl|(rw[e];rfl)),?_⟩;refine⟨.ak (by first|rfl|(rw[e];rfl)) rfl,?_⟩;refine⟨.ai (by first|rfl|(rw[e];rfl)),?_⟩;refine⟨.bF (by first|rfl|(rw[e];rfl)),?_⟩;refine⟨.bF (by first|rfl|(rw[e];rfl)),?_⟩;exact trivial;(iterate 3 refine⟨.row rfl,?_⟩);refine⟨.pool rfl (by first|rfl|(rw[e];rfl)),?_⟩;(iterate 2 refine⟨.row rfl,?_⟩);refine⟨.pool rfl (by first|rfl|(rw[e];rfl)),?_⟩;refine⟨.row rfl,?_⟩;refine⟨.pool rfl (by first|rfl|(rw[e];rfl)),?_⟩;refine⟨.row rfl,?_⟩;refine⟨.box _ rfl ?_,?_⟩;refine⟨.ai (by first|rfl|(rw[e];rfl)),?_⟩;refine⟨.bF (by first|rfl|(rw[e];rfl)),?_⟩;(iterate 2 exact trivial))) rfl⟩
  ·obtain rfl:v=n:=by omega
   rw[show(jT v t.model).take v=jT v t.model from List.take_of_length_le (by rw[Fx];exact Nat.le_refl _)]
   have dq:=ht.x4
   have eN:=ht.Ln
   have Kc:=EN t dq
   have QK:=DA t (by omega) eN
   simp only[cu,cv,Ii,De] at Kc QK
   (refine jL ?_;refine oJ ?_;refine aa.leq rfl rfl rfl rfl rfl ?_;refine zd ?_;refine zk ?_;refine r8 ?_;refine AW.gf 15 ?_)
   refine Stop.go ?_
   refine AW.IW 12 rfl ?_
   (try (conv=>rhs;simp only[Nf.cP,Nf.all,Nat.reduceBEq,reduceAdd,reduceSub]))
   (refine zq ?_;(iterate 2 refine zm ?_);refine aa.bc rfl rfl rfl ?_;refine zX (Kc) ?_;refine eV ?_;refine aa.bc rfl rfl rfl ?_;refine zX (QK) ?_;refine eV ?_;(iterate 4 refine za ?_);refine zd ?_;refine AW.ret ?_)
   (apply xe (((k,jT v t.model,t.core,t.proof):Int×List Bool×List Int×List (List Int))) (⟨t,ht,rfl,rfl,rfl⟩);((exact uD.four (.tmp rfl rfl) (.tmp rfl rfl) (.tmp rfl rfl) (.tmp rfl rfl)));(((iterate 2 refine⟨.eq rfl rfl,?_⟩);(iterate 2 exact trivial)));(skip);exact rfl)
end Go.Ab
/- What solving gives,in terms of assignments. -/
namespace Go.Ab
open Go Go.Proofs
def xq (v:List Bool):Nat→Bool:=fun u=>v.getD (u - 1) false
theorem jl {n:Nat} {v:List Bool} {x:Int} (hx:Lit n x):eh (xq v) x↔dg v x=true:=by
 obtain⟨h0,_,_⟩:=hx
 unfold eh dg xq
 by_cases h:x<0
 ·rw[if_pos h,if_neg (by omega),if_pos h,show aG x - 1=(0 - x - 1).toNat by unfold aG;omega]
  cases v.getD (0 - x - 1).toNat false<;>simp
 ·rw[if_neg h,if_pos (by omega),show aG x - 1=(x - 1).toNat by unfold aG;omega]
theorem il {n:Nat} {v:List Bool} {F:List (List Int)} (hF:∀c∈F,∀x∈c,Lit n x):gH (xq v) F↔allM v F=true:=by
 unfold gH allM cQ
 simp only[List.all_eq_true,List.any_eq_true]
 constructor
 ·intro h c hc
  obtain⟨x,hx,ht⟩:=h c hc
  exact⟨x,hx,(jl (hF c hc x hx)).1 ht⟩
 ·intro h c hc
  obtain⟨x,hx,ht⟩:=h c hc
  exact⟨x,hx,(jl (hF c hc x hx)).2 ht⟩
def td (n:Nat) (L:List Int):List Bool:=(List.range n).map fun i=>decide (((i+1:Nat):Int)∈L)
theorem B3 (n:Nat) (L:List Int):(td n L).length=n:=by simp [td]
theorem ph {n:Nat} {L:List Int} {u:Nat} (h1:1≤u) (h2:u≤n):xq (td n L) u=j4 L u:=by
 unfold xq td j4
 rw[List.getD_eq_getElem?_getD,List.getElem?_map,List.getElem?_range (by omega)]
 simp only[Option.map_some,Option.getD_some]
 rw[show u - 1+1=u by omega]
theorem eh.congr {n:Nat} {σ τ:Nat→Bool} {x:Int} (hx:Lit n x) (h:∀u,1≤u→u≤n→σ u=τ u):eh σ x↔eh τ x:=by
 have:=dG hx
 unfold eh
 rw[h _ this.1 this.2]
theorem gH.congr {n:Nat} {σ τ:Nat→Bool} {F:List (List Int)} (hF:∀c∈F,∀x∈c,Lit n x) (h:∀u,1≤u→u≤n→σ u=τ u) (hs:gH σ F):gH τ F:=fun c hc=>by
 obtain⟨x,hx,ht⟩:=hs c hc
 exact⟨x,hx,(eh.congr (hF c hc x hx) h).1 ht⟩
section
variable {n:Nat} {F:List (List Int)} {A:List Int} {q:Int×List Bool×List Int×List (List Int)}
theorem a8.one (h:a8 n F A q) (hn:n≤8):q.1=1∨q.1=2:=by
 obtain⟨t,h1,_⟩:=h
 rcases h1.res with ⟨e,_⟩|⟨e,_⟩|⟨_,_,_,e⟩
 ·exact .inl e
 ·exact .inr e
 ·exfalso
  have:3 ^ n≤3 ^ 8:=Nat.pow_le_pow_right (by omega) hn
  have:3 ^ 8=6561:=by decide
  omega
theorem a8.vh (h:a8 n F A q):∀c∈F,∀x∈c,Lit n x:=by
 obtain⟨t,h1,_⟩:=h
 exact fun c hc=>h1.lits c (List.mem_append.2 (.inl hc))
theorem a8.Ew (h:a8 n F A q) {σ:Nat→Bool} (hσ:gH σ F):gH σ (F++q.2.2.2):=by
 obtain⟨t,h1,_,_,e⟩:=h
 rw[e]
 exact h1.prf.sound hσ fun c hc x hx=>(h1.lits c hc x hx).1
theorem a8.unsat (h:a8 n F A q) (h2:q.1=2) {σ:Nat→Bool} (hσ:gH σ F) (hA:∀x∈A,eh σ x):False:=by
 have hL:=h.Ew hσ
 obtain⟨t,h1,_,_,e⟩:=h
 rcases h1.res with ⟨e1,_⟩|⟨_,_,P,e2,e3,_,e4⟩|⟨e1,_⟩
 ·omega
 ·rw[e,e2] at hL
  obtain⟨y,hy,ht⟩:=hL (t.core.map fun y=> -y) (by simp)
  obtain⟨x,hx,rfl⟩:=List.mem_map.1 hy
  exact(eh.neg (e4 x hx).1).1 ht (hA x (e3 x hx))
 ·omega
theorem a8.sat (h:a8 n F A q) (h2:q.1=1):∃L,sc n F A L∧q.2.1=td n L∧q.2.2.1=[]:=by
 obtain⟨t,h1,e1,e3,_⟩:=h
 rcases h1.res with ⟨_,L,e2,e4,hl⟩|⟨e2,_⟩|⟨e2,_⟩
 ·refine⟨L,hl,?_,by rw[e3,e4]⟩
  rw[e1,e2]
  unfold jT td
  apply List.map_congr_left
  intro i hi
  have hi:=List.mem_range.1 hi
  rw[mA L (by omega)]
  by_cases h3:((i+1:Nat):Int)∈L
  ·rw[if_pos h3,decide_eq_true h3];rfl
  ·rw[if_neg h3,decide_eq_false h3,decide_eq_false_iff_not]
   split<;>omega
 ·omega
 ·omega
theorem a8.DF (h:a8 n F A q) (h2:q.1=1):q.2.1.length=n∧allM q.2.1 F=true:=by
 obtain⟨L,hl,e,_⟩:=h.sat h2
 rw[e]
 refine⟨B3 n L,(il h.vh).1 (gH.congr h.vh (fun u h1 h2=>(ph h1 h2).symm) hl.sat)⟩
theorem a8.iff (h:a8 n F A q) (hn:n≤8) (hA:∀x∈A,Lit n x):q.1=1↔∃v:List Bool,v.length=n∧allM v F=true∧eR v A=true:=by
 constructor
 ·intro h2
  obtain⟨L,hl,e,_⟩:=h.sat h2
  obtain⟨q1,q2⟩:=h.DF h2
  refine⟨q.2.1,q1,q2,?_⟩
  unfold eR
  rw[List.all_eq_true]
  intro x hx
  rw[e,← jl (hA x hx)]
  exact(eh.congr (hA x hx) fun u h1 h2=>(ph h1 h2).symm).1 ((kr hl.trl hl.full (hA x hx)).2 (hl.asm x hx))
 ·rintro⟨v,q1,q2,q3⟩
  rcases h.one hn with e|e
  ·exact e
  ·exfalso
   refine h.unsat e ((il h.vh).2 q2) fun x hx=>(jl (hA x hx)).2 ?_
   unfold eR at q3
   exact List.all_eq_true.1 q3 x hx
end
end Go.Ab
/- Unit propagation's run,and what is derived:the same. -/
namespace Go.Ab
open Go Go.Proofs
theorem p6 {l:List Int}:bP l=true↔∃x∈l,-x∈l:=by
 unfold bP
 rw[List.any_eq_true]
 simp
theorem Gb {vars:Int} {cl:List (List Int)} {az:List Int} {A:Int→Prop} (hv:0≤vars) (dq:∀c∈cl,ay vars c=true) (hw:ay vars az=true) (hc:bP az=false) (hA:∀x∈az,A x):∀x∈(runM vars cl az).1,j7 cl A x:=by
 refine uV hv dq hw hc (fun t=>∀x∈t,j7 cl A x) (fun x hx=> .asm (hA x ((jN az x).1 hx))) fun t c x Bo hI _ ho hx _ _ y hy=>?_
 rcases List.mem_append.1 hy with hy|hy
 ·exact hI y hy
 ·rw[List.mem_singleton.1 hy]
  refine .unit Bo hx fun z hz bx=>?_
  rcases((jP t c [] [x] ho).2 z hz).2 with q|q
  ·exact hI _ q
  ·exact absurd (by simpa using q) bx
theorem CT {vars:Int} {cl:List (List Int)} {c:List Int} (hv:0≤vars) (dq:∀d∈cl,ay vars d=true) (hc:ay vars c=true):cr vars cl c=true↔Iq cl c:=by
 have Pv:∀d∈cl,∀x∈d,x≠0:=fun d hd x hx=>(aY (dq d hd) x hx).1
 have hw:ay vars (c.map fun x=>0 - x)=true:=by
  unfold ay
  rw[List.all_eq_true]
  intro y hy
  obtain⟨x,hx,rfl⟩:=List.mem_map.1 hy
  have:=aY hc x hx
  simp only[decide_eq_true_eq]
  omega
 cases lW:bP (c.map fun x=>0 - x) with
 |true=>
  unfold cr
  rw[if_pos lW]
  refine⟨fun _=>?_,fun _=>rfl⟩
  obtain⟨y,hy,hn⟩:=p6.1 lW
  obtain⟨x,hx,rfl⟩:=List.mem_map.1 hy
  obtain⟨z,hz,e⟩:=List.mem_map.1 hn
  refine .inr ⟨x,hx,?_⟩
  rw[show -x=z by omega];exact hz
 |false=>
  have hF:=tE hv dq hw lW
  unfold cr
  rw[if_neg (by rw[lW];simp),decide_eq_true_eq]
  constructor
  ·intro h
   rcases hF.fin with ⟨q,_⟩|⟨j,hj,_,q⟩
   ·omega
   ·left
    have hd:=Gb (A:=xG c) hv dq hw lW fun x hx=>by
     obtain⟨z,hz,rfl⟩:=List.mem_map.1 hx
     show -(0 - z)∈c
     rw[show -(0 - z)=z by omega];exact hz
    exact⟨cl[j],List.getElem_mem hj,fun y hy=>hd _ (pB (Pv _ (List.getElem_mem hj)) q y hy)⟩
  ·intro h
   rcases hF.fin with ⟨_,q⟩|⟨j,hj,e,_⟩
   ·exfalso
    have hT:=hF.dist
    have cZ:∀x,j7 cl (xG c) x→x∈(runM vars cl (c.map fun x=>0 - x)).1:=fun x hx=>by
     induction hx with
     | @asm x h=>
      rw[hF.mem]
      exact List.mem_append.2 (.inl (List.mem_map.2 ⟨-x,h,by omega⟩))
     | @unit d x hd hx _ ih=>exact oA hT (Pv d hd) (q d hd) ih
    rcases h with ⟨d,hd,dV⟩|⟨x,h1,h2⟩
    ·have:=oA (x:=0) hT (Pv d hd) (q d hd) fun y hy _=>cZ _ (dV y hy)
     exact(hT.2 0 this).1 rfl
    ·have:bP (c.map fun x=>0 - x)=true:=p6.2 ⟨0 - x,List.mem_map.2 ⟨x,h1,rfl⟩,List.mem_map.2 ⟨-x,h2,by omega⟩⟩
     rw[lW] at this;cases this
   ·omega
end Go.Ab
/- The laws through the layers:the examples at their heads. -/
namespace Go.Ab
open Go Go.Proofs
set_option maxRecDepth 20000
set_option maxHeartbeats 8000000
def cI (P:List (List Int)):List bT:=P.map fun l=>⟨1,l,0⟩
theorem sb (P:List (List Int)):P.map j6=(cI P).map encS:=by
 unfold cI
 rw[List.map_map];rfl
theorem xf {v:Int} {cl:List (List Int)} {s:List (List Int)}:lV ⟨v,cl,s⟩ (cM v cl) [] where
 len:=fun v h1 h2=>h1
 all:=fun v h1 h2=>h2
 pre:=fun v h1 h2=>⟨[],by rw[List.append_nil];rfl⟩
 noref:=fun hr v h1 h2=>by
  have hr:(cl.any fun c=>decide ((c.length:Int)=0))=true:=hr
  obtain⟨c,hc,h0⟩:=List.any_eq_true.1 hr
  have h0:c=[]:=List.eq_nil_of_length_eq_zero (by simpa using h0)
  have:=List.all_eq_true.1 h2 c hc
  rw[h0] at this
  simp [cQ] at this
def nQ (n:Nat) (cl syms:List (List Int)) (l:List bT):Bool:=decide ((dc ⟨n,cl,syms⟩ (cM n cl) l).2=l.length) && (dc ⟨n,cl,syms⟩ (cM n cl) l).1.ref
theorem pz {n:Nat} {cl syms:List (List Int)} {l:List bT} (cZ:Ei n cl syms l) (h:nQ n cl syms l=true) {v:List Bool} (h1:v.length=n) (h2:allM v cl=true):False:=by
 unfold nQ at h
 rw[Bool.and_eq_true,decide_eq_true_eq] at h
 exact(r7 (e:=⟨n,cl,syms⟩) (fun c hc=>(cZ.dq c hc).1) (by show(0:Int)≤n;omega) l xf cZ.ok cZ.hl.2 h.1).2 h.2 v (by rw[h1]) h2
theorem Gf {n:Nat} {cl syms:List (List Int)} {l:List bT} (cZ:Ei n cl syms l) {v:List Bool} (h1:v.length=n) (h2:allM v cl=true):nQ n cl syms l=false:=by
 cases h:nQ n cl syms l with
 |false=>rfl
 |true=>exact(pz cZ h h1 h2).elim
theorem Gh {n:Nat} {P:List (List Int)} (h:∀c∈P,c.length≤n):wS (cI P)≤P.length*(n+1):=by
 induction P with
 |nil=>simp [wS,cI]
 |cons c P ih=>
  have h1:=ih fun d hd=>h d (by simp [hd])
  have h2:=h c (by simp)
  unfold wS cI at*
  simp only[List.map_cons,List.sum_cons,List.length_cons,Nat.add_mul]
  omega
theorem a8.P3 {n:Nat} {F:List (List Int)} {A:List Int} {q:Int×List Bool×List Int×List (List Int)} (h:a8 n F A q) (hn:n≤8) {G:List (List Int)} (hG:∀c∈G,ay n c=true∧c.length≤1000) (hGl:G.length≤1000):Ei n G [] (cI q.2.2.2):=by
 obtain⟨t,h1,_,_,e⟩:=h
 have hlen:∀c∈t.proof,c.length≤2*n+2:=fun c hc=>by
  have:=eL (n:=2*n+2) (l:=c.map aq) (by
   unfold List.Nodup
   rw[List.pairwise_map]
   exact(h1.nd c hc).imp_of_mem fun {a b} ha hb mo e=>mo (cB (h1.lits c (List.mem_append.2 (.inr hc)) a ha) (h1.lits c (List.mem_append.2 (.inr hc)) b hb) (by rw[e]))) fun v hv=>by
   obtain⟨a,ha,rfl⟩:=List.mem_map.1 hv
   have:=cL (h1.lits c (List.mem_append.2 (.inr hc)) a ha)
   omega
  simpa using this
 have hw:=Gh hlen
 have hp:=h1.plen2
 rw[e]
 refine⟨by omega,hG,hGl,⟨by simp,fun c hc=>by simp at hc⟩,⟨?_,fun s hs=>?_⟩,by unfold cI;rw[List.length_map];exact hp⟩
 ·have:t.proof.length*(2*n+2+1)≤20000*19:=Nat.mul_le_mul hp (by omega)
  omega
 ·unfold cI at hs
  obtain⟨c,hc,rfl⟩:=List.mem_map.1 hs
  have:=hlen c hc
  show c.length≤900
  omega
abbrev IG:List (List Int):=[[1,2],[-1,2],[1,-2]]
abbrev LW:List (List Int):=[[1,2],[-1,2],[1,-2],[-1,-2]]
theorem EM:∀v:List Bool,v.length=2→allM v IG=true→v=[true,true]:=by
 intro v h1 h2
 match v,h1 with
 |[a,b],_=>cases a<;>cases b<;>first|rfl|(exfalso;revert h2;decide)
theorem By:∀v:List Bool,v.length=2→allM v LW=true→False:=by
 intro v h1 h2
 match v,h1 with
 |[a,b],_=>cases a<;>cases b<;>(revert h2;decide)
theorem Cv {F:List (List Int)} (h:(F.all fun c=>c.all fun x=>decide (x≠0∧ -2≤x∧x≤2))=true):∀c∈F,∀x∈c,Lit 2 x:=fun c hc x hx=>by
 rw[List.all_eq_true] at h
 have:=List.all_eq_true.1 (h c hc) x hx
 simp only[decide_eq_true_eq] at this
 exact⟨this.1,by omega,by omega⟩
theorem vA {F:List (List Int)} (h:∀c∈F,∀x∈c,Lit 2 x) (h2:(F.all fun c=>decide (c.length≤2))=true):(∀c∈F,c.length≤1000000∧∀x∈c,Lit 2 x)∧∀c∈F,ay (2:Nat) c=true∧c.length≤1000:=by
 rw[List.all_eq_true] at h2
 refine⟨fun c hc=>⟨by have:=h2 c hc;simp at this;omega,h c hc⟩,fun c hc=>⟨?_,by have:=h2 c hc;simp at this;omega⟩⟩
 unfold ay
 rw[List.all_eq_true]
 intro x hx
 obtain⟨_,_,_⟩:=h c hc x hx
 simp only[decide_eq_true_eq]
 omega
theorem N1:ay (2:Nat) [1]=true:=by decide
attribute [local irreducible] AW aa bE aX AR bd aW bm bD canon hU eI iX kb gE ay df cr dc cC
theorem Dd:Fn Tryz.prog 5 [] (aF true):=by
 obtain⟨f1,f2⟩:=vA (F:=IG) (Cv (by decide)) (by decide)
 obtain⟨g1,g2⟩:=vA (F:=LW) (Cv (by decide)) (by decide)
 have h1:=n6 2 IG [] (by omega) (by simp) f1 (by simp) (by simp)
 have h2:=n6 2 LW [1] (by omega) (by simp) g1 (by intro x hx;simp at hx;subst hx;exact⟨by omega,by omega,by omega⟩) (by simp)
 refine Fn.enter (n:=77) Tryz.func5 rfl rfl rfl rfl rfl (by decide) fun g aU aT=>?_;(try refine nz ?_)
 (refine l7 ?_;refine Ld ?_;refine aa.O3 rfl rfl rfl rfl rfl rfl rfl rfl rfl rfl rfl rfl rfl rfl ?_;refine Lm ?_;refine aa.ED rfl rfl ?_;refine nz ?_;(with_reducible apply aa.eH (hf:=h1));(with_reducible assumption);(iterate 3 exact rfl);(repeat (first|exact trivial|refine⟨rfl,?_⟩));(repeat (first|exact .nil|(refine .cons ?_ ?_;(first|exact .eq rfl rfl|exact .nil _|exact .any _))));(intro x_;exact rfl);exact rfl;(repeat (first|exact trivial|refine⟨rfl,?_⟩|refine⟨aN,?_⟩));(intro x_;(repeat (first|exact trivial|refine⟨rfl,?_⟩|refine⟨aN,?_⟩)));(intro x_;exact rfl);exact rfl;(intro x_ kH);refine Q1 ?_;refine nz ?_;refine Is ?_;refine zd ?_;refine AW.gf 3 ?_)
 obtain⟨k,vals,core,P⟩:=x_
 have hs:=kH
 simp only at hs ⊢
 have hk:k=1:=(hs.iff (by omega) (by simp)).2 ⟨[true,true],rfl,by decide,by decide⟩
 subst hk
 obtain⟨q1,q2⟩:=hs.DF rfl
 have hv:=EM vals q1 q2
 subst hv
 refine Stop.go ?_
 (refine d_ ?_;refine A1 ?_;refine nz ?_;refine Ld ?_;refine aa.BT rfl rfl ?_;refine nz ?_;refine aa.O_ rfl rfl rfl rfl rfl rfl rfl rfl rfl rfl rfl rfl rfl rfl rfl rfl rfl ?_;refine Lm ?_;refine pb ?_;refine aa.ED rfl rfl ?_;refine nz ?_;refine aa.ED rfl rfl ?_;refine nz ?_;(with_reducible apply aa.eH (hf:=h2));(with_reducible assumption);(iterate 3 exact rfl);(repeat (first|exact trivial|refine⟨rfl,?_⟩));(repeat (first|exact .nil|(refine .cons ?_ ?_;(first|exact .eq rfl rfl|exact .nil _|exact .any _))));(intro x_;exact rfl);exact rfl;(repeat (first|exact trivial|refine⟨rfl,?_⟩|refine⟨aN,?_⟩));(intro x_;(repeat (first|exact trivial|refine⟨rfl,?_⟩|refine⟨aN,?_⟩)));(intro x_;exact rfl);exact rfl;(intro x_ kH);refine Q1 ?_;refine nz ?_;refine Is ?_;refine zd ?_;refine zo ?_;refine AW.gf 5 ?_)
 obtain⟨k2,vals2,core2,P2⟩:=x_
 have hs2:=kH
 simp only at hs2 ⊢
 refine Stop.go ?_
 have hk2:k2=2:=(hs2.one (by omega)).resolve_left fun e=>by
  obtain⟨q1,q2⟩:=hs2.DF e
  exact By vals2 q1 q2
 subst hk2
 have dq:core2.length≤1∧0<P2.length:=by
  obtain⟨t,t1,_,t2,t3⟩:=hs2
  rcases t1.res with ⟨e,_⟩|⟨_,_,Q,e1,e2,e3,_⟩|⟨e,_⟩
  ·cases e
  ·have t2:core2=t.core:=t2
   have t3:P2=t.proof:=t3
   refine⟨?_,by rw[t3,e1];simp⟩
   rw[t2]
   match t.core,e2,e3 with
   |[],_,_=>simp
   |[a],_,_=>simp
   |a::b::r,e2,e3=>
    exfalso
    have ha:=e2 a (by simp)
    have hb:=e2 b (by simp)
    simp at ha hb
    subst ha
    subst hb
    simp at e3
  ·cases e
 obtain⟨c1,c2⟩:=dq
 have cZ:=hs2.P3 (by omega) (G:=IG) f2 (by simp)
 have hr:=qa (2:Nat) IG [] (cI P2) cZ
 have Bv:nQ 2 IG [] (cI P2)=false:=by
  cases h:nQ 2 IG [] (cI P2) with
  |false=>rfl
  |true=>exact(pz cZ h (v:=[true,true]) rfl (by decide)).elim
 unfold nQ at Bv
 rw[Bv] at hr
 rw[show steps (cI P2)=PV.slice 3 (P2.map j6) from by rw[sb]] at hr
 have hi:=yD (2:Nat) LW [1] ⟨by omega,fun c hc=>⟨(g2 c hc).1,by have:=(g2 c hc).2;omega⟩,by simp⟩ (by simp) N1
 rw[show cr (2:Nat) LW [1]=true by decide+kernel] at hi
 have hP:¬((P2.length:Nat):Int)=0:=by omega
 (refine d_ ?_;refine oV ?_;refine aa.neq rfl rfl rfl rfl rfl ?_;refine l9 ?_;refine zn ?_;refine z6 ?_;refine zd ?_;refine lP ?_;refine nV ?_;refine aa.eql rfl rfl rfl rfl rfl ?_;(iterate 2 refine Oe ?_);refine l9 ?_;refine aa.eql rfl rfl rfl rfl rfl ?_;refine aa.bL rfl rfl rfl rfl rfl rfl ?_;refine l9 ?_;refine zn ?_;refine zl ?_;refine aa.leq rfl rfl rfl rfl rfl ?_;refine aa.bL rfl rfl rfl rfl rfl rfl ?_;refine zm ?_;refine zt ?_;refine zL ?_;refine nz ?_;refine j8 ?_;refine zA (hr) ?_;refine zt ?_;refine aa.not rfl rfl rfl ?_;refine zT ?_;refine jY ?_;refine zL ?_;refine nz ?_;refine zl ?_;refine pb ?_;refine zl ?_;refine zA (hi) ?_;refine aa.bL rfl rfl rfl rfl rfl rfl ?_;refine fL ?_)
 (apply ax;(exact bA.one (.tmp rfl rfl));(refine Le.aF ?_;(first|rfl)))
end Go.Ab
/- The laws through the layers:learned clauses are redundant. -/
namespace Go.Ab
open Go Go.Proofs
open Nat (reduceAdd reduceSub)
set_option maxRecDepth 20000
set_option maxHeartbeats 8000000
theorem sc.uniq {n:Nat} {F G:List (List Int)} {A L M:List Int} (h1:sc n F A L) (h2:sc n G A M) (jD:∀x∈A,Lit n x) (hs:∀σ,gH σ F↔gH σ G):td n L=td n M:=by
 have key:∀v:Nat,1≤v→v≤n→j4 L v=j4 M v:=by
  intro v
  induction v using Nat.strongRecOn with
  |ind v ih=>
   intro q1 q2
   have e1:=fun h=>h1.min (j4 M) ((hs _).2 h2.sat) (fun x hx=>(kr h2.trl h2.full (jD x hx)).2 (h2.asm x hx)) v q1 q2 (fun u p1 p2=>(ih u p2 p1 (by omega)).symm) h
   have e2:=fun h=>h2.min (j4 L) ((hs _).1 h1.sat) (fun x hx=>(kr h1.trl h1.full (jD x hx)).2 (h1.asm x hx)) v q1 q2 (fun u p1 p2=>ih u p2 p1 (by omega)) h
   cases ha:j4 L v with
   |true=>rw[e1 ha]
   |false=>
    cases hb:j4 M v with
    |false=>rfl
    |true=>rw[e2 hb] at ha;cases ha
 unfold td
 apply List.map_congr_left
 intro i hi
 exact key (i+1) (by omega) (by have:=List.mem_range.1 hi;omega)
theorem a8.same {n:Nat} {F G:List (List Int)} {A:List Int} {q r:Int×List Bool×List Int×List (List Int)} (hq:a8 n F A q) (hr:a8 n G A r) (hn:n≤8) (hA:∀x∈A,Lit n x) (hs:∀σ,gH σ F↔gH σ G):q.1=r.1∧(q.1=1→q.2.1=r.2.1):=by
 have Pd:q.1=1↔r.1=1:=by
  rw[hq.iff hn hA,hr.iff hn hA]
  constructor
  ·rintro⟨v,p1,p2,p3⟩
   exact⟨v,p1,(il hr.vh).1 ((hs _).1 ((il hq.vh).2 p2)),p3⟩
  ·rintro⟨v,p1,p2,p3⟩
   exact⟨v,p1,(il hq.vh).1 ((hs _).2 ((il hr.vh).2 p2)),p3⟩
 have h1:=hq.one hn
 have h2:=hr.one hn
 refine⟨by omega,fun h=>?_⟩
 obtain⟨L,l1,l2,_⟩:=hq.sat h
 obtain⟨M,m1,m2,_⟩:=hr.sat (Pd.1 h)
 rw[l2,m2]
 exact l1.uniq m1 hA hs
theorem a8.GN {n:Nat} {F:List (List Int)} {A:List Int} {q:Int×List Bool×List Int×List (List Int)} (h:a8 n F A q):∀c∈q.2.2.2,c.length≤2*n+2:=fun c hc=>by
 obtain⟨t,h1,_,_,e⟩:=h
 rw[e] at hc
 have:=eL (n:=2*n+2) (l:=c.map aq) (by
  unfold List.Nodup
  rw[List.pairwise_map]
  exact(h1.nd c hc).imp_of_mem fun {a b} ha hb mo e=>mo (cB (h1.lits c (List.mem_append.2 (.inr hc)) a ha) (h1.lits c (List.mem_append.2 (.inr hc)) b hb) (by rw[e]))) fun v hv=>by
  obtain⟨a,ha,rfl⟩:=List.mem_map.1 hv
  have:=cL (h1.lits c (List.mem_append.2 (.inr hc)) a ha)
  omega
 simpa using this
theorem jz {n:Nat} {c:List Int} (h:∀x∈c,Lit n x):ay n c=true:=by
 unfold ay
 rw[List.all_eq_true]
 intro x hx
 obtain⟨_,_,_⟩:=h x hx
 simp only[decide_eq_true_eq]
 omega
attribute [local irreducible] AW aa bE aX AR bd aW bm bD canon hU eI iX kb gE ay df cr dc cC gy
theorem C_ (a:List Bool) (ha:a.length≤1000000):Fn Tryz.prog 13 [.pv (jj a),.pv (jj a)] (aF true):=by
 refine Fn.enter (n:=26) Tryz.func13 rfl rfl rfl rfl rfl (by decide) fun g aU aT=>?_;(try refine nz ?_)
 refine AW.cF 0 rfl fun hlen=>?_
 (refine Jt ?_;refine kn ?_)
 (refine nz ?_;apply AW.bM [0,1] [] (fun i:Nat=>([(5,al i)]:List (Nat×AV))) (fun i:Nat=>([]:List (Nat×Option Ob))) (fun i:Nat=>i≤a.length) (fun i:Nat=>a.length - i) (0);(conv=>lhs;simp only[Nf.gQ,Nf.all,Nat.reduceBEq,reduceAdd,reduceSub]);(all_goals skip))
 ·exact Nat.zero_le _
 ·exact GY
 rintro i hi
 by_cases aM:i<a.length
 ·cases hc:a[i] with
  |true=>
   (refine Cq ?_;refine Q5 ?_;refine zo ?_;(with_reducible apply AW.bu);exact rfl;exact rfl;kernel_rfl;(with_reducible assumption);(iterate 2 refine zm ?_);(focus ((with_reducible apply aa.aj);(iterate 7 exact rfl);rotate_left;omega));refine zr ?_;(iterate 2 refine zm ?_);(focus ((with_reducible apply aa.aj);(iterate 7 exact rfl);rotate_left;omega));refine zr ?_;refine aa.Mj rfl rfl rfl rfl rfl rfl ?_;refine zd ?_;(focus ((with_reducible apply AW.lI);exact rfl;exact rfl;all_goals intro jW));refine d_ ?_;refine kf ?_;(all_goals skip);rotate_left;refine AW.skip ?_;refine lz ?_;(all_goals skip);rotate_left)
   all_goals first|exact absurd rfl jW|exact⟨i+1,by omega,by omega,aO rfl (by(refine⟨.eq rfl rfl,?_⟩;exact ta)) (by(exact trivial)) rfl⟩
  |false=>
   (refine Cq ?_;refine Q5 ?_;refine zo ?_;(with_reducible apply AW.bu);exact rfl;exact rfl;kernel_rfl;(with_reducible assumption);(iterate 2 refine zm ?_);(focus ((with_reducible apply aa.aj);(iterate 7 exact rfl);rotate_left;omega));refine zr ?_;(iterate 2 refine zm ?_);(focus ((with_reducible apply aa.aj);(iterate 7 exact rfl);rotate_left;omega));refine zr ?_;refine aa.Mj rfl rfl rfl rfl rfl rfl ?_;refine zd ?_;(focus ((with_reducible apply AW.lI);exact rfl;exact rfl;all_goals intro jW));refine d_ ?_;refine kf ?_;(all_goals skip);rotate_left;refine AW.skip ?_;refine lz ?_;(all_goals skip);rotate_left)
   all_goals first|exact absurd rfl jW|exact⟨i+1,by omega,by omega,aO rfl (by(refine⟨.eq rfl rfl,?_⟩;exact ta)) (by(exact trivial)) rfl⟩
 ·(refine uN ?_)
  (apply ax;(exact bA.one (.tmp rfl rfl));(refine Le.aF ?_;(rfl)))
end Go.Ab
/- Assignments by number. -/
namespace Go.Ab
open Go Go.Proofs
def cq:Nat→Nat→List Bool
 |0,_=>[]
 |n+1,k=>cq n (k / 2)++ [decide (k % 2=1)]
theorem eM:∀n k,(cq n k).length=n
 |0,_=>rfl
 |n+1,k=>by simp [cq,eM n]
theorem gV {n k u:Nat} (h:u<n):(cq (n+1) k).getD u false=(cq n (k / 2)).getD u false:=by
 rw[cq,List.getD_eq_getElem?_getD,List.getD_eq_getElem?_getD,List.getElem?_append_left (by rw[eM];exact h)]
theorem sI {n k:Nat}:(cq (n+1) k).getD n false=decide (k % 2=1):=by
 rw[cq,List.getD_eq_getElem?_getD,List.getElem?_append_right (by rw[eM];exact Nat.le_refl _),eM,Nat.sub_self]
 rfl
theorem vp:∀{n i m:Nat},i<m→m<2 ^ n→∃v,v<n∧(∀u,u<v→(cq n i).getD u false=(cq n m).getD u false)∧(cq n i).getD v false=false∧(cq n m).getD v false=true
 |0,i,m,h1,h2=>by simp at h2;omega
 |n+1,i,m,h1,h2=>by
  rw[Nat.pow_succ] at h2
  by_cases h:i / 2<m / 2
  ·obtain⟨v,q1,q2,q3,q4⟩:=vp (n:=n) h (by omega)
   exact⟨v,by omega,fun u hu=>by rw[gV (by omega),gV (by omega)];exact q2 u hu,by rw[gV q1];exact q3,by rw[gV q1];exact q4⟩
  ·have he:i / 2=m / 2:=by omega
   refine⟨n,by omega,fun u hu=>by rw[gV hu,gV hu,he],?_,?_⟩
   ·rw[sI,decide_eq_false_iff_not];omega
   ·rw[sI,decide_eq_true_eq];omega
theorem q6:∀{n:Nat} {l:List Bool},l.length=n→∃k,k<2 ^ n∧cq n k=l
 |0,l,h=>⟨0,by simp,by rw[List.eq_nil_of_length_eq_zero h];rfl⟩
 |n+1,l,h=>by
  obtain⟨k,h1,h2⟩:=q6 (n:=n) (l:=l.dropLast) (by rw[List.length_dropLast,h];rfl)
  have bx:l≠ []:=by intro e;rw[e] at h;simp at h
  have hl:=List.dropLast_concat_getLast bx
  rw[Nat.pow_succ]
  cases hb:l.getLast bx with
  |true=>
   refine⟨2*k+1,by omega,?_⟩
   rw[cq,show(2*k+1) / 2=k by omega,h2,decide_eq_true (show(2*k+1) % 2=1 by omega),← hb]
   exact hl
  |false=>
   refine⟨2*k,by omega,?_⟩
   rw[cq,show(2*k) / 2=k by omega,h2,decide_eq_false (show ¬(2*k) % 2=1 by omega),← hb]
   exact hl
def jX (n:Nat) (cl:List (List Int)) (a:List Int) (i:Nat):Bool:=allM (cq n i) cl && eR (cq n i) a
end Go.Ab
/- The solver's proof is one for the checker;the least assignment's number. -/
namespace Go.Ab
open Go Go.Proofs
set_option maxRecDepth 20000
set_option maxHeartbeats 4000000
theorem uC {e:kj} {s:iT} {c:List Int} (h1:ay s.vars c=true) (h2:cr s.vars s.cl c=true):cC e s ⟨1,c,0⟩=some (qx s c):=by
 rw[s9 rfl,hY,if_pos ⟨rfl,h1,h2⟩]
theorem sH {e:kj} {n:Nat} {F P:List (List Int)} (M5:oG F P) (hl:∀c∈F++P,∀x∈c,Lit n x):∀(k i:Nat),i+k=P.length→∀s:iT,s.vars=n→s.cl=F++P.take i→(dc e s (cI (P.drop i))).2=k∧(dc e s (cI (P.drop i))).1.ref=(s.ref||(P.drop i).any fun c=>decide ((c.length:Int)=0))
 |0,i,h,s,h1,h2=>by
  rw[List.drop_of_length_le (show P.length≤i by omega)]
  exact⟨rfl,by simp [cI,dc]⟩
 |k+1,i,h,s,h1,h2=>by
  have hi:i<P.length:=by omega
  have hPi:∀x∈P[i],Lit n x:=hl _ (List.mem_append.2 (.inr (List.getElem_mem hi)))
  have hr:cr n (F++P.take i) P[i]=true:=(CT (by omega) (fun d hd=>jz (hl d (by
   rcases List.mem_append.1 hd with q|q
   ·exact List.mem_append.2 (.inl q)
   ·exact List.mem_append.2 (.inr (List.mem_of_mem_take q))))) (jz hPi)).2 (M5 i hi)
  have hs:cC e s ⟨1,P[i],0⟩=some (qx s P[i]):=uC (by rw[h1];exact jz hPi) (by rw[h1,h2];exact hr)
  have ih:=sH (e:=e) M5 hl k (i+1) (by omega) (qx s P[i]) h1 (by
   show s.cl++ [P[i]]=_
   rw[h2,List.append_assoc,← List.take_succ_eq_append_getElem hi])
  rw[List.drop_eq_getElem_cons hi,show cI (P[i]::P.drop (i+1))=⟨1,P[i],0⟩::cI (P.drop (i+1)) from rfl,rX hs]
  refine⟨by rw[ih.1],?_⟩
  rw[ih.2,List.any_cons]
  show((s.ref||_)||_)=_
  rw[Bool.or_assoc]
section
variable {n:Nat} {F:List (List Int)} {A:List Int} {q:Int×List Bool×List Int×List (List Int)}
theorem a8.run {e:kj} (h:a8 n F A q):(dc e (cM n F) (cI q.2.2.2)).2=q.2.2.2.length∧(dc e (cM n F) (cI q.2.2.2)).1.ref=((F.any fun c=>decide ((c.length:Int)=0))||q.2.2.2.any fun c=>decide ((c.length:Int)=0)):=by
 obtain⟨t,h1,_,_,e⟩:=h
 rw[e]
 exact sH h1.prf h1.lits t.proof.length 0 (by omega) (cM n F) rfl (by simp [cM])
theorem a8.core (h:a8 n F A q) (h2:q.1=2):∃P,q.2.2.2=P++ [q.2.2.1.map fun y=> -y]∧(∀y∈q.2.2.1,y∈A)∧(∀y∈q.2.2.1,Lit n y)∧q.2.2.1.length≤2*n+2:=by
 have BK:=h.GN
 obtain⟨t,h1,_,e3,e⟩:=h
 rcases h1.res with ⟨e1,_⟩|⟨_,_,P,e2,e4,_,e5⟩|⟨e1,_⟩
 ·omega
 ·rw[e3]
  refine⟨P,by rw[e,e2],e4,e5,?_⟩
  have:=BK (t.core.map fun y=> -y) (by rw[e,e2];simp)
  simpa using this
 ·omega
theorem a8.Nd (h:a8 n F A q):∀c∈q.2.2.2,∀x∈c,Lit n x:=by
 obtain⟨t,h1,_,_,e⟩:=h
 rw[e]
 exact fun c hc=>h1.lits c (List.mem_append.2 (.inr hc))
theorem a8.plen (h:a8 n F A q):q.2.2.2.length≤20000:=by
 obtain⟨t,h1,_,_,e⟩:=h
 rw[e]
 exact h1.plen2
theorem a8.nQ (h:a8 n F A q) (h2:q.1=2) (hA:A=[]):nQ n F [] (cI q.2.2.2)=true:=by
 obtain⟨P,e,hc,_,_⟩:=h.core h2
 have hr:=h.run (e:=⟨n,F,[]⟩)
 have hc0:q.2.2.1=[]:=by
  cases e2:q.2.2.1 with
  |nil=>rfl
  |cons x l=>
   have:=hc x (by rw[e2];simp)
   rw[hA] at this;simp at this
 unfold Go.Ab.nQ
 rw[hr.1,hr.2,Bool.and_eq_true,decide_eq_true_eq]
 refine⟨by unfold cI;rw[List.length_map],?_⟩
 rw[Bool.or_eq_true]
 right
 rw[List.any_eq_true]
 exact⟨_,by rw[e];exact List.mem_append.2 (.inr (List.mem_singleton.2 rfl)),by rw[hc0];rfl⟩
end
theorem EY {v:List Bool} {u:Nat}:xq v (u+1)=v.getD u false:=rfl
section
variable {n:Nat} {F:List (List Int)} {A:List Int} {q:Int×List Bool×List Int×List (List Int)}
theorem a8.least (h:a8 n F A q) (hn:n≤8) (hA:∀x∈A,Lit n x) {i:Nat} (hg:jX n F A i=true) (nt:∀j,j<i→jX n F A j=false):q.1=1∧q.2.1=cq n i:=by
 unfold jX at hg
 rw[Bool.and_eq_true] at hg
 have h1:q.1=1:=(h.iff hn hA).2 ⟨_,eM n i,hg.1,hg.2⟩
 refine⟨h1,?_⟩
 obtain⟨L,hL,e,_⟩:=h.sat h1
 obtain⟨q1,q2⟩:=h.DF h1
 obtain⟨m,hm,em⟩:=q6 q1
 have M_:jX n F A m=true:=by
  unfold jX
  rw[em,q2,Bool.true_and]
  unfold eR
  rw[List.all_eq_true]
  intro x hx
  rw[e,← jl (hA x hx)]
  exact(eh.congr (hA x hx) fun u h1 h2=>(ph h1 h2).symm).1 ((kr hL.trl hL.full (hA x hx)).2 (hL.asm x hx))
 rw[← em]
 by_cases Nb:m=i
 ·rw[Nb]
 ·exfalso
  have Br:i<m:=by
   by_cases aM:m<i
   ·rw[nt m aM] at M_;cases M_
   ·omega
  obtain⟨v,v1,v2,v3,v4⟩:=vp Br hm
  have kT:∀u,u<n→j4 L (u+1)=(cq n m).getD u false:=fun u hu=>by
   rw[em,e,← ph (n:=n) (by omega) (by omega)];rfl
  have:=hL.min (xq (cq n i)) ((il h.vh).2 hg.1) (fun x hx=>(jl (hA x hx)).2 (List.all_eq_true.1 hg.2 x hx)) (v+1) (by omega) (by omega) (fun u u1 u2=>by
   obtain⟨w,rfl⟩:∃w,u=w+1:=⟨u - 1,by omega⟩
   rw[kT w (by omega)]
   exact v2 w (by omega)) (by rw[kT v v1];exact v4)
  rw[EY,v3] at this
  cases this
theorem a8.EL (h:a8 n F A q) (hn:n≤8) (hA:∀x∈A,Lit n x) (nt:∀j,j<2 ^ n→jX n F A j=false):q.1=2:=by
 rcases h.one hn with h1|h1
 ·exfalso
  obtain⟨v,q1,q2,q3⟩:=(h.iff hn hA).1 h1
  obtain⟨m,hm,em⟩:=q6 q1
  have:=nt m hm
  unfold jX at this
  rw[em,q2,q3] at this
  cases this
 ·exact h1
end
end Go.Ab
