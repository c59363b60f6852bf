/- Decoding the image of an assignment yields the image of the decoded model. No conditions. -/
import Derived.Test.YtcklfjkaadfjjaaGreatAwD5
import Derived.Test.YtcklfjkaadfjjaaGreatAbZ
import Derived.Test.YtcklfjkaadfjjaaGreatAbL3
import Derived.Test.YtcklfjkaadfjjaaGreatAwE8
import Derived.Test.YtcklfjkaadfjjaaGreatAbL2
import Derived.Test.YtcklfjkaadfjjaaGreatRows
import Derived.WalkKit
import Derived.ProofKit
import Derived.OpenShut
import Derived.ChangeOld
import Derived.Below
set_option linter.unusedSimpArgs false
set_option linter.unusedVariables false
open List renaming length_append→bV,map_append→cV,map_set→cz,getElem?_append_left→aQ
open Nat renaming reduceBEq→c6,zero_le→bg
namespace Go.Ab
open Go Go.Proofs
open Nat (reduceAdd reduceSub)
set_option maxRecDepth 100000
set_option maxHeartbeats 16000000
theorem MK (o o':Int) (st:Nat) (fr:List (Int×Int)) (vr:Int→Bool):(iy o st fr vr).length=(iy o' st fr vr).length:=by
 unfold iy
 rw[bV,bV,hY,hY]
theorem HC (s:gu) (m:uf) (G8:s.fields.length≤1000):Fn Tryz.prog 22 [De s,GQ m] (fe (ye (lH m.atoms) s m)):=
 Mt (lH m.atoms) s m G8 fun S3 f _ hc=>by
  obtain⟨h1,h2,h3,h4,h5,h6,h7⟩:=tP S3
  rw[← h2] at hc
  exact⟨by have:=pg (wK hc h7 h6);omega,Oz _ _ _ hc h7 aG⟩
structure YL (s:gu) (at':List Int) (m:Nat) (bs:List gv) (p lp:List Int) (w:List Bool):Prop where
 ex:∃a b c:uf,∃wi:List Bool,Fn Tryz.prog 20 [De s,pI at' (m:Int),.pv (oW bs),.pv (lS w)] (GQ a)∧Fn Tryz.prog 21 [.pv (lS w),.pv (ints lp)] (.pv (lS wi))∧
  Fn Tryz.prog 20 [De s,pI at' (m:Int),.pv (oW bs),.pv (lS wi)] (GQ c)∧Fn Tryz.prog 22 [De s,GQ a] (fe true)∧Fn Tryz.prog 24 [.pv (ints p),GQ a] (GQ b)∧Fn Tryz.prog 23 [GQ b,GQ c] (fe true)
theorem Vu {s:gu} {at':List Int} {m n:Nat} {bs:List gv} {p:List Int} (h:iE s at' m n bs) (hf:kd s at' (m:Int)=true) (hp:yJ n (l_ at') (R7 s.sorts at') (k9 s.fields) bs p) (w:List Bool) (hw:w.length≤1000)
  (Ql:(nT 0 p.length (k9 s.fields) m (pE s.fields) bs p).length≤1000):YL s at' m bs p (nT 0 p.length (k9 s.fields) m (pE s.fields) bs p) w:=by
 have kp:=h.lit hp
 have G8:=h.fit.fs
 have BK:=h.a4
 have pC:iL (nT 0 p.length (k9 s.fields) m (pE s.fields) bs p):=by
  rw[hp.perm.len]
  exact(yw h.n1 h.LR hp).ok
 have s_:=HC s (rM s at' m bs w) (by omega)
 rw[show(rM s at' m bs w).atoms=at' from rfl,I0 h hf w] at s_
 have hx:=HL h w
 have sB:=hp.perm.len
 have GC:=h.n1
 have WK:=h.n5
 have ij:=h.stb
 have hmo:=Ix p (rM s at' m bs w) (iF:=l_ at') (by rw[sB];exact hp.perm) (fun _ _ _=>by omega) aG hx (by rw[show(rM s at' m bs w).states.length=m from oK _ _ _];omega)
 have heq:=I9 (xj p (rM s at' m bs w)) (rM s at' m bs (nU w (nT 0 p.length (k9 s.fields) m (pE s.fields) bs p)))
 rw[FT h hp w,decide_eq_true rfl] at heq
 rw[FT h hp w] at hmo
 exact⟨_,_,_,_,Ar s at' m bs w p aG kp aG h.dec,Kf w _ pC Ql,Ar s at' m bs _ p (by rw[Bb];omega) kp aG h.dec,s_,hmo,heq⟩
attribute [local irreducible] AW a_ fT ff AR fh e6 fp fA oA iy fJ nT
theorem Je (s:gu) (at':List Int) (st:Int) (raw:List (List Int)) (P Q:Int) (vals:List Bool) (loop:Int) (Ka:∀r∈raw,∀x∈r,0≤x∧x≤255) (hP:0≤P∧P≤65535) (hQ:0≤Q∧Q≤65535) (UF:0≤loop∧loop≤255):
  Fn Tryz.prog 4 [F_ s at' st raw P Q,.pv (lS vals),Xv loop] (fe true):=by
 have hm:=FM s at' st raw P Q Ka hP hQ
 rcases hm with hm|⟨n,m,bs,p,q,hM,OK⟩
 ·obtain⟨so,fs,pr,fa⟩:=s
  refine Fn.enter (n:=115) Tryz.func4 rfl rfl rfl rfl rfl (by decide) fun g fu fw=>?_;(try refine nz ?_)
  (refine tc ?_;refine zA (Af) ?_;refine nv ?_;refine j4 ?_;refine zA (hm) ?_;refine a_.oQ rfl rfl rfl ?_;(iterate 5 refine a_.extract rfl rfl rfl rfl ?_);(iterate 5 refine za ?_);refine zd ?_;refine Hw ?_;refine zm ?_;refine a_.not rfl rfl rfl ?_;refine tn ?_;refine zm ?_;refine Dl ?_)
  (apply c_;(exact fZ.one (.tmp rfl rfl));(refine Le.fe ?_;(rfl)))
 obtain⟨rfl,pC,hp,hq,Se,hm⟩:=hM
 have sp:=GK.1 hp
 have kp:=pC.lit sp
 have ij:=pC.stb
 rw[MK 1 0] at Se
 have SH:(nT 0 p.length (k9 s.fields) m (pE s.fields) bs p).length≤30:=by
  rw[sp.perm.len,(yw pC.n1 pC.LR sp).len];exact Se
 have fL:=qt s at' m bs p kp
 have hA:=fun(w:List Bool) (hw:w.length≤1000)=>Vu pC OK sp w hw (by omega)
 clear OK kp hq hp pC sp Se
 generalize nT 0 p.length (k9 s.fields) m (pE s.fields) bs p=lp at fL SH hA
 obtain⟨so,fs,pr,fa⟩:=s
 refine Fn.enter (n:=115) Tryz.func4 rfl rfl rfl rfl rfl (by decide) fun g fu fw=>?_;(try refine nz ?_)
 (refine tc ?_;refine zA (Af) ?_;refine nv ?_;refine j4 ?_;refine zP (hm) ?_;refine a_.oQ rfl rfl rfl ?_;(iterate 5 refine a_.extract rfl rfl rfl rfl ?_);(iterate 5 refine za ?_);refine zd ?_;refine Hw ?_;refine zm ?_;refine vj ?_;refine H5 ?_;refine a_.b_ 35 0 0 rfl rfl rfl rfl ?_;(with_reducible apply a_.fU);(iterate 3 exact rfl);(repeat' first|exact Sub.nil|apply Sub.take|apply Sub.skip);(iterate 3 exact rfl);refine a_.b_ 35 1 4 rfl rfl rfl rfl ?_;(with_reducible apply a_.fU);(iterate 3 exact rfl);(repeat' first|exact Sub.nil|apply Sub.take|apply Sub.skip);(iterate 3 exact rfl);(iterate 2 refine zm ?_);refine zP (fL) ?_;refine nv ?_;refine mw ?_)
 (refine nz ?_;apply AW.fO [13,10,8,7,6,3,1,2] [0] (fun y:Nat×List Bool=>([(15,eU y.1),(14,.own 1 4 1 (y.2.map MN))]:List (Nat×AV))) (fun y:Nat×List Bool=>([(1,some .row)]:List (Nat×Option Ob))) (fun y:Nat×List Bool=>y.1≤lp.length∧y.2.length=y.1) (fun y:Nat×List Bool=>lp.length - y.1) (((0,[]):Nat×List Bool));(conv=>lhs;simp only[Nf.jI,Nf.all,c6,reduceAdd,reduceSub]);(all_goals skip))
 ·exact⟨bg _,rfl⟩
 ·exact Vs
 rintro⟨k,w⟩ ⟨hk,hw⟩
 simp only at hk hw ⊢
 by_cases ft:k<lp.length
 ·by_cases hv:k<vals.length
  ·(refine yn ?_;refine Q1 ?_;refine BY ?_;refine Hh ?_;refine pq ?_;refine ay ?_;refine zt ?_;refine zr ?_;refine zT ?_;refine wO ?_;(with_reducible apply a_.fl);exact rfl;exact ai;(iterate 9 exact rfl);exact aa;refine uY ?_)
   exact⟨(k+1,w++ [vals[k]]),⟨ft,by simp [hw]⟩,by show lp.length - (k+1)<lp.length - k;omega,e_ rfl (by(refine⟨.fy (by first|rfl|(rw[cV];rfl)),?_⟩;refine⟨.fR (by first|rfl|(rw[cV];rfl)) rfl,?_⟩;refine⟨.fb (by first|rfl|(rw[cV];rfl)),?_⟩;refine⟨.fb (by first|rfl|(rw[cV];rfl)),?_⟩;refine⟨.fb (by first|rfl|(rw[cV];rfl)),?_⟩;refine⟨.fy (by first|rfl|(rw[cV];rfl)),?_⟩;refine⟨.fy (by first|rfl|(rw[cV];rfl)),?_⟩;refine aA ?_;refine⟨.fb (by first|rfl|(rw[cV];rfl)),?_⟩;refine⟨.fy (by first|rfl|(rw[cV];rfl)),?_⟩;exact trivial)) (by(refine aC ?_;refine⟨.box _ rfl ?_,?_⟩;refine⟨.fb (by first|rfl|(rw[cV];rfl)),?_⟩;refine⟨.fb (by first|rfl|(rw[cV];rfl)),?_⟩;refine⟨.fy (by first|rfl|(rw[cV];rfl)),?_⟩;refine⟨.fy (by first|rfl|(rw[cV];rfl)),?_⟩;refine⟨.fb (by first|rfl|(rw[cV];rfl)),?_⟩;refine⟨.fy (by first|rfl|(rw[cV];rfl)),?_⟩;refine⟨.fb (by first|rfl|(rw[cV];rfl)),?_⟩;refine⟨.fy (by first|rfl|(rw[cV];rfl)),?_⟩;refine⟨.fy (by first|rfl|(rw[cV];rfl)),?_⟩;(iterate 2 exact trivial))) rfl⟩
  ·(refine yn ?_;refine Q1 ?_;refine BY ?_;(iterate 2 refine zm ?_);refine yy ?_;refine zm ?_;(iterate 4 refine a_.kR rfl rfl rfl rfl rfl rfl (by first|omega|decide) ?_);refine zF ?_;refine wO ?_;(with_reducible apply a_.fl);exact rfl;exact ai;(iterate 9 exact rfl);exact aa;refine uY ?_)
   exact⟨(k+1,w++ [false]),⟨ft,by simp [hw]⟩,by show lp.length - (k+1)<lp.length - k;omega,e_ rfl (by(refine⟨.fy (by first|rfl|(rw[cV];rfl)),?_⟩;refine⟨.fR (by first|rfl|(rw[cV];rfl)) rfl,?_⟩;refine⟨.fb (by first|rfl|(rw[cV];rfl)),?_⟩;refine⟨.fb (by first|rfl|(rw[cV];rfl)),?_⟩;refine⟨.fb (by first|rfl|(rw[cV];rfl)),?_⟩;refine⟨.fy (by first|rfl|(rw[cV];rfl)),?_⟩;refine⟨.fy (by first|rfl|(rw[cV];rfl)),?_⟩;refine aA ?_;refine⟨.fb (by first|rfl|(rw[cV];rfl)),?_⟩;refine⟨.fy (by first|rfl|(rw[cV];rfl)),?_⟩;exact trivial)) (by(refine aC ?_;refine⟨.box _ rfl ?_,?_⟩;refine⟨.fb (by first|rfl|(rw[cV];rfl)),?_⟩;refine⟨.fb (by first|rfl|(rw[cV];rfl)),?_⟩;refine⟨.fy (by first|rfl|(rw[cV];rfl)),?_⟩;refine⟨.fy (by first|rfl|(rw[cV];rfl)),?_⟩;refine⟨.fb (by first|rfl|(rw[cV];rfl)),?_⟩;refine⟨.fy (by first|rfl|(rw[cV];rfl)),?_⟩;refine⟨.fb (by first|rfl|(rw[cV];rfl)),?_⟩;refine⟨.fy (by first|rfl|(rw[cV];rfl)),?_⟩;refine⟨.fy (by first|rfl|(rw[cV];rfl)),?_⟩;(iterate 2 exact trivial))) rfl⟩
 obtain rfl:k=lp.length:=by omega
 by_cases G9:1<m
 ·(refine yn ?_;refine Q7 ?_;refine rX ?_;refine a_.b_ 35 1 4 rfl rfl rfl rfl ?_;refine yR ?_;refine nD ?_;refine sO ?_)
  (refine nz ?_;apply AW.fO [13,10,8,7,6,3,1,2] [0] (fun y:Nat×List Bool=>([(16,eU y.1),(14,.own 1 4 1 (y.2.map MN))]:List (Nat×AV))) (fun y:Nat×List Bool=>([(1,some .row)]:List (Nat×Option Ob))) (fun y:Nat×List Bool=>y.1≤m∧y.2.length=lp.length) (fun y:Nat×List Bool=>m - y.1) (((0,w):Nat×List Bool));(conv=>lhs;simp only[Nf.jI,Nf.all,c6,reduceAdd,reduceSub]);(all_goals skip))
  ·exact⟨bg _,hw⟩
  ·exact Vs
  rintro⟨j,u⟩ ⟨hj,hu⟩
  simp only at hj hu ⊢
  by_cases gM:j<m
  ·by_cases BD:j<lp.length
   ·have Tz:0≤loop % (m:Int):=Int.emod_nonneg _ (by omega)
    (refine V_ ?_;refine tU ?_;refine BY ?_;(iterate 3 refine zm ?_);refine a_.JK rfl rfl rfl rfl rfl aG ?_;refine a_.b_ 35 1 4 rfl rfl rfl rfl ?_;refine y1 ?_;refine a_.Ef rfl rfl rfl rfl rfl aG ?_;refine a_.eql rfl rfl rfl rfl rfl ?_;refine O7 ?_;refine a_.qE rfl rfl rfl rfl rfl rfl rfl rfl ?_;refine nz ?_;refine a_.nil ?_;refine vP ?_;refine rS ?_)
    exact⟨(j+1,u.set j (decide ((j:Int)=loop % (m:Int)))),⟨gM,by simp [hu]⟩,by show m - (j+1)<m - j;omega,e_ rfl (by(refine⟨.fy (by first|rfl|(rw[cz];rfl)),?_⟩;refine⟨.fR (by first|rfl|(rw[cz];rfl)) rfl,?_⟩;refine⟨.fb (by first|rfl|(rw[cz];rfl)),?_⟩;refine⟨.fb (by first|rfl|(rw[cz];rfl)),?_⟩;refine⟨.fb (by first|rfl|(rw[cz];rfl)),?_⟩;refine⟨.fy (by first|rfl|(rw[cz];rfl)),?_⟩;refine⟨.fy (by first|rfl|(rw[cz];rfl)),?_⟩;refine aA ?_;refine⟨.fb (by first|rfl|(rw[cz];rfl)),?_⟩;refine⟨.fy (by first|rfl|(rw[cz];rfl)),?_⟩;exact trivial)) (by(refine aC ?_;refine⟨.box _ rfl ?_,?_⟩;refine⟨.fb (by first|rfl|(rw[cz];rfl)),?_⟩;refine⟨.fb (by first|rfl|(rw[cz];rfl)),?_⟩;refine⟨.fy (by first|rfl|(rw[cz];rfl)),?_⟩;refine⟨.fy (by first|rfl|(rw[cz];rfl)),?_⟩;refine⟨.fb (by first|rfl|(rw[cz];rfl)),?_⟩;refine⟨.fy (by first|rfl|(rw[cz];rfl)),?_⟩;refine⟨.fb (by first|rfl|(rw[cz];rfl)),?_⟩;refine⟨.fy (by first|rfl|(rw[cz];rfl)),?_⟩;refine⟨.fy (by first|rfl|(rw[cz];rfl)),?_⟩;(iterate 2 exact trivial))) rfl⟩
   ·obtain⟨a,b,c,wi,h1,h2,h3,h4,h5,h6⟩:=(hA u aG).ex
    (refine V_ ?_;refine rY ?_;refine a_.b_ 35 0 0 rfl rfl rfl rfl ?_;(with_reducible apply a_.fU);(iterate 3 exact rfl);(repeat' first|exact Sub.nil|apply Sub.take|apply Sub.skip);(iterate 3 exact rfl);refine a_.b_ 35 1 4 rfl rfl rfl rfl ?_;(with_reducible apply a_.fU);(iterate 3 exact rfl);(repeat' first|exact Sub.nil|apply Sub.take|apply Sub.skip);(iterate 3 exact rfl);refine zm ?_;refine S2 ?_;show a_ .held _ _ _ [_,_,_,_,_,_,_] _ _;refine a_.b_ 35 0 0 rfl rfl rfl rfl ?_;(with_reducible apply a_.fU);(iterate 3 exact rfl);(repeat' first|exact Sub.nil|apply Sub.take|apply Sub.skip);(iterate 3 exact rfl);refine a_.b_ 35 1 4 rfl rfl rfl rfl ?_;(with_reducible apply a_.fU);(iterate 3 exact rfl);(repeat' first|exact Sub.nil|apply Sub.take|apply Sub.skip);(iterate 3 exact rfl);(iterate 3 refine zm ?_);refine Q3 ?_;intro k_ jA;refine nz ?_;apply AR.cut [6,5,4,3,2,1,0,7,8,9];intro lx;apply AR.cut [6,5,4,3,2,1,0,7,9];intro p9;(refine AR.iI (i:=7) (j:=9) rfl aF rfl rfl ?_ ?_<;>intro g_ eV hG);refine zP (h2) ?_;refine Q3 ?_;(refine AR.iI (i:=8) (j:=9) rfl aF rfl rfl ?_ ?_<;>intro g_ eV hG);refine zP (h3) ?_;refine Q3 ?_;refine AR.fI (i:=9) rfl aF rfl ?_;intro g_ eV hG;refine Jl ?_;exact AR.perm aF lx;refine Jl ?_;exact AR.perm aF p9;refine pZ ?_;refine Q3 ?_;refine AR.fI (i:=7) rfl aF rfl ?_;intro g_ eV hG;exact WG;refine AR.fI (i:=8) rfl aF rfl ?_;intro g_ eV hG;exact V8;refine Ae ?_;intro g_ eV fz;refine R6 ?_;show a_ .held _ _ _ [_,_,_,_,_] _ _;refine RE ?_;(with_reducible apply a_.fU);(iterate 3 exact rfl);(repeat' first|exact Sub.nil|apply Sub.take|apply Sub.skip);(iterate 3 exact rfl);refine tQ ?_;refine Q3 ?_;intro k_ jA;refine AR.fI (i:=5) rfl aF rfl ?_;intro g_ eV hG;refine Tc ?_;intro g_ eV;show a_ .held _ _ _ [_,_,_,_,_] _ _;refine qh ?_;refine oq ?_;refine j4 ?_;refine tQ ?_;refine Q3 ?_;intro k_ jA;refine AR.fI (i:=10) rfl aF rfl ?_;intro g_ eV hG;refine SV ?_;intro g_ eV hG;refine Rf ?_;intro g_ eV;show a_ .held _ _ _ [_,_] _ _;refine a_.kv rfl rfl rfl rfl rfl rfl ?_;refine za ?_;refine Q3 ?_;intro k_ jA;refine nz ?_;refine JF ?_;refine AW.ret ?_)
    (apply c_;(exact fZ.one (.tmp rfl rfl));(refine Le.fe ?_;(rfl)))
  ·obtain⟨a,b,c,wi,h1,h2,h3,h4,h5,h6⟩:=(hA u aG).ex
   (refine rH ?_;refine a_.b_ 35 1 4 rfl rfl rfl rfl ?_;refine y1 ?_;refine zs ?_;refine zm ?_;(iterate 4 refine a_.kR rfl rfl rfl rfl rfl rfl (by first|omega|decide) ?_);refine zF ?_;refine BE ?_;refine a_.b_ 35 0 0 rfl rfl rfl rfl ?_;(with_reducible apply a_.fU);(iterate 3 exact rfl);(repeat' first|exact Sub.nil|apply Sub.take|apply Sub.skip);(iterate 3 exact rfl);refine a_.b_ 35 1 4 rfl rfl rfl rfl ?_;(with_reducible apply a_.fU);(iterate 3 exact rfl);(repeat' first|exact Sub.nil|apply Sub.take|apply Sub.skip);(iterate 3 exact rfl);refine zm ?_;refine S2 ?_;show a_ .held _ _ _ [_,_,_,_,_,_,_] _ _;refine a_.b_ 35 0 0 rfl rfl rfl rfl ?_;(with_reducible apply a_.fU);(iterate 3 exact rfl);(repeat' first|exact Sub.nil|apply Sub.take|apply Sub.skip);(iterate 3 exact rfl);refine a_.b_ 35 1 4 rfl rfl rfl rfl ?_;(with_reducible apply a_.fU);(iterate 3 exact rfl);(repeat' first|exact Sub.nil|apply Sub.take|apply Sub.skip);(iterate 3 exact rfl);(iterate 3 refine zm ?_);refine Q3 ?_;intro k_ jA;refine nz ?_;apply AR.cut [6,5,4,3,2,1,0,7,8,9];intro lx;apply AR.cut [6,5,4,3,2,1,0,7,9];intro p9;(refine AR.iI (i:=7) (j:=9) rfl aF rfl rfl ?_ ?_<;>intro g_ eV hG);refine zP (h2) ?_;refine Q3 ?_;(refine AR.iI (i:=8) (j:=9) rfl aF rfl rfl ?_ ?_<;>intro g_ eV hG);refine zP (h3) ?_;refine Q3 ?_;refine AR.fI (i:=9) rfl aF rfl ?_;intro g_ eV hG;refine Jl ?_;exact AR.perm aF lx;refine Jl ?_;exact AR.perm aF p9;refine pZ ?_;refine Q3 ?_;refine AR.fI (i:=7) rfl aF rfl ?_;intro g_ eV hG;exact WG;refine AR.fI (i:=8) rfl aF rfl ?_;intro g_ eV hG;exact V8;refine Ae ?_;intro g_ eV fz;refine R6 ?_;show a_ .held _ _ _ [_,_,_,_,_] _ _;refine RE ?_;(with_reducible apply a_.fU);(iterate 3 exact rfl);(repeat' first|exact Sub.nil|apply Sub.take|apply Sub.skip);(iterate 3 exact rfl);refine tQ ?_;refine Q3 ?_;intro k_ jA;refine AR.fI (i:=5) rfl aF rfl ?_;intro g_ eV hG;refine Tc ?_;intro g_ eV;show a_ .held _ _ _ [_,_,_,_,_] _ _;refine qh ?_;refine oq ?_;refine j4 ?_;refine tQ ?_;refine Q3 ?_;intro k_ jA;refine AR.fI (i:=10) rfl aF rfl ?_;intro g_ eV hG;refine SV ?_;intro g_ eV hG;refine Rf ?_;intro g_ eV;show a_ .held _ _ _ [_,_] _ _;refine a_.kv rfl rfl rfl rfl rfl rfl ?_;refine za ?_;refine Q3 ?_;intro k_ jA;refine nz ?_;refine JF ?_;refine AW.ret ?_)
   (apply c_;(exact fZ.one (.tmp rfl rfl));(refine Le.fe ?_;(rfl)))
 ·obtain⟨a,b,c,wi,h1,h2,h3,h4,h5,h6⟩:=(hA w aG).ex
  (refine yn ?_;refine Q7 ?_;refine rX ?_;refine a_.b_ 35 1 4 rfl rfl rfl rfl ?_;refine yR ?_;refine qZ ?_;refine a_.b_ 35 0 0 rfl rfl rfl rfl ?_;(with_reducible apply a_.fU);(iterate 3 exact rfl);(repeat' first|exact Sub.nil|apply Sub.take|apply Sub.skip);(iterate 3 exact rfl);refine a_.b_ 35 1 4 rfl rfl rfl rfl ?_;(with_reducible apply a_.fU);(iterate 3 exact rfl);(repeat' first|exact Sub.nil|apply Sub.take|apply Sub.skip);(iterate 3 exact rfl);refine zm ?_;refine S2 ?_;show a_ .held _ _ _ [_,_,_,_,_,_,_] _ _;refine a_.b_ 35 0 0 rfl rfl rfl rfl ?_;(with_reducible apply a_.fU);(iterate 3 exact rfl);(repeat' first|exact Sub.nil|apply Sub.take|apply Sub.skip);(iterate 3 exact rfl);refine a_.b_ 35 1 4 rfl rfl rfl rfl ?_;(with_reducible apply a_.fU);(iterate 3 exact rfl);(repeat' first|exact Sub.nil|apply Sub.take|apply Sub.skip);(iterate 3 exact rfl);(iterate 3 refine zm ?_);refine Q3 ?_;intro k_ jA;refine nz ?_;apply AR.cut [6,5,4,3,2,1,0,7,8,9];intro lx;apply AR.cut [6,5,4,3,2,1,0,7,9];intro p9;(refine AR.iI (i:=7) (j:=9) rfl aF rfl rfl ?_ ?_<;>intro g_ eV hG);refine zP (h2) ?_;refine Q3 ?_;(refine AR.iI (i:=8) (j:=9) rfl aF rfl rfl ?_ ?_<;>intro g_ eV hG);refine zP (h3) ?_;refine Q3 ?_;refine AR.fI (i:=9) rfl aF rfl ?_;intro g_ eV hG;refine Jl ?_;exact AR.perm aF lx;refine Jl ?_;exact AR.perm aF p9;refine pZ ?_;refine Q3 ?_;refine AR.fI (i:=7) rfl aF rfl ?_;intro g_ eV hG;refine zP (h2) ?_;refine sF ?_;refine AR.meet p9 aF (fun g_=>e_ rfl ?_ ?_ rfl);(iterate 35 refine aA ?_);exact trivial;exact OJ;refine AR.fI (i:=8) rfl aF rfl ?_;intro g_ eV hG;refine zP (h3) ?_;refine sF ?_;refine AR.meet lx aF (fun g_=>e_ rfl ?_ ?_ rfl);(iterate 36 refine aA ?_);exact trivial;exact OJ;refine Ae ?_;intro g_ eV fz;refine R6 ?_;show a_ .held _ _ _ [_,_,_,_,_] _ _;refine RE ?_;(with_reducible apply a_.fU);(iterate 3 exact rfl);(repeat' first|exact Sub.nil|apply Sub.take|apply Sub.skip);(iterate 3 exact rfl);refine tQ ?_;refine Q3 ?_;intro k_ jA;refine AR.fI (i:=5) rfl aF rfl ?_;intro g_ eV hG;refine Tc ?_;intro g_ eV;show a_ .held _ _ _ [_,_,_,_,_] _ _;refine qh ?_;refine oq ?_;refine j4 ?_;refine tQ ?_;refine Q3 ?_;intro k_ jA;refine AR.fI (i:=10) rfl aF rfl ?_;intro g_ eV hG;refine SV ?_;intro g_ eV hG;refine Rf ?_;intro g_ eV;show a_ .held _ _ _ [_,_] _ _;refine a_.kv rfl rfl rfl rfl rfl rfl ?_;refine za ?_;refine Q3 ?_;intro k_ jA;refine nz ?_;refine JF ?_;refine AW.ret ?_)
  (apply c_;(exact fZ.one (.tmp rfl rfl));(refine Le.fe ?_;(rfl)))
end Go.Ab
namespace Go.Proofs.YtcklfjkaadfjjaaGreat.Law2
open Go Go.Ab Go.ChangeShapes Go.WideShapes Go.ChangeAt Go.RowKit
set_option linter.unusedVariables false
theorem own:ownKnob Tryz.prog.godebug=none:=by kernel_rfl
theorem laidOut:laidOutB Tryz.prog=true:=by kernel_rfl
theorem Li:Rd Tryz.prog 28 (fun l:List Int=>[ints l]) (fun _=>True):=
 Rd.map (Rd.slice (e:=3) (k:=1) (by':=8) Tryz.underlying28 aF (by decide) aF (by decide) (fun _=>rfl) (Rd.int Tryz.underlying3)) id (fun _=>rfl) (fun _ _=>trivial)
theorem SJ:Rd Tryz.prog 69 mT (fun _=>True):=
 Rd.map (Rd.struct (n:=2) Tryz.underlying69 aF (uU.cons (k:=1) (n:=1) rfl aF (Rd.string Tryz.underlying9) (uU.cons (k:=1) (n:=0) rfl aF (Rd.bool Tryz.underlying4) uU.nil))) (fun p=>((p.1,p.2.1):sq)) (fun p=>rfl) (fun _ _=>trivial)
theorem rdField:Rd Tryz.prog 71 qj (fun _=>True):=
 Rd.map (Rd.struct (n:=3) Tryz.underlying71 aF (uU.cons (k:=1) (n:=2) rfl aF (Rd.string Tryz.underlying9) (uU.cons (k:=1) (n:=1) rfl aF Li (uU.cons (k:=1) (n:=0) rfl aF (Rd.bool Tryz.underlying4) uU.nil)))) (fun p=>(⟨p.1,p.2.1,p.2.2.1⟩:gx)) (fun p=>rfl) (fun _ _=>trivial)
def encS (s:gu):List PV:=[.slice 2 (s.sorts.map mT),.slice 3 (s.fields.map qj),.lit (.slice s.preds.a s.preds.l s.preds.c),.lit (.slice s.facts.a s.facts.l s.facts.c)]
theorem S1:Rd Tryz.prog 27 encS (fun _=>True):=
 Rd.map (Rd.struct (n:=4) Tryz.underlying27 aF (uU.cons (k:=1) (n:=3) rfl aF (Rd.slice (e:=69) (k:=2) (by':=24) Tryz.underlying22 aF (by decide) aF (by decide) (fun _=>rfl) SJ) (uU.cons (k:=1) (n:=2) rfl aF (Rd.slice (e:=71) (k:=3) (by':=48) Tryz.underlying23 aF (by decide) aF (by decide) (fun _=>rfl) rdField) (uU.cons (k:=1) (n:=1) rfl aF (Rd.raw Tryz.underlying24) (uU.cons (k:=1) (n:=0) rfl aF (Rd.raw Tryz.underlying25) uU.nil)))))
  (fun p=>(⟨p.1,p.2.1,⟨p.2.2.1.1,p.2.2.1.2.1,p.2.2.1.2.2⟩,⟨p.2.2.2.1.1,p.2.2.2.1.2.1,p.2.2.2.1.2.2⟩⟩:gu)) (fun p=>rfl) (fun _ _=>trivial)
theorem OD:Rd Tryz.prog 30 (fun p:List Int×Int=>[ints p.1,.lit (.int .i64 p.2)]) (fun _=>True):=
 Rd.map (Rd.struct (n:=2) Tryz.underlying30 aF (uU.cons (k:=1) (n:=1) rfl aF Li (uU.cons (k:=1) (n:=0) rfl aF (Rd.int Tryz.underlying3) uU.nil))) (fun p=>(p.1,p.2.1)) (fun p=>rfl) (fun _ _=>trivial)
theorem Sd {n:Int} (h:(Lit.int .u8 n).wf=true):0≤n∧n≤255:=by
 have e1:IntKind.u8.min=0:=rfl
 have e2:IntKind.u8.max=255:=rfl
 simp [Lit.wf,e1,e2] at h
 omega
theorem FV {n:Int} (h:(Lit.int .u16 n).wf=true):0≤n∧n≤65535:=by
 have e1:IntKind.u16.min=0:=rfl
 have e2:IntKind.u16.max=65535:=rfl
 simp [Lit.wf,e1,e2] at h
 omega
theorem T7:Rd Tryz.prog 36 (fun l:List Int=>PM l) (fun l=>∀x∈l,0≤x∧x≤255):=
 Rd.map (Rd.slice (e:=5) (k:=1) (by':=1) Tryz.underlying36 aF (by decide) aF (by decide) (fun _=>rfl) (Rd.int Tryz.underlying5)) id (fun _=>rfl) (fun _ h x hx=>Sd (h.2 x hx))
theorem Ti:Rd Tryz.prog 32 (fun l:List (List Int)=>[O1 l]) (fun l=>∀r∈l,∀x∈r,0≤x∧x≤255):=
 Rd.map (Rd.slice (e:=36) (k:=1) (by':=24) Tryz.underlying32 aF (by decide) aF (by decide) (fun _=>rfl) T7) id (fun _=>rfl) (fun _ h=>h.2)
def Nk (p:gu×(List Int×Int)×List (List Int)×Int×Int):List PV:=[.slice 2 (p.1.sorts.map mT),.slice 3 (p.1.fields.map qj),.lit (.slice p.1.preds.a p.1.preds.l p.1.preds.c),.lit (.slice p.1.facts.a p.1.facts.l p.1.facts.c),ints p.2.1.1,.lit (.int .i64 p.2.1.2),O1 p.2.2.1,.lit (.int .u16 p.2.2.2.1),.lit (.int .u16 p.2.2.2.2)]
theorem Ro:Rd Tryz.prog 35 Nk (fun p=>(∀r∈p.2.2.1,∀x∈r,0≤x∧x≤255)∧(0≤p.2.2.2.1∧p.2.2.2.1≤65535)∧(0≤p.2.2.2.2∧p.2.2.2.2≤65535)):=
 Rd.map (Rd.struct (n:=9) Tryz.underlying35 aF (uU.cons (k:=4) (n:=5) rfl aF S1 (uU.cons (k:=2) (n:=3) rfl aF OD (uU.cons (k:=1) (n:=2) rfl aF Ti (uU.cons (k:=1) (n:=1) rfl aF (Rd.int Tryz.underlying33) (uU.cons (k:=1) (n:=0) rfl aF (Rd.int Tryz.underlying33) uU.nil))))))
  (fun p=>(p.1,p.2.1,p.2.2.1,p.2.2.2.1,p.2.2.2.2.1)) (fun p=>rfl) (fun _ h=>⟨h.2.2.1,FV h.2.2.2.1,FV h.2.2.2.2.1⟩)
theorem Pp:Rd Tryz.prog 37 (fun l:List Bool=>[lS l]) (fun _=>True):=
 Rd.map (Rd.slice (e:=4) (k:=1) (by':=1) Tryz.underlying37 aF (by decide) aF (by decide) (fun _=>rfl) (Rd.bool Tryz.underlying4)) id (fun _=>rfl) (fun _ _=>trivial)
theorem SF {n:Int} (h:(Lit.int .u8 n).wf=true):0≤n∧n≤255:=by
 have e1:IntKind.u8.min=0:=rfl
 have e2:IntKind.u8.max=255:=rfl
 simp [Lit.wf,e1,e2] at h
 omega
theorem Ny {N:Nat→Prop} {w:World} {v:Value} (h:RA (yA N) w v (fe true)):v=.bool true:=by
 cases h with
 |pv h=>cases h;rfl
set_option maxRecDepth 100000 in
theorem lifted (os:Os) (started:os.Started) (H:Type) (enc:TypeId×Value→H):
  ReturnsInHanded {} Tryz.checked os 4 .any (Rows.symbreakActionSpec.pre6 enc Tryz.prog Tryz.f4 Rows.symbreakActionRow.domain false) (Rows.symbreakActionSpec.post enc Tryz.prog Tryz.f4 false true false false):=by
 refine returnsInHanded_of_change_sized (C:=Tryz.checked) own started aF Tryz.func4
  (ChangeSpec.witness6 (enc:=enc) (C:=Tryz.checked) false ⟨#[], #[.agg #[.slice none 0 0,.slice none 0 0,.slice none 0 0,.slice none 0 0,.slice none 0 0,.int .i64 0,.slice none 0 0,.int .u16 0,.int .u16 0],.slice none 0 0,.int .u8 0],[]⟩ 8 aF aF aF aF) ?_
 intro W base args ds gs before P8 hW hcnd mX _
 have s_:∀(j:Nat) t v,Tryz.f4.params[j]? =some t→args[j]? =some v→Value.okWide Tryz.prog W .any base t v:=P8
 have hW':=hW
 obtain⟨p,q,hA0,hV,rfl,hfz,qc⟩:=hW
 have hA:DataW.TrodAll enc Tryz.prog W 0 (fun _=>true) true Tryz.f4.params.toList args.toList ds p:=hA0
 rw[Tryz.params4] at hA s_
 obtain⟨v0,vs0,d0,ds0,p0,q0,gp,rfl,rfl,h0,r0⟩:=trodAll_cons hA
 obtain⟨v1,vs1,d1,ds1,p1,q1,rfl,rfl,rfl,h1,r1⟩:=trodAll_cons r0
 obtain⟨v2,vs2,d2,ds2,p2,q2,rfl,rfl,rfl,h2,r2⟩:=trodAll_cons r1
 obtain⟨rfl,rfl,rfl⟩:=trodAll_nil r2
 obtain rfl:args= #[v0,v1,v2]:=by cases args;simp_all
 obtain⟨rfl,rfl⟩:=trodVars_none hV
 have wt:∀(j:Nat) (t:TypeId) (d:DataW H),[35,37,5][j]? =some t→[d0,d1,d2][j]? =some d→∀n∈d.weights Tryz.prog t,n≤reachBytes:=by
  intro j t d ht hd
  have hj:j<3:=(List.getElem?_eq_some_iff.1 ht).1
  refine DB mX (j:=j) ?_ ?_
  ·rw[aQ (by rw[Tryz.params4];exact hj),Tryz.params4];exact ht
  ·rw[aQ (by simpa using hj)];exact hd
 obtain⟨Z6,rfl⟩:=Ab.okWide_struct Tryz.underlying35 (s_ 0 35 v0 rfl rfl)
 obtain⟨a1,l1,c1,rfl⟩:=okWide_slice Tryz.underlying37 (s_ 1 37 v1 rfl rfl)
 obtain⟨⟨x0,⟨y0,z0⟩,UW,cp0,cq0⟩,s0,o0⟩:=O0 Ro h0 (wt 0 35 d0 rfl rfl) rfl
 obtain⟨x1,s1,o1⟩:=Oo Pp h1 (wt 1 37 d1 rfl rfl) Cl
 obtain⟨x2,rfl,e2,e2',o2⟩:=open_int Tryz.underlying5 (s_ 2 5 v2 rfl rfl) h2
 have s2:RA (yA fun _=>True) W (.int .u8 x2) (.pv (.lit (.int .u8 x2))):=.pv (.lit _)
 have lt0:∀x∈p0,x.block<W.heap.size:=by obtain⟨m,hm⟩:=h0;exact DataW.trod_lt m _ _ _ hm
 have lt1:∀x∈p1,x.block<W.heap.size:=by obtain⟨m,hm⟩:=h1;exact DataW.trod_lt m _ _ _ hm
 have lt2:∀x∈p2,x.block<W.heap.size:=by obtain⟨m,hm⟩:=h2;exact DataW.trod_lt m _ _ _ hm
 clear hA0 P8
 refine((Je x0 y0 z0 UW cp0 cq0 x1 x2 o0.1 o0.2.1 o0.2.2 (SF o2)).calls (fun _=>True) W _ (fun _ _=>trivial) rfl ?_).mono fun e W' ⟨v,he,hv,bel⟩=>?_
 ·intro j v av hj D4
  match j,hj,D4 with
  |0,hj,D4=>cases hj;cases D4;exact s0
  |1,hj,D4=>cases hj;cases D4;exact s1
  |2,hj,D4=>cases hj;cases D4;exact s2
  |j+3,hj,D4=>simp at D4
 ·obtain rfl:=Ny hv
  subst he
  exact⟨_,rfl,_,_,_,[],_,[],hW',trodAll_mk1 (shut_bool Tryz.underlying4 _),(trodAll_cons_mk (Below.trod laidOut aF (of_decide_eq_true aF) h0 bel lt0) (trodAll_cons_mk (Below.trod laidOut aF (of_decide_eq_true aF) h1 bel lt1) (trodAll_cons_mk (Below.trod laidOut aF (of_decide_eq_true aF) h2 bel lt2) trodAll_mk0))),rfl,bel.frame _,fun h=>by cases h⟩
theorem pL:Rows.symbreakActionRow.holds Tryz.pinned (OpenSpec.ofChange Rows.symbreakActionSpec):=
 OpenClaim.holds_of_wide 4 Tryz.f4 rfl rfl rfl rfl rfl rfl rfl ⟨rfl,rfl,rfl,rfl,rfl⟩ rfl rfl rfl rfl rfl aF Tryz.func4 aF
  (of_decide_eq_true aF) (by unfold Func.isWrapper;first|(rw[if_pos (by decide+kernel)];kernel_rfl)|(rw[if_neg (by decide+kernel)];exact⟨rfl,rfl⟩))
  (fun os started H enc _=>lifted os started H enc)
theorem proved:Rows.SymbreakActionSaid:=pL
#print axioms proved
end Go.Proofs.YtcklfjkaadfjjaaGreat.Law2
