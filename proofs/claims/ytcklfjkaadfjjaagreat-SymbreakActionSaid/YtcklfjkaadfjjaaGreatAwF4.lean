/- The program's image of a model, walked. -/
import Derived.Test.YtcklfjkaadfjjaaGreatAwE2
import Derived.Test.YtcklfjkaadfjjaaGreatAbZ
import Derived.Test.YtcklfjkaadfjjaaGreatAbL3
import Derived.Test.YtcklfjkaadfjjaaGreatAbL4
import Derived.Test.YtcklfjkaadfjjaaGreatAbL2
import Derived.Test.YtcklfjkaadfjjaaGreatAwK4
import Derived.Test.YtcklfjkaadfjjaaGreatAwJB
set_option linter.unusedSimpArgs false
set_option linter.unusedVariables false
open Int renaming toNat_natCast→dg,ediv_nonneg→dX,mul_comm→dA
open Nat renaming reduceBEq→c6,zero_le→bg,le_trans→aN,mul_le_mul→eb,zero_lt_one→db,le_refl→aM,pow_le_pow_left→ed,pow_le_pow_right→ee
open List renaming getElem_mem→cT,map_append→cV,take_length→dF,map_map→ct,mem_append→bW,mem_singleton→cp,length_map→aX,append_nil→bp,take_of_length_le→cE,range→a7,length_take_le→c8,range_succ→dP,filter_append→ec,filter_cons→dR,length_filter_le→dH,append_assoc→dG,mem_range→dk,all_eq_true→bB,getElem_of_mem→dc
open Bool renaming true_and→dt,false_and→du,and_eq_true→aW
namespace Go.Ab
open Go Go.Proofs
open Nat (reduceAdd reduceSub)
set_option maxRecDepth 20000
set_option maxHeartbeats 8000000
def uQ (p:List Int) (r:jc):jc:=(r.1,j5 (r.2.map (fV p.length p r.1.toNat)))
def xj (p:List Int) (m:uf):uf:=⟨m.atoms,m.steps,m.states.map fun st=>st.map (uQ p),m.loop⟩
structure Gq (r:jc):Prop where
 ar:0≤r.1∧r.1≤3
 ts:∀t∈r.2,0≤t∧t≤1000000
 ln:r.2.length≤100000
abbrev SZ (p:List Int) (at':List Int) (st:Int) (ss:List (List jc)) (lp:Int):List (Nat×Option Ob):=[(0,some (.box [.pv (ints p)])),(1,some (.box [.pv (ints at'),eU st,.pv (yL ss),eU lp]))]
attribute [local irreducible] AW a_ fT ff AR fh e6 fp fA n_ fV j5
theorem Px {iF:Int→Int} (p at':List Int) (st:Int) (ss:List (List jc)) (lp:Int) (r:jc) (hp:iH p.length iF p) (hn:0<p.length) (hl:p.length≤12) (hr:Gq r):
  vW Tryz.prog 73 2 (SZ p at' st ss lp) [mA r,.ptr 1 0,.ptr 0 0] (SZ p at' st ss lp) (mA (uQ p r)):=by
 obtain⟨ar,ts⟩:=r
 obtain⟨h1,h2,h3⟩:=hr
 obtain⟨n,rfl⟩:∃n:Nat,ar=n:=⟨ar.toNat,by have:=h1.1;simp only at this;omega⟩
 have c1:=FY at' st p n ts hp hn hl (by have:=h1.2;simp only at this;omega) h2 (by simp only at h3;omega)
 unfold uQ SZ
 simp only[dg]
 generalize j5 (ts.map (fV p.length p n))=yl at c1 ⊢
 refine vW.enter (n:=10) Tryz.func73 rfl rfl rfl rfl rfl (by decide) rfl rfl fun g fu fw=>?_;refine Kj ?_
 (refine lV ?_;refine pZ ?_;refine nd ?_;refine a_.b_ 61 0 0 rfl rfl rfl rfl ?_;(with_reducible apply a_.fU);(iterate 3 exact rfl);(repeat' first|exact Sub.nil|apply Sub.take|apply Sub.skip);(iterate 3 exact rfl);refine zb ?_;refine j4 ?_;refine zP (c1) ?_;refine lN ?_;refine qu ?_)
 (apply jf;((exact fZ.one (.cell rfl rfl rfl rfl)));((refine aA ?_;exact xE));((refine⟨.box _ rfl ?_,?_⟩;refine Mh ?_;exact trivial;refine⟨.box _ rfl ?_,?_⟩;refine Mh ?_;refine HD ?_;refine Mh ?_;refine HD ?_;(iterate 2 exact trivial)));exact rfl)
theorem Pt {iF:Int→Int} (p at':List Int) (st:Int) (ss:List (List jc)) (lp:Int) (x:List jc) (hp:iH p.length iF p) (hn:x≠ []→0<p.length) (hl:p.length≤12) (hx:∀r∈x,Gq r) (F9:x.length≤100000):
  vW Tryz.prog 71 2 (SZ p at' st ss lp) [.pv (Bc x),.ptr 1 0,.ptr 0 0] (SZ p at' st ss lp) (.pv (Bc (x.map (uQ p)))):=by
 have c1:=fun r (h:r∈x)=>Px p at' st ss lp r hp (hn (List.ne_nil_of_mem h)) hl (hx r h)
 unfold SZ at*
 refine vW.enter (n:=8) Tryz.func71 rfl rfl rfl rfl rfl (by decide) rfl rfl fun g fu fw=>?_;refine Kj ?_
 (refine tX ?_;refine a_.sD rfl rfl rfl rfl rfl ?_;(with_reducible apply a_.inline (hf:=Tryz.func72));(with_reducible assumption);(iterate 10 exact rfl);intro g_ fu fw;refine QK ?_)
 (refine nz ?_;apply AW.fO [12,11,4,0,1,1006,1005,1004,1000,1001,1002,2000] [0,1] (fun k:Nat=>([(13,eU k),(5,.own 2 105 2 ((x.take k).map fun r=>T1 (uQ p r)))]:List (Nat×AV))) (fun k:Nat=>([(2,some .row)]:List (Nat×Option Ob))) (fun k:Nat=>k≤x.length) (fun k:Nat=>x.length - k) (0);(conv=>lhs;simp only[Nf.jI,Nf.all,c6,reduceAdd,reduceSub]);(all_goals skip))
 ·exact bg _
 ·exact e_ rfl (by(refine⟨.d_ (by first|with_reducible rfl|(rfl)),?_⟩;refine⟨.fR (by first|with_reducible rfl|(rfl)) rfl,?_⟩;refine⟨.d_ (by first|with_reducible rfl|(rfl)),?_⟩;refine⟨.fb (by first|with_reducible rfl|(rfl)),?_⟩;refine aA ?_;refine⟨.fb (by first|with_reducible rfl|(rfl)),?_⟩;(iterate 2 refine aA ?_);refine⟨.fb (by first|with_reducible rfl|(rfl)),?_⟩;refine aA ?_;refine⟨.fb (by first|with_reducible rfl|(rfl)),?_⟩;(iterate 3 refine aA ?_);exact trivial)) (by(refine aC ?_;refine⟨.box _ rfl ?_,?_⟩;refine⟨.fb (by first|with_reducible rfl|(rfl)),?_⟩;exact trivial;refine⟨.box _ rfl ?_,?_⟩;refine⟨.fb (by first|with_reducible rfl|(rfl)),?_⟩;refine⟨.d_ (by first|with_reducible rfl|(rfl)),?_⟩;refine⟨.fb (by first|with_reducible rfl|(rfl)),?_⟩;refine⟨.d_ (by first|with_reducible rfl|(rfl)),?_⟩;(iterate 2 exact trivial))) rfl
 rintro k hk
 by_cases ft:k<x.length
 ·have h1:=c1 x[k] (cT ft)
  have hs:=fF ft
  (refine rN ?_;refine ay ?_;refine Jp ?_;refine AW.region ?_;refine a_.gk rfl rfl rfl ?_;refine a_.iX rfl rfl rfl ?_;refine j4 ?_;refine zX (h1) ?_;refine Q6 ?_;refine nz ?_;refine Pm ?_;(with_reducible apply a_.fl);exact rfl;exact ai;(iterate 9 exact rfl);exact aa;refine nz ?_;refine Tt ?_;refine vT ?_)
  exact⟨k+1,by omega,by omega,e_ rfl (by(refine⟨.d_ (by first|rfl|(rw[hs,cV];rfl)),?_⟩;refine⟨.fR (by first|rfl|(rw[hs,cV];rfl)) rfl,?_⟩;refine⟨.d_ (by first|rfl|(rw[hs,cV];rfl)),?_⟩;refine⟨.fb (by first|rfl|(rw[hs,cV];rfl)),?_⟩;refine aA ?_;refine⟨.fb (by first|rfl|(rw[hs,cV];rfl)),?_⟩;(iterate 2 refine aA ?_);refine⟨.fb (by first|rfl|(rw[hs,cV];rfl)),?_⟩;refine aA ?_;refine⟨.fb (by first|rfl|(rw[hs,cV];rfl)),?_⟩;(iterate 3 refine aA ?_);exact trivial)) (by(refine aC ?_;refine⟨.box _ rfl ?_,?_⟩;refine⟨.fb (by first|rfl|(rw[hs,cV];rfl)),?_⟩;exact trivial;refine⟨.box _ rfl ?_,?_⟩;refine⟨.fb (by first|rfl|(rw[hs,cV];rfl)),?_⟩;refine⟨.d_ (by first|rfl|(rw[hs,cV];rfl)),?_⟩;refine⟨.fb (by first|rfl|(rw[hs,cV];rfl)),?_⟩;refine⟨.d_ (by first|rfl|(rw[hs,cV];rfl)),?_⟩;(iterate 2 exact trivial))) rfl⟩
 ·obtain rfl:k=x.length:=by omega
  rw[dF]
  (refine KQ ?_;refine sM ?_;refine AW.ret ?_)
  (apply jf;((exact fZ.one (.tmp rfl rfl)));((refine⟨.GS rfl (by first|rfl|(rw[ct];rfl)),?_⟩;exact xE));((refine⟨.box _ rfl ?_,?_⟩;refine⟨.fb (by first|rfl|(rw[ct];rfl)),?_⟩;exact trivial;refine⟨.box _ rfl ?_,?_⟩;(iterate 2 refine XZ ?_);(iterate 2 exact trivial)));exact rfl)
theorem Ix {iF:Int→Int} (p:List Int) (m:uf) (hp:iH p.length iF p) (hn:∀x∈m.states,x≠ []→0<p.length) (hl:p.length≤12) (hx:∀x∈m.states,x.length≤100000∧∀r∈x,Gq r) (F9:m.states.length≤100000):
  Fn Tryz.prog 24 [.pv (ints p),GQ m] (GQ (xj p m)):=by
 obtain⟨at',st,ss,lp⟩:=m
 have c1:=fun x h=>Pt p at' st ss lp x hp (hn x h) hl (hx x h).2 (hx x h).1
 unfold xj
 unfold SZ at*
 simp only at F9 hx c1 ⊢
 refine Fn.enter (n:=11) Tryz.func24 rfl rfl rfl rfl rfl (by decide) fun g fu fw=>?_;(try refine nz ?_)
 (refine wh ?_;refine pZ ?_;refine nd ?_;refine a_.b_ 61 1 2 rfl rfl rfl rfl ?_;refine zb ?_;refine a_.sD rfl rfl rfl rfl rfl ?_;(with_reducible apply a_.inline (hf:=Tryz.func70));(with_reducible assumption);(iterate 10 exact rfl);intro g_ fu fw;refine QK ?_)
 (refine nz ?_;apply AW.fO [12,11,4,0,1,1007,1006,1005,1004,1003,1002] [2,1,0] (fun k:Nat=>([(13,eU k),(5,.own 3 113 1 ((ss.take k).map fun x=>[Bc (x.map (uQ p))]))]:List (Nat×AV))) (fun k:Nat=>([(3,some .row)]:List (Nat×Option Ob))) (fun k:Nat=>k≤ss.length) (fun k:Nat=>ss.length - k) (0);(conv=>lhs;simp only[Nf.jI,Nf.all,c6,reduceAdd,reduceSub]);(all_goals skip))
 ·exact bg _
 ·exact e_ rfl (by(refine⟨.d_ (by first|with_reducible rfl|(rfl)),?_⟩;refine⟨.fR (by first|with_reducible rfl|(rfl)) rfl,?_⟩;refine⟨.d_ (by first|with_reducible rfl|(rfl)),?_⟩;refine⟨.fb (by first|with_reducible rfl|(rfl)),?_⟩;refine aA ?_;refine⟨.fb (by first|with_reducible rfl|(rfl)),?_⟩;(iterate 2 refine aA ?_);refine⟨.fb (by first|with_reducible rfl|(rfl)),?_⟩;(iterate 4 refine aA ?_);exact trivial)) (by(refine aC ?_;refine⟨.box _ rfl ?_,?_⟩;refine aA ?_;refine⟨.d_ (by first|with_reducible rfl|(rfl)),?_⟩;refine aA ?_;refine⟨.d_ (by first|with_reducible rfl|(rfl)),?_⟩;exact trivial;refine⟨.box _ rfl ?_,?_⟩;refine⟨.fb (by first|with_reducible rfl|(rfl)),?_⟩;refine⟨.d_ (by first|with_reducible rfl|(rfl)),?_⟩;refine⟨.fb (by first|with_reducible rfl|(rfl)),?_⟩;refine⟨.d_ (by first|with_reducible rfl|(rfl)),?_⟩;exact trivial;refine⟨.box _ rfl ?_,?_⟩;refine⟨.fb (by first|with_reducible rfl|(rfl)),?_⟩;(iterate 2 exact trivial))) rfl
 rintro k hk
 by_cases ft:k<ss.length
 ·have h1:=c1 ss[k] (cT ft)
  have hs:=fF ft
  (refine rN ?_;refine ay ?_;refine zr ?_;refine Q4 ?_;refine BY ?_;refine a_.iX rfl rfl rfl ?_;refine zm ?_;refine zX (h1) ?_;refine Q6 ?_;refine nz ?_;refine wO ?_;(with_reducible apply a_.fl);exact rfl;exact ai;(iterate 9 exact rfl);exact aa;refine nz ?_;refine Tt ?_;refine vT ?_)
  exact⟨k+1,by omega,by omega,e_ rfl (by(refine⟨.d_ (by first|rfl|(rw[hs,cV];rfl)),?_⟩;refine⟨.fR (by first|rfl|(rw[hs,cV];rfl)) rfl,?_⟩;refine⟨.d_ (by first|rfl|(rw[hs,cV];rfl)),?_⟩;refine⟨.fb (by first|rfl|(rw[hs,cV];rfl)),?_⟩;refine aA ?_;refine⟨.fb (by first|rfl|(rw[hs,cV];rfl)),?_⟩;(iterate 2 refine aA ?_);refine⟨.fb (by first|rfl|(rw[hs,cV];rfl)),?_⟩;(iterate 4 refine aA ?_);exact trivial)) (by(refine aC ?_;refine⟨.box _ rfl ?_,?_⟩;refine aA ?_;refine⟨.d_ (by first|rfl|(rw[hs,cV];rfl)),?_⟩;refine aA ?_;refine⟨.d_ (by first|rfl|(rw[hs,cV];rfl)),?_⟩;exact trivial;refine⟨.box _ rfl ?_,?_⟩;refine⟨.fb (by first|rfl|(rw[hs,cV];rfl)),?_⟩;refine⟨.d_ (by first|rfl|(rw[hs,cV];rfl)),?_⟩;refine⟨.fb (by first|rfl|(rw[hs,cV];rfl)),?_⟩;refine⟨.d_ (by first|rfl|(rw[hs,cV];rfl)),?_⟩;exact trivial;refine⟨.box _ rfl ?_,?_⟩;refine⟨.fb (by first|rfl|(rw[hs,cV];rfl)),?_⟩;(iterate 2 exact trivial))) rfl⟩
 ·obtain rfl:k=ss.length:=by omega
  rw[dF]
  (refine KQ ?_;refine nz ?_;refine a_.b_ 61 1 2 rfl rfl rfl rfl ?_;refine qn ?_;refine nd ?_;refine Ib ?_)
  (apply c_;(exact fZ.one (.cell rfl rfl rfl rfl));(refine Le.ia ?_;refine gX.cons ?_ ?_;(with_reducible exact Le.pv _);refine gX.cons ?_ ?_;(with_reducible exact Le.pv _);refine gX.cons ?_ ?_;refine Le.fR ?_;(first|rfl|(rw[ct];rfl));refine gX.cons ?_ ?_;(with_reducible exact Le.pv _);exact gX.nil))
end Go.Ab
/- Chapter 24:the reference's free tuples and variables,walked. -/
namespace Go.Ab
open Go Go.Proofs
open Nat (reduceAdd reduceSub)
set_option maxRecDepth 20000
set_option maxHeartbeats 4000000
attribute [local irreducible] AW a_ fT ff AR fh e6 fp fA canon gg nL nW kJ sS fJ
theorem N_ (l:List Int) (x:Int) (hl:l.length≤1000000):Fn Tryz.prog 123 [.pv (ints l),eU x] (fe (decide (x∈l))):=by
 refine Fn.enter (n:=18) Tryz.func123 rfl rfl rfl rfl rfl (by decide) fun g fu fw=>?_;(try refine nz ?_)
 (refine zq ?_;refine mw ?_)
 (refine nz ?_;apply AW.fO [0,1] [] (fun i:Nat=>([(5,eU i)]:List (Nat×AV))) (fun i:Nat=>([]:List (Nat×Option Ob))) (fun i:Nat=>i≤l.length∧x∉l.take i) (fun i:Nat=>l.length - i) (0);(conv=>lhs;simp only[Nf.jI,Nf.all,c6,reduceAdd,reduceSub]);(all_goals skip))
 ·exact⟨bg _,by simp⟩
 ·exact Su
 rintro i ⟨hi,lz⟩
 by_cases ft:i<l.length
 ·by_cases hq:l[i]=x
  ·have hm:x∈l:=by rw[← hq];exact cT ft
   rw[decide_eq_true hm]
   (refine Hn ?_;refine ay ?_;refine zr ?_;refine rh ?_;refine nD ?_;refine oC ?_)
   (apply c_;(exact fZ.one (.tmp rfl rfl));(refine Le.fe ?_;(rfl)))
  ·(refine Hn ?_;refine ay ?_;refine zr ?_;refine rh ?_;refine rP ?_)
   exact⟨i+1,⟨by omega,by rw[fF ft];exact fun h=>(bW.1 h).elim lz fun h=>hq (cp.1 h).symm⟩,by omega,e_ rfl (by(refine aA ?_;(iterate 2 refine aA ?_);exact trivial)) (by(exact trivial)) rfl⟩
 ·rw[gV (l:=l) aG] at lz
  rw[decide_eq_false lz]
  (refine EE ?_)
  (apply c_;(exact fZ.one (.tmp rfl rfl));(refine Le.fe ?_;(rfl)))
theorem I7 (bs:List gv) (hb:bs.length≤1000) (Hl:∀x∈bs,x.1.2.length≤100000∧x.2.2.length≤100000):Fn Tryz.prog 87 [.pv (oW bs)] (.pv (V4 (fJ 0 bs))):=by
 refine Fn.enter (n:=55) Tryz.func87 rfl rfl rfl rfl rfl (by decide) fun g fu fw=>?_;(try refine nz ?_)
 (refine nQ ?_;refine mw ?_)
 (refine nz ?_;apply AW.fO [2,0] [] (fun k:Nat=>([(3,.own 0 147 2 ((fJ 0 (bs.take k)).map jQ)),(4,eU k)]:List (Nat×AV))) (fun k:Nat=>([(0,some .row)]:List (Nat×Option Ob))) (fun k:Nat=>k≤bs.length) (fun k:Nat=>bs.length - k) (0);(conv=>lhs;simp only[Nf.jI,Nf.all,c6,reduceAdd,reduceSub]);(all_goals skip))
 ·exact bg _
 ·exact e_ rfl (by(refine⟨.nc (by first|rfl|(unfold fJ;rfl)|simp [fJ]) rfl rfl,?_⟩;refine⟨.d_ (by first|rfl|(unfold fJ;rfl)|simp [fJ]),?_⟩;refine aA ?_;refine⟨.fb (by first|rfl|(unfold fJ;rfl)|simp [fJ]),?_⟩;exact trivial)) (by(refine⟨.jv rfl,?_⟩;exact trivial)) rfl
 rintro k hk
 have B0:=oS bs 0 k fun x hx=>(Hl x hx).2
 by_cases ft:k<bs.length
 ·have gZ:=sX bs 0 k ft
  rw[Nat.zero_add] at gZ
  obtain⟨TE,hx2⟩:=Hl _ (cT ft)
  have UO:=fun t=>N_ bs[k].1.2 t (by omega)
  (refine yn ?_;refine vo ?_;refine sO ?_)
  (refine nz ?_;apply AW.fO [4,2,0] [] (fun i:Nat=>([(3,.own 0 147 2 ((fJ 0 (bs.take k)++gF k (gg (bs[k].2.2.take i) bs[k].1.2)).map jQ)),(5,eU i)]:List (Nat×AV))) (fun i:Nat=>([(0,some .row)]:List (Nat×Option Ob))) (fun i:Nat=>i≤bs[k].2.2.length) (fun i:Nat=>bs[k].2.2.length - i) (0);(conv=>lhs;simp only[Nf.jI,Nf.all,c6,reduceAdd,reduceSub]);(all_goals skip))
  ·exact bg _
  ·exact e_ rfl (by(refine⟨.fR (by first|rfl|simp [gF,gg]|(unfold gg;simp [gF])) rfl,?_⟩;refine⟨.d_ (by first|rfl|simp [gF,gg]|(unfold gg;simp [gF])),?_⟩;refine⟨.d_ (by first|rfl|simp [gF,gg]|(unfold gg;simp [gF])),?_⟩;refine aA ?_;refine⟨.fb (by first|rfl|simp [gF,gg]|(unfold gg;simp [gF])),?_⟩;exact trivial)) (by(refine aC ?_;exact trivial)) rfl
  rintro i hi
  have Nh:=rC bs[k].2.2 bs[k].1.2 i
  have Dp:(gF k (gg (bs[k].2.2.take i) bs[k].1.2)).length≤i:=by unfold gF;rw[aX];exact Nh
  by_cases gM:i<bs[k].2.2.length
  ·have jj:=Ah (x:=bs[k]) gM
   have JY:=UO bs[k].2.2[i]
   by_cases hm:bs[k].2.2[i]∈bs[k].1.2
   ·rw[decide_eq_true hm] at JY
    rw[if_neg (fun h=>h hm),bp] at jj
    (refine sU ?_;(iterate 3 refine zm ?_);refine ay ?_;refine Hr ?_;refine yy ?_;refine tU ?_;refine zo ?_;(with_reducible apply AW.fG);exact rfl;exact rfl;kernel_rfl;(with_reducible assumption);(iterate 2 refine zm ?_);refine ay ?_;refine Ca ?_;refine a_.ig 105 1 1 1 rfl rfl rfl rfl ?_;refine nz ?_;refine BM ?_;refine ay ?_;refine Hr ?_;refine zm ?_;refine ay ?_;refine zr ?_;refine zA (JY) ?_;refine vj ?_;refine uk ?_)
    exact⟨i+1,by omega,by omega,e_ rfl (by(refine⟨.fR (by first|rfl|(rw[jj])) rfl,?_⟩;refine⟨.d_ (by first|rfl|(rw[jj])),?_⟩;refine⟨.d_ (by first|rfl|(rw[jj])),?_⟩;refine aA ?_;refine⟨.fb (by first|rfl|(rw[jj])),?_⟩;exact trivial)) (by(refine aC ?_;exact trivial)) rfl⟩
   ·rw[decide_eq_false hm] at JY
    rw[if_pos hm] at jj
    (refine sU ?_;(iterate 3 refine zm ?_);refine ay ?_;refine Hr ?_;refine yy ?_;refine tU ?_;refine zo ?_;(with_reducible apply AW.fG);exact rfl;exact rfl;kernel_rfl;(with_reducible assumption);(iterate 2 refine zm ?_);refine ay ?_;refine Ca ?_;refine a_.ig 105 1 1 1 rfl rfl rfl rfl ?_;refine nz ?_;refine BM ?_;refine ay ?_;refine Hr ?_;refine zm ?_;refine ay ?_;refine zr ?_;refine zA (JY) ?_;refine a_.not rfl rfl rfl ?_;refine zz ?_;refine BY ?_;(iterate 3 refine zm ?_);refine ay ?_;refine Hr ?_;refine zm ?_;refine ay ?_;refine zr ?_;refine a_.ba2 rfl rfl rfl rfl rfl rfl rfl rfl rfl rfl rfl rfl ?_;refine Pm ?_;(with_reducible apply a_.fl);exact rfl;exact ai;(iterate 9 exact rfl);exact ab;refine uY ?_)
    exact⟨i+1,by omega,by omega,e_ rfl (by(refine⟨.fR (by first|rfl|(rw[jj];unfold gF;simp [jQ])) rfl,?_⟩;refine⟨.d_ (by first|rfl|(rw[jj];unfold gF;simp [jQ])),?_⟩;refine⟨.d_ (by first|rfl|(rw[jj];unfold gF;simp [jQ])),?_⟩;refine aA ?_;refine⟨.fb (by first|rfl|(rw[jj];unfold gF;simp [jQ])),?_⟩;exact trivial)) (by(refine aC ?_;exact trivial)) rfl⟩
  ·rw[gV (l:=bs[k].2.2) aG]
   (refine sU ?_;(iterate 3 refine zm ?_);refine ay ?_;refine Hr ?_;refine yy ?_;refine zd ?_;refine Q7 ?_;refine uk ?_)
   exact⟨k+1,by omega,by omega,e_ rfl (by(refine⟨.fR (by first|rfl|(rw[gZ];rfl)) rfl,?_⟩;refine⟨.d_ (by first|rfl|(rw[gZ];rfl)),?_⟩;refine aA ?_;refine⟨.fb (by first|rfl|(rw[gZ];rfl)),?_⟩;exact trivial)) (by(refine aC ?_;exact trivial)) rfl⟩
 ·rw[gV (l:=bs) aG]
  (refine yn ?_;refine Tg ?_;refine GW ?_)
  (apply c_;(exact fZ.one (.tmp rfl rfl));(exact Le.own _ _ _ _ rfl))
abbrev Ac (v:gW):List PV:=[.lit (.int .i64 v.1),.lit (.int .i64 v.2.1),.lit (.int .i64 v.2.2)]
abbrev Vl (l:List gW):PV:=.slice 3 (l.map Ac)
theorem YE (k:Nat):jC 1 (k+1)=jC 1 k++ [(-1,0,(k:Int)+1)]:=vq 1 k
attribute [local irreducible] jC jX
structure Qn (s:gu) (st:Nat) (bs:List gv):Prop where
 stb:1≤st∧st≤4
 nb:bs.length=s.fields.length∧bs.length≤10
 sm:∀x∈bs,x.1.2.length≤2000∧x.2.2.length≤2000
theorem Jb (s:gu) (at':List Int) (st:Nat) (bs:List gv) (h:Qn s st bs):Fn Tryz.prog 43 [De s,pI at' (st:Int),.pv (oW bs)] (.pv (Vl (iy 1 st (fJ 0 bs) fun f=>(s.fields.getD f.toNat ⟨ByteArray.empty,[],false⟩).var))):=by
 have I_:=h.stb.1
 have Ns:=h.stb.2
 have oT:=I7 bs (by have:=h.nb.2;omega) (fun x hx=>by have:=h.sm x hx;omega)
 have B0:(fJ 0 bs).length≤1000000:=by
  have h1:=oS bs 0 bs.length fun x hx=>aN (h.sm x hx).2 (by omega)
  rw[dF] at h1
  have:=h.nb.2
  omega
 have M7:∀(k:Nat) (hk:k<(fJ 0 bs).length),0≤(fJ 0 bs)[k].1∧∃hh:(fJ 0 bs)[k].1.toNat<s.fields.length,(s.fields.getD (fJ 0 bs)[k].1.toNat ⟨ByteArray.empty,[],false⟩).var=s.fields[(fJ 0 bs)[k].1.toNat].var:=fun k hk=>by
  obtain⟨j,hj,h1,_⟩:=lu (cT hk)
  have W1:=h.nb.1
  refine⟨by omega,by omega,?_⟩
  rw[kA aG]
 obtain⟨so,fs,pr,fa⟩:=s
 simp only at*
 generalize SB:(fun f:Int=>(fs.getD f.toNat ⟨ByteArray.empty,[],false⟩).var)=vr
 have XV:∀f:Int,(fs.getD f.toNat ⟨ByteArray.empty,[],false⟩).var=vr f:=fun f=>by rw[← SB]
 simp only[XV] at M7
 generalize fJ 0 bs=fr at oT B0 M7 ⊢
 have hlen:∀s k,s≤st→(jX 1 st fr vr s k).length≤6000000:=fun s k hs=>by
  have h1:=AU (o:=1) (fr:=fr) (vr:=vr) (k:=k) hs
  have h2:(s+1)*fr.length≤5*1000000:=eb aG B0
  omega
 rw[← tC]
 by_cases h1:1<st
 ·have gZ:jO st=st:=if_pos h1
  refine Fn.enter (n:=78) Tryz.func43 rfl rfl rfl rfl rfl (by decide) fun g fu fw=>?_;(try refine nz ?_)
  (refine wh ?_;refine nv ?_;refine vz ?_;refine yR ?_;refine nD ?_;refine sO ?_)
  (refine nz ?_;apply AW.fO [6,4,3,2] [1,0] (fun k:Nat=>([(8,eU ((k:Int)+1)),(7,.own 2 108 3 ((jC 1 k).map Ac))]:List (Nat×AV))) (fun k:Nat=>([(2,some .row)]:List (Nat×Option Ob))) (fun k:Nat=>k≤st) (fun k:Nat=>st - k) (0);(conv=>lhs;simp only[Nf.jI,Nf.all,c6,reduceAdd,reduceSub]);(all_goals skip))
  ·exact bg _
  ·rw[show jC 1 0=[] by unfold jC;rfl]
   exact Q9
  rintro k hk
  have Tl:=hY 1 k
  by_cases ft:k<st
  ·have hs:=YE k
   (refine rH ?_;refine y1 ?_;refine a_.leq rfl rfl rfl rfl rfl ?_;refine Gl ?_;refine K8 ?_;refine tU ?_;refine BY ?_;refine zm ?_;refine a_.iW 108 [0,2] rfl rfl rfl rfl rfl rfl rfl rfl rfl ?_;refine nz ?_;refine ux ?_;(with_reducible apply a_.fl);exact rfl;exact ai;(iterate 9 exact rfl);exact ab;refine uY ?_)
   exact⟨k+1,by omega,by omega,e_ rfl (by(refine⟨.d_ (by first|rfl|(rw[hs,cV];rfl)),?_⟩;refine⟨.fR (by first|rfl|(rw[hs,cV];rfl)) rfl,?_⟩;(iterate 3 refine aA ?_);refine⟨.fb (by first|rfl|(rw[hs,cV];rfl)),?_⟩;exact trivial)) (by(refine aC ?_;refine⟨.box _ rfl ?_,?_⟩;refine⟨.fb (by first|rfl|(rw[hs,cV];rfl)),?_⟩;refine⟨.d_ (by first|rfl|(rw[hs,cV];rfl)),?_⟩;exact trivial;refine⟨.box _ rfl ?_,?_⟩;refine⟨.fb (by first|rfl|(rw[hs,cV];rfl)),?_⟩;refine⟨.fb (by first|rfl|(rw[hs,cV];rfl)),?_⟩;(iterate 2 refine aA ?_);(iterate 2 exact trivial))) rfl⟩
  ·obtain rfl:st=k:=by omega
   have Tm:jX 1 st fr vr 0 0=jC 1 st:=by rw[gI,gZ]
   (refine rH ?_;refine y1 ?_;refine a_.leq rfl rfl rfl rfl rfl ?_;refine Mm ?_;refine BE ?_;refine zm ?_;refine zP (oT) ?_;refine mw ?_)
   (refine nz ?_;apply AW.fO [9,6,4,3,2] [1,0] (fun s:Nat=>([(10,eU s),(7,.own 2 108 3 ((jX 1 st fr vr s 0).map Ac))]:List (Nat×AV))) (fun s:Nat=>([(2,some .row)]:List (Nat×Option Ob))) (fun s:Nat=>s≤st) (fun s:Nat=>st - s) (0);(conv=>lhs;simp only[Nf.jI,Nf.all,c6,reduceAdd,reduceSub]);(all_goals skip))
   ·exact bg _
   ·rw[Tm]
    exact Q9
   rintro s hs
   by_cases ft:s<st
   ·(refine rH ?_;refine y1 ?_;refine zs ?_;refine A1 ?_;refine Q5 ?_;refine sO ?_)
    (refine nz ?_;apply AW.fO [10,9,6,4,3,2] [1,0] (fun k:Nat=>([(11,eU k),(7,.own 2 108 3 ((jX 1 st fr vr s k).map Ac))]:List (Nat×AV))) (fun k:Nat=>([(2,some .row)]:List (Nat×Option Ob))) (fun k:Nat=>k≤fr.length) (fun k:Nat=>fr.length - k) (0);(conv=>lhs;simp only[Nf.jI,Nf.all,c6,reduceAdd,reduceSub]);(all_goals skip))
    ·exact bg _
    ·exact Q9
    rintro k hk
    have BP:=hlen s k hs
    by_cases gM:k<fr.length
    ·obtain⟨QB,Sm,yY⟩:=M7 k gM
     have ij:=mu 1 st vr s gM
     by_cases h0:s=0
     ·rw[if_pos (.inl h0)] at ij
      (refine s7 ?_;(with_reducible apply AW.fG);exact rfl;exact rfl;kernel_rfl;(with_reducible assumption);refine rh ?_;refine zm ?_;refine Vm ?_;show a_ .held _ _ _ [_,_,_,_,_,_,_,_,_,_,_,_,_] _ _;refine a_.gk rfl rfl rfl ?_;(iterate 3 refine zm ?_);refine ay ?_;refine KN ?_;refine nz ?_;refine BM ?_;refine ay ?_;refine RI ?_;intro k_ jA;refine AR.fI (i:=13) rfl aF rfl ?_;intro g_ eV hG;refine ux ?_;refine Q3 ?_;refine AR.fI (i:=14) rfl aF rfl ?_;intro g_ eV hG;(with_reducible apply a_.fl);exact rfl;exact ai;(iterate 9 exact rfl);exact ab;refine R_ ?_;intro g_ eV;show a_ .held _ _ _ [_] _ _;refine a_.kh rfl rfl rfl ?_;refine Q3 ?_;intro k_ jA;refine nz ?_;refine K7 ?_)
      exact YM
     ·cases hb:fs[fr[k].1.toNat].var with
      |true=>
       rw[if_pos (.inr (yY.trans hb))] at ij
       (refine s7 ?_;(with_reducible apply AW.fG);exact rfl;exact rfl;kernel_rfl;(with_reducible assumption);refine rh ?_;refine G6 ?_;refine nS ?_;refine ay ?_;refine zy ?_;refine KN ?_;refine nz ?_;refine ov ?_;refine zy ?_;(focus ((with_reducible apply a_.e8);(iterate 7 exact rfl);omega;rotate_left;(first|omega|exact db|exact(by simp))));refine IS ?_;refine nz ?_;refine ov ?_;refine zF ?_;refine zd ?_;refine AW.EV rfl rfl (by assumption) ?_;refine AW.ie [0,1,2,3,4,5,6,7,8,9,10,11,12] [] rfl (by assumption) aF aF rfl ?_;show a_ .held _ _ _ [_,_,_,_,_,_,_,_,_,_,_,_,_] _ _;refine a_.gk rfl rfl rfl ?_;(iterate 3 refine zm ?_);refine ay ?_;refine KN ?_;refine nz ?_;refine BM ?_;refine ay ?_;refine RI ?_;intro k_ jA;refine AR.fI (i:=13) rfl aF rfl ?_;intro g_ eV hG;refine ux ?_;refine Q3 ?_;refine AR.fI (i:=14) rfl aF rfl ?_;intro g_ eV hG;(with_reducible apply a_.fl);exact rfl;exact ai;(iterate 9 exact rfl);exact ab;refine R_ ?_;intro g_ eV;show a_ .held _ _ _ [_] _ _;refine a_.kh rfl rfl rfl ?_;refine Q3 ?_;intro k_ jA;refine nz ?_;refine K7 ?_)
       exact YM
      |false=>
       rw[if_neg (fun h=>h.elim h0 fun h=>by rw[yY.trans hb] at h;cases h)] at ij
       (refine s7 ?_;(with_reducible apply AW.fG);exact rfl;exact rfl;kernel_rfl;(with_reducible assumption);refine rh ?_;refine G6 ?_;refine nS ?_;refine ay ?_;refine zy ?_;refine KN ?_;refine nz ?_;refine ov ?_;refine zy ?_;(focus ((with_reducible apply a_.e8);(iterate 7 exact rfl);omega;rotate_left;(first|omega|exact db|exact(by simp))));refine IS ?_;refine nz ?_;refine ov ?_;refine zF ?_;refine zd ?_;refine AW.Et rfl rfl (by assumption) ?_;refine AW.skip ?_;refine uk ?_)
       exact⟨k+1,by omega,by omega,e_ rfl (by(refine⟨.d_ (by first|rfl|(rw[ij])),?_⟩;refine⟨.fR (by first|rfl|(rw[ij])) rfl,?_⟩;refine⟨.d_ (by first|rfl|(rw[ij])),?_⟩;refine⟨.fb (by first|rfl|(rw[ij])),?_⟩;(iterate 3 refine aA ?_);refine⟨.fb (by first|rfl|(rw[ij])),?_⟩;exact trivial)) (by(refine aC ?_;refine⟨.box _ rfl ?_,?_⟩;refine⟨.fb (by first|rfl|(rw[ij])),?_⟩;refine⟨.d_ (by first|rfl|(rw[ij])),?_⟩;exact trivial;refine⟨.box _ rfl ?_,?_⟩;refine⟨.fb (by first|rfl|(rw[ij])),?_⟩;refine⟨.fb (by first|rfl|(rw[ij])),?_⟩;(iterate 2 refine aA ?_);(iterate 2 exact trivial))) rfl⟩
    ·obtain rfl:k=fr.length:=by omega
     have kQ:=oV 1 st fr vr s
     (refine yn ?_;refine Q7 ?_;refine uk ?_)
     exact Q58
   ·obtain rfl:st=s:=by omega
    (refine rH ?_;refine y1 ?_;refine zs ?_;refine Mm ?_;refine BE ?_;refine GW ?_)
    (apply c_;(exact fZ.one (.tmp rfl rfl));(exact Le.own _ _ _ _ rfl))
 ·have gZ:jO st=0:=if_neg h1
  have Tm:jX 1 st fr vr 0 0=[]:=by rw[gI,gZ];unfold jC;rfl
  refine Fn.enter (n:=78) Tryz.func43 rfl rfl rfl rfl rfl (by decide) fun g fu fw=>?_;(try refine nz ?_)
  (refine wh ?_;refine nv ?_;refine vz ?_;refine yR ?_;refine qZ ?_;refine zm ?_;refine zP (oT) ?_;refine mw ?_)
  (refine nz ?_;apply AW.fO [9,6,4,3,2] [1,0] (fun s:Nat=>([(10,eU s),(7,.own 2 108 3 ((jX 1 st fr vr s 0).map Ac))]:List (Nat×AV))) (fun s:Nat=>([(2,some .row)]:List (Nat×Option Ob))) (fun s:Nat=>s≤st) (fun s:Nat=>st - s) (0);(conv=>lhs;simp only[Nf.jI,Nf.all,c6,reduceAdd,reduceSub]);(all_goals skip))
  ·exact bg _
  ·rw[Tm]
   exact Q9
  rintro s hs
  by_cases ft:s<st
  ·(refine rH ?_;refine y1 ?_;refine zs ?_;refine A1 ?_;refine Q5 ?_;refine sO ?_)
   (refine nz ?_;apply AW.fO [10,9,6,4,3,2] [1,0] (fun k:Nat=>([(11,eU k),(7,.own 2 108 3 ((jX 1 st fr vr s k).map Ac))]:List (Nat×AV))) (fun k:Nat=>([(2,some .row)]:List (Nat×Option Ob))) (fun k:Nat=>k≤fr.length) (fun k:Nat=>fr.length - k) (0);(conv=>lhs;simp only[Nf.jI,Nf.all,c6,reduceAdd,reduceSub]);(all_goals skip))
   ·exact bg _
   ·exact Q9
   rintro k hk
   have BP:=hlen s k hs
   by_cases gM:k<fr.length
   ·obtain⟨QB,Sm,yY⟩:=M7 k gM
    have ij:=mu 1 st vr s gM
    by_cases h0:s=0
    ·rw[if_pos (.inl h0)] at ij
     (refine s7 ?_;(with_reducible apply AW.fG);exact rfl;exact rfl;kernel_rfl;(with_reducible assumption);refine rh ?_;refine zm ?_;refine Vm ?_;show a_ .held _ _ _ [_,_,_,_,_,_,_,_,_,_,_,_,_] _ _;refine a_.gk rfl rfl rfl ?_;(iterate 3 refine zm ?_);refine ay ?_;refine KN ?_;refine nz ?_;refine BM ?_;refine ay ?_;refine RI ?_;intro k_ jA;refine AR.fI (i:=13) rfl aF rfl ?_;intro g_ eV hG;refine ux ?_;refine Q3 ?_;refine AR.fI (i:=14) rfl aF rfl ?_;intro g_ eV hG;(with_reducible apply a_.fl);exact rfl;exact ai;(iterate 9 exact rfl);exact ab;refine R_ ?_;intro g_ eV;show a_ .held _ _ _ [_] _ _;refine a_.kh rfl rfl rfl ?_;refine Q3 ?_;intro k_ jA;refine nz ?_;refine K7 ?_)
     exact YM
    ·exfalso
     omega
   ·obtain rfl:k=fr.length:=by omega
    have kQ:=oV 1 st fr vr s
    (refine yn ?_;refine Q7 ?_;refine uk ?_)
    exact Q58
  ·obtain rfl:st=s:=by omega
   (refine rH ?_;refine y1 ?_;refine zs ?_;refine Mm ?_;refine BE ?_;refine GW ?_)
   (apply c_;(exact fZ.one (.tmp rfl rfl));(exact Le.own _ _ _ _ rfl))
end Go.Ab
/- Chapter 24:chapter 11's reference:equality,composition,inverse,sorts of atoms. -/
namespace Go.Ab
open Go Go.Proofs
open Nat (reduceAdd reduceSub)
set_option maxRecDepth 20000
set_option maxHeartbeats 4000000
theorem PD {a b:List Int} {k:Nat} (h1:k<a.length) (h2:k<b.length) (h:a.take k=b.take k) (he:a[k]=b[k]):a.take (k+1)=b.take (k+1):=by
 rw[fF h1,fF h2,h,he]
attribute [local irreducible] AW a_ fT ff AR fh e6 fp fA
theorem H8 (a b:List Int) (ha:a.length≤1000000):Fn Tryz.prog 17 [.pv (ints a),.pv (ints b)] (fe (decide (a=b))):=by
 refine Fn.enter (n:=26) Tryz.func17 rfl rfl rfl rfl rfl (by decide) fun g fu fw=>?_;(try refine nz ?_)
 by_cases ti:a.length=b.length
 ·(refine C6 ?_;refine tH ?_;refine sO ?_)
  (refine nz ?_;apply AW.fO [0,1] [] (fun k:Nat=>([(5,eU k)]:List (Nat×AV))) (fun k:Nat=>([]:List (Nat×Option Ob))) (fun k:Nat=>k≤a.length∧a.take k=b.take k) (fun k:Nat=>a.length - k) (0);(conv=>lhs;simp only[Nf.jI,Nf.all,c6,reduceAdd,reduceSub]);(all_goals skip))
  ·exact⟨bg _,rfl⟩
  ·exact Su
  rintro k ⟨hk,lz⟩
  by_cases ft:k<a.length
  ·have gM:k<b.length:=by omega
   by_cases he:a[k]=b[k]
   ·have hs:=PD ft gM lz he
    (refine s7 ?_;(with_reducible apply AW.fG);exact rfl;exact rfl;kernel_rfl;(with_reducible assumption);(iterate 2 refine zm ?_);refine ay ?_;refine BM ?_;refine ay ?_;refine Jc ?_;refine rP ?_)
    exact UB
   ·have gz:¬a=b:=by rintro rfl;exact he rfl
    rw[decide_eq_false gz]
    (refine s7 ?_;(with_reducible apply AW.fG);exact rfl;exact rfl;kernel_rfl;(with_reducible assumption);(iterate 2 refine zm ?_);refine ay ?_;refine BM ?_;refine ay ?_;refine Jc ?_;refine nD ?_;refine oC ?_)
    (apply c_;(exact fZ.one (.tmp rfl rfl));(refine Le.fe ?_;(rfl)))
  ·have he:a=b:=by
    have h1:a.take k=a:=cE (by omega)
    have h2:b.take k=b:=cE (by omega)
    rw[h1,h2] at lz;exact lz
   rw[decide_eq_true he]
   (refine EE ?_)
   (apply c_;(exact fZ.one (.tmp rfl rfl));(refine Le.fe ?_;(rfl)))
 ·have gz:¬a=b:=by rintro rfl;exact ti rfl
  rw[decide_eq_false gz]
  (refine C6 ?_;refine sK ?_)
  (apply c_;(exact fZ.one (.tmp rfl rfl));(refine Le.fe ?_;(rfl)))
attribute [local irreducible] oF
def ZY (p:List Int) (k:Nat):List Int:=(a7 p.length).map fun j:Nat=>if p.findIdx (fun x=>decide (x=(j:Int)))<k then ((p.findIdx fun x=>decide (x=(j:Int)):Nat):Int) else p.getD j 0
attribute [local irreducible] ZY tt
theorem s3 (at':List Int) (st:Int) (h:sr at'):Fn Tryz.prog 117 [pI at' st] (eU at'.sum):=by
 have hb:=h.take
 have hle:=h.1
 refine Fn.enter (n:=20) Tryz.func117 rfl rfl rfl rfl rfl (by decide) fun g fu fw=>?_;(try refine nz ?_)
 (refine tc ?_;refine mw ?_)
 (refine nz ?_;apply AW.fO [2,1] [0] (fun k:Nat=>([(3,eU (at'.take k).sum),(4,eU k)]:List (Nat×AV))) (fun k:Nat=>([]:List (Nat×Option Ob))) (fun k:Nat=>k≤at'.length) (fun k:Nat=>at'.length - k) (0);(conv=>lhs;simp only[Nf.jI,Nf.all,c6,reduceAdd,reduceSub]);(all_goals skip))
 ·exact bg _
 ·exact UD
 rintro k hk
 by_cases ft:k<at'.length
 ·have hs:=my at' ft
  have h1:=hb k
  have h2:=hb (k+1)
  (refine yp ?_;refine tU ?_;refine qC ?_;refine A3 ?_;refine ay ?_;refine zr ?_;refine zj ?_;refine uC ?_;refine uk ?_)
  exact⟨k+1,by omega,by omega,e_ rfl (by(refine⟨.d_ (by first|rfl|(rw[hs])),?_⟩;refine⟨.d_ (by first|rfl|(rw[hs])),?_⟩;refine⟨.d_ (by first|rfl|(rw[hs])),?_⟩;refine aA ?_;exact trivial)) (by(refine⟨.box _ rfl ?_,?_⟩;refine⟨.fb (by first|rfl|(rw[hs])),?_⟩;refine⟨.d_ (by first|rfl|(rw[hs])),?_⟩;(iterate 2 exact trivial))) rfl⟩
 ·rw[gV (l:=at') aG]
  (refine yp ?_;refine rY ?_;refine zm ?_;refine j7 ?_)
  (apply c_;(exact fZ.one (.tmp rfl rfl));(refine Le.eU ?_;(rfl)))
theorem AD (at':List Int) (st x:Int) (h:sr at') (hx: -9223372036854775808≤x∧x≤9223372036854775807):Fn Tryz.prog 118 [pI at' st,eU x] (eU (iv at' x 0)):=by
 have hle:=h.1
 refine Fn.enter (n:=28) Tryz.func118 rfl rfl rfl rfl rfl (by decide) fun g fu fw=>?_;(try refine nz ?_)
 (refine lV ?_;refine mw ?_)
 (refine nz ?_;apply AW.fO [2] [0] (fun s:Nat×Int=>([(5,eU s.1),(1,eU s.2)]:List (Nat×AV))) (fun s:Nat×Int=>([]:List (Nat×Option Ob))) (fun s:Nat×Int=>s.1≤at'.length∧ -9223372036854775808≤s.2∧s.2≤9223372036854775807∧iv at' x 0=iv (at'.drop s.1) s.2 s.1) (fun s:Nat×Int=>at'.length - s.1) ((0,x));(conv=>lhs;simp only[Nf.jI,Nf.all,c6,reduceAdd,reduceSub]);(all_goals skip))
 ·exact⟨bg _,hx.1,hx.2,rfl⟩
 ·exact W4
 rintro⟨j,y⟩ ⟨hj,h1,h2,he⟩
 simp only at hj h1 h2 he ⊢
 by_cases ft:j<at'.length
 ·have hz:=h.2 _ (cT ft)
  rw[yh ft] at he
  by_cases hc:y<at'[j]
  ·rw[if_pos hc] at he
   (refine IA ?_;refine A3 ?_;refine ay ?_;refine uT ?_;refine nD ?_;refine zm ?_;refine Dl ?_;refine JA ?_)
   (apply c_;(exact fZ.one (.tmp rfl rfl));(refine Le.eU ?_;(exact he.symm)))
  ·rw[if_neg hc] at he
   (refine IA ?_;refine A3 ?_;refine ay ?_;refine uT ?_;refine B1 ?_;refine qC ?_;refine A3 ?_;refine ay ?_;refine zr ?_;refine a_.sub rfl rfl rfl rfl rfl aG ?_;refine uC ?_;refine uk ?_)
   exact U9
 ·rw[List.drop_eq_nil_of_le aG] at he
  (refine yp ?_;refine rY ?_;refine j7 ?_)
  (apply c_;(exact fZ.one (.tmp rfl rfl));(refine Le.eU ?_;(exact he.symm)))
end Go.Ab
/- Chapter 24:chapter 11's reference:images,relations,permutations that are valid. -/
namespace Go.Ab
open Go Go.Proofs
open Nat (reduceAdd reduceSub)
set_option maxRecDepth 20000
set_option maxHeartbeats 4000000
attribute [local irreducible] AW a_ fT ff AR fh e6 fp fA fV canon
theorem Eg {iF:Int→Int} (p:List Int) (ar:Nat) (t:Int) (hp:iH p.length iF p) (hn:0<p.length) (hl:p.length≤12) (ha:ar≤3) (ht:0≤t∧t≤1000000):
  Fn Tryz.prog 95 [eU p.length,.pv (ints p),eU ar,eU t] (eU (fV p.length p ar t)):=by
 refine Fn.enter (n:=38) Tryz.func95 rfl rfl rfl rfl rfl (by decide) fun g fu fw=>?_;(try refine nz ?_)
 (refine nQ ?_;refine nv ?_;refine mw ?_)
 (refine nz ?_;apply AW.fO [8,0,1,2] [] (fun i:Nat=>([(11,eU i),(3,eU (t / kH p.length i)),(9,eU (fV p.length p i t)),(10,eU (kH p.length i))]:List (Nat×AV))) (fun i:Nat=>([]:List (Nat×Option Ob))) (fun i:Nat=>i≤ar) (fun i:Nat=>ar - i) (0);(conv=>lhs;simp only[Nf.jI,Nf.all,c6,reduceAdd,reduceSub]);(all_goals skip))
 ·exact bg _
 ·exact e_ rfl (by(refine⟨.d_ (by first|rfl|(simp [fV,kH];rfl)|simp [fV,kH]),?_⟩;refine⟨.d_ (by first|rfl|(simp [fV,kH];rfl)|simp [fV,kH]),?_⟩;refine⟨.d_ (by first|rfl|(simp [fV,kH];rfl)|simp [fV,kH]),?_⟩;refine⟨.d_ (by first|rfl|(simp [fV,kH];rfl)|simp [fV,kH]),?_⟩;refine⟨.d_ (by first|rfl|(simp [fV,kH];rfl)|simp [fV,kH]),?_⟩;refine⟨.d_ (by first|rfl|(simp [fV,kH];rfl)|simp [fV,kH]),?_⟩;refine⟨.fb (by first|rfl|(simp [fV,kH];rfl)|simp [fV,kH]),?_⟩;refine⟨.d_ (by first|rfl|(simp [fV,kH];rfl)|simp [fV,kH]),?_⟩;exact trivial)) (by(exact trivial)) rfl
 rintro i hi
 by_cases ft:i<ar
 ·have hS:=OE (n:=p.length) (i:=i) hl aG hn
  have Ug:=OE (n:=p.length) (i:=i+1) hl aG hn
  have gZ:=um p.length p i t
  have Un:0≤t / kH p.length i:=dX ht.1 (by omega)
  have Xl:t / kH p.length i≤t:=Int.ediv_le_self _ ht.1
  have Aj:t / kH p.length (i+1)=t / kH p.length i / (p.length:Int):=by
   rw[Int.ediv_ediv_of_nonneg aG,dA,← iT]
  have yF:kH p.length (i+1)=kH p.length i*(p.length:Int):=by
   rw[dA];exact iT _ _
  have hb:=Bu hp hn i t
  have hO:0≤fV p.length p i t∧fV p.length p i t<kH p.length i:=hb
  rw[yF] at Ug
  clear hb
  generalize fV p.length p i t=O at hO gZ ⊢
  generalize t / kH p.length i=T at Un Xl Aj gZ ⊢
  generalize kH p.length i=S at hS yF Ug hO gZ ⊢
  have hm:=mod_lt hn T
  have hm0:0≤T % (p.length:Int):=Int.emod_nonneg _ (by omega)
  have G9:T % (p.length:Int)<(p.length:Int):=Int.emod_lt_of_pos _ (by omega)
  have yt:0≤T / (p.length:Int):=dX Un (by omega)
  rw[kA hm] at gZ
  have hx:=hp.wI _ (cT hm)
  have hM:0≤p[(T % (p.length:Int)).toNat]*S∧p[(T % (p.length:Int)).toNat]*S≤12*1728:=⟨Int.mul_nonneg hx.1 aG,Int.mul_le_mul aG hS.2 aG aG⟩
  (refine rO ?_;refine A1 ?_;refine Q5 ?_;(iterate 4 refine zm ?_);refine a_.Ef rfl rfl rfl rfl rfl aG ?_;(focus ((with_reducible apply a_.e8);(iterate 7 exact rfl);omega;rotate_left;(first|omega|exact db|exact(by simp))));refine zr ?_;refine zm ?_;refine VX ?_;refine uk ?_)
  exact⟨i+1,by omega,by omega,e_ rfl (by(refine⟨.d_ (by first|rfl|(rw[Aj])|(rw[gZ])|(rw[yF])),?_⟩;refine⟨.d_ (by first|rfl|(rw[Aj])|(rw[gZ])|(rw[yF])),?_⟩;refine⟨.d_ (by first|rfl|(rw[Aj])|(rw[gZ])|(rw[yF])),?_⟩;refine⟨.d_ (by first|rfl|(rw[Aj])|(rw[gZ])|(rw[yF])),?_⟩;refine⟨.d_ (by first|rfl|(rw[Aj])|(rw[gZ])|(rw[yF])),?_⟩;refine⟨.d_ (by first|rfl|(rw[Aj])|(rw[gZ])|(rw[yF])),?_⟩;refine⟨.fb (by first|rfl|(rw[Aj])|(rw[gZ])|(rw[yF])),?_⟩;refine⟨.d_ (by first|rfl|(rw[Aj])|(rw[gZ])|(rw[yF])),?_⟩;exact trivial)) (by(exact trivial)) rfl⟩
 ·obtain rfl:i=ar:=by omega
  (refine rO ?_;refine Mm ?_;refine BE ?_;refine zm ?_;refine j7 ?_)
  (apply c_;(exact fZ.one (.tmp rfl rfl));(refine Le.eU ?_;(rfl)))
theorem CJ {iF:Int→Int} (at':List Int) (st:Int) (p:List Int) (ar:Nat) (ts:List Int) (hp:iH p.length iF p) (hn:0<p.length) (hl:p.length≤12) (ha:ar≤3) (ht:∀t∈ts,0≤t∧t≤1000000) (M5:ts.length≤100000):
  Fn Tryz.prog 50 [pI at' st,.pv (ints p),mA ((ar:Int),ts)] (mA ((ar:Int),canon (ts.map (fV p.length p ar)))):=by
 have hr:=fun t (h:t∈ts)=>Eg p ar t hp hn hl ha (ht t h)
 have Tx:=SC (ar:Int) (ts.map (fV p.length p ar)) (by rw[aX];omega)
 refine Fn.enter (n:=35) Tryz.func50 rfl rfl rfl rfl rfl (by decide) fun g fu fw=>?_;(try refine nz ?_)
 (refine wh ?_;refine pZ ?_;refine nd ?_;refine a_.M9 rfl rfl rfl rfl rfl ?_;refine sM ?_;refine Hw ?_;refine sO ?_)
 (refine nz ?_;apply AW.fO [6,5,1] [2,1] (fun k:Nat=>([(8,eU k),(7,.own 3 3 1 (((ts.take k).map (fV p.length p ar)).map encI))]:List (Nat×AV))) (fun k:Nat=>([(3,some .row)]:List (Nat×Option Ob))) (fun k:Nat=>k≤ts.length) (fun k:Nat=>ts.length - k) (0);(conv=>lhs;simp only[Nf.jI,Nf.all,c6,reduceAdd,reduceSub]);(all_goals skip))
 ·exact bg _
 ·exact e_ rfl (by(refine aA ?_;(iterate 4 refine aA ?_);exact trivial)) (by(refine aC ?_;refine⟨.box _ rfl ?_,?_⟩;(iterate 2 refine aA ?_);exact trivial;refine⟨.box _ rfl ?_,?_⟩;(iterate 2 refine aA ?_);(iterate 2 exact trivial))) rfl
 rintro k hk
 have B3:((ts.take k).map (fV p.length p ar)).length≤ts.length:=by rw[aX];exact aN (c8 k ts) hk
 by_cases ft:k<ts.length
 ·have h1:=hr ts[k] (cT ft)
  have hs:=fF ft
  (refine E0 ?_;refine tU ?_;refine AW.ie [0,1,2,3,4,5,6,7,8,9,10] [] rfl (by assumption) aF aF rfl ?_;show a_ .held _ _ _ [_,_,_,_,_,_,_,_,_,_,_] _ _;refine a_.gk rfl rfl rfl ?_;refine zm ?_;refine zn ?_;refine zm ?_;refine E6 ?_;refine zi ?_;refine zm ?_;refine ay ?_;refine zr ?_;refine Q3 ?_;intro k_ jA;refine nz ?_;refine AR.fI (i:=11) rfl aF rfl ?_;intro g_ eV hG;refine zA (h1) ?_;refine Q3 ?_;refine AR.fI (i:=12) rfl aF rfl ?_;intro g_ eV hG;refine wO ?_;refine KG ?_;intro g_ eV hG;(with_reducible apply a_.fl);exact rfl;exact ai;(iterate 9 exact rfl);exact ab;refine nz ?_;refine Q3 ?_;refine AR.lW [14] aF aF aF aF ?_;intro g_ eV;show a_ .held _ _ _ [_] _ _;refine a_.kh rfl rfl rfl ?_;refine Q3 ?_;intro k_ jA;refine nz ?_;refine K7 ?_)
  exact⟨k+1,by omega,by omega,e_ rfl (by(refine⟨.d_ (by first|rfl|(rw[hs,cV,cV];rfl)),?_⟩;refine⟨.fR (by first|rfl|(rw[hs,cV,cV];rfl)) rfl,?_⟩;(iterate 2 refine aA ?_);refine⟨.fb (by first|rfl|(rw[hs,cV,cV];rfl)),?_⟩;exact trivial)) (by(refine aC ?_;refine⟨.box _ rfl ?_,?_⟩;refine⟨.d_ (by first|rfl|(rw[hs,cV,cV];rfl)),?_⟩;refine aA ?_;exact trivial;refine⟨.box _ rfl ?_,?_⟩;refine⟨.d_ (by first|rfl|(rw[hs,cV,cV];rfl)),?_⟩;refine⟨.fb (by first|rfl|(rw[hs,cV,cV];rfl)),?_⟩;(iterate 2 exact trivial))) rfl⟩
 ·rw[gV (l:=ts) aG]
  generalize ts.map (fV p.length p ar)=yl at Tx
  (refine E0 ?_;refine rY ?_;refine E6 ?_;refine a_.gk rfl rfl rfl ?_;refine Dn ?_;refine zP (Tx) ?_;refine lN ?_;refine qu ?_)
  (apply c_;(exact fZ.one (.cell rfl rfl rfl rfl));(refine Le.ia ?_;refine gX.cons ?_ ?_;(with_reducible exact Le.pv _);refine gX.cons ?_ ?_;(with_reducible exact Le.pv _);exact gX.nil))
theorem Ih (at':List Int) (st:Int) (h:sr at') (h4:at'.length≤4) (h5:∀x∈at',x≤5) (hs:at'.sum≤12):Fn Tryz.prog 149 [pI at' st] (fe true):=by
 have ha:=s3 at' st h
 refine Fn.enter (n:=32) Tryz.func149 rfl rfl rfl rfl rfl (by decide) fun g fu fw=>?_;(try refine nz ?_)
 (refine lV ?_;refine vz ?_;refine BI ?_;refine zn ?_;refine a_.gtr rfl rfl rfl rfl rfl ?_;refine tH ?_;refine sO ?_)
 (refine nz ?_;apply AW.fO [6,1] [0] (fun k:Nat=>([(3,eU k)]:List (Nat×AV))) (fun k:Nat=>([]:List (Nat×Option Ob))) (fun k:Nat=>k≤at'.length) (fun k:Nat=>at'.length - k) (0);(conv=>lhs;simp only[Nf.jI,Nf.all,c6,reduceAdd,reduceSub]);(all_goals skip))
 ·exact bg _
 ·exact W4
 rintro k hk
 by_cases ft:k<at'.length
 ·have h1:=h.2 _ (cT ft)
  have h2:=h5 _ (cT ft)
  (refine yp ?_;refine zd ?_;refine vo ?_;refine BI ?_;refine zm ?_;refine ay ?_;refine uT ?_;refine mW ?_;refine PH ?_;refine mW ?_;refine ay ?_;refine ov ?_;refine wL ?_;refine rP ?_)
  exact⟨k+1,by omega,by omega,e_ rfl (by(refine aA ?_;(iterate 2 refine aA ?_);exact trivial)) (by(refine⟨.box _ rfl ?_,?_⟩;(iterate 2 refine aA ?_);(iterate 2 exact trivial))) rfl⟩
 ·have e:=decide_eq_true hs
  (refine yp ?_;refine rY ?_;refine j4 ?_;refine zA (ha) ?_;refine a_.leq rfl rfl rfl rfl rfl ?_;refine j7 ?_)
  (apply c_;(exact fZ.one (.tmp rfl rfl));(refine Le.fe ?_;(first|rfl|(rw[e]))))
theorem LS (l:List Int) (x:Int) (hl:l.length≤1000000):Fn Tryz.prog 119 [.pv (ints l),eU x] (fe (decide (x∈l))):=by
 refine Fn.enter (n:=18) Tryz.func119 rfl rfl rfl rfl rfl (by decide) fun g fu fw=>?_;(try refine nz ?_)
 (refine zq ?_;refine mw ?_)
 (refine nz ?_;apply AW.fO [0,1] [] (fun k:Nat=>([(5,eU k)]:List (Nat×AV))) (fun k:Nat=>([]:List (Nat×Option Ob))) (fun k:Nat=>k≤l.length∧x∉l.take k) (fun k:Nat=>l.length - k) (0);(conv=>lhs;simp only[Nf.jI,Nf.all,c6,reduceAdd,reduceSub]);(all_goals skip))
 ·exact⟨bg _,by simp⟩
 ·exact Su
 rintro k ⟨hk,lz⟩
 by_cases ft:k<l.length
 ·by_cases he:l[k]=x
  ·have hm:x∈l:=he▸cT ft
   rw[decide_eq_true hm]
   (refine Hn ?_;refine ay ?_;refine zr ?_;refine rh ?_;refine nD ?_;refine oC ?_)
   (apply c_;(exact fZ.one (.tmp rfl rfl));(refine Le.fe ?_;(rfl)))
  ·have hs:x∉l.take (k+1):=by
    rw[fF ft,bW]
    rintro(h|h)
    ·exact lz h
    ·exact he (cp.1 h).symm
   (refine Hn ?_;refine ay ?_;refine zr ?_;refine rh ?_;refine rP ?_)
   exact UB
 ·rw[gV (l:=l) aG] at lz
  rw[decide_eq_false lz]
  (refine EE ?_)
  (apply c_;(exact fZ.one (.tmp rfl rfl));(refine Le.fe ?_;(rfl)))
theorem EB (at':List Int) (st:Int) (p:List Int) (h:sr at') (h4:at'.length≤4) (h5:∀x∈at',x≤5) (hs:at'.sum≤12) (hp:iH p.length (fun x=>iv at' x 0) p) (hl:(p.length:Int)=at'.sum):Fn Tryz.prog 121 [pI at' st,.pv (ints p)] (fe true):=by
 have hu:=Ih at' st h h4 h5 hs
 have ha:=s3 at' st h
 rw[← hl] at ha
 have Hk:=fun x hx=>AD at' st x h hx
 refine Fn.enter (n:=63) Tryz.func121 rfl rfl rfl rfl rfl (by decide) fun g fu fw=>?_;(try refine nz ?_)
 (refine lV ?_;refine vz ?_;refine j4 ?_;refine zA (hu) ?_;refine ze ?_;refine oq ?_;refine zn ?_;refine tQ ?_;refine zl ?_;refine zA (ha) ?_;refine zl ?_;refine a_.neq rfl rfl rfl rfl rfl ?_;refine a_.jk rfl rfl rfl rfl rfl rfl ?_;refine tH ?_;refine sO ?_)
 (refine nz ?_;apply AW.fO [14,2,1] [0] (fun i:Nat=>([(5,eU i)]:List (Nat×AV))) (fun i:Nat=>([]:List (Nat×Option Ob))) (fun i:Nat=>i≤p.length) (fun i:Nat=>p.length - i) (0);(conv=>lhs;simp only[Nf.jI,Nf.all,c6,reduceAdd,reduceSub]);(all_goals skip))
 ·exact bg _
 ·exact US
 rintro i hi
 by_cases ft:i<p.length
 ·have hx:=hp.wI _ (cT ft)
  have e:=hp.iF i ft
  have s1:=Hk p[i] (by omega)
  have s2:=Hk (i:Int) (by omega)
  rw[e] at s1
  generalize iv at' (i:Int) 0=sv at s1 s2
  clear e
  (refine yn ?_;refine Q1 ?_;(iterate 2 refine zo ?_);(with_reducible apply AW.fG);exact rfl;exact rfl;kernel_rfl;(with_reducible assumption);(iterate 2 refine zm ?_);refine ay ?_;refine uT ?_;refine nS ?_;refine mW ?_;refine ay ?_;refine ov ?_;refine zy ?_;refine mW ?_;refine zn ?_;refine vV ?_;refine mW ?_;refine j4 ?_;refine zy ?_;refine nS ?_;refine ay ?_;refine ov ?_;refine zy ?_;refine zA (s1) ?_;refine zy ?_;refine j4 ?_;refine zy ?_;refine mW ?_;refine zA (s2) ?_;refine zy ?_;refine a_.neq rfl rfl rfl rfl rfl ?_;refine zF ?_;refine qZ ?_;refine sO ?_)
  (refine nz ?_;apply AW.fO [5,14,2,1] [0] (fun k:Nat=>([(6,eU k)]:List (Nat×AV))) (fun k:Nat=>([]:List (Nat×Option Ob))) (fun k:Nat=>k≤i) (fun k:Nat=>i - k) (0);(conv=>lhs;simp only[Nf.jI,Nf.all,c6,reduceAdd,reduceSub]);(all_goals skip))
  ·exact bg _
  ·exact US
  rintro k hk
  by_cases gM:k<i
  ·have gz:¬p[k]=p[i]:=fun e=>by
    have:=(List.getElem_inj hp.nodup).1 e
    omega
   (refine rO ?_;refine tU ?_;refine zo ?_;(with_reducible apply AW.fG);exact rfl;exact rfl;kernel_rfl;(with_reducible assumption);(iterate 2 refine zm ?_);refine ay ?_;refine BM ?_;refine ay ?_;refine zr ?_;refine a_.eql rfl rfl rfl rfl rfl ?_;refine rP ?_)
   exact⟨k+1,by omega,by omega,e_ rfl (by(first|(refine aA ?_;(iterate 4 refine aA ?_);exact trivial)|(refine aA ?_;(iterate 3 refine aA ?_);exact trivial))) (by(refine⟨.box _ rfl ?_,?_⟩;(iterate 2 refine aA ?_);(iterate 2 exact trivial))) rfl⟩
  ·(refine rO ?_;refine zd ?_;refine Q7 ?_;refine uk ?_)
   exact⟨i+1,by omega,by omega,e_ rfl (by(first|(refine aA ?_;(iterate 4 refine aA ?_);exact trivial)|(refine aA ?_;(iterate 3 refine aA ?_);exact trivial))) (by(refine⟨.box _ rfl ?_,?_⟩;(iterate 2 refine aA ?_);(iterate 2 exact trivial))) rfl⟩
 ·(refine EE ?_)
  (apply c_;(exact fZ.one (.tmp rfl rfl));(refine Le.fe ?_;(rfl)))
end Go.Ab
/- Chapter 24:all permutations of atoms;the symmetries,walked. -/
namespace Go.Ab
open Go Go.Proofs
open Nat (reduceAdd reduceSub)
set_option maxRecDepth 20000
set_option maxHeartbeats 4000000
def W_ (iF:Int→Int) (i:Nat) (p:List Int) (x:Nat):Bool:=decide (iF x=iF i) && !decide ((x:Int)∈p)
def y9 (iF:Int→Int) (i:Nat) (p:List Int) (x:Nat):List (List Int):=((a7 x).filter (W_ iF i p)).map fun x:Nat=>p++ [(x:Int)]
theorem Jg (iF:Int→Int) (i:Nat) (p:List Int) (x:Nat):y9 iF i p (x+1)=y9 iF i p x++if W_ iF i p x=true then [p++ [(x:Int)]] else []:=by
 unfold y9
 rw[dP,ec,cV]
 congr 1
 by_cases h:W_ iF i p x=true
 ·rw[if_pos h,dR,if_pos h];rfl
 ·rw[if_neg h,dR,if_neg h];rfl
theorem Hc (iF:Int→Int) (i:Nat) (p:List Int):y9 iF i p 0=[]:=rfl
theorem Ds (iF:Int→Int) (i:Nat) (p:List Int) (x:Nat):(y9 iF i p x).length≤x:=by
 unfold y9
 rw[aX]
 exact aN (dH _ _) (by rw[List.length_range];exact aM _)
def sl (n:Nat) (iF:Int→Int) (i:Nat) (l:List (List Int)) (k:Nat):List (List Int):=(l.take k).flatMap fun p=>y9 iF i p n
theorem yu (n:Nat) (iF:Int→Int) (i:Nat) {l:List (List Int)} {k:Nat} (h:k<l.length):sl n iF i l (k+1)=sl n iF i l k++y9 iF i l[k] n:=by
 unfold sl
 rw[fF h,List.flatMap_append]
 simp
theorem Ft (n:Nat) (iF:Int→Int) (i:Nat) (l:List (List Int)):sl n iF i l 0=[]:=rfl
theorem Ak (n:Nat) (iF:Int→Int) (i:Nat):sl n iF i (allM n iF i) (allM n iF i).length=allM n iF (i+1):=by
 unfold sl
 rw[dF];rfl
theorem vk (n:Nat) (iF:Int→Int) (i:Nat) (l:List (List Int)):∀k,k≤l.length→(sl n iF i l k).length≤k*n
 |0,_=>bg _
 |k+1,h=>by
  rw[yu n iF i aG,List.length_append,Nat.succ_mul]
  have:=vk n iF i l k (by omega)
  have:=Ds iF i (l[k]'(by omega)) n
  omega
theorem Cp (n:Nat) (iF:Int→Int):∀i,(allM n iF i).length≤n ^ i
 |0=>aM _
 |i+1=>by
  rw[← Ak,Nat.pow_succ]
  exact aN (vk n iF i _ _ (aM _)) (Nat.mul_le_mul_right _ (Cp n iF i))
theorem sW {n:Nat} (h:n≤5) (iF:Int→Int) {i:Nat} (hi:i≤n):(allM n iF i).length≤3125:=by
 refine aN (Cp n iF i) ?_
 have h1:n ^ i≤5 ^ i:=ed h i
 have h2:5 ^ i≤5 ^ 5:=ee aG (by omega)
 omega
theorem Nn {n:Nat} {iF:Int→Int} {i:Nat} {p:List Int} (h:p∈allM n iF i):p.length=i:=(ud.1 h).1
abbrev l_ (at':List Int) (x:Int):Int:=iv at' x 0
abbrev qP (c:List Int):List PV:=[ints c]
attribute [local irreducible] AW a_ fT ff AR fh e6 fp fA y9 sl allM
theorem Lo (at':List Int) (st:Int) (n:Nat) (h:sr at') (hn:(n:Int)=at'.sum) (h5:n≤5):Fn Tryz.prog 84 [pI at' st] (.pv (yr (allM n (l_ at') n))):=by
 have ha:=s3 at' st h
 rw[← hn] at ha
 have Hk:=fun x hx=>AD at' st x h hx
 refine Fn.enter (n:=70) Tryz.func84 rfl rfl rfl rfl rfl (by decide) fun g fu fw=>?_;(try refine nz ?_)
 (refine tc ?_;refine a_.M9 rfl rfl rfl rfl rfl ?_;refine nz ?_;refine a_.H2 rfl rfl ?_;refine nz ?_;refine wO ?_;refine Jn ?_;refine Q5 ?_;refine j4 ?_;refine zA (ha) ?_;refine mw ?_)
 (refine nz ?_;apply AW.fO [4,2,1] [0] (fun i:Nat=>([(5,eU i),(3,.pv (yr (allM n (l_ at') i)))]:List (Nat×AV))) (fun i:Nat=>([]:List (Nat×Option Ob))) (fun i:Nat=>i≤n) (fun i:Nat=>n - i) (0);(conv=>lhs;simp only[Nf.jI,Nf.all,c6,reduceAdd,reduceSub]);(all_goals skip))
 ·exact bg _
 ·exact e_ rfl (by(refine⟨.d_ (by first|rfl|(unfold allM;rfl)),?_⟩;refine⟨.GS rfl (by first|rfl|(unfold allM;rfl)),?_⟩;refine⟨.d_ (by first|rfl|(unfold allM;rfl)),?_⟩;(iterate 2 refine aA ?_);exact trivial)) (by(refine⟨.box _ rfl ?_,?_⟩;refine⟨.fb (by first|rfl|(unfold allM;rfl)),?_⟩;refine⟨.d_ (by first|rfl|(unfold allM;rfl)),?_⟩;(iterate 2 exact trivial))) rfl
 rintro i hi
 have WY:=sW h5 (l_ at') hi
 by_cases ft:i<n
 ·have F2:=Ak n (l_ at') i
  have sB:=fun p (h:p∈allM n (l_ at') i)=>Nn h
  generalize allM n (l_ at') i=l at WY F2 sB ⊢
  have rU:=vk n (l_ at') i l
  (refine rO ?_;refine A1 ?_;refine Q5 ?_;refine a_.M9 rfl rfl rfl rfl rfl ?_;refine sM ?_;refine Hw ?_;refine sO ?_)
  (refine nz ?_;apply AW.fO [5,3,4,2,1] [0] (fun k:Nat=>([(7,eU k),(6,.own 3 28 1 ((sl n (l_ at') i l k).map qP))]:List (Nat×AV))) (fun k:Nat=>([(3,some .row)]:List (Nat×Option Ob))) (fun k:Nat=>k≤l.length) (fun k:Nat=>l.length - k) (0);(conv=>lhs;simp only[Nf.jI,Nf.all,c6,reduceAdd,reduceSub]);(all_goals skip))
  ·exact bg _
  ·rw[Ft]
   exact U2
  rintro k hk
  have hnk:=rU k hk
  have hkn:k*n≤3125*5:=eb aG h5
  by_cases gM:k<l.length
  ·have gZ:=yu n (l_ at') i gM
   have Jv:=sB _ (cT gM)
   (refine yn ?_;refine vo ?_;refine sO ?_)
   (refine nz ?_;apply AW.fO [7,5,3,4,2,1] [0] (fun x:Nat=>([(8,eU x),(6,.own 3 28 1 ((sl n (l_ at') i l k++y9 (l_ at') i l[k] x).map qP))]:List (Nat×AV))) (fun x:Nat=>([(3,some .row)]:List (Nat×Option Ob))) (fun x:Nat=>x≤n) (fun x:Nat=>n - x) (0);(conv=>lhs;simp only[Nf.jI,Nf.all,c6,reduceAdd,reduceSub]);(all_goals skip))
   ·exact bg _
   ·rw[Hc,bp]
    exact U2
   rintro x hx
   have hex:=Ds (l_ at') i l[k] x
   by_cases BD:x<n
   ·have uq:=Jg (l_ at') i l[k] x
    have s1:=Hk (x:Int) (by omega)
    have s2:=Hk (i:Int) (by omega)
    have hh:=LS l[k] (x:Int) (by omega)
    have pC:W_ (l_ at') i l[k] x=(decide (iv at' (x:Int) 0=iv at' (i:Int) 0) && !decide ((x:Int)∈l[k])):=rfl
    obtain⟨sx,hsx⟩:∃sx,sx=iv at' (x:Int) 0:=⟨_,rfl⟩
    obtain⟨si,hsi⟩:∃si,si=iv at' (i:Int) 0:=⟨_,rfl⟩
    rw[← hsx] at s1 pC
    rw[← hsi] at s2 pC
    by_cases hxi:sx=si
    ·rw[decide_eq_true hxi,dt] at pC
     by_cases hm:(x:Int)∈l[k]
     ·rw[decide_eq_true hm] at hh pC
      rw[pC,if_neg (by decide),bp] at uq
      (refine rO ?_;refine A1 ?_;(iterate 2 refine zo ?_);(with_reducible apply AW.fG);exact rfl;exact rfl;kernel_rfl;(with_reducible assumption);refine QZ ?_;refine nS ?_;refine mW ?_;refine ay ?_;refine ov ?_;refine zy ?_;refine mW ?_;refine zA (hh) ?_;refine zF ?_;refine zz ?_;refine I2 ?_;refine gr ?_;refine qC ?_;refine rS ?_)
      exact Q74
     ·rw[decide_eq_false hm] at hh pC
      rw[pC,if_pos (by decide)] at uq
      (refine rO ?_;refine A1 ?_;(iterate 2 refine zo ?_);(with_reducible apply AW.fG);exact rfl;exact rfl;kernel_rfl;(with_reducible assumption);refine QZ ?_;refine nS ?_;refine mW ?_;refine ay ?_;refine ov ?_;refine zy ?_;refine mW ?_;refine zA (hh) ?_;refine zF ?_;refine O4 ?_;refine nz ?_;(iterate 2 refine zm ?_);refine ay ?_;refine zr ?_;(with_reducible apply a_.fl);exact rfl;exact ai;(iterate 9 exact rfl);exact ab;refine nz ?_;refine C0 ?_;refine q9 ?_;(with_reducible apply a_.fl);exact rfl;exact ai;(iterate 9 exact rfl);exact ab;refine sM ?_;refine qC ?_;(iterate 2 refine a_.gk rfl rfl rfl ?_);refine a_.H2 rfl rfl ?_;refine nz ?_;refine wO ?_;(with_reducible apply a_.fl);exact rfl;exact ai;(iterate 9 exact rfl);exact ab;refine uY ?_)
      exact⟨x+1,by omega,by omega,e_ rfl (by(refine⟨.d_ (by first|rfl|(rw[uq,← dG,cV];rfl)|(rw[uq,← dG,cV];simp [qP];rfl)),?_⟩;refine⟨.fR (by first|rfl|(rw[uq,← dG,cV];rfl)|(rw[uq,← dG,cV];simp [qP];rfl)) rfl,?_⟩;refine⟨.d_ (by first|rfl|(rw[uq,← dG,cV];rfl)|(rw[uq,← dG,cV];simp [qP];rfl)),?_⟩;refine⟨.d_ (by first|rfl|(rw[uq,← dG,cV];rfl)|(rw[uq,← dG,cV];simp [qP];rfl)),?_⟩;refine⟨.fb (by first|rfl|(rw[uq,← dG,cV];rfl)|(rw[uq,← dG,cV];simp [qP];rfl)),?_⟩;refine⟨.d_ (by first|rfl|(rw[uq,← dG,cV];rfl)|(rw[uq,← dG,cV];simp [qP];rfl)),?_⟩;(iterate 2 refine aA ?_);exact trivial)) (by(refine aC ?_;refine⟨.box _ rfl ?_,?_⟩;refine⟨.fb (by first|rfl|(rw[uq,← dG,cV];rfl)|(rw[uq,← dG,cV];simp [qP];rfl)),?_⟩;refine⟨.d_ (by first|rfl|(rw[uq,← dG,cV];rfl)|(rw[uq,← dG,cV];simp [qP];rfl)),?_⟩;(iterate 2 exact trivial))) rfl⟩
    ·rw[decide_eq_false hxi,du] at pC
     rw[pC,if_neg (by decide),bp] at uq
     (refine rO ?_;refine A1 ?_;(iterate 2 refine zo ?_);(with_reducible apply AW.fG);exact rfl;exact rfl;kernel_rfl;(with_reducible assumption);refine QZ ?_;refine zm ?_;refine L6 ?_;refine zz ?_;refine I2 ?_;refine gr ?_;refine qC ?_;refine rS ?_)
     exact Q74
   ·obtain rfl:x=n:=by omega
    (refine rO ?_;refine Mm ?_;refine zd ?_;refine Ot ?_;refine uk ?_)
    exact⟨k+1,by omega,by omega,e_ rfl (by(refine⟨.d_ (by first|rfl|(rw[gZ])),?_⟩;refine⟨.fR (by first|rfl|(rw[gZ])) rfl,?_⟩;refine⟨.d_ (by first|rfl|(rw[gZ])),?_⟩;refine⟨.fb (by first|rfl|(rw[gZ])),?_⟩;refine⟨.d_ (by first|rfl|(rw[gZ])),?_⟩;(iterate 2 refine aA ?_);exact trivial)) (by(refine aC ?_;refine⟨.box _ rfl ?_,?_⟩;refine⟨.fb (by first|rfl|(rw[gZ])),?_⟩;refine⟨.d_ (by first|rfl|(rw[gZ])),?_⟩;(iterate 2 exact trivial))) rfl⟩
  ·obtain rfl:k=l.length:=by omega
   rw[F2]
   (refine yn ?_;refine Q7 ?_;refine gr ?_;refine BY ?_;refine Wu ?_)
   exact⟨i+1,by omega,by omega,e_ rfl (by(first|(refine aA ?_;(iterate 7 refine aA ?_);exact trivial)|(refine aA ?_;(iterate 6 refine aA ?_);exact trivial)|(refine aA ?_;refine⟨.freeze rfl,?_⟩;(iterate 3 refine aA ?_);exact trivial))) (by(first|(refine aC ?_;refine⟨.box _ rfl ?_,?_⟩;(iterate 2 refine aA ?_);(iterate 2 exact trivial))|(refine⟨.box _ rfl ?_,?_⟩;(iterate 2 refine aA ?_);(iterate 2 exact trivial)))) rfl⟩
 ·obtain rfl:i=n:=by omega
  (refine rO ?_;refine Mm ?_;refine BE ?_;refine zm ?_;refine j7 ?_)
  (apply c_;(exact fZ.one (.tmp rfl rfl));(refine Le.fb ?_;(rfl)))
def R7 (so:List sq) (at':List Int) (x:Int):Bool:=decide (0≤iv at' x 0) && (decide (iv at' x 0<(so.length:Int)) && (so.getD (iv at' x 0).toNat (ByteArray.empty,false)).2)
def y4 (so:List sq) (at' p:List Int) (x:Nat):Bool:=!R7 so at' x||decide (p.getD x 0=(x:Int))
def sI (so:List sq) (at' p:List Int):Bool:=(a7 p.length).all (y4 so at' p)
theorem Cw (f:Nat→Bool) (k:Nat):(a7 (k+1)).all f=((a7 k).all f && f k):=by
 rw[dP,List.all_append];simp
theorem Cj {f:Nat→Bool} {n k:Nat} (h:k<n) (hf:f k=false):(a7 n).all f=false:=by
 rw[List.all_eq_false]
 exact⟨k,dk.2 h,by rw[hf];simp⟩
attribute [local irreducible] sI y4 iv
theorem LC (s:gu) (at':List Int) (st:Int) (p:List Int) (h:sr at') (hl:p.length≤100):Fn Tryz.prog 85 [De s,pI at' st,.pv (ints p)] (fe (sI s.sorts at' p)):=by
 have Hk:=fun x hx=>LX at' st x h hx
 obtain⟨so,fs,pr,fa⟩:=s
 simp only
 have BX:sI so at' p=(a7 p.length).all (y4 so at' p):=by unfold sI;rfl
 refine Fn.enter (n:=43) Tryz.func85 rfl rfl rfl rfl rfl (by decide) fun g fu fw=>?_;(try refine nz ?_)
 (refine wh ?_;refine mw ?_)
 (refine nz ?_;apply AW.fO [4,3,2] [1,0] (fun k:Nat=>([(7,eU k)]:List (Nat×AV))) (fun k:Nat=>([]:List (Nat×Option Ob))) (fun k:Nat=>k≤p.length∧(a7 k).all (y4 so at' p)=true) (fun k:Nat=>p.length - k) (0);(conv=>lhs;simp only[Nf.jI,Nf.all,c6,reduceAdd,reduceSub]);(all_goals skip))
 ·exact⟨bg _,rfl⟩
 ·exact e_ rfl (by(refine aA ?_;(iterate 3 refine aA ?_);exact trivial)) (by(refine⟨.box _ rfl ?_,?_⟩;(iterate 2 refine aA ?_);exact trivial;refine⟨.box _ rfl ?_,?_⟩;(iterate 4 refine aA ?_);(iterate 2 exact trivial))) rfl
 rintro k ⟨hk,lz⟩
 by_cases ft:k<p.length
 ·have s1:=Hk (k:Int) (by omega)
  have oz:=Cw (y4 so at' p) k
  have W9:=Cj (f:=y4 so at' p) ft
  rw[lz,dt] at oz
  have vS:y4 so at' p k=(!(decide (0≤iv at' (k:Int) 0) && (decide (iv at' (k:Int) 0<(so.length:Int)) && (so.getD (iv at' (k:Int) 0).toNat (ByteArray.empty,false)).2))||decide (p.getD k 0=(k:Int))):=by unfold y4 R7;rfl
  rw[kA ft] at vS
  generalize iv at' (k:Int) 0=sv at s1 vS
  by_cases c1:0≤sv
  ·by_cases c2:sv<(so.length:Int)
   ·rw[decide_eq_true c1,decide_eq_true c2,dt,dt,kA aG] at vS
    cases c3:(so[sv.toNat]'(by omega)).2 with
    |true=>
     rw[c3] at vS
     by_cases c4:p[k]=(k:Int)
     ·rw[decide_eq_true c4] at vS
      rw[vS] at oz
      (refine S9 ?_;refine pq ?_;(focus ((with_reducible apply a_.e8);(iterate 7 exact rfl);omega;rotate_left;(first|omega|exact db|exact(by simp))));refine St ?_;refine zm ?_;refine vy ?_;refine zm ?_;refine vy ?_;refine zm ?_;refine vy ?_;refine ay ?_;refine Ps ?_;refine a_.neq rfl rfl rfl rfl rfl ?_;refine a_.E8 rfl rfl (by assumption) rfl rfl rfl rfl ?_;refine rP ?_)
      exact WN
     ·rw[decide_eq_false c4] at vS
      rw[BX,W9 vS]
      (refine S9 ?_;refine pq ?_;(focus ((with_reducible apply a_.e8);(iterate 7 exact rfl);omega;rotate_left;(first|omega|exact db|exact(by simp))));refine St ?_;refine zm ?_;refine vy ?_;refine zm ?_;refine vy ?_;refine zm ?_;refine vy ?_;refine ay ?_;refine Ps ?_;refine a_.neq rfl rfl rfl rfl rfl ?_;refine a_.E8 rfl rfl (by assumption) rfl rfl rfl rfl ?_;refine nD ?_;refine oC ?_)
      (apply c_;(exact fZ.one (.tmp rfl rfl));(refine Le.fe ?_;(rfl)))
    |false=>
     rw[c3] at vS
     rw[vS] at oz
     (refine S9 ?_;refine pq ?_;(focus ((with_reducible apply a_.e8);(iterate 7 exact rfl);omega;rotate_left;(first|omega|exact db|exact(by simp))));refine St ?_;refine zm ?_;(iterate 6 refine a_.iP rfl rfl rfl rfl rfl (by assumption) rfl ?_);refine Sf ?_;refine uk ?_)
     exact WN
   ·rw[decide_eq_false c2,du,Bool.and_false] at vS
    rw[vS] at oz
    (refine T_ ?_;refine QV ?_;refine zm ?_;refine Lc ?_;refine a_.jk rfl rfl rfl rfl rfl rfl ?_;refine mC ?_;refine uk ?_)
    exact WN
  ·rw[decide_eq_false c1,du] at vS
   rw[vS] at oz
   (refine yn ?_;refine vo ?_;refine nG ?_;refine zA (s1) ?_;refine tr ?_;refine a_.geq rfl rfl rfl rfl rfl ?_;refine zm ?_;refine PJ ?_;refine zm ?_;refine Lc ?_;refine a_.jk rfl rfl rfl rfl rfl rfl ?_;refine zm ?_;refine Lc ?_;refine a_.jk rfl rfl rfl rfl rfl rfl ?_;refine mC ?_;refine uk ?_)
   exact WN
 ·obtain rfl:k=p.length:=by omega
  rw[BX,lz]
  (refine EE ?_)
  (apply c_;(exact fZ.one (.tmp rfl rfl));(refine Le.fe ?_;(rfl)))
end Go.Ab
/- Chapter 09:the plain laws. -/
namespace Go.Ab
open Go Go.Proofs
set_option maxRecDepth 20000
set_option maxHeartbeats 4000000
structure Fit (s:gu) (at':List Int):Prop where
 rQ:∀f∈s.fields,jT at'.length f.sorts=true
 fs:s.fields.length≤6
 sm:sr at'
 top:at'.sum≤12
 one:1≤at'.sum
theorem RB {s:gu} {at':List Int} {st:Int} (h:kd s at' st=true):Fit s at':=by
 unfold kd sizedB kq at h
 simp only[aW,decide_eq_true_eq,bB] at h
 obtain⟨⟨h1,h2,h3,h4⟩,h5,h6,⟨h7,h8,h9⟩,wm,wD⟩:=h
 have yB:=p8 wm (by omega)
 refine⟨fun f hf=>by rw[← h6];exact h5 f hf,h3,yB,wD,?_⟩
 have hl:1≤at'.length:=by omega
 clear h5 h6 h4 h7
 match at',hl with
 |x::r,_=>
  have e1:=qx.1 wm x (by simp)
  have e2:=qY (l:=r) fun y hy=>(yB.2 y (by simp [hy])).1
  simp;omega
theorem qU (q:Nat→Bool):∀(l:List Int) (i:Nat),(sP q i l).Sublist l
 |[],_=>List.Sublist.slnil
 |t::ts,i=>by
  show((if q i=true then [t] else [])++sP q (i+1) ts).Sublist (t::ts)
  split
  ·exact(qU q ts (i+1)).cons_cons t
  ·exact(qU q ts (i+1)).cons t
theorem zE {q q':Nat→Bool} (h:∀k,q k=true→q' k=true):∀(l:List Int) (i:Nat),(sP q i l).Sublist (sP q' i l)
 |[],_=>List.Sublist.slnil
 |t::ts,i=>by
  show((if q i=true then [t] else [])++sP q (i+1) ts).Sublist ((if q' i=true then [t] else [])++sP q' (i+1) ts)
  have ih:=zE h ts (i+1)
  by_cases h1:q i=true
  ·rw[if_pos h1,if_pos (h i h1)];exact ih.cons_cons t
  ·rw[if_neg h1]
   split
   ·exact ih.cons t
   ·exact ih
theorem xg {s:gu} {at':List Int} (hf:Fit s at') {f:gx} (h:f∈s.fields):nY (lH at' f.sorts).2∧kJ at'.sum (lH at' f.sorts)=true:=by
 have pC:=wK (hf.rQ f h) hf.sm hf.top
 exact⟨(l7.1 pC).2.1,pC⟩
structure Good (at':List Int) (fs:List gx) (a:List gv):Prop where
 len:a.length=fs.length
 get:∀k (h:k<fs.length),QH (a[k]'(by omega))∧(a[k]'(by omega)).1.1=fs[k].sorts.length∧∀t∈(a[k]'(by omega)).2.2,t∈(lH at' fs[k].sorts).2
theorem G5 {s:gu} {at':List Int} (hf:Fit s at') (raw:List (List Int)):Good at' s.fields (oD at' raw 0 s.fields):=by
 refine⟨kB _ _ _ _,fun k hk=>?_⟩
 have F4:=(xg hf (cT hk)).1
 rw[xF at' raw s.fields 0 k hk]
 refine⟨⟨F4.sublist (qU _ _ _),F4.sublist (qU _ _ _),?_,rfl⟩,rfl,fun t ht=>(qU _ _ _).subset ht⟩
 intro t ht
 refine(zE (fun k h=>?_) _ _).subset ht
 simp only[decide_eq_true_eq] at h ⊢
 omega
theorem PB {s:gu} {at':List Int} (hf:Fit s at') {a:List gv} (h:Good at' s.fields a) {k:Nat} (hk:k<s.fields.length):vB at' s.fields[k] (a[k]'(by rw[h.len];exact hk))=true:=by
 obtain⟨hr,ha,hu⟩:=h.get k hk
 have Dp:=l7.1 (xg hf (cT hk)).2
 have X8:=hr.ar
 unfold vB
 simp only[aW,decide_eq_true_eq,J1]
 have B0:((lH at' s.fields[k].sorts).1)=(s.fields[k].sorts.length:Int):=rfl
 have hup:∀t∈(a[k]'(by rw[h.len];exact hk)).2.2,0≤t∧t<at'.sum ^ s.fields[k].sorts.length:=by
  intro t ht
  have:=Dp.2.2 t (hu t ht)
  rw[B0,dg] at this
  exact this
 refine⟨⟨ha,by omega⟩,l7.2 ⟨⟨Dp.1.1,Dp.1.2.1,?_,?_⟩,hr.low,fun t ht=>?_⟩,l7.2 ⟨⟨Dp.1.1,Dp.1.2.1,?_,?_⟩,hr.high,fun t ht=>?_⟩,hr.sub,hu⟩
 ·rw[ha,← B0];exact Dp.1.2.2.1
 ·rw[ha,← B0];exact Dp.1.2.2.2
 ·rw[ha,dg];exact hup t (hr.sub t ht)
 ·rw[X8,ha,← B0];exact Dp.1.2.2.1
 ·rw[X8,ha,← B0];exact Dp.1.2.2.2
 ·rw[X8,ha,dg];exact hup t ht
theorem rq {s:gu} {at':List Int} (hf:Fit s at') {a:List gv} (h:Good at' s.fields a):a.length≤6∧∀x∈a,x.1.2.length≤1728∧x.2.2.length≤1728∧nY x.1.2:=by
 refine⟨by rw[h.len];exact hf.fs,fun x hx=>?_⟩
 obtain⟨k,hk,rfl⟩:=dc hx
 have jN:k<s.fields.length:=by rw[← h.len];exact hk
 have hv:=PB hf h jN
 unfold vB at hv
 simp only[aW] at hv
 exact⟨pg hv.2.1,pg hv.2.2.1,(h.get k jN).1.low⟩
end Go.Ab
/- Chapter 24:the group of symmetries,walked. -/
namespace Go.Ab
open Go Go.Proofs
open Nat (reduceAdd reduceSub)
set_option maxRecDepth 20000
set_option maxHeartbeats 4000000
structure iE (s:gu) (at':List Int) (st n:Nat) (bs:List gv):Prop where
 fit:Fit s at'
 ns:(n:Int)=at'.sum
 n1:1≤n
 n5:n≤5
 stb:1≤st∧st≤4
 good:Good at' s.fields bs
 a4:at'.length≤4
 a5:∀x∈at',x≤5
theorem iE.len {s:gu} {at':List Int} {st n:Nat} {bs:List gv} (h:iE s at' st n bs):bs.length=s.fields.length:=h.good.len
theorem BN {fs:List gx} {i:Nat} (h:i<fs.length):k9 fs (i:Int)=fs[i].sorts.length:=by
 unfold k9
 rw[show((i:Int)).toNat=i by omega,kA h]
theorem iE.full {s:gu} {at':List Int} {st n:Nat} {bs:List gv} (h:iE s at' st n bs) {i:Nat} (hi:i<s.fields.length):(1≤s.fields[i].sorts.length∧s.fields[i].sorts.length≤3)∧∀t∈(lH at' s.fields[i].sorts).2,0≤t∧t<((n ^ s.fields[i].sorts.length:Nat):Int):=by
 have hf:=l7.1 (wK (h.fit.rQ _ (cT hi)) h.fit.sm h.fit.top)
 obtain⟨⟨h1,h2,h3,h4⟩,h5,h6⟩:=hf
 have e:(lH at' s.fields[i].sorts).1=(s.fields[i].sorts.length:Int):=rfl
 rw[e] at h3 h4
 refine⟨by omega,fun t ht=>?_⟩
 have:=h6 t ht
 rw[e,← h.ns,dg,← Int.natCast_pow] at this
 exact this
theorem iE.LR {s:gu} {at':List Int} {st n:Nat} {bs:List gv} (h:iE s at' st n bs):vt n (k9 s.fields) bs:=by
 have key:∀(i:Nat) (hi:i<bs.length),qa n (k9 s.fields (i:Int)) bs[i].1.2∧qa n (k9 s.fields (i:Int)) bs[i].2.2:=fun i hi=>by
  have jS:i<s.fields.length:=by rw[← h.len];exact hi
  obtain⟨hr,_,hs⟩:=h.good.get i jS
  have hf:=(h.full jS).2
  rw[BN jS]
  exact⟨⟨hr.low,fun t ht=>hf t (hs t (hr.sub t ht))⟩,⟨hr.high,fun t ht=>hf t (hs t ht)⟩⟩
 exact⟨fun i hi=>(key i hi).1,fun i hi=>(key i hi).2⟩
theorem Hg {n a:Nat} (h1:n≤5) (h2:a≤3):n ^ a≤125:=by
 have h3:n ^ a≤5 ^ a:=ed h1 a
 have h4:5 ^ a≤5 ^ 3:=ee aG h2
 omega
theorem iE.rk {s:gu} {at':List Int} {st n:Nat} {bs:List gv} (h:iE s at' st n bs) {i:Nat} (hi:i<bs.length):(∀t∈bs[i].1.2,0≤t∧t≤125)∧∀t∈bs[i].2.2,0≤t∧t≤125:=by
 have hb:=h.LR
 have jS:i<s.fields.length:=by rw[← h.len];exact hi
 have hp:=Hg h.n5 (h.full jS).1.2
 have h1:=(hb.low i hi).wI
 have h2:=(hb.high i hi).wI
 rw[BN jS] at h1 h2
 exact⟨fun t ht=>by have:=h1 t ht;omega,fun t ht=>by have:=h2 t ht;omega⟩
theorem iE.lit {s:gu} {at':List Int} {st n:Nat} {bs:List gv} (h:iE s at' st n bs) {p:List Int} (hp:yJ n (l_ at') (R7 s.sorts at') (k9 s.fields) bs p):zR s st bs p:=by
 have BP:=hp.perm.len
 have hl:=rq h.fit h.good
 have h1:=h.n1
 have h5:=h.n5
 refine⟨h.stb,⟨h.len,by omega⟩,fun x hx=>?_,fun x hx=>?_,fun t ht=>?_,fun f hf=>?_,by omega,⟨l_ at',by rw[BP];exact hp.perm⟩,?_⟩
 ·have:=hl.2 x hx
  exact⟨by omega,by omega,this.2.2⟩
 ·obtain⟨i,hi,rfl⟩:=dc hx
  exact(h.LR.high i hi).inc
 ·obtain⟨k,hk,e,hm⟩:=lu (bs:=bs) (i:=0) (p:=t) ht
  have:=(h.rk hk).2 t.2 (qK.1 hm).1
  omega
 ·obtain⟨i,hi,rfl⟩:=dc hf
  exact(h.full hi).1
 ·rw[BP]
  exact Be hp.perm h.n1 h.LR hp.keep
def zv (n:Nat) (ar:Int→Nat) (p:List Int) (bs:List gv) (i:Nat):Bool:=lj n p (ar (i:Int)) (bs.getD i ((0,[]),(0,[]))).1.2 && lj n p (ar (i:Int)) (bs.getD i ((0,[]),(0,[]))).2.2
def uH (n:Nat) (ar:Int→Nat) (p:List Int) (bs:List gv):Bool:=(a7 bs.length).all (zv n ar p bs)
theorem N4 {n:Nat} {ar:Int→Nat} {p:List Int} {bs:List gv}:uH n ar p bs=true↔Cr n ar p bs:=by
 unfold uH Cr
 rw[bB]
 constructor
 ·intro h i hi
  have:=h i (dk.2 hi)
  unfold zv at this
  rw[kA hi,aW] at this
  exact this
 ·intro h i hi
  have hi:=dk.1 hi
  unfold zv
  rw[kA hi,aW]
  exact h i hi
def oA (s:gu) (at':List Int) (n:Nat) (bs:List gv):List (List Int):=(allM n (l_ at') n).filter fun p=>sI s.sorts at' p && uH n (k9 s.fields) p bs
theorem GK {s:gu} {at':List Int} {n:Nat} {bs:List gv} {p:List Int}:p∈oA s at' n bs↔yJ n (l_ at') (R7 s.sorts at') (k9 s.fields) bs p:=by
 unfold oA
 rw[List.mem_filter,xp,aW,N4]
 constructor
 ·rintro⟨h1,h2,h3⟩
  refine⟨h1,fun x hx hf=>?_,h3⟩
  unfold sI at h2
  rw[bB] at h2
  have:=h2 x (dk.2 (by rw[h1.len];exact hx))
  unfold y4 at this
  rw[hf] at this
  simpa using this
 ·rintro⟨h1,h2,h3⟩
  refine⟨h1,?_,h3⟩
  unfold sI
  rw[bB]
  intro x hx
  have hx:=dk.1 hx
  rw[h1.len] at hx
  unfold y4
  cases hf:R7 s.sorts at' (x:Int) with
  |true=>have:=h2 x hx hf;simpa using this
  |false=>rfl
theorem OA (x:jc) (c:List Int):decide (x=(x.1,c))=decide (c=x.2):=by
 obtain⟨a,b⟩:=x
 rw[decide_eq_decide]
 constructor
 ·intro h;exact((Prod.mk.injEq _ _ _ _).mp h).2.symm
 ·rintro rfl;rfl
attribute [local irreducible] AW a_ fT ff AR fh e6 fp fA fV canon lj zv sI allM
theorem AZ (s:gu) (at':List Int) (st n:Nat) (bs:List gv) (p:List Int) (h:iE s at' st n bs) (hp:iH n (l_ at') p):Fn Tryz.prog 86 [pI at' (st:Int),.pv (oW bs),.pv (ints p)] (fe (uH n (k9 s.fields) p bs)):=by
 have sB:=hp.len
 have Fy:=h.ns
 have h1:=h.n1
 have h5:=h.n5
 have hlen:=h.len
 have Hz:=rq h.fit h.good
 have hv:=EB at' (st:Int) p h.fit.sm h.a4 h.a5 h.fit.top (by rw[sB];exact hp) (by rw[sB];exact h.ns)
 have GM:uH n (k9 s.fields) p bs=(a7 bs.length).all (zv n (k9 s.fields) p bs):=rfl
 rw[GM]
 refine Fn.enter (n:=50) Tryz.func86 rfl rfl rfl rfl rfl (by decide) fun g fu fw=>?_;(try refine nz ?_)
 (refine lV ?_;refine vz ?_;refine nG ?_;refine zA (hv) ?_;refine vj ?_;refine rX ?_;refine sO ?_)
 (refine nz ?_;apply AW.fO [3,1,2] [0] (fun k:Nat=>([(7,eU k)]:List (Nat×AV))) (fun k:Nat=>([]:List (Nat×Option Ob))) (fun k:Nat=>k≤bs.length∧(a7 k).all (zv n (k9 s.fields) p bs)=true) (fun k:Nat=>bs.length - k) (0);(conv=>lhs;simp only[Nf.jI,Nf.all,c6,reduceAdd,reduceSub]);(all_goals skip))
 ·exact⟨bg _,rfl⟩
 ·exact UD
 rintro k ⟨hk,lz⟩
 by_cases ft:k<bs.length
 ·have EO:k<s.fields.length:=by omega
  have oz:=Cw (zv n (k9 s.fields) p bs) k
  have W9:=Cj (f:=zv n (k9 s.fields) p bs) ft
  rw[lz,dt] at oz
  have vS:zv n (k9 s.fields) p bs k=(lj n p (k9 s.fields (k:Int)) (bs.getD k ((0,[]),(0,[]))).1.2 && lj n p (k9 s.fields (k:Int)) (bs.getD k ((0,[]),(0,[]))).2.2):=by unfold zv;rfl
  rw[kA ft,BN EO] at vS
  obtain⟨g1,g2,_⟩:=h.good.get k EO
  have g3:=g1.ar
  have F4:=(h.full EO).1
  obtain⟨t1,t2⟩:=h.rk ft
  have pB:=Hz.2 _ (cT ft)
  have r1:=CJ at' (st:Int) p s.fields[k].sorts.length bs[k].1.2 (by rw[sB];exact hp) aG aG F4.2 (fun t ht=>by have:=t1 t ht;omega) (by omega)
  have r2:=CJ at' (st:Int) p s.fields[k].sorts.length bs[k].2.2 (by rw[sB];exact hp) aG aG F4.2 (fun t ht=>by have:=t2 t ht;omega) (by omega)
  rw[← g2] at r1
  rw[← g2,← g3] at r2
  rw[sB] at r1 r2
  have q1:=z1 bs[k].1 (bs[k].1.1,canon (bs[k].1.2.map (fV n p s.fields[k].sorts.length)))
  have q2:=z1 bs[k].2 (bs[k].2.1,canon (bs[k].2.2.map (fV n p s.fields[k].sorts.length)))
  rw[OA] at q1 q2
  have k1:lj n p s.fields[k].sorts.length bs[k].1.2=decide (canon (bs[k].1.2.map (fV n p s.fields[k].sorts.length))=bs[k].1.2):=by unfold lj;rfl
  have k2:lj n p s.fields[k].sorts.length bs[k].2.2=decide (canon (bs[k].2.2.map (fV n p s.fields[k].sorts.length))=bs[k].2.2):=by unfold lj;rfl
  rw[← k1] at q1
  rw[← k2] at q2
  generalize canon (bs[k].1.2.map _)=c1 at r1 q1
  generalize canon (bs[k].2.2.map _)=c2 at r2 q2
  cases e1:lj n p s.fields[k].sorts.length bs[k].1.2 with
  |true=>
   cases e2:lj n p s.fields[k].sorts.length bs[k].2.2 with
   |true=>
    rw[e1,e2] at vS
    rw[e1] at q1
    rw[e2] at q2
    rw[vS] at oz
    (refine SP ?_;show a_ .held _ _ _ [_,_,_,_,_,_,_,_,_,_,_,_] _ _;(iterate 2 refine zm ?_);refine ay ?_;refine Ca ?_;refine uF ?_;refine j4 ?_;(iterate 3 refine zm ?_);refine ay ?_;refine Ca ?_;refine uF ?_;refine Q3 ?_;intro k_ jA;refine AR.fI (i:=12) rfl aF rfl ?_;intro g_ eV hG;refine zP (r1) ?_;refine KG ?_;intro g_ eV hG;refine RC ?_;intro g_ eV;show a_ .held _ _ _ [_,_,_,_,_,_,_,_,_,_,_,_,_,_] _ _;refine ze ?_;refine oq ?_;refine zm ?_;refine zl ?_;refine ay ?_;refine Pz ?_;refine tQ ?_;refine oq ?_;refine zm ?_;refine oq ?_;refine ay ?_;refine Pz ?_;refine Q3 ?_;intro k_ jA;refine AR.fI (i:=28) rfl aF rfl ?_;intro g_ eV hG;refine zl ?_;refine zP (r2) ?_;refine Q3 ?_;refine AR.fI (i:=29) rfl aF rfl ?_;intro g_ eV hG;refine zl ?_;refine zA (q2) ?_;refine RR ?_;intro g_ eV;show a_ .held _ _ _ [_,_] _ _;refine CY ?_;refine a_.jk rfl rfl rfl rfl rfl rfl ?_;refine Q3 ?_;intro k_ jA;refine nz ?_;refine JF ?_;refine WR ?_;refine vP ?_;refine rS ?_)
    exact⟨k+1,⟨by omega,oz⟩,by omega,e_ rfl (by(refine aA ?_;(iterate 3 refine aA ?_);exact trivial)) (by(refine⟨.box _ rfl ?_,?_⟩;(iterate 2 refine aA ?_);(iterate 2 exact trivial))) rfl⟩
   |false=>
    rw[e1,e2] at vS
    rw[e1] at q1
    rw[e2] at q2
    rw[W9 vS]
    (refine SP ?_;show a_ .held _ _ _ [_,_,_,_,_,_,_,_,_,_,_,_] _ _;(iterate 2 refine zm ?_);refine ay ?_;refine Ca ?_;refine uF ?_;refine j4 ?_;(iterate 3 refine zm ?_);refine ay ?_;refine Ca ?_;refine uF ?_;refine Q3 ?_;intro k_ jA;refine AR.fI (i:=12) rfl aF rfl ?_;intro g_ eV hG;refine zP (r1) ?_;refine KG ?_;intro g_ eV hG;refine RC ?_;intro g_ eV;show a_ .held _ _ _ [_,_,_,_,_,_,_,_,_,_,_,_,_,_] _ _;refine ze ?_;refine oq ?_;refine zm ?_;refine zl ?_;refine ay ?_;refine Pz ?_;refine tQ ?_;refine oq ?_;refine zm ?_;refine oq ?_;refine ay ?_;refine Pz ?_;refine Q3 ?_;intro k_ jA;refine AR.fI (i:=28) rfl aF rfl ?_;intro g_ eV hG;refine zl ?_;refine zP (r2) ?_;refine Q3 ?_;refine AR.fI (i:=29) rfl aF rfl ?_;intro g_ eV hG;refine zl ?_;refine zA (q2) ?_;refine RR ?_;intro g_ eV;show a_ .held _ _ _ [_,_] _ _;refine CY ?_;refine a_.jk rfl rfl rfl rfl rfl rfl ?_;refine Q3 ?_;intro k_ jA;refine nz ?_;refine JF ?_;refine AW.qb rfl rfl ?_;refine zq ?_;refine oC ?_)
    (apply c_;(exact fZ.one (.tmp rfl rfl));(refine Le.fe ?_;(rfl)))
  |false=>
   rw[e1,du] at vS
   rw[e1] at q1
   rw[W9 vS]
   (refine SP ?_;show a_ .held _ _ _ [_,_,_,_,_,_,_,_,_,_,_,_] _ _;(iterate 2 refine zm ?_);refine ay ?_;refine Ca ?_;refine uF ?_;refine j4 ?_;(iterate 3 refine zm ?_);refine ay ?_;refine Ca ?_;refine uF ?_;refine Q3 ?_;intro k_ jA;refine AR.fI (i:=12) rfl aF rfl ?_;intro g_ eV hG;refine zP (r1) ?_;refine KG ?_;intro g_ eV hG;refine RC ?_;intro g_ eV;show a_ .held _ _ _ [_,_,_,_,_,_,_,_,_,_,_,_,_,_] _ _;refine ze ?_;(iterate 12 refine a_.iP rfl rfl rfl rfl rfl rfl rfl ?_);refine Q3 ?_;intro k_ jA;refine nz ?_;refine AR.fI (i:=28) rfl aF rfl ?_;intro g_ eV hG;refine a_.iP rfl rfl rfl rfl rfl rfl rfl ?_;refine Q3 ?_;refine AR.fI (i:=29) rfl aF rfl ?_;intro g_ eV hG;refine a_.iP rfl rfl rfl rfl rfl rfl rfl ?_;refine RR ?_;intro g_ eV;show a_ .held _ _ _ [_,_] _ _;refine a_.iP rfl rfl rfl rfl rfl rfl rfl ?_;refine a_.kv rfl rfl rfl rfl rfl rfl ?_;refine Q3 ?_;intro k_ jA;refine nz ?_;refine JF ?_;refine AW.qb rfl rfl ?_;refine zq ?_;refine oC ?_)
   (apply c_;(exact fZ.one (.tmp rfl rfl));(refine Le.fe ?_;(rfl)))
 ·obtain rfl:k=bs.length:=by omega
  rw[lz]
  (refine EE ?_)
  (apply c_;(exact fZ.one (.tmp rfl rfl));(refine Le.fe ?_;(rfl)))
attribute [local irreducible] uH oA
theorem Kc (s:gu) (at':List Int) (st n:Nat) (bs:List gv) (h:iE s at' st n bs):Fn Tryz.prog 42 [De s,pI at' (st:Int),.pv (oW bs)] (.pv (yr (oA s at' n bs))):=by
 have ha:=Lo at' (st:Int) n h.fit.sm h.ns h.n5
 have WY:=sW h.n5 (l_ at') (aM n)
 have vS:=fun p (hp:p∈allM n (l_ at') n)=>LC s at' (st:Int) p h.fit.sm (by have:=(xp.1 hp).len;have:=h.n5;omega)
 have nJ:=fun p (hp:p∈allM n (l_ at') n)=>AZ s at' st n bs p h (xp.1 hp)
 have hg:oA s at' n bs=(allM n (l_ at') n).filter fun p=>sI s.sorts at' p && uH n (k9 s.fields) p bs:=by unfold oA;rfl
 rw[hg]
 generalize allM n (l_ at') n=l at ha WY vS nJ ⊢
 obtain⟨so,fs,pr,fa⟩:=s
 simp only at*
 refine Fn.enter (n:=43) Tryz.func42 rfl rfl rfl rfl rfl (by decide) fun g fu fw=>?_;(try refine nz ?_)
 (refine wh ?_;refine nv ?_;refine a_.M9 rfl rfl rfl rfl rfl ?_;refine sM ?_;refine Q5 ?_;refine j4 ?_;refine zP (ha) ?_;refine mw ?_)
 (refine nz ?_;apply AW.fO [8,6,4,3,2] [1,0] (fun k:Nat=>([(9,eU k),(7,.own 2 28 1 (((l.take k).filter fun p=>sI so at' p && uH n (k9 fs) p bs).map qP))]:List (Nat×AV))) (fun k:Nat=>([(2,some .row)]:List (Nat×Option Ob))) (fun k:Nat=>k≤l.length) (fun k:Nat=>l.length - k) (0);(conv=>lhs;simp only[Nf.jI,Nf.all,c6,reduceAdd,reduceSub]);(all_goals skip))
 ·exact bg _
 ·exact e_ rfl (by(refine aA ?_;(iterate 6 refine aA ?_);exact trivial)) (by(refine aC ?_;refine⟨.box _ rfl ?_,?_⟩;(iterate 2 refine aA ?_);exact trivial;refine⟨.box _ rfl ?_,?_⟩;(iterate 4 refine aA ?_);(iterate 2 exact trivial))) rfl
 rintro k hk
 have B0:((l.take k).filter fun p=>sI so at' p && uH n (k9 fs) p bs).length≤l.length:=aN (dH _ _) (aN (c8 k l) hk)
 by_cases ft:k<l.length
 ·have f1:=vS _ (cT ft)
  have f2:=nJ _ (cT ft)
  have hs:(l.take (k+1)).filter (fun p=>sI so at' p && uH n (k9 fs) p bs)=(l.take k).filter (fun p=>sI so at' p && uH n (k9 fs) p bs)++if (sI so at' l[k] && uH n (k9 fs) l[k] bs)=true then [l[k]] else []:=by
   rw[fF ft,ec,dR];rfl
  cases e1:sI so at' l[k] with
  |true=>
   rw[e1] at f1 hs
   cases e2:uH n (k9 fs) l[k] bs with
   |true=>
    rw[e2] at f2 hs
    rw[if_pos (by decide)] at hs
    (refine s7 ?_;(with_reducible apply AW.fG);exact rfl;exact rfl;kernel_rfl;(with_reducible assumption);refine j4 ?_;refine vX ?_;refine ay ?_;refine zr ?_;refine zA (f1) ?_;refine zm ?_;refine tQ ?_;refine oq ?_;refine zm ?_;refine oq ?_;refine ay ?_;refine zl ?_;refine zr ?_;refine zl ?_;refine zA (f2) ?_;refine a_.kv rfl rfl rfl rfl rfl rfl ?_;refine zz ?_;refine BY ?_;(iterate 2 refine zm ?_);refine ay ?_;refine zr ?_;refine wO ?_;(with_reducible apply a_.fl);exact rfl;exact ai;(iterate 9 exact rfl);exact ab;refine uY ?_)
    exact⟨k+1,by omega,by omega,e_ rfl (by(refine⟨.d_ (by first|rfl|(rw[hs,cV];rfl)),?_⟩;refine⟨.fR (by first|rfl|(rw[hs,cV];rfl)) rfl,?_⟩;refine⟨.fb (by first|rfl|(rw[hs,cV];rfl)),?_⟩;(iterate 3 refine aA ?_);refine⟨.fb (by first|rfl|(rw[hs,cV];rfl)),?_⟩;exact trivial)) (by(refine aC ?_;refine⟨.box _ rfl ?_,?_⟩;refine⟨.fb (by first|rfl|(rw[hs,cV];rfl)),?_⟩;refine⟨.d_ (by first|rfl|(rw[hs,cV];rfl)),?_⟩;exact trivial;refine⟨.box _ rfl ?_,?_⟩;refine⟨.fb (by first|rfl|(rw[hs,cV];rfl)),?_⟩;refine⟨.fb (by first|rfl|(rw[hs,cV];rfl)),?_⟩;(iterate 2 refine aA ?_);(iterate 2 exact trivial))) rfl⟩
   |false=>
    rw[e2] at f2 hs
    rw[if_neg (by decide),bp] at hs
    (refine s7 ?_;(with_reducible apply AW.fG);exact rfl;exact rfl;kernel_rfl;(with_reducible assumption);refine j4 ?_;refine vX ?_;refine ay ?_;refine zr ?_;refine zA (f1) ?_;refine zm ?_;refine tQ ?_;refine oq ?_;refine zm ?_;refine oq ?_;refine ay ?_;refine zl ?_;refine zr ?_;refine zl ?_;refine zA (f2) ?_;refine a_.kv rfl rfl rfl rfl rfl rfl ?_;refine mC ?_;refine uk ?_)
    exact Q66
  |false=>
   rw[e1] at f1 hs
   rw[du,if_neg (by decide),bp] at hs
   (refine s7 ?_;(with_reducible apply AW.fG);exact rfl;exact rfl;kernel_rfl;(with_reducible assumption);refine j4 ?_;refine vX ?_;refine ay ?_;refine zr ?_;refine zA (f1) ?_;refine zm ?_;(iterate 7 refine a_.iP rfl rfl rfl rfl rfl rfl rfl ?_);refine a_.jk rfl rfl rfl rfl rfl rfl ?_;refine mC ?_;refine uk ?_)
   exact Q66
 ·rw[gV (l:=l) aG]
  (refine yn ?_;refine Tg ?_;refine GW ?_)
  (apply c_;(exact fZ.one (.tmp rfl rfl));(exact Le.own _ _ _ _ rfl))
end Go.Ab
