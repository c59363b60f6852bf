/- The solver: literals checked; a clause added, walked. -/
import Derived.Test.YtigjjjpcjnifhaaGreatDoorAvS9
import Derived.Test.YtigjjjpcjnifhaaGreatDoorAbZ
import Derived.Test.YtigjjjpcjnifhaaGreatDoorAbL3
import Derived.Test.YtigjjjpcjnifhaaGreatDoorAvC2
set_option linter.unusedSimpArgs false
set_option linter.unusedVariables false
open Nat renaming reduceBEq→di,le_refl→aP
open List renaming getElem_mem→cZ,pairwise_map→dB,mem_map→bw,length_map→a6,map_append→cU,mem_append→bW,length_append→bV,length_singleton→dC,mem_singleton→cp
open Int renaming neg_neg→dv
namespace Go.Ab
open Go Go.Proofs
open Nat (reduceAdd reduceSub)
set_option maxRecDepth 20000
set_option maxHeartbeats 8000000
attribute [local irreducible] gC AW a_ ga ft AR fB fp fG fU jw lA eW
theorem CZ (n:Nat) (s:SR) (l:List Int) (hn:n≤20000) (hv:s.value.length=n+1) (hl:∀x∈l,Lit n x):mg Tryz.prog 46 11 (hX s) [.ptr 0 0,.pv (jX l)] (hX s) (fu true):=by
 simp only[hX,hZ]
 refine mg.enter (n:=17) Tryz.func46 rfl rfl rfl rfl rfl (by decide) rfl rfl fun g fE fD=>?_;refine qz ?_
 refine AW.kL 1 rfl fun hlen=>?_
 (refine zq ?_;refine sM ?_;refine Qu ?_;refine a_.sub rfl rfl rfl rfl rfl aJ ?_;refine a_.sR rfl rfl rfl rfl ?_;refine J0 ?_;(with_reducible apply a_.gv);(iterate 5 exact rfl);exact ag;(iterate 3 exact rfl);(with_reducible assumption);refine J0 ?_;refine lz ?_;refine zm ?_;refine a_.ng rfl rfl rfl ?_;(with_reducible apply a_.inline (hf:=Tryz.func20));(with_reducible assumption);(iterate 10 exact rfl);intro g_ fE fD;refine J0 ?_;refine zq ?_;refine kh ?_;refine mj ?_;refine a_.jA rfl rfl rfl ?_;(with_reducible apply a_.inline (hf:=Tryz.func42));(with_reducible assumption);(iterate 10 exact rfl);intro g_ fE fD;refine J0 ?_;refine zq ?_;refine rW ?_;refine nj ?_)
 (refine J0 ?_;apply AW.gP [7,0,1,1006,1005,1004,1000,1001,2014,2013,2005,2004,2000,2001,3000] [11,0,1,2,3,4,5,6,7,8,9,10] (fun k:Nat=>([(8,e7 k)]:List (Nat×AV))) (fun k:Nat=>([]:List (Nat×Option Ob))) (fun k:Nat=>k≤l.length) (fun k:Nat=>l.length - k) (0);(conv=>lhs;simp only[Nf.n7,Nf.all,di,reduceAdd,reduceSub]);(all_goals skip))
 ·exact Nat.zero_le _
 ·exact fy rfl (by(refine aD ?_;refine aD ?_;refine aG ?_;(iterate 2 refine aC ?_);refine aG ?_;refine aD ?_;refine aG ?_;(iterate 2 refine aC ?_);refine aG ?_;refine aC ?_;refine aD ?_;refine aC ?_;refine aG ?_;refine aC ?_;exact trivial)) (by(refine⟨.box _ rfl ?_,?_⟩;refine aD ?_;exact trivial;refine⟨.box _ rfl ?_,?_⟩;(iterate 3 refine aE ?_);refine aD ?_;refine aE ?_;refine aD ?_;(iterate 2 refine aE ?_);(iterate 3 refine aD ?_);refine aE ?_;refine aD ?_;(iterate 2 refine aG ?_);exact trivial;(iterate 3 refine aF ?_);refine aH ?_;(iterate 2 refine aF ?_);refine aH ?_;refine aF ?_;refine aH ?_;refine aF ?_;exact trivial)) rfl
 rintro k hk
 by_cases fx:k<l.length
 ·obtain⟨b1,b2,b3⟩:=hl _ (cZ fx)
  have b4:¬l[k]< -((s.value.length:Int) - 1):=by omega
  have b5:¬((s.value.length:Int) - 1)<l[k]:=by omega
  (refine zq ?_;refine pW ?_;refine J5 ?_;refine mj ?_;refine sM ?_;refine a_.jA rfl rfl rfl ?_;(iterate 2 refine zm ?_);refine aA ?_;refine zr ?_;(with_reducible apply a_.inline (hf:=Tryz.func80));(with_reducible assumption);(iterate 10 exact rfl);intro g_ fE fD;refine J0 ?_;refine zq ?_;refine kh ?_;refine mj ?_;refine P4 ?_;refine l8 rfl rfl ?_;refine J0 ?_;refine F8 ?_;refine yy ?_)
  exact⟨k+1,by omega,by omega,fy rfl (by(refine aD ?_;refine aD ?_;refine aG ?_;(iterate 2 refine aC ?_);refine aG ?_;refine aD ?_;refine aG ?_;(iterate 2 refine aC ?_);refine aG ?_;refine aC ?_;refine aD ?_;refine aC ?_;refine aG ?_;refine aC ?_;exact trivial)) (by(refine⟨.box _ rfl ?_,?_⟩;refine aD ?_;exact trivial;refine⟨.box _ rfl ?_,?_⟩;(iterate 3 refine aE ?_);refine aD ?_;refine aE ?_;refine aD ?_;(iterate 2 refine aE ?_);(iterate 3 refine aD ?_);refine aE ?_;refine aD ?_;(iterate 2 refine aG ?_);exact trivial;(iterate 3 refine aF ?_);refine aH ?_;(iterate 2 refine aF ?_);refine aH ?_;refine aF ?_;refine aH ?_;refine aF ?_;exact trivial)) rfl⟩
 ·(refine uB ?_;refine jB ?_;refine kH ?_;refine l8 rfl rfl ?_;refine J0 ?_;refine Hp ?_;refine l8 rfl rfl ?_;refine J0 ?_;refine a_.Kk rfl rfl rfl ?_;refine kH ?_)
  (apply hY;((exact gn.one (.tmp rfl rfl)));((exact Bb));((exact J2));exact rfl)
theorem Nk {n:Nat} {s:SR} (v:s.value=lf n (s.ll 0)) (ht:j1 n (s.ll 0)) (hn:n≤20000) {x:Int} (hx:Lit n x) {r:Int} (hr:r=if x∈s.ll 0 then 1 else if -x∈s.ll 0 then -1 else 0):mg Tryz.prog 48 11 (hX s) [.ptr 0 0,e7 x] (hX s) (e7 r):=by
 have hl:s.value.length=n+1:=by rw[v,ki]
 have:=OC s x (by obtain⟨_,_,_⟩:=hx;omega) (by obtain⟨_,_,_⟩:=hx;omega) (by rw[v];exact B7)
 rw[v,Jk hx ht,← hr] at this
 exact this
theorem Ah {n:Nat} {s:SR} (hs:fW n s) {x:Int} (hx:Lit n x) {r:Int} (hr:r=if x∈s.ll 0 then 1 else if -x∈s.ll 0 then -1 else 0) (a:Int):mg Tryz.prog 48 11 (hX {s with added:=a}) [.ptr 0 0,e7 x] (hX {s with added:=a}) (e7 r):=
 Nk (s:={s with added:=a}) hs.val hs.iK hs.hn hx hr
theorem AB (n:Nat) (F:List (List Int)) (k:Nat) (s:SR) (hS:l_ n F k s) (hk:k<60000) (c:List Int) (hc:∀x∈c,Lit n x) (jq:c.length≤1000000):uo Tryz.prog 23 11 (hX s) [.ptr 0 0,.pv (jX c)] (fun q:SR=>l_ n (F++ [c]) (k+1) q) (fun q=>hX q) (fun _=>fu true):=by
 have hs:=hS.inv
 have rU:=hs.hn
 have kz:=hs.iK.len
 have yh:=hS.r_
 have C6:s.value.length=n+1:=by rw[hs.val,ki]
 have kM:=CZ n s c rU C6 hc
 have H_:=xi {s with added:=s.added+1} 0 (by show(s.marks.length:Int)≤0;rw[hS.marks];simp)
 have U4:=hS.added
 have had2:¬(60000:Int)≤s.added:=by omega
 simp only[hX,hZ] at kM H_ ⊢
 refine uo.enter (n:=84) Tryz.func23 rfl rfl rfl rfl rfl (by decide) rfl (fun _=>rfl) fun g fE fD=>?_;refine qz ?_
 refine AW.kL 1 rfl fun hlen=>?_
 (refine zq ?_;refine rD ?_;refine uX ?_;refine zm ?_;refine zX (kM) ?_;refine kA ?_;refine a_.not rfl rfl rfl ?_;refine kv ?_;refine a_.fC rfl rfl rfl ?_;refine zl ?_;refine a_.fe rfl rfl rfl ?_;refine zl ?_;refine a_.b_ 94 4 9 rfl rfl rfl rfl ?_;refine DD ?_;refine a_.geq rfl rfl rfl rfl rfl ?_;refine a_.iy rfl rfl rfl rfl rfl rfl ?_;refine vD ?_;refine jB ?_;refine oF ?_;refine a_.b_ 94 4 9 rfl rfl rfl rfl ?_;refine zb ?_;refine zj ?_;refine a_.fe rfl rfl rfl ?_;refine a_.b_ 94 4 9 rfl rfl rfl rfl ?_;(with_reducible apply a_.gv);(iterate 5 exact rfl);exact ag;(iterate 3 exact rfl);(with_reducible assumption);refine J0 ?_;refine lz ?_;refine AZ ?_;refine zX (H_) ?_;refine kA ?_;refine lz ?_;refine rW ?_;refine nj ?_)
 (refine J0 ?_;apply AW.gP [31,30,0,1,1000] [0,1,2,3,4,5,6,7,8,9,10] (fun q:List Int×Nat=>([(5,.own 11 3 1 (q.1.map encI)),(32,e7 q.2)]:List (Nat×AV))) (fun q:List Int×Nat=>([(11,some .row)]:List (Nat×Option Ob))) (fun q:List Int×Nat=>pb s c q.1 q.2) (fun q:List Int×Nat=>c.length - q.2) ((([]:List Int),(0:Nat)));(conv=>lhs;simp only[Nf.n7,Nf.all,di,reduceAdd,reduceSub]);(all_goals skip))
 ·exact .start
 ·exact fy rfl (by(refine⟨.jL _ _ _ rfl rfl,?_⟩;(iterate 2 refine aD ?_);refine aG ?_;refine aC ?_;refine aG ?_;refine aC ?_;exact trivial)) (by(refine⟨.ji rfl,?_⟩;refine⟨.box _ rfl ?_,?_⟩;(iterate 3 refine aE ?_);refine aD ?_;refine aE ?_;refine aD ?_;(iterate 2 refine aE ?_);(iterate 3 refine aD ?_);refine aE ?_;refine aD ?_;(iterate 2 refine aG ?_);exact trivial;(iterate 3 refine aF ?_);refine aH ?_;(iterate 2 refine aF ?_);refine aH ?_;refine aF ?_;refine aH ?_;refine aF ?_;exact trivial)) rfl
 rintro⟨l,i⟩ hA
 simp only at hA
 have hi:=hA.hi
 have vy:l.length≤1000000:=by
  have:=kn (n:=2*n+2) (l:=l.map eW) (by
   unfold List.Nodup
   rw[dB]
   exact hA.nd.imp_of_mem fun {a b} ha hb r8 e=>r8 (ie (hc a (hA.sub a ha).1) (hc b (hA.sub b hb).1) (by rw[e]))) fun v hv=>by
   obtain⟨a,ha,rfl⟩:=bw.1 hv
   have:=ix (hc a (hA.sub a ha).1)
   omega
  simp only[a6] at this
  omega
 by_cases fx:i<c.length
 ·have uq:(i:Int).toNat<c.length:=by omega
  obtain⟨x,hx⟩:∃x,x=c[i]:=⟨_,rfl⟩
  have uP:=hc _ (cZ fx)
  have vo:c[i]∈c:=cZ fx
  rw[← hx] at uP vo
  have Nq: -1000000≤x∧x≤1000000:=by obtain⟨_,_,_⟩:=uP;omega
  have Ro:=nN c (-x)
  have IZ:=nN l x
  by_cases Ap: -x∈c
  ·have hT:=hS.R0 hc (.inl ⟨x,vo,Ap⟩)
   rw[decide_eq_true Ap] at Ro
   (refine qa ?_;refine aA ?_;refine zr ?_;refine rD ?_;(with_reducible apply AW.wJ 9);(rw[← hx]);refine jB ?_;(iterate 2 refine zm ?_);refine a_.neg rfl rfl rfl aJ ?_;refine zA (Ro) ?_;refine zm ?_;(iterate 6 refine a_.gu rfl rfl rfl rfl rfl rfl rfl ?_);refine Bk ?_;refine jB ?_;refine xL ?_;refine zJ ?_)
   (apply gS (({s with added:=s.added+1}:SR)) (hT);((exact gn.one (.tmp rfl rfl)));((exact Bb));((exact J2));exact rfl)
  ·rw[decide_eq_false Ap] at Ro
   by_cases TK:x∈s.ll 0
   ·have hT:=hS.R0 hc (.inr ⟨x,vo,TK⟩)
    have ru:=Ah hs uP (r:=1) (if_pos TK).symm (s.added+1)
    simp only[hX,hZ] at ru
    (refine qa ?_;refine aA ?_;refine zr ?_;refine rD ?_;(with_reducible apply AW.wJ 9);(rw[← hx]);refine Nj ?_;refine yW ?_;refine jB ?_;refine xL ?_;refine zJ ?_)
    (apply gS (({s with added:=s.added+1}:SR)) (hT);((exact gn.one (.tmp rfl rfl)));((exact Bb));((exact J2));exact rfl)
   ·by_cases Rz: -x∈s.ll 0
    ·have ru:=Ah hs uP (r:= -1) (by rw[if_neg TK,if_pos Rz]) (s.added+1)
     have ri:=hA.skip fx (.inr (by rw[← hx];exact Rz))
     simp only[hX,hZ] at ru
     (refine qa ?_;refine aA ?_;refine zr ?_;refine rD ?_;(with_reducible apply AW.wJ 9);(rw[← hx]);refine Nj ?_;refine ti ?_;refine jB ?_;refine oz ?_;refine zX (ru) ?_;refine kA ?_;refine Ij ?_;(iterate 4 refine a_.gu rfl rfl rfl rfl rfl rfl rfl ?_);refine a_.iy rfl rfl rfl rfl rfl rfl ?_;refine qO ?_;refine rC ?_)
     exact Zr
    ·have ru:=Ah hs uP (r:=0) (by rw[if_neg TK,if_neg Rz]) (s.added+1)
     simp only[hX,hZ] at ru
     by_cases jb:x∈l
     ·rw[decide_eq_true jb] at IZ
      have ri:=hA.skip fx (.inl (by rw[← hx];exact jb))
      (refine qa ?_;refine aA ?_;refine zr ?_;refine rD ?_;(with_reducible apply AW.wJ 9);(rw[← hx]);refine Nj ?_;refine ti ?_;refine jB ?_;refine oz ?_;refine Tj ?_;refine a_.iM rfl rfl rfl rfl rfl rfl ?_;refine qO ?_;refine rC ?_)
      exact Zr
     ·rw[decide_eq_false jb] at IZ
      have ri:=hA.add fx (by rw[← hx];exact jb) (by rw[← hx];exact TK) (by rw[← hx];exact Rz)
      rw[← hx] at ri
      (refine qa ?_;refine aA ?_;refine zr ?_;refine rD ?_;(with_reducible apply AW.wJ 9);(rw[← hx]);refine Nj ?_;refine ti ?_;refine jB ?_;refine oz ?_;refine Tj ?_;refine Bk ?_;refine qJ ?_;refine xY ?_;(with_reducible apply a_.nK);(iterate 5 exact rfl);exact ag;exact rfl;exact rfl;refine J0 ?_;(with_reducible apply a_.fJ);exact rfl;exact ah;(iterate 9 exact rfl);exact aa;refine J0 ?_;refine BK ?_;refine rC ?_)
      exact⟨((l++ [x],i+1):List Int×Nat),ri,by show c.length - (i+1)<c.length - i;omega,fy rfl (by(refine⟨.fj (by first|rfl|(rw[cU];rfl)) rfl,?_⟩;refine⟨.fh (by first|rfl|(rw[cU];rfl)),?_⟩;refine⟨.fh (by first|rfl|(rw[cU];rfl)),?_⟩;refine⟨.ia (by first|rfl|(rw[cU];rfl)),?_⟩;refine aC ?_;refine⟨.ia (by first|rfl|(rw[cU];rfl)),?_⟩;refine aC ?_;exact trivial)) (by(refine aF ?_;refine⟨.box _ rfl ?_,?_⟩;refine⟨.fj (by first|rfl|(rw[cU];rfl)) rfl,?_⟩;refine⟨.fj (by first|rfl|(rw[cU];rfl)) rfl,?_⟩;refine⟨.fj (by first|rfl|(rw[cU];rfl)) rfl,?_⟩;refine⟨.fh (by first|rfl|(rw[cU];rfl)),?_⟩;refine⟨.fj (by first|rfl|(rw[cU];rfl)) rfl,?_⟩;refine⟨.fh (by first|rfl|(rw[cU];rfl)),?_⟩;refine⟨.fj (by first|rfl|(rw[cU];rfl)) rfl,?_⟩;refine⟨.fj (by first|rfl|(rw[cU];rfl)) rfl,?_⟩;refine⟨.fh (by first|rfl|(rw[cU];rfl)),?_⟩;refine⟨.fh (by first|rfl|(rw[cU];rfl)),?_⟩;refine⟨.fh (by first|rfl|(rw[cU];rfl)),?_⟩;refine⟨.fj (by first|rfl|(rw[cU];rfl)) rfl,?_⟩;refine⟨.fh (by first|rfl|(rw[cU];rfl)),?_⟩;refine⟨.ia (by first|rfl|(rw[cU];rfl)),?_⟩;refine⟨.ia (by first|rfl|(rw[cU];rfl)),?_⟩;exact trivial;(iterate 3 refine aF ?_);refine⟨.ff rfl (by first|rfl|(rw[cU];rfl)),?_⟩;(iterate 2 refine aF ?_);refine⟨.ff rfl (by first|rfl|(rw[cU];rfl)),?_⟩;refine aF ?_;refine⟨.ff rfl (by first|rfl|(rw[cU];rfl)),?_⟩;refine aF ?_;exact trivial)) rfl⟩
 ·obtain rfl:i=c.length:=by omega
  by_cases h0:l=[]
  ·subst h0
   have hT:=hS.empty hc hA
   (refine QO ?_;refine AW.nO rfl rfl ?_;refine qJ ?_;refine G3 ?_;(with_reducible apply a_.gv);(iterate 5 exact rfl);exact ag;(iterate 3 exact rfl);(with_reducible assumption);refine J0 ?_;refine zu ?_;refine zq ?_;refine kH ?_)
   (apply gS (({s with added:=s.added+1,broken:=true}:SR)) (hT);((exact gn.one (.tmp rfl rfl)));((exact Bb));((exact J2));exact rfl)
  ·have Uv:0<l.length:=List.length_pos_iff.2 h0
   have mE:(0:Int).toNat<l.length:=show 0<_ by omega
   by_cases h1:l.length=1
   ·have e1:=JV h1 mE
    have Fz:=hc _ (hA.sub _ (cZ mE)).1
    have hT:=fun h:Value=>hS.unit hc (by rw[← e1];exact hA) h
    have Lh:=qC {s with added:=s.added+1} l[(0:Int).toNat] (-1) (by obtain⟨_,_,_⟩:=Fz;omega) (by obtain⟨_,_,_⟩:=Fz;show _<(s.value.length:Int)∧_<(s.value.length:Int);omega) (by show s.level.length=s.value.length;rw[hs.lvl,C6]) (by show s.reason.length=s.value.length;rw[hs.oG,C6]) (by show(s.ll 0).length≤_;omega) (by show s.marks.length≤_;rw[hS.marks];simp)
    simp only[hX,hZ] at Lh
    (refine QO ?_;refine zk ?_;refine Lw ?_;refine zc ?_;refine PT ?_;show a_ .held _ _ _ [_,_,_,_,_] _ _;refine AZ ?_;refine a_.gg rfl rfl rfl ?_;refine DO ?_;refine J4 ?_;intro k_ ja;refine DR ?_;intro g_ c_ gh;refine au ?_;refine vH ?_;intro g_ c_ fk;(with_reducible apply a_.kc (hf:=Lh));(with_reducible assumption);(iterate 3 exact rfl);exact aq;exact ak;(intro x_;exact rfl);exact rfl;exact al;(intro x_;exact al);(intro x_;exact rfl);exact rfl;(intro x_ pI);refine J1 ?_;refine wz ?_;refine hO ?_;refine gO ?_;refine zq ?_;refine kH ?_)
    (apply gS ((fL {s with added:=s.added+1} l[(0:Int).toNat] (-1) x_:SR)) (hT x_);((exact gn.one (.tmp rfl rfl)));((exact Bb));((exact J2));exact rfl)
   ·have h2:2≤l.length:=by omega
    (refine QO ?_;refine zk ?_;refine Lw ?_;refine zk ?_;refine AW.N6 15 ?_)
    refine Stop.go ?_
    refine AW.ym 7 11 s.nc 5 (us:=l) rfl rfl rfl rfl (hs.fresh s.nc (aP _)).2 fun v_ JN=>?_
    refine aB ?_
    have hT:=fun h1 h3:Value=>hS.UX hc hk hA h2 v_ h1 h3
    have o9:∀x∈l,Lit n x:=fun x hx=>hc x (hA.sub x hx).1
    have m0:=o9 _ (j6 h2).1
    have m1:=o9 _ (j6 h2).2
    have fZ:c0 l≠c1 l:=fun e=>by
     rw[show c0 l=l[0] from fF aJ,show c1 l=l[1] from fF aJ] at e
     have:=(List.getElem_inj hA.nd (h₀:=by omega) (h₁:=by omega)).1 e
     omega
    have i0:=ix m0
    have i1:=ix m1
    have A2:(l.drop 2).length≤1000000:=by rw[List.length_drop];omega
    have zE:=hs.nw
    have Vg:=hs.Hr m0
    have Wi:=hs.Hr m1
    have hid:eW (c0 l)≠eW (c1 l):=fun e=>fZ (ie m0 m1 (by rw[e]))
    obtain⟨_,_,_⟩:=m0
    obtain⟨_,_,_⟩:=m1
    have s7:=wa {s with added:=s.added+1,hc:=fb s.hc s.nc v_,cl:=fb s.cl s.nc l} (c0 l) (c1 l) (l.drop 2) (by show fb s.cl s.nc l s.nc=_;rw[e8];exact JT h2) hid (by show 0≤eW (c0 l)∧_<s.nw;omega) (by show 0≤eW (c1 l)∧_<s.nw;omega) aJ aJ (by show s.nc≤_;omega) (by show(s.wl _).length≤_;omega) (by show(s.wl _).length≤_;omega) (by show s.nw≤_;omega) A2
    simp only[hX,hZ,e8,j_] at s7
    rw[iS s.nc s.hc v_]
    (refine AW.region ?_;refine Eg ?_;(with_reducible apply a_.kc (hf:=s7));(with_reducible assumption);(iterate 3 exact rfl);exact aq;exact ak;(intro x_;exact rfl);exact rfl;exact al;(intro x_;exact al);(intro x_;exact rfl);exact rfl;(intro x_ pI);refine J1 ?_;refine zu ?_;refine zq ?_;refine kH ?_)
    (apply gS ((ld {s with added:=s.added+1} l v_ x_.1 x_.2:SR)) (hT x_.1 x_.2);((exact gn.one (.tmp rfl rfl)));((exact Bb));((exact J2));exact rfl)
end Go.Ab
/- What a search leaves;the invariant of its loop. -/
namespace Go.Ab
open Go Go.Proofs
structure kC (n:Nat) (F:List (List Int)) (A:List Int) (fuel:Nat) (t:SR) (k:Int):Prop where
 hn:n≤20000
 uh:uv F t.proof
 lits:∀c∈F++t.proof,∀x∈c,Lit n x
 plen:t.proof.length≤3 ^ n
 plen2:t.proof.length≤20000
 nd:∀c∈t.proof,c.Nodup
 res:(k=1∧∃L,t.model=lf n L∧t.core=[]∧yd n F A L)∨(k=2∧t.model=[]∧∃P,t.proof=P++ [t.core.map fun y=> -y]∧(∀y∈t.core,y∈A)∧t.core.Nodup∧∀y∈t.core,Lit n y)∨(k=0∧t.model=[]∧t.core=[]∧(fuel<3 ^ n∨20000<3 ^ n))
def LV (A:List Int) (s:SR):Prop:=∀l:Nat,A.length<l→l≤s.marks.length→∃x∈s.ll 0,fi s x=(l:Int)
theorem Jv {a:Nat}:∀{b:Nat} {S:List Int},(∀l:Nat,a<l→l≤b→(l:Int)∈S)→b≤a+S.length
 |0,_,_=>by omega
 |b+1,S,h=>by
  by_cases e:b+1≤a
  ·omega
  ·have hm:=h (b+1) aJ (aP _)
   have:=Jv (b:=b) (S:=S.erase ((b+1:Nat):Int)) fun l h1 h2=>(List.mem_erase_of_ne aJ).2 (h l h1 aJ)
   rw[List.length_erase_of_mem hm] at this
   have:0<S.length:=List.length_pos_of_mem hm
   omega
section
variable {n:Nat} {F:List (List Int)} {A:List Int} {P0 N0:Nat} {s:SR} {met:Nat}
theorem LV.len (h:LV A s) (hs:fW n s):s.marks.length≤A.length+n:=by
 have:=Jv (a:=A.length) (b:=s.marks.length) (S:=(s.ll 0).map (fi s)) fun l h1 h2=>by
  obtain⟨x,hx,e⟩:=h l h1 h2
  exact bw.2 ⟨x,hx,e⟩
 rw[a6] at this
 have:=hs.iK.len
 omega
theorem LV.prop {t:SR} {r:Int} (h:LV A s) (hs:fW n s) (hp:I4 n s t r):LV A t:=fun l h1 h2=>by
 rw[hp.ext.marks] at h2
 obtain⟨x,hx,e⟩:=h l h1 h2
 obtain⟨ys,ell⟩:=hp.ext.ll
 exact⟨x,by rw[ell];exact bW.2 (.inl hx),by rw[ss hs hp.inv hp.ext hx];exact e⟩
theorem LV.It (hA:s.marks.length<A.length):LV A (iq s):=fun l h1 h2=>by
 have h2:l≤(s.marks++ [((s.ll 0).length:Int)]).length:=h2
 simp only[bV,dC] at h2
 omega
theorem LV.K1 {x:Int} {hv:Value} (h:LV A s) (hi:fW n (fL (iq s) x (-1) hv)) (hs:fW n s) (hh:s.head=((s.ll 0).length:Int)) (hx:Lit n x) (h1:x∉s.ll 0) (h2: -x∉s.ll 0):LV A (fL (iq s) x (-1) hv):=fun l q1 q2=>by
 have kz:(fL (iq s) x (-1) hv).ll 0=s.ll 0++ [x]:=jN _ _ _ _
 have q2:l≤(s.marks++ [((s.ll 0).length:Int)]).length:=q2
 simp only[bV,dC] at q2
 by_cases e:l≤s.marks.length
 ·obtain⟨y,hy,ey⟩:=h l q1 e
  exact⟨y,by rw[kz];exact bW.2 (.inl hy),(iX (s:=iq s) (oO (n:=n) h1 h2 (.inl hy))).trans ey⟩
 ·obtain rfl:l=s.marks.length+1:=by omega
  refine⟨x,by rw[kz];simp,?_⟩
  rw[mA (hs.mark hh) hx]
  show(((s.marks++ [_]).length:Nat):Int)=_
  simp
theorem LV.cut (h:LV A s) (hs:fW n s) {t:Nat} (ht:t<s.marks.length):∀l:Nat,A.length<l→l≤t→∃x∈(gr s t).ll 0,fi s x=(l:Int):=fun l q1 q2=>by
 obtain⟨x,hx,e⟩:=h l q1 (by omega)
 obtain⟨i,hi,rfl⟩:=List.getElem_of_mem hx
 have:=(hs.l9 ht hi).1 (by omega)
 rw[(mK hs ht).1]
 exact⟨_,List.mem_take_iff_getElem.2 ⟨i,by omega,rfl⟩,e⟩
structure SJ (n:Nat) (F:List (List Int)) (A:List Int) (N0 fuel:Nat) (s:SR) (met:Nat):Prop where
 si:SI n F A 0 N0 s met
 lv:LV A s
 model:s.model=[]
 core:s.core=[]
 mf:met<fuel
 nd:∀c∈s.proof,c.Nodup
theorem JP (hs:fW n s):FQ s=s:=by
 have:=hs.hd
 show({s with head:=min s.head ((s.ll 0).length:Int)}:SR)=s
 rw[Int.min_eq_left aJ]
theorem l_.sj {k fuel:Nat} (h:l_ n F k s) (hf:0<fuel):SJ n F A k fuel {s with core:=[],model:=[]} 0:=by
 have h2:l_ n F k {s with core:=[],model:=[]}:=
  {inv:={hn:=h.inv.hn,iK:=h.inv.iK,val:=h.inv.val,lvl:=h.inv.lvl,oG:=h.inv.oG,hd:=h.inv.hd,n3:=h.inv.n3,mG:=h.inv.mG,cls:=h.inv.cls,fresh:=h.inv.fresh,nc:=h.inv.nc,nw:=h.inv.nw,wt:=h.inv.wt,qU:=h.inv.qU,qX:=h.inv.qX,two:=h.inv.two,pB:=h.inv.pB,qh:=h.inv.qh}
   ka:=⟨h.ka.lits,h.ka.cls,h.ka.pH,h.ka.bad,h.ka.uh,h.ka.rep⟩
   low:=h.low,marks:=h.marks,proof:=h.proof,added:=h.added,r_:=h.r_}
 exact⟨h2.si A,fun l _ h1=>by have h1:l≤s.marks.length:=h1;rw[h.marks] at h1;simp at h1;omega,rfl,rfl,hf,fun c hc=>by have hc:c∈s.proof:=hc;rw[h.proof] at hc;simp at hc⟩
theorem SJ.prop {N0 fuel:Nat} {t:SR} {r:Int} (h:SJ n F A N0 fuel s met) (hp:I4 n s t r):SJ n F A N0 fuel t met:=
 ⟨h.si.prop hp,h.lv.prop h.si.inv hp,by rw[hp.ext.model];exact h.model,by rw[hp.ext.core];exact h.core,h.mf,by rw[hp.ext.proof];exact h.nd⟩
theorem SJ.sP {N0 fuel:Nat} {j:Nat} {v:Value} {l:List Int} {tz:Int} {q:SR} (h:SJ n F A N0 fuel s met) (ha:sD n s j l tz) (hm:0<s.marks.length) (hj:j<s.nc) (hf:∀x∈s.cl j,-x∈s.ll 0) (hN:N0≤60000) (hfl:fuel≤30000) (hq:JH (gr {s with hc:=fb s.hc s.nc v,cl:=fb s.cl s.nc l} tz.toNat) q):
  SI n F A 0 N0 q (met+1)∧LV A q∧q.model=[]∧q.core=[]∧∀c∈q.proof,c.Nodup:=by
 have hs:=h.si.inv
 obtain⟨O1,ht,fx⟩:=ha.lvl hs hm
 have C0:=h.lv.cut hs ht
 have jq:(gr {s with hc:=fb s.hc s.nc v,cl:=fb s.cl s.nc l} tz.toNat).cl (gr {s with hc:=fb s.hc s.nc v,cl:=fb s.cl s.nc l} tz.toNat).nc=l:=by
  show fb s.cl s.nc l s.nc=l
  exact e8 _ _ _
 have OB:=ha.back hs ⟨ht,fx⟩
 have jy:∀c∈s.proof++ [l],c.Nodup:=fun c hc=>by
  obtain⟨_,_,_,_,_,_,r5,_⟩:=OB
  rcases bW.1 hc with hc|hc
  ·exact h.nd c hc
  ·rw[cp.1 hc];exact r5
 rcases hq with ⟨p,hv,e1,e2⟩|⟨l',h1,h2,hv,e0,e1,e2,e3,e4,e5⟩
 ·rw[jq] at e1
  subst e1
  obtain⟨Gh,Ou⟩:=h.si.Pk ha hm hj hf hv
  have eq:q=fL (oV (gr s tz.toNat) [p]) p (-1) hv:=by
   rw[e2,jq]
   have e3:({gr {s with hc:=fb s.hc s.nc v,cl:=fb s.cl s.nc [p]} tz.toNat with hc:=fb (fb s.hc s.nc v) s.nc (.slice none 0 0),cl:=fb (fb s.cl s.nc [p]) s.nc [],proof:=s.proof++ [[p]]}:SR)=oV (gr s tz.toNat) [p]:=by
    obtain⟨f1,f2⟩:=hs.fresh s.nc (aP _)
    rw[jC,jC]
    have g1:fb s.hc s.nc (.slice none 0 0)=s.hc:=by rw[← f2];exact vn _ _
    have g2:fb s.cl s.nc []=s.cl:=by rw[← f1];exact vn _ _
    rw[g1,g2];rfl
   exact congrArg (fun z=>fL z p (-1) hv) e3
  rw[eq]
  refine⟨Ou,fun l h1 h2=>?_,h.model,h.core,jy⟩
  have h2:l≤(s.marks.take tz.toNat).length:=h2
  rw[Gh] at h2
  simp at h2;omega
 ·rw[jq] at e0 e1 e2 e3 e4 e5
  have yh:s.nc+1≤100000:=by have:=h.si.r_;have:=h.mf;omega
  have Ou:=h.si.QR ha hm hj hf e0 e1 e2 e3 e4 yh v h1 h2 hv
  have eq:q=fL (ld (oV (gr s tz.toNat) l) l' v h1 h2) (c0 l') s.nc hv:=by
   rw[e5]
   have e3:({gr {s with hc:=fb s.hc s.nc v,cl:=fb s.cl s.nc l} tz.toNat with nc:=s.nc+1,cl:=fb (fb s.cl s.nc l) s.nc l',proof:=s.proof++ [l]}:SR)={oV (gr s tz.toNat) l with nc:=s.nc+1,hc:=fb s.hc s.nc v,cl:=fb s.cl s.nc l'}:=by
    rw[jC];rfl
   exact congrArg (fun z=>fL (j_ (j_ z (c0 l') s.nc h1) (c1 l') s.nc h2) (c0 l') (s.nc:Nat) hv) e3
  rw[eq]
  refine⟨Ou,fun l2 q1 q2=>?_,h.model,h.core,jy⟩
  have q2:l2≤(s.marks.take tz.toNat).length:=q2
  rw[List.length_take] at q2
  obtain⟨x,hx,ex⟩:=C0 l2 q1 (by omega)
  obtain⟨p,rest,r1,r2,r3,r4,_⟩:=OB
  have ec0:c0 l'=p:=by rw[e2,r1];rfl
  refine⟨x,by rw[jN];exact bW.2 (.inl hx),?_⟩
  rw[ec0]
  exact(iX (s:=ld (oV (gr s tz.toNat) l) l' v h1 h2) (oO (n:=n) r3 r4 (.inl hx))).trans ex
end
end Go.Ab
/- What the search's endings leave;the least free variable. -/
namespace Go.Ab
open Go Go.Proofs
theorem tf {v:List Int}:∀{m low:Nat},v.length - low=m→(∀i,low≤i→i<kE v low→v.getD i 0≠0)∧(kE v low<v.length→v.getD (kE v low) 0=0)
 |0,low,h=>by
  rw[vU aJ]
  exact⟨fun i h1 h2=>by omega,fun h1=>by omega⟩
 |m+1,low,h=>by
  have fx:low<v.length:=by omega
  by_cases h0:v[low]=0
  ·rw[tP fx h0]
   exact⟨fun i h1 h2=>by omega,fun _=>by rw[fF fx];exact h0⟩
  ·rw[tY fx h0]
   obtain⟨q1,q2⟩:=tf (v:=v) (m:=m) (low:=low+1) (by omega)
   refine⟨fun i h1 h2=>?_,q2⟩
   by_cases e:i=low
   ·subst e;rw[fF fx];exact h0
   ·exact q1 i aJ h2
theorem DN {n:Nat} {L:List Int} {u:Nat} (hu:u≤n):(lf n L).getD u 0≠0↔(u:Int)∈L∨ -(u:Int)∈L:=by
 rw[sF L hu]
 by_cases h1:(u:Int)∈L
 ·simp [h1]
 ·by_cases h2: -(u:Int)∈L
  ·simp [h1,h2]
  ·simp [h1,h2]
section
variable {n:Nat} {F:List (List Int)} {A:List Int} {N0 fuel:Nat} {s t:SR} {met:Nat}
theorem SJ.plen (h:SJ n F A N0 fuel s met):s.proof.length=met∧met<3 ^ n:=⟨by have:=h.si.plen;omega,h.si.Jz⟩
theorem vZ {P:List (List Int)} {c:List Int} (h:∀d∈F++P,∀x∈d,Lit n x) (hc:∀x∈c,Lit n x):∀d∈F++(P++ [c]),∀x∈d,Lit n x:=fun d hd=>by
 rw[← List.append_assoc] at hd
 rcases bW.1 hd with hd|hd
 ·exact h d hd
 ·rw[cp.1 hd];exact hc
theorem FH {P:List (List Int)} {c:List Int} (h:∀d∈P,d.Nodup) (hc:c.Nodup):∀d∈P++ [c],d.Nodup:=fun d hd=>by
 rcases bW.1 hd with hd|hd
 ·exact h d hd
 ·rw[cp.1 hd];exact hc
theorem SJ.We (h:SJ n F A N0 fuel s met) (hf:fuel≤20000) (hc:so (F++s.proof) K0) (e1:t.proof=s.proof++ [([]:List Int).map fun y=> -y]) (e2:t.core=[]) (e3:t.model=[]):kC n F A fuel t 2:=by
 obtain⟨p1,p2⟩:=h.plen
 have:=h.mf
 exact
  {hn:=h.si.inv.hn
   uh:=by rw[e1];exact h.si.ka.uh.snoc (.inl (hc.cut (fun _ h=>h) fun _ h=>h.elim))
   lits:=by rw[e1];exact vZ h.si.ka.lits fun x hx=>by simp at hx
   plen:=by rw[e1,bV,dC];omega
   plen2:=by rw[e1,bV,dC];omega
   nd:=by rw[e1];exact FH h.nd (by simp)
   res:=.inr (.inl ⟨rfl,e3,s.proof,by rw[e2];exact e1,by rw[e2];simp,by rw[e2];simp,by rw[e2];simp⟩)}
theorem SJ.VX (h:SJ n F A N0 fuel s met) (hf:fuel≤20000) {x:Int} {core:List Int} (hb:DP n s x core) (hm:s.marks.length<A.length) (ND:x∈A) (hx: -x∈s.ll 0) (e1:t.proof=s.proof++ [core.map fun y=> -y]) (e2:t.core=core) (e3:t.model=[]):kC n F A fuel t 2:=by
 obtain⟨p1,p2⟩:=h.plen
 have:=h.mf
 obtain⟨b1,b2,b3⟩:=hb.core h.si hm ND hx
 exact
  {hn:=h.si.inv.hn
   uh:=by rw[e1];exact h.si.ka.uh.snoc (hb.XU h.si.ka hx)
   lits:=by
    rw[e1]
    refine vZ h.si.ka.lits fun y hy=>?_
    obtain⟨z,hz,rfl⟩:=bw.1 hy
    obtain⟨_,_,_⟩:=b3 z hz
    exact⟨by omega,by omega,by omega⟩
   plen:=by rw[e1,bV,dC];omega
   plen2:=by rw[e1,bV,dC];omega
   nd:=by rw[e1];exact FH h.nd (by unfold List.Nodup;rw[dB];exact b2.imp fun r8 e=>r8 aJ)
   res:=.inr (.inl ⟨rfl,e3,s.proof,by rw[e2];exact e1,by rw[e2];exact b1,by rw[e2];exact b2,by rw[e2];exact b3⟩)}
theorem SI.WA (h:SI n F A 0 N0 s met) (jy:∀c∈s.proof,c.Nodup) (hf:fuel≤20000) (hm:met=fuel) (e1:t.proof=s.proof) (e2:t.core=[]) (e3:t.model=[]):kC n F A fuel t 0:=by
 have p1:=h.plen
 have p2:=h.Jz
 exact
  {hn:=h.inv.hn
   uh:=by rw[e1];exact h.ka.uh
   lits:=by rw[e1];exact h.ka.lits
   plen:=by rw[e1];omega
   plen2:=by rw[e1];omega
   nd:=by rw[e1];exact jy
   res:=.inr (.inr ⟨rfl,e3,e2,.inl aJ⟩)}
theorem SJ.full (h:SJ n F A N0 fuel s met) {low:Nat} (hl:s.low=(low:Int)) (he:kE s.value low=s.value.length):∀v:Nat,1≤v→v≤n→(v:Int)∈s.ll 0∨ -(v:Int)∈s.ll 0:=fun v h1 h2=>by
 obtain⟨k,q1,q2,q3,q4⟩:=h.si.low
 have Ha:k=low:=by omega
 subst Ha
 by_cases e:v<k
 ·exact q4 v h1 e
 ·have:=(tf (v:=s.value) (low:=k) rfl).1 v aJ (by rw[he,h.si.inv.val,ki];omega)
  rw[h.si.inv.val] at this
  exact(DN h2).1 this
theorem SJ.XL (h:SJ n F A N0 fuel s met) (hf:fuel≤20000) (hb:s.broken=false) (hh:s.head=((s.ll 0).length:Int)) (hA:A.length≤s.marks.length) (E0:∀v:Nat,1≤v→v≤n→(v:Int)∈s.ll 0∨ -(v:Int)∈s.ll 0) (e1:t.proof=s.proof) (e2:t.core=[]) (e3:t.model=s.value):kC n F A fuel t 1:=by
 obtain⟨p1,p2⟩:=h.plen
 have:=h.mf
 exact
  {hn:=h.si.inv.hn
   uh:=by rw[e1];exact h.si.ka.uh
   lits:=by rw[e1];exact h.si.ka.lits
   plen:=by rw[e1];omega
   plen2:=by rw[e1];omega
   nd:=by rw[e1];exact h.nd
   res:=.inl ⟨rfl,s.ll 0,by rw[e3];exact h.si.inv.val,e2,h.si.sat hb hh hA E0⟩}
theorem fW.Qw (h:fW n s) (k:Int):fW n {s with low:=k}:=
 {hn:=h.hn,iK:=h.iK,val:=h.val,lvl:=h.lvl,oG:=h.oG,hd:=h.hd,n3:=h.n3,mG:=h.mG,cls:=h.cls,fresh:=h.fresh,nc:=h.nc,nw:=h.nw,wt:=h.wt,qU:=h.qU,qX:=h.qX,two:=h.two,pB:=h.pB,qh:=h.qh}
theorem SJ.free (h:SJ n F A N0 fuel s met) {low:Nat} (hl:s.low=(low:Int)) (he:kE s.value low≠s.value.length):∃v:Nat,kE s.value low=v∧1≤v∧v≤n∧(v:Int)∉s.ll 0∧ -(v:Int)∉s.ll 0∧(∀u:Nat,0<u→u<v→(u:Int)∈s.ll 0∨ -(u:Int)∈s.ll 0)∧SJ n F A N0 fuel {s with low:=(v:Int)} met:=by
 obtain⟨k,q1,q2,q3,q4⟩:=h.si.low
 have Ha:k=low:=by omega
 subst Ha
 have PY:s.value.length=n+1:=by rw[h.si.inv.val,ki]
 obtain⟨b1,b2⟩:=zz (v:=s.value) (low:=k) rfl (by omega)
 obtain⟨c1,c2⟩:=tf (v:=s.value) (low:=k) rfl
 have fx:kE s.value k<s.value.length:=by omega
 have hz:=c2 fx
 have mL:¬((kE s.value k:Int)∈s.ll 0∨ -(kE s.value k:Int)∈s.ll 0):=fun hh=>by
  have:=(DN (n:=n) (L:=s.ll 0) (u:=kE s.value k) aJ).2 hh
  rw[← h.si.inv.val] at this
  exact this hz
 have iT:∀u:Nat,0<u→u<kE s.value k→(u:Int)∈s.ll 0∨ -(u:Int)∈s.ll 0:=fun u h1 h2=>by
  by_cases e:u<k
  ·exact q4 u h1 e
  ·have:=c1 u aJ h2
   rw[h.si.inv.val] at this
   exact(DN aJ).1 this
 refine⟨kE s.value k,rfl,by omega,by omega,fun hh=>mL (.inl hh),fun hh=>mL (.inr hh),iT,?_⟩
 exact
  {si:=
    {inv:=h.si.inv.Qw _
     ka:=⟨h.si.ka.lits,h.si.ka.cls,h.si.ka.pH,h.si.ka.bad,h.si.ka.uh,h.si.ka.rep⟩
     dec:=h.si.dec,qS:=h.si.qS,plen:=h.si.plen,r_:=h.si.r_,wrd:=h.si.wrd
     low:=⟨kE s.value k,rfl,by omega,by omega,iT⟩}
   lv:=h.lv,model:=h.model,core:=h.core,mf:=h.mf,nd:=h.nd}
theorem SJ.V1 (h:SJ n F A N0 fuel s met) (hh:s.head=((s.ll 0).length:Int)) (hA:A.length≤s.marks.length) {v:Nat} (h1:1≤v) (h2:v≤n) (h3:(v:Int)∉s.ll 0) (h4: -(v:Int)∉s.ll 0) (h5:∀u:Nat,0<u→u<v→(u:Int)∈s.ll 0∨ -(u:Int)∈s.ll 0) (hv:Value):SJ n F A N0 fuel (fL (iq s) (-(v:Int)) (-1) hv) met:=by
 have hl:Lit n (-(v:Int)):=⟨by omega,by omega,by omega⟩
 have hs:=h.si.K1 hh hl h4 (by rw[dv];exact h3) hv (fun y hy=>by rw[List.getElem?_eq_none aJ] at hy;cases hy) (.inr ⟨hA,v,rfl,h5⟩)
 exact⟨hs,h.lv.K1 hs.inv h.si.inv hh hl h4 (by rw[dv];exact h3),h.model,h.core,h.mf,h.nd⟩
theorem SJ.Wz (h:SJ n F A N0 fuel s met) (hh:s.head=((s.ll 0).length:Int)) (hA:s.marks.length<A.length) (hl:Lit n A[s.marks.length]) (h1:A[s.marks.length]∉s.ll 0) (h2: -A[s.marks.length]∉s.ll 0) (hv:Value):SJ n F A N0 fuel (fL (iq s) A[s.marks.length] (-1) hv) met:=by
 have hs:=h.si.K1 hh hl h1 h2 hv (fun y hy=>by rw[List.getElem?_eq_getElem hA] at hy;simpa using hy) (.inl (cZ _))
 exact⟨hs,h.lv.K1 hs.inv h.si.inv hh hl h1 h2,h.model,h.core,h.mf,h.nd⟩
theorem SJ.It (h:SJ n F A N0 fuel s met) (hh:s.head=((s.ll 0).length:Int)) (hA:s.marks.length<A.length) (hx:A[s.marks.length]∈s.ll 0):SJ n F A N0 fuel (iq s) met:=
 ⟨h.si.It hh hA hx,LV.It hA,h.model,h.core,h.mf,h.nd⟩
end
end Go.Ab
