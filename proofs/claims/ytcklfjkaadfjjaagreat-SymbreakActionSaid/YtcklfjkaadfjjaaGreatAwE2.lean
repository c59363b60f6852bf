/- Chapter 05's reference: scopes that fit. -/
import Derived.Test.YtcklfjkaadfjjaaGreatAwK4
import Derived.Test.YtcklfjkaadfjjaaGreatAbZ
import Derived.Test.YtcklfjkaadfjjaaGreatAbL3
import Derived.Test.YtcklfjkaadfjjaaGreatAbL2
import Derived.WalkSmall
import Derived.Test.YtcklfjkaadfjjaaGreatAwM2
import Derived.Test.YtcklfjkaadfjjaaGreatAbL4
set_option linter.unusedSimpArgs false
set_option linter.unusedVariables false
open Bool renaming true_and→dt,false_and→du,and_assoc→dC,and_eq_true→aW,and_eq_false_iff→dJ,or_eq_true→dM
open Nat renaming reduceBEq→c6,zero_le→bg,le_refl→aM,zero_add→a6,succ_mul→dq,zero_lt_one→db,not_lt_zero→dV
open List renaming length_take→cP,range→a7,pairwise_lt_range→dx,mem_flatMap→dz,mem_range→dk,length_cons→cb,mem_map→bt,getElem_mem→cT,mem_filter→dD,pairwise_iff_getElem→dE,getElem_of_mem→dc,map_append→cV,length_map→aX,take_length→dF,append_nil→bp,append_assoc→dG,length_filter_le→dH,length_append→bV,drop_eq_nil_of_le→dI,getD_eq_getElem?_getD→cO,getElem?_eq_getElem→aZ,getElem?_eq_none→cB,take_zero→dK,map_set→cz,mem_append→bW,nodup_nil→dL,nodup_append→ca,nodup_range→dO,range_succ→dP,flatMap_append→dQ,filter_cons→dR,mem_take_iff_getElem→dS
open Int renaming mul_nonneg→dv,pow_nonneg→dw,mul_le_mul_of_nonneg_right→dy,mul_comm→dA,mul_assoc→dB,emod_nonneg→c9,add_zero→dU,ediv_ediv_of_nonneg→dW,ediv_nonneg→dX
namespace Go.Ab
open Go Go.Proofs
open Nat (reduceAdd reduceSub)
set_option maxRecDepth 20000
set_option maxHeartbeats 4000000
def sizedB (at':List Int) (st:Int):Bool:=decide (at'.length≤4∧1≤st∧st≤4) && (kn at' && decide (at'.sum≤12))
attribute [local irreducible] AW a_ fT ff AR fh e6 fp fA
theorem Ek (at':List Int) (st:Int):Fn Tryz.prog 116 [pI at' st] (fe (sizedB at' st)):=by
 unfold sizedB
 by_cases h1:at'.length≤4∧1≤st∧st≤4
 ·rw[decide_eq_true h1,dt]
  refine Fn.enter (n:=49) Tryz.func116 rfl rfl rfl rfl rfl (by decide) fun g fu fw=>?_;(try refine nz ?_)
  (refine lV ?_;refine vz ?_;refine BI ?_;refine zn ?_;refine a_.gtr rfl rfl rfl rfl rfl ?_;refine mW ?_;refine IM ?_;refine zs ?_;refine zF ?_;refine mW ?_;refine IM ?_;refine a_.gtr rfl rfl rfl rfl rfl ?_;refine zF ?_;refine qZ ?_;refine mw ?_)
  (refine nz ?_;apply AW.fO [6,1] [0] (fun i:Nat=>([(3,eU (at'.take i).sum),(4,eU i)]:List (Nat×AV))) (fun i:Nat=>([]:List (Nat×Option Ob))) (fun i:Nat=>i≤at'.length∧kn (at'.take i)=true) (fun i:Nat=>at'.length - i) (0);(conv=>lhs;simp only[Nf.jI,Nf.all,c6,reduceAdd,reduceSub]);(all_goals skip))
  ·exact⟨bg _,rfl⟩
  ·exact UD
  rintro i ⟨hi,pC⟩
  by_cases ft:i<at'.length
  ·have hb:=(p8 pC (by rw[cP];omega)).take i
   rw[List.take_take,Nat.min_self] at hb
   have gZ:=my at' ft
   by_cases h2:1≤at'[i]∧at'[i]≤5
   ·(refine IA ?_;refine BI ?_;refine zm ?_;refine ay ?_;refine uT ?_;refine mW ?_;refine PH ?_;refine mW ?_;refine ay ?_;refine ov ?_;refine wL ?_;refine B1 ?_;refine qC ?_;refine A3 ?_;refine ay ?_;refine zr ?_;refine zj ?_;refine uC ?_;refine uk ?_)
    exact⟨i+1,⟨by omega,yi pC ft h2⟩,by omega,e_ rfl (by(refine⟨.d_ (by first|rfl|(rw[gZ])),?_⟩;refine⟨.d_ (by first|rfl|(rw[gZ])),?_⟩;refine⟨.fb (by first|rfl|(rw[gZ])),?_⟩;refine aA ?_;exact trivial)) (by(refine⟨.box _ rfl ?_,?_⟩;refine⟨.fb (by first|rfl|(rw[gZ])),?_⟩;refine⟨.d_ (by first|rfl|(rw[gZ])),?_⟩;(iterate 2 exact trivial))) rfl⟩
   ·have hz:=xY ft h2
    (refine IA ?_;refine BI ?_;refine zm ?_;refine ay ?_;refine uT ?_;refine zm ?_;(focus ((with_reducible apply a_.kV);(iterate 6 exact rfl);all_goals intro qp));refine PH ?_;refine mW ?_;refine ay ?_;refine ov ?_;refine wL ?_;refine sK ?_;refine JA ?_;(all_goals skip);rotate_left;refine Rq ?_;refine JA ?_;(all_goals skip);rotate_left)
    all_goals (apply c_;(exact fZ.one (.tmp rfl rfl));(refine Le.fe ?_;(rw[hz];rfl)))
  ·rw[gV (l:=at') aG] at pC
   rw[gV (l:=at') aG,pC,dt]
   (refine yp ?_;refine rY ?_;refine zm ?_;refine a_.leq rfl rfl rfl rfl rfl ?_;refine j7 ?_)
   (apply c_;(exact fZ.one (.tmp rfl rfl));(refine Le.fe ?_;(rfl)))
 ·rw[decide_eq_false h1,du]
  refine Fn.enter (n:=49) Tryz.func116 rfl rfl rfl rfl rfl (by decide) fun g fu fw=>?_;(try refine nz ?_)
  (refine lV ?_;refine vz ?_;refine BI ?_;refine zn ?_;refine yZ ?_;(focus ((with_reducible apply a_.kV);(iterate 6 exact rfl);all_goals intro qp));refine IM ?_;refine zs ?_;refine zF ?_;refine zm ?_;(focus ((with_reducible apply a_.kV);(iterate 6 exact rfl);all_goals intro qp));refine IM ?_;refine a_.gtr rfl rfl rfl rfl rfl ?_;refine zF ?_;refine sK ?_;(all_goals skip);rotate_left;refine Ie ?_;refine xH ?_;(all_goals skip);rotate_left;refine Ie ?_;refine zm ?_;refine KK ?_;refine MR ?_;(all_goals skip);rotate_left)
  all_goals (apply c_;(exact fZ.one (.tmp rfl rfl));(refine Le.fe ?_;exact ak))
end Go.Ab
/- Chapter 05:the reference's full relation is the program's. -/
namespace Go.Ab
open Go Go.Proofs
set_option maxRecDepth 20000
set_option maxHeartbeats 4000000
theorem Ag {n:Int} (hn:0≤n):∀(l:List (Int×Nat)),(∀c∈l,0≤c.1∧c.1+c.2≤n)→∀(p:Int),0≤p→nY (sS n p l)∧∀t∈sS n p l,p*n ^ l.length≤t∧t<(p+1)*n ^ l.length
 |[],_,p,_=>by rw[f_];simp;omega
 |(f,z)::l,h,p,hp=>by
  have hc:=h (f,z) (by simp)
  simp only at hc
  have ih:=Ag hn l fun c hc=>h c (by simp [hc])
  have hpn:0≤p*n:=dv hp hn
  have hm:0≤n ^ l.length:=dw hn
  have hq:∀i:Nat,0≤p*n+(f+(i:Int)):=fun i=>by omega
  show nY ((a7 z).flatMap fun i=>sS n (p*n+(f+(i:Nat))) l)∧_
  constructor
  ·show List.Pairwise _ _
   rw[List.pairwise_flatMap]
   refine⟨fun i _=>(ih _ (hq i)).1,?_⟩
   refine dx.imp fun {i j} Ad x hx y hy=>?_
   have h1:=((ih _ (hq i)).2 x hx).2
   have h2:=((ih _ (hq j)).2 y hy).1
   have h3:(p*n+(f+(i:Int))+1)*n ^ l.length≤(p*n+(f+(j:Int)))*n ^ l.length:=dy aG hm
   omega
  ·intro t ht
   obtain⟨i,hi,ht⟩:=dz.1 ht
   rw[dk] at hi
   obtain⟨h1,h2⟩:=(ih _ (hq i)).2 t ht
   have e:n ^ ((f,z)::l).length=n*n ^ l.length:=by rw[cb,Int.pow_succ,dA]
   rw[e,← dB,← dB]
   have h3:(p*n)*n ^ l.length≤(p*n+(f+(i:Int)))*n ^ l.length:=dy aG hm
   have h4:(p*n+(f+(i:Int))+1)*n ^ l.length≤((p+1)*n)*n ^ l.length:=dy (by rw[Int.add_mul];omega) hm
   omega
theorem OR {at':List Int} (hp:∀y∈at',0≤y) {l:List Int} (hs:∀s∈l,0≤s∧s<at'.length):∀c∈wj at' l,0≤c.1∧c.1+c.2≤at'.sum:=by
 intro c hc
 unfold wj at hc
 obtain⟨s,h1,rfl⟩:=bt.1 hc
 have h2:=hs s h1
 have h3:=Gk hp (k:=s.toNat) (by omega)
 have h4:0≤at'.getD s.toNat 0:=by rw[kT aG];exact hp _ (cT _)
 simp only
 omega
theorem CL {at':List Int} (hp:∀y∈at',0≤y) {l:List Int} (hs:∀s∈l,0≤s∧s<at'.length):nY (lH at' l).2:=
 (Ag (qY hp) _ (OR hp hs) 0 (Int.le_refl _)).1
theorem xJ {at':List Int}:∀{l:List Int} {ts:List Int} {s t:Int},l.length=ts.length→lE at' (l++ [s]) (ts++ [t])=(decide (iv at' t 0=s) && lE at' l ts)
 |[],[],s,t,_=>by simp [lE]
 |a::l,b::ts,s,t,h=>by
  show(_ && lE at' (l++ [s]) (ts++ [t]))=(_ && (_ && _))
  rw[xJ (by simpa using h),← dC,← dC,Bool.and_comm (decide _) (decide _)]
theorem zG (at':List Int) (n:Int):∀(m:Nat) (l:List Int),l.length=m→∀r,lE at' l (oX n m r)=w5 at' n l.reverse r
 |0,l,h,r=>by obtain rfl:=List.eq_nil_of_length_eq_zero h;rfl
 |m+1,l,h,r=>by
  obtain⟨l',s,rfl⟩:∃l' s,l=l'++ [s]:=⟨l.dropLast,l.getLast (by intro e;subst e;simp at h),(List.dropLast_concat_getLast _).symm⟩
  have To:l'.length=m:=by simpa using h
  rw[List.reverse_append]
  show lE at' (l'++ [s]) (oX n m (r / n)++ [r % n])=w5 at' n (s::l'.reverse) r
  rw[xJ (by rw[ya];exact To),zG at' n m l' To (r / n)]
  rfl
theorem Ho (p:Int→Bool) (m:Nat):nY (kO p m):=by
 unfold kO
 refine List.Pairwise.filter _ ?_
 rw[List.pairwise_map]
 exact dx.imp fun h=>by omega
theorem Ig {p:Int→Bool} {m:Nat} {t:Int}:t∈kO p m↔0≤t∧t<m∧p t=true:=by
 unfold kO
 rw[dD,bt]
 constructor
 ·rintro⟨⟨i,hi,rfl⟩,h⟩
  rw[dk] at hi
  exact⟨by omega,by omega,h⟩
 ·rintro⟨h1,h2,h3⟩
  exact⟨⟨t.toNat,dk.2 aG,by omega⟩,h3⟩
theorem Fh {at':List Int} (hp:∀y∈at',0≤y) {l:List Int} (hs:∀s∈l,0≤s∧s<at'.length):kO (fun r=>lE at' l (oX at'.sum l.length r)) (at'.sum ^ l.length).toNat=(lH at' l).2:=by
 have h0:0≤at'.sum ^ l.length:=dw (qY hp)
 refine mh (Ho _ _) (CL hp hs) fun t=>?_
 rw[Ig]
 show _↔t∈sS at'.sum 0 (wj at' l)
 rw[Cs hp l hs,zG _ _ _ _ rfl]
 constructor
 ·rintro⟨h1,h2,h3⟩;exact⟨h1,h3,by omega⟩
 ·rintro⟨h1,h2,h3⟩;exact⟨h1,by omega,h2⟩
theorem Ea (at':List Int) (st:Int) (l:List Int) (hc:jT at'.length l=true) (h:sr at') (hs:at'.sum≤1000) (hn:1≤at'.sum):
  Fn Tryz.prog 74 [pI at' st,.pv (ints l)] (mA (lH at' l)):=by
 have h1:=I3 at' st l hc h hs hn
 unfold jT at hc
 rw[aW] at hc
 rw[Fh (fun y hy=>(h.2 y hy).1) (wE hc.2)] at h1
 exact h1
end Go.Ab
/- Chapter 09:bounds as data;the plain laws of meets,free tuples and contained models. -/
namespace Go.Ab
open Go Go.Proofs
set_option maxRecDepth 20000
set_option maxHeartbeats 4000000
abbrev gv:=jc×jc
abbrev Ga (b:gv):List PV:=[.lit (.int .i64 b.1.1),ints b.1.2,.lit (.int .i64 b.2.1),ints b.2.2]
abbrev oW (l:List gv):PV:=.slice 4 (l.map Ga)
def wB (x:gv) (r:jc):Bool:=decide (x.1.1=r.1∧x.2.1=r.1) && (nW x.1.2 r.2 && nW r.2 x.2.2)
def vB (at':List Int) (f:gx) (x:gv):Bool:=decide (x.1.1=f.sorts.length∧x.2.1=f.sorts.length) && (kJ at'.sum x.1 && (kJ at'.sum x.2 && (nW x.1.2 x.2.2 && nW x.2.2 (lH at' f.sorts).2)))
def xO (x:gv):List Int:=gg x.2.2 x.1.2
def fJ:Nat→List gv→List (Int×Int)
 |_,[]=>[]
 |i,x::bs=>(xO x).map (fun t=>((i:Int),t))++fJ (i+1) bs
def R3 (x y:gv):Bool:=decide (x.2.1=x.1.1∧y.1.1=x.1.1∧y.2.1=x.1.1)
def okB (z:gv):Bool:=nW z.1.2 z.2.2
theorem J1 {a b:List Int}:nW a b=true↔∀t∈a,t∈b:=by
 unfold nW;rw[List.all_eq_true];simp
theorem qK {a b:List Int} {t:Int}:t∈gg a b↔t∈a∧t∉b:=by
 unfold gg;rw[dD];simp
theorem Lf {a b:List Int} (h:nY a):nY (gg a b):=h.sublist (List.filter_sublist)
structure QH (x:gv):Prop where
 low:nY x.1.2
 high:nY x.2.2
 sub:∀t∈x.1.2,t∈x.2.2
 ar:x.2.1=x.1.1
theorem l7 {n:Int} {r:jc}:kJ n r=true↔(0≤n∧n≤12∧1≤r.1∧r.1≤3)∧nY r.2∧∀t∈r.2,0≤t∧t<n ^ r.1.toNat:=by
 unfold kJ
 rw[aW,decide_eq_true_eq,LK aG]
 refine and_congr_right fun _=>?_
 constructor
 ·intro h
  constructor
  ·show List.Pairwise _ _
   rw[dE]
   have key:∀d i (h2:i+d+1<r.2.length),r.2[i]<r.2[i+d+1]:=by
    intro d
    induction d with
    |zero=>intro i h2;exact(h (i+0+1) h2).2.2.2 (by omega)
    |succ d ih=>
     intro i h2
     have h3:=ih i (by omega)
     have h4:=(h (i+(d+1)+1) h2).2.2.2 (by omega)
     have e:i+(d+1)+1 - 1=i+d+1:=by omega
     simp only[e] at h4
     omega
   intro i j hi hj Ad
   have:=key (j - i - 1) i (by omega)
   have e:i+(j - i - 1)+1=j:=by omega
   simp only[e] at this
   exact this
  ·intro t ht
   obtain⟨j,hj,rfl⟩:=dc ht
   exact⟨(h j hj).2.1,(h j hj).2.2.1⟩
 ·rintro⟨h1,h2⟩ j hj
  have h3:=h2 _ (cT hj)
  exact⟨by omega,h3.1,h3.2,fun h0=>dE.1 h1 (j - 1) j aG hj aG⟩
end Go.Ab
/- Chapter 09:within,Equal,Contains,Valid. -/
namespace Go.Ab
open Go Go.Proofs
set_option maxRecDepth 20000
set_option maxHeartbeats 4000000
attribute [local irreducible] AW a_ fT ff AR fh e6 fp fA canon gg nL nW kJ
end Go.Ab
/- Chapter 09:Contains,Valid. -/
namespace Go.Ab
open Go Go.Proofs
set_option maxRecDepth 20000
set_option maxHeartbeats 4000000
attribute [local irreducible] AW a_ fT ff AR fh e6 fp fA canon gg nL nW kJ wB
theorem wK {at':List Int} {l:List Int} (hc:jT at'.length l=true) (h:sr at') (yB:at'.sum≤12):kJ at'.sum (lH at' l)=true:=by
 have hp:∀y∈at',0≤y:=fun y hy=>(h.2 y hy).1
 unfold jT at hc
 rw[aW,decide_eq_true_eq] at hc
 have nf:=wE hc.2
 rw[l7]
 refine⟨⟨qY hp,yB,by show(1:Int)≤(l.length:Int);omega,by show(l.length:Int)≤3;omega⟩,CL hp nf,fun t ht=>?_⟩
 have:=(Cs hp l nf t).1 ht
 show 0≤t∧t<at'.sum ^ (l.length:Int).toNat
 rw[Int.toNat_natCast]
 exact⟨this.1,this.2.2⟩
end Go.Ab
/- Chapter 09:the widest bounds,of the program and of the reference. -/
namespace Go.Ab
open Go Go.Proofs
open Nat (reduceAdd reduceSub)
set_option maxRecDepth 20000
set_option maxHeartbeats 4000000
def ue (at':List Int) (f:gx):gv:=(((f.sorts.length:Int),[]),lH at' f.sorts)
def qG (at':List Int) (fs:List gx):List gv:=fs.map (ue at')
theorem Hf {at':List Int} {fs:List gx} {k:Nat} (hk:k<fs.length):qG at' (fs.take (k+1))=qG at' (fs.take k)++ [ue at' fs[k]]:=by
 unfold qG
 rw[fF hk,cV];rfl
theorem KM (at':List Int) (fs:List gx) (k:Nat):(qG at' (fs.take k)).length≤k:=by
 unfold qG
 rw[aX,cP];omega
attribute [local irreducible] AW a_ fT ff AR fh e6 fp fA canon gg nL nW kJ sS
theorem t_ (s:gu) (at':List Int) (st:Int) (zU:∀f∈s.fields,jT at'.length f.sorts=true) (G8:s.fields.length≤1000) (h:sr at') (yB:at'.sum≤12) (h1:1≤at'.sum):Qb Tryz.prog 25 [De s,pI at' st] 115 4 ((qG at' s.fields).map Ga):=by
 obtain⟨so,fs,p,q⟩:=s
 simp only at zU G8 ⊢
 refine Qb.enter (n:=37) Tryz.func25 rfl rfl rfl rfl rfl (by decide) fun g fu fw=>?_;(try refine nz ?_)
 (refine wh ?_;refine nv ?_;refine mw ?_)
 (refine nz ?_;apply AW.fO [4,3,2] [1,0] (fun k:Nat=>([(5,.own 2 115 4 ((qG at' (fs.take k)).map Ga)),(6,eU k)]:List (Nat×AV))) (fun k:Nat=>([(2,some .row)]:List (Nat×Option Ob))) (fun k:Nat=>k≤fs.length) (fun k:Nat=>fs.length - k) (0);(conv=>lhs;simp only[Nf.jI,Nf.all,c6,reduceAdd,reduceSub]);(all_goals skip))
 ·exact bg _
 ·exact e_ rfl (by(refine⟨.lU _ _ _ rfl rfl,?_⟩;refine⟨.d_ (by first|with_reducible rfl|(rfl)),?_⟩;(iterate 3 refine aA ?_);exact trivial)) (by(refine⟨.jv rfl,?_⟩;refine⟨.box _ rfl ?_,?_⟩;refine⟨.fb (by first|with_reducible rfl|(rfl)),?_⟩;refine⟨.d_ (by first|with_reducible rfl|(rfl)),?_⟩;exact trivial;refine⟨.box _ rfl ?_,?_⟩;(iterate 2 refine⟨.fb (by first|with_reducible rfl|(rfl)),?_⟩);(iterate 2 refine aA ?_);(iterate 2 exact trivial))) rfl
 rintro k hk
 have BP:=KM at' fs k
 by_cases ft:k<fs.length
 ·have gZ:=Hf (at':=at') ft
  have F4:=Ea at' st fs[k].sorts (zU _ (cT ft)) h aG h1
  (refine On ?_;refine ay ?_;refine E3 ?_;refine zn ?_;refine Q4 ?_;refine AW.ie [0,1,2,3,4,5,6,7,8,9] [] rfl (by assumption) aF aF rfl ?_;show a_ .held _ _ _ [_,_,_,_,_,_,_,_,_,_] _ _;refine a_.gk rfl rfl rfl ?_;refine zm ?_;refine Rx ?_;refine nz ?_;refine j4 ?_;refine J4 ?_;refine zm ?_;refine ay ?_;refine E3 ?_;refine Q3 ?_;intro k_ jA;refine nz ?_;refine AR.fI (i:=10) rfl aF rfl ?_;intro g_ eV hG;refine zP (F4) ?_;refine Q3 ?_;refine AR.free 11 aF rfl rfl rfl (jx.build 115 [0,2] rfl rfl rfl rfl rfl rfl rfl rfl) ?_;(try refine nz ?_);refine AR.fI (i:=12) rfl aF rfl ?_;intro g_ eV hG;(with_reducible apply a_.Xu);exact rfl;exact rfl;(focus ((repeat (first|exact .nil|apply xn.here|apply xn.skip));done));refine nz ?_;(focus ((with_reducible apply a_.WM (k:=4));(iterate 6 exact rfl);(focus ((repeat ((any_goals (apply Jh.cons));(all_goals (try exact rfl));(all_goals (try (repeat (first|exact JG.nil|apply JG.cons))))));(any_goals (exact Jh.nil));done));exact rfl;exact rfl;(try refine nz ?_)));refine KG ?_;intro g_ eV hG;(with_reducible apply a_.fl);exact rfl;exact ai;(iterate 9 exact rfl);exact ab;refine nz ?_;refine Q3 ?_;refine AR.lW [14] aF aF aF aF ?_;intro g_ eV;show a_ .held _ _ _ [_] _ _;refine a_.kh rfl rfl rfl ?_;refine Q3 ?_;intro k_ jA;refine nz ?_;refine K7 ?_)
  exact⟨k+1,by omega,by omega,e_ rfl (by(refine⟨.fR (by first|rfl|(rw[gZ,cV];rfl)) rfl,?_⟩;refine⟨.d_ (by first|rfl|(rw[gZ,cV];rfl)),?_⟩;(iterate 3 refine aA ?_);exact trivial)) (by(refine aC ?_;refine⟨.box _ rfl ?_,?_⟩;refine⟨.fb (by first|rfl|(rw[gZ,cV];rfl)),?_⟩;refine⟨.d_ (by first|rfl|(rw[gZ,cV];rfl)),?_⟩;exact trivial;refine⟨.box _ rfl ?_,?_⟩;refine⟨.fb (by first|rfl|(rw[gZ,cV];rfl)),?_⟩;refine⟨.fb (by first|rfl|(rw[gZ,cV];rfl)),?_⟩;(iterate 2 refine aA ?_);(iterate 2 exact trivial))) rfl⟩
 ·rw[gV (l:=fs) aG]
  (refine rH ?_;refine J4 ?_;refine yy ?_;refine rY ?_;refine GW ?_)
  ((first|(refine nu (fZ.one (.tmp rfl rfl)) ?_)|(refine nu (fZ.one (.cell1 rfl rfl rfl rfl)) ?_)|(refine vp (fZ.one (.tmp rfl rfl)) ?_));(rfl))
end Go.Ab
/- Chapter 09:the meet of bounds. -/
namespace Go.Ab
open Go Go.Proofs
set_option maxRecDepth 20000
set_option maxHeartbeats 4000000
attribute [local irreducible] AW a_ fT ff AR fh e6 fp fA canon gg nL nW kJ sS R3 okB
end Go.Ab
/- Chapter 09:the free tuples,by Go's binary search. -/
namespace Go.Ab
open Go Go.Proofs Go.RowKit
open Nat (reduceAdd reduceSub)
set_option maxRecDepth 20000
set_option maxHeartbeats 4000000
def jQ (p:Int×Int):List PV:=[.lit (.int .i64 p.1),.lit (.int .i64 p.2)]
abbrev V4 (l:List (Int×Int)):PV:=.slice 2 (l.map jQ)
theorem Ee (l:List Int) (x:Int) (hl:l.length≤1000000) (h:nY l):Fn Tryz.prog 57 [.pv (ints l),eU x] (.iR [.any,fe (decide (x∈l))]) where
 enters:=enters_of Tryz.func57 rfl (by decide)
 calls:=by
  intro N w vals hN hs gp
  have hs:vals.size=2:=hs
  obtain⟨v0,v1,rfl⟩:∃v0 v1,vals= #[v0,v1]:=by
   rcases vals with ⟨_|⟨v0,_|⟨v1,_|_⟩⟩⟩<;>simp at hs
   exact⟨v0,v1,rfl⟩
  have h0:=gp 0 v0 _ rfl rfl
  have h1:=(gp 1 v1 _ rfl rfl).lit
  subst h1
  have hcn:∀k:List Int,(k.contains x)=decide (x∈k):=fun k=>by simp
  have h0:=h0.kf
  cases h0 with
  | @slice a len cap k e7 b off vs BP p_ hb ha hk hc hr=>
   rw[aX] at BP
   subst BP
   by_cases yW:l=[]
   ·subst yW
    refine(Tryz.slices_BinarySearch_int_empty a cap x w).mono fun e w' ⟨he,hw⟩=>⟨_,he,?_,hw▸Below.refl _ _⟩
    exact .iR rfl fun j u c h1 h2=>by
     match j,h1,h2 with
     |0,h1,h2=>cases h2;exact .any _
     |1,h1,h2=>cases h1;cases h2;exact .pv (.lit _)
   ·have ti:=ha (by simpa using yW)
    obtain⟨rfl,_,_⟩:=ti
    have jZ:∀j,j<l.length→w.cell? ⟨b,off+j,none⟩=some (.int .i64 (l.getD j 0)):=by
     intro j hj
     have hp:cellAt (l.map encI) j 0=some (.lit (.int .i64 l[j])):=by simp [cellAt,encI,hj]
     have h2:=hr j 0 _ hp
     have h3:=(hc j 0 _ hp).1
     generalize vs j 0=u at h2 h3
     cases h2
     rw[Nat.mul_one,Nat.add_zero] at h3
     rw[h3,kT hj]
    refine(Tryz.slices_BinarySearch_int b off l.length cap l x w (aM _) aG jZ (by rw[dF];exact h.imp (fun h=>by omega))).mono fun e w' ⟨he,q,hw⟩=>⟨_,he,?_,hw▸below_drewN (Below.refl _ _) q⟩
    exact .iR rfl fun j u c h1 h2=>by
     match j,h1,h2 with
     |0,h1,h2=>cases h2;exact .any _
     |1,h1,h2=>
      cases h1;cases h2
      rw[dF,hcn]
      exact .pv (.lit _)
def gF (i:Nat) (l:List Int):List (Int×Int):=l.map fun t=>((i:Int),t)
theorem Ah {x:gv} {k:Nat} (hk:k<x.2.2.length):gg (x.2.2.take (k+1)) x.1.2=gg (x.2.2.take k) x.1.2++if x.2.2[k]∉x.1.2 then [x.2.2[k]] else []:=ta hk
theorem sX:∀(bs:List gv) (i k:Nat) (hk:k<bs.length),fJ i (bs.take (k+1))=fJ i (bs.take k)++gF (i+k) (xO bs[k])
 |[],_,k,hk=>by simp at hk
 |x::bs,i,0,_=>by
  show(xO x).map _++ []=[]++_
  rw[bp];rfl
 |x::bs,i,k+1,hk=>by
  show(xO x).map _++fJ (i+1) (bs.take (k+1))=((xO x).map _++fJ (i+1) (bs.take k))++gF (i+(k+1)) (xO (bs[k]'(by simpa using hk)))
  rw[sX bs (i+1) k (by simpa using hk),dG,show i+1+k=i+(k+1) by omega]
theorem oS:∀(bs:List gv) (i k:Nat),(∀x∈bs,x.2.2.length≤100000)→(fJ i (bs.take k)).length≤k*100000
 |[],i,k,_=>by simp [fJ]
 |x::bs,i,0,_=>by simp [fJ]
 |x::bs,i,k+1,h=>by
  show((xO x).map _++fJ (i+1) (bs.take k)).length≤_
  have h1:=oS bs (i+1) k fun x hx=>h x (by simp [hx])
  have h2:=h x (by simp)
  have h3:(xO x).length≤x.2.2.length:=dH _ _
  simp only[bV,aX]
  omega
attribute [local irreducible] AW a_ fT ff AR fh e6 fp fA canon gg nL nW kJ sS fJ
theorem GU (bs:List gv) (hb:bs.length≤1000) (Hl:∀x∈bs,x.1.2.length≤100000∧x.2.2.length≤100000∧nY x.1.2):Fn Tryz.prog 92 [.pv (oW bs)] (.pv (V4 (fJ 0 bs))):=by
 refine Fn.enter (n:=25) Tryz.func92 rfl rfl rfl rfl rfl (by decide) fun g fu fw=>?_;(try refine nz ?_)
 (refine nQ ?_;refine pZ ?_;refine zd ?_;refine rH ?_;refine uj ?_)
 (refine nz ?_;apply AW.fO [8,7,3,2] [] (fun k:Nat=>([(9,eU k)]:List (Nat×AV))) (fun k:Nat=>([(0,some (.box [.own 1 147 2 ((fJ 0 (bs.take k)).map jQ)])),(1,some .row)]:List (Nat×Option Ob))) (fun k:Nat=>k≤bs.length) (fun k:Nat=>bs.length - k) (0);(conv=>lhs;simp only[Nf.jI,Nf.all,c6,reduceAdd,reduceSub]);(all_goals skip))
 ·exact bg _
 ·exact e_ rfl (by(refine⟨.d_ (by first|rfl|simp [fJ]),?_⟩;refine⟨.d_ (by first|rfl|simp [fJ]),?_⟩;refine⟨.fb (by first|rfl|simp [fJ]),?_⟩;(iterate 2 refine aA ?_);exact trivial)) (by(refine⟨.box _ rfl ?_,?_⟩;refine⟨.nc (by first|rfl|simp [fJ]) rfl rfl,?_⟩;exact trivial;refine⟨.jv rfl,?_⟩;exact trivial)) rfl
 rintro k hk
 have B0:=oS bs 0 k fun x hx=>(Hl x hx).2.1
 by_cases ft:k<bs.length
 ·have gZ:=sX bs 0 k ft
  rw[a6] at gZ
  obtain⟨TE,hx2,hx3⟩:=Hl _ (cT ft)
  have FP:=fun t=>Ee bs[k].1.2 t aG hx3
  have Xw:=fun i=>rC bs[k].2.2 bs[k].1.2 i
  (refine nR ?_;refine ay ?_;refine uF ?_;(iterate 2 refine pZ ?_);refine qn ?_;refine lN ?_;refine nd ?_;refine j4 ?_;(with_reducible apply a_.inline (hf:=Tryz.func136));(with_reducible assumption);(iterate 10 exact rfl);intro g_ fu fw;refine nz ?_;refine tc ?_;refine S0 ?_;refine nz ?_;refine qu ?_;refine pV rfl rfl ?_;refine nz ?_;refine rW ?_)
  refine AW.hZ (ps:=[16]) (by assumption) (by assumption) rfl rfl Tryz.func157 rfl rfl rfl rfl rfl rfl (by decide) ?_
  intro gB tm0 l0 ps0 asg0 body0 jW Hs sR jY IX uA
  have lT:tm0.size=25:=uA
  (refine Q5 ?_;refine a_.b_ 115 1 2 rfl rfl rfl rfl ?_;refine zi ?_;refine uj ?_)
  (refine nz ?_;apply AW.fO [10,9,0,1,1004,1009,1008,1007,1003,1002] [5,4,3,2] (fun i:Nat=>([(11,eU i)]:List (Nat×AV))) (fun i:Nat=>([(0,some (.box [.own 1 147 2 ((fJ 0 (bs.take k)++gF k (gg (bs[k].2.2.take i) bs[k].1.2)).map jQ)])),(1,some .row)]:List (Nat×Option Ob))) (fun i:Nat=>i≤bs[k].2.2.length) (fun i:Nat=>bs[k].2.2.length - i) (0);(conv=>lhs;simp only[Nf.jI,Nf.all,c6,reduceAdd,reduceSub]);(all_goals skip))
  ·exact bg _
  ·exact e_ rfl (by(refine⟨.d_ (by first|rfl|simp [gF,gg]),?_⟩;refine⟨.d_ (by first|rfl|simp [gF,gg]),?_⟩;refine⟨.fb (by first|rfl|simp [gF,gg]),?_⟩;(iterate 3 refine aA ?_);(iterate 2 refine⟨.d_ (by first|rfl|simp [gF,gg]),?_⟩);refine⟨.fb (by first|rfl|simp [gF,gg]),?_⟩;(iterate 2 refine aA ?_);exact trivial)) (by(refine⟨.box _ rfl ?_,?_⟩;refine⟨.fR (by first|rfl|simp [gF,gg]) rfl,?_⟩;exact trivial;refine aC ?_;refine⟨.loop rfl,?_⟩;refine⟨.box _ rfl ?_,?_⟩;refine⟨.d_ (by first|rfl|simp [gF,gg]),?_⟩;refine⟨.fb (by first|rfl|simp [gF,gg]),?_⟩;refine⟨.d_ (by first|rfl|simp [gF,gg]),?_⟩;refine⟨.fb (by first|rfl|simp [gF,gg]),?_⟩;exact trivial;refine⟨.box _ rfl ?_,?_⟩;refine⟨.d_ (by first|rfl|simp [gF,gg]),?_⟩;refine⟨.fb (by first|rfl|simp [gF,gg]),?_⟩;refine⟨.d_ (by first|rfl|simp [gF,gg]),?_⟩;refine⟨.fb (by first|rfl|simp [gF,gg]),?_⟩;exact trivial;refine⟨.box _ rfl ?_,?_⟩;refine⟨.d_ (by first|rfl|simp [gF,gg]),?_⟩;(iterate 2 exact trivial))) rfl
  rintro i hi
  have Nh:=Xw i
  have Dp:(gF k (gg (bs[k].2.2.take i) bs[k].1.2)).length≤i:=by unfold gF;rw[aX];exact Nh
  by_cases gM:i<bs[k].2.2.length
  ·have jj:=Ah (x:=bs[k]) gM
   have JY:=FP bs[k].2.2[i]
   by_cases hm:bs[k].2.2[i]∈bs[k].1.2
   ·rw[decide_eq_true hm] at JY
    rw[if_neg (fun h=>h hm),bp] at jj
    (refine rN ?_;refine ay ?_;refine UA ?_;refine Du ?_;refine a_.jk rfl rfl rfl rfl rfl rfl ?_;refine mC ?_;refine vT ?_)
    exact⟨i+1,by omega,by omega,e_ rfl (by(refine⟨.d_ (by first|rfl|(rw[jj])),?_⟩;refine⟨.d_ (by first|rfl|(rw[jj])),?_⟩;refine⟨.fb (by first|rfl|(rw[jj])),?_⟩;(iterate 3 refine aA ?_);refine⟨.d_ (by first|rfl|(rw[jj])),?_⟩;refine⟨.d_ (by first|rfl|(rw[jj])),?_⟩;refine⟨.fb (by first|rfl|(rw[jj])),?_⟩;(iterate 2 refine aA ?_);exact trivial)) (by(refine⟨.box _ rfl ?_,?_⟩;refine⟨.fR (by first|rfl|(rw[jj])) rfl,?_⟩;exact trivial;refine aC ?_;refine⟨.loop rfl,?_⟩;refine⟨.box _ rfl ?_,?_⟩;refine⟨.d_ (by first|rfl|(rw[jj])),?_⟩;refine⟨.fb (by first|rfl|(rw[jj])),?_⟩;refine⟨.d_ (by first|rfl|(rw[jj])),?_⟩;refine⟨.fb (by first|rfl|(rw[jj])),?_⟩;exact trivial;refine⟨.box _ rfl ?_,?_⟩;refine⟨.d_ (by first|rfl|(rw[jj])),?_⟩;refine⟨.fb (by first|rfl|(rw[jj])),?_⟩;refine⟨.d_ (by first|rfl|(rw[jj])),?_⟩;refine⟨.fb (by first|rfl|(rw[jj])),?_⟩;exact trivial;refine⟨.box _ rfl ?_,?_⟩;refine⟨.d_ (by first|rfl|(rw[jj])),?_⟩;(iterate 2 exact trivial))) rfl⟩
   ·rw[decide_eq_false hm] at JY
    rw[if_pos hm] at jj
    (refine rN ?_;refine ay ?_;refine UA ?_;refine zl ?_;refine a_.move rfl rfl rfl ?_;refine nz ?_;refine oq ?_;(with_reducible apply a_.jL jW sR jY lT);(iterate 8 exact rfl);intro gR n8 q8 pf;refine vU ?_;refine And.intro (show jw _ _ _ _ from⟨_,_,_,_,rfl⟩) ?_;refine Bo ?_;refine AW.region ?_;(iterate 2 refine zb ?_);refine zm ?_;refine a_.ba2 rfl rfl rfl rfl rfl rfl rfl rfl rfl rfl rfl rfl ?_;refine Pm ?_;(with_reducible apply a_.fl);exact rfl;exact ai;(iterate 9 exact rfl);exact ab;refine nz ?_;refine qn ?_;refine a_.nil ?_;refine gL ?_;(with_reducible apply fX);exact⟨_,_,_,_,rfl⟩;refine nz ?_;refine RF ?_)
    exact⟨i+1,by omega,by omega,e_ rfl (by(refine⟨.d_ (by first|rfl|(rw[jj];unfold gF;simp [jQ])),?_⟩;refine⟨.d_ (by first|rfl|(rw[jj];unfold gF;simp [jQ])),?_⟩;refine⟨.fb (by first|rfl|(rw[jj];unfold gF;simp [jQ])),?_⟩;(iterate 3 refine aA ?_);refine⟨.d_ (by first|rfl|(rw[jj];unfold gF;simp [jQ])),?_⟩;refine⟨.d_ (by first|rfl|(rw[jj];unfold gF;simp [jQ])),?_⟩;refine⟨.fb (by first|rfl|(rw[jj];unfold gF;simp [jQ])),?_⟩;(iterate 2 refine aA ?_);exact trivial)) (by(refine⟨.box _ rfl ?_,?_⟩;refine⟨.fR (by first|rfl|(rw[jj];unfold gF;simp [jQ])) rfl,?_⟩;exact trivial;refine aC ?_;refine⟨.loop rfl,?_⟩;refine⟨.box _ rfl ?_,?_⟩;refine⟨.d_ (by first|rfl|(rw[jj];unfold gF;simp [jQ])),?_⟩;refine⟨.fb (by first|rfl|(rw[jj];unfold gF;simp [jQ])),?_⟩;refine⟨.d_ (by first|rfl|(rw[jj];unfold gF;simp [jQ])),?_⟩;refine⟨.fb (by first|rfl|(rw[jj];unfold gF;simp [jQ])),?_⟩;exact trivial;refine⟨.box _ rfl ?_,?_⟩;refine⟨.d_ (by first|rfl|(rw[jj];unfold gF;simp [jQ])),?_⟩;refine⟨.fb (by first|rfl|(rw[jj];unfold gF;simp [jQ])),?_⟩;refine⟨.d_ (by first|rfl|(rw[jj];unfold gF;simp [jQ])),?_⟩;refine⟨.fb (by first|rfl|(rw[jj];unfold gF;simp [jQ])),?_⟩;exact trivial;refine⟨.box _ rfl ?_,?_⟩;refine⟨.d_ (by first|rfl|(rw[jj];unfold gF;simp [jQ])),?_⟩;(iterate 2 exact trivial))) rfl⟩
  ·rw[gV (l:=bs[k].2.2) aG]
   (refine BW ?_;refine CT ?_;refine H9 ?_;refine wb ?_)
   exact⟨k+1,by omega,by omega,e_ rfl (by(refine⟨.d_ (by first|rfl|(rw[gZ];rfl)),?_⟩;refine⟨.d_ (by first|rfl|(rw[gZ];rfl)),?_⟩;refine⟨.fb (by first|rfl|(rw[gZ];rfl)),?_⟩;(iterate 2 refine aA ?_);exact trivial)) (by(refine⟨.box _ rfl ?_,?_⟩;refine⟨.fR (by first|rfl|(rw[gZ];rfl)) rfl,?_⟩;exact trivial;refine aC ?_;exact trivial)) rfl⟩
 ·rw[gV (l:=bs) aG]
  (refine og ?_;refine zb ?_;refine Jn ?_;refine AW.ret ?_)
  (apply c_;(exact fZ.one (.tmp rfl rfl));(exact Le.own _ _ _ _ rfl))
end Go.Ab
/- Chapter 09:the laws' own functions:small examples,what is examined,bounds made of raw data. -/
namespace Go.Ab
open Go Go.Proofs
set_option maxRecDepth 20000
set_option maxHeartbeats 4000000
def ZC (x:Int):List PV:=[.lit (.int .u8 x)]
def PM (l:List Int):List PV:=[.slice 1 (l.map ZC)]
abbrev O1 (r:List (List Int)):PV:=.slice 1 (r.map PM)
def sP (q:Nat→Bool):Nat→List Int→List Int
 |_,[]=>[]
 |i,t::ts=>(if q i=true then [t] else [])++sP q (i+1) ts
theorem vi {q:Nat→Bool}:∀{l:List Int} {i k:Nat} (hk:k<l.length),sP q i (l.take (k+1))=sP q i (l.take k)++if q (i+k)=true then [l[k]] else []
 |[],i,k,hk=>by simp at hk
 |t::ts,i,0,_=>by
  show(if q i=true then [t] else [])++ []=[]++if q i=true then [t] else []
  rw[bp,List.nil_append]
 |t::ts,i,k+1,hk=>by
  have ih:=vi (q:=q) (l:=ts) (i:=i+1) (k:=k) (by simpa using hk)
  show(if q i=true then [t] else [])++sP q (i+1) (ts.take (k+1))=((if q i=true then [t] else [])++sP q (i+1) (ts.take k))++if q (i+(k+1))=true then [(t::ts)[k+1]] else []
  rw[ih,dG,show i+1+k=i+(k+1) by omega]
  rfl
theorem xL (q:Nat→Bool):∀(l:List Int) (i:Nat),(sP q i l).length≤l.length
 |[],_=>aM _
 |t::ts,i=>by
  show((if q i=true then [t] else [])++sP q (i+1) ts).length≤ts.length+1
  have:=xL q ts (i+1)
  rw[bV]
  split
  ·simp;omega
  ·simp;omega
def uI (row:List Int) (k:Nat):Int:=if h:k<row.length then row[k] % 4 else 1
def A8 (row:List Int) (l:List Int):List Int:=sP (fun k=>decide (1<uI row k)) 0 l
def tF (row:List Int) (l:List Int):List Int:=sP (fun k=>decide (0<uI row k)) 0 l
theorem oN {row l:List Int} {k:Nat} (hk:k<l.length):A8 row (l.take (k+1))=A8 row (l.take k)++if 1<uI row k then [l[k]] else []:=by
 unfold A8
 rw[vi hk]
 simp
theorem nE {row l:List Int} {k:Nat} (hk:k<l.length):tF row (l.take (k+1))=tF row (l.take k)++if 0<uI row k then [l[k]] else []:=by
 unfold tF
 rw[vi hk]
 simp
def FZ (at':List Int) (f:gx) (row:List Int):gv:=(((f.sorts.length:Int),A8 row (lH at' f.sorts).2),((f.sorts.length:Int),tF row (lH at' f.sorts).2))
def oD (at':List Int) (raw:List (List Int)):Nat→List gx→List gv
 |_,[]=>[]
 |i,f::fs=>FZ at' f (raw.getD i [])::oD at' raw (i+1) fs
theorem kB (at':List Int) (raw:List (List Int)):∀(fs:List gx) (i:Nat),(oD at' raw i fs).length=fs.length
 |[],_=>rfl
 |f::fs,i=>by show(oD at' raw (i+1) fs).length+1=fs.length+1;rw[kB at' raw fs]
theorem xF (at':List Int) (raw:List (List Int)):∀(fs:List gx) (i k:Nat) (hk:k<fs.length),(oD at' raw i fs)[k]'(by rw[kB];exact hk)=FZ at' fs[k] (raw.getD (i+k) [])
 |[],_,_,hk=>by simp at hk
 |f::fs,i,0,_=>rfl
 |f::fs,i,k+1,hk=>by
  have:=xF at' raw fs (i+1) k (by simpa using hk)
  show(oD at' raw (i+1) fs)[k]'_=FZ at' (fs[k]'(by simpa using hk)) _
  rw[this,show i+1+k=i+(k+1) by omega]
def tq (at':List Int) (raw:List (List Int)) (fs:List gx) (i:Nat):List gv:=(oD at' raw 0 fs).take i++(qG at' fs).drop i
theorem Dg {at':List Int} {raw:List (List Int)} {fs:List gx} {i:Nat} (hi:i≤fs.length):(tq at' raw fs i).length=fs.length:=by
 unfold tq qG
 rw[bV,cP,kB,List.length_drop,aX];omega
theorem N1 {at':List Int} {raw:List (List Int)} {fs:List gx} {i:Nat} (hi:i<fs.length):(tq at' raw fs i)[i]'(by rw[Dg aG];exact hi)=ue at' fs[i]:=by
 unfold tq
 rw[List.getElem_append_right (by rw[cP,kB];omega)]
 simp only[cP,kB,List.getElem_drop,qG,List.getElem_map]
 congr 2
 omega
theorem La {at':List Int} {raw:List (List Int)} {fs:List gx} {i:Nat} (hi:i<fs.length):(tq at' raw fs i).set i (FZ at' fs[i] (raw.getD i []))=tq at' raw fs (i+1):=by
 have h1:i<(oD at' raw 0 fs).length:=by rw[kB];exact hi
 have h2:i<(qG at' fs).length:=by unfold qG;rw[aX];exact hi
 have h3:=xF at' raw fs 0 i hi
 rw[a6] at h3
 unfold tq
 rw[fF h1,h3,List.drop_eq_getElem_cons h2,List.set_append_right _ _ (by rw[cP];omega)]
 rw[cP,Nat.min_eq_left aG,Nat.sub_self,List.set_cons_zero,dG]
 rfl
theorem Ik (at':List Int) (raw:List (List Int)) (fs:List gx):tq at' raw fs 0=qG at' fs:=by unfold tq;simp
theorem Kr (at':List Int) (raw:List (List Int)) (fs:List gx):tq at' raw fs fs.length=oD at' raw 0 fs:=by
 unfold tq qG
 rw[List.take_of_length_le (by rw[kB];omega),dI (by simp),bp]
attribute [local irreducible] AW a_ fT ff AR fh e6 fp fA canon gg nL nW kJ sS A8 tF uI tq
theorem EP (s:gu) (at':List Int) (st:Int):Fn Tryz.prog 83 [De s,pI at' st] (fe (decide (s.sorts.length=at'.length) && sizedB at' st)):=by
 obtain⟨so,fs,p,q⟩:=s
 have hs:=Ek at' st
 simp only
 by_cases hl:so.length=at'.length
 ·rw[decide_eq_true hl,dt]
  refine Fn.enter (n:=16) Tryz.func83 rfl rfl rfl rfl rfl (by decide) fun g fu fw=>?_;(try refine nz ?_)
  (refine wh ?_;refine nv ?_;refine a_.b_ 27 0 0 rfl rfl rfl rfl ?_;refine zb ?_;refine zn ?_;refine BI ?_;refine P6 ?_;refine pq ?_;refine j4 ?_;refine zt ?_;refine zA (hs) ?_;refine zT ?_;refine j7 ?_)
  (apply c_;(exact fZ.one (.tmp rfl rfl));(refine Le.fe ?_;(rfl)))
 ·rw[decide_eq_false hl,du]
  refine Fn.enter (n:=16) Tryz.func83 rfl rfl rfl rfl rfl (by decide) fun g fu fw=>?_;(try refine nz ?_)
  (refine wh ?_;refine nv ?_;refine a_.b_ 27 0 0 rfl rfl rfl rfl ?_;refine zb ?_;refine zn ?_;refine BI ?_;refine P6 ?_;refine Mm ?_;refine j7 ?_)
  (apply c_;(exact fZ.one (.tmp rfl rfl));(refine Le.fe ?_;(rfl)))
end Go.Ab
/- Chapter 09:what is examined;the relations inside bounds. -/
namespace Go.Ab
open Go Go.Proofs
open Nat (reduceAdd reduceSub)
set_option maxRecDepth 20000
set_option maxHeartbeats 4000000
def kd (s:gu) (at':List Int) (st:Int):Bool:=decide (1≤s.sorts.length∧s.sorts.length≤4∧s.fields.length≤6∧at'.length≤4) && (kq s.sorts.length s.fields && (decide (s.sorts.length=at'.length) && sizedB at' st))
def Qx (pk:Nat→Bool) (low:List Int):Nat→List Int→List Int
 |_,[]=>[]
 |n,t::ts=>if t∈low then t::Qx pk low n ts else (if pk n=true then [t] else [])++Qx pk low (n+1) ts
def pkB (picks:List Bool) (n:Nat):Bool:=picks.getD n false
attribute [local irreducible] AW a_ fT ff AR fh e6 fp fA canon gg nL nW kJ sS pkB Qx
theorem Lj (s:gu) (at':List Int) (st:Int):Fn Tryz.prog 40 [De s,pI at' st] (fe (kd s at' st)):=by
 obtain⟨so,fs,p,q⟩:=s
 have hv:=EP ⟨so,fs,p,q⟩ at' st
 refine Fn.enter (n:=75) Tryz.func40 rfl rfl rfl rfl rfl (by decide) fun g fu fw=>?_;(try refine nz ?_)
 by_cases h1:so.length=0
 ·have hz:kd ⟨so,fs,p,q⟩ at' st=false:=by unfold kd;simp only[dJ,decide_eq_false_iff_not];left;first|omega|(simp only;omega)
  rw[hz]
  (refine Kl ?_;refine P6 ?_;refine zm ?_;refine NJ ?_;refine zm ?_;refine Du ?_;refine qh ?_;refine Du ?_;refine MR ?_)
  (apply c_;(exact fZ.one (.tmp rfl rfl));(refine Le.fe ?_;(rfl)))
 by_cases h2:4<so.length
 ·have hz:kd ⟨so,fs,p,q⟩ at' st=false:=by unfold kd;simp only[dJ,decide_eq_false_iff_not];left;first|omega|(simp only;omega)
  rw[hz]
  (refine OY ?_;refine zm ?_;refine NJ ?_;refine zm ?_;refine Du ?_;refine MR ?_)
  (apply c_;(exact fZ.one (.tmp rfl rfl));(refine Le.fe ?_;(rfl)))
 by_cases h3:6<fs.length
 ·have hz:kd ⟨so,fs,p,q⟩ at' st=false:=by unfold kd;simp only[dJ,decide_eq_false_iff_not];left;first|omega|(simp only;omega)
  rw[hz]
  (refine OY ?_;refine G6 ?_;refine zn ?_;refine wL ?_;refine zm ?_;refine NJ ?_;refine xH ?_)
  (apply c_;(exact fZ.one (.tmp rfl rfl));(refine Le.fe ?_;(rfl)))
 by_cases h4:4<at'.length
 ·have hz:kd ⟨so,fs,p,q⟩ at' st=false:=by unfold kd;simp only[dJ,decide_eq_false_iff_not];left;first|omega|(simp only;omega)
  rw[hz]
  (refine OY ?_;refine G6 ?_;refine zn ?_;refine wL ?_;refine mW ?_;refine PH ?_;refine zn ?_;refine wL ?_;refine sK ?_)
  (apply c_;(exact fZ.one (.tmp rfl rfl));(refine Le.fe ?_;(rfl)))
 have hz:kd ⟨so,fs,p,q⟩ at' st=(kq so.length fs && (decide (so.length=at'.length) && sizedB at' st)):=by
  unfold kd
  rw[decide_eq_true (by refine⟨?_,?_,?_,?_⟩<;>first|omega|(simp only;omega)),dt]
 rw[hz]
 (refine OY ?_;refine G6 ?_;refine zn ?_;refine wL ?_;refine mW ?_;refine PH ?_;refine zn ?_;refine wL ?_;refine tH ?_;refine sO ?_)
 (refine nz ?_;apply AW.fO [3,2] [1,0] (fun i:Nat=>([(5,eU i)]:List (Nat×AV))) (fun i:Nat=>([]:List (Nat×Option Ob))) (fun i:Nat=>i≤fs.length∧kq so.length fs=kq so.length (fs.drop i)) (fun i:Nat=>fs.length - i) (0);(conv=>lhs;simp only[Nf.jI,Nf.all,c6,reduceAdd,reduceSub]);(all_goals skip))
 ·exact⟨bg _,rfl⟩
 ·exact Uy
 rintro i ⟨hi,he⟩
 by_cases ft:i<fs.length
 ·rw[tz ft] at he
  by_cases h5:fs[i].sorts.length<1
  ·have hc:jT so.length fs[i].sorts=false:=by unfold jT;rw[decide_eq_false aG,du]
   rw[hc,du] at he
   rw[he,du]
   (refine On ?_;refine ay ?_;refine E3 ?_;refine lM ?_;refine yy ?_;refine zm ?_;(iterate 3 refine a_.jM rfl rfl rfl rfl rfl rfl (by first|omega|decide) ?_);refine zT ?_;refine xH ?_;refine JA ?_)
   (apply c_;(exact fZ.one (.tmp rfl rfl));(refine Le.fe ?_;(rfl)))
  by_cases h6:3<fs[i].sorts.length
  ·have hc:jT so.length fs[i].sorts=false:=by unfold jT;rw[decide_eq_false aG,du]
   rw[hc,du] at he
   rw[he,du]
   (refine On ?_;refine ay ?_;refine E3 ?_;refine lM ?_;refine yy ?_;refine nS ?_;refine zn ?_;refine wL ?_;refine sK ?_;refine JA ?_)
   (apply c_;(exact fZ.one (.tmp rfl rfl));(refine Le.fe ?_;(rfl)))
  have hc:jT so.length fs[i].sorts=xz so.length fs[i].sorts:=by unfold jT;rw[decide_eq_true aG,dt]
  rw[hc] at he
  (refine On ?_;refine ay ?_;refine E3 ?_;refine lM ?_;refine yy ?_;refine nS ?_;refine zn ?_;refine wL ?_;refine qZ ?_;refine sO ?_)
  (refine nz ?_;apply AW.fO [6,5,3,2] [1,0] (fun k:Nat=>([(7,eU k)]:List (Nat×AV))) (fun k:Nat=>([]:List (Nat×Option Ob))) (fun k:Nat=>k≤fs[i].sorts.length∧xz so.length fs[i].sorts=xz so.length (fs[i].sorts.drop k)) (fun k:Nat=>fs[i].sorts.length - k) (0);(conv=>lhs;simp only[Nf.jI,Nf.all,c6,reduceAdd,reduceSub]);(all_goals skip))
  ·exact⟨bg _,rfl⟩
  ·exact Uy
  rintro k ⟨hk,vZ⟩
  by_cases gM:k<fs[i].sorts.length
  ·rw[AJ gM] at vZ
   by_cases h7:fs[i].sorts[k]<0
   ·rw[decide_eq_false aG,du] at vZ
    rw[vZ,du] at he
    rw[he,du]
    (refine s7 ?_;(with_reducible apply AW.fG);exact rfl;exact rfl;kernel_rfl;(with_reducible assumption);(iterate 2 refine zm ?_);refine ay ?_;refine uT ?_;refine zm ?_;(iterate 8 refine a_.jM rfl rfl rfl rfl rfl rfl (by with_reducible assumption) ?_);refine zT ?_;refine tn ?_;refine j7 ?_;refine Ty ?_)
    (apply c_;(exact fZ.one (.tmp rfl rfl));(refine Le.fe ?_;(rfl)))
   by_cases h8:(so.length:Int)≤fs[i].sorts[k]
   ·rw[decide_eq_false aG,du] at vZ
    rw[vZ,du] at he
    rw[he,du]
    (refine s7 ?_;(with_reducible apply AW.fG);exact rfl;exact rfl;kernel_rfl;(with_reducible assumption);(iterate 2 refine zm ?_);refine ay ?_;refine uT ?_;refine nS ?_;refine mW ?_;refine ay ?_;refine ov ?_;refine zy ?_;refine Jj ?_;refine vV ?_;refine nD ?_;refine j7 ?_;refine Ty ?_)
    (apply c_;(exact fZ.one (.tmp rfl rfl));(refine Le.fe ?_;(rfl)))
   rw[decide_eq_true aG,dt] at vZ
   (refine s7 ?_;(with_reducible apply AW.fG);exact rfl;exact rfl;kernel_rfl;(with_reducible assumption);(iterate 2 refine zm ?_);refine ay ?_;refine uT ?_;refine nS ?_;refine mW ?_;refine ay ?_;refine ov ?_;refine zy ?_;refine Jj ?_;refine vV ?_;refine rP ?_)
   exact⟨k+1,⟨by omega,vZ⟩,by omega,e_ rfl (by(first|(refine aA ?_;(iterate 4 refine aA ?_);exact trivial)|(refine aA ?_;(iterate 2 refine aA ?_);exact trivial))) (by(refine⟨.box _ rfl ?_,?_⟩;(iterate 2 refine aA ?_);exact trivial;refine⟨.box _ rfl ?_,?_⟩;(iterate 4 refine aA ?_);(iterate 2 exact trivial))) rfl⟩
  ·rw[dI aG] at vZ
   have vZ:xz so.length fs[i].sorts=true:=vZ
   rw[vZ,dt] at he
   (refine yn ?_;refine Q7 ?_;refine uk ?_)
   exact⟨i+1,⟨by omega,he⟩,by omega,e_ rfl (by(first|(refine aA ?_;(iterate 4 refine aA ?_);exact trivial)|(refine aA ?_;(iterate 2 refine aA ?_);exact trivial))) (by(refine⟨.box _ rfl ?_,?_⟩;(iterate 2 refine aA ?_);exact trivial;refine⟨.box _ rfl ?_,?_⟩;(iterate 4 refine aA ?_);(iterate 2 exact trivial))) rfl⟩
 ·rw[dI aG] at he
  have he:kq so.length fs=true:=he
  rw[he,dt]
  (refine rH ?_;refine J4 ?_;refine yy ?_;refine rY ?_;(iterate 2 refine j4 ?_);refine zA (hv) ?_;refine j7 ?_)
  (apply c_;(exact fZ.one (.tmp rfl rfl));(refine Le.fe ?_;(rfl)))
end Go.Ab
/- Chapter 09:bounds made of raw data. -/
namespace Go.Ab
open Go Go.Proofs
open Nat (reduceAdd reduceSub)
set_option maxRecDepth 20000
set_option maxHeartbeats 4000000
theorem O3 {row:List Int} {k:Nat} (h:k<row.length):uI row k=row[k] % 4:=by unfold uI;rw[dif_pos h]
theorem FU {row:List Int} {k:Nat} (h:¬k<row.length):uI row k=1:=by unfold uI;rw[dif_neg h]
theorem KY (row l:List Int):(A8 row l).length≤l.length:=xL _ _ _
theorem HI (row l:List Int):(tF row l).length≤l.length:=xL _ _ _
theorem jP (row:List Int):A8 row []=[]:=rfl
theorem jh (row:List Int):tF row []=[]:=rfl
theorem LH {raw:List (List Int)} {i:Nat} (h:i<raw.length):raw.getD i []=raw[i]:=by rw[cO,aZ h];rfl
theorem OQ {raw:List (List Int)} {i:Nat} (h:¬i<raw.length):raw.getD i []=[]:=by rw[cO,cB aG];rfl
attribute [local irreducible] AW a_ fT ff AR fh e6 fp fA canon gg nL nW kJ sS A8 tF uI tq qG oD
theorem Nr (s:gu) (at':List Int) (st:Int) (raw:List (List Int)) (Ka:∀r∈raw,∀x∈r,0≤x∧x≤255) (zU:∀f∈s.fields,jT at'.length f.sorts=true) (G8:s.fields.length≤1000) (h:sr at') (yB:at'.sum≤12) (h1:1≤at'.sum):
  Fn Tryz.prog 41 [De s,pI at' st,.pv (O1 raw)] (.pv (oW (oD at' raw 0 s.fields))):=by
 have XT:=t_ s at' st zU G8 h yB h1
 obtain⟨so,fs,p,q⟩:=s
 simp only at zU G8 XT ⊢
 rw[← Ik at' raw fs] at XT
 refine Fn.enter (n:=93) Tryz.func41 rfl rfl rfl rfl rfl (by decide) fun g fu fw=>?_;(try refine nz ?_)
 (refine wh ?_;refine nv ?_;(iterate 2 refine j4 ?_);(with_reducible apply a_.Qd (XT));(repeat (first|exact .nil|(refine .cons rfl ?_ ?_;(first|exact .pv _|exact .own _ _ _ _ rfl|exact .nil _|exact .any _|exact .gy _|(refine .ia ?_;repeat (first|exact .nil|(refine .cons ?_ ?_;(first|exact .pv _|exact .own _ _ _ _ rfl|exact .nil _))))))));exact rfl;refine sM ?_;refine Hw ?_;refine sO ?_)
 (refine nz ?_;apply AW.fO [6,4,2] [1] (fun i:Nat=>([(7,.own 2 115 4 ((tq at' raw fs i).map Ga)),(8,eU i)]:List (Nat×AV))) (fun i:Nat=>([(2,some .row)]:List (Nat×Option Ob))) (fun i:Nat=>i≤fs.length) (fun i:Nat=>fs.length - i) (0);(conv=>lhs;simp only[Nf.jI,Nf.all,c6,reduceAdd,reduceSub]);(all_goals skip))
 ·exact bg _
 ·exact e_ rfl (by(refine⟨.fR (by first|with_reducible rfl|(rfl)) rfl,?_⟩;refine⟨.d_ (by first|with_reducible rfl|(rfl)),?_⟩;(iterate 2 refine aA ?_);refine⟨.fb (by first|with_reducible rfl|(rfl)),?_⟩;exact trivial)) (by(refine aC ?_;refine⟨.box _ rfl ?_,?_⟩;refine⟨.fb (by first|with_reducible rfl|(rfl)),?_⟩;refine⟨.d_ (by first|with_reducible rfl|(rfl)),?_⟩;(iterate 2 exact trivial))) rfl
 rintro i hi
 have B3:=Dg (at':=at') (raw:=raw) hi
 by_cases ft:i<fs.length
 ·have hmA:=N1 (at':=at') (raw:=raw) ft
  have Wa:=La (at':=at') (raw:=raw) ft
  have TD:(ue at' fs[i]).2.2.length≤1728:=pg (wK (zU _ (cT ft)) h yB)
  (refine rH ?_;refine a_.gk rfl rfl rfl ?_;refine a_.qJ rfl rfl rfl rfl ?_;refine zs ?_;refine zd ?_;refine vo ?_;refine a_.gk rfl rfl rfl ?_;refine zm ?_;refine O7 ?_;(with_reducible apply a_.N8 115 1 2 2);exact rfl;exact Vq aG;(iterate 9 exact rfl);refine nz ?_;refine zf ?_;refine nd ?_;refine E6 ?_;refine Rx ?_;refine nz ?_;refine zf ?_;refine nd ?_;refine E6 ?_;refine Ip ?_;refine sO ?_)
  rw[hmA]
  (refine nz ?_;apply AW.fO [11,10,9,7,8,6,4,2] [3,2,1] (fun k:Nat=>([(12,eU k)]:List (Nat×AV))) (fun k:Nat=>([(4,some (.box [eU (ue at' fs[i]).2.1,.own 6 3 1 ((A8 (raw.getD i []) ((ue at' fs[i]).2.2.take k)).map encI)])),(5,some (.box [eU (ue at' fs[i]).2.1,.own 7 3 1 ((tF (raw.getD i []) ((ue at' fs[i]).2.2.take k)).map encI)])),(6,some .row),(7,some .row)]:List (Nat×Option Ob))) (fun k:Nat=>k≤(ue at' fs[i]).2.2.length) (fun k:Nat=>(ue at' fs[i]).2.2.length - k) (0);(conv=>lhs;simp only[Nf.jI,Nf.all,c6,reduceAdd,reduceSub]);(all_goals skip))
  ·exact bg _
  ·exact e_ rfl (by(refine⟨.d_ (by first|rfl|(rw[dK,jP];rfl)|(rw[dK,jh];rfl)),?_⟩;(iterate 3 refine aA ?_);refine⟨.fR (by first|rfl|(rw[dK,jP];rfl)|(rw[dK,jh];rfl)) rfl,?_⟩;refine⟨.d_ (by first|rfl|(rw[dK,jP];rfl)|(rw[dK,jh];rfl)),?_⟩;(iterate 2 refine aA ?_);refine⟨.fb (by first|rfl|(rw[dK,jP];rfl)|(rw[dK,jh];rfl)),?_⟩;exact trivial)) (by(refine⟨.box _ rfl ?_,?_⟩;refine⟨.d_ (by first|rfl|(rw[dK,jP];rfl)|(rw[dK,jh];rfl)),?_⟩;refine⟨.nc (by first|rfl|(rw[dK,jP];rfl)|(rw[dK,jh];rfl)) rfl rfl,?_⟩;exact trivial;refine⟨.box _ rfl ?_,?_⟩;refine⟨.d_ (by first|rfl|(rw[dK,jP];rfl)|(rw[dK,jh];rfl)),?_⟩;refine⟨.nc (by first|rfl|(rw[dK,jP];rfl)|(rw[dK,jh];rfl)) rfl rfl,?_⟩;exact trivial;(iterate 2 refine⟨.jv rfl,?_⟩);refine⟨.box _ rfl ?_,?_⟩;refine⟨.d_ (by first|rfl|(rw[dK,jP];rfl)|(rw[dK,jh];rfl)),?_⟩;refine⟨.fb (by first|rfl|(rw[dK,jP];rfl)|(rw[dK,jh];rfl)),?_⟩;exact trivial;refine aC ?_;refine⟨.box _ rfl ?_,?_⟩;refine⟨.fb (by first|rfl|(rw[dK,jP];rfl)|(rw[dK,jh];rfl)),?_⟩;refine⟨.d_ (by first|rfl|(rw[dK,jP];rfl)|(rw[dK,jh];rfl)),?_⟩;(iterate 2 exact trivial))) rfl
  rintro k hk
  have MP:=KY (raw.getD i []) ((ue at' fs[i]).2.2.take k)
  have pB:=HI (raw.getD i []) ((ue at' fs[i]).2.2.take k)
  rw[cP] at MP pB
  by_cases gM:k<(ue at' fs[i]).2.2.length
  ·by_cases hr:i<raw.length
   ·by_cases hq:k<raw[i].length
    ·have hb:uI (raw.getD i []) k=raw[i][k] % 4:=by rw[LH hr];exact O3 hq
     have hx:=Ka _ (cT hr) _ (cT hq)
     have hm:=c9 raw[i][k] (show(4:Int)≠0 by decide)
     by_cases OI:0<raw[i][k] % 4
     ·by_cases P0:1<raw[i][k] % 4
      ·have mL:=oN (row:=raw.getD i []) gM
       have jj:=nE (row:=raw.getD i []) gM
       rw[hb] at mL jj
       rw[if_pos aG] at mL
       rw[if_pos aG] at jj
       (refine Pf ?_;refine ay ?_;refine yN ?_;refine zn ?_;refine xQ ?_;refine s6 ?_;refine Bl ?_;refine ay ?_;refine zr ?_;refine zm ?_;refine ay ?_;refine Rn ?_;refine s6 ?_;refine Tw ?_;show a_ .held _ _ _ [_,_,_,_,_,_,_] _ _;(iterate 2 refine zi ?_);refine zm ?_;refine ay ?_;refine zr ?_;refine Q3 ?_;intro k_ jA;refine MH ?_;intro g_ eV hG;refine LA ?_;intro g_ eV hG;(with_reducible apply a_.fl);exact rfl;exact ai;(iterate 9 exact rfl);exact ab;refine nz ?_;refine JT ?_;intro g_ eV;show a_ .held _ _ _ [_] _ _;refine I4 ?_;intro k_ jA;refine nz ?_;refine Ae ?_;intro g_ eV fz;refine Pd ?_;refine s6 ?_;refine Tw ?_;show a_ .held _ _ _ [_,_,_,_,_,_,_] _ _;(iterate 2 refine zi ?_);refine zm ?_;refine ay ?_;refine zr ?_;refine Q3 ?_;intro k_ jA;refine MH ?_;intro g_ eV hG;refine LA ?_;intro g_ eV hG;(with_reducible apply a_.fl);exact rfl;exact ai;(iterate 9 exact rfl);exact ab;refine nz ?_;refine JT ?_;intro g_ eV;show a_ .held _ _ _ [_] _ _;refine I4 ?_;intro k_ jA;refine nz ?_;refine Ae ?_;intro g_ eV fz;refine qn ?_;refine N5 ?_;refine vP ?_;refine rS ?_)
       exact Q2
      ·have mL:=oN (row:=raw.getD i []) gM
       have jj:=nE (row:=raw.getD i []) gM
       rw[hb] at mL jj
       rw[if_neg aG,bp] at mL
       rw[if_pos aG] at jj
       (refine Pf ?_;refine ay ?_;refine yN ?_;refine zn ?_;refine xQ ?_;refine s6 ?_;refine Bl ?_;refine ay ?_;refine zr ?_;refine zm ?_;refine ay ?_;refine Rn ?_;refine s6 ?_;refine Tw ?_;show a_ .held _ _ _ [_,_,_,_,_,_,_] _ _;(iterate 2 refine zi ?_);refine zm ?_;refine ay ?_;refine zr ?_;refine Q3 ?_;intro k_ jA;refine MH ?_;intro g_ eV hG;refine LA ?_;intro g_ eV hG;(with_reducible apply a_.fl);exact rfl;exact ai;(iterate 9 exact rfl);exact ab;refine nz ?_;refine JT ?_;intro g_ eV;show a_ .held _ _ _ [_] _ _;refine I4 ?_;intro k_ jA;refine nz ?_;refine Ae ?_;intro g_ eV fz;refine Pd ?_;refine rP ?_)
       exact Q2
     ·have mL:=oN (row:=raw.getD i []) gM
      have jj:=nE (row:=raw.getD i []) gM
      rw[hb] at mL jj
      rw[if_neg aG,bp] at mL
      rw[if_neg aG,bp] at jj
      (refine Pf ?_;refine ay ?_;refine yN ?_;refine zn ?_;refine xQ ?_;refine s6 ?_;refine Bl ?_;refine ay ?_;refine zr ?_;refine zm ?_;refine ay ?_;refine Rn ?_;refine qZ ?_;refine zm ?_;refine a_.K9 rfl rfl rfl rfl rfl ?_;refine rP ?_)
      exact Q2
    ·have hb:uI (raw.getD i []) k=1:=by rw[LH hr];exact FU hq
     have mL:=oN (row:=raw.getD i []) gM
     have jj:=nE (row:=raw.getD i []) gM
     rw[hb] at mL jj
     rw[if_neg aG,bp] at mL
     rw[if_pos aG] at jj
     (refine Pf ?_;refine ay ?_;refine yN ?_;refine zn ?_;refine xQ ?_;refine tH ?_;refine zm ?_;refine a_.K9 rfl rfl rfl rfl rfl ?_;refine zz ?_;refine Tw ?_;show a_ .held _ _ _ [_,_,_,_,_,_,_] _ _;(iterate 2 refine zi ?_);refine zm ?_;refine ay ?_;refine zr ?_;refine Q3 ?_;intro k_ jA;refine MH ?_;intro g_ eV hG;refine LA ?_;intro g_ eV hG;(with_reducible apply a_.fl);exact rfl;exact ai;(iterate 9 exact rfl);exact ab;refine nz ?_;refine JT ?_;intro g_ eV;show a_ .held _ _ _ [_] _ _;refine I4 ?_;intro k_ jA;refine nz ?_;refine Ae ?_;intro g_ eV fz;refine Pd ?_;refine mC ?_;refine uk ?_)
     exact Q2
   ·have hb:uI (raw.getD i []) k=1:=by rw[OQ hr];exact FU (by simp)
    have mL:=oN (row:=raw.getD i []) gM
    have jj:=nE (row:=raw.getD i []) gM
    rw[hb] at mL jj
    rw[if_neg aG,bp] at mL
    rw[if_pos aG] at jj
    (refine E0 ?_;refine zd ?_;refine vo ?_;refine vz ?_;(iterate 2 refine zm ?_);refine yy ?_;refine zm ?_;(iterate 7 refine a_.kR rfl rfl rfl rfl rfl rfl (by first|omega|decide) ?_);refine zF ?_;refine mC ?_;refine rX ?_;refine zm ?_;refine a_.K9 rfl rfl rfl rfl rfl ?_;refine zz ?_;refine Tw ?_;show a_ .held _ _ _ [_,_,_,_,_,_,_] _ _;(iterate 2 refine zi ?_);refine zm ?_;refine ay ?_;refine zr ?_;refine Q3 ?_;intro k_ jA;refine MH ?_;intro g_ eV hG;refine LA ?_;intro g_ eV hG;(with_reducible apply a_.fl);exact rfl;exact ai;(iterate 9 exact rfl);exact ab;refine nz ?_;refine JT ?_;intro g_ eV;show a_ .held _ _ _ [_] _ _;refine I4 ?_;intro k_ jA;refine nz ?_;refine Ae ?_;intro g_ eV fz;refine Pd ?_;refine mC ?_;refine uk ?_)
    exact Q2
  ·rw[gV (l:=(ue at' fs[i]).2.2) aG]
   (refine E0 ?_;refine zd ?_;refine Q7 ?_;refine gr ?_;refine BY ?_;refine zm ?_;(iterate 2 refine j4 ?_);refine a_.iW 115 [0,2] rfl rfl rfl rfl rfl rfl rfl rfl rfl ?_;refine nz ?_;refine O7 ?_;refine a_.P9 rfl rfl rfl rfl ?_;refine nz ?_;refine a_.P9 rfl rfl rfl rfl ?_;refine nz ?_;(with_reducible apply a_.wZ);exact rfl;exact rfl;(focus ((repeat (first|exact .nil|apply JG.cons));done));(iterate 8 exact rfl);refine nz ?_;refine a_.nil ?_;refine vP ?_;refine rS ?_)
   exact⟨i+1,by omega,by omega,e_ rfl (by(refine⟨.fR (by first|rfl|(rw[← Wa,cz];rfl)) rfl,?_⟩;refine⟨.d_ (by first|rfl|(rw[← Wa,cz];rfl)),?_⟩;(iterate 2 refine aA ?_);refine⟨.fb (by first|rfl|(rw[← Wa,cz];rfl)),?_⟩;exact trivial)) (by(refine aC ?_;refine⟨.box _ rfl ?_,?_⟩;refine⟨.fb (by first|rfl|(rw[← Wa,cz];rfl)),?_⟩;refine⟨.d_ (by first|rfl|(rw[← Wa,cz];rfl)),?_⟩;(iterate 2 exact trivial))) rfl⟩
 ·obtain rfl:i=fs.length:=by omega
  have hml2:=kB at' raw fs 0
  rw[Kr]
  (refine rH ?_;refine a_.gk rfl rfl rfl ?_;refine a_.qJ rfl rfl rfl rfl ?_;refine zs ?_;refine rY ?_;refine GW ?_)
  (apply c_;(exact fZ.one (.tmp rfl rfl));(exact Le.own _ _ _ _ rfl))
end Go.Ab
/- Chapter 24:the input variables;symmetries act on them,in plain terms. -/
namespace Go.Ab
open Go Go.Proofs
set_option maxRecDepth 20000
set_option maxHeartbeats 4000000
theorem lu:∀{bs:List gv} {i:Nat} {p:Int×Int},p∈fJ i bs→∃k,∃h:k<bs.length,p.1=((i+k:Nat):Int)∧p.2∈xO bs[k]
 |[],_,_,h=>by cases h
 |x::bs,i,p,h=>by
  rcases bW.1 h with h|h
  ·obtain⟨t,ht,rfl⟩:=bt.1 h
   exact⟨0,by simp,rfl,ht⟩
  ·obtain⟨k,hk,h1,h2⟩:=lu h
   exact⟨k+1,by simpa using hk,by rw[h1];omega,h2⟩
theorem DL:∀{bs:List gv} {i k:Nat} (h:k<bs.length) {t:Int},t∈xO bs[k]→(((i+k:Nat):Int),t)∈fJ i bs
 |x::bs,i,0,_,t,ht=>bW.2 (.inl (bt.2 ⟨t,ht,rfl⟩))
 |x::bs,i,k+1,h,t,ht=>by
  have:=DL (bs:=bs) (i:=i+1) (k:=k) (by simpa using h) (t:=t) ht
  rw[show i+1+k=i+(k+1) by omega] at this
  exact bW.2 (.inr this)
theorem mr:∀{bs:List gv} {i:Nat},(∀x∈bs,nY x.2.2)→(fJ i bs).Nodup
 |[],_,_=>dL
 |x::bs,i,h=>by
  show((xO x).map (fun t=>((i:Int),t))++fJ (i+1) bs).Nodup
  rw[ca]
  refine⟨?_,mr fun y hy=>h y (by simp [hy]),?_⟩
  ·refine List.Pairwise.map _ (fun a b ti e=>?_) (Lf (b:=x.1.2) (h x (by simp)))
   have:=congrArg Prod.snd e
   simp only at this
   omega
  ·intro a ha b hb e
   obtain⟨t,_,rfl⟩:=bt.1 ha
   obtain⟨k,_,h1,_⟩:=lu hb
   rw[← e] at h1
   simp only at h1
   omega
abbrev gW:=Int×Int×Int
def jC (o:Int) (n:Nat):List gW:=(a7 n).map fun i:Nat=>((-1:Int),(0:Int),(i:Int)+o)
def jO (st:Nat):Nat:=if 1<st then st else 0
def Hm (fr:List (Int×Int)) (vr:Int→Bool) (s:Nat):List gW:=(fr.filter fun t=>decide (s=0)||vr t.1).map fun t=>((s:Int),t.1,t.2)
def iy (o:Int) (st:Nat) (fr:List (Int×Int)) (vr:Int→Bool):List gW:=jC o (jO st)++(a7 st).flatMap (Hm fr vr)
theorem rz {o:Int} {n:Nat} {v:gW}:v∈jC o n↔v.1= -1∧v.2.1=0∧o≤v.2.2∧v.2.2<o+n:=by
 unfold jC
 rw[bt]
 constructor
 ·rintro⟨i,hi,rfl⟩
  have:=dk.1 hi
  exact⟨rfl,rfl,by show o≤(i:Int)+o;omega,by show(i:Int)+o<o+n;omega⟩
 ·rintro⟨h1,h2,h3,h4⟩
  exact⟨(v.2.2 - o).toNat,dk.2 aG,Prod.ext h1.symm (Prod.ext h2.symm (by simp only;omega))⟩
theorem td {fr:List (Int×Int)} {vr:Int→Bool} {s:Nat} {v:gW}:v∈Hm fr vr s↔v.1=(s:Int)∧(v.2.1,v.2.2)∈fr∧(s=0∨vr v.2.1=true):=by
 unfold Hm
 rw[bt]
 constructor
 ·rintro⟨t,ht,rfl⟩
  obtain⟨h1,h2⟩:=dD.1 ht
  rw[dM,decide_eq_true_iff] at h2
  exact⟨rfl,h1,h2⟩
 ·rintro⟨h1,h2,h3⟩
  exact⟨(v.2.1,v.2.2),dD.2 ⟨h2,by rw[dM,decide_eq_true_iff];exact h3⟩,Prod.ext h1.symm rfl⟩
theorem lC {o:Int} {st:Nat} {fr:List (Int×Int)} {vr:Int→Bool} {v:gW}:v∈iy o st fr vr↔(v.1= -1∧v.2.1=0∧o≤v.2.2∧v.2.2<o+jO st)∨((0≤v.1∧v.1<(st:Int))∧(v.2.1,v.2.2)∈fr∧(v.1=0∨vr v.2.1=true)):=by
 unfold iy
 rw[bW,rz,dz]
 refine or_congr Iff.rfl ⟨?_,?_⟩
 ·rintro⟨s,hs,hv⟩
  obtain⟨h1,h2,h3⟩:=td.1 hv
  have:=dk.1 hs
  exact⟨by omega,h2,h3.imp (fun h=>by omega) id⟩
 ·rintro⟨h1,h2,h3⟩
  exact⟨v.1.toNat,dk.2 aG,td.2 ⟨by omega,h2,h3.imp (fun h=>by omega) id⟩⟩
theorem xU {α β:Type} {f:α→List β}:∀{l:List α},l.Nodup→(∀a∈l,(f a).Nodup)→(∀a∈l,∀b∈l,∀x,x∈f a→x∈f b→a=b)→(l.flatMap f).Nodup
 |[],_,_,_=>dL
 |a::l,h,h1,h2=>by
  obtain⟨ha,hl⟩:=List.nodup_cons.1 h
  rw[List.flatMap_cons,ca]
  refine⟨h1 a (by simp),xU hl (fun b hb=>h1 b (by simp [hb])) (fun b hb c hc=>h2 b (by simp [hb]) c (by simp [hc])),fun x hx y hy e=>?_⟩
  subst e
  obtain⟨b,hb,hy⟩:=dz.1 hy
  have:=h2 a (by simp) b (by simp [hb]) x hx hy
  subst this
  exact ha hb
theorem sC (o:Int) (st:Nat) {fr:List (Int×Int)} (vr:Int→Bool) (h:fr.Nodup):(iy o st fr vr).Nodup:=by
 unfold iy
 rw[ca]
 refine⟨?_,xU dO (fun s _=>?_) (fun a _ b _ x hx hy=>?_),fun x hx y hy e=>?_⟩
 ·refine List.Pairwise.map _ (fun a b ti e=>?_) (dO (n:=jO st))
  have:=congrArg (fun v:gW=>v.2.2) e
  simp only at this
  omega
 ·refine List.Pairwise.map _ (fun a b ti e=>ti ?_) (h.filter _)
  have:=congrArg (fun v:gW=>v.2) e
  exact this
 ·have h1:=(td.1 hx).1
  have h2:=(td.1 hy).1
  omega
 ·subst e
  have h1:=(rz.1 hx).1
  obtain⟨s,_,hs⟩:=dz.1 hy
  have h2:=(td.1 hs).1
  omega
def lP (n:Nat) (ar:Int→Nat) (p:List Int) (v:gW):gW:=if 0≤v.1 then (v.1,v.2.1,fV n p (ar v.2.1) v.2.2) else v
structure vt (n:Nat) (ar:Int→Nat) (bs:List gv):Prop where
 low:∀(i:Nat) (h:i<bs.length),qa n (ar (i:Int)) bs[i].1.2
 high:∀(i:Nat) (h:i<bs.length),qa n (ar (i:Int)) bs[i].2.2
def Cr (n:Nat) (ar:Int→Nat) (p:List Int) (bs:List gv):Prop:=∀(i:Nat) (h:i<bs.length),lj n p (ar (i:Int)) bs[i].1.2=true∧lj n p (ar (i:Int)) bs[i].2.2=true
section sym
variable {n:Nat} {ar:Int→Nat} {bs:List gv} {iF:Int→Int} {p q:List Int}
theorem JP (hp:iH n iF p) (hn:0<n) (hb:vt n ar bs) (hk:Cr n ar p bs) {f t:Int} (h:(f,t)∈fJ 0 bs):(f,fV n p (ar f) t)∈fJ 0 bs:=by
 obtain⟨k,jN,h1,h2⟩:=lu h
 simp only[a6] at h1
 obtain⟨h3,h4⟩:=qK.1 h2
 subst h1
 have:=DL (bs:=bs) (i:=0) jN (t:=fV n p (ar (k:Int)) t) (qK.2 ⟨CW (hb.high k jN).inc (hk k jN).2 h3,fun hm=>h4 (I5 hp hn (hb.low k jN) (hk k jN).1 ((hb.high k jN).wI t h3) hm)⟩)
 simpa using this
theorem Dk (hb:vt n ar bs) {f t:Int} (h:(f,t)∈fJ 0 bs):0≤t∧t<((n ^ ar f:Nat):Int):=by
 obtain⟨k,jN,h1,h2⟩:=lu h
 simp only[a6] at h1
 subst h1
 exact(hb.high k jN).wI t (qK.1 h2).1
theorem Be {o:Int} {st:Nat} {vr:Int→Bool} (hp:iH n iF p) (hn:0<n) (hb:vt n ar bs) (hk:Cr n ar p bs):∀v∈iy o st (fJ 0 bs) vr,lP n ar p v∈iy o st (fJ 0 bs) vr:=by
 intro v hv
 unfold lP
 split
 ·rename_i h0
  rcases lC.1 hv with h|⟨h1,h2,h3⟩
  ·omega
  ·exact lC.2 (.inr ⟨h1,JP hp hn hb hk h2,h3⟩)
 ·exact hv
theorem Pu {o:Int} {st:Nat} {vr:Int→Bool} (hp:iH n iF p) (hn:0<n) (hb:vt n ar bs):∀u∈iy o st (fJ 0 bs) vr,∀v∈iy o st (fJ 0 bs) vr,lP n ar p u=lP n ar p v→u=v:=by
 intro u hu v hv e
 have e1:u.1=v.1:=by
  have:=congrArg (fun v:gW=>v.1) e
  unfold lP at this
  split at this<;>split at this<;>exact this
 unfold lP at e
 by_cases h0:0≤u.1
 ·rw[if_pos h0,if_pos aG] at e
  have e2:=congrArg (fun v:gW=>v.2.1) e
  have e3:=congrArg (fun v:gW=>v.2.2) e
  simp only at e2 e3
  rcases lC.1 hu with h|⟨_,h2,_⟩
  ·omega
  rcases lC.1 hv with h|⟨_,X1,_⟩
  ·omega
  rw[← e2] at e3 X1
  exact Prod.ext e1 (Prod.ext e2 (wo hp hn _ (Dk hb h2) (Dk hb X1) e3))
 ·rw[if_neg h0,if_neg aG] at e
  exact e
end sym
def nT (o:Int) (n:Nat) (ar:Int→Nat) (st:Nat) (vr:Int→Bool) (bs:List gv) (p:List Int):List Int:=lg (iy o st (fJ 0 bs) vr) (lP n ar p)
structure yJ (n:Nat) (iF:Int→Int) (fx:Int→Bool) (ar:Int→Nat) (bs:List gv) (p:List Int):Prop where
 perm:iH n iF p
 fix:∀(x:Nat),x<n→fx (x:Int)=true→p.getD x 0=(x:Int)
 keep:Cr n ar p bs
section grp
variable {n:Nat} {ar:Int→Nat} {bs:List gv} {iF:Int→Int} {fx:Int→Bool} {p q:List Int}
theorem yJ.inv (hn:0<n) (hb:vt n ar bs) (hp:yJ n iF fx ar bs p):yJ n iF fx ar bs (tt p):=by
 refine⟨hp.perm.inv,fun x hx hf=>?_,fun i h=>⟨Ci hp.perm hn (hb.low i h) (hp.keep i h).1,Ci hp.perm hn (hb.high i h) (hp.keep i h).2⟩⟩
 have:=hp.perm.q_ hx
 rw[hp.fix x hx hf] at this
 exact this
theorem yJ.id (hn:0<n) (hb:vt n ar bs):yJ n iF fx ar bs (D3 n):=
 ⟨.id n iF,fun x hx _=>LP hx,fun i h=>⟨F8 hn (hb.low i h),F8 hn (hb.high i h)⟩⟩
theorem yw {o:Int} {st:Nat} {vr:Int→Bool} (hn:0<n) (hb:vt n ar bs) (hp:yJ n iF fx ar bs p):qF (iy o st (fJ 0 bs) vr).length (nT o n ar st vr bs p):=
 Ir (sC o st vr (mr fun x hx=>by obtain⟨i,hi,rfl⟩:=dc hx;exact(hb.high i hi).inc)) (Be hp.perm hn hb hp.keep) (Pu hp.perm hn hb)
end grp
end Go.Ab
/- Chapter 24:the variables' numbers,in plain terms. -/
namespace Go.Ab
open Go Go.Proofs
set_option maxRecDepth 20000
set_option maxHeartbeats 4000000
def mI:Nat→List gW→List (nO×Int)
 |_,[]=>[]
 |i,v::l=>(v,(i:Int)+1)::mI (i+1) l
theorem uV:∀(l:List gW) (i:Nat) (v:gW),mI i (l++ [v])=mI i l++ [(v,((i+l.length:Nat):Int)+1)]
 |[],_,_=>rfl
 |u::l,i,v=>by
  show _::mI (i+1) (l++ [v])=_::(mI (i+1) l++_)
  rw[uV l (i+1) v,cb,show i+1+l.length=i+(l.length+1) by omega]
theorem vg:∀(l:List gW) (i:Nat),(mI i l).map (·.1)=l
 |[],_=>rfl
 |u::l,i=>by
  show u::(mI (i+1) l).map (·.1)=u::l
  rw[vg l (i+1)]
theorem Qu:∀(l:List gW) (i:Nat) (v:gW),v∈l→mV (mI i l) v=((i+l.findIdx (fun u=>decide (u=v)):Nat):Int)+1
 |[],_,_,h=>by cases h
 |u::l,i,v,h=>by
  show(if v=u then (i:Int)+1 else mV (mI (i+1) l) v)=_
  rw[List.findIdx_cons]
  by_cases e:v=u
  ·subst e
   rw[if_pos rfl]
   simp
  ·have e2:decide (u=v)=false:=decide_eq_false (fun h=>e h.symm)
   rw[if_neg e,e2,Qu l (i+1) v ((List.mem_cons.1 h).resolve_left e)]
   simp only[cond_false]
   omega
def jX (o:Int) (st:Nat) (fr:List (Int×Int)) (vr:Int→Bool) (s k:Nat):List gW:=jC o (jO st)++(a7 s).flatMap (Hm fr vr)++Hm (fr.take k) vr s
theorem xf (o:Int) (st:Nat) (fr:List (Int×Int)) (vr:Int→Bool) (s:Nat):jX o st fr vr s 0=jC o (jO st)++(a7 s).flatMap (Hm fr vr):=by
 unfold jX Hm
 simp
theorem oV (o:Int) (st:Nat) (fr:List (Int×Int)) (vr:Int→Bool) (s:Nat):jX o st fr vr (s+1) 0=jX o st fr vr s fr.length:=by
 rw[xf]
 unfold jX
 rw[dP,dQ,dF,dG]
 simp
theorem gI (o:Int) (st:Nat) (fr:List (Int×Int)) (vr:Int→Bool):jX o st fr vr 0 0=jC o (jO st):=by
 rw[xf];simp
theorem tC (o:Int) (st:Nat) (fr:List (Int×Int)) (vr:Int→Bool):jX o st fr vr st 0=iy o st fr vr:=by
 rw[xf];rfl
theorem mu (o:Int) (st:Nat) {fr:List (Int×Int)} (vr:Int→Bool) (s:Nat) {k:Nat} (h:k<fr.length):jX o st fr vr s (k+1)=if s=0∨vr fr[k].1=true then jX o st fr vr s k++ [((s:Int),fr[k].1,fr[k].2)] else jX o st fr vr s k:=by
 unfold jX Hm
 rw[fF h,List.filter_append,cV,← dG]
 by_cases hc:s=0∨vr fr[k].1=true
 ·rw[if_pos hc]
  have:(decide (s=0)||vr fr[k].1)=true:=by rw[dM,decide_eq_true_iff];exact hc
  rw[dR,if_pos this]
  simp
 ·rw[if_neg hc]
  have:¬(decide (s=0)||vr fr[k].1)=true:=by rw[dM,decide_eq_true_iff];exact hc
  rw[dR,if_neg this]
  simp
theorem vq (o:Int) (i:Nat):jC o (i+1)=jC o i++ [(-1,0,(i:Int)+o)]:=by
 unfold jC
 rw[dP,cV];rfl
theorem AU {o:Int} {st:Nat} {fr:List (Int×Int)} {vr:Int→Bool} {s k:Nat} (hs:s≤st):(jX o st fr vr s k).length≤st+(s+1)*fr.length:=by
 unfold jX
 have h1:∀(l:List (Int×Int)) (s:Nat),(Hm l vr s).length≤l.length:=fun l s=>by
  unfold Hm
  rw[aX]
  exact dH _ _
 have h2:∀s:Nat,((a7 s).flatMap (Hm fr vr)).length≤s*fr.length:=fun s=>by
  induction s with
  |zero=>simp
  |succ s ih=>
   rw[dP,dQ,bV,dq,show [s].flatMap (Hm fr vr)=Hm fr vr s++ [] from rfl,bp]
   have:=h1 fr s
   omega
 have h3:(jC o (jO st)).length≤st:=by
  unfold jC jO
  simp
  split<;>omega
 have h4:=h2 s
 have h5:=h1 (fr.take k) s
 have h6:(fr.take k).length≤fr.length:=by rw[cP];omega
 rw[bV,bV,dq]
 omega
theorem NY {o:Int} {st:Nat} {fr:List (Int×Int)} {vr:Int→Bool} (hf:fr.Nodup) {s k:Nat} (hs:s<st) (hk:k<fr.length) (hc:s=0∨vr fr[k].1=true):((s:Int),fr[k].1,fr[k].2)∉jX o st fr vr s k∧((s:Int),fr[k].1,fr[k].2)∈iy o st fr vr:=by
 constructor
 ·intro h
  unfold jX at h
  rcases bW.1 h with h|h
  ·rcases bW.1 h with h|h
   ·have:=(rz.1 h).1
    simp only at this
    omega
   ·obtain⟨s',Is,h⟩:=dz.1 h
    have h1:=(td.1 h).1
    have h2:=dk.1 Is
    simp only at h1
    omega
  ·have h2:=(td.1 h).2.1
   simp only at h2
   obtain⟨j,hj,e⟩:=dS.1 h2
   have e2:fr[j]=fr[k]:=e
   have:=(List.getElem_inj hf).1 e2
   omega
 ·exact lC.2 (.inr ⟨⟨by simp only;omega,by simp only;omega⟩,cT hk,hc.imp (fun h=>by simp only;omega) id⟩)
theorem hY (o:Int) (n:Nat):(jC o n).length=n:=by simp [jC]
theorem XK (k:Nat):mI 0 (jC 0 (k+1))=mI 0 (jC 0 k)++ [((-1,0,(k:Int)),(k:Int)+1)]:=by
 rw[vq,uV,hY,a6,dU]
theorem PS:mI 0 (jC 0 0)=[]:=rfl
theorem Rl (k:Nat):((-1:Int),(0:Int),(k:Int))∉(mI 0 (jC 0 k)).map (·.1):=by
 rw[vg]
 intro h
 have:=(rz.1 h).2.2.2
 simp only at this
 omega
theorem Zz {o:Int} {st:Nat} {fr:List (Int×Int)} {vr:Int→Bool} (s:Nat) {k:Nat} (h:k<fr.length) (hc:s=0∨vr fr[k].1=true):mI 0 (jX o st fr vr s (k+1))=mI 0 (jX o st fr vr s k)++ [(((s:Int),fr[k].1,fr[k].2),((jX o st fr vr s k).length:Int)+1)]:=by
 rw[mu o st vr s h,if_pos hc,uV,a6]
theorem WH {o:Int} {st:Nat} {fr:List (Int×Int)} {vr:Int→Bool} (s:Nat) {k:Nat} (h:k<fr.length) (hc:s=0∨vr fr[k].1=true):((jX o st fr vr s (k+1)).length:Int)=((jX o st fr vr s k).length:Int)+1:=by
 rw[mu o st vr s h,if_pos hc,bV];rfl
theorem Mb {o:Int} {st:Nat} {fr:List (Int×Int)} {vr:Int→Bool} (s:Nat) {k:Nat} (h:k<fr.length) (hc:¬(s=0∨vr fr[k].1=true)):jX o st fr vr s (k+1)=jX o st fr vr s k:=by
 rw[mu o st vr s h,if_neg hc]
theorem Us {st:Nat} {fr:List (Int×Int)} {vr:Int→Bool} (hf:fr.Nodup) {s k:Nat} (hs:s<st) (hk:k<fr.length) (hc:s=0∨vr fr[k].1=true):((s:Int),fr[k].1,fr[k].2)∉(mI 0 (jX 0 st fr vr s k)).map (·.1):=by
 rw[vg]
 exact(NY hf hs hk hc).1
def m_ (V:List gW) (f:gW→gW) (U:List gW):List Int:=U.map fun v=>mV (mI 0 V) (f v)
theorem Av (V:List gW) (f:gW→gW) (U:List gW) (v:gW):m_ V f (U++ [v])=m_ V f U++ [mV (mI 0 V) (f v)]:=by simp [m_]
theorem Kt {V:List gW} {f:gW→gW} (h:∀v∈V,f v∈V):m_ V f V=lg V f:=by
 unfold m_ lg
 refine List.map_congr_left fun v hv=>?_
 rw[Qu V 0 (f v) (h v hv),a6]
theorem Xy (V:List gW) (f:gW→gW) (hf:∀v:gW,v.1<0→f v=v) (k:Nat):m_ V f (jC 0 (k+1))=m_ V f (jC 0 k)++ [mV (mI 0 V) (-1,0,(k:Int))]:=by
 rw[vq,Av,dU,hf _ (by show(-1:Int)<0;decide)]
theorem PZ (V:List gW) (f:gW→gW):m_ V f (jC 0 0)=[]:=rfl
theorem ZM {o:Int} {st:Nat} {fr:List (Int×Int)} {vr:Int→Bool} (V:List gW) (f:gW→gW) (s:Nat) {k:Nat} (h:k<fr.length) (hc:s=0∨vr fr[k].1=true):m_ V f (jX o st fr vr s (k+1))=m_ V f (jX o st fr vr s k)++ [mV (mI 0 V) (f ((s:Int),fr[k].1,fr[k].2))]:=by
 rw[mu o st vr s h,if_pos hc,Av]
theorem CO (V:List gW) (f:gW→gW) (U:List gW):(m_ V f U).length=U.length:=by simp [m_]
end Go.Ab
/- Chapter 24:the reference's functions on permutations and assignments,walked. -/
namespace Go.Ab
open Go Go.Proofs
open Nat (reduceAdd reduceSub)
set_option maxRecDepth 20000
set_option maxHeartbeats 4000000
theorem SG {vals:List Bool} {w:Int} (h1:1≤w) (h2:w≤(vals.length:Int)):jF vals w=vals[(w - 1).toNat]'(by omega):=by
 unfold jF
 rw[cO,aZ aG];rfl
theorem QX {vals:List Bool} {w:Int} (h2:¬w≤(vals.length:Int)):jF vals w=false:=by
 unfold jF
 rw[cO,cB aG];rfl
theorem L4 {perm:List Int} {k:Nat} (hk:k<perm.length):(jy perm).take (k+1)=(jy perm).take k++ [gw perm ((k:Int)+1)]:=by
 rw[fF (by rw[nj];exact hk)]
 congr 2
 simp [jy]
def s9 (perm:List Int) (w:Int) (k:Nat):Int:=if perm.findIdx (fun x=>decide (x=w))<k then (perm.findIdx (fun x=>decide (x=w)):Nat)+1 else w
theorem OT {perm:List Int} (h:iL perm) {k:Nat} (hk:k<perm.length) {w:Int} (hw:perm[k]=w):s9 perm w (k+1)=(k:Int)+1:=by
 have:=h.Gf hk
 unfold gw at this
 rw[hw] at this
 unfold s9
 rw[if_pos aG,this]
theorem KB {perm:List Int} (h:iL perm) {k:Nat} (hk:k<perm.length) {w:Int} (hw:¬perm[k]=w) (hr:1≤w∧w≤perm.length):s9 perm w (k+1)=s9 perm w k:=by
 obtain⟨i,hi,h1,h2⟩:=h.at hr
 unfold s9
 rw[h1]
 have gz:i≠k:=fun e=>hw (by subst e;exact h2)
 by_cases ft:i<k
 ·rw[if_pos aG,if_pos ft]
 ·rw[if_neg aG,if_neg ft]
theorem Ph {perm:List Int} (h:iL perm) {w:Int} (hr:1≤w∧w≤perm.length):s9 perm w perm.length=gw perm w:=by
 obtain⟨i,hi,h1,h2⟩:=h.at hr
 unfold s9 gw
 rw[h1,if_pos hi]
attribute [local irreducible] AW a_ fT ff AR fh e6 fp fA canon ng jy gw s9 Fc
theorem Ko (vals:List Bool) (w:Int) (hw:1≤w∧w≤1000000):Fn Tryz.prog 59 [.pv (lS vals),eU w] (fe (jF vals w)):=by
 by_cases h:w≤(vals.length:Int)
 ·rw[SG hw.1 h]
  refine Fn.enter (n:=20) Tryz.func59 rfl rfl rfl rfl rfl (by decide) fun g fu fw=>?_;(try refine nz ?_)
  (refine tX ?_;refine IE ?_;refine pq ?_;refine zn ?_;refine zt ?_;refine K8 ?_;refine Gl ?_;refine zm ?_;refine Fk ?_;(focus ((with_reducible apply a_.e8);(iterate 7 exact rfl);omega;rotate_left;(first|omega|exact db|exact(by simp))));refine zt ?_;refine zr ?_;refine zT ?_;refine j7 ?_)
  (apply c_;(exact fZ.one (.tmp rfl rfl));(refine Le.fe ?_;(rfl)))
 ·rw[QX h]
  refine Fn.enter (n:=20) Tryz.func59 rfl rfl rfl rfl rfl (by decide) fun g fu fw=>?_;(try refine nz ?_)
  (refine tX ?_;refine IE ?_;refine pq ?_;refine zn ?_;refine zt ?_;refine K8 ?_;refine zm ?_;refine PJ ?_;refine j7 ?_)
  (apply c_;(exact fZ.one (.tmp rfl rfl));(refine Le.fe ?_;(rfl)))
theorem LU (perm:List Int) (h:iL perm) (hn:perm.length≤1000):Fn Tryz.prog 30 [.pv (ints perm)] (.pv (ints (jy perm))):=by
 refine Fn.enter (n:=33) Tryz.func30 rfl rfl rfl rfl rfl (by decide) fun g fu fw=>?_;(try refine nz ?_)
 (refine nQ ?_;refine mw ?_)
 (refine nz ?_;apply AW.fO [2,0] [] (fun i:Nat=>([(4,eU ((i:Int)+1)),(3,.own 0 3 1 (((jy perm).take i).map encI))]:List (Nat×AV))) (fun i:Nat=>([(0,some .row)]:List (Nat×Option Ob))) (fun i:Nat=>i≤perm.length) (fun i:Nat=>perm.length - i) (0);(conv=>lhs;simp only[Nf.jI,Nf.all,c6,reduceAdd,reduceSub]);(all_goals skip))
 ·exact bg _
 ·exact e_ rfl (by(refine aA ?_;refine⟨.lU _ _ _ rfl rfl,?_⟩;(iterate 2 refine aA ?_);exact trivial)) (by(refine⟨.jv rfl,?_⟩;exact trivial)) rfl
 rintro i hi
 have zV:=nj perm
 by_cases ft:i<perm.length
 ·have gZ:=L4 ft
  have hr:1≤(i:Int)+1∧(i:Int)+1≤perm.length:=by omega
  (refine Uo ?_;refine DF ?_;refine zd ?_;refine vo ?_;refine zm ?_;refine mw ?_)
  (refine nz ?_;apply AW.fO [4,3,2,0] [] (fun k:Nat=>([(6,eU k),(5,eU (s9 perm ((i:Int)+1) k))]:List (Nat×AV))) (fun k:Nat=>([(0,some .row)]:List (Nat×Option Ob))) (fun k:Nat=>k≤perm.length) (fun k:Nat=>perm.length - k) (0);(conv=>lhs;simp only[Nf.jI,Nf.all,c6,reduceAdd,reduceSub]);(all_goals skip))
  ·exact bg _
  ·exact e_ rfl (by(refine⟨.d_ (by first|rfl|(unfold s9;rw[if_neg (dV _)])),?_⟩;refine⟨.d_ (by first|rfl|(unfold s9;rw[if_neg (dV _)])),?_⟩;refine⟨.d_ (by first|rfl|(unfold s9;rw[if_neg (dV _)])),?_⟩;refine⟨.fR (by first|rfl|(unfold s9;rw[if_neg (dV _)])) rfl,?_⟩;refine aA ?_;refine⟨.fb (by first|rfl|(unfold s9;rw[if_neg (dV _)])),?_⟩;exact trivial)) (by(refine aC ?_;exact trivial)) rfl
  rintro k hk
  by_cases ZK:k<perm.length
  ·by_cases he:perm[k]=(i:Int)+1
   ·have ha:=OT h ZK he
    (refine Hn ?_;refine ay ?_;refine zr ?_;refine rh ?_;refine s6 ?_;refine qC ?_;refine zm ?_;refine zj ?_;refine uC ?_;refine uk ?_)
    exact Vr
   ·have ha:=KB h ZK he hr
    (refine Hn ?_;refine ay ?_;refine zr ?_;refine rh ?_;refine rP ?_)
    exact Vr
  ·obtain rfl:k=perm.length:=by omega
   rw[Ph h hr]
   have VI:((jy perm).take i).length≤1000:=by rw[cP];omega
   (refine yn ?_;refine Q7 ?_;refine gr ?_;refine BY ?_;refine q9 ?_;(with_reducible apply a_.fl);exact rfl;exact ai;(iterate 9 exact rfl);exact ab;refine uY ?_)
   exact⟨i+1,by omega,by omega,e_ rfl (by(refine⟨.d_ (by first|rfl|omega|(rw[gZ,cV];rfl)),?_⟩;refine⟨.fR (by first|rfl|omega|(rw[gZ,cV];rfl)) rfl,?_⟩;refine aA ?_;refine⟨.fb (by first|rfl|omega|(rw[gZ,cV];rfl)),?_⟩;exact trivial)) (by(refine aC ?_;exact trivial)) rfl⟩
 ·rw[gV (l:=jy perm) aG]
  (refine Uo ?_;refine DF ?_;refine rY ?_;refine GW ?_)
  (apply c_;(exact fZ.one (.tmp rfl rfl));(exact Le.own _ _ _ _ rfl))
theorem Kf (vals:List Bool) (perm:List Int) (h:iL perm) (hn:perm.length≤1000):Fn Tryz.prog 21 [.pv (lS vals),.pv (ints perm)] (.pv (lS (nU vals perm))):=by
 have hi:=LU perm h hn
 refine Fn.enter (n:=26) Tryz.func21 rfl rfl rfl rfl rfl (by decide) fun g fu fw=>?_;(try refine nz ?_)
 (refine tX ?_;refine zP (hi) ?_;refine nv ?_;refine mw ?_)
 (refine nz ?_;apply AW.fO [5,4,0,1] [] (fun k:Nat=>([(7,eU k),(6,.own 0 4 1 (((nU vals perm).take k).map MN))]:List (Nat×AV))) (fun k:Nat=>([(0,some .row)]:List (Nat×Option Ob))) (fun k:Nat=>k≤perm.length) (fun k:Nat=>perm.length - k) (0);(conv=>lhs;simp only[Nf.jI,Nf.all,c6,reduceAdd,reduceSub]);(all_goals skip))
 ·exact bg _
 ·exact e_ rfl (by(refine aA ?_;refine⟨.lU _ _ _ rfl rfl,?_⟩;(iterate 4 refine aA ?_);exact trivial)) (by(refine⟨.jv rfl,?_⟩;exact trivial)) rfl
 rintro k hk
 have zV:=nj perm
 have him:=Bb vals perm
 have VI:((nU vals perm).take k).length≤1000:=by rw[cP];omega
 by_cases ft:k<perm.length
 ·have hb:1≤(jy perm)[k]'(by omega)∧(jy perm)[k]'(by omega)≤1000000:=by
   have hx:=q_ (perm:=perm) (w:=(k:Int)+1) aG (by omega)
   have e:(((k:Int)+1) - 1).toNat=k:=by omega
   simp only[e] at hx
   rw[hx]
   have:=h.back (w:=(k:Int)+1) (by omega)
   omega
  have hv:=Ko vals _ hb
  have gZ:(nU vals perm).take (k+1)=(nU vals perm).take k++ [jF vals ((jy perm)[k]'(by omega))]:=by
   rw[fF aG]
   congr 2
   simp [nU]
  (refine yn ?_;refine Q1 ?_;refine BY ?_;(iterate 3 refine zm ?_);refine ay ?_;refine zr ?_;refine zA (hv) ?_;refine wO ?_;(with_reducible apply a_.fl);exact rfl;exact ai;(iterate 9 exact rfl);exact ab;refine uY ?_)
  exact⟨k+1,by omega,by omega,e_ rfl (by(refine⟨.d_ (by first|rfl|(rw[gZ,cV];rfl)),?_⟩;refine⟨.fR (by first|rfl|(rw[gZ,cV];rfl)) rfl,?_⟩;refine⟨.fb (by first|rfl|(rw[gZ,cV];rfl)),?_⟩;refine aA ?_;refine⟨.fb (by first|rfl|(rw[gZ,cV];rfl)),?_⟩;refine⟨.fb (by first|rfl|(rw[gZ,cV];rfl)),?_⟩;exact trivial)) (by(refine aC ?_;exact trivial)) rfl⟩
 ·rw[gV (l:=nU vals perm) aG]
  (refine yn ?_;refine Tg ?_;refine GW ?_)
  (apply c_;(exact fZ.one (.tmp rfl rfl));(exact Le.own _ _ _ _ rfl))
end Go.Ab
/- Chapter 19:the reference's circuits,walked. -/
namespace Go.Ab
open Go Go.Proofs
open Nat (reduceAdd reduceSub)
set_option maxRecDepth 20000
set_option maxHeartbeats 4000000
attribute [local irreducible] AW a_ fT ff AR fh e6 fp fA
theorem HZ {gs:List fq} {g:fq} {k:Nat} (hk:k<gs.length):(gs.take (k+1)).any (fun h=>decide (h=g))=((gs.take k).any (fun h=>decide (h=g))||decide (gs[k]=g)):=by
 rw[fF hk,List.any_append];simp
theorem Hq {gs:List fq} {g:fq} {k:Nat} (hk:k<gs.length) (h0:(gs.take k).any (fun h=>decide (h=g))=false) (he:gs[k]=g):jH gs g=(k:Int):=by
 have h1:gs.any (fun h=>decide (h=g))=true:=List.any_eq_true.2 ⟨gs[k],cT hk,by simpa using he⟩
 unfold jH
 rw[if_pos h1]
 congr 1
 rw[List.findIdx_eq (by exact hk)]
 refine⟨by simpa using he,fun j hj=>?_⟩
 rw[List.any_eq_false] at h0
 have:=h0 gs[j] (dS.2 ⟨j,by omega,rfl⟩)
 simpa using this
theorem Kz {gs:List fq} {g:fq} (h0:gs.any (fun h=>decide (h=g))=false):jH gs g= -1:=by
 unfold jH
 rw[if_neg (by rw[h0];simp)]
theorem F6 {x y:fq}:x=y↔x.k=y.k∧x.a=y.a∧x.b=y.b:=by
 cases x;cases y;simp
abbrev gtV (g:fq):AV:=.agg [eU g.k,eU g.a,eU g.b]
theorem Ja:Fn Tryz.prog 26 [] (Jx [⟨0,0,0⟩]):=by
 refine Fn.enter (n:=4) Tryz.func26 rfl rfl rfl rfl rfl (by decide) fun g fu fw=>?_;(try refine nz ?_)
 (refine zq ?_;refine pZ ?_;refine nd ?_;refine a_.iW 87 [] rfl rfl rfl rfl rfl rfl rfl rfl rfl ?_;refine nz ?_;refine ux ?_;refine a_.iW 44 [0] rfl rfl rfl rfl rfl rfl rfl rfl rfl ?_;refine nz ?_;refine lN ?_;refine qu ?_)
 (apply c_;(exact fZ.one (.cell rfl rfl rfl rfl));(refine Le.ia ?_;refine gX.cons ?_ ?_;exact Le.own _ _ _ _ rfl;exact gX.nil))
end Go.Ab
/- Chapter 19:the reference's circuits built,walked. -/
namespace Go.Ab
open Go Go.Proofs
open Nat (reduceAdd reduceSub)
set_option maxRecDepth 20000
set_option maxHeartbeats 4000000
attribute [local irreducible] AW a_ fT ff AR fh e6 fp fA jH
theorem My {r:Int} (h: -500000≤r∧r≤500000): -500001≤iD r∧iD r≤500001:=by unfold iD;split<;>(try split)<;>omega
theorem Rc {gs:List fq} {a b:Int} (hl:gs.length≤100000) (ha: -1000000≤a∧a≤1000000) (hb: -1000000≤b∧b≤1000000): -1≤(jq gs a b).2∧(jq gs a b).2≤2*(gs.length:Int)+1∧(jq gs a b).1.length≤gs.length+1:=by
 have hf:=qs (gs:=gs) (g:=⟨2,min a b,max a b⟩)
 unfold jq
 split
 ·simp only;omega
 ·split
  ·simp only;omega
  ·split
   ·simp only;omega
   ·split
    ·simp only;omega
    ·unfold mR
     split
     ·simp only;omega
     ·split
      ·simp only;omega
      ·simp only[bV,cb,List.length_nil];omega
end Go.Ab
/- Chapter 19:construction steps,walked. -/
namespace Go.Ab
open Go Go.Proofs
open Nat (reduceAdd reduceSub)
set_option maxRecDepth 20000
set_option maxHeartbeats 4000000
attribute [local irreducible] AW a_ fT ff AR fh e6 fp fA
abbrev Xv (n:Int):AV:=.pv (.lit (.int .u8 n))
end Go.Ab
/- Chapter 24:the law's permutation;the circuits' Valid and Same,walked. -/
namespace Go.Ab
open Go Go.Proofs
open Nat (reduceAdd reduceSub)
set_option maxRecDepth 20000
set_option maxHeartbeats 4000000
theorem kA {α:Type} {l:List α} {i:Nat} {d:α} (h:i<l.length):l.getD i d=l[i]:=by rw[cO,aZ h];rfl
attribute [local irreducible] AW a_ fT ff AR fh e6 fp fA canon ng jy gw s9 Fc PI PO
end Go.Ab
/- Chapter 24:images of ranks and relations:the program's Rel,walked. -/
namespace Go.Ab
open Go Go.Proofs
open Nat (reduceAdd reduceSub)
set_option maxRecDepth 20000
set_option maxHeartbeats 4000000
abbrev kH (n i:Nat):Int:=((n ^ i:Nat):Int)
theorem OE {n i:Nat} (h:n≤12) (hi:i≤3) (hn:0<n):1≤kH n i∧kH n i≤1728:=by
 have h1:=Nat.pow_le_pow_left h i
 have h2:12 ^ i≤12 ^ 3:=Nat.pow_le_pow_right aG hi
 have h3:0<n ^ i:=Nat.pow_pos hn
 simp only[kH]
 omega
theorem um (n:Nat) (p:List Int):∀(i:Nat) (t:Int),fV n p (i+1) t=fV n p i t+p.getD (t / kH n i % (n:Int)).toNat 0*kH n i
 |0,t=>by simp [fV,kH]
 |i+1,t=>by
  show p.getD (t % (n:Int)).toNat 0+(n:Int)*fV n p (i+1) (t / (n:Int))=(p.getD (t % (n:Int)).toNat 0+(n:Int)*fV n p i (t / (n:Int)))+_
  rw[um n p i (t / (n:Int)),dW aG,show(n:Int)*kH n i=kH n (i+1) from(iT n i).symm,Int.mul_add,Int.mul_left_comm,show(n:Int)*kH n i=kH n (i+1) from(iT n i).symm,Int.add_assoc]
attribute [local irreducible] AW a_ fT ff AR fh e6 fp fA fV
theorem Ni {iF:Int→Int} (p:List Int) (ar:Nat) (t:Int) (hp:iH p.length iF p) (hn:0<p.length) (hl:p.length≤12) (ha:ar≤3) (ht:0≤t∧t≤1000000):
  Fn Tryz.prog 93 [.agg [.pv (ints p),eU ar],eU t] (eU (fV p.length p ar t)):=by
 refine Fn.enter (n:=34) Tryz.func93 rfl rfl rfl rfl rfl (by decide) fun g fu fw=>?_;(try refine nz ?_)
 (refine tc ?_;refine a_.b_ 153 0 0 rfl rfl rfl rfl ?_;refine zb ?_;refine zn ?_;refine nv ?_;(iterate 2 refine za ?_);refine zd ?_;refine Hw ?_;refine a_.b_ 153 1 1 rfl rfl rfl rfl ?_;refine tM ?_;refine rW ?_)
 (refine nz ?_;apply AW.fO [12,5,4,2] [0] (fun i:Nat=>([(13,eU i),(1,eU (t / kH p.length i)),(6,eU (fV p.length p i t)),(7,eU (kH p.length i))]:List (Nat×AV))) (fun i:Nat=>([]:List (Nat×Option Ob))) (fun i:Nat=>i≤ar) (fun i:Nat=>ar - i) (0);(conv=>lhs;simp only[Nf.jI,Nf.all,c6,reduceAdd,reduceSub]);(all_goals skip))
 ·exact bg _
 ·exact e_ rfl (by(refine⟨.d_ (by first|rfl|(simp [fV,kH];rfl)|simp [fV,kH]),?_⟩;refine⟨.d_ (by first|rfl|(simp [fV,kH];rfl)|simp [fV,kH]),?_⟩;refine⟨.d_ (by first|rfl|(simp [fV,kH];rfl)|simp [fV,kH]),?_⟩;refine⟨.d_ (by first|rfl|(simp [fV,kH];rfl)|simp [fV,kH]),?_⟩;refine⟨.d_ (by first|rfl|(simp [fV,kH];rfl)|simp [fV,kH]),?_⟩;refine⟨.d_ (by first|rfl|(simp [fV,kH];rfl)|simp [fV,kH]),?_⟩;refine⟨.d_ (by first|rfl|(simp [fV,kH];rfl)|simp [fV,kH]),?_⟩;refine aA ?_;exact trivial)) (by(refine⟨.box _ rfl ?_,?_⟩;refine⟨.fb (by first|rfl|(simp [fV,kH];rfl)|simp [fV,kH]),?_⟩;refine⟨.d_ (by first|rfl|(simp [fV,kH];rfl)|simp [fV,kH]),?_⟩;(iterate 2 exact trivial))) rfl
 rintro i hi
 by_cases ft:i<ar
 ·have hS:=OE (n:=p.length) (i:=i) hl aG hn
  have Ug:=OE (n:=p.length) (i:=i+1) hl aG hn
  have gZ:=um p.length p i t
  have Un:0≤t / kH p.length i:=dX ht.1 (by omega)
  have Xl:t / kH p.length i≤t:=Int.ediv_le_self _ ht.1
  have Aj:t / kH p.length (i+1)=t / kH p.length i / (p.length:Int):=by
   rw[dW aG,dA,← iT]
  have yF:kH p.length (i+1)=kH p.length i*(p.length:Int):=by
   rw[dA];exact iT _ _
  have hb:=Bu hp hn i t
  have hO:0≤fV p.length p i t∧fV p.length p i t<kH p.length i:=hb
  rw[yF] at Ug
  clear hb
  generalize fV p.length p i t=O at hO gZ ⊢
  generalize t / kH p.length i=T at Un Xl Aj gZ ⊢
  generalize kH p.length i=S at hS yF Ug hO gZ ⊢
  have hm:=mod_lt hn T
  have hm0:0≤T % (p.length:Int):=c9 _ (by omega)
  have G9:T % (p.length:Int)<(p.length:Int):=Int.emod_lt_of_pos _ (by omega)
  have yt:0≤T / (p.length:Int):=dX Un (by omega)
  rw[kA hm] at gZ
  have hx:=hp.wI _ (cT hm)
  have hM:0≤p[(T % (p.length:Int)).toNat]*S∧p[(T % (p.length:Int)).toNat]*S≤12*1728:=⟨dv hx.1 aG,Int.mul_le_mul aG hS.2 aG aG⟩
  (refine BW ?_;refine Q1 ?_;refine zo ?_;(with_reducible apply AW.fG);exact rfl;exact rfl;kernel_rfl;(with_reducible assumption);refine zm ?_;refine a_.b_ 153 0 0 rfl rfl rfl rfl ?_;refine zb ?_;(iterate 2 refine zm ?_);refine a_.Ef rfl rfl rfl rfl rfl aG ?_;(focus ((with_reducible apply a_.e8);(iterate 7 exact rfl);omega;rotate_left;(first|omega|exact db|exact(by simp))));refine zr ?_;refine zm ?_;refine VX ?_;refine vT ?_)
  exact⟨i+1,by omega,by omega,e_ rfl (by(refine⟨.d_ (by first|rfl|(rw[Aj])|(rw[gZ])|(rw[yF])),?_⟩;refine⟨.d_ (by first|rfl|(rw[Aj])|(rw[gZ])|(rw[yF])),?_⟩;refine⟨.d_ (by first|rfl|(rw[Aj])|(rw[gZ])|(rw[yF])),?_⟩;refine⟨.d_ (by first|rfl|(rw[Aj])|(rw[gZ])|(rw[yF])),?_⟩;refine⟨.d_ (by first|rfl|(rw[Aj])|(rw[gZ])|(rw[yF])),?_⟩;refine⟨.d_ (by first|rfl|(rw[Aj])|(rw[gZ])|(rw[yF])),?_⟩;refine⟨.d_ (by first|rfl|(rw[Aj])|(rw[gZ])|(rw[yF])),?_⟩;refine aA ?_;exact trivial)) (by(refine⟨.box _ rfl ?_,?_⟩;refine⟨.fb (by first|rfl|(rw[Aj])|(rw[gZ])|(rw[yF])),?_⟩;refine⟨.d_ (by first|rfl|(rw[Aj])|(rw[gZ])|(rw[yF])),?_⟩;(iterate 2 exact trivial))) rfl⟩
 ·obtain rfl:i=ar:=by omega
  (refine og ?_;refine zm ?_;refine j7 ?_)
  (apply c_;(exact fZ.one (.tmp rfl rfl));(refine Le.eU ?_;(rfl)))
end Go.Ab
/- Chapter 24:the program's image of a relation,walked. -/
namespace Go.Ab
open Go Go.Proofs
open Nat (reduceAdd reduceSub)
set_option maxRecDepth 20000
set_option maxHeartbeats 4000000
attribute [local irreducible] AW a_ fT ff AR fh e6 fp fA fV j5
theorem FY {iF:Int→Int} (at':List Int) (st:Int) (p:List Int) (ar:Nat) (ts:List Int) (hp:iH p.length iF p) (hn:0<p.length) (hl:p.length≤12) (ha:ar≤3) (ht:∀t∈ts,0≤t∧t≤1000000) (M5:ts.length≤100000):
  Fn Tryz.prog 49 [pI at' st,.pv (ints p),mA ((ar:Int),ts)] (mA ((ar:Int),j5 (ts.map (fV p.length p ar)))):=by
 have hr:=fun t (h:t∈ts)=>Ni p ar t hp hn hl ha (ht t h)
 refine Fn.enter (n:=24) Tryz.func49 rfl rfl rfl rfl rfl (by decide) fun g fu fw=>?_;(try refine nz ?_)
 (refine wh ?_;refine pZ ?_;refine nd ?_;refine zm ?_;refine E6 ?_;refine a_.iW 153 [0,1] rfl rfl rfl rfl rfl rfl rfl rfl rfl ?_;refine nz ?_;refine a_.Dz rfl rfl rfl ?_;refine a_.assign rfl rfl rfl ?_;refine nz ?_;refine nd ?_;refine zi ?_;refine a_.iX rfl rfl rfl ?_;(with_reducible apply a_.inline (hf:=Tryz.func94));(with_reducible assumption);(iterate 10 exact rfl);intro g_ fu fw;refine QK ?_)
 (refine nz ?_;apply AW.fO [12,11,9,4,0,1,1016,1015,1014,1007,1006,1005] [2,1,0] (fun k:Nat=>([(13,eU k),(5,.own 3 3 1 (((ts.take k).map (fV p.length p ar)).map nI))]:List (Nat×AV))) (fun k:Nat=>([(3,some .row)]:List (Nat×Option Ob))) (fun k:Nat=>k≤ts.length) (fun k:Nat=>ts.length - k) (0);(conv=>lhs;simp only[Nf.jI,Nf.all,c6,reduceAdd,reduceSub]);(all_goals skip))
 ·exact bg _
 ·exact e_ rfl (by(refine aA ?_;(iterate 13 refine aA ?_);exact trivial)) (by(refine aC ?_;refine⟨.box _ rfl ?_,?_⟩;(iterate 2 refine aA ?_);exact trivial;refine⟨.box _ rfl ?_,?_⟩;(iterate 2 refine aA ?_);exact trivial;refine⟨.box _ rfl ?_,?_⟩;(iterate 2 refine aA ?_);(iterate 2 exact trivial))) rfl
 rintro k hk
 by_cases ft:k<ts.length
 ·have h1:=hr ts[k] (cT ft)
  have hs:=fF ft
  (refine rN ?_;refine ay ?_;refine zr ?_;refine Q4 ?_;refine BY ?_;refine a_.iX rfl rfl rfl ?_;refine zm ?_;refine zC (h1) ?_;refine wO ?_;(with_reducible apply a_.fl);exact rfl;exact ai;(iterate 9 exact rfl);exact ab;refine nz ?_;refine Tt ?_;refine vT ?_)
  exact⟨k+1,by omega,by omega,e_ rfl (by(refine⟨.d_ (by first|rfl|(rw[hs,cV,cV];rfl)),?_⟩;refine⟨.fR (by first|rfl|(rw[hs,cV,cV];rfl)) rfl,?_⟩;refine⟨.d_ (by first|rfl|(rw[hs,cV,cV];rfl)),?_⟩;refine⟨.fb (by first|rfl|(rw[hs,cV,cV];rfl)),?_⟩;refine⟨.d_ (by first|rfl|(rw[hs,cV,cV];rfl)),?_⟩;refine aA ?_;refine⟨.fb (by first|rfl|(rw[hs,cV,cV];rfl)),?_⟩;(iterate 2 refine aA ?_);refine⟨.fb (by first|rfl|(rw[hs,cV,cV];rfl)),?_⟩;(iterate 4 refine aA ?_);exact trivial)) (by(refine aC ?_;refine⟨.box _ rfl ?_,?_⟩;refine⟨.d_ (by first|rfl|(rw[hs,cV,cV];rfl)),?_⟩;refine aA ?_;exact trivial;refine⟨.box _ rfl ?_,?_⟩;refine⟨.d_ (by first|rfl|(rw[hs,cV,cV];rfl)),?_⟩;refine⟨.fb (by first|rfl|(rw[hs,cV,cV];rfl)),?_⟩;exact trivial;refine⟨.box _ rfl ?_,?_⟩;refine⟨.fb (by first|rfl|(rw[hs,cV,cV];rfl)),?_⟩;refine⟨.d_ (by first|rfl|(rw[hs,cV,cV];rfl)),?_⟩;(iterate 2 exact trivial))) rfl⟩
 ·rw[gV (l:=ts) aG]
  generalize ts.map (fV p.length p ar)=yl
  (refine KQ ?_;refine nz ?_;refine C0 ?_;(try refine nz ?_);refine a_.Ow (Ap) [18,8,17] rfl ⟨rfl,rfl,rfl,trivial⟩ rfl rfl rfl ?_;(conv=>rhs;simp only[Nf.rwR,Nf.all,c6,reduceAdd,reduceSub]);refine nd ?_;refine E6 ?_;refine a_.gk rfl rfl rfl ?_;refine a_.iW 105 [0,1] rfl rfl rfl rfl rfl rfl rfl rfl rfl ?_;refine nz ?_;refine lN ?_;refine qu ?_)
  (apply c_;(exact fZ.one (.cell rfl rfl rfl rfl));(refine Le.ia ?_;refine gX.cons ?_ ?_;(with_reducible exact Le.pv _);refine gX.cons ?_ ?_;exact Le.own _ _ _ _ rfl;exact gX.nil))
end Go.Ab
