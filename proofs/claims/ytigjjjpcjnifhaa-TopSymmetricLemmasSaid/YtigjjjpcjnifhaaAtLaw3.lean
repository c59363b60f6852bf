/- The image of every learned clause of a justified proof is justified as a symmetry step, and learning both leaves the outcome and the least satisfying assignment unchanged. No conditions. -/
import Derived.Test.YtigjjjpcjnifhaaAtUD
import Derived.Test.YtigjjjpcjnifhaaAbZ
import Derived.Test.YtigjjjpcjnifhaaAbL3
import Derived.Test.YtigjjjpcjnifhaaAbL2
import Derived.Test.YtigjjjpcjnifhaaRows
import Derived.WalkKit
import Derived.ProofKit
import Derived.OpenShut
import Derived.ChangeOld
import Derived.Below
set_option linter.unusedSimpArgs false
set_option linter.unusedVariables false
namespace Go.Ab
open Go Go.Proofs
open Nat (reduceAdd reduceSub)
set_option maxRecDepth 20000
set_option maxHeartbeats 8000000
theorem va (e:j3) (m:List bu):∀(l:List bu) (s:iB),(bX e s l).2=l.length→bX e s (l++m)=((bX e (bX e s l).1 m).1,(bX e (bX e s l).1 m).2+l.length)
 |[],s,_=>by rw[iS];rfl
 |t::l,s,h=>by
  cases hs:cm e s t with
  |none=>rw[bX,hs] at h;simp at h
  |some u=>
   rw[iW hs] at h ⊢
   rw[List.cons_append,iW hs,va e m l u (by simpa using h)]
   simp only[List.length_cons]
   rw[Nat.add_assoc]
def hX (sym:List Int) (l:List bu):List bu:=l.map fun t=>⟨4,cL sym t.lits,0⟩
def ij (sym:List Int) (l:List bu):List (List Int):=l.flatMap fun t=>[t.lits,cL sym t.lits]
theorem nv (sym:List Int):∀l:List bu,(ij sym l).length=2*l.length
 |[]=>rfl
 |t::l=>by
  have:=nv sym l
  unfold ij at*
  rw[List.flatMap_cons,List.length_append,this]
  simp;omega
theorem Gx (l m:List bu):wS (l++m)=wS l+wS m:=by unfold wS;rw[List.map_append,List.sum_append]
theorem yU {e:j3} {l:List bu} (hk:∀t∈l,t.kind=1):∀{s:iB},(bX e s l).2=l.length→(bX e s l).1.vars=s.vars∧(∀c∈s.cl,c∈(bX e s l).1.cl)∧∀t∈l,t.lits∈(bX e s l).1.cl:=by
 induction l with
 |nil=>intro s _;rw[iS];exact⟨rfl,fun c h=>h,fun t h=>by simp at h⟩
 |cons t l ih=>
  intro s h
  cases hs:cm e s t with
  |none=>rw[bX,hs] at h;simp at h
  |some u=>
   rw[iW hs] at h ⊢
   obtain⟨h1,h2,h3⟩:=ih (fun t ht=>hk t (by simp [ht])) (s:=u) (by simpa using h)
   rw[sB (hk t (by simp))] at hs
   unfold gV at hs
   split at hs
   ·cases hs
    refine⟨h1,fun c hc=>h2 c (List.mem_append.2 (.inl hc)),fun t' ht=>?_⟩
    rcases List.mem_cons.1 ht with rfl|ht
    ·exact h2 _ (List.mem_append.2 (.inr (by simp)))
    ·exact h3 t' ht
   ·cases hs
theorem tQ {n:Nat} {cl:List (List Int)} {sym:List Int} (th:cN n cl sym=true):∀{m:List bu} {s:iB},s.vars=n→(∀t∈m,t.lits∈s.cl∧ay n t.lits=true∧ay n (cL sym t.lits)=true)→(bX ⟨n,cl,[sym]⟩ s (hX sym m)).2=m.length
 |[],s,_,_=>by show(bX _ s []).2=0;rw[iS]
 |t::m,s,hv,h=>by
  obtain⟨h1,h2,h3⟩:=h t (by simp)
  have dp:cm ⟨n,cl,[sym]⟩ s ⟨4,cL sym t.lits,0⟩=some (qN s (cL sym t.lits)):=by
   rw[s7 rfl,jc,if_pos]
   refine⟨by rw[hv];exact h3,⟨Int.le_refl _,by show(0:Int)<1;omega⟩,th,?_⟩
   rw[List.any_eq_true]
   exact⟨t.lits,h1,by unfold fq;show(ay n t.lits && decide (canon (cL sym t.lits)=canon (cL sym t.lits)))=true;rw[h2];simp⟩
  show(bX _ s (⟨4,cL sym t.lits,0⟩::hX sym m)).2=_
  rw[iW dp]
  have:=tQ th (m:=m) (s:=qN s (cL sym t.lits)) hv fun t' ht=>by
   obtain⟨q1,q2⟩:=h t' (by simp [ht])
   exact⟨List.mem_append.2 (.inl q1),q2⟩
  simp [this]
theorem yf {v:List Bool}:∀{L:List bu},(∀t∈L,t.kind=1∨t.kind=4)→qh v L=true→∀t∈L,eh v t.lits=true
 |[],_,_,t,ht=>by simp at ht
 |t::L,hk,h,t',ht=>by
  have h0:=hk t (by simp)
  unfold qh at h
  rw[if_neg (by omega),if_pos h0,Bool.and_eq_true] at h
  rcases List.mem_cons.1 ht with rfl|ht
  ·exact h.1
  ·exact yf (fun t ht=>hk t (by simp [ht])) h.2 t' ht
def n5 (n:Nat) (σ:Nat→Bool):List Bool:=(List.range n).map fun i=>σ (i+1)
theorem uW {n:Nat} {σ:Nat→Bool} {u:Nat} (h1:1≤u) (h2:u≤n):xk (n5 n σ) u=σ u:=by
 unfold xk n5
 rw[List.getD_eq_getElem?_getD,List.getElem?_map,List.getElem?_range (by omega)]
 simp only[Option.map_some,Option.getD_some]
 rw[show u - 1+1=u by omega]
theorem CR {n:Nat} {cl:List (List Int)} {sym:List Int} {l:List bu} (cZ:Ci n cl [sym] (l++hX sym l)) (hk:∀t∈l,t.kind=1) (aR:(bX ⟨n,cl,[sym]⟩ (ct n cl) (l++hX sym l)).2=(l++hX sym l).length) (hF:∀c∈cl++ij sym l,∀x∈c,Lit n x) (σ:Nat→Bool):fJ σ cl↔fJ σ (cl++ij sym l):=by
 constructor
 ·intro hs
  have Df:∀c∈cl,∀x∈c,Lit n x:=fun c hc=>hF c (List.mem_append.2 (.inl hc))
  have hv:allM (n5 n σ) cl=true:=(gZ Df).1 (fJ.congr Df (fun u h1 h2=>(uW h1 h2).symm) hs)
  have D_:((n5 n σ).length:Int)=n:=by simp [n5]
  have hx:=(nH (e:=⟨n,cl,[sym]⟩) (fun c hc=>(cZ.dO c hc).1) (by show(0:Int)≤n;omega) (l++hX sym l) o9 cZ.ok cZ.hl.2 aR).1 (n5 n σ) D_ hv
  have ec:=yf (v:=n5 n σ) (L:=l++hX sym l) (fun t ht=>by
   rcases List.mem_append.1 ht with ht|ht
   ·exact .inl (hk t ht)
   ·obtain⟨u,_,rfl⟩:=List.mem_map.1 ht
    exact .inr rfl) (by unfold jO at hx;exact hx)
  have Rr:∀c∈ij sym l,eh (n5 n σ) c=true:=fun c hc=>by
   obtain⟨t,ht,hc⟩:=List.mem_flatMap.1 hc
   simp only[List.mem_cons,List.mem_nil_iff,or_false] at hc
   rcases hc with rfl|rfl
   ·exact ec t (List.mem_append.2 (.inl ht))
   ·exact ec ⟨4,cL sym t.lits,0⟩ (List.mem_append.2 (.inr (List.mem_map.2 ⟨t,ht,rfl⟩)))
  intro c hc
  rcases List.mem_append.1 hc with h|h
  ·exact hs c h
  ·have h1:=Rr c h
   unfold eh at h1
   rw[List.any_eq_true] at h1
   obtain⟨x,hx,ht⟩:=h1
   exact⟨x,hx,(dV.congr (hF c hc x hx) fun u h1 h2=>uW h1 h2).1 ((ke (hF c hc x hx)).2 ht)⟩
 ·intro hs c hc
  exact hs c (List.mem_append.2 (.inl hc))
theorem qj {n:Nat} {sym c:List Int} (hl:sym.length=n) (hs:ay n sym=true) (hc:ay n c=true):ay n (cL sym c)=true:=by
 unfold ay
 rw[List.all_eq_true]
 intro y hy
 obtain⟨x,hx,rfl⟩:=List.mem_map.1 hy
 have h1:=aT hc x hx
 have hg:∀k:Nat,k<n→sym.getD k 0≠0∧sym.getD k 0≤n∧ -(n:Int)≤sym.getD k 0:=fun k hk=>by
  rw[aQ (by omega)]
  exact aT hs _ (List.getElem_mem _)
 simp only[decide_eq_true_eq]
 unfold iH
 by_cases h:0<x
 ·rw[if_pos h]
  have:=hg (x - 1).toNat (by omega)
  omega
 ·rw[if_neg h]
  have:=hg (-x - 1).toNat (by omega)
  omega
attribute [local irreducible] AW aa bM a8 AR bm a_ bs bT canon gO ed iR jS cL ay cN db bX cm gn
theorem vB (sym c:List Int) (n:Nat) (hn:n≤1000) (hl:sym.length=n) (hs:ay n sym=true) (dO:c.length≤1000) (hc:ay n c=true):Fn Try.prog 14 [.pv (ints sym),.pv (ints c)] (.pv (ints (cL sym c))):=by
 have qF:∀i (h:i<c.length),cL sym (c.take (i+1))=cL sym (c.take i)++ [iH sym c[i]]:=fun i h=>by
  unfold cL
  rw[List.take_succ_eq_append_getElem h,List.map_append];rfl
 have jU:=aT hc
 have OE:=aT hs
 have oK:=fun z=>iM sym z
 refine Fn.enter (n:=43) Try.func14 rfl rfl rfl rfl rfl (by decide) fun g aY aW=>?_;(try refine nz ?_)
 refine AW.d_ 1 rfl fun hlen=>?_
 (refine zq ?_;refine iw ?_;refine jX ?_;refine fV ?_;refine pY ?_)
 (refine nz ?_;apply AW.ck [4,0,1] [] (fun i:Nat=>([(5,.own 0 3 1 ((cL sym (c.take i)).map encI)),(6,aw i)]:List (Nat×AV))) (fun i:Nat=>([(0,some .row)]:List (Nat×Option Ob))) (fun i:Nat=>i≤c.length) (fun i:Nat=>c.length - i) (0);(conv=>lhs;simp only[Nf.jJ,Nf.all,Nat.reduceBEq,reduceAdd,reduceSub]);(all_goals skip))
 ·exact Nat.zero_le _
 ·exact aN rfl (by(refine⟨.x5 (by first|rfl|(unfold cL;rfl)) rfl rfl,?_⟩;refine⟨.ai (by first|rfl|(unfold cL;rfl)),?_⟩;refine⟨.ai (by first|rfl|(unfold cL;rfl)),?_⟩;refine⟨.bz (by first|rfl|(unfold cL;rfl)),?_⟩;refine⟨.bz (by first|rfl|(unfold cL;rfl)),?_⟩;exact trivial)) (by(refine⟨.newrow rfl,?_⟩;exact trivial)) rfl
 rintro i hi
 by_cases aP:i<c.length
 ·obtain⟨x1,x2,x3⟩:=jU _ (List.getElem_mem aP)
  have cZ:=oK (c.take i)
  rw[List.length_take] at cZ
  have Fq:=qF i aP
  by_cases hp:0<c[i]
  ·have hk:(c[i] - 1).toNat<sym.length:=by omega
   have hx:iH sym c[i]=sym[(c[i] - 1).toNat]:=by unfold iH;rw[if_pos hp];exact aQ hk
   obtain⟨y1,y2,y3⟩:=OE _ (List.getElem_mem hk)
   (refine yS ?_;(focus ((with_reducible apply aa.ak);(iterate 7 exact rfl);rotate_left;omega));refine zr ?_;refine aa.gtr rfl rfl rfl rfl rfl ?_;refine gG ?_;refine DH ?_;(focus ((with_reducible apply aa.ak);(iterate 7 exact rfl);rotate_left;omega));refine zr ?_;refine aa.sub rfl rfl rfl rfl rfl (by omega) ?_;(focus ((with_reducible apply aa.bH);(iterate 7 exact rfl);omega;rotate_left;(first|omega|exact Nat.zero_lt_one|(simp;done))));refine zr ?_;refine oQ ?_;(with_reducible apply aa.aZ);exact rfl;(first|exact .pv rfl|exact .own rfl|exact .nil rfl);(iterate 9 exact rfl);(first|omega|(simp only[List.length_map,List.length_append,List.length_cons,List.length_nil,List.length_drop,List.length_take,List.length_set,List.length_range,aE];omega));refine nz ?_;refine qL ?_;refine nz ?_;refine oA ?_)
   exact Ku
  ·have hk:(0 - c[i] - 1).toNat<sym.length:=by omega
   have hx:iH sym c[i]=0 - sym[(0 - c[i] - 1).toNat]:=by
    unfold iH
    rw[if_neg hp,show(-c[i] - 1).toNat=(0 - c[i] - 1).toNat by omega,aQ hk];omega
   obtain⟨y1,y2,y3⟩:=OE _ (List.getElem_mem hk)
   (refine yS ?_;(focus ((with_reducible apply aa.ak);(iterate 7 exact rfl);rotate_left;omega));refine zr ?_;refine aa.gtr rfl rfl rfl rfl rfl ?_;refine zd ?_;refine zk ?_;refine DH ?_;(focus ((with_reducible apply aa.ak);(iterate 7 exact rfl);rotate_left;omega));refine zr ?_;(iterate 2 refine aa.sub rfl rfl rfl rfl rfl (by omega) ?_);(focus ((with_reducible apply aa.bH);(iterate 7 exact rfl);omega;rotate_left;(first|omega|exact Nat.zero_lt_one|(simp;done))));refine zr ?_;refine aa.sub rfl rfl rfl rfl rfl (by omega) ?_;refine oQ ?_;(with_reducible apply aa.aZ);exact rfl;(first|exact .pv rfl|exact .own rfl|exact .nil rfl);(iterate 9 exact rfl);(first|omega|(simp only[List.length_map,List.length_append,List.length_cons,List.length_nil,List.length_drop,List.length_take,List.length_set,List.length_range,aE];omega));refine nz ?_;refine qL ?_;refine nz ?_;refine oA ?_)
   exact Ku
 ·obtain rfl:i=c.length:=by omega
  rw[List.take_length]
  (refine E4 ?_;refine aa.bt rfl rfl rfl ?_;refine ot ?_)
  (apply az;(exact bD.one (.tmp rfl rfl));(exact Le.own _ _ _ _ rfl))
theorem yr (v:Int) (cl:List (List Int)) (sym:List Int) (l:List bu):Fn Try.prog 5 [Dg v cl,.pv (ints sym),.pv (steps l)] (aM true):=by
 have hh:=BV
 have hs:=yE v cl
 cases e1:gn v cl with
 |false=>
  rw[e1] at hs
  have hw:=trivial
  have hy:=trivial
  refine Fn.enter (n:=177) Try.func5 rfl rfl rfl rfl rfl (by decide) fun g aY aW=>?_;(try refine nz ?_)
  (refine zq ?_;refine Db ?_;refine fV ?_;refine zA (hh) ?_;refine jX ?_;refine fV ?_;refine oy ?_;refine zA (hs) ?_;refine uI ?_;refine tP ?_;refine zm ?_;refine w_ ?_;refine zm ?_;refine DJ ?_;refine zm ?_;refine tP ?_;refine wI ?_)
  (apply az;(exact bD.one (.tmp rfl rfl));(refine Le.aM ?_;(rfl)))
 |true=>
 rw[e1] at hs
 obtain⟨hv,N1,Bx⟩:=r8 e1
 have hw:=kg v sym (by omega)
 have hf:Ie v cl:=⟨by omega,fun c hc=>⟨(Bx c hc).1,by have:=(Bx c hc).2;omega⟩,by omega⟩
 by_cases Gj:(sym.length:Int)=v
 ·have hy:=uG v cl sym hf (by omega)
  by_cases eC:l.length≤20
  ·cases e2:cN v cl sym with
   |false=>
    rw[e2] at hy
    refine Fn.enter (n:=177) Try.func5 rfl rfl rfl rfl rfl (by decide) fun g aY aW=>?_;(try refine nz ?_)
    (refine Hq ?_;refine tP ?_;refine wI ?_)
    (apply az;(exact bD.one (.tmp rfl rfl));(refine Le.aM ?_;(rfl)))
   |true=>
   rw[e2] at hy
   cases e3:ay v sym with
   |false=>
    rw[e3] at hw
    refine Fn.enter (n:=177) Try.func5 rfl rfl rfl rfl rfl (by decide) fun g aY aW=>?_;(try refine nz ?_)
    (refine Hq ?_;refine zl ?_;refine aa.ah 24 0 0 rfl rfl rfl rfl ?_;refine zl ?_;refine zb ?_;refine iO ?_;refine zA (hw) ?_;refine FU ?_;refine wI ?_)
    (apply az;(exact bD.one (.tmp rfl rfl));(refine Le.aM ?_;(rfl)))
   |true=>
   rw[e3] at hw
   obtain⟨n,rfl⟩:∃n:Nat,v=n:=⟨v.toNat,by omega⟩
   have hn8:n≤8:=by omega
   have jW:sym.length=n:=by omega
   refine Fn.enter (n:=177) Try.func5 rfl rfl rfl rfl rfl (by decide) fun g aY aW=>?_;(try refine nz ?_)
   (refine Hq ?_;refine zl ?_;refine aa.ah 24 0 0 rfl rfl rfl rfl ?_;refine zl ?_;refine zb ?_;refine iO ?_;refine zA (hw) ?_;refine FU ?_;refine vx ?_;refine oc ?_;refine zo ?_;refine AW.bE [0,1,3,4] [8] rfl (by assumption) (by kernel_rfl) (by kernel_rfl) rfl ?_;show aa .held _ _ _ [_,_,_,_] _ _;refine ry ?_;refine uV ?_;refine Q4 ?_;intro k_ cI;refine nz ?_;apply AR.cut [4,3,1,0,2,5,6,7];intro iq;apply AR.cut [4,3,1,0,2,7];intro lM;(refine AR.bR (i:=2) (j:=7) rfl (by kernel_rfl) rfl rfl ?_ ?_<;>intro g_ ag bq);refine aa.FR rfl rfl rfl rfl rfl ?_;refine fG ?_;(refine AR.bR (i:=5) (j:=7) rfl (by kernel_rfl) rfl rfl ?_ ?_<;>intro g_ ag bq);(with_reducible apply aa.aZ);exact rfl;(first|exact .pv rfl|exact .own rfl|exact .nil rfl);(iterate 9 exact rfl);(first|omega|(simp only[List.length_map,List.length_append,List.length_cons,List.length_nil,List.length_drop,List.length_take,List.length_set,List.length_range,aE];omega));refine fG ?_;refine AR.free 6 (by kernel_rfl) rfl rfl rfl (bh.build 24 [0,1] rfl rfl rfl rfl rfl rfl rfl rfl) ?_;(try refine nz ?_);refine AR.aS (i:=7) rfl (by kernel_rfl) rfl ?_;intro g_ ag bq;refine uP ?_;exact ph;refine uP ?_;exact wi;refine sZ ?_;refine Q4 ?_;refine AR.aS (i:=2) rfl (by kernel_rfl) rfl ?_;intro g_ ag bq;refine aa.FR rfl rfl rfl rfl rfl ?_;refine fG ?_;(try refine nz ?_);refine AR.sw 1 2 (by assumption) (by kernel_rfl) (by kernel_rfl) ?_;refine vM ?_;refine AR.meet lM (by kernel_rfl) (fun g_=>aN rfl ?_ ?_ rfl);(iterate 41 refine⟨.eq rfl rfl,?_⟩);exact trivial;refine⟨.box _ rfl ?_,?_⟩;exact q8;refine⟨.row rfl,?_⟩;exact HO;refine AR.aS (i:=5) rfl (by kernel_rfl) rfl ?_;intro g_ ag bq;(with_reducible apply aa.aZ);exact rfl;(first|exact .pv rfl|exact .own rfl|exact .nil rfl);(iterate 9 exact rfl);(first|omega|(simp only[List.length_map,List.length_append,List.length_cons,List.length_nil,List.length_drop,List.length_take,List.length_set,List.length_range,aE];omega));refine fG ?_;refine AR.free 6 (by kernel_rfl) rfl rfl rfl (bh.build 24 [0,1] rfl rfl rfl rfl rfl rfl rfl rfl) ?_;(try refine nz ?_);(try refine nz ?_);refine AR.meet iq (by kernel_rfl) (fun g_=>aN rfl ?_ ?_ rfl);(iterate 3 refine⟨.eq rfl rfl,?_⟩);refine⟨.any _,?_⟩;exact Cd;refine⟨.box _ rfl ?_,?_⟩;exact q8;refine⟨.row rfl,?_⟩;exact HO;refine yt ?_;intro g_ ag aH;refine zB ?_;refine nz ?_;refine pL ?_;refine zq ?_;(focus ((with_reducible apply aa.M4 (k:=3));(iterate 6 exact rfl);(focus ((repeat ((any_goals (apply BX.cons));(all_goals (try exact rfl));(all_goals (try (repeat (first|exact FT.nil|apply FT.cons))))));(any_goals (exact BX.nil));done));exact rfl;exact rfl;(try refine nz ?_)));refine zm ?_;(with_reducible apply aa.aZ);exact rfl;(first|exact .pv rfl|exact .own rfl|exact .nil rfl);(iterate 9 exact rfl);(first|omega|(simp only[List.length_map,List.length_append,List.length_cons,List.length_nil,List.length_drop,List.length_take,List.length_set,List.length_range,aE];omega));refine nz ?_;refine vn ?_;refine zo ?_;refine AW.fk 6 ?_)
   refine Stop.go ?_
   (refine fV ?_;refine pY ?_)
   (refine nz ?_;apply AW.ck [8,7,3,1,2] [3,1,0] (fun i:Nat=>([(9,.own 3 30 3 ((l++hX sym (l.take i)).map encS)),(10,aw i)]:List (Nat×AV))) (fun i:Nat=>([(2,some (.box [aw n,.own 1 28 1 ((cl++ij sym (l.take i)).map fun c=>[ints c])]))]:List (Nat×Option Ob))) (fun i:Nat=>i≤l.length∧∀t∈l.take i,t.kind=1∧t.lits.length≤12∧ay n t.lits=true) (fun i:Nat=>l.length - i) (0);(conv=>lhs;simp only[Nf.jJ,Nf.all,Nat.reduceBEq,reduceAdd,reduceSub]);(all_goals skip))
   ·exact⟨Nat.zero_le _,fun t ht=>by simp at ht⟩
   ·exact aN rfl (by(refine⟨.aj (by first|rfl|(rw[List.take_zero];show List.map encS l=List.map encS (l++ []);rw[List.append_nil])|(rw[List.take_zero];show List.map _ cl=List.map _ (cl++ []);rw[List.append_nil])) rfl,?_⟩;refine⟨.ai (by first|rfl|(rw[List.take_zero];show List.map encS l=List.map encS (l++ []);rw[List.append_nil])|(rw[List.take_zero];show List.map _ cl=List.map _ (cl++ []);rw[List.append_nil])),?_⟩;refine⟨.eq rfl rfl,?_⟩;refine⟨.ai (by first|rfl|(rw[List.take_zero];show List.map encS l=List.map encS (l++ []);rw[List.append_nil])|(rw[List.take_zero];show List.map _ cl=List.map _ (cl++ []);rw[List.append_nil])),?_⟩;refine⟨.eq rfl rfl,?_⟩;refine⟨.bz (by first|rfl|(rw[List.take_zero];show List.map encS l=List.map encS (l++ []);rw[List.append_nil])|(rw[List.take_zero];show List.map _ cl=List.map _ (cl++ []);rw[List.append_nil])),?_⟩;refine⟨.bz (by first|rfl|(rw[List.take_zero];show List.map encS l=List.map encS (l++ []);rw[List.append_nil])|(rw[List.take_zero];show List.map _ cl=List.map _ (cl++ []);rw[List.append_nil])),?_⟩;exact trivial)) (by(refine⟨.box _ rfl ?_,?_⟩;refine⟨.ai (by first|rfl|(rw[List.take_zero];show List.map encS l=List.map encS (l++ []);rw[List.append_nil])|(rw[List.take_zero];show List.map _ cl=List.map _ (cl++ []);rw[List.append_nil])),?_⟩;refine⟨.aj (by first|rfl|(rw[List.take_zero];show List.map encS l=List.map encS (l++ []);rw[List.append_nil])|(rw[List.take_zero];show List.map _ cl=List.map _ (cl++ []);rw[List.append_nil])) rfl,?_⟩;exact trivial;(iterate 2 refine⟨.row rfl,?_⟩);refine⟨.box _ rfl ?_,?_⟩;refine⟨.ai (by first|rfl|(rw[List.take_zero];show List.map encS l=List.map encS (l++ []);rw[List.append_nil])|(rw[List.take_zero];show List.map _ cl=List.map _ (cl++ []);rw[List.append_nil])),?_⟩;refine⟨.bz (by first|rfl|(rw[List.take_zero];show List.map encS l=List.map encS (l++ []);rw[List.append_nil])|(rw[List.take_zero];show List.map _ cl=List.map _ (cl++ []);rw[List.append_nil])),?_⟩;(iterate 2 exact trivial))) rfl
   rintro i ⟨hi,kO⟩
   by_cases aP:i<l.length
   ·have p8:=kg (n:Nat) l[i].lits (by omega)
    by_cases k1:l[i].kind=1
    ·by_cases k2:l[i].lits.length≤12
     ·cases k3:ay n l[i].lits with
      |true=>
       rw[k3] at p8
       have Ap:=vB sym l[i].lits n (by omega) jW e3 (by omega) k3
       have Jv:(hX sym (l.take i)).length≤20:=by unfold hX;rw[List.length_map,List.length_take];omega
       have Pm:(ij sym (l.take i)).length≤40:=by rw[nv,List.length_take];omega
       have q1:(l++hX sym (l.take (i+1))).map encS=(l++hX sym (l.take i)).map encS++ [encS ⟨4,cL sym l[i].lits,0⟩]:=by
        unfold hX
        rw[List.take_succ_eq_append_getElem aP]
        simp only[List.map_append,List.append_assoc];rfl
       have q2:((cl++ij sym (l.take (i+1))).map fun c=>[ints c])=((cl++ij sym (l.take i)).map fun c=>[ints c])++ [[ints l[i].lits],[ints (cL sym l[i].lits)]]:=by
        unfold ij
        rw[List.take_succ_eq_append_getElem aP,List.flatMap_append]
        simp only[List.map_append,List.append_assoc];rfl
       (refine Hm ?_;refine Q5 ?_;(iterate 2 refine zo ?_);(with_reducible apply AW.bn);exact rfl;exact rfl;kernel_rfl;(with_reducible assumption);(iterate 2 refine zm ?_);(focus ((with_reducible apply aa.ak);(iterate 7 exact rfl);rotate_left;omega));refine DT ?_;refine zm ?_;refine q7 ?_;(focus ((with_reducible apply aa.ak);(iterate 7 exact rfl);rotate_left;omega));refine Bc ?_;refine zn ?_;refine lQ ?_;refine xe ?_;refine q7 ?_;(focus ((with_reducible apply aa.ak);(iterate 7 exact rfl);rotate_left;omega));refine Bc ?_;refine zA (p8) ?_;refine A1 ?_;refine mT ?_;(iterate 3 refine zm ?_);(focus ((with_reducible apply aa.ak);(iterate 7 exact rfl);rotate_left;omega));refine aa.eB 30 1 1 1 rfl rfl rfl rfl ?_;refine nz ?_;refine zr ?_;refine zP (Ap) ?_;refine iw ?_;refine qn ?_;refine aa.sb 30 [0,1] rfl rfl rfl rfl rfl rfl rfl rfl rfl ?_;refine nz ?_;refine aa.ug rfl rfl rfl rfl rfl rfl rfl rfl rfl rfl ?_;refine nz ?_;(with_reducible apply aa.aZ);exact rfl;(first|exact .pv rfl|exact .own rfl|exact .nil rfl);(iterate 9 exact rfl);(first|omega|(simp only[List.length_map,List.length_append,List.length_cons,List.length_nil,List.length_drop,List.length_take,List.length_set,List.length_range,aE];omega));refine nz ?_;refine vn ?_;refine AW.bE [0,1,2,3,4,5,6,7] [11] rfl (by assumption) (by kernel_rfl) (by kernel_rfl) rfl ?_;show aa .held _ _ _ [_,_,_,_,_,_,_,_] _ _;refine uV ?_;(iterate 2 refine zm ?_);(focus ((with_reducible apply aa.ak);(iterate 7 exact rfl);rotate_left;omega));refine aa.eB 30 1 1 1 rfl rfl rfl rfl ?_;refine nz ?_;refine zr ?_;refine zm ?_;refine Q4 ?_;intro k_ cI;refine nz ?_;refine AR.aS (i:=8) rfl (by kernel_rfl) rfl ?_;intro g_ ag bq;refine we ?_;refine fG ?_;refine AR.aS (i:=9) rfl (by kernel_rfl) rfl ?_;intro g_ ag bq;(with_reducible apply aa.aZ);exact rfl;(first|exact .pv rfl|exact .own rfl|exact .nil rfl);(iterate 9 exact rfl);(first|omega|(simp only[List.length_map,List.length_append,List.length_cons,List.length_nil,List.length_drop,List.length_take,List.length_set,List.length_range,aE];omega));refine fG ?_;refine Em ?_;intro g_ ag;show aa .held _ _ _ [_] _ _;refine aa.ah 24 1 1 rfl rfl rfl rfl ?_;refine Q4 ?_;intro k_ cI;refine nz ?_;refine u7 ?_;intro g_ ag aH;refine xO ?_;refine xt ?_;refine yu ?_;refine oA ?_)
       exact⟨i+1,⟨by omega,fun t ht=>by
        rw[List.take_succ_eq_append_getElem aP,List.mem_append,List.mem_singleton] at ht
        rcases ht with q|rfl
        ·exact kO t q
        ·exact⟨k1,k2,k3⟩⟩,by omega,aN rfl (by(refine⟨.aj (by first|rfl|(rw[q1])|(rw[q2])) rfl,?_⟩;refine⟨.ai (by first|rfl|(rw[q1])|(rw[q2])),?_⟩;refine⟨.eq rfl rfl,?_⟩;refine⟨.ai (by first|rfl|(rw[q1])|(rw[q2])),?_⟩;refine⟨.eq rfl rfl,?_⟩;refine⟨.bz (by first|rfl|(rw[q1])|(rw[q2])),?_⟩;refine⟨.bz (by first|rfl|(rw[q1])|(rw[q2])),?_⟩;exact trivial)) (by(refine⟨.box _ rfl ?_,?_⟩;refine⟨.ai (by first|rfl|(rw[q1])|(rw[q2])),?_⟩;refine⟨.aj (by first|rfl|(rw[q1])|(rw[q2])) rfl,?_⟩;exact trivial;(iterate 2 refine⟨.row rfl,?_⟩);refine⟨.box _ rfl ?_,?_⟩;refine⟨.ai (by first|rfl|(rw[q1])|(rw[q2])),?_⟩;refine⟨.bz (by first|rfl|(rw[q1])|(rw[q2])),?_⟩;(iterate 2 exact trivial))) rfl⟩
      |false=>
       rw[k3] at p8
       (refine Hm ?_;refine Q5 ?_;(iterate 2 refine zo ?_);(with_reducible apply AW.bn);exact rfl;exact rfl;kernel_rfl;(with_reducible assumption);(iterate 2 refine zm ?_);(focus ((with_reducible apply aa.ak);(iterate 7 exact rfl);rotate_left;omega));refine DT ?_;refine zm ?_;refine q7 ?_;(focus ((with_reducible apply aa.ak);(iterate 7 exact rfl);rotate_left;omega));refine Bc ?_;refine zn ?_;refine lQ ?_;refine xe ?_;refine q7 ?_;(focus ((with_reducible apply aa.ak);(iterate 7 exact rfl);rotate_left;omega));refine Bc ?_;refine zA (p8) ?_;refine A1 ?_;refine wI ?_;refine Bj ?_)
       (apply az;(exact bD.one (.tmp rfl rfl));(refine Le.aM ?_;(rfl)))
     ·(refine KQ ?_;show aa .held _ _ _ [_,_,_,_,_,_,_,_,_,_,_,_,_,_,_,_,_,_,_,_,_,_,_] _ _;(iterate 2 refine zm ?_);(focus ((with_reducible apply aa.ak);(iterate 7 exact rfl);rotate_left;omega));refine DT ?_;refine zm ?_;refine q7 ?_;(focus ((with_reducible apply aa.ak);(iterate 7 exact rfl);rotate_left;omega));refine Bc ?_;refine zn ?_;refine lQ ?_;(iterate 7 refine aa.dK rfl rfl rfl rfl rfl rfl (by first|omega|decide) ?_);refine Q4 ?_;intro k_ cI;refine nz ?_;refine AR.aS (i:=23) rfl (by kernel_rfl) rfl ?_;intro g_ ag bq;refine Dp ?_;refine Q4 ?_;refine AR.cU [24,25] (by kernel_rfl) (by kernel_rfl) (by kernel_rfl) (by kernel_rfl) ?_;intro g_ ag;show aa .held _ _ _ [_,_] _ _;refine Dp ?_;refine zT ?_;refine Q4 ?_;intro k_ cI;refine nz ?_;refine DK ?_;refine AW.fN rfl rfl ?_;refine lZ ?_;refine mH ?_;refine Bj ?_)
      (apply az;(exact bD.one (.tmp rfl rfl));(refine Le.aM ?_;(rfl)))
    ·have k1':decide (l[i].kind≠1)=true:=by simpa using k1
     (refine KQ ?_;show aa .held _ _ _ [_,_,_,_,_,_,_,_,_,_,_,_,_,_,_,_,_,_,_,_,_,_,_] _ _;(iterate 2 refine zm ?_);(focus ((with_reducible apply aa.ak);(iterate 7 exact rfl);rotate_left;omega));refine DT ?_;refine zm ?_;refine EO ?_;refine zT ?_;refine zm ?_;(iterate 7 refine aa.bV rfl rfl rfl rfl rfl rfl rfl ?_);refine Q4 ?_;intro k_ cI;refine nz ?_;refine AR.aS (i:=23) rfl (by kernel_rfl) rfl ?_;intro g_ ag bq;refine ss ?_;refine AR.cU [24,25] (by kernel_rfl) (by kernel_rfl) (by kernel_rfl) (by kernel_rfl) ?_;intro g_ ag;show aa .held _ _ _ [_,_] _ _;refine w7 ?_;refine Q4 ?_;intro k_ cI;refine nz ?_;refine DK ?_;refine AW.fN rfl rfl ?_;refine lZ ?_;refine mH ?_;refine Bj ?_)
     (apply az;(exact bD.one (.tmp rfl rfl));(refine Le.aM ?_;(rfl)))
   ·obtain rfl:i=l.length:=by omega
    rw[List.take_length] at kO ⊢
    have hwS:=Bv fun t ht=>(kO t ht).2.1
    have hwS2:=Bv (m:=12) (l:=hX sym l) fun t ht=>by
     obtain⟨u,hu,rfl⟩:=List.mem_map.1 ht
     show(cL sym u.lits).length≤12
     rw[iM];exact(kO u hu).2.1
    have LS:(hX sym l).length=l.length:=by unfold hX;rw[List.length_map]
    have Kv:∀c∈cl,ay n c=true∧c.length≤1000:=fun c hc=>⟨(Bx c hc).1,by have:=(Bx c hc).2;omega⟩
    have uf:Ci n cl [sym] l:=⟨by omega,Kv,by omega,⟨by simp,fun c hc=>by simp at hc;subst hc;omega⟩,⟨by omega,fun t ht=>by have:=(kO t ht).2.1;omega⟩,by omega⟩
    have xb:Ci n cl [sym] (l++hX sym l):=⟨by omega,Kv,by omega,uf.zW,⟨by rw[Gx];omega,fun t ht=>by
     rcases List.mem_append.1 ht with ht|ht
     ·have:=(kO t ht).2.1;omega
     ·obtain⟨u,hu,rfl⟩:=List.mem_map.1 ht
      show(cL sym u.lits).length≤900
      rw[iM];have:=(kO u hu).2.1;omega⟩,by rw[List.length_append];omega⟩
    have hc1:=uh n cl [sym] l uf
    have hle:=oM ⟨n,cl,[sym]⟩ l (ct n cl)
    by_cases hr:(bX ⟨n,cl,[sym]⟩ (ct n cl) l).2<l.length
    ·rw[rJ,if_pos hr] at hc1
     (refine ID ?_;refine wI ?_)
     (apply az;(exact bD.one (.tmp rfl rfl));(refine Le.aM ?_;(rfl)))
    ·have Lo:(bX ⟨n,cl,[sym]⟩ (ct n cl) l).2=l.length:=by omega
     rw[rJ,if_neg hr] at hc1
     obtain⟨r1,_,r3⟩:=yU (fun t ht=>(kO t ht).1) Lo
     have FD:=tQ (n:=n) (cl:=cl) e2 (m:=l) (s:=(bX ⟨n,cl,[sym]⟩ (ct n cl) l).1) r1 fun t ht=>⟨r3 t ht,(kO t ht).2.2,qj jW e3 (kO t ht).2.2⟩
     have aR:(bX ⟨n,cl,[sym]⟩ (ct n cl) (l++hX sym l)).2=(l++hX sym l).length:=by
      rw[va _ _ _ _ Lo,List.length_append,LS]
      show(bX _ _ (hX sym l)).2+l.length=_
      rw[FD]
     have hc2:=uh n cl [sym] (l++hX sym l) xb
     rw[rJ,aR,if_neg (Nat.lt_irrefl _)] at hc2
     have hG:∀c∈cl++ij sym l,(ay n c=true∧c.length≤12):=fun c hc=>by
      rcases List.mem_append.1 hc with hc|hc
      ·exact Bx c hc
      ·obtain⟨t,ht,hc⟩:=List.mem_flatMap.1 hc
       simp only[List.mem_cons,List.mem_nil_iff,or_false] at hc
       rcases hc with rfl|rfl
       ·exact⟨(kO t ht).2.2,(kO t ht).2.1⟩
       ·exact⟨qj jW e3 (kO t ht).2.2,by rw[iM];exact(kO t ht).2.1⟩
     have hGl:∀c∈cl++ij sym l,c.length≤1000000∧∀x∈c,Lit n x:=fun c hc=>⟨by have:=(hG c hc).2;omega,fun x hx=>by have:=aT (hG c hc).1 x hx;exact⟨this.1,by omega,by omega⟩⟩
     have K3:=CR xb (fun t ht=>(kO t ht).1) aR (fun c hc=>(hGl c hc).2)
     have h2:=kB n cl [] (by omega) (by omega) (fun c hc=>hGl c (List.mem_append.2 (.inl hc))) (by simp) (by simp)
     have h3:=kB n (cl++ij sym l) [] (by omega) (by rw[List.length_append,nv];omega) hGl (by simp) (by simp)
     generalize cl++ij sym l=G at h3 K3 ⊢
     generalize (l++hX sym l)=all at hc2 ⊢
     (refine ID ?_;refine mT ?_;refine oy ?_;(iterate 2 refine aa.bt rfl rfl rfl ?_);refine zA (hc2) ?_;refine Hw ?_;refine ju ?_;refine iZ ?_;refine zm ?_;refine Bn ?_;refine aa.neq rfl rfl rfl rfl rfl ?_;refine zm ?_;refine nB ?_;refine aa.neq rfl rfl rfl rfl rfl ?_;refine zF ?_;refine mT ?_;refine oy ?_;(with_reducible apply aa.dZ (hf:=h2));(with_reducible assumption);(iterate 3 exact rfl);(repeat (first|exact trivial|refine⟨rfl,?_⟩));(repeat (first|exact .nil|(refine .cons ?_ ?_;(first|exact .eq rfl rfl|exact .nil _|exact .any _))));(intro x_;exact rfl);exact rfl;(repeat (first|exact trivial|refine⟨rfl,?_⟩|refine⟨aI,?_⟩));(intro x_;(repeat (first|exact trivial|refine⟨rfl,?_⟩|refine⟨aI,?_⟩)));(intro x_;exact rfl);exact rfl;(intro x_ jQ);refine DV ?_;refine AW.fk 22 ?_)
     obtain⟨k2,vals2,core2,P2⟩:=x_
     have hs2:=jQ
     simp only at hs2 ⊢
     refine Stop.go ?_
     refine AW.DN 1 rfl ?_
     (try refine nz ?_)
     (refine zq ?_;refine oy ?_;(with_reducible apply aa.dZ (hf:=h3));(with_reducible assumption);(iterate 3 exact rfl);(repeat (first|exact trivial|refine⟨rfl,?_⟩));(repeat (first|exact .nil|(refine .cons ?_ ?_;(first|exact .eq rfl rfl|exact .nil _|exact .any _))));(intro x_;exact rfl);exact rfl;(repeat (first|exact trivial|refine⟨rfl,?_⟩|refine⟨aI,?_⟩));(intro x_;(repeat (first|exact trivial|refine⟨rfl,?_⟩|refine⟨aI,?_⟩)));(intro x_;exact rfl);exact rfl;(intro x_ jQ);refine DV ?_;refine AW.fk 23 ?_)
     obtain⟨k3,vals3,core3,P3⟩:=x_
     have hs3:=jQ
     simp only at hs3 ⊢
     refine Stop.go ?_
     obtain⟨ek,ev⟩:=hs2.same hs3 hn8 (by simp) K3
     simp only at ek ev
     subst ek
     rcases hs2.one hn8 with e|e
     ·simp only at e
      subst e
      rw[← ev rfl]
      have It:=hs2.EG rfl
      have QO:=Cq vals2 (by have:=It.1;simp only at this;omega)
      (refine Jc ?_;refine iO ?_;refine zm ?_;refine iO ?_;refine zA (QO) ?_;refine zl ?_;refine aa.dr rfl rfl rfl rfl rfl rfl ?_;refine aa.cY rfl rfl rfl rfl rfl rfl ?_;refine e_ ?_)
      (apply az;(exact bD.one (.tmp rfl rfl));(refine Le.aM ?_;(rfl)))
     ·simp only at e
      subst e
      (refine Jc ?_;refine zl ?_;refine zm ?_;(iterate 3 refine aa.bV rfl rfl rfl rfl rfl rfl rfl ?_);refine zl ?_;(iterate 2 refine aa.cY rfl rfl rfl rfl rfl rfl ?_);refine e_ ?_)
      (apply az;(exact bD.one (.tmp rfl rfl));(refine Le.aM ?_;(rfl)))
  ·have PJ:¬(l.length:Int)≤20:=by omega
   refine Fn.enter (n:=177) Try.func5 rfl rfl rfl rfl rfl (by decide) fun g aY aW=>?_;(try refine nz ?_)
   (refine LM ?_;refine nB ?_;refine zn ?_;refine lQ ?_;(iterate 4 refine aa.dK rfl rfl rfl rfl rfl rfl (by first|omega|decide) ?_);refine zT ?_;refine zm ?_;refine tP ?_;refine wI ?_)
   (apply az;(exact bD.one (.tmp rfl rfl));(refine Le.aM ?_;(rfl)))
 ·have hy:=trivial
  refine Fn.enter (n:=177) Try.func5 rfl rfl rfl rfl rfl (by decide) fun g aY aW=>?_;(try refine nz ?_)
  (refine LM ?_;refine Hu ?_;refine zm ?_;refine DJ ?_;refine zm ?_;refine tP ?_;refine wI ?_)
  (apply az;(exact bD.one (.tmp rfl rfl));(refine Le.aM ?_;(rfl)))
end Go.Ab
namespace Go.Proofs.Ytigjjjpcjnifhaa.Law3
open Go Go.Ab Go.ChangeShapes Go.WideShapes Go.ChangeAt Go.RowKit
set_option linter.unusedVariables false
theorem own:ownKnob Try.prog.godebug=none:=by kernel_rfl
theorem laidOut:laidOutB Try.prog=true:=by kernel_rfl
theorem wT:Rd Try.prog 28 (fun l:List Int=>[ints l]) (fun _=>True):=
 Rd.map (Rd.slice (e:=3) (k:=1) (by':=8) Try.underlying28 (by kernel_rfl) (by decide) (by kernel_rfl) (by decide) (fun _=>rfl) (Rd.int Try.underlying3)) id (fun _=>rfl) (fun _ _=>trivial)
theorem Dn:Rd Try.prog 22 (fun l:List (List Int)=>[dy l]) (fun l=>l.length*24≤reachBytes):=
 Rd.map (Rd.slice (e:=28) (k:=1) (by':=24) Try.underlying22 (by kernel_rfl) (by decide) (by kernel_rfl) (by decide) (fun _=>rfl) wT) id (fun _=>rfl) (fun _ h=>h.1)
theorem IZ:Rd Try.prog 24 (fun p:Int×List (List Int)=>[.lit (.int .i64 p.1),dy p.2]) (fun _=>True):=
 Rd.map (Rd.struct (n:=2) Try.underlying24 (by kernel_rfl) (z_.cons (k:=1) (n:=1) rfl (by kernel_rfl) (Rd.int Try.underlying3) (z_.cons (k:=1) (n:=0) rfl (by kernel_rfl) Dn z_.nil))) (fun p=>(p.1,p.2.1)) (fun _=>rfl) (fun _ _=>trivial)
theorem rdStep:Rd Try.prog 30 Go.Ab.encS (fun _=>True):=
 Rd.map (Rd.struct (n:=3) Try.underlying30 (by kernel_rfl) (z_.cons (k:=1) (n:=2) rfl (by kernel_rfl) (Rd.int Try.underlying3) (z_.cons (k:=1) (n:=1) rfl (by kernel_rfl) wT (z_.cons (k:=1) (n:=0) rfl (by kernel_rfl) (Rd.int Try.underlying3) z_.nil)))) (fun p=>(⟨p.1,p.2.1,p.2.2.1⟩:bu)) (fun p=>rfl) (fun _ _=>trivial)
theorem ED:Rd Try.prog 25 (fun l:List bu=>[steps l]) (fun _=>True):=
 Rd.map (Rd.slice (e:=30) (k:=3) (by':=40) Try.underlying25 (by kernel_rfl) (by decide) (by kernel_rfl) (by decide) (fun _=>rfl) rdStep) id (fun _=>rfl) (fun _ _=>trivial)
theorem D4 {N:Nat→Prop} {w:World} {v:Value} (h:RA (uC N) w v (aM true)):v=.bool true:=by
 cases h with
 |pv h=>cases h;rfl
set_option maxRecDepth 100000 in
theorem lifted (os:Os) (started:os.Started) (H:Type) (enc:TypeId×Value→H):
  ReturnsInHanded {} Try.checked os 5 .any (Rows.topSymmetricLemmasSpec.pre6 enc Try.prog Try.f5 Rows.topSymmetricLemmasRow.domain false) (Rows.topSymmetricLemmasSpec.post enc Try.prog Try.f5 false true false false):=by
 refine returnsInHanded_of_change_sized (C:=Try.checked) own started (by kernel_rfl) Try.func5
  (ChangeSpec.witness6 (enc:=enc) (C:=Try.checked) false ⟨#[], #[.agg #[.int .i64 0,.slice none 0 0],.slice none 0 0,.slice none 0 0],[]⟩ 8 (by kernel_rfl) (by kernel_rfl) (by kernel_rfl) (by kernel_rfl)) ?_
 intro W base args ds gs before FK hW P5 iK _
 have eK:∀(j:Nat) t v,Try.f5.params[j]? =some t→args[j]? =some v→Value.okWide Try.prog W .any base t v:=FK
 have hW':=hW
 obtain⟨p,q,hA0,hV,rfl,RG,dt⟩:=hW
 have hA:DataW.TrodAll enc Try.prog W 0 (fun _=>true) true Try.f5.params.toList args.toList ds p:=hA0
 rw[Try.params5] at hA eK
 obtain⟨v0,vs0,d0,ds0,p0,q0,b9,rfl,rfl,h0,r0⟩:=trodAll_cons hA
 obtain⟨v1,vs1,d1,ds1,p1,q1,rfl,rfl,rfl,h1,r1⟩:=trodAll_cons r0
 obtain⟨v2,vs2,d2,ds2,p2,q2,rfl,rfl,rfl,h2,r2⟩:=trodAll_cons r1
 obtain⟨rfl,rfl,rfl⟩:=trodAll_nil r2
 obtain rfl:args= #[v0,v1,v2]:=by cases args;simp_all
 obtain⟨rfl,rfl⟩:=trodVars_none hV
 have wt:∀(j:Nat) (t:TypeId) (d:DataW H),[24,28,25][j]? =some t→[d0,d1,d2][j]? =some d→∀n∈d.weights Try.prog t,n≤reachBytes:=by
  intro j t d ht hd
  have hj:j<3:=(List.getElem?_eq_some_iff.1 ht).1
  refine tS iK (j:=j) ?_ ?_
  ·rw[List.getElem?_append_left (by rw[Try.params5];exact hj),Try.params5];exact ht
  ·rw[List.getElem?_append_left (by simpa using hj)];exact hd
 obtain⟨N_,rfl⟩:=Ab.okWide_struct Try.underlying24 (eK 0 24 v0 rfl rfl)
 obtain⟨a1,l1,c1,rfl⟩:=okWide_slice Try.underlying28 (eK 1 28 v1 rfl rfl)
 obtain⟨a2,l2,c2,rfl⟩:=okWide_slice Try.underlying25 (eK 2 25 v2 rfl rfl)
 obtain⟨⟨x0,y0⟩,s0,o0⟩:=DZ IZ h0 (wt 0 24 d0 rfl rfl) rfl
 obtain⟨x1,s1,o1⟩:=xX wT h1 (wt 1 28 d1 rfl rfl) nV
 obtain⟨x2,s2,o2⟩:=xX ED h2 (wt 2 25 d2 rfl rfl) nV
 have lt0:∀x∈p0,x.block<W.heap.size:=by obtain⟨m,hm⟩:=h0;exact DataW.trod_lt m _ _ _ hm
 have lt1:∀x∈p1,x.block<W.heap.size:=by obtain⟨m,hm⟩:=h1;exact DataW.trod_lt m _ _ _ hm
 have lt2:∀x∈p2,x.block<W.heap.size:=by obtain⟨m,hm⟩:=h2;exact DataW.trod_lt m _ _ _ hm
 clear hA0 FK
 refine((yr x0 y0 x1 x2).calls (fun _=>True) W _ (fun _ _=>trivial) rfl ?_).mono fun e W' ⟨v,he,hv,bel⟩=>?_
 ·intro j v av hj vo
  match j,hj,vo with
  |0,hj,vo=>cases hj;cases vo;exact s0
  |1,hj,vo=>cases hj;cases vo;exact s1
  |2,hj,vo=>cases hj;cases vo;exact s2
  |j+3,hj,vo=>simp at vo
 ·obtain rfl:=D4 hv
  subst he
  exact⟨_,rfl,_,_,_,[],_,[],hW',trodAll_mk1 (shut_bool Try.underlying4 _),(trodAll_cons_mk (Below.trod laidOut (by kernel_rfl) (of_decide_eq_true (by kernel_rfl)) h0 bel lt0) (trodAll_cons_mk (Below.trod laidOut (by kernel_rfl) (of_decide_eq_true (by kernel_rfl)) h1 bel lt1) (trodAll_cons_mk (Below.trod laidOut (by kernel_rfl) (of_decide_eq_true (by kernel_rfl)) h2 bel lt2) trodAll_mk0))),rfl,bel.frame _,fun h=>by cases h⟩
theorem jk:Rows.topSymmetricLemmasRow.holds Try.pinned (OpenSpec.ofChange Rows.topSymmetricLemmasSpec):=
 OpenClaim.holds_of_wide 5 Try.f5 rfl rfl rfl rfl rfl rfl rfl ⟨rfl,rfl,rfl,rfl,rfl⟩ rfl rfl rfl rfl rfl (by kernel_rfl) Try.func5 (by kernel_rfl)
  (of_decide_eq_true (by kernel_rfl)) (by unfold Func.isWrapper;first|(rw[if_pos (by decide+kernel)];kernel_rfl)|(rw[if_neg (by decide+kernel)];exact⟨rfl,rfl⟩))
  (fun os started H enc _=>lifted os started H enc)
theorem proved:Rows.TopSymmetricLemmasSaid:=jk
#print axioms proved
end Go.Proofs.Ytigjjjpcjnifhaa.Law3
