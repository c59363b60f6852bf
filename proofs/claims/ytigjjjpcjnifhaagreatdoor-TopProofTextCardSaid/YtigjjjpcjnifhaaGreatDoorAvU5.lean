/- Chapter 23: valid symmetries. -/
import Derived.Test.YtigjjjpcjnifhaaGreatDoorAvC2
import Derived.Test.YtigjjjpcjnifhaaGreatDoorAbZ
import Derived.Test.YtigjjjpcjnifhaaGreatDoorAbL3
set_option linter.unusedSimpArgs false
set_option linter.unusedVariables false
open Int renaming natAbs→eQ
open List renaming mem_map→bw,mem_append→bW,mem_singleton→cp,map_append→cU,map_cons→bA,map_nil→bZ,nodup_append→cm,getElem_mem→cZ,take_zero→dr,map_replicate→dH,map_set→eR,drop_eq_getElem_cons→dm,mem_of_mem_eraseIdx→eS,length_eraseIdx_le→eT,length_drop→cQ,sum_cons→eU
open Nat renaming reduceBEq→di,zero_le→bk,le_trans→aQ
namespace Go.Ab
open Go Go.Proofs
open Nat (reduceAdd reduceSub)
set_option maxRecDepth 20000
set_option maxHeartbeats 4000000
def pA (n:Nat) (l:List Int):List Bool:=(List.range n).map fun v=>decide ((v+1)∈l.map eQ)
theorem CE (n:Nat) (l:List Int):(pA n l).length=n:=by unfold pA;simp
theorem sY {n:Nat} {l:List Int} {v:Nat} (h:v<(pA n l).length):(pA n l)[v]=decide ((v+1)∈l.map eQ):=by unfold pA;simp
theorem lN (n:Nat):pA n []=List.replicate n false:=by
 unfold pA
 rw[List.eq_replicate_iff]
 simp
theorem Jd {n:Nat} {l:List Int} {k v:Nat} (hk:k<l.length) (hv:v+1=l[k].natAbs):(pA n (l.take k)).set v true=pA n (l.take (k+1)):=by
 apply List.ext_getElem
 ·simp [CE]
 ·intro j h1 h2
  rw[List.getElem_set]
  by_cases e:v=j
  ·subst e
   rw[if_pos rfl,sY,fP hk]
   exact(decide_eq_true (bw.2 ⟨l[k],bW.2 (.inr (cp.2 rfl)),hv.symm⟩)).symm
  ·rw[if_neg e,sY,sY,fP hk]
   simp only[cU,bW,bA,bZ,cp]
   have:¬j+1=l[k].natAbs:=by omega
   simp [this]
theorem xb {l:List Int} {k:Nat} (hk:k<l.length):((l.take (k+1)).map eQ).Nodup↔((l.take k).map eQ).Nodup∧l[k].natAbs∉(l.take k).map eQ:=by
 rw[fP hk,cU,cm]
 simp only[bA,bZ,cp]
 constructor
 ·rintro⟨h1,_,h2⟩
  exact⟨h1,fun h=>h2 _ h _ rfl rfl⟩
 ·rintro⟨h1,h2⟩
  exact⟨h1,by simp,fun a ha b hb e=>h2 (by rw[← hb,← e];exact ha)⟩
theorem Hy {l:List Int} {k:Nat} (hk:k<l.length) (h:l[k].natAbs∈(l.take k).map eQ):¬(l.map eQ).Nodup:=fun hn=>by
 have h1:((l.take (k+1)).map eQ).Nodup:=by
  rw[← List.take_append_drop (k+1) l,cU] at hn
  exact(cm.1 hn).1
 exact((xb hk).1 h1).2 h
theorem vT {α:Type} {p:α→Bool} {l:List α} {k:Nat} (hk:k<l.length):(l.take (k+1)).all p=((l.take k).all p && p l[k]):=by
 rw[fP hk,List.all_append];simp
theorem sC {α:Type} {p:α→Bool} {l:List α} {k:Nat} (hk:k<l.length):(l.take (k+1)).any p=((l.take k).any p||p l[k]):=by
 rw[fP hk,List.any_append];simp
theorem vu {α:Type} {p:α→Bool} {l:List α} {k:Nat} (hk:k<l.length) (h:p l[k]=true):l.any p=true:=List.any_eq_true.2 ⟨_,cZ hk,h⟩
theorem D2 {α:Type} {p:α→Bool} {l:List α} {k:Nat} (hk:k<l.length) (h:p l[k]=false):l.all p=false:=List.all_eq_false.2 ⟨_,cZ hk,by simp [h]⟩
def Ei (cl:List (List Int)) (sym c:List Int):Bool:=cl.any fun d=>decide (canon d=canon (mN sym c))
def jg (vars:Int) (cl:List (List Int)) (sym:List Int):Bool:=decide ((sym.length:Int)=vars) && e_ vars sym && decide ((sym.map eQ).Nodup) && cl.all (Ei cl sym)
attribute [local irreducible] AW a_ ga ft AR fB fp fG fU canon l4 kd ox pA mN e_
theorem Ih (vars:Int) (cl:List (List Int)) (sym:List Int) (hf:TO vars cl) (hs:sym.length≤100000):Fn Tryz.prog 67 [H6 vars cl,.pv (ints sym)] (fu (jg vars cl sym)):=by
 have hv:=hf.hv
 have h3:=hf.h3
 have hw:=oX vars sym (by omega)
 by_cases e1:(sym.length:Int)=vars
 ·cases e2:e_ vars sym with
  |false=>
   rw[e2] at hw
   have hr:jg vars cl sym=false:=by unfold jg;rw[e2];simp
   rw[hr]
   refine Fn.enter (n:=62) Tryz.func67 rfl rfl rfl rfl rfl (by decide) fun g fE fD=>?_;(try refine nz ?_)
   (refine PG ?_;refine DE ?_;refine zy ?_;refine kO ?_;refine zA (hw) ?_;refine ud ?_;refine vc ?_)
   (apply e9;(exact gn.one (.tmp rfl rfl));(refine Le.fu ?_;(rfl)))
  |true=>
   rw[e2] at hw
   have hb:=fI e2
   obtain⟨n,rfl⟩:∃n:Nat,vars=n:=⟨vars.toNat,by omega⟩
   refine Fn.enter (n:=62) Tryz.func67 rfl rfl rfl rfl rfl (by decide) fun g fE fD=>?_;(try refine nz ?_)
   (refine PG ?_;refine DE ?_;refine zy ?_;refine kO ?_;refine zA (hw) ?_;refine ud ?_;refine C9 ?_;refine u7 ?_;refine Rg ?_;refine nz ?_;refine sH ?_;refine u_ ?_;refine nj ?_)
   (refine nz ?_;apply AW.gP [28,27,2,1] [0] (fun i:Nat=>([(5,.own 1 4 1 ((pA n (sym.take i)).map oI)),(29,e7 i)]:List (Nat×AV))) (fun i:Nat=>([(1,some .row)]:List (Nat×Option Ob))) (fun i:Nat=>i≤sym.length∧((sym.take i).map eQ).Nodup) (fun i:Nat=>sym.length - i) (0);(conv=>lhs;simp only[Nf.n7,Nf.all,di,reduceAdd,reduceSub]);(all_goals skip))
   ·exact⟨bk _,by simp⟩
   ·exact fy rfl (by(refine⟨.fj (by first|rfl|(rw[dr,lN,dH];rfl)) rfl,?_⟩;refine⟨.gx (by first|rfl|(rw[dr,lN,dH];rfl)),?_⟩;refine⟨.gx (by first|rfl|(rw[dr,lN,dH];rfl)),?_⟩;refine⟨.ia (by first|rfl|(rw[dr,lN,dH];rfl)),?_⟩;refine aC ?_;refine⟨.ia (by first|rfl|(rw[dr,lN,dH];rfl)),?_⟩;exact trivial)) (by(refine aF ?_;refine⟨.box _ rfl ?_,?_⟩;refine⟨.gx (by first|rfl|(rw[dr,lN,dH];rfl)),?_⟩;refine⟨.ia (by first|rfl|(rw[dr,lN,dH];rfl)),?_⟩;(iterate 2 exact trivial))) rfl
   rintro i ⟨hi,jy⟩
   have sL:=CE n (sym.take i)
   by_cases fx:i<sym.length
   ·obtain⟨b1,b2,b3⟩:=hb _ (cZ fx)
    have Uf:(max sym[i] (-sym[i]) - 1).toNat<(pA n (sym.take i)).length:=by rw[sL];omega
    have PO:(max sym[i] (-sym[i]) - 1).toNat+1=sym[i].natAbs:=by omega
    have hg:=sY Uf
    rw[PO] at hg
    by_cases hm:sym[i].natAbs∈(sym.take i).map eQ
    ·rw[decide_eq_true hm] at hg
     have hr:jg n cl sym=false:=by unfold jg;rw[decide_eq_false (Hy fx hm)];simp
     rw[hr]
     (refine FB ?_;refine aA ?_;refine zr ?_;refine xv ?_;refine JZ ?_;refine a_.sub rfl rfl rfl rfl rfl aJ ?_;refine Lj ?_;refine xY ?_;refine s8 ?_;refine au ?_;refine zd ?_;refine AW.DL rfl rfl (by assumption) ?_;refine mF ?_;refine xL ?_;refine zJ ?_)
     (apply e9;(exact gn.one (.tmp rfl rfl));(refine Le.fu ?_;(rfl)))
    ·rw[decide_eq_false hm] at hg
     have F0:=Jd (n:=n) fx PO
     (refine FB ?_;refine aA ?_;refine zr ?_;refine xv ?_;refine JZ ?_;refine a_.sub rfl rfl rfl rfl rfl aJ ?_;refine Lj ?_;refine xY ?_;refine s8 ?_;refine au ?_;refine zd ?_;refine AW.y_ rfl rfl (by assumption) ?_;refine FA ?_;refine p_ ?_;refine xY ?_;refine s8 ?_;refine a_.gA rfl rfl rfl rfl rfl rfl rfl rfl ?_;refine xK ?_)
     exact⟨i+1,⟨by omega,(xb fx).2 ⟨jy,hm⟩⟩,by omega,fy rfl (by(refine⟨.fj (by first|rfl|(rw[← F0,eR];rfl)) rfl,?_⟩;refine⟨.gx (by first|rfl|(rw[← F0,eR];rfl)),?_⟩;refine⟨.gx (by first|rfl|(rw[← F0,eR];rfl)),?_⟩;refine⟨.ia (by first|rfl|(rw[← F0,eR];rfl)),?_⟩;refine aC ?_;refine⟨.ia (by first|rfl|(rw[← F0,eR];rfl)),?_⟩;exact trivial)) (by(refine aF ?_;refine⟨.box _ rfl ?_,?_⟩;refine⟨.gx (by first|rfl|(rw[← F0,eR];rfl)),?_⟩;refine⟨.ia (by first|rfl|(rw[← F0,eR];rfl)),?_⟩;(iterate 2 exact trivial))) rfl⟩
   ·rw[iv (l:=sym) aJ] at jy
    have hr:jg n cl sym=cl.all (Ei cl sym):=by unfold jg;rw[decide_eq_true e1,e2,decide_eq_true jy];simp
    rw[hr]
    (refine uB ?_;refine qN ?_;refine pE ?_;refine nj ?_)
    (refine nz ?_;apply AW.gP [48,47,2,1] [0] (fun k:Nat=>([(49,e7 k)]:List (Nat×AV))) (fun k:Nat=>([]:List (Nat×Option Ob))) (fun k:Nat=>k≤cl.length∧(cl.take k).all (Ei cl sym)=true) (fun k:Nat=>cl.length - k) (0);(conv=>lhs;simp only[Nf.n7,Nf.all,di,reduceAdd,reduceSub]);(all_goals skip))
    ·exact⟨bk _,rfl⟩
    ·exact TD
    rintro k ⟨hk,Cg⟩
    by_cases Db:k<cl.length
    ·obtain⟨c1,c2⟩:=hf.jq _ (cZ Db)
     rw[← e1] at c1
     have A1:=tZ hv e2
     have H2:=BM sym cl[k] A1 aJ c2 c1
     have uq:=CA sym cl[k]
     have has:=vT (p:=Ei cl sym) Db
     rw[Cg,Bool.true_and] at has
     have HT:Ei cl sym cl[k]=cl.any fun d=>decide (canon d=canon (mN sym cl[k])):=rfl
     generalize mN sym cl[k]=mp at H2 uq HT
     (refine FB ?_;refine aA ?_;refine zr ?_;refine xv ?_;(iterate 2 refine zm ?_);refine zP (H2) ?_;refine oy ?_;refine BC ?_;refine lz ?_;refine pE ?_;refine a_.ng rfl rfl rfl ?_;(with_reducible apply a_.inline (hf:=Tryz.func65));(with_reducible assumption);(iterate 10 exact rfl);intro g_ fE fD;refine wF ?_;refine a_.jA rfl rfl rfl ?_;(with_reducible apply a_.inline (hf:=Tryz.func86));(with_reducible assumption);(iterate 10 exact rfl);intro g_ fE fD;refine nz ?_;refine ta ?_;refine nj ?_)
     (refine nz ?_;apply AW.gP [7,0,1,1006,1005,1004,1000,1001,2058,2057,2056,2011,2049,2048,2047,2002,2001] [2,0] (fun j:Nat=>([(8,e7 j)]:List (Nat×AV))) (fun j:Nat=>([]:List (Nat×Option Ob))) (fun j:Nat=>j≤cl.length∧(cl.take j).any (fun d=>decide (canon d=canon mp))=false) (fun j:Nat=>cl.length - j) (0);(conv=>lhs;simp only[Nf.n7,Nf.all,di,reduceAdd,reduceSub]);(all_goals skip))
     ·exact⟨bk _,rfl⟩
     ·exact TD
     rintro j ⟨hj,zx⟩
     by_cases nZ:j<cl.length
     ·obtain⟨d1,d2⟩:=hf.jq _ (cZ nZ)
      have heq:=IH cl[j] mp aJ (by omega)
      have A4:=sC (p:=fun d=>decide (canon d=canon mp)) nZ
      rw[zx,Bool.false_or] at A4
      by_cases he:canon cl[j]=canon mp
      ·rw[decide_eq_true he] at heq
       have hy:Ei cl sym cl[k]=true:=by rw[HT];exact vu nZ (decide_eq_true he)
       rw[hy] at has
       clear HT
       (refine Ax ?_;refine aA ?_;refine zr ?_;(with_reducible apply a_.inline (hf:=Tryz.func91));(with_reducible assumption);(iterate 10 exact rfl);intro g_ fE fD;refine wF ?_;refine zb ?_;refine zA (heq) ?_;refine kH ?_;refine GQ ?_;refine Me ?_;refine qO ?_;refine pL ?_)
       exact⟨k+1,⟨by omega,has⟩,by omega,fy rfl (by(first|(refine aC ?_;(iterate 17 refine aC ?_);exact trivial)|(refine aC ?_;(iterate 4 refine aC ?_);exact trivial))) (by(first|(refine⟨.box _ rfl ?_,?_⟩;refine aC ?_;exact trivial;refine⟨.box _ rfl ?_,?_⟩;(iterate 2 refine aC ?_);(iterate 2 exact trivial))|(refine⟨.box _ rfl ?_,?_⟩;(iterate 2 refine aC ?_);(iterate 2 exact trivial)))) rfl⟩
      ·rw[decide_eq_false he] at heq A4
       clear HT
       (refine Ax ?_;refine aA ?_;refine zr ?_;(with_reducible apply a_.inline (hf:=Tryz.func91));(with_reducible assumption);(iterate 10 exact rfl);intro g_ fE fD;refine wF ?_;refine zb ?_;refine zA (heq) ?_;refine kH ?_;refine xq ?_;refine qO ?_;refine yy ?_)
       exact⟨j+1,⟨by omega,A4⟩,by omega,fy rfl (by(first|(refine aC ?_;(iterate 17 refine aC ?_);exact trivial)|(refine aC ?_;(iterate 4 refine aC ?_);exact trivial))) (by(first|(refine⟨.box _ rfl ?_,?_⟩;refine aC ?_;exact trivial;refine⟨.box _ rfl ?_,?_⟩;(iterate 2 refine aC ?_);(iterate 2 exact trivial))|(refine⟨.box _ rfl ?_,?_⟩;(iterate 2 refine aC ?_);(iterate 2 exact trivial)))) rfl⟩
     ·rw[iv (l:=cl) aJ] at zx
      rw[zx] at HT
      rw[D2 Db HT]
      (refine uB ?_;refine oH ?_;refine Me ?_;refine yW ?_;refine oH ?_;refine zJ ?_)
      (apply e9;(exact gn.one (.tmp rfl rfl));(refine Le.fu ?_;(rfl)))
    ·rw[iv (l:=cl) aJ] at Cg
     rw[Cg]
     (refine uB ?_;refine oH ?_)
     (apply e9;(exact gn.one (.tmp rfl rfl));(refine Le.fu ?_;(rfl)))
 ·have hr:jg vars cl sym=false:=by unfold jg;rw[decide_eq_false e1];simp
  rw[hr]
  refine Fn.enter (n:=62) Tryz.func67 rfl rfl rfl rfl rfl (by decide) fun g fE fD=>?_;(try refine nz ?_)
  (refine PG ?_;refine zm ?_;(iterate 5 refine a_.jR rfl rfl rfl rfl rfl rfl (by with_reducible assumption) ?_);refine zT ?_;refine vc ?_)
  (apply e9;(exact gn.one (.tmp rfl rfl));(refine Le.fu ?_;(rfl)))
end Go.Ab
/- Chapter 23:the checker's steps,in plain terms. -/
namespace Go.Ab
open Go Go.Proofs
set_option maxRecDepth 20000
set_option maxHeartbeats 4000000
structure gH where
 kind:Int
 lits:List Int
 sym:Int
abbrev encS (t:gH):List PV:=[.lit (.int .i64 t.kind),ints t.lits,.lit (.int .i64 t.sym)]
abbrev steps (l:List gH):PV:=.slice 3 (l.map encS)
structure n5 where
 vars:Int
 cl:List (List Int)
 ref:Bool
structure pK where
 v0:Int
 cl0:List (List Int)
 syms:List (List Int)
def pK.valid (e:pK):List Bool:=e.syms.map (jg e.v0 e.cl0)
def w9 (s:n5) (c:List Int):n5:=⟨s.vars,s.cl++ [c],s.ref||decide ((c.length:Int)=0)⟩
def N7 (w c:List Int):Bool:=decide (canon c=canon w)
def lM (v0:Int) (sym w c:List Int):Bool:=e_ v0 c && decide (canon (mN sym c)=canon w)
def ni (s:n5) (t:gH):Option n5:=if t.sym=0∧e_ s.vars t.lits=true∧hU s.vars s.cl t.lits=true then some (w9 s t.lits) else none
def lY (s:n5) (t:gH):Option n5:=if t.sym=0∧e_ s.vars t.lits=true∧s.cl.any (N7 t.lits)=true then some ⟨s.vars,s.cl.eraseIdx (s.cl.findIdx (N7 t.lits)),s.ref⟩ else none
def defs (g:Int) (r:List Int):List (List Int):=(r.map fun x=>[-g,x])++ [g::r.map fun x=> -x]
def kK (s:n5) (t:gH):Option n5:=if t.sym=0∧2≤t.lits.length∧t.lits.getD 0 0=s.vars+1∧t.lits.getD 0 0≤20000∧e_ s.vars (t.lits.drop 1)=true then some ⟨s.vars+1,s.cl++defs (t.lits.getD 0 0) (t.lits.drop 1),s.ref⟩ else none
def pj (e:pK) (s:n5) (t:gH):Option n5:=
 if e_ s.vars t.lits=true∧(0≤t.sym∧t.sym<e.syms.length)∧jg e.v0 e.cl0 (e.syms.getD t.sym.toNat [])=true∧s.cl.any (lM e.v0 (e.syms.getD t.sym.toNat []) t.lits)=true then some (w9 s t.lits) else none
def ig (e:pK) (s:n5) (t:gH):Option n5:=if t.kind=1 then ni s t else if t.kind=2 then lY s t else if t.kind=3 then kK s t else if t.kind=4 then pj e s t else none
def jd (e:pK):n5→List gH→n5×Nat
 |s,[]=>(s,0)
 |s,t::l=>match ig e s t with
  |none=>(s,0)
  |some s'=>((jd e s' l).1,(jd e s' l).2+1)
theorem gR {e:pK} {s:n5} {l:List gH} {i:Nat} (hi:i<l.length) (h:ig e s l[i]=none):jd e s (l.drop i)=(s,0):=by
 rw[dm hi,jd,h]
theorem qq {e:pK} {s s':n5} {l:List gH} {i:Nat} (hi:i<l.length) (h:ig e s l[i]=some s'):jd e s (l.drop i)=((jd e s' (l.drop (i+1))).1,(jd e s' (l.drop (i+1))).2+1):=by
 rw[dm hi,jd,h]
def iB (v:Int) (cl:List (List Int)):n5:=⟨v,cl,cl.any fun c=>decide ((c.length:Int)=0)⟩
structure nf (B:Nat) (s:n5):Prop where
 hv:0≤s.vars∧s.vars≤20000
 jq:∀c∈s.cl,e_ s.vars c=true∧c.length≤1000
 len:s.cl.length≤B
theorem nf.f {B:Nat} {s:n5} (h:nf B s) (hB:B≤1000000):TO s.vars s.cl:=⟨by have:=h.hv;omega,fun c hc=>⟨(h.jq c hc).1,by have:=(h.jq c hc).2;omega⟩,by have:=h.len;omega⟩
theorem qo {v w:Int} {l:List Int} (h:v≤w) (hl:e_ v l=true):e_ w l=true:=by
 unfold e_ at hl ⊢
 rw[List.all_eq_true] at hl ⊢
 intro x hx
 have:=hl x hx
 simp only[decide_eq_true_eq] at this ⊢
 exact⟨this.1,by omega,by omega⟩
theorem nf.add {B:Nat} {s:n5} (h:nf B s) {c:List Int} (hw:e_ s.vars c=true) (hl:c.length≤1000):nf (B+1) (w9 s c):=
 ⟨h.hv,fun d hd=>by
  rcases bW.1 hd with hd|hd
  ·exact h.jq d hd
  ·simp at hd;subst hd;exact⟨hw,hl⟩,by show(s.cl++ [c]).length≤B+1;have:=h.len;simp;omega⟩
theorem kS {v x:Int} {l:List Int} (hx:x≠0∧x≤v∧0 - v≤x) (hl:e_ v l=true):e_ v (x::l)=true:=by
 unfold e_ at hl ⊢
 rw[List.all_cons,hl,Bool.and_true,decide_eq_true_eq]
 exact hx
theorem uF {v:Int} {l:List Int} (hl:e_ v l=true):e_ v (l.map fun x=> -x)=true:=by
 have:=wI hl
 rwa [LQ]
theorem nf.step {B:Nat} {e:pK} {s s':n5} {t:gH} (h:nf B s) (hl:t.lits.length≤900) (hs:ig e s t=some s'):nf (B+1000) s':=by
 have mono:∀{C:Nat} {u:n5},nf C u→C≤B+1000→nf (B+1000) u:=fun hu hc=>⟨hu.hv,hu.jq,aQ hu.len hc⟩
 unfold ig at hs
 split at hs
 ·unfold ni at hs
  split at hs
  ·rename_i hc
   cases hs
   exact mono (h.add hc.2.1 aJ) (by omega)
  ·cases hs
 ·split at hs
  ·unfold lY at hs
   split at hs
   ·cases hs
    exact⟨h.hv,fun c hc=>h.jq c (eS hc),by
     show(s.cl.eraseIdx _).length≤_
     have:=eT s.cl (s.cl.findIdx (N7 t.lits))
     have:=h.len
     omega⟩
   ·cases hs
  ·split at hs
   ·unfold kK at hs
    split at hs
    ·rename_i hc
     obtain⟨_,c2,c3,c4,c5⟩:=hc
     cases hs
     have hv:=h.hv
     have hr:(t.lits.drop 1).length≤900:=by rw[cQ];omega
     generalize t.lits.getD 0 0=g at c3 c4 ⊢
     generalize t.lits.drop 1=r at c5 hr ⊢
     have w5:e_ (s.vars+1) r=true:=qo aJ c5
     refine⟨⟨by show 0≤s.vars+1;omega,by show s.vars+1≤20000;omega⟩,fun d hd=>?_,?_⟩
     ·show e_ (s.vars+1) d=true∧d.length≤1000
      rcases bW.1 hd with hd|hd
      ·exact⟨qo aJ (h.jq d hd).1,(h.jq d hd).2⟩
      ·rcases bW.1 hd with hd|hd
       ·obtain⟨x,hx,rfl⟩:=bw.1 hd
        have Ba:=fI w5 x hx
        refine⟨kS aJ (kS aJ rfl),by simp⟩
       ·simp at hd
        subst hd
        refine⟨kS aJ (uF w5),by simp;omega⟩
     ·show(s.cl++defs g r).length≤_
      have:=h.len
      unfold defs
      simp
      omega
    ·cases hs
   ·split at hs
    ·unfold pj at hs
     split at hs
     ·rename_i hc
      cases hs
      exact mono (h.add hc.1 aJ) (by omega)
     ·cases hs
    ·cases hs
end Go.Ab
/- The checker's steps:finer bounds. -/
namespace Go.Ab
open Go Go.Proofs
def wT (t:gH):Nat:=if t.kind=3 then t.lits.length+1 else 1
theorem Jo (t:gH):1≤wT t:=by unfold wT;split<;>omega
theorem nf.step2 {B:Nat} {e:pK} {s s':n5} {t:gH} (h:nf B s) (hl:t.lits.length≤900) (hs:ig e s t=some s'):nf (B+wT t) s':=by
 have hp:=Jo t
 have mono:∀{C:Nat} {u:n5},nf C u→C≤B+wT t→nf (B+wT t) u:=fun hu hc=>⟨hu.hv,hu.jq,aQ hu.len hc⟩
 unfold ig at hs
 split at hs
 ·unfold ni at hs
  split at hs
  ·rename_i hc
   cases hs
   exact mono (h.add hc.2.1 aJ) (by omega)
  ·cases hs
 ·split at hs
  ·unfold lY at hs
   split at hs
   ·cases hs
    exact⟨h.hv,fun c hc=>h.jq c (eS hc),by
     show(s.cl.eraseIdx _).length≤_
     have:=eT s.cl (s.cl.findIdx (N7 t.lits))
     have:=h.len
     omega⟩
   ·cases hs
  ·split at hs
   ·rename_i k3
    have hw3:wT t=t.lits.length+1:=if_pos k3
    rw[hw3] at hp mono ⊢
    unfold kK at hs
    split at hs
    ·rename_i hc
     obtain⟨_,c2,c3,c4,c5⟩:=hc
     cases hs
     have hv:=h.hv
     have hr:(t.lits.drop 1).length≤900:=by rw[cQ];omega
     have UZ:(t.lits.drop 1).length+1=t.lits.length:=by rw[cQ];omega
     generalize t.lits.getD 0 0=g at c3 c4 ⊢
     generalize t.lits.drop 1=r at c5 hr UZ ⊢
     have w5:e_ (s.vars+1) r=true:=qo aJ c5
     refine⟨⟨by show 0≤s.vars+1;omega,by show s.vars+1≤20000;omega⟩,fun d hd=>?_,?_⟩
     ·show e_ (s.vars+1) d=true∧d.length≤1000
      rcases bW.1 hd with hd|hd
      ·exact⟨qo aJ (h.jq d hd).1,(h.jq d hd).2⟩
      ·rcases bW.1 hd with hd|hd
       ·obtain⟨x,hx,rfl⟩:=bw.1 hd
        have Ba:=fI w5 x hx
        refine⟨kS aJ (kS aJ rfl),by simp⟩
       ·simp at hd
        subst hd
        refine⟨kS aJ (uF w5),by simp;omega⟩
     ·show(s.cl++defs g r).length≤_
      have:=h.len
      unfold defs
      simp
      omega
    ·cases hs
   ·split at hs
    ·unfold pj at hs
     split at hs
     ·rename_i hc
      cases hs
      exact mono (h.add hc.1 aJ) (by omega)
     ·cases hs
    ·cases hs
def wS (l:List gH):Nat:=(l.map wT).sum
theorem AU {l:List gH} {i:Nat} (h:i<l.length):wS (l.take (i+1))=wS (l.take i)+wT l[i]:=by
 unfold wS
 rw[List.take_succ_eq_append_getElem h,cU,List.sum_append];simp
theorem E_:∀(l:List gH) (i:Nat),wS (l.take i)≤wS l
 |[],i=>by simp
 |t::l,0=>by simp [wS]
 |t::l,i+1=>by
  have:=E_ l i
  unfold wS at*
  simp only[List.take_succ_cons,bA,eU]
  omega
theorem Ky:∀(l:List gH),l.length≤wS l
 |[]=>by simp
 |t::l=>by
  have:=Ky l
  have:=Jo t
  unfold wS at*
  simp only[List.length_cons,bA,eU]
  omega
end Go.Ab
