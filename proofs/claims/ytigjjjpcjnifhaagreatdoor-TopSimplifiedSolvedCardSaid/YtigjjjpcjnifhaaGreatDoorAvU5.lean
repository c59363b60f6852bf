/- Chapter 23: valid symmetries. -/
import Derived.Test.YtigjjjpcjnifhaaGreatDoorAvC2
import Derived.Test.YtigjjjpcjnifhaaGreatDoorAbZ
import Derived.Test.YtigjjjpcjnifhaaGreatDoorAbL3
set_option linter.unusedSimpArgs false
set_option linter.unusedVariables false
open Int renaming natAbs→eK
open List renaming mem_map→bx,mem_append→bX,mem_singleton→cq,map_append→cV,map_cons→bB,map_nil→b8,nodup_append→cp,getElem_mem→cZ,take_zero→dr,map_replicate→dH,map_set→eL,drop_eq_getElem_cons→dm,mem_of_mem_eraseIdx→eM,length_eraseIdx_le→eN,length_drop→cR,sum_cons→eO
open Nat renaming reduceBEq→di,zero_le→bm,le_trans→aQ
namespace Go.Ab
open Go Go.Proofs
open Nat (reduceAdd reduceSub)
set_option maxRecDepth 20000
set_option maxHeartbeats 4000000
def pf (n:Nat) (l:List Int):List Bool:=(List.range n).map fun v=>decide ((v+1)∈l.map eK)
theorem BG (n:Nat) (l:List Int):(pf n l).length=n:=by unfold pf;simp
theorem su {n:Nat} {l:List Int} {v:Nat} (h:v<(pf n l).length):(pf n l)[v]=decide ((v+1)∈l.map eK):=by unfold pf;simp
theorem lB (n:Nat):pf n []=List.replicate n false:=by
 unfold pf
 rw[List.eq_replicate_iff]
 simp
theorem HM {n:Nat} {l:List Int} {k v:Nat} (hk:k<l.length) (hv:v+1=l[k].natAbs):(pf n (l.take k)).set v true=pf n (l.take (k+1)):=by
 apply List.ext_getElem
 ·simp [BG]
 ·intro j h1 h2
  rw[List.getElem_set]
  by_cases e:v=j
  ·subst e
   rw[if_pos rfl,su,fw hk]
   exact(decide_eq_true (bx.2 ⟨l[k],bX.2 (.inr (cq.2 rfl)),hv.symm⟩)).symm
  ·rw[if_neg e,su,su,fw hk]
   simp only[cV,bX,bB,b8,cq]
   have:¬j+1=l[k].natAbs:=by omega
   simp [this]
theorem wA {l:List Int} {k:Nat} (hk:k<l.length):((l.take (k+1)).map eK).Nodup↔((l.take k).map eK).Nodup∧l[k].natAbs∉(l.take k).map eK:=by
 rw[fw hk,cV,cp]
 simp only[bB,b8,cq]
 constructor
 ·rintro⟨h1,_,h2⟩
  exact⟨h1,fun h=>h2 _ h _ rfl rfl⟩
 ·rintro⟨h1,h2⟩
  exact⟨h1,by simp,fun a ha b hb e=>h2 (by rw[← hb,← e];exact ha)⟩
theorem Gi {l:List Int} {k:Nat} (hk:k<l.length) (h:l[k].natAbs∈(l.take k).map eK):¬(l.map eK).Nodup:=fun hn=>by
 have h1:((l.take (k+1)).map eK).Nodup:=by
  rw[← List.take_append_drop (k+1) l,cV] at hn
  exact(cp.1 hn).1
 exact((wA hk).1 h1).2 h
theorem vC {α:Type} {p:α→Bool} {l:List α} {k:Nat} (hk:k<l.length):(l.take (k+1)).all p=((l.take k).all p && p l[k]):=by
 rw[fw hk,List.all_append];simp
theorem sB {α:Type} {p:α→Bool} {l:List α} {k:Nat} (hk:k<l.length):(l.take (k+1)).any p=((l.take k).any p||p l[k]):=by
 rw[fw hk,List.any_append];simp
theorem vb {α:Type} {p:α→Bool} {l:List α} {k:Nat} (hk:k<l.length) (h:p l[k]=true):l.any p=true:=List.any_eq_true.2 ⟨_,cZ hk,h⟩
theorem Co {α:Type} {p:α→Bool} {l:List α} {k:Nat} (hk:k<l.length) (h:p l[k]=false):l.all p=false:=List.all_eq_false.2 ⟨_,cZ hk,by simp [h]⟩
def CU (cl:List (List Int)) (sym c:List Int):Bool:=cl.any fun d=>decide (canon d=canon (mr sym c))
def iM (vars:Int) (cl:List (List Int)) (sym:List Int):Bool:=decide ((sym.length:Int)=vars) && eX vars sym && decide ((sym.map eK).Nodup) && cl.all (CU cl sym)
attribute [local irreducible] AW a_ gb fq AR fz fk fJ fX canon iV j3 nP pf mr eX
theorem H2 (vars:Int) (cl:List (List Int)) (sym:List Int) (hf:Qm vars cl) (hs:sym.length≤100000):Fn Tryz.prog 67 [F7 vars cl,.pv (ints sym)] (fh (iM vars cl sym)):=by
 have hv:=hf.hv
 have h3:=hf.h3
 have hw:=oh vars sym (by omega)
 by_cases e1:(sym.length:Int)=vars
 ·cases e2:eX vars sym with
  |false=>
   rw[e2] at hw
   have hr:iM vars cl sym=false:=by unfold iM;rw[e2];simp
   rw[hr]
   refine Fn.enter (n:=62) Tryz.func67 rfl rfl rfl rfl rfl (by decide) fun g fD fB=>?_;(try refine nz ?_)
   (refine Qy ?_;refine wL ?_)
   (apply e6;(exact gk.one (.tmp rfl rfl));(refine Le.fh ?_;(rfl)))
  |true=>
   rw[e2] at hw
   have hb:=fE e2
   obtain⟨n,rfl⟩:∃n:Nat,vars=n:=⟨vars.toNat,by omega⟩
   refine Fn.enter (n:=62) Tryz.func67 rfl rfl rfl rfl rfl (by decide) fun g fD fB=>?_;(try refine nz ?_)
   (refine Qy ?_;refine se ?_;refine xB ?_;refine a_.mY rfl rfl rfl rfl rfl rfl rfl rfl rfl rfl aJ ?_;refine nz ?_;refine D3 ?_;refine qw ?_;refine zm ?_;refine n_ ?_)
   (refine nz ?_;apply AW.gN [28,27,2,1] [0] (fun i:Nat=>([(5,.own 1 4 1 ((pf n (sym.take i)).map oz)),(29,eV i)]:List (Nat×AV))) (fun i:Nat=>([(1,some .row)]:List (Nat×Option Ob))) (fun i:Nat=>i≤sym.length∧((sym.take i).map eK).Nodup) (fun i:Nat=>sym.length - i) (0);(conv=>lhs;simp only[Nf.nN,Nf.all,di,reduceAdd,reduceSub]);(all_goals skip))
   ·exact⟨bm _,by simp⟩
   ·exact fp rfl (by(refine⟨.e9 (by first|rfl|(rw[dr,lB,dH];rfl)) rfl,?_⟩;refine⟨.fQ (by first|rfl|(rw[dr,lB,dH];rfl)),?_⟩;refine⟨.fQ (by first|rfl|(rw[dr,lB,dH];rfl)),?_⟩;refine⟨.ib (by first|rfl|(rw[dr,lB,dH];rfl)),?_⟩;refine aC ?_;refine⟨.ib (by first|rfl|(rw[dr,lB,dH];rfl)),?_⟩;exact trivial)) (by(refine aF ?_;refine⟨.box _ rfl ?_,?_⟩;refine⟨.fQ (by first|rfl|(rw[dr,lB,dH];rfl)),?_⟩;refine⟨.ib (by first|rfl|(rw[dr,lB,dH];rfl)),?_⟩;(iterate 2 exact trivial))) rfl
   rintro i ⟨hi,jl⟩
   have yh:=BG n (sym.take i)
   by_cases fm:i<sym.length
   ·obtain⟨b1,b2,b3⟩:=hb _ (cZ fm)
    have Ra:(max sym[i] (-sym[i]) - 1).toNat<(pf n (sym.take i)).length:=by rw[yh];omega
    have Np:(max sym[i] (-sym[i]) - 1).toNat+1=sym[i].natAbs:=by omega
    have hg:=su Ra
    rw[Np] at hg
    by_cases hm:sym[i].natAbs∈(sym.take i).map eK
    ·rw[decide_eq_true hm] at hg
     have hr:iM n cl sym=false:=by unfold iM;rw[decide_eq_false (Gi fm hm)];simp
     rw[hr]
     (refine EG ?_;refine aA ?_;refine QO ?_;refine au ?_;refine zd ?_;refine AW.CX rfl rfl (by assumption) ?_;refine lf ?_;refine gH ?_;refine wu ?_)
     (apply e6;(exact gk.one (.tmp rfl rfl));(refine Le.fh ?_;(rfl)))
    ·rw[decide_eq_false hm] at hg
     have Eh:=HM (n:=n) fm Np
     (refine EG ?_;refine aA ?_;refine QO ?_;refine au ?_;refine zd ?_;refine AW.yQ rfl rfl (by assumption) ?_;refine Cd ?_;refine Fh ?_;refine zm ?_;refine rW ?_;refine a_.gu rfl rfl rfl rfl rfl rfl rfl rfl ?_;refine nz ?_;refine xz ?_)
     exact⟨i+1,⟨by omega,(wA fm).2 ⟨jl,hm⟩⟩,by omega,fp rfl (by(refine⟨.e9 (by first|rfl|(rw[← Eh,eL];rfl)) rfl,?_⟩;refine⟨.fQ (by first|rfl|(rw[← Eh,eL];rfl)),?_⟩;refine⟨.fQ (by first|rfl|(rw[← Eh,eL];rfl)),?_⟩;refine⟨.ib (by first|rfl|(rw[← Eh,eL];rfl)),?_⟩;refine aC ?_;refine⟨.ib (by first|rfl|(rw[← Eh,eL];rfl)),?_⟩;exact trivial)) (by(refine aF ?_;refine⟨.box _ rfl ?_,?_⟩;refine⟨.fQ (by first|rfl|(rw[← Eh,eL];rfl)),?_⟩;refine⟨.ib (by first|rfl|(rw[← Eh,eL];rfl)),?_⟩;(iterate 2 exact trivial))) rfl⟩
   ·rw[gC (l:=sym) aJ] at jl
    have hr:iM n cl sym=cl.all (CU cl sym):=by unfold iM;rw[decide_eq_true e1,e2,decide_eq_true jl];simp
    rw[hr]
    (refine lU ?_;refine qw ?_;refine vB ?_;refine n_ ?_)
    (refine nz ?_;apply AW.gN [48,47,2,1] [0] (fun k:Nat=>([(49,eV k)]:List (Nat×AV))) (fun k:Nat=>([]:List (Nat×Option Ob))) (fun k:Nat=>k≤cl.length∧(cl.take k).all (CU cl sym)=true) (fun k:Nat=>cl.length - k) (0);(conv=>lhs;simp only[Nf.nN,Nf.all,di,reduceAdd,reduceSub]);(all_goals skip))
    ·exact⟨bm _,rfl⟩
    ·exact SW
    rintro k ⟨hk,BY⟩
    by_cases Cj:k<cl.length
    ·obtain⟨c1,c2⟩:=hf.iR _ (cZ Cj)
     rw[← e1] at c1
     have Ft:=tb hv e2
     have GK:=A8 sym cl[k] Ft aJ c2 c1
     have t_:=AJ sym cl[k]
     have has:=vC (p:=CU cl sym) Cj
     rw[BY,Bool.true_and] at has
     have HI:CU cl sym cl[k]=cl.any fun d=>decide (canon d=canon (mr sym cl[k])):=rfl
     generalize mr sym cl[k]=mp at GK t_ HI
     (refine EG ?_;refine aA ?_;refine zr ?_;refine pB ?_;(iterate 2 refine zm ?_);refine zP (GK) ?_;refine uI ?_;refine DX ?_;refine zd ?_;refine zq ?_;refine vB ?_;refine a_.lE rfl rfl rfl ?_;(with_reducible apply a_.inline (hf:=Tryz.func65));(with_reducible assumption);(iterate 10 exact rfl);intro g_ fD fB;refine sW ?_;refine zm ?_;refine a_.j7 rfl rfl rfl ?_;(with_reducible apply a_.inline (hf:=Tryz.func86));(with_reducible assumption);(iterate 10 exact rfl);intro g_ fD fB;refine uw ?_;refine FY ?_)
     (refine nz ?_;apply AW.gN [7,0,1,1006,1005,1004,1000,1001,2058,2057,2056,2011,2049,2048,2047,2002,2001] [2,0] (fun j:Nat=>([(8,eV j)]:List (Nat×AV))) (fun j:Nat=>([]:List (Nat×Option Ob))) (fun j:Nat=>j≤cl.length∧(cl.take j).any (fun d=>decide (canon d=canon mp))=false) (fun j:Nat=>cl.length - j) (0);(conv=>lhs;simp only[Nf.nN,Nf.all,di,reduceAdd,reduceSub]);(all_goals skip))
     ·exact⟨bm _,rfl⟩
     ·exact SW
     rintro j ⟨hj,z6⟩
     by_cases qz:j<cl.length
     ·obtain⟨d1,d2⟩:=hf.iR _ (cZ qz)
      have heq:=Ig cl[j] mp aJ (by omega)
      have Aq:=sB (p:=fun d=>decide (canon d=canon mp)) qz
      rw[z6,Bool.false_or] at Aq
      by_cases he:canon cl[j]=canon mp
      ·rw[decide_eq_true he] at heq
       have hy:CU cl sym cl[k]=true:=by rw[HI];exact vb qz (decide_eq_true he)
       rw[hy] at has
       clear HI
       (refine yM ?_;refine aA ?_;refine zr ?_;(with_reducible apply a_.inline (hf:=Tryz.func91));(with_reducible assumption);(iterate 10 exact rfl);intro g_ fD fB;refine sW ?_;refine zm ?_;refine zb ?_;refine zA (heq) ?_;refine kQ ?_;refine FP ?_;refine LH ?_;refine rK ?_;refine oI ?_)
       exact⟨k+1,⟨by omega,has⟩,by omega,fp rfl (by(first|(refine aC ?_;(iterate 17 refine aC ?_);exact trivial)|(refine aC ?_;(iterate 4 refine aC ?_);exact trivial))) (by(first|(refine⟨.box _ rfl ?_,?_⟩;refine aC ?_;exact trivial;refine⟨.box _ rfl ?_,?_⟩;(iterate 2 refine aC ?_);(iterate 2 exact trivial))|(refine⟨.box _ rfl ?_,?_⟩;(iterate 2 refine aC ?_);(iterate 2 exact trivial)))) rfl⟩
      ·rw[decide_eq_false he] at heq Aq
       clear HI
       (refine yM ?_;refine aA ?_;refine zr ?_;(with_reducible apply a_.inline (hf:=Tryz.func91));(with_reducible assumption);(iterate 10 exact rfl);intro g_ fD fB;refine sW ?_;refine zm ?_;refine zb ?_;refine zA (heq) ?_;refine kQ ?_;refine w8 ?_;refine rK ?_;refine Ba ?_)
       exact⟨j+1,⟨by omega,Aq⟩,by omega,fp rfl (by(first|(refine aC ?_;(iterate 17 refine aC ?_);exact trivial)|(refine aC ?_;(iterate 4 refine aC ?_);exact trivial))) (by(first|(refine⟨.box _ rfl ?_,?_⟩;refine aC ?_;exact trivial;refine⟨.box _ rfl ?_,?_⟩;(iterate 2 refine aC ?_);(iterate 2 exact trivial))|(refine⟨.box _ rfl ?_,?_⟩;(iterate 2 refine aC ?_);(iterate 2 exact trivial)))) rfl⟩
     ·rw[gC (l:=cl) aJ] at z6
      rw[z6] at HI
      rw[Co Cj HI]
      (refine lU ?_;refine lf ?_;refine LH ?_;refine th ?_;refine lf ?_;refine wu ?_)
      (apply e6;(exact gk.one (.tmp rfl rfl));(refine Le.fh ?_;(rfl)))
    ·rw[gC (l:=cl) aJ] at BY
     rw[BY]
     (refine lU ?_;refine lf ?_)
     (apply e6;(exact gk.one (.tmp rfl rfl));(refine Le.fh ?_;(rfl)))
 ·have hr:iM vars cl sym=false:=by unfold iM;rw[decide_eq_false e1];simp
  rw[hr]
  refine Fn.enter (n:=62) Tryz.func67 rfl rfl rfl rfl rfl (by decide) fun g fD fB=>?_;(try refine nz ?_)
  (refine v8 ?_;refine zm ?_;refine zn ?_;refine xB ?_;refine a_.neq rfl rfl rfl rfl rfl ?_;refine zm ?_;(iterate 5 refine a_.jV rfl rfl rfl rfl rfl rfl (by with_reducible assumption) ?_);refine zT ?_;refine wL ?_)
  (apply e6;(exact gk.one (.tmp rfl rfl));(refine Le.fh ?_;(rfl)))
end Go.Ab
/- Chapter 23:the checker's steps,in plain terms. -/
namespace Go.Ab
open Go Go.Proofs
set_option maxRecDepth 20000
set_option maxHeartbeats 4000000
structure gB where
 kind:Int
 lits:List Int
 sym:Int
abbrev encS (t:gB):List PV:=[.lit (.int .i64 t.kind),ints t.lits,.lit (.int .i64 t.sym)]
abbrev steps (l:List gB):PV:=.slice 3 (l.map encS)
structure nM where
 vars:Int
 cl:List (List Int)
 ref:Bool
structure py where
 v0:Int
 cl0:List (List Int)
 syms:List (List Int)
def py.valid (e:py):List Bool:=e.syms.map (iM e.v0 e.cl0)
def vV (s:nM) (c:List Int):nM:=⟨s.vars,s.cl++ [c],s.ref||decide ((c.length:Int)=0)⟩
def MC (w c:List Int):Bool:=decide (canon c=canon w)
def lD (v0:Int) (sym w c:List Int):Bool:=eX v0 c && decide (canon (mr sym c)=canon w)
def mT (s:nM) (t:gB):Option nM:=if t.sym=0∧eX s.vars t.lits=true∧gR s.vars s.cl t.lits=true then some (vV s t.lits) else none
def lH (s:nM) (t:gB):Option nM:=if t.sym=0∧eX s.vars t.lits=true∧s.cl.any (MC t.lits)=true then some ⟨s.vars,s.cl.eraseIdx (s.cl.findIdx (MC t.lits)),s.ref⟩ else none
def defs (g:Int) (r:List Int):List (List Int):=(r.map fun x=>[-g,x])++ [g::r.map fun x=> -x]
def ku (s:nM) (t:gB):Option nM:=if t.sym=0∧2≤t.lits.length∧t.lits.getD 0 0=s.vars+1∧t.lits.getD 0 0≤20000∧eX s.vars (t.lits.drop 1)=true then some ⟨s.vars+1,s.cl++defs (t.lits.getD 0 0) (t.lits.drop 1),s.ref⟩ else none
def oT (e:py) (s:nM) (t:gB):Option nM:=
 if eX s.vars t.lits=true∧(0≤t.sym∧t.sym<e.syms.length)∧iM e.v0 e.cl0 (e.syms.getD t.sym.toNat [])=true∧s.cl.any (lD e.v0 (e.syms.getD t.sym.toNat []) t.lits)=true then some (vV s t.lits) else none
def hO (e:py) (s:nM) (t:gB):Option nM:=if t.kind=1 then mT s t else if t.kind=2 then lH s t else if t.kind=3 then ku s t else if t.kind=4 then oT e s t else none
def jg (e:py):nM→List gB→nM×Nat
 |s,[]=>(s,0)
 |s,t::l=>match hO e s t with
  |none=>(s,0)
  |some s'=>((jg e s' l).1,(jg e s' l).2+1)
theorem gM {e:py} {s:nM} {l:List gB} {i:Nat} (hi:i<l.length) (h:hO e s l[i]=none):jg e s (l.drop i)=(s,0):=by
 rw[dm hi,jg,h]
theorem p_ {e:py} {s s':nM} {l:List gB} {i:Nat} (hi:i<l.length) (h:hO e s l[i]=some s'):jg e s (l.drop i)=((jg e s' (l.drop (i+1))).1,(jg e s' (l.drop (i+1))).2+1):=by
 rw[dm hi,jg,h]
def iE (v:Int) (cl:List (List Int)):nM:=⟨v,cl,cl.any fun c=>decide ((c.length:Int)=0)⟩
structure mR (B:Nat) (s:nM):Prop where
 hv:0≤s.vars∧s.vars≤20000
 iR:∀c∈s.cl,eX s.vars c=true∧c.length≤1000
 len:s.cl.length≤B
theorem mR.f {B:Nat} {s:nM} (h:mR B s) (hB:B≤1000000):Qm s.vars s.cl:=⟨by have:=h.hv;omega,fun c hc=>⟨(h.iR c hc).1,by have:=(h.iR c hc).2;omega⟩,by have:=h.len;omega⟩
theorem ql {v w:Int} {l:List Int} (h:v≤w) (hl:eX v l=true):eX w l=true:=by
 unfold eX at hl ⊢
 rw[List.all_eq_true] at hl ⊢
 intro x hx
 have:=hl x hx
 simp only[decide_eq_true_eq] at this ⊢
 exact⟨this.1,by omega,by omega⟩
theorem mR.add {B:Nat} {s:nM} (h:mR B s) {c:List Int} (hw:eX s.vars c=true) (hl:c.length≤1000):mR (B+1) (vV s c):=
 ⟨h.hv,fun d hd=>by
  rcases bX.1 hd with hd|hd
  ·exact h.iR d hd
  ·simp at hd;subst hd;exact⟨hw,hl⟩,by show(s.cl++ [c]).length≤B+1;have:=h.len;simp;omega⟩
theorem kK {v x:Int} {l:List Int} (hx:x≠0∧x≤v∧0 - v≤x) (hl:eX v l=true):eX v (x::l)=true:=by
 unfold eX at hl ⊢
 rw[List.all_cons,hl,Bool.and_true,decide_eq_true_eq]
 exact hx
theorem tX {v:Int} {l:List Int} (hl:eX v l=true):eX v (l.map fun x=> -x)=true:=by
 have:=wi hl
 rwa [LI]
theorem mR.step {B:Nat} {e:py} {s s':nM} {t:gB} (h:mR B s) (hl:t.lits.length≤900) (hs:hO e s t=some s'):mR (B+1000) s':=by
 have mono:∀{C:Nat} {u:nM},mR C u→C≤B+1000→mR (B+1000) u:=fun hu hc=>⟨hu.hv,hu.iR,aQ hu.len hc⟩
 unfold hO at hs
 split at hs
 ·unfold mT at hs
  split at hs
  ·rename_i hc
   cases hs
   exact mono (h.add hc.2.1 aJ) (by omega)
  ·cases hs
 ·split at hs
  ·unfold lH at hs
   split at hs
   ·cases hs
    exact⟨h.hv,fun c hc=>h.iR c (eM hc),by
     show(s.cl.eraseIdx _).length≤_
     have:=eN s.cl (s.cl.findIdx (MC t.lits))
     have:=h.len
     omega⟩
   ·cases hs
  ·split at hs
   ·unfold ku at hs
    split at hs
    ·rename_i hc
     obtain⟨_,c2,c3,c4,c5⟩:=hc
     cases hs
     have hv:=h.hv
     have hr:(t.lits.drop 1).length≤900:=by rw[cR];omega
     generalize t.lits.getD 0 0=g at c3 c4 ⊢
     generalize t.lits.drop 1=r at c5 hr ⊢
     have w5:eX (s.vars+1) r=true:=ql aJ c5
     refine⟨⟨by show 0≤s.vars+1;omega,by show s.vars+1≤20000;omega⟩,fun d hd=>?_,?_⟩
     ·show eX (s.vars+1) d=true∧d.length≤1000
      rcases bX.1 hd with hd|hd
      ·exact⟨ql aJ (h.iR d hd).1,(h.iR d hd).2⟩
      ·rcases bX.1 hd with hd|hd
       ·obtain⟨x,hx,rfl⟩:=bx.1 hd
        have EH:=fE w5 x hx
        refine⟨kK aJ (kK aJ rfl),by simp⟩
       ·simp at hd
        subst hd
        refine⟨kK aJ (tX w5),by simp;omega⟩
     ·show(s.cl++defs g r).length≤_
      have:=h.len
      unfold defs
      simp
      omega
    ·cases hs
   ·split at hs
    ·unfold oT at hs
     split at hs
     ·rename_i hc
      cases hs
      exact mono (h.add hc.1 aJ) (by omega)
     ·cases hs
    ·cases hs
end Go.Ab
/- The checker's steps:finer bounds. -/
namespace Go.Ab
open Go Go.Proofs
def wT (t:gB):Nat:=if t.kind=3 then t.lits.length+1 else 1
theorem G_ (t:gB):1≤wT t:=by unfold wT;split<;>omega
theorem mR.step2 {B:Nat} {e:py} {s s':nM} {t:gB} (h:mR B s) (hl:t.lits.length≤900) (hs:hO e s t=some s'):mR (B+wT t) s':=by
 have hp:=G_ t
 have mono:∀{C:Nat} {u:nM},mR C u→C≤B+wT t→mR (B+wT t) u:=fun hu hc=>⟨hu.hv,hu.iR,aQ hu.len hc⟩
 unfold hO at hs
 split at hs
 ·unfold mT at hs
  split at hs
  ·rename_i hc
   cases hs
   exact mono (h.add hc.2.1 aJ) (by omega)
  ·cases hs
 ·split at hs
  ·unfold lH at hs
   split at hs
   ·cases hs
    exact⟨h.hv,fun c hc=>h.iR c (eM hc),by
     show(s.cl.eraseIdx _).length≤_
     have:=eN s.cl (s.cl.findIdx (MC t.lits))
     have:=h.len
     omega⟩
   ·cases hs
  ·split at hs
   ·rename_i k3
    have ZJ:wT t=t.lits.length+1:=if_pos k3
    rw[ZJ] at hp mono ⊢
    unfold ku at hs
    split at hs
    ·rename_i hc
     obtain⟨_,c2,c3,c4,c5⟩:=hc
     cases hs
     have hv:=h.hv
     have hr:(t.lits.drop 1).length≤900:=by rw[cR];omega
     have TA:(t.lits.drop 1).length+1=t.lits.length:=by rw[cR];omega
     generalize t.lits.getD 0 0=g at c3 c4 ⊢
     generalize t.lits.drop 1=r at c5 hr TA ⊢
     have w5:eX (s.vars+1) r=true:=ql aJ c5
     refine⟨⟨by show 0≤s.vars+1;omega,by show s.vars+1≤20000;omega⟩,fun d hd=>?_,?_⟩
     ·show eX (s.vars+1) d=true∧d.length≤1000
      rcases bX.1 hd with hd|hd
      ·exact⟨ql aJ (h.iR d hd).1,(h.iR d hd).2⟩
      ·rcases bX.1 hd with hd|hd
       ·obtain⟨x,hx,rfl⟩:=bx.1 hd
        have EH:=fE w5 x hx
        refine⟨kK aJ (kK aJ rfl),by simp⟩
       ·simp at hd
        subst hd
        refine⟨kK aJ (tX w5),by simp;omega⟩
     ·show(s.cl++defs g r).length≤_
      have:=h.len
      unfold defs
      simp
      omega
    ·cases hs
   ·split at hs
    ·unfold oT at hs
     split at hs
     ·rename_i hc
      cases hs
      exact mono (h.add hc.1 aJ) (by omega)
     ·cases hs
    ·cases hs
def wS (l:List gB):Nat:=(l.map wT).sum
theorem yN {l:List gB} {i:Nat} (h:i<l.length):wS (l.take (i+1))=wS (l.take i)+wT l[i]:=by
 unfold wS
 rw[List.take_succ_eq_append_getElem h,cV,List.sum_append];simp
theorem EU:∀(l:List gB) (i:Nat),wS (l.take i)≤wS l
 |[],i=>by simp
 |t::l,0=>by simp [wS]
 |t::l,i+1=>by
  have:=EU l i
  unfold wS at*
  simp only[List.take_succ_cons,bB,eO]
  omega
theorem IY:∀(l:List gB),l.length≤wS l
 |[]=>by simp
 |t::l=>by
  have:=IY l
  have:=G_ t
  unfold wS at*
  simp only[List.length_cons,bB,eO]
  omega
end Go.Ab
