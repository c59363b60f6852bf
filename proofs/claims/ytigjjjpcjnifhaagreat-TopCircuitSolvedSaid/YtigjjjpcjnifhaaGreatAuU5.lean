/- Chapter 23: valid symmetries. -/
import Derived.Test.YtigjjjpcjnifhaaGreatAuC2
import Derived.Test.YtigjjjpcjnifhaaGreatAbZ
import Derived.Test.YtigjjjpcjnifhaaGreatAbL3
set_option linter.unusedSimpArgs false
set_option linter.unusedVariables false
open Int renaming natAbs→eK
open List renaming mem_map→bx,mem_append→bX,mem_singleton→cq,map_append→cR,map_cons→bB,map_nil→b8,nodup_append→cp,getElem_mem→cY,take_zero→dp,map_replicate→dH,map_set→cF,drop_eq_getElem_cons→dj,mem_of_mem_eraseIdx→eM,length_eraseIdx_le→eN,length_drop→cV,sum_cons→eO
open Nat renaming reduceBEq→df,zero_le→bm,le_trans→aQ
namespace Go.Ab
open Go Go.Proofs
open Nat (reduceAdd reduceSub)
set_option maxRecDepth 20000
set_option maxHeartbeats 4000000
def qs (n:Nat) (l:List Int):List Bool:=(List.range n).map fun v=>decide ((v+1)∈l.map eK)
theorem Du (n:Nat) (l:List Int):(qs n l).length=n:=by unfold qs;simp
theorem ud {n:Nat} {l:List Int} {v:Nat} (h:v<(qs n l).length):(qs n l)[v]=decide ((v+1)∈l.map eK):=by unfold qs;simp
theorem my (n:Nat):qs n []=List.replicate n false:=by
 unfold qs
 rw[List.eq_replicate_iff]
 simp
theorem KR {n:Nat} {l:List Int} {k v:Nat} (hk:k<l.length) (hv:v+1=l[k].natAbs):(qs n (l.take k)).set v true=qs n (l.take (k+1)):=by
 apply List.ext_getElem
 ·simp [Du]
 ·intro j h1 h2
  rw[List.getElem_set]
  by_cases e:v=j
  ·subst e
   rw[if_pos rfl,ud,fI hk]
   exact(decide_eq_true (bx.2 ⟨l[k],bX.2 (.inr (cq.2 rfl)),hv.symm⟩)).symm
  ·rw[if_neg e,ud,ud,fI hk]
   simp only[cR,bX,bB,b8,cq]
   have:¬j+1=l[k].natAbs:=by omega
   simp [this]
theorem yi {l:List Int} {k:Nat} (hk:k<l.length):((l.take (k+1)).map eK).Nodup↔((l.take k).map eK).Nodup∧l[k].natAbs∉(l.take k).map eK:=by
 rw[fI hk,cR,cp]
 simp only[bB,b8,cq]
 constructor
 ·rintro⟨h1,_,h2⟩
  exact⟨h1,fun h=>h2 _ h _ rfl rfl⟩
 ·rintro⟨h1,h2⟩
  exact⟨h1,by simp,fun a ha b hb e=>h2 (by rw[← hb,← e];exact ha)⟩
theorem IL {l:List Int} {k:Nat} (hk:k<l.length) (h:l[k].natAbs∈(l.take k).map eK):¬(l.map eK).Nodup:=fun hn=>by
 have h1:((l.take (k+1)).map eK).Nodup:=by
  rw[← List.take_append_drop (k+1) l,cR] at hn
  exact(cp.1 hn).1
 exact((yi hk).1 h1).2 h
theorem CO {α:Type} {p:α→Bool} {l:List α} {k:Nat} (hk:k<l.length):(l.take (k+1)).all p=((l.take k).all p && p l[k]):=by
 rw[fI hk,List.all_append];simp
theorem uc {α:Type} {p:α→Bool} {l:List α} {k:Nat} (hk:k<l.length):(l.take (k+1)).any p=((l.take k).any p||p l[k]):=by
 rw[fI hk,List.any_append];simp
theorem xd {α:Type} {p:α→Bool} {l:List α} {k:Nat} (hk:k<l.length) (h:p l[k]=true):l.any p=true:=List.any_eq_true.2 ⟨_,cY hk,h⟩
theorem KY {α:Type} {p:α→Bool} {l:List α} {k:Nat} (hk:k<l.length) (h:p l[k]=false):l.all p=false:=List.all_eq_false.2 ⟨_,cY hk,by simp [h]⟩
def Fp (cl:List (List Int)) (sym c:List Int):Bool:=cl.any fun d=>decide (canon d=canon (nK sym c))
def jm (vars:Int) (cl:List (List Int)) (sym:List Int):Bool:=decide ((sym.length:Int)=vars) && e8 vars sym && decide ((sym.map eK).Nodup) && cl.all (Fp cl sym)
attribute [local irreducible] AW a_ gr fz AR fH fv fM gk canon kf kG pA qs nK e8
theorem MH (vars:Int) (cl:List (List Int)) (sym:List Int) (hf:Um vars cl) (hs:sym.length≤100000):Fn Tryz.prog 76 [KA vars cl,.pv (ints sym)] (fq (jm vars cl sym)):=by
 have hv:=hf.hv
 have h3:=hf.h3
 have hw:=pZ vars sym (by omega)
 by_cases e1:(sym.length:Int)=vars
 ·cases e2:e8 vars sym with
  |false=>
   rw[e2] at hw
   have hr:jm vars cl sym=false:=by unfold jm;rw[e2];simp
   rw[hr]
   refine Fn.enter (n:=62) Tryz.func76 rfl rfl rfl rfl rfl (by decide) fun g fp fl=>?_;(try refine nz ?_)
   (refine RE ?_;refine qn ?_;refine a_.c_ 24 0 0 rfl rfl rfl rfl ?_;refine zS ?_;refine qn ?_;refine zA (hw) ?_;refine DA ?_;refine oz ?_;refine qP ?_)
   (apply eY;(exact gm.one (.tmp rfl rfl));(refine Le.fq ?_;(rfl)))
  |true=>
   rw[e2] at hw
   have hb:=fP e2
   obtain⟨n,rfl⟩:∃n:Nat,vars=n:=⟨vars.toNat,by omega⟩
   refine Fn.enter (n:=62) Tryz.func76 rfl rfl rfl rfl rfl (by decide) fun g fp fl=>?_;(try refine nz ?_)
   (refine RE ?_;refine qn ?_;refine a_.c_ 24 0 0 rfl rfl rfl rfl ?_;refine zS ?_;refine qn ?_;refine zA (hw) ?_;refine DA ?_;refine nY ?_;refine iK ?_;refine vA ?_;refine PQ ?_;refine nz ?_;refine B8 ?_;refine zo ?_;refine j6 ?_;refine nq ?_)
   (refine nz ?_;apply AW.gJ [28,27,2,1] [0] (fun i:Nat=>([(5,.own 1 4 1 ((qs n (sym.take i)).map kX)),(29,eU i)]:List (Nat×AV))) (fun i:Nat=>([(1,some .row)]:List (Nat×Option Ob))) (fun i:Nat=>i≤sym.length∧((sym.take i).map eK).Nodup) (fun i:Nat=>sym.length - i) (0);(conv=>lhs;simp only[Nf.ot,Nf.all,df,reduceAdd,reduceSub]);(all_goals skip))
   ·exact⟨bm _,by simp⟩
   ·exact fe rfl (by(refine⟨.ff (by first|rfl|(rw[dp,my,dH];rfl)) rfl,?_⟩;refine⟨.gq (by first|rfl|(rw[dp,my,dH];rfl)),?_⟩;refine⟨.gq (by first|rfl|(rw[dp,my,dH];rfl)),?_⟩;refine⟨.iz (by first|rfl|(rw[dp,my,dH];rfl)),?_⟩;refine aC ?_;refine⟨.iz (by first|rfl|(rw[dp,my,dH];rfl)),?_⟩;exact trivial)) (by(refine aF ?_;refine⟨.box _ rfl ?_,?_⟩;refine⟨.gq (by first|rfl|(rw[dp,my,dH];rfl)),?_⟩;refine⟨.iz (by first|rfl|(rw[dp,my,dH];rfl)),?_⟩;(iterate 2 exact trivial))) rfl
   rintro i ⟨hi,jg⟩
   have y6:=Du n (sym.take i)
   by_cases fy:i<sym.length
   ·obtain⟨b1,b2,b3⟩:=hb _ (cY fy)
    have XB:(max sym[i] (-sym[i]) - 1).toNat<(qs n (sym.take i)).length:=by rw[y6];omega
    have QC:(max sym[i] (-sym[i]) - 1).toNat+1=sym[i].natAbs:=by omega
    have hg:=ud XB
    rw[QC] at hg
    by_cases hm:sym[i].natAbs∈(sym.take i).map eK
    ·rw[decide_eq_true hm] at hg
     have hr:jm n cl sym=false:=by unfold jm;rw[decide_eq_false (IL fy hm)];simp
     rw[hr]
     (refine Cj ?_;refine aA ?_;refine zr ?_;refine rz ?_;refine JD ?_;refine a_.sub rfl rfl rfl rfl rfl aJ ?_;refine kc ?_;refine iK ?_;refine se ?_;refine tw ?_;refine au ?_;refine zd ?_;refine AW.EZ rfl rfl (by assumption) ?_;refine iK ?_;refine qP ?_;refine PX ?_)
     (apply eY;(exact gm.one (.tmp rfl rfl));(refine Le.fq ?_;(rfl)))
    ·rw[decide_eq_false hm] at hg
     have ED:=KR (n:=n) fy QC
     (refine Cj ?_;refine aA ?_;refine zr ?_;refine rz ?_;refine JD ?_;refine a_.sub rfl rfl rfl rfl rfl aJ ?_;refine kc ?_;refine iK ?_;refine se ?_;refine tw ?_;refine au ?_;refine zd ?_;refine AW.BC rfl rfl (by assumption) ?_;refine vH ?_;refine sg ?_;refine se ?_;refine tw ?_;refine OM ?_;refine Bt ?_)
     exact⟨i+1,⟨by omega,(yi fy).2 ⟨jg,hm⟩⟩,by omega,fe rfl (by(refine⟨.ff (by first|rfl|(rw[← ED,cF];rfl)) rfl,?_⟩;refine⟨.gq (by first|rfl|(rw[← ED,cF];rfl)),?_⟩;refine⟨.gq (by first|rfl|(rw[← ED,cF];rfl)),?_⟩;refine⟨.iz (by first|rfl|(rw[← ED,cF];rfl)),?_⟩;refine aC ?_;refine⟨.iz (by first|rfl|(rw[← ED,cF];rfl)),?_⟩;exact trivial)) (by(refine aF ?_;refine⟨.box _ rfl ?_,?_⟩;refine⟨.gq (by first|rfl|(rw[← ED,cF];rfl)),?_⟩;refine⟨.iz (by first|rfl|(rw[← ED,cF];rfl)),?_⟩;(iterate 2 exact trivial))) rfl⟩
   ·rw[gP (l:=sym) aJ] at jg
    have hr:jm n cl sym=cl.all (Fp cl sym):=by unfold jm;rw[decide_eq_true e1,e2,decide_eq_true jg];simp
    rw[hr]
    (refine Cp ?_;refine zo ?_;refine iK ?_;refine vm ?_;refine nq ?_)
    (refine nz ?_;apply AW.gJ [48,47,2,1] [0] (fun k:Nat=>([(49,eU k)]:List (Nat×AV))) (fun k:Nat=>([]:List (Nat×Option Ob))) (fun k:Nat=>k≤cl.length∧(cl.take k).all (Fp cl sym)=true) (fun k:Nat=>cl.length - k) (0);(conv=>lhs;simp only[Nf.ot,Nf.all,df,reduceAdd,reduceSub]);(all_goals skip))
    ·exact⟨bm _,rfl⟩
    ·exact VS
    rintro k ⟨hk,EE⟩
    by_cases Et:k<cl.length
    ·obtain⟨c1,c2⟩:=hf.iX _ (cY Et)
     rw[← e1] at c1
     have DR:=uV hv e2
     have Js:=D5 sym cl[k] DR aJ c2 c1
     have vT:=D_ sym cl[k]
     have has:=CO (p:=Fp cl sym) Et
     rw[EE,Bool.true_and] at has
     have Ld:Fp cl sym cl[k]=cl.any fun d=>decide (canon d=canon (nK sym cl[k])):=rfl
     generalize nK sym cl[k]=mp at Js vT Ld
     (refine Cj ?_;refine aA ?_;refine zr ?_;refine rz ?_;(iterate 2 refine zm ?_);refine zP (Js) ?_;refine L8 ?_;refine vm ?_;refine a_.jB rfl rfl rfl ?_;(with_reducible apply a_.inline (hf:=Tryz.func74));(with_reducible assumption);(iterate 10 exact rfl);intro g_ fp fl;refine qL ?_;refine IV ?_;(with_reducible apply a_.inline (hf:=Tryz.func97));(with_reducible assumption);(iterate 10 exact rfl);intro g_ fp fl;refine nz ?_;refine rK ?_;refine nq ?_)
     (refine nz ?_;apply AW.gJ [7,0,1,1006,1005,1004,1000,1001,2058,2057,2056,2011,2049,2048,2047,2002,2001] [2,0] (fun j:Nat=>([(8,eU j)]:List (Nat×AV))) (fun j:Nat=>([]:List (Nat×Option Ob))) (fun j:Nat=>j≤cl.length∧(cl.take j).any (fun d=>decide (canon d=canon mp))=false) (fun j:Nat=>cl.length - j) (0);(conv=>lhs;simp only[Nf.ot,Nf.all,df,reduceAdd,reduceSub]);(all_goals skip))
     ·exact⟨bm _,rfl⟩
     ·exact VS
     rintro j ⟨hj,BY⟩
     by_cases sc:j<cl.length
     ·obtain⟨d1,d2⟩:=hf.iX _ (cY sc)
      have heq:=MB cl[j] mp aJ (by omega)
      have Cl:=uc (p:=fun d=>decide (canon d=canon mp)) sc
      rw[BY,Bool.false_or] at Cl
      by_cases he:canon cl[j]=canon mp
      ·rw[decide_eq_true he] at heq
       have hy:Fp cl sym cl[k]=true:=by rw[Ld];exact xd sc (decide_eq_true he)
       rw[hy] at has
       clear Ld
       (refine yX ?_;refine aA ?_;refine zr ?_;(with_reducible apply a_.inline (hf:=Tryz.func103));(with_reducible assumption);(iterate 10 exact rfl);intro g_ fp fl;refine qL ?_;refine zm ?_;refine zb ?_;refine zA (heq) ?_;refine ku ?_;refine Jg ?_;refine Ci ?_;refine uH ?_;refine sm ?_)
       exact⟨k+1,⟨by omega,has⟩,by omega,fe rfl (by(first|(refine aC ?_;(iterate 17 refine aC ?_);exact trivial)|(refine aC ?_;(iterate 4 refine aC ?_);exact trivial))) (by(first|(refine⟨.box _ rfl ?_,?_⟩;refine aC ?_;exact trivial;refine⟨.box _ rfl ?_,?_⟩;(iterate 2 refine aC ?_);(iterate 2 exact trivial))|(refine⟨.box _ rfl ?_,?_⟩;(iterate 2 refine aC ?_);(iterate 2 exact trivial)))) rfl⟩
      ·rw[decide_eq_false he] at heq Cl
       clear Ld
       (refine yX ?_;refine aA ?_;refine zr ?_;(with_reducible apply a_.inline (hf:=Tryz.func103));(with_reducible assumption);(iterate 10 exact rfl);intro g_ fp fl;refine qL ?_;refine zm ?_;refine zb ?_;refine zA (heq) ?_;refine ku ?_;refine ui ?_;refine Ci ?_;refine tP ?_)
       exact⟨j+1,⟨by omega,Cl⟩,by omega,fe rfl (by(first|(refine aC ?_;(iterate 17 refine aC ?_);exact trivial)|(refine aC ?_;(iterate 4 refine aC ?_);exact trivial))) (by(first|(refine⟨.box _ rfl ?_,?_⟩;refine aC ?_;exact trivial;refine⟨.box _ rfl ?_,?_⟩;(iterate 2 refine aC ?_);(iterate 2 exact trivial))|(refine⟨.box _ rfl ?_,?_⟩;(iterate 2 refine aC ?_);(iterate 2 exact trivial)))) rfl⟩
     ·rw[gP (l:=cl) aJ] at BY
      rw[BY] at Ld
      rw[KY Et Ld]
      (refine zD ?_;refine IT ?_;refine oz ?_;refine qR ?_)
      (apply eY;(exact gm.one (.tmp rfl rfl));(refine Le.fq ?_;(rfl)))
    ·rw[gP (l:=cl) aJ] at EE
     rw[EE]
     (refine zD ?_)
     (apply eY;(exact gm.one (.tmp rfl rfl));(refine Le.fq ?_;(rfl)))
 ·have hr:jm vars cl sym=false:=by unfold jm;rw[decide_eq_false e1];simp
  rw[hr]
  refine Fn.enter (n:=62) Tryz.func76 rfl rfl rfl rfl rfl (by decide) fun g fp fl=>?_;(try refine nz ?_)
  (refine RE ?_;refine zm ?_;(iterate 5 refine a_.kp rfl rfl rfl rfl rfl rfl (by with_reducible assumption) ?_);refine zT ?_;refine oz ?_;refine qP ?_)
  (apply eY;(exact gm.one (.tmp rfl rfl));(refine Le.fq ?_;(rfl)))
end Go.Ab
/- Chapter 23:the checker's steps,in plain terms. -/
namespace Go.Ab
open Go Go.Proofs
set_option maxRecDepth 20000
set_option maxHeartbeats 4000000
structure gN where
 kind:Int
 lits:List Int
 sym:Int
abbrev encS (t:gN):List PV:=[.lit (.int .i64 t.kind),ints t.lits,.lit (.int .i64 t.sym)]
abbrev steps (l:List gN):PV:=.slice 3 (l.map encS)
structure o8 where
 vars:Int
 cl:List (List Int)
 ref:Bool
structure qO where
 v0:Int
 cl0:List (List Int)
 syms:List (List Int)
def qO.valid (e:qO):List Bool:=e.syms.map (jm e.v0 e.cl0)
def xC (s:o8) (c:List Int):o8:=⟨s.vars,s.cl++ [c],s.ref||decide ((c.length:Int)=0)⟩
def PA (w c:List Int):Bool:=decide (canon c=canon w)
def mr (v0:Int) (sym w c:List Int):Bool:=e8 v0 c && decide (canon (nK sym c)=canon w)
def n9 (s:o8) (t:gN):Option o8:=if t.sym=0∧e8 s.vars t.lits=true∧ia s.vars s.cl t.lits=true then some (xC s t.lits) else none
def mD (s:o8) (t:gN):Option o8:=if t.sym=0∧e8 s.vars t.lits=true∧s.cl.any (PA t.lits)=true then some ⟨s.vars,s.cl.eraseIdx (s.cl.findIdx (PA t.lits)),s.ref⟩ else none
def defs (g:Int) (r:List Int):List (List Int):=(r.map fun x=>[-g,x])++ [g::r.map fun x=> -x]
def lE (s:o8) (t:gN):Option o8:=if t.sym=0∧2≤t.lits.length∧t.lits.getD 0 0=s.vars+1∧t.lits.getD 0 0≤20000∧e8 s.vars (t.lits.drop 1)=true then some ⟨s.vars+1,s.cl++defs (t.lits.getD 0 0) (t.lits.drop 1),s.ref⟩ else none
def qg (e:qO) (s:o8) (t:gN):Option o8:=
 if e8 s.vars t.lits=true∧(0≤t.sym∧t.sym<e.syms.length)∧jm e.v0 e.cl0 (e.syms.getD t.sym.toNat [])=true∧s.cl.any (mr e.v0 (e.syms.getD t.sym.toNat []) t.lits)=true then some (xC s t.lits) else none
def iv (e:qO) (s:o8) (t:gN):Option o8:=if t.kind=1 then n9 s t else if t.kind=2 then mD s t else if t.kind=3 then lE s t else if t.kind=4 then qg e s t else none
def jy (e:qO):o8→List gN→o8×Nat
 |s,[]=>(s,0)
 |s,t::l=>match iv e s t with
  |none=>(s,0)
  |some s'=>((jy e s' l).1,(jy e s' l).2+1)
theorem hZ {e:qO} {s:o8} {l:List gN} {i:Nat} (hi:i<l.length) (h:iv e s l[i]=none):jy e s (l.drop i)=(s,0):=by
 rw[dj hi,jy,h]
theorem rU {e:qO} {s s':o8} {l:List gN} {i:Nat} (hi:i<l.length) (h:iv e s l[i]=some s'):jy e s (l.drop i)=((jy e s' (l.drop (i+1))).1,(jy e s' (l.drop (i+1))).2+1):=by
 rw[dj hi,jy,h]
def jE (v:Int) (cl:List (List Int)):o8:=⟨v,cl,cl.any fun c=>decide ((c.length:Int)=0)⟩
structure n8 (B:Nat) (s:o8):Prop where
 hv:0≤s.vars∧s.vars≤20000
 iX:∀c∈s.cl,e8 s.vars c=true∧c.length≤1000
 len:s.cl.length≤B
theorem n8.f {B:Nat} {s:o8} (h:n8 B s) (hB:B≤1000000):Um s.vars s.cl:=⟨by have:=h.hv;omega,fun c hc=>⟨(h.iX c hc).1,by have:=(h.iX c hc).2;omega⟩,by have:=h.len;omega⟩
theorem rR {v w:Int} {l:List Int} (h:v≤w) (hl:e8 v l=true):e8 w l=true:=by
 unfold e8 at hl ⊢
 rw[List.all_eq_true] at hl ⊢
 intro x hx
 have:=hl x hx
 simp only[decide_eq_true_eq] at this ⊢
 exact⟨this.1,by omega,by omega⟩
theorem n8.add {B:Nat} {s:o8} (h:n8 B s) {c:List Int} (hw:e8 s.vars c=true) (hl:c.length≤1000):n8 (B+1) (xC s c):=
 ⟨h.hv,fun d hd=>by
  rcases bX.1 hd with hd|hd
  ·exact h.iX d hd
  ·simp at hd;subst hd;exact⟨hw,hl⟩,by show(s.cl++ [c]).length≤B+1;have:=h.len;simp;omega⟩
theorem lP {v x:Int} {l:List Int} (hx:x≠0∧x≤v∧0 - v≤x) (hl:e8 v l=true):e8 v (x::l)=true:=by
 unfold e8 at hl ⊢
 rw[List.all_cons,hl,Bool.and_true,decide_eq_true_eq]
 exact hx
theorem wi {v:Int} {l:List Int} (hl:e8 v l=true):e8 v (l.map fun x=> -x)=true:=by
 have:=yU hl
 rwa [Oq]
theorem n8.step {B:Nat} {e:qO} {s s':o8} {t:gN} (h:n8 B s) (hl:t.lits.length≤900) (hs:iv e s t=some s'):n8 (B+1000) s':=by
 have mono:∀{C:Nat} {u:o8},n8 C u→C≤B+1000→n8 (B+1000) u:=fun hu hc=>⟨hu.hv,hu.iX,aQ hu.len hc⟩
 unfold iv at hs
 split at hs
 ·unfold n9 at hs
  split at hs
  ·rename_i hc
   cases hs
   exact mono (h.add hc.2.1 aJ) (by omega)
  ·cases hs
 ·split at hs
  ·unfold mD at hs
   split at hs
   ·cases hs
    exact⟨h.hv,fun c hc=>h.iX c (eM hc),by
     show(s.cl.eraseIdx _).length≤_
     have:=eN s.cl (s.cl.findIdx (PA t.lits))
     have:=h.len
     omega⟩
   ·cases hs
  ·split at hs
   ·unfold lE at hs
    split at hs
    ·rename_i hc
     obtain⟨_,c2,c3,c4,c5⟩:=hc
     cases hs
     have hv:=h.hv
     have hr:(t.lits.drop 1).length≤900:=by rw[cV];omega
     generalize t.lits.getD 0 0=g at c3 c4 ⊢
     generalize t.lits.drop 1=r at c5 hr ⊢
     have w5:e8 (s.vars+1) r=true:=rR aJ c5
     refine⟨⟨by show 0≤s.vars+1;omega,by show s.vars+1≤20000;omega⟩,fun d hd=>?_,?_⟩
     ·show e8 (s.vars+1) d=true∧d.length≤1000
      rcases bX.1 hd with hd|hd
      ·exact⟨rR aJ (h.iX d hd).1,(h.iX d hd).2⟩
      ·rcases bX.1 hd with hd|hd
       ·obtain⟨x,hx,rfl⟩:=bx.1 hd
        have Ct:=fP w5 x hx
        refine⟨lP aJ (lP aJ rfl),by simp⟩
       ·simp at hd
        subst hd
        refine⟨lP aJ (wi w5),by simp;omega⟩
     ·show(s.cl++defs g r).length≤_
      have:=h.len
      unfold defs
      simp
      omega
    ·cases hs
   ·split at hs
    ·unfold qg at hs
     split at hs
     ·rename_i hc
      cases hs
      exact mono (h.add hc.1 aJ) (by omega)
     ·cases hs
    ·cases hs
end Go.Ab
/- The checker's steps:finer bounds. -/
namespace Go.Ab
open Go Go.Proofs
def wT (t:gN):Nat:=if t.kind=3 then t.lits.length+1 else 1
theorem J7 (t:gN):1≤wT t:=by unfold wT;split<;>omega
theorem n8.sE {B:Nat} {e:qO} {s s':o8} {t:gN} (h:n8 B s) (hl:t.lits.length≤900) (hs:iv e s t=some s'):n8 (B+wT t) s':=by
 have hp:=J7 t
 have mono:∀{C:Nat} {u:o8},n8 C u→C≤B+wT t→n8 (B+wT t) u:=fun hu hc=>⟨hu.hv,hu.iX,aQ hu.len hc⟩
 unfold iv at hs
 split at hs
 ·unfold n9 at hs
  split at hs
  ·rename_i hc
   cases hs
   exact mono (h.add hc.2.1 aJ) (by omega)
  ·cases hs
 ·split at hs
  ·unfold mD at hs
   split at hs
   ·cases hs
    exact⟨h.hv,fun c hc=>h.iX c (eM hc),by
     show(s.cl.eraseIdx _).length≤_
     have:=eN s.cl (s.cl.findIdx (PA t.lits))
     have:=h.len
     omega⟩
   ·cases hs
  ·split at hs
   ·rename_i k3
    have hw3:wT t=t.lits.length+1:=if_pos k3
    rw[hw3] at hp mono ⊢
    unfold lE at hs
    split at hs
    ·rename_i hc
     obtain⟨_,c2,c3,c4,c5⟩:=hc
     cases hs
     have hv:=h.hv
     have hr:(t.lits.drop 1).length≤900:=by rw[cV];omega
     have M_:(t.lits.drop 1).length+1=t.lits.length:=by rw[cV];omega
     generalize t.lits.getD 0 0=g at c3 c4 ⊢
     generalize t.lits.drop 1=r at c5 hr M_ ⊢
     have w5:e8 (s.vars+1) r=true:=rR aJ c5
     refine⟨⟨by show 0≤s.vars+1;omega,by show s.vars+1≤20000;omega⟩,fun d hd=>?_,?_⟩
     ·show e8 (s.vars+1) d=true∧d.length≤1000
      rcases bX.1 hd with hd|hd
      ·exact⟨rR aJ (h.iX d hd).1,(h.iX d hd).2⟩
      ·rcases bX.1 hd with hd|hd
       ·obtain⟨x,hx,rfl⟩:=bx.1 hd
        have Ct:=fP w5 x hx
        refine⟨lP aJ (lP aJ rfl),by simp⟩
       ·simp at hd
        subst hd
        refine⟨lP aJ (wi w5),by simp;omega⟩
     ·show(s.cl++defs g r).length≤_
      have:=h.len
      unfold defs
      simp
      omega
    ·cases hs
   ·split at hs
    ·unfold qg at hs
     split at hs
     ·rename_i hc
      cases hs
      exact mono (h.add hc.1 aJ) (by omega)
     ·cases hs
    ·cases hs
def wS (l:List gN):Nat:=(l.map wT).sum
theorem B_ {l:List gN} {i:Nat} (h:i<l.length):wS (l.take (i+1))=wS (l.take i)+wT l[i]:=by
 unfold wS
 rw[List.take_succ_eq_append_getElem h,cR,List.sum_append];simp
theorem G2:∀(l:List gN) (i:Nat),wS (l.take i)≤wS l
 |[],i=>by simp
 |t::l,0=>by simp [wS]
 |t::l,i+1=>by
  have:=G2 l i
  unfold wS at*
  simp only[List.take_succ_cons,bB,eO]
  omega
theorem JR:∀(l:List gN),l.length≤wS l
 |[]=>by simp
 |t::l=>by
  have:=JR l
  have:=J7 t
  unfold wS at*
  simp only[List.length_cons,bB,eO]
  omega
end Go.Ab
