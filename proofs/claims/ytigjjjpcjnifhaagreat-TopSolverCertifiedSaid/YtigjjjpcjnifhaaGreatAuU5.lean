/- Chapter 23: the checker's steps, in plain terms. -/
import Derived.Test.YtigjjjpcjnifhaaGreatAuC3
import Derived.Test.YtigjjjpcjnifhaaGreatAbZ
set_option linter.unusedSimpArgs false
set_option linter.unusedVariables false
namespace Go.Ab
open Go Go.Proofs
set_option maxRecDepth 20000
set_option maxHeartbeats 4000000
structure bT where
 kind:Int
 lits:List Int
 sym:Int
abbrev encS (t:bT):List PV:=[.lit (.int .i64 t.kind),ints t.lits,.lit (.int .i64 t.sym)]
abbrev steps (l:List bT):PV:=.slice 3 (l.map encS)
structure iT where
 vars:Int
 cl:List (List Int)
 ref:Bool
structure kj where
 v0:Int
 cl0:List (List Int)
 syms:List (List Int)
def kj.valid (e:kj):List Bool:=e.syms.map (df e.v0 e.cl0)
def qx (s:iT) (c:List Int):iT:=⟨s.vars,s.cl++ [c],s.ref||decide ((c.length:Int)=0)⟩
def G3 (w c:List Int):Bool:=decide (canon c=canon w)
def fO (v0:Int) (sym w c:List Int):Bool:=ay v0 c && decide (canon (gE sym c)=canon w)
def hY (s:iT) (t:bT):Option iT:=if t.sym=0∧ay s.vars t.lits=true∧cr s.vars s.cl t.lits=true then some (qx s t.lits) else none
def ga (s:iT) (t:bT):Option iT:=if t.sym=0∧ay s.vars t.lits=true∧s.cl.any (G3 t.lits)=true then some ⟨s.vars,s.cl.eraseIdx (s.cl.findIdx (G3 t.lits)),s.ref⟩ else none
def defs (g:Int) (r:List Int):List (List Int):=(r.map fun x=>[-g,x])++ [g::r.map fun x=> -x]
def e9 (s:iT) (t:bT):Option iT:=if t.sym=0∧2≤t.lits.length∧t.lits.getD 0 0=s.vars+1∧t.lits.getD 0 0≤20000∧ay s.vars (t.lits.drop 1)=true then some ⟨s.vars+1,s.cl++defs (t.lits.getD 0 0) (t.lits.drop 1),s.ref⟩ else none
def jU (e:kj) (s:iT) (t:bT):Option iT:=
 if ay s.vars t.lits=true∧(0≤t.sym∧t.sym<e.syms.length)∧df e.v0 e.cl0 (e.syms.getD t.sym.toNat [])=true∧s.cl.any (fO e.v0 (e.syms.getD t.sym.toNat []) t.lits)=true then some (qx s t.lits) else none
def cC (e:kj) (s:iT) (t:bT):Option iT:=if t.kind=1 then hY s t else if t.kind=2 then ga s t else if t.kind=3 then e9 s t else if t.kind=4 then jU e s t else none
def dc (e:kj):iT→List bT→iT×Nat
 |s,[]=>(s,0)
 |s,t::l=>match cC e s t with
  |none=>(s,0)
  |some s'=>((dc e s' l).1,(dc e s' l).2+1)
theorem cj {e:kj} {s:iT} {l:List bT} {i:Nat} (hi:i<l.length) (h:cC e s l[i]=none):dc e s (l.drop i)=(s,0):=by
 rw[List.drop_eq_getElem_cons hi,dc,h]
theorem k8 {e:kj} {s s':iT} {l:List bT} {i:Nat} (hi:i<l.length) (h:cC e s l[i]=some s'):dc e s (l.drop i)=((dc e s' (l.drop (i+1))).1,(dc e s' (l.drop (i+1))).2+1):=by
 rw[List.drop_eq_getElem_cons hi,dc,h]
def cM (v:Int) (cl:List (List Int)):iT:=⟨v,cl,cl.any fun c=>decide ((c.length:Int)=0)⟩
structure ic (B:Nat) (s:iT):Prop where
 hv:0≤s.vars∧s.vars≤20000
 dq:∀c∈s.cl,ay s.vars c=true∧c.length≤1000
 len:s.cl.length≤B
theorem ic.f {B:Nat} {s:iT} (h:ic B s) (hB:B≤1000000):KE s.vars s.cl:=⟨by have:=h.hv;omega,fun c hc=>⟨(h.dq c hc).1,by have:=(h.dq c hc).2;omega⟩,by have:=h.len;omega⟩
theorem kS {v w:Int} {l:List Int} (h:v≤w) (hl:ay v l=true):ay w l=true:=by
 unfold ay at hl ⊢
 rw[List.all_eq_true] at hl ⊢
 intro x hx
 have:=hl x hx
 simp only[decide_eq_true_eq] at this ⊢
 exact⟨this.1,by omega,by omega⟩
theorem ic.add {B:Nat} {s:iT} (h:ic B s) {c:List Int} (hw:ay s.vars c=true) (hl:c.length≤1000):ic (B+1) (qx s c):=
 ⟨h.hv,fun d hd=>by
  rcases List.mem_append.1 hd with hd|hd
  ·exact h.dq d hd
  ·simp at hd;subst hd;exact⟨hw,hl⟩,by show(s.cl++ [c]).length≤B+1;have:=h.len;simp;omega⟩
theorem fi {v x:Int} {l:List Int} (hx:x≠0∧x≤v∧0 - v≤x) (hl:ay v l=true):ay v (x::l)=true:=by
 unfold ay at hl ⊢
 rw[List.all_cons,hl,Bool.and_true,decide_eq_true_eq]
 exact hx
theorem ox {v:Int} {l:List Int} (hl:ay v l=true):ay v (l.map fun x=> -x)=true:=by
 have:=pP hl
 rwa [FZ]
theorem ic.step {B:Nat} {e:kj} {s s':iT} {t:bT} (h:ic B s) (hl:t.lits.length≤900) (hs:cC e s t=some s'):ic (B+1000) s':=by
 have mono:∀{C:Nat} {u:iT},ic C u→C≤B+1000→ic (B+1000) u:=fun hu hc=>⟨hu.hv,hu.dq,Nat.le_trans hu.len hc⟩
 unfold cC at hs
 split at hs
 ·unfold hY at hs
  split at hs
  ·rename_i hc
   cases hs
   exact mono (h.add hc.2.1 (by omega)) (by omega)
  ·cases hs
 ·split at hs
  ·unfold ga at hs
   split at hs
   ·cases hs
    exact⟨h.hv,fun c hc=>h.dq c (List.mem_of_mem_eraseIdx hc),by
     show(s.cl.eraseIdx _).length≤_
     have:=List.length_eraseIdx_le s.cl (s.cl.findIdx (G3 t.lits))
     have:=h.len
     omega⟩
   ·cases hs
  ·split at hs
   ·unfold e9 at hs
    split at hs
    ·rename_i hc
     obtain⟨_,c2,c3,c4,c5⟩:=hc
     cases hs
     have hv:=h.hv
     have hr:(t.lits.drop 1).length≤900:=by rw[List.length_drop];omega
     generalize t.lits.getD 0 0=g at c3 c4 ⊢
     generalize t.lits.drop 1=r at c5 hr ⊢
     have w5:ay (s.vars+1) r=true:=kS (by omega) c5
     refine⟨⟨by show 0≤s.vars+1;omega,by show s.vars+1≤20000;omega⟩,fun d hd=>?_,?_⟩
     ·show ay (s.vars+1) d=true∧d.length≤1000
      rcases List.mem_append.1 hd with hd|hd
      ·exact⟨kS (by omega) (h.dq d hd).1,(h.dq d hd).2⟩
      ·rcases List.mem_append.1 hd with hd|hd
       ·obtain⟨x,hx,rfl⟩:=List.mem_map.1 hd
        have hx':=aY w5 x hx
        refine⟨fi (by omega) (fi (by omega) rfl),by simp⟩
       ·simp at hd
        subst hd
        refine⟨fi (by omega) (ox w5),by simp;omega⟩
     ·show(s.cl++defs g r).length≤_
      have:=h.len
      unfold defs
      simp
      omega
    ·cases hs
   ·split at hs
    ·unfold jU at hs
     split at hs
     ·rename_i hc
      cases hs
      exact mono (h.add hc.1 (by omega)) (by omega)
     ·cases hs
    ·cases hs
end Go.Ab
/- The checker's steps:finer bounds. -/
namespace Go.Ab
open Go Go.Proofs
theorem ic.lD {B:Nat} {e:kj} {s s':iT} {t:bT} (h:ic B s) (hl:t.lits.length≤900) (hs:cC e s t=some s'):ic (B+(t.lits.length+1)) s':=by
 have mono:∀{C:Nat} {u:iT},ic C u→C≤B+(t.lits.length+1)→ic (B+(t.lits.length+1)) u:=fun hu hc=>⟨hu.hv,hu.dq,Nat.le_trans hu.len hc⟩
 unfold cC at hs
 split at hs
 ·unfold hY at hs
  split at hs
  ·rename_i hc
   cases hs
   exact mono (h.add hc.2.1 (by omega)) (by omega)
  ·cases hs
 ·split at hs
  ·unfold ga at hs
   split at hs
   ·cases hs
    exact⟨h.hv,fun c hc=>h.dq c (List.mem_of_mem_eraseIdx hc),by
     show(s.cl.eraseIdx _).length≤_
     have:=List.length_eraseIdx_le s.cl (s.cl.findIdx (G3 t.lits))
     have:=h.len
     omega⟩
   ·cases hs
  ·split at hs
   ·unfold e9 at hs
    split at hs
    ·rename_i hc
     obtain⟨_,c2,c3,c4,c5⟩:=hc
     cases hs
     have hv:=h.hv
     have hr:(t.lits.drop 1).length≤900:=by rw[List.length_drop];omega
     have M3:(t.lits.drop 1).length+1=t.lits.length:=by rw[List.length_drop];omega
     generalize t.lits.getD 0 0=g at c3 c4 ⊢
     generalize t.lits.drop 1=r at c5 hr M3 ⊢
     have w5:ay (s.vars+1) r=true:=kS (by omega) c5
     refine⟨⟨by show 0≤s.vars+1;omega,by show s.vars+1≤20000;omega⟩,fun d hd=>?_,?_⟩
     ·show ay (s.vars+1) d=true∧d.length≤1000
      rcases List.mem_append.1 hd with hd|hd
      ·exact⟨kS (by omega) (h.dq d hd).1,(h.dq d hd).2⟩
      ·rcases List.mem_append.1 hd with hd|hd
       ·obtain⟨x,hx,rfl⟩:=List.mem_map.1 hd
        have hx':=aY w5 x hx
        refine⟨fi (by omega) (fi (by omega) rfl),by simp⟩
       ·simp at hd
        subst hd
        refine⟨fi (by omega) (ox w5),by simp;omega⟩
     ·show(s.cl++defs g r).length≤_
      have:=h.len
      unfold defs
      simp
      omega
    ·cases hs
   ·split at hs
    ·unfold jU at hs
     split at hs
     ·rename_i hc
      cases hs
      exact mono (h.add hc.1 (by omega)) (by omega)
     ·cases hs
    ·cases hs
def wS (l:List bT):Nat:=(l.map fun t=>t.lits.length+1).sum
theorem tk {l:List bT} {i:Nat} (h:i<l.length):wS (l.take (i+1))=wS (l.take i)+(l[i].lits.length+1):=by
 unfold wS
 rw[List.take_succ_eq_append_getElem h,List.map_append,List.sum_append];simp
theorem yW:∀(l:List bT) (i:Nat),wS (l.take i)≤wS l
 |[],i=>by simp
 |t::l,0=>by simp [wS]
 |t::l,i+1=>by
  have:=yW l i
  unfold wS at*
  simp only[List.take_succ_cons,List.map_cons,List.sum_cons]
  omega
theorem Cm:∀(l:List bT),l.length≤wS l
 |[]=>by simp
 |t::l=>by
  have:=Cm l
  unfold wS at*
  simp only[List.length_cons,List.map_cons,List.sum_cons]
  omega
end Go.Ab
