/- Chapter 23: the checker's steps, in plain terms. -/
import Derived.Test.YtigjjjpcjnifhaaAtC3
import Derived.Test.YtigjjjpcjnifhaaAbZ
set_option linter.unusedSimpArgs false
set_option linter.unusedVariables false
namespace Go.Ab
open Go Go.Proofs
set_option maxRecDepth 20000
set_option maxHeartbeats 4000000
structure StepM where
 kind:Int
 lits:List Int
 sym:Int
abbrev encS (t:StepM):List PV:=[.lit (.int .i64 t.kind),ints t.lits,.lit (.int .i64 t.sym)]
abbrev steps (l:List StepM):PV:=.slice 3 (l.map encS)
structure StM where
 vars:Int
 cl:List (List Int)
 ref:Bool
structure EnM where
 v0:Int
 cl0:List (List Int)
 syms:List (List Int)
def EnM.valid (e:EnM):List Bool:=e.syms.map (symOk e.v0 e.cl0)
def addC (s:StM) (c:List Int):StM:=⟨s.vars,s.cl++ [c],s.ref||decide ((c.length:Int)=0)⟩
def eqC (w c:List Int):Bool:=decide (canon c=canon w)
def mapC (v0:Int) (sym w c:List Int):Bool:=withinM v0 c && decide (canon (imgL sym c)=canon w)
def learnC (s:StM) (t:StepM):Option StM:=if t.sym=0∧withinM s.vars t.lits=true∧refImplM s.vars s.cl t.lits=true then some (addC s t.lits) else none
def removeC (s:StM) (t:StepM):Option StM:=if t.sym=0∧withinM s.vars t.lits=true∧s.cl.any (eqC t.lits)=true then some ⟨s.vars,s.cl.eraseIdx (s.cl.findIdx (eqC t.lits)),s.ref⟩ else none
def defs (g:Int) (r:List Int):List (List Int):=(r.map fun x=>[-g,x])++ [g::r.map fun x=> -x]
def defineC (s:StM) (t:StepM):Option StM:=if t.sym=0∧2≤t.lits.length∧t.lits.getD 0 0=s.vars+1∧t.lits.getD 0 0≤20000∧withinM s.vars (t.lits.drop 1)=true then some ⟨s.vars+1,s.cl++defs (t.lits.getD 0 0) (t.lits.drop 1),s.ref⟩ else none
def symmC (e:EnM) (s:StM) (t:StepM):Option StM:=
 if withinM s.vars t.lits=true∧(0≤t.sym∧t.sym<e.syms.length)∧symOk e.v0 e.cl0 (e.syms.getD t.sym.toNat [])=true∧s.cl.any (mapC e.v0 (e.syms.getD t.sym.toNat []) t.lits)=true then some (addC s t.lits) else none
def stepC (e:EnM) (s:StM) (t:StepM):Option StM:=if t.kind=1 then learnC s t else if t.kind=2 then removeC s t else if t.kind=3 then defineC s t else if t.kind=4 then symmC e s t else none
def runC (e:EnM):StM→List StepM→StM×Nat
 |s,[]=>(s,0)
 |s,t::l=>match stepC e s t with
  |none=>(s,0)
  |some s'=>((runC e s' l).1,(runC e s' l).2+1)
theorem runC_none {e:EnM} {s:StM} {l:List StepM} {i:Nat} (hi:i<l.length) (h:stepC e s l[i]=none):runC e s (l.drop i)=(s,0):=by
 rw[List.drop_eq_getElem_cons hi,runC,h]
theorem runC_some {e:EnM} {s s':StM} {l:List StepM} {i:Nat} (hi:i<l.length) (h:stepC e s l[i]=some s'):runC e s (l.drop i)=((runC e s' (l.drop (i+1))).1,(runC e s' (l.drop (i+1))).2+1):=by
 rw[List.drop_eq_getElem_cons hi,runC,h]
def startC (v:Int) (cl:List (List Int)):StM:=⟨v,cl,cl.any fun c=>decide ((c.length:Int)=0)⟩
structure StOk (B:Nat) (s:StM):Prop where
 hv:0≤s.vars∧s.vars≤20000
 hcl:∀c∈s.cl,withinM s.vars c=true∧c.length≤1000
 len:s.cl.length≤B
theorem StOk.f {B:Nat} {s:StM} (h:StOk B s) (hB:B≤1000000):FOk s.vars s.cl:=⟨by have:=h.hv;omega,fun c hc=>⟨(h.hcl c hc).1,by have:=(h.hcl c hc).2;omega⟩,by have:=h.len;omega⟩
theorem within_le {v w:Int} {l:List Int} (h:v≤w) (hl:withinM v l=true):withinM w l=true:=by
 unfold withinM at hl ⊢
 rw[List.all_eq_true] at hl ⊢
 intro x hx
 have:=hl x hx
 simp only[decide_eq_true_eq] at this ⊢
 exact⟨this.1,by omega,by omega⟩
theorem StOk.add {B:Nat} {s:StM} (h:StOk B s) {c:List Int} (hw:withinM s.vars c=true) (hl:c.length≤1000):StOk (B+1) (addC s c):=
 ⟨h.hv,fun d hd=>by
  rcases List.mem_append.1 hd with hd|hd
  ·exact h.hcl d hd
  ·simp at hd;subst hd;exact⟨hw,hl⟩,by show(s.cl++ [c]).length≤B+1;have:=h.len;simp;omega⟩
theorem within_cons {v x:Int} {l:List Int} (hx:x≠0∧x≤v∧0 - v≤x) (hl:withinM v l=true):withinM v (x::l)=true:=by
 unfold withinM at hl ⊢
 rw[List.all_cons,hl,Bool.and_true,decide_eq_true_eq]
 exact hx
theorem within_neg' {v:Int} {l:List Int} (hl:withinM v l=true):withinM v (l.map fun x=> -x)=true:=by
 have:=within_neg hl
 rwa [neg_map]
theorem StOk.step {B:Nat} {e:EnM} {s s':StM} {t:StepM} (h:StOk B s) (hl:t.lits.length≤900) (hs:stepC e s t=some s'):StOk (B+1000) s':=by
 have mono:∀{C:Nat} {u:StM},StOk C u→C≤B+1000→StOk (B+1000) u:=fun hu hc=>⟨hu.hv,hu.hcl,Nat.le_trans hu.len hc⟩
 unfold stepC at hs
 split at hs
 ·unfold learnC at hs
  split at hs
  ·rename_i hc
   cases hs
   exact mono (h.add hc.2.1 (by omega)) (by omega)
  ·cases hs
 ·split at hs
  ·unfold removeC at hs
   split at hs
   ·cases hs
    exact⟨h.hv,fun c hc=>h.hcl c (List.mem_of_mem_eraseIdx hc),by
     show(s.cl.eraseIdx _).length≤_
     have:=List.length_eraseIdx_le s.cl (s.cl.findIdx (eqC t.lits))
     have:=h.len
     omega⟩
   ·cases hs
  ·split at hs
   ·unfold defineC at hs
    split at hs
    ·rename_i hc
     obtain⟨_,c2,c3,c4,c5⟩:=hc
     cases hs
     have hv:=h.hv
     have hr:(t.lits.drop 1).length≤900:=by rw[List.length_drop];omega
     generalize t.lits.getD 0 0=g at c3 c4 ⊢
     generalize t.lits.drop 1=r at c5 hr ⊢
     have w5:withinM (s.vars+1) r=true:=within_le (by omega) c5
     refine⟨⟨by show 0≤s.vars+1;omega,by show s.vars+1≤20000;omega⟩,fun d hd=>?_,?_⟩
     ·show withinM (s.vars+1) d=true∧d.length≤1000
      rcases List.mem_append.1 hd with hd|hd
      ·exact⟨within_le (by omega) (h.hcl d hd).1,(h.hcl d hd).2⟩
      ·rcases List.mem_append.1 hd with hd|hd
       ·obtain⟨x,hx,rfl⟩:=List.mem_map.1 hd
        have hx':=withinM_spec w5 x hx
        refine⟨within_cons (by omega) (within_cons (by omega) rfl),by simp⟩
       ·simp at hd
        subst hd
        refine⟨within_cons (by omega) (within_neg' w5),by simp;omega⟩
     ·show(s.cl++defs g r).length≤_
      have:=h.len
      unfold defs
      simp
      omega
    ·cases hs
   ·split at hs
    ·unfold symmC at hs
     split at hs
     ·rename_i hc
      cases hs
      exact mono (h.add hc.1 (by omega)) (by omega)
     ·cases hs
    ·cases hs
end Go.Ab
/- The checker's steps:finer bounds. -/
namespace Go.Ab
open Go Go.Proofs
theorem StOk.step2 {B:Nat} {e:EnM} {s s':StM} {t:StepM} (h:StOk B s) (hl:t.lits.length≤900) (hs:stepC e s t=some s'):StOk (B+(t.lits.length+1)) s':=by
 have mono:∀{C:Nat} {u:StM},StOk C u→C≤B+(t.lits.length+1)→StOk (B+(t.lits.length+1)) u:=fun hu hc=>⟨hu.hv,hu.hcl,Nat.le_trans hu.len hc⟩
 unfold stepC at hs
 split at hs
 ·unfold learnC at hs
  split at hs
  ·rename_i hc
   cases hs
   exact mono (h.add hc.2.1 (by omega)) (by omega)
  ·cases hs
 ·split at hs
  ·unfold removeC at hs
   split at hs
   ·cases hs
    exact⟨h.hv,fun c hc=>h.hcl c (List.mem_of_mem_eraseIdx hc),by
     show(s.cl.eraseIdx _).length≤_
     have:=List.length_eraseIdx_le s.cl (s.cl.findIdx (eqC t.lits))
     have:=h.len
     omega⟩
   ·cases hs
  ·split at hs
   ·unfold defineC at hs
    split at hs
    ·rename_i hc
     obtain⟨_,c2,c3,c4,c5⟩:=hc
     cases hs
     have hv:=h.hv
     have hr:(t.lits.drop 1).length≤900:=by rw[List.length_drop];omega
     have hrl:(t.lits.drop 1).length+1=t.lits.length:=by rw[List.length_drop];omega
     generalize t.lits.getD 0 0=g at c3 c4 ⊢
     generalize t.lits.drop 1=r at c5 hr hrl ⊢
     have w5:withinM (s.vars+1) r=true:=within_le (by omega) c5
     refine⟨⟨by show 0≤s.vars+1;omega,by show s.vars+1≤20000;omega⟩,fun d hd=>?_,?_⟩
     ·show withinM (s.vars+1) d=true∧d.length≤1000
      rcases List.mem_append.1 hd with hd|hd
      ·exact⟨within_le (by omega) (h.hcl d hd).1,(h.hcl d hd).2⟩
      ·rcases List.mem_append.1 hd with hd|hd
       ·obtain⟨x,hx,rfl⟩:=List.mem_map.1 hd
        have hx':=withinM_spec w5 x hx
        refine⟨within_cons (by omega) (within_cons (by omega) rfl),by simp⟩
       ·simp at hd
        subst hd
        refine⟨within_cons (by omega) (within_neg' w5),by simp;omega⟩
     ·show(s.cl++defs g r).length≤_
      have:=h.len
      unfold defs
      simp
      omega
    ·cases hs
   ·split at hs
    ·unfold symmC at hs
     split at hs
     ·rename_i hc
      cases hs
      exact mono (h.add hc.1 (by omega)) (by omega)
     ·cases hs
    ·cases hs
def wS (l:List StepM):Nat:=(l.map fun t=>t.lits.length+1).sum
theorem wS_succ {l:List StepM} {i:Nat} (h:i<l.length):wS (l.take (i+1))=wS (l.take i)+(l[i].lits.length+1):=by
 unfold wS
 rw[List.take_succ_eq_append_getElem h,List.map_append,List.sum_append];simp
theorem wS_take:∀(l:List StepM) (i:Nat),wS (l.take i)≤wS l
 |[],i=>by simp
 |t::l,0=>by simp [wS]
 |t::l,i+1=>by
  have:=wS_take l i
  unfold wS at*
  simp only[List.take_succ_cons,List.map_cons,List.sum_cons]
  omega
theorem wS_len:∀(l:List StepM),l.length≤wS l
 |[]=>by simp
 |t::l=>by
  have:=wS_len l
  unfold wS at*
  simp only[List.length_cons,List.map_cons,List.sum_cons]
  omega
end Go.Ab
