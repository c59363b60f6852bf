/- Chapter 23: the checker's steps, in plain terms. -/
import Derived.Test.YtigjjjpcjnifhaaAtC3
import Derived.Test.YtigjjjpcjnifhaaAbZ
set_option linter.unusedSimpArgs false
set_option linter.unusedVariables false
namespace Go.Ab
open Go Go.Proofs
set_option maxRecDepth 20000
set_option maxHeartbeats 4000000
structure bu where
 kind:Int
 lits:List Int
 sym:Int
abbrev encS (t:bu):List PV:=[.lit (.int .i64 t.kind),ints t.lits,.lit (.int .i64 t.sym)]
abbrev steps (l:List bu):PV:=.slice 3 (l.map encS)
structure iB where
 vars:Int
 cl:List (List Int)
 ref:Bool
structure j3 where
 v0:Int
 cl0:List (List Int)
 syms:List (List Int)
def j3.valid (e:j3):List Bool:=e.syms.map (cN e.v0 e.cl0)
def qN (s:iB) (c:List Int):iB:=⟨s.vars,s.cl++ [c],s.ref||decide ((c.length:Int)=0)⟩
def Ft (w c:List Int):Bool:=decide (canon c=canon w)
def fq (v0:Int) (sym w c:List Int):Bool:=ay v0 c && decide (canon (cL sym c)=canon w)
def gV (s:iB) (t:bu):Option iB:=if t.sym=0∧ay s.vars t.lits=true∧db s.vars s.cl t.lits=true then some (qN s t.lits) else none
def fS (s:iB) (t:bu):Option iB:=if t.sym=0∧ay s.vars t.lits=true∧s.cl.any (Ft t.lits)=true then some ⟨s.vars,s.cl.eraseIdx (s.cl.findIdx (Ft t.lits)),s.ref⟩ else none
def defs (g:Int) (r:List Int):List (List Int):=(r.map fun x=>[-g,x])++ [g::r.map fun x=> -x]
def eQ (s:iB) (t:bu):Option iB:=if t.sym=0∧2≤t.lits.length∧t.lits.getD 0 0=s.vars+1∧t.lits.getD 0 0≤20000∧ay s.vars (t.lits.drop 1)=true then some ⟨s.vars+1,s.cl++defs (t.lits.getD 0 0) (t.lits.drop 1),s.ref⟩ else none
def jc (e:j3) (s:iB) (t:bu):Option iB:=
 if ay s.vars t.lits=true∧(0≤t.sym∧t.sym<e.syms.length)∧cN e.v0 e.cl0 (e.syms.getD t.sym.toNat [])=true∧s.cl.any (fq e.v0 (e.syms.getD t.sym.toNat []) t.lits)=true then some (qN s t.lits) else none
def cm (e:j3) (s:iB) (t:bu):Option iB:=if t.kind=1 then gV s t else if t.kind=2 then fS s t else if t.kind=3 then eQ s t else if t.kind=4 then jc e s t else none
def bX (e:j3):iB→List bu→iB×Nat
 |s,[]=>(s,0)
 |s,t::l=>match cm e s t with
  |none=>(s,0)
  |some s'=>((bX e s' l).1,(bX e s' l).2+1)
theorem bY {e:j3} {s:iB} {l:List bu} {i:Nat} (hi:i<l.length) (h:cm e s l[i]=none):bX e s (l.drop i)=(s,0):=by
 rw[List.drop_eq_getElem_cons hi,bX,h]
theorem kD {e:j3} {s s':iB} {l:List bu} {i:Nat} (hi:i<l.length) (h:cm e s l[i]=some s'):bX e s (l.drop i)=((bX e s' (l.drop (i+1))).1,(bX e s' (l.drop (i+1))).2+1):=by
 rw[List.drop_eq_getElem_cons hi,bX,h]
def ct (v:Int) (cl:List (List Int)):iB:=⟨v,cl,cl.any fun c=>decide ((c.length:Int)=0)⟩
structure gU (B:Nat) (s:iB):Prop where
 hv:0≤s.vars∧s.vars≤20000
 dO:∀c∈s.cl,ay s.vars c=true∧c.length≤1000
 len:s.cl.length≤B
theorem gU.f {B:Nat} {s:iB} (h:gU B s) (hB:B≤1000000):Ie s.vars s.cl:=⟨by have:=h.hv;omega,fun c hc=>⟨(h.dO c hc).1,by have:=(h.dO c hc).2;omega⟩,by have:=h.len;omega⟩
theorem kv {v w:Int} {l:List Int} (h:v≤w) (hl:ay v l=true):ay w l=true:=by
 unfold ay at hl ⊢
 rw[List.all_eq_true] at hl ⊢
 intro x hx
 have:=hl x hx
 simp only[decide_eq_true_eq] at this ⊢
 exact⟨this.1,by omega,by omega⟩
theorem gU.add {B:Nat} {s:iB} (h:gU B s) {c:List Int} (hw:ay s.vars c=true) (hl:c.length≤1000):gU (B+1) (qN s c):=
 ⟨h.hv,fun d hd=>by
  rcases List.mem_append.1 hd with hd|hd
  ·exact h.dO d hd
  ·simp at hd;subst hd;exact⟨hw,hl⟩,by show(s.cl++ [c]).length≤B+1;have:=h.len;simp;omega⟩
theorem e6 {v x:Int} {l:List Int} (hx:x≠0∧x≤v∧0 - v≤x) (hl:ay v l=true):ay v (x::l)=true:=by
 unfold ay at hl ⊢
 rw[List.all_cons,hl,Bool.and_true,decide_eq_true_eq]
 exact hx
theorem nO {v:Int} {l:List Int} (hl:ay v l=true):ay v (l.map fun x=> -x)=true:=by
 have:=pt hl
 rwa [Eg]
theorem gU.step {B:Nat} {e:j3} {s s':iB} {t:bu} (h:gU B s) (hl:t.lits.length≤900) (hs:cm e s t=some s'):gU (B+1000) s':=by
 have mono:∀{C:Nat} {u:iB},gU C u→C≤B+1000→gU (B+1000) u:=fun hu hc=>⟨hu.hv,hu.dO,Nat.le_trans hu.len hc⟩
 unfold cm at hs
 split at hs
 ·unfold gV at hs
  split at hs
  ·rename_i hc
   cases hs
   exact mono (h.add hc.2.1 (by omega)) (by omega)
  ·cases hs
 ·split at hs
  ·unfold fS at hs
   split at hs
   ·cases hs
    exact⟨h.hv,fun c hc=>h.dO c (List.mem_of_mem_eraseIdx hc),by
     show(s.cl.eraseIdx _).length≤_
     have:=List.length_eraseIdx_le s.cl (s.cl.findIdx (Ft t.lits))
     have:=h.len
     omega⟩
   ·cases hs
  ·split at hs
   ·unfold eQ at hs
    split at hs
    ·rename_i hc
     obtain⟨_,c2,c3,c4,c5⟩:=hc
     cases hs
     have hv:=h.hv
     have hr:(t.lits.drop 1).length≤900:=by rw[List.length_drop];omega
     generalize t.lits.getD 0 0=g at c3 c4 ⊢
     generalize t.lits.drop 1=r at c5 hr ⊢
     have w5:ay (s.vars+1) r=true:=kv (by omega) c5
     refine⟨⟨by show 0≤s.vars+1;omega,by show s.vars+1≤20000;omega⟩,fun d hd=>?_,?_⟩
     ·show ay (s.vars+1) d=true∧d.length≤1000
      rcases List.mem_append.1 hd with hd|hd
      ·exact⟨kv (by omega) (h.dO d hd).1,(h.dO d hd).2⟩
      ·rcases List.mem_append.1 hd with hd|hd
       ·obtain⟨x,hx,rfl⟩:=List.mem_map.1 hd
        have hx':=aT w5 x hx
        refine⟨e6 (by omega) (e6 (by omega) rfl),by simp⟩
       ·simp at hd
        subst hd
        refine⟨e6 (by omega) (nO w5),by simp;omega⟩
     ·show(s.cl++defs g r).length≤_
      have:=h.len
      unfold defs
      simp
      omega
    ·cases hs
   ·split at hs
    ·unfold jc at hs
     split at hs
     ·rename_i hc
      cases hs
      exact mono (h.add hc.1 (by omega)) (by omega)
     ·cases hs
    ·cases hs
end Go.Ab
/- The checker's steps:finer bounds. -/
namespace Go.Ab
open Go Go.Proofs
theorem gU.kY {B:Nat} {e:j3} {s s':iB} {t:bu} (h:gU B s) (hl:t.lits.length≤900) (hs:cm e s t=some s'):gU (B+(t.lits.length+1)) s':=by
 have mono:∀{C:Nat} {u:iB},gU C u→C≤B+(t.lits.length+1)→gU (B+(t.lits.length+1)) u:=fun hu hc=>⟨hu.hv,hu.dO,Nat.le_trans hu.len hc⟩
 unfold cm at hs
 split at hs
 ·unfold gV at hs
  split at hs
  ·rename_i hc
   cases hs
   exact mono (h.add hc.2.1 (by omega)) (by omega)
  ·cases hs
 ·split at hs
  ·unfold fS at hs
   split at hs
   ·cases hs
    exact⟨h.hv,fun c hc=>h.dO c (List.mem_of_mem_eraseIdx hc),by
     show(s.cl.eraseIdx _).length≤_
     have:=List.length_eraseIdx_le s.cl (s.cl.findIdx (Ft t.lits))
     have:=h.len
     omega⟩
   ·cases hs
  ·split at hs
   ·unfold eQ at hs
    split at hs
    ·rename_i hc
     obtain⟨_,c2,c3,c4,c5⟩:=hc
     cases hs
     have hv:=h.hv
     have hr:(t.lits.drop 1).length≤900:=by rw[List.length_drop];omega
     have Li:(t.lits.drop 1).length+1=t.lits.length:=by rw[List.length_drop];omega
     generalize t.lits.getD 0 0=g at c3 c4 ⊢
     generalize t.lits.drop 1=r at c5 hr Li ⊢
     have w5:ay (s.vars+1) r=true:=kv (by omega) c5
     refine⟨⟨by show 0≤s.vars+1;omega,by show s.vars+1≤20000;omega⟩,fun d hd=>?_,?_⟩
     ·show ay (s.vars+1) d=true∧d.length≤1000
      rcases List.mem_append.1 hd with hd|hd
      ·exact⟨kv (by omega) (h.dO d hd).1,(h.dO d hd).2⟩
      ·rcases List.mem_append.1 hd with hd|hd
       ·obtain⟨x,hx,rfl⟩:=List.mem_map.1 hd
        have hx':=aT w5 x hx
        refine⟨e6 (by omega) (e6 (by omega) rfl),by simp⟩
       ·simp at hd
        subst hd
        refine⟨e6 (by omega) (nO w5),by simp;omega⟩
     ·show(s.cl++defs g r).length≤_
      have:=h.len
      unfold defs
      simp
      omega
    ·cases hs
   ·split at hs
    ·unfold jc at hs
     split at hs
     ·rename_i hc
      cases hs
      exact mono (h.add hc.1 (by omega)) (by omega)
     ·cases hs
    ·cases hs
def wS (l:List bu):Nat:=(l.map fun t=>t.lits.length+1).sum
theorem sR {l:List bu} {i:Nat} (h:i<l.length):wS (l.take (i+1))=wS (l.take i)+(l[i].lits.length+1):=by
 unfold wS
 rw[List.take_succ_eq_append_getElem h,List.map_append,List.sum_append];simp
theorem xP:∀(l:List bu) (i:Nat),wS (l.take i)≤wS l
 |[],i=>by simp
 |t::l,0=>by simp [wS]
 |t::l,i+1=>by
  have:=xP l i
  unfold wS at*
  simp only[List.take_succ_cons,List.map_cons,List.sum_cons]
  omega
theorem BA:∀(l:List bu),l.length≤wS l
 |[]=>by simp
 |t::l=>by
  have:=BA l
  unfold wS at*
  simp only[List.length_cons,List.map_cons,List.sum_cons]
  omega
end Go.Ab
