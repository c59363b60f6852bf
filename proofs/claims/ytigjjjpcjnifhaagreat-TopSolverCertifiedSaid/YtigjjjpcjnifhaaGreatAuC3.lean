/- Chapter 20, the reference's small functions: what each computes, and its walk. -/
import Derived.Test.YtigjjjpcjnifhaaGreatRows
import Derived.Test.YtigjjjpcjnifhaaGreatAbZ
import Derived.Test.YtigjjjpcjnifhaaGreatAbL2
import Derived.Test.YtigjjjpcjnifhaaGreatAbL3
import Derived.Shelf.Small.Bits
import Derived.Shelf.Strconv.Itoa0
import Derived.Shelf.Sort.Plain
import Derived.Shelf.Slices.Turned
import Derived.Shelf.Slices.Equal
import Derived.Ground.Names2Prog
import Derived.Shelf.Slices.Clone
import Derived.Shelf.Slices.CompactI
import Derived.Shelf.Slices.SearchI
import Derived.Shelf.Slices.Cells
import Derived.Shelf.Slices.In.SortNone
import Derived.Shelf.Slices.Empties
import Derived.Shelf.Slices.Empties2
import Derived.Ground.SlgnProg
import Derived.Shelf.SlicesE.Clone
import Derived.Test.YtigjjjpcjnifhaaGreatProg
import Derived.Lib.SlicesCompact
import Derived.WalkKit
import Derived.Deep.RegionLaw
import Derived.Deep.LoopGhost
import Derived.Lib.Walk
import Derived.Lib.SliceRun
import Derived.Lib.SlicesDelete
import Derived.Sort.WalkB12
set_option linter.unusedSimpArgs false
set_option linter.unusedVariables false
namespace Go.Ab
open Go Go.Proofs
set_option maxRecDepth 20000
set_option maxHeartbeats 4000000
attribute [local irreducible] AW aa bE aX
theorem aR {α:Type} {l:List α} {k:Nat} (hk:k<l.length):l.take (k+1)=l.take k++ [l[k]]:=List.take_succ_eq_append_getElem hk
theorem bK {α:Type} {l:List α} {k:Nat} (h:¬(k:Int)<(l.length:Int)):l.take k=l:=List.take_of_length_le (by omega)
theorem vW {l:List Int} {x:Int} {k:Nat} (h1:x∉l.take k) (hk:k<l.length) (h2:¬l[k]=x):x∉l.take (k+1):=by
 rw[aR hk,List.mem_append]
 simp [h1,Ne.symm h2]
def Sm (l:List Int):Prop:=∀x∈l,-1000000000000≤x∧x≤1000000000000
def ay (vars:Int) (l:List Int):Bool:=l.all fun x=>decide (x≠0∧x≤vars∧0 - vars≤x)
theorem qF {vars:Int} {l:List Int} {k:Nat} (hk:k<l.length) (h:¬(l[k]≠0∧l[k]≤vars∧0 - vars≤l[k])):ay vars l=false:=by
 unfold ay
 rw[List.all_eq_false]
 exact⟨l[k],List.getElem_mem hk,by simpa using h⟩
def bP (l:List Int):Bool:=l.any fun x=>decide ((0 - x)∈l)
theorem vU {l:List Int} {k:Nat} (hk:k<l.length) (h:(0 - l[k])∈l):bP l=true:=by
 unfold bP;rw[List.any_eq_true];exact⟨l[k],List.getElem_mem hk,by simpa using h⟩
end Go.Ab
/- Chapter 20,the reference's run:what each function computes,and its walk. -/
namespace Go.Ab
open Go Go.Proofs
set_option maxRecDepth 20000
set_option maxHeartbeats 4000000
attribute [local irreducible] AW aa bE aX
abbrev w6 (vars:Int) (cl:List (List Int)):AV:=.agg [al vars,.pv (cV cl)]
def jv (vars:Int) (cl:List (List Int)):Bool:=decide (0≤vars∧vars≤20000∧(cl.length:Int)≤60000) && cl.all (ay vars)
theorem wV {vars:Int} {cl:List (List Int)} (h:¬(0≤vars∧vars≤20000∧(cl.length:Int)≤60000)):jv vars cl=false:=by
 simp only[jv,decide_eq_false h,Bool.false_and]
theorem uA {α:Type} {p:α→Bool} {l:List α} {k:Nat} (hk:k<l.length) (h:(l.take k).all p=true) (h':p l[k]=true):(l.take (k+1)).all p=true:=by
 rw[aR hk,List.all_append,h];simp [h']
def cN (trail:List Int):List Int→Int→Int×Int
 |[],left=>if left=0 then (1,0) else (2,left)
 |x::c,left=>if x∈trail∨((0 - x)∉trail∧left≠0∧left≠x) then (0,0) else cN trail c (if (0 - x)∈trail then left else x)
def cz (c trail:List Int):Int×Int:=cN trail c 0
end Go.Ab
/- Chapter 20,the reference's trail:one step,the run. -/
namespace Go.Ab
open Go Go.Proofs
set_option maxRecDepth 20000
set_option maxHeartbeats 4000000
attribute [local irreducible] AW aa bE aX
abbrev Tr:=List Int×List Int×Int
def eY (t:Tr):Int→List (List Int)→Tr×Bool
 |_,[]=>(t,false)
 |i,c::cl=>if (cz c t.1).1=1 then ((t.1,t.2.1,i),false) else if (cz c t.1).1=2 then ((t.1++ [(cz c t.1).2],t.2.1++ [i],t.2.2),true) else eY t (i+1) cl
def fu (cl:List (List Int)) (t:Tr):Tr×Bool:=eY t 0 cl
theorem ru (t:Tr) (cl:List (List Int)) (k:Nat) (h:k<cl.length):eY t k (cl.drop k)=
  if (cz cl[k] t.1).1=1 then ((t.1,t.2.1,(k:Int)),false) else if (cz cl[k] t.1).1=2 then ((t.1++ [(cz cl[k] t.1).2],t.2.1++ [(k:Int)],t.2.2),true) else eY t (k+1:Nat) (cl.drop (k+1)):=by
 rw[List.drop_eq_getElem_cons h];rfl
end Go.Ab
/- Chapter 20,the reference's run. -/
namespace Go.Ab
open Go Go.Proofs
set_option maxRecDepth 20000
set_option maxHeartbeats 4000000
attribute [local irreducible] AW aa bE aX
def gI (t:Tr) (x:Int):Tr:=if x∈t.1 then t else (t.1++ [x],t.2.1++ [-1],t.2.2)
def cO (assume:List Int):Tr:=assume.foldl gI ([],[],-1)
def la (cl:List (List Int)):Nat→Tr→Tr
 |0,t=>t
 |n+1,t=>if (fu cl t).2 then la cl n (fu cl t).1 else (fu cl t).1
def runM (vars:Int) (cl:List (List Int)) (assume:List Int):Tr:=la cl (vars+1).toNat (cO assume)
theorem Cu (t:Tr) (x:Int):(gI t x).1.length≤t.1.length+1∧(gI t x).2.1.length≤t.2.1.length+1:=by
 unfold gI;split<;>simp
theorem zQ (l:List Int):∀t:Tr,(l.foldl gI t).1.length≤t.1.length+l.length∧(l.foldl gI t).2.1.length≤t.2.1.length+l.length:=by
 induction l with
 |nil=>intro t;simp
 |cons x l ih=>intro t;have h1:=ih (gI t x);have h2:=Cu t x;simp only[List.foldl_cons,List.length_cons];omega
theorem xL (assume:List Int):(cO assume).1.length≤assume.length∧(cO assume).2.1.length≤assume.length:=by
 have:=zQ assume ([],[],-1);simpa [cO] using this
theorem vx {assume:List Int} {k:Nat} (h:k<assume.length):cO (assume.take (k+1))=gI (cO (assume.take k)) assume[k]:=by
 unfold cO;rw[aR h,List.foldl_append];rfl
end Go.Ab
/- Chapter 20,the reference's answers. -/
namespace Go.Ab
open Go Go.Proofs
set_option maxRecDepth 20000
set_option maxHeartbeats 4000000
attribute [local irreducible] AW aa bE aX
def sG (l:List Int) (x:Int):Int:=if x∈l then (l.idxOf x:Int) else -1
theorem BB {l:List Int} {x:Int} {k:Nat} (hk:k<l.length) (h:l[k]=x) (ew:x∉l.take k):(k:Int)=sG l x:=by
 have hm:x∈l:=h▸List.getElem_mem hk
 rw[sG,if_pos hm]
 have:l.idxOf x=k:=by
  have e:l=l.take k++x::l.drop (k+1):=by
   rw[← h,List.getElem_cons_drop,List.take_append_drop]
  rw[e,List.idxOf_append,if_neg ew,List.idxOf_cons_self]
  simp;omega
 rw[this]
def impl (l:List (Int×Int)):List (Int×Int):=l.filter fun p=>decide (0≤p.2)
def pr (t:Tr):List (Int×Int):=t.1.zip t.2.1
def qh (vars:Int) (cl:List (List Int)) (assume:List Int):List Int×Int:=
 if bP assume=true then ([],-2) else ((impl (pr (runM vars cl assume))).map (·.1),(runM vars cl assume).2.2)
def lg (t:Tr):Prop:=t.2.1.length=t.1.length
theorem B4 {t:Tr} (h:lg t) (x:Int):lg (gI t x):=by
 unfold gI lg at*;split<;>simp [h]
theorem wY (assume:List Int):lg (cO assume):=by
 have:∀(l:List Int) (t:Tr),lg t→lg (l.foldl gI t):=by
  intro l
  induction l with
  |nil=>intro t h;exact h
  |cons x l ih=>intro t h;exact ih _ (B4 h x)
 exact this assume _ rfl
end Go.Ab
/- Chapter 20,the reference's answers:reasons,implied clauses. -/
namespace Go.Ab
open Go Go.Proofs
set_option maxRecDepth 20000
set_option maxHeartbeats 4000000
attribute [local irreducible] AW aa bE aX
def cr (vars:Int) (cl:List (List Int)) (c:List Int):Bool:=
 if bP (c.map fun x=>0 - x)=true then true else decide (0≤(runM vars cl (c.map fun x=>0 - x)).2.2)
theorem Ic {l:List Int} (h:Sm l):Sm (l.map fun x=>0 - x):=by
 intro x hx
 obtain⟨y,hy,rfl⟩:=List.mem_map.1 hx
 have:=h y hy
 omega
end Go.Ab
/- Chapter 20:the library's search,the closure. -/
namespace Go.Ab
open Go Go.Proofs
set_option maxRecDepth 20000
set_option maxHeartbeats 4000000
attribute [local irreducible] AW aa bE aX
theorem Dz (l:List Int) (x:Int):Fn Tryz.prog 91 [.pv (ints l),al x] (al (sG l x)):=by
 refine Fn.enter (n:=19) Tryz.func91 rfl rfl rfl rfl rfl (by decide) fun g aU aT=>?_;(try refine nz ?_)
 refine AW.cF 0 rfl fun hlen=>?_
 (refine j9 ?_;refine l8 ?_)
 refine AW.loop (fun(k:Nat)=>{n:=19,env:=[(0,.pv (ints l)),(1,al x),(7,al l.length),(8,al k)],objs:=[],nx:=0}) (fun k=>k≤l.length∧x∉l.take k) (fun k=>l.length - k) 0 ?_ ?_ ?_
 ·simp
 ·exact Hv
 rintro k ⟨hk,ew⟩
 (refine zq ?_;refine iO ?_;refine zo ?_;(focus ((with_reducible apply AW.lI);exact rfl;exact rfl;all_goals intro jW));refine qi ?_;refine zo ?_;refine AW.block ?_;refine nV ?_;refine oq ?_;(iterate 3 refine zm ?_);(focus ((with_reducible apply aa.aj);(iterate 7 exact rfl);rotate_left;omega));refine zr ?_;refine lh ?_;(focus ((with_reducible apply AW.lI);exact rfl;exact rfl;all_goals intro jW));refine nV ?_;refine kf ?_;(all_goals skip);rotate_left;refine AW.skip ?_;refine tC ?_;(all_goals skip);rotate_left;refine r8 ?_;refine d_ ?_;refine fL ?_;(all_goals skip);rotate_left)
 ·exact ax (.one (.tmp rfl rfl)) (.al (BB (l:=l) (by omega) jW.symm ew))
 ·exact⟨k+1,⟨by omega,vW (l:=l) ew (by omega) (Ne.symm jW)⟩,by omega,aO rfl (by(refine⟨.eq rfl rfl,?_⟩;(iterate 3 refine⟨.eq rfl rfl,?_⟩);exact trivial)) (by(exact trivial)) rfl⟩
 ·exact ax (.one (.tmp rfl rfl)) (.al (by rw[bK (l:=l) (by omega)] at ew;rw[sG,if_neg ew]))
theorem zz (l:List Int) (x:Int):decide (0≤sG l x)=decide (x∈l):=by
 unfold sG
 by_cases h:x∈l
 ·rw[if_pos h];simp [h]
 ·rw[if_neg h];simp [h]
theorem iE (l:List Int) (x:Int):Fn Tryz.prog 54 [.pv (ints l),al x] (aF (decide (x∈l))):=by
 refine Fn.enter (n:=9) Tryz.func54 rfl rfl rfl rfl rfl (by decide) fun g aU aT=>?_;(try refine nz ?_)
 (refine l7 ?_;(iterate 2 refine zm ?_);refine aa.call (Dz _ _) (.cons rfl (.pv _) (.cons rfl (.pv _) .nil)) rfl rfl (fun h_=>by cases h_) ?_;refine aa.geq rfl rfl rfl rfl rfl ?_;refine fL ?_)
 (apply ax;(exact bA.one (.tmp rfl rfl));(refine Le.aF ?_;(exact zz l x)))
end Go.Ab
/- Chapter 20:unitprop's test for contradictory literals. -/
namespace Go.Ab
open Go Go.Proofs
set_option maxRecDepth 20000
set_option maxHeartbeats 4000000
attribute [local irreducible] AW aa bE aX
theorem Av (l:List Int) (hs:Sm l):Fn Tryz.prog 50 [.pv (ints l)] (aF (bP l)):=by
 refine Fn.enter (n:=6) Tryz.func50 rfl rfl rfl rfl rfl (by decide) fun g aU aT=>?_;(try refine nz ?_)
 refine AW.cF 0 rfl fun hlen=>?_
 (refine Er ?_;refine d_ ?_;refine zb ?_;refine aa.dT rfl rfl rfl ?_;(with_reducible apply aa.inline (hf:=Tryz.func39));(with_reducible assumption);(iterate 10 exact rfl);intro g_ aU aT;refine mR ?_;refine aa.dM rfl rfl rfl ?_;(with_reducible apply aa.inline (hf:=Tryz.func78));(with_reducible assumption);(iterate 10 exact rfl);intro g_ aU aT;refine Ba ?_)
 refine AW.loop (fun(k:Nat)=>{n:=19,env:=[(0,.pv (ints l)),(1,.clo (.func 87) [] [.ptr 0 0]),(7,al l.length),(8,al k)],objs:=[(0,some (.box [.pv (ints l)]))],nx:=1}) (fun k=>k≤l.length∧(∀x∈l.take k,(0 - x)∉l)) (fun k=>l.length - k) 0 ?_ ?_ ?_
 ·simp
 ·exact aO rfl (by(refine⟨.eq rfl rfl,?_⟩;(iterate 3 refine⟨.eq rfl rfl,?_⟩);exact trivial)) (by(refine⟨.box _ rfl ?_,?_⟩;refine⟨.eq rfl rfl,?_⟩;(iterate 2 exact trivial))) rfl
 rintro k ⟨hk,ew⟩
 by_cases aM:k<l.length
 ·have hx:=hs _ (List.getElem_mem aM)
  (refine qW ?_;(focus ((with_reducible apply aa.aj);(iterate 7 exact rfl);rotate_left;omega));refine zr ?_;(with_reducible apply aa.inline (hf:=Tryz.func87));(with_reducible assumption);(iterate 10 exact rfl);intro g_ aU aT;refine nz ?_;refine l7 ?_;refine dX ?_;refine aa.neg rfl rfl rfl (by omega) ?_;refine aa.call (iE _ _) (.cons rfl (.pv _) (.cons rfl (.pv _) .nil)) rfl rfl (fun h_=>by cases h_) ?_;refine iq ?_;refine zd ?_;(focus ((with_reducible apply AW.lI);exact rfl;exact rfl;all_goals intro jW));refine zq ?_;refine zm ?_;refine Ck ?_;refine nz ?_;refine aa.geq rfl rfl rfl rfl rfl ?_;refine iq ?_;refine fL ?_;(all_goals skip);rotate_left;refine AW.skip ?_;refine jB ?_;(all_goals skip);rotate_left)
  ·(apply ax;(exact bA.one (.tmp rfl rfl));(refine Le.aF ?_;(rw[vU aM (by rw[Int.zero_sub];exact jW)];simp)))
  ·exact⟨k+1,⟨by omega,by rw[aR aM];intro x hx;rcases List.mem_append.1 hx with h|h;exact ew x h;simp only[List.mem_singleton] at h;subst h;rw[Int.zero_sub];exact jW⟩,by omega,aO rfl (by(exact FY)) (by(refine⟨.box _ rfl ?_,?_⟩;refine⟨.eq rfl rfl,?_⟩;(iterate 2 exact trivial))) rfl⟩
 ·(refine kO ?_;refine iq ?_;refine aa.geq rfl rfl rfl rfl rfl ?_;refine iq ?_;refine fL ?_)
  have hf:bP l=false:=by rw[bK (l:=l) (by omega)] at ew;unfold bP;rw[List.any_eq_false];simpa using ew
  (apply ax;(exact bA.one (.tmp rfl rfl));(refine Le.aF ?_;(rw[hf];rfl)))
end Go.Ab
/- Chapter 20:unitprop's run,the plain part:what open and active compute,beside the reference's step. -/
namespace Go.Ab
open Go Go.Proofs
set_option maxRecDepth 20000
set_option maxHeartbeats 4000000
def bp (tr:List Int):List Int→List Int→Option (List Int)
 |[],out=>some out
 |x::c,out=>if x∈tr then none else bp tr c (if (-x)∉tr∧x∉out then out++ [x] else out)
theorem rB (tr c:List Int) (k:Nat) (out:List Int) (h:k<c.length):bp tr (c.drop k) out=
  if c[k]∈tr then none else bp tr (c.drop (k+1)) (if (-c[k])∉tr∧c[k]∉out then out++ [c[k]] else out):=by
 rw[List.drop_eq_getElem_cons h];rfl
theorem sX (tr:List Int):∀(c out r:List Int),bp tr c out=some r→∃s,r=out++s:=by
 intro c
 induction c with
 |nil=>intro out r h;simp only[bp,Option.some.injEq] at h;exact⟨[],by simp [h]⟩
 |cons x c ih=>
  intro out r h
  unfold bp at h
  split at h
  ·cases h
  ·obtain⟨s,hs⟩:=ih _ _ h
   split at hs
   ·exact⟨x::s,by simpa using hs⟩
   ·exact⟨s,hs⟩
def lj:Option (List Int)→Int×Int
 |none=>(0,0)
 |some []=>(1,0)
 |some [x]=>(2,x)
 |some _=>(0,0)
theorem AM {tr c out:List Int} (h:2≤out.length):lj (bp tr c out)=(0,0):=by
 cases hc:bp tr c out with
 |none=>rfl
 |some r=>
  obtain⟨s,rfl⟩:=sX tr c out r hc
  match out,h with
  |a::b::out,_=>rfl
theorem u_ (tr:List Int):∀(c:List Int),(∀x∈c,x≠0)→
  (cN tr c 0=lj (bp tr c []))∧∀l,l≠0→cN tr c l=lj (bp tr c [l]):=by
 intro c
 induction c with
 |nil=>intro _;exact⟨rfl,fun l hl=>by simp [cN,bp,lj,hl]⟩
 |cons x c ih=>
  intro h
  have hx:x≠0:=h x (by simp)
  obtain⟨i1,i2⟩:=ih fun y hy=>h y (by simp [hy])
  have e:(0:Int) - x= -x:=by omega
  refine⟨?_,fun l hl=>?_⟩
  ·unfold cN bp
   by_cases h1:x∈tr
   ·simp [h1,lj]
   ·by_cases h2:(-x)∈tr
    ·simp [h1,h2,e,i1]
    ·simp only[h1,h2,e,false_or,not_false_eq_true,true_and,ne_eq,not_true_eq_false,false_and,and_false,if_false,List.not_mem_nil,if_true,List.nil_append]
     exact i2 x hx
  ·unfold cN bp
   by_cases h1:x∈tr
   ·simp [h1,lj]
   ·by_cases h2:(-x)∈tr
    ·simp only[h1,h2,e,false_or,not_true_eq_false,false_and,if_false,if_true]
     exact i2 l hl
    ·by_cases h3:l=x
     ·subst h3
      simp only[h1,h2,e,false_or,not_false_eq_true,true_and,ne_eq,not_true_eq_false,and_false,if_false,List.mem_singleton]
      exact i2 l hl
     ·rw[if_pos (.inr ⟨by rw[e];exact h2,hl,h3⟩),if_neg h1,if_pos ⟨h2,by simp;exact fun e=>h3 e.symm⟩]
      exact(AM (by simp)).symm
theorem gP (c tr:List Int) (h:∀x∈c,x≠0):cz c tr=lj (bp tr c []):=(u_ tr c h).1
theorem jK (tr:List Int):∀(c out r:List Int),bp tr c out=some r→(∀y∈out,y∉tr∧(-y)∉tr)→∀y∈r,(y∈out∨y∈c)∧y∉tr∧(-y)∉tr:=by
 intro c
 induction c with
 |nil=>intro out r h ho y hy;simp only[bp,Option.some.injEq] at h;subst h;exact⟨.inl hy,ho y hy⟩
 |cons x c ih=>
  intro out r h ho y hy
  unfold bp at h
  split at h
  ·cases h
  ·rename_i hx
   split at h
   ·rename_i h2
    have:=ih _ _ h (by intro z hz;rcases List.mem_append.1 hz with hz|hz;exact ho z hz;simp at hz;subst hz;exact⟨hx,h2.1⟩) y hy
    refine⟨?_,this.2⟩
    rcases this.1 with h3|h3
    ·rcases List.mem_append.1 h3 with h3|h3
     ·exact .inl h3
     ·simp at h3;subst h3;exact .inr (by simp)
    ·exact .inr (by simp [h3])
   ·have:=ih _ _ h ho y hy
    exact⟨this.1.imp id (fun h=>by simp [h]),this.2⟩
def ku (vars:Int) (l:List Int):Prop:=(l.map Int.natAbs).Nodup∧∀x∈l,x≠0∧x≤vars∧ -vars≤x
theorem CK:∀(n:Nat) {l:List Nat},l.Nodup→(∀x∈l,1≤x∧x≤n)→l.length≤n:=by
 intro n
 induction n with
 |zero=>intro l _ h;cases l with|nil=>simp|cons x l=>have:=h x (by simp);omega
 |succ n ih=>
  intro l hn h
  have h1:=ih (l:=l.erase (n+1)) (hn.erase _) (fun x hx=>by
   have h2:=h x (List.mem_of_mem_erase hx)
   have h3:x≠n+1:=fun e=>by subst e;exact(List.Nodup.not_mem_erase hn) hx
   omega)
  have:=List.length_erase (a:=n+1) (l:=l)
  split at this<;>omega
theorem ku.len {vars:Int} {l:List Int} (h:ku vars l):(l.length:Int)≤max vars 0:=by
 have:=CK vars.toNat h.1 (fun x hx=>by
  obtain⟨y,hy,rfl⟩:=List.mem_map.1 hx
  have:=h.2 y hy
  omega)
 simp at this;omega
theorem ku.add {vars:Int} {l:List Int} (h:ku vars l) {x:Int} (hx:x≠0∧x≤vars∧ -vars≤x) (h1:x∉l) (h2:(-x)∉l):ku vars (l++ [x]):=by
 refine⟨?_,fun y hy=>?_⟩
 ·rw[List.map_append,List.nodup_append]
  refine⟨h.1,by simp,?_⟩
  intro a ha b hb e
  simp at hb;subst hb;subst e
  obtain⟨y,hy,he⟩:=List.mem_map.1 ha
  have:y=x∨y= -x:=by omega
  rcases this with rfl|rfl
  ·exact h1 hy
  ·exact h2 hy
 ·rcases List.mem_append.1 hy with hy|hy
  ·exact h.2 y hy
  ·simp at hy;subst hy;exact hx
theorem aY {vars:Int} {l:List Int} (h:ay vars l=true):∀x∈l,x≠0∧x≤vars∧ -vars≤x:=by
 intro x hx
 have:=List.all_eq_true.1 h x hx
 simp at this
 omega
theorem jN (assume:List Int):(∀x,x∈(cO assume).1↔x∈assume):=by
 have:∀(l:List Int) (t:Tr) (x:Int),x∈(l.foldl gI t).1↔x∈t.1∨x∈l:=by
  intro l
  induction l with
  |nil=>intro t x;simp
  |cons y l ih=>
   intro t x
   rw[List.foldl_cons,ih,List.mem_cons]
   unfold gI
   split
   ·rename_i h
    constructor
    ·rintro(h1|h1);exact .inl h1;exact .inr (.inr h1)
    ·rintro(h1|rfl|h1);exact .inl h1;exact .inl h;exact .inr h1
   ·simp only[List.mem_append,List.mem_singleton]
    rw[or_assoc]
 intro x
 have:=this assume ([],[],-1) x
 simpa [cO] using this
theorem uF {vars:Int} {assume:List Int} (h:ay vars assume=true) (hc:bP assume=false):ku vars (cO assume).1:=by
 have key:∀(l:List Int) (t:Tr),(∀x∈t.1,x∈assume)→(∀x∈l,x∈assume)→ku vars t.1→ku vars (l.foldl gI t).1:=by
  intro l
  induction l with
  |nil=>intro t _ _ h;exact h
  |cons y l ih=>
   intro t h1 h2 h3
   rw[List.foldl_cons]
   have hy:=h2 y (by simp)
   refine ih _ ?_ (fun x hx=>h2 x (by simp [hx])) ?_
   ·intro x hx
    unfold gI at hx
    split at hx
    ·exact h1 x hx
    ·rcases List.mem_append.1 hx with hx|hx
     ·exact h1 x hx
     ·simp at hx;subst hx;exact hy
   ·unfold gI
    split
    ·exact h3
    ·rename_i hn
     refine h3.add (aY h y hy) hn (fun hm=>?_)
     unfold bP at hc
     rw[List.any_eq_false] at hc
     have:=hc y hy
     simp at this
     exact this (h1 _ hm)
 exact key assume _ (by simp) (fun x hx=>hx) ⟨by simp,by simp⟩
structure rT (vars:Int) (cl:List (List Int)) (assume:List Int) (t:Tr) (n:Nat):Prop where
 dist:ku vars t.1
 even:lg t
 xQ:t.2.2= -1
 le:n≤t.1.length
 eq:runM vars cl assume=la cl (vars+1 - n).toNat t
theorem qk {vars:Int} {cl:List (List Int)} {assume:List Int} (_hv:0≤vars) (h:ay vars assume=true) (hc:bP assume=false):rT vars cl assume (cO assume) 0:=by
 refine⟨uF h hc,wY _,?_,Nat.zero_le _,?_⟩
 ·have:∀(l:List Int) (t:Tr),(l.foldl gI t).2.2=t.2.2:=by
   intro l
   induction l with
   |nil=>intro t;rfl
   |cons y l ih=>intro t;rw[List.foldl_cons,ih];unfold gI;split<;>rfl
  exact this assume _
 ·simp [runM]
theorem rT.fuel {vars:Int} {cl:List (List Int)} {assume:List Int} {t:Tr} {n:Nat} (hv:0≤vars) (h:rT vars cl assume t n):(vars+1 - (n:Int)).toNat=(vars+1 - ((n+1:Nat):Int)).toNat+1:=by
 have:=h.dist.len
 have:=h.le
 omega
theorem rT.stop {vars:Int} {cl:List (List Int)} {assume:List Int} {t t':Tr} {n:Nat} (hv:0≤vars) (h:rT vars cl assume t n) (hs:fu cl t=(t',false)):runM vars cl assume=t':=by
 rw[h.eq,h.fuel hv,la,hs];rfl
theorem rT.go {vars:Int} {cl:List (List Int)} {assume:List Int} {t:Tr} {n:Nat} (hv:0≤vars) (h:rT vars cl assume t n) {x r:Int} (hs:fu cl t=((t.1++ [x],t.2.1++ [r],t.2.2),true))
  (hx:x≠0∧x≤vars∧ -vars≤x) (h1:x∉t.1) (h2:(-x)∉t.1):rT vars cl assume (t.1++ [x],t.2.1++ [r],-1) (n+1):=by
 refine⟨h.dist.add hx h1 h2,?_,rfl,?_,?_⟩
 ·have:t.2.1.length=t.1.length:=h.even
  show(t.2.1++ [r]).length=(t.1++ [x]).length
  simp [this]
 ·have:=h.le;simp;exact this
 ·rw[h.eq,h.fuel hv,la,hs]
  show la cl _ (t.1++ [x],t.2.1++ [r],t.2.2)=_
  rw[h.xQ]
end Go.Ab
/- Chapter 20:unitprop's run,walked. -/
namespace Go.Ab
open Go Go.Proofs
set_option maxRecDepth 20000
set_option maxHeartbeats 4000000
attribute [local irreducible] AW aa bE aX bd n5 bm
theorem Fk (vars:Int) (cl:List (List Int)) (assume:List Int) (dq:∀c∈cl,ay vars c=true∧c.length≤100000) (h3:cl.length≤1000000) (hv:0≤vars∧vars≤100000) (ha:assume.length≤100000) (hw:ay vars assume=true) (hc:bP assume=false):
  Fn Tryz.prog 51 [w6 vars cl,.pv (ints assume)] (.rptr [.lit (.int .i64 vars),cV cl,ints (runM vars cl assume).1,ints (runM vars cl assume).2.1,.any,.lit (.int .i64 (runM vars cl assume).2.2)]):=by
 refine Fn.enter (n:=46) Tryz.func51 rfl rfl rfl rfl rfl (by decide) fun g aU aT=>?_;(try refine nz ?_)
 (refine Er ?_;refine d_ ?_;refine zL ?_;refine nz ?_;refine aa.E0 (t:=88) rfl ?_;refine nz ?_;refine aa.xz 90 [0,4,5] rfl rfl rfl rfl rfl rfl rfl rfl rfl ?_;refine nz ?_;refine aa.box rfl rfl rfl rfl ?_;refine nz ?_;refine pE ?_;refine Bs ?_;refine zd ?_;refine zo ?_;refine zq ?_;refine l8 ?_)
 refine AW.cF 1 rfl fun hlen=>?_
 refine AW.loop (fun(k:Nat)=>{n:=46,env:=[(5,.ptr 3 0),(14,.pv (ints assume)),(15,al assume.length),(16,al k)],objs:=[(1,some (.mp (eg (gn (cO (assume.take k)).1)))),(2,some (.box [al vars,.pv (cV cl),.own 4 3 1 ((cO (assume.take k)).1.map encI),.own 5 3 1 ((cO (assume.take k)).2.1.map encI),.mapr 1,al (-1)])),(3,some (.box [.ptr 2 0])),(4,some .row),(5,some .row)],nx:=6})
  (fun k=>k≤assume.length) (fun k=>assume.length - k) 0 ?_ ?_ ?_
 ·simp
 ·exact aO rfl (by(refine⟨.eq rfl rfl,?_⟩;refine⟨.bF (by first|with_reducible rfl|(simp [cO])),?_⟩;(iterate 2 refine⟨.bJ (by first|with_reducible rfl|(simp [cO])),?_⟩);exact trivial)) (by(refine⟨WO.KA rfl,?_⟩;refine⟨.box _ rfl ?_,?_⟩;refine⟨.bJ (by first|with_reducible rfl|(simp [cO])),?_⟩;refine⟨.bF (by first|with_reducible rfl|(simp [cO])),?_⟩;(iterate 2 refine⟨.nilown _ _ _ rfl rfl,?_⟩);refine⟨.eq rfl rfl,?_⟩;refine⟨.bJ (by first|with_reducible rfl|(simp [cO])),?_⟩;exact trivial;refine⟨.box _ rfl ?_,?_⟩;refine⟨.eq rfl rfl,?_⟩;exact trivial;(iterate 2 refine⟨.newrow rfl,?_⟩);exact trivial)) rfl
 ·rintro k hk
  have hs:=xL (assume.take k)
  have ot:(assume.take k).length≤100000:=by simp;omega
  by_cases aM:k<assume.length
  ·have tc:=vx aM
   (refine Bt ?_;(focus ((with_reducible apply aa.aj);(iterate 7 exact rfl);rotate_left;omega));refine zr ?_;refine oq ?_;refine zb ?_;refine aa.aI rfl rfl rfl ?_;refine aa.ah 90 3 4 rfl rfl rfl rfl ?_;refine dX ?_;refine aa.mh rfl rfl rfl rfl rfl rfl rfl rfl rfl ?_;refine aa.D9 rfl rfl rfl ?_;refine zd ?_;(focus ((with_reducible apply AW.lI);exact rfl;exact rfl;all_goals intro jW));refine AW.region ?_;refine nz ?_;refine dX ?_;(with_reducible apply aa.inline (hf:=Tryz.func88));(with_reducible assumption);(iterate 10 exact rfl);intro g_ aU aT;refine nz ?_;(all_goals skip);rotate_left;refine AW.skip ?_;refine tC ?_;(all_goals skip);rotate_left)
   ·have yK:assume[k]∉(cO (assume.take k)).1:=jW
    refine AW.tN [0,2,3,4,5,7,8,9,10,11,14,15,16,17,18] [23,26,27,29] rfl (by assumption) (by kernel_rfl) rfl ?_
    show aa .held _ _ _ [_,_,_,_,_,_,_,_,_,_,_,_,_,_,_] _ _
    (refine Kh ?_)
    intro k_ cR
    (try refine nz ?_)
    refine AR.free 1 (by kernel_rfl) rfl rfl rfl (by first|exact bq.bc rfl rfl|exact bq.cU rfl rfl|exact bq.nilCheck rfl rfl) ?_
    refine AR.free 6 (by kernel_rfl) rfl rfl rfl (by first|exact bq.bc rfl rfl|exact bq.cU rfl rfl|exact bq.nilCheck rfl rfl) ?_
    refine AR.lD (i:=12) (j:=19) rfl (by kernel_rfl) rfl rfl ?_ ?_<;>intro g_ ag bw<;>(refine pb ?_;refine Q4 ?_)
    ·refine AR.lD (i:=13) (j:=19) rfl (by kernel_rfl) rfl rfl ?_ ?_<;>intro g_ ag bw<;>(first|((with_reducible apply aa.bh);exact rfl;(first|exact .pv rfl|exact .own rfl|exact .nil rfl);(iterate 9 exact rfl);(first|omega|(simp only[List.length_map,List.length_append,List.length_cons,List.length_nil,List.length_drop,List.length_take,List.length_set,List.length_range,aL];omega));refine fN ?_)|(refine pb ?_;refine Q4 ?_))
     ·refine AR.bX (i:=19) rfl (by kernel_rfl) rfl ?_
      intro g_ ag bw
      (refine pb ?_;refine Q4 ?_)
      refine AR.bX (i:=20) rfl (by kernel_rfl) rfl ?_
      intro g_ ag bw
      ((with_reducible apply aa.bh);exact rfl;(first|exact .pv rfl|exact .own rfl|exact .nil rfl);(iterate 9 exact rfl);(first|omega|(simp only[List.length_map,List.length_append,List.length_cons,List.length_nil,List.length_drop,List.length_take,List.length_set,List.length_range,aL];omega));refine fN ?_)
      refine AR.bX (i:=21) rfl (by kernel_rfl) rfl ?_
      intro g_ ag bw
      (refine nD ?_)
      refine AR.bX (i:=22) rfl (by kernel_rfl) rfl ?_
      intro g_ ag bw
      (refine z_ ?_)
      refine Am ?_
      intro g_ ag aJ
      (refine lZ ?_)
      refine AR.bX (i:=24) rfl (by kernel_rfl) rfl ?_
      intro g_ ag bw
      (refine nD ?_)
      refine AR.bX (i:=25) rfl (by kernel_rfl) rfl ?_
      intro g_ ag bw
      (refine A9 ?_)
      refine zE ?_
      intro g_ ag aJ
      (refine lZ ?_)
      refine A0 ?_
      intro g_ ag aJ
      (refine A3 ?_;refine fN ?_)
      refine AR.bX (i:=28) rfl (by kernel_rfl) rfl ?_
      intro g_ ag bw
      (refine AN ?_)
      refine zR ?_
      intro g_ ag aJ
      (refine zW ?_;refine fN ?_)
      refine AR.done (by assumption) (by kernel_rfl) ?_
      (refine zx ?_;refine jB ?_)
      rw[gI,if_neg yK] at tc
      exact OW
     ·refine AR.bX (i:=13) rfl (by kernel_rfl) rfl ?_
      intro g_ ag bw
      ((with_reducible apply aa.bh);exact rfl;(first|exact .pv rfl|exact .own rfl|exact .nil rfl);(iterate 9 exact rfl);(first|omega|(simp only[List.length_map,List.length_append,List.length_cons,List.length_nil,List.length_drop,List.length_take,List.length_set,List.length_range,aL];omega));refine fN ?_)
      refine AR.bX (i:=20) rfl (by kernel_rfl) rfl ?_
      intro g_ ag bw
      ((with_reducible apply aa.bh);exact rfl;(first|exact .pv rfl|exact .own rfl|exact .nil rfl);(iterate 9 exact rfl);(first|omega|(simp only[List.length_map,List.length_append,List.length_cons,List.length_nil,List.length_drop,List.length_take,List.length_set,List.length_range,aL];omega));refine fN ?_)
      refine AR.bX (i:=21) rfl (by kernel_rfl) rfl ?_
      intro g_ ag bw
      (refine nD ?_)
      refine AR.bX (i:=22) rfl (by kernel_rfl) rfl ?_
      intro g_ ag bw
      (refine z_ ?_)
      refine Am ?_
      intro g_ ag aJ
      (refine lZ ?_)
      refine AR.bX (i:=24) rfl (by kernel_rfl) rfl ?_
      intro g_ ag bw
      (refine nD ?_)
      refine AR.bX (i:=25) rfl (by kernel_rfl) rfl ?_
      intro g_ ag bw
      (refine A9 ?_)
      refine zE ?_
      intro g_ ag aJ
      (refine lZ ?_)
      refine A0 ?_
      intro g_ ag aJ
      (refine A3 ?_;refine fN ?_)
      refine AR.bX (i:=28) rfl (by kernel_rfl) rfl ?_
      intro g_ ag bw
      (refine AN ?_)
      refine zR ?_
      intro g_ ag aJ
      (refine zW ?_;refine fN ?_)
      refine AR.done (by assumption) (by kernel_rfl) ?_
      (refine zx ?_;refine jB ?_)
      rw[gI,if_neg yK] at tc
      exact OW
    ·refine AR.bX (i:=12) rfl (by kernel_rfl) rfl ?_
     intro g_ ag bw
     (refine pb ?_;refine Q4 ?_)
     refine AR.bX (i:=13) rfl (by kernel_rfl) rfl ?_
     intro g_ ag bw
     ((with_reducible apply aa.bh);exact rfl;(first|exact .pv rfl|exact .own rfl|exact .nil rfl);(iterate 9 exact rfl);(first|omega|(simp only[List.length_map,List.length_append,List.length_cons,List.length_nil,List.length_drop,List.length_take,List.length_set,List.length_range,aL];omega));refine fN ?_)
     refine AR.bX (i:=20) rfl (by kernel_rfl) rfl ?_
     intro g_ ag bw
     ((with_reducible apply aa.bh);exact rfl;(first|exact .pv rfl|exact .own rfl|exact .nil rfl);(iterate 9 exact rfl);(first|omega|(simp only[List.length_map,List.length_append,List.length_cons,List.length_nil,List.length_drop,List.length_take,List.length_set,List.length_range,aL];omega));refine fN ?_)
     refine AR.bX (i:=21) rfl (by kernel_rfl) rfl ?_
     intro g_ ag bw
     (refine nD ?_)
     refine AR.bX (i:=22) rfl (by kernel_rfl) rfl ?_
     intro g_ ag bw
     (refine z_ ?_)
     refine Am ?_
     intro g_ ag aJ
     (refine lZ ?_)
     refine AR.bX (i:=24) rfl (by kernel_rfl) rfl ?_
     intro g_ ag bw
     (refine nD ?_)
     refine AR.bX (i:=25) rfl (by kernel_rfl) rfl ?_
     intro g_ ag bw
     (refine A9 ?_)
     refine zE ?_
     intro g_ ag aJ
     (refine lZ ?_)
     refine A0 ?_
     intro g_ ag aJ
     (refine A3 ?_;refine fN ?_)
     refine AR.bX (i:=28) rfl (by kernel_rfl) rfl ?_
     intro g_ ag bw
     (refine AN ?_)
     refine zR ?_
     intro g_ ag aJ
     (refine zW ?_;refine fN ?_)
     refine AR.done (by assumption) (by kernel_rfl) ?_
     (refine zx ?_;refine jB ?_)
     rw[gI,if_neg yK] at tc
     exact OW
   ·rw[gI,if_pos (Decidable.not_not.1 jW)] at tc
    exact⟨k+1,by omega,by omega,aO rfl (by(refine⟨.eq rfl rfl,?_⟩;refine⟨.bF (by first|with_reducible rfl|(rw[tc])),?_⟩;refine⟨.bJ (by first|with_reducible rfl|(rw[tc])),?_⟩;refine⟨.eq rfl rfl,?_⟩;exact trivial)) (by(refine⟨.MC rfl (by rw[tc]),?_⟩;refine⟨.box _ rfl ?_,?_⟩;refine⟨.bJ (by first|with_reducible rfl|(rw[tc])),?_⟩;refine⟨.bF (by first|with_reducible rfl|(rw[tc])),?_⟩;(iterate 2 refine⟨.ak (by first|with_reducible rfl|(rw[tc])) rfl,?_⟩);refine⟨.eq rfl rfl,?_⟩;refine⟨.bJ (by first|with_reducible rfl|(rw[tc])),?_⟩;exact trivial;refine⟨.box _ rfl ?_,?_⟩;refine⟨.eq rfl rfl,?_⟩;exact trivial;(iterate 2 refine⟨.row rfl,?_⟩);exact trivial)) rfl⟩
  ·have dV:assume.take k=assume:=bK (by omega)
   rw[dV] at hs ⊢
   have aV:=qk hv.1 hw hc (cl:=cl)
   generalize cO assume=t0 at hs aV ⊢
   (refine zq ?_;refine yg ?_;refine jJ ?_;refine zb ?_;refine aa.wx rfl rfl rfl ?_;refine lf ?_)
   refine AW.xR (ps:=[33,34]) aU aT rfl rfl Tryz.func89 rfl rfl rfl rfl rfl rfl (by decide) ?_
   intro g2 tm l ps' asg' body' rW Mr K8 oy Ax
   (refine d_ ?_;refine kn ?_)
   refine AW.loop (S:=Tr×Nat×Bool) (fun s=>{n:=48,env:=[(0,.ptr 2 0),(1,.yld 6),(4,aF s.2.2),(1005,.ptr 3 0)],objs:=[(1,some (.mp (eg (gn s.1.1)))),(2,some (.box [al vars,.pv (cV cl),.own 4 3 1 (s.1.1.map encI),.own 5 3 1 (s.1.2.1.map encI),.mapr 1,al (-1)])),(3,some (.box [.ptr 2 0])),(4,some .row),(5,some .row),(6,some (.loop l tm ps' asg' body' .ready))],nx:=7})
    (fun s=>rT vars cl assume s.1 s.2.1∧(s.2.2=false→fu cl s.1=(s.1,false))) (fun s=>(vars+1 - (s.2.1:Int)).toNat*2+if s.2.2 then 1 else 0) (t0,0,true) ?_ ?_ ?_
   ·exact⟨aV,fun h=>by cases h⟩
   ·exact NY
   ·rintro⟨t,n,b⟩ ⟨hI,hb⟩
    simp only at hI hb ⊢
    cases b with
    |false=>
     have Db:=hI.stop hv.1 (hb rfl)
     rw[Db,hI.xQ]
     (refine jL ?_;refine zd ?_;refine AW.e8 rfl rfl ?_;refine AW.exit ?_;(iterate 2 refine eE ?_);refine cG ?_)
     refine oQ (.inl rfl) rfl ?_
     (try refine nz ?_)
     repeat (first|with_reducible apply cb|with_reducible apply b_|with_reducible apply cG)
     refine AW.aO (δ':={n:=46,env:=[(5,.ptr 3 0)],objs:=[(3,some (.box [.rptr [.lit (.int .i64 vars),cV cl,ints t.1,ints t.2.1,.any,.lit (.int .i64 (-1))]]))],nx:=7}) (aO rfl (by(first|(exact I0)|(refine⟨.eq rfl rfl,?_⟩;(iterate 12 refine⟨.eq rfl rfl,?_⟩);exact trivial)|(refine⟨.eq rfl rfl,?_⟩;(iterate 6 refine⟨.eq rfl rfl,?_⟩);exact trivial)|(exact FY)|(exact sB))) (by(first|(refine Fv ?_;refine⟨.newrow rfl,?_⟩;exact trivial)|(refine Fv ?_;exact wE)|(refine Fv ?_;exact trivial)|(refine⟨.box _ rfl ?_,?_⟩;refine⟨.fbox rfl rfl (by repeat (first|exact Ai.nil|refine .cons (.any _) ?_|refine .cons (.pv _) ?_|refine .cons (.own rfl rfl) ?_|refine .cons (.nil _) ?_)),?_⟩;(iterate 2 exact trivial)))) rfl) ?_
     (refine zq ?_;refine zb ?_;refine aa.gp rfl rfl rfl ?_;refine zd ?_;refine AW.ret ?_)
     (apply ax;(exact bA.one (.tmp rfl rfl));(exact Le.rptr _))
    |true=>
     clear hb
     (refine jL ?_;refine wi ?_;refine qi ?_;refine AW.block ?_;refine d_ ?_;refine oq ?_;refine Q9 ?_;refine aa.ah 90 0 0 rfl rfl rfl rfl ?_;refine rh ?_;refine zn ?_;refine zm ?_;refine lf ?_)
     refine AW.loop (fun(k:Nat)=>{n:=48,env:=[(0,.ptr 2 0),(1,.yld 6),(4,aF false),(14,.pv (cV cl)),(15,al cl.length),(16,al k),(1005,.ptr 3 0)],objs:=[(1,some (.mp (eg (gn t.1)))),(2,some (.box [al vars,.pv (cV cl),.own 4 3 1 (t.1.map encI),.own 5 3 1 (t.2.1.map encI),.mapr 1,al (-1)])),(3,some (.box [.ptr 2 0])),(4,some .row),(5,some .row),(6,some (.loop l tm ps' asg' body' .ready))],nx:=7})
      (fun k=>k≤cl.length∧fu cl t=eY t k (cl.drop k)) (fun k=>cl.length - k) 0 ?_ ?_ ?_
     ·exact⟨Nat.zero_le _,rfl⟩
     ·exact NY
     ·rintro k ⟨hk,de⟩
      by_cases aM:k<cl.length
      ·rw[ru _ _ _ aM] at de
       obtain⟨M9,CD⟩:=dq _ (List.getElem_mem aM)
       have JT:=aY M9
       rw[gP _ _ (fun x hx=>(JT x hx).1)] at de
       (refine fB ?_;(focus ((with_reducible apply aa.aj);(iterate 7 exact rfl);rotate_left;omega));refine zr ?_;refine lx ?_;refine d_ ?_;refine A8 ?_;(with_reducible apply aa.inline (hf:=Tryz.func109));(with_reducible assumption);(iterate 10 exact rfl);intro g_ aU aT;refine nz ?_;refine zq ?_;refine lx ?_;refine d_ ?_;refine kh ?_;refine d_ ?_;refine l8 ?_)
       refine AW.loop (S:=Nat×List Int) (fun s=>{n:=41,env:=[(0,.ptr 2 0),(6,.own 7 3 1 (s.2.map encI)),(9,.pv (ints (cl[k]'aM))),(10,al (cl[k]'aM).length),(11,al s.1),(1000,.ptr 2 0),(1001,.yld 6),(1004,aF false),(1005,al k),(1014,.pv (cV cl)),(1015,al cl.length),(1016,al k),(2005,.ptr 3 0)],objs:=[(1,some (.mp (eg (gn t.1)))),(2,some (.box [al vars,.pv (cV cl),.own 4 3 1 (t.1.map encI),.own 5 3 1 (t.2.1.map encI),.mapr 1,al (-1)])),(3,some (.box [.ptr 2 0])),(4,some .row),(5,some .row),(6,some (.loop l tm ps' asg' body' .ready)),(7,some .row)],nx:=8})
        (fun s=>s.1≤(cl[k]'aM).length∧bp t.1 (cl[k]'aM) []=bp t.1 ((cl[k]'aM).drop s.1) s.2∧s.2.length≤s.1) (fun s=>(cl[k]'aM).length - s.1) (0,[]) ?_ ?_ ?_
       ·exact⟨Nat.zero_le _,rfl,Nat.le_refl _⟩
       ·exact NY
       ·rintro⟨j,out⟩ ⟨hj,qA,SE⟩
        simp only at hj qA SE ⊢
        generalize hc0:cl[k]=c at de M9 CD JT hj qA ⊢
        by_cases Ek:j<c.length
        ·have GJ:=JT c[j] (List.getElem_mem Ek)
         rw[rB _ _ _ _ Ek] at qA
         (refine Bt ?_;(focus ((with_reducible apply aa.aj);(iterate 7 exact rfl);rotate_left;omega));refine zr ?_;refine kh ?_;refine d_ ?_;refine Q9 ?_;refine aa.ah 90 3 4 rfl rfl rfl rfl ?_;refine dX ?_;refine aa.mh rfl rfl rfl rfl rfl rfl rfl rfl rfl ?_;refine zd ?_;(focus ((with_reducible apply AW.lI);exact rfl;exact rfl;all_goals intro jW));refine d_ ?_;refine lx ?_;refine AW.ret ?_;refine L0 ?_;refine vu rfl rfl rfl rfl ?_;refine nz ?_;refine IC ?_;refine jJ ?_;refine tv ?_;refine zm ?_;refine wW ?_;refine wi ?_;refine Bu ?_;refine nz ?_;refine Bf ?_;(all_goals skip);rotate_left;refine qi ?_;refine d_ ?_;refine Q9 ?_;refine aa.ah 90 3 4 rfl rfl rfl rfl ?_;refine dX ?_;refine aa.neg rfl rfl rfl (by omega) ?_;refine aa.mh rfl rfl rfl rfl rfl rfl rfl rfl rfl ?_;refine aa.D9 rfl rfl rfl ?_;refine zm ?_;(focus ((with_reducible apply aa.HU);(iterate 6 exact rfl);all_goals intro jW));refine aa.bz rfl rfl rfl ?_;refine j8 ?_;refine aa.call (iE _ _) (.cons rfl (.own _ _ _ _ rfl) (.cons rfl (.pv _) .nil)) rfl rfl (fun h_=>by cases h_) ?_;refine zt ?_;refine aa.D9 rfl rfl rfl ?_;refine zT ?_;refine zd ?_;(focus ((with_reducible apply AW.lI);exact rfl;exact rfl;all_goals intro jW));refine zU ?_;refine zm ?_;refine pb ?_;(with_reducible apply aa.bh);exact rfl;(first|exact .pv rfl|exact .own rfl|exact .nil rfl);(iterate 9 exact rfl);(first|omega|(simp only[List.length_map,List.length_append,List.length_cons,List.length_nil,List.length_drop,List.length_take,List.length_set,List.length_range,aL];omega));refine nz ?_;refine sU ?_;refine nz ?_;refine Bf ?_;(all_goals skip);rotate_left;refine AW.skip ?_;refine tC ?_;(all_goals skip);rotate_left;(iterate 3 refine aa.gG rfl rfl rfl rfl rfl rfl (by with_reducible assumption) ?_);refine zF ?_;refine kg ?_;refine tC ?_;(all_goals skip);rotate_left)
         all_goals first
          |(rw[if_pos (by assumption)] at qA
            rw[qA] at de
            exact⟨k+1,⟨by omega,de⟩,by omega,aO rfl (by(first|(refine⟨.eq rfl rfl,?_⟩;refine⟨.nilown _ _ _ rfl rfl,?_⟩;(iterate 11 refine⟨.eq rfl rfl,?_⟩);exact trivial)|(refine⟨.eq rfl rfl,?_⟩;(iterate 12 refine⟨.eq rfl rfl,?_⟩);exact trivial)|(refine⟨.eq rfl rfl,?_⟩;(iterate 6 refine⟨.eq rfl rfl,?_⟩);exact trivial)|(refine⟨.eq rfl rfl,?_⟩;(iterate 3 refine⟨.eq rfl rfl,?_⟩);exact trivial)|(refine⟨.eq rfl rfl,?_⟩;exact trivial))) (by(first|(refine⟨.set rfl,?_⟩;refine⟨.box _ rfl ?_,?_⟩;(iterate 6 refine⟨.eq rfl rfl,?_⟩);exact trivial;refine⟨.box _ rfl ?_,?_⟩;refine⟨.eq rfl rfl,?_⟩;exact trivial;(iterate 2 refine⟨.row rfl,?_⟩);refine⟨.loop rfl,?_⟩;refine⟨.newrow rfl,?_⟩;exact trivial)|(refine⟨.set rfl,?_⟩;refine⟨.box _ rfl ?_,?_⟩;(iterate 6 refine⟨.eq rfl rfl,?_⟩);exact trivial;refine⟨.box _ rfl ?_,?_⟩;refine⟨.eq rfl rfl,?_⟩;exact trivial;(iterate 2 refine⟨.row rfl,?_⟩);refine⟨.loop rfl,?_⟩;refine⟨.row rfl,?_⟩;exact trivial)|(refine⟨.set rfl,?_⟩;refine⟨.box _ rfl ?_,?_⟩;(iterate 6 refine⟨.eq rfl rfl,?_⟩);exact trivial;refine⟨.box _ rfl ?_,?_⟩;refine⟨.eq rfl rfl,?_⟩;exact trivial;(iterate 2 refine⟨.row rfl,?_⟩);refine⟨.loop rfl,?_⟩;exact trivial)|(refine⟨.box _ rfl ?_,?_⟩;refine⟨.fbox rfl rfl (by repeat (first|exact Ai.nil|refine .cons (.any _) ?_|refine .cons (.pv _) ?_|refine .cons (.own rfl rfl) ?_|refine .cons (.nil _) ?_)),?_⟩;(iterate 2 exact trivial)))) rfl⟩)
          |(rw[if_neg (by assumption)] at qA
            rw[if_neg (show ¬(¬ -c[j]∈t.1∧¬c[j]∈out) from by rintro⟨h1,h2⟩;first|exact jW h2|exact jW h1)] at qA
            exact⟨(j+1,out),⟨by show j+1≤_;omega,qA,by show out.length≤j+1;omega⟩,by show c.length - (j+1)<c.length - j;omega,aO rfl (by(first|(refine⟨.eq rfl rfl,?_⟩;refine⟨.nilown _ _ _ rfl rfl,?_⟩;(iterate 11 refine⟨.eq rfl rfl,?_⟩);exact trivial)|(refine⟨.eq rfl rfl,?_⟩;(iterate 12 refine⟨.eq rfl rfl,?_⟩);exact trivial)|(refine⟨.eq rfl rfl,?_⟩;(iterate 6 refine⟨.eq rfl rfl,?_⟩);exact trivial)|(refine⟨.eq rfl rfl,?_⟩;(iterate 3 refine⟨.eq rfl rfl,?_⟩);exact trivial)|(refine⟨.eq rfl rfl,?_⟩;exact trivial))) (by(first|(refine⟨.set rfl,?_⟩;refine⟨.box _ rfl ?_,?_⟩;(iterate 6 refine⟨.eq rfl rfl,?_⟩);exact trivial;refine⟨.box _ rfl ?_,?_⟩;refine⟨.eq rfl rfl,?_⟩;exact trivial;(iterate 2 refine⟨.row rfl,?_⟩);refine⟨.loop rfl,?_⟩;refine⟨.newrow rfl,?_⟩;exact trivial)|(refine⟨.set rfl,?_⟩;refine⟨.box _ rfl ?_,?_⟩;(iterate 6 refine⟨.eq rfl rfl,?_⟩);exact trivial;refine⟨.box _ rfl ?_,?_⟩;refine⟨.eq rfl rfl,?_⟩;exact trivial;(iterate 2 refine⟨.row rfl,?_⟩);refine⟨.loop rfl,?_⟩;refine⟨.row rfl,?_⟩;exact trivial)|(refine⟨.set rfl,?_⟩;refine⟨.box _ rfl ?_,?_⟩;(iterate 6 refine⟨.eq rfl rfl,?_⟩);exact trivial;refine⟨.box _ rfl ?_,?_⟩;refine⟨.eq rfl rfl,?_⟩;exact trivial;(iterate 2 refine⟨.row rfl,?_⟩);refine⟨.loop rfl,?_⟩;exact trivial)|(refine⟨.box _ rfl ?_,?_⟩;refine⟨.fbox rfl rfl (by repeat (first|exact Ai.nil|refine .cons (.any _) ?_|refine .cons (.pv _) ?_|refine .cons (.own rfl rfl) ?_|refine .cons (.nil _) ?_)),?_⟩;(iterate 2 exact trivial)))) rfl⟩)
          |(rw[if_neg (by assumption)] at qA
            rw[if_pos ⟨by assumption,by assumption⟩] at qA
            exact⟨(j+1,out++ [c[j]]),⟨by show j+1≤_;omega,qA,by show(out++ [c[j]]).length≤j+1;simp;omega⟩,by show c.length - (j+1)<c.length - j;omega,aO rfl (by(refine⟨.eq rfl rfl,?_⟩;refine⟨.ak (by first|with_reducible rfl|(first|(rw[List.map_append];rfl)|rfl)) rfl,?_⟩;refine⟨.bF (by first|with_reducible rfl|(first|(rw[List.map_append];rfl)|rfl)),?_⟩;refine⟨.bJ (by first|with_reducible rfl|(first|(rw[List.map_append];rfl)|rfl)),?_⟩;refine⟨.bJ (by first|with_reducible rfl|(first|(rw[List.map_append];rfl)|rfl)),?_⟩;(iterate 2 refine⟨.eq rfl rfl,?_⟩);refine⟨.fj (by first|with_reducible rfl|(first|(rw[List.map_append];rfl)|rfl)),?_⟩;refine⟨.bJ (by first|with_reducible rfl|(first|(rw[List.map_append];rfl)|rfl)),?_⟩;refine⟨.bF (by first|with_reducible rfl|(first|(rw[List.map_append];rfl)|rfl)),?_⟩;refine⟨.bJ (by first|with_reducible rfl|(first|(rw[List.map_append];rfl)|rfl)),?_⟩;refine⟨.bJ (by first|with_reducible rfl|(first|(rw[List.map_append];rfl)|rfl)),?_⟩;refine⟨.eq rfl rfl,?_⟩;exact trivial)) (by(refine⟨.set rfl,?_⟩;refine⟨.box _ rfl ?_,?_⟩;refine⟨.bJ (by first|with_reducible rfl|(first|(rw[List.map_append];rfl)|rfl)),?_⟩;refine⟨.bF (by first|with_reducible rfl|(first|(rw[List.map_append];rfl)|rfl)),?_⟩;refine⟨.ak (by first|with_reducible rfl|(first|(rw[List.map_append];rfl)|rfl)) rfl,?_⟩;refine⟨.ak (by first|with_reducible rfl|(first|(rw[List.map_append];rfl)|rfl)) rfl,?_⟩;refine⟨.eq rfl rfl,?_⟩;refine⟨.bJ (by first|with_reducible rfl|(first|(rw[List.map_append];rfl)|rfl)),?_⟩;exact trivial;refine⟨.box _ rfl ?_,?_⟩;refine⟨.eq rfl rfl,?_⟩;exact trivial;(iterate 2 refine⟨.row rfl,?_⟩);refine⟨.loop rfl,?_⟩;refine⟨.row rfl,?_⟩;exact trivial)) rfl⟩)
        ·rw[List.drop_eq_nil_of_le (by omega)] at qA
         have Lx:bp t.1 c []=some out:=qA
         rw[Lx] at de
         have pV:=jK t.1 c [] out Lx (by simp)
         have DD:tm.size=46:=Ax
         rcases out with _|⟨x,_|⟨y,out⟩⟩
         ·have e0:([]:List Int).length=0:=rfl
          have wI:fu cl t=((t.1,t.2.1,(k:Int)),false):=de
          have Db:=hI.stop hv.1 wI
          rw[Db]
          clear de
          (refine O7 ?_;refine qJ ?_;refine jJ ?_;refine FB ?_;refine aa.eql rfl rfl rfl rfl rfl ?_;refine e6 ?_;refine aa.move rfl rfl rfl ?_;refine nz ?_;refine zm ?_;(with_reducible apply aa.Ec rW Mr K8 oy DD);(iterate 8 exact rfl);intro g3 MD aT;(try refine nz ?_);refine zq ?_;refine eO ?_;refine AW.region ?_;refine nz ?_;refine eO ?_;refine And.intro (show ke _ _ _ _ from⟨_,_,_,_,rfl⟩) ?_;(try refine nz ?_);refine AW.block ?_;refine jL ?_;refine aa.eql rfl rfl rfl rfl rfl ?_;refine e6 ?_;refine LK ?_;(with_reducible apply mU);exact⟨_,_,_,_,rfl⟩;refine nz ?_;refine zd ?_;refine AW.ret ?_;refine uJ ?_;(iterate 2 refine bZ ?_);(iterate 2 refine ca ?_);refine uJ ?_)
          refine qG (.inr rfl) rfl ?_
          (try refine nz ?_)
          repeat (first|with_reducible apply cb|with_reducible apply b_|with_reducible apply cG)
          refine AW.aO (δ':={n:=46,env:=[(5,.ptr 3 0)],objs:=[(3,some (.box [.rptr [.lit (.int .i64 vars),cV cl,ints t.1,ints t.2.1,.any,.lit (.int .i64 k)]]))],nx:=7}) (aO rfl (by(first|(exact I0)|(refine⟨.eq rfl rfl,?_⟩;(iterate 12 refine⟨.eq rfl rfl,?_⟩);exact trivial)|(refine⟨.eq rfl rfl,?_⟩;(iterate 6 refine⟨.eq rfl rfl,?_⟩);exact trivial)|(exact FY)|(exact sB))) (by(first|(refine Fv ?_;refine⟨.newrow rfl,?_⟩;exact trivial)|(refine Fv ?_;exact wE)|(refine Fv ?_;exact trivial)|(refine⟨.box _ rfl ?_,?_⟩;refine⟨.fbox rfl rfl (by repeat (first|exact Ai.nil|refine .cons (.any _) ?_|refine .cons (.pv _) ?_|refine .cons (.own rfl rfl) ?_|refine .cons (.nil _) ?_)),?_⟩;(iterate 2 exact trivial)))) rfl) ?_
          (refine zq ?_;refine zb ?_;refine aa.gp rfl rfl rfl ?_;refine zd ?_;refine AW.ret ?_)
          (apply ax;(exact bA.one (.tmp rfl rfl));(exact Le.rptr _))
         ·have e0:([x]:List Int).length=1:=rfl
          have wI:fu cl t=((t.1++ [x],t.2.1++ [(k:Int)],t.2.2),true):=de
          have hx1:=pV x (by simp)
          have hx2:=JT x (by simpa using hx1.1)
          have Oc:=hI.go hv.1 wI hx2 hx1.2.1 hx1.2.2
          clear de
          (refine O7 ?_;refine qJ ?_;refine jJ ?_;refine FB ?_;refine aa.eql rfl rfl rfl rfl rfl ?_;refine qJ ?_;refine jJ ?_;refine aa.move rfl rfl rfl ?_;refine nz ?_;refine zm ?_;refine aa.bz rfl rfl rfl ?_;refine nh ?_;(focus ((with_reducible apply aa.aD);(iterate 4 exact rfl);(focus (intro h_;cases h_;done));rotate_left;(first|omega|exact Nat.zero_lt_one|(simp;done))));(with_reducible apply aa.Ec rW Mr K8 oy DD);(iterate 8 exact rfl);intro g3 MD aT;(try refine nz ?_);refine zq ?_;refine eO ?_;refine AW.region ?_;refine nz ?_;refine eO ?_;refine And.intro (show ke _ _ _ _ from⟨_,_,_,_,rfl⟩) ?_;(try refine nz ?_);refine AW.block ?_;refine jL ?_;refine lh ?_;(focus ((with_reducible apply AW.lI);exact rfl;exact rfl;all_goals intro jW));refine d_ ?_;refine LK ?_;(with_reducible apply mU);exact⟨_,_,_,_,rfl⟩;refine nz ?_;refine aa.not rfl rfl rfl ?_;refine wi ?_;refine AW.ret ?_;refine uJ ?_;(iterate 2 refine bZ ?_);(iterate 2 refine ca ?_);refine uJ ?_;(all_goals skip);rotate_left;refine qi ?_;refine AW.region ?_;refine nz ?_;refine zb ?_;(iterate 2 refine zm ?_);(with_reducible apply aa.inline (hf:=Tryz.func88));(with_reducible assumption);(iterate 10 exact rfl);intro g_ aU aT;refine nz ?_;(all_goals skip);rotate_left)
          ·exact absurd (show x=0 from jW) hx2.1
          ·have yK:([x][Int.toNat 0]'Nat.one_pos)∉t.1:=hx1.2.1
           have hl1:t.1.length≤100000:=by have:=hI.dist.len;omega
           have hl2:t.2.1.length≤100000:=by have h9:t.2.1.length=t.1.length:=hI.even;omega
           refine AW.tN [0,2,3,4,5,7,8,9,10,11,14,15,16,17,18] [23,26,27,29] rfl (by assumption) (by kernel_rfl) rfl ?_
           show aa .held _ _ _ [_,_,_,_,_,_,_,_,_,_,_,_,_,_,_] _ _
           (refine Kh ?_)
           intro k_ cR
           (try refine nz ?_)
           refine AR.free 1 (by kernel_rfl) rfl rfl rfl (by first|exact bq.bc rfl rfl|exact bq.cU rfl rfl|exact bq.nilCheck rfl rfl) ?_
           refine AR.free 6 (by kernel_rfl) rfl rfl rfl (by first|exact bq.bc rfl rfl|exact bq.cU rfl rfl|exact bq.nilCheck rfl rfl) ?_
           refine AR.lD (i:=12) (j:=19) rfl (by kernel_rfl) rfl rfl ?_ ?_<;>intro g_ ag bw<;>(refine pb ?_;refine Q4 ?_)
           ·refine AR.lD (i:=13) (j:=19) rfl (by kernel_rfl) rfl rfl ?_ ?_<;>intro g_ ag bw<;>(first|((with_reducible apply aa.bh);exact rfl;(first|exact .pv rfl|exact .own rfl|exact .nil rfl);(iterate 9 exact rfl);(first|omega|(simp only[List.length_map,List.length_append,List.length_cons,List.length_nil,List.length_drop,List.length_take,List.length_set,List.length_range,aL];omega));refine fN ?_)|(refine pb ?_;refine Q4 ?_))
            ·refine AR.bX (i:=19) rfl (by kernel_rfl) rfl ?_
             intro g_ ag bw
             (refine pb ?_;refine Q4 ?_)
             refine AR.bX (i:=20) rfl (by kernel_rfl) rfl ?_
             intro g_ ag bw
             ((with_reducible apply aa.bh);exact rfl;(first|exact .pv rfl|exact .own rfl|exact .nil rfl);(iterate 9 exact rfl);(first|omega|(simp only[List.length_map,List.length_append,List.length_cons,List.length_nil,List.length_drop,List.length_take,List.length_set,List.length_range,aL];omega));refine fN ?_)
             refine AR.bX (i:=21) rfl (by kernel_rfl) rfl ?_
             intro g_ ag bw
             (refine nD ?_)
             refine AR.bX (i:=22) rfl (by kernel_rfl) rfl ?_
             intro g_ ag bw
             (refine z_ ?_)
             refine Am ?_
             intro g_ ag aJ
             (refine lZ ?_)
             refine AR.bX (i:=24) rfl (by kernel_rfl) rfl ?_
             intro g_ ag bw
             (refine nD ?_)
             refine AR.bX (i:=25) rfl (by kernel_rfl) rfl ?_
             intro g_ ag bw
             (refine A9 ?_)
             refine zE ?_
             intro g_ ag aJ
             (refine lZ ?_)
             refine A0 ?_
             intro g_ ag aJ
             (refine A3 ?_;refine fN ?_)
             refine AR.bX (i:=28) rfl (by kernel_rfl) rfl ?_
             intro g_ ag bw
             (refine AN ?_)
             refine zR ?_
             intro g_ ag aJ
             (refine zW ?_;refine fN ?_)
             refine AR.done (by assumption) (by kernel_rfl) ?_
             (refine zx ?_;refine cb ?_;(with_reducible apply jF);exact⟨_,_,_,_,rfl⟩;refine IV ?_)
             exact⟨((t.1++ [x],t.2.1++ [(k:Int)],-1),n+1,true),⟨Oc,fun h=>by cases h⟩,by have:=hI.fuel hv.1;show(vars+1 - ((n+1:Nat):Int)).toNat*2+1<(vars+1 - (n:Int)).toNat*2+1;omega,aO rfl (by(exact HI)) (by(exact Jc)) rfl⟩
            ·refine AR.bX (i:=13) rfl (by kernel_rfl) rfl ?_
             intro g_ ag bw
             ((with_reducible apply aa.bh);exact rfl;(first|exact .pv rfl|exact .own rfl|exact .nil rfl);(iterate 9 exact rfl);(first|omega|(simp only[List.length_map,List.length_append,List.length_cons,List.length_nil,List.length_drop,List.length_take,List.length_set,List.length_range,aL];omega));refine fN ?_)
             refine AR.bX (i:=20) rfl (by kernel_rfl) rfl ?_
             intro g_ ag bw
             ((with_reducible apply aa.bh);exact rfl;(first|exact .pv rfl|exact .own rfl|exact .nil rfl);(iterate 9 exact rfl);(first|omega|(simp only[List.length_map,List.length_append,List.length_cons,List.length_nil,List.length_drop,List.length_take,List.length_set,List.length_range,aL];omega));refine fN ?_)
             refine AR.bX (i:=21) rfl (by kernel_rfl) rfl ?_
             intro g_ ag bw
             (refine nD ?_)
             refine AR.bX (i:=22) rfl (by kernel_rfl) rfl ?_
             intro g_ ag bw
             (refine z_ ?_)
             refine Am ?_
             intro g_ ag aJ
             (refine lZ ?_)
             refine AR.bX (i:=24) rfl (by kernel_rfl) rfl ?_
             intro g_ ag bw
             (refine nD ?_)
             refine AR.bX (i:=25) rfl (by kernel_rfl) rfl ?_
             intro g_ ag bw
             (refine A9 ?_)
             refine zE ?_
             intro g_ ag aJ
             (refine lZ ?_)
             refine A0 ?_
             intro g_ ag aJ
             (refine A3 ?_;refine fN ?_)
             refine AR.bX (i:=28) rfl (by kernel_rfl) rfl ?_
             intro g_ ag bw
             (refine AN ?_)
             refine zR ?_
             intro g_ ag aJ
             (refine zW ?_;refine fN ?_)
             refine AR.done (by assumption) (by kernel_rfl) ?_
             (refine zx ?_;refine cb ?_;(with_reducible apply jF);exact⟨_,_,_,_,rfl⟩;refine IV ?_)
             exact⟨((t.1++ [x],t.2.1++ [(k:Int)],-1),n+1,true),⟨Oc,fun h=>by cases h⟩,by have:=hI.fuel hv.1;show(vars+1 - ((n+1:Nat):Int)).toNat*2+1<(vars+1 - (n:Int)).toNat*2+1;omega,aO rfl (by(exact HI)) (by(exact Jc)) rfl⟩
           ·refine AR.bX (i:=12) rfl (by kernel_rfl) rfl ?_
            intro g_ ag bw
            (refine pb ?_;refine Q4 ?_)
            refine AR.bX (i:=13) rfl (by kernel_rfl) rfl ?_
            intro g_ ag bw
            ((with_reducible apply aa.bh);exact rfl;(first|exact .pv rfl|exact .own rfl|exact .nil rfl);(iterate 9 exact rfl);(first|omega|(simp only[List.length_map,List.length_append,List.length_cons,List.length_nil,List.length_drop,List.length_take,List.length_set,List.length_range,aL];omega));refine fN ?_)
            refine AR.bX (i:=20) rfl (by kernel_rfl) rfl ?_
            intro g_ ag bw
            ((with_reducible apply aa.bh);exact rfl;(first|exact .pv rfl|exact .own rfl|exact .nil rfl);(iterate 9 exact rfl);(first|omega|(simp only[List.length_map,List.length_append,List.length_cons,List.length_nil,List.length_drop,List.length_take,List.length_set,List.length_range,aL];omega));refine fN ?_)
            refine AR.bX (i:=21) rfl (by kernel_rfl) rfl ?_
            intro g_ ag bw
            (refine nD ?_)
            refine AR.bX (i:=22) rfl (by kernel_rfl) rfl ?_
            intro g_ ag bw
            (refine z_ ?_)
            refine Am ?_
            intro g_ ag aJ
            (refine lZ ?_)
            refine AR.bX (i:=24) rfl (by kernel_rfl) rfl ?_
            intro g_ ag bw
            (refine nD ?_)
            refine AR.bX (i:=25) rfl (by kernel_rfl) rfl ?_
            intro g_ ag bw
            (refine A9 ?_)
            refine zE ?_
            intro g_ ag aJ
            (refine lZ ?_)
            refine A0 ?_
            intro g_ ag aJ
            (refine A3 ?_;refine fN ?_)
            refine AR.bX (i:=28) rfl (by kernel_rfl) rfl ?_
            intro g_ ag bw
            (refine AN ?_)
            refine zR ?_
            intro g_ ag aJ
            (refine zW ?_;refine fN ?_)
            refine AR.done (by assumption) (by kernel_rfl) ?_
            (refine zx ?_;refine cb ?_;(with_reducible apply jF);exact⟨_,_,_,_,rfl⟩;refine IV ?_)
            exact⟨((t.1++ [x],t.2.1++ [(k:Int)],-1),n+1,true),⟨Oc,fun h=>by cases h⟩,by have:=hI.fuel hv.1;show(vars+1 - ((n+1:Nat):Int)).toNat*2+1<(vars+1 - (n:Int)).toNat*2+1;omega,aO rfl (by(exact HI)) (by(exact Jc)) rfl⟩
         ·have e0:(x::y::out).length=out.length+2:=rfl
          have wI:fu cl t=eY t (k+1:Nat) (cl.drop (k+1)):=de
          clear de
          (refine O7 ?_;refine zd ?_;refine zc ?_;refine Bu ?_;refine nz ?_;refine Bf ?_)
          exact⟨k+1,⟨by omega,wI⟩,by omega,aO rfl (by(first|(refine⟨.eq rfl rfl,?_⟩;refine⟨.nilown _ _ _ rfl rfl,?_⟩;(iterate 11 refine⟨.eq rfl rfl,?_⟩);exact trivial)|(refine⟨.eq rfl rfl,?_⟩;(iterate 12 refine⟨.eq rfl rfl,?_⟩);exact trivial)|(refine⟨.eq rfl rfl,?_⟩;(iterate 6 refine⟨.eq rfl rfl,?_⟩);exact trivial)|(refine⟨.eq rfl rfl,?_⟩;(iterate 3 refine⟨.eq rfl rfl,?_⟩);exact trivial)|(refine⟨.eq rfl rfl,?_⟩;exact trivial))) (by(first|(refine⟨.set rfl,?_⟩;refine⟨.box _ rfl ?_,?_⟩;(iterate 6 refine⟨.eq rfl rfl,?_⟩);exact trivial;refine⟨.box _ rfl ?_,?_⟩;refine⟨.eq rfl rfl,?_⟩;exact trivial;(iterate 2 refine⟨.row rfl,?_⟩);refine⟨.loop rfl,?_⟩;refine⟨.newrow rfl,?_⟩;exact trivial)|(refine⟨.set rfl,?_⟩;refine⟨.box _ rfl ?_,?_⟩;(iterate 6 refine⟨.eq rfl rfl,?_⟩);exact trivial;refine⟨.box _ rfl ?_,?_⟩;refine⟨.eq rfl rfl,?_⟩;exact trivial;(iterate 2 refine⟨.row rfl,?_⟩);refine⟨.loop rfl,?_⟩;refine⟨.row rfl,?_⟩;exact trivial)|(refine⟨.set rfl,?_⟩;refine⟨.box _ rfl ?_,?_⟩;(iterate 6 refine⟨.eq rfl rfl,?_⟩);exact trivial;refine⟨.box _ rfl ?_,?_⟩;refine⟨.eq rfl rfl,?_⟩;exact trivial;(iterate 2 refine⟨.row rfl,?_⟩);refine⟨.loop rfl,?_⟩;exact trivial)|(refine⟨.box _ rfl ?_,?_⟩;refine⟨.fbox rfl rfl (by repeat (first|exact Ai.nil|refine .cons (.any _) ?_|refine .cons (.pv _) ?_|refine .cons (.own rfl rfl) ?_|refine .cons (.nil _) ?_)),?_⟩;(iterate 2 exact trivial)))) rfl⟩
      ·rw[List.drop_eq_nil_of_le (by omega)] at de
       have wI:fu cl t=(t,false):=de
       (refine zq ?_;refine iO ?_;refine zo ?_;refine zk ?_;refine AW.exit ?_;(iterate 2 refine eE ?_);refine cG ?_;refine cb ?_;refine b_ ?_)
       exact⟨(t,n,false),⟨hI,fun _=>wI⟩,by show(vars+1 - (n:Int)).toNat*2+0<(vars+1 - (n:Int)).toNat*2+1;omega,aO rfl (by(first|(exact I0)|(refine⟨.eq rfl rfl,?_⟩;(iterate 12 refine⟨.eq rfl rfl,?_⟩);exact trivial)|(refine⟨.eq rfl rfl,?_⟩;(iterate 6 refine⟨.eq rfl rfl,?_⟩);exact trivial)|(exact FY)|(exact sB))) (by(first|(refine Fv ?_;refine⟨.newrow rfl,?_⟩;exact trivial)|(refine Fv ?_;exact wE)|(refine Fv ?_;exact trivial)|(refine⟨.box _ rfl ?_,?_⟩;refine⟨.fbox rfl rfl (by repeat (first|exact Ai.nil|refine .cons (.any _) ?_|refine .cons (.pv _) ?_|refine .cons (.own rfl rfl) ?_|refine .cons (.nil _) ?_)),?_⟩;(iterate 2 exact trivial)))) rfl⟩
end Go.Ab
/- Chapter 20:unitprop's answers:implied literals,reasons,implied clauses. -/
namespace Go.Ab
open Go Go.Proofs
set_option maxRecDepth 20000
set_option maxHeartbeats 4000000
attribute [local irreducible] AW aa bE aX bd aW bm runM bP
theorem oa {vars:Int} {l:List Int} (hv:0≤vars∧vars≤100000) (h:ay vars l=true):Sm l:=fun x hx=>by have:=aY h x hx;omega
structure KE (vars:Int) (cl:List (List Int)):Prop where
 hv:0≤vars∧vars≤100000
 dq:∀c∈cl,ay vars c=true∧c.length≤100000
 h3:cl.length≤1000000
end Go.Ab
/- Chapter 20:unitprop's implied clauses. -/
namespace Go.Ab
open Go Go.Proofs
set_option maxRecDepth 20000
set_option maxHeartbeats 4000000
attribute [local irreducible] AW aa bE aX bd aW bm runM bP
theorem pP {vars:Int} {l:List Int} (h:ay vars l=true):ay vars (l.map fun x=>0 - x)=true:=by
 unfold ay
 rw[List.all_eq_true]
 intro x hx
 obtain⟨y,hy,rfl⟩:=List.mem_map.1 hx
 have:=aY h y hy
 simp;omega
theorem FZ (l:List Int):(l.map fun x=> -x)=l.map fun x=>0 - x:=by simp
theorem yD (vars:Int) (cl:List (List Int)) (c:List Int) (hf:KE vars cl) (I6:c.length≤100000) (hw:ay vars c=true):
  Fn Tryz.prog 25 [w6 vars cl,.pv (ints c)] (aF (cr vars cl c)):=by
 have hs:=oa hf.hv hw
 have I8:=pP hw
 have ki:=Ic hs
 have Em:(c.map fun x=>0 - x).length≤100000:=by simpa using I6
 have M0:=Av _ ki
 have Bv:bP (c.map fun x=>0 - x)=false→_:=fun hc=>Fk vars cl (c.map fun x=>0 - x) hf.dq hf.h3 hf.hv Em I8 hc
 refine Fn.enter (n:=31) Tryz.func25 rfl rfl rfl rfl rfl (by decide) fun g aU aT=>?_;(try refine nz ?_)
 (refine Er ?_;refine d_ ?_;refine kh ?_;refine d_ ?_;refine l8 ?_)
 refine AW.cF 8 rfl fun hlen=>?_
 refine AW.loop (fun(k:Nat)=>{n:=31,env:=[(2,.ptr 0 0),(5,.own 1 3 1 (((c.take k).map fun x=>0 - x).map encI)),(8,.pv (ints c)),(9,al c.length),(10,al k)],objs:=[(0,some (.box [al vars,.pv (cV cl)])),(1,some .row)],nx:=2})
  (fun k=>k≤c.length) (fun k=>c.length - k) 0 ?_ ?_ ?_
 ·simp
 ·exact aO rfl (by(first|(refine⟨.eq rfl rfl,?_⟩;refine⟨.nilown _ _ _ rfl rfl,?_⟩;(iterate 3 refine⟨.eq rfl rfl,?_⟩);exact trivial)|(refine⟨.eq rfl rfl,?_⟩;refine⟨.freeze rfl,?_⟩;(iterate 2 refine⟨.eq rfl rfl,?_⟩);exact trivial))) (by(first|(refine⟨.box _ rfl ?_,?_⟩;(iterate 2 refine⟨.eq rfl rfl,?_⟩);exact trivial;refine⟨.newrow rfl,?_⟩;exact trivial)|(refine⟨.box _ rfl ?_,?_⟩;(iterate 2 refine⟨.eq rfl rfl,?_⟩);(iterate 2 exact trivial)))) rfl
 rintro k hk
 have Aa:(c.take k).length≤100000:=by simp;omega
 by_cases aM:k<c.length
 ·have hx:=hs _ (List.getElem_mem aM)
  (refine Bt ?_;(focus ((with_reducible apply aa.aj);(iterate 7 exact rfl);rotate_left;omega));refine zr ?_;refine eO ?_;refine zU ?_;refine D4 ?_;refine pb ?_;(with_reducible apply aa.bh);exact rfl;(first|exact .pv rfl|exact .own rfl|exact .nil rfl);(iterate 9 exact rfl);(first|omega|(simp only[List.length_map,List.length_append,List.length_cons,List.length_nil,List.length_drop,List.length_take,List.length_set,List.length_range,aL];omega));refine nz ?_;refine sU ?_;refine nz ?_;refine Bf ?_)
  exact⟨k+1,by omega,by omega,aO rfl (by(refine⟨.eq rfl rfl,?_⟩;refine⟨.ak (by first|with_reducible rfl|(rw[aR aM,List.map_append,List.map_append];show _=_++ [encI (0 - c[k])];rw[Int.zero_sub];rfl)) rfl,?_⟩;refine⟨.bF (by first|with_reducible rfl|(rw[aR aM,List.map_append,List.map_append];show _=_++ [encI (0 - c[k])];rw[Int.zero_sub];rfl)),?_⟩;refine⟨.bJ (by first|with_reducible rfl|(rw[aR aM,List.map_append,List.map_append];show _=_++ [encI (0 - c[k])];rw[Int.zero_sub];rfl)),?_⟩;refine⟨.eq rfl rfl,?_⟩;exact trivial)) (by(refine⟨.box _ rfl ?_,?_⟩;refine⟨.bJ (by first|with_reducible rfl|(rw[aR aM,List.map_append,List.map_append];show _=_++ [encI (0 - c[k])];rw[Int.zero_sub];rfl)),?_⟩;refine⟨.bF (by first|with_reducible rfl|(rw[aR aM,List.map_append,List.map_append];show _=_++ [encI (0 - c[k])];rw[Int.zero_sub];rfl)),?_⟩;exact trivial;refine⟨.row rfl,?_⟩;exact trivial)) rfl⟩
 ·have dV:c.take k=c:=bK (by omega)
  rw[dV]
  cases hc:bP (c.map fun x=>0 - x) with
  |true=>
   rw[hc] at M0
   (refine kO ?_;refine aa.bz rfl rfl rfl ?_;refine aa.call (M0) (.cons rfl (.own _ _ _ _ rfl) .nil) rfl rfl (fun h_=>by cases h_) ?_;refine zm ?_;(iterate 7 refine aa.bY rfl rfl rfl rfl rfl rfl rfl ?_);refine aa.bL rfl rfl rfl rfl rfl rfl ?_;refine fL ?_)
   ·(apply ax;(exact bA.one (.tmp rfl rfl));(refine Le.aF ?_;(rw[cr,if_pos hc])))
  |false=>
   have hr:=Bv hc
   rw[hc] at M0
   refine AW.aO (δ':={n:=31,env:=[(2,.ptr 0 0),(5,.pv (ints (c.map fun x=>0 - x))),(9,al c.length),(10,al k)],objs:=[(0,some (.box [al vars,.pv (cV cl)]))],nx:=2}) (aO rfl (by(first|(refine⟨.eq rfl rfl,?_⟩;refine⟨.nilown _ _ _ rfl rfl,?_⟩;(iterate 3 refine⟨.eq rfl rfl,?_⟩);exact trivial)|(refine⟨.eq rfl rfl,?_⟩;refine⟨.freeze rfl,?_⟩;exact ta))) (by(first|(refine⟨.box _ rfl ?_,?_⟩;exact ta;refine⟨.newrow rfl,?_⟩;exact trivial)|(refine⟨.box _ rfl ?_,?_⟩;(iterate 2 refine⟨.eq rfl rfl,?_⟩);(iterate 2 exact trivial)))) rfl) ?_
   (refine kO ?_;refine zm ?_;refine aa.call (M0) (.cons rfl (.pv _) .nil) rfl rfl (fun h_=>by cases h_) ?_;refine jY ?_;refine zL ?_;refine nz ?_;refine zl ?_;refine jY ?_;refine aa.G9 (hr) (.cons rfl (.mb (.cons (.pv _) (.cons (.pv _) .nil))) (.cons rfl (.pv _) .nil)) rfl ?_;refine zl ?_;refine aa.lN rfl rfl rfl ?_;refine zl ?_;refine aa.gN 90 4 5 1 rfl rfl rfl rfl ?_;refine nz ?_;refine zl ?_;refine zr ?_;refine zl ?_;refine aa.geq rfl rfl rfl rfl rfl ?_;refine aa.dm rfl rfl rfl rfl rfl rfl ?_;refine fL ?_)
   (apply ax;(exact bA.one (.tmp rfl rfl));(refine Le.aF ?_;(rw[cr,if_neg (by rw[hc];simp)])))
end Go.Ab
/-
 DERIVED:THE SHELF's CONTRACTS AT THIS DUMP,IN PLAIN WORDS (tools/lay-plain.mjs out of 'TryzShelf.lean',which tools/lay-shelf.mjs wrote):THE SAME DECLARATIONS UNDER THE SAME NAMES: 'import', 'namespace', 'open', 'def', 'theorem' AND NOTHING ELSE:no command of the shelf's:FOR A HAND-IN. Each laying:the table of numbers ('.._ren') and one theorem,a field a fact of the dump's own or the kernel's comparison;each contract:ONE APPLICATION.
-/
namespace Go.Proofs
open Go.Shelf
def Tryz.vj:Go.Shelf.Ren:=⟨fun|189=>84|125=>107|257=>106|128=>121|129=>122|294=>113|295=>114|296=>115|297=>116|298=>117|299=>118|216=>85|300=>119|301=>120|328=>123|329=>124|330=>125|331=>126|332=>127|215=>108|343=>128|n=>n,fun|28=>25|3=>3|46=>114|0=>0|51=>135|53=>137|4=>4|183=>129|182=>128|131=>85|5=>5|9=>9|218=>138|222=>142|228=>144|229=>145|n=>n,fun|n=>n⟩
theorem Tryz.yv:Go.Proofs.Lays.n189 Tryz.prog Tryz.vj:={
 mixed:=by kernel_rfl
 f125:=Tryz.func107.trans (congrArg some (by kernel_rfl))
 f128:=Tryz.func121.trans (congrArg some (by kernel_rfl))
 f129:=Tryz.func122.trans (congrArg some (by kernel_rfl))
 f189:=Tryz.func84.trans (congrArg some (by kernel_rfl))
 f215:=Tryz.func108.trans (congrArg some (by kernel_rfl))
 f216:=Tryz.func85.trans (congrArg some (by kernel_rfl))
 f257:=Tryz.func106.trans (congrArg some (by kernel_rfl))
 f294:=Tryz.func113.trans (congrArg some (by kernel_rfl))
 f295:=Tryz.func114.trans (congrArg some (by kernel_rfl))
 f296:=Tryz.func115.trans (congrArg some (by kernel_rfl))
 f297:=Tryz.func116.trans (congrArg some (by kernel_rfl))
 f298:=Tryz.func117.trans (congrArg some (by kernel_rfl))
 f299:=Tryz.func118.trans (congrArg some (by kernel_rfl))
 f300:=Tryz.func119.trans (congrArg some (by kernel_rfl))
 f301:=Tryz.func120.trans (congrArg some (by kernel_rfl))
 f328:=Tryz.func123.trans (congrArg some (by kernel_rfl))
 f329:=Tryz.func124.trans (congrArg some (by kernel_rfl))
 f330:=Tryz.func125.trans (congrArg some (by kernel_rfl))
 f331:=Tryz.func126.trans (congrArg some (by kernel_rfl))
 f332:=Tryz.func127.trans (congrArg some (by kernel_rfl))
 f343:=Tryz.func128.trans (congrArg some (by kernel_rfl))
 t0:=Tryz.underlying0
 a0:=Tryz.isAgg0
 z0:=Tryz.sizeOf0
 v0:=Tryz.zeroValue0
 t3:=Tryz.underlying3
 a3:=Tryz.isAgg3
 z3:=Tryz.sizeOf3
 v3:=Tryz.zeroValue3
 t4:=Tryz.underlying4
 a4:=Tryz.isAgg4
 z4:=Tryz.sizeOf4
 v4:=Tryz.zeroValue4
 t5:=Tryz.underlying5
 a5:=Tryz.isAgg5
 z5:=Tryz.sizeOf5
 v5:=Tryz.zeroValue5
 t9:=Tryz.underlying9
 a9:=Tryz.isAgg9
 z9:=Tryz.sizeOf9
 v9:=Tryz.zeroValue9
 t28:=Tryz.underlying25
 a28:=Tryz.isAgg25
 z28:=Tryz.sizeOf25
 v28:=Tryz.zeroValue25
 t46:=Tryz.underlying114
 a46:=Tryz.isAgg114
 z46:=Tryz.sizeOf114
 v46:=Tryz.zeroValue114
 t51:=Tryz.underlying135
 a51:=Tryz.isAgg135
 z51:=Tryz.sizeOf135
 v51:=Tryz.zeroValue135
 t53:=Tryz.underlying137
 a53:=Tryz.isAgg137
 z53:=Tryz.sizeOf137
 v53:=Tryz.zeroValue137
 t131:=Tryz.underlying85
 a131:=Tryz.isAgg85
 z131:=Tryz.sizeOf85
 v131:=Tryz.zeroValue85
 t182:=Tryz.underlying128
 a182:=Tryz.isAgg128
 z182:=Tryz.sizeOf128
 v182:=Tryz.zeroValue128
 t183:=Tryz.underlying129
 a183:=Tryz.isAgg129
 z183:=Tryz.sizeOf129
 v183:=Tryz.zeroValue129
 t218:=Tryz.underlying138
 a218:=Tryz.isAgg138
 z218:=Tryz.sizeOf138
 v218:=Tryz.zeroValue138
 t222:=Tryz.underlying142
 a222:=Tryz.isAgg142
 z222:=Tryz.sizeOf142
 v222:=Tryz.zeroValue142
 t228:=Tryz.underlying144
 a228:=Tryz.isAgg144
 z228:=Tryz.sizeOf144
 v228:=Tryz.zeroValue144
 t229:=Tryz.underlying145
 a229:=Tryz.isAgg145
 z229:=Tryz.sizeOf145
 v229:=Tryz.zeroValue145}
open Go.Sort Go.RowKit in
theorem Tryz.slices_Sort_int (blk off cap:Nat) (zs:List Int) (w:World) (hH:Holds (Value.int .i64) w blk off zs.toArray) (i_:blk<w.heap.size) (jm:zs.length<4611686018427387904):
  Calls Tryz.prog 84 #[.slice (some ⟨blk,off,none⟩) zs.length cap] w fun e w'=>
   e=.returned (.tuple #[])∧∃n os,w'=grow (putRow (Value.int .i64) (Sort.ahead w n) blk off (zs.mergeSort fun x y=>decide (x≤y)).toArray) os:=Any.slices_Sort_int Tryz.yv blk off cap zs w hH i_ jm
def Tryz.rn:Go.Shelf.Ren:=⟨fun|20=>111|n=>n,fun|22=>25|3=>3|4=>4|0=>0|n=>n,fun|n=>n⟩
theorem Tryz.su:Go.Proofs.Lays2.n20 Tryz.prog Tryz.rn:={
 mixed:=by kernel_rfl
 f20:=Tryz.func111.trans (congrArg some (by kernel_rfl))
 t0:=Tryz.underlying0
 a0:=Tryz.isAgg0
 z0:=Tryz.sizeOf0
 v0:=Tryz.zeroValue0
 t3:=Tryz.underlying3
 a3:=Tryz.isAgg3
 z3:=Tryz.sizeOf3
 v3:=Tryz.zeroValue3
 t4:=Tryz.underlying4
 a4:=Tryz.isAgg4
 z4:=Tryz.sizeOf4
 v4:=Tryz.zeroValue4
 t22:=Tryz.underlying25
 a22:=Tryz.isAgg25
 z22:=Tryz.sizeOf25
 v22:=Tryz.zeroValue25
 i3:=by kernel_rfl}
open Go.RowKit Go.Lib Go.Sort in
theorem Tryz.slices_Compact_int (blk off cap:Nat) (zs:List Int) (w:World) (hH:Holds (Value.int .i64) w blk off zs.toArray) (jm:zs.length≤9223372036854775807) (jC:zs.length≤cap):
  Calls Tryz.prog 111 #[.slice (some ⟨blk,off,none⟩) zs.length cap] w fun e w'=>e=.returned (.slice (some ⟨blk,off,none⟩) (Lib.compact zs).length cap)∧∃q,w'=putRow (Value.int .i64) (Sort.ahead w q) blk off (Lib.compact zs++List.replicate (zs.length - (Lib.compact zs).length) 0).toArray:=Any.slices_Compact_int Tryz.su blk off cap zs w hH jm jC
open Go.RowKit Go.Lib Go.Sort in
theorem Tryz.slices_Compact_int_empty (a:Option Addr) (cap:Nat) (w:World):
  Calls Tryz.prog 111 #[.slice a 0 cap] w fun e w'=>e=.returned (.slice a 0 cap)∧w'=w:=Any.slices_Compact_int_empty Tryz.su a cap w
open Go.RowKit Go.Sort in
theorem Tryz.slices_Sort_int_none (p:Option Addr) (cap:Nat) (w:World):
  Calls Tryz.prog 84 #[.slice p 0 cap] w fun e w'=>e=.returned (.tuple #[])∧w'=w:=Any.slices_Sort_int_none Tryz.yv p cap w
end Go.Proofs
/- Go's slices.Sort and slices.Compact at numbers,as callees that rewrite a row. -/
namespace Go.Ab
open Go Go.Proofs Go.RowKit
def hU (zs:List Int):List Int:=zs.mergeSort fun x y=>decide (x≤y)
def eI (zs:List Int):List Int:=Go.Lib.compact zs
def iX (zs:List Int):List Int:=eI zs++List.replicate (zs.length - (eI zs).length) 0
theorem uK (zs:List Int):(eI zs).length≤zs.length:=by
 unfold eI Go.Lib.compact Go.Lib.compactUpTo
 rw[List.length_map]
 exact Nat.le_trans (List.length_filter_le _ _) (by simp)
theorem AG:ES Tryz.prog 84 hU none where
 enters:=enters_of Tryz.func84 rfl (by decide)
 len:=fun zs=>by simp [hU]
 retle:=fun r h=>by cases h
 calls:=fun b cap zs w hH hb hl _=>Tryz.slices_Sort_int b 0 cap zs w hH hb (by omega)
 nil:=fun w=>(Tryz.slices_Sort_int_none none 0 w).mono fun e w' ⟨h1,h2⟩=>⟨h1,h2▸Below.refl _ _⟩
theorem tz:ES Tryz.prog 111 iX (some fun zs=>(eI zs).length) where
 enters:=enters_of Tryz.func111 rfl (by decide)
 len:=fun zs=>by have:=uK zs;simp [iX];omega
 retle:=fun r h zs=>by cases h;exact uK zs
 calls:=fun b cap zs w hH hb hl hc=>(Tryz.slices_Compact_int b 0 cap zs w hH (by omega) hc).mono fun e w' ⟨h1,q,h2⟩=>⟨h1,q, #[],by rw[h2];simp [Sort.grow];rfl⟩
 nil:=fun w=>(Tryz.slices_Compact_int_empty none 0 w).mono fun e w' ⟨h1,h2⟩=>⟨h1,h2▸Below.refl _ _⟩
end Go.Ab
/- Lists of numbers put in order,each number once. -/
namespace Go.Ab
open Go Go.Proofs
abbrev JV (l:List Int):Prop:=l.Pairwise (·<·)
theorem yo:∀{a b:List Int},JV a→JV b→(∀x,x∈a↔x∈b)→a=b
 |[],[],_,_,_=>rfl
 |[],y::b,_,_,h=>by have:=(h y).2 (by simp);simp at this
 |x::a,[],_,_,h=>by have:=(h x).1 (by simp);simp at this
 |x::a,y::b,ha,hb,h=>by
  have ha':=List.pairwise_cons.1 ha
  have hb':=List.pairwise_cons.1 hb
  have OM:x=y:=by
   have h1:=(h x).1 (by simp)
   have h2:=(h y).2 (by simp)
   rcases List.mem_cons.1 h1 with e|h1
   ·exact e
   ·rcases List.mem_cons.1 h2 with e|h2
    ·exact e.symm
    ·have:=hb'.1 x h1
     have:=ha'.1 y h2
     omega
  subst OM
  rw[yo ha'.2 hb'.2 fun z=>?_]
  constructor
  ·intro hz
   have h1:=ha'.1 z hz
   rcases List.mem_cons.1 ((h z).1 (by simp [hz])) with e|h2
   ·omega
   ·exact h2
  ·intro hz
   have h1:=hb'.1 z hz
   rcases List.mem_cons.1 ((h z).2 (by simp [hz])) with e|h2
   ·omega
   ·exact h2
theorem fW {zs:List Int} {j:Nat} (hj:j<zs.length):zs.toArray[j]! =zs[j]:=by simp [hj]
theorem CY {zs:List Int} {x:Int}:x∈eI zs↔∃j,∃h:j<zs.length,zs[j]=x∧(j=0∨∃h':j - 1<zs.length,zs[j]≠zs[j - 1]):=by
 unfold eI Go.Lib.compact Go.Lib.compactUpTo
 simp only[List.mem_map,List.mem_filter,List.mem_range,Go.Lib.keeps,decide_eq_true_eq]
 constructor
 ·rintro⟨j,⟨hj,hk⟩,rfl⟩
  refine⟨j,hj,(fW hj).symm,?_⟩
  rcases hk with hk|hk
  ·exact .inl hk
  ·by_cases h0:j=0
   ·exact .inl h0
   ·right
    refine⟨by omega,?_⟩
    rwa [fW hj,fW (by omega)] at hk
 ·rintro⟨j,hj,rfl,hk⟩
  refine⟨j,⟨hj,?_⟩,fW hj⟩
  rcases hk with hk|⟨h',hk⟩
  ·exact .inl hk
  ·right
   rwa [fW hj,fW h']
theorem CI {zs:List Int} {x:Int}:x∈eI zs↔x∈zs:=by
 rw[CY]
 constructor
 ·rintro⟨j,hj,rfl,_⟩;exact List.getElem_mem hj
 ·intro hx
  obtain⟨j,hj,rfl⟩:=List.getElem_of_mem hx
  induction j with
  |zero=>exact⟨0,hj,rfl,.inl rfl⟩
  |succ j ih=>
   by_cases e:zs[j+1]=zs[j]
   ·obtain⟨i,hi,h1,h2⟩:=ih (by omega) (List.getElem_mem _)
    exact⟨i,hi,h1.trans e.symm,h2⟩
   ·exact⟨j+1,hj,rfl,.inr ⟨by omega,e⟩⟩
theorem Dq {zs:List Int} (h:zs.Pairwise (·≤·)):JV (eI zs):=by
 unfold eI Go.Lib.compact Go.Lib.compactUpTo JV
 rw[List.pairwise_map]
 have h1:((List.range zs.length).filter (Go.Lib.keeps zs.toArray)).Pairwise (·<·):=List.Pairwise.filter _ List.pairwise_lt_range
 refine List.Pairwise.imp_of_mem (fun {i j} hi hj o_=>?_) h1
 simp only[List.mem_filter,List.mem_range,Go.Lib.keeps,decide_eq_true_eq] at hi hj
 obtain⟨O4,_⟩:=hi
 obtain⟨hj1,hj2⟩:=hj
 rw[fW O4,fW hj1]
 rw[List.pairwise_iff_getElem] at h
 rcases hj2 with h0|h0
 ·omega
 ·have Dp:j - 1<zs.length:=by omega
  have h2:zs[j - 1]≤zs[j]:=h (j - 1) j Dp hj1 (by omega)
  rw[fW hj1,fW Dp] at h0
  by_cases e:i=j - 1
  ·subst e;omega
  ·have h3:zs[i]≤zs[j - 1]:=h i (j - 1) O4 Dp (by omega)
   omega
theorem Ca {zs:List Int} {x:Int}:x∈hU zs↔x∈zs:=(List.mergeSort_perm zs _).mem_iff
theorem Fm (zs:List Int):(hU zs).Pairwise (·≤·):=by
 have:=List.pairwise_mergeSort (le:=fun x y:Int=>decide (x≤y)) (fun a b c h1 h2=>by simp only[decide_eq_true_eq] at*;omega) (fun a b=>by simp only[Bool.or_eq_true,decide_eq_true_eq];omega) zs
 exact this.imp fun h=>by simpa using h
def canon (zs:List Int):List Int:=eI (hU zs)
theorem y4 (zs:List Int):eI (hU zs)=canon zs:=rfl
theorem ss (zs:List Int):JV (canon zs):=Dq (Fm zs)
theorem kV {zs:List Int} {x:Int}:x∈canon zs↔x∈zs:=by unfold canon;rw[CI,Ca]
theorem vR {a b:List Int} (h:∀x,x∈a↔x∈b):canon a=canon b:=yo (ss a) (ss b) fun x=>by rw[kV,kV,h]
theorem xB (zs:List Int):(iX zs).take (eI zs).length=eI zs:=by unfold iX;rw[List.take_append_of_le_length (Nat.le_refl _),List.take_length]
end Go.Ab
/- Chapter 23:the checker's clauses:put in order,compared,within the variables,their images. -/
namespace Go.Ab
open Go Go.Proofs
open Nat (reduceAdd reduceSub)
set_option maxRecDepth 20000
set_option maxHeartbeats 4000000
theorem Aw {α:Type} {a b:List α} {k:Nat} (hl:a.length=b.length) (h:a.take k=b.take k) (hk:¬k<a.length):a=b:=by
 rwa [List.take_of_length_le (by omega),List.take_of_length_le (by omega)] at h
theorem EA {α:Type} {a b:List α} {k:Nat} (h:a.take k=b.take k) (ha:k<a.length) (hb:k<b.length) (e:a[k]=b[k]):a.take (k+1)=b.take (k+1):=by
 rw[aR ha,aR hb,h,e]
attribute [local irreducible] AW aa bE aX AR bd aW bm bD canon hU eI iX
theorem nZ (a b:List Int):Fn Tryz.prog 99 [.pv (ints a),.pv (ints b)] (aF (decide (a=b))):=by
 refine Fn.enter (n:=26) Tryz.func99 rfl rfl rfl rfl rfl (by decide) fun g aU aT=>?_;(try refine nz ?_)
 refine AW.cF 0 rfl fun hlen=>?_
 by_cases mo:a.length=b.length
 ·(refine Jt ?_;refine l8 ?_)
  refine AW.loop (fun(k:Nat)=>{n:=26,env:=[(0,.pv (ints a)),(1,.pv (ints b)),(12,al a.length),(13,al k)],objs:=[],nx:=0}) (fun k=>k≤a.length∧a.take k=b.take k) (fun k=>a.length - k) 0 ?_ ?_ ?_
  ·simp
  ·exact Hv
  rintro k ⟨hk,ew⟩
  by_cases aM:k<a.length
  ·have xV:k<b.length:=by omega
   (refine fB ?_;refine kh ?_;refine AW.bu rfl rfl (by kernel_rfl) (by with_reducible assumption) ?_;(iterate 2 refine zm ?_);(focus ((with_reducible apply aa.aj);(iterate 7 exact rfl);rotate_left;omega));refine zr ?_;(iterate 2 refine zm ?_);(focus ((with_reducible apply aa.aj);(iterate 7 exact rfl);rotate_left;omega));refine zr ?_;refine AA ?_;(focus ((with_reducible apply AW.lI);exact rfl;exact rfl;all_goals intro jW));refine d_ ?_;refine kf ?_;(all_goals skip);rotate_left;refine AW.skip ?_;refine tC ?_;(all_goals skip);rotate_left)
   ·have bx:¬a=b:=by rintro rfl;exact jW rfl
    (apply ax;(exact bA.one (.tmp rfl rfl));(refine Le.aF ?_;(rw[eq_comm,decide_eq_false_iff_not];exact bx)))
   ·exact⟨k+1,⟨by omega,EA ew aM xV (Decidable.not_not.1 jW)⟩,by omega,aO rfl (by(refine⟨.eq rfl rfl,?_⟩;(iterate 3 refine⟨.eq rfl rfl,?_⟩);exact trivial)) (by(exact trivial)) rfl⟩
  ·have he:a=b:=Aw mo ew aM
   (refine kO ?_;refine fL ?_)
   (apply ax;(exact bA.one (.tmp rfl rfl));(refine Le.aF ?_;(rw[eq_comm,decide_eq_true_iff];exact he)))
 ·have bx:¬a=b:=by rintro rfl;exact mo rfl
  (refine j9 ?_;(iterate 2 refine oV ?_);refine AA ?_;refine zc ?_;refine d_ ?_;refine iM ?_)
  (apply ax;(exact bA.one (.tmp rfl rfl));(refine Le.aF ?_;(rw[eq_comm,decide_eq_false_iff_not];exact bx)))
theorem FJ (l:List Int):l.map encI=l.map nI:=rfl
theorem AE (l:List Int) (hl:l.length≤1000000):Jl Tryz.prog 66 [.pv (ints l)] 3 1 (l.map nI):=by
 rw[← FJ]
 refine Jl.enter (n:=8) Tryz.func66 rfl rfl rfl rfl rfl (by decide) fun g aU aT=>?_;(try refine nz ?_)
 by_cases h0:l=[]
 ·subst h0
  have e0:([]:List Int).length=0:=rfl
  (refine j9 ?_;refine zm ?_;(focus ((with_reducible apply aa.qO);(iterate 6 exact rfl);all_goals intro jW));refine e6 ?_;refine iM ?_;(all_goals skip);rotate_left;refine Gq ?_;refine zm ?_;(with_reducible apply aa.bh);exact rfl;(first|exact .pv rfl|exact .own rfl|exact .nil rfl);(iterate 9 exact rfl);(first|omega|(simp only[List.length_map,List.length_append,List.length_cons,List.length_nil,List.length_drop,List.length_take,List.length_set,List.length_range,aL];omega));refine nz ?_;refine nN ?_;(all_goals skip);rotate_left)
  all_goals ((first|(refine fk (bA.one (.tmp rfl rfl)) ?_)|(refine fk (bA.one (.cell1 rfl rfl rfl rfl)) ?_)|(refine kQ (bA.one (.tmp rfl rfl)) ?_));(first|rfl|simp))
 ·have e0:0<l.length:=List.length_pos_iff.2 h0
  have e1:¬l.map encI=[]:=by simpa using h0
  clear h0
  (refine j9 ?_;refine zm ?_;(focus ((with_reducible apply aa.qO);(iterate 6 exact rfl);all_goals intro jW));refine e6 ?_;refine iM ?_;(all_goals skip);rotate_left;refine Gq ?_;refine zm ?_;(with_reducible apply aa.bh);exact rfl;(first|exact .pv rfl|exact .own rfl|exact .nil rfl);(iterate 9 exact rfl);(first|omega|(simp only[List.length_map,List.length_append,List.length_cons,List.length_nil,List.length_drop,List.length_take,List.length_set,List.length_range,aL];omega));refine nz ?_;refine nN ?_;(all_goals skip);rotate_left)
  ·exact absurd jW e1
  ·((first|(refine fk (bA.one (.tmp rfl rfl)) ?_)|(refine fk (bA.one (.cell1 rfl rfl rfl rfl)) ?_)|(refine kQ (bA.one (.tmp rfl rfl)) ?_));(first|rfl|simp))
theorem gY (l:List Int) (hl:l.length≤1000000):Fn Tryz.prog 96 [.pv (ints l)] (.pv (ints (canon l))):=by
 have hc:=AE l hl
 refine Fn.enter (n:=10) Tryz.func96 rfl rfl rfl rfl rfl (by decide) fun g aU aT=>?_;(try refine nz ?_)
 (refine l7 ?_;refine zm ?_;(with_reducible apply aa.GX (hc));(repeat (first|exact .nil|(refine .cons rfl ?_ ?_;(first|exact .pv _|exact .own _ _ _ _ rfl|exact .nil _|exact .any _|exact .rptr _|(refine .mb ?_;repeat (first|exact .nil|(refine .cons ?_ ?_;(first|exact .pv _|exact .own _ _ _ _ rfl|exact .nil _))))))));exact rfl;refine nz ?_;refine od ?_;refine zg ?_;(try refine nz ?_);refine aa.Ga (AG) [6,3,5] rfl ⟨rfl,rfl,rfl,trivial⟩ rfl rfl rfl ?_;(conv=>rhs;simp only[Nf.P6,Nf.all,Nat.reduceBEq,reduceAdd,reduceSub]);refine mN ?_;refine aa.bz rfl rfl rfl ?_;(try refine nz ?_);refine aa.Ga (tz) [8,6,3,5] rfl ⟨rfl,rfl,rfl,rfl,trivial⟩ rfl rfl rfl ?_;(conv=>rhs;simp only[Nf.P6,Nf.all,Nat.reduceBEq,reduceAdd,reduceSub]);refine nN ?_)
 (apply ax;(exact bA.one (.tmp rfl rfl));(refine Le.ak ?_;(first|rfl|(rw[xB,y4];rfl))))
theorem CP (a b:List Int) (ha:a.length≤1000000) (hb:b.length≤1000000):Fn Tryz.prog 104 [.pv (ints a),.pv (ints b)] (aF (decide (canon a=canon b))):=by
 have h1:=gY a ha
 have h2:=gY b hb
 have h3:=nZ (canon a) (canon b)
 refine Fn.enter (n:=10) Tryz.func104 rfl rfl rfl rfl rfl (by decide) fun g aU aT=>?_;(try refine nz ?_)
 (refine l7 ?_;refine zm ?_;refine zP (h1) ?_;refine zm ?_;refine zP (h2) ?_;refine zA (h3) ?_;refine fL ?_)
 (apply ax;(exact bA.one (.tmp rfl rfl));(refine Le.aF ?_;(rfl)))
theorem oI {vars:Int} {l:List Int} {k:Nat} (hk:k<l.length):ay vars (l.take (k+1))=(ay vars (l.take k) && decide (l[k]≠0∧l[k]≤vars∧0 - vars≤l[k])):=by
 unfold ay
 rw[aR hk,List.all_append]
 simp
theorem jR (vars:Int) (l:List Int) (hv: -1000000≤vars∧vars≤1000000):Fn Tryz.prog 94 [al vars,.pv (ints l)] (aF (ay vars l)):=by
 refine Fn.enter (n:=9) Tryz.func94 rfl rfl rfl rfl rfl (by decide) fun g aU aT=>?_;(try refine nz ?_)
 refine AW.cF 1 rfl fun hlen=>?_
 (refine Er ?_;refine nV ?_;refine aa.dT rfl rfl rfl ?_;(with_reducible apply aa.inline (hf:=Tryz.func39));(with_reducible assumption);(iterate 10 exact rfl);intro g_ aU aT;refine mR ?_;refine aa.dM rfl rfl rfl ?_;(with_reducible apply aa.inline (hf:=Tryz.func78));(with_reducible assumption);(iterate 10 exact rfl);intro g_ aU aT;refine Ba ?_)
 (refine nz ?_;apply AW.bM [7,0,1,1006,1005,1004,1000,1001,2006,2005,2004,2002,2001] [0] (fun k:Nat=>([(8,al k)]:List (Nat×AV))) (fun k:Nat=>([]:List (Nat×Option Ob))) (fun k:Nat=>k≤l.length∧ay vars (l.take k)=true) (fun k:Nat=>l.length - k) (0);(conv=>lhs;simp only[Nf.gQ,Nf.all,Nat.reduceBEq,reduceAdd,reduceSub]);(all_goals skip))
 ·exact⟨Nat.zero_le _,rfl⟩
 ·exact aO rfl (by(refine⟨.eq rfl rfl,?_⟩;(iterate 13 refine⟨.eq rfl rfl,?_⟩);exact trivial)) (by(refine⟨.box _ rfl ?_,?_⟩;refine⟨.eq rfl rfl,?_⟩;(iterate 2 exact trivial))) rfl
 rintro k ⟨hk,ew⟩
 by_cases aM:k<l.length
 ·have hs:=oI (vars:=vars) aM
  rw[ew,Bool.true_and] at hs
  by_cases hb:l[k]≠0∧l[k]≤vars∧0 - vars≤l[k]
  ·obtain⟨b1,b2,b3⟩:=hb
   rw[decide_eq_true ⟨b1,b2,b3⟩] at hs
   have b4:¬l[k]< -vars:=by omega
   have b5:¬vars<l[k]:=by omega
   (refine qW ?_;(focus ((with_reducible apply aa.aj);(iterate 7 exact rfl);rotate_left;omega));refine zr ?_;(with_reducible apply aa.inline (hf:=Tryz.func110));(with_reducible assumption);(iterate 10 exact rfl);intro g_ aU aT;refine mR ?_;refine E9 ?_;refine iq ?_;refine zd ?_;refine rL ?_;refine jB ?_)
   exact⟨k+1,⟨by omega,hs⟩,by omega,aO rfl (by(refine⟨.eq rfl rfl,?_⟩;(iterate 13 refine⟨.eq rfl rfl,?_⟩);exact trivial)) (by(refine⟨.box _ rfl ?_,?_⟩;refine⟨.eq rfl rfl,?_⟩;(iterate 2 exact trivial))) rfl⟩
  ·have hf:=qF aM hb
   rw[hf]
   by_cases b1:l[k]=0
   ·(refine qW ?_;(focus ((with_reducible apply aa.aj);(iterate 7 exact rfl);rotate_left;omega));refine zr ?_;(with_reducible apply aa.inline (hf:=Tryz.func110));(with_reducible assumption);(iterate 10 exact rfl);intro g_ aU aT;refine mR ?_;refine aa.eql rfl rfl rfl rfl rfl ?_;refine Ke ?_;refine iq ?_;refine Ak ?_;refine fL ?_)
    all_goals (apply ax;(exact bA.one (.tmp rfl rfl));(refine Le.aF ?_;(first|rfl)))
   ·by_cases b2:vars<l[k]
    ·(refine qW ?_;(focus ((with_reducible apply aa.aj);(iterate 7 exact rfl);rotate_left;omega));refine zr ?_;(with_reducible apply aa.inline (hf:=Tryz.func110));(with_reducible assumption);(iterate 10 exact rfl);intro g_ aU aT;refine mR ?_;refine aa.eql rfl rfl rfl rfl rfl ?_;refine rP ?_;refine zb ?_;refine Bq ?_;refine zm ?_;refine FL ?_;refine iq ?_;refine Ak ?_;refine fL ?_)
     all_goals (apply ax;(exact bA.one (.tmp rfl rfl));(refine Le.aF ?_;(first|rfl)))
    ·have b3:l[k]< -vars:=by omega
     (refine qW ?_;(focus ((with_reducible apply aa.aj);(iterate 7 exact rfl);rotate_left;omega));refine zr ?_;(with_reducible apply aa.inline (hf:=Tryz.func110));(with_reducible assumption);(iterate 10 exact rfl);intro g_ aU aT;refine mR ?_;refine E9 ?_;refine iq ?_;refine zd ?_;refine zc ?_;refine zq ?_;refine zm ?_;refine Ck ?_;refine JS ?_;refine fL ?_)
     all_goals (apply ax;(exact bA.one (.tmp rfl rfl));(refine Le.aF ?_;(first|rfl)))
 ·rw[bK (l:=l) (by omega)] at ew
  rw[ew]
  (refine kO ?_;refine Ep ?_;refine JS ?_;refine fL ?_)
  (apply ax;(exact bA.one (.tmp rfl rfl));(refine Le.aF ?_;(first|rfl)))
end Go.Ab
/- Chapter 23:Go's slices.Delete of one clause. -/
namespace Go.Ab
open Go Go.Proofs Go.RowKit Go.Lib Go.Sort
set_option maxRecDepth 1000000
set_option maxHeartbeats 4000000
abbrev vv (u:Value):Value:=u
theorem zw (b off cap i:Nat) (us:List Value) (w:World) (hH0:Holds (fun u:Value=>u) w b off us.toArray) (h1:∀u∈us,u.oneCell'=true) (jC:us.length≤cap) (hm:cap≤maxLen) (hi:i<us.length):
  Calls Tryz.prog 100 #[.slice (some ⟨b,off,none⟩) us.length cap,.int .i64 i,.int .i64 (i+1)] w fun e w'=>e=.returned (.slice (some ⟨b,off,none⟩) (us.length - 1) cap)∧
   ∃n,w'=putRow (fun u:Value=>u) (Sort.ahead w n) b off (us.take i++us.drop (i+1)++ [Value.slice none 0 0]).toArray:=by
 have hm':cap≤9223372036854775807:=Nat.le_trans hm (by unfold maxLen;decide)
 obtain⟨d,hd⟩:∃d:Array Value,d=us.toArray:=⟨_,rfl⟩
 have M7:us.length=d.size:=by rw[hd];simp
 have ye:d.toList=us:=by rw[hd]
 have hH:Holds vv w b off d:=by rw[hd];exact hH0
 rw[M7] at jC hi ⊢
 rw[← ye] at h1 ⊢
 clear hH0 M7 ye hd
 obtain⟨j,hj⟩:∃j,j=i+1:=⟨_,rfl⟩
 have o_:i≤j:=by omega
 have Se:j≤d.size:=by omega
 have bx:¬(i:Int)=(j:Int):=by omega
 rw[show((i:Int)+1)=(j:Int) by omega,← hj,show d.size - 1=d.size - (j - i) by omega]
 have hz:(Tryz.prog.info? 25).map (fun i=>(i.size,i.zero))=some (1,some (.slice none 0 0)):=rfl
 obtain⟨i0,dF,hz1,hz0⟩:∃i0,Tryz.prog.info? 25=some i0∧i0.size=1∧i0.zero=some (.slice none 0 0):=by
  cases h:Tryz.prog.info? 25 with
  |none=>rw[h] at hz;simp at hz
  |some i0=>rw[h] at hz;simp at hz;exact⟨i0,rfl,hz.1,hz.2⟩
 obtain⟨news,ve⟩:∃news,news=(d.toList.drop j).map vv:=⟨_,rfl⟩
 have hlen:news.length=d.size - j:=by rw[ve];simp
 have zY:∀t,t<d.size - j→news[t]? =some (vv d[j+t]!):=by
  intro t ht
  rw[ve,List.getElem?_map,List.getElem?_drop,Array.getElem?_toList,getElem!_pos d (j+t) (by omega),Array.getElem?_eq_getElem (by omega)]
  rfl
 obtain⟨A,hA,IY⟩:∃A:Addr,(if cap=j then some (⟨b,off,none⟩:Addr) else some ⟨b,off+j,none⟩)=some A∧Hid (∀t u,news[t]? =some u→w.drew.cell? (A.add t)=some u):=by
  by_cases h:cap=j
  ·refine⟨⟨b,off,none⟩,by simp [h],fun t u hu=>?_⟩
   have h0:news.length=0:=by rw[hlen];omega
   rw[List.length_eq_zero_iff.1 h0] at hu
   simp at hu
  ·refine⟨⟨b,off+j,none⟩,by simp [h],fun t u hu=>?_⟩
   have ht:t<d.size - j:=by
    have:=(List.getElem?_eq_some_iff.1 hu).1
    rwa [hlen] at this
   rw[zY t ht] at hu
   rw[Addr.add_lit,show off+j+t=off+(j+t) by omega]
   exact(hH (j+t) (by omega)).1.trans hu
 have s1:Hid (news.length=(d.size - j)*1):=by rw[Nat.mul_one];exact hlen
 have s2:Hid (∀u∈news,u.oneCell'=true):=by
  intro u hu
  rw[ve] at hu
  obtain⟨x,hx,rfl⟩:=List.mem_map.1 hu
  exact h1 x (List.mem_of_mem_drop hx)
 have s3:Hid (∀t,t<news.length→(w.drew.cell? ⟨b,off+i*1+t,none⟩).isSome=true∧w.drew.frozen? ⟨b,off+i*1+t,none⟩=false):=by
  intro t ht
  rw[hlen] at ht
  rw[Nat.mul_one,Nat.add_assoc]
  exact⟨by show(w.cell? _).isSome=true;rw[(hH (i+t) (by omega)).1];rfl,(hH (i+t) (by omega)).2⟩
 obtain⟨W1,hW1⟩:∃W1,W1=w.drew.setCells b (off+i*1) news:=⟨_,rfl⟩
 have hW1':W1=putRow vv (Sort.ahead w 1) b off (lay d i (d.toList.drop j)):=by
  rw[hW1,ve,Nat.mul_one,← putRow_setCells vv (Sort.ahead w 1) b off _ d i (by simp;omega),putRow_self vv (Sort.ahead w 1) b off d (holds_ahead vv w 1 b off d hH)]
  rfl
 have hH1:Holds vv W1 b off (lay d i (d.toList.drop j)):=by rw[hW1'];exact holds_putRow vv _ b off d _ (holds_ahead vv w 1 b off d hH) (lay_size _ _ _)
 have hv:∀w,(zeroValue 25).run Tryz.prog w=.ok (Value.slice none 0 0) w:=fun w=>by simp [zeroValue,typeInfo,dF,hz0]
 have dq:∀ty,(Builtin.clear_ #[22] ty #[.slice (some ⟨b,off+(i+(d.size - j)),none⟩) (d.size - (i+(d.size - j))) (cap - (i+(d.size - j)))]).run Tryz.prog W1=.ok (.tuple #[]) (W1.setCells b (off+(i+(d.size - j))) (List.replicate (d.size - (i+(d.size - j))) (Value.slice none 0 0))):=
  fun ty=>Lib.run_clear_slice W1 _ _ ty _ Tryz.underlying22 hv rfl rfl b (off+(i+(d.size - j))) _ _ (by omega) (fun t ht=>by rw[show off+(i+(d.size - j))+t=off+(i+(d.size - j)+t) by omega,(hH1 _ (by rw[lay_size];omega)).1];rfl) (fun t ht=>by rw[show off+(i+(d.size - j))+t=off+(i+(d.size - j)+t) by omega];exact(hH1 _ (by rw[lay_size];omega)).2)
 have X:Aside (W1=putRow vv (Sort.ahead w 1) b off (lay d i (d.toList.drop j))):=hW1'
 have hW:Hid (W1=w.drew.setCells b (off+i*1) news):=hW1
 have Ty:i≤cap:=by omega
 have Tz:j≤cap:=by omega
 have j5:j - i=1:=by omega
 clear hW1 hW1' hH1 hH zY ve hlen hj h1
 go_enter Tryz.func100,Tryz.ntmps100
 go_wp2_with fail
 go_region_law (refine step_append_room rfl (.tmp 22) (.tmp 25) 22 rfl 25 i0 1 Tryz.underlying22 dF hz1 b off i cap (by simp [Act.eval,Act.put]) A (d.size - j) (cap - j) news (by simp [Act.eval,Act.put]) s1.out IY.out s2.out (by omega) s3.out ?_;rw[← hW.out])
 go_wp2
 go_ret
 refine⟨by rw[show d.size - (j - i)=i+(d.size - j) by omega];rfl,1,?_⟩
 rw[show [Value.slice none 0 0]=List.replicate (j - i) (Value.slice none 0 0) by rw[j5];rfl]
 rw[← delete_arr d i j _ o_ Se,← putRow_setCells vv _ b off _ _ (i+(d.size - j)) (by rw[lay_size];simp;omega),← X.out,List.map_replicate,show d.size - (i+(d.size - j))=j - i by omega]
theorem Li:Il Tryz.prog 100 (Value.slice none 0 0) where
 enters:=enters_of Tryz.func100 rfl (by decide)
 calls:=fun b cap i us w h1 h2 h3 h4 h5=>zw b 0 cap i us w h1 h2 h3 h4 h5
end Go.Ab
/- Chapter 23:images of clauses,symmetries. -/
namespace Go.Ab
open Go Go.Proofs
open Nat (reduceAdd reduceSub)
set_option maxRecDepth 20000
set_option maxHeartbeats 4000000
def mB (sym:List Int) (x:Int):Int:=if 0<x then sym.getD (x - 1).toNat 0 else -(sym.getD (-x - 1).toNat 0)
def gE (sym c:List Int):List Int:=c.map (mB sym)
def C9 (sym c:List Int) (i:Nat):List Int:=gE sym (c.take i)++List.replicate (c.length - i) 0
theorem eQ (sym c:List Int):C9 sym c 0=List.replicate c.length 0:=by unfold C9 gE;simp
theorem Gi (sym c:List Int) {i:Nat} (hi:i≤c.length):(C9 sym c i).length=c.length:=by unfold C9 gE;simp;omega
theorem x6 {sym c:List Int} {i:Nat} (hi:i<c.length) {v:Int} (hv:v=mB sym c[i]):(C9 sym c i).set i v=C9 sym c (i+1):=by
 subst hv
 unfold C9 gE
 rw[List.set_append_right _ _ (by rw[List.length_map,List.length_take];omega),List.length_map,List.length_take,Nat.min_eq_left (by omega),Nat.sub_self,aR hi,List.map_append,List.append_assoc]
 congr 1
 obtain⟨k,hk⟩:∃k,c.length - i=k+1:=⟨c.length - i - 1,by omega⟩
 rw[hk,show c.length - (i+1)=k by omega]
 rfl
theorem Ez (sym c:List Int) {i:Nat} (hi:¬i<c.length):C9 sym c i=gE sym c:=by
 unfold C9
 rw[List.take_of_length_le (by omega),show c.length - i=0 by omega]
 simp
theorem u7 (sym c:List Int):(gE sym c).length=c.length:=by unfold gE;simp
attribute [local irreducible] AW aa bE aX AR bd aW bm bD canon hU eI iX C9
theorem u0 (sym c:List Int) (hs:Sm sym) (hl:sym.length≤1000000) (hc:c.length≤100000) (hw:ay sym.length c=true):Fn Tryz.prog 102 [.pv (ints sym),.pv (ints c)] (.pv (ints (gE sym c))):=by
 have hb:=aY hw
 refine Fn.enter (n:=40) Tryz.func102 rfl rfl rfl rfl rfl (by decide) fun g aU aT=>?_;(try refine nz ?_)
 (refine l7 ?_;refine oV ?_;refine HX ?_;refine nz ?_;refine od ?_;refine jJ ?_;refine l8 ?_)
 (refine nz ?_;apply AW.bM [12,11,4,0] [] (fun i:Nat=>([(5,.own 0 3 1 ((C9 sym c i).map encI)),(13,al i)]:List (Nat×AV))) (fun i:Nat=>([(0,some .row)]:List (Nat×Option Ob))) (fun i:Nat=>i≤c.length) (fun i:Nat=>c.length - i) (0);(conv=>lhs;simp only[Nf.gQ,Nf.all,Nat.reduceBEq,reduceAdd,reduceSub]);(all_goals skip))
 ·exact Nat.zero_le _
 ·exact aO rfl (by(refine⟨.ak (by first|rfl|(rw[eQ,List.map_replicate];rfl)|(show List.replicate _ _=List.map encI _;rw[eQ,List.map_replicate,Int.toNat_natCast];rfl)) rfl,?_⟩;refine⟨.bJ (by first|rfl|(rw[eQ,List.map_replicate];rfl)|(show List.replicate _ _=List.map encI _;rw[eQ,List.map_replicate,Int.toNat_natCast];rfl)),?_⟩;refine⟨.bJ (by first|rfl|(rw[eQ,List.map_replicate];rfl)|(show List.replicate _ _=List.map encI _;rw[eQ,List.map_replicate,Int.toNat_natCast];rfl)),?_⟩;refine⟨.bF (by first|rfl|(rw[eQ,List.map_replicate];rfl)|(show List.replicate _ _=List.map encI _;rw[eQ,List.map_replicate,Int.toNat_natCast];rfl)),?_⟩;refine⟨.eq rfl rfl,?_⟩;refine⟨.bF (by first|rfl|(rw[eQ,List.map_replicate];rfl)|(show List.replicate _ _=List.map encI _;rw[eQ,List.map_replicate,Int.toNat_natCast];rfl)),?_⟩;exact trivial)) (by(refine⟨.row rfl,?_⟩;exact trivial)) rfl
 rintro i hi
 have Aa:=Gi sym c hi
 by_cases aM:i<c.length
 ·obtain⟨b1,b2,b3⟩:=hb _ (List.getElem_mem aM)
  by_cases hp:0<c[i]
  ·have hj:(c[i] - 1).toNat<sym.length:=by omega
   have hj0:0≤c[i] - 1:=by omega
   have hv:sym[(c[i] - 1).toNat]=mB sym c[i]:=by unfold mB;rw[if_pos hp,List.getD_eq_getElem?_getD,List.getElem?_eq_getElem hj];rfl
   have yf:=x6 aM hv
   (refine fB ?_;(focus ((with_reducible apply aa.aj);(iterate 7 exact rfl);rotate_left;omega));refine zr ?_;refine lx ?_;refine nV ?_;refine wz ?_;refine zc ?_;refine zU ?_;(iterate 3 refine zm ?_);refine aa.sub rfl rfl rfl rfl rfl (by omega) ?_;(focus ((with_reducible apply aa.bs);(iterate 7 exact rfl);omega;rotate_left;(first|omega|exact Nat.zero_lt_one|(simp;done))));refine zr ?_;refine uu ?_;refine IT ?_)
   exact K3
  ·have hj:(-c[i] - 1).toNat<sym.length:=by omega
   have hj0:0≤ -c[i] - 1:=by omega
   have Bp:=hs _ (List.getElem_mem hj)
   have hv: -sym[(-c[i] - 1).toNat]=mB sym c[i]:=by unfold mB;rw[if_neg hp,List.getD_eq_getElem?_getD,List.getElem?_eq_getElem hj];rfl
   have yf:=x6 aM hv
   (refine fB ?_;(focus ((with_reducible apply aa.aj);(iterate 7 exact rfl);rotate_left;omega));refine zr ?_;refine lx ?_;refine nV ?_;refine wz ?_;refine zk ?_;refine zU ?_;(iterate 3 refine zm ?_);refine aa.neg rfl rfl rfl (by omega) ?_;refine aa.sub rfl rfl rfl rfl rfl (by omega) ?_;(focus ((with_reducible apply aa.bs);(iterate 7 exact rfl);omega;rotate_left;(first|omega|exact Nat.zero_lt_one|(simp;done))));refine zr ?_;refine aa.neg rfl rfl rfl (by omega) ?_;refine uu ?_;refine IT ?_)
   exact K3
 ·rw[Ez _ _ (by omega)]
  (refine kO ?_;refine aa.bz rfl rfl rfl ?_;refine nN ?_)
  (apply ax;(exact bA.one (.tmp rfl rfl));(exact Le.own _ _ _ _ rfl))
end Go.Ab
/- Chapter 23:valid symmetries. -/
namespace Go.Ab
open Go Go.Proofs
open Nat (reduceAdd reduceSub)
set_option maxRecDepth 20000
set_option maxHeartbeats 4000000
def kb (n:Nat) (l:List Int):List Bool:=(List.range n).map fun v=>decide ((v+1)∈l.map Int.natAbs)
theorem vX (n:Nat) (l:List Int):(kb n l).length=n:=by unfold kb;simp
theorem mY {n:Nat} {l:List Int} {v:Nat} (h:v<(kb n l).length):(kb n l)[v]=decide ((v+1)∈l.map Int.natAbs):=by unfold kb;simp
theorem fM (n:Nat):kb n []=List.replicate n false:=by
 unfold kb
 rw[List.eq_replicate_iff]
 simp
theorem Dc {n:Nat} {l:List Int} {k v:Nat} (hk:k<l.length) (hv:v+1=l[k].natAbs):(kb n (l.take k)).set v true=kb n (l.take (k+1)):=by
 apply List.ext_getElem
 ·simp [vX]
 ·intro j h1 h2
  rw[List.getElem_set]
  by_cases e:v=j
  ·subst e
   rw[if_pos rfl,mY,aR hk]
   exact(decide_eq_true (List.mem_map.2 ⟨l[k],List.mem_append.2 (.inr (List.mem_singleton.2 rfl)),hv.symm⟩)).symm
  ·rw[if_neg e,mY,mY,aR hk]
   simp only[List.map_append,List.mem_append,List.map_cons,List.map_nil,List.mem_singleton]
   have:¬j+1=l[k].natAbs:=by omega
   simp [this]
theorem qT {l:List Int} {k:Nat} (hk:k<l.length):((l.take (k+1)).map Int.natAbs).Nodup↔((l.take k).map Int.natAbs).Nodup∧l[k].natAbs∉(l.take k).map Int.natAbs:=by
 rw[aR hk,List.map_append,List.nodup_append]
 simp only[List.map_cons,List.map_nil,List.mem_singleton]
 constructor
 ·rintro⟨h1,_,h2⟩
  exact⟨h1,fun h=>h2 _ h _ rfl rfl⟩
 ·rintro⟨h1,h2⟩
  exact⟨h1,by simp,fun a ha b hb e=>h2 (by rw[← hb,← e];exact ha)⟩
theorem As {l:List Int} {k:Nat} (hk:k<l.length) (h:l[k].natAbs∈(l.take k).map Int.natAbs):¬(l.map Int.natAbs).Nodup:=fun hn=>by
 have h1:((l.take (k+1)).map Int.natAbs).Nodup:=by
  rw[← List.take_append_drop (k+1) l,List.map_append] at hn
  exact(List.nodup_append.1 hn).1
 exact((qT hk).1 h1).2 h
theorem pN {α:Type} {p:α→Bool} {l:List α} {k:Nat} (hk:k<l.length):(l.take (k+1)).all p=((l.take k).all p && p l[k]):=by
 rw[aR hk,List.all_append];simp
theorem mH {α:Type} {p:α→Bool} {l:List α} {k:Nat} (hk:k<l.length):(l.take (k+1)).any p=((l.take k).any p||p l[k]):=by
 rw[aR hk,List.any_append];simp
theorem pd {α:Type} {p:α→Bool} {l:List α} {k:Nat} (hk:k<l.length) (h:p l[k]=true):l.any p=true:=List.any_eq_true.2 ⟨_,List.getElem_mem hk,h⟩
theorem wP {α:Type} {p:α→Bool} {l:List α} {k:Nat} (hk:k<l.length) (h:p l[k]=false):l.all p=false:=List.all_eq_false.2 ⟨_,List.getElem_mem hk,by simp [h]⟩
def w9 (cl:List (List Int)) (sym c:List Int):Bool:=cl.any fun d=>decide (canon d=canon (gE sym c))
def df (vars:Int) (cl:List (List Int)) (sym:List Int):Bool:=decide ((sym.length:Int)=vars) && ay vars sym && decide ((sym.map Int.natAbs).Nodup) && cl.all (w9 cl sym)
attribute [local irreducible] AW aa bE aX AR bd aW bm bD canon hU eI iX kb gE ay
theorem BO (vars:Int) (cl:List (List Int)) (sym:List Int) (hf:KE vars cl) (hs:sym.length≤100000):Fn Tryz.prog 76 [w6 vars cl,.pv (ints sym)] (aF (df vars cl sym)):=by
 have hv:=hf.hv
 have h3:=hf.h3
 have hw:=jR vars sym (by omega)
 by_cases e1:(sym.length:Int)=vars
 ·cases e2:ay vars sym with
  |false=>
   rw[e2] at hw
   have hr:df vars cl sym=false:=by unfold df;rw[e2];simp
   rw[hr]
   refine Fn.enter (n:=62) Tryz.func76 rfl rfl rfl rfl rfl (by decide) fun g aU aT=>?_;(try refine nz ?_)
   (refine H6 ?_;refine C8 ?_;refine zy ?_;refine iP ?_;refine zA (hw) ?_;refine Aq ?_;refine e6 ?_;refine iM ?_)
   (apply ax;(exact bA.one (.tmp rfl rfl));(refine Le.aF ?_;(rfl)))
  |true=>
   rw[e2] at hw
   have hb:=aY e2
   obtain⟨n,rfl⟩:∃n:Nat,vars=n:=⟨vars.toNat,by omega⟩
   refine Fn.enter (n:=62) Tryz.func76 rfl rfl rfl rfl rfl (by decide) fun g aU aT=>?_;(try refine nz ?_)
   (refine H6 ?_;refine C8 ?_;refine zy ?_;refine iP ?_;refine zA (hw) ?_;refine Aq ?_;refine qJ ?_;refine d_ ?_;refine oJ ?_;refine HX ?_;refine nz ?_;refine od ?_;refine jJ ?_;refine l8 ?_)
   (refine nz ?_;apply AW.bM [28,27,2,1] [0] (fun i:Nat=>([(5,.own 1 4 1 ((kb n (sym.take i)).map hX)),(29,al i)]:List (Nat×AV))) (fun i:Nat=>([(1,some .row)]:List (Nat×Option Ob))) (fun i:Nat=>i≤sym.length∧((sym.take i).map Int.natAbs).Nodup) (fun i:Nat=>sym.length - i) (0);(conv=>lhs;simp only[Nf.gQ,Nf.all,Nat.reduceBEq,reduceAdd,reduceSub]);(all_goals skip))
   ·exact⟨Nat.zero_le _,by simp⟩
   ·exact aO rfl (by(refine⟨.ak (by first|rfl|(rw[List.take_zero,fM,List.map_replicate];rfl)) rfl,?_⟩;refine⟨.bJ (by first|rfl|(rw[List.take_zero,fM,List.map_replicate];rfl)),?_⟩;refine⟨.bJ (by first|rfl|(rw[List.take_zero,fM,List.map_replicate];rfl)),?_⟩;refine⟨.bF (by first|rfl|(rw[List.take_zero,fM,List.map_replicate];rfl)),?_⟩;refine⟨.eq rfl rfl,?_⟩;refine⟨.bF (by first|rfl|(rw[List.take_zero,fM,List.map_replicate];rfl)),?_⟩;exact trivial)) (by(refine⟨.row rfl,?_⟩;refine⟨.box _ rfl ?_,?_⟩;refine⟨.bJ (by first|rfl|(rw[List.take_zero,fM,List.map_replicate];rfl)),?_⟩;refine⟨.bF (by first|rfl|(rw[List.take_zero,fM,List.map_replicate];rfl)),?_⟩;(iterate 2 exact trivial))) rfl
   rintro i ⟨hi,dB⟩
   have sK:=vX n (sym.take i)
   by_cases aM:i<sym.length
   ·obtain⟨b1,b2,b3⟩:=hb _ (List.getElem_mem aM)
    have J7:(max sym[i] (-sym[i]) - 1).toNat<(kb n (sym.take i)).length:=by rw[sK];omega
    have Jp:(max sym[i] (-sym[i]) - 1).toNat+1=sym[i].natAbs:=by omega
    have hg:=mY J7
    rw[Jp] at hg
    by_cases hm:sym[i].natAbs∈(sym.take i).map Int.natAbs
    ·rw[decide_eq_true hm] at hg
     have hr:df n cl sym=false:=by unfold df;rw[decide_eq_false (As aM hm)];simp
     rw[hr]
     (refine Bt ?_;(focus ((with_reducible apply aa.aj);(iterate 7 exact rfl);rotate_left;omega));refine zr ?_;refine oq ?_;refine CZ ?_;refine aa.sub rfl rfl rfl rfl rfl (by omega) ?_;refine kh ?_;refine zg ?_;refine zm ?_;refine nh ?_;(focus ((with_reducible apply aa.aD);(iterate 4 exact rfl);(focus (intro h_;cases h_;done));rotate_left;(first|omega|exact Nat.zero_lt_one|(simp;done))));refine zd ?_;refine AW.xW rfl rfl (by assumption) ?_;refine d_ ?_;refine fL ?_;refine L0 ?_)
     (apply ax;(exact bA.one (.tmp rfl rfl));(refine Le.aF ?_;(rfl)))
    ·rw[decide_eq_false hm] at hg
     have yf:=Dc (n:=n) aM Jp
     (refine Bt ?_;(focus ((with_reducible apply aa.aj);(iterate 7 exact rfl);rotate_left;omega));refine zr ?_;refine oq ?_;refine CZ ?_;refine aa.sub rfl rfl rfl rfl rfl (by omega) ?_;refine kh ?_;refine zg ?_;refine zm ?_;refine nh ?_;(focus ((with_reducible apply aa.aD);(iterate 4 exact rfl);(focus (intro h_;cases h_;done));rotate_left;(first|omega|exact Nat.zero_lt_one|(simp;done))));refine zd ?_;refine AW.sP rfl rfl (by assumption) ?_;refine qi ?_;refine zU ?_;refine zm ?_;refine nh ?_;refine IT ?_)
     exact⟨i+1,⟨by omega,(qT aM).2 ⟨dB,hm⟩⟩,by omega,aO rfl (by(refine⟨.ak (by first|rfl|(rw[← yf,List.map_set];rfl)) rfl,?_⟩;refine⟨.bJ (by first|rfl|(rw[← yf,List.map_set];rfl)),?_⟩;refine⟨.bJ (by first|rfl|(rw[← yf,List.map_set];rfl)),?_⟩;refine⟨.bF (by first|rfl|(rw[← yf,List.map_set];rfl)),?_⟩;refine⟨.eq rfl rfl,?_⟩;refine⟨.bF (by first|rfl|(rw[← yf,List.map_set];rfl)),?_⟩;exact trivial)) (by(refine⟨.row rfl,?_⟩;refine⟨.box _ rfl ?_,?_⟩;refine⟨.bJ (by first|rfl|(rw[← yf,List.map_set];rfl)),?_⟩;refine⟨.bF (by first|rfl|(rw[← yf,List.map_set];rfl)),?_⟩;(iterate 2 exact trivial))) rfl⟩
   ·rw[bK (l:=sym) (by omega)] at dB
    have hr:df n cl sym=cl.all (w9 cl sym):=by unfold df;rw[decide_eq_true e1,e2,decide_eq_true dB];simp
    rw[hr]
    (refine zq ?_;refine yg ?_;refine jJ ?_;refine rh ?_;refine zn ?_;refine zm ?_;refine lf ?_)
    (refine nz ?_;apply AW.bM [48,47,2,1] [0] (fun k:Nat=>([(49,al k)]:List (Nat×AV))) (fun k:Nat=>([]:List (Nat×Option Ob))) (fun k:Nat=>k≤cl.length∧(cl.take k).all (w9 cl sym)=true) (fun k:Nat=>cl.length - k) (0);(conv=>lhs;simp only[Nf.gQ,Nf.all,Nat.reduceBEq,reduceAdd,reduceSub]);(all_goals skip))
    ·exact⟨Nat.zero_le _,rfl⟩
    ·exact MF
    rintro k ⟨hk,oU⟩
    by_cases wh:k<cl.length
    ·obtain⟨c1,c2⟩:=hf.dq _ (List.getElem_mem wh)
     rw[← e1] at c1
     have xS:=oa hv e2
     have Br:=u0 sym cl[k] xS (by omega) c2 c1
     have ri:=u7 sym cl[k]
     have has:=pN (p:=w9 cl sym) wh
     rw[oU,Bool.true_and] at has
     have Bi:w9 cl sym cl[k]=cl.any fun d=>decide (canon d=canon (gE sym cl[k])):=rfl
     generalize gE sym cl[k]=mp at Br ri Bi
     (refine Bt ?_;(focus ((with_reducible apply aa.aj);(iterate 7 exact rfl);rotate_left;omega));refine zr ?_;refine oq ?_;(iterate 2 refine zm ?_);refine zP (Br) ?_;refine pE ?_;refine Bs ?_;refine mN ?_;refine rh ?_;refine aa.dT rfl rfl rfl ?_;(with_reducible apply aa.inline (hf:=Tryz.func74));(with_reducible assumption);(iterate 10 exact rfl);intro g_ aU aT;refine mR ?_;refine aa.dM rfl rfl rfl ?_;(with_reducible apply aa.inline (hf:=Tryz.func97));(with_reducible assumption);(iterate 10 exact rfl);intro g_ aU aT;refine Ba ?_)
     (refine nz ?_;apply AW.bM [7,0,1,1006,1005,1004,1000,1001,2058,2057,2056,2011,2049,2048,2047,2002,2001] [2,0] (fun j:Nat=>([(8,al j)]:List (Nat×AV))) (fun j:Nat=>([]:List (Nat×Option Ob))) (fun j:Nat=>j≤cl.length∧(cl.take j).any (fun d=>decide (canon d=canon mp))=false) (fun j:Nat=>cl.length - j) (0);(conv=>lhs;simp only[Nf.gQ,Nf.all,Nat.reduceBEq,reduceAdd,reduceSub]);(all_goals skip))
     ·exact⟨Nat.zero_le _,rfl⟩
     ·exact MF
     rintro j ⟨hj,tA⟩
     by_cases kL:j<cl.length
     ·obtain⟨d1,d2⟩:=hf.dq _ (List.getElem_mem kL)
      have heq:=CP cl[j] mp (by omega) (by omega)
      have uH:=mH (p:=fun d=>decide (canon d=canon mp)) kL
      rw[tA,Bool.false_or] at uH
      by_cases he:canon cl[j]=canon mp
      ·rw[decide_eq_true he] at heq
       have hy:w9 cl sym cl[k]=true:=by rw[Bi];exact pd kL (decide_eq_true he)
       rw[hy] at has
       clear Bi
       (refine qW ?_;(focus ((with_reducible apply aa.aj);(iterate 7 exact rfl);rotate_left;omega));refine zr ?_;(with_reducible apply aa.inline (hf:=Tryz.func103));(with_reducible assumption);(iterate 10 exact rfl);intro g_ aU aT;refine mR ?_;refine zb ?_;refine zA (heq) ?_;refine iq ?_;refine Ak ?_;refine kg ?_;refine tC ?_)
       exact⟨k+1,⟨by omega,has⟩,by omega,aO rfl (by(first|(refine⟨.eq rfl rfl,?_⟩;(iterate 17 refine⟨.eq rfl rfl,?_⟩);exact trivial)|(refine⟨.eq rfl rfl,?_⟩;(iterate 4 refine⟨.eq rfl rfl,?_⟩);exact trivial))) (by(first|(refine⟨.box _ rfl ?_,?_⟩;refine⟨.eq rfl rfl,?_⟩;exact trivial;refine⟨.box _ rfl ?_,?_⟩;(iterate 2 refine⟨.eq rfl rfl,?_⟩);(iterate 2 exact trivial))|(refine⟨.box _ rfl ?_,?_⟩;(iterate 2 refine⟨.eq rfl rfl,?_⟩);(iterate 2 exact trivial)))) rfl⟩
      ·rw[decide_eq_false he] at heq uH
       clear Bi
       (refine qW ?_;(focus ((with_reducible apply aa.aj);(iterate 7 exact rfl);rotate_left;omega));refine zr ?_;(with_reducible apply aa.inline (hf:=Tryz.func103));(with_reducible assumption);(iterate 10 exact rfl);intro g_ aU aT;refine mR ?_;refine zb ?_;refine zA (heq) ?_;refine iq ?_;refine kg ?_;refine jB ?_)
       exact⟨j+1,⟨by omega,uH⟩,by omega,aO rfl (by(first|(refine⟨.eq rfl rfl,?_⟩;(iterate 17 refine⟨.eq rfl rfl,?_⟩);exact trivial)|(refine⟨.eq rfl rfl,?_⟩;(iterate 4 refine⟨.eq rfl rfl,?_⟩);exact trivial))) (by(first|(refine⟨.box _ rfl ?_,?_⟩;refine⟨.eq rfl rfl,?_⟩;exact trivial;refine⟨.box _ rfl ?_,?_⟩;(iterate 2 refine⟨.eq rfl rfl,?_⟩);(iterate 2 exact trivial))|(refine⟨.box _ rfl ?_,?_⟩;(iterate 2 refine⟨.eq rfl rfl,?_⟩);(iterate 2 exact trivial)))) rfl⟩
     ·rw[bK (l:=cl) (by omega)] at tA
      rw[tA] at Bi
      rw[wP wh Bi]
      (refine kO ?_;refine Ep ?_;refine JS ?_;refine e6 ?_;refine kf ?_)
      (apply ax;(exact bA.one (.tmp rfl rfl));(refine Le.aF ?_;(rfl)))
    ·rw[bK (l:=cl) (by omega)] at oU
     rw[oU]
     (refine kO ?_;refine fL ?_)
     (apply ax;(exact bA.one (.tmp rfl rfl));(refine Le.aF ?_;(rfl)))
 ·have hr:df vars cl sym=false:=by unfold df;rw[decide_eq_false e1];simp
  rw[hr]
  refine Fn.enter (n:=62) Tryz.func76 rfl rfl rfl rfl rfl (by decide) fun g aU aT=>?_;(try refine nz ?_)
  (refine H6 ?_;(iterate 5 refine aa.db rfl rfl rfl rfl rfl rfl (by with_reducible assumption) ?_);refine zT ?_;refine e6 ?_;refine iM ?_)
  (apply ax;(exact bA.one (.tmp rfl rfl));(refine Le.aF ?_;(rfl)))
end Go.Ab
