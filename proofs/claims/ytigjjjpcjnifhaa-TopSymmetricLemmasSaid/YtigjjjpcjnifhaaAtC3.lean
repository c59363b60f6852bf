/- Chapter 20, the reference's small functions: what each computes, and its walk. -/
import Derived.Test.YtigjjjpcjnifhaaRows
import Derived.Test.YtigjjjpcjnifhaaAbZ
import Derived.Test.YtigjjjpcjnifhaaAbL2
import Derived.Test.YtigjjjpcjnifhaaAbL3
import Derived.Shelf.Strconv.Itoa0
import Derived.Shelf.Sort.Plain
import Derived.Shelf.Slices.Equal
import Derived.Ground.Names2Prog
import Derived.Shelf.Slices.CompactI
import Derived.Shelf.Slices.SearchI
import Derived.Shelf.Slices.Cells
import Derived.Shelf.Slices.In.SortNone
import Derived.Shelf.Slices.Empties2
import Derived.Test.YtigjjjpcjnifhaaProg
import Derived.Lib.SlicesCompact
import Derived.WalkKit
import Derived.Deep.RegionLaw
import Derived.Deep.LoopGhost
import Derived.Lib.Walk
import Derived.Lib.SliceRun
import Derived.Lib.SlicesDelete
import Derived.Sort.WalkB12
set_option linter.unusedSimpArgs false
set_option linter.unusedVariables false
namespace Go.Ab
open Go Go.Proofs
set_option maxRecDepth 20000
set_option maxHeartbeats 4000000
attribute [local irreducible] AW aa bM a8
theorem bd {α:Type} {l:List α} {k:Nat} (hk:k<l.length):l.take (k+1)=l.take k++ [l[k]]:=List.take_succ_eq_append_getElem hk
theorem cz {α:Type} {l:List α} {k:Nat} (h:¬(k:Int)<(l.length:Int)):l.take k=l:=List.take_of_length_le (by omega)
theorem CP {l:List Int} {x:Int} {k:Nat} (h1:x∉l.take k) (hk:k<l.length) (h2:¬l[k]=x):x∉l.take (k+1):=by
 rw[bd hk,List.mem_append]
 simp [h1,Ne.symm h2]
def Sm (l:List Int):Prop:=∀x∈l,-1000000000000≤x∧x≤1000000000000
def ay (vars:Int) (l:List Int):Bool:=l.all fun x=>decide (x≠0∧x≤vars∧0 - vars≤x)
theorem o4 {vars:Int} {l:List Int} {k:Nat} (hk:k<l.length) (h:¬(l[k]≠0∧l[k]≤vars∧0 - vars≤l[k])):ay vars l=false:=by
 unfold ay
 rw[List.all_eq_false]
 exact⟨l[k],List.getElem_mem hk,by simpa using h⟩
def b_ (l:List Int):Bool:=l.any fun x=>decide ((0 - x)∈l)
theorem tN {l:List Int} {k:Nat} (hk:k<l.length) (h:(0 - l[k])∈l):b_ l=true:=by
 unfold b_;rw[List.any_eq_true];exact⟨l[k],List.getElem_mem hk,by simpa using h⟩
end Go.Ab
/- Chapter 20,the reference's run:what each function computes,and its walk. -/
namespace Go.Ab
open Go Go.Proofs
set_option maxRecDepth 20000
set_option maxHeartbeats 4000000
attribute [local irreducible] AW aa bM a8
abbrev Dg (vars:Int) (cl:List (List Int)):AV:=.agg [aw vars,.pv (dy cl)]
def kj (vars:Int) (cl:List (List Int)):Bool:=decide (0≤vars∧vars≤20000∧(cl.length:Int)≤60000) && cl.all (ay vars)
theorem wu {vars:Int} {cl:List (List Int)} (h:¬(0≤vars∧vars≤20000∧(cl.length:Int)≤60000)):kj vars cl=false:=by
 simp only[kj,decide_eq_false h,Bool.false_and]
def cE (trail:List Int):List Int→Int→Int×Int
 |[],left=>if left=0 then (1,0) else (2,left)
 |x::c,left=>if x∈trail∨((0 - x)∉trail∧left≠0∧left≠x) then (0,0) else cE trail c (if (0 - x)∈trail then left else x)
def cy (c trail:List Int):Int×Int:=cE trail c 0
end Go.Ab
/- Chapter 20,the reference's trail:one step,the run. -/
namespace Go.Ab
open Go Go.Proofs
set_option maxRecDepth 20000
set_option maxHeartbeats 4000000
attribute [local irreducible] AW aa bM a8
abbrev Tr:=List Int×List Int×Int
def eN (t:Tr):Int→List (List Int)→Tr×Bool
 |_,[]=>(t,false)
 |i,c::cl=>if (cy c t.1).1=1 then ((t.1,t.2.1,i),false) else if (cy c t.1).1=2 then ((t.1++ [(cy c t.1).2],t.2.1++ [i],t.2.2),true) else eN t (i+1) cl
def fj (cl:List (List Int)) (t:Tr):Tr×Bool:=eN t 0 cl
theorem qC (t:Tr) (cl:List (List Int)) (k:Nat) (h:k<cl.length):eN t k (cl.drop k)=
  if (cy cl[k] t.1).1=1 then ((t.1,t.2.1,(k:Int)),false) else if (cy cl[k] t.1).1=2 then ((t.1++ [(cy cl[k] t.1).2],t.2.1++ [(k:Int)],t.2.2),true) else eN t (k+1:Nat) (cl.drop (k+1)):=by
 rw[List.drop_eq_getElem_cons h];rfl
end Go.Ab
/- Chapter 20,the reference's run. -/
namespace Go.Ab
open Go Go.Proofs
set_option maxRecDepth 20000
set_option maxHeartbeats 4000000
attribute [local irreducible] AW aa bM a8
def gE (t:Tr) (x:Int):Tr:=if x∈t.1 then t else (t.1++ [x],t.2.1++ [-1],t.2.2)
def cD (assume:List Int):Tr:=assume.foldl gE ([],[],-1)
def ku (cl:List (List Int)):Nat→Tr→Tr
 |0,t=>t
 |n+1,t=>if (fj cl t).2 then ku cl n (fj cl t).1 else (fj cl t).1
def runM (vars:Int) (cl:List (List Int)) (assume:List Int):Tr:=ku cl (vars+1).toNat (cD assume)
theorem Br (t:Tr) (x:Int):(gE t x).1.length≤t.1.length+1∧(gE t x).2.1.length≤t.2.1.length+1:=by
 unfold gE;split<;>simp
theorem z6 (l:List Int):∀t:Tr,(l.foldl gE t).1.length≤t.1.length+l.length∧(l.foldl gE t).2.1.length≤t.2.1.length+l.length:=by
 induction l with
 |nil=>intro t;simp
 |cons x l ih=>intro t;have h1:=ih (gE t x);have h2:=Br t x;simp only[List.foldl_cons,List.length_cons];omega
theorem vA (assume:List Int):(cD assume).1.length≤assume.length∧(cD assume).2.1.length≤assume.length:=by
 have:=z6 assume ([],[],-1);simpa [cD] using this
theorem u6 {assume:List Int} {k:Nat} (h:k<assume.length):cD (assume.take (k+1))=gE (cD (assume.take k)) assume[k]:=by
 unfold cD;rw[bd h,List.foldl_append];rfl
end Go.Ab
/- Chapter 20,the reference's answers. -/
namespace Go.Ab
open Go Go.Proofs
set_option maxRecDepth 20000
set_option maxHeartbeats 4000000
attribute [local irreducible] AW aa bM a8
def rM (l:List Int) (x:Int):Int:=if x∈l then (l.idxOf x:Int) else -1
theorem A2 {l:List Int} {x:Int} {k:Nat} (hk:k<l.length) (h:l[k]=x) (gB:x∉l.take k):(k:Int)=rM l x:=by
 have hm:x∈l:=h▸List.getElem_mem hk
 rw[rM,if_pos hm]
 have:l.idxOf x=k:=by
  have e:l=l.take k++x::l.drop (k+1):=by
   rw[← h,List.getElem_cons_drop,List.take_append_drop]
  rw[e,List.idxOf_append,if_neg gB,List.idxOf_cons_self]
  simp;omega
 rw[this]
def impl (l:List (Int×Int)):List (Int×Int):=l.filter fun p=>decide (0≤p.2)
def pr (t:Tr):List (Int×Int):=t.1.zip t.2.1
def ql (vars:Int) (cl:List (List Int)) (assume:List Int):List Int×Int:=
 if b_ assume=true then ([],-2) else ((impl (pr (runM vars cl assume))).map (·.1),(runM vars cl assume).2.2)
def kL (t:Tr):Prop:=t.2.1.length=t.1.length
theorem BN {t:Tr} (h:kL t) (x:Int):kL (gE t x):=by
 unfold gE kL at*;split<;>simp [h]
theorem wD (assume:List Int):kL (cD assume):=by
 have:∀(l:List Int) (t:Tr),kL t→kL (l.foldl gE t):=by
  intro l
  induction l with
  |nil=>intro t h;exact h
  |cons x l ih=>intro t h;exact ih _ (BN h x)
 exact this assume _ rfl
end Go.Ab
/- Chapter 20,the reference's answers:reasons,implied clauses. -/
namespace Go.Ab
open Go Go.Proofs
set_option maxRecDepth 20000
set_option maxHeartbeats 4000000
attribute [local irreducible] AW aa bM a8
def db (vars:Int) (cl:List (List Int)) (c:List Int):Bool:=
 if b_ (c.map fun x=>0 - x)=true then true else decide (0≤(runM vars cl (c.map fun x=>0 - x)).2.2)
theorem GK {l:List Int} (h:Sm l):Sm (l.map fun x=>0 - x):=by
 intro x hx
 obtain⟨y,hy,rfl⟩:=List.mem_map.1 hx
 have:=h y hy
 omega
end Go.Ab
/- Chapter 20:the library's search,the closure. -/
namespace Go.Ab
open Go Go.Proofs
set_option maxRecDepth 20000
set_option maxHeartbeats 4000000
attribute [local irreducible] AW aa bM a8
theorem AG (l:List Int) (x:Int):Fn Try.prog 62 [.pv (ints l),aw x] (aw (rM l x)):=by
 refine Fn.enter (n:=19) Try.func62 rfl rfl rfl rfl rfl (by decide) fun g aY aW=>?_;(try refine nz ?_)
 refine AW.d_ 0 rfl fun hlen=>?_
 (refine nM ?_;refine zm ?_;refine iv ?_)
 refine AW.loop (fun(k:Nat)=>{n:=19,env:=[(0,.pv (ints l)),(1,aw x),(7,aw l.length),(8,aw k)],objs:=[],nx:=0}) (fun k=>k≤l.length∧x∉l.take k) (fun k=>l.length - k) 0 ?_ ?_ ?_
 ·simp
 ·exact aN rfl (by(refine⟨.eq rfl rfl,?_⟩;(iterate 3 refine⟨.eq rfl rfl,?_⟩);exact trivial)) (by(exact trivial)) rfl
 rintro k ⟨hk,gB⟩
 (refine yz ?_;(focus ((with_reducible apply AW.lf);exact rfl;exact rfl;all_goals intro lC));refine oc ?_;refine zo ?_;refine AW.block ?_;refine mc ?_;refine iw ?_;(iterate 3 refine zm ?_);(focus ((with_reducible apply aa.ak);(iterate 7 exact rfl);rotate_left;omega));refine zr ?_;refine aa.eql rfl rfl rfl rfl rfl ?_;refine zd ?_;(focus ((with_reducible apply AW.lf);exact rfl;exact rfl;all_goals intro lC));refine mc ?_;refine lP ?_;(all_goals skip);rotate_left;refine lN ?_;refine mR ?_;(all_goals skip);rotate_left;refine vj ?_;refine fV ?_;refine e_ ?_;(all_goals skip);rotate_left)
 ·exact az (.one (.tmp rfl rfl)) (.aw (A2 (l:=l) (by omega) lC.symm gB))
 ·exact⟨k+1,⟨by omega,CP (l:=l) gB (by omega) (Ne.symm lC)⟩,by omega,aN rfl (by(refine⟨.eq rfl rfl,?_⟩;(iterate 3 refine⟨.eq rfl rfl,?_⟩);exact trivial)) (by(exact trivial)) rfl⟩
 ·exact az (.one (.tmp rfl rfl)) (.aw (by rw[cz (l:=l) (by omega)] at gB;rw[rM,if_neg gB]))
theorem yN (l:List Int) (x:Int):decide (0≤rM l x)=decide (x∈l):=by
 unfold rM
 by_cases h:x∈l
 ·rw[if_pos h];simp [h]
 ·rw[if_neg h];simp [h]
theorem ia (l:List Int) (x:Int):Fn Try.prog 33 [.pv (ints l),aw x] (aM (decide (x∈l))):=by
 refine Fn.enter (n:=9) Try.func33 rfl rfl rfl rfl rfl (by decide) fun g aY aW=>?_;(try refine nz ?_)
 (refine zq ?_;refine iw ?_;(iterate 2 refine zm ?_);refine aa.call (AG _ _) (.cons rfl (.pv _) (.cons rfl (.pv _) .nil)) rfl rfl (fun h_=>by cases h_) ?_;refine z8 ?_)
 (apply az;(exact bD.one (.tmp rfl rfl));(refine Le.aM ?_;(exact yN l x)))
end Go.Ab
/- Chapter 20:unitprop's test for contradictory literals. -/
namespace Go.Ab
open Go Go.Proofs
set_option maxRecDepth 20000
set_option maxHeartbeats 4000000
attribute [local irreducible] AW aa bM a8
theorem zx (l:List Int) (hs:Sm l):Fn Try.prog 24 [.pv (ints l)] (aM (b_ l)):=by
 refine Fn.enter (n:=6) Try.func24 rfl rfl rfl rfl rfl (by decide) fun g aY aW=>?_;(try refine nz ?_)
 refine AW.d_ 0 rfl fun hlen=>?_
 (refine zq ?_;refine Db ?_;refine fV ?_;refine zb ?_;refine aa.gQ rfl rfl rfl ?_;(with_reducible apply aa.inline (hf:=Try.func53));(with_reducible assumption);(iterate 10 exact rfl);intro g_ aY aW;refine np ?_;refine zm ?_;refine aa.eI rfl rfl rfl ?_;(with_reducible apply aa.inline (hf:=Try.func69));(with_reducible assumption);(iterate 10 exact rfl);intro g_ aY aW;refine nz ?_;refine nM ?_;refine zm ?_;refine iv ?_)
 refine AW.loop (fun(k:Nat)=>{n:=19,env:=[(0,.pv (ints l)),(1,.clo (.func 54) [] [.ptr 0 0]),(7,aw l.length),(8,aw k)],objs:=[(0,some (.box [.pv (ints l)]))],nx:=1}) (fun k=>k≤l.length∧(∀x∈l.take k,(0 - x)∉l)) (fun k=>l.length - k) 0 ?_ ?_ ?_
 ·simp
 ·exact aN rfl (by(refine⟨.eq rfl rfl,?_⟩;(iterate 3 refine⟨.eq rfl rfl,?_⟩);exact trivial)) (by(refine⟨.box _ rfl ?_,?_⟩;refine⟨.eq rfl rfl,?_⟩;(iterate 2 exact trivial))) rfl
 rintro k ⟨hk,gB⟩
 by_cases aP:k<l.length
 ·have hx:=hs _ (List.getElem_mem aP)
  (refine tb ?_;(focus ((with_reducible apply aa.ak);(iterate 7 exact rfl);rotate_left;omega));refine zr ?_;(with_reducible apply aa.inline (hf:=Try.func54));(with_reducible assumption);(iterate 10 exact rfl);intro g_ aY aW;refine np ?_;refine cJ ?_;refine aa.neg rfl rfl rfl (by omega) ?_;refine aa.call (ia _ _) (.cons rfl (.pv _) (.cons rfl (.pv _) .nil)) rfl rfl (fun h_=>by cases h_) ?_;refine e_ ?_;refine oO ?_;refine zd ?_;(focus ((with_reducible apply AW.lf);exact rfl;exact rfl;all_goals intro lC));refine lZ ?_;refine lP ?_;refine oO ?_;refine z8 ?_;refine oO ?_;refine e_ ?_;(all_goals skip);rotate_left;refine lN ?_;refine vg ?_;(all_goals skip);rotate_left)
  ·(apply az;(exact bD.one (.tmp rfl rfl));(refine Le.aM ?_;(rw[tN aP (by rw[Int.zero_sub];exact lC)];simp)))
  ·exact⟨k+1,⟨by omega,by rw[bd aP];intro x hx;rcases List.mem_append.1 hx with h|h;exact gB x h;simp only[List.mem_singleton] at h;subst h;rw[Int.zero_sub];exact lC⟩,by omega,aN rfl (by(exact DW)) (by(refine⟨.box _ rfl ?_,?_⟩;refine⟨.eq rfl rfl,?_⟩;(iterate 2 exact trivial))) rfl⟩
 ·(refine ng ?_;refine e_ ?_;refine oO ?_;refine z8 ?_;refine oO ?_;refine e_ ?_)
  have hf:b_ l=false:=by rw[cz (l:=l) (by omega)] at gB;unfold b_;rw[List.any_eq_false];simpa using gB
  (apply az;(exact bD.one (.tmp rfl rfl));(refine Le.aM ?_;(rw[hf];rfl)))
end Go.Ab
/- Chapter 20:unitprop's run,the plain part:what open and active compute,beside the reference's step. -/
namespace Go.Ab
open Go Go.Proofs
set_option maxRecDepth 20000
set_option maxHeartbeats 4000000
def bw (tr:List Int):List Int→List Int→Option (List Int)
 |[],out=>some out
 |x::c,out=>if x∈tr then none else bw tr c (if (-x)∉tr∧x∉out then out++ [x] else out)
theorem qM (tr c:List Int) (k:Nat) (out:List Int) (h:k<c.length):bw tr (c.drop k) out=
  if c[k]∈tr then none else bw tr (c.drop (k+1)) (if (-c[k])∉tr∧c[k]∉out then out++ [c[k]] else out):=by
 rw[List.drop_eq_getElem_cons h];rfl
theorem s8 (tr:List Int):∀(c out r:List Int),bw tr c out=some r→∃s,r=out++s:=by
 intro c
 induction c with
 |nil=>intro out r h;simp only[bw,Option.some.injEq] at h;exact⟨[],by simp [h]⟩
 |cons x c ih=>
  intro out r h
  unfold bw at h
  split at h
  ·cases h
  ·obtain⟨s,hs⟩:=ih _ _ h
   split at hs
   ·exact⟨x::s,by simpa using hs⟩
   ·exact⟨s,hs⟩
def mC:Option (List Int)→Int×Int
 |none=>(0,0)
 |some []=>(1,0)
 |some [x]=>(2,x)
 |some _=>(0,0)
theorem yC {tr c out:List Int} (h:2≤out.length):mC (bw tr c out)=(0,0):=by
 cases hc:bw tr c out with
 |none=>rfl
 |some r=>
  obtain⟨s,rfl⟩:=s8 tr c out r hc
  match out,h with
  |a::b::out,_=>rfl
theorem tV (tr:List Int):∀(c:List Int),(∀x∈c,x≠0)→
  (cE tr c 0=mC (bw tr c []))∧∀l,l≠0→cE tr c l=mC (bw tr c [l]):=by
 intro c
 induction c with
 |nil=>intro _;exact⟨rfl,fun l hl=>by simp [cE,bw,mC,hl]⟩
 |cons x c ih=>
  intro h
  have hx:x≠0:=h x (by simp)
  obtain⟨i1,i2⟩:=ih fun y hy=>h y (by simp [hy])
  have e:(0:Int) - x= -x:=by omega
  refine⟨?_,fun l hl=>?_⟩
  ·unfold cE bw
   by_cases h1:x∈tr
   ·simp [h1,mC]
   ·by_cases h2:(-x)∈tr
    ·simp [h1,h2,e,i1]
    ·simp only[h1,h2,e,false_or,not_false_eq_true,true_and,ne_eq,not_true_eq_false,false_and,and_false,if_false,List.not_mem_nil,if_true,List.nil_append]
     exact i2 x hx
  ·unfold cE bw
   by_cases h1:x∈tr
   ·simp [h1,mC]
   ·by_cases h2:(-x)∈tr
    ·simp only[h1,h2,e,false_or,not_true_eq_false,false_and,if_false,if_true]
     exact i2 l hl
    ·by_cases h3:l=x
     ·subst h3
      simp only[h1,h2,e,false_or,not_false_eq_true,true_and,ne_eq,not_true_eq_false,and_false,if_false,List.mem_singleton]
      exact i2 l hl
     ·rw[if_pos (.inr ⟨by rw[e];exact h2,hl,h3⟩),if_neg h1,if_pos ⟨h2,by simp;exact fun e=>h3 e.symm⟩]
      exact(yC (by simp)).symm
theorem jA (c tr:List Int) (h:∀x∈c,x≠0):cy c tr=mC (bw tr c []):=(tV tr c h).1
theorem mB (tr:List Int):∀(c out r:List Int),bw tr c out=some r→(∀y∈out,y∉tr∧(-y)∉tr)→∀y∈r,(y∈out∨y∈c)∧y∉tr∧(-y)∉tr:=by
 intro c
 induction c with
 |nil=>intro out r h ho y hy;simp only[bw,Option.some.injEq] at h;subst h;exact⟨.inl hy,ho y hy⟩
 |cons x c ih=>
  intro out r h ho y hy
  unfold bw at h
  split at h
  ·cases h
  ·rename_i hx
   split at h
   ·rename_i h2
    have:=ih _ _ h (by intro z hz;rcases List.mem_append.1 hz with hz|hz;exact ho z hz;simp at hz;subst hz;exact⟨hx,h2.1⟩) y hy
    refine⟨?_,this.2⟩
    rcases this.1 with h3|h3
    ·rcases List.mem_append.1 h3 with h3|h3
     ·exact .inl h3
     ·simp at h3;subst h3;exact .inr (by simp)
    ·exact .inr (by simp [h3])
   ·have:=ih _ _ h ho y hy
    exact⟨this.1.imp id (fun h=>by simp [h]),this.2⟩
def kN (vars:Int) (l:List Int):Prop:=(l.map Int.natAbs).Nodup∧∀x∈l,x≠0∧x≤vars∧ -vars≤x
theorem BR:∀(n:Nat) {l:List Nat},l.Nodup→(∀x∈l,1≤x∧x≤n)→l.length≤n:=by
 intro n
 induction n with
 |zero=>intro l _ h;cases l with|nil=>simp|cons x l=>have:=h x (by simp);omega
 |succ n ih=>
  intro l hn h
  have h1:=ih (l:=l.erase (n+1)) (hn.erase _) (fun x hx=>by
   have h2:=h x (List.mem_of_mem_erase hx)
   have h3:x≠n+1:=fun e=>by subst e;exact(List.Nodup.not_mem_erase hn) hx
   omega)
  have:=List.length_erase (a:=n+1) (l:=l)
  split at this<;>omega
theorem kN.len {vars:Int} {l:List Int} (h:kN vars l):(l.length:Int)≤max vars 0:=by
 have:=BR vars.toNat h.1 (fun x hx=>by
  obtain⟨y,hy,rfl⟩:=List.mem_map.1 hx
  have:=h.2 y hy
  omega)
 simp at this;omega
theorem kN.add {vars:Int} {l:List Int} (h:kN vars l) {x:Int} (hx:x≠0∧x≤vars∧ -vars≤x) (h1:x∉l) (h2:(-x)∉l):kN vars (l++ [x]):=by
 refine⟨?_,fun y hy=>?_⟩
 ·rw[List.map_append,List.nodup_append]
  refine⟨h.1,by simp,?_⟩
  intro a ha b hb e
  simp at hb;subst hb;subst e
  obtain⟨y,hy,he⟩:=List.mem_map.1 ha
  have:y=x∨y= -x:=by omega
  rcases this with rfl|rfl
  ·exact h1 hy
  ·exact h2 hy
 ·rcases List.mem_append.1 hy with hy|hy
  ·exact h.2 y hy
  ·simp at hy;subst hy;exact hx
theorem aT {vars:Int} {l:List Int} (h:ay vars l=true):∀x∈l,x≠0∧x≤vars∧ -vars≤x:=by
 intro x hx
 have:=List.all_eq_true.1 h x hx
 simp at this
 omega
theorem lD (assume:List Int):(∀x,x∈(cD assume).1↔x∈assume):=by
 have:∀(l:List Int) (t:Tr) (x:Int),x∈(l.foldl gE t).1↔x∈t.1∨x∈l:=by
  intro l
  induction l with
  |nil=>intro t x;simp
  |cons y l ih=>
   intro t x
   rw[List.foldl_cons,ih,List.mem_cons]
   unfold gE
   split
   ·rename_i h
    constructor
    ·rintro(h1|h1);exact .inl h1;exact .inr (.inr h1)
    ·rintro(h1|rfl|h1);exact .inl h1;exact .inl h;exact .inr h1
   ·simp only[List.mem_append,List.mem_singleton]
    rw[or_assoc]
 intro x
 have:=this assume ([],[],-1) x
 simpa [cD] using this
theorem ur {vars:Int} {assume:List Int} (h:ay vars assume=true) (hc:b_ assume=false):kN vars (cD assume).1:=by
 have key:∀(l:List Int) (t:Tr),(∀x∈t.1,x∈assume)→(∀x∈l,x∈assume)→kN vars t.1→kN vars (l.foldl gE t).1:=by
  intro l
  induction l with
  |nil=>intro t _ _ h;exact h
  |cons y l ih=>
   intro t h1 h2 h3
   rw[List.foldl_cons]
   have hy:=h2 y (by simp)
   refine ih _ ?_ (fun x hx=>h2 x (by simp [hx])) ?_
   ·intro x hx
    unfold gE at hx
    split at hx
    ·exact h1 x hx
    ·rcases List.mem_append.1 hx with hx|hx
     ·exact h1 x hx
     ·simp at hx;subst hx;exact hy
   ·unfold gE
    split
    ·exact h3
    ·rename_i hn
     refine h3.add (aT h y hy) hn (fun hm=>?_)
     unfold b_ at hc
     rw[List.any_eq_false] at hc
     have:=hc y hy
     simp at this
     exact this (h1 _ hm)
 exact key assume _ (by simp) (fun x hx=>hx) ⟨by simp,by simp⟩
structure qB (vars:Int) (cl:List (List Int)) (assume:List Int) (t:Tr) (n:Nat):Prop where
 dist:kN vars t.1
 even:kL t
 vZ:t.2.2= -1
 le:n≤t.1.length
 eq:runM vars cl assume=ku cl (vars+1 - n).toNat t
theorem p7 {vars:Int} {cl:List (List Int)} {assume:List Int} (_hv:0≤vars) (h:ay vars assume=true) (hc:b_ assume=false):qB vars cl assume (cD assume) 0:=by
 refine⟨ur h hc,wD _,?_,Nat.zero_le _,?_⟩
 ·have:∀(l:List Int) (t:Tr),(l.foldl gE t).2.2=t.2.2:=by
   intro l
   induction l with
   |nil=>intro t;rfl
   |cons y l ih=>intro t;rw[List.foldl_cons,ih];unfold gE;split<;>rfl
  exact this assume _
 ·simp [runM]
theorem qB.fuel {vars:Int} {cl:List (List Int)} {assume:List Int} {t:Tr} {n:Nat} (hv:0≤vars) (h:qB vars cl assume t n):(vars+1 - (n:Int)).toNat=(vars+1 - ((n+1:Nat):Int)).toNat+1:=by
 have:=h.dist.len
 have:=h.le
 omega
theorem qB.stop {vars:Int} {cl:List (List Int)} {assume:List Int} {t t':Tr} {n:Nat} (hv:0≤vars) (h:qB vars cl assume t n) (hs:fj cl t=(t',false)):runM vars cl assume=t':=by
 rw[h.eq,h.fuel hv,ku,hs];rfl
theorem qB.go {vars:Int} {cl:List (List Int)} {assume:List Int} {t:Tr} {n:Nat} (hv:0≤vars) (h:qB vars cl assume t n) {x r:Int} (hs:fj cl t=((t.1++ [x],t.2.1++ [r],t.2.2),true))
  (hx:x≠0∧x≤vars∧ -vars≤x) (h1:x∉t.1) (h2:(-x)∉t.1):qB vars cl assume (t.1++ [x],t.2.1++ [r],-1) (n+1):=by
 refine⟨h.dist.add hx h1 h2,?_,rfl,?_,?_⟩
 ·have:t.2.1.length=t.1.length:=h.even
  show(t.2.1++ [r]).length=(t.1++ [x]).length
  simp [this]
 ·have:=h.le;simp;exact this
 ·rw[h.eq,h.fuel hv,ku,hs]
  show ku cl _ (t.1++ [x],t.2.1++ [r],t.2.2)=_
  rw[h.vZ]
end Go.Ab
/- Chapter 20:unitprop's run,walked. -/
namespace Go.Ab
open Go Go.Proofs
set_option maxRecDepth 20000
set_option maxHeartbeats 4000000
attribute [local irreducible] AW aa bM a8 bm nA bs
theorem EY (vars:Int) (cl:List (List Int)) (assume:List Int) (dO:∀c∈cl,ay vars c=true∧c.length≤100000) (h3:cl.length≤1000000) (hv:0≤vars∧vars≤100000) (ha:assume.length≤100000) (hw:ay vars assume=true) (hc:b_ assume=false):
  Fn Try.prog 25 [Dg vars cl,.pv (ints assume)] (.rptr [.lit (.int .i64 vars),dy cl,ints (runM vars cl assume).1,ints (runM vars cl assume).2.1,.any,.lit (.int .i64 (runM vars cl assume).2.2)]):=by
 refine Fn.enter (n:=46) Try.func25 rfl rfl rfl rfl rfl (by decide) fun g aY aW=>?_;(try refine nz ?_)
 (refine zq ?_;refine Db ?_;refine fV ?_;refine oy ?_;refine aa.Dv (t:=57) rfl ?_;refine nz ?_;refine aa.sb 59 [0,4,5] rfl rfl rfl rfl rfl rfl rfl rfl rfl ?_;refine nz ?_;refine aa.box rfl rfl rfl rfl ?_;refine nz ?_;refine sZ ?_;refine xO ?_;refine zd ?_;refine im ?_;refine iv ?_)
 refine AW.d_ 1 rfl fun hlen=>?_
 refine AW.loop (fun(k:Nat)=>{n:=46,env:=[(5,.ptr 3 0),(14,.pv (ints assume)),(15,aw assume.length),(16,aw k)],objs:=[(1,some (.mp (dY (gb (cD (assume.take k)).1)))),(2,some (.box [aw vars,.pv (dy cl),.own 4 3 1 ((cD (assume.take k)).1.map encI),.own 5 3 1 ((cD (assume.take k)).2.1.map encI),.mapr 1,aw (-1)])),(3,some (.box [.ptr 2 0])),(4,some .row),(5,some .row)],nx:=6})
  (fun k=>k≤assume.length) (fun k=>assume.length - k) 0 ?_ ?_ ?_
 ·simp
 ·exact aN rfl (by(refine⟨.eq rfl rfl,?_⟩;refine⟨.bz (by first|with_reducible rfl|(simp [cD])),?_⟩;(iterate 2 refine⟨.bG (by first|with_reducible rfl|(simp [cD])),?_⟩);exact trivial)) (by(refine⟨WO.J_ rfl,?_⟩;refine⟨.box _ rfl ?_,?_⟩;refine⟨.bG (by first|with_reducible rfl|(simp [cD])),?_⟩;refine⟨.bz (by first|with_reducible rfl|(simp [cD])),?_⟩;(iterate 2 refine⟨.nilown _ _ _ rfl rfl,?_⟩);refine⟨.eq rfl rfl,?_⟩;refine⟨.bG (by first|with_reducible rfl|(simp [cD])),?_⟩;exact trivial;refine⟨.box _ rfl ?_,?_⟩;refine⟨.eq rfl rfl,?_⟩;exact trivial;(iterate 2 refine⟨.newrow rfl,?_⟩);exact trivial)) rfl
 ·rintro k hk
  have hs:=vA (assume.take k)
  have n4:(assume.take k).length≤100000:=by simp;omega
  by_cases aP:k<assume.length
  ·have qF:=u6 aP
   (refine Dc ?_;(focus ((with_reducible apply aa.ak);(iterate 7 exact rfl);rotate_left;omega));refine zr ?_;refine iw ?_;refine zb ?_;refine aa.aJ rfl rfl rfl ?_;refine aa.ah 59 3 4 rfl rfl rfl rfl ?_;refine cJ ?_;refine aa.lF rfl rfl rfl rfl rfl rfl rfl rfl rfl ?_;refine aa.AN rfl rfl rfl ?_;refine zd ?_;(focus ((with_reducible apply AW.lf);exact rfl;exact rfl;all_goals intro lC));refine AW.region ?_;refine nz ?_;refine cJ ?_;(with_reducible apply aa.inline (hf:=Try.func55));(with_reducible assumption);(iterate 10 exact rfl);intro g_ aY aW;refine nz ?_;(all_goals skip);rotate_left;refine lN ?_;refine mR ?_;(all_goals skip);rotate_left)
   ·have xY:assume[k]∉(cD (assume.take k)).1:=lC
    refine AW.sk [0,2,3,4,5,7,8,9,10,11,14,15,16,17,18] [23,26,27,29] rfl (by assumption) (by kernel_rfl) rfl ?_
    show aa .held _ _ _ [_,_,_,_,_,_,_,_,_,_,_,_,_,_,_] _ _
    (refine Kf ?_)
    intro k_ cI
    (try refine nz ?_)
    refine AR.free 1 (by kernel_rfl) rfl rfl rfl (by first|exact bh.a7 rfl rfl|exact bh.cK rfl rfl|exact bh.nilCheck rfl rfl) ?_
    refine AR.free 6 (by kernel_rfl) rfl rfl rfl (by first|exact bh.a7 rfl rfl|exact bh.cK rfl rfl|exact bh.nilCheck rfl rfl) ?_
    refine AR.kY (i:=12) (j:=19) rfl (by kernel_rfl) rfl rfl ?_ ?_<;>intro g_ ag bq<;>(refine oQ ?_;refine Q4 ?_)
    ·refine AR.kY (i:=13) (j:=19) rfl (by kernel_rfl) rfl rfl ?_ ?_<;>intro g_ ag bq<;>(first|((with_reducible apply aa.aZ);exact rfl;(first|exact .pv rfl|exact .own rfl|exact .nil rfl);(iterate 9 exact rfl);(first|omega|(simp only[List.length_map,List.length_append,List.length_cons,List.length_nil,List.length_drop,List.length_take,List.length_set,List.length_range,aE];omega));refine fG ?_)|(refine oQ ?_;refine Q4 ?_))
     ·refine AR.bQ (i:=19) rfl (by kernel_rfl) rfl ?_
      intro g_ ag bq
      (refine oQ ?_;refine Q4 ?_)
      refine AR.bQ (i:=20) rfl (by kernel_rfl) rfl ?_
      intro g_ ag bq
      ((with_reducible apply aa.aZ);exact rfl;(first|exact .pv rfl|exact .own rfl|exact .nil rfl);(iterate 9 exact rfl);(first|omega|(simp only[List.length_map,List.length_append,List.length_cons,List.length_nil,List.length_drop,List.length_take,List.length_set,List.length_range,aE];omega));refine fG ?_)
      refine AR.bQ (i:=21) rfl (by kernel_rfl) rfl ?_
      intro g_ ag bq
      (refine nD ?_)
      refine AR.bQ (i:=22) rfl (by kernel_rfl) rfl ?_
      intro g_ ag bq
      (refine yX ?_)
      refine yv ?_
      intro g_ ag aH
      (refine nj ?_)
      refine AR.bQ (i:=24) rfl (by kernel_rfl) rfl ?_
      intro g_ ag bq
      (refine nD ?_)
      refine AR.bQ (i:=25) rfl (by kernel_rfl) rfl ?_
      intro g_ ag bq
      (refine yo ?_)
      refine zS ?_
      intro g_ ag aH
      (refine nj ?_)
      refine yW ?_
      intro g_ ag aH
      (refine Aj ?_)
      refine AR.bQ (i:=28) rfl (by kernel_rfl) rfl ?_
      intro g_ ag bq
      (refine zu ?_)
      refine y6 ?_
      intro g_ ag aH
      (refine yJ ?_;refine fG ?_)
      refine AR.done (by assumption) (by kernel_rfl) ?_
      (refine ee ?_;refine nz ?_;refine uj ?_)
      rw[gE,if_neg xY] at qF
      exact LI
     ·refine AR.bQ (i:=13) rfl (by kernel_rfl) rfl ?_
      intro g_ ag bq
      ((with_reducible apply aa.aZ);exact rfl;(first|exact .pv rfl|exact .own rfl|exact .nil rfl);(iterate 9 exact rfl);(first|omega|(simp only[List.length_map,List.length_append,List.length_cons,List.length_nil,List.length_drop,List.length_take,List.length_set,List.length_range,aE];omega));refine fG ?_)
      refine AR.bQ (i:=20) rfl (by kernel_rfl) rfl ?_
      intro g_ ag bq
      ((with_reducible apply aa.aZ);exact rfl;(first|exact .pv rfl|exact .own rfl|exact .nil rfl);(iterate 9 exact rfl);(first|omega|(simp only[List.length_map,List.length_append,List.length_cons,List.length_nil,List.length_drop,List.length_take,List.length_set,List.length_range,aE];omega));refine fG ?_)
      refine AR.bQ (i:=21) rfl (by kernel_rfl) rfl ?_
      intro g_ ag bq
      (refine nD ?_)
      refine AR.bQ (i:=22) rfl (by kernel_rfl) rfl ?_
      intro g_ ag bq
      (refine yX ?_)
      refine yv ?_
      intro g_ ag aH
      (refine nj ?_)
      refine AR.bQ (i:=24) rfl (by kernel_rfl) rfl ?_
      intro g_ ag bq
      (refine nD ?_)
      refine AR.bQ (i:=25) rfl (by kernel_rfl) rfl ?_
      intro g_ ag bq
      (refine yo ?_)
      refine zS ?_
      intro g_ ag aH
      (refine nj ?_)
      refine yW ?_
      intro g_ ag aH
      (refine Aj ?_)
      refine AR.bQ (i:=28) rfl (by kernel_rfl) rfl ?_
      intro g_ ag bq
      (refine zu ?_)
      refine y6 ?_
      intro g_ ag aH
      (refine yJ ?_;refine fG ?_)
      refine AR.done (by assumption) (by kernel_rfl) ?_
      (refine ee ?_;refine nz ?_;refine uj ?_)
      rw[gE,if_neg xY] at qF
      exact LI
    ·refine AR.bQ (i:=12) rfl (by kernel_rfl) rfl ?_
     intro g_ ag bq
     (refine oQ ?_;refine Q4 ?_)
     refine AR.bQ (i:=13) rfl (by kernel_rfl) rfl ?_
     intro g_ ag bq
     ((with_reducible apply aa.aZ);exact rfl;(first|exact .pv rfl|exact .own rfl|exact .nil rfl);(iterate 9 exact rfl);(first|omega|(simp only[List.length_map,List.length_append,List.length_cons,List.length_nil,List.length_drop,List.length_take,List.length_set,List.length_range,aE];omega));refine fG ?_)
     refine AR.bQ (i:=20) rfl (by kernel_rfl) rfl ?_
     intro g_ ag bq
     ((with_reducible apply aa.aZ);exact rfl;(first|exact .pv rfl|exact .own rfl|exact .nil rfl);(iterate 9 exact rfl);(first|omega|(simp only[List.length_map,List.length_append,List.length_cons,List.length_nil,List.length_drop,List.length_take,List.length_set,List.length_range,aE];omega));refine fG ?_)
     refine AR.bQ (i:=21) rfl (by kernel_rfl) rfl ?_
     intro g_ ag bq
     (refine nD ?_)
     refine AR.bQ (i:=22) rfl (by kernel_rfl) rfl ?_
     intro g_ ag bq
     (refine yX ?_)
     refine yv ?_
     intro g_ ag aH
     (refine nj ?_)
     refine AR.bQ (i:=24) rfl (by kernel_rfl) rfl ?_
     intro g_ ag bq
     (refine nD ?_)
     refine AR.bQ (i:=25) rfl (by kernel_rfl) rfl ?_
     intro g_ ag bq
     (refine yo ?_)
     refine zS ?_
     intro g_ ag aH
     (refine nj ?_)
     refine yW ?_
     intro g_ ag aH
     (refine Aj ?_)
     refine AR.bQ (i:=28) rfl (by kernel_rfl) rfl ?_
     intro g_ ag bq
     (refine zu ?_)
     refine y6 ?_
     intro g_ ag aH
     (refine yJ ?_;refine fG ?_)
     refine AR.done (by assumption) (by kernel_rfl) ?_
     (refine ee ?_;refine nz ?_;refine uj ?_)
     rw[gE,if_neg xY] at qF
     exact LI
   ·rw[gE,if_pos (Decidable.not_not.1 lC)] at qF
    exact⟨k+1,by omega,by omega,aN rfl (by(refine⟨.eq rfl rfl,?_⟩;refine⟨.bz (by first|with_reducible rfl|(rw[qF])),?_⟩;refine⟨.bG (by first|with_reducible rfl|(rw[qF])),?_⟩;refine⟨.eq rfl rfl,?_⟩;exact trivial)) (by(refine⟨.JC rfl (by rw[qF]),?_⟩;refine⟨.box _ rfl ?_,?_⟩;refine⟨.bG (by first|with_reducible rfl|(rw[qF])),?_⟩;refine⟨.bz (by first|with_reducible rfl|(rw[qF])),?_⟩;(iterate 2 refine⟨.aj (by first|with_reducible rfl|(rw[qF])) rfl,?_⟩);refine⟨.eq rfl rfl,?_⟩;refine⟨.bG (by first|with_reducible rfl|(rw[qF])),?_⟩;exact trivial;refine⟨.box _ rfl ?_,?_⟩;refine⟨.eq rfl rfl,?_⟩;exact trivial;(iterate 2 refine⟨.row rfl,?_⟩);exact trivial)) rfl⟩
  ·have ec:assume.take k=assume:=cz (by omega)
   rw[ec] at hs ⊢
   have aR:=p7 hv.1 hw hc (cl:=cl)
   generalize cD assume=t0 at hs aR ⊢
   (refine zq ?_;refine xB ?_;refine iZ ?_;refine zb ?_;refine aa.wq rfl rfl rfl ?_;refine pT ?_)
   refine AW.vF (ps:=[33,34]) aY aW rfl rfl Try.func56 rfl rfl rfl rfl rfl rfl (by decide) ?_
   intro g2 tm l ps' asg' body' rz JT JZ nW zN
   (refine fV ?_;refine pY ?_)
   refine AW.loop (S:=Tr×Nat×Bool) (fun s=>{n:=48,env:=[(0,.ptr 2 0),(1,.yld 6),(4,aM s.2.2),(1005,.ptr 3 0)],objs:=[(1,some (.mp (dY (gb s.1.1)))),(2,some (.box [aw vars,.pv (dy cl),.own 4 3 1 (s.1.1.map encI),.own 5 3 1 (s.1.2.1.map encI),.mapr 1,aw (-1)])),(3,some (.box [.ptr 2 0])),(4,some .row),(5,some .row),(6,some (.loop l tm ps' asg' body' .ready))],nx:=7})
    (fun s=>qB vars cl assume s.1 s.2.1∧(s.2.2=false→fj cl s.1=(s.1,false))) (fun s=>(vars+1 - (s.2.1:Int)).toNat*2+if s.2.2 then 1 else 0) (t0,0,true) ?_ ?_ ?_
   ·exact⟨aR,fun h=>by cases h⟩
   ·exact M7
   ·rintro⟨t,n,b⟩ ⟨hI,hb⟩
    simp only at hI hb ⊢
    cases b with
    |false=>
     have BH:=hI.stop hv.1 (hb rfl)
     rw[BH,hI.vZ]
     (refine im ?_;refine vx ?_;refine AW.exit ?_;(iterate 2 refine eo ?_);refine cv ?_)
     refine og (.inl rfl) rfl ?_
     (try refine nz ?_)
     repeat (first|with_reducible apply ca|with_reducible apply cw|with_reducible apply cv)
     refine AW.aN (δ':={n:=46,env:=[(5,.ptr 3 0)],objs:=[(3,some (.box [.rptr [.lit (.int .i64 vars),dy cl,ints t.1,ints t.2.1,.any,.lit (.int .i64 (-1))]]))],nx:=7}) (aN rfl (by(first|(exact Hh)|(refine⟨.eq rfl rfl,?_⟩;(iterate 12 refine⟨.eq rfl rfl,?_⟩);exact trivial)|(refine⟨.eq rfl rfl,?_⟩;(iterate 6 refine⟨.eq rfl rfl,?_⟩);exact trivial)|(exact DW)|(exact rP))) (by(first|(refine Es ?_;refine⟨.newrow rfl,?_⟩;exact trivial)|(refine Es ?_;exact vS)|(refine Es ?_;exact trivial)|(refine⟨.box _ rfl ?_,?_⟩;refine⟨.fbox rfl rfl (by repeat (first|exact y9.nil|refine .cons (.any _) ?_|refine .cons (.pv _) ?_|refine .cons (.own rfl rfl) ?_|refine .cons (.nil _) ?_)),?_⟩;(iterate 2 exact trivial)))) rfl) ?_
     (refine zq ?_;refine zb ?_;refine aa.fW rfl rfl rfl ?_;refine zd ?_;refine AW.ret ?_)
     (apply az;(exact bD.one (.tmp rfl rfl));(exact Le.rptr _))
    |true=>
     clear hb
     (refine im ?_;refine rj ?_;refine oc ?_;refine AW.block ?_;refine fV ?_;refine iw ?_;refine jG ?_;refine aa.ah 59 0 0 rfl rfl rfl rfl ?_;refine uV ?_;refine iv ?_)
     refine AW.loop (fun(k:Nat)=>{n:=48,env:=[(0,.ptr 2 0),(1,.yld 6),(4,aM false),(14,.pv (dy cl)),(15,aw cl.length),(16,aw k),(1005,.ptr 3 0)],objs:=[(1,some (.mp (dY (gb t.1)))),(2,some (.box [aw vars,.pv (dy cl),.own 4 3 1 (t.1.map encI),.own 5 3 1 (t.2.1.map encI),.mapr 1,aw (-1)])),(3,some (.box [.ptr 2 0])),(4,some .row),(5,some .row),(6,some (.loop l tm ps' asg' body' .ready))],nx:=7})
      (fun k=>k≤cl.length∧fj cl t=eN t k (cl.drop k)) (fun k=>cl.length - k) 0 ?_ ?_ ?_
     ·exact⟨Nat.zero_le _,rfl⟩
     ·exact M7
     ·rintro k ⟨hk,dp⟩
      by_cases aP:k<cl.length
      ·rw[qC _ _ _ aP] at dp
       obtain⟨Kv,AY⟩:=dO _ (List.getElem_mem aP)
       have La:=aT Kv
       rw[jA _ _ (fun x hx=>(La x hx).1)] at dp
       (refine fF ?_;(focus ((with_reducible apply aa.ak);(iterate 7 exact rfl);rotate_left;omega));refine zr ?_;refine ju ?_;refine fV ?_;refine zp ?_;(with_reducible apply aa.inline (hf:=Try.func70));(with_reducible assumption);(iterate 10 exact rfl);intro g_ aY aW;refine nz ?_;refine zq ?_;refine ju ?_;refine fV ?_;refine jX ?_;refine mc ?_;refine iv ?_)
       refine AW.loop (S:=Nat×List Int) (fun s=>{n:=41,env:=[(0,.ptr 2 0),(6,.own 7 3 1 (s.2.map encI)),(9,.pv (ints (cl[k]'aP))),(10,aw (cl[k]'aP).length),(11,aw s.1),(1000,.ptr 2 0),(1001,.yld 6),(1004,aM false),(1005,aw k),(1014,.pv (dy cl)),(1015,aw cl.length),(1016,aw k),(2005,.ptr 3 0)],objs:=[(1,some (.mp (dY (gb t.1)))),(2,some (.box [aw vars,.pv (dy cl),.own 4 3 1 (t.1.map encI),.own 5 3 1 (t.2.1.map encI),.mapr 1,aw (-1)])),(3,some (.box [.ptr 2 0])),(4,some .row),(5,some .row),(6,some (.loop l tm ps' asg' body' .ready)),(7,some .row)],nx:=8})
        (fun s=>s.1≤(cl[k]'aP).length∧bw t.1 (cl[k]'aP) []=bw t.1 ((cl[k]'aP).drop s.1) s.2∧s.2.length≤s.1) (fun s=>(cl[k]'aP).length - s.1) (0,[]) ?_ ?_ ?_
       ·exact⟨Nat.zero_le _,rfl,Nat.le_refl _⟩
       ·exact M7
       ·rintro⟨j,out⟩ ⟨hj,qw,PA⟩
        simp only at hj qw PA ⊢
        generalize hc0:cl[k]=c at dp Kv AY La hj qw ⊢
        by_cases Dh:j<c.length
        ·have Dt:=La c[j] (List.getElem_mem Dh)
         rw[qM _ _ _ _ Dh] at qw
         (refine Dc ?_;(focus ((with_reducible apply aa.ak);(iterate 7 exact rfl);rotate_left;omega));refine zr ?_;refine jX ?_;refine fV ?_;refine jG ?_;refine aa.ah 59 3 4 rfl rfl rfl rfl ?_;refine cJ ?_;refine aa.lF rfl rfl rfl rfl rfl rfl rfl rfl rfl ?_;refine zd ?_;(focus ((with_reducible apply AW.lf);exact rfl;exact rfl;all_goals intro lC));refine fV ?_;refine ju ?_;refine AW.ret ?_;refine cO ?_;refine Bj ?_;refine tE rfl rfl rfl rfl ?_;refine nz ?_;refine Hw ?_;refine ju ?_;refine iZ ?_;refine zm ?_;refine uI ?_;refine w_ ?_;refine rj ?_;refine Aw ?_;refine mR ?_;(all_goals skip);rotate_left;refine oc ?_;refine fV ?_;refine jG ?_;refine aa.ah 59 3 4 rfl rfl rfl rfl ?_;refine cJ ?_;refine aa.neg rfl rfl rfl (by omega) ?_;refine aa.lF rfl rfl rfl rfl rfl rfl rfl rfl rfl ?_;refine aa.AN rfl rfl rfl ?_;refine zm ?_;(focus ((with_reducible apply aa.H5);(iterate 6 exact rfl);all_goals intro lC));refine aa.bt rfl rfl rfl ?_;refine od ?_;refine aa.call (ia _ _) (.cons rfl (.own _ _ _ _ rfl) (.cons rfl (.pv _) .nil)) rfl rfl (fun h_=>by cases h_) ?_;refine zt ?_;refine aa.AN rfl rfl rfl ?_;refine zT ?_;refine zd ?_;(focus ((with_reducible apply AW.lf);exact rfl;exact rfl;all_goals intro lC));refine AW.region ?_;refine nz ?_;refine qn ?_;refine oQ ?_;(with_reducible apply aa.aZ);exact rfl;(first|exact .pv rfl|exact .own rfl|exact .nil rfl);(iterate 9 exact rfl);(first|omega|(simp only[List.length_map,List.length_append,List.length_cons,List.length_nil,List.length_drop,List.length_take,List.length_set,List.length_range,aE];omega));refine nz ?_;refine qL ?_;refine mR ?_;(all_goals skip);rotate_left;refine lN ?_;refine mR ?_;(all_goals skip);rotate_left;(iterate 3 refine aa.jn rfl rfl rfl rfl rfl rfl (by with_reducible assumption) ?_);refine zF ?_;refine oz ?_;refine mR ?_;(all_goals skip);rotate_left)
         all_goals first
          |(rw[if_pos (by assumption)] at qw
            rw[qw] at dp
            exact⟨k+1,⟨by omega,dp⟩,by omega,aN rfl (by(first|(refine⟨.eq rfl rfl,?_⟩;refine⟨.nilown _ _ _ rfl rfl,?_⟩;(iterate 11 refine⟨.eq rfl rfl,?_⟩);exact trivial)|(refine⟨.eq rfl rfl,?_⟩;(iterate 12 refine⟨.eq rfl rfl,?_⟩);exact trivial)|(refine⟨.eq rfl rfl,?_⟩;(iterate 6 refine⟨.eq rfl rfl,?_⟩);exact trivial)|(refine⟨.eq rfl rfl,?_⟩;(iterate 3 refine⟨.eq rfl rfl,?_⟩);exact trivial)|(refine⟨.eq rfl rfl,?_⟩;exact trivial))) (by(first|(refine⟨.set rfl,?_⟩;refine⟨.box _ rfl ?_,?_⟩;(iterate 6 refine⟨.eq rfl rfl,?_⟩);exact trivial;refine⟨.box _ rfl ?_,?_⟩;refine⟨.eq rfl rfl,?_⟩;exact trivial;(iterate 2 refine⟨.row rfl,?_⟩);refine⟨.loop rfl,?_⟩;refine⟨.newrow rfl,?_⟩;exact trivial)|(refine⟨.set rfl,?_⟩;refine⟨.box _ rfl ?_,?_⟩;(iterate 6 refine⟨.eq rfl rfl,?_⟩);exact trivial;refine⟨.box _ rfl ?_,?_⟩;refine⟨.eq rfl rfl,?_⟩;exact trivial;(iterate 2 refine⟨.row rfl,?_⟩);refine⟨.loop rfl,?_⟩;refine⟨.row rfl,?_⟩;exact trivial)|(refine⟨.set rfl,?_⟩;refine⟨.box _ rfl ?_,?_⟩;(iterate 6 refine⟨.eq rfl rfl,?_⟩);exact trivial;refine⟨.box _ rfl ?_,?_⟩;refine⟨.eq rfl rfl,?_⟩;exact trivial;(iterate 2 refine⟨.row rfl,?_⟩);refine⟨.loop rfl,?_⟩;exact trivial)|(refine⟨.box _ rfl ?_,?_⟩;refine⟨.fbox rfl rfl (by repeat (first|exact y9.nil|refine .cons (.any _) ?_|refine .cons (.pv _) ?_|refine .cons (.own rfl rfl) ?_|refine .cons (.nil _) ?_)),?_⟩;(iterate 2 exact trivial)))) rfl⟩)
          |(rw[if_neg (by assumption)] at qw
            rw[if_neg (show ¬(¬ -c[j]∈t.1∧¬c[j]∈out) from by rintro⟨h1,h2⟩;first|exact lC h2|exact lC h1)] at qw
            exact⟨(j+1,out),⟨by show j+1≤_;omega,qw,by show out.length≤j+1;omega⟩,by show c.length - (j+1)<c.length - j;omega,aN rfl (by(first|(refine⟨.eq rfl rfl,?_⟩;refine⟨.nilown _ _ _ rfl rfl,?_⟩;(iterate 11 refine⟨.eq rfl rfl,?_⟩);exact trivial)|(refine⟨.eq rfl rfl,?_⟩;(iterate 12 refine⟨.eq rfl rfl,?_⟩);exact trivial)|(refine⟨.eq rfl rfl,?_⟩;(iterate 6 refine⟨.eq rfl rfl,?_⟩);exact trivial)|(refine⟨.eq rfl rfl,?_⟩;(iterate 3 refine⟨.eq rfl rfl,?_⟩);exact trivial)|(refine⟨.eq rfl rfl,?_⟩;exact trivial))) (by(first|(refine⟨.set rfl,?_⟩;refine⟨.box _ rfl ?_,?_⟩;(iterate 6 refine⟨.eq rfl rfl,?_⟩);exact trivial;refine⟨.box _ rfl ?_,?_⟩;refine⟨.eq rfl rfl,?_⟩;exact trivial;(iterate 2 refine⟨.row rfl,?_⟩);refine⟨.loop rfl,?_⟩;refine⟨.newrow rfl,?_⟩;exact trivial)|(refine⟨.set rfl,?_⟩;refine⟨.box _ rfl ?_,?_⟩;(iterate 6 refine⟨.eq rfl rfl,?_⟩);exact trivial;refine⟨.box _ rfl ?_,?_⟩;refine⟨.eq rfl rfl,?_⟩;exact trivial;(iterate 2 refine⟨.row rfl,?_⟩);refine⟨.loop rfl,?_⟩;refine⟨.row rfl,?_⟩;exact trivial)|(refine⟨.set rfl,?_⟩;refine⟨.box _ rfl ?_,?_⟩;(iterate 6 refine⟨.eq rfl rfl,?_⟩);exact trivial;refine⟨.box _ rfl ?_,?_⟩;refine⟨.eq rfl rfl,?_⟩;exact trivial;(iterate 2 refine⟨.row rfl,?_⟩);refine⟨.loop rfl,?_⟩;exact trivial)|(refine⟨.box _ rfl ?_,?_⟩;refine⟨.fbox rfl rfl (by repeat (first|exact y9.nil|refine .cons (.any _) ?_|refine .cons (.pv _) ?_|refine .cons (.own rfl rfl) ?_|refine .cons (.nil _) ?_)),?_⟩;(iterate 2 exact trivial)))) rfl⟩)
          |(rw[if_neg (by assumption)] at qw
            rw[if_pos ⟨by assumption,by assumption⟩] at qw
            exact⟨(j+1,out++ [c[j]]),⟨by show j+1≤_;omega,qw,by show(out++ [c[j]]).length≤j+1;simp;omega⟩,by show c.length - (j+1)<c.length - j;omega,aN rfl (by(refine⟨.eq rfl rfl,?_⟩;refine⟨.aj (by first|with_reducible rfl|(first|(rw[List.map_append];rfl)|rfl)) rfl,?_⟩;refine⟨.bz (by first|with_reducible rfl|(first|(rw[List.map_append];rfl)|rfl)),?_⟩;refine⟨.bG (by first|with_reducible rfl|(first|(rw[List.map_append];rfl)|rfl)),?_⟩;refine⟨.bG (by first|with_reducible rfl|(first|(rw[List.map_append];rfl)|rfl)),?_⟩;(iterate 2 refine⟨.eq rfl rfl,?_⟩);refine⟨.eX (by first|with_reducible rfl|(first|(rw[List.map_append];rfl)|rfl)),?_⟩;refine⟨.bG (by first|with_reducible rfl|(first|(rw[List.map_append];rfl)|rfl)),?_⟩;refine⟨.bz (by first|with_reducible rfl|(first|(rw[List.map_append];rfl)|rfl)),?_⟩;refine⟨.bG (by first|with_reducible rfl|(first|(rw[List.map_append];rfl)|rfl)),?_⟩;refine⟨.bG (by first|with_reducible rfl|(first|(rw[List.map_append];rfl)|rfl)),?_⟩;refine⟨.eq rfl rfl,?_⟩;exact trivial)) (by(refine⟨.set rfl,?_⟩;refine⟨.box _ rfl ?_,?_⟩;refine⟨.bG (by first|with_reducible rfl|(first|(rw[List.map_append];rfl)|rfl)),?_⟩;refine⟨.bz (by first|with_reducible rfl|(first|(rw[List.map_append];rfl)|rfl)),?_⟩;refine⟨.aj (by first|with_reducible rfl|(first|(rw[List.map_append];rfl)|rfl)) rfl,?_⟩;refine⟨.aj (by first|with_reducible rfl|(first|(rw[List.map_append];rfl)|rfl)) rfl,?_⟩;refine⟨.eq rfl rfl,?_⟩;refine⟨.bG (by first|with_reducible rfl|(first|(rw[List.map_append];rfl)|rfl)),?_⟩;exact trivial;refine⟨.box _ rfl ?_,?_⟩;refine⟨.eq rfl rfl,?_⟩;exact trivial;(iterate 2 refine⟨.row rfl,?_⟩);refine⟨.loop rfl,?_⟩;refine⟨.row rfl,?_⟩;exact trivial)) rfl⟩)
        ·rw[List.drop_eq_nil_of_le (by omega)] at qw
         have I9:bw t.1 c []=some out:=qw
         rw[I9] at dp
         have pX:=mB t.1 c [] out I9 (by simp)
         have Ck:tm.size=46:=zN
         rcases out with _|⟨x,_|⟨y,out⟩⟩
         ·have e0:([]:List Int).length=0:=rfl
          have vX:fj cl t=((t.1,t.2.1,(k:Int)),false):=dp
          have BH:=hI.stop hv.1 vX
          rw[BH]
          clear dp
          (refine G4 ?_;refine vx ?_;refine oc ?_;refine iZ ?_;refine Bn ?_;refine aa.eql rfl rfl rfl rfl rfl ?_;refine kQ ?_;refine aa.move rfl rfl rfl ?_;refine nz ?_;refine zm ?_;(with_reducible apply aa.A5 rz JT JZ nW Ck);(iterate 8 exact rfl);intro g3 KR aW;(try refine nz ?_);refine zq ?_;refine eD ?_;refine AW.region ?_;refine nz ?_;refine eD ?_;refine And.intro (show jM _ _ _ _ from⟨_,_,_,_,rfl⟩) ?_;(try refine nz ?_);refine AW.block ?_;refine im ?_;refine aa.eql rfl rfl rfl rfl rfl ?_;refine kQ ?_;refine I2 ?_;(with_reducible apply lV);exact⟨_,_,_,_,rfl⟩;refine nz ?_;refine zd ?_;refine AW.ret ?_;refine tB ?_;(iterate 2 refine cO ?_);(iterate 2 refine de ?_);refine tB ?_)
          refine pS (.inr rfl) rfl ?_
          (try refine nz ?_)
          repeat (first|with_reducible apply ca|with_reducible apply cw|with_reducible apply cv)
          refine AW.aN (δ':={n:=46,env:=[(5,.ptr 3 0)],objs:=[(3,some (.box [.rptr [.lit (.int .i64 vars),dy cl,ints t.1,ints t.2.1,.any,.lit (.int .i64 k)]]))],nx:=7}) (aN rfl (by(first|(exact Hh)|(refine⟨.eq rfl rfl,?_⟩;(iterate 12 refine⟨.eq rfl rfl,?_⟩);exact trivial)|(refine⟨.eq rfl rfl,?_⟩;(iterate 6 refine⟨.eq rfl rfl,?_⟩);exact trivial)|(exact DW)|(exact rP))) (by(first|(refine Es ?_;refine⟨.newrow rfl,?_⟩;exact trivial)|(refine Es ?_;exact vS)|(refine Es ?_;exact trivial)|(refine⟨.box _ rfl ?_,?_⟩;refine⟨.fbox rfl rfl (by repeat (first|exact y9.nil|refine .cons (.any _) ?_|refine .cons (.pv _) ?_|refine .cons (.own rfl rfl) ?_|refine .cons (.nil _) ?_)),?_⟩;(iterate 2 exact trivial)))) rfl) ?_
          (refine zq ?_;refine zb ?_;refine aa.fW rfl rfl rfl ?_;refine zd ?_;refine AW.ret ?_)
          (apply az;(exact bD.one (.tmp rfl rfl));(exact Le.rptr _))
         ·have e0:([x]:List Int).length=1:=rfl
          have vX:fj cl t=((t.1++ [x],t.2.1++ [(k:Int)],t.2.2),true):=dp
          have hx1:=pX x (by simp)
          have hx2:=La x (by simpa using hx1.1)
          have L2:=hI.go hv.1 vX hx2 hx1.2.1 hx1.2.2
          clear dp
          (refine G4 ?_;refine vx ?_;refine oc ?_;refine iZ ?_;refine Bn ?_;refine aa.eql rfl rfl rfl rfl rfl ?_;refine vx ?_;refine oc ?_;refine iZ ?_;refine aa.move rfl rfl rfl ?_;refine nz ?_;refine zm ?_;refine aa.bt rfl rfl rfl ?_;refine mD ?_;(focus ((with_reducible apply aa.aC);(iterate 4 exact rfl);exact(fun h_=>by cases h_);rotate_left;(first|omega|exact Nat.zero_lt_one|(simp;done))));(with_reducible apply aa.A5 rz JT JZ nW Ck);(iterate 8 exact rfl);intro g3 KR aW;(try refine nz ?_);refine zq ?_;refine eD ?_;refine AW.region ?_;refine nz ?_;refine eD ?_;refine And.intro (show jM _ _ _ _ from⟨_,_,_,_,rfl⟩) ?_;(try refine nz ?_);refine AW.block ?_;refine im ?_;refine aa.eql rfl rfl rfl rfl rfl ?_;refine zd ?_;(focus ((with_reducible apply AW.lf);exact rfl;exact rfl;all_goals intro lC));refine fV ?_;refine I2 ?_;(with_reducible apply lV);exact⟨_,_,_,_,rfl⟩;refine nz ?_;refine aa.not rfl rfl rfl ?_;refine rj ?_;refine AW.ret ?_;refine tB ?_;(iterate 2 refine cO ?_);(iterate 2 refine de ?_);refine tB ?_;(all_goals skip);rotate_left;refine oc ?_;refine AW.region ?_;refine nz ?_;refine zb ?_;(iterate 2 refine zm ?_);(with_reducible apply aa.inline (hf:=Try.func55));(with_reducible assumption);(iterate 10 exact rfl);intro g_ aY aW;refine nz ?_;(all_goals skip);rotate_left)
          ·exact absurd (show x=0 from lC) hx2.1
          ·have xY:([x][Int.toNat 0]'Nat.one_pos)∉t.1:=hx1.2.1
           have hl1:t.1.length≤100000:=by have:=hI.dist.len;omega
           have hl2:t.2.1.length≤100000:=by have h9:t.2.1.length=t.1.length:=hI.even;omega
           refine AW.sk [0,2,3,4,5,7,8,9,10,11,14,15,16,17,18] [23,26,27,29] rfl (by assumption) (by kernel_rfl) rfl ?_
           show aa .held _ _ _ [_,_,_,_,_,_,_,_,_,_,_,_,_,_,_] _ _
           (refine Kf ?_)
           intro k_ cI
           (try refine nz ?_)
           refine AR.free 1 (by kernel_rfl) rfl rfl rfl (by first|exact bh.a7 rfl rfl|exact bh.cK rfl rfl|exact bh.nilCheck rfl rfl) ?_
           refine AR.free 6 (by kernel_rfl) rfl rfl rfl (by first|exact bh.a7 rfl rfl|exact bh.cK rfl rfl|exact bh.nilCheck rfl rfl) ?_
           refine AR.kY (i:=12) (j:=19) rfl (by kernel_rfl) rfl rfl ?_ ?_<;>intro g_ ag bq<;>(refine oQ ?_;refine Q4 ?_)
           ·refine AR.kY (i:=13) (j:=19) rfl (by kernel_rfl) rfl rfl ?_ ?_<;>intro g_ ag bq<;>(first|((with_reducible apply aa.aZ);exact rfl;(first|exact .pv rfl|exact .own rfl|exact .nil rfl);(iterate 9 exact rfl);(first|omega|(simp only[List.length_map,List.length_append,List.length_cons,List.length_nil,List.length_drop,List.length_take,List.length_set,List.length_range,aE];omega));refine fG ?_)|(refine oQ ?_;refine Q4 ?_))
            ·refine AR.bQ (i:=19) rfl (by kernel_rfl) rfl ?_
             intro g_ ag bq
             (refine oQ ?_;refine Q4 ?_)
             refine AR.bQ (i:=20) rfl (by kernel_rfl) rfl ?_
             intro g_ ag bq
             ((with_reducible apply aa.aZ);exact rfl;(first|exact .pv rfl|exact .own rfl|exact .nil rfl);(iterate 9 exact rfl);(first|omega|(simp only[List.length_map,List.length_append,List.length_cons,List.length_nil,List.length_drop,List.length_take,List.length_set,List.length_range,aE];omega));refine fG ?_)
             refine AR.bQ (i:=21) rfl (by kernel_rfl) rfl ?_
             intro g_ ag bq
             (refine nD ?_)
             refine AR.bQ (i:=22) rfl (by kernel_rfl) rfl ?_
             intro g_ ag bq
             (refine yX ?_)
             refine yv ?_
             intro g_ ag aH
             (refine nj ?_)
             refine AR.bQ (i:=24) rfl (by kernel_rfl) rfl ?_
             intro g_ ag bq
             (refine nD ?_)
             refine AR.bQ (i:=25) rfl (by kernel_rfl) rfl ?_
             intro g_ ag bq
             (refine yo ?_)
             refine zS ?_
             intro g_ ag aH
             (refine nj ?_)
             refine yW ?_
             intro g_ ag aH
             (refine Aj ?_)
             refine AR.bQ (i:=28) rfl (by kernel_rfl) rfl ?_
             intro g_ ag bq
             (refine zu ?_)
             refine y6 ?_
             intro g_ ag aH
             (refine yJ ?_;refine fG ?_)
             refine AR.done (by assumption) (by kernel_rfl) ?_
             (refine ee ?_;refine nz ?_;refine aa.nil ?_;refine ca ?_;(with_reducible apply jB);exact⟨_,_,_,_,rfl⟩;refine nz ?_;refine HQ ?_)
             exact⟨((t.1++ [x],t.2.1++ [(k:Int)],-1),n+1,true),⟨L2,fun h=>by cases h⟩,by have:=hI.fuel hv.1;show(vars+1 - ((n+1:Nat):Int)).toNat*2+1<(vars+1 - (n:Int)).toNat*2+1;omega,aN rfl (by(exact Gc)) (by(exact Nd)) rfl⟩
            ·refine AR.bQ (i:=13) rfl (by kernel_rfl) rfl ?_
             intro g_ ag bq
             ((with_reducible apply aa.aZ);exact rfl;(first|exact .pv rfl|exact .own rfl|exact .nil rfl);(iterate 9 exact rfl);(first|omega|(simp only[List.length_map,List.length_append,List.length_cons,List.length_nil,List.length_drop,List.length_take,List.length_set,List.length_range,aE];omega));refine fG ?_)
             refine AR.bQ (i:=20) rfl (by kernel_rfl) rfl ?_
             intro g_ ag bq
             ((with_reducible apply aa.aZ);exact rfl;(first|exact .pv rfl|exact .own rfl|exact .nil rfl);(iterate 9 exact rfl);(first|omega|(simp only[List.length_map,List.length_append,List.length_cons,List.length_nil,List.length_drop,List.length_take,List.length_set,List.length_range,aE];omega));refine fG ?_)
             refine AR.bQ (i:=21) rfl (by kernel_rfl) rfl ?_
             intro g_ ag bq
             (refine nD ?_)
             refine AR.bQ (i:=22) rfl (by kernel_rfl) rfl ?_
             intro g_ ag bq
             (refine yX ?_)
             refine yv ?_
             intro g_ ag aH
             (refine nj ?_)
             refine AR.bQ (i:=24) rfl (by kernel_rfl) rfl ?_
             intro g_ ag bq
             (refine nD ?_)
             refine AR.bQ (i:=25) rfl (by kernel_rfl) rfl ?_
             intro g_ ag bq
             (refine yo ?_)
             refine zS ?_
             intro g_ ag aH
             (refine nj ?_)
             refine yW ?_
             intro g_ ag aH
             (refine Aj ?_)
             refine AR.bQ (i:=28) rfl (by kernel_rfl) rfl ?_
             intro g_ ag bq
             (refine zu ?_)
             refine y6 ?_
             intro g_ ag aH
             (refine yJ ?_;refine fG ?_)
             refine AR.done (by assumption) (by kernel_rfl) ?_
             (refine ee ?_;refine nz ?_;refine aa.nil ?_;refine ca ?_;(with_reducible apply jB);exact⟨_,_,_,_,rfl⟩;refine nz ?_;refine HQ ?_)
             exact⟨((t.1++ [x],t.2.1++ [(k:Int)],-1),n+1,true),⟨L2,fun h=>by cases h⟩,by have:=hI.fuel hv.1;show(vars+1 - ((n+1:Nat):Int)).toNat*2+1<(vars+1 - (n:Int)).toNat*2+1;omega,aN rfl (by(exact Gc)) (by(exact Nd)) rfl⟩
           ·refine AR.bQ (i:=12) rfl (by kernel_rfl) rfl ?_
            intro g_ ag bq
            (refine oQ ?_;refine Q4 ?_)
            refine AR.bQ (i:=13) rfl (by kernel_rfl) rfl ?_
            intro g_ ag bq
            ((with_reducible apply aa.aZ);exact rfl;(first|exact .pv rfl|exact .own rfl|exact .nil rfl);(iterate 9 exact rfl);(first|omega|(simp only[List.length_map,List.length_append,List.length_cons,List.length_nil,List.length_drop,List.length_take,List.length_set,List.length_range,aE];omega));refine fG ?_)
            refine AR.bQ (i:=20) rfl (by kernel_rfl) rfl ?_
            intro g_ ag bq
            ((with_reducible apply aa.aZ);exact rfl;(first|exact .pv rfl|exact .own rfl|exact .nil rfl);(iterate 9 exact rfl);(first|omega|(simp only[List.length_map,List.length_append,List.length_cons,List.length_nil,List.length_drop,List.length_take,List.length_set,List.length_range,aE];omega));refine fG ?_)
            refine AR.bQ (i:=21) rfl (by kernel_rfl) rfl ?_
            intro g_ ag bq
            (refine nD ?_)
            refine AR.bQ (i:=22) rfl (by kernel_rfl) rfl ?_
            intro g_ ag bq
            (refine yX ?_)
            refine yv ?_
            intro g_ ag aH
            (refine nj ?_)
            refine AR.bQ (i:=24) rfl (by kernel_rfl) rfl ?_
            intro g_ ag bq
            (refine nD ?_)
            refine AR.bQ (i:=25) rfl (by kernel_rfl) rfl ?_
            intro g_ ag bq
            (refine yo ?_)
            refine zS ?_
            intro g_ ag aH
            (refine nj ?_)
            refine yW ?_
            intro g_ ag aH
            (refine Aj ?_)
            refine AR.bQ (i:=28) rfl (by kernel_rfl) rfl ?_
            intro g_ ag bq
            (refine zu ?_)
            refine y6 ?_
            intro g_ ag aH
            (refine yJ ?_;refine fG ?_)
            refine AR.done (by assumption) (by kernel_rfl) ?_
            (refine ee ?_;refine nz ?_;refine aa.nil ?_;refine ca ?_;(with_reducible apply jB);exact⟨_,_,_,_,rfl⟩;refine nz ?_;refine HQ ?_)
            exact⟨((t.1++ [x],t.2.1++ [(k:Int)],-1),n+1,true),⟨L2,fun h=>by cases h⟩,by have:=hI.fuel hv.1;show(vars+1 - ((n+1:Nat):Int)).toNat*2+1<(vars+1 - (n:Int)).toNat*2+1;omega,aN rfl (by(exact Gc)) (by(exact Nd)) rfl⟩
         ·have e0:(x::y::out).length=out.length+2:=rfl
          have vX:fj cl t=eN t (k+1:Nat) (cl.drop (k+1)):=dp
          clear dp
          (refine G4 ?_;refine gG ?_;refine Aw ?_;refine mR ?_)
          exact⟨k+1,⟨by omega,vX⟩,by omega,aN rfl (by(first|(refine⟨.eq rfl rfl,?_⟩;refine⟨.nilown _ _ _ rfl rfl,?_⟩;(iterate 11 refine⟨.eq rfl rfl,?_⟩);exact trivial)|(refine⟨.eq rfl rfl,?_⟩;(iterate 12 refine⟨.eq rfl rfl,?_⟩);exact trivial)|(refine⟨.eq rfl rfl,?_⟩;(iterate 6 refine⟨.eq rfl rfl,?_⟩);exact trivial)|(refine⟨.eq rfl rfl,?_⟩;(iterate 3 refine⟨.eq rfl rfl,?_⟩);exact trivial)|(refine⟨.eq rfl rfl,?_⟩;exact trivial))) (by(first|(refine⟨.set rfl,?_⟩;refine⟨.box _ rfl ?_,?_⟩;(iterate 6 refine⟨.eq rfl rfl,?_⟩);exact trivial;refine⟨.box _ rfl ?_,?_⟩;refine⟨.eq rfl rfl,?_⟩;exact trivial;(iterate 2 refine⟨.row rfl,?_⟩);refine⟨.loop rfl,?_⟩;refine⟨.newrow rfl,?_⟩;exact trivial)|(refine⟨.set rfl,?_⟩;refine⟨.box _ rfl ?_,?_⟩;(iterate 6 refine⟨.eq rfl rfl,?_⟩);exact trivial;refine⟨.box _ rfl ?_,?_⟩;refine⟨.eq rfl rfl,?_⟩;exact trivial;(iterate 2 refine⟨.row rfl,?_⟩);refine⟨.loop rfl,?_⟩;refine⟨.row rfl,?_⟩;exact trivial)|(refine⟨.set rfl,?_⟩;refine⟨.box _ rfl ?_,?_⟩;(iterate 6 refine⟨.eq rfl rfl,?_⟩);exact trivial;refine⟨.box _ rfl ?_,?_⟩;refine⟨.eq rfl rfl,?_⟩;exact trivial;(iterate 2 refine⟨.row rfl,?_⟩);refine⟨.loop rfl,?_⟩;exact trivial)|(refine⟨.box _ rfl ?_,?_⟩;refine⟨.fbox rfl rfl (by repeat (first|exact y9.nil|refine .cons (.any _) ?_|refine .cons (.pv _) ?_|refine .cons (.own rfl rfl) ?_|refine .cons (.nil _) ?_)),?_⟩;(iterate 2 exact trivial)))) rfl⟩
      ·rw[List.drop_eq_nil_of_le (by omega)] at dp
       have vX:fj cl t=(t,false):=dp
       (refine yz ?_;refine zk ?_;refine AW.exit ?_;(iterate 2 refine eo ?_);refine cv ?_;refine ca ?_;refine cw ?_)
       exact⟨(t,n,false),⟨hI,fun _=>vX⟩,by show(vars+1 - (n:Int)).toNat*2+0<(vars+1 - (n:Int)).toNat*2+1;omega,aN rfl (by(first|(exact Hh)|(refine⟨.eq rfl rfl,?_⟩;(iterate 12 refine⟨.eq rfl rfl,?_⟩);exact trivial)|(refine⟨.eq rfl rfl,?_⟩;(iterate 6 refine⟨.eq rfl rfl,?_⟩);exact trivial)|(exact DW)|(exact rP))) (by(first|(refine Es ?_;refine⟨.newrow rfl,?_⟩;exact trivial)|(refine Es ?_;exact vS)|(refine Es ?_;exact trivial)|(refine⟨.box _ rfl ?_,?_⟩;refine⟨.fbox rfl rfl (by repeat (first|exact y9.nil|refine .cons (.any _) ?_|refine .cons (.pv _) ?_|refine .cons (.own rfl rfl) ?_|refine .cons (.nil _) ?_)),?_⟩;(iterate 2 exact trivial)))) rfl⟩
end Go.Ab
/- Chapter 20:unitprop's answers:implied literals,reasons,implied clauses. -/
namespace Go.Ab
open Go Go.Proofs
set_option maxRecDepth 20000
set_option maxHeartbeats 4000000
attribute [local irreducible] AW aa bM a8 bm a_ bs runM b_
theorem nh {vars:Int} {l:List Int} (hv:0≤vars∧vars≤100000) (h:ay vars l=true):Sm l:=fun x hx=>by have:=aT h x hx;omega
structure Ie (vars:Int) (cl:List (List Int)):Prop where
 hv:0≤vars∧vars≤100000
 dO:∀c∈cl,ay vars c=true∧c.length≤100000
 h3:cl.length≤1000000
end Go.Ab
/- Chapter 20:unitprop's implied clauses. -/
namespace Go.Ab
open Go Go.Proofs
set_option maxRecDepth 20000
set_option maxHeartbeats 4000000
attribute [local irreducible] AW aa bM a8 bm a_ bs runM b_
theorem pt {vars:Int} {l:List Int} (h:ay vars l=true):ay vars (l.map fun x=>0 - x)=true:=by
 unfold ay
 rw[List.all_eq_true]
 intro x hx
 obtain⟨y,hy,rfl⟩:=List.mem_map.1 hx
 have:=aT h y hy
 simp;omega
theorem Eg (l:List Int):(l.map fun x=> -x)=l.map fun x=>0 - x:=by simp
theorem xN (vars:Int) (cl:List (List Int)) (c:List Int) (hf:Ie vars cl) (Df:c.length≤100000) (hw:ay vars c=true):
  Fn Try.prog 11 [Dg vars cl,.pv (ints c)] (aM (db vars cl c)):=by
 have hs:=nh hf.hv hw
 have Gh:=pt hw
 have jW:=GK hs
 have C9:(c.map fun x=>0 - x).length≤100000:=by simpa using Df
 have Lj:=zx _ jW
 have K8:b_ (c.map fun x=>0 - x)=false→_:=fun hc=>EY vars cl (c.map fun x=>0 - x) hf.dO hf.h3 hf.hv C9 Gh hc
 refine Fn.enter (n:=31) Try.func11 rfl rfl rfl rfl rfl (by decide) fun g aY aW=>?_;(try refine nz ?_)
 (refine zq ?_;refine Db ?_;refine fV ?_;refine jX ?_;refine mc ?_;refine iv ?_)
 refine AW.d_ 8 rfl fun hlen=>?_
 refine AW.loop (fun(k:Nat)=>{n:=31,env:=[(2,.ptr 0 0),(5,.own 1 3 1 (((c.take k).map fun x=>0 - x).map encI)),(8,.pv (ints c)),(9,aw c.length),(10,aw k)],objs:=[(0,some (.box [aw vars,.pv (dy cl)])),(1,some .row)],nx:=2})
  (fun k=>k≤c.length) (fun k=>c.length - k) 0 ?_ ?_ ?_
 ·simp
 ·exact aN rfl (by(first|(refine⟨.eq rfl rfl,?_⟩;refine⟨.nilown _ _ _ rfl rfl,?_⟩;(iterate 3 refine⟨.eq rfl rfl,?_⟩);exact trivial)|(refine⟨.eq rfl rfl,?_⟩;refine⟨.freeze rfl,?_⟩;(iterate 2 refine⟨.eq rfl rfl,?_⟩);exact trivial))) (by(first|(refine⟨.box _ rfl ?_,?_⟩;(iterate 2 refine⟨.eq rfl rfl,?_⟩);exact trivial;refine⟨.newrow rfl,?_⟩;exact trivial)|(refine⟨.box _ rfl ?_,?_⟩;(iterate 2 refine⟨.eq rfl rfl,?_⟩);(iterate 2 exact trivial)))) rfl
 rintro k hk
 have Ao:(c.take k).length≤100000:=by simp;omega
 by_cases aP:k<c.length
 ·have hx:=hs _ (List.getElem_mem aP)
  (refine Dc ?_;(focus ((with_reducible apply aa.ak);(iterate 7 exact rfl);rotate_left;omega));refine zr ?_;refine eD ?_;refine AW.region ?_;refine nz ?_;refine qn ?_;refine aa.neg rfl rfl rfl (by omega) ?_;refine oQ ?_;(with_reducible apply aa.aZ);exact rfl;(first|exact .pv rfl|exact .own rfl|exact .nil rfl);(iterate 9 exact rfl);(first|omega|(simp only[List.length_map,List.length_append,List.length_cons,List.length_nil,List.length_drop,List.length_take,List.length_set,List.length_range,aE];omega));refine nz ?_;refine qL ?_;refine mR ?_)
  exact⟨k+1,by omega,by omega,aN rfl (by(refine⟨.eq rfl rfl,?_⟩;refine⟨.aj (by first|with_reducible rfl|(rw[bd aP,List.map_append,List.map_append];show _=_++ [encI (0 - c[k])];rw[Int.zero_sub];rfl)) rfl,?_⟩;refine⟨.bz (by first|with_reducible rfl|(rw[bd aP,List.map_append,List.map_append];show _=_++ [encI (0 - c[k])];rw[Int.zero_sub];rfl)),?_⟩;refine⟨.bG (by first|with_reducible rfl|(rw[bd aP,List.map_append,List.map_append];show _=_++ [encI (0 - c[k])];rw[Int.zero_sub];rfl)),?_⟩;refine⟨.eq rfl rfl,?_⟩;exact trivial)) (by(refine⟨.box _ rfl ?_,?_⟩;refine⟨.bG (by first|with_reducible rfl|(rw[bd aP,List.map_append,List.map_append];show _=_++ [encI (0 - c[k])];rw[Int.zero_sub];rfl)),?_⟩;refine⟨.bz (by first|with_reducible rfl|(rw[bd aP,List.map_append,List.map_append];show _=_++ [encI (0 - c[k])];rw[Int.zero_sub];rfl)),?_⟩;exact trivial;refine⟨.row rfl,?_⟩;exact trivial)) rfl⟩
 ·have ec:c.take k=c:=cz (by omega)
  rw[ec]
  cases hc:b_ (c.map fun x=>0 - x) with
  |true=>
   rw[hc] at Lj
   (refine ng ?_;refine aa.bt rfl rfl rfl ?_;refine aa.call (Lj) (.cons rfl (.own _ _ _ _ rfl) .nil) rfl rfl (fun h_=>by cases h_) ?_;refine zm ?_;(iterate 7 refine aa.bV rfl rfl rfl rfl rfl rfl rfl ?_);refine aa.cY rfl rfl rfl rfl rfl rfl ?_;refine e_ ?_)
   ·(apply az;(exact bD.one (.tmp rfl rfl));(refine Le.aM ?_;(rw[db,if_pos hc])))
  |false=>
   have hr:=K8 hc
   rw[hc] at Lj
   refine AW.aN (δ':={n:=31,env:=[(2,.ptr 0 0),(5,.pv (ints (c.map fun x=>0 - x))),(9,aw c.length),(10,aw k)],objs:=[(0,some (.box [aw vars,.pv (dy cl)]))],nx:=2}) (aN rfl (by(first|(refine⟨.eq rfl rfl,?_⟩;refine⟨.nilown _ _ _ rfl rfl,?_⟩;(iterate 3 refine⟨.eq rfl rfl,?_⟩);exact trivial)|(refine⟨.eq rfl rfl,?_⟩;refine⟨.freeze rfl,?_⟩;exact q8))) (by(first|(refine⟨.box _ rfl ?_,?_⟩;exact q8;refine⟨.newrow rfl,?_⟩;exact trivial)|(exact HO))) rfl) ?_
   (refine ng ?_;refine zm ?_;refine aa.call (Lj) (.cons rfl (.pv _) .nil) rfl rfl (fun h_=>by cases h_) ?_;refine zm ?_;refine zl ?_;refine oy ?_;refine iO ?_;refine aa.FO (hr) (.cons rfl (.uJ (.cons (.pv _) (.cons (.pv _) .nil))) (.cons rfl (.pv _) .nil)) rfl ?_;refine zl ?_;refine aa.k9 rfl rfl rfl ?_;refine zl ?_;refine aa.eB 59 4 5 1 rfl rfl rfl rfl ?_;refine nz ?_;refine zl ?_;refine zr ?_;refine zl ?_;refine aa.geq rfl rfl rfl rfl rfl ?_;refine aa.dr rfl rfl rfl rfl rfl rfl ?_;refine e_ ?_)
   (apply az;(exact bD.one (.tmp rfl rfl));(refine Le.aM ?_;(rw[db,if_neg (by rw[hc];simp)])))
end Go.Ab
/-
 DERIVED:THE SHELF's CONTRACTS AT THIS DUMP,IN PLAIN WORDS (tools/lay-plain.mjs out of 'TryShelf.lean',which tools/lay-shelf.mjs wrote):THE SAME DECLARATIONS UNDER THE SAME NAMES: 'import', 'namespace', 'open', 'def', 'theorem' AND NOTHING ELSE:no command of the shelf's:FOR A HAND-IN. Each laying:the table of numbers ('.._ren') and one theorem,a field a fact of the dump's own or the kernel's comparison;each contract:ONE APPLICATION.
-/
namespace Go.Proofs
open Go.Shelf
def Try.tC:Go.Shelf.Ren:=⟨fun|189=>71|125=>74|257=>73|128=>84|129=>85|294=>75|295=>76|296=>77|297=>78|298=>79|299=>80|216=>81|300=>82|301=>83|328=>86|329=>87|330=>88|331=>89|332=>90|215=>91|343=>92|n=>n,fun|28=>28|3=>3|46=>96|0=>0|51=>106|53=>108|4=>4|183=>99|182=>98|131=>103|5=>5|9=>9|218=>109|222=>113|228=>115|229=>116|n=>n,fun|n=>n⟩
theorem Try.xC:Go.Proofs.Lays.n189 Try.prog Try.tC:={
 mixed:=by kernel_rfl
 f125:=Try.func74.trans (congrArg some (by kernel_rfl))
 f128:=Try.func84.trans (congrArg some (by kernel_rfl))
 f129:=Try.func85.trans (congrArg some (by kernel_rfl))
 f189:=Try.func71.trans (congrArg some (by kernel_rfl))
 f215:=Try.func91.trans (congrArg some (by kernel_rfl))
 f216:=Try.func81.trans (congrArg some (by kernel_rfl))
 f257:=Try.func73.trans (congrArg some (by kernel_rfl))
 f294:=Try.func75.trans (congrArg some (by kernel_rfl))
 f295:=Try.func76.trans (congrArg some (by kernel_rfl))
 f296:=Try.func77.trans (congrArg some (by kernel_rfl))
 f297:=Try.func78.trans (congrArg some (by kernel_rfl))
 f298:=Try.func79.trans (congrArg some (by kernel_rfl))
 f299:=Try.func80.trans (congrArg some (by kernel_rfl))
 f300:=Try.func82.trans (congrArg some (by kernel_rfl))
 f301:=Try.func83.trans (congrArg some (by kernel_rfl))
 f328:=Try.func86.trans (congrArg some (by kernel_rfl))
 f329:=Try.func87.trans (congrArg some (by kernel_rfl))
 f330:=Try.func88.trans (congrArg some (by kernel_rfl))
 f331:=Try.func89.trans (congrArg some (by kernel_rfl))
 f332:=Try.func90.trans (congrArg some (by kernel_rfl))
 f343:=Try.func92.trans (congrArg some (by kernel_rfl))
 t0:=Try.underlying0
 a0:=Try.isAgg0
 z0:=Try.sizeOf0
 v0:=Try.zeroValue0
 t3:=Try.underlying3
 a3:=Try.isAgg3
 z3:=Try.sizeOf3
 v3:=Try.zeroValue3
 t4:=Try.underlying4
 a4:=Try.isAgg4
 z4:=Try.sizeOf4
 v4:=Try.zeroValue4
 t5:=Try.underlying5
 a5:=Try.isAgg5
 z5:=Try.sizeOf5
 v5:=Try.zeroValue5
 t9:=Try.underlying9
 a9:=Try.isAgg9
 z9:=Try.sizeOf9
 v9:=Try.zeroValue9
 t28:=Try.underlying28
 a28:=Try.isAgg28
 z28:=Try.sizeOf28
 v28:=Try.zeroValue28
 t46:=Try.underlying96
 a46:=Try.isAgg96
 z46:=Try.sizeOf96
 v46:=Try.zeroValue96
 t51:=Try.underlying106
 a51:=Try.isAgg106
 z51:=Try.sizeOf106
 v51:=Try.zeroValue106
 t53:=Try.underlying108
 a53:=Try.isAgg108
 z53:=Try.sizeOf108
 v53:=Try.zeroValue108
 t131:=Try.underlying103
 a131:=Try.isAgg103
 z131:=Try.sizeOf103
 v131:=Try.zeroValue103
 t182:=Try.underlying98
 a182:=Try.isAgg98
 z182:=Try.sizeOf98
 v182:=Try.zeroValue98
 t183:=Try.underlying99
 a183:=Try.isAgg99
 z183:=Try.sizeOf99
 v183:=Try.zeroValue99
 t218:=Try.underlying109
 a218:=Try.isAgg109
 z218:=Try.sizeOf109
 v218:=Try.zeroValue109
 t222:=Try.underlying113
 a222:=Try.isAgg113
 z222:=Try.sizeOf113
 v222:=Try.zeroValue113
 t228:=Try.underlying115
 a228:=Try.isAgg115
 z228:=Try.sizeOf115
 v228:=Try.zeroValue115
 t229:=Try.underlying116
 a229:=Try.isAgg116
 z229:=Try.sizeOf116
 v229:=Try.zeroValue116}
open Go.Sort Go.RowKit in
theorem Try.slices_Sort_int (blk off cap:Nat) (zs:List Int) (w:World) (hH:Holds (Value.int .i64) w blk off zs.toArray) (iF:blk<w.heap.size) (iK:zs.length<4611686018427387904):
  Calls Try.prog 71 #[.slice (some ⟨blk,off,none⟩) zs.length cap] w fun e w'=>
   e=.returned (.tuple #[])∧∃n os,w'=grow (putRow (Value.int .i64) (Sort.ahead w n) blk off (zs.mergeSort fun x y=>decide (x≤y)).toArray) os:=Any.slices_Sort_int Try.xC blk off cap zs w hH iF iK
def Try.qR:Go.Shelf.Ren:=⟨fun|20=>72|n=>n,fun|22=>28|3=>3|4=>4|0=>0|n=>n,fun|n=>n⟩
theorem Try.rn:Go.Proofs.Lays2.n20 Try.prog Try.qR:={
 mixed:=by kernel_rfl
 f20:=Try.func72.trans (congrArg some (by kernel_rfl))
 t0:=Try.underlying0
 a0:=Try.isAgg0
 z0:=Try.sizeOf0
 v0:=Try.zeroValue0
 t3:=Try.underlying3
 a3:=Try.isAgg3
 z3:=Try.sizeOf3
 v3:=Try.zeroValue3
 t4:=Try.underlying4
 a4:=Try.isAgg4
 z4:=Try.sizeOf4
 v4:=Try.zeroValue4
 t22:=Try.underlying28
 a22:=Try.isAgg28
 z22:=Try.sizeOf28
 v22:=Try.zeroValue28
 i3:=by kernel_rfl}
open Go.RowKit Go.Lib Go.Sort in
theorem Try.slices_Compact_int (blk off cap:Nat) (zs:List Int) (w:World) (hH:Holds (Value.int .i64) w blk off zs.toArray) (iK:zs.length≤9223372036854775807) (jz:zs.length≤cap):
  Calls Try.prog 72 #[.slice (some ⟨blk,off,none⟩) zs.length cap] w fun e w'=>e=.returned (.slice (some ⟨blk,off,none⟩) (Lib.compact zs).length cap)∧∃q,w'=putRow (Value.int .i64) (Sort.ahead w q) blk off (Lib.compact zs++List.replicate (zs.length - (Lib.compact zs).length) 0).toArray:=Any.slices_Compact_int Try.rn blk off cap zs w hH iK jz
open Go.RowKit Go.Lib Go.Sort in
theorem Try.slices_Compact_int_empty (a:Option Addr) (cap:Nat) (w:World):
  Calls Try.prog 72 #[.slice a 0 cap] w fun e w'=>e=.returned (.slice a 0 cap)∧w'=w:=Any.slices_Compact_int_empty Try.rn a cap w
open Go.RowKit Go.Sort in
theorem Try.slices_Sort_int_none (p:Option Addr) (cap:Nat) (w:World):
  Calls Try.prog 71 #[.slice p 0 cap] w fun e w'=>e=.returned (.tuple #[])∧w'=w:=Any.slices_Sort_int_none Try.xC p cap w
end Go.Proofs
/- Go's slices.Sort and slices.Compact at numbers,as callees that rewrite a row. -/
namespace Go.Ab
open Go Go.Proofs Go.RowKit
def gO (zs:List Int):List Int:=zs.mergeSort fun x y=>decide (x≤y)
def ed (zs:List Int):List Int:=Go.Lib.compact zs
def iR (zs:List Int):List Int:=ed zs++List.replicate (zs.length - (ed zs).length) 0
theorem tF (zs:List Int):(ed zs).length≤zs.length:=by
 unfold ed Go.Lib.compact Go.Lib.compactUpTo
 rw[List.length_map]
 exact Nat.le_trans (List.length_filter_le _ _) (by simp)
theorem zi:E7 Try.prog 71 gO none where
 enters:=enters_of Try.func71 rfl (by decide)
 len:=fun zs=>by simp [gO]
 retle:=fun r h=>by cases h
 calls:=fun b cap zs w hH hb hl _=>Try.slices_Sort_int b 0 cap zs w hH hb (by omega)
 nil:=fun w=>(Try.slices_Sort_int_none none 0 w).mono fun e w' ⟨h1,h2⟩=>⟨h1,h2▸Below.refl _ _⟩
theorem ti:E7 Try.prog 72 iR (some fun zs=>(ed zs).length) where
 enters:=enters_of Try.func72 rfl (by decide)
 len:=fun zs=>by have:=tF zs;simp [iR];omega
 retle:=fun r h zs=>by cases h;exact tF zs
 calls:=fun b cap zs w hH hb hl hc=>(Try.slices_Compact_int b 0 cap zs w hH (by omega) hc).mono fun e w' ⟨h1,q,h2⟩=>⟨h1,q, #[],by rw[h2];simp [Sort.grow];rfl⟩
 nil:=fun w=>(Try.slices_Compact_int_empty none 0 w).mono fun e w' ⟨h1,h2⟩=>⟨h1,h2▸Below.refl _ _⟩
end Go.Ab
/- Lists of numbers put in order,each number once. -/
namespace Go.Ab
open Go Go.Proofs
abbrev J1 (l:List Int):Prop:=l.Pairwise (·<·)
theorem yl:∀{a b:List Int},J1 a→J1 b→(∀x,x∈a↔x∈b)→a=b
 |[],[],_,_,_=>rfl
 |[],y::b,_,_,h=>by have:=(h y).2 (by simp);simp at this
 |x::a,[],_,_,h=>by have:=(h x).1 (by simp);simp at this
 |x::a,y::b,ha,hb,h=>by
  have ha':=List.pairwise_cons.1 ha
  have hb':=List.pairwise_cons.1 hb
  have NM:x=y:=by
   have h1:=(h x).1 (by simp)
   have h2:=(h y).2 (by simp)
   rcases List.mem_cons.1 h1 with e|h1
   ·exact e
   ·rcases List.mem_cons.1 h2 with e|h2
    ·exact e.symm
    ·have:=hb'.1 x h1
     have:=ha'.1 y h2
     omega
  subst NM
  rw[yl ha'.2 hb'.2 fun z=>?_]
  constructor
  ·intro hz
   have h1:=ha'.1 z hz
   rcases List.mem_cons.1 ((h z).1 (by simp [hz])) with e|h2
   ·omega
   ·exact h2
  ·intro hz
   have h1:=hb'.1 z hz
   rcases List.mem_cons.1 ((h z).2 (by simp [hz])) with e|h2
   ·omega
   ·exact h2
theorem fO {zs:List Int} {j:Nat} (hj:j<zs.length):zs.toArray[j]! =zs[j]:=by simp [hj]
theorem A0 {zs:List Int} {x:Int}:x∈ed zs↔∃j,∃h:j<zs.length,zs[j]=x∧(j=0∨∃h':j - 1<zs.length,zs[j]≠zs[j - 1]):=by
 unfold ed Go.Lib.compact Go.Lib.compactUpTo
 simp only[List.mem_map,List.mem_filter,List.mem_range,Go.Lib.keeps,decide_eq_true_eq]
 constructor
 ·rintro⟨j,⟨hj,hk⟩,rfl⟩
  refine⟨j,hj,(fO hj).symm,?_⟩
  rcases hk with hk|hk
  ·exact .inl hk
  ·by_cases h0:j=0
   ·exact .inl h0
   ·right
    refine⟨by omega,?_⟩
    rwa [fO hj,fO (by omega)] at hk
 ·rintro⟨j,hj,rfl,hk⟩
  refine⟨j,⟨hj,?_⟩,fO hj⟩
  rcases hk with hk|⟨h',hk⟩
  ·exact .inl hk
  ·right
   rwa [fO hj,fO h']
theorem Bg {zs:List Int} {x:Int}:x∈ed zs↔x∈zs:=by
 rw[A0]
 constructor
 ·rintro⟨j,hj,rfl,_⟩;exact List.getElem_mem hj
 ·intro hx
  obtain⟨j,hj,rfl⟩:=List.getElem_of_mem hx
  induction j with
  |zero=>exact⟨0,hj,rfl,.inl rfl⟩
  |succ j ih=>
   by_cases e:zs[j+1]=zs[j]
   ·obtain⟨i,hi,h1,h2⟩:=ih (by omega) (List.getElem_mem _)
    exact⟨i,hi,h1.trans e.symm,h2⟩
   ·exact⟨j+1,hj,rfl,.inr ⟨by omega,e⟩⟩
theorem CY {zs:List Int} (h:zs.Pairwise (·≤·)):J1 (ed zs):=by
 unfold ed Go.Lib.compact Go.Lib.compactUpTo J1
 rw[List.pairwise_map]
 have h1:((List.range zs.length).filter (Go.Lib.keeps zs.toArray)).Pairwise (·<·):=List.Pairwise.filter _ List.pairwise_lt_range
 refine List.Pairwise.imp_of_mem (fun {i j} hi hj oJ=>?_) h1
 simp only[List.mem_filter,List.mem_range,Go.Lib.keeps,decide_eq_true_eq] at hi hj
 obtain⟨NX,_⟩:=hi
 obtain⟨hj1,hj2⟩:=hj
 rw[fO NX,fO hj1]
 rw[List.pairwise_iff_getElem] at h
 rcases hj2 with h0|h0
 ·omega
 ·have Cz:j - 1<zs.length:=by omega
  have h2:zs[j - 1]≤zs[j]:=h (j - 1) j Cz hj1 (by omega)
  rw[fO hj1,fO Cz] at h0
  by_cases e:i=j - 1
  ·subst e;omega
  ·have h3:zs[i]≤zs[j - 1]:=h i (j - 1) NX Cz (by omega)
   omega
theorem BZ {zs:List Int} {x:Int}:x∈gO zs↔x∈zs:=(List.mergeSort_perm zs _).mem_iff
theorem EH (zs:List Int):(gO zs).Pairwise (·≤·):=by
 have:=List.pairwise_mergeSort (le:=fun x y:Int=>decide (x≤y)) (fun a b c h1 h2=>by simp only[decide_eq_true_eq] at*;omega) (fun a b=>by simp only[Bool.or_eq_true,decide_eq_true_eq];omega) zs
 exact this.imp fun h=>by simpa using h
def canon (zs:List Int):List Int:=ed (gO zs)
theorem zH (zs:List Int):ed (gO zs)=canon zs:=rfl
theorem q9 (zs:List Int):J1 (canon zs):=CY (EH zs)
theorem kG {zs:List Int} {x:Int}:x∈canon zs↔x∈zs:=by unfold canon;rw[Bg,BZ]
theorem uB {a b:List Int} (h:∀x,x∈a↔x∈b):canon a=canon b:=yl (q9 a) (q9 b) fun x=>by rw[kG,kG,h]
theorem v8 (zs:List Int):(iR zs).take (ed zs).length=ed zs:=by unfold iR;rw[List.take_append_of_le_length (Nat.le_refl _),List.take_length]
end Go.Ab
/- Chapter 23:the checker's clauses:put in order,compared,within the variables,their images. -/
namespace Go.Ab
open Go Go.Proofs
open Nat (reduceAdd reduceSub)
set_option maxRecDepth 20000
set_option maxHeartbeats 4000000
theorem yA {α:Type} {a b:List α} {k:Nat} (hl:a.length=b.length) (h:a.take k=b.take k) (hk:¬k<a.length):a=b:=by
 rwa [List.take_of_length_le (by omega),List.take_of_length_le (by omega)] at h
theorem ES {α:Type} {a b:List α} {k:Nat} (h:a.take k=b.take k) (ha:k<a.length) (hb:k<b.length) (e:a[k]=b[k]):a.take (k+1)=b.take (k+1):=by
 rw[bd ha,bd hb,h,e]
attribute [local irreducible] AW aa bM a8 AR bm a_ bs bT canon gO ed iR
theorem nF (a b:List Int):Fn Try.prog 59 [.pv (ints a),.pv (ints b)] (aM (decide (a=b))):=by
 refine Fn.enter (n:=26) Try.func59 rfl rfl rfl rfl rfl (by decide) fun g aY aW=>?_;(try refine nz ?_)
 refine AW.d_ 0 rfl fun hlen=>?_
 by_cases mK:a.length=b.length
 ·(refine Hr ?_;refine hO ?_;refine iZ ?_;refine zm ?_;refine iv ?_)
  refine AW.loop (fun(k:Nat)=>{n:=26,env:=[(0,.pv (ints a)),(1,.pv (ints b)),(12,aw a.length),(13,aw k)],objs:=[],nx:=0}) (fun k=>k≤a.length∧a.take k=b.take k) (fun k=>a.length - k) 0 ?_ ?_ ?_
  ·simp
  ·exact aN rfl (by(refine⟨.eq rfl rfl,?_⟩;(iterate 3 refine⟨.eq rfl rfl,?_⟩);exact trivial)) (by(exact trivial)) rfl
  rintro k ⟨hk,gB⟩
  by_cases aP:k<a.length
  ·have wm:k<b.length:=by omega
   (refine fF ?_;refine jX ?_;refine AW.bn rfl rfl (by kernel_rfl) (by with_reducible assumption) ?_;(iterate 2 refine zm ?_);(focus ((with_reducible apply aa.ak);(iterate 7 exact rfl);rotate_left;omega));refine zr ?_;(iterate 2 refine zm ?_);(focus ((with_reducible apply aa.ak);(iterate 7 exact rfl);rotate_left;omega));refine zr ?_;refine aa.neq rfl rfl rfl rfl rfl ?_;refine zd ?_;(focus ((with_reducible apply AW.lf);exact rfl;exact rfl;all_goals intro lC));refine fV ?_;refine lP ?_;(all_goals skip);rotate_left;refine lN ?_;refine mR ?_;(all_goals skip);rotate_left)
   ·have br:¬a=b:=by rintro rfl;exact lC rfl
    (apply az;(exact bD.one (.tmp rfl rfl));(refine Le.aM ?_;(rw[eq_comm,decide_eq_false_iff_not];exact br)))
   ·exact⟨k+1,⟨by omega,ES gB aP wm (Decidable.not_not.1 lC)⟩,by omega,aN rfl (by(refine⟨.eq rfl rfl,?_⟩;(iterate 3 refine⟨.eq rfl rfl,?_⟩);exact trivial)) (by(exact trivial)) rfl⟩
  ·have he:a=b:=yA mK gB aP
   (refine ng ?_;refine e_ ?_)
   (apply az;(exact bD.one (.tmp rfl rfl));(refine Le.aM ?_;(rw[eq_comm,decide_eq_true_iff];exact he)))
 ·have br:¬a=b:=by rintro rfl;exact mK rfl
  (refine Hr ?_;refine gG ?_;refine fV ?_;refine mH ?_)
  (apply az;(exact bD.one (.tmp rfl rfl));(refine Le.aM ?_;(rw[eq_comm,decide_eq_false_iff_not];exact br)))
theorem Dk (l:List Int):l.map encI=l.map nI:=rfl
theorem yx (l:List Int) (hl:l.length≤1000000):HN Try.prog 45 [.pv (ints l)] 3 1 (l.map nI):=by
 rw[← Dk]
 refine HN.enter (n:=8) Try.func45 rfl rfl rfl rfl rfl (by decide) fun g aY aW=>?_;(try refine nz ?_)
 by_cases h0:l=[]
 ·subst h0
  have e0:([]:List Int).length=0:=rfl
  (refine nM ?_;refine zm ?_;(focus ((with_reducible apply aa.p6);(iterate 6 exact rfl);all_goals intro lC));refine kQ ?_;refine mH ?_;(all_goals skip);rotate_left;refine Ee ?_;refine zm ?_;(with_reducible apply aa.aZ);exact rfl;(first|exact .pv rfl|exact .own rfl|exact .nil rfl);(iterate 9 exact rfl);(first|omega|(simp only[List.length_map,List.length_append,List.length_cons,List.length_nil,List.length_drop,List.length_take,List.length_set,List.length_range,aE];omega));refine nz ?_;refine ot ?_;(all_goals skip);rotate_left)
  all_goals ((first|(refine eY (bD.one (.tmp rfl rfl)) ?_)|(refine eY (bD.one (.cell1 rfl rfl rfl rfl)) ?_)|(refine kC (bD.one (.tmp rfl rfl)) ?_));(first|rfl|simp))
 ·have e0:0<l.length:=List.length_pos_iff.2 h0
  have e1:¬l.map encI=[]:=by simpa using h0
  clear h0
  (refine nM ?_;refine zm ?_;(focus ((with_reducible apply aa.p6);(iterate 6 exact rfl);all_goals intro lC));refine kQ ?_;refine mH ?_;(all_goals skip);rotate_left;refine Ee ?_;refine zm ?_;(with_reducible apply aa.aZ);exact rfl;(first|exact .pv rfl|exact .own rfl|exact .nil rfl);(iterate 9 exact rfl);(first|omega|(simp only[List.length_map,List.length_append,List.length_cons,List.length_nil,List.length_drop,List.length_take,List.length_set,List.length_range,aE];omega));refine nz ?_;refine ot ?_;(all_goals skip);rotate_left)
  ·exact absurd lC e1
  ·((first|(refine eY (bD.one (.tmp rfl rfl)) ?_)|(refine eY (bD.one (.cell1 rfl rfl rfl rfl)) ?_)|(refine kC (bD.one (.tmp rfl rfl)) ?_));(first|rfl|simp))
theorem gK (l:List Int) (hl:l.length≤1000000):Fn Try.prog 60 [.pv (ints l)] (.pv (ints (canon l))):=by
 have hc:=yx l hl
 refine Fn.enter (n:=10) Try.func60 rfl rfl rfl rfl rfl (by decide) fun g aY aW=>?_;(try refine nz ?_)
 (refine zq ?_;refine iw ?_;refine zm ?_;(with_reducible apply aa.F3 (hc));(repeat (first|exact .nil|(refine .cons rfl ?_ ?_;(first|exact .pv _|exact .own _ _ _ _ rfl|exact .nil _|exact .any _|exact .rptr _|(refine .uJ ?_;repeat (first|exact .nil|(refine .cons ?_ ?_;(first|exact .pv _|exact .own _ _ _ _ rfl|exact .nil _))))))));exact rfl;refine nz ?_;refine vn ?_;refine fV ?_;refine aa.bt rfl rfl rfl ?_;(try refine nz ?_);refine aa.EL (zi) [6,3,5] rfl ⟨rfl,rfl,rfl,trivial⟩ rfl rfl rfl ?_;(conv=>rhs;simp only[Nf.O0,Nf.all,Nat.reduceBEq,reduceAdd,reduceSub]);refine zd ?_;refine zq ?_;refine aa.bt rfl rfl rfl ?_;(try refine nz ?_);refine aa.EL (ti) [8,6,3,5] rfl ⟨rfl,rfl,rfl,rfl,trivial⟩ rfl rfl rfl ?_;(conv=>rhs;simp only[Nf.O0,Nf.all,Nat.reduceBEq,reduceAdd,reduceSub]);refine ot ?_)
 (apply az;(exact bD.one (.tmp rfl rfl));(refine Le.aj ?_;(first|rfl|(rw[v8,zH];rfl))))
theorem CA (a b:List Int) (ha:a.length≤1000000) (hb:b.length≤1000000):Fn Try.prog 30 [.pv (ints a),.pv (ints b)] (aM (decide (canon a=canon b))):=by
 have h1:=gK a ha
 have h2:=gK b hb
 have h3:=nF (canon a) (canon b)
 refine Fn.enter (n:=10) Try.func30 rfl rfl rfl rfl rfl (by decide) fun g aY aW=>?_;(try refine nz ?_)
 (refine zq ?_;refine iw ?_;refine zm ?_;refine zP (h1) ?_;refine zm ?_;refine zP (h2) ?_;refine zA (h3) ?_;refine e_ ?_)
 (apply az;(exact bD.one (.tmp rfl rfl));(refine Le.aM ?_;(rfl)))
theorem nS {vars:Int} {l:List Int} {k:Nat} (hk:k<l.length):ay vars (l.take (k+1))=(ay vars (l.take k) && decide (l[k]≠0∧l[k]≤vars∧0 - vars≤l[k])):=by
 unfold ay
 rw[bd hk,List.all_append]
 simp
theorem jt (vars:Int) (l:List Int) (hv: -1000000≤vars∧vars≤1000000):Fn Try.prog 26 [aw vars,.pv (ints l)] (aM (ay vars l)):=by
 refine Fn.enter (n:=9) Try.func26 rfl rfl rfl rfl rfl (by decide) fun g aY aW=>?_;(try refine nz ?_)
 refine AW.d_ 1 rfl fun hlen=>?_
 (refine zq ?_;refine Db ?_;refine mc ?_;refine aa.gQ rfl rfl rfl ?_;(with_reducible apply aa.inline (hf:=Try.func53));(with_reducible assumption);(iterate 10 exact rfl);intro g_ aY aW;refine np ?_;refine zm ?_;refine aa.eI rfl rfl rfl ?_;(with_reducible apply aa.inline (hf:=Try.func69));(with_reducible assumption);(iterate 10 exact rfl);intro g_ aY aW;refine nz ?_;refine nM ?_;refine zm ?_;refine iv ?_)
 (refine nz ?_;apply AW.ck [7,0,1,1006,1005,1004,1000,1001,2006,2005,2004,2002,2001] [0] (fun k:Nat=>([(8,aw k)]:List (Nat×AV))) (fun k:Nat=>([]:List (Nat×Option Ob))) (fun k:Nat=>k≤l.length∧ay vars (l.take k)=true) (fun k:Nat=>l.length - k) (0);(conv=>lhs;simp only[Nf.jJ,Nf.all,Nat.reduceBEq,reduceAdd,reduceSub]);(all_goals skip))
 ·exact⟨Nat.zero_le _,rfl⟩
 ·exact aN rfl (by(refine⟨.eq rfl rfl,?_⟩;(iterate 13 refine⟨.eq rfl rfl,?_⟩);exact trivial)) (by(refine⟨.box _ rfl ?_,?_⟩;refine⟨.eq rfl rfl,?_⟩;(iterate 2 exact trivial))) rfl
 rintro k ⟨hk,gB⟩
 by_cases aP:k<l.length
 ·have hs:=nS (vars:=vars) aP
  rw[gB,Bool.true_and] at hs
  by_cases hb:l[k]≠0∧l[k]≤vars∧0 - vars≤l[k]
  ·obtain⟨b1,b2,b3⟩:=hb
   rw[decide_eq_true ⟨b1,b2,b3⟩] at hs
   have b4:¬l[k]< -vars:=by omega
   have b5:¬vars<l[k]:=by omega
   (refine tb ?_;(focus ((with_reducible apply aa.ak);(iterate 7 exact rfl);rotate_left;omega));refine zr ?_;(with_reducible apply aa.inline (hf:=Try.func57));(with_reducible assumption);(iterate 10 exact rfl);intro g_ aY aW;refine np ?_;refine zm ?_;refine HP ?_;refine oO ?_;refine zd ?_;refine zk ?_;refine lN ?_;refine vg ?_)
   exact⟨k+1,⟨by omega,hs⟩,by omega,aN rfl (by(refine⟨.eq rfl rfl,?_⟩;(iterate 13 refine⟨.eq rfl rfl,?_⟩);exact trivial)) (by(refine⟨.box _ rfl ?_,?_⟩;refine⟨.eq rfl rfl,?_⟩;(iterate 2 exact trivial))) rfl⟩
  ·have hf:=o4 aP hb
   rw[hf]
   by_cases b1:l[k]=0
   ·(refine tb ?_;(focus ((with_reducible apply aa.ak);(iterate 7 exact rfl);rotate_left;omega));refine zr ?_;(with_reducible apply aa.inline (hf:=Try.func57));(with_reducible assumption);(iterate 10 exact rfl);intro g_ aY aW;refine np ?_;refine zm ?_;refine qP ?_;refine Hu ?_;refine zm ?_;refine DJ ?_;refine e_ ?_;refine oO ?_;refine AU ?_;refine e_ ?_)
    all_goals (apply az;(exact bD.one (.tmp rfl rfl));(refine Le.aM ?_;(first|rfl)))
   ·by_cases b2:vars<l[k]
    ·(refine tb ?_;(focus ((with_reducible apply aa.ak);(iterate 7 exact rfl);rotate_left;omega));refine zr ?_;(with_reducible apply aa.inline (hf:=Try.func57));(with_reducible assumption);(iterate 10 exact rfl);intro g_ aY aW;refine np ?_;refine zm ?_;refine qP ?_;refine nB ?_;refine zb ?_;refine lQ ?_;refine Dm ?_;refine e_ ?_;refine oO ?_;refine AU ?_;refine e_ ?_)
     all_goals (apply az;(exact bD.one (.tmp rfl rfl));(refine Le.aM ?_;(first|rfl)))
    ·have b3:l[k]< -vars:=by omega
     (refine tb ?_;(focus ((with_reducible apply aa.ak);(iterate 7 exact rfl);rotate_left;omega));refine zr ?_;(with_reducible apply aa.inline (hf:=Try.func57));(with_reducible assumption);(iterate 10 exact rfl);intro g_ aY aW;refine np ?_;refine zm ?_;refine HP ?_;refine oO ?_;refine gG ?_;refine lZ ?_;refine lP ?_;refine Km ?_;refine e_ ?_)
     all_goals (apply az;(exact bD.one (.tmp rfl rfl));(refine Le.aM ?_;(first|rfl)))
 ·rw[cz (l:=l) (by omega)] at gB
  rw[gB]
  (refine ng ?_;refine e_ ?_;refine Km ?_;refine e_ ?_)
  (apply az;(exact bD.one (.tmp rfl rfl));(refine Le.aM ?_;(first|rfl)))
end Go.Ab
/- Chapter 23:Go's slices.Delete of one clause. -/
namespace Go.Ab
open Go Go.Proofs Go.RowKit Go.Lib Go.Sort
set_option maxRecDepth 1000000
set_option maxHeartbeats 4000000
abbrev vv (u:Value):Value:=u
theorem zV (b off cap i:Nat) (us:List Value) (w:World) (hH0:Holds (fun u:Value=>u) w b off us.toArray) (h1:∀u∈us,u.oneCell'=true) (jz:us.length≤cap) (hm:cap≤maxLen) (hi:i<us.length):
  Calls Try.prog 67 #[.slice (some ⟨b,off,none⟩) us.length cap,.int .i64 i,.int .i64 (i+1)] w fun e w'=>e=.returned (.slice (some ⟨b,off,none⟩) (us.length - 1) cap)∧
   ∃n,w'=putRow (fun u:Value=>u) (Sort.ahead w n) b off (us.take i++us.drop (i+1)++ [Value.slice none 0 0]).toArray:=by
 have hm':cap≤9223372036854775807:=Nat.le_trans hm (by unfold maxLen;decide)
 obtain⟨d,hd⟩:∃d:Array Value,d=us.toArray:=⟨_,rfl⟩
 have Ls:us.length=d.size:=by rw[hd];simp
 have xT:d.toList=us:=by rw[hd]
 have hH:Holds vv w b off d:=by rw[hd];exact hH0
 rw[Ls] at jz hi ⊢
 rw[← xT] at h1 ⊢
 clear hH0 Ls xT hd
 obtain⟨j,hj⟩:∃j,j=i+1:=⟨_,rfl⟩
 have oJ:i≤j:=by omega
 have Qd:j≤d.size:=by omega
 have br:¬(i:Int)=(j:Int):=by omega
 rw[show((i:Int)+1)=(j:Int) by omega,← hj,show d.size - 1=d.size - (j - i) by omega]
 have hz:(Try.prog.info? 28).map (fun i=>(i.size,i.zero))=some (1,some (.slice none 0 0)):=rfl
 obtain⟨i0,dA,hz1,hz0⟩:∃i0,Try.prog.info? 28=some i0∧i0.size=1∧i0.zero=some (.slice none 0 0):=by
  cases h:Try.prog.info? 28 with
  |none=>rw[h] at hz;simp at hz
  |some i0=>rw[h] at hz;simp at hz;exact⟨i0,rfl,hz.1,hz.2⟩
 obtain⟨news,u9⟩:∃news,news=(d.toList.drop j).map vv:=⟨_,rfl⟩
 have hlen:news.length=d.size - j:=by rw[u9];simp
 have zI:∀t,t<d.size - j→news[t]? =some (vv d[j+t]!):=by
  intro t ht
  rw[u9,List.getElem?_map,List.getElem?_drop,Array.getElem?_toList,getElem!_pos d (j+t) (by omega),Array.getElem?_eq_getElem (by omega)]
  rfl
 obtain⟨A,hA,Hy⟩:∃A:Addr,(if cap=j then some (⟨b,off,none⟩:Addr) else some ⟨b,off+j,none⟩)=some A∧Hid (∀t u,news[t]? =some u→w.drew.cell? (A.add t)=some u):=by
  by_cases h:cap=j
  ·refine⟨⟨b,off,none⟩,by simp [h],fun t u hu=>?_⟩
   have h0:news.length=0:=by rw[hlen];omega
   rw[List.length_eq_zero_iff.1 h0] at hu
   simp at hu
  ·refine⟨⟨b,off+j,none⟩,by simp [h],fun t u hu=>?_⟩
   have ht:t<d.size - j:=by
    have:=(List.getElem?_eq_some_iff.1 hu).1
    rwa [hlen] at this
   rw[zI t ht] at hu
   rw[Addr.add_lit,show off+j+t=off+(j+t) by omega]
   exact(hH (j+t) (by omega)).1.trans hu
 have s1:Hid (news.length=(d.size - j)*1):=by rw[Nat.mul_one];exact hlen
 have s2:Hid (∀u∈news,u.oneCell'=true):=by
  intro u hu
  rw[u9] at hu
  obtain⟨x,hx,rfl⟩:=List.mem_map.1 hu
  exact h1 x (List.mem_of_mem_drop hx)
 have s3:Hid (∀t,t<news.length→(w.drew.cell? ⟨b,off+i*1+t,none⟩).isSome=true∧w.drew.frozen? ⟨b,off+i*1+t,none⟩=false):=by
  intro t ht
  rw[hlen] at ht
  rw[Nat.mul_one,Nat.add_assoc]
  exact⟨by show(w.cell? _).isSome=true;rw[(hH (i+t) (by omega)).1];rfl,(hH (i+t) (by omega)).2⟩
 obtain⟨W1,hW1⟩:∃W1,W1=w.drew.setCells b (off+i*1) news:=⟨_,rfl⟩
 have hW1':W1=putRow vv (Sort.ahead w 1) b off (lay d i (d.toList.drop j)):=by
  rw[hW1,u9,Nat.mul_one,← putRow_setCells vv (Sort.ahead w 1) b off _ d i (by simp;omega),putRow_self vv (Sort.ahead w 1) b off d (holds_ahead vv w 1 b off d hH)]
  rfl
 have hH1:Holds vv W1 b off (lay d i (d.toList.drop j)):=by rw[hW1'];exact holds_putRow vv _ b off d _ (holds_ahead vv w 1 b off d hH) (lay_size _ _ _)
 have hv:∀w,(zeroValue 28).run Try.prog w=.ok (Value.slice none 0 0) w:=fun w=>by simp [zeroValue,typeInfo,dA,hz0]
 have dO:∀ty,(Builtin.clear_ #[22] ty #[.slice (some ⟨b,off+(i+(d.size - j)),none⟩) (d.size - (i+(d.size - j))) (cap - (i+(d.size - j)))]).run Try.prog W1=.ok (.tuple #[]) (W1.setCells b (off+(i+(d.size - j))) (List.replicate (d.size - (i+(d.size - j))) (Value.slice none 0 0))):=
  fun ty=>Lib.run_clear_slice W1 _ _ ty _ Try.underlying22 hv rfl rfl b (off+(i+(d.size - j))) _ _ (by omega) (fun t ht=>by rw[show off+(i+(d.size - j))+t=off+(i+(d.size - j)+t) by omega,(hH1 _ (by rw[lay_size];omega)).1];rfl) (fun t ht=>by rw[show off+(i+(d.size - j))+t=off+(i+(d.size - j)+t) by omega];exact(hH1 _ (by rw[lay_size];omega)).2)
 have X:Aside (W1=putRow vv (Sort.ahead w 1) b off (lay d i (d.toList.drop j))):=hW1'
 have hW:Hid (W1=w.drew.setCells b (off+i*1) news):=hW1
 have Rs:i≤cap:=by omega
 have RE:j≤cap:=by omega
 have jP:j - i=1:=by omega
 clear hW1 hW1' hH1 hH zI u9 hlen hj h1
 go_enter Try.func67,Try.ntmps67
 go_wp2_with fail
 go_region_law (refine step_append_room rfl (.tmp 22) (.tmp 25) 22 rfl 28 i0 1 Try.underlying22 dA hz1 b off i cap (by simp [Act.eval,Act.put]) A (d.size - j) (cap - j) news (by simp [Act.eval,Act.put]) s1.out Hy.out s2.out (by omega) s3.out ?_;rw[← hW.out])
 go_wp2
 go_ret
 refine⟨by rw[show d.size - (j - i)=i+(d.size - j) by omega];rfl,1,?_⟩
 rw[show [Value.slice none 0 0]=List.replicate (j - i) (Value.slice none 0 0) by rw[jP];rfl]
 rw[← delete_arr d i j _ oJ Qd,← putRow_setCells vv _ b off _ _ (i+(d.size - j)) (by rw[lay_size];simp;omega),← X.out,List.map_replicate,show d.size - (i+(d.size - j))=j - i by omega]
theorem Kc:HD Try.prog 67 (Value.slice none 0 0) where
 enters:=enters_of Try.func67 rfl (by decide)
 calls:=fun b cap i us w h1 h2 h3 h4 h5=>zV b 0 cap i us w h1 h2 h3 h4 h5
end Go.Ab
/- Chapter 23:images of clauses,symmetries. -/
namespace Go.Ab
open Go Go.Proofs
open Nat (reduceAdd reduceSub)
set_option maxRecDepth 20000
set_option maxHeartbeats 4000000
def iH (sym:List Int) (x:Int):Int:=if 0<x then sym.getD (x - 1).toNat 0 else -(sym.getD (-x - 1).toNat 0)
def cL (sym c:List Int):List Int:=c.map (iH sym)
def Cp (sym c:List Int) (i:Nat):List Int:=cL sym (c.take i)++List.replicate (c.length - i) 0
theorem eH (sym c:List Int):Cp sym c 0=List.replicate c.length 0:=by unfold Cp cL;simp
theorem DB (sym c:List Int) {i:Nat} (hi:i≤c.length):(Cp sym c i).length=c.length:=by unfold Cp cL;simp;omega
theorem xF {sym c:List Int} {i:Nat} (hi:i<c.length) {v:Int} (hv:v=iH sym c[i]):(Cp sym c i).set i v=Cp sym c (i+1):=by
 subst hv
 unfold Cp cL
 rw[List.set_append_right _ _ (by rw[List.length_map,List.length_take];omega),List.length_map,List.length_take,Nat.min_eq_left (by omega),Nat.sub_self,bd hi,List.map_append,List.append_assoc]
 congr 1
 obtain⟨k,hk⟩:∃k,c.length - i=k+1:=⟨c.length - i - 1,by omega⟩
 rw[hk,show c.length - (i+1)=k by omega]
 rfl
theorem Fl (sym c:List Int) {i:Nat} (hi:¬i<c.length):Cp sym c i=cL sym c:=by
 unfold Cp
 rw[List.take_of_length_le (by omega),show c.length - i=0 by omega]
 simp
theorem iM (sym c:List Int):(cL sym c).length=c.length:=by unfold cL;simp
attribute [local irreducible] AW aa bM a8 AR bm a_ bs bT canon gO ed iR Cp
theorem uo (sym c:List Int) (hs:Sm sym) (hl:sym.length≤1000000) (hc:c.length≤100000) (hw:ay sym.length c=true):Fn Try.prog 27 [.pv (ints sym),.pv (ints c)] (.pv (ints (cL sym c))):=by
 have hb:=aT hw
 refine Fn.enter (n:=40) Try.func27 rfl rfl rfl rfl rfl (by decide) fun g aY aW=>?_;(try refine nz ?_)
 (refine zq ?_;refine iw ?_;refine zm ?_;refine zn ?_;refine aa.gX rfl rfl rfl rfl rfl rfl rfl rfl rfl rfl (by omega) ?_;refine nz ?_;refine vn ?_;refine iZ ?_;refine zm ?_;refine iv ?_)
 (refine nz ?_;apply AW.ck [12,11,4,0] [] (fun i:Nat=>([(5,.own 0 3 1 ((Cp sym c i).map encI)),(13,aw i)]:List (Nat×AV))) (fun i:Nat=>([(0,some .row)]:List (Nat×Option Ob))) (fun i:Nat=>i≤c.length) (fun i:Nat=>c.length - i) (0);(conv=>lhs;simp only[Nf.jJ,Nf.all,Nat.reduceBEq,reduceAdd,reduceSub]);(all_goals skip))
 ·exact Nat.zero_le _
 ·exact aN rfl (by(refine⟨.aj (by first|rfl|(rw[eH,List.map_replicate];rfl)|(show List.replicate _ _=List.map encI _;rw[eH,List.map_replicate,Int.toNat_natCast];rfl)) rfl,?_⟩;refine⟨.bG (by first|rfl|(rw[eH,List.map_replicate];rfl)|(show List.replicate _ _=List.map encI _;rw[eH,List.map_replicate,Int.toNat_natCast];rfl)),?_⟩;refine⟨.bG (by first|rfl|(rw[eH,List.map_replicate];rfl)|(show List.replicate _ _=List.map encI _;rw[eH,List.map_replicate,Int.toNat_natCast];rfl)),?_⟩;refine⟨.bz (by first|rfl|(rw[eH,List.map_replicate];rfl)|(show List.replicate _ _=List.map encI _;rw[eH,List.map_replicate,Int.toNat_natCast];rfl)),?_⟩;refine⟨.eq rfl rfl,?_⟩;refine⟨.bz (by first|rfl|(rw[eH,List.map_replicate];rfl)|(show List.replicate _ _=List.map encI _;rw[eH,List.map_replicate,Int.toNat_natCast];rfl)),?_⟩;exact trivial)) (by(refine⟨.row rfl,?_⟩;exact trivial)) rfl
 rintro i hi
 have Ao:=DB sym c hi
 by_cases aP:i<c.length
 ·obtain⟨b1,b2,b3⟩:=hb _ (List.getElem_mem aP)
  by_cases hp:0<c[i]
  ·have hj:(c[i] - 1).toNat<sym.length:=by omega
   have hj0:0≤c[i] - 1:=by omega
   have hv:sym[(c[i] - 1).toNat]=iH sym c[i]:=by unfold iH;rw[if_pos hp,List.getD_eq_getElem?_getD,List.getElem?_eq_getElem hj];rfl
   have xW:=xF aP hv
   (refine fF ?_;(focus ((with_reducible apply aa.ak);(iterate 7 exact rfl);rotate_left;omega));refine zr ?_;refine ju ?_;refine mc ?_;refine aa.gtr rfl rfl rfl rfl rfl ?_;refine gG ?_;refine DH ?_;refine aa.sub rfl rfl rfl rfl rfl (by omega) ?_;(focus ((with_reducible apply aa.bH);(iterate 7 exact rfl);omega;rotate_left;(first|omega|exact Nat.zero_lt_one|(simp;done))));refine zr ?_;refine wo ?_;refine aa.bI rfl rfl rfl rfl rfl rfl rfl rfl ?_;refine nz ?_;refine uj ?_)
   exact JH
  ·have hj:(-c[i] - 1).toNat<sym.length:=by omega
   have hj0:0≤ -c[i] - 1:=by omega
   have Aq:=hs _ (List.getElem_mem hj)
   have hv: -sym[(-c[i] - 1).toNat]=iH sym c[i]:=by unfold iH;rw[if_neg hp,List.getD_eq_getElem?_getD,List.getElem?_eq_getElem hj];rfl
   have xW:=xF aP hv
   (refine fF ?_;(focus ((with_reducible apply aa.ak);(iterate 7 exact rfl);rotate_left;omega));refine zr ?_;refine ju ?_;refine mc ?_;refine aa.gtr rfl rfl rfl rfl rfl ?_;refine zd ?_;refine zk ?_;refine DH ?_;refine aa.neg rfl rfl rfl (by omega) ?_;refine aa.sub rfl rfl rfl rfl rfl (by omega) ?_;(focus ((with_reducible apply aa.bH);(iterate 7 exact rfl);omega;rotate_left;(first|omega|exact Nat.zero_lt_one|(simp;done))));refine zr ?_;refine aa.neg rfl rfl rfl (by omega) ?_;refine wo ?_;refine aa.bI rfl rfl rfl rfl rfl rfl rfl rfl ?_;refine nz ?_;refine uj ?_)
   exact JH
 ·rw[Fl _ _ (by omega)]
  (refine ng ?_;refine aa.bt rfl rfl rfl ?_;refine ot ?_)
  (apply az;(exact bD.one (.tmp rfl rfl));(exact Le.own _ _ _ _ rfl))
end Go.Ab
/- Chapter 23:valid symmetries. -/
namespace Go.Ab
open Go Go.Proofs
open Nat (reduceAdd reduceSub)
set_option maxRecDepth 20000
set_option maxHeartbeats 4000000
def jS (n:Nat) (l:List Int):List Bool:=(List.range n).map fun v=>decide ((v+1)∈l.map Int.natAbs)
theorem vb (n:Nat) (l:List Int):(jS n l).length=n:=by unfold jS;simp
theorem mh {n:Nat} {l:List Int} {v:Nat} (h:v<(jS n l).length):(jS n l)[v]=decide ((v+1)∈l.map Int.natAbs):=by unfold jS;simp
theorem fL (n:Nat):jS n []=List.replicate n false:=by
 unfold jS
 rw[List.eq_replicate_iff]
 simp
theorem Bi {n:Nat} {l:List Int} {k v:Nat} (hk:k<l.length) (hv:v+1=l[k].natAbs):(jS n (l.take k)).set v true=jS n (l.take (k+1)):=by
 apply List.ext_getElem
 ·simp [vb]
 ·intro j h1 h2
  rw[List.getElem_set]
  by_cases e:v=j
  ·subst e
   rw[if_pos rfl,mh,bd hk]
   exact(decide_eq_true (List.mem_map.2 ⟨l[k],List.mem_append.2 (.inr (List.mem_singleton.2 rfl)),hv.symm⟩)).symm
  ·rw[if_neg e,mh,mh,bd hk]
   simp only[List.map_append,List.mem_append,List.map_cons,List.map_nil,List.mem_singleton]
   have:¬j+1=l[k].natAbs:=by omega
   simp [this]
theorem pk {l:List Int} {k:Nat} (hk:k<l.length):((l.take (k+1)).map Int.natAbs).Nodup↔((l.take k).map Int.natAbs).Nodup∧l[k].natAbs∉(l.take k).map Int.natAbs:=by
 rw[bd hk,List.map_append,List.nodup_append]
 simp only[List.map_cons,List.map_nil,List.mem_singleton]
 constructor
 ·rintro⟨h1,_,h2⟩
  exact⟨h1,fun h=>h2 _ h _ rfl rfl⟩
 ·rintro⟨h1,h2⟩
  exact⟨h1,by simp,fun a ha b hb e=>h2 (by rw[← hb,← e];exact ha)⟩
theorem z7 {l:List Int} {k:Nat} (hk:k<l.length) (h:l[k].natAbs∈(l.take k).map Int.natAbs):¬(l.map Int.natAbs).Nodup:=fun hn=>by
 have h1:((l.take (k+1)).map Int.natAbs).Nodup:=by
  rw[← List.take_append_drop (k+1) l,List.map_append] at hn
  exact(List.nodup_append.1 hn).1
 exact((pk hk).1 h1).2 h
theorem pZ {α:Type} {p:α→Bool} {l:List α} {k:Nat} (hk:k<l.length):(l.take (k+1)).all p=((l.take k).all p && p l[k]):=by
 rw[bd hk,List.all_append];simp
theorem ma {α:Type} {p:α→Bool} {l:List α} {k:Nat} (hk:k<l.length):(l.take (k+1)).any p=((l.take k).any p||p l[k]):=by
 rw[bd hk,List.any_append];simp
theorem oN {α:Type} {p:α→Bool} {l:List α} {k:Nat} (hk:k<l.length) (h:p l[k]=true):l.any p=true:=List.any_eq_true.2 ⟨_,List.getElem_mem hk,h⟩
theorem vH {α:Type} {p:α→Bool} {l:List α} {k:Nat} (hk:k<l.length) (h:p l[k]=false):l.all p=false:=List.all_eq_false.2 ⟨_,List.getElem_mem hk,by simp [h]⟩
def wK (cl:List (List Int)) (sym c:List Int):Bool:=cl.any fun d=>decide (canon d=canon (cL sym c))
def cN (vars:Int) (cl:List (List Int)) (sym:List Int):Bool:=decide ((sym.length:Int)=vars) && ay vars sym && decide ((sym.map Int.natAbs).Nodup) && cl.all (wK cl sym)
attribute [local irreducible] AW aa bM a8 AR bm a_ bs bT canon gO ed iR jS cL ay
theorem uG (vars:Int) (cl:List (List Int)) (sym:List Int) (hf:Ie vars cl) (hs:sym.length≤100000):Fn Try.prog 13 [Dg vars cl,.pv (ints sym)] (aM (cN vars cl sym)):=by
 have hv:=hf.hv
 have h3:=hf.h3
 have hw:=jt vars sym (by omega)
 by_cases e1:(sym.length:Int)=vars
 ·cases e2:ay vars sym with
  |false=>
   rw[e2] at hw
   have hr:cN vars cl sym=false:=by unfold cN;rw[e2];simp
   rw[hr]
   refine Fn.enter (n:=62) Try.func13 rfl rfl rfl rfl rfl (by decide) fun g aY aW=>?_;(try refine nz ?_)
   (refine G9 ?_;refine xe ?_;refine nB ?_;refine zA (hw) ?_;refine A1 ?_;refine kQ ?_;refine mH ?_)
   (apply az;(exact bD.one (.tmp rfl rfl));(refine Le.aM ?_;(rfl)))
  |true=>
   rw[e2] at hw
   have hb:=aT e2
   obtain⟨n,rfl⟩:∃n:Nat,vars=n:=⟨vars.toNat,by omega⟩
   refine Fn.enter (n:=62) Try.func13 rfl rfl rfl rfl rfl (by decide) fun g aY aW=>?_;(try refine nz ?_)
   (refine G9 ?_;refine xe ?_;refine nB ?_;refine zA (hw) ?_;refine A1 ?_;refine mT ?_;refine ry ?_;refine aa.gX rfl rfl rfl rfl rfl rfl rfl rfl rfl rfl (by omega) ?_;refine nz ?_;refine vn ?_;refine iZ ?_;refine zm ?_;refine iv ?_)
   (refine nz ?_;apply AW.ck [28,27,2,1] [0] (fun i:Nat=>([(5,.own 1 4 1 ((jS n (sym.take i)).map jj)),(29,aw i)]:List (Nat×AV))) (fun i:Nat=>([(1,some .row)]:List (Nat×Option Ob))) (fun i:Nat=>i≤sym.length∧((sym.take i).map Int.natAbs).Nodup) (fun i:Nat=>sym.length - i) (0);(conv=>lhs;simp only[Nf.jJ,Nf.all,Nat.reduceBEq,reduceAdd,reduceSub]);(all_goals skip))
   ·exact⟨Nat.zero_le _,by simp⟩
   ·exact aN rfl (by(refine⟨.aj (by first|rfl|(rw[List.take_zero,fL,List.map_replicate];rfl)) rfl,?_⟩;refine⟨.bG (by first|rfl|(rw[List.take_zero,fL,List.map_replicate];rfl)),?_⟩;refine⟨.bG (by first|rfl|(rw[List.take_zero,fL,List.map_replicate];rfl)),?_⟩;refine⟨.bz (by first|rfl|(rw[List.take_zero,fL,List.map_replicate];rfl)),?_⟩;refine⟨.eq rfl rfl,?_⟩;refine⟨.bz (by first|rfl|(rw[List.take_zero,fL,List.map_replicate];rfl)),?_⟩;exact trivial)) (by(refine⟨.row rfl,?_⟩;refine⟨.box _ rfl ?_,?_⟩;refine⟨.bG (by first|rfl|(rw[List.take_zero,fL,List.map_replicate];rfl)),?_⟩;refine⟨.bz (by first|rfl|(rw[List.take_zero,fL,List.map_replicate];rfl)),?_⟩;(iterate 2 exact trivial))) rfl
   rintro i ⟨hi,dt⟩
   have rE:=vb n (sym.take i)
   by_cases aP:i<sym.length
   ·obtain⟨b1,b2,b3⟩:=hb _ (List.getElem_mem aP)
    have J0:(max sym[i] (-sym[i]) - 1).toNat<(jS n (sym.take i)).length:=by rw[rE];omega
    have Hz:(max sym[i] (-sym[i]) - 1).toNat+1=sym[i].natAbs:=by omega
    have hg:=mh J0
    rw[Hz] at hg
    by_cases hm:sym[i].natAbs∈(sym.take i).map Int.natAbs
    ·rw[decide_eq_true hm] at hg
     have hr:cN n cl sym=false:=by unfold cN;rw[decide_eq_false (z7 aP hm)];simp
     rw[hr]
     (refine Dc ?_;(focus ((with_reducible apply aa.ak);(iterate 7 exact rfl);rotate_left;omega));refine zr ?_;refine iw ?_;refine B6 ?_;refine aa.sub rfl rfl rfl rfl rfl (by omega) ?_;refine jX ?_;refine fV ?_;refine qn ?_;refine mD ?_;(focus ((with_reducible apply aa.aC);(iterate 4 exact rfl);exact(fun h_=>by cases h_);rotate_left;(first|omega|exact Nat.zero_lt_one|(simp;done))));refine zd ?_;refine AW.wB rfl rfl (by assumption) ?_;refine fV ?_;refine mH ?_;refine Bj ?_)
     (apply az;(exact bD.one (.tmp rfl rfl));(refine Le.aM ?_;(rfl)))
    ·rw[decide_eq_false hm] at hg
     have xW:=Bi (n:=n) aP Hz
     (refine Dc ?_;(focus ((with_reducible apply aa.ak);(iterate 7 exact rfl);rotate_left;omega));refine zr ?_;refine iw ?_;refine B6 ?_;refine aa.sub rfl rfl rfl rfl rfl (by omega) ?_;refine jX ?_;refine fV ?_;refine qn ?_;refine mD ?_;(focus ((with_reducible apply aa.aC);(iterate 4 exact rfl);exact(fun h_=>by cases h_);rotate_left;(first|omega|exact Nat.zero_lt_one|(simp;done))));refine zd ?_;refine AW.r7 rfl rfl (by assumption) ?_;refine oc ?_;refine AW.region ?_;refine nz ?_;refine qn ?_;refine mD ?_;refine aa.bI rfl rfl rfl rfl rfl rfl rfl rfl ?_;refine nz ?_;refine uj ?_)
     exact⟨i+1,⟨by omega,(pk aP).2 ⟨dt,hm⟩⟩,by omega,aN rfl (by(refine⟨.aj (by first|rfl|(rw[← xW,List.map_set];rfl)) rfl,?_⟩;refine⟨.bG (by first|rfl|(rw[← xW,List.map_set];rfl)),?_⟩;refine⟨.bG (by first|rfl|(rw[← xW,List.map_set];rfl)),?_⟩;refine⟨.bz (by first|rfl|(rw[← xW,List.map_set];rfl)),?_⟩;refine⟨.eq rfl rfl,?_⟩;refine⟨.bz (by first|rfl|(rw[← xW,List.map_set];rfl)),?_⟩;exact trivial)) (by(refine⟨.row rfl,?_⟩;refine⟨.box _ rfl ?_,?_⟩;refine⟨.bG (by first|rfl|(rw[← xW,List.map_set];rfl)),?_⟩;refine⟨.bz (by first|rfl|(rw[← xW,List.map_set];rfl)),?_⟩;(iterate 2 exact trivial))) rfl⟩
   ·rw[cz (l:=sym) (by omega)] at dt
    have hr:cN n cl sym=cl.all (wK cl sym):=by unfold cN;rw[decide_eq_true e1,e2,decide_eq_true dt];simp
    rw[hr]
    (refine zq ?_;refine xB ?_;refine iZ ?_;refine uV ?_;refine iv ?_)
    (refine nz ?_;apply AW.ck [48,47,2,1] [0] (fun k:Nat=>([(49,aw k)]:List (Nat×AV))) (fun k:Nat=>([]:List (Nat×Option Ob))) (fun k:Nat=>k≤cl.length∧(cl.take k).all (wK cl sym)=true) (fun k:Nat=>cl.length - k) (0);(conv=>lhs;simp only[Nf.jJ,Nf.all,Nat.reduceBEq,reduceAdd,reduceSub]);(all_goals skip))
    ·exact⟨Nat.zero_le _,rfl⟩
    ·exact JJ
    rintro k ⟨hk,kO⟩
    by_cases vq:k<cl.length
    ·obtain⟨c1,c2⟩:=hf.dO _ (List.getElem_mem vq)
     rw[← e1] at c1
     have yy:=nh hv e2
     have Ap:=uo sym cl[k] yy (by omega) c2 c1
     have oK:=iM sym cl[k]
     have has:=pZ (p:=wK cl sym) vq
     rw[kO,Bool.true_and] at has
     have zW:wK cl sym cl[k]=cl.any fun d=>decide (canon d=canon (cL sym cl[k])):=rfl
     generalize cL sym cl[k]=mp at Ap oK zW
     (refine Dc ?_;(focus ((with_reducible apply aa.ak);(iterate 7 exact rfl);rotate_left;omega));refine zr ?_;refine iw ?_;(iterate 2 refine zm ?_);refine zP (Ap) ?_;refine sZ ?_;refine xO ?_;refine zd ?_;refine zq ?_;refine uV ?_;refine aa.gQ rfl rfl rfl ?_;(with_reducible apply aa.inline (hf:=Try.func28));(with_reducible assumption);(iterate 10 exact rfl);intro g_ aY aW;refine np ?_;refine zm ?_;refine aa.eI rfl rfl rfl ?_;(with_reducible apply aa.inline (hf:=Try.func58));(with_reducible assumption);(iterate 10 exact rfl);intro g_ aY aW;refine nz ?_;refine nM ?_;refine zm ?_;refine iv ?_)
     (refine nz ?_;apply AW.ck [7,0,1,1006,1005,1004,1000,1001,2058,2057,2056,2011,2049,2048,2047,2002,2001] [2,0] (fun j:Nat=>([(8,aw j)]:List (Nat×AV))) (fun j:Nat=>([]:List (Nat×Option Ob))) (fun j:Nat=>j≤cl.length∧(cl.take j).any (fun d=>decide (canon d=canon mp))=false) (fun j:Nat=>cl.length - j) (0);(conv=>lhs;simp only[Nf.jJ,Nf.all,Nat.reduceBEq,reduceAdd,reduceSub]);(all_goals skip))
     ·exact⟨Nat.zero_le _,rfl⟩
     ·exact JJ
     rintro j ⟨hj,sK⟩
     by_cases kR:j<cl.length
     ·obtain⟨d1,d2⟩:=hf.dO _ (List.getElem_mem kR)
      have heq:=CA cl[j] mp (by omega) (by omega)
      have vh:=ma (p:=fun d=>decide (canon d=canon mp)) kR
      rw[sK,Bool.false_or] at vh
      by_cases he:canon cl[j]=canon mp
      ·rw[decide_eq_true he] at heq
       have hy:wK cl sym cl[k]=true:=by rw[zW];exact oN kR (decide_eq_true he)
       rw[hy] at has
       clear zW
       (refine tb ?_;(focus ((with_reducible apply aa.ak);(iterate 7 exact rfl);rotate_left;omega));refine zr ?_;(with_reducible apply aa.inline (hf:=Try.func29));(with_reducible assumption);(iterate 10 exact rfl);intro g_ aY aW;refine np ?_;refine zm ?_;refine zb ?_;refine zA (heq) ?_;refine e_ ?_;refine oO ?_;refine AU ?_;refine oz ?_;refine mR ?_)
       exact⟨k+1,⟨by omega,has⟩,by omega,aN rfl (by(first|(refine⟨.eq rfl rfl,?_⟩;(iterate 17 refine⟨.eq rfl rfl,?_⟩);exact trivial)|(refine⟨.eq rfl rfl,?_⟩;(iterate 4 refine⟨.eq rfl rfl,?_⟩);exact trivial))) (by(first|(refine⟨.box _ rfl ?_,?_⟩;refine⟨.eq rfl rfl,?_⟩;exact trivial;refine⟨.box _ rfl ?_,?_⟩;(iterate 2 refine⟨.eq rfl rfl,?_⟩);(iterate 2 exact trivial))|(refine⟨.box _ rfl ?_,?_⟩;(iterate 2 refine⟨.eq rfl rfl,?_⟩);(iterate 2 exact trivial)))) rfl⟩
      ·rw[decide_eq_false he] at heq vh
       clear zW
       (refine tb ?_;(focus ((with_reducible apply aa.ak);(iterate 7 exact rfl);rotate_left;omega));refine zr ?_;(with_reducible apply aa.inline (hf:=Try.func29));(with_reducible assumption);(iterate 10 exact rfl);intro g_ aY aW;refine np ?_;refine zm ?_;refine zb ?_;refine zA (heq) ?_;refine e_ ?_;refine oO ?_;refine oz ?_;refine vg ?_)
       exact⟨j+1,⟨by omega,vh⟩,by omega,aN rfl (by(first|(refine⟨.eq rfl rfl,?_⟩;(iterate 17 refine⟨.eq rfl rfl,?_⟩);exact trivial)|(refine⟨.eq rfl rfl,?_⟩;(iterate 4 refine⟨.eq rfl rfl,?_⟩);exact trivial))) (by(first|(refine⟨.box _ rfl ?_,?_⟩;refine⟨.eq rfl rfl,?_⟩;exact trivial;refine⟨.box _ rfl ?_,?_⟩;(iterate 2 refine⟨.eq rfl rfl,?_⟩);(iterate 2 exact trivial))|(refine⟨.box _ rfl ?_,?_⟩;(iterate 2 refine⟨.eq rfl rfl,?_⟩);(iterate 2 exact trivial)))) rfl⟩
     ·rw[cz (l:=cl) (by omega)] at sK
      rw[sK] at zW
      rw[vH vq zW]
      (refine ng ?_;refine e_ ?_;refine Km ?_;refine kQ ?_;refine lP ?_)
      (apply az;(exact bD.one (.tmp rfl rfl));(refine Le.aM ?_;(rfl)))
    ·rw[cz (l:=cl) (by omega)] at kO
     rw[kO]
     (refine ng ?_;refine e_ ?_)
     (apply az;(exact bD.one (.tmp rfl rfl));(refine Le.aM ?_;(rfl)))
 ·have hr:cN vars cl sym=false:=by unfold cN;rw[decide_eq_false e1];simp
  rw[hr]
  refine Fn.enter (n:=62) Try.func13 rfl rfl rfl rfl rfl (by decide) fun g aY aW=>?_;(try refine nz ?_)
  (refine G9 ?_;(iterate 5 refine aa.dK rfl rfl rfl rfl rfl rfl (by with_reducible assumption) ?_);refine zT ?_;refine kQ ?_;refine mH ?_)
  (apply az;(exact bD.one (.tmp rfl rfl));(refine Le.aM ?_;(rfl)))
end Go.Ab
