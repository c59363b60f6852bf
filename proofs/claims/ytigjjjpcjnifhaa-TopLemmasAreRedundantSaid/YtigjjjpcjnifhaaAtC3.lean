/- Chapter 20, the reference's small functions: what each computes, and its walk. -/
import Derived.Test.YtigjjjpcjnifhaaRows
import Derived.Test.YtigjjjpcjnifhaaAbZ
import Derived.Test.YtigjjjpcjnifhaaAbL2
import Derived.Test.YtigjjjpcjnifhaaAbL3
import Derived.Shelf.Strconv.Itoa0
import Derived.Shelf.Sort.Plain
import Derived.Shelf.Slices.Equal
import Derived.Ground.Names2Prog
import Derived.Shelf.Slices.CompactI
import Derived.Shelf.Slices.SearchI
import Derived.Shelf.Slices.Cells
import Derived.Shelf.Slices.In.SortNone
import Derived.Shelf.Slices.Empties2
import Derived.Test.YtigjjjpcjnifhaaProg
import Derived.Lib.SlicesCompact
import Derived.WalkKit
import Derived.Deep.RegionLaw
import Derived.Deep.LoopGhost
import Derived.Lib.Walk
import Derived.Lib.SliceRun
import Derived.Lib.SlicesDelete
import Derived.Sort.WalkB12
set_option linter.unusedSimpArgs false
set_option linter.unusedVariables false
namespace Go.Ab
open Go Go.Proofs
set_option maxRecDepth 20000
set_option maxHeartbeats 4000000
attribute [local irreducible] AW AOps thenD inBlockD
theorem take_succ_get {α:Type} {l:List α} {k:Nat} (hk:k<l.length):l.take (k+1)=l.take k++ [l[k]]:=List.take_succ_eq_append_getElem hk
theorem take_all {α:Type} {l:List α} {k:Nat} (h:¬(k:Int)<(l.length:Int)):l.take k=l:=List.take_of_length_le (by omega)
theorem take_not {l:List Int} {x:Int} {k:Nat} (h1:x∉l.take k) (hk:k<l.length) (h2:¬l[k]=x):x∉l.take (k+1):=by
 rw[take_succ_get hk,List.mem_append]
 simp [h1,Ne.symm h2]
def Sm (l:List Int):Prop:=∀x∈l,-1000000000000≤x∧x≤1000000000000
def withinM (vars:Int) (l:List Int):Bool:=l.all fun x=>decide (x≠0∧x≤vars∧0 - vars≤x)
theorem withinM_no {vars:Int} {l:List Int} {k:Nat} (hk:k<l.length) (h:¬(l[k]≠0∧l[k]≤vars∧0 - vars≤l[k])):withinM vars l=false:=by
 unfold withinM
 rw[List.all_eq_false]
 exact⟨l[k],List.getElem_mem hk,by simpa using h⟩
def contraM (l:List Int):Bool:=l.any fun x=>decide ((0 - x)∈l)
theorem contraM_yes {l:List Int} {k:Nat} (hk:k<l.length) (h:(0 - l[k])∈l):contraM l=true:=by
 unfold contraM;rw[List.any_eq_true];exact⟨l[k],List.getElem_mem hk,by simpa using h⟩
end Go.Ab
/- Chapter 20,the reference's run:what each function computes,and its walk. -/
namespace Go.Ab
open Go Go.Proofs
set_option maxRecDepth 20000
set_option maxHeartbeats 4000000
attribute [local irreducible] AW AOps thenD inBlockD
abbrev fml (vars:Int) (cl:List (List Int)):AV:=.agg [litI vars,.pv (intss cl)]
def validM (vars:Int) (cl:List (List Int)):Bool:=decide (0≤vars∧vars≤20000∧(cl.length:Int)≤60000) && cl.all (withinM vars)
theorem validM_out {vars:Int} {cl:List (List Int)} (h:¬(0≤vars∧vars≤20000∧(cl.length:Int)≤60000)):validM vars cl=false:=by
 simp only[validM,decide_eq_false h,Bool.false_and]
def statusFrom (trail:List Int):List Int→Int→Int×Int
 |[],left=>if left=0 then (1,0) else (2,left)
 |x::c,left=>if x∈trail∨((0 - x)∉trail∧left≠0∧left≠x) then (0,0) else statusFrom trail c (if (0 - x)∈trail then left else x)
def statusM (c trail:List Int):Int×Int:=statusFrom trail c 0
end Go.Ab
/- Chapter 20,the reference's trail:one step,the run. -/
namespace Go.Ab
open Go Go.Proofs
set_option maxRecDepth 20000
set_option maxHeartbeats 4000000
attribute [local irreducible] AW AOps thenD inBlockD
abbrev Tr:=List Int×List Int×Int
def stepFrom (t:Tr):Int→List (List Int)→Tr×Bool
 |_,[]=>(t,false)
 |i,c::cl=>if (statusM c t.1).1=1 then ((t.1,t.2.1,i),false) else if (statusM c t.1).1=2 then ((t.1++ [(statusM c t.1).2],t.2.1++ [i],t.2.2),true) else stepFrom t (i+1) cl
def stepM (cl:List (List Int)) (t:Tr):Tr×Bool:=stepFrom t 0 cl
theorem stepFrom_drop (t:Tr) (cl:List (List Int)) (k:Nat) (h:k<cl.length):stepFrom t k (cl.drop k)=
  if (statusM cl[k] t.1).1=1 then ((t.1,t.2.1,(k:Int)),false) else if (statusM cl[k] t.1).1=2 then ((t.1++ [(statusM cl[k] t.1).2],t.2.1++ [(k:Int)],t.2.2),true) else stepFrom t (k+1:Nat) (cl.drop (k+1)):=by
 rw[List.drop_eq_getElem_cons h];rfl
end Go.Ab
/- Chapter 20,the reference's run. -/
namespace Go.Ab
open Go Go.Proofs
set_option maxRecDepth 20000
set_option maxHeartbeats 4000000
attribute [local irreducible] AW AOps thenD inBlockD
def addA (t:Tr) (x:Int):Tr:=if x∈t.1 then t else (t.1++ [x],t.2.1++ [-1],t.2.2)
def startM (assume:List Int):Tr:=assume.foldl addA ([],[],-1)
def runLoop (cl:List (List Int)):Nat→Tr→Tr
 |0,t=>t
 |n+1,t=>if (stepM cl t).2 then runLoop cl n (stepM cl t).1 else (stepM cl t).1
def runM (vars:Int) (cl:List (List Int)) (assume:List Int):Tr:=runLoop cl (vars+1).toNat (startM assume)
theorem addA_len (t:Tr) (x:Int):(addA t x).1.length≤t.1.length+1∧(addA t x).2.1.length≤t.2.1.length+1:=by
 unfold addA;split<;>simp
theorem foldA_len (l:List Int):∀t:Tr,(l.foldl addA t).1.length≤t.1.length+l.length∧(l.foldl addA t).2.1.length≤t.2.1.length+l.length:=by
 induction l with
 |nil=>intro t;simp
 |cons x l ih=>intro t;have h1:=ih (addA t x);have h2:=addA_len t x;simp only[List.foldl_cons,List.length_cons];omega
theorem startM_len (assume:List Int):(startM assume).1.length≤assume.length∧(startM assume).2.1.length≤assume.length:=by
 have:=foldA_len assume ([],[],-1);simpa [startM] using this
theorem startM_succ {assume:List Int} {k:Nat} (h:k<assume.length):startM (assume.take (k+1))=addA (startM (assume.take k)) assume[k]:=by
 unfold startM;rw[take_succ_get h,List.foldl_append];rfl
end Go.Ab
/- Chapter 20,the reference's answers. -/
namespace Go.Ab
open Go Go.Proofs
set_option maxRecDepth 20000
set_option maxHeartbeats 4000000
attribute [local irreducible] AW AOps thenD inBlockD
def findM (l:List Int) (x:Int):Int:=if x∈l then (l.idxOf x:Int) else -1
theorem findM_at {l:List Int} {x:Int} {k:Nat} (hk:k<l.length) (h:l[k]=x) (hno:x∉l.take k):(k:Int)=findM l x:=by
 have hm:x∈l:=h▸List.getElem_mem hk
 rw[findM,if_pos hm]
 have:l.idxOf x=k:=by
  have e:l=l.take k++x::l.drop (k+1):=by
   rw[← h,List.getElem_cons_drop,List.take_append_drop]
  rw[e,List.idxOf_append,if_neg hno,List.idxOf_cons_self]
  simp;omega
 rw[this]
def impl (l:List (Int×Int)):List (Int×Int):=l.filter fun p=>decide (0≤p.2)
def pr (t:Tr):List (Int×Int):=t.1.zip t.2.1
def refPropM (vars:Int) (cl:List (List Int)) (assume:List Int):List Int×Int:=
 if contraM assume=true then ([],-2) else ((impl (pr (runM vars cl assume))).map (·.1),(runM vars cl assume).2.2)
def Even (t:Tr):Prop:=t.2.1.length=t.1.length
theorem even_add {t:Tr} (h:Even t) (x:Int):Even (addA t x):=by
 unfold addA Even at*;split<;>simp [h]
theorem even_start (assume:List Int):Even (startM assume):=by
 have:∀(l:List Int) (t:Tr),Even t→Even (l.foldl addA t):=by
  intro l
  induction l with
  |nil=>intro t h;exact h
  |cons x l ih=>intro t h;exact ih _ (even_add h x)
 exact this assume _ rfl
end Go.Ab
/- Chapter 20,the reference's answers:reasons,implied clauses. -/
namespace Go.Ab
open Go Go.Proofs
set_option maxRecDepth 20000
set_option maxHeartbeats 4000000
attribute [local irreducible] AW AOps thenD inBlockD
def refImplM (vars:Int) (cl:List (List Int)) (c:List Int):Bool:=
 if contraM (c.map fun x=>0 - x)=true then true else decide (0≤(runM vars cl (c.map fun x=>0 - x)).2.2)
theorem sm_neg {l:List Int} (h:Sm l):Sm (l.map fun x=>0 - x):=by
 intro x hx
 obtain⟨y,hy,rfl⟩:=List.mem_map.1 hx
 have:=h y hy
 omega
end Go.Ab
/- Chapter 20:the library's search,the closure. -/
namespace Go.Ab
open Go Go.Proofs
set_option maxRecDepth 20000
set_option maxHeartbeats 4000000
attribute [local irreducible] AW AOps thenD inBlockD
theorem index_fn (l:List Int) (x:Int):Fn Try.prog 62 [.pv (ints l),litI x] (litI (findM l x)):=by
 refine Fn.enter (n:=19) Try.func62 rfl rfl rfl rfl rfl (by decide) fun g hro_ hwt_=>?_;(try refine nz ?_)
 refine AW.len_map 0 rfl fun hlen=>?_
 (refine Q173 ?_;refine Q305 ?_)
 refine AW.loop (fun(k:Nat)=>{n:=19,env:=[(0,.pv (ints l)),(1,litI x),(7,litI l.length),(8,litI k)],objs:=[],nx:=0}) (fun k=>k≤l.length∧x∉l.take k) (fun k=>l.length - k) 0 ?_ ?_ ?_
 ·simp
 ·exact weak rfl (by(refine⟨.eq rfl rfl,?_⟩;(iterate 3 refine⟨.eq rfl rfl,?_⟩);exact trivial)) (by(exact trivial)) rfl
 rintro k ⟨hk,hno⟩
 (refine Q266 ?_;(focus ((with_reducible apply AW.condD);exact rfl;exact rfl;all_goals intro hc_));refine Q37 ?_;refine zo ?_;refine AW.block ?_;refine Q262 ?_;refine Q145 ?_;(iterate 3 refine zm ?_);(focus ((with_reducible apply AOps.index_map);(iterate 7 exact rfl);rotate_left;omega));refine zr ?_;refine AOps.eql rfl rfl rfl rfl rfl ?_;refine zd ?_;(focus ((with_reducible apply AW.condD);exact rfl;exact rfl;all_goals intro hc_));refine Q262 ?_;refine Q28 ?_;refine Q17 ?_;(all_goals skip);rotate_left;refine Q270 ?_;(all_goals skip);rotate_left;refine Q14 ?_;refine Q195 ?_;(all_goals skip);rotate_left)
 ·exact ends_ret (.one (.tmp rfl rfl)) (.litI (findM_at (l:=l) (by omega) hc_.symm hno))
 ·exact⟨k+1,⟨by omega,take_not (l:=l) hno (by omega) (Ne.symm hc_)⟩,by omega,weak rfl (by(refine⟨.eq rfl rfl,?_⟩;(iterate 3 refine⟨.eq rfl rfl,?_⟩);exact trivial)) (by(exact trivial)) rfl⟩
 ·exact ends_ret (.one (.tmp rfl rfl)) (.litI (by rw[take_all (l:=l) (by omega)] at hno;rw[findM,if_neg hno]))
theorem findM_has (l:List Int) (x:Int):decide (0≤findM l x)=decide (x∈l):=by
 unfold findM
 by_cases h:x∈l
 ·rw[if_pos h];simp [h]
 ·rw[if_neg h];simp [h]
theorem contains_fn (l:List Int) (x:Int):Fn Try.prog 33 [.pv (ints l),litI x] (litB (decide (x∈l))):=by
 refine Fn.enter (n:=9) Try.func33 rfl rfl rfl rfl rfl (by decide) fun g hro_ hwt_=>?_;(try refine nz ?_)
 (refine zq ?_;refine Q145 ?_;(iterate 2 refine zm ?_);refine AOps.call (index_fn _ _) (.cons rfl (.pv _) (.cons rfl (.pv _) .nil)) rfl rfl (fun h_=>by cases h_) ?_;refine Q256 ?_)
 (apply ends_ret;(exact Res.one (.tmp rfl rfl));(refine Le.litB ?_;(exact findM_has l x)))
end Go.Ab
/- Chapter 20:unitprop's test for contradictory literals. -/
namespace Go.Ab
open Go Go.Proofs
set_option maxRecDepth 20000
set_option maxHeartbeats 4000000
attribute [local irreducible] AW AOps thenD inBlockD
theorem contra_fn (l:List Int) (hs:Sm l):Fn Try.prog 24 [.pv (ints l)] (litB (contraM l)):=by
 refine Fn.enter (n:=6) Try.func24 rfl rfl rfl rfl rfl (by decide) fun g hro_ hwt_=>?_;(try refine nz ?_)
 refine AW.len_map 0 rfl fun hlen=>?_
 (refine zq ?_;refine Q42 ?_;refine Q52 ?_;refine zb ?_;refine AOps.makeFunc_c rfl rfl rfl ?_;(with_reducible apply AOps.inline (hf:=Try.func53));(with_reducible assumption);(iterate 10 exact rfl);intro g_ hro_ hwt_;refine Q247 ?_;refine zm ?_;refine AOps.move_clo rfl rfl rfl ?_;(with_reducible apply AOps.inline (hf:=Try.func69));(with_reducible assumption);(iterate 10 exact rfl);intro g_ hro_ hwt_;refine Q131 ?_;refine Q61 ?_;refine Q305 ?_)
 refine AW.loop (fun(k:Nat)=>{n:=19,env:=[(0,.pv (ints l)),(1,.clo (.func 54) [] [.ptr 0 0]),(7,litI l.length),(8,litI k)],objs:=[(0,some (.box [.pv (ints l)]))],nx:=1}) (fun k=>k≤l.length∧(∀x∈l.take k,(0 - x)∉l)) (fun k=>l.length - k) 0 ?_ ?_ ?_
 ·simp
 ·exact weak rfl (by(refine⟨.eq rfl rfl,?_⟩;(iterate 3 refine⟨.eq rfl rfl,?_⟩);exact trivial)) (by(refine⟨.box _ rfl ?_,?_⟩;refine⟨.eq rfl rfl,?_⟩;(iterate 2 exact trivial))) rfl
 rintro k ⟨hk,hno⟩
 by_cases hlt:k<l.length
 ·have hx:=hs _ (List.getElem_mem hlt)
  (refine Q243 ?_;(focus ((with_reducible apply AOps.index_map);(iterate 7 exact rfl);rotate_left;omega));refine zr ?_;(with_reducible apply AOps.inline (hf:=Try.func54));(with_reducible assumption);(iterate 10 exact rfl);intro g_ hro_ hwt_;refine Q247 ?_;refine Q130 ?_;refine AOps.neg rfl rfl rfl (by omega) ?_;refine AOps.call (contains_fn _ _) (.cons rfl (.pv _) (.cons rfl (.pv _) .nil)) rfl rfl (fun h_=>by cases h_) ?_;refine Q28 ?_;refine Q64 ?_;refine zd ?_;(focus ((with_reducible apply AW.condD);exact rfl;exact rfl;all_goals intro hc_));refine Q238 ?_;refine Q64 ?_;refine Q256 ?_;refine Q64 ?_;refine Q28 ?_;(all_goals skip);rotate_left;refine Q136 ?_;refine Q79 ?_;(all_goals skip);rotate_left)
  ·(apply ends_ret;(exact Res.one (.tmp rfl rfl));(refine Le.litB ?_;(rw[contraM_yes hlt (by rw[Int.zero_sub];exact hc_)];simp)))
  ·exact⟨k+1,⟨by omega,by rw[take_succ_get hlt];intro x hx;rcases List.mem_append.1 hx with h|h;exact hno x h;simp only[List.mem_singleton] at h;subst h;rw[Int.zero_sub];exact hc_⟩,by omega,weak rfl (by(exact Q265)) (by(refine⟨.box _ rfl ?_,?_⟩;refine⟨.eq rfl rfl,?_⟩;(iterate 2 exact trivial))) rfl⟩
 ·(refine Q208 ?_;refine Q195 ?_;refine Q64 ?_;refine Q256 ?_;refine Q64 ?_;refine Q28 ?_)
  have hf:contraM l=false:=by rw[take_all (l:=l) (by omega)] at hno;unfold contraM;rw[List.any_eq_false];simpa using hno
  (apply ends_ret;(exact Res.one (.tmp rfl rfl));(refine Le.litB ?_;(rw[hf];rfl)))
end Go.Ab
/- Chapter 20:unitprop's run,the plain part:what open and active compute,beside the reference's step. -/
namespace Go.Ab
open Go Go.Proofs
set_option maxRecDepth 20000
set_option maxHeartbeats 4000000
def openFrom (tr:List Int):List Int→List Int→Option (List Int)
 |[],out=>some out
 |x::c,out=>if x∈tr then none else openFrom tr c (if (-x)∉tr∧x∉out then out++ [x] else out)
theorem openFrom_drop (tr c:List Int) (k:Nat) (out:List Int) (h:k<c.length):openFrom tr (c.drop k) out=
  if c[k]∈tr then none else openFrom tr (c.drop (k+1)) (if (-c[k])∉tr∧c[k]∉out then out++ [c[k]] else out):=by
 rw[List.drop_eq_getElem_cons h];rfl
theorem openFrom_pre (tr:List Int):∀(c out r:List Int),openFrom tr c out=some r→∃s,r=out++s:=by
 intro c
 induction c with
 |nil=>intro out r h;simp only[openFrom,Option.some.injEq] at h;exact⟨[],by simp [h]⟩
 |cons x c ih=>
  intro out r h
  unfold openFrom at h
  split at h
  ·cases h
  ·obtain⟨s,hs⟩:=ih _ _ h
   split at hs
   ·exact⟨x::s,by simpa using hs⟩
   ·exact⟨s,hs⟩
def stOf:Option (List Int)→Int×Int
 |none=>(0,0)
 |some []=>(1,0)
 |some [x]=>(2,x)
 |some _=>(0,0)
theorem stOf_long {tr c out:List Int} (h:2≤out.length):stOf (openFrom tr c out)=(0,0):=by
 cases hc:openFrom tr c out with
 |none=>rfl
 |some r=>
  obtain⟨s,rfl⟩:=openFrom_pre tr c out r hc
  match out,h with
  |a::b::out,_=>rfl
theorem status_open (tr:List Int):∀(c:List Int),(∀x∈c,x≠0)→
  (statusFrom tr c 0=stOf (openFrom tr c []))∧∀l,l≠0→statusFrom tr c l=stOf (openFrom tr c [l]):=by
 intro c
 induction c with
 |nil=>intro _;exact⟨rfl,fun l hl=>by simp [statusFrom,openFrom,stOf,hl]⟩
 |cons x c ih=>
  intro h
  have hx:x≠0:=h x (by simp)
  obtain⟨i1,i2⟩:=ih fun y hy=>h y (by simp [hy])
  have e:(0:Int) - x= -x:=by omega
  refine⟨?_,fun l hl=>?_⟩
  ·unfold statusFrom openFrom
   by_cases h1:x∈tr
   ·simp [h1,stOf]
   ·by_cases h2:(-x)∈tr
    ·simp [h1,h2,e,i1]
    ·simp only[h1,h2,e,false_or,not_false_eq_true,true_and,ne_eq,not_true_eq_false,false_and,and_false,if_false,List.not_mem_nil,if_true,List.nil_append]
     exact i2 x hx
  ·unfold statusFrom openFrom
   by_cases h1:x∈tr
   ·simp [h1,stOf]
   ·by_cases h2:(-x)∈tr
    ·simp only[h1,h2,e,false_or,not_true_eq_false,false_and,if_false,if_true]
     exact i2 l hl
    ·by_cases h3:l=x
     ·subst h3
      simp only[h1,h2,e,false_or,not_false_eq_true,true_and,ne_eq,not_true_eq_false,and_false,if_false,List.mem_singleton]
      exact i2 l hl
     ·rw[if_pos (.inr ⟨by rw[e];exact h2,hl,h3⟩),if_neg h1,if_pos ⟨h2,by simp;exact fun e=>h3 e.symm⟩]
      exact(stOf_long (by simp)).symm
theorem statusM_open (c tr:List Int) (h:∀x∈c,x≠0):statusM c tr=stOf (openFrom tr c []):=(status_open tr c h).1
theorem openFrom_mem (tr:List Int):∀(c out r:List Int),openFrom tr c out=some r→(∀y∈out,y∉tr∧(-y)∉tr)→∀y∈r,(y∈out∨y∈c)∧y∉tr∧(-y)∉tr:=by
 intro c
 induction c with
 |nil=>intro out r h ho y hy;simp only[openFrom,Option.some.injEq] at h;subst h;exact⟨.inl hy,ho y hy⟩
 |cons x c ih=>
  intro out r h ho y hy
  unfold openFrom at h
  split at h
  ·cases h
  ·rename_i hx
   split at h
   ·rename_i h2
    have:=ih _ _ h (by intro z hz;rcases List.mem_append.1 hz with hz|hz;exact ho z hz;simp at hz;subst hz;exact⟨hx,h2.1⟩) y hy
    refine⟨?_,this.2⟩
    rcases this.1 with h3|h3
    ·rcases List.mem_append.1 h3 with h3|h3
     ·exact .inl h3
     ·simp at h3;subst h3;exact .inr (by simp)
    ·exact .inr (by simp [h3])
   ·have:=ih _ _ h ho y hy
    exact⟨this.1.imp id (fun h=>by simp [h]),this.2⟩
def Dist (vars:Int) (l:List Int):Prop:=(l.map Int.natAbs).Nodup∧∀x∈l,x≠0∧x≤vars∧ -vars≤x
theorem nodup_le:∀(n:Nat) {l:List Nat},l.Nodup→(∀x∈l,1≤x∧x≤n)→l.length≤n:=by
 intro n
 induction n with
 |zero=>intro l _ h;cases l with|nil=>simp|cons x l=>have:=h x (by simp);omega
 |succ n ih=>
  intro l hn h
  have h1:=ih (l:=l.erase (n+1)) (hn.erase _) (fun x hx=>by
   have h2:=h x (List.mem_of_mem_erase hx)
   have h3:x≠n+1:=fun e=>by subst e;exact(List.Nodup.not_mem_erase hn) hx
   omega)
  have:=List.length_erase (a:=n+1) (l:=l)
  split at this<;>omega
theorem Dist.len {vars:Int} {l:List Int} (h:Dist vars l):(l.length:Int)≤max vars 0:=by
 have:=nodup_le vars.toNat h.1 (fun x hx=>by
  obtain⟨y,hy,rfl⟩:=List.mem_map.1 hx
  have:=h.2 y hy
  omega)
 simp at this;omega
theorem Dist.add {vars:Int} {l:List Int} (h:Dist vars l) {x:Int} (hx:x≠0∧x≤vars∧ -vars≤x) (h1:x∉l) (h2:(-x)∉l):Dist vars (l++ [x]):=by
 refine⟨?_,fun y hy=>?_⟩
 ·rw[List.map_append,List.nodup_append]
  refine⟨h.1,by simp,?_⟩
  intro a ha b hb e
  simp at hb;subst hb;subst e
  obtain⟨y,hy,he⟩:=List.mem_map.1 ha
  have:y=x∨y= -x:=by omega
  rcases this with rfl|rfl
  ·exact h1 hy
  ·exact h2 hy
 ·rcases List.mem_append.1 hy with hy|hy
  ·exact h.2 y hy
  ·simp at hy;subst hy;exact hx
theorem withinM_spec {vars:Int} {l:List Int} (h:withinM vars l=true):∀x∈l,x≠0∧x≤vars∧ -vars≤x:=by
 intro x hx
 have:=List.all_eq_true.1 h x hx
 simp at this
 omega
theorem startM_mem (assume:List Int):(∀x,x∈(startM assume).1↔x∈assume):=by
 have:∀(l:List Int) (t:Tr) (x:Int),x∈(l.foldl addA t).1↔x∈t.1∨x∈l:=by
  intro l
  induction l with
  |nil=>intro t x;simp
  |cons y l ih=>
   intro t x
   rw[List.foldl_cons,ih,List.mem_cons]
   unfold addA
   split
   ·rename_i h
    constructor
    ·rintro(h1|h1);exact .inl h1;exact .inr (.inr h1)
    ·rintro(h1|rfl|h1);exact .inl h1;exact .inl h;exact .inr h1
   ·simp only[List.mem_append,List.mem_singleton]
    rw[or_assoc]
 intro x
 have:=this assume ([],[],-1) x
 simpa [startM] using this
theorem startM_dist {vars:Int} {assume:List Int} (h:withinM vars assume=true) (hc:contraM assume=false):Dist vars (startM assume).1:=by
 have key:∀(l:List Int) (t:Tr),(∀x∈t.1,x∈assume)→(∀x∈l,x∈assume)→Dist vars t.1→Dist vars (l.foldl addA t).1:=by
  intro l
  induction l with
  |nil=>intro t _ _ h;exact h
  |cons y l ih=>
   intro t h1 h2 h3
   rw[List.foldl_cons]
   have hy:=h2 y (by simp)
   refine ih _ ?_ (fun x hx=>h2 x (by simp [hx])) ?_
   ·intro x hx
    unfold addA at hx
    split at hx
    ·exact h1 x hx
    ·rcases List.mem_append.1 hx with hx|hx
     ·exact h1 x hx
     ·simp at hx;subst hx;exact hy
   ·unfold addA
    split
    ·exact h3
    ·rename_i hn
     refine h3.add (withinM_spec h y hy) hn (fun hm=>?_)
     unfold contraM at hc
     rw[List.any_eq_false] at hc
     have:=hc y hy
     simp at this
     exact this (h1 _ hm)
 exact key assume _ (by simp) (fun x hx=>hx) ⟨by simp,by simp⟩
structure RunI (vars:Int) (cl:List (List Int)) (assume:List Int) (t:Tr) (n:Nat):Prop where
 dist:Dist vars t.1
 even:Even t
 conf:t.2.2= -1
 le:n≤t.1.length
 eq:runM vars cl assume=runLoop cl (vars+1 - n).toNat t
theorem start_runI {vars:Int} {cl:List (List Int)} {assume:List Int} (_hv:0≤vars) (h:withinM vars assume=true) (hc:contraM assume=false):RunI vars cl assume (startM assume) 0:=by
 refine⟨startM_dist h hc,even_start _,?_,Nat.zero_le _,?_⟩
 ·have:∀(l:List Int) (t:Tr),(l.foldl addA t).2.2=t.2.2:=by
   intro l
   induction l with
   |nil=>intro t;rfl
   |cons y l ih=>intro t;rw[List.foldl_cons,ih];unfold addA;split<;>rfl
  exact this assume _
 ·simp [runM]
theorem RunI.fuel {vars:Int} {cl:List (List Int)} {assume:List Int} {t:Tr} {n:Nat} (hv:0≤vars) (h:RunI vars cl assume t n):(vars+1 - (n:Int)).toNat=(vars+1 - ((n+1:Nat):Int)).toNat+1:=by
 have:=h.dist.len
 have:=h.le
 omega
theorem RunI.stop {vars:Int} {cl:List (List Int)} {assume:List Int} {t t':Tr} {n:Nat} (hv:0≤vars) (h:RunI vars cl assume t n) (hs:stepM cl t=(t',false)):runM vars cl assume=t':=by
 rw[h.eq,h.fuel hv,runLoop,hs];rfl
theorem RunI.go {vars:Int} {cl:List (List Int)} {assume:List Int} {t:Tr} {n:Nat} (hv:0≤vars) (h:RunI vars cl assume t n) {x r:Int} (hs:stepM cl t=((t.1++ [x],t.2.1++ [r],t.2.2),true))
  (hx:x≠0∧x≤vars∧ -vars≤x) (h1:x∉t.1) (h2:(-x)∉t.1):RunI vars cl assume (t.1++ [x],t.2.1++ [r],-1) (n+1):=by
 refine⟨h.dist.add hx h1 h2,?_,rfl,?_,?_⟩
 ·have:t.2.1.length=t.1.length:=h.even
  show(t.2.1++ [r]).length=(t.1++ [x]).length
  simp [this]
 ·have:=h.le;simp;exact this
 ·rw[h.eq,h.fuel hv,runLoop,hs]
  show runLoop cl _ (t.1++ [x],t.2.1++ [r],t.2.2)=_
  rw[h.conf]
end Go.Ab
/- Chapter 20:unitprop's run,walked. -/
namespace Go.Ab
open Go Go.Proofs
set_option maxRecDepth 20000
set_option maxHeartbeats 4000000
attribute [local irreducible] AW AOps thenD inBlockD iterEnds roundEnds inlEnds
theorem prun_fn (vars:Int) (cl:List (List Int)) (assume:List Int) (hcl:∀c∈cl,withinM vars c=true∧c.length≤100000) (h3:cl.length≤1000000) (hv:0≤vars∧vars≤100000) (ha:assume.length≤100000) (hw:withinM vars assume=true) (hc:contraM assume=false):
  Fn Try.prog 25 [fml vars cl,.pv (ints assume)] (.rptr [.lit (.int .i64 vars),intss cl,ints (runM vars cl assume).1,ints (runM vars cl assume).2.1,.any,.lit (.int .i64 (runM vars cl assume).2.2)]):=by
 refine Fn.enter (n:=46) Try.func25 rfl rfl rfl rfl rfl (by decide) fun g hro_ hwt_=>?_;(try refine nz ?_)
 (refine zq ?_;refine Q42 ?_;refine Q52 ?_;refine Q284 ?_;refine AOps.makeSet (t:=57) rfl ?_;refine nz ?_;refine AOps.buildN 59 [0,4,5] rfl rfl rfl rfl rfl rfl rfl rfl rfl ?_;refine nz ?_;refine AOps.box rfl rfl rfl rfl ?_;refine nz ?_;refine Q143 ?_;refine Q20 ?_;refine zd ?_;refine zo ?_;refine zq ?_;refine Q190 ?_)
 refine AW.len_map 1 rfl fun hlen=>?_
 refine AW.loop (fun(k:Nat)=>{n:=46,env:=[(5,.ptr 3 0),(14,.pv (ints assume)),(15,litI assume.length),(16,litI k)],objs:=[(1,some (.mp (mpI (setI (startM (assume.take k)).1)))),(2,some (.box [litI vars,.pv (intss cl),.own 4 3 1 ((startM (assume.take k)).1.map encI),.own 5 3 1 ((startM (assume.take k)).2.1.map encI),.mapr 1,litI (-1)])),(3,some (.box [.ptr 2 0])),(4,some .row),(5,some .row)],nx:=6})
  (fun k=>k≤assume.length) (fun k=>assume.length - k) 0 ?_ ?_ ?_
 ·simp
 ·exact weak rfl (by(refine⟨.eq rfl rfl,?_⟩;refine⟨.pvE (by first|with_reducible rfl|(simp [startM])),?_⟩;(iterate 2 refine⟨.intE (by first|with_reducible rfl|(simp [startM])),?_⟩);exact trivial)) (by(refine⟨WO.rows0 rfl,?_⟩;refine⟨.box _ rfl ?_,?_⟩;refine⟨.intE (by first|with_reducible rfl|(simp [startM])),?_⟩;refine⟨.pvE (by first|with_reducible rfl|(simp [startM])),?_⟩;(iterate 2 refine⟨.nilown _ _ _ rfl rfl,?_⟩);refine⟨.eq rfl rfl,?_⟩;refine⟨.intE (by first|with_reducible rfl|(simp [startM])),?_⟩;exact trivial;refine⟨.box _ rfl ?_,?_⟩;refine⟨.eq rfl rfl,?_⟩;exact trivial;(iterate 2 refine⟨.newrow rfl,?_⟩);exact trivial)) rfl
 ·rintro k hk
  have hs:=startM_len (assume.take k)
  have htk:(assume.take k).length≤100000:=by simp;omega
  by_cases hlt:k<assume.length
  ·have hsu:=startM_succ hlt
   (refine Q22 ?_;(focus ((with_reducible apply AOps.index_map);(iterate 7 exact rfl);rotate_left;omega));refine zr ?_;refine Q145 ?_;refine zb ?_;refine AOps.nilCheck_ptr rfl rfl rfl ?_;refine AOps.fieldAddrN 59 3 4 rfl rfl rfl rfl ?_;refine Q130 ?_;refine AOps.lookup_set rfl rfl rfl rfl rfl rfl rfl rfl rfl ?_;refine AOps.notD rfl rfl rfl ?_;refine zd ?_;(focus ((with_reducible apply AW.condD);exact rfl;exact rfl;all_goals intro hc_));refine Q318 ?_;refine Q130 ?_;(with_reducible apply AOps.inline (hf:=Try.func55));(with_reducible assumption);(iterate 10 exact rfl);intro g_ hro_ hwt_;refine nz ?_;(all_goals skip);rotate_left;refine Q270 ?_;(all_goals skip);rotate_left)
   ·have hpush:assume[k]∉(startM (assume.take k)).1:=hc_
    refine AW.regionE [0,2,3,4,5,7,8,9,10,11,14,15,16,17,18] [23,26,27,29] rfl (by assumption) (by kernel_rfl) rfl ?_
    show AOps .held _ _ _ [_,_,_,_,_,_,_,_,_,_,_,_,_,_,_] _ _
    (refine Q218 ?_)
    intro k_ hk_
    (try refine nz ?_)
    refine AR.free 1 (by kernel_rfl) rfl rfl rfl (by first|exact Frees.move_ptr rfl rfl|exact Frees.move_pv rfl rfl|exact Frees.nilCheck rfl rfl) ?_
    refine AR.free 6 (by kernel_rfl) rfl rfl rfl (by first|exact Frees.move_ptr rfl rfl|exact Frees.move_pv rfl rfl|exact Frees.nilCheck rfl rfl) ?_
    refine AR.step2 (i:=12) (j:=19) rfl (by kernel_rfl) rfl rfl ?_ ?_<;>intro g_ hgro_ hw_<;>(refine Q71 ?_;refine Q4 ?_)
    ·refine AR.step2 (i:=13) (j:=19) rfl (by kernel_rfl) rfl rfl ?_ ?_<;>intro g_ hgro_ hw_<;>(first|((with_reducible apply AOps.appendS);exact rfl;(first|exact .pv rfl|exact .own rfl|exact .nil rfl);(iterate 9 exact rfl);(first|omega|(simp only[List.length_map,List.length_append,List.length_cons,List.length_nil,List.length_drop,List.length_take,List.length_set,List.length_range,chunk_len];omega));refine Q205 ?_)|(refine Q71 ?_;refine Q4 ?_))
     ·refine AR.step1 (i:=19) rfl (by kernel_rfl) rfl ?_
      intro g_ hgro_ hw_
      (refine Q71 ?_;refine Q4 ?_)
      refine AR.step1 (i:=20) rfl (by kernel_rfl) rfl ?_
      intro g_ hgro_ hw_
      ((with_reducible apply AOps.appendS);exact rfl;(first|exact .pv rfl|exact .own rfl|exact .nil rfl);(iterate 9 exact rfl);(first|omega|(simp only[List.length_map,List.length_append,List.length_cons,List.length_nil,List.length_drop,List.length_take,List.length_set,List.length_range,chunk_len];omega));refine Q205 ?_)
      refine AR.step1 (i:=21) rfl (by kernel_rfl) rfl ?_
      intro g_ hgro_ hw_
      (refine Q135 ?_)
      refine AR.step1 (i:=22) rfl (by kernel_rfl) rfl ?_
      intro g_ hgro_ hw_
      (refine Q264 ?_)
      refine Q198 ?_
      intro g_ hgro_ hwt2_
      (refine Q324 ?_)
      refine AR.step1 (i:=24) rfl (by kernel_rfl) rfl ?_
      intro g_ hgro_ hw_
      (refine Q135 ?_)
      refine AR.step1 (i:=25) rfl (by kernel_rfl) rfl ?_
      intro g_ hgro_ hw_
      (refine Q252 ?_)
      refine Q197 ?_
      intro g_ hgro_ hwt2_
      (refine Q324 ?_)
      refine Q189 ?_
      intro g_ hgro_ hwt2_
      (refine Q106 ?_)
      refine AR.step1 (i:=28) rfl (by kernel_rfl) rfl ?_
      intro g_ hgro_ hw_
      (refine Q314 ?_)
      refine Q188 ?_
      intro g_ hgro_ hwt2_
      (refine Q150 ?_;refine Q205 ?_)
      refine AR.done (by assumption) (by kernel_rfl) ?_
      (refine inlEnds_n0 ?_;refine nz ?_;refine Q225 ?_)
      rw[addA,if_neg hpush] at hsu
      exact Q30
     ·refine AR.step1 (i:=13) rfl (by kernel_rfl) rfl ?_
      intro g_ hgro_ hw_
      ((with_reducible apply AOps.appendS);exact rfl;(first|exact .pv rfl|exact .own rfl|exact .nil rfl);(iterate 9 exact rfl);(first|omega|(simp only[List.length_map,List.length_append,List.length_cons,List.length_nil,List.length_drop,List.length_take,List.length_set,List.length_range,chunk_len];omega));refine Q205 ?_)
      refine AR.step1 (i:=20) rfl (by kernel_rfl) rfl ?_
      intro g_ hgro_ hw_
      ((with_reducible apply AOps.appendS);exact rfl;(first|exact .pv rfl|exact .own rfl|exact .nil rfl);(iterate 9 exact rfl);(first|omega|(simp only[List.length_map,List.length_append,List.length_cons,List.length_nil,List.length_drop,List.length_take,List.length_set,List.length_range,chunk_len];omega));refine Q205 ?_)
      refine AR.step1 (i:=21) rfl (by kernel_rfl) rfl ?_
      intro g_ hgro_ hw_
      (refine Q135 ?_)
      refine AR.step1 (i:=22) rfl (by kernel_rfl) rfl ?_
      intro g_ hgro_ hw_
      (refine Q264 ?_)
      refine Q198 ?_
      intro g_ hgro_ hwt2_
      (refine Q324 ?_)
      refine AR.step1 (i:=24) rfl (by kernel_rfl) rfl ?_
      intro g_ hgro_ hw_
      (refine Q135 ?_)
      refine AR.step1 (i:=25) rfl (by kernel_rfl) rfl ?_
      intro g_ hgro_ hw_
      (refine Q252 ?_)
      refine Q197 ?_
      intro g_ hgro_ hwt2_
      (refine Q324 ?_)
      refine Q189 ?_
      intro g_ hgro_ hwt2_
      (refine Q106 ?_)
      refine AR.step1 (i:=28) rfl (by kernel_rfl) rfl ?_
      intro g_ hgro_ hw_
      (refine Q314 ?_)
      refine Q188 ?_
      intro g_ hgro_ hwt2_
      (refine Q150 ?_;refine Q205 ?_)
      refine AR.done (by assumption) (by kernel_rfl) ?_
      (refine inlEnds_n0 ?_;refine nz ?_;refine Q225 ?_)
      rw[addA,if_neg hpush] at hsu
      exact Q30
    ·refine AR.step1 (i:=12) rfl (by kernel_rfl) rfl ?_
     intro g_ hgro_ hw_
     (refine Q71 ?_;refine Q4 ?_)
     refine AR.step1 (i:=13) rfl (by kernel_rfl) rfl ?_
     intro g_ hgro_ hw_
     ((with_reducible apply AOps.appendS);exact rfl;(first|exact .pv rfl|exact .own rfl|exact .nil rfl);(iterate 9 exact rfl);(first|omega|(simp only[List.length_map,List.length_append,List.length_cons,List.length_nil,List.length_drop,List.length_take,List.length_set,List.length_range,chunk_len];omega));refine Q205 ?_)
     refine AR.step1 (i:=20) rfl (by kernel_rfl) rfl ?_
     intro g_ hgro_ hw_
     ((with_reducible apply AOps.appendS);exact rfl;(first|exact .pv rfl|exact .own rfl|exact .nil rfl);(iterate 9 exact rfl);(first|omega|(simp only[List.length_map,List.length_append,List.length_cons,List.length_nil,List.length_drop,List.length_take,List.length_set,List.length_range,chunk_len];omega));refine Q205 ?_)
     refine AR.step1 (i:=21) rfl (by kernel_rfl) rfl ?_
     intro g_ hgro_ hw_
     (refine Q135 ?_)
     refine AR.step1 (i:=22) rfl (by kernel_rfl) rfl ?_
     intro g_ hgro_ hw_
     (refine Q264 ?_)
     refine Q198 ?_
     intro g_ hgro_ hwt2_
     (refine Q324 ?_)
     refine AR.step1 (i:=24) rfl (by kernel_rfl) rfl ?_
     intro g_ hgro_ hw_
     (refine Q135 ?_)
     refine AR.step1 (i:=25) rfl (by kernel_rfl) rfl ?_
     intro g_ hgro_ hw_
     (refine Q252 ?_)
     refine Q197 ?_
     intro g_ hgro_ hwt2_
     (refine Q324 ?_)
     refine Q189 ?_
     intro g_ hgro_ hwt2_
     (refine Q106 ?_)
     refine AR.step1 (i:=28) rfl (by kernel_rfl) rfl ?_
     intro g_ hgro_ hw_
     (refine Q314 ?_)
     refine Q188 ?_
     intro g_ hgro_ hwt2_
     (refine Q150 ?_;refine Q205 ?_)
     refine AR.done (by assumption) (by kernel_rfl) ?_
     (refine inlEnds_n0 ?_;refine nz ?_;refine Q225 ?_)
     rw[addA,if_neg hpush] at hsu
     exact Q30
   ·rw[addA,if_pos (Decidable.not_not.1 hc_)] at hsu
    exact⟨k+1,by omega,by omega,weak rfl (by(refine⟨.eq rfl rfl,?_⟩;refine⟨.pvE (by first|with_reducible rfl|(rw[hsu])),?_⟩;refine⟨.intE (by first|with_reducible rfl|(rw[hsu])),?_⟩;refine⟨.eq rfl rfl,?_⟩;exact trivial)) (by(refine⟨.setE rfl (by rw[hsu]),?_⟩;refine⟨.box _ rfl ?_,?_⟩;refine⟨.intE (by first|with_reducible rfl|(rw[hsu])),?_⟩;refine⟨.pvE (by first|with_reducible rfl|(rw[hsu])),?_⟩;(iterate 2 refine⟨.ownE (by first|with_reducible rfl|(rw[hsu])) rfl,?_⟩);refine⟨.eq rfl rfl,?_⟩;refine⟨.intE (by first|with_reducible rfl|(rw[hsu])),?_⟩;exact trivial;refine⟨.box _ rfl ?_,?_⟩;refine⟨.eq rfl rfl,?_⟩;exact trivial;(iterate 2 refine⟨.row rfl,?_⟩);exact trivial)) rfl⟩
  ·have hall:assume.take k=assume:=take_all (by omega)
   rw[hall] at hs ⊢
   have hrun:=start_runI hv.1 hw hc (cl:=cl)
   generalize startM assume=t0 at hs hrun ⊢
   (refine Q208 ?_;refine zo ?_;refine Q52 ?_;refine zb ?_;refine AOps.makeFunc_f rfl rfl rfl ?_;refine Q123 ?_)
   refine AW.rangeFuncH (ps:=[33,34]) hro_ hwt_ rfl rfl Try.func56 rfl rfl rfl rfl rfl rfl (by decide) ?_
   intro g2 tm l ps' asg' body' hcode hro2 hwt2 hheld htm
   (refine Q52 ?_;refine Q271 ?_)
   refine AW.loop (S:=Tr×Nat×Bool) (fun s=>{n:=48,env:=[(0,.ptr 2 0),(1,.yld 6),(4,litB s.2.2),(1005,.ptr 3 0)],objs:=[(1,some (.mp (mpI (setI s.1.1)))),(2,some (.box [litI vars,.pv (intss cl),.own 4 3 1 (s.1.1.map encI),.own 5 3 1 (s.1.2.1.map encI),.mapr 1,litI (-1)])),(3,some (.box [.ptr 2 0])),(4,some .row),(5,some .row),(6,some (.loop l tm ps' asg' body' .ready))],nx:=7})
    (fun s=>RunI vars cl assume s.1 s.2.1∧(s.2.2=false→stepM cl s.1=(s.1,false))) (fun s=>(vars+1 - (s.2.1:Int)).toNat*2+if s.2.2 then 1 else 0) (t0,0,true) ?_ ?_ ?_
   ·exact⟨hrun,fun h=>by cases h⟩
   ·exact Q24
   ·rintro⟨t,n,b⟩ ⟨hI,hb⟩
    simp only at hI hb ⊢
    cases b with
    |false=>
     have hstop:=hI.stop hv.1 (hb rfl)
     rw[hstop,hI.conf]
     (refine Q214 ?_;refine Q67 ?_;refine AW.exit ?_;(iterate 2 refine thenD_exit ?_);refine inBlockD_exit ?_)
     refine iterEndsN_ready (.inl rfl) rfl ?_
     (try refine nz ?_)
     repeat (first|with_reducible apply inBlockD_n|with_reducible apply thenD_n|with_reducible apply inBlockD_exit)
     refine AW.weak (δ':={n:=46,env:=[(5,.ptr 3 0)],objs:=[(3,some (.box [.rptr [.lit (.int .i64 vars),intss cl,ints t.1,ints t.2.1,.any,.lit (.int .i64 (-1))]]))],nx:=7}) (weak rfl (by(first|(exact Q241)|(refine⟨.eq rfl rfl,?_⟩;(iterate 12 refine⟨.eq rfl rfl,?_⟩);exact trivial)|(refine⟨.eq rfl rfl,?_⟩;(iterate 6 refine⟨.eq rfl rfl,?_⟩);exact trivial)|(exact Q265)|(exact Q33))) (by(first|(refine Q46 ?_;refine⟨.newrow rfl,?_⟩;exact trivial)|(refine Q46 ?_;exact Q312)|(refine Q46 ?_;exact trivial)|(refine⟨.box _ rfl ?_,?_⟩;refine⟨.fbox rfl rfl (by repeat (first|exact CVs.nil|refine .cons (.any _) ?_|refine .cons (.pv _) ?_|refine .cons (.own rfl rfl) ?_|refine .cons (.nil _) ?_)),?_⟩;(iterate 2 exact trivial)))) rfl) ?_
     (refine zq ?_;refine zb ?_;refine AOps.assign_rptr rfl rfl rfl ?_;refine zd ?_;refine AW.ret ?_)
     (apply ends_ret;(exact Res.one (.tmp rfl rfl));(exact Le.rptr _))
    |true=>
     clear hb
     (refine Q214 ?_;refine Q43 ?_;refine Q37 ?_;refine AW.block ?_;refine Q52 ?_;refine Q145 ?_;refine Q12 ?_;refine AOps.fieldAddrN 59 0 0 rfl rfl rfl rfl ?_;refine Q60 ?_;refine zn ?_;refine Q337 ?_)
     refine AW.loop (fun(k:Nat)=>{n:=48,env:=[(0,.ptr 2 0),(1,.yld 6),(4,litB false),(14,.pv (intss cl)),(15,litI cl.length),(16,litI k),(1005,.ptr 3 0)],objs:=[(1,some (.mp (mpI (setI t.1)))),(2,some (.box [litI vars,.pv (intss cl),.own 4 3 1 (t.1.map encI),.own 5 3 1 (t.2.1.map encI),.mapr 1,litI (-1)])),(3,some (.box [.ptr 2 0])),(4,some .row),(5,some .row),(6,some (.loop l tm ps' asg' body' .ready))],nx:=7})
      (fun k=>k≤cl.length∧stepM cl t=stepFrom t k (cl.drop k)) (fun k=>cl.length - k) 0 ?_ ?_ ?_
     ·exact⟨Nat.zero_le _,rfl⟩
     ·exact Q24
     ·rintro k ⟨hk,hst⟩
      by_cases hlt:k<cl.length
      ·rw[stepFrom_drop _ _ _ hlt] at hst
       obtain⟨hcw,hcl2⟩:=hcl _ (List.getElem_mem hlt)
       have hcb:=withinM_spec hcw
       rw[statusM_open _ _ (fun x hx=>(hcb x hx).1)] at hst
       (refine Q250 ?_;(focus ((with_reducible apply AOps.index_map);(iterate 7 exact rfl);rotate_left;omega));refine zr ?_;refine Q172 ?_;refine Q52 ?_;refine Q336 ?_;(with_reducible apply AOps.inline (hf:=Try.func70));(with_reducible assumption);(iterate 10 exact rfl);intro g_ hro_ hwt_;refine Q131 ?_;refine Q172 ?_;refine Q52 ?_;refine Q61 ?_;refine Q305 ?_)
       refine AW.loop (S:=Nat×List Int) (fun s=>{n:=41,env:=[(0,.ptr 2 0),(6,.own 7 3 1 (s.2.map encI)),(9,.pv (ints (cl[k]'hlt))),(10,litI (cl[k]'hlt).length),(11,litI s.1),(1000,.ptr 2 0),(1001,.yld 6),(1004,litB false),(1005,litI k),(1014,.pv (intss cl)),(1015,litI cl.length),(1016,litI k),(2005,.ptr 3 0)],objs:=[(1,some (.mp (mpI (setI t.1)))),(2,some (.box [litI vars,.pv (intss cl),.own 4 3 1 (t.1.map encI),.own 5 3 1 (t.2.1.map encI),.mapr 1,litI (-1)])),(3,some (.box [.ptr 2 0])),(4,some .row),(5,some .row),(6,some (.loop l tm ps' asg' body' .ready)),(7,some .row)],nx:=8})
        (fun s=>s.1≤(cl[k]'hlt).length∧openFrom t.1 (cl[k]'hlt) []=openFrom t.1 ((cl[k]'hlt).drop s.1) s.2∧s.2.length≤s.1) (fun s=>(cl[k]'hlt).length - s.1) (0,[]) ?_ ?_ ?_
       ·exact⟨Nat.zero_le _,rfl,Nat.le_refl _⟩
       ·exact Q24
       ·rintro⟨j,out⟩ ⟨hj,hop,hol⟩
        simp only at hj hop hol ⊢
        generalize hc0:cl[k]=c at hst hcw hcl2 hcb hj hop ⊢
        by_cases hjl:j<c.length
        ·have hxb:=hcb c[j] (List.getElem_mem hjl)
         rw[openFrom_drop _ _ _ _ hjl] at hop
         (refine Q22 ?_;(focus ((with_reducible apply AOps.index_map);(iterate 7 exact rfl);rotate_left;omega));refine zr ?_;refine Q61 ?_;refine Q52 ?_;refine Q12 ?_;refine AOps.fieldAddrN 59 3 4 rfl rfl rfl rfl ?_;refine Q130 ?_;refine AOps.lookup_set rfl rfl rfl rfl rfl rfl rfl rfl rfl ?_;refine zd ?_;(focus ((with_reducible apply AW.condD);exact rfl;exact rfl;all_goals intro hc_));refine Q52 ?_;refine Q172 ?_;refine AW.ret ?_;refine thenD_ret ?_;refine Q17 ?_;refine inlEnds_rpp rfl rfl rfl rfl ?_;refine nz ?_;refine Q272 ?_;refine zo ?_;refine Q262 ?_;refine Q328 ?_;refine Q107 ?_;refine Q43 ?_;refine Q63 ?_;refine nz ?_;refine Q79 ?_;(all_goals skip);rotate_left;refine Q37 ?_;refine Q52 ?_;refine Q12 ?_;refine AOps.fieldAddrN 59 3 4 rfl rfl rfl rfl ?_;refine Q130 ?_;refine AOps.neg rfl rfl rfl (by omega) ?_;refine AOps.lookup_set rfl rfl rfl rfl rfl rfl rfl rfl rfl ?_;refine AOps.notD rfl rfl rfl ?_;refine zm ?_;(focus ((with_reducible apply AOps.guardT);(iterate 6 exact rfl);all_goals intro hc_));refine AOps.move_own rfl rfl rfl ?_;refine Q178 ?_;refine AOps.call (contains_fn _ _) (.cons rfl (.own _ _ _ _ rfl) (.cons rfl (.pv _) .nil)) rfl rfl (fun h_=>by cases h_) ?_;refine zt ?_;refine AOps.notD rfl rfl rfl ?_;refine zT ?_;refine zd ?_;(focus ((with_reducible apply AW.condD);exact rfl;exact rfl;all_goals intro hc_));refine Q318 ?_;refine Q226 ?_;refine Q71 ?_;(with_reducible apply AOps.appendS);exact rfl;(first|exact .pv rfl|exact .own rfl|exact .nil rfl);(iterate 9 exact rfl);(first|omega|(simp only[List.length_map,List.length_append,List.length_cons,List.length_nil,List.length_drop,List.length_take,List.length_set,List.length_range,chunk_len];omega));refine nz ?_;refine Q149 ?_;refine nz ?_;refine Q79 ?_;(all_goals skip);rotate_left;refine Q270 ?_;(all_goals skip);rotate_left;(iterate 3 refine AOps.guardTn rfl rfl rfl rfl rfl rfl (by with_reducible assumption) ?_);refine zF ?_;refine Q67 ?_;refine Q270 ?_;(all_goals skip);rotate_left)
         all_goals first
          |(rw[if_pos (by assumption)] at hop
            rw[hop] at hst
            exact⟨k+1,⟨by omega,hst⟩,by omega,weak rfl (by(first|(refine⟨.eq rfl rfl,?_⟩;refine⟨.nilown _ _ _ rfl rfl,?_⟩;(iterate 11 refine⟨.eq rfl rfl,?_⟩);exact trivial)|(refine⟨.eq rfl rfl,?_⟩;(iterate 12 refine⟨.eq rfl rfl,?_⟩);exact trivial)|(refine⟨.eq rfl rfl,?_⟩;(iterate 6 refine⟨.eq rfl rfl,?_⟩);exact trivial)|(refine⟨.eq rfl rfl,?_⟩;(iterate 3 refine⟨.eq rfl rfl,?_⟩);exact trivial)|(refine⟨.eq rfl rfl,?_⟩;exact trivial))) (by(first|(refine⟨.set rfl,?_⟩;refine⟨.box _ rfl ?_,?_⟩;(iterate 6 refine⟨.eq rfl rfl,?_⟩);exact trivial;refine⟨.box _ rfl ?_,?_⟩;refine⟨.eq rfl rfl,?_⟩;exact trivial;(iterate 2 refine⟨.row rfl,?_⟩);refine⟨.loop rfl,?_⟩;refine⟨.newrow rfl,?_⟩;exact trivial)|(refine⟨.set rfl,?_⟩;refine⟨.box _ rfl ?_,?_⟩;(iterate 6 refine⟨.eq rfl rfl,?_⟩);exact trivial;refine⟨.box _ rfl ?_,?_⟩;refine⟨.eq rfl rfl,?_⟩;exact trivial;(iterate 2 refine⟨.row rfl,?_⟩);refine⟨.loop rfl,?_⟩;refine⟨.row rfl,?_⟩;exact trivial)|(refine⟨.set rfl,?_⟩;refine⟨.box _ rfl ?_,?_⟩;(iterate 6 refine⟨.eq rfl rfl,?_⟩);exact trivial;refine⟨.box _ rfl ?_,?_⟩;refine⟨.eq rfl rfl,?_⟩;exact trivial;(iterate 2 refine⟨.row rfl,?_⟩);refine⟨.loop rfl,?_⟩;exact trivial)|(refine⟨.box _ rfl ?_,?_⟩;refine⟨.fbox rfl rfl (by repeat (first|exact CVs.nil|refine .cons (.any _) ?_|refine .cons (.pv _) ?_|refine .cons (.own rfl rfl) ?_|refine .cons (.nil _) ?_)),?_⟩;(iterate 2 exact trivial)))) rfl⟩)
          |(rw[if_neg (by assumption)] at hop
            rw[if_neg (show ¬(¬ -c[j]∈t.1∧¬c[j]∈out) from by rintro⟨h1,h2⟩;first|exact hc_ h2|exact hc_ h1)] at hop
            exact⟨(j+1,out),⟨by show j+1≤_;omega,hop,by show out.length≤j+1;omega⟩,by show c.length - (j+1)<c.length - j;omega,weak rfl (by(first|(refine⟨.eq rfl rfl,?_⟩;refine⟨.nilown _ _ _ rfl rfl,?_⟩;(iterate 11 refine⟨.eq rfl rfl,?_⟩);exact trivial)|(refine⟨.eq rfl rfl,?_⟩;(iterate 12 refine⟨.eq rfl rfl,?_⟩);exact trivial)|(refine⟨.eq rfl rfl,?_⟩;(iterate 6 refine⟨.eq rfl rfl,?_⟩);exact trivial)|(refine⟨.eq rfl rfl,?_⟩;(iterate 3 refine⟨.eq rfl rfl,?_⟩);exact trivial)|(refine⟨.eq rfl rfl,?_⟩;exact trivial))) (by(first|(refine⟨.set rfl,?_⟩;refine⟨.box _ rfl ?_,?_⟩;(iterate 6 refine⟨.eq rfl rfl,?_⟩);exact trivial;refine⟨.box _ rfl ?_,?_⟩;refine⟨.eq rfl rfl,?_⟩;exact trivial;(iterate 2 refine⟨.row rfl,?_⟩);refine⟨.loop rfl,?_⟩;refine⟨.newrow rfl,?_⟩;exact trivial)|(refine⟨.set rfl,?_⟩;refine⟨.box _ rfl ?_,?_⟩;(iterate 6 refine⟨.eq rfl rfl,?_⟩);exact trivial;refine⟨.box _ rfl ?_,?_⟩;refine⟨.eq rfl rfl,?_⟩;exact trivial;(iterate 2 refine⟨.row rfl,?_⟩);refine⟨.loop rfl,?_⟩;refine⟨.row rfl,?_⟩;exact trivial)|(refine⟨.set rfl,?_⟩;refine⟨.box _ rfl ?_,?_⟩;(iterate 6 refine⟨.eq rfl rfl,?_⟩);exact trivial;refine⟨.box _ rfl ?_,?_⟩;refine⟨.eq rfl rfl,?_⟩;exact trivial;(iterate 2 refine⟨.row rfl,?_⟩);refine⟨.loop rfl,?_⟩;exact trivial)|(refine⟨.box _ rfl ?_,?_⟩;refine⟨.fbox rfl rfl (by repeat (first|exact CVs.nil|refine .cons (.any _) ?_|refine .cons (.pv _) ?_|refine .cons (.own rfl rfl) ?_|refine .cons (.nil _) ?_)),?_⟩;(iterate 2 exact trivial)))) rfl⟩)
          |(rw[if_neg (by assumption)] at hop
            rw[if_pos ⟨by assumption,by assumption⟩] at hop
            exact⟨(j+1,out++ [c[j]]),⟨by show j+1≤_;omega,hop,by show(out++ [c[j]]).length≤j+1;simp;omega⟩,by show c.length - (j+1)<c.length - j;omega,weak rfl (by(refine⟨.eq rfl rfl,?_⟩;refine⟨.ownE (by first|with_reducible rfl|(first|(rw[List.map_append];rfl)|rfl)) rfl,?_⟩;refine⟨.pvE (by first|with_reducible rfl|(first|(rw[List.map_append];rfl)|rfl)),?_⟩;refine⟨.intE (by first|with_reducible rfl|(first|(rw[List.map_append];rfl)|rfl)),?_⟩;refine⟨.intE (by first|with_reducible rfl|(first|(rw[List.map_append];rfl)|rfl)),?_⟩;(iterate 2 refine⟨.eq rfl rfl,?_⟩);refine⟨.boolE (by first|with_reducible rfl|(first|(rw[List.map_append];rfl)|rfl)),?_⟩;refine⟨.intE (by first|with_reducible rfl|(first|(rw[List.map_append];rfl)|rfl)),?_⟩;refine⟨.pvE (by first|with_reducible rfl|(first|(rw[List.map_append];rfl)|rfl)),?_⟩;refine⟨.intE (by first|with_reducible rfl|(first|(rw[List.map_append];rfl)|rfl)),?_⟩;refine⟨.intE (by first|with_reducible rfl|(first|(rw[List.map_append];rfl)|rfl)),?_⟩;refine⟨.eq rfl rfl,?_⟩;exact trivial)) (by(refine⟨.set rfl,?_⟩;refine⟨.box _ rfl ?_,?_⟩;refine⟨.intE (by first|with_reducible rfl|(first|(rw[List.map_append];rfl)|rfl)),?_⟩;refine⟨.pvE (by first|with_reducible rfl|(first|(rw[List.map_append];rfl)|rfl)),?_⟩;refine⟨.ownE (by first|with_reducible rfl|(first|(rw[List.map_append];rfl)|rfl)) rfl,?_⟩;refine⟨.ownE (by first|with_reducible rfl|(first|(rw[List.map_append];rfl)|rfl)) rfl,?_⟩;refine⟨.eq rfl rfl,?_⟩;refine⟨.intE (by first|with_reducible rfl|(first|(rw[List.map_append];rfl)|rfl)),?_⟩;exact trivial;refine⟨.box _ rfl ?_,?_⟩;refine⟨.eq rfl rfl,?_⟩;exact trivial;(iterate 2 refine⟨.row rfl,?_⟩);refine⟨.loop rfl,?_⟩;refine⟨.row rfl,?_⟩;exact trivial)) rfl⟩)
        ·rw[List.drop_eq_nil_of_le (by omega)] at hop
         have hop':openFrom t.1 c []=some out:=hop
         rw[hop'] at hst
         have hmem:=openFrom_mem t.1 c [] out hop' (by simp)
         have htm':tm.size=46:=htm
         rcases out with _|⟨x,_|⟨y,out⟩⟩
         ·have e0:([]:List Int).length=0:=rfl
          have hst2:stepM cl t=((t.1,t.2.1,(k:Int)),false):=hst
          have hstop:=hI.stop hv.1 hst2
          rw[hstop]
          clear hst
          (refine Q115 ?_;refine Q67 ?_;refine Q37 ?_;refine zo ?_;refine Q207 ?_;refine AOps.len_own_map rfl rfl rfl rfl ?_;refine AOps.eql rfl rfl rfl rfl rfl ?_;refine Q43 ?_;refine Q52 ?_;refine AOps.move rfl rfl rfl ?_;refine nz ?_;refine zm ?_;(with_reducible apply AOps.yieldN hcode hro2 hwt2 hheld htm');(iterate 8 exact rfl);intro g3 hro3_ hwt_;(try refine nz ?_);refine zq ?_;refine Q11 ?_;refine Q318 ?_;refine Q11 ?_;refine And.intro (show isLp _ _ _ _ from⟨_,_,_,_,rfl⟩) ?_;(try refine nz ?_);refine AW.block ?_;refine Q214 ?_;refine AOps.eql rfl rfl rfl rfl rfl ?_;refine Q43 ?_;refine Q277 ?_;(with_reducible apply roundEndsN_x);exact⟨_,_,_,_,rfl⟩;refine nz ?_;refine zd ?_;refine AW.ret ?_;refine Q200 ?_;(iterate 2 refine thenD_ret ?_);(iterate 2 refine inBlockD_ret ?_);refine Q200 ?_)
          refine iterEndsN_exit (.inr rfl) rfl ?_
          (try refine nz ?_)
          repeat (first|with_reducible apply inBlockD_n|with_reducible apply thenD_n|with_reducible apply inBlockD_exit)
          refine AW.weak (δ':={n:=46,env:=[(5,.ptr 3 0)],objs:=[(3,some (.box [.rptr [.lit (.int .i64 vars),intss cl,ints t.1,ints t.2.1,.any,.lit (.int .i64 k)]]))],nx:=7}) (weak rfl (by(first|(exact Q241)|(refine⟨.eq rfl rfl,?_⟩;(iterate 12 refine⟨.eq rfl rfl,?_⟩);exact trivial)|(refine⟨.eq rfl rfl,?_⟩;(iterate 6 refine⟨.eq rfl rfl,?_⟩);exact trivial)|(exact Q265)|(exact Q33))) (by(first|(refine Q46 ?_;refine⟨.newrow rfl,?_⟩;exact trivial)|(refine Q46 ?_;exact Q312)|(refine Q46 ?_;exact trivial)|(refine⟨.box _ rfl ?_,?_⟩;refine⟨.fbox rfl rfl (by repeat (first|exact CVs.nil|refine .cons (.any _) ?_|refine .cons (.pv _) ?_|refine .cons (.own rfl rfl) ?_|refine .cons (.nil _) ?_)),?_⟩;(iterate 2 exact trivial)))) rfl) ?_
          (refine zq ?_;refine zb ?_;refine AOps.assign_rptr rfl rfl rfl ?_;refine zd ?_;refine AW.ret ?_)
          (apply ends_ret;(exact Res.one (.tmp rfl rfl));(exact Le.rptr _))
         ·have e0:([x]:List Int).length=1:=rfl
          have hst2:stepM cl t=((t.1++ [x],t.2.1++ [(k:Int)],t.2.2),true):=hst
          have hx1:=hmem x (by simp)
          have hx2:=hcb x (by simpa using hx1.1)
          have hgo:=hI.go hv.1 hst2 hx2 hx1.2.1 hx1.2.2
          clear hst
          (refine Q115 ?_;refine Q67 ?_;refine Q37 ?_;refine zo ?_;refine Q207 ?_;refine AOps.len_own_map rfl rfl rfl rfl ?_;refine AOps.eql rfl rfl rfl rfl rfl ?_;refine Q67 ?_;refine Q37 ?_;refine zo ?_;refine Q52 ?_;refine AOps.move rfl rfl rfl ?_;refine nz ?_;refine zm ?_;refine AOps.move_own rfl rfl rfl ?_;refine Q27 ?_;(focus ((with_reducible apply AOps.load_o1_mapI);(iterate 4 exact rfl);exact(fun h_=>by cases h_);rotate_left;(first|omega|exact Nat.zero_lt_one|(simp;done))));(with_reducible apply AOps.yieldN hcode hro2 hwt2 hheld htm');(iterate 8 exact rfl);intro g3 hro3_ hwt_;(try refine nz ?_);refine zq ?_;refine Q11 ?_;refine Q318 ?_;refine Q11 ?_;refine And.intro (show isLp _ _ _ _ from⟨_,_,_,_,rfl⟩) ?_;(try refine nz ?_);refine AW.block ?_;refine Q214 ?_;refine AOps.eql rfl rfl rfl rfl rfl ?_;refine zd ?_;(focus ((with_reducible apply AW.condD);exact rfl;exact rfl;all_goals intro hc_));refine Q277 ?_;(with_reducible apply roundEndsN_x);exact⟨_,_,_,_,rfl⟩;refine nz ?_;refine AOps.not rfl rfl rfl ?_;refine Q43 ?_;refine AW.ret ?_;refine Q200 ?_;(iterate 2 refine thenD_ret ?_);(iterate 2 refine inBlockD_ret ?_);refine Q200 ?_;(all_goals skip);rotate_left;refine Q37 ?_;refine Q318 ?_;refine zb ?_;(iterate 2 refine zm ?_);(with_reducible apply AOps.inline (hf:=Try.func55));(with_reducible assumption);(iterate 10 exact rfl);intro g_ hro_ hwt_;refine nz ?_;(all_goals skip);rotate_left)
          ·exact absurd (show x=0 from hc_) hx2.1
          ·have hpush:([x][Int.toNat 0]'Nat.one_pos)∉t.1:=hx1.2.1
           have hl1:t.1.length≤100000:=by have:=hI.dist.len;omega
           have hl2:t.2.1.length≤100000:=by have h9:t.2.1.length=t.1.length:=hI.even;omega
           refine AW.regionE [0,2,3,4,5,7,8,9,10,11,14,15,16,17,18] [23,26,27,29] rfl (by assumption) (by kernel_rfl) rfl ?_
           show AOps .held _ _ _ [_,_,_,_,_,_,_,_,_,_,_,_,_,_,_] _ _
           (refine Q218 ?_)
           intro k_ hk_
           (try refine nz ?_)
           refine AR.free 1 (by kernel_rfl) rfl rfl rfl (by first|exact Frees.move_ptr rfl rfl|exact Frees.move_pv rfl rfl|exact Frees.nilCheck rfl rfl) ?_
           refine AR.free 6 (by kernel_rfl) rfl rfl rfl (by first|exact Frees.move_ptr rfl rfl|exact Frees.move_pv rfl rfl|exact Frees.nilCheck rfl rfl) ?_
           refine AR.step2 (i:=12) (j:=19) rfl (by kernel_rfl) rfl rfl ?_ ?_<;>intro g_ hgro_ hw_<;>(refine Q71 ?_;refine Q4 ?_)
           ·refine AR.step2 (i:=13) (j:=19) rfl (by kernel_rfl) rfl rfl ?_ ?_<;>intro g_ hgro_ hw_<;>(first|((with_reducible apply AOps.appendS);exact rfl;(first|exact .pv rfl|exact .own rfl|exact .nil rfl);(iterate 9 exact rfl);(first|omega|(simp only[List.length_map,List.length_append,List.length_cons,List.length_nil,List.length_drop,List.length_take,List.length_set,List.length_range,chunk_len];omega));refine Q205 ?_)|(refine Q71 ?_;refine Q4 ?_))
            ·refine AR.step1 (i:=19) rfl (by kernel_rfl) rfl ?_
             intro g_ hgro_ hw_
             (refine Q71 ?_;refine Q4 ?_)
             refine AR.step1 (i:=20) rfl (by kernel_rfl) rfl ?_
             intro g_ hgro_ hw_
             ((with_reducible apply AOps.appendS);exact rfl;(first|exact .pv rfl|exact .own rfl|exact .nil rfl);(iterate 9 exact rfl);(first|omega|(simp only[List.length_map,List.length_append,List.length_cons,List.length_nil,List.length_drop,List.length_take,List.length_set,List.length_range,chunk_len];omega));refine Q205 ?_)
             refine AR.step1 (i:=21) rfl (by kernel_rfl) rfl ?_
             intro g_ hgro_ hw_
             (refine Q135 ?_)
             refine AR.step1 (i:=22) rfl (by kernel_rfl) rfl ?_
             intro g_ hgro_ hw_
             (refine Q264 ?_)
             refine Q198 ?_
             intro g_ hgro_ hwt2_
             (refine Q324 ?_)
             refine AR.step1 (i:=24) rfl (by kernel_rfl) rfl ?_
             intro g_ hgro_ hw_
             (refine Q135 ?_)
             refine AR.step1 (i:=25) rfl (by kernel_rfl) rfl ?_
             intro g_ hgro_ hw_
             (refine Q252 ?_)
             refine Q197 ?_
             intro g_ hgro_ hwt2_
             (refine Q324 ?_)
             refine Q189 ?_
             intro g_ hgro_ hwt2_
             (refine Q106 ?_)
             refine AR.step1 (i:=28) rfl (by kernel_rfl) rfl ?_
             intro g_ hgro_ hw_
             (refine Q314 ?_)
             refine Q188 ?_
             intro g_ hgro_ hwt2_
             (refine Q150 ?_;refine Q205 ?_)
             refine AR.done (by assumption) (by kernel_rfl) ?_
             (refine inlEnds_n0 ?_;refine nz ?_;refine AOps.nil ?_;refine inBlockD_n ?_;(with_reducible apply roundEndsN_n);exact⟨_,_,_,_,rfl⟩;refine Q157 ?_)
             exact⟨((t.1++ [x],t.2.1++ [(k:Int)],-1),n+1,true),⟨hgo,fun h=>by cases h⟩,by have:=hI.fuel hv.1;show(vars+1 - ((n+1:Nat):Int)).toNat*2+1<(vars+1 - (n:Int)).toNat*2+1;omega,weak rfl (by(exact Q174)) (by(exact Q66)) rfl⟩
            ·refine AR.step1 (i:=13) rfl (by kernel_rfl) rfl ?_
             intro g_ hgro_ hw_
             ((with_reducible apply AOps.appendS);exact rfl;(first|exact .pv rfl|exact .own rfl|exact .nil rfl);(iterate 9 exact rfl);(first|omega|(simp only[List.length_map,List.length_append,List.length_cons,List.length_nil,List.length_drop,List.length_take,List.length_set,List.length_range,chunk_len];omega));refine Q205 ?_)
             refine AR.step1 (i:=20) rfl (by kernel_rfl) rfl ?_
             intro g_ hgro_ hw_
             ((with_reducible apply AOps.appendS);exact rfl;(first|exact .pv rfl|exact .own rfl|exact .nil rfl);(iterate 9 exact rfl);(first|omega|(simp only[List.length_map,List.length_append,List.length_cons,List.length_nil,List.length_drop,List.length_take,List.length_set,List.length_range,chunk_len];omega));refine Q205 ?_)
             refine AR.step1 (i:=21) rfl (by kernel_rfl) rfl ?_
             intro g_ hgro_ hw_
             (refine Q135 ?_)
             refine AR.step1 (i:=22) rfl (by kernel_rfl) rfl ?_
             intro g_ hgro_ hw_
             (refine Q264 ?_)
             refine Q198 ?_
             intro g_ hgro_ hwt2_
             (refine Q324 ?_)
             refine AR.step1 (i:=24) rfl (by kernel_rfl) rfl ?_
             intro g_ hgro_ hw_
             (refine Q135 ?_)
             refine AR.step1 (i:=25) rfl (by kernel_rfl) rfl ?_
             intro g_ hgro_ hw_
             (refine Q252 ?_)
             refine Q197 ?_
             intro g_ hgro_ hwt2_
             (refine Q324 ?_)
             refine Q189 ?_
             intro g_ hgro_ hwt2_
             (refine Q106 ?_)
             refine AR.step1 (i:=28) rfl (by kernel_rfl) rfl ?_
             intro g_ hgro_ hw_
             (refine Q314 ?_)
             refine Q188 ?_
             intro g_ hgro_ hwt2_
             (refine Q150 ?_;refine Q205 ?_)
             refine AR.done (by assumption) (by kernel_rfl) ?_
             (refine inlEnds_n0 ?_;refine nz ?_;refine AOps.nil ?_;refine inBlockD_n ?_;(with_reducible apply roundEndsN_n);exact⟨_,_,_,_,rfl⟩;refine Q157 ?_)
             exact⟨((t.1++ [x],t.2.1++ [(k:Int)],-1),n+1,true),⟨hgo,fun h=>by cases h⟩,by have:=hI.fuel hv.1;show(vars+1 - ((n+1:Nat):Int)).toNat*2+1<(vars+1 - (n:Int)).toNat*2+1;omega,weak rfl (by(exact Q174)) (by(exact Q66)) rfl⟩
           ·refine AR.step1 (i:=12) rfl (by kernel_rfl) rfl ?_
            intro g_ hgro_ hw_
            (refine Q71 ?_;refine Q4 ?_)
            refine AR.step1 (i:=13) rfl (by kernel_rfl) rfl ?_
            intro g_ hgro_ hw_
            ((with_reducible apply AOps.appendS);exact rfl;(first|exact .pv rfl|exact .own rfl|exact .nil rfl);(iterate 9 exact rfl);(first|omega|(simp only[List.length_map,List.length_append,List.length_cons,List.length_nil,List.length_drop,List.length_take,List.length_set,List.length_range,chunk_len];omega));refine Q205 ?_)
            refine AR.step1 (i:=20) rfl (by kernel_rfl) rfl ?_
            intro g_ hgro_ hw_
            ((with_reducible apply AOps.appendS);exact rfl;(first|exact .pv rfl|exact .own rfl|exact .nil rfl);(iterate 9 exact rfl);(first|omega|(simp only[List.length_map,List.length_append,List.length_cons,List.length_nil,List.length_drop,List.length_take,List.length_set,List.length_range,chunk_len];omega));refine Q205 ?_)
            refine AR.step1 (i:=21) rfl (by kernel_rfl) rfl ?_
            intro g_ hgro_ hw_
            (refine Q135 ?_)
            refine AR.step1 (i:=22) rfl (by kernel_rfl) rfl ?_
            intro g_ hgro_ hw_
            (refine Q264 ?_)
            refine Q198 ?_
            intro g_ hgro_ hwt2_
            (refine Q324 ?_)
            refine AR.step1 (i:=24) rfl (by kernel_rfl) rfl ?_
            intro g_ hgro_ hw_
            (refine Q135 ?_)
            refine AR.step1 (i:=25) rfl (by kernel_rfl) rfl ?_
            intro g_ hgro_ hw_
            (refine Q252 ?_)
            refine Q197 ?_
            intro g_ hgro_ hwt2_
            (refine Q324 ?_)
            refine Q189 ?_
            intro g_ hgro_ hwt2_
            (refine Q106 ?_)
            refine AR.step1 (i:=28) rfl (by kernel_rfl) rfl ?_
            intro g_ hgro_ hw_
            (refine Q314 ?_)
            refine Q188 ?_
            intro g_ hgro_ hwt2_
            (refine Q150 ?_;refine Q205 ?_)
            refine AR.done (by assumption) (by kernel_rfl) ?_
            (refine inlEnds_n0 ?_;refine nz ?_;refine AOps.nil ?_;refine inBlockD_n ?_;(with_reducible apply roundEndsN_n);exact⟨_,_,_,_,rfl⟩;refine Q157 ?_)
            exact⟨((t.1++ [x],t.2.1++ [(k:Int)],-1),n+1,true),⟨hgo,fun h=>by cases h⟩,by have:=hI.fuel hv.1;show(vars+1 - ((n+1:Nat):Int)).toNat*2+1<(vars+1 - (n:Int)).toNat*2+1;omega,weak rfl (by(exact Q174)) (by(exact Q66)) rfl⟩
         ·have e0:(x::y::out).length=out.length+2:=rfl
          have hst2:stepM cl t=stepFrom t (k+1:Nat) (cl.drop (k+1)):=hst
          clear hst
          (refine Q115 ?_;refine Q185 ?_;refine Q63 ?_;refine nz ?_;refine Q79 ?_)
          exact⟨k+1,⟨by omega,hst2⟩,by omega,weak rfl (by(first|(refine⟨.eq rfl rfl,?_⟩;refine⟨.nilown _ _ _ rfl rfl,?_⟩;(iterate 11 refine⟨.eq rfl rfl,?_⟩);exact trivial)|(refine⟨.eq rfl rfl,?_⟩;(iterate 12 refine⟨.eq rfl rfl,?_⟩);exact trivial)|(refine⟨.eq rfl rfl,?_⟩;(iterate 6 refine⟨.eq rfl rfl,?_⟩);exact trivial)|(refine⟨.eq rfl rfl,?_⟩;(iterate 3 refine⟨.eq rfl rfl,?_⟩);exact trivial)|(refine⟨.eq rfl rfl,?_⟩;exact trivial))) (by(first|(refine⟨.set rfl,?_⟩;refine⟨.box _ rfl ?_,?_⟩;(iterate 6 refine⟨.eq rfl rfl,?_⟩);exact trivial;refine⟨.box _ rfl ?_,?_⟩;refine⟨.eq rfl rfl,?_⟩;exact trivial;(iterate 2 refine⟨.row rfl,?_⟩);refine⟨.loop rfl,?_⟩;refine⟨.newrow rfl,?_⟩;exact trivial)|(refine⟨.set rfl,?_⟩;refine⟨.box _ rfl ?_,?_⟩;(iterate 6 refine⟨.eq rfl rfl,?_⟩);exact trivial;refine⟨.box _ rfl ?_,?_⟩;refine⟨.eq rfl rfl,?_⟩;exact trivial;(iterate 2 refine⟨.row rfl,?_⟩);refine⟨.loop rfl,?_⟩;refine⟨.row rfl,?_⟩;exact trivial)|(refine⟨.set rfl,?_⟩;refine⟨.box _ rfl ?_,?_⟩;(iterate 6 refine⟨.eq rfl rfl,?_⟩);exact trivial;refine⟨.box _ rfl ?_,?_⟩;refine⟨.eq rfl rfl,?_⟩;exact trivial;(iterate 2 refine⟨.row rfl,?_⟩);refine⟨.loop rfl,?_⟩;exact trivial)|(refine⟨.box _ rfl ?_,?_⟩;refine⟨.fbox rfl rfl (by repeat (first|exact CVs.nil|refine .cons (.any _) ?_|refine .cons (.pv _) ?_|refine .cons (.own rfl rfl) ?_|refine .cons (.nil _) ?_)),?_⟩;(iterate 2 exact trivial)))) rfl⟩
      ·rw[List.drop_eq_nil_of_le (by omega)] at hst
       have hst2:stepM cl t=(t,false):=hst
       (refine Q266 ?_;refine zk ?_;refine AW.exit ?_;(iterate 2 refine thenD_exit ?_);refine inBlockD_exit ?_;refine inBlockD_n ?_;refine thenD_n ?_)
       exact⟨(t,n,false),⟨hI,fun _=>hst2⟩,by show(vars+1 - (n:Int)).toNat*2+0<(vars+1 - (n:Int)).toNat*2+1;omega,weak rfl (by(first|(exact Q241)|(refine⟨.eq rfl rfl,?_⟩;(iterate 12 refine⟨.eq rfl rfl,?_⟩);exact trivial)|(refine⟨.eq rfl rfl,?_⟩;(iterate 6 refine⟨.eq rfl rfl,?_⟩);exact trivial)|(exact Q265)|(exact Q33))) (by(first|(refine Q46 ?_;refine⟨.newrow rfl,?_⟩;exact trivial)|(refine Q46 ?_;exact Q312)|(refine Q46 ?_;exact trivial)|(refine⟨.box _ rfl ?_,?_⟩;refine⟨.fbox rfl rfl (by repeat (first|exact CVs.nil|refine .cons (.any _) ?_|refine .cons (.pv _) ?_|refine .cons (.own rfl rfl) ?_|refine .cons (.nil _) ?_)),?_⟩;(iterate 2 exact trivial)))) rfl⟩
end Go.Ab
/- Chapter 20:unitprop's answers:implied literals,reasons,implied clauses. -/
namespace Go.Ab
open Go Go.Proofs
set_option maxRecDepth 20000
set_option maxHeartbeats 4000000
attribute [local irreducible] AW AOps thenD inBlockD iterEnds roundEndsN inlEnds runM contraM
theorem sm_within {vars:Int} {l:List Int} (hv:0≤vars∧vars≤100000) (h:withinM vars l=true):Sm l:=fun x hx=>by have:=withinM_spec h x hx;omega
structure FOk (vars:Int) (cl:List (List Int)):Prop where
 hv:0≤vars∧vars≤100000
 hcl:∀c∈cl,withinM vars c=true∧c.length≤100000
 h3:cl.length≤1000000
end Go.Ab
/- Chapter 20:unitprop's implied clauses. -/
namespace Go.Ab
open Go Go.Proofs
set_option maxRecDepth 20000
set_option maxHeartbeats 4000000
attribute [local irreducible] AW AOps thenD inBlockD iterEnds roundEndsN inlEnds runM contraM
theorem within_neg {vars:Int} {l:List Int} (h:withinM vars l=true):withinM vars (l.map fun x=>0 - x)=true:=by
 unfold withinM
 rw[List.all_eq_true]
 intro x hx
 obtain⟨y,hy,rfl⟩:=List.mem_map.1 hx
 have:=withinM_spec h y hy
 simp;omega
theorem neg_map (l:List Int):(l.map fun x=> -x)=l.map fun x=>0 - x:=by simp
theorem impl_fn (vars:Int) (cl:List (List Int)) (c:List Int) (hf:FOk vars cl) (hlc:c.length≤100000) (hw:withinM vars c=true):
  Fn Try.prog 11 [fml vars cl,.pv (ints c)] (litB (refImplM vars cl c)):=by
 have hs:=sm_within hf.hv hw
 have hwn:=within_neg hw
 have hsn:=sm_neg hs
 have hln:(c.map fun x=>0 - x).length≤100000:=by simpa using hlc
 have hcf:=contra_fn _ hsn
 have hrf:contraM (c.map fun x=>0 - x)=false→_:=fun hc=>prun_fn vars cl (c.map fun x=>0 - x) hf.hcl hf.h3 hf.hv hln hwn hc
 refine Fn.enter (n:=31) Try.func11 rfl rfl rfl rfl rfl (by decide) fun g hro_ hwt_=>?_;(try refine nz ?_)
 (refine zq ?_;refine Q42 ?_;refine Q52 ?_;refine Q61 ?_;refine Q305 ?_)
 refine AW.len_map 8 rfl fun hlen=>?_
 refine AW.loop (fun(k:Nat)=>{n:=31,env:=[(2,.ptr 0 0),(5,.own 1 3 1 (((c.take k).map fun x=>0 - x).map encI)),(8,.pv (ints c)),(9,litI c.length),(10,litI k)],objs:=[(0,some (.box [litI vars,.pv (intss cl)])),(1,some .row)],nx:=2})
  (fun k=>k≤c.length) (fun k=>c.length - k) 0 ?_ ?_ ?_
 ·simp
 ·exact weak rfl (by(first|(refine⟨.eq rfl rfl,?_⟩;refine⟨.nilown _ _ _ rfl rfl,?_⟩;(iterate 3 refine⟨.eq rfl rfl,?_⟩);exact trivial)|(refine⟨.eq rfl rfl,?_⟩;refine⟨.freeze rfl,?_⟩;(iterate 2 refine⟨.eq rfl rfl,?_⟩);exact trivial))) (by(first|(refine⟨.box _ rfl ?_,?_⟩;(iterate 2 refine⟨.eq rfl rfl,?_⟩);exact trivial;refine⟨.newrow rfl,?_⟩;exact trivial)|(refine⟨.box _ rfl ?_,?_⟩;(iterate 2 refine⟨.eq rfl rfl,?_⟩);(iterate 2 exact trivial)))) rfl
 rintro k hk
 have htl:(c.take k).length≤100000:=by simp;omega
 by_cases hlt:k<c.length
 ·have hx:=hs _ (List.getElem_mem hlt)
  (refine Q22 ?_;(focus ((with_reducible apply AOps.index_map);(iterate 7 exact rfl);rotate_left;omega));refine zr ?_;refine Q11 ?_;refine Q318 ?_;refine Q226 ?_;refine AOps.neg rfl rfl rfl (by omega) ?_;refine Q71 ?_;(with_reducible apply AOps.appendS);exact rfl;(first|exact .pv rfl|exact .own rfl|exact .nil rfl);(iterate 9 exact rfl);(first|omega|(simp only[List.length_map,List.length_append,List.length_cons,List.length_nil,List.length_drop,List.length_take,List.length_set,List.length_range,chunk_len];omega));refine nz ?_;refine Q149 ?_;refine nz ?_;refine Q79 ?_)
  exact⟨k+1,by omega,by omega,weak rfl (by(refine⟨.eq rfl rfl,?_⟩;refine⟨.ownE (by first|with_reducible rfl|(rw[take_succ_get hlt,List.map_append,List.map_append];show _=_++ [encI (0 - c[k])];rw[Int.zero_sub];rfl)) rfl,?_⟩;refine⟨.pvE (by first|with_reducible rfl|(rw[take_succ_get hlt,List.map_append,List.map_append];show _=_++ [encI (0 - c[k])];rw[Int.zero_sub];rfl)),?_⟩;refine⟨.intE (by first|with_reducible rfl|(rw[take_succ_get hlt,List.map_append,List.map_append];show _=_++ [encI (0 - c[k])];rw[Int.zero_sub];rfl)),?_⟩;refine⟨.eq rfl rfl,?_⟩;exact trivial)) (by(refine⟨.box _ rfl ?_,?_⟩;refine⟨.intE (by first|with_reducible rfl|(rw[take_succ_get hlt,List.map_append,List.map_append];show _=_++ [encI (0 - c[k])];rw[Int.zero_sub];rfl)),?_⟩;refine⟨.pvE (by first|with_reducible rfl|(rw[take_succ_get hlt,List.map_append,List.map_append];show _=_++ [encI (0 - c[k])];rw[Int.zero_sub];rfl)),?_⟩;exact trivial;refine⟨.row rfl,?_⟩;exact trivial)) rfl⟩
 ·have hall:c.take k=c:=take_all (by omega)
  rw[hall]
  cases hc:contraM (c.map fun x=>0 - x) with
  |true=>
   rw[hc] at hcf
   (refine Q208 ?_;refine Q207 ?_;refine AOps.call (hcf) (.cons rfl (.own _ _ _ _ rfl) .nil) rfl rfl (fun h_=>by cases h_) ?_;refine zm ?_;(iterate 7 refine AOps.guard_lf rfl rfl rfl rfl rfl rfl rfl ?_);refine Q268 ?_)
   ·(apply ends_ret;(exact Res.one (.tmp rfl rfl));(refine Le.litB ?_;(rw[refImplM,if_pos hc])))
  |false=>
   have hr:=hrf hc
   rw[hc] at hcf
   refine AW.weak (δ':={n:=31,env:=[(2,.ptr 0 0),(5,.pv (ints (c.map fun x=>0 - x))),(9,litI c.length),(10,litI k)],objs:=[(0,some (.box [litI vars,.pv (intss cl)]))],nx:=2}) (weak rfl (by(first|(refine⟨.eq rfl rfl,?_⟩;refine⟨.nilown _ _ _ rfl rfl,?_⟩;(iterate 3 refine⟨.eq rfl rfl,?_⟩);exact trivial)|(refine⟨.eq rfl rfl,?_⟩;refine⟨.freeze rfl,?_⟩;exact Q148))) (by(first|(refine⟨.box _ rfl ?_,?_⟩;exact Q148;refine⟨.newrow rfl,?_⟩;exact trivial)|(exact Q282))) rfl) ?_
   (refine Q208 ?_;refine Q262 ?_;refine AOps.call (hcf) (.cons rfl (.pv _) .nil) rfl rfl (fun h_=>by cases h_) ?_;refine zm ?_;refine zl ?_;refine Q284 ?_;refine Q91 ?_;refine AOps.callp (hr) (.cons rfl (.aggL (.cons (.pv _) (.cons (.pv _) .nil))) (.cons rfl (.pv _) .nil)) rfl ?_;refine zl ?_;refine AOps.nilCheck_rptr rfl rfl rfl ?_;refine zl ?_;refine AOps.fieldAddr_rN 59 4 5 1 rfl rfl rfl rfl ?_;refine nz ?_;refine zl ?_;refine zr ?_;refine zl ?_;refine AOps.geq rfl rfl rfl rfl rfl ?_;refine AOps.pick_lf rfl rfl rfl rfl rfl rfl ?_;refine Q28 ?_)
   (apply ends_ret;(exact Res.one (.tmp rfl rfl));(refine Le.litB ?_;(rw[refImplM,if_neg (by rw[hc];simp)])))
end Go.Ab
/-
 DERIVED:THE SHELF's CONTRACTS AT THIS DUMP,IN PLAIN WORDS (tools/lay-plain.mjs out of 'TryShelf.lean',which tools/lay-shelf.mjs wrote):THE SAME DECLARATIONS UNDER THE SAME NAMES: 'import', 'namespace', 'open', 'def', 'theorem' AND NOTHING ELSE:no command of the shelf's:FOR A HAND-IN. Each laying:the table of numbers ('.._ren') and one theorem,a field a fact of the dump's own or the kernel's comparison;each contract:ONE APPLICATION.
-/
namespace Go.Proofs
open Go.Shelf
def Try.lays189_ren:Go.Shelf.Ren:=⟨fun|189=>71|125=>74|257=>73|128=>84|129=>85|294=>75|295=>76|296=>77|297=>78|298=>79|299=>80|216=>81|300=>82|301=>83|328=>86|329=>87|330=>88|331=>89|332=>90|215=>91|343=>92|n=>n,fun|28=>28|3=>3|46=>96|0=>0|51=>106|53=>108|4=>4|183=>99|182=>98|131=>103|5=>5|9=>9|218=>109|222=>113|228=>115|229=>116|n=>n,fun|n=>n⟩
theorem Try.lays189:Go.Proofs.Lays.n189 Try.prog Try.lays189_ren:={
 mixed:=by kernel_rfl
 f125:=Try.func74.trans (congrArg some (by kernel_rfl))
 f128:=Try.func84.trans (congrArg some (by kernel_rfl))
 f129:=Try.func85.trans (congrArg some (by kernel_rfl))
 f189:=Try.func71.trans (congrArg some (by kernel_rfl))
 f215:=Try.func91.trans (congrArg some (by kernel_rfl))
 f216:=Try.func81.trans (congrArg some (by kernel_rfl))
 f257:=Try.func73.trans (congrArg some (by kernel_rfl))
 f294:=Try.func75.trans (congrArg some (by kernel_rfl))
 f295:=Try.func76.trans (congrArg some (by kernel_rfl))
 f296:=Try.func77.trans (congrArg some (by kernel_rfl))
 f297:=Try.func78.trans (congrArg some (by kernel_rfl))
 f298:=Try.func79.trans (congrArg some (by kernel_rfl))
 f299:=Try.func80.trans (congrArg some (by kernel_rfl))
 f300:=Try.func82.trans (congrArg some (by kernel_rfl))
 f301:=Try.func83.trans (congrArg some (by kernel_rfl))
 f328:=Try.func86.trans (congrArg some (by kernel_rfl))
 f329:=Try.func87.trans (congrArg some (by kernel_rfl))
 f330:=Try.func88.trans (congrArg some (by kernel_rfl))
 f331:=Try.func89.trans (congrArg some (by kernel_rfl))
 f332:=Try.func90.trans (congrArg some (by kernel_rfl))
 f343:=Try.func92.trans (congrArg some (by kernel_rfl))
 t0:=Try.underlying0
 a0:=Try.isAgg0
 z0:=Try.sizeOf0
 v0:=Try.zeroValue0
 t3:=Try.underlying3
 a3:=Try.isAgg3
 z3:=Try.sizeOf3
 v3:=Try.zeroValue3
 t4:=Try.underlying4
 a4:=Try.isAgg4
 z4:=Try.sizeOf4
 v4:=Try.zeroValue4
 t5:=Try.underlying5
 a5:=Try.isAgg5
 z5:=Try.sizeOf5
 v5:=Try.zeroValue5
 t9:=Try.underlying9
 a9:=Try.isAgg9
 z9:=Try.sizeOf9
 v9:=Try.zeroValue9
 t28:=Try.underlying28
 a28:=Try.isAgg28
 z28:=Try.sizeOf28
 v28:=Try.zeroValue28
 t46:=Try.underlying96
 a46:=Try.isAgg96
 z46:=Try.sizeOf96
 v46:=Try.zeroValue96
 t51:=Try.underlying106
 a51:=Try.isAgg106
 z51:=Try.sizeOf106
 v51:=Try.zeroValue106
 t53:=Try.underlying108
 a53:=Try.isAgg108
 z53:=Try.sizeOf108
 v53:=Try.zeroValue108
 t131:=Try.underlying103
 a131:=Try.isAgg103
 z131:=Try.sizeOf103
 v131:=Try.zeroValue103
 t182:=Try.underlying98
 a182:=Try.isAgg98
 z182:=Try.sizeOf98
 v182:=Try.zeroValue98
 t183:=Try.underlying99
 a183:=Try.isAgg99
 z183:=Try.sizeOf99
 v183:=Try.zeroValue99
 t218:=Try.underlying109
 a218:=Try.isAgg109
 z218:=Try.sizeOf109
 v218:=Try.zeroValue109
 t222:=Try.underlying113
 a222:=Try.isAgg113
 z222:=Try.sizeOf113
 v222:=Try.zeroValue113
 t228:=Try.underlying115
 a228:=Try.isAgg115
 z228:=Try.sizeOf115
 v228:=Try.zeroValue115
 t229:=Try.underlying116
 a229:=Try.isAgg116
 z229:=Try.sizeOf116
 v229:=Try.zeroValue116}
open Go.Sort Go.RowKit in
theorem Try.slices_Sort_int (blk off cap:Nat) (zs:List Int) (w:World) (hH:Holds (Value.int .i64) w blk off zs.toArray) (hblk:blk<w.heap.size) (hsz:zs.length<4611686018427387904):
  Calls Try.prog 71 #[.slice (some ⟨blk,off,none⟩) zs.length cap] w fun e w'=>
   e=.returned (.tuple #[])∧∃n os,w'=grow (putRow (Value.int .i64) (Sort.ahead w n) blk off (zs.mergeSort fun x y=>decide (x≤y)).toArray) os:=Any.slices_Sort_int Try.lays189 blk off cap zs w hH hblk hsz
def Try.laysNm220_ren:Go.Shelf.Ren:=⟨fun|20=>72|n=>n,fun|22=>28|3=>3|4=>4|0=>0|n=>n,fun|n=>n⟩
theorem Try.laysNm220:Go.Proofs.Lays2.n20 Try.prog Try.laysNm220_ren:={
 mixed:=by kernel_rfl
 f20:=Try.func72.trans (congrArg some (by kernel_rfl))
 t0:=Try.underlying0
 a0:=Try.isAgg0
 z0:=Try.sizeOf0
 v0:=Try.zeroValue0
 t3:=Try.underlying3
 a3:=Try.isAgg3
 z3:=Try.sizeOf3
 v3:=Try.zeroValue3
 t4:=Try.underlying4
 a4:=Try.isAgg4
 z4:=Try.sizeOf4
 v4:=Try.zeroValue4
 t22:=Try.underlying28
 a22:=Try.isAgg28
 z22:=Try.sizeOf28
 v22:=Try.zeroValue28
 i3:=by kernel_rfl}
open Go.RowKit Go.Lib Go.Sort in
theorem Try.slices_Compact_int (blk off cap:Nat) (zs:List Int) (w:World) (hH:Holds (Value.int .i64) w blk off zs.toArray) (hsz:zs.length≤9223372036854775807) (hcap:zs.length≤cap):
  Calls Try.prog 72 #[.slice (some ⟨blk,off,none⟩) zs.length cap] w fun e w'=>e=.returned (.slice (some ⟨blk,off,none⟩) (Lib.compact zs).length cap)∧∃q,w'=putRow (Value.int .i64) (Sort.ahead w q) blk off (Lib.compact zs++List.replicate (zs.length - (Lib.compact zs).length) 0).toArray:=Any.slices_Compact_int Try.laysNm220 blk off cap zs w hH hsz hcap
open Go.RowKit Go.Lib Go.Sort in
theorem Try.slices_Compact_int_empty (a:Option Addr) (cap:Nat) (w:World):
  Calls Try.prog 72 #[.slice a 0 cap] w fun e w'=>e=.returned (.slice a 0 cap)∧w'=w:=Any.slices_Compact_int_empty Try.laysNm220 a cap w
open Go.RowKit Go.Sort in
theorem Try.slices_Sort_int_none (p:Option Addr) (cap:Nat) (w:World):
  Calls Try.prog 71 #[.slice p 0 cap] w fun e w'=>e=.returned (.tuple #[])∧w'=w:=Any.slices_Sort_int_none Try.lays189 p cap w
end Go.Proofs
/- Go's slices.Sort and slices.Compact at numbers,as callees that rewrite a row. -/
namespace Go.Ab
open Go Go.Proofs Go.RowKit
def sortL (zs:List Int):List Int:=zs.mergeSort fun x y=>decide (x≤y)
def compL (zs:List Int):List Int:=Go.Lib.compact zs
def compZ (zs:List Int):List Int:=compL zs++List.replicate (zs.length - (compL zs).length) 0
theorem compL_le (zs:List Int):(compL zs).length≤zs.length:=by
 unfold compL Go.Lib.compact Go.Lib.compactUpTo
 rw[List.length_map]
 exact Nat.le_trans (List.length_filter_le _ _) (by simp)
theorem sort_rowC:RowC Try.prog 71 sortL none where
 enters:=enters_of Try.func71 rfl (by decide)
 len:=fun zs=>by simp [sortL]
 retle:=fun r h=>by cases h
 calls:=fun b cap zs w hH hb hl _=>Try.slices_Sort_int b 0 cap zs w hH hb (by omega)
 nil:=fun w=>(Try.slices_Sort_int_none none 0 w).mono fun e w' ⟨h1,h2⟩=>⟨h1,h2▸Below.refl _ _⟩
theorem compact_rowC:RowC Try.prog 72 compZ (some fun zs=>(compL zs).length) where
 enters:=enters_of Try.func72 rfl (by decide)
 len:=fun zs=>by have:=compL_le zs;simp [compZ];omega
 retle:=fun r h zs=>by cases h;exact compL_le zs
 calls:=fun b cap zs w hH hb hl hc=>(Try.slices_Compact_int b 0 cap zs w hH (by omega) hc).mono fun e w' ⟨h1,q,h2⟩=>⟨h1,q, #[],by rw[h2];simp [Sort.grow];rfl⟩
 nil:=fun w=>(Try.slices_Compact_int_empty none 0 w).mono fun e w' ⟨h1,h2⟩=>⟨h1,h2▸Below.refl _ _⟩
end Go.Ab
/- Lists of numbers put in order,each number once. -/
namespace Go.Ab
open Go Go.Proofs
abbrev Inc (l:List Int):Prop:=l.Pairwise (·<·)
theorem inc_ext:∀{a b:List Int},Inc a→Inc b→(∀x,x∈a↔x∈b)→a=b
 |[],[],_,_,_=>rfl
 |[],y::b,_,_,h=>by have:=(h y).2 (by simp);simp at this
 |x::a,[],_,_,h=>by have:=(h x).1 (by simp);simp at this
 |x::a,y::b,ha,hb,h=>by
  have ha':=List.pairwise_cons.1 ha
  have hb':=List.pairwise_cons.1 hb
  have hxy:x=y:=by
   have h1:=(h x).1 (by simp)
   have h2:=(h y).2 (by simp)
   rcases List.mem_cons.1 h1 with e|h1
   ·exact e
   ·rcases List.mem_cons.1 h2 with e|h2
    ·exact e.symm
    ·have:=hb'.1 x h1
     have:=ha'.1 y h2
     omega
  subst hxy
  rw[inc_ext ha'.2 hb'.2 fun z=>?_]
  constructor
  ·intro hz
   have h1:=ha'.1 z hz
   rcases List.mem_cons.1 ((h z).1 (by simp [hz])) with e|h2
   ·omega
   ·exact h2
  ·intro hz
   have h1:=hb'.1 z hz
   rcases List.mem_cons.1 ((h z).2 (by simp [hz])) with e|h2
   ·omega
   ·exact h2
theorem getBang {zs:List Int} {j:Nat} (hj:j<zs.length):zs.toArray[j]! =zs[j]:=by simp [hj]
theorem mem_comp {zs:List Int} {x:Int}:x∈compL zs↔∃j,∃h:j<zs.length,zs[j]=x∧(j=0∨∃h':j - 1<zs.length,zs[j]≠zs[j - 1]):=by
 unfold compL Go.Lib.compact Go.Lib.compactUpTo
 simp only[List.mem_map,List.mem_filter,List.mem_range,Go.Lib.keeps,decide_eq_true_eq]
 constructor
 ·rintro⟨j,⟨hj,hk⟩,rfl⟩
  refine⟨j,hj,(getBang hj).symm,?_⟩
  rcases hk with hk|hk
  ·exact .inl hk
  ·by_cases h0:j=0
   ·exact .inl h0
   ·right
    refine⟨by omega,?_⟩
    rwa [getBang hj,getBang (by omega)] at hk
 ·rintro⟨j,hj,rfl,hk⟩
  refine⟨j,⟨hj,?_⟩,getBang hj⟩
  rcases hk with hk|⟨h',hk⟩
  ·exact .inl hk
  ·right
   rwa [getBang hj,getBang h']
theorem comp_mem {zs:List Int} {x:Int}:x∈compL zs↔x∈zs:=by
 rw[mem_comp]
 constructor
 ·rintro⟨j,hj,rfl,_⟩;exact List.getElem_mem hj
 ·intro hx
  obtain⟨j,hj,rfl⟩:=List.getElem_of_mem hx
  induction j with
  |zero=>exact⟨0,hj,rfl,.inl rfl⟩
  |succ j ih=>
   by_cases e:zs[j+1]=zs[j]
   ·obtain⟨i,hi,h1,h2⟩:=ih (by omega) (List.getElem_mem _)
    exact⟨i,hi,h1.trans e.symm,h2⟩
   ·exact⟨j+1,hj,rfl,.inr ⟨by omega,e⟩⟩
theorem comp_inc {zs:List Int} (h:zs.Pairwise (·≤·)):Inc (compL zs):=by
 unfold compL Go.Lib.compact Go.Lib.compactUpTo Inc
 rw[List.pairwise_map]
 have h1:((List.range zs.length).filter (Go.Lib.keeps zs.toArray)).Pairwise (·<·):=List.Pairwise.filter _ List.pairwise_lt_range
 refine List.Pairwise.imp_of_mem (fun {i j} hi hj hij=>?_) h1
 simp only[List.mem_filter,List.mem_range,Go.Lib.keeps,decide_eq_true_eq] at hi hj
 obtain⟨hi1,_⟩:=hi
 obtain⟨hj1,hj2⟩:=hj
 rw[getBang hi1,getBang hj1]
 rw[List.pairwise_iff_getElem] at h
 rcases hj2 with h0|h0
 ·omega
 ·have hjm:j - 1<zs.length:=by omega
  have h2:zs[j - 1]≤zs[j]:=h (j - 1) j hjm hj1 (by omega)
  rw[getBang hj1,getBang hjm] at h0
  by_cases e:i=j - 1
  ·subst e;omega
  ·have h3:zs[i]≤zs[j - 1]:=h i (j - 1) hi1 hjm (by omega)
   omega
theorem sort_mem {zs:List Int} {x:Int}:x∈sortL zs↔x∈zs:=(List.mergeSort_perm zs _).mem_iff
theorem sort_le (zs:List Int):(sortL zs).Pairwise (·≤·):=by
 have:=List.pairwise_mergeSort (le:=fun x y:Int=>decide (x≤y)) (fun a b c h1 h2=>by simp only[decide_eq_true_eq] at*;omega) (fun a b=>by simp only[Bool.or_eq_true,decide_eq_true_eq];omega) zs
 exact this.imp fun h=>by simpa using h
def canon (zs:List Int):List Int:=compL (sortL zs)
theorem canon_def (zs:List Int):compL (sortL zs)=canon zs:=rfl
theorem canon_inc (zs:List Int):Inc (canon zs):=comp_inc (sort_le zs)
theorem canon_mem {zs:List Int} {x:Int}:x∈canon zs↔x∈zs:=by unfold canon;rw[comp_mem,sort_mem]
theorem canon_congr {a b:List Int} (h:∀x,x∈a↔x∈b):canon a=canon b:=inc_ext (canon_inc a) (canon_inc b) fun x=>by rw[canon_mem,canon_mem,h]
theorem compZ_take (zs:List Int):(compZ zs).take (compL zs).length=compL zs:=by unfold compZ;rw[List.take_append_of_le_length (Nat.le_refl _),List.take_length]
end Go.Ab
/- Chapter 23:the checker's clauses:put in order,compared,within the variables,their images. -/
namespace Go.Ab
open Go Go.Proofs
open Nat (reduceAdd reduceSub)
set_option maxRecDepth 20000
set_option maxHeartbeats 4000000
theorem eq_at_end {α:Type} {a b:List α} {k:Nat} (hl:a.length=b.length) (h:a.take k=b.take k) (hk:¬k<a.length):a=b:=by
 rwa [List.take_of_length_le (by omega),List.take_of_length_le (by omega)] at h
theorem eq_step {α:Type} {a b:List α} {k:Nat} (h:a.take k=b.take k) (ha:k<a.length) (hb:k<b.length) (e:a[k]=b[k]):a.take (k+1)=b.take (k+1):=by
 rw[take_succ_get ha,take_succ_get hb,h,e]
attribute [local irreducible] AW AOps thenD inBlockD AR iterEnds roundEndsN inlEnds noGotoD canon sortL compL compZ
theorem sEqual_fn (a b:List Int):Fn Try.prog 59 [.pv (ints a),.pv (ints b)] (litB (decide (a=b))):=by
 refine Fn.enter (n:=26) Try.func59 rfl rfl rfl rfl rfl (by decide) fun g hro_ hwt_=>?_;(try refine nz ?_)
 refine AW.len_map 0 rfl fun hlen=>?_
 by_cases hab:a.length=b.length
 ·(refine Q319 ?_;refine Q116 ?_;refine zo ?_;refine Q305 ?_)
  refine AW.loop (fun(k:Nat)=>{n:=26,env:=[(0,.pv (ints a)),(1,.pv (ints b)),(12,litI a.length),(13,litI k)],objs:=[],nx:=0}) (fun k=>k≤a.length∧a.take k=b.take k) (fun k=>a.length - k) 0 ?_ ?_ ?_
  ·simp
  ·exact weak rfl (by(refine⟨.eq rfl rfl,?_⟩;(iterate 3 refine⟨.eq rfl rfl,?_⟩);exact trivial)) (by(exact trivial)) rfl
  rintro k ⟨hk,hno⟩
  by_cases hlt:k<a.length
  ·have hlt2:k<b.length:=by omega
   (refine Q250 ?_;refine Q61 ?_;refine AW.regionQ rfl rfl (by kernel_rfl) (by with_reducible assumption) ?_;(iterate 2 refine zm ?_);(focus ((with_reducible apply AOps.index_map);(iterate 7 exact rfl);rotate_left;omega));refine zr ?_;(iterate 2 refine zm ?_);(focus ((with_reducible apply AOps.index_map);(iterate 7 exact rfl);rotate_left;omega));refine zr ?_;refine AOps.neq rfl rfl rfl rfl rfl ?_;refine zd ?_;(focus ((with_reducible apply AW.condD);exact rfl;exact rfl;all_goals intro hc_));refine Q195 ?_;refine Q17 ?_;(all_goals skip);rotate_left;refine Q270 ?_;(all_goals skip);rotate_left)
   ·have hne:¬a=b:=by rintro rfl;exact hc_ rfl
    (apply ends_ret;(exact Res.one (.tmp rfl rfl));(refine Le.litB ?_;(rw[eq_comm,decide_eq_false_iff_not];exact hne)))
   ·exact⟨k+1,⟨by omega,eq_step hno hlt hlt2 (Decidable.not_not.1 hc_)⟩,by omega,weak rfl (by(refine⟨.eq rfl rfl,?_⟩;(iterate 3 refine⟨.eq rfl rfl,?_⟩);exact trivial)) (by(exact trivial)) rfl⟩
  ·have he:a=b:=eq_at_end hab hno hlt
   (refine Q208 ?_;refine Q195 ?_)
   (apply ends_ret;(exact Res.one (.tmp rfl rfl));(refine Le.litB ?_;(rw[eq_comm,decide_eq_true_iff];exact he)))
 ·have hne:¬a=b:=by rintro rfl;exact hab rfl
  (refine Q319 ?_;refine Q185 ?_;refine Q52 ?_;refine Q153 ?_)
  (apply ends_ret;(exact Res.one (.tmp rfl rfl));(refine Le.litB ?_;(rw[eq_comm,decide_eq_false_iff_not];exact hne)))
theorem encI_nI (l:List Int):l.map encI=l.map nI:=rfl
theorem clone_fnO (l:List Int) (hl:l.length≤1000000):FnO Try.prog 45 [.pv (ints l)] 3 1 (l.map nI):=by
 rw[← encI_nI]
 refine FnO.enter (n:=8) Try.func45 rfl rfl rfl rfl rfl (by decide) fun g hro_ hwt_=>?_;(try refine nz ?_)
 by_cases h0:l=[]
 ·subst h0
  have e0:([]:List Int).length=0:=rfl
  (refine Q173 ?_;refine Q262 ?_;(focus ((with_reducible apply AOps.eqlNil);(iterate 6 exact rfl);all_goals intro hc_));refine Q93 ?_;(all_goals skip);rotate_left;refine Q301 ?_;refine zm ?_;(with_reducible apply AOps.appendS);exact rfl;(first|exact .pv rfl|exact .own rfl|exact .nil rfl);(iterate 9 exact rfl);(first|omega|(simp only[List.length_map,List.length_append,List.length_cons,List.length_nil,List.length_drop,List.length_take,List.length_set,List.length_range,chunk_len];omega));refine nz ?_;refine Q269 ?_;(all_goals skip);rotate_left)
  all_goals ((first|(refine endsO_ret (Res.one (.tmp rfl rfl)) ?_)|(refine endsO_ret (Res.one (.cell1 rfl rfl rfl rfl)) ?_)|(refine endsO_nil (Res.one (.tmp rfl rfl)) ?_));(first|rfl|simp))
 ·have e0:0<l.length:=List.length_pos_iff.2 h0
  have e1:¬l.map encI=[]:=by simpa using h0
  clear h0
  (refine Q173 ?_;refine Q262 ?_;(focus ((with_reducible apply AOps.eqlNil);(iterate 6 exact rfl);all_goals intro hc_));refine Q93 ?_;(all_goals skip);rotate_left;refine Q301 ?_;refine zm ?_;(with_reducible apply AOps.appendS);exact rfl;(first|exact .pv rfl|exact .own rfl|exact .nil rfl);(iterate 9 exact rfl);(first|omega|(simp only[List.length_map,List.length_append,List.length_cons,List.length_nil,List.length_drop,List.length_take,List.length_set,List.length_range,chunk_len];omega));refine nz ?_;refine Q269 ?_;(all_goals skip);rotate_left)
  ·exact absurd hc_ e1
  ·((first|(refine endsO_ret (Res.one (.tmp rfl rfl)) ?_)|(refine endsO_ret (Res.one (.cell1 rfl rfl rfl rfl)) ?_)|(refine endsO_nil (Res.one (.tmp rfl rfl)) ?_));(first|rfl|simp))
theorem normal_fn (l:List Int) (hl:l.length≤1000000):Fn Try.prog 60 [.pv (ints l)] (.pv (ints (canon l))):=by
 have hc:=clone_fnO l hl
 refine Fn.enter (n:=10) Try.func60 rfl rfl rfl rfl rfl (by decide) fun g hro_ hwt_=>?_;(try refine nz ?_)
 (refine zq ?_;refine Q145 ?_;refine zm ?_;(with_reducible apply AOps.callo (hc));(repeat (first|exact .nil|(refine .cons rfl ?_ ?_;(first|exact .pv _|exact .own _ _ _ _ rfl|exact .nil _|exact .any _|exact .rptr _|(refine .aggL ?_;repeat (first|exact .nil|(refine .cons ?_ ?_;(first|exact .pv _|exact .own _ _ _ _ rfl|exact .nil _))))))));exact rfl;refine nz ?_;refine Q104 ?_;refine Q207 ?_;(try refine nz ?_);refine AOps.rowC (sort_rowC) [6,3,5] rfl ⟨rfl,rfl,rfl,trivial⟩ rfl rfl rfl ?_;(conv=>rhs;simp only[Nf.rwR,Nf.all,Nat.reduceBEq,reduceAdd,reduceSub]);refine zd ?_;refine zq ?_;refine AOps.move_own rfl rfl rfl ?_;(try refine nz ?_);refine AOps.rowC (compact_rowC) [8,6,3,5] rfl ⟨rfl,rfl,rfl,rfl,trivial⟩ rfl rfl rfl ?_;(conv=>rhs;simp only[Nf.rwR,Nf.all,Nat.reduceBEq,reduceAdd,reduceSub]);refine Q269 ?_)
 (apply ends_ret;(exact Res.one (.tmp rfl rfl));(refine Le.ownE ?_;(first|rfl|(rw[compZ_take,canon_def];rfl))))
theorem equal_fn (a b:List Int) (ha:a.length≤1000000) (hb:b.length≤1000000):Fn Try.prog 30 [.pv (ints a),.pv (ints b)] (litB (decide (canon a=canon b))):=by
 have h1:=normal_fn a ha
 have h2:=normal_fn b hb
 have h3:=sEqual_fn (canon a) (canon b)
 refine Fn.enter (n:=10) Try.func30 rfl rfl rfl rfl rfl (by decide) fun g hro_ hwt_=>?_;(try refine nz ?_)
 (refine zq ?_;refine Q145 ?_;refine zm ?_;refine zP (h1) ?_;refine zm ?_;refine zP (h2) ?_;refine zA (h3) ?_;refine Q28 ?_)
 (apply ends_ret;(exact Res.one (.tmp rfl rfl));(refine Le.litB ?_;(rfl)))
theorem within_snoc {vars:Int} {l:List Int} {k:Nat} (hk:k<l.length):withinM vars (l.take (k+1))=(withinM vars (l.take k) && decide (l[k]≠0∧l[k]≤vars∧0 - vars≤l[k])):=by
 unfold withinM
 rw[take_succ_get hk,List.all_append]
 simp
theorem cWithin_fn (vars:Int) (l:List Int) (hv: -1000000≤vars∧vars≤1000000):Fn Try.prog 26 [litI vars,.pv (ints l)] (litB (withinM vars l)):=by
 refine Fn.enter (n:=9) Try.func26 rfl rfl rfl rfl rfl (by decide) fun g hro_ hwt_=>?_;(try refine nz ?_)
 refine AW.len_map 1 rfl fun hlen=>?_
 (refine zq ?_;refine Q42 ?_;refine Q262 ?_;refine AOps.makeFunc_c rfl rfl rfl ?_;(with_reducible apply AOps.inline (hf:=Try.func53));(with_reducible assumption);(iterate 10 exact rfl);intro g_ hro_ hwt_;refine Q247 ?_;refine zm ?_;refine AOps.move_clo rfl rfl rfl ?_;(with_reducible apply AOps.inline (hf:=Try.func69));(with_reducible assumption);(iterate 10 exact rfl);intro g_ hro_ hwt_;refine Q131 ?_;refine Q61 ?_;refine Q305 ?_)
 (refine nz ?_;apply AW.loopR [7,0,1,1006,1005,1004,1000,1001,2006,2005,2004,2002,2001] [0] (fun k:Nat=>([(8,litI k)]:List (Nat×AV))) (fun k:Nat=>([]:List (Nat×Option Ob))) (fun k:Nat=>k≤l.length∧withinM vars (l.take k)=true) (fun k:Nat=>l.length - k) (0);(conv=>lhs;simp only[Nf.lpR,Nf.all,Nat.reduceBEq,reduceAdd,reduceSub]);(all_goals skip))
 ·exact⟨Nat.zero_le _,rfl⟩
 ·exact weak rfl (by(refine⟨.eq rfl rfl,?_⟩;(iterate 13 refine⟨.eq rfl rfl,?_⟩);exact trivial)) (by(refine⟨.box _ rfl ?_,?_⟩;refine⟨.eq rfl rfl,?_⟩;(iterate 2 exact trivial))) rfl
 rintro k ⟨hk,hno⟩
 by_cases hlt:k<l.length
 ·have hs:=within_snoc (vars:=vars) hlt
  rw[hno,Bool.true_and] at hs
  by_cases hb:l[k]≠0∧l[k]≤vars∧0 - vars≤l[k]
  ·obtain⟨b1,b2,b3⟩:=hb
   rw[decide_eq_true ⟨b1,b2,b3⟩] at hs
   have b4:¬l[k]< -vars:=by omega
   have b5:¬vars<l[k]:=by omega
   (refine Q243 ?_;(focus ((with_reducible apply AOps.index_map);(iterate 7 exact rfl);rotate_left;omega));refine zr ?_;(with_reducible apply AOps.inline (hf:=Try.func57));(with_reducible assumption);(iterate 10 exact rfl);intro g_ hro_ hwt_;refine Q247 ?_;refine zm ?_;refine Q179 ?_;refine Q64 ?_;refine Q307 ?_;refine Q136 ?_;refine Q79 ?_)
   exact⟨k+1,⟨by omega,hs⟩,by omega,weak rfl (by(refine⟨.eq rfl rfl,?_⟩;(iterate 13 refine⟨.eq rfl rfl,?_⟩);exact trivial)) (by(refine⟨.box _ rfl ?_,?_⟩;refine⟨.eq rfl rfl,?_⟩;(iterate 2 exact trivial))) rfl⟩
  ·have hf:=withinM_no hlt hb
   rw[hf]
   by_cases b1:l[k]=0
   ·(refine Q243 ?_;(focus ((with_reducible apply AOps.index_map);(iterate 7 exact rfl);rotate_left;omega));refine zr ?_;(with_reducible apply AOps.inline (hf:=Try.func57));(with_reducible assumption);(iterate 10 exact rfl);intro g_ hro_ hwt_;refine Q247 ?_;refine zm ?_;refine AOps.eql rfl rfl rfl rfl rfl ?_;refine Q332 ?_;refine Q268 ?_;refine Q64 ?_;refine Q43 ?_;refine Q238 ?_;refine Q89 ?_;refine Q28 ?_)
    all_goals (apply ends_ret;(exact Res.one (.tmp rfl rfl));(refine Le.litB ?_;(first|rfl)))
   ·by_cases b2:vars<l[k]
    ·(refine Q243 ?_;(focus ((with_reducible apply AOps.index_map);(iterate 7 exact rfl);rotate_left;omega));refine zr ?_;(with_reducible apply AOps.inline (hf:=Try.func57));(with_reducible assumption);(iterate 10 exact rfl);intro g_ hro_ hwt_;refine Q247 ?_;refine zm ?_;refine AOps.eql rfl rfl rfl rfl rfl ?_;(iterate 2 refine Q154 ?_);refine zb ?_;refine Q62 ?_;refine zm ?_;refine Q199 ?_;refine Q28 ?_;refine Q64 ?_;refine Q43 ?_;refine Q238 ?_;refine Q89 ?_;refine Q28 ?_)
     all_goals (apply ends_ret;(exact Res.one (.tmp rfl rfl));(refine Le.litB ?_;(first|rfl)))
    ·have b3:l[k]< -vars:=by omega
     (refine Q243 ?_;(focus ((with_reducible apply AOps.index_map);(iterate 7 exact rfl);rotate_left;omega));refine zr ?_;(with_reducible apply AOps.inline (hf:=Try.func57));(with_reducible assumption);(iterate 10 exact rfl);intro g_ hro_ hwt_;refine Q247 ?_;refine zm ?_;refine Q179 ?_;refine Q64 ?_;refine Q185 ?_;refine Q238 ?_;refine Q89 ?_;refine Q28 ?_)
     all_goals (apply ends_ret;(exact Res.one (.tmp rfl rfl));(refine Le.litB ?_;(first|rfl)))
 ·rw[take_all (l:=l) (by omega)] at hno
  rw[hno]
  (refine Q208 ?_;refine Q195 ?_;refine Q89 ?_;refine Q28 ?_)
  (apply ends_ret;(exact Res.one (.tmp rfl rfl));(refine Le.litB ?_;(first|rfl)))
end Go.Ab
/- Chapter 23:Go's slices.Delete of one clause. -/
namespace Go.Ab
open Go Go.Proofs Go.RowKit Go.Lib Go.Sort
set_option maxRecDepth 1000000
set_option maxHeartbeats 4000000
abbrev vv (u:Value):Value:=u
theorem del_calls (b off cap i:Nat) (us:List Value) (w:World) (hH0:Holds (fun u:Value=>u) w b off us.toArray) (h1:∀u∈us,u.oneCell'=true) (hcap:us.length≤cap) (hm:cap≤maxLen) (hi:i<us.length):
  Calls Try.prog 67 #[.slice (some ⟨b,off,none⟩) us.length cap,.int .i64 i,.int .i64 (i+1)] w fun e w'=>e=.returned (.slice (some ⟨b,off,none⟩) (us.length - 1) cap)∧
   ∃n,w'=putRow (fun u:Value=>u) (Sort.ahead w n) b off (us.take i++us.drop (i+1)++ [Value.slice none 0 0]).toArray:=by
 have hm':cap≤9223372036854775807:=Nat.le_trans hm (by unfold maxLen;decide)
 obtain⟨d,hd⟩:∃d:Array Value,d=us.toArray:=⟨_,rfl⟩
 have hds:us.length=d.size:=by rw[hd];simp
 have hdl:d.toList=us:=by rw[hd]
 have hH:Holds vv w b off d:=by rw[hd];exact hH0
 rw[hds] at hcap hi ⊢
 rw[← hdl] at h1 ⊢
 clear hH0 hds hdl hd
 obtain⟨j,hj⟩:∃j,j=i+1:=⟨_,rfl⟩
 have hij:i≤j:=by omega
 have hjd:j≤d.size:=by omega
 have hne:¬(i:Int)=(j:Int):=by omega
 rw[show((i:Int)+1)=(j:Int) by omega,← hj,show d.size - 1=d.size - (j - i) by omega]
 have hz:(Try.prog.info? 28).map (fun i=>(i.size,i.zero))=some (1,some (.slice none 0 0)):=rfl
 obtain⟨i0,hi0,hz1,hz0⟩:∃i0,Try.prog.info? 28=some i0∧i0.size=1∧i0.zero=some (.slice none 0 0):=by
  cases h:Try.prog.info? 28 with
  |none=>rw[h] at hz;simp at hz
  |some i0=>rw[h] at hz;simp at hz;exact⟨i0,rfl,hz.1,hz.2⟩
 obtain⟨news,hnews⟩:∃news,news=(d.toList.drop j).map vv:=⟨_,rfl⟩
 have hlen:news.length=d.size - j:=by rw[hnews];simp
 have hget:∀t,t<d.size - j→news[t]? =some (vv d[j+t]!):=by
  intro t ht
  rw[hnews,List.getElem?_map,List.getElem?_drop,Array.getElem?_toList,getElem!_pos d (j+t) (by omega),Array.getElem?_eq_getElem (by omega)]
  rfl
 obtain⟨A,hA,hsrc⟩:∃A:Addr,(if cap=j then some (⟨b,off,none⟩:Addr) else some ⟨b,off+j,none⟩)=some A∧Hid (∀t u,news[t]? =some u→w.drew.cell? (A.add t)=some u):=by
  by_cases h:cap=j
  ·refine⟨⟨b,off,none⟩,by simp [h],fun t u hu=>?_⟩
   have h0:news.length=0:=by rw[hlen];omega
   rw[List.length_eq_zero_iff.1 h0] at hu
   simp at hu
  ·refine⟨⟨b,off+j,none⟩,by simp [h],fun t u hu=>?_⟩
   have ht:t<d.size - j:=by
    have:=(List.getElem?_eq_some_iff.1 hu).1
    rwa [hlen] at this
   rw[hget t ht] at hu
   rw[Addr.add_lit,show off+j+t=off+(j+t) by omega]
   exact(hH (j+t) (by omega)).1.trans hu
 have s1:Hid (news.length=(d.size - j)*1):=by rw[Nat.mul_one];exact hlen
 have s2:Hid (∀u∈news,u.oneCell'=true):=by
  intro u hu
  rw[hnews] at hu
  obtain⟨x,hx,rfl⟩:=List.mem_map.1 hu
  exact h1 x (List.mem_of_mem_drop hx)
 have s3:Hid (∀t,t<news.length→(w.drew.cell? ⟨b,off+i*1+t,none⟩).isSome=true∧w.drew.frozen? ⟨b,off+i*1+t,none⟩=false):=by
  intro t ht
  rw[hlen] at ht
  rw[Nat.mul_one,Nat.add_assoc]
  exact⟨by show(w.cell? _).isSome=true;rw[(hH (i+t) (by omega)).1];rfl,(hH (i+t) (by omega)).2⟩
 obtain⟨W1,hW1⟩:∃W1,W1=w.drew.setCells b (off+i*1) news:=⟨_,rfl⟩
 have hW1':W1=putRow vv (Sort.ahead w 1) b off (lay d i (d.toList.drop j)):=by
  rw[hW1,hnews,Nat.mul_one,← putRow_setCells vv (Sort.ahead w 1) b off _ d i (by simp;omega),putRow_self vv (Sort.ahead w 1) b off d (holds_ahead vv w 1 b off d hH)]
  rfl
 have hH1:Holds vv W1 b off (lay d i (d.toList.drop j)):=by rw[hW1'];exact holds_putRow vv _ b off d _ (holds_ahead vv w 1 b off d hH) (lay_size _ _ _)
 have hv:∀w,(zeroValue 28).run Try.prog w=.ok (Value.slice none 0 0) w:=fun w=>by simp [zeroValue,typeInfo,hi0,hz0]
 have hcl:∀ty,(Builtin.clear_ #[22] ty #[.slice (some ⟨b,off+(i+(d.size - j)),none⟩) (d.size - (i+(d.size - j))) (cap - (i+(d.size - j)))]).run Try.prog W1=.ok (.tuple #[]) (W1.setCells b (off+(i+(d.size - j))) (List.replicate (d.size - (i+(d.size - j))) (Value.slice none 0 0))):=
  fun ty=>Lib.run_clear_slice W1 _ _ ty _ Try.underlying22 hv rfl rfl b (off+(i+(d.size - j))) _ _ (by omega) (fun t ht=>by rw[show off+(i+(d.size - j))+t=off+(i+(d.size - j)+t) by omega,(hH1 _ (by rw[lay_size];omega)).1];rfl) (fun t ht=>by rw[show off+(i+(d.size - j))+t=off+(i+(d.size - j)+t) by omega];exact(hH1 _ (by rw[lay_size];omega)).2)
 have X:Aside (W1=putRow vv (Sort.ahead w 1) b off (lay d i (d.toList.drop j))):=hW1'
 have hW:Hid (W1=w.drew.setCells b (off+i*1) news):=hW1
 have hic:i≤cap:=by omega
 have hjc:j≤cap:=by omega
 have hji:j - i=1:=by omega
 clear hW1 hW1' hH1 hH hget hnews hlen hj h1
 go_enter Try.func67,Try.ntmps67
 go_wp2_with fail
 go_region_law (refine step_append_room rfl (.tmp 22) (.tmp 25) 22 rfl 28 i0 1 Try.underlying22 hi0 hz1 b off i cap (by simp [Act.eval,Act.put]) A (d.size - j) (cap - j) news (by simp [Act.eval,Act.put]) s1.out hsrc.out s2.out (by omega) s3.out ?_;rw[← hW.out])
 go_wp2
 go_ret
 refine⟨by rw[show d.size - (j - i)=i+(d.size - j) by omega];rfl,1,?_⟩
 rw[show [Value.slice none 0 0]=List.replicate (j - i) (Value.slice none 0 0) by rw[hji];rfl]
 rw[← delete_arr d i j _ hij hjd,← putRow_setCells vv _ b off _ _ (i+(d.size - j)) (by rw[lay_size];simp;omega),← X.out,List.map_replicate,show d.size - (i+(d.size - j))=j - i by omega]
theorem del_C:DelC Try.prog 67 (Value.slice none 0 0) where
 enters:=enters_of Try.func67 rfl (by decide)
 calls:=fun b cap i us w h1 h2 h3 h4 h5=>del_calls b 0 cap i us w h1 h2 h3 h4 h5
end Go.Ab
/- Chapter 23:images of clauses,symmetries. -/
namespace Go.Ab
open Go Go.Proofs
open Nat (reduceAdd reduceSub)
set_option maxRecDepth 20000
set_option maxHeartbeats 4000000
def imgX (sym:List Int) (x:Int):Int:=if 0<x then sym.getD (x - 1).toNat 0 else -(sym.getD (-x - 1).toNat 0)
def imgL (sym c:List Int):List Int:=c.map (imgX sym)
def imT (sym c:List Int) (i:Nat):List Int:=imgL sym (c.take i)++List.replicate (c.length - i) 0
theorem imT_zero (sym c:List Int):imT sym c 0=List.replicate c.length 0:=by unfold imT imgL;simp
theorem imT_len (sym c:List Int) {i:Nat} (hi:i≤c.length):(imT sym c i).length=c.length:=by unfold imT imgL;simp;omega
theorem imT_set {sym c:List Int} {i:Nat} (hi:i<c.length) {v:Int} (hv:v=imgX sym c[i]):(imT sym c i).set i v=imT sym c (i+1):=by
 subst hv
 unfold imT imgL
 rw[List.set_append_right _ _ (by rw[List.length_map,List.length_take];omega),List.length_map,List.length_take,Nat.min_eq_left (by omega),Nat.sub_self,take_succ_get hi,List.map_append,List.append_assoc]
 congr 1
 obtain⟨k,hk⟩:∃k,c.length - i=k+1:=⟨c.length - i - 1,by omega⟩
 rw[hk,show c.length - (i+1)=k by omega]
 rfl
theorem imT_all (sym c:List Int) {i:Nat} (hi:¬i<c.length):imT sym c i=imgL sym c:=by
 unfold imT
 rw[List.take_of_length_le (by omega),show c.length - i=0 by omega]
 simp
theorem imgL_len (sym c:List Int):(imgL sym c).length=c.length:=by unfold imgL;simp
attribute [local irreducible] AW AOps thenD inBlockD AR iterEnds roundEndsN inlEnds noGotoD canon sortL compL compZ imT
theorem image_fn (sym c:List Int) (hs:Sm sym) (hl:sym.length≤1000000) (hc:c.length≤100000) (hw:withinM sym.length c=true):Fn Try.prog 27 [.pv (ints sym),.pv (ints c)] (.pv (ints (imgL sym c))):=by
 have hb:=withinM_spec hw
 refine Fn.enter (n:=40) Try.func27 rfl rfl rfl rfl rfl (by decide) fun g hro_ hwt_=>?_;(try refine nz ?_)
 (refine zq ?_;refine Q145 ?_;refine zm ?_;refine zn ?_;refine AOps.makeSlice1 rfl rfl rfl rfl rfl rfl rfl rfl rfl rfl (by omega) ?_;refine nz ?_;refine Q104 ?_;refine zo ?_;refine Q305 ?_)
 (refine nz ?_;apply AW.loopR [12,11,4,0] [] (fun i:Nat=>([(5,.own 0 3 1 ((imT sym c i).map encI)),(13,litI i)]:List (Nat×AV))) (fun i:Nat=>([(0,some .row)]:List (Nat×Option Ob))) (fun i:Nat=>i≤c.length) (fun i:Nat=>c.length - i) (0);(conv=>lhs;simp only[Nf.lpR,Nf.all,Nat.reduceBEq,reduceAdd,reduceSub]);(all_goals skip))
 ·exact Nat.zero_le _
 ·exact weak rfl (by(refine⟨.ownE (by first|rfl|(rw[imT_zero,List.map_replicate];rfl)|(show List.replicate _ _=List.map encI _;rw[imT_zero,List.map_replicate,Int.toNat_natCast];rfl)) rfl,?_⟩;refine⟨.intE (by first|rfl|(rw[imT_zero,List.map_replicate];rfl)|(show List.replicate _ _=List.map encI _;rw[imT_zero,List.map_replicate,Int.toNat_natCast];rfl)),?_⟩;refine⟨.intE (by first|rfl|(rw[imT_zero,List.map_replicate];rfl)|(show List.replicate _ _=List.map encI _;rw[imT_zero,List.map_replicate,Int.toNat_natCast];rfl)),?_⟩;refine⟨.pvE (by first|rfl|(rw[imT_zero,List.map_replicate];rfl)|(show List.replicate _ _=List.map encI _;rw[imT_zero,List.map_replicate,Int.toNat_natCast];rfl)),?_⟩;refine⟨.eq rfl rfl,?_⟩;refine⟨.pvE (by first|rfl|(rw[imT_zero,List.map_replicate];rfl)|(show List.replicate _ _=List.map encI _;rw[imT_zero,List.map_replicate,Int.toNat_natCast];rfl)),?_⟩;exact trivial)) (by(refine⟨.row rfl,?_⟩;exact trivial)) rfl
 rintro i hi
 have htl:=imT_len sym c hi
 by_cases hlt:i<c.length
 ·obtain⟨b1,b2,b3⟩:=hb _ (List.getElem_mem hlt)
  by_cases hp:0<c[i]
  ·have hj:(c[i] - 1).toNat<sym.length:=by omega
   have hj0:0≤c[i] - 1:=by omega
   have hv:sym[(c[i] - 1).toNat]=imgX sym c[i]:=by unfold imgX;rw[if_pos hp,List.getD_eq_getElem?_getD,List.getElem?_eq_getElem hj];rfl
   have hse:=imT_set hlt hv
   (refine Q250 ?_;(focus ((with_reducible apply AOps.index_map);(iterate 7 exact rfl);rotate_left;omega));refine zr ?_;refine Q172 ?_;refine Q262 ?_;refine AOps.gtr rfl rfl rfl rfl rfl ?_;refine Q185 ?_;refine Q318 ?_;refine AOps.move_own rfl rfl rfl ?_;(iterate 3 refine zm ?_);refine AOps.sub rfl rfl rfl rfl rfl (by omega) ?_;(focus ((with_reducible apply AOps.index_mapI);(iterate 7 exact rfl);omega;rotate_left;(first|omega|exact Nat.zero_lt_one|(simp;done))));refine zr ?_;refine Q112 ?_;refine AOps.store_o1 rfl rfl rfl rfl rfl rfl rfl rfl ?_;refine nz ?_;refine Q225 ?_)
   exact Q109
  ·have hj:(-c[i] - 1).toNat<sym.length:=by omega
   have hj0:0≤ -c[i] - 1:=by omega
   have hsx:=hs _ (List.getElem_mem hj)
   have hv: -sym[(-c[i] - 1).toNat]=imgX sym c[i]:=by unfold imgX;rw[if_neg hp,List.getD_eq_getElem?_getD,List.getElem?_eq_getElem hj];rfl
   have hse:=imT_set hlt hv
   (refine Q250 ?_;(focus ((with_reducible apply AOps.index_map);(iterate 7 exact rfl);rotate_left;omega));refine zr ?_;refine Q172 ?_;refine Q262 ?_;refine AOps.gtr rfl rfl rfl rfl rfl ?_;refine Q307 ?_;refine Q318 ?_;refine AOps.move_own rfl rfl rfl ?_;(iterate 3 refine zm ?_);refine AOps.neg rfl rfl rfl (by omega) ?_;refine AOps.sub rfl rfl rfl rfl rfl (by omega) ?_;(focus ((with_reducible apply AOps.index_mapI);(iterate 7 exact rfl);omega;rotate_left;(first|omega|exact Nat.zero_lt_one|(simp;done))));refine zr ?_;refine AOps.neg rfl rfl rfl (by omega) ?_;refine Q112 ?_;refine AOps.store_o1 rfl rfl rfl rfl rfl rfl rfl rfl ?_;refine nz ?_;refine Q225 ?_)
   exact Q109
 ·rw[imT_all _ _ (by omega)]
  (refine Q208 ?_;refine Q207 ?_;refine Q269 ?_)
  (apply ends_ret;(exact Res.one (.tmp rfl rfl));(exact Le.own _ _ _ _ rfl))
end Go.Ab
/- Chapter 23:valid symmetries. -/
namespace Go.Ab
open Go Go.Proofs
open Nat (reduceAdd reduceSub)
set_option maxRecDepth 20000
set_option maxHeartbeats 4000000
def metB (n:Nat) (l:List Int):List Bool:=(List.range n).map fun v=>decide ((v+1)∈l.map Int.natAbs)
theorem metB_len (n:Nat) (l:List Int):(metB n l).length=n:=by unfold metB;simp
theorem metB_get {n:Nat} {l:List Int} {v:Nat} (h:v<(metB n l).length):(metB n l)[v]=decide ((v+1)∈l.map Int.natAbs):=by unfold metB;simp
theorem metB_zero (n:Nat):metB n []=List.replicate n false:=by
 unfold metB
 rw[List.eq_replicate_iff]
 simp
theorem metB_set {n:Nat} {l:List Int} {k v:Nat} (hk:k<l.length) (hv:v+1=l[k].natAbs):(metB n (l.take k)).set v true=metB n (l.take (k+1)):=by
 apply List.ext_getElem
 ·simp [metB_len]
 ·intro j h1 h2
  rw[List.getElem_set]
  by_cases e:v=j
  ·subst e
   rw[if_pos rfl,metB_get,take_succ_get hk]
   exact(decide_eq_true (List.mem_map.2 ⟨l[k],List.mem_append.2 (.inr (List.mem_singleton.2 rfl)),hv.symm⟩)).symm
  ·rw[if_neg e,metB_get,metB_get,take_succ_get hk]
   simp only[List.map_append,List.mem_append,List.map_cons,List.map_nil,List.mem_singleton]
   have:¬j+1=l[k].natAbs:=by omega
   simp [this]
theorem nodup_snoc {l:List Int} {k:Nat} (hk:k<l.length):((l.take (k+1)).map Int.natAbs).Nodup↔((l.take k).map Int.natAbs).Nodup∧l[k].natAbs∉(l.take k).map Int.natAbs:=by
 rw[take_succ_get hk,List.map_append,List.nodup_append]
 simp only[List.map_cons,List.map_nil,List.mem_singleton]
 constructor
 ·rintro⟨h1,_,h2⟩
  exact⟨h1,fun h=>h2 _ h _ rfl rfl⟩
 ·rintro⟨h1,h2⟩
  exact⟨h1,by simp,fun a ha b hb e=>h2 (by rw[← hb,← e];exact ha)⟩
theorem not_nodup {l:List Int} {k:Nat} (hk:k<l.length) (h:l[k].natAbs∈(l.take k).map Int.natAbs):¬(l.map Int.natAbs).Nodup:=fun hn=>by
 have h1:((l.take (k+1)).map Int.natAbs).Nodup:=by
  rw[← List.take_append_drop (k+1) l,List.map_append] at hn
  exact(List.nodup_append.1 hn).1
 exact((nodup_snoc hk).1 h1).2 h
theorem all_snoc {α:Type} {p:α→Bool} {l:List α} {k:Nat} (hk:k<l.length):(l.take (k+1)).all p=((l.take k).all p && p l[k]):=by
 rw[take_succ_get hk,List.all_append];simp
theorem any_snoc {α:Type} {p:α→Bool} {l:List α} {k:Nat} (hk:k<l.length):(l.take (k+1)).any p=((l.take k).any p||p l[k]):=by
 rw[take_succ_get hk,List.any_append];simp
theorem any_yes {α:Type} {p:α→Bool} {l:List α} {k:Nat} (hk:k<l.length) (h:p l[k]=true):l.any p=true:=List.any_eq_true.2 ⟨_,List.getElem_mem hk,h⟩
theorem all_no {α:Type} {p:α→Bool} {l:List α} {k:Nat} (hk:k<l.length) (h:p l[k]=false):l.all p=false:=List.all_eq_false.2 ⟨_,List.getElem_mem hk,by simp [h]⟩
def symC (cl:List (List Int)) (sym c:List Int):Bool:=cl.any fun d=>decide (canon d=canon (imgL sym c))
def symOk (vars:Int) (cl:List (List Int)) (sym:List Int):Bool:=decide ((sym.length:Int)=vars) && withinM vars sym && decide ((sym.map Int.natAbs).Nodup) && cl.all (symC cl sym)
attribute [local irreducible] AW AOps thenD inBlockD AR iterEnds roundEndsN inlEnds noGotoD canon sortL compL compZ metB imgL withinM
theorem symOk_fn (vars:Int) (cl:List (List Int)) (sym:List Int) (hf:FOk vars cl) (hs:sym.length≤100000):Fn Try.prog 13 [fml vars cl,.pv (ints sym)] (litB (symOk vars cl sym)):=by
 have hv:=hf.hv
 have h3:=hf.h3
 have hw:=cWithin_fn vars sym (by omega)
 by_cases e1:(sym.length:Int)=vars
 ·cases e2:withinM vars sym with
  |false=>
   rw[e2] at hw
   have hr:symOk vars cl sym=false:=by unfold symOk;rw[e2];simp
   rw[hr]
   refine Fn.enter (n:=62) Try.func13 rfl rfl rfl rfl rfl (by decide) fun g hro_ hwt_=>?_;(try refine nz ?_)
   (refine Q338 ?_;refine Q227 ?_;refine zy ?_;refine Q154 ?_;refine zA (hw) ?_;refine Q110 ?_;refine Q93 ?_)
   (apply ends_ret;(exact Res.one (.tmp rfl rfl));(refine Le.litB ?_;(rfl)))
  |true=>
   rw[e2] at hw
   have hb:=withinM_spec e2
   obtain⟨n,rfl⟩:∃n:Nat,vars=n:=⟨vars.toNat,by omega⟩
   refine Fn.enter (n:=62) Try.func13 rfl rfl rfl rfl rfl (by decide) fun g hro_ hwt_=>?_;(try refine nz ?_)
   (refine Q338 ?_;refine Q227 ?_;refine zy ?_;refine Q154 ?_;refine zA (hw) ?_;refine Q110 ?_;refine Q134 ?_;refine Q80 ?_;refine AOps.makeSlice1 rfl rfl rfl rfl rfl rfl rfl rfl rfl rfl (by omega) ?_;refine nz ?_;refine Q104 ?_;refine zo ?_;refine Q305 ?_)
   (refine nz ?_;apply AW.loopR [28,27,2,1] [0] (fun i:Nat=>([(5,.own 1 4 1 ((metB n (sym.take i)).map encB)),(29,litI i)]:List (Nat×AV))) (fun i:Nat=>([(1,some .row)]:List (Nat×Option Ob))) (fun i:Nat=>i≤sym.length∧((sym.take i).map Int.natAbs).Nodup) (fun i:Nat=>sym.length - i) (0);(conv=>lhs;simp only[Nf.lpR,Nf.all,Nat.reduceBEq,reduceAdd,reduceSub]);(all_goals skip))
   ·exact⟨Nat.zero_le _,by simp⟩
   ·exact weak rfl (by(refine⟨.ownE (by first|rfl|(rw[List.take_zero,metB_zero,List.map_replicate];rfl)) rfl,?_⟩;refine⟨.intE (by first|rfl|(rw[List.take_zero,metB_zero,List.map_replicate];rfl)),?_⟩;refine⟨.intE (by first|rfl|(rw[List.take_zero,metB_zero,List.map_replicate];rfl)),?_⟩;refine⟨.pvE (by first|rfl|(rw[List.take_zero,metB_zero,List.map_replicate];rfl)),?_⟩;refine⟨.eq rfl rfl,?_⟩;refine⟨.pvE (by first|rfl|(rw[List.take_zero,metB_zero,List.map_replicate];rfl)),?_⟩;exact trivial)) (by(refine⟨.row rfl,?_⟩;refine⟨.box _ rfl ?_,?_⟩;refine⟨.intE (by first|rfl|(rw[List.take_zero,metB_zero,List.map_replicate];rfl)),?_⟩;refine⟨.pvE (by first|rfl|(rw[List.take_zero,metB_zero,List.map_replicate];rfl)),?_⟩;(iterate 2 exact trivial))) rfl
   rintro i ⟨hi,hnd⟩
   have hml:=metB_len n (sym.take i)
   by_cases hlt:i<sym.length
   ·obtain⟨b1,b2,b3⟩:=hb _ (List.getElem_mem hlt)
    have hva:(max sym[i] (-sym[i]) - 1).toNat<(metB n (sym.take i)).length:=by rw[hml];omega
    have hvb:(max sym[i] (-sym[i]) - 1).toNat+1=sym[i].natAbs:=by omega
    have hg:=metB_get hva
    rw[hvb] at hg
    by_cases hm:sym[i].natAbs∈(sym.take i).map Int.natAbs
    ·rw[decide_eq_true hm] at hg
     have hr:symOk n cl sym=false:=by unfold symOk;rw[decide_eq_false (not_nodup hlt hm)];simp
     rw[hr]
     (refine Q22 ?_;(focus ((with_reducible apply AOps.index_map);(iterate 7 exact rfl);rotate_left;omega));refine zr ?_;refine Q145 ?_;refine Q49 ?_;refine AOps.sub rfl rfl rfl rfl rfl (by omega) ?_;refine Q61 ?_;refine Q207 ?_;refine zm ?_;refine Q27 ?_;(focus ((with_reducible apply AOps.load_o1_mapI);(iterate 4 exact rfl);exact(fun h_=>by cases h_);rotate_left;(first|omega|exact Nat.zero_lt_one|(simp;done))));refine zd ?_;refine AW.condYb rfl rfl (by assumption) ?_;refine Q52 ?_;refine Q153 ?_;refine Q17 ?_)
     (apply ends_ret;(exact Res.one (.tmp rfl rfl));(refine Le.litB ?_;(rfl)))
    ·rw[decide_eq_false hm] at hg
     have hse:=metB_set (n:=n) hlt hvb
     (refine Q22 ?_;(focus ((with_reducible apply AOps.index_map);(iterate 7 exact rfl);rotate_left;omega));refine zr ?_;refine Q145 ?_;refine Q49 ?_;refine AOps.sub rfl rfl rfl rfl rfl (by omega) ?_;refine Q61 ?_;refine Q207 ?_;refine zm ?_;refine Q27 ?_;(focus ((with_reducible apply AOps.load_o1_mapI);(iterate 4 exact rfl);exact(fun h_=>by cases h_);rotate_left;(first|omega|exact Nat.zero_lt_one|(simp;done))));refine zd ?_;refine AW.condNb rfl rfl (by assumption) ?_;refine Q37 ?_;refine Q318 ?_;refine Q226 ?_;refine Q27 ?_;refine AOps.store_o1 rfl rfl rfl rfl rfl rfl rfl rfl ?_;refine nz ?_;refine Q225 ?_)
     exact⟨i+1,⟨by omega,(nodup_snoc hlt).2 ⟨hnd,hm⟩⟩,by omega,weak rfl (by(refine⟨.ownE (by first|rfl|(rw[← hse,List.map_set];rfl)) rfl,?_⟩;refine⟨.intE (by first|rfl|(rw[← hse,List.map_set];rfl)),?_⟩;refine⟨.intE (by first|rfl|(rw[← hse,List.map_set];rfl)),?_⟩;refine⟨.pvE (by first|rfl|(rw[← hse,List.map_set];rfl)),?_⟩;refine⟨.eq rfl rfl,?_⟩;refine⟨.pvE (by first|rfl|(rw[← hse,List.map_set];rfl)),?_⟩;exact trivial)) (by(refine⟨.row rfl,?_⟩;refine⟨.box _ rfl ?_,?_⟩;refine⟨.intE (by first|rfl|(rw[← hse,List.map_set];rfl)),?_⟩;refine⟨.pvE (by first|rfl|(rw[← hse,List.map_set];rfl)),?_⟩;(iterate 2 exact trivial))) rfl⟩
   ·rw[take_all (l:=sym) (by omega)] at hnd
    have hr:symOk n cl sym=cl.all (symC cl sym):=by unfold symOk;rw[decide_eq_true e1,e2,decide_eq_true hnd];simp
    rw[hr]
    (refine Q208 ?_;refine zo ?_;refine Q52 ?_;refine Q60 ?_;refine zn ?_;refine Q337 ?_)
    (refine nz ?_;apply AW.loopR [48,47,2,1] [0] (fun k:Nat=>([(49,litI k)]:List (Nat×AV))) (fun k:Nat=>([]:List (Nat×Option Ob))) (fun k:Nat=>k≤cl.length∧(cl.take k).all (symC cl sym)=true) (fun k:Nat=>cl.length - k) (0);(conv=>lhs;simp only[Nf.lpR,Nf.all,Nat.reduceBEq,reduceAdd,reduceSub]);(all_goals skip))
    ·exact⟨Nat.zero_le _,rfl⟩
    ·exact Q132
    rintro k ⟨hk,hal⟩
    by_cases hlk:k<cl.length
    ·obtain⟨c1,c2⟩:=hf.hcl _ (List.getElem_mem hlk)
     rw[← e1] at c1
     have hsm:=sm_within hv e2
     have him:=image_fn sym cl[k] hsm (by omega) c2 c1
     have hil:=imgL_len sym cl[k]
     have has:=all_snoc (p:=symC cl sym) hlk
     rw[hal,Bool.true_and] at has
     have hsy:symC cl sym cl[k]=cl.any fun d=>decide (canon d=canon (imgL sym cl[k])):=rfl
     generalize imgL sym cl[k]=mp at him hil hsy
     (refine Q22 ?_;(focus ((with_reducible apply AOps.index_map);(iterate 7 exact rfl);rotate_left;omega));refine zr ?_;refine Q145 ?_;(iterate 2 refine zm ?_);refine zP (him) ?_;refine Q143 ?_;refine Q20 ?_;refine zd ?_;refine zq ?_;refine Q60 ?_;refine AOps.makeFunc_c rfl rfl rfl ?_;(with_reducible apply AOps.inline (hf:=Try.func28));(with_reducible assumption);(iterate 10 exact rfl);intro g_ hro_ hwt_;refine Q247 ?_;refine zm ?_;refine AOps.move_clo rfl rfl rfl ?_;(with_reducible apply AOps.inline (hf:=Try.func58));(with_reducible assumption);(iterate 10 exact rfl);intro g_ hro_ hwt_;refine Q131 ?_;refine Q61 ?_;refine Q305 ?_)
     (refine nz ?_;apply AW.loopR [7,0,1,1006,1005,1004,1000,1001,2058,2057,2056,2011,2049,2048,2047,2002,2001] [2,0] (fun j:Nat=>([(8,litI j)]:List (Nat×AV))) (fun j:Nat=>([]:List (Nat×Option Ob))) (fun j:Nat=>j≤cl.length∧(cl.take j).any (fun d=>decide (canon d=canon mp))=false) (fun j:Nat=>cl.length - j) (0);(conv=>lhs;simp only[Nf.lpR,Nf.all,Nat.reduceBEq,reduceAdd,reduceSub]);(all_goals skip))
     ·exact⟨Nat.zero_le _,rfl⟩
     ·exact Q132
     rintro j ⟨hj,han⟩
     by_cases hlj:j<cl.length
     ·obtain⟨d1,d2⟩:=hf.hcl _ (List.getElem_mem hlj)
      have heq:=equal_fn cl[j] mp (by omega) (by omega)
      have hns:=any_snoc (p:=fun d=>decide (canon d=canon mp)) hlj
      rw[han,Bool.false_or] at hns
      by_cases he:canon cl[j]=canon mp
      ·rw[decide_eq_true he] at heq
       have hy:symC cl sym cl[k]=true:=by rw[hsy];exact any_yes hlj (decide_eq_true he)
       rw[hy] at has
       clear hsy
       (refine Q243 ?_;(focus ((with_reducible apply AOps.index_map);(iterate 7 exact rfl);rotate_left;omega));refine zr ?_;(with_reducible apply AOps.inline (hf:=Try.func29));(with_reducible assumption);(iterate 10 exact rfl);intro g_ hro_ hwt_;refine Q247 ?_;refine zm ?_;refine zb ?_;refine zA (heq) ?_;refine Q28 ?_;refine Q64 ?_;refine Q43 ?_;refine Q238 ?_;refine Q89 ?_;refine Q67 ?_;refine Q270 ?_)
       exact⟨k+1,⟨by omega,has⟩,by omega,weak rfl (by(first|(refine⟨.eq rfl rfl,?_⟩;(iterate 17 refine⟨.eq rfl rfl,?_⟩);exact trivial)|(refine⟨.eq rfl rfl,?_⟩;(iterate 4 refine⟨.eq rfl rfl,?_⟩);exact trivial))) (by(first|(refine⟨.box _ rfl ?_,?_⟩;refine⟨.eq rfl rfl,?_⟩;exact trivial;refine⟨.box _ rfl ?_,?_⟩;(iterate 2 refine⟨.eq rfl rfl,?_⟩);(iterate 2 exact trivial))|(refine⟨.box _ rfl ?_,?_⟩;(iterate 2 refine⟨.eq rfl rfl,?_⟩);(iterate 2 exact trivial)))) rfl⟩
      ·rw[decide_eq_false he] at heq hns
       clear hsy
       (refine Q243 ?_;(focus ((with_reducible apply AOps.index_map);(iterate 7 exact rfl);rotate_left;omega));refine zr ?_;(with_reducible apply AOps.inline (hf:=Try.func29));(with_reducible assumption);(iterate 10 exact rfl);intro g_ hro_ hwt_;refine Q247 ?_;refine zm ?_;refine zb ?_;refine zA (heq) ?_;refine Q28 ?_;refine Q64 ?_;refine Q67 ?_;refine Q136 ?_;refine Q79 ?_)
       exact⟨j+1,⟨by omega,hns⟩,by omega,weak rfl (by(first|(refine⟨.eq rfl rfl,?_⟩;(iterate 17 refine⟨.eq rfl rfl,?_⟩);exact trivial)|(refine⟨.eq rfl rfl,?_⟩;(iterate 4 refine⟨.eq rfl rfl,?_⟩);exact trivial))) (by(first|(refine⟨.box _ rfl ?_,?_⟩;refine⟨.eq rfl rfl,?_⟩;exact trivial;refine⟨.box _ rfl ?_,?_⟩;(iterate 2 refine⟨.eq rfl rfl,?_⟩);(iterate 2 exact trivial))|(refine⟨.box _ rfl ?_,?_⟩;(iterate 2 refine⟨.eq rfl rfl,?_⟩);(iterate 2 exact trivial)))) rfl⟩
     ·rw[take_all (l:=cl) (by omega)] at han
      rw[han] at hsy
      rw[all_no hlk hsy]
      (refine Q208 ?_;refine Q195 ?_;refine Q89 ?_;refine Q43 ?_;refine Q195 ?_;refine Q17 ?_)
      (apply ends_ret;(exact Res.one (.tmp rfl rfl));(refine Le.litB ?_;(rfl)))
    ·rw[take_all (l:=cl) (by omega)] at hal
     rw[hal]
     (refine Q208 ?_;refine Q195 ?_)
     (apply ends_ret;(exact Res.one (.tmp rfl rfl));(refine Le.litB ?_;(rfl)))
 ·have hr:symOk vars cl sym=false:=by unfold symOk;rw[decide_eq_false e1];simp
  rw[hr]
  refine Fn.enter (n:=62) Try.func13 rfl rfl rfl rfl rfl (by decide) fun g hro_ hwt_=>?_;(try refine nz ?_)
  (refine Q338 ?_;refine zm ?_;(iterate 5 refine AOps.guardFn rfl rfl rfl rfl rfl rfl (by with_reducible assumption) ?_);refine zT ?_;refine Q93 ?_)
  (apply ends_ret;(exact Res.one (.tmp rfl rfl));(refine Le.litB ?_;(rfl)))
end Go.Ab
