/- Chapter 20, the reference's small functions: what each computes, and its walk. -/
import Derived.Test.YtigjjjpcjnifhaaGreatRows
import Derived.Test.YtigjjjpcjnifhaaGreatAbZ
import Derived.Test.YtigjjjpcjnifhaaGreatAbL2
import Derived.Test.YtigjjjpcjnifhaaGreatAbL3
import Derived.Shelf.Small.Bits
import Derived.Shelf.Strconv.Itoa0
import Derived.Shelf.Sort.Plain
import Derived.Shelf.Slices.Turned
import Derived.Shelf.Slices.Equal
import Derived.Ground.Names2Prog
import Derived.Shelf.Slices.Clone
import Derived.Shelf.Slices.CompactI
import Derived.Shelf.Slices.SearchI
import Derived.Shelf.Slices.Cells
import Derived.Shelf.Slices.In.SortNone
import Derived.Shelf.Slices.Empties
import Derived.Shelf.Slices.Empties2
import Derived.Ground.SlgnProg
import Derived.Shelf.SlicesE.Clone
import Derived.Test.YtigjjjpcjnifhaaGreatProg
import Derived.Lib.SlicesCompact
import Derived.Test.YtigjjjpcjnifhaaGreatAbL4
import Derived.WalkKit
import Derived.Deep.RegionLaw
import Derived.Deep.LoopGhost
import Derived.Lib.Walk
import Derived.Lib.SliceRun
import Derived.Lib.SlicesDelete
import Derived.Sort.WalkB12
set_option linter.unusedSimpArgs false
set_option linter.unusedVariables false
open List renaming take_of_length_le→cJ,mem_append→bX,getElem_mem→cY,drop_eq_getElem_cons→dj,foldl_cons→ct,mem_map→bx,mem_singleton→cq,any_eq_false→dD,map_append→cR,all_eq_true→bD,mem_cons→bw,drop_eq_nil_of_le→dE,replicate→bZ,length_map→a6,pairwise_cons→dF,mem_filter→db,mem_range→dG,map_replicate→dH,length_take→cO,map→dI,getD_eq_getElem?_getD→c6,getElem?_eq_getElem→a8
open Int renaming zero_sub→de,toNat_natCast→dq
open Nat renaming zero_le→bm,le_refl→aP,le_trans→aQ,reduceBEq→df,mul_one→cK
namespace Go.Ab
open Go Go.Proofs
set_option maxRecDepth 20000
set_option maxHeartbeats 4000000
attribute [local irreducible] AW a_ gr fz
theorem fI {α:Type} {l:List α} {k:Nat} (hk:k<l.length):l.take (k+1)=l.take k++ [l[k]]:=List.take_succ_eq_append_getElem hk
theorem gP {α:Type} {l:List α} {k:Nat} (h:¬(k:Int)<(l.length:Int)):l.take k=l:=cJ (by omega)
theorem L7 {l:List Int} {x:Int} {k:Nat} (h1:x∉l.take k) (hk:k<l.length) (h2:¬l[k]=x):x∉l.take (k+1):=by
 rw[fI hk,bX]
 simp [h1,Ne.symm h2]
def Sm (l:List Int):Prop:=∀x∈l,-1000000000000≤x∧x≤1000000000000
def e8 (vars:Int) (l:List Int):Bool:=l.all fun x=>decide (x≠0∧x≤vars∧0 - vars≤x)
theorem yb {vars:Int} {l:List Int} {k:Nat} (hk:k<l.length) (h:¬(l[k]≠0∧l[k]≤vars∧0 - vars≤l[k])):e8 vars l=false:=by
 unfold e8
 rw[List.all_eq_false]
 exact⟨l[k],cY hk,by simpa using h⟩
def gH (l:List Int):Bool:=l.any fun x=>decide ((0 - x)∈l)
theorem CQ {l:List Int} {k:Nat} (hk:k<l.length) (h:(0 - l[k])∈l):gH l=true:=by
 unfold gH;rw[List.any_eq_true];exact⟨l[k],cY hk,by simpa using h⟩
end Go.Ab
/- Chapter 20,the reference's run:what each function computes,and its walk. -/
namespace Go.Ab
open Go Go.Proofs
set_option maxRecDepth 20000
set_option maxHeartbeats 4000000
attribute [local irreducible] AW a_ gr fz
abbrev KA (vars:Int) (cl:List (List Int)):AV:=.agg [eU vars,.pv (j3 cl)]
def oU (vars:Int) (cl:List (List Int)):Bool:=decide (0≤vars∧vars≤20000∧(cl.length:Int)≤60000) && cl.all (e8 vars)
theorem F4 {vars:Int} {cl:List (List Int)} (h:¬(0≤vars∧vars≤20000∧(cl.length:Int)≤60000)):oU vars cl=false:=by
 simp only[oU,decide_eq_false h,Bool.false_and]
def iM (Ad:List Int):List Int→Int→Int×Int
 |[],left=>if left=0 then (1,0) else (2,left)
 |x::c,left=>if x∈Ad∨((0 - x)∉Ad∧left≠0∧left≠x) then (0,0) else iM Ad c (if (0 - x)∈Ad then left else x)
def iq (c Ad:List Int):Int×Int:=iM Ad c 0
end Go.Ab
/- Chapter 20,the reference's trail:one step,the run. -/
namespace Go.Ab
open Go Go.Proofs
set_option maxRecDepth 20000
set_option maxHeartbeats 4000000
attribute [local irreducible] AW a_ gr fz
abbrev Tr:=List Int×List Int×Int
def lj (t:Tr):Int→List (List Int)→Tr×Bool
 |_,[]=>(t,false)
 |i,c::cl=>if (iq c t.1).1=1 then ((t.1,t.2.1,i),false) else if (iq c t.1).1=2 then ((t.1++ [(iq c t.1).2],t.2.1++ [i],t.2.2),true) else lj t (i+1) cl
def l8 (cl:List (List Int)) (t:Tr):Tr×Bool:=lj t 0 cl
theorem zJ (t:Tr) (cl:List (List Int)) (k:Nat) (h:k<cl.length):lj t k (cl.drop k)=
  if (iq cl[k] t.1).1=1 then ((t.1,t.2.1,(k:Int)),false) else if (iq cl[k] t.1).1=2 then ((t.1++ [(iq cl[k] t.1).2],t.2.1++ [(k:Int)],t.2.2),true) else lj t (k+1:Nat) (cl.drop (k+1)):=by
 rw[dj h];rfl
end Go.Ab
/- Chapter 20,the reference's run. -/
namespace Go.Ab
open Go Go.Proofs
set_option maxRecDepth 20000
set_option maxHeartbeats 4000000
attribute [local irreducible] AW a_ gr fz
def nA (t:Tr) (x:Int):Tr:=if x∈t.1 then t else (t.1++ [x],t.2.1++ [-1],t.2.2)
def iO (assume:List Int):Tr:=assume.foldl nA ([],[],-1)
def rS (cl:List (List Int)):Nat→Tr→Tr
 |0,t=>t
 |n+1,t=>if (l8 cl t).2 then rS cl n (l8 cl t).1 else (l8 cl t).1
def runM (vars:Int) (cl:List (List Int)) (assume:List Int):Tr:=rS cl (vars+1).toNat (iO assume)
theorem LF (t:Tr) (x:Int):(nA t x).1.length≤t.1.length+1∧(nA t x).2.1.length≤t.2.1.length+1:=by
 unfold nA;split<;>simp
theorem HZ (l:List Int):∀t:Tr,(l.foldl nA t).1.length≤t.1.length+l.length∧(l.foldl nA t).2.1.length≤t.2.1.length+l.length:=by
 induction l with
 |nil=>intro t;simp
 |cons x l ih=>intro t;have h1:=ih (nA t x);have h2:=LF t x;simp only[ct,List.length_cons];omega
theorem F2 (assume:List Int):(iO assume).1.length≤assume.length∧(iO assume).2.1.length≤assume.length:=by
 have:=HZ assume ([],[],-1);simpa [iO] using this
theorem D2 {assume:List Int} {k:Nat} (h:k<assume.length):iO (assume.take (k+1))=nA (iO (assume.take k)) assume[k]:=by
 unfold iO;rw[fI h,List.foldl_append];rfl
end Go.Ab
/- Chapter 20,the reference's answers. -/
namespace Go.Ab
open Go Go.Proofs
set_option maxRecDepth 20000
set_option maxHeartbeats 4000000
attribute [local irreducible] AW a_ gr fz
def Aj (l:List Int) (x:Int):Int:=if x∈l then (l.idxOf x:Int) else -1
theorem Kg {l:List Int} {x:Int} {k:Nat} (hk:k<l.length) (h:l[k]=x) (jI:x∉l.take k):(k:Int)=Aj l x:=by
 have hm:x∈l:=h▸cY hk
 rw[Aj,if_pos hm]
 have:l.idxOf x=k:=by
  have e:l=l.take k++x::l.drop (k+1):=by
   rw[← h,List.getElem_cons_drop,List.take_append_drop]
  rw[e,List.idxOf_append,if_neg jI,List.idxOf_cons_self]
  simp;omega
 rw[this]
def impl (l:List (Int×Int)):List (Int×Int):=l.filter fun p=>decide (0≤p.2)
def pr (t:Tr):List (Int×Int):=t.1.zip t.2.1
def xH (vars:Int) (cl:List (List Int)) (assume:List Int):List Int×Int:=
 if gH assume=true then ([],-2) else ((impl (pr (runM vars cl assume))).map (·.1),(runM vars cl assume).2.2)
def sf (t:Tr):Prop:=t.2.1.length=t.1.length
theorem KQ {t:Tr} (h:sf t) (x:Int):sf (nA t x):=by
 unfold nA sf at*;split<;>simp [h]
theorem FV (assume:List Int):sf (iO assume):=by
 have:∀(l:List Int) (t:Tr),sf t→sf (l.foldl nA t):=by
  intro l
  induction l with
  |nil=>intro t h;exact h
  |cons x l ih=>intro t h;exact ih _ (KQ h x)
 exact this assume _ rfl
end Go.Ab
/- Chapter 20,the reference's answers:reasons,implied clauses. -/
namespace Go.Ab
open Go Go.Proofs
set_option maxRecDepth 20000
set_option maxHeartbeats 4000000
attribute [local irreducible] AW a_ gr fz
def ia (vars:Int) (cl:List (List Int)) (c:List Int):Bool:=
 if gH (c.map fun x=>0 - x)=true then true else decide (0≤(runM vars cl (c.map fun x=>0 - x)).2.2)
theorem Rl {l:List Int} (h:Sm l):Sm (l.map fun x=>0 - x):=by
 intro x hx
 obtain⟨y,hy,rfl⟩:=bx.1 hx
 have:=h y hy
 omega
end Go.Ab
/- Chapter 20:the library's search,the closure. -/
namespace Go.Ab
open Go Go.Proofs
set_option maxRecDepth 20000
set_option maxHeartbeats 4000000
attribute [local irreducible] AW a_ gr fz
theorem Mx (l:List Int) (x:Int):Fn Tryz.prog 91 [.pv (ints l),eU x] (eU (Aj l x)):=by
 refine Fn.enter (n:=19) Tryz.func91 rfl rfl rfl rfl rfl (by decide) fun g fp fl=>?_;(try refine nz ?_)
 refine AW.jK 0 rfl fun hlen=>?_
 (refine rK ?_;refine nq ?_)
 refine AW.loop (fun(k:Nat)=>{n:=19,env:=[(0,.pv (ints l)),(1,eU x),(7,eU l.length),(8,eU k)],gv:=[],nx:=0}) (fun k=>k≤l.length∧x∉l.take k) (fun k=>l.length - k) 0 ?_ ?_ ?_
 ·simp
 ·exact SE
 rintro k ⟨hk,jI⟩
 (refine zq ?_;refine zs ?_;refine kW ?_;(focus ((with_reducible apply AW.sW);exact rfl;exact rfl;all_goals intro oD));refine vH ?_;refine zo ?_;refine AW.block ?_;refine j6 ?_;refine rz ?_;(iterate 3 refine zm ?_);refine aA ?_;refine Kf ?_;refine zd ?_;(focus ((with_reducible apply AW.sW);exact rfl;exact rfl;all_goals intro oD));refine j6 ?_;refine qR ?_;(all_goals skip);rotate_left;refine AW.skip ?_;refine uH ?_;refine sm ?_;(all_goals skip);rotate_left;refine I6 ?_;refine iK ?_;refine ku ?_;(all_goals skip);rotate_left)
 ·exact eY (.one (.tmp rfl rfl)) (.eU (Kg (l:=l) aJ oD.symm jI))
 ·exact⟨k+1,⟨by omega,L7 (l:=l) jI aJ (Ne.symm oD)⟩,by omega,fe rfl (by(refine aC ?_;(iterate 3 refine aC ?_);exact trivial)) (by(exact trivial)) rfl⟩
 ·exact eY (.one (.tmp rfl rfl)) (.eU (by rw[gP (l:=l) aJ] at jI;rw[Aj,if_neg jI]))
theorem HY (l:List Int) (x:Int):decide (0≤Aj l x)=decide (x∈l):=by
 unfold Aj
 by_cases h:x∈l
 ·rw[if_pos h];simp [h]
 ·rw[if_neg h];simp [h]
theorem oK (l:List Int) (x:Int):Fn Tryz.prog 54 [.pv (ints l),eU x] (fq (decide (x∈l))):=by
 refine Fn.enter (n:=9) Tryz.func54 rfl rfl rfl rfl rfl (by decide) fun g fp fl=>?_;(try refine nz ?_)
 (refine u6 ?_;(iterate 2 refine zm ?_);refine a_.call (Mx _ _) (.cons rfl (.pv _) (.cons rfl (.pv _) .nil)) rfl rfl (fun h_=>by cases h_) ?_;refine FA ?_)
 (apply eY;(exact gm.one (.tmp rfl rfl));(refine Le.fq ?_;(exact HY l x)))
end Go.Ab
/- Chapter 20:unitprop's test for contradictory literals. -/
namespace Go.Ab
open Go Go.Proofs
set_option maxRecDepth 20000
set_option maxHeartbeats 4000000
attribute [local irreducible] AW a_ gr fz
theorem Jj (l:List Int) (hs:Sm l):Fn Tryz.prog 50 [.pv (ints l)] (fq (gH l)):=by
 refine Fn.enter (n:=6) Tryz.func50 rfl rfl rfl rfl rfl (by decide) fun g fp fl=>?_;(try refine nz ?_)
 refine AW.jK 0 rfl fun hlen=>?_
 (refine ny ?_;refine rz ?_;refine zb ?_;refine a_.jB rfl rfl rfl ?_;(with_reducible apply a_.inline (hf:=Tryz.func39));(with_reducible assumption);(iterate 10 exact rfl);intro g_ fp fl;refine qL ?_;refine IV ?_;(with_reducible apply a_.inline (hf:=Tryz.func78));(with_reducible assumption);(iterate 10 exact rfl);intro g_ fp fl;refine nz ?_;refine rK ?_;refine nq ?_)
 refine AW.loop (fun(k:Nat)=>{n:=19,env:=[(0,.pv (ints l)),(1,.jx (.func 87) [] [.ptr 0 0]),(7,eU l.length),(8,eU k)],gv:=[(0,some (.box [.pv (ints l)]))],nx:=1}) (fun k=>k≤l.length∧(∀x∈l.take k,(0 - x)∉l)) (fun k=>l.length - k) 0 ?_ ?_ ?_
 ·simp
 ·exact fe rfl (by(refine aC ?_;(iterate 3 refine aC ?_);exact trivial)) (by(refine⟨.box _ rfl ?_,?_⟩;refine aC ?_;(iterate 2 exact trivial))) rfl
 rintro k ⟨hk,jI⟩
 by_cases fy:k<l.length
 ·have hx:=hs _ (cY fy)
  (refine yX ?_;refine aA ?_;refine zr ?_;(with_reducible apply a_.inline (hf:=Tryz.func87));(with_reducible assumption);(iterate 10 exact rfl);intro g_ fp fl;refine qL ?_;refine iY ?_;refine a_.neg rfl rfl rfl aJ ?_;refine a_.call (oK _ _) (.cons rfl (.pv _) (.cons rfl (.pv _) .nil)) rfl rfl (fun h_=>by cases h_) ?_;refine ku ?_;refine ui ?_;refine zd ?_;(focus ((with_reducible apply AW.sW);exact rfl;exact rfl;all_goals intro oD));refine qE ?_;refine qR ?_;refine ui ?_;refine FA ?_;refine ui ?_;refine ku ?_;(all_goals skip);rotate_left;refine AW.skip ?_;refine tP ?_;(all_goals skip);rotate_left)
  ·(apply eY;(exact gm.one (.tmp rfl rfl));(refine Le.fq ?_;(rw[CQ fy (by rw[de];exact oD)];simp)))
  ·exact⟨k+1,⟨by omega,by rw[fI fy];intro x hx;rcases bX.1 hx with h|h;exact jI x h;simp only[cq] at h;subst h;rw[de];exact oD⟩,by omega,fe rfl (by(refine aC ?_;exact Jo)) (by(exact Qs)) rfl⟩
 ·(refine zD ?_;refine ui ?_;refine FA ?_;refine ui ?_;refine ku ?_)
  have hf:gH l=false:=by rw[gP (l:=l) aJ] at jI;unfold gH;rw[dD];simpa using jI
  (apply eY;(exact gm.one (.tmp rfl rfl));(refine Le.fq ?_;(rw[hf];rfl)))
end Go.Ab
/- Chapter 20:unitprop's run,the plain part:what open and active compute,beside the reference's step. -/
namespace Go.Ab
open Go Go.Proofs
set_option maxRecDepth 20000
set_option maxHeartbeats 4000000
def fW (tr:List Int):List Int→List Int→Option (List Int)
 |[],out=>some out
 |x::c,out=>if x∈tr then none else fW tr c (if (-x)∉tr∧x∉out then out++ [x] else out)
theorem zM (tr c:List Int) (k:Nat) (out:List Int) (h:k<c.length):fW tr (c.drop k) out=
  if c[k]∈tr then none else fW tr (c.drop (k+1)) (if (-c[k])∉tr∧c[k]∉out then out++ [c[k]] else out):=by
 rw[dj h];rfl
theorem Ca (tr:List Int):∀(c out r:List Int),fW tr c out=some r→∃s,r=out++s:=by
 intro c
 induction c with
 |nil=>intro out r h;simp only[fW,Option.some.injEq] at h;exact⟨[],by simp [h]⟩
 |cons x c ih=>
  intro out r h
  unfold fW at h
  split at h
  ·cases h
  ·obtain⟨s,hs⟩:=ih _ _ h
   split at hs
   ·exact⟨x::s,by simpa using hs⟩
   ·exact⟨s,hs⟩
def r9:Option (List Int)→Int×Int
 |none=>(0,0)
 |some []=>(1,0)
 |some [x]=>(2,x)
 |some _=>(0,0)
theorem Il {tr c out:List Int} (h:2≤out.length):r9 (fW tr c out)=(0,0):=by
 cases hc:fW tr c out with
 |none=>rfl
 |some r=>
  obtain⟨s,rfl⟩:=Ca tr c out r hc
  match out,h with
  |a::b::out,_=>rfl
theorem D0 (tr:List Int):∀(c:List Int),(∀x∈c,x≠0)→
  (iM tr c 0=r9 (fW tr c []))∧∀l,l≠0→iM tr c l=r9 (fW tr c [l]):=by
 intro c
 induction c with
 |nil=>intro _;exact⟨rfl,fun l hl=>by simp [iM,fW,r9,hl]⟩
 |cons x c ih=>
  intro h
  have hx:x≠0:=h x (by simp)
  obtain⟨i1,i2⟩:=ih fun y hy=>h y (by simp [hy])
  have e:(0:Int) - x= -x:=by omega
  refine⟨?_,fun l hl=>?_⟩
  ·unfold iM fW
   by_cases h1:x∈tr
   ·simp [h1,r9]
   ·by_cases h2:(-x)∈tr
    ·simp [h1,h2,e,i1]
    ·simp only[h1,h2,e,false_or,not_false_eq_true,true_and,ne_eq,not_true_eq_false,false_and,and_false,if_false,List.not_mem_nil,if_true,List.nil_append]
     exact i2 x hx
  ·unfold iM fW
   by_cases h1:x∈tr
   ·simp [h1,r9]
   ·by_cases h2:(-x)∈tr
    ·simp only[h1,h2,e,false_or,not_true_eq_false,false_and,if_false,if_true]
     exact i2 l hl
    ·by_cases h3:l=x
     ·subst h3
      simp only[h1,h2,e,false_or,not_false_eq_true,true_and,ne_eq,not_true_eq_false,and_false,if_false,cq]
      exact i2 l hl
     ·rw[if_pos (.inr ⟨by rw[e];exact h2,hl,h3⟩),if_neg h1,if_pos ⟨h2,by simp;exact fun e=>h3 e.symm⟩]
      exact(Il (by simp)).symm
theorem nE (c tr:List Int) (h:∀x∈c,x≠0):iq c tr=r9 (fW tr c []):=(D0 tr c h).1
theorem p6 (tr:List Int):∀(c out r:List Int),fW tr c out=some r→(∀y∈out,y∉tr∧(-y)∉tr)→∀y∈r,(y∈out∨y∈c)∧y∉tr∧(-y)∉tr:=by
 intro c
 induction c with
 |nil=>intro out r h ho y hy;simp only[fW,Option.some.injEq] at h;subst h;exact⟨.inl hy,ho y hy⟩
 |cons x c ih=>
  intro out r h ho y hy
  unfold fW at h
  split at h
  ·cases h
  ·rename_i hx
   split at h
   ·rename_i h2
    have:=ih _ _ h (by intro z hz;rcases bX.1 hz with hz|hz;exact ho z hz;simp at hz;subst hz;exact⟨hx,h2.1⟩) y hy
    refine⟨?_,this.2⟩
    rcases this.1 with h3|h3
    ·rcases bX.1 h3 with h3|h3
     ·exact .inl h3
     ·simp at h3;subst h3;exact .inr (by simp)
    ·exact .inr (by simp [h3])
   ·have:=ih _ _ h ho y hy
    exact⟨this.1.imp id (fun h=>by simp [h]),this.2⟩
def ri (vars:Int) (l:List Int):Prop:=(l.map Int.natAbs).Nodup∧∀x∈l,x≠0∧x≤vars∧ -vars≤x
theorem LG:∀(n:Nat) {l:List Nat},l.Nodup→(∀x∈l,1≤x∧x≤n)→l.length≤n:=by
 intro n
 induction n with
 |zero=>intro l _ h;cases l with|nil=>simp|cons x l=>have:=h x (by simp);omega
 |succ n ih=>
  intro l hn h
  have h1:=ih (l:=l.erase (n+1)) (hn.erase _) (fun x hx=>by
   have h2:=h x (List.mem_of_mem_erase hx)
   have h3:x≠n+1:=fun e=>by subst e;exact(List.Nodup.not_mem_erase hn) hx
   omega)
  have:=List.length_erase (a:=n+1) (l:=l)
  split at this<;>omega
theorem ri.len {vars:Int} {l:List Int} (h:ri vars l):(l.length:Int)≤max vars 0:=by
 have:=LG vars.toNat h.1 (fun x hx=>by
  obtain⟨y,hy,rfl⟩:=bx.1 hx
  have:=h.2 y hy
  omega)
 simp at this;omega
theorem ri.add {vars:Int} {l:List Int} (h:ri vars l) {x:Int} (hx:x≠0∧x≤vars∧ -vars≤x) (h1:x∉l) (h2:(-x)∉l):ri vars (l++ [x]):=by
 refine⟨?_,fun y hy=>?_⟩
 ·rw[cR,List.nodup_append]
  refine⟨h.1,by simp,?_⟩
  intro a ha b hb e
  simp at hb;subst hb;subst e
  obtain⟨y,hy,he⟩:=bx.1 ha
  have:y=x∨y= -x:=by omega
  rcases this with rfl|rfl
  ·exact h1 hy
  ·exact h2 hy
 ·rcases bX.1 hy with hy|hy
  ·exact h.2 y hy
  ·simp at hy;subst hy;exact hx
theorem fP {vars:Int} {l:List Int} (h:e8 vars l=true):∀x∈l,x≠0∧x≤vars∧ -vars≤x:=by
 intro x hx
 have:=bD.1 h x hx
 simp at this
 omega
theorem pO (assume:List Int):(∀x,x∈(iO assume).1↔x∈assume):=by
 have:∀(l:List Int) (t:Tr) (x:Int),x∈(l.foldl nA t).1↔x∈t.1∨x∈l:=by
  intro l
  induction l with
  |nil=>intro t x;simp
  |cons y l ih=>
   intro t x
   rw[ct,ih,bw]
   unfold nA
   split
   ·rename_i h
    constructor
    ·rintro(h1|h1);exact .inl h1;exact .inr (.inr h1)
    ·rintro(h1|rfl|h1);exact .inl h1;exact .inl h;exact .inr h1
   ·simp only[bX,cq]
    rw[or_assoc]
 intro x
 have:=this assume ([],[],-1) x
 simpa [iO] using this
theorem CX {vars:Int} {assume:List Int} (h:e8 vars assume=true) (hc:gH assume=false):ri vars (iO assume).1:=by
 have key:∀(l:List Int) (t:Tr),(∀x∈t.1,x∈assume)→(∀x∈l,x∈assume)→ri vars t.1→ri vars (l.foldl nA t).1:=by
  intro l
  induction l with
  |nil=>intro t _ _ h;exact h
  |cons y l ih=>
   intro t h1 h2 h3
   rw[ct]
   have hy:=h2 y (by simp)
   refine ih _ ?_ (fun x hx=>h2 x (by simp [hx])) ?_
   ·intro x hx
    unfold nA at hx
    split at hx
    ·exact h1 x hx
    ·rcases bX.1 hx with hx|hx
     ·exact h1 x hx
     ·simp at hx;subst hx;exact hy
   ·unfold nA
    split
    ·exact h3
    ·rename_i hn
     refine h3.add (fP h y hy) hn (fun hm=>?_)
     unfold gH at hc
     rw[dD] at hc
     have:=hc y hy
     simp at this
     exact this (h1 _ hm)
 exact key assume _ (by simp) (fun x hx=>hx) ⟨by simp,by simp⟩
structure zZ (vars:Int) (cl:List (List Int)) (assume:List Int) (t:Tr) (n:Nat):Prop where
 dist:ri vars t.1
 even:sf t
 Fu:t.2.2= -1
 le:n≤t.1.length
 eq:runM vars cl assume=rS cl (vars+1 - n).toNat t
theorem xL {vars:Int} {cl:List (List Int)} {assume:List Int} (_hv:0≤vars) (h:e8 vars assume=true) (hc:gH assume=false):zZ vars cl assume (iO assume) 0:=by
 refine⟨CX h hc,FV _,?_,bm _,?_⟩
 ·have:∀(l:List Int) (t:Tr),(l.foldl nA t).2.2=t.2.2:=by
   intro l
   induction l with
   |nil=>intro t;rfl
   |cons y l ih=>intro t;rw[ct,ih];unfold nA;split<;>rfl
  exact this assume _
 ·simp [runM]
theorem zZ.fuel {vars:Int} {cl:List (List Int)} {assume:List Int} {t:Tr} {n:Nat} (hv:0≤vars) (h:zZ vars cl assume t n):(vars+1 - (n:Int)).toNat=(vars+1 - ((n+1:Nat):Int)).toNat+1:=by
 have:=h.dist.len
 have:=h.le
 omega
theorem zZ.stop {vars:Int} {cl:List (List Int)} {assume:List Int} {t t':Tr} {n:Nat} (hv:0≤vars) (h:zZ vars cl assume t n) (hs:l8 cl t=(t',false)):runM vars cl assume=t':=by
 rw[h.eq,h.fuel hv,rS,hs];rfl
theorem zZ.go {vars:Int} {cl:List (List Int)} {assume:List Int} {t:Tr} {n:Nat} (hv:0≤vars) (h:zZ vars cl assume t n) {x r:Int} (hs:l8 cl t=((t.1++ [x],t.2.1++ [r],t.2.2),true))
  (hx:x≠0∧x≤vars∧ -vars≤x) (h1:x∉t.1) (h2:(-x)∉t.1):zZ vars cl assume (t.1++ [x],t.2.1++ [r],-1) (n+1):=by
 refine⟨h.dist.add hx h1 h2,?_,rfl,?_,?_⟩
 ·have:t.2.1.length=t.1.length:=h.even
  show(t.2.1++ [r]).length=(t.1++ [x]).length
  simp [this]
 ·have:=h.le;simp;exact this
 ·rw[h.eq,h.fuel hv,rS,hs]
  show rS cl _ (t.1++ [x],t.2.1++ [r],t.2.2)=_
  rw[h.Fu]
end Go.Ab
/- Chapter 20:unitprop's run,walked. -/
namespace Go.Ab
open Go Go.Proofs
set_option maxRecDepth 20000
set_option maxHeartbeats 4000000
attribute [local irreducible] AW a_ gr fz fH vN fM
theorem M9 (vars:Int) (cl:List (List Int)) (assume:List Int) (iX:∀c∈cl,e8 vars c=true∧c.length≤100000) (h3:cl.length≤1000000) (hv:0≤vars∧vars≤100000) (ha:assume.length≤100000) (hw:e8 vars assume=true) (hc:gH assume=false):
  Fn Tryz.prog 51 [KA vars cl,.pv (ints assume)] (.gf [.lit (.int .i64 vars),j3 cl,ints (runM vars cl assume).1,ints (runM vars cl assume).2.1,.any,.lit (.int .i64 (runM vars cl assume).2.2)]):=by
 refine Fn.enter (n:=46) Tryz.func51 rfl rfl rfl rfl rfl (by decide) fun g fp fl=>?_;(try refine nz ?_)
 (refine ny ?_;refine rz ?_;refine mJ ?_;refine a_.GA (t:=88) rfl ?_;refine nz ?_;refine a_.oZ 90 [0,4,5] rfl rfl rfl rfl rfl rfl rfl rfl rfl ?_;refine nz ?_;refine MU ?_;refine mV ?_;refine GB ?_;refine nz ?_;refine kW ?_;refine qE ?_;refine nq ?_)
 refine AW.jK 1 rfl fun hlen=>?_
 refine AW.loop (fun(k:Nat)=>{n:=46,env:=[(5,.ptr 3 0),(14,.pv (ints assume)),(15,eU assume.length),(16,eU k)],gv:=[(1,some (.mp (jl (j7 (iO (assume.take k)).1)))),(2,some (.box [eU vars,.pv (j3 cl),.own 4 3 1 ((iO (assume.take k)).1.map encI),.own 5 3 1 ((iO (assume.take k)).2.1.map encI),.gx 1,eU (-1)])),(3,some (.box [.ptr 2 0])),(4,some .row),(5,some .row)],nx:=6})
  (fun k=>k≤assume.length) (fun k=>assume.length - k) 0 ?_ ?_ ?_
 ·simp
 ·exact fe rfl (by(refine aC ?_;refine⟨.iz (by first|with_reducible rfl|(simp [iO])),?_⟩;(iterate 2 refine⟨.gq (by first|with_reducible rfl|(simp [iO])),?_⟩);exact trivial)) (by(refine⟨WO.UL rfl,?_⟩;refine⟨.box _ rfl ?_,?_⟩;refine⟨.gq (by first|with_reducible rfl|(simp [iO])),?_⟩;refine⟨.iz (by first|with_reducible rfl|(simp [iO])),?_⟩;(iterate 2 refine⟨.jN _ _ _ rfl rfl,?_⟩);refine aC ?_;refine⟨.gq (by first|with_reducible rfl|(simp [iO])),?_⟩;exact trivial;refine⟨.box _ rfl ?_,?_⟩;refine aC ?_;exact trivial;(iterate 2 refine⟨.iW rfl,?_⟩);exact trivial)) rfl
 ·rintro k hk
  have hs:=F2 (assume.take k)
  have tA:(assume.take k).length≤100000:=by simp;omega
  by_cases fy:k<assume.length
  ·have Bg:=D2 fy
   (refine Cj ?_;refine aA ?_;refine zr ?_;refine rz ?_;refine zb ?_;refine a_.fw rfl rfl rfl ?_;refine a_.c_ 90 3 4 rfl rfl rfl rfl ?_;refine iY ?_;refine Li ?_;refine a_.Ks rfl rfl rfl ?_;refine zd ?_;(focus ((with_reducible apply AW.sW);exact rfl;exact rfl;all_goals intro oD));refine sg ?_;refine iY ?_;(with_reducible apply a_.inline (hf:=Tryz.func88));(with_reducible assumption);(iterate 10 exact rfl);intro g_ fp fl;refine nz ?_;(all_goals skip);rotate_left;refine AW.skip ?_;refine uH ?_;refine sm ?_;(all_goals skip);rotate_left)
   ·have Hd:assume[k]∉(iO (assume.take k)).1:=oD
    refine AW.Ce [0,2,3,4,5,7,8,9,10,11,14,15,16,17,18] [23,26,27,29] rfl (by assumption) aI rfl ?_
    show a_ .held _ _ _ [_,_,_,_,_,_,_,_,_,_,_,_,_,_,_] _ _
    (refine Up ?_)
    intro k_ iE
    (try refine nz ?_)
    refine AR.free 1 aI rfl rfl rfl (by first|exact fS.fN rfl rfl|exact fS.iD rfl rfl|exact fS.nilCheck rfl rfl) ?_
    refine AR.free 6 aI rfl rfl rfl (by first|exact fS.fN rfl rfl|exact fS.iD rfl rfl|exact fS.nilCheck rfl rfl) ?_
    refine AR.sE (i:=12) (j:=19) rfl aI rfl rfl ?_ ?_<;>intro g_ b_ fU<;>(refine tE ?_;refine Q3 ?_)
    ·refine AR.sE (i:=13) (j:=19) rfl aI rfl rfl ?_ ?_<;>intro g_ b_ fU<;>(first|((with_reducible apply a_.fD);exact rfl;exact ah;(iterate 9 exact rfl);exact aa;refine jR ?_)|(refine tE ?_;refine Q3 ?_))
     ·refine AR.gL (i:=19) rfl aI rfl ?_
      intro g_ b_ fU
      (refine tE ?_;refine Q3 ?_)
      refine AR.gL (i:=20) rfl aI rfl ?_
      intro g_ b_ fU
      ((with_reducible apply a_.fD);exact rfl;exact ah;(iterate 9 exact rfl);exact aa;refine jR ?_)
      refine AR.gL (i:=21) rfl aI rfl ?_
      intro g_ b_ fU
      (refine vy ?_)
      refine AR.gL (i:=22) rfl aI rfl ?_
      intro g_ b_ fU
      (refine IX ?_)
      refine It ?_
      intro g_ b_ eT
      (refine tq ?_)
      refine AR.gL (i:=24) rfl aI rfl ?_
      intro g_ b_ fU
      (refine vy ?_)
      refine AR.gL (i:=25) rfl aI rfl ?_
      intro g_ b_ fU
      (refine IA ?_)
      refine Jf ?_
      intro g_ b_ eT
      (refine tq ?_)
      refine HT ?_
      intro g_ b_ eT
      (refine I9 ?_;refine jR ?_)
      refine AR.gL (i:=28) rfl aI rfl ?_
      intro g_ b_ fU
      (refine pd ?_)
      refine IQ ?_
      intro g_ b_ eT
      (refine H0 ?_)
      refine AR.done (by assumption) aI ?_
      (refine kF ?_;refine nz ?_;refine Bt ?_)
      rw[nA,if_neg Hd] at Bg
      exact XO
     ·refine AR.gL (i:=13) rfl aI rfl ?_
      intro g_ b_ fU
      ((with_reducible apply a_.fD);exact rfl;exact ah;(iterate 9 exact rfl);exact aa;refine jR ?_)
      refine AR.gL (i:=20) rfl aI rfl ?_
      intro g_ b_ fU
      ((with_reducible apply a_.fD);exact rfl;exact ah;(iterate 9 exact rfl);exact aa;refine jR ?_)
      refine AR.gL (i:=21) rfl aI rfl ?_
      intro g_ b_ fU
      (refine vy ?_)
      refine AR.gL (i:=22) rfl aI rfl ?_
      intro g_ b_ fU
      (refine IX ?_)
      refine It ?_
      intro g_ b_ eT
      (refine tq ?_)
      refine AR.gL (i:=24) rfl aI rfl ?_
      intro g_ b_ fU
      (refine vy ?_)
      refine AR.gL (i:=25) rfl aI rfl ?_
      intro g_ b_ fU
      (refine IA ?_)
      refine Jf ?_
      intro g_ b_ eT
      (refine tq ?_)
      refine HT ?_
      intro g_ b_ eT
      (refine I9 ?_;refine jR ?_)
      refine AR.gL (i:=28) rfl aI rfl ?_
      intro g_ b_ fU
      (refine pd ?_)
      refine IQ ?_
      intro g_ b_ eT
      (refine H0 ?_)
      refine AR.done (by assumption) aI ?_
      (refine kF ?_;refine nz ?_;refine Bt ?_)
      rw[nA,if_neg Hd] at Bg
      exact XO
    ·refine AR.gL (i:=12) rfl aI rfl ?_
     intro g_ b_ fU
     (refine tE ?_;refine Q3 ?_)
     refine AR.gL (i:=13) rfl aI rfl ?_
     intro g_ b_ fU
     ((with_reducible apply a_.fD);exact rfl;exact ah;(iterate 9 exact rfl);exact aa;refine jR ?_)
     refine AR.gL (i:=20) rfl aI rfl ?_
     intro g_ b_ fU
     ((with_reducible apply a_.fD);exact rfl;exact ah;(iterate 9 exact rfl);exact aa;refine jR ?_)
     refine AR.gL (i:=21) rfl aI rfl ?_
     intro g_ b_ fU
     (refine vy ?_)
     refine AR.gL (i:=22) rfl aI rfl ?_
     intro g_ b_ fU
     (refine IX ?_)
     refine It ?_
     intro g_ b_ eT
     (refine tq ?_)
     refine AR.gL (i:=24) rfl aI rfl ?_
     intro g_ b_ fU
     (refine vy ?_)
     refine AR.gL (i:=25) rfl aI rfl ?_
     intro g_ b_ fU
     (refine IA ?_)
     refine Jf ?_
     intro g_ b_ eT
     (refine tq ?_)
     refine HT ?_
     intro g_ b_ eT
     (refine I9 ?_;refine jR ?_)
     refine AR.gL (i:=28) rfl aI rfl ?_
     intro g_ b_ fU
     (refine pd ?_)
     refine IQ ?_
     intro g_ b_ eT
     (refine H0 ?_)
     refine AR.done (by assumption) aI ?_
     (refine kF ?_;refine nz ?_;refine Bt ?_)
     rw[nA,if_neg Hd] at Bg
     exact XO
   ·rw[nA,if_pos (Decidable.not_not.1 oD)] at Bg
    exact⟨k+1,by omega,by omega,fe rfl (by(refine aC ?_;refine⟨.iz (by first|with_reducible rfl|(rw[Bg])),?_⟩;refine⟨.gq (by first|with_reducible rfl|(rw[Bg])),?_⟩;refine aC ?_;exact trivial)) (by(refine⟨.T8 rfl (by rw[Bg]),?_⟩;refine⟨.box _ rfl ?_,?_⟩;refine⟨.gq (by first|with_reducible rfl|(rw[Bg])),?_⟩;refine⟨.iz (by first|with_reducible rfl|(rw[Bg])),?_⟩;(iterate 2 refine⟨.ff (by first|with_reducible rfl|(rw[Bg])) rfl,?_⟩);refine aC ?_;refine⟨.gq (by first|with_reducible rfl|(rw[Bg])),?_⟩;exact trivial;refine⟨.box _ rfl ?_,?_⟩;refine aC ?_;exact trivial;(iterate 2 refine aF ?_);exact trivial)) rfl⟩
  ·have j4:assume.take k=assume:=gP (by omega)
   rw[j4] at hs ⊢
   have fF:=xL hv.1 hw hc (cl:=cl)
   generalize iO assume=t0 at hs fF ⊢
   (refine Cp ?_;refine zo ?_;refine iK ?_;refine zb ?_;refine a_.EK rfl rfl rfl ?_;refine zd ?_;refine AW.block ?_)
   refine AW.F0 (ps:=[33,34]) fp fl rfl rfl Tryz.func89 rfl rfl rfl rfl rfl rfl (by decide) ?_
   intro g2 tm l ps' asg' body' Au UU VL wz II
   (refine iK ?_;refine wX ?_)
   refine AW.loop (S:=Tr×Nat×Bool) (fun s=>{n:=48,env:=[(0,.ptr 2 0),(1,.lT 6),(4,fq s.2.2),(1005,.ptr 3 0)],gv:=[(1,some (.mp (jl (j7 s.1.1)))),(2,some (.box [eU vars,.pv (j3 cl),.own 4 3 1 (s.1.1.map encI),.own 5 3 1 (s.1.2.1.map encI),.gx 1,eU (-1)])),(3,some (.box [.ptr 2 0])),(4,some .row),(5,some .row),(6,some (.loop l tm ps' asg' body' .ready))],nx:=7})
    (fun s=>zZ vars cl assume s.1 s.2.1∧(s.2.2=false→l8 cl s.1=(s.1,false))) (fun s=>(vars+1 - (s.2.1:Int)).toNat*2+if s.2.2 then 1 else 0) (t0,0,true) ?_ ?_ ?_
   ·exact⟨fF,fun h=>by cases h⟩
   ·exact Zn
   ·rintro⟨t,n,b⟩ ⟨hI,hb⟩
    simp only at hI hb ⊢
    cases b with
    |false=>
     have My:=hI.stop hv.1 (hb rfl)
     rw[My,hI.Fu]
     (refine sd ?_;refine zd ?_;refine AW.j8 rfl rfl ?_;refine AW.exit ?_;(iterate 2 refine kB ?_);refine iC ?_)
     refine wO (.inl rfl) rfl ?_
     (try refine nz ?_)
     repeat (first|with_reducible apply ix|with_reducible apply iB|with_reducible apply iC)
     refine AW.fe (δ':={n:=46,env:=[(5,.ptr 3 0)],gv:=[(3,some (.box [.gf [.lit (.int .i64 vars),j3 cl,ints t.1,ints t.2.1,.any,.lit (.int .i64 (-1))]]))],nx:=7}) (fe rfl (by(first|(refine Pp ?_;exact E2)|(refine aC ?_;exact FJ)|(refine aC ?_;(iterate 6 refine aC ?_);exact trivial)|(refine aC ?_;exact Jo)|(exact vM))) (by(first|(refine OU ?_;refine⟨.iW rfl,?_⟩;exact trivial)|(refine OU ?_;exact Bq)|(refine OU ?_;exact trivial)|(refine⟨.box _ rfl ?_,?_⟩;refine⟨.fbox rfl rfl (by repeat (first|exact Iu.nil|refine .cons (.any _) ?_|refine .cons (.pv _) ?_|refine .cons (.own rfl rfl) ?_|refine .cons (.nil _) ?_)),?_⟩;(iterate 2 exact trivial)))) rfl) ?_
     (refine zq ?_;refine zb ?_;refine a_.mR rfl rfl rfl ?_;refine zd ?_;refine AW.ret ?_)
     (apply eY;(exact gm.one (.tmp rfl rfl));(exact Le.gf _))
    |true=>
     clear hb
     (refine sd ?_;refine xj ?_;refine vH ?_;refine AW.block ?_;refine iK ?_;refine rz ?_;refine pJ ?_;refine a_.c_ 90 0 0 rfl rfl rfl rfl ?_;refine vm ?_;refine nq ?_)
     refine AW.loop (fun(k:Nat)=>{n:=48,env:=[(0,.ptr 2 0),(1,.lT 6),(4,fq false),(14,.pv (j3 cl)),(15,eU cl.length),(16,eU k),(1005,.ptr 3 0)],gv:=[(1,some (.mp (jl (j7 t.1)))),(2,some (.box [eU vars,.pv (j3 cl),.own 4 3 1 (t.1.map encI),.own 5 3 1 (t.2.1.map encI),.gx 1,eU (-1)])),(3,some (.box [.ptr 2 0])),(4,some .row),(5,some .row),(6,some (.loop l tm ps' asg' body' .ready))],nx:=7})
      (fun k=>k≤cl.length∧l8 cl t=lj t k (cl.drop k)) (fun k=>cl.length - k) 0 ?_ ?_ ?_
     ·exact⟨bm _,rfl⟩
     ·exact Zn
     ·rintro k ⟨hk,i_⟩
      by_cases fy:k<cl.length
      ·rw[zJ _ _ _ fy] at i_
       obtain⟨V0,Mk⟩:=iX _ (cY fy)
       have W2:=fP V0
       rw[nE _ _ (fun x hx=>(W2 x hx).1)] at i_
       (refine mn ?_;refine aA ?_;refine zr ?_;refine uf ?_;refine iK ?_;refine Fo ?_;(with_reducible apply a_.inline (hf:=Tryz.func109));(with_reducible assumption);(iterate 10 exact rfl);intro g_ fp fl;refine nz ?_;refine zq ?_;refine uf ?_;refine iK ?_;refine yf ?_;refine nq ?_)
       refine AW.loop (S:=Nat×List Int) (fun s=>{n:=41,env:=[(0,.ptr 2 0),(6,.own 7 3 1 (s.2.map encI)),(9,.pv (ints (cl[k]'fy))),(10,eU (cl[k]'fy).length),(11,eU s.1),(1000,.ptr 2 0),(1001,.lT 6),(1004,fq false),(1005,eU k),(1014,.pv (j3 cl)),(1015,eU cl.length),(1016,eU k),(2005,.ptr 3 0)],gv:=[(1,some (.mp (jl (j7 t.1)))),(2,some (.box [eU vars,.pv (j3 cl),.own 4 3 1 (t.1.map encI),.own 5 3 1 (t.2.1.map encI),.gx 1,eU (-1)])),(3,some (.box [.ptr 2 0])),(4,some .row),(5,some .row),(6,some (.loop l tm ps' asg' body' .ready)),(7,some .row)],nx:=8})
        (fun s=>s.1≤(cl[k]'fy).length∧fW t.1 (cl[k]'fy) []=fW t.1 ((cl[k]'fy).drop s.1) s.2∧s.2.length≤s.1) (fun s=>(cl[k]'fy).length - s.1) (0,[]) ?_ ?_ ?_
       ·exact⟨bm _,rfl,aP _⟩
       ·exact Zn
       ·rintro⟨j,out⟩ ⟨hj,uZ,hol⟩
        simp only at hj uZ hol ⊢
        generalize EF:cl[k]=c at i_ V0 Mk W2 hj uZ ⊢
        by_cases JB:j<c.length
        ·have Ph:=W2 c[j] (cY JB)
         rw[zM _ _ _ _ JB] at uZ
         (refine Cj ?_;refine aA ?_;refine zr ?_;refine kc ?_;refine iK ?_;refine pJ ?_;refine a_.c_ 90 3 4 rfl rfl rfl rfl ?_;refine iY ?_;refine Li ?_;refine zd ?_;(focus ((with_reducible apply AW.sW);exact rfl;exact rfl;all_goals intro oD));refine iK ?_;refine uf ?_;refine AW.ret ?_;refine gV ?_;refine PX ?_;refine C0 rfl rfl rfl rfl ?_;refine nz ?_;refine Gg ?_;(iterate 2 refine za ?_);refine kW ?_;refine j6 ?_;refine IJ ?_;refine E3 ?_;refine xj ?_;refine Jy ?_;refine sm ?_;(all_goals skip);rotate_left;refine vH ?_;refine iK ?_;refine pJ ?_;refine a_.c_ 90 3 4 rfl rfl rfl rfl ?_;refine iY ?_;refine a_.neg rfl rfl rfl aJ ?_;refine Li ?_;refine a_.Ks rfl rfl rfl ?_;refine zm ?_;(focus ((with_reducible apply a_.R9);(iterate 6 exact rfl);all_goals intro oD));refine a_.fX rfl rfl rfl ?_;refine uW ?_;refine a_.call (oK _ _) (.cons rfl (.own _ _ _ _ rfl) (.cons rfl (.pv _) .nil)) rfl rfl (fun h_=>by cases h_) ?_;refine zt ?_;refine a_.Ks rfl rfl rfl ?_;refine zT ?_;refine zd ?_;(focus ((with_reducible apply AW.sW);exact rfl;exact rfl;all_goals intro oD));refine sg ?_;refine se ?_;refine tE ?_;(with_reducible apply a_.fD);exact rfl;exact ah;(iterate 9 exact rfl);exact aa;refine nz ?_;refine vG ?_;refine sm ?_;(all_goals skip);rotate_left;refine AW.skip ?_;refine uH ?_;refine sm ?_;(all_goals skip);rotate_left;(iterate 3 refine a_.mG rfl rfl rfl rfl rfl rfl (by with_reducible assumption) ?_);refine zF ?_;refine Ci ?_;refine uH ?_;refine sm ?_;(all_goals skip);rotate_left)
         all_goals first
          |(rw[if_pos (by assumption)] at uZ
            rw[uZ] at i_
            exact⟨k+1,⟨by omega,i_⟩,by omega,fe rfl (by(first|(refine aC ?_;refine⟨.jN _ _ _ rfl rfl,?_⟩;(iterate 11 refine aC ?_);exact trivial)|(refine aC ?_;(iterate 12 refine aC ?_);exact trivial)|(refine aC ?_;(iterate 6 refine aC ?_);exact trivial)|(refine aC ?_;(iterate 3 refine aC ?_);exact trivial)|(refine aC ?_;exact trivial))) (by(first|(refine⟨.set rfl,?_⟩;refine⟨.box _ rfl ?_,?_⟩;(iterate 6 refine aC ?_);exact trivial;refine⟨.box _ rfl ?_,?_⟩;refine aC ?_;exact trivial;(iterate 2 refine aF ?_);refine⟨.loop rfl,?_⟩;refine⟨.iW rfl,?_⟩;exact trivial)|(refine⟨.set rfl,?_⟩;refine⟨.box _ rfl ?_,?_⟩;(iterate 6 refine aC ?_);exact trivial;refine⟨.box _ rfl ?_,?_⟩;refine aC ?_;exact trivial;(iterate 2 refine aF ?_);refine⟨.loop rfl,?_⟩;refine aF ?_;exact trivial)|(refine⟨.set rfl,?_⟩;refine⟨.box _ rfl ?_,?_⟩;(iterate 6 refine aC ?_);exact trivial;refine⟨.box _ rfl ?_,?_⟩;refine aC ?_;exact trivial;(iterate 2 refine aF ?_);refine⟨.loop rfl,?_⟩;exact trivial)|(refine⟨.box _ rfl ?_,?_⟩;refine⟨.fbox rfl rfl (by repeat (first|exact Iu.nil|refine .cons (.any _) ?_|refine .cons (.pv _) ?_|refine .cons (.own rfl rfl) ?_|refine .cons (.nil _) ?_)),?_⟩;(iterate 2 exact trivial)))) rfl⟩)
          |(rw[if_neg (by assumption)] at uZ
            rw[if_neg (show ¬(¬ -c[j]∈t.1∧¬c[j]∈out) from by rintro⟨h1,h2⟩;first|exact oD h2|exact oD h1)] at uZ
            exact⟨(j+1,out),⟨by show j+1≤_;omega,uZ,by show out.length≤j+1;omega⟩,by show c.length - (j+1)<c.length - j;omega,fe rfl (by(first|(refine aC ?_;refine⟨.jN _ _ _ rfl rfl,?_⟩;(iterate 11 refine aC ?_);exact trivial)|(refine aC ?_;(iterate 12 refine aC ?_);exact trivial)|(refine aC ?_;(iterate 6 refine aC ?_);exact trivial)|(refine aC ?_;(iterate 3 refine aC ?_);exact trivial)|(refine aC ?_;exact trivial))) (by(first|(refine⟨.set rfl,?_⟩;refine⟨.box _ rfl ?_,?_⟩;(iterate 6 refine aC ?_);exact trivial;refine⟨.box _ rfl ?_,?_⟩;refine aC ?_;exact trivial;(iterate 2 refine aF ?_);refine⟨.loop rfl,?_⟩;refine⟨.iW rfl,?_⟩;exact trivial)|(refine⟨.set rfl,?_⟩;refine⟨.box _ rfl ?_,?_⟩;(iterate 6 refine aC ?_);exact trivial;refine⟨.box _ rfl ?_,?_⟩;refine aC ?_;exact trivial;(iterate 2 refine aF ?_);refine⟨.loop rfl,?_⟩;refine aF ?_;exact trivial)|(refine⟨.set rfl,?_⟩;refine⟨.box _ rfl ?_,?_⟩;(iterate 6 refine aC ?_);exact trivial;refine⟨.box _ rfl ?_,?_⟩;refine aC ?_;exact trivial;(iterate 2 refine aF ?_);refine⟨.loop rfl,?_⟩;exact trivial)|(refine⟨.box _ rfl ?_,?_⟩;refine⟨.fbox rfl rfl (by repeat (first|exact Iu.nil|refine .cons (.any _) ?_|refine .cons (.pv _) ?_|refine .cons (.own rfl rfl) ?_|refine .cons (.nil _) ?_)),?_⟩;(iterate 2 exact trivial)))) rfl⟩)
          |(rw[if_neg (by assumption)] at uZ
            rw[if_pos ⟨by assumption,by assumption⟩] at uZ
            exact⟨(j+1,out++ [c[j]]),⟨by show j+1≤_;omega,uZ,by show(out++ [c[j]]).length≤j+1;simp;omega⟩,by show c.length - (j+1)<c.length - j;omega,fe rfl (by(refine aC ?_;refine⟨.ff (by first|with_reducible rfl|(first|(rw[cR];rfl)|rfl)) rfl,?_⟩;refine⟨.iz (by first|with_reducible rfl|(first|(rw[cR];rfl)|rfl)),?_⟩;refine⟨.gq (by first|with_reducible rfl|(first|(rw[cR];rfl)|rfl)),?_⟩;refine⟨.gq (by first|with_reducible rfl|(first|(rw[cR];rfl)|rfl)),?_⟩;(iterate 2 refine aC ?_);refine⟨.lh (by first|with_reducible rfl|(first|(rw[cR];rfl)|rfl)),?_⟩;refine⟨.gq (by first|with_reducible rfl|(first|(rw[cR];rfl)|rfl)),?_⟩;refine⟨.iz (by first|with_reducible rfl|(first|(rw[cR];rfl)|rfl)),?_⟩;refine⟨.gq (by first|with_reducible rfl|(first|(rw[cR];rfl)|rfl)),?_⟩;refine⟨.gq (by first|with_reducible rfl|(first|(rw[cR];rfl)|rfl)),?_⟩;refine aC ?_;exact trivial)) (by(refine⟨.set rfl,?_⟩;refine⟨.box _ rfl ?_,?_⟩;refine⟨.gq (by first|with_reducible rfl|(first|(rw[cR];rfl)|rfl)),?_⟩;refine⟨.iz (by first|with_reducible rfl|(first|(rw[cR];rfl)|rfl)),?_⟩;refine⟨.ff (by first|with_reducible rfl|(first|(rw[cR];rfl)|rfl)) rfl,?_⟩;refine⟨.ff (by first|with_reducible rfl|(first|(rw[cR];rfl)|rfl)) rfl,?_⟩;refine aC ?_;refine⟨.gq (by first|with_reducible rfl|(first|(rw[cR];rfl)|rfl)),?_⟩;exact trivial;refine⟨.box _ rfl ?_,?_⟩;refine aC ?_;exact trivial;(iterate 2 refine aF ?_);refine⟨.loop rfl,?_⟩;refine aF ?_;exact trivial)) rfl⟩)
        ·rw[dE aJ] at uZ
         have Us:fW t.1 c []=some out:=uZ
         rw[Us] at i_
         have yH:=p6 t.1 c [] out Us (by simp)
         have ME:tm.size=46:=II
         rcases out with _|⟨x,_|⟨y,out⟩⟩
         ·have e0:([]:List Int).length=0:=rfl
          have Fz:l8 cl t=((t.1,t.2.1,(k:Int)),false):=i_
          have My:=hI.stop hv.1 Fz
          rw[My]
          clear i_
          (refine QA ?_;refine nY ?_;refine zo ?_;refine BR ?_;refine a_.hY rfl rfl rfl rfl ?_;refine a_.eql rfl rfl rfl rfl rfl ?_;refine oz ?_;refine a_.move rfl rfl rfl ?_;refine nz ?_;refine zm ?_;(with_reducible apply a_.MG Au UU VL wz ME);(iterate 8 exact rfl);intro g3 U1 fl;(try refine nz ?_);refine zq ?_;refine lK ?_;refine sg ?_;refine lK ?_;refine And.intro (show qD _ _ _ _ from⟨_,_,_,_,rfl⟩) ?_;(try refine nz ?_);refine AW.block ?_;refine zo ?_;refine zq ?_;refine qI ?_;refine oz ?_;refine Wl ?_;(with_reducible apply tR);exact⟨_,_,_,_,rfl⟩;refine nz ?_;refine zd ?_;refine AW.ret ?_;refine DE ?_;(iterate 2 refine gV ?_);(iterate 2 refine ic ?_);refine DE ?_)
          refine yz (.inr rfl) rfl ?_
          (try refine nz ?_)
          repeat (first|with_reducible apply ix|with_reducible apply iB|with_reducible apply iC)
          refine AW.fe (δ':={n:=46,env:=[(5,.ptr 3 0)],gv:=[(3,some (.box [.gf [.lit (.int .i64 vars),j3 cl,ints t.1,ints t.2.1,.any,.lit (.int .i64 k)]]))],nx:=7}) (fe rfl (by(first|(refine Pp ?_;exact E2)|(refine aC ?_;exact FJ)|(refine aC ?_;(iterate 6 refine aC ?_);exact trivial)|(refine aC ?_;exact Jo)|(exact vM))) (by(first|(refine OU ?_;refine⟨.iW rfl,?_⟩;exact trivial)|(refine OU ?_;exact Bq)|(refine OU ?_;exact trivial)|(refine⟨.box _ rfl ?_,?_⟩;refine⟨.fbox rfl rfl (by repeat (first|exact Iu.nil|refine .cons (.any _) ?_|refine .cons (.pv _) ?_|refine .cons (.own rfl rfl) ?_|refine .cons (.nil _) ?_)),?_⟩;(iterate 2 exact trivial)))) rfl) ?_
          (refine zq ?_;refine zb ?_;refine a_.mR rfl rfl rfl ?_;refine zd ?_;refine AW.ret ?_)
          (apply eY;(exact gm.one (.tmp rfl rfl));(exact Le.gf _))
         ·have e0:([x]:List Int).length=1:=rfl
          have Fz:l8 cl t=((t.1++ [x],t.2.1++ [(k:Int)],t.2.2),true):=i_
          have JA:=yH x (by simp)
          have ve:=W2 x (by simpa using JA.1)
          have Xz:=hI.go hv.1 Fz ve JA.2.1 JA.2.2
          clear i_
          (refine QA ?_;refine nY ?_;refine zo ?_;refine BR ?_;refine a_.hY rfl rfl rfl rfl ?_;refine a_.eql rfl rfl rfl rfl rfl ?_;refine nY ?_;refine zo ?_;refine iK ?_;refine a_.move rfl rfl rfl ?_;refine nz ?_;refine zm ?_;refine a_.fX rfl rfl rfl ?_;refine tw ?_;refine au ?_;(with_reducible apply a_.MG Au UU VL wz ME);(iterate 8 exact rfl);intro g3 U1 fl;(try refine nz ?_);refine zq ?_;refine lK ?_;refine sg ?_;refine lK ?_;refine And.intro (show qD _ _ _ _ from⟨_,_,_,_,rfl⟩) ?_;(try refine nz ?_);refine AW.block ?_;refine zo ?_;refine zq ?_;refine qI ?_;refine zd ?_;(focus ((with_reducible apply AW.sW);exact rfl;exact rfl;all_goals intro oD));refine iK ?_;refine Wl ?_;(with_reducible apply tR);exact⟨_,_,_,_,rfl⟩;refine nz ?_;refine a_.not rfl rfl rfl ?_;refine xj ?_;refine AW.ret ?_;refine DE ?_;(iterate 2 refine gV ?_);(iterate 2 refine ic ?_);refine DE ?_;(all_goals skip);rotate_left;refine vH ?_;refine sg ?_;refine DP ?_;(with_reducible apply a_.inline (hf:=Tryz.func88));(with_reducible assumption);(iterate 10 exact rfl);intro g_ fp fl;refine nz ?_;(all_goals skip);rotate_left)
          ·exact absurd (show x=0 from oD) ve.1
          ·have Hd:([x][Int.toNat 0]'Nat.one_pos)∉t.1:=JA.2.1
           have Z4:t.1.length≤100000:=by have:=hI.dist.len;omega
           have DW:t.2.1.length≤100000:=by have h9:t.2.1.length=t.1.length:=hI.even;omega
           refine AW.Ce [0,2,3,4,5,7,8,9,10,11,14,15,16,17,18] [23,26,27,29] rfl (by assumption) aI rfl ?_
           show a_ .held _ _ _ [_,_,_,_,_,_,_,_,_,_,_,_,_,_,_] _ _
           (refine Up ?_)
           intro k_ iE
           (try refine nz ?_)
           refine AR.free 1 aI rfl rfl rfl (by first|exact fS.fN rfl rfl|exact fS.iD rfl rfl|exact fS.nilCheck rfl rfl) ?_
           refine AR.free 6 aI rfl rfl rfl (by first|exact fS.fN rfl rfl|exact fS.iD rfl rfl|exact fS.nilCheck rfl rfl) ?_
           refine AR.sE (i:=12) (j:=19) rfl aI rfl rfl ?_ ?_<;>intro g_ b_ fU<;>(refine tE ?_;refine Q3 ?_)
           ·refine AR.sE (i:=13) (j:=19) rfl aI rfl rfl ?_ ?_<;>intro g_ b_ fU<;>(first|((with_reducible apply a_.fD);exact rfl;exact ah;(iterate 9 exact rfl);exact aa;refine jR ?_)|(refine tE ?_;refine Q3 ?_))
            ·refine AR.gL (i:=19) rfl aI rfl ?_
             intro g_ b_ fU
             (refine tE ?_;refine Q3 ?_)
             refine AR.gL (i:=20) rfl aI rfl ?_
             intro g_ b_ fU
             ((with_reducible apply a_.fD);exact rfl;exact ah;(iterate 9 exact rfl);exact aa;refine jR ?_)
             refine AR.gL (i:=21) rfl aI rfl ?_
             intro g_ b_ fU
             (refine vy ?_)
             refine AR.gL (i:=22) rfl aI rfl ?_
             intro g_ b_ fU
             (refine IX ?_)
             refine It ?_
             intro g_ b_ eT
             (refine tq ?_)
             refine AR.gL (i:=24) rfl aI rfl ?_
             intro g_ b_ fU
             (refine vy ?_)
             refine AR.gL (i:=25) rfl aI rfl ?_
             intro g_ b_ fU
             (refine IA ?_)
             refine Jf ?_
             intro g_ b_ eT
             (refine tq ?_)
             refine HT ?_
             intro g_ b_ eT
             (refine I9 ?_;refine jR ?_)
             refine AR.gL (i:=28) rfl aI rfl ?_
             intro g_ b_ fU
             (refine pd ?_)
             refine IQ ?_
             intro g_ b_ eT
             (refine H0 ?_)
             refine AR.done (by assumption) aI ?_
             (refine kF ?_;refine nz ?_;refine a_.nil ?_;refine ix ?_;(with_reducible apply pQ);exact⟨_,_,_,_,rfl⟩;refine nz ?_;refine St ?_)
             exact⟨((t.1++ [x],t.2.1++ [(k:Int)],-1),n+1,true),⟨Xz,fun h=>by cases h⟩,by have:=hI.fuel hv.1;show(vars+1 - ((n+1:Nat):Int)).toNat*2+1<(vars+1 - (n:Int)).toNat*2+1;omega,fe rfl (by(exact QI)) (by(exact ZO)) rfl⟩
            ·refine AR.gL (i:=13) rfl aI rfl ?_
             intro g_ b_ fU
             ((with_reducible apply a_.fD);exact rfl;exact ah;(iterate 9 exact rfl);exact aa;refine jR ?_)
             refine AR.gL (i:=20) rfl aI rfl ?_
             intro g_ b_ fU
             ((with_reducible apply a_.fD);exact rfl;exact ah;(iterate 9 exact rfl);exact aa;refine jR ?_)
             refine AR.gL (i:=21) rfl aI rfl ?_
             intro g_ b_ fU
             (refine vy ?_)
             refine AR.gL (i:=22) rfl aI rfl ?_
             intro g_ b_ fU
             (refine IX ?_)
             refine It ?_
             intro g_ b_ eT
             (refine tq ?_)
             refine AR.gL (i:=24) rfl aI rfl ?_
             intro g_ b_ fU
             (refine vy ?_)
             refine AR.gL (i:=25) rfl aI rfl ?_
             intro g_ b_ fU
             (refine IA ?_)
             refine Jf ?_
             intro g_ b_ eT
             (refine tq ?_)
             refine HT ?_
             intro g_ b_ eT
             (refine I9 ?_;refine jR ?_)
             refine AR.gL (i:=28) rfl aI rfl ?_
             intro g_ b_ fU
             (refine pd ?_)
             refine IQ ?_
             intro g_ b_ eT
             (refine H0 ?_)
             refine AR.done (by assumption) aI ?_
             (refine kF ?_;refine nz ?_;refine a_.nil ?_;refine ix ?_;(with_reducible apply pQ);exact⟨_,_,_,_,rfl⟩;refine nz ?_;refine St ?_)
             exact⟨((t.1++ [x],t.2.1++ [(k:Int)],-1),n+1,true),⟨Xz,fun h=>by cases h⟩,by have:=hI.fuel hv.1;show(vars+1 - ((n+1:Nat):Int)).toNat*2+1<(vars+1 - (n:Int)).toNat*2+1;omega,fe rfl (by(exact QI)) (by(exact ZO)) rfl⟩
           ·refine AR.gL (i:=12) rfl aI rfl ?_
            intro g_ b_ fU
            (refine tE ?_;refine Q3 ?_)
            refine AR.gL (i:=13) rfl aI rfl ?_
            intro g_ b_ fU
            ((with_reducible apply a_.fD);exact rfl;exact ah;(iterate 9 exact rfl);exact aa;refine jR ?_)
            refine AR.gL (i:=20) rfl aI rfl ?_
            intro g_ b_ fU
            ((with_reducible apply a_.fD);exact rfl;exact ah;(iterate 9 exact rfl);exact aa;refine jR ?_)
            refine AR.gL (i:=21) rfl aI rfl ?_
            intro g_ b_ fU
            (refine vy ?_)
            refine AR.gL (i:=22) rfl aI rfl ?_
            intro g_ b_ fU
            (refine IX ?_)
            refine It ?_
            intro g_ b_ eT
            (refine tq ?_)
            refine AR.gL (i:=24) rfl aI rfl ?_
            intro g_ b_ fU
            (refine vy ?_)
            refine AR.gL (i:=25) rfl aI rfl ?_
            intro g_ b_ fU
            (refine IA ?_)
            refine Jf ?_
            intro g_ b_ eT
            (refine tq ?_)
            refine HT ?_
            intro g_ b_ eT
            (refine I9 ?_;refine jR ?_)
            refine AR.gL (i:=28) rfl aI rfl ?_
            intro g_ b_ fU
            (refine pd ?_)
            refine IQ ?_
            intro g_ b_ eT
            (refine H0 ?_)
            refine AR.done (by assumption) aI ?_
            (refine kF ?_;refine nz ?_;refine a_.nil ?_;refine ix ?_;(with_reducible apply pQ);exact⟨_,_,_,_,rfl⟩;refine nz ?_;refine St ?_)
            exact⟨((t.1++ [x],t.2.1++ [(k:Int)],-1),n+1,true),⟨Xz,fun h=>by cases h⟩,by have:=hI.fuel hv.1;show(vars+1 - ((n+1:Nat):Int)).toNat*2+1<(vars+1 - (n:Int)).toNat*2+1;omega,fe rfl (by(exact QI)) (by(exact ZO)) rfl⟩
         ·have e0:(x::y::out).length=out.length+2:=rfl
          have Fz:l8 cl t=lj t (k+1:Nat) (cl.drop (k+1)):=i_
          clear i_
          (refine QA ?_;refine jD ?_;refine Jy ?_;refine sm ?_)
          exact⟨k+1,⟨by omega,Fz⟩,by omega,fe rfl (by(first|(refine aC ?_;refine⟨.jN _ _ _ rfl rfl,?_⟩;(iterate 11 refine aC ?_);exact trivial)|(refine aC ?_;(iterate 12 refine aC ?_);exact trivial)|(refine aC ?_;(iterate 6 refine aC ?_);exact trivial)|(refine aC ?_;(iterate 3 refine aC ?_);exact trivial)|(refine aC ?_;exact trivial))) (by(first|(refine⟨.set rfl,?_⟩;refine⟨.box _ rfl ?_,?_⟩;(iterate 6 refine aC ?_);exact trivial;refine⟨.box _ rfl ?_,?_⟩;refine aC ?_;exact trivial;(iterate 2 refine aF ?_);refine⟨.loop rfl,?_⟩;refine⟨.iW rfl,?_⟩;exact trivial)|(refine⟨.set rfl,?_⟩;refine⟨.box _ rfl ?_,?_⟩;(iterate 6 refine aC ?_);exact trivial;refine⟨.box _ rfl ?_,?_⟩;refine aC ?_;exact trivial;(iterate 2 refine aF ?_);refine⟨.loop rfl,?_⟩;refine aF ?_;exact trivial)|(refine⟨.set rfl,?_⟩;refine⟨.box _ rfl ?_,?_⟩;(iterate 6 refine aC ?_);exact trivial;refine⟨.box _ rfl ?_,?_⟩;refine aC ?_;exact trivial;(iterate 2 refine aF ?_);refine⟨.loop rfl,?_⟩;exact trivial)|(refine⟨.box _ rfl ?_,?_⟩;refine⟨.fbox rfl rfl (by repeat (first|exact Iu.nil|refine .cons (.any _) ?_|refine .cons (.pv _) ?_|refine .cons (.own rfl rfl) ?_|refine .cons (.nil _) ?_)),?_⟩;(iterate 2 exact trivial)))) rfl⟩
      ·rw[dE aJ] at i_
       have Fz:l8 cl t=(t,false):=i_
       (refine zq ?_;refine zs ?_;refine kW ?_;refine zk ?_;refine AW.exit ?_;(iterate 2 refine kB ?_);refine iC ?_;refine yM ?_)
       exact⟨(t,n,false),⟨hI,fun _=>Fz⟩,by show(vars+1 - (n:Int)).toNat*2+0<(vars+1 - (n:Int)).toNat*2+1;omega,fe rfl (by(first|(refine Pp ?_;exact E2)|(refine aC ?_;exact FJ)|(refine aC ?_;(iterate 6 refine aC ?_);exact trivial)|(refine aC ?_;exact Jo)|(exact vM))) (by(first|(refine OU ?_;refine⟨.iW rfl,?_⟩;exact trivial)|(refine OU ?_;exact Bq)|(refine OU ?_;exact trivial)|(refine⟨.box _ rfl ?_,?_⟩;refine⟨.fbox rfl rfl (by repeat (first|exact Iu.nil|refine .cons (.any _) ?_|refine .cons (.pv _) ?_|refine .cons (.own rfl rfl) ?_|refine .cons (.nil _) ?_)),?_⟩;(iterate 2 exact trivial)))) rfl⟩
end Go.Ab
/- Chapter 20:unitprop's answers:implied literals,reasons,implied clauses. -/
namespace Go.Ab
open Go Go.Proofs
set_option maxRecDepth 20000
set_option maxHeartbeats 4000000
attribute [local irreducible] AW a_ gr fz fH fv fM runM gH
theorem uV {vars:Int} {l:List Int} (hv:0≤vars∧vars≤100000) (h:e8 vars l=true):Sm l:=fun x hx=>by have:=fP h x hx;omega
structure Um (vars:Int) (cl:List (List Int)):Prop where
 hv:0≤vars∧vars≤100000
 iX:∀c∈cl,e8 vars c=true∧c.length≤100000
 h3:cl.length≤1000000
end Go.Ab
/- Chapter 20:unitprop's implied clauses. -/
namespace Go.Ab
open Go Go.Proofs
set_option maxRecDepth 20000
set_option maxHeartbeats 4000000
attribute [local irreducible] AW a_ gr fz fH fv fM runM gH
theorem yU {vars:Int} {l:List Int} (h:e8 vars l=true):e8 vars (l.map fun x=>0 - x)=true:=by
 unfold e8
 rw[bD]
 intro x hx
 obtain⟨y,hy,rfl⟩:=bx.1 hx
 have:=fP h y hy
 simp;omega
theorem Oq (l:List Int):(l.map fun x=> -x)=l.map fun x=>0 - x:=by simp
theorem Hn (vars:Int) (cl:List (List Int)) (c:List Int) (hf:Um vars cl) (RI:c.length≤100000) (hw:e8 vars c=true):
  Fn Tryz.prog 25 [KA vars cl,.pv (ints c)] (fq (ia vars cl c)):=by
 have hs:=uV hf.hv hw
 have QZ:=yU hw
 have jY:=Rl hs
 have IE:(c.map fun x=>0 - x).length≤100000:=by simpa using RI
 have Xl:=Jj _ jY
 have M4:gH (c.map fun x=>0 - x)=false→_:=fun hc=>M9 vars cl (c.map fun x=>0 - x) hf.iX hf.h3 hf.hv IE QZ hc
 refine Fn.enter (n:=31) Tryz.func25 rfl rfl rfl rfl rfl (by decide) fun g fp fl=>?_;(try refine nz ?_)
 (refine ny ?_;refine rz ?_;refine yf ?_;refine nq ?_)
 refine AW.jK 8 rfl fun hlen=>?_
 refine AW.loop (fun(k:Nat)=>{n:=31,env:=[(2,.ptr 0 0),(5,.own 1 3 1 (((c.take k).map fun x=>0 - x).map encI)),(8,.pv (ints c)),(9,eU c.length),(10,eU k)],gv:=[(0,some (.box [eU vars,.pv (j3 cl)])),(1,some .row)],nx:=2})
  (fun k=>k≤c.length) (fun k=>c.length - k) 0 ?_ ?_ ?_
 ·simp
 ·exact fe rfl (by(first|(refine aC ?_;refine⟨.jN _ _ _ rfl rfl,?_⟩;(iterate 3 refine aC ?_);exact trivial)|(refine aC ?_;refine⟨.freeze rfl,?_⟩;(iterate 2 refine aC ?_);exact trivial))) (by(first|(refine⟨.box _ rfl ?_,?_⟩;(iterate 2 refine aC ?_);exact trivial;refine⟨.iW rfl,?_⟩;exact trivial)|(refine⟨.box _ rfl ?_,?_⟩;(iterate 2 refine aC ?_);(iterate 2 exact trivial)))) rfl
 rintro k hk
 have FL:(c.take k).length≤100000:=by simp;omega
 by_cases fy:k<c.length
 ·have hx:=hs _ (cY fy)
  (refine Cj ?_;refine aA ?_;refine zr ?_;refine lK ?_;refine sg ?_;refine Lh ?_;refine tE ?_;(with_reducible apply a_.fD);exact rfl;exact ah;(iterate 9 exact rfl);exact aa;refine nz ?_;refine vG ?_;refine sm ?_)
  exact⟨k+1,by omega,by omega,fe rfl (by(refine aC ?_;refine⟨.ff (by first|with_reducible rfl|(rw[fI fy,cR,cR];show _=_++ [encI (0 - c[k])];rw[de];rfl)) rfl,?_⟩;refine⟨.iz (by first|with_reducible rfl|(rw[fI fy,cR,cR];show _=_++ [encI (0 - c[k])];rw[de];rfl)),?_⟩;refine⟨.gq (by first|with_reducible rfl|(rw[fI fy,cR,cR];show _=_++ [encI (0 - c[k])];rw[de];rfl)),?_⟩;refine aC ?_;exact trivial)) (by(refine⟨.box _ rfl ?_,?_⟩;refine⟨.gq (by first|with_reducible rfl|(rw[fI fy,cR,cR];show _=_++ [encI (0 - c[k])];rw[de];rfl)),?_⟩;refine⟨.iz (by first|with_reducible rfl|(rw[fI fy,cR,cR];show _=_++ [encI (0 - c[k])];rw[de];rfl)),?_⟩;exact trivial;refine aF ?_;exact trivial)) rfl⟩
 ·have j4:c.take k=c:=gP (by omega)
  rw[j4]
  cases hc:gH (c.map fun x=>0 - x) with
  |true=>
   rw[hc] at Xl
   (refine Cp ?_;refine BR ?_;refine a_.call (Xl) (.cons rfl (.own _ _ _ _ rfl) .nil) rfl rfl (fun h_=>by cases h_) ?_;refine zm ?_;(iterate 7 refine a_.gE rfl rfl rfl rfl rfl rfl rfl ?_);refine a_.jL rfl rfl rfl rfl rfl rfl ?_;refine ku ?_)
   ·(apply eY;(exact gm.one (.tmp rfl rfl));(refine Le.fq ?_;(rw[ia,if_pos hc])))
  |false=>
   have hr:=M4 hc
   rw[hc] at Xl
   refine AW.fe (δ':={n:=31,env:=[(2,.ptr 0 0),(5,.pv (ints (c.map fun x=>0 - x))),(9,eU c.length),(10,eU k)],gv:=[(0,some (.box [eU vars,.pv (j3 cl)]))],nx:=2}) (fe rfl (by(first|(refine Pp ?_;exact Jo)|(refine aC ?_;refine⟨.freeze rfl,?_⟩;exact Fq))) (by(first|(refine⟨.box _ rfl ?_,?_⟩;exact Fq;refine⟨.iW rfl,?_⟩;exact trivial)|(refine⟨.box _ rfl ?_,?_⟩;(iterate 2 refine aC ?_);(iterate 2 exact trivial)))) rfl) ?_
   (refine Cp ?_;refine j6 ?_;refine a_.call (Xl) (.cons rfl (.pv _) .nil) rfl rfl (fun h_=>by cases h_) ?_;refine zm ?_;refine zl ?_;refine mJ ?_;refine rA ?_;refine a_.Qk (hr) (.cons rfl (.lS (.cons (.pv _) (.cons (.pv _) .nil))) (.cons rfl (.pv _) .nil)) rfl ?_;refine zl ?_;refine a_.sU rfl rfl rfl ?_;refine zl ?_;refine a_.kQ 90 4 5 1 rfl rfl rfl rfl ?_;refine nz ?_;refine zl ?_;refine zr ?_;refine zl ?_;refine a_.geq rfl rfl rfl rfl rfl ?_;refine a_.kr rfl rfl rfl rfl rfl rfl ?_;refine ku ?_)
   (apply eY;(exact gm.one (.tmp rfl rfl));(refine Le.fq ?_;(rw[ia,if_neg (by rw[hc];simp)])))
end Go.Ab
/-
 DERIVED:THE SHELF's CONTRACTS AT THIS DUMP,IN PLAIN WORDS (tools/lay-plain.mjs out of 'TryzShelf.lean',which tools/lay-shelf.mjs wrote):THE SAME DECLARATIONS UNDER THE SAME NAMES: 'import', 'namespace', 'open', 'def', 'theorem' AND NOTHING ELSE:no command of the shelf's:FOR A HAND-IN. Each laying:the table of numbers ('.._ren') and one theorem,a field a fact of the dump's own or the kernel's comparison;each contract:ONE APPLICATION.
-/
namespace Go.Proofs
open Go.Shelf
def Tryz.Dw:Go.Shelf.Ren:=⟨fun|189=>84|125=>107|257=>106|128=>121|129=>122|294=>113|295=>114|296=>115|297=>116|298=>117|299=>118|216=>85|300=>119|301=>120|328=>123|329=>124|330=>125|331=>126|332=>127|215=>108|343=>128|n=>n,fun|28=>25|3=>3|46=>114|0=>0|51=>135|53=>137|4=>4|183=>129|182=>128|131=>85|5=>5|9=>9|218=>138|222=>142|228=>144|229=>145|n=>n,fun|n=>n⟩
theorem Tryz.GX:Go.Proofs.Lays.n189 Tryz.prog Tryz.Dw:={
 mixed:=by kernel_rfl
 f125:=Tryz.func107.trans (congrArg some (by kernel_rfl))
 f128:=Tryz.func121.trans (congrArg some (by kernel_rfl))
 f129:=Tryz.func122.trans (congrArg some (by kernel_rfl))
 f189:=Tryz.func84.trans (congrArg some (by kernel_rfl))
 f215:=Tryz.func108.trans (congrArg some (by kernel_rfl))
 f216:=Tryz.func85.trans (congrArg some (by kernel_rfl))
 f257:=Tryz.func106.trans (congrArg some (by kernel_rfl))
 f294:=Tryz.func113.trans (congrArg some (by kernel_rfl))
 f295:=Tryz.func114.trans (congrArg some (by kernel_rfl))
 f296:=Tryz.func115.trans (congrArg some (by kernel_rfl))
 f297:=Tryz.func116.trans (congrArg some (by kernel_rfl))
 f298:=Tryz.func117.trans (congrArg some (by kernel_rfl))
 f299:=Tryz.func118.trans (congrArg some (by kernel_rfl))
 f300:=Tryz.func119.trans (congrArg some (by kernel_rfl))
 f301:=Tryz.func120.trans (congrArg some (by kernel_rfl))
 f328:=Tryz.func123.trans (congrArg some (by kernel_rfl))
 f329:=Tryz.func124.trans (congrArg some (by kernel_rfl))
 f330:=Tryz.func125.trans (congrArg some (by kernel_rfl))
 f331:=Tryz.func126.trans (congrArg some (by kernel_rfl))
 f332:=Tryz.func127.trans (congrArg some (by kernel_rfl))
 f343:=Tryz.func128.trans (congrArg some (by kernel_rfl))
 t0:=Tryz.underlying0
 a0:=Tryz.isAgg0
 z0:=Tryz.sizeOf0
 v0:=Tryz.zeroValue0
 t3:=Tryz.underlying3
 a3:=Tryz.isAgg3
 z3:=Tryz.sizeOf3
 v3:=Tryz.zeroValue3
 t4:=Tryz.underlying4
 a4:=Tryz.isAgg4
 z4:=Tryz.sizeOf4
 v4:=Tryz.zeroValue4
 t5:=Tryz.underlying5
 a5:=Tryz.isAgg5
 z5:=Tryz.sizeOf5
 v5:=Tryz.zeroValue5
 t9:=Tryz.underlying9
 a9:=Tryz.isAgg9
 z9:=Tryz.sizeOf9
 v9:=Tryz.zeroValue9
 t28:=Tryz.underlying25
 a28:=Tryz.isAgg25
 z28:=Tryz.sizeOf25
 v28:=Tryz.zeroValue25
 t46:=Tryz.underlying114
 a46:=Tryz.isAgg114
 z46:=Tryz.sizeOf114
 v46:=Tryz.zeroValue114
 t51:=Tryz.underlying135
 a51:=Tryz.isAgg135
 z51:=Tryz.sizeOf135
 v51:=Tryz.zeroValue135
 t53:=Tryz.underlying137
 a53:=Tryz.isAgg137
 z53:=Tryz.sizeOf137
 v53:=Tryz.zeroValue137
 t131:=Tryz.underlying85
 a131:=Tryz.isAgg85
 z131:=Tryz.sizeOf85
 v131:=Tryz.zeroValue85
 t182:=Tryz.underlying128
 a182:=Tryz.isAgg128
 z182:=Tryz.sizeOf128
 v182:=Tryz.zeroValue128
 t183:=Tryz.underlying129
 a183:=Tryz.isAgg129
 z183:=Tryz.sizeOf129
 v183:=Tryz.zeroValue129
 t218:=Tryz.underlying138
 a218:=Tryz.isAgg138
 z218:=Tryz.sizeOf138
 v218:=Tryz.zeroValue138
 t222:=Tryz.underlying142
 a222:=Tryz.isAgg142
 z222:=Tryz.sizeOf142
 v222:=Tryz.zeroValue142
 t228:=Tryz.underlying144
 a228:=Tryz.isAgg144
 z228:=Tryz.sizeOf144
 v228:=Tryz.zeroValue144
 t229:=Tryz.underlying145
 a229:=Tryz.isAgg145
 z229:=Tryz.sizeOf145
 v229:=Tryz.zeroValue145}
open Go.Sort Go.RowKit in
theorem Tryz.slices_Sort_int (x8 off cap:Nat) (zs:List Int) (w:World) (hH:Holds (Value.int .i64) w x8 off zs.toArray) (pg:x8<w.heap.size) (nQ:zs.length<4611686018427387904):
  Calls Tryz.prog 84 #[.slice (some ⟨x8,off,none⟩) zs.length cap] w fun e w'=>
   e=.returned (.tuple #[])∧∃n os,w'=grow (putRow (Value.int .i64) (Sort.ahead w n) x8 off (zs.mergeSort fun x y=>decide (x≤y)).toArray) os:=Any.slices_Sort_int Tryz.GX x8 off cap zs w hH pg nQ
def Tryz.zw:Go.Shelf.Ren:=⟨fun|20=>111|n=>n,fun|22=>25|3=>3|4=>4|0=>0|n=>n,fun|n=>n⟩
theorem Tryz.Af:Go.Proofs.Lays2.n20 Tryz.prog Tryz.zw:={
 mixed:=by kernel_rfl
 f20:=Tryz.func111.trans (congrArg some (by kernel_rfl))
 t0:=Tryz.underlying0
 a0:=Tryz.isAgg0
 z0:=Tryz.sizeOf0
 v0:=Tryz.zeroValue0
 t3:=Tryz.underlying3
 a3:=Tryz.isAgg3
 z3:=Tryz.sizeOf3
 v3:=Tryz.zeroValue3
 t4:=Tryz.underlying4
 a4:=Tryz.isAgg4
 z4:=Tryz.sizeOf4
 v4:=Tryz.zeroValue4
 t22:=Tryz.underlying25
 a22:=Tryz.isAgg25
 z22:=Tryz.sizeOf25
 v22:=Tryz.zeroValue25
 i3:=by kernel_rfl}
open Go.RowKit Go.Lib Go.Sort in
theorem Tryz.slices_Compact_int (x8 off cap:Nat) (zs:List Int) (w:World) (hH:Holds (Value.int .i64) w x8 off zs.toArray) (nQ:zs.length≤9223372036854775807) (oX:zs.length≤cap):
  Calls Tryz.prog 111 #[.slice (some ⟨x8,off,none⟩) zs.length cap] w fun e w'=>e=.returned (.slice (some ⟨x8,off,none⟩) (Lib.compact zs).length cap)∧∃q,w'=putRow (Value.int .i64) (Sort.ahead w q) x8 off (Lib.compact zs++bZ (zs.length - (Lib.compact zs).length) 0).toArray:=Any.slices_Compact_int Tryz.Af x8 off cap zs w hH nQ oX
open Go.RowKit Go.Lib Go.Sort in
theorem Tryz.slices_Compact_int_empty (a:Option Addr) (cap:Nat) (w:World):
  Calls Tryz.prog 111 #[.slice a 0 cap] w fun e w'=>e=.returned (.slice a 0 cap)∧w'=w:=Any.slices_Compact_int_empty Tryz.Af a cap w
def Tryz.zz:Go.Shelf.Ren:=⟨fun|25=>47|31=>85|32=>86|37=>108|n=>n,fun|22=>25|3=>3|4=>4|40=>114|0=>0|n=>n,fun|n=>n⟩
theorem Tryz.A2:Go.Proofs.Lays2.n25 Tryz.prog Tryz.zz:={
 mixed:=by kernel_rfl
 f25:=Tryz.func47.trans (congrArg some (by kernel_rfl))
 f31:=Tryz.func85.trans (congrArg some (by kernel_rfl))
 f32:=Tryz.func86.trans (congrArg some (by kernel_rfl))
 f37:=Tryz.func108.trans (congrArg some (by kernel_rfl))
 t0:=Tryz.underlying0
 a0:=Tryz.isAgg0
 z0:=Tryz.sizeOf0
 v0:=Tryz.zeroValue0
 t3:=Tryz.underlying3
 a3:=Tryz.isAgg3
 z3:=Tryz.sizeOf3
 v3:=Tryz.zeroValue3
 t4:=Tryz.underlying4
 a4:=Tryz.isAgg4
 z4:=Tryz.sizeOf4
 v4:=Tryz.zeroValue4
 t22:=Tryz.underlying25
 a22:=Tryz.isAgg25
 z22:=Tryz.sizeOf25
 v22:=Tryz.zeroValue25
 t40:=Tryz.underlying114
 a40:=Tryz.isAgg114
 z40:=Tryz.sizeOf114
 v40:=Tryz.zeroValue114}
open Go.RowKit Go.Lib in
theorem Tryz.slices_BinarySearch_int (b off n c:Nat) (zs:List Int) (x:Int) (w:World) (hz:n≤zs.length) (LC:n<4611686018427387904) (hc:∀j,j<zs.length→w.cell? ⟨b,off+j,none⟩=some (.int .i64 (zs.getD j 0))) (hs:(zs.take n).Pairwise (·≤·)):
  Calls Tryz.prog 47 #[.slice (some ⟨b,off,none⟩) n c,.int .i64 x] w fun e w'=>e=.returned (.tuple #[.int .i64 ((zs.take n).countP (·<x):Nat),.bool ((zs.take n).contains x)])∧∃q,w'=w.drewN q:=Any.slices_BinarySearch_int Tryz.A2 b off n c zs x w hz LC hc hs
open Go.RowKit Go.Sort in
theorem Tryz.slices_Sort_int_none (p:Option Addr) (cap:Nat) (w:World):
  Calls Tryz.prog 84 #[.slice p 0 cap] w fun e w'=>e=.returned (.tuple #[])∧w'=w:=Any.slices_Sort_int_none Tryz.GX p cap w
open Go.RowKit Go.Lib in
theorem Tryz.slices_BinarySearch_int_empty (a:Option Addr) (c:Nat) (x:Int) (w:World):
  Calls Tryz.prog 47 #[.slice a 0 c,.int .i64 x] w fun e w'=>e=.returned (.tuple #[.int .i64 0,.bool false])∧w'=w:=Any.slices_BinarySearch_int_empty Tryz.A2 a c x w
end Go.Proofs
/- Go's slices.Sort and slices.Compact at numbers,as callees that rewrite a row. -/
namespace Go.Ab
open Go Go.Proofs Go.RowKit
def kf (zs:List Int):List Int:=zs.mergeSort fun x y=>decide (x≤y)
def kG (zs:List Int):List Int:=Go.Lib.compact zs
def pA (zs:List Int):List Int:=kG zs++bZ (zs.length - (kG zs).length) 0
theorem xU (zs:List Int):(kG zs).length≤zs.length:=by
 unfold kG Go.Lib.compact Go.Lib.compactUpTo
 rw[a6]
 exact aQ (List.length_filter_le _ _) (by simp)
theorem AE:NK Tryz.prog 84 kf none where
 enters:=enters_of Tryz.func84 rfl (by decide)
 len:=fun zs=>by simp [kf]
 retle:=fun r h=>by cases h
 calls:=fun b cap zs w hH hb hl _=>Tryz.slices_Sort_int b 0 cap zs w hH hb (by omega)
 nil:=fun w=>(Tryz.slices_Sort_int_none none 0 w).mono fun e w' ⟨h1,h2⟩=>⟨h1,h2▸Below.refl _ _⟩
theorem Bp:NK Tryz.prog 111 pA (some fun zs=>(kG zs).length) where
 enters:=enters_of Tryz.func111 rfl (by decide)
 len:=fun zs=>by have:=xU zs;simp [pA];omega
 retle:=fun r h zs=>by cases h;exact xU zs
 calls:=fun b cap zs w hH hb hl hc=>(Tryz.slices_Compact_int b 0 cap zs w hH aJ hc).mono fun e w' ⟨h1,q,h2⟩=>⟨h1,q, #[],by rw[h2];simp [Sort.grow];rfl⟩
 nil:=fun w=>(Tryz.slices_Compact_int_empty none 0 w).mono fun e w' ⟨h1,h2⟩=>⟨h1,h2▸Below.refl _ _⟩
end Go.Ab
/- Lists of numbers put in order,each number once. -/
namespace Go.Ab
open Go Go.Proofs
abbrev Gu (l:List Int):Prop:=l.Pairwise (·<·)
theorem Bd:∀{a b:List Int},Gu a→Gu b→(∀x,x∈a↔x∈b)→a=b
 |[],[],_,_,_=>rfl
 |[],y::b,_,_,h=>by have:=(h y).2 (by simp);simp at this
 |x::a,[],_,_,h=>by have:=(h x).1 (by simp);simp at this
 |x::a,y::b,ha,hb,h=>by
  have Lo:=dF.1 ha
  have jn:=dF.1 hb
  have hxy:x=y:=by
   have h1:=(h x).1 (by simp)
   have h2:=(h y).2 (by simp)
   rcases bw.1 h1 with e|h1
   ·exact e
   ·rcases bw.1 h2 with e|h2
    ·exact e.symm
    ·have:=jn.1 x h1
     have:=Lo.1 y h2
     omega
  subst hxy
  rw[Bd Lo.2 jn.2 fun z=>?_]
  constructor
  ·intro hz
   have h1:=Lo.1 z hz
   rcases bw.1 ((h z).1 (by simp [hz])) with e|h2
   ·omega
   ·exact h2
  ·intro hz
   have h1:=jn.1 z hz
   rcases bw.1 ((h z).2 (by simp [hz])) with e|h2
   ·omega
   ·exact h2
theorem mC {zs:List Int} {j:Nat} (hj:j<zs.length):zs.toArray[j]! =zs[j]:=by simp [hj]
theorem Mu {zs:List Int} {x:Int}:x∈kG zs↔∃j,∃h:j<zs.length,zs[j]=x∧(j=0∨∃h':j - 1<zs.length,zs[j]≠zs[j - 1]):=by
 unfold kG Go.Lib.compact Go.Lib.compactUpTo
 simp only[bx,db,dG,Go.Lib.keeps,decide_eq_true_eq]
 constructor
 ·rintro⟨j,⟨hj,hk⟩,rfl⟩
  refine⟨j,hj,(mC hj).symm,?_⟩
  rcases hk with hk|hk
  ·exact .inl hk
  ·by_cases h0:j=0
   ·exact .inl h0
   ·right
    refine⟨by omega,?_⟩
    rwa [mC hj,mC aJ] at hk
 ·rintro⟨j,hj,rfl,hk⟩
  refine⟨j,⟨hj,?_⟩,mC hj⟩
  rcases hk with hk|⟨h',hk⟩
  ·exact .inl hk
  ·right
   rwa [mC hj,mC h']
theorem JW {zs:List Int} {x:Int}:x∈kG zs↔x∈zs:=by
 rw[Mu]
 constructor
 ·rintro⟨j,hj,rfl,_⟩;exact cY hj
 ·intro hx
  obtain⟨j,hj,rfl⟩:=List.getElem_of_mem hx
  induction j with
  |zero=>exact⟨0,hj,rfl,.inl rfl⟩
  |succ j ih=>
   by_cases e:zs[j+1]=zs[j]
   ·obtain⟨i,hi,h1,h2⟩:=ih aJ (cY _)
    exact⟨i,hi,h1.trans e.symm,h2⟩
   ·exact⟨j+1,hj,rfl,.inr ⟨by omega,e⟩⟩
theorem KK {zs:List Int} (h:zs.Pairwise (·≤·)):Gu (kG zs):=by
 unfold kG Go.Lib.compact Go.Lib.compactUpTo Gu
 rw[List.pairwise_map]
 have h1:((List.range zs.length).filter (Go.Lib.keeps zs.toArray)).Pairwise (·<·):=List.Pairwise.filter _ List.pairwise_lt_range
 refine List.Pairwise.imp_of_mem (fun {i j} hi hj v7=>?_) h1
 simp only[db,dG,Go.Lib.keeps,decide_eq_true_eq] at hi hj
 obtain⟨Pu,_⟩:=hi
 obtain⟨Ny,qN⟩:=hj
 rw[mC Pu,mC Ny]
 rw[List.pairwise_iff_getElem] at h
 rcases qN with h0|h0
 ·omega
 ·have JK:j - 1<zs.length:=by omega
  have h2:zs[j - 1]≤zs[j]:=h (j - 1) j JK Ny (by omega)
  rw[mC Ny,mC JK] at h0
  by_cases e:i=j - 1
  ·subst e;omega
  ·have h3:zs[i]≤zs[j - 1]:=h i (j - 1) Pu JK (by omega)
   omega
theorem D7 {zs:List Int} {x:Int}:x∈kf zs↔x∈zs:=(List.mergeSort_perm zs _).mem_iff
theorem GG (zs:List Int):(kf zs).Pairwise (·≤·):=by
 have:=List.pairwise_mergeSort (le:=fun x y:Int=>decide (x≤y)) (fun a b c h1 h2=>by simp only[decide_eq_true_eq] at*;omega) (fun a b=>by simp only[Bool.or_eq_true,decide_eq_true_eq];omega) zs
 exact this.imp fun h=>by simpa using h
def canon (zs:List Int):List Int:=kG (kf zs)
theorem HG (zs:List Int):kG (kf zs)=canon zs:=rfl
theorem rV (zs:List Int):Gu (canon zs):=KK (GG zs)
theorem ki {zs:List Int} {x:Int}:x∈canon zs↔x∈zs:=by unfold canon;rw[JW,D7]
theorem HQ (zs:List Int):(canon zs).length≤zs.length:=by
 have h1:=xU (kf zs)
 have h2:(kf zs).length=zs.length:=by simp [kf]
 unfold canon;omega
theorem De {a b:List Int} (h:∀x,x∈a↔x∈b):canon a=canon b:=Bd (rV a) (rV b) fun x=>by rw[ki,ki,h]
theorem ES (zs:List Int):(pA zs).take (kG zs).length=kG zs:=by unfold pA;rw[List.take_append_of_le_length (aP _),List.take_length]
end Go.Ab
/- Chapter 23:the checker's clauses:put in order,compared,within the variables,their images. -/
namespace Go.Ab
open Go Go.Proofs
open Nat (reduceAdd reduceSub)
set_option maxRecDepth 20000
set_option maxHeartbeats 4000000
theorem Jc {α:Type} {a b:List α} {k:Nat} (hl:a.length=b.length) (h:a.take k=b.take k) (hk:¬k<a.length):a=b:=by
 rwa [cJ aJ,cJ aJ] at h
theorem ND {α:Type} {a b:List α} {k:Nat} (h:a.take k=b.take k) (ha:k<a.length) (hb:k<b.length) (e:a[k]=b[k]):a.take (k+1)=b.take (k+1):=by
 rw[fI ha,fI hb,h,e]
attribute [local irreducible] AW a_ gr fz AR fH fv fM gk canon kf kG pA
theorem vL (a b:List Int):Fn Tryz.prog 99 [.pv (ints a),.pv (ints b)] (fq (decide (a=b))):=by
 refine Fn.enter (n:=26) Tryz.func99 rfl rfl rfl rfl rfl (by decide) fun g fp fl=>?_;(try refine nz ?_)
 refine AW.jK 0 rfl fun hlen=>?_
 by_cases sS:a.length=b.length
 ·(refine Sg ?_;refine qx ?_;refine j6 ?_;refine nq ?_)
  refine AW.loop (fun(k:Nat)=>{n:=26,env:=[(0,.pv (ints a)),(1,.pv (ints b)),(12,eU a.length),(13,eU k)],gv:=[],nx:=0}) (fun k=>k≤a.length∧a.take k=b.take k) (fun k=>a.length - k) 0 ?_ ?_ ?_
  ·simp
  ·exact SE
  rintro k ⟨hk,jI⟩
  by_cases fy:k<a.length
  ·have Gr:k<b.length:=by omega
   (refine mn ?_;refine kc ?_;refine AW.gb rfl rfl aI (by with_reducible assumption) ?_;(iterate 2 refine zm ?_);refine aA ?_;refine zr ?_;(iterate 2 refine zm ?_);refine aA ?_;refine zr ?_;refine a_.neq rfl rfl rfl rfl rfl ?_;refine zd ?_;(focus ((with_reducible apply AW.sW);exact rfl;exact rfl;all_goals intro oD));refine iK ?_;refine qR ?_;(all_goals skip);rotate_left;refine AW.skip ?_;refine uH ?_;refine sm ?_;(all_goals skip);rotate_left)
   ·have gn:¬a=b:=by rintro rfl;exact oD rfl
    (apply eY;(exact gm.one (.tmp rfl rfl));(refine Le.fq ?_;(rw[eq_comm,decide_eq_false_iff_not];exact gn)))
   ·exact⟨k+1,⟨by omega,ND jI fy Gr (Decidable.not_not.1 oD)⟩,by omega,fe rfl (by(refine aC ?_;(iterate 3 refine aC ?_);exact trivial)) (by(exact trivial)) rfl⟩
  ·have he:a=b:=Jc sS jI fy
   (refine zD ?_)
   (apply eY;(exact gm.one (.tmp rfl rfl));(refine Le.fq ?_;(rw[eq_comm,decide_eq_true_iff];exact he)))
 ·have gn:¬a=b:=by rintro rfl;exact sS rfl
  (refine Sg ?_;refine jD ?_;refine iK ?_;refine qP ?_)
  (apply eY;(exact gm.one (.tmp rfl rfl));(refine Le.fq ?_;(rw[eq_comm,decide_eq_false_iff_not];exact gn)))
theorem Pv (l:List Int):l.map encI=l.map nI:=rfl
theorem H8 (l:List Int) (hl:l.length≤1000000):MY Tryz.prog 66 [.pv (ints l)] 3 1 (l.map nI):=by
 rw[← Pv]
 refine MY.enter (n:=8) Tryz.func66 rfl rfl rfl rfl rfl (by decide) fun g fp fl=>?_;(try refine nz ?_)
 by_cases h0:l=[]
 ·subst h0
  have e0:([]:List Int).length=0:=rfl
  (refine rK ?_;(focus ((with_reducible apply a_.tv);(iterate 6 exact rfl);all_goals intro oD));refine oz ?_;refine qP ?_;(all_goals skip);rotate_left;refine HD ?_;refine zm ?_;(with_reducible apply a_.fD);exact rfl;exact ah;(iterate 9 exact rfl);exact aa;refine nz ?_;refine xV ?_;(all_goals skip);rotate_left)
  all_goals ((first|(refine jo (gm.one (.tmp rfl rfl)) ?_)|(refine jo (gm.one (.cell1 rfl rfl rfl rfl)) ?_)|(refine nX (gm.one (.tmp rfl rfl)) ?_));(first|rfl|simp))
 ·have e0:0<l.length:=List.length_pos_iff.2 h0
  have e1:¬l.map encI=[]:=by simpa using h0
  clear h0
  (refine rK ?_;(focus ((with_reducible apply a_.tv);(iterate 6 exact rfl);all_goals intro oD));refine oz ?_;refine qP ?_;(all_goals skip);rotate_left;refine HD ?_;refine zm ?_;(with_reducible apply a_.fD);exact rfl;exact ah;(iterate 9 exact rfl);exact aa;refine nz ?_;refine xV ?_;(all_goals skip);rotate_left)
  ·exact absurd oD e1
  ·((first|(refine jo (gm.one (.tmp rfl rfl)) ?_)|(refine jo (gm.one (.cell1 rfl rfl rfl rfl)) ?_)|(refine nX (gm.one (.tmp rfl rfl)) ?_));(first|rfl|simp))
theorem nW (l:List Int) (hl:l.length≤1000000):Fn Tryz.prog 96 [.pv (ints l)] (.pv (ints (canon l))):=by
 have hc:=H8 l hl
 refine Fn.enter (n:=10) Tryz.func96 rfl rfl rfl rfl rfl (by decide) fun g fp fl=>?_;(try refine nz ?_)
 (refine u6 ?_;refine zm ?_;(with_reducible apply a_.PG (hc));exact aj;exact rfl;refine nz ?_;refine B8 ?_;refine BR ?_;(try refine nz ?_);refine a_.KL (AE) [6,3,5] rfl ⟨rfl,rfl,rfl,trivial⟩ rfl rfl rfl ?_;refine Ol ?_;refine ko ?_;refine a_.fX rfl rfl rfl ?_;(try refine nz ?_);refine a_.KL (Bp) [8,6,3,5] rfl ⟨rfl,rfl,rfl,rfl,trivial⟩ rfl rfl rfl ?_;refine Ol ?_;refine xV ?_)
 (apply eY;(exact gm.one (.tmp rfl rfl));(refine Le.ff ?_;(first|rfl|(rw[ES,HG];rfl))))
theorem MB (a b:List Int) (ha:a.length≤1000000) (hb:b.length≤1000000):Fn Tryz.prog 104 [.pv (ints a),.pv (ints b)] (fq (decide (canon a=canon b))):=by
 have h1:=nW a ha
 have h2:=nW b hb
 have h3:=vL (canon a) (canon b)
 refine Fn.enter (n:=10) Tryz.func104 rfl rfl rfl rfl rfl (by decide) fun g fp fl=>?_;(try refine nz ?_)
 (refine u6 ?_;refine zm ?_;refine zP (h1) ?_;refine zm ?_;refine zP (h2) ?_;refine zA (h3) ?_;refine ku ?_)
 (apply eY;(exact gm.one (.tmp rfl rfl));(refine Le.fq ?_;(rfl)))
theorem vY {vars:Int} {l:List Int} {k:Nat} (hk:k<l.length):e8 vars (l.take (k+1))=(e8 vars (l.take k) && decide (l[k]≠0∧l[k]≤vars∧0 - vars≤l[k])):=by
 unfold e8
 rw[fI hk,List.all_append]
 simp
theorem pZ (vars:Int) (l:List Int) (hv: -1000000≤vars∧vars≤1000000):Fn Tryz.prog 94 [eU vars,.pv (ints l)] (fq (e8 vars l)):=by
 refine Fn.enter (n:=9) Tryz.func94 rfl rfl rfl rfl rfl (by decide) fun g fp fl=>?_;(try refine nz ?_)
 refine AW.jK 1 rfl fun hlen=>?_
 (refine ny ?_;refine rz ?_;refine zm ?_;refine a_.jB rfl rfl rfl ?_;(with_reducible apply a_.inline (hf:=Tryz.func39));(with_reducible assumption);(iterate 10 exact rfl);intro g_ fp fl;refine qL ?_;refine IV ?_;(with_reducible apply a_.inline (hf:=Tryz.func78));(with_reducible assumption);(iterate 10 exact rfl);intro g_ fp fl;refine nz ?_;refine rK ?_;refine nq ?_)
 (refine nz ?_;apply AW.gJ [7,0,1,1006,1005,1004,1000,1001,2006,2005,2004,2002,2001] [0] (fun k:Nat=>([(8,eU k)]:List (Nat×AV))) (fun k:Nat=>([]:List (Nat×Option Ob))) (fun k:Nat=>k≤l.length∧e8 vars (l.take k)=true) (fun k:Nat=>l.length - k) (0);(conv=>lhs;simp only[Nf.ot,Nf.all,df,reduceAdd,reduceSub]);(all_goals skip))
 ·exact⟨bm _,rfl⟩
 ·exact fe rfl (by(refine aC ?_;(iterate 13 refine aC ?_);exact trivial)) (by(refine⟨.box _ rfl ?_,?_⟩;refine aC ?_;(iterate 2 exact trivial))) rfl
 rintro k ⟨hk,jI⟩
 by_cases fy:k<l.length
 ·have hs:=vY (vars:=vars) fy
  rw[jI,Bool.true_and] at hs
  by_cases hb:l[k]≠0∧l[k]≤vars∧0 - vars≤l[k]
  ·obtain⟨b1,b2,b3⟩:=hb
   rw[decide_eq_true ⟨b1,b2,b3⟩] at hs
   have b4:¬l[k]< -vars:=by omega
   have b5:¬vars<l[k]:=by omega
   (refine yX ?_;refine aA ?_;refine zr ?_;(with_reducible apply a_.inline (hf:=Tryz.func110));(with_reducible assumption);(iterate 10 exact rfl);intro g_ fp fl;refine qL ?_;refine Rt ?_;refine ui ?_;refine EM ?_;refine tP ?_)
   exact⟨k+1,⟨by omega,hs⟩,by omega,fe rfl (by(refine aC ?_;(iterate 13 refine aC ?_);exact trivial)) (by(refine⟨.box _ rfl ?_,?_⟩;refine aC ?_;(iterate 2 exact trivial))) rfl⟩
  ·have hf:=yb fy hb
   rw[hf]
   by_cases b1:l[k]=0
   ·(refine yX ?_;refine aA ?_;refine zr ?_;(with_reducible apply a_.inline (hf:=Tryz.func110));(with_reducible assumption);(iterate 10 exact rfl);intro g_ fp fl;refine qL ?_;refine qI ?_;refine zm ?_;refine O8 ?_;refine Na ?_;refine a_.jL rfl rfl rfl rfl rfl rfl ?_;refine ku ?_;refine Jg ?_;refine ku ?_)
    all_goals (apply eY;(exact gm.one (.tmp rfl rfl));(refine Le.fq ?_;(first|rfl)))
   ·by_cases b2:vars<l[k]
    ·(refine yX ?_;refine aA ?_;refine zr ?_;(with_reducible apply a_.inline (hf:=Tryz.func110));(with_reducible assumption);(iterate 10 exact rfl);intro g_ fp fl;refine qL ?_;refine qI ?_;refine xB ?_;refine zb ?_;refine vi ?_;refine zm ?_;refine OE ?_;refine ku ?_;refine Jg ?_;refine ku ?_)
     all_goals (apply eY;(exact gm.one (.tmp rfl rfl));(refine Le.fq ?_;(first|rfl)))
    ·have b3:l[k]< -vars:=by omega
     (refine yX ?_;refine aA ?_;refine zr ?_;(with_reducible apply a_.inline (hf:=Tryz.func110));(with_reducible assumption);(iterate 10 exact rfl);intro g_ fp fl;refine qL ?_;refine Rt ?_;refine ui ?_;refine jD ?_;refine qE ?_;refine qR ?_;refine IT ?_;refine ku ?_)
     all_goals (apply eY;(exact gm.one (.tmp rfl rfl));(refine Le.fq ?_;(first|rfl)))
 ·rw[gP (l:=l) aJ] at jI
  rw[jI]
  (refine zD ?_;refine IT ?_;refine ku ?_)
  (apply eY;(exact gm.one (.tmp rfl rfl));(refine Le.fq ?_;(first|rfl)))
end Go.Ab
/- Chapter 23:Go's slices.Delete of one clause. -/
namespace Go.Ab
open Go Go.Proofs Go.RowKit Go.Lib Go.Sort
set_option maxRecDepth 1000000
set_option maxHeartbeats 4000000
abbrev vv (u:Value):Value:=u
theorem I1 (b off cap i:Nat) (us:List Value) (w:World) (hH0:Holds (fun u:Value=>u) w b off us.toArray) (h1:∀u∈us,u.oneCell'=true) (oX:us.length≤cap) (hm:cap≤maxLen) (hi:i<us.length):
  Calls Tryz.prog 100 #[.slice (some ⟨b,off,none⟩) us.length cap,.int .i64 i,.int .i64 (i+1)] w fun e w'=>e=.returned (.slice (some ⟨b,off,none⟩) (us.length - 1) cap)∧
   ∃n,w'=putRow (fun u:Value=>u) (Sort.ahead w n) b off (us.take i++us.drop (i+1)++ [Value.slice none 0 0]).toArray:=by
 have hm':cap≤9223372036854775807:=aQ hm (by unfold maxLen;decide)
 obtain⟨d,hd⟩:∃d:Array Value,d=us.toArray:=⟨_,rfl⟩
 have W0:us.length=d.size:=by rw[hd];simp
 have C9:d.toList=us:=by rw[hd]
 have hH:Holds vv w b off d:=by rw[hd];exact hH0
 rw[W0] at oX hi ⊢
 rw[← C9] at h1 ⊢
 clear hH0 W0 C9 hd
 obtain⟨j,hj⟩:∃j,j=i+1:=⟨_,rfl⟩
 have v7:i≤j:=by omega
 have hjd:j≤d.size:=by omega
 have gn:¬(i:Int)=(j:Int):=by omega
 rw[show((i:Int)+1)=(j:Int) by omega,← hj,show d.size - 1=d.size - (j - i) by omega]
 have hz:(Tryz.prog.info? 25).map (fun i=>(i.size,i.zero))=some (1,some (.slice none 0 0)):=rfl
 obtain⟨i0,jM,Bu,oH⟩:∃i0,Tryz.prog.info? 25=some i0∧i0.size=1∧i0.zero=some (.slice none 0 0):=by
  cases h:Tryz.prog.info? 25 with
  |none=>rw[h] at hz;simp at hz
  |some i0=>rw[h] at hz;simp at hz;exact⟨i0,rfl,hz.1,hz.2⟩
 obtain⟨news,CH⟩:∃news,news=(d.toList.drop j).map vv:=⟨_,rfl⟩
 have hlen:news.length=d.size - j:=by rw[CH];simp
 have Iz:∀t,t<d.size - j→news[t]? =some (vv d[j+t]!):=by
  intro t ht
  rw[CH,List.getElem?_map,List.getElem?_drop,Array.getElem?_toList,getElem!_pos d (j+t) aJ,Array.getElem?_eq_getElem aJ]
  rfl
 obtain⟨A,hA,RS⟩:∃A:Addr,(if cap=j then some (⟨b,off,none⟩:Addr) else some ⟨b,off+j,none⟩)=some A∧Hid (∀t u,news[t]? =some u→w.drew.cell? (A.add t)=some u):=by
  by_cases h:cap=j
  ·refine⟨⟨b,off,none⟩,by simp [h],fun t u hu=>?_⟩
   have h0:news.length=0:=by rw[hlen];omega
   rw[List.length_eq_zero_iff.1 h0] at hu
   simp at hu
  ·refine⟨⟨b,off+j,none⟩,by simp [h],fun t u hu=>?_⟩
   have ht:t<d.size - j:=by
    have:=(List.getElem?_eq_some_iff.1 hu).1
    rwa [hlen] at this
   rw[Iz t ht] at hu
   rw[Addr.add_lit,show off+j+t=off+(j+t) by omega]
   exact(hH (j+t) aJ).1.trans hu
 have s1:Hid (news.length=(d.size - j)*1):=by rw[cK];exact hlen
 have s2:Hid (∀u∈news,u.oneCell'=true):=by
  intro u hu
  rw[CH] at hu
  obtain⟨x,hx,rfl⟩:=bx.1 hu
  exact h1 x (List.mem_of_mem_drop hx)
 have s3:Hid (∀t,t<news.length→(w.drew.cell? ⟨b,off+i*1+t,none⟩).isSome=true∧w.drew.frozen? ⟨b,off+i*1+t,none⟩=false):=by
  intro t ht
  rw[hlen] at ht
  rw[cK,Nat.add_assoc]
  exact⟨by show(w.cell? _).isSome=true;rw[(hH (i+t) aJ).1];rfl,(hH (i+t) aJ).2⟩
 obtain⟨W1,XG⟩:∃W1,W1=w.drew.setCells b (off+i*1) news:=⟨_,rfl⟩
 have QQ:W1=putRow vv (Sort.ahead w 1) b off (lay d i (d.toList.drop j)):=by
  rw[XG,CH,cK,← putRow_setCells vv (Sort.ahead w 1) b off _ d i (by simp;omega),putRow_self vv (Sort.ahead w 1) b off d (holds_ahead vv w 1 b off d hH)]
  rfl
 have X6:Holds vv W1 b off (lay d i (d.toList.drop j)):=by rw[QQ];exact holds_putRow vv _ b off d _ (holds_ahead vv w 1 b off d hH) (lay_size _ _ _)
 have hv:∀w,(zeroValue 25).run Tryz.prog w=.ok (Value.slice none 0 0) w:=fun w=>by simp [zeroValue,typeInfo,jM,oH]
 have iX:∀ty,(Builtin.clear_ #[22] ty #[.slice (some ⟨b,off+(i+(d.size - j)),none⟩) (d.size - (i+(d.size - j))) (cap - (i+(d.size - j)))]).run Tryz.prog W1=.ok (.tuple #[]) (W1.setCells b (off+(i+(d.size - j))) (bZ (d.size - (i+(d.size - j))) (Value.slice none 0 0))):=
  fun ty=>Lib.run_clear_slice W1 _ _ ty _ Tryz.underlying22 hv rfl rfl b (off+(i+(d.size - j))) _ _ aJ (fun t ht=>by rw[show off+(i+(d.size - j))+t=off+(i+(d.size - j)+t) by omega,(X6 _ (by rw[lay_size];omega)).1];rfl) (fun t ht=>by rw[show off+(i+(d.size - j))+t=off+(i+(d.size - j)+t) by omega];exact(X6 _ (by rw[lay_size];omega)).2)
 have X:Aside (W1=putRow vv (Sort.ahead w 1) b off (lay d i (d.toList.drop j))):=QQ
 have hW:Hid (W1=w.drew.setCells b (off+i*1) news):=XG
 have hic:i≤cap:=by omega
 have hjc:j≤cap:=by omega
 have qb:j - i=1:=by omega
 clear XG QQ X6 hH Iz CH hlen hj h1
 go_enter Tryz.func100,Tryz.ntmps100
 go_wp2_with fail
 go_region_law (refine step_append_room rfl (.tmp 22) (.tmp 25) 22 rfl 25 i0 1 Tryz.underlying22 jM Bu b off i cap (by simp [Act.eval,Act.put]) A (d.size - j) (cap - j) news (by simp [Act.eval,Act.put]) s1.out RS.out s2.out aJ s3.out ?_;rw[← hW.out])
 go_wp2
 go_ret
 refine⟨by rw[show d.size - (j - i)=i+(d.size - j) by omega];rfl,1,?_⟩
 rw[show [Value.slice none 0 0]=bZ (j - i) (Value.slice none 0 0) by rw[qb];rfl]
 rw[← delete_arr d i j _ v7 hjd,← putRow_setCells vv _ b off _ _ (i+(d.size - j)) (by rw[lay_size];simp;omega),← X.out,dH,show d.size - (i+(d.size - j))=j - i by omega]
theorem Ws:Tk Tryz.prog 100 (Value.slice none 0 0) where
 enters:=enters_of Tryz.func100 rfl (by decide)
 calls:=fun b cap i us w h1 h2 h3 h4 h5=>I1 b 0 cap i us w h1 h2 h3 h4 h5
end Go.Ab
/- Chapter 23:images of clauses,symmetries. -/
namespace Go.Ab
open Go Go.Proofs
open Nat (reduceAdd reduceSub)
set_option maxRecDepth 20000
set_option maxHeartbeats 4000000
def ub (sym:List Int) (x:Int):Int:=if 0<x then sym.getD (x - 1).toNat 0 else -(sym.getD (-x - 1).toNat 0)
def nK (sym c:List Int):List Int:=c.map (ub sym)
def Ko (sym c:List Int) (i:Nat):List Int:=nK sym (c.take i)++bZ (c.length - i) 0
theorem lB (sym c:List Int):Ko sym c 0=bZ c.length 0:=by unfold Ko nK;simp
theorem M8 (sym c:List Int) {i:Nat} (hi:i≤c.length):(Ko sym c i).length=c.length:=by unfold Ko nK;simp;omega
theorem GJ {sym c:List Int} {i:Nat} (hi:i<c.length) {v:Int} (hv:v=ub sym c[i]):(Ko sym c i).set i v=Ko sym c (i+1):=by
 subst hv
 unfold Ko nK
 rw[List.set_append_right _ _ (by rw[a6,cO];omega),a6,cO,Nat.min_eq_left aJ,Nat.sub_self,fI hi,cR,List.append_assoc]
 congr 1
 obtain⟨k,hk⟩:∃k,c.length - i=k+1:=⟨c.length - i - 1,by omega⟩
 rw[hk,show c.length - (i+1)=k by omega]
 rfl
theorem Px (sym c:List Int) {i:Nat} (hi:¬i<c.length):Ko sym c i=nK sym c:=by
 unfold Ko
 rw[cJ aJ,show c.length - i=0 by omega]
 simp
theorem D_ (sym c:List Int):(nK sym c).length=c.length:=by unfold nK;simp
attribute [local irreducible] AW a_ gr fz AR fH fv fM gk canon kf kG pA Ko
theorem D5 (sym c:List Int) (hs:Sm sym) (hl:sym.length≤1000000) (hc:c.length≤100000) (hw:e8 sym.length c=true):Fn Tryz.prog 102 [.pv (ints sym),.pv (ints c)] (.pv (ints (nK sym c))):=by
 have hb:=fP hw
 refine Fn.enter (n:=40) Tryz.func102 rfl rfl rfl rfl rfl (by decide) fun g fp fl=>?_;(try refine nz ?_)
 (refine u6 ?_;refine zm ?_;refine zn ?_;refine PQ ?_;refine nz ?_;refine B8 ?_;refine zo ?_;refine j6 ?_;refine nq ?_)
 (refine nz ?_;apply AW.gJ [12,11,4,0] [] (fun i:Nat=>([(5,.own 0 3 1 ((Ko sym c i).map encI)),(13,eU i)]:List (Nat×AV))) (fun i:Nat=>([(0,some .row)]:List (Nat×Option Ob))) (fun i:Nat=>i≤c.length) (fun i:Nat=>c.length - i) (0);(conv=>lhs;simp only[Nf.ot,Nf.all,df,reduceAdd,reduceSub]);(all_goals skip))
 ·exact bm _
 ·exact fe rfl (by(refine⟨.ff (by first|rfl|(rw[lB,dH];rfl)|(show bZ _ _=dI encI _;rw[lB,dH,dq];rfl)) rfl,?_⟩;refine⟨.gq (by first|rfl|(rw[lB,dH];rfl)|(show bZ _ _=dI encI _;rw[lB,dH,dq];rfl)),?_⟩;refine⟨.gq (by first|rfl|(rw[lB,dH];rfl)|(show bZ _ _=dI encI _;rw[lB,dH,dq];rfl)),?_⟩;refine⟨.iz (by first|rfl|(rw[lB,dH];rfl)|(show bZ _ _=dI encI _;rw[lB,dH,dq];rfl)),?_⟩;refine aC ?_;refine⟨.iz (by first|rfl|(rw[lB,dH];rfl)|(show bZ _ _=dI encI _;rw[lB,dH,dq];rfl)),?_⟩;exact trivial)) (by(refine aF ?_;exact trivial)) rfl
 rintro i hi
 have FL:=M8 sym c hi
 by_cases fy:i<c.length
 ·obtain⟨b1,b2,b3⟩:=hb _ (cY fy)
  by_cases hp:0<c[i]
  ·have hj:(c[i] - 1).toNat<sym.length:=by omega
   have RZ:0≤c[i] - 1:=by omega
   have hv:sym[(c[i] - 1).toNat]=ub sym c[i]:=by unfold ub;rw[if_pos hp,c6,a8 hj];rfl
   have ED:=GJ fy hv
   (refine mn ?_;refine aA ?_;refine zr ?_;refine uf ?_;refine j6 ?_;refine a_.gtr rfl rfl rfl rfl rfl ?_;refine jD ?_;refine sg ?_;refine a_.fX rfl rfl rfl ?_;(iterate 3 refine zm ?_);refine a_.sub rfl rfl rfl rfl rfl aJ ?_;refine ay ?_;refine zr ?_;refine Dl ?_;refine OM ?_;refine Bt ?_)
   exact Uy
  ·have hj:(-c[i] - 1).toNat<sym.length:=by omega
   have RZ:0≤ -c[i] - 1:=by omega
   have Jv:=hs _ (cY hj)
   have hv: -sym[(-c[i] - 1).toNat]=ub sym c[i]:=by unfold ub;rw[if_neg hp,c6,a8 hj];rfl
   have ED:=GJ fy hv
   (refine mn ?_;refine aA ?_;refine zr ?_;refine uf ?_;refine j6 ?_;refine a_.gtr rfl rfl rfl rfl rfl ?_;refine zd ?_;refine zk ?_;refine sg ?_;refine a_.fX rfl rfl rfl ?_;(iterate 3 refine zm ?_);refine a_.neg rfl rfl rfl aJ ?_;refine a_.sub rfl rfl rfl rfl rfl aJ ?_;refine ay ?_;refine zr ?_;refine a_.neg rfl rfl rfl aJ ?_;refine Dl ?_;refine OM ?_;refine Bt ?_)
   exact Uy
 ·rw[Px _ _ aJ]
  (refine Cp ?_;refine iK ?_;refine Fk ?_)
  (apply eY;(exact gm.one (.tmp rfl rfl));(exact Le.own _ _ _ _ rfl))
end Go.Ab
