/- Chapter 20, the reference's small functions: what each computes, and its walk. -/
import Derived.Test.YtigjjjpcjnifhaaGreatDoorRows
import Derived.Test.YtigjjjpcjnifhaaGreatDoorAbZ
import Derived.Test.YtigjjjpcjnifhaaGreatDoorAbL2
import Derived.Test.YtigjjjpcjnifhaaGreatDoorAbL3
import Derived.Shelf.Strings.Builder1
import Derived.Shelf.Strings.Builder2
import Derived.Shelf.Strings.OnBuilder
import Derived.Shelf.Small.Strs
import Derived.Shelf.Strconv.Atoi
import Derived.Shelf.Strconv.Itoa0
import Derived.Shelf.Strconv.Itoa1
import Derived.Shelf.LaysM
import Derived.Shelf.Strconv.Itoa2
import Derived.Shelf.Strconv.Itoa3
import Derived.Shelf.Strconv.AtoiErrFast
import Derived.Shelf.Strconv.ParseIntEmpty
import Derived.Shelf.Strconv.AtoiFail
import Derived.Shelf.Strconv.Clone
import Derived.Shelf.Strconv.SyntaxError
import Derived.Shelf.LaysC
import Derived.Shelf.Strconv.ToError
import Derived.Shelf.Strconv.Lower
import Derived.Shelf.Strconv.ParseUint10
import Derived.Shelf.Strconv.ParseUint10Empty
import Derived.Shelf.Strconv.ParseUint10Any
import Derived.Shelf.Strconv.ParseInt10
import Derived.Shelf.Strconv.AtoiLong
import Derived.Shelf.Strconv.AtoiInnerAll
import Derived.Shelf.Strconv.RangeError
import Derived.Shelf.Strconv.ToErrorRange
import Derived.Shelf.Strconv.AtoiAll
import Derived.Shelf.Strconv.ErrVarAll
import Derived.Shelf.Strings.Search1
import Derived.Shelf.Strings.Search2
import Derived.Shelf.Strings.Search3
import Derived.Shelf.Strings.Cut
import Derived.Shelf.Strings.Count
import Derived.Shelf.Strings.Shaped
import Derived.Shelf.Sort.Plain
import Derived.Shelf.Strings.Prefix
import Derived.Shelf.Strings.Split
import Derived.Shelf.Unicode.DecodeSlow
import Derived.Shelf.Slices.Equal
import Derived.Ground.Names2Prog
import Derived.Shelf.Slices.CompactI
import Derived.Shelf.Slices.SearchI
import Derived.Shelf.Slices.Cells
import Derived.Shelf.Slices.In.SortNone
import Derived.Shelf.Slices.Empties2
import Derived.Test.YtigjjjpcjnifhaaGreatDoorProg
import Derived.Lib.SlicesCompact
import Derived.WalkKit
import Derived.Deep.RegionLaw
import Derived.Deep.LoopGhost
import Derived.Lib.Walk
import Derived.Lib.SliceRun
import Derived.Lib.SlicesDelete
import Derived.Sort.WalkB12
set_option linter.unusedSimpArgs false
set_option linter.unusedVariables false
open List renaming take_of_length_le→cF,mem_append→bW,getElem_mem→cZ,drop_eq_getElem_cons→dm,foldl_cons→cr,mem_map→bw,mem_singleton→cp,any_eq_false→dD,map_append→cU,all_eq_true→bC,mem_cons→bu,drop_eq_nil_of_le→dE,replicate→bY,length_map→a6,pairwise_cons→dF,mem_filter→de,mem_range→dG,map_replicate→dH,length_take→dI,map→dJ,getD_eq_getElem?_getD→c8,getElem?_eq_getElem→a8
open Int renaming zero_sub→dh,toNat_natCast→dt
open Nat renaming zero_le→bk,le_refl→aP,le_trans→aQ,reduceBEq→di,mul_one→cH
namespace Go.Ab
open Go Go.Proofs
set_option maxRecDepth 20000
set_option maxHeartbeats 4000000
attribute [local irreducible] AW a_ ga ft
theorem fP {α:Type} {l:List α} {k:Nat} (hk:k<l.length):l.take (k+1)=l.take k++ [l[k]]:=List.take_succ_eq_append_getElem hk
theorem iv {α:Type} {l:List α} {k:Nat} (h:¬(k:Int)<(l.length:Int)):l.take k=l:=cF (by omega)
theorem I5 {l:List Int} {x:Int} {k:Nat} (h1:x∉l.take k) (hk:k<l.length) (h2:¬l[k]=x):x∉l.take (k+1):=by
 rw[fP hk,bW]
 simp [h1,Ne.symm h2]
def Sm (l:List Int):Prop:=∀x∈l,-1000000000000≤x∧x≤1000000000000
def e_ (vars:Int) (l:List Int):Bool:=l.all fun x=>decide (x≠0∧x≤vars∧0 - vars≤x)
theorem xh {vars:Int} {l:List Int} {k:Nat} (hk:k<l.length) (h:¬(l[k]≠0∧l[k]≤vars∧0 - vars≤l[k])):e_ vars l=false:=by
 unfold e_
 rw[List.all_eq_false]
 exact⟨l[k],cZ hk,by simpa using h⟩
def gE (l:List Int):Bool:=l.any fun x=>decide ((0 - x)∈l)
theorem Cz {l:List Int} {k:Nat} (hk:k<l.length) (h:(0 - l[k])∈l):gE l=true:=by
 unfold gE;rw[List.any_eq_true];exact⟨l[k],cZ hk,by simpa using h⟩
end Go.Ab
/- Chapter 20,the reference's run:what each function computes,and its walk. -/
namespace Go.Ab
open Go Go.Proofs
set_option maxRecDepth 20000
set_option maxHeartbeats 4000000
attribute [local irreducible] AW a_ ga ft
abbrev H6 (vars:Int) (cl:List (List Int)):AV:=.agg [e7 vars,.pv (jm cl)]
def oJ (vars:Int) (cl:List (List Int)):Bool:=decide (0≤vars∧vars≤20000∧(cl.length:Int)≤60000) && cl.all (e_ vars)
theorem Dl {vars:Int} {cl:List (List Int)} (h:¬(0≤vars∧vars≤20000∧(cl.length:Int)≤60000)):oJ vars cl=false:=by
 simp only[oJ,decide_eq_false h,Bool.false_and]
def iD (ye:List Int):List Int→Int→Int×Int
 |[],left=>if left=0 then (1,0) else (2,left)
 |x::c,left=>if x∈ye∨((0 - x)∉ye∧left≠0∧left≠x) then (0,0) else iD ye c (if (0 - x)∈ye then left else x)
def ib (c ye:List Int):Int×Int:=iD ye c 0
end Go.Ab
/- Chapter 20,the reference's trail:one step,the run. -/
namespace Go.Ab
open Go Go.Proofs
set_option maxRecDepth 20000
set_option maxHeartbeats 4000000
attribute [local irreducible] AW a_ ga ft
abbrev Tr:=List Int×List Int×Int
def kJ (t:Tr):Int→List (List Int)→Tr×Bool
 |_,[]=>(t,false)
 |i,c::cl=>if (ib c t.1).1=1 then ((t.1,t.2.1,i),false) else if (ib c t.1).1=2 then ((t.1++ [(ib c t.1).2],t.2.1++ [i],t.2.2),true) else kJ t (i+1) cl
def lh (cl:List (List Int)) (t:Tr):Tr×Bool:=kJ t 0 cl
theorem xy (t:Tr) (cl:List (List Int)) (k:Nat) (h:k<cl.length):kJ t k (cl.drop k)=
  if (ib cl[k] t.1).1=1 then ((t.1,t.2.1,(k:Int)),false) else if (ib cl[k] t.1).1=2 then ((t.1++ [(ib cl[k] t.1).2],t.2.1++ [(k:Int)],t.2.2),true) else kJ t (k+1:Nat) (cl.drop (k+1)):=by
 rw[dm h];rfl
end Go.Ab
/- Chapter 20,the reference's run. -/
namespace Go.Ab
open Go Go.Proofs
set_option maxRecDepth 20000
set_option maxHeartbeats 4000000
attribute [local irreducible] AW a_ ga ft
def mC (t:Tr) (x:Int):Tr:=if x∈t.1 then t else (t.1++ [x],t.2.1++ [-1],t.2.2)
def iC (assume:List Int):Tr:=assume.foldl mC ([],[],-1)
def qs (cl:List (List Int)):Nat→Tr→Tr
 |0,t=>t
 |n+1,t=>if (lh cl t).2 then qs cl n (lh cl t).1 else (lh cl t).1
def runM (vars:Int) (cl:List (List Int)) (assume:List Int):Tr:=qs cl (vars+1).toNat (iC assume)
theorem IT (t:Tr) (x:Int):(mC t x).1.length≤t.1.length+1∧(mC t x).2.1.length≤t.2.1.length+1:=by
 unfold mC;split<;>simp
theorem Hw (l:List Int):∀t:Tr,(l.foldl mC t).1.length≤t.1.length+l.length∧(l.foldl mC t).2.1.length≤t.2.1.length+l.length:=by
 induction l with
 |nil=>intro t;simp
 |cons x l ih=>intro t;have h1:=ih (mC t x);have h2:=IT t x;simp only[cr,List.length_cons];omega
theorem En (assume:List Int):(iC assume).1.length≤assume.length∧(iC assume).2.1.length≤assume.length:=by
 have:=Hw assume ([],[],-1);simpa [iC] using this
theorem Bx {assume:List Int} {k:Nat} (h:k<assume.length):iC (assume.take (k+1))=mC (iC (assume.take k)) assume[k]:=by
 unfold iC;rw[fP h,List.foldl_append];rfl
end Go.Ab
/- Chapter 20,the reference's answers. -/
namespace Go.Ab
open Go Go.Proofs
set_option maxRecDepth 20000
set_option maxHeartbeats 4000000
attribute [local irreducible] AW a_ ga ft
def yo (l:List Int) (x:Int):Int:=if x∈l then (l.idxOf x:Int) else -1
theorem Im {l:List Int} {x:Int} {k:Nat} (hk:k<l.length) (h:l[k]=x) (mL:x∉l.take k):(k:Int)=yo l x:=by
 have hm:x∈l:=h▸cZ hk
 rw[yo,if_pos hm]
 have:l.idxOf x=k:=by
  have e:l=l.take k++x::l.drop (k+1):=by
   rw[← h,List.getElem_cons_drop,List.take_append_drop]
  rw[e,List.idxOf_append,if_neg mL,List.idxOf_cons_self]
  simp;omega
 rw[this]
def impl (l:List (Int×Int)):List (Int×Int):=l.filter fun p=>decide (0≤p.2)
def pr (t:Tr):List (Int×Int):=t.1.zip t.2.1
def wk (vars:Int) (cl:List (List Int)) (assume:List Int):List Int×Int:=
 if gE assume=true then ([],-2) else ((impl (pr (runM vars cl assume))).map (·.1),(runM vars cl assume).2.2)
def qH (t:Tr):Prop:=t.2.1.length=t.1.length
theorem K8 {t:Tr} (h:qH t) (x:Int):qH (mC t x):=by
 unfold mC qH at*;split<;>simp [h]
theorem DH (assume:List Int):qH (iC assume):=by
 have:∀(l:List Int) (t:Tr),qH t→qH (l.foldl mC t):=by
  intro l
  induction l with
  |nil=>intro t h;exact h
  |cons x l ih=>intro t h;exact ih _ (K8 h x)
 exact this assume _ rfl
end Go.Ab
/- Chapter 20,the reference's answers:reasons,implied clauses. -/
namespace Go.Ab
open Go Go.Proofs
set_option maxRecDepth 20000
set_option maxHeartbeats 4000000
attribute [local irreducible] AW a_ ga ft
def hU (vars:Int) (cl:List (List Int)) (c:List Int):Bool:=
 if gE (c.map fun x=>0 - x)=true then true else decide (0≤(runM vars cl (c.map fun x=>0 - x)).2.2)
theorem PZ {l:List Int} (h:Sm l):Sm (l.map fun x=>0 - x):=by
 intro x hx
 obtain⟨y,hy,rfl⟩:=bw.1 hx
 have:=h y hy
 omega
end Go.Ab
/- Chapter 20:the library's search,the closure. -/
namespace Go.Ab
open Go Go.Proofs
set_option maxRecDepth 20000
set_option maxHeartbeats 4000000
attribute [local irreducible] AW a_ ga ft
theorem KK (l:List Int) (x:Int):Fn Tryz.prog 41 [.pv (ints l),e7 x] (e7 (yo l x)):=by
 refine Fn.enter (n:=19) Tryz.func41 rfl rfl rfl rfl rfl (by decide) fun g fE fD=>?_;(try refine nz ?_)
 refine AW.kL 0 rfl fun hlen=>?_
 (refine ta ?_;refine nj ?_)
 refine AW.loop (fun(k:Nat)=>{n:=19,env:=[(0,.pv (ints l)),(1,e7 x),(7,e7 l.length),(8,e7 k)],gq:=[],nx:=0}) (fun k=>k≤l.length∧x∉l.take k) (fun k=>l.length - k) 0 ?_ ?_ ?_
 ·simp
 ·exact fy rfl (by(refine aC ?_;(iterate 3 refine aC ?_);exact trivial)) (by(exact trivial)) rfl
 rintro k ⟨hk,mL⟩
 (refine zq ?_;refine pW ?_;refine zo ?_;(focus ((with_reducible apply AW.uz);exact rfl;exact rfl;all_goals intro r6));refine F7 ?_;refine pZ ?_;refine xv ?_;(iterate 3 refine zm ?_);refine aA ?_;refine zr ?_;refine a_.eql rfl rfl rfl rfl rfl ?_;refine zd ?_;(focus ((with_reducible apply AW.uz);exact rfl;exact rfl;all_goals intro r6));refine pZ ?_;refine kH ?_;refine zJ ?_;(all_goals skip);rotate_left;refine AW.skip ?_;refine C4 ?_;refine pL ?_;(all_goals skip);rotate_left;refine H8 ?_;refine oH ?_;(all_goals skip);rotate_left)
 ·exact e9 (.one (.tmp rfl rfl)) (.e7 (Im (l:=l) aJ r6.symm mL))
 ·exact⟨k+1,⟨by omega,I5 (l:=l) mL aJ (Ne.symm r6)⟩,by omega,fy rfl (by(refine aC ?_;(iterate 3 refine aC ?_);exact trivial)) (by(exact trivial)) rfl⟩
 ·exact e9 (.one (.tmp rfl rfl)) (.e7 (by rw[iv (l:=l) aJ] at mL;rw[yo,if_neg mL]))
theorem G9 (l:List Int) (x:Int):decide (0≤yo l x)=decide (x∈l):=by
 unfold yo
 by_cases h:x∈l
 ·rw[if_pos h];simp [h]
 ·rw[if_neg h];simp [h]
theorem nN (l:List Int) (x:Int):Fn Tryz.prog 18 [.pv (ints l),e7 x] (fu (decide (x∈l))):=by
 refine Fn.enter (n:=9) Tryz.func18 rfl rfl rfl rfl rfl (by decide) fun g fE fD=>?_;(try refine nz ?_)
 (refine sK ?_;(iterate 2 refine zm ?_);refine a_.call (KK _ _) (.cons rfl (.pv _) (.cons rfl (.pv _) .nil)) rfl rfl (fun h_=>by cases h_) ?_;refine Hp ?_)
 (apply e9;(exact gn.one (.tmp rfl rfl));(refine Le.fu ?_;(exact G9 l x)))
end Go.Ab
/- Chapter 20:unitprop's test for contradictory literals. -/
namespace Go.Ab
open Go Go.Proofs
set_option maxRecDepth 20000
set_option maxHeartbeats 4000000
attribute [local irreducible] AW a_ ga ft
theorem GW (l:List Int) (hs:Sm l):Fn Tryz.prog 39 [.pv (ints l)] (fu (gE l)):=by
 refine Fn.enter (n:=6) Tryz.func39 rfl rfl rfl rfl rfl (by decide) fun g fE fD=>?_;(try refine nz ?_)
 refine AW.kL 0 rfl fun hlen=>?_
 (refine Da ?_;refine xv ?_;refine zb ?_;refine a_.ng rfl rfl rfl ?_;(with_reducible apply a_.inline (hf:=Tryz.func20));(with_reducible assumption);(iterate 10 exact rfl);intro g_ fE fD;refine wF ?_;refine a_.jA rfl rfl rfl ?_;(with_reducible apply a_.inline (hf:=Tryz.func42));(with_reducible assumption);(iterate 10 exact rfl);intro g_ fE fD;refine nz ?_;refine ta ?_;refine nj ?_)
 refine AW.loop (fun(k:Nat)=>{n:=19,env:=[(0,.pv (ints l)),(1,.jJ (.func 74) [] [.ptr 0 0]),(7,e7 l.length),(8,e7 k)],gq:=[(0,some (.box [.pv (ints l)]))],nx:=1}) (fun k=>k≤l.length∧(∀x∈l.take k,(0 - x)∉l)) (fun k=>l.length - k) 0 ?_ ?_ ?_
 ·simp
 ·exact fy rfl (by(refine aC ?_;(iterate 3 refine aC ?_);exact trivial)) (by(refine⟨.box _ rfl ?_,?_⟩;refine aC ?_;(iterate 2 exact trivial))) rfl
 rintro k ⟨hk,mL⟩
 by_cases fx:k<l.length
 ·have hx:=hs _ (cZ fx)
  (refine Ax ?_;refine aA ?_;refine zr ?_;(with_reducible apply a_.inline (hf:=Tryz.func74));(with_reducible assumption);(iterate 10 exact rfl);intro g_ fE fD;refine nz ?_;refine sK ?_;refine iL ?_;refine a_.neg rfl rfl rfl aJ ?_;refine a_.call (nN _ _) (.cons rfl (.pv _) (.cons rfl (.pv _) .nil)) rfl rfl (fun h_=>by cases h_) ?_;refine kH ?_;refine xq ?_;refine zd ?_;(focus ((with_reducible apply AW.uz);exact rfl;exact rfl;all_goals intro r6));refine zq ?_;refine zm ?_;refine kH ?_;refine zJ ?_;refine xq ?_;refine Hp ?_;refine xq ?_;refine kH ?_;(all_goals skip);rotate_left;refine AW.skip ?_;refine C4 ?_;refine yy ?_;(all_goals skip);rotate_left)
  ·(apply e9;(exact gn.one (.tmp rfl rfl));(refine Le.fu ?_;(rw[Cz fx (by rw[dh];exact r6)];simp)))
  ·exact⟨k+1,⟨by omega,by rw[fP fx];intro x hx;rcases bW.1 hx with h|h;exact mL x h;simp only[cp] at h;subst h;rw[dh];exact r6⟩,by omega,fy rfl (by(exact Mi)) (by(refine⟨.box _ rfl ?_,?_⟩;refine aC ?_;(iterate 2 exact trivial))) rfl⟩
 ·(refine uB ?_;refine oH ?_;refine xq ?_;refine Hp ?_;refine xq ?_;refine kH ?_)
  have hf:gE l=false:=by rw[iv (l:=l) aJ] at mL;unfold gE;rw[dD];simpa using mL
  (apply e9;(exact gn.one (.tmp rfl rfl));(refine Le.fu ?_;(rw[hf];rfl)))
end Go.Ab
/- Chapter 20:unitprop's run,the plain part:what open and active compute,beside the reference's step. -/
namespace Go.Ab
open Go Go.Proofs
set_option maxRecDepth 20000
set_option maxHeartbeats 4000000
def fV (tr:List Int):List Int→List Int→Option (List Int)
 |[],out=>some out
 |x::c,out=>if x∈tr then none else fV tr c (if (-x)∉tr∧x∉out then out++ [x] else out)
theorem xC (tr c:List Int) (k:Nat) (out:List Int) (h:k<c.length):fV tr (c.drop k) out=
  if c[k]∈tr then none else fV tr (c.drop (k+1)) (if (-c[k])∉tr∧c[k]∉out then out++ [c[k]] else out):=by
 rw[dm h];rfl
theorem AP (tr:List Int):∀(c out r:List Int),fV tr c out=some r→∃s,r=out++s:=by
 intro c
 induction c with
 |nil=>intro out r h;simp only[fV,Option.some.injEq] at h;exact⟨[],by simp [h]⟩
 |cons x c ih=>
  intro out r h
  unfold fV at h
  split at h
  ·cases h
  ·obtain⟨s,hs⟩:=ih _ _ h
   split at hs
   ·exact⟨x::s,by simpa using hs⟩
   ·exact⟨s,hs⟩
def qI:Option (List Int)→Int×Int
 |none=>(0,0)
 |some []=>(1,0)
 |some [x]=>(2,x)
 |some _=>(0,0)
theorem GA {tr c out:List Int} (h:2≤out.length):qI (fV tr c out)=(0,0):=by
 cases hc:fV tr c out with
 |none=>rfl
 |some r=>
  obtain⟨s,rfl⟩:=AP tr c out r hc
  match out,h with
  |a::b::out,_=>rfl
theorem Cc (tr:List Int):∀(c:List Int),(∀x∈c,x≠0)→
  (iD tr c 0=qI (fV tr c []))∧∀l,l≠0→iD tr c l=qI (fV tr c [l]):=by
 intro c
 induction c with
 |nil=>intro _;exact⟨rfl,fun l hl=>by simp [iD,fV,qI,hl]⟩
 |cons x c ih=>
  intro h
  have hx:x≠0:=h x (by simp)
  obtain⟨i1,i2⟩:=ih fun y hy=>h y (by simp [hy])
  have e:(0:Int) - x= -x:=by omega
  refine⟨?_,fun l hl=>?_⟩
  ·unfold iD fV
   by_cases h1:x∈tr
   ·simp [h1,qI]
   ·by_cases h2:(-x)∈tr
    ·simp [h1,h2,e,i1]
    ·simp only[h1,h2,e,false_or,not_false_eq_true,true_and,ne_eq,not_true_eq_false,false_and,and_false,if_false,List.not_mem_nil,if_true,List.nil_append]
     exact i2 x hx
  ·unfold iD fV
   by_cases h1:x∈tr
   ·simp [h1,qI]
   ·by_cases h2:(-x)∈tr
    ·simp only[h1,h2,e,false_or,not_true_eq_false,false_and,if_false,if_true]
     exact i2 l hl
    ·by_cases h3:l=x
     ·subst h3
      simp only[h1,h2,e,false_or,not_false_eq_true,true_and,ne_eq,not_true_eq_false,and_false,if_false,cp]
      exact i2 l hl
     ·rw[if_pos (.inr ⟨by rw[e];exact h2,hl,h3⟩),if_neg h1,if_pos ⟨h2,by simp;exact fun e=>h3 e.symm⟩]
      exact(GA (by simp)).symm
theorem mH (c tr:List Int) (h:∀x∈c,x≠0):ib c tr=qI (fV tr c []):=(Cc tr c h).1
theorem oP (tr:List Int):∀(c out r:List Int),fV tr c out=some r→(∀y∈out,y∉tr∧(-y)∉tr)→∀y∈r,(y∈out∨y∈c)∧y∉tr∧(-y)∉tr:=by
 intro c
 induction c with
 |nil=>intro out r h ho y hy;simp only[fV,Option.some.injEq] at h;subst h;exact⟨.inl hy,ho y hy⟩
 |cons x c ih=>
  intro out r h ho y hy
  unfold fV at h
  split at h
  ·cases h
  ·rename_i hx
   split at h
   ·rename_i h2
    have:=ih _ _ h (by intro z hz;rcases bW.1 hz with hz|hz;exact ho z hz;simp at hz;subst hz;exact⟨hx,h2.1⟩) y hy
    refine⟨?_,this.2⟩
    rcases this.1 with h3|h3
    ·rcases bW.1 h3 with h3|h3
     ·exact .inl h3
     ·simp at h3;subst h3;exact .inr (by simp)
    ·exact .inr (by simp [h3])
   ·have:=ih _ _ h ho y hy
    exact⟨this.1.imp id (fun h=>by simp [h]),this.2⟩
def pN (vars:Int) (l:List Int):Prop:=(l.map Int.natAbs).Nodup∧∀x∈l,x≠0∧x≤vars∧ -vars≤x
theorem KE:∀(n:Nat) {l:List Nat},l.Nodup→(∀x∈l,1≤x∧x≤n)→l.length≤n:=by
 intro n
 induction n with
 |zero=>intro l _ h;cases l with|nil=>simp|cons x l=>have:=h x (by simp);omega
 |succ n ih=>
  intro l hn h
  have h1:=ih (l:=l.erase (n+1)) (hn.erase _) (fun x hx=>by
   have h2:=h x (List.mem_of_mem_erase hx)
   have h3:x≠n+1:=fun e=>by subst e;exact(List.Nodup.not_mem_erase hn) hx
   omega)
  have:=List.length_erase (a:=n+1) (l:=l)
  split at this<;>omega
theorem pN.len {vars:Int} {l:List Int} (h:pN vars l):(l.length:Int)≤max vars 0:=by
 have:=KE vars.toNat h.1 (fun x hx=>by
  obtain⟨y,hy,rfl⟩:=bw.1 hx
  have:=h.2 y hy
  omega)
 simp at this;omega
theorem pN.add {vars:Int} {l:List Int} (h:pN vars l) {x:Int} (hx:x≠0∧x≤vars∧ -vars≤x) (h1:x∉l) (h2:(-x)∉l):pN vars (l++ [x]):=by
 refine⟨?_,fun y hy=>?_⟩
 ·rw[cU,List.nodup_append]
  refine⟨h.1,by simp,?_⟩
  intro a ha b hb e
  simp at hb;subst hb;subst e
  obtain⟨y,hy,he⟩:=bw.1 ha
  have:y=x∨y= -x:=by omega
  rcases this with rfl|rfl
  ·exact h1 hy
  ·exact h2 hy
 ·rcases bW.1 hy with hy|hy
  ·exact h.2 y hy
  ·simp at hy;subst hy;exact hx
theorem fI {vars:Int} {l:List Int} (h:e_ vars l=true):∀x∈l,x≠0∧x≤vars∧ -vars≤x:=by
 intro x hx
 have:=bC.1 h x hx
 simp at this
 omega
theorem oY (assume:List Int):(∀x,x∈(iC assume).1↔x∈assume):=by
 have:∀(l:List Int) (t:Tr) (x:Int),x∈(l.foldl mC t).1↔x∈t.1∨x∈l:=by
  intro l
  induction l with
  |nil=>intro t x;simp
  |cons y l ih=>
   intro t x
   rw[cr,ih,bu]
   unfold mC
   split
   ·rename_i h
    constructor
    ·rintro(h1|h1);exact .inl h1;exact .inr (.inr h1)
    ·rintro(h1|rfl|h1);exact .inl h1;exact .inl h;exact .inr h1
   ·simp only[bW,cp]
    rw[or_assoc]
 intro x
 have:=this assume ([],[],-1) x
 simpa [iC] using this
theorem Bg {vars:Int} {assume:List Int} (h:e_ vars assume=true) (hc:gE assume=false):pN vars (iC assume).1:=by
 have key:∀(l:List Int) (t:Tr),(∀x∈t.1,x∈assume)→(∀x∈l,x∈assume)→pN vars t.1→pN vars (l.foldl mC t).1:=by
  intro l
  induction l with
  |nil=>intro t _ _ h;exact h
  |cons y l ih=>
   intro t h1 h2 h3
   rw[cr]
   have hy:=h2 y (by simp)
   refine ih _ ?_ (fun x hx=>h2 x (by simp [hx])) ?_
   ·intro x hx
    unfold mC at hx
    split at hx
    ·exact h1 x hx
    ·rcases bW.1 hx with hx|hx
     ·exact h1 x hx
     ·simp at hx;subst hx;exact hy
   ·unfold mC
    split
    ·exact h3
    ·rename_i hn
     refine h3.add (fI h y hy) hn (fun hm=>?_)
     unfold gE at hc
     rw[dD] at hc
     have:=hc y hy
     simp at this
     exact this (h1 _ hm)
 exact key assume _ (by simp) (fun x hx=>hx) ⟨by simp,by simp⟩
structure xG (vars:Int) (cl:List (List Int)) (assume:List Int) (t:Tr) (n:Nat):Prop where
 dist:pN vars t.1
 even:qH t
 Ex:t.2.2= -1
 le:n≤t.1.length
 eq:runM vars cl assume=qs cl (vars+1 - n).toNat t
theorem wg {vars:Int} {cl:List (List Int)} {assume:List Int} (_hv:0≤vars) (h:e_ vars assume=true) (hc:gE assume=false):xG vars cl assume (iC assume) 0:=by
 refine⟨Bg h hc,DH _,?_,bk _,?_⟩
 ·have:∀(l:List Int) (t:Tr),(l.foldl mC t).2.2=t.2.2:=by
   intro l
   induction l with
   |nil=>intro t;rfl
   |cons y l ih=>intro t;rw[cr,ih];unfold mC;split<;>rfl
  exact this assume _
 ·simp [runM]
theorem xG.fuel {vars:Int} {cl:List (List Int)} {assume:List Int} {t:Tr} {n:Nat} (hv:0≤vars) (h:xG vars cl assume t n):(vars+1 - (n:Int)).toNat=(vars+1 - ((n+1:Nat):Int)).toNat+1:=by
 have:=h.dist.len
 have:=h.le
 omega
theorem xG.stop {vars:Int} {cl:List (List Int)} {assume:List Int} {t t':Tr} {n:Nat} (hv:0≤vars) (h:xG vars cl assume t n) (hs:lh cl t=(t',false)):runM vars cl assume=t':=by
 rw[h.eq,h.fuel hv,qs,hs];rfl
theorem xG.go {vars:Int} {cl:List (List Int)} {assume:List Int} {t:Tr} {n:Nat} (hv:0≤vars) (h:xG vars cl assume t n) {x r:Int} (hs:lh cl t=((t.1++ [x],t.2.1++ [r],t.2.2),true))
  (hx:x≠0∧x≤vars∧ -vars≤x) (h1:x∉t.1) (h2:(-x)∉t.1):xG vars cl assume (t.1++ [x],t.2.1++ [r],-1) (n+1):=by
 refine⟨h.dist.add hx h1 h2,?_,rfl,?_,?_⟩
 ·have:t.2.1.length=t.1.length:=h.even
  show(t.2.1++ [r]).length=(t.1++ [x]).length
  simp [this]
 ·have:=h.le;simp;exact this
 ·rw[h.eq,h.fuel hv,qs,hs]
  show qs cl _ (t.1++ [x],t.2.1++ [r],t.2.2)=_
  rw[h.Ex]
end Go.Ab
/- Chapter 20:unitprop's run,walked. -/
namespace Go.Ab
open Go Go.Proofs
set_option maxRecDepth 20000
set_option maxHeartbeats 4000000
attribute [local irreducible] AW a_ ga ft fB uf fG
theorem My (vars:Int) (cl:List (List Int)) (assume:List Int) (jq:∀c∈cl,e_ vars c=true∧c.length≤100000) (h3:cl.length≤1000000) (hv:0≤vars∧vars≤100000) (ha:assume.length≤100000) (hw:e_ vars assume=true) (hc:gE assume=false):
  Fn Tryz.prog 40 [H6 vars cl,.pv (ints assume)] (.gp [.lit (.int .i64 vars),jm cl,ints (runM vars cl assume).1,ints (runM vars cl assume).2.1,.any,.lit (.int .i64 (runM vars cl assume).2.2)]):=by
 refine Fn.enter (n:=46) Tryz.func40 rfl rfl rfl rfl rfl (by decide) fun g fE fD=>?_;(try refine nz ?_)
 (refine Da ?_;refine xv ?_;refine zL ?_;refine nz ?_;refine a_.M6 (t:=81) rfl ?_;refine nz ?_;refine a_.wb 83 [0,4,5] rfl rfl rfl rfl rfl rfl rfl rfl rfl ?_;refine nz ?_;refine a_.box rfl rfl rfl rfl ?_;refine nz ?_;refine oy ?_;refine BC ?_;refine zd ?_;refine mD ?_;refine nj ?_)
 refine AW.kL 1 rfl fun hlen=>?_
 refine AW.loop (fun(k:Nat)=>{n:=46,env:=[(5,.ptr 3 0),(14,.pv (ints assume)),(15,e7 assume.length),(16,e7 k)],gq:=[(1,some (.mp (j9 (l6 (iC (assume.take k)).1)))),(2,some (.box [e7 vars,.pv (jm cl),.own 4 3 1 ((iC (assume.take k)).1.map encI),.own 5 3 1 ((iC (assume.take k)).2.1.map encI),.gz 1,e7 (-1)])),(3,some (.box [.ptr 2 0])),(4,some .row),(5,some .row)],nx:=6})
  (fun k=>k≤assume.length) (fun k=>assume.length - k) 0 ?_ ?_ ?_
 ·simp
 ·exact fy rfl (by(refine aC ?_;refine⟨.ia (by first|with_reducible rfl|(simp [iC])),?_⟩;(iterate 2 refine⟨.gx (by first|with_reducible rfl|(simp [iC])),?_⟩);exact trivial)) (by(refine⟨WO.RQ rfl,?_⟩;refine⟨.box _ rfl ?_,?_⟩;refine⟨.gx (by first|with_reducible rfl|(simp [iC])),?_⟩;refine⟨.ia (by first|with_reducible rfl|(simp [iC])),?_⟩;(iterate 2 refine⟨.jL _ _ _ rfl rfl,?_⟩);refine aC ?_;refine⟨.gx (by first|with_reducible rfl|(simp [iC])),?_⟩;exact trivial;refine⟨.box _ rfl ?_,?_⟩;refine aC ?_;exact trivial;(iterate 2 refine⟨.ji rfl,?_⟩);exact trivial)) rfl
 ·rintro k hk
  have hs:=En (assume.take k)
  have qu:(assume.take k).length≤100000:=by simp;omega
  by_cases fx:k<assume.length
  ·have z_:=Bx fx
   (refine FB ?_;refine aA ?_;refine zr ?_;refine xv ?_;refine zb ?_;refine a_.fe rfl rfl rfl ?_;refine a_.b_ 83 3 4 rfl rfl rfl rfl ?_;refine iL ?_;refine a_.rY rfl rfl rfl rfl rfl rfl rfl rfl rfl ?_;refine a_.Kk rfl rfl rfl ?_;refine zd ?_;(focus ((with_reducible apply AW.uz);exact rfl;exact rfl;all_goals intro r6));refine p_ ?_;refine iL ?_;(with_reducible apply a_.inline (hf:=Tryz.func75));(with_reducible assumption);(iterate 10 exact rfl);intro g_ fE fD;refine nz ?_;(all_goals skip);rotate_left;refine AW.skip ?_;refine C4 ?_;refine pL ?_;(all_goals skip);rotate_left)
   ·have Fh:assume[k]∉(iC (assume.take k)).1:=r6
    refine AW.zM [0,2,3,4,5,7,8,9,10,11,14,15,16,17,18] [23,26,27,29] rfl (by assumption) aI rfl ?_
    show a_ .held _ _ _ [_,_,_,_,_,_,_,_,_,_,_,_,_,_,_] _ _
    (refine Tm ?_)
    intro k_ ja
    (try refine nz ?_)
    refine AR.free 1 aI rfl rfl rfl (by first|exact fO.fC rfl rfl|exact fO.iu rfl rfl|exact fO.nilCheck rfl rfl) ?_
    refine AR.free 6 aI rfl rfl rfl (by first|exact fO.fC rfl rfl|exact fO.iu rfl rfl|exact fO.nilCheck rfl rfl) ?_
    refine AR.step2 (i:=12) (j:=19) rfl aI rfl rfl ?_ ?_<;>intro g_ c_ gh<;>(refine x7 ?_;refine J4 ?_)
    ·refine AR.step2 (i:=13) (j:=19) rfl aI rfl rfl ?_ ?_<;>intro g_ c_ gh<;>(first|((with_reducible apply a_.fJ);exact rfl;exact ah;(iterate 9 exact rfl);exact aa;refine qk ?_)|(refine x7 ?_;refine J4 ?_))
     ·refine AR.step1 (i:=19) rfl aI rfl ?_
      intro g_ c_ gh
      (refine x7 ?_;refine J4 ?_)
      refine AR.step1 (i:=20) rfl aI rfl ?_
      intro g_ c_ gh
      ((with_reducible apply a_.fJ);exact rfl;exact ah;(iterate 9 exact rfl);exact aa;refine qk ?_)
      refine AR.step1 (i:=21) rfl aI rfl ?_
      intro g_ c_ gh
      (refine tw ?_)
      refine AR.step1 (i:=22) rfl aI rfl ?_
      intro g_ c_ gh
      (refine Hd ?_)
      refine Gd ?_
      intro g_ c_ fk
      (refine rn ?_)
      refine AR.step1 (i:=24) rfl aI rfl ?_
      intro g_ c_ gh
      (refine tw ?_)
      refine AR.step1 (i:=25) rfl aI rfl ?_
      intro g_ c_ gh
      (refine Gc ?_)
      refine HL ?_
      intro g_ c_ fk
      (refine rn ?_)
      refine GX ?_
      intro g_ c_ fk
      (refine Hs ?_)
      refine AR.step1 (i:=28) rfl aI rfl ?_
      intro g_ c_ gh
      (refine Hl ?_)
      refine F4 ?_
      intro g_ c_ fk
      (refine Hn ?_)
      refine AR.done (by assumption) aI ?_
      (refine jT ?_;refine xK ?_)
      rw[mC,if_neg Fh] at z_
      exact X6
     ·refine AR.step1 (i:=13) rfl aI rfl ?_
      intro g_ c_ gh
      ((with_reducible apply a_.fJ);exact rfl;exact ah;(iterate 9 exact rfl);exact aa;refine qk ?_)
      refine AR.step1 (i:=20) rfl aI rfl ?_
      intro g_ c_ gh
      ((with_reducible apply a_.fJ);exact rfl;exact ah;(iterate 9 exact rfl);exact aa;refine qk ?_)
      refine AR.step1 (i:=21) rfl aI rfl ?_
      intro g_ c_ gh
      (refine tw ?_)
      refine AR.step1 (i:=22) rfl aI rfl ?_
      intro g_ c_ gh
      (refine Hd ?_)
      refine Gd ?_
      intro g_ c_ fk
      (refine rn ?_)
      refine AR.step1 (i:=24) rfl aI rfl ?_
      intro g_ c_ gh
      (refine tw ?_)
      refine AR.step1 (i:=25) rfl aI rfl ?_
      intro g_ c_ gh
      (refine Gc ?_)
      refine HL ?_
      intro g_ c_ fk
      (refine rn ?_)
      refine GX ?_
      intro g_ c_ fk
      (refine Hs ?_)
      refine AR.step1 (i:=28) rfl aI rfl ?_
      intro g_ c_ gh
      (refine Hl ?_)
      refine F4 ?_
      intro g_ c_ fk
      (refine Hn ?_)
      refine AR.done (by assumption) aI ?_
      (refine jT ?_;refine xK ?_)
      rw[mC,if_neg Fh] at z_
      exact X6
    ·refine AR.step1 (i:=12) rfl aI rfl ?_
     intro g_ c_ gh
     (refine x7 ?_;refine J4 ?_)
     refine AR.step1 (i:=13) rfl aI rfl ?_
     intro g_ c_ gh
     ((with_reducible apply a_.fJ);exact rfl;exact ah;(iterate 9 exact rfl);exact aa;refine qk ?_)
     refine AR.step1 (i:=20) rfl aI rfl ?_
     intro g_ c_ gh
     ((with_reducible apply a_.fJ);exact rfl;exact ah;(iterate 9 exact rfl);exact aa;refine qk ?_)
     refine AR.step1 (i:=21) rfl aI rfl ?_
     intro g_ c_ gh
     (refine tw ?_)
     refine AR.step1 (i:=22) rfl aI rfl ?_
     intro g_ c_ gh
     (refine Hd ?_)
     refine Gd ?_
     intro g_ c_ fk
     (refine rn ?_)
     refine AR.step1 (i:=24) rfl aI rfl ?_
     intro g_ c_ gh
     (refine tw ?_)
     refine AR.step1 (i:=25) rfl aI rfl ?_
     intro g_ c_ gh
     (refine Gc ?_)
     refine HL ?_
     intro g_ c_ fk
     (refine rn ?_)
     refine GX ?_
     intro g_ c_ fk
     (refine Hs ?_)
     refine AR.step1 (i:=28) rfl aI rfl ?_
     intro g_ c_ gh
     (refine Hl ?_)
     refine F4 ?_
     intro g_ c_ fk
     (refine Hn ?_)
     refine AR.done (by assumption) aI ?_
     (refine jT ?_;refine xK ?_)
     rw[mC,if_neg Fh] at z_
     exact X6
   ·rw[mC,if_pos (Decidable.not_not.1 r6)] at z_
    exact⟨k+1,by omega,by omega,fy rfl (by(refine aC ?_;refine⟨.ia (by first|with_reducible rfl|(rw[z_])),?_⟩;refine⟨.gx (by first|with_reducible rfl|(rw[z_])),?_⟩;refine aC ?_;exact trivial)) (by(refine⟨.Sb rfl (by rw[z_]),?_⟩;refine⟨.box _ rfl ?_,?_⟩;refine⟨.gx (by first|with_reducible rfl|(rw[z_])),?_⟩;refine⟨.ia (by first|with_reducible rfl|(rw[z_])),?_⟩;(iterate 2 refine⟨.fj (by first|with_reducible rfl|(rw[z_])) rfl,?_⟩);refine aC ?_;refine⟨.gx (by first|with_reducible rfl|(rw[z_])),?_⟩;exact trivial;refine⟨.box _ rfl ?_,?_⟩;refine aC ?_;exact trivial;(iterate 2 refine aF ?_);exact trivial)) rfl⟩
  ·have iT:assume.take k=assume:=iv (by omega)
   rw[iT] at hs ⊢
   have fw:=wg hv.1 hw hc (cl:=cl)
   generalize iC assume=t0 at hs fw ⊢
   (refine uB ?_;refine qN ?_;refine zb ?_;refine a_.wE rfl rfl rfl ?_;refine zd ?_;refine AW.block ?_)
   refine AW.DZ (ps:=[33,34]) fE fD rfl rfl Tryz.func76 rfl rfl rfl rfl rfl rfl (by decide) ?_
   intro g2 tm l ps' asg' body' yl Sd RJ uE Gt
   (refine mF ?_;refine kh ?_;refine AW.block ?_)
   refine AW.loop (S:=Tr×Nat×Bool) (fun s=>{n:=48,env:=[(0,.ptr 2 0),(1,.kZ 6),(4,fu s.2.2),(1005,.ptr 3 0)],gq:=[(1,some (.mp (j9 (l6 s.1.1)))),(2,some (.box [e7 vars,.pv (jm cl),.own 4 3 1 (s.1.1.map encI),.own 5 3 1 (s.1.2.1.map encI),.gz 1,e7 (-1)])),(3,some (.box [.ptr 2 0])),(4,some .row),(5,some .row),(6,some (.loop l tm ps' asg' body' .ready))],nx:=7})
    (fun s=>xG vars cl assume s.1 s.2.1∧(s.2.2=false→lh cl s.1=(s.1,false))) (fun s=>(vars+1 - (s.2.1:Int)).toNat*2+if s.2.2 then 1 else 0) (t0,0,true) ?_ ?_ ?_
   ·exact⟨fw,fun h=>by cases h⟩
   ·exact Xq
   ·rintro⟨t,n,b⟩ ⟨hI,hb⟩
    simp only at hI hb ⊢
    cases b with
    |false=>
     have Jb:=hI.stop hv.1 (hb rfl)
     rw[Jb,hI.Ex]
     (refine mD ?_;refine zd ?_;refine AW.jV rfl rfl ?_;refine AW.exit ?_;(iterate 2 refine ke ?_);refine ir ?_)
     refine uR (.inl rfl) rfl ?_
     (try refine nz ?_)
     repeat (first|with_reducible apply hO|with_reducible apply gO|with_reducible apply ir)
     refine AW.fy (δ':={n:=46,env:=[(5,.ptr 3 0)],gq:=[(3,some (.box [.gp [.lit (.int .i64 vars),jm cl,ints t.1,ints t.2.1,.any,.lit (.int .i64 (-1))]]))],nx:=7}) (fy rfl (by(first|(exact Pt)|(refine aC ?_;(iterate 12 refine aC ?_);exact trivial)|(refine aC ?_;(iterate 6 refine aC ?_);exact trivial)|(exact Mi)|(exact vw))) (by(first|(refine Ls ?_;refine⟨.ji rfl,?_⟩;exact trivial)|(refine Ls ?_;exact zQ)|(refine Ls ?_;exact trivial)|(refine⟨.box _ rfl ?_,?_⟩;refine⟨.fbox rfl rfl (by repeat (first|exact GG.nil|refine .cons (.any _) ?_|refine .cons (.pv _) ?_|refine .cons (.own rfl rfl) ?_|refine .cons (.nil _) ?_)),?_⟩;(iterate 2 exact trivial)))) rfl) ?_
     (refine zq ?_;refine zb ?_;refine a_.l7 rfl rfl rfl ?_;refine zd ?_;refine AW.ret ?_)
     (apply e9;(exact gn.one (.tmp rfl rfl));(exact Le.gp _))
    |true=>
     clear hb
     (refine mD ?_;refine yW ?_;refine FA ?_;refine AW.block ?_;refine mF ?_;refine xv ?_;refine oF ?_;refine a_.b_ 83 0 0 rfl rfl rfl rfl ?_;refine pE ?_;refine nj ?_)
     refine AW.loop (fun(k:Nat)=>{n:=48,env:=[(0,.ptr 2 0),(1,.kZ 6),(4,fu false),(14,.pv (jm cl)),(15,e7 cl.length),(16,e7 k),(1005,.ptr 3 0)],gq:=[(1,some (.mp (j9 (l6 t.1)))),(2,some (.box [e7 vars,.pv (jm cl),.own 4 3 1 (t.1.map encI),.own 5 3 1 (t.2.1.map encI),.gz 1,e7 (-1)])),(3,some (.box [.ptr 2 0])),(4,some .row),(5,some .row),(6,some (.loop l tm ps' asg' body' .ready))],nx:=7})
      (fun k=>k≤cl.length∧lh cl t=kJ t k (cl.drop k)) (fun k=>cl.length - k) 0 ?_ ?_ ?_
     ·exact⟨bk _,rfl⟩
     ·exact Xq
     ·rintro k ⟨hk,jc⟩
      by_cases fx:k<cl.length
      ·rw[xy _ _ _ fx] at jc
       obtain⟨Zc,IZ⟩:=jq _ (cZ fx)
       have UP:=fI Zc
       rw[mH _ _ (fun x hx=>(UP x hx).1)] at jc
       (refine ly ?_;refine aA ?_;refine zr ?_;refine lj ?_;refine mF ?_;refine Eg ?_;(with_reducible apply a_.inline (hf:=Tryz.func100));(with_reducible assumption);(iterate 10 exact rfl);intro g_ fE fD;refine nz ?_;refine zq ?_;refine lj ?_;refine mF ?_;refine tN ?_;refine nj ?_)
       refine AW.loop (S:=Nat×List Int) (fun s=>{n:=41,env:=[(0,.ptr 2 0),(6,.own 7 3 1 (s.2.map encI)),(9,.pv (ints (cl[k]'fx))),(10,e7 (cl[k]'fx).length),(11,e7 s.1),(1000,.ptr 2 0),(1001,.kZ 6),(1004,fu false),(1005,e7 k),(1014,.pv (jm cl)),(1015,e7 cl.length),(1016,e7 k),(2005,.ptr 3 0)],gq:=[(1,some (.mp (j9 (l6 t.1)))),(2,some (.box [e7 vars,.pv (jm cl),.own 4 3 1 (t.1.map encI),.own 5 3 1 (t.2.1.map encI),.gz 1,e7 (-1)])),(3,some (.box [.ptr 2 0])),(4,some .row),(5,some .row),(6,some (.loop l tm ps' asg' body' .ready)),(7,some .row)],nx:=8})
        (fun s=>s.1≤(cl[k]'fx).length∧fV t.1 (cl[k]'fx) []=fV t.1 ((cl[k]'fx).drop s.1) s.2∧s.2.length≤s.1) (fun s=>(cl[k]'fx).length - s.1) (0,[]) ?_ ?_ ?_
       ·exact⟨bk _,rfl,aP _⟩
       ·exact Xq
       ·rintro⟨j,out⟩ ⟨hj,xW,hol⟩
        simp only at hj xW hol ⊢
        generalize De:cl[k]=c at jc Zc IZ UP hj xW ⊢
        by_cases Lo:j<c.length
        ·have Nq:=UP c[j] (cZ Lo)
         rw[xC _ _ _ _ Lo] at xW
         (refine FB ?_;refine aA ?_;refine zr ?_;refine Lj ?_;refine oF ?_;refine a_.b_ 83 3 4 rfl rfl rfl rfl ?_;refine iL ?_;refine a_.rY rfl rfl rfl rfl rfl rfl rfl rfl rfl ?_;refine zd ?_;(focus ((with_reducible apply AW.uz);exact rfl;exact rfl;all_goals intro r6));refine mF ?_;refine lj ?_;refine AW.ret ?_;refine im ?_;refine zJ ?_;refine Ci rfl rfl rfl rfl ?_;refine Px ?_;refine zm ?_;refine JG ?_;refine Bk ?_;refine HZ ?_;refine pL ?_;(all_goals skip);rotate_left;refine FA ?_;refine mF ?_;refine oF ?_;refine a_.b_ 83 3 4 rfl rfl rfl rfl ?_;refine iL ?_;refine a_.neg rfl rfl rfl aJ ?_;refine a_.rY rfl rfl rfl rfl rfl rfl rfl rfl rfl ?_;refine a_.Kk rfl rfl rfl ?_;refine zm ?_;(focus ((with_reducible apply a_.PN);(iterate 6 exact rfl);all_goals intro r6));refine a_.gg rfl rfl rfl ?_;refine zh ?_;refine a_.call (nN _ _) (.cons rfl (.own _ _ _ _ rfl) (.cons rfl (.pv _) .nil)) rfl rfl (fun h_=>by cases h_) ?_;refine zt ?_;refine a_.Kk rfl rfl rfl ?_;refine zT ?_;refine zd ?_;(focus ((with_reducible apply AW.uz);exact rfl;exact rfl;all_goals intro r6));refine p_ ?_;refine xY ?_;refine x7 ?_;(with_reducible apply a_.fJ);exact rfl;exact ah;(iterate 9 exact rfl);exact aa;refine nz ?_;refine BK ?_;refine pL ?_;(all_goals skip);rotate_left;refine AW.skip ?_;refine C4 ?_;refine pL ?_;(all_goals skip);rotate_left;(iterate 3 refine a_.oW rfl rfl rfl rfl rfl rfl (by with_reducible assumption) ?_);refine zF ?_;refine qO ?_;refine pL ?_;(all_goals skip);rotate_left)
         all_goals first
          |(rw[if_pos (by assumption)] at xW
            rw[xW] at jc
            exact⟨k+1,⟨by omega,jc⟩,by omega,fy rfl (by(first|(refine aC ?_;refine⟨.jL _ _ _ rfl rfl,?_⟩;(iterate 11 refine aC ?_);exact trivial)|(refine aC ?_;(iterate 12 refine aC ?_);exact trivial)|(refine aC ?_;(iterate 6 refine aC ?_);exact trivial)|(refine aC ?_;(iterate 3 refine aC ?_);exact trivial)|(refine aC ?_;exact trivial))) (by(first|(refine⟨.set rfl,?_⟩;refine⟨.box _ rfl ?_,?_⟩;(iterate 6 refine aC ?_);exact trivial;refine⟨.box _ rfl ?_,?_⟩;refine aC ?_;exact trivial;(iterate 2 refine aF ?_);refine⟨.loop rfl,?_⟩;refine⟨.ji rfl,?_⟩;exact trivial)|(refine⟨.set rfl,?_⟩;refine⟨.box _ rfl ?_,?_⟩;(iterate 6 refine aC ?_);exact trivial;refine⟨.box _ rfl ?_,?_⟩;refine aC ?_;exact trivial;(iterate 2 refine aF ?_);refine⟨.loop rfl,?_⟩;refine aF ?_;exact trivial)|(refine⟨.set rfl,?_⟩;refine⟨.box _ rfl ?_,?_⟩;(iterate 6 refine aC ?_);exact trivial;refine⟨.box _ rfl ?_,?_⟩;refine aC ?_;exact trivial;(iterate 2 refine aF ?_);refine⟨.loop rfl,?_⟩;exact trivial)|(refine⟨.box _ rfl ?_,?_⟩;refine⟨.fbox rfl rfl (by repeat (first|exact GG.nil|refine .cons (.any _) ?_|refine .cons (.pv _) ?_|refine .cons (.own rfl rfl) ?_|refine .cons (.nil _) ?_)),?_⟩;(iterate 2 exact trivial)))) rfl⟩)
          |(rw[if_neg (by assumption)] at xW
            rw[if_neg (show ¬(¬ -c[j]∈t.1∧¬c[j]∈out) from by rintro⟨h1,h2⟩;first|exact r6 h2|exact r6 h1)] at xW
            exact⟨(j+1,out),⟨by show j+1≤_;omega,xW,by show out.length≤j+1;omega⟩,by show c.length - (j+1)<c.length - j;omega,fy rfl (by(first|(refine aC ?_;refine⟨.jL _ _ _ rfl rfl,?_⟩;(iterate 11 refine aC ?_);exact trivial)|(refine aC ?_;(iterate 12 refine aC ?_);exact trivial)|(refine aC ?_;(iterate 6 refine aC ?_);exact trivial)|(refine aC ?_;(iterate 3 refine aC ?_);exact trivial)|(refine aC ?_;exact trivial))) (by(first|(refine⟨.set rfl,?_⟩;refine⟨.box _ rfl ?_,?_⟩;(iterate 6 refine aC ?_);exact trivial;refine⟨.box _ rfl ?_,?_⟩;refine aC ?_;exact trivial;(iterate 2 refine aF ?_);refine⟨.loop rfl,?_⟩;refine⟨.ji rfl,?_⟩;exact trivial)|(refine⟨.set rfl,?_⟩;refine⟨.box _ rfl ?_,?_⟩;(iterate 6 refine aC ?_);exact trivial;refine⟨.box _ rfl ?_,?_⟩;refine aC ?_;exact trivial;(iterate 2 refine aF ?_);refine⟨.loop rfl,?_⟩;refine aF ?_;exact trivial)|(refine⟨.set rfl,?_⟩;refine⟨.box _ rfl ?_,?_⟩;(iterate 6 refine aC ?_);exact trivial;refine⟨.box _ rfl ?_,?_⟩;refine aC ?_;exact trivial;(iterate 2 refine aF ?_);refine⟨.loop rfl,?_⟩;exact trivial)|(refine⟨.box _ rfl ?_,?_⟩;refine⟨.fbox rfl rfl (by repeat (first|exact GG.nil|refine .cons (.any _) ?_|refine .cons (.pv _) ?_|refine .cons (.own rfl rfl) ?_|refine .cons (.nil _) ?_)),?_⟩;(iterate 2 exact trivial)))) rfl⟩)
          |(rw[if_neg (by assumption)] at xW
            rw[if_pos ⟨by assumption,by assumption⟩] at xW
            exact⟨(j+1,out++ [c[j]]),⟨by show j+1≤_;omega,xW,by show(out++ [c[j]]).length≤j+1;simp;omega⟩,by show c.length - (j+1)<c.length - j;omega,fy rfl (by(refine aC ?_;refine⟨.fj (by first|with_reducible rfl|(first|(rw[cU];rfl)|rfl)) rfl,?_⟩;refine⟨.ia (by first|with_reducible rfl|(first|(rw[cU];rfl)|rfl)),?_⟩;refine⟨.gx (by first|with_reducible rfl|(first|(rw[cU];rfl)|rfl)),?_⟩;refine⟨.gx (by first|with_reducible rfl|(first|(rw[cU];rfl)|rfl)),?_⟩;(iterate 2 refine aC ?_);refine⟨.kQ (by first|with_reducible rfl|(first|(rw[cU];rfl)|rfl)),?_⟩;refine⟨.gx (by first|with_reducible rfl|(first|(rw[cU];rfl)|rfl)),?_⟩;refine⟨.ia (by first|with_reducible rfl|(first|(rw[cU];rfl)|rfl)),?_⟩;refine⟨.gx (by first|with_reducible rfl|(first|(rw[cU];rfl)|rfl)),?_⟩;refine⟨.gx (by first|with_reducible rfl|(first|(rw[cU];rfl)|rfl)),?_⟩;refine aC ?_;exact trivial)) (by(refine⟨.set rfl,?_⟩;refine⟨.box _ rfl ?_,?_⟩;refine⟨.gx (by first|with_reducible rfl|(first|(rw[cU];rfl)|rfl)),?_⟩;refine⟨.ia (by first|with_reducible rfl|(first|(rw[cU];rfl)|rfl)),?_⟩;refine⟨.fj (by first|with_reducible rfl|(first|(rw[cU];rfl)|rfl)) rfl,?_⟩;refine⟨.fj (by first|with_reducible rfl|(first|(rw[cU];rfl)|rfl)) rfl,?_⟩;refine aC ?_;refine⟨.gx (by first|with_reducible rfl|(first|(rw[cU];rfl)|rfl)),?_⟩;exact trivial;refine⟨.box _ rfl ?_,?_⟩;refine aC ?_;exact trivial;(iterate 2 refine aF ?_);refine⟨.loop rfl,?_⟩;refine aF ?_;exact trivial)) rfl⟩)
        ·rw[dE aJ] at xW
         have Tl:fV t.1 c []=some out:=xW
         rw[Tl] at jc
         have vG:=oP t.1 c [] out Tl (by simp)
         have KA:tm.size=46:=Gt
         rcases out with _|⟨x,_|⟨y,out⟩⟩
         ·have e0:([]:List Int).length=0:=rfl
          have Dn:lh cl t=((t.1,t.2.1,(k:Int)),false):=jc
          have Jb:=hI.stop hv.1 Dn
          rw[Jb]
          clear jc
          (refine QJ ?_;refine ti ?_;refine qN ?_;refine M0 ?_;refine JQ ?_;refine mF ?_;refine a_.move rfl rfl rfl ?_;refine uc ?_;(with_reducible apply a_.KH yl Sd RJ uE KA);(iterate 8 exact rfl);intro g3 Sn fD;(try refine nz ?_);refine zq ?_;refine kh ?_;refine p_ ?_;refine kh ?_;refine And.intro (show pt _ _ _ _ from⟨_,_,_,_,rfl⟩) ?_;(try refine nz ?_);refine AW.block ?_;refine mD ?_;refine JQ ?_;refine TM ?_;(with_reducible apply sV);exact⟨_,_,_,_,rfl⟩;refine nz ?_;refine zd ?_;refine AW.ret ?_;refine xM ?_;(iterate 2 refine im ?_);(iterate 2 refine jl ?_);refine xM ?_)
          refine wX (.inr rfl) rfl ?_
          (try refine nz ?_)
          repeat (first|with_reducible apply hO|with_reducible apply gO|with_reducible apply ir)
          refine AW.fy (δ':={n:=46,env:=[(5,.ptr 3 0)],gq:=[(3,some (.box [.gp [.lit (.int .i64 vars),jm cl,ints t.1,ints t.2.1,.any,.lit (.int .i64 k)]]))],nx:=7}) (fy rfl (by(first|(exact Pt)|(refine aC ?_;(iterate 12 refine aC ?_);exact trivial)|(refine aC ?_;(iterate 6 refine aC ?_);exact trivial)|(exact Mi)|(exact vw))) (by(first|(refine Ls ?_;refine⟨.ji rfl,?_⟩;exact trivial)|(refine Ls ?_;exact zQ)|(refine Ls ?_;exact trivial)|(refine⟨.box _ rfl ?_,?_⟩;refine⟨.fbox rfl rfl (by repeat (first|exact GG.nil|refine .cons (.any _) ?_|refine .cons (.pv _) ?_|refine .cons (.own rfl rfl) ?_|refine .cons (.nil _) ?_)),?_⟩;(iterate 2 exact trivial)))) rfl) ?_
          (refine zq ?_;refine zb ?_;refine a_.l7 rfl rfl rfl ?_;refine zd ?_;refine AW.ret ?_)
          (apply e9;(exact gn.one (.tmp rfl rfl));(exact Le.gp _))
         ·have e0:([x]:List Int).length=1:=rfl
          have Dn:lh cl t=((t.1++ [x],t.2.1++ [(k:Int)],t.2.2),true):=jc
          have Ib:=vG x (by simp)
          have tR:=UP x (by simpa using Ib.1)
          have VQ:=hI.go hv.1 Dn tR Ib.2.1 Ib.2.2
          clear jc
          (refine QJ ?_;refine ti ?_;refine qN ?_;refine M0 ?_;refine a_.eql rfl rfl rfl rfl rfl ?_;refine ti ?_;refine qN ?_;refine a_.move rfl rfl rfl ?_;refine uc ?_;refine a_.gg rfl rfl rfl ?_;refine s8 ?_;refine au ?_;(with_reducible apply a_.KH yl Sd RJ uE KA);(iterate 8 exact rfl);intro g3 Sn fD;(try refine nz ?_);refine zq ?_;refine kh ?_;refine p_ ?_;refine kh ?_;refine And.intro (show pt _ _ _ _ from⟨_,_,_,_,rfl⟩) ?_;(try refine nz ?_);refine AW.block ?_;refine mD ?_;refine a_.eql rfl rfl rfl rfl rfl ?_;refine zd ?_;(focus ((with_reducible apply AW.uz);exact rfl;exact rfl;all_goals intro r6));refine TM ?_;(with_reducible apply sV);exact⟨_,_,_,_,rfl⟩;refine nz ?_;refine a_.not rfl rfl rfl ?_;refine yW ?_;refine AW.ret ?_;refine xM ?_;(iterate 2 refine im ?_);(iterate 2 refine jl ?_);refine xM ?_;(all_goals skip);rotate_left;refine FA ?_;refine p_ ?_;refine Be ?_;(with_reducible apply a_.inline (hf:=Tryz.func75));(with_reducible assumption);(iterate 10 exact rfl);intro g_ fE fD;refine nz ?_;(all_goals skip);rotate_left)
          ·exact absurd (show x=0 from r6) tR.1
          ·have Fh:([x][Int.toNat 0]'Nat.one_pos)∉t.1:=Ib.2.1
           have hl1:t.1.length≤100000:=by have:=hI.dist.len;omega
           have G5:t.2.1.length≤100000:=by have h9:t.2.1.length=t.1.length:=hI.even;omega
           refine AW.zM [0,2,3,4,5,7,8,9,10,11,14,15,16,17,18] [23,26,27,29] rfl (by assumption) aI rfl ?_
           show a_ .held _ _ _ [_,_,_,_,_,_,_,_,_,_,_,_,_,_,_] _ _
           (refine Tm ?_)
           intro k_ ja
           (try refine nz ?_)
           refine AR.free 1 aI rfl rfl rfl (by first|exact fO.fC rfl rfl|exact fO.iu rfl rfl|exact fO.nilCheck rfl rfl) ?_
           refine AR.free 6 aI rfl rfl rfl (by first|exact fO.fC rfl rfl|exact fO.iu rfl rfl|exact fO.nilCheck rfl rfl) ?_
           refine AR.step2 (i:=12) (j:=19) rfl aI rfl rfl ?_ ?_<;>intro g_ c_ gh<;>(refine x7 ?_;refine J4 ?_)
           ·refine AR.step2 (i:=13) (j:=19) rfl aI rfl rfl ?_ ?_<;>intro g_ c_ gh<;>(first|((with_reducible apply a_.fJ);exact rfl;exact ah;(iterate 9 exact rfl);exact aa;refine qk ?_)|(refine x7 ?_;refine J4 ?_))
            ·refine AR.step1 (i:=19) rfl aI rfl ?_
             intro g_ c_ gh
             (refine x7 ?_;refine J4 ?_)
             refine AR.step1 (i:=20) rfl aI rfl ?_
             intro g_ c_ gh
             ((with_reducible apply a_.fJ);exact rfl;exact ah;(iterate 9 exact rfl);exact aa;refine qk ?_)
             refine AR.step1 (i:=21) rfl aI rfl ?_
             intro g_ c_ gh
             (refine tw ?_)
             refine AR.step1 (i:=22) rfl aI rfl ?_
             intro g_ c_ gh
             (refine Hd ?_)
             refine Gd ?_
             intro g_ c_ fk
             (refine rn ?_)
             refine AR.step1 (i:=24) rfl aI rfl ?_
             intro g_ c_ gh
             (refine tw ?_)
             refine AR.step1 (i:=25) rfl aI rfl ?_
             intro g_ c_ gh
             (refine Gc ?_)
             refine HL ?_
             intro g_ c_ fk
             (refine rn ?_)
             refine GX ?_
             intro g_ c_ fk
             (refine Hs ?_)
             refine AR.step1 (i:=28) rfl aI rfl ?_
             intro g_ c_ gh
             (refine Hl ?_)
             refine F4 ?_
             intro g_ c_ fk
             (refine Hn ?_)
             refine AR.done (by assumption) aI ?_
             (refine jT ?_;refine nz ?_;refine a_.nil ?_;refine hO ?_;(with_reducible apply oZ);exact⟨_,_,_,_,rfl⟩;refine nz ?_;refine QX ?_;refine gO ?_)
             exact⟨((t.1++ [x],t.2.1++ [(k:Int)],-1),n+1,true),⟨VQ,fun h=>by cases h⟩,by have:=hI.fuel hv.1;show(vars+1 - ((n+1:Nat):Int)).toNat*2+1<(vars+1 - (n:Int)).toNat*2+1;omega,fy rfl (by(exact PS)) (by(exact Q7)) rfl⟩
            ·refine AR.step1 (i:=13) rfl aI rfl ?_
             intro g_ c_ gh
             ((with_reducible apply a_.fJ);exact rfl;exact ah;(iterate 9 exact rfl);exact aa;refine qk ?_)
             refine AR.step1 (i:=20) rfl aI rfl ?_
             intro g_ c_ gh
             ((with_reducible apply a_.fJ);exact rfl;exact ah;(iterate 9 exact rfl);exact aa;refine qk ?_)
             refine AR.step1 (i:=21) rfl aI rfl ?_
             intro g_ c_ gh
             (refine tw ?_)
             refine AR.step1 (i:=22) rfl aI rfl ?_
             intro g_ c_ gh
             (refine Hd ?_)
             refine Gd ?_
             intro g_ c_ fk
             (refine rn ?_)
             refine AR.step1 (i:=24) rfl aI rfl ?_
             intro g_ c_ gh
             (refine tw ?_)
             refine AR.step1 (i:=25) rfl aI rfl ?_
             intro g_ c_ gh
             (refine Gc ?_)
             refine HL ?_
             intro g_ c_ fk
             (refine rn ?_)
             refine GX ?_
             intro g_ c_ fk
             (refine Hs ?_)
             refine AR.step1 (i:=28) rfl aI rfl ?_
             intro g_ c_ gh
             (refine Hl ?_)
             refine F4 ?_
             intro g_ c_ fk
             (refine Hn ?_)
             refine AR.done (by assumption) aI ?_
             (refine jT ?_;refine nz ?_;refine a_.nil ?_;refine hO ?_;(with_reducible apply oZ);exact⟨_,_,_,_,rfl⟩;refine nz ?_;refine QX ?_;refine gO ?_)
             exact⟨((t.1++ [x],t.2.1++ [(k:Int)],-1),n+1,true),⟨VQ,fun h=>by cases h⟩,by have:=hI.fuel hv.1;show(vars+1 - ((n+1:Nat):Int)).toNat*2+1<(vars+1 - (n:Int)).toNat*2+1;omega,fy rfl (by(exact PS)) (by(exact Q7)) rfl⟩
           ·refine AR.step1 (i:=12) rfl aI rfl ?_
            intro g_ c_ gh
            (refine x7 ?_;refine J4 ?_)
            refine AR.step1 (i:=13) rfl aI rfl ?_
            intro g_ c_ gh
            ((with_reducible apply a_.fJ);exact rfl;exact ah;(iterate 9 exact rfl);exact aa;refine qk ?_)
            refine AR.step1 (i:=20) rfl aI rfl ?_
            intro g_ c_ gh
            ((with_reducible apply a_.fJ);exact rfl;exact ah;(iterate 9 exact rfl);exact aa;refine qk ?_)
            refine AR.step1 (i:=21) rfl aI rfl ?_
            intro g_ c_ gh
            (refine tw ?_)
            refine AR.step1 (i:=22) rfl aI rfl ?_
            intro g_ c_ gh
            (refine Hd ?_)
            refine Gd ?_
            intro g_ c_ fk
            (refine rn ?_)
            refine AR.step1 (i:=24) rfl aI rfl ?_
            intro g_ c_ gh
            (refine tw ?_)
            refine AR.step1 (i:=25) rfl aI rfl ?_
            intro g_ c_ gh
            (refine Gc ?_)
            refine HL ?_
            intro g_ c_ fk
            (refine rn ?_)
            refine GX ?_
            intro g_ c_ fk
            (refine Hs ?_)
            refine AR.step1 (i:=28) rfl aI rfl ?_
            intro g_ c_ gh
            (refine Hl ?_)
            refine F4 ?_
            intro g_ c_ fk
            (refine Hn ?_)
            refine AR.done (by assumption) aI ?_
            (refine jT ?_;refine nz ?_;refine a_.nil ?_;refine hO ?_;(with_reducible apply oZ);exact⟨_,_,_,_,rfl⟩;refine nz ?_;refine QX ?_;refine gO ?_)
            exact⟨((t.1++ [x],t.2.1++ [(k:Int)],-1),n+1,true),⟨VQ,fun h=>by cases h⟩,by have:=hI.fuel hv.1;show(vars+1 - ((n+1:Nat):Int)).toNat*2+1<(vars+1 - (n:Int)).toNat*2+1;omega,fy rfl (by(exact PS)) (by(exact Q7)) rfl⟩
         ·have e0:(x::y::out).length=out.length+2:=rfl
          have Dn:lh cl t=kJ t (k+1:Nat) (cl.drop (k+1)):=jc
          clear jc
          (refine QJ ?_;refine lq ?_;refine HZ ?_;refine pL ?_)
          exact⟨k+1,⟨by omega,Dn⟩,by omega,fy rfl (by(first|(refine aC ?_;refine⟨.jL _ _ _ rfl rfl,?_⟩;(iterate 11 refine aC ?_);exact trivial)|(refine aC ?_;(iterate 12 refine aC ?_);exact trivial)|(refine aC ?_;(iterate 6 refine aC ?_);exact trivial)|(refine aC ?_;(iterate 3 refine aC ?_);exact trivial)|(refine aC ?_;exact trivial))) (by(first|(refine⟨.set rfl,?_⟩;refine⟨.box _ rfl ?_,?_⟩;(iterate 6 refine aC ?_);exact trivial;refine⟨.box _ rfl ?_,?_⟩;refine aC ?_;exact trivial;(iterate 2 refine aF ?_);refine⟨.loop rfl,?_⟩;refine⟨.ji rfl,?_⟩;exact trivial)|(refine⟨.set rfl,?_⟩;refine⟨.box _ rfl ?_,?_⟩;(iterate 6 refine aC ?_);exact trivial;refine⟨.box _ rfl ?_,?_⟩;refine aC ?_;exact trivial;(iterate 2 refine aF ?_);refine⟨.loop rfl,?_⟩;refine aF ?_;exact trivial)|(refine⟨.set rfl,?_⟩;refine⟨.box _ rfl ?_,?_⟩;(iterate 6 refine aC ?_);exact trivial;refine⟨.box _ rfl ?_,?_⟩;refine aC ?_;exact trivial;(iterate 2 refine aF ?_);refine⟨.loop rfl,?_⟩;exact trivial)|(refine⟨.box _ rfl ?_,?_⟩;refine⟨.fbox rfl rfl (by repeat (first|exact GG.nil|refine .cons (.any _) ?_|refine .cons (.pv _) ?_|refine .cons (.own rfl rfl) ?_|refine .cons (.nil _) ?_)),?_⟩;(iterate 2 exact trivial)))) rfl⟩
      ·rw[dE aJ] at jc
       have Dn:lh cl t=(t,false):=jc
       (refine zq ?_;refine pW ?_;refine zo ?_;refine zk ?_;refine AW.exit ?_;(iterate 2 refine ke ?_);refine ir ?_;refine hO ?_;refine gO ?_)
       exact⟨(t,n,false),⟨hI,fun _=>Dn⟩,by show(vars+1 - (n:Int)).toNat*2+0<(vars+1 - (n:Int)).toNat*2+1;omega,fy rfl (by(first|(exact Pt)|(refine aC ?_;(iterate 12 refine aC ?_);exact trivial)|(refine aC ?_;(iterate 6 refine aC ?_);exact trivial)|(exact Mi)|(exact vw))) (by(first|(refine Ls ?_;refine⟨.ji rfl,?_⟩;exact trivial)|(refine Ls ?_;exact zQ)|(refine Ls ?_;exact trivial)|(refine⟨.box _ rfl ?_,?_⟩;refine⟨.fbox rfl rfl (by repeat (first|exact GG.nil|refine .cons (.any _) ?_|refine .cons (.pv _) ?_|refine .cons (.own rfl rfl) ?_|refine .cons (.nil _) ?_)),?_⟩;(iterate 2 exact trivial)))) rfl⟩
end Go.Ab
/- Chapter 20:unitprop's answers:implied literals,reasons,implied clauses. -/
namespace Go.Ab
open Go Go.Proofs
set_option maxRecDepth 20000
set_option maxHeartbeats 4000000
attribute [local irreducible] AW a_ ga ft fB fp fG runM gE
theorem tZ {vars:Int} {l:List Int} (hv:0≤vars∧vars≤100000) (h:e_ vars l=true):Sm l:=fun x hx=>by have:=fI h x hx;omega
structure TO (vars:Int) (cl:List (List Int)):Prop where
 hv:0≤vars∧vars≤100000
 jq:∀c∈cl,e_ vars c=true∧c.length≤100000
 h3:cl.length≤1000000
end Go.Ab
/- Chapter 20:unitprop's implied clauses. -/
namespace Go.Ab
open Go Go.Proofs
set_option maxRecDepth 20000
set_option maxHeartbeats 4000000
attribute [local irreducible] AW a_ ga ft fB fp fG runM gE
theorem wI {vars:Int} {l:List Int} (h:e_ vars l=true):e_ vars (l.map fun x=>0 - x)=true:=by
 unfold e_
 rw[bC]
 intro x hx
 obtain⟨y,hy,rfl⟩:=bw.1 hx
 have:=fI h y hy
 simp;omega
theorem LQ (l:List Int):(l.map fun x=> -x)=l.map fun x=>0 - x:=by simp
theorem FG (vars:Int) (cl:List (List Int)) (c:List Int) (hf:TO vars cl) (Oy:c.length≤100000) (hw:e_ vars c=true):
  Fn Tryz.prog 17 [H6 vars cl,.pv (ints c)] (fu (hU vars cl c)):=by
 have hs:=tZ hf.hv hw
 have Qg:=wI hw
 have q6:=PZ hs
 have HQ:(c.map fun x=>0 - x).length≤100000:=by simpa using Oy
 have U5:=GW _ q6
 have UI:gE (c.map fun x=>0 - x)=false→_:=fun hc=>My vars cl (c.map fun x=>0 - x) hf.jq hf.h3 hf.hv HQ Qg hc
 refine Fn.enter (n:=31) Tryz.func17 rfl rfl rfl rfl rfl (by decide) fun g fE fD=>?_;(try refine nz ?_)
 (refine Da ?_;refine xv ?_;refine tN ?_;refine nj ?_)
 refine AW.kL 8 rfl fun hlen=>?_
 refine AW.loop (fun(k:Nat)=>{n:=31,env:=[(2,.ptr 0 0),(5,.own 1 3 1 (((c.take k).map fun x=>0 - x).map encI)),(8,.pv (ints c)),(9,e7 c.length),(10,e7 k)],gq:=[(0,some (.box [e7 vars,.pv (jm cl)])),(1,some .row)],nx:=2})
  (fun k=>k≤c.length) (fun k=>c.length - k) 0 ?_ ?_ ?_
 ·simp
 ·exact fy rfl (by(first|(refine aC ?_;refine⟨.jL _ _ _ rfl rfl,?_⟩;(iterate 3 refine aC ?_);exact trivial)|(refine aC ?_;refine⟨.freeze rfl,?_⟩;(iterate 2 refine aC ?_);exact trivial))) (by(first|(refine⟨.box _ rfl ?_,?_⟩;(iterate 2 refine aC ?_);exact trivial;refine⟨.ji rfl,?_⟩;exact trivial)|(refine⟨.box _ rfl ?_,?_⟩;(iterate 2 refine aC ?_);(iterate 2 exact trivial)))) rfl
 rintro k hk
 have E3:(c.take k).length≤100000:=by simp;omega
 by_cases fx:k<c.length
 ·have hx:=hs _ (cZ fx)
  (refine FB ?_;refine aA ?_;refine zr ?_;refine kh ?_;refine p_ ?_;refine xY ?_;refine a_.neg rfl rfl rfl aJ ?_;refine x7 ?_;(with_reducible apply a_.fJ);exact rfl;exact ah;(iterate 9 exact rfl);exact aa;refine nz ?_;refine BK ?_;refine pL ?_)
  exact⟨k+1,by omega,by omega,fy rfl (by(refine aC ?_;refine⟨.fj (by first|with_reducible rfl|(rw[fP fx,cU,cU];show _=_++ [encI (0 - c[k])];rw[dh];rfl)) rfl,?_⟩;refine⟨.ia (by first|with_reducible rfl|(rw[fP fx,cU,cU];show _=_++ [encI (0 - c[k])];rw[dh];rfl)),?_⟩;refine⟨.gx (by first|with_reducible rfl|(rw[fP fx,cU,cU];show _=_++ [encI (0 - c[k])];rw[dh];rfl)),?_⟩;refine aC ?_;exact trivial)) (by(refine⟨.box _ rfl ?_,?_⟩;refine⟨.gx (by first|with_reducible rfl|(rw[fP fx,cU,cU];show _=_++ [encI (0 - c[k])];rw[dh];rfl)),?_⟩;refine⟨.ia (by first|with_reducible rfl|(rw[fP fx,cU,cU];show _=_++ [encI (0 - c[k])];rw[dh];rfl)),?_⟩;exact trivial;refine aF ?_;exact trivial)) rfl⟩
 ·have iT:c.take k=c:=iv (by omega)
  rw[iT]
  cases hc:gE (c.map fun x=>0 - x) with
  |true=>
   rw[hc] at U5
   (refine uB ?_;refine mF ?_;refine a_.gg rfl rfl rfl ?_;refine a_.call (U5) (.cons rfl (.own _ _ _ _ rfl) .nil) rfl rfl (fun h_=>by cases h_) ?_;refine zm ?_;(iterate 7 refine a_.gu rfl rfl rfl rfl rfl rfl rfl ?_);refine a_.iM rfl rfl rfl rfl rfl rfl ?_;refine kH ?_)
   ·(apply e9;(exact gn.one (.tmp rfl rfl));(refine Le.fu ?_;(rw[hU,if_pos hc])))
  |false=>
   have hr:=UI hc
   rw[hc] at U5
   refine AW.fy (δ':={n:=31,env:=[(2,.ptr 0 0),(5,.pv (ints (c.map fun x=>0 - x))),(9,e7 c.length),(10,e7 k)],gq:=[(0,some (.box [e7 vars,.pv (jm cl)]))],nx:=2}) (fy rfl (by(first|(refine aC ?_;refine⟨.jL _ _ _ rfl rfl,?_⟩;(iterate 3 refine aC ?_);exact trivial)|(refine aC ?_;refine⟨.freeze rfl,?_⟩;exact Kl))) (by(first|(refine⟨.box _ rfl ?_,?_⟩;exact Kl;refine⟨.ji rfl,?_⟩;exact trivial)|(refine⟨.box _ rfl ?_,?_⟩;(iterate 2 refine aC ?_);(iterate 2 exact trivial)))) rfl) ?_
   (refine uB ?_;refine pZ ?_;refine a_.call (U5) (.cons rfl (.pv _) .nil) rfl rfl (fun h_=>by cases h_) ?_;refine kv ?_;refine zL ?_;refine nz ?_;refine zl ?_;refine kv ?_;refine a_.Oc (hr) (.cons rfl (.EO (.cons (.pv _) (.cons (.pv _) .nil))) (.cons rfl (.pv _) .nil)) rfl ?_;refine zl ?_;refine a_.rh rfl rfl rfl ?_;refine zl ?_;refine a_.sr 83 4 5 1 rfl rfl rfl rfl ?_;refine nz ?_;refine zl ?_;refine zr ?_;refine zl ?_;refine a_.geq rfl rfl rfl rfl rfl ?_;refine a_.iy rfl rfl rfl rfl rfl rfl ?_;refine kH ?_)
   (apply e9;(exact gn.one (.tmp rfl rfl));(refine Le.fu ?_;(rw[hU,if_neg (by rw[hc];simp)])))
end Go.Ab
/-
 DERIVED:THE SHELF's CONTRACTS AT THIS DUMP,IN PLAIN WORDS (tools/lay-plain.mjs out of 'TryzShelf.lean',which tools/lay-shelf.mjs wrote):THE SAME DECLARATIONS UNDER THE SAME NAMES: 'import', 'namespace', 'open', 'def', 'theorem' AND NOTHING ELSE:no command of the shelf's:FOR A HAND-IN. Each laying:the table of numbers ('.._ren') and one theorem,a field a fact of the dump's own or the kernel's comparison;each contract:ONE APPLICATION.
-/
namespace Go.Proofs
open Go.Shelf
def Tryz.uy:Go.Shelf.Ren:=⟨fun|169=>33|n=>n,fun|70=>60|9=>9|0=>0|72=>63|37=>61|127=>110|3=>3|5=>5|n=>n,fun|n=>n⟩
theorem Tryz.Fe:Go.Proofs.Lays.n169 Tryz.prog Tryz.uy:={
 mixed:=by kernel_rfl
 f169:=Tryz.func33.trans (congrArg some (by kernel_rfl))
 t0:=Tryz.underlying0
 a0:=Tryz.isAgg0
 z0:=Tryz.sizeOf0
 v0:=Tryz.zeroValue0
 t3:=Tryz.underlying3
 a3:=Tryz.isAgg3
 z3:=Tryz.sizeOf3
 v3:=Tryz.zeroValue3
 t9:=Tryz.underlying9
 a9:=Tryz.isAgg9
 z9:=Tryz.sizeOf9
 v9:=Tryz.zeroValue9
 t37:=Tryz.underlying61
 a37:=Tryz.isAgg61
 z37:=Tryz.sizeOf61
 v37:=Tryz.zeroValue61
 t70:=Tryz.underlying60
 a70:=Tryz.isAgg60
 z70:=Tryz.sizeOf60
 v70:=Tryz.zeroValue60
 t72:=Tryz.underlying63
 a72:=Tryz.isAgg63
 z72:=Tryz.sizeOf63
 v72:=Tryz.zeroValue63
 t127:=Tryz.underlying110
 a127:=Tryz.isAgg110
 z127:=Tryz.sizeOf110
 v127:=Tryz.zeroValue110}
theorem Tryz.nQ:Builder.Extra Tryz.prog Tryz.uy:={
 sizeBuilder:=by kernel_rfl
 liesBuilder:=by kernel_rfl
 t5:=Tryz.underlying5
 a5:=Tryz.isAgg5
 z5:=Tryz.sizeOf5
 v5:=Tryz.zeroValue5
 infoByte:=by kernel_rfl
 cellsByte:=by kernel_rfl
 sizeByte:=by kernel_rfl
 neB5:=by decide}
def Tryz.B_:Go.Shelf.Ren:=⟨fun|137=>73|217=>99|266=>128|n=>n,fun|9=>9|5=>5|3=>3|n=>n,fun|n=>n⟩
theorem Tryz.NL:Go.Proofs.Lays.n137 Tryz.prog Tryz.B_:={
 mixed:=by kernel_rfl
 f137:=Tryz.func73.trans (congrArg some (by kernel_rfl))
 f217:=Tryz.func99.trans (congrArg some (by kernel_rfl))
 f266:=Tryz.func128.trans (congrArg some (by kernel_rfl))
 t3:=Tryz.underlying3
 a3:=Tryz.isAgg3
 z3:=Tryz.sizeOf3
 v3:=Tryz.zeroValue3
 t5:=Tryz.underlying5
 a5:=Tryz.isAgg5
 z5:=Tryz.sizeOf5
 v5:=Tryz.zeroValue5
 t9:=Tryz.underlying9
 a9:=Tryz.isAgg9
 z9:=Tryz.sizeOf9
 v9:=Tryz.zeroValue9}
open Go.RowKit in
theorem Tryz.strings_IndexByte (s:ByteArray) (c:Int) (w:World):
  Calls Tryz.prog 73 #[.string s,.int .u8 c] w fun e w'=>e=.returned (.int .i64 (Lib.indexByte s.data.toList c.toNat.toUInt8))∧w'=w:=Any.strings_IndexByte Tryz.NL s c w
def Tryz.Cr:Go.Shelf.Ren:=⟨fun|172=>98|244=>126|245=>127|247=>145|279=>146|280=>147|281=>148|282=>149|287=>154|316=>155|171=>32|205=>156|321=>157|322=>158|243=>69|246=>94|283=>115|284=>116|285=>117|286=>118|129=>111|317=>136|318=>137|319=>138|320=>139|337=>151|338=>152|n=>n,fun|9=>9|3=>3|75=>67|76=>70|4=>4|5=>5|167=>168|37=>61|0=>0|85=>169|2=>2|168=>171|53=>145|175=>177|46=>121|210=>181|127=>110|145=>193|143=>191|21=>21|171=>146|173=>148|212=>160|51=>143|20=>20|213=>161|232=>183|233=>184|80=>73|n=>n,fun|15=>2|16=>3|17=>1|18=>4|19=>5|n=>n⟩
theorem Tryz.M8:Go.Proofs.Lays.n172 Tryz.prog Tryz.Cr:={
 mixed:=by kernel_rfl
 f129:=Tryz.func111.trans (congrArg some (by kernel_rfl))
 f171:=Tryz.func32.trans (congrArg some (by kernel_rfl))
 f172:=Tryz.func98.trans (congrArg some (by kernel_rfl))
 f205:=Tryz.func156.trans (congrArg some (by kernel_rfl))
 f243:=Tryz.func69.trans (congrArg some (by kernel_rfl))
 f244:=Tryz.func126.trans (congrArg some (by kernel_rfl))
 f245:=Tryz.func127.trans (congrArg some (by kernel_rfl))
 f246:=Tryz.func94.trans (congrArg some (by kernel_rfl))
 f247:=Tryz.func145.trans (congrArg some (by kernel_rfl))
 f279:=Tryz.func146.trans (congrArg some (by kernel_rfl))
 f280:=Tryz.func147.trans (congrArg some (by kernel_rfl))
 f281:=Tryz.func148.trans (congrArg some (by kernel_rfl))
 f282:=Tryz.func149.trans (congrArg some (by kernel_rfl))
 f283:=Tryz.func115.trans (congrArg some (by kernel_rfl))
 f284:=Tryz.func116.trans (congrArg some (by kernel_rfl))
 f285:=Tryz.func117.trans (congrArg some (by kernel_rfl))
 f286:=Tryz.func118.trans (congrArg some (by kernel_rfl))
 f287:=Tryz.func154.trans (congrArg some (by kernel_rfl))
 f316:=Tryz.func155.trans (congrArg some (by kernel_rfl))
 f317:=Tryz.func136.trans (congrArg some (by kernel_rfl))
 f318:=Tryz.func137.trans (congrArg some (by kernel_rfl))
 f319:=Tryz.func138.trans (congrArg some (by kernel_rfl))
 f320:=Tryz.func139.trans (congrArg some (by kernel_rfl))
 f321:=Tryz.func157.trans (congrArg some (by kernel_rfl))
 f322:=Tryz.func158.trans (congrArg some (by kernel_rfl))
 f337:=Tryz.func151.trans (congrArg some (by kernel_rfl))
 f338:=Tryz.func152.trans (congrArg some (by kernel_rfl))
 t0:=Tryz.underlying0
 a0:=Tryz.isAgg0
 z0:=Tryz.sizeOf0
 v0:=Tryz.zeroValue0
 t2:=Tryz.underlying2
 a2:=Tryz.isAgg2
 z2:=Tryz.sizeOf2
 v2:=Tryz.zeroValue2
 t3:=Tryz.underlying3
 a3:=Tryz.isAgg3
 z3:=Tryz.sizeOf3
 v3:=Tryz.zeroValue3
 t4:=Tryz.underlying4
 a4:=Tryz.isAgg4
 z4:=Tryz.sizeOf4
 v4:=Tryz.zeroValue4
 t5:=Tryz.underlying5
 a5:=Tryz.isAgg5
 z5:=Tryz.sizeOf5
 v5:=Tryz.zeroValue5
 t9:=Tryz.underlying9
 a9:=Tryz.isAgg9
 z9:=Tryz.sizeOf9
 v9:=Tryz.zeroValue9
 t20:=Tryz.underlying20
 a20:=Tryz.isAgg20
 z20:=Tryz.sizeOf20
 v20:=Tryz.zeroValue20
 t21:=Tryz.underlying21
 a21:=Tryz.isAgg21
 z21:=Tryz.sizeOf21
 v21:=Tryz.zeroValue21
 t37:=Tryz.underlying61
 a37:=Tryz.isAgg61
 z37:=Tryz.sizeOf61
 v37:=Tryz.zeroValue61
 t46:=Tryz.underlying121
 a46:=Tryz.isAgg121
 z46:=Tryz.sizeOf121
 v46:=Tryz.zeroValue121
 t51:=Tryz.underlying143
 a51:=Tryz.isAgg143
 z51:=Tryz.sizeOf143
 v51:=Tryz.zeroValue143
 t53:=Tryz.underlying145
 a53:=Tryz.isAgg145
 z53:=Tryz.sizeOf145
 v53:=Tryz.zeroValue145
 t75:=Tryz.underlying67
 a75:=Tryz.isAgg67
 z75:=Tryz.sizeOf67
 v75:=Tryz.zeroValue67
 t76:=Tryz.underlying70
 a76:=Tryz.isAgg70
 z76:=Tryz.sizeOf70
 v76:=Tryz.zeroValue70
 t85:=Tryz.underlying169
 a85:=Tryz.isAgg169
 z85:=Tryz.sizeOf169
 v85:=Tryz.zeroValue169
 t127:=Tryz.underlying110
 a127:=Tryz.isAgg110
 z127:=Tryz.sizeOf110
 v127:=Tryz.zeroValue110
 t143:=Tryz.underlying191
 a143:=Tryz.isAgg191
 z143:=Tryz.sizeOf191
 v143:=Tryz.zeroValue191
 t145:=Tryz.underlying193
 a145:=Tryz.isAgg193
 z145:=Tryz.sizeOf193
 v145:=Tryz.zeroValue193
 t167:=Tryz.underlying168
 a167:=Tryz.isAgg168
 z167:=Tryz.sizeOf168
 v167:=Tryz.zeroValue168
 t168:=Tryz.underlying171
 a168:=Tryz.isAgg171
 z168:=Tryz.sizeOf171
 v168:=Tryz.zeroValue171
 t171:=Tryz.underlying146
 a171:=Tryz.isAgg146
 z171:=Tryz.sizeOf146
 v171:=Tryz.zeroValue146
 t173:=Tryz.underlying148
 a173:=Tryz.isAgg148
 z173:=Tryz.sizeOf148
 v173:=Tryz.zeroValue148
 t175:=Tryz.underlying177
 a175:=Tryz.isAgg177
 z175:=Tryz.sizeOf177
 v175:=Tryz.zeroValue177
 t210:=Tryz.underlying181
 a210:=Tryz.isAgg181
 z210:=Tryz.sizeOf181
 v210:=Tryz.zeroValue181
 t212:=Tryz.underlying160
 a212:=Tryz.isAgg160
 z212:=Tryz.sizeOf160
 v212:=Tryz.zeroValue160
 t213:=Tryz.underlying161
 a213:=Tryz.isAgg161
 z213:=Tryz.sizeOf161
 t232:=Tryz.underlying183
 a232:=Tryz.isAgg183
 z232:=Tryz.sizeOf183
 v232:=Tryz.zeroValue183
 t233:=Tryz.underlying184
 a233:=Tryz.isAgg184
 z233:=Tryz.sizeOf184
 v233:=Tryz.zeroValue184
 g15:=by kernel_rfl
 g16:=by kernel_rfl
 g17:=by kernel_rfl
 g18:=by kernel_rfl
 g19:=by kernel_rfl}
open Go.RowKit in
theorem Tryz.strconv_Atoi (s:ByteArray) (n:Int) (hl:s.size≤18) (h:Lib.atoi s.data.toList=some n) (w:World):
  Calls Tryz.prog 98 #[.string s] w fun e w'=>e=.returned (.tuple #[.int .i64 n,.nilIface])∧∃t,w'=Lib.bytesWorld w 5 t:=Any.strconv_Atoi Tryz.M8 s n hl h w
def Tryz.AI:Go.Shelf.Ren:=⟨fun|171=>32|243=>69|246=>94|283=>115|284=>116|285=>117|286=>118|129=>111|317=>136|318=>137|319=>138|320=>139|337=>151|338=>152|n=>n,fun|3=>3|9=>9|2=>2|4=>4|171=>146|0=>0|53=>145|37=>61|5=>5|173=>148|212=>160|51=>143|20=>20|213=>161|46=>121|232=>183|233=>184|n=>n,fun|17=>1|18=>4|19=>5|n=>n⟩
theorem Tryz.JO:Go.Proofs.LaysM.n171 Tryz.prog Tryz.AI:={
 mixed:=by kernel_rfl
 f129:=Tryz.func111.trans (congrArg some (by kernel_rfl))
 f171:=Tryz.func32.trans (congrArg some (by kernel_rfl))
 f243:=Tryz.func69.trans (congrArg some (by kernel_rfl))
 f246:=Tryz.func94.trans (congrArg some (by kernel_rfl))
 f283:=Tryz.func115.trans (congrArg some (by kernel_rfl))
 f284:=Tryz.func116.trans (congrArg some (by kernel_rfl))
 f285:=Tryz.func117.trans (congrArg some (by kernel_rfl))
 f286:=Tryz.func118.trans (congrArg some (by kernel_rfl))
 f317:=Tryz.func136.trans (congrArg some (by kernel_rfl))
 f318:=Tryz.func137.trans (congrArg some (by kernel_rfl))
 f319:=Tryz.func138.trans (congrArg some (by kernel_rfl))
 f320:=Tryz.func139.trans (congrArg some (by kernel_rfl))
 f337:=Tryz.func151.trans (congrArg some (by kernel_rfl))
 f338:=Tryz.func152.trans (congrArg some (by kernel_rfl))
 t0:=Tryz.underlying0
 a0:=Tryz.isAgg0
 z0:=Tryz.sizeOf0
 v0:=Tryz.zeroValue0
 t2:=Tryz.underlying2
 a2:=Tryz.isAgg2
 z2:=Tryz.sizeOf2
 v2:=Tryz.zeroValue2
 t3:=Tryz.underlying3
 a3:=Tryz.isAgg3
 z3:=Tryz.sizeOf3
 v3:=Tryz.zeroValue3
 t4:=Tryz.underlying4
 a4:=Tryz.isAgg4
 z4:=Tryz.sizeOf4
 v4:=Tryz.zeroValue4
 t5:=Tryz.underlying5
 a5:=Tryz.isAgg5
 z5:=Tryz.sizeOf5
 v5:=Tryz.zeroValue5
 t9:=Tryz.underlying9
 a9:=Tryz.isAgg9
 z9:=Tryz.sizeOf9
 v9:=Tryz.zeroValue9
 t20:=Tryz.underlying20
 a20:=Tryz.isAgg20
 z20:=Tryz.sizeOf20
 v20:=Tryz.zeroValue20
 t37:=Tryz.underlying61
 a37:=Tryz.isAgg61
 z37:=Tryz.sizeOf61
 v37:=Tryz.zeroValue61
 t46:=Tryz.underlying121
 a46:=Tryz.isAgg121
 z46:=Tryz.sizeOf121
 v46:=Tryz.zeroValue121
 t51:=Tryz.underlying143
 a51:=Tryz.isAgg143
 z51:=Tryz.sizeOf143
 v51:=Tryz.zeroValue143
 t53:=Tryz.underlying145
 a53:=Tryz.isAgg145
 z53:=Tryz.sizeOf145
 v53:=Tryz.zeroValue145
 t171:=Tryz.underlying146
 a171:=Tryz.isAgg146
 z171:=Tryz.sizeOf146
 v171:=Tryz.zeroValue146
 t173:=Tryz.underlying148
 a173:=Tryz.isAgg148
 z173:=Tryz.sizeOf148
 v173:=Tryz.zeroValue148
 t212:=Tryz.underlying160
 a212:=Tryz.isAgg160
 z212:=Tryz.sizeOf160
 v212:=Tryz.zeroValue160
 t213:=Tryz.underlying161
 a213:=Tryz.isAgg161
 z213:=Tryz.sizeOf161
 t232:=Tryz.underlying183
 a232:=Tryz.isAgg183
 z232:=Tryz.sizeOf183
 v232:=Tryz.zeroValue183
 t233:=Tryz.underlying184
 a233:=Tryz.isAgg184
 z233:=Tryz.sizeOf184
 v233:=Tryz.zeroValue184
 g17:=by kernel_rfl
 g18:=by kernel_rfl
 g19:=by kernel_rfl
 i0:=by kernel_rfl
 i2:=by kernel_rfl
 i3:=by kernel_rfl
 i4:=by kernel_rfl
 i5:=by kernel_rfl
 i9:=by kernel_rfl
 i20:=by kernel_rfl
 i37:=by kernel_rfl
 i46:=by kernel_rfl
 i51:=by kernel_rfl
 i53:=by kernel_rfl
 i171:=by kernel_rfl
 i173:=by kernel_rfl
 i212:=by kernel_rfl
 i232:=by kernel_rfl
 i233:=by kernel_rfl
 m17:=by kernel_rfl
 m18:=by kernel_rfl
 m19:=by kernel_rfl}
open Go.RowKit Go.Sort Go.Lib in
theorem Tryz.strconv_Itoa (n:Int) (h0: -9223372036854775808≤n) (h1:n≤9223372036854775807) (w:World) (W9:Lib.TabIs Tryz.prog w "internal/strconv.uint64pow10" .u64 Lib.pow10Tab):
  Calls Tryz.prog 32 #[.int .i64 n] w fun e w'=>e=.returned (.string ⟨(Lib.itoa n).toArray⟩)∧∃k os,w'=grow (w.drewN k) os:=Any.strconv_Itoa Tryz.JO n h0 h1 w W9
def Tryz.B0:Go.Shelf.Ren:=⟨fun|219=>95|217=>99|225=>119|224=>120|267=>121|266=>128|314=>140|n=>n,fun|9=>9|3=>3|4=>4|5=>5|46=>121|146=>162|51=>143|n=>n,fun|1=>0|n=>n⟩
theorem Tryz.NP:Go.Proofs.Lays.n219 Tryz.prog Tryz.B0:={
 mixed:=by kernel_rfl
 f217:=Tryz.func99.trans (congrArg some (by kernel_rfl))
 f219:=Tryz.func95.trans (congrArg some (by kernel_rfl))
 f224:=Tryz.func120.trans (congrArg some (by kernel_rfl))
 f225:=Tryz.func119.trans (congrArg some (by kernel_rfl))
 f266:=Tryz.func128.trans (congrArg some (by kernel_rfl))
 f267:=Tryz.func121.trans (congrArg some (by kernel_rfl))
 f314:=Tryz.func140.trans (congrArg some (by kernel_rfl))
 t3:=Tryz.underlying3
 a3:=Tryz.isAgg3
 z3:=Tryz.sizeOf3
 v3:=Tryz.zeroValue3
 t4:=Tryz.underlying4
 a4:=Tryz.isAgg4
 z4:=Tryz.sizeOf4
 v4:=Tryz.zeroValue4
 t5:=Tryz.underlying5
 a5:=Tryz.isAgg5
 z5:=Tryz.sizeOf5
 v5:=Tryz.zeroValue5
 t9:=Tryz.underlying9
 a9:=Tryz.isAgg9
 z9:=Tryz.sizeOf9
 v9:=Tryz.zeroValue9
 t46:=Tryz.underlying121
 a46:=Tryz.isAgg121
 z46:=Tryz.sizeOf121
 v46:=Tryz.zeroValue121
 t51:=Tryz.underlying143
 a51:=Tryz.isAgg143
 z51:=Tryz.sizeOf143
 v51:=Tryz.zeroValue143
 t146:=Tryz.underlying162
 a146:=Tryz.isAgg162
 z146:=Tryz.sizeOf162
 v146:=Tryz.zeroValue162
 g1:=by kernel_rfl}
open Go.RowKit Go.Lib in
theorem Tryz.stringslite_Index_one (s:ByteArray) (c:UInt8) (w:World):
  Calls Tryz.prog 95 #[.string s,.string ⟨#[c]⟩] w fun e w'=>e=.returned (.int .i64 (Lib.indexByte s.data.toList c))∧w'=w:=Any.stringslite_Index_one Tryz.NP s c w
def Tryz.Bw:Go.Shelf.Ren:=⟨fun|143=>124|219=>95|217=>99|225=>119|224=>120|267=>121|266=>128|314=>140|n=>n,fun|9=>9|3=>3|4=>4|5=>5|46=>121|146=>162|51=>143|n=>n,fun|1=>0|n=>n⟩
theorem Tryz.Nu:Go.Proofs.Lays.n143 Tryz.prog Tryz.Bw:={
 mixed:=by kernel_rfl
 f143:=Tryz.func124.trans (congrArg some (by kernel_rfl))
 f217:=Tryz.func99.trans (congrArg some (by kernel_rfl))
 f219:=Tryz.func95.trans (congrArg some (by kernel_rfl))
 f224:=Tryz.func120.trans (congrArg some (by kernel_rfl))
 f225:=Tryz.func119.trans (congrArg some (by kernel_rfl))
 f266:=Tryz.func128.trans (congrArg some (by kernel_rfl))
 f267:=Tryz.func121.trans (congrArg some (by kernel_rfl))
 f314:=Tryz.func140.trans (congrArg some (by kernel_rfl))
 t3:=Tryz.underlying3
 a3:=Tryz.isAgg3
 z3:=Tryz.sizeOf3
 v3:=Tryz.zeroValue3
 t4:=Tryz.underlying4
 a4:=Tryz.isAgg4
 z4:=Tryz.sizeOf4
 v4:=Tryz.zeroValue4
 t5:=Tryz.underlying5
 a5:=Tryz.isAgg5
 z5:=Tryz.sizeOf5
 v5:=Tryz.zeroValue5
 t9:=Tryz.underlying9
 a9:=Tryz.isAgg9
 z9:=Tryz.sizeOf9
 v9:=Tryz.zeroValue9
 t46:=Tryz.underlying121
 a46:=Tryz.isAgg121
 z46:=Tryz.sizeOf121
 v46:=Tryz.zeroValue121
 t51:=Tryz.underlying143
 a51:=Tryz.isAgg143
 z51:=Tryz.sizeOf143
 v51:=Tryz.zeroValue143
 t146:=Tryz.underlying162
 a146:=Tryz.isAgg162
 z146:=Tryz.sizeOf162
 v146:=Tryz.zeroValue162
 g1:=by kernel_rfl}
open Go.RowKit Go.Lib in
theorem Tryz.strings_Index_one (s:ByteArray) (c:UInt8) (w:World):
  Calls Tryz.prog 124 #[.string s,.string ⟨#[c]⟩] w fun e w'=>e=.returned (.int .i64 (Lib.indexByte s.data.toList c))∧w'=w:=Any.strings_Index_one Tryz.Nu s c w
def Tryz.BS:Go.Shelf.Ren:=⟨fun|138=>123|195=>141|218=>143|143=>124|219=>95|217=>99|225=>119|224=>120|267=>121|266=>128|314=>140|n=>n,fun|9=>9|3=>3|4=>4|5=>5|0=>0|46=>121|146=>162|51=>143|n=>n,fun|1=>0|n=>n⟩
theorem Tryz.MX:Go.Proofs.Lays.n138 Tryz.prog Tryz.BS:={
 mixed:=by kernel_rfl
 f138:=Tryz.func123.trans (congrArg some (by kernel_rfl))
 f143:=Tryz.func124.trans (congrArg some (by kernel_rfl))
 f195:=Tryz.func141.trans (congrArg some (by kernel_rfl))
 f217:=Tryz.func99.trans (congrArg some (by kernel_rfl))
 f218:=Tryz.func143.trans (congrArg some (by kernel_rfl))
 f219:=Tryz.func95.trans (congrArg some (by kernel_rfl))
 f224:=Tryz.func120.trans (congrArg some (by kernel_rfl))
 f225:=Tryz.func119.trans (congrArg some (by kernel_rfl))
 f266:=Tryz.func128.trans (congrArg some (by kernel_rfl))
 f267:=Tryz.func121.trans (congrArg some (by kernel_rfl))
 f314:=Tryz.func140.trans (congrArg some (by kernel_rfl))
 t0:=Tryz.underlying0
 a0:=Tryz.isAgg0
 z0:=Tryz.sizeOf0
 v0:=Tryz.zeroValue0
 t3:=Tryz.underlying3
 a3:=Tryz.isAgg3
 z3:=Tryz.sizeOf3
 v3:=Tryz.zeroValue3
 t4:=Tryz.underlying4
 a4:=Tryz.isAgg4
 z4:=Tryz.sizeOf4
 v4:=Tryz.zeroValue4
 t5:=Tryz.underlying5
 a5:=Tryz.isAgg5
 z5:=Tryz.sizeOf5
 v5:=Tryz.zeroValue5
 t9:=Tryz.underlying9
 a9:=Tryz.isAgg9
 z9:=Tryz.sizeOf9
 v9:=Tryz.zeroValue9
 t46:=Tryz.underlying121
 a46:=Tryz.isAgg121
 z46:=Tryz.sizeOf121
 v46:=Tryz.zeroValue121
 t51:=Tryz.underlying143
 a51:=Tryz.isAgg143
 z51:=Tryz.sizeOf143
 v51:=Tryz.zeroValue143
 t146:=Tryz.underlying162
 a146:=Tryz.isAgg162
 z146:=Tryz.sizeOf162
 v146:=Tryz.zeroValue162
 g1:=by kernel_rfl}
open Go.RowKit Go.Lib in
theorem Tryz.strings_Count_one (s:ByteArray) (c:UInt8) (w:World):
  Calls Tryz.prog 123 #[.string s,.string ⟨#[c]⟩] w fun e w'=>e=.returned (.int .i64 (Lib.countByte s.data.toList c))∧w'=w:=Any.strings_Count_one Tryz.MX s c w
def Tryz.Bm:Go.Shelf.Ren:=⟨fun|189=>44|125=>78|257=>77|128=>110|129=>111|294=>101|295=>102|296=>103|297=>104|298=>105|299=>106|216=>107|300=>108|301=>109|328=>129|329=>130|330=>131|331=>132|332=>133|215=>134|343=>150|n=>n,fun|28=>29|3=>3|46=>121|0=>0|51=>143|53=>145|4=>4|183=>137|182=>136|131=>117|5=>5|9=>9|218=>152|222=>156|228=>174|229=>175|n=>n,fun|n=>n⟩
theorem Tryz.Fl:Go.Proofs.Lays.n189 Tryz.prog Tryz.Bm:={
 mixed:=by kernel_rfl
 f125:=Tryz.func78.trans (congrArg some (by kernel_rfl))
 f128:=Tryz.func110.trans (congrArg some (by kernel_rfl))
 f129:=Tryz.func111.trans (congrArg some (by kernel_rfl))
 f189:=Tryz.func44.trans (congrArg some (by kernel_rfl))
 f215:=Tryz.func134.trans (congrArg some (by kernel_rfl))
 f216:=Tryz.func107.trans (congrArg some (by kernel_rfl))
 f257:=Tryz.func77.trans (congrArg some (by kernel_rfl))
 f294:=Tryz.func101.trans (congrArg some (by kernel_rfl))
 f295:=Tryz.func102.trans (congrArg some (by kernel_rfl))
 f296:=Tryz.func103.trans (congrArg some (by kernel_rfl))
 f297:=Tryz.func104.trans (congrArg some (by kernel_rfl))
 f298:=Tryz.func105.trans (congrArg some (by kernel_rfl))
 f299:=Tryz.func106.trans (congrArg some (by kernel_rfl))
 f300:=Tryz.func108.trans (congrArg some (by kernel_rfl))
 f301:=Tryz.func109.trans (congrArg some (by kernel_rfl))
 f328:=Tryz.func129.trans (congrArg some (by kernel_rfl))
 f329:=Tryz.func130.trans (congrArg some (by kernel_rfl))
 f330:=Tryz.func131.trans (congrArg some (by kernel_rfl))
 f331:=Tryz.func132.trans (congrArg some (by kernel_rfl))
 f332:=Tryz.func133.trans (congrArg some (by kernel_rfl))
 f343:=Tryz.func150.trans (congrArg some (by kernel_rfl))
 t0:=Tryz.underlying0
 a0:=Tryz.isAgg0
 z0:=Tryz.sizeOf0
 v0:=Tryz.zeroValue0
 t3:=Tryz.underlying3
 a3:=Tryz.isAgg3
 z3:=Tryz.sizeOf3
 v3:=Tryz.zeroValue3
 t4:=Tryz.underlying4
 a4:=Tryz.isAgg4
 z4:=Tryz.sizeOf4
 v4:=Tryz.zeroValue4
 t5:=Tryz.underlying5
 a5:=Tryz.isAgg5
 z5:=Tryz.sizeOf5
 v5:=Tryz.zeroValue5
 t9:=Tryz.underlying9
 a9:=Tryz.isAgg9
 z9:=Tryz.sizeOf9
 v9:=Tryz.zeroValue9
 t28:=Tryz.underlying29
 a28:=Tryz.isAgg29
 z28:=Tryz.sizeOf29
 v28:=Tryz.zeroValue29
 t46:=Tryz.underlying121
 a46:=Tryz.isAgg121
 z46:=Tryz.sizeOf121
 v46:=Tryz.zeroValue121
 t51:=Tryz.underlying143
 a51:=Tryz.isAgg143
 z51:=Tryz.sizeOf143
 v51:=Tryz.zeroValue143
 t53:=Tryz.underlying145
 a53:=Tryz.isAgg145
 z53:=Tryz.sizeOf145
 v53:=Tryz.zeroValue145
 t131:=Tryz.underlying117
 a131:=Tryz.isAgg117
 z131:=Tryz.sizeOf117
 v131:=Tryz.zeroValue117
 t182:=Tryz.underlying136
 a182:=Tryz.isAgg136
 z182:=Tryz.sizeOf136
 v182:=Tryz.zeroValue136
 t183:=Tryz.underlying137
 a183:=Tryz.isAgg137
 z183:=Tryz.sizeOf137
 v183:=Tryz.zeroValue137
 t218:=Tryz.underlying152
 a218:=Tryz.isAgg152
 z218:=Tryz.sizeOf152
 v218:=Tryz.zeroValue152
 t222:=Tryz.underlying156
 a222:=Tryz.isAgg156
 z222:=Tryz.sizeOf156
 v222:=Tryz.zeroValue156
 t228:=Tryz.underlying174
 a228:=Tryz.isAgg174
 z228:=Tryz.sizeOf174
 v228:=Tryz.zeroValue174
 t229:=Tryz.underlying175
 a229:=Tryz.isAgg175
 z229:=Tryz.sizeOf175
 v229:=Tryz.zeroValue175}
open Go.Sort Go.RowKit in
theorem Tryz.slices_Sort_int (vm off cap:Nat) (zs:List Int) (w:World) (hH:Holds (Value.int .i64) w vm off zs.toArray) (nD:vm<w.heap.size) (ny:zs.length<4611686018427387904):
  Calls Tryz.prog 44 #[.slice (some ⟨vm,off,none⟩) zs.length cap] w fun e w'=>
   e=.returned (.tuple #[])∧∃n os,w'=grow (putRow (Value.int .i64) (Sort.ahead w n) vm off (zs.mergeSort fun x y=>decide (x≤y)).toArray) os:=Any.slices_Sort_int Tryz.Fl vm off cap zs w hH nD ny
def Tryz.BF:Go.Shelf.Ren:=⟨fun|101=>97|208=>125|206=>144|n=>n,fun|9=>9|4=>4|3=>3|n=>n,fun|n=>n⟩
theorem Tryz.LU:Go.Proofs.Lays.n101 Tryz.prog Tryz.BF:={
 mixed:=by kernel_rfl
 f101:=Tryz.func97.trans (congrArg some (by kernel_rfl))
 f206:=Tryz.func144.trans (congrArg some (by kernel_rfl))
 f208:=Tryz.func125.trans (congrArg some (by kernel_rfl))
 t3:=Tryz.underlying3
 a3:=Tryz.isAgg3
 z3:=Tryz.sizeOf3
 v3:=Tryz.zeroValue3
 t4:=Tryz.underlying4
 a4:=Tryz.isAgg4
 z4:=Tryz.sizeOf4
 v4:=Tryz.zeroValue4
 t9:=Tryz.underlying9
 a9:=Tryz.isAgg9
 z9:=Tryz.sizeOf9
 v9:=Tryz.zeroValue9}
open Go.RowKit Go.Lib in
theorem Tryz.strings_TrimPrefix (s p:ByteArray) (w:World):
  Calls Tryz.prog 97 #[.string s,.string p] w fun e w'=>e=.returned (.string ⟨(Lib.trimPrefix s.data.toList p.data.toList).toArray⟩)∧w'=w:=Any.strings_TrimPrefix Tryz.LU s p w
def Tryz.CR:Go.Shelf.Ren:=⟨fun|221=>96|268=>122|138=>123|143=>124|195=>141|197=>142|218=>143|219=>95|260=>153|217=>99|225=>119|224=>120|267=>121|266=>128|314=>140|n=>n,fun|9=>9|3=>3|31=>89|4=>4|0=>0|105=>165|21=>21|5=>5|46=>121|119=>185|139=>188|138=>187|146=>162|51=>143|n=>n,fun|1=>0|3=>6|4=>7|n=>n⟩
theorem Tryz.Mn:Go.Proofs.Lays.n221 Tryz.prog Tryz.CR:={
 mixed:=by kernel_rfl
 f138:=Tryz.func123.trans (congrArg some (by kernel_rfl))
 f143:=Tryz.func124.trans (congrArg some (by kernel_rfl))
 f195:=Tryz.func141.trans (congrArg some (by kernel_rfl))
 f197:=Tryz.func142.trans (congrArg some (by kernel_rfl))
 f217:=Tryz.func99.trans (congrArg some (by kernel_rfl))
 f218:=Tryz.func143.trans (congrArg some (by kernel_rfl))
 f219:=Tryz.func95.trans (congrArg some (by kernel_rfl))
 f221:=Tryz.func96.trans (congrArg some (by kernel_rfl))
 f224:=Tryz.func120.trans (congrArg some (by kernel_rfl))
 f225:=Tryz.func119.trans (congrArg some (by kernel_rfl))
 f260:=Tryz.func153.trans (congrArg some (by kernel_rfl))
 f266:=Tryz.func128.trans (congrArg some (by kernel_rfl))
 f267:=Tryz.func121.trans (congrArg some (by kernel_rfl))
 f268:=Tryz.func122.trans (congrArg some (by kernel_rfl))
 f314:=Tryz.func140.trans (congrArg some (by kernel_rfl))
 t0:=Tryz.underlying0
 a0:=Tryz.isAgg0
 z0:=Tryz.sizeOf0
 v0:=Tryz.zeroValue0
 t3:=Tryz.underlying3
 a3:=Tryz.isAgg3
 z3:=Tryz.sizeOf3
 v3:=Tryz.zeroValue3
 t4:=Tryz.underlying4
 a4:=Tryz.isAgg4
 z4:=Tryz.sizeOf4
 v4:=Tryz.zeroValue4
 t5:=Tryz.underlying5
 a5:=Tryz.isAgg5
 z5:=Tryz.sizeOf5
 v5:=Tryz.zeroValue5
 t9:=Tryz.underlying9
 a9:=Tryz.isAgg9
 z9:=Tryz.sizeOf9
 v9:=Tryz.zeroValue9
 t21:=Tryz.underlying21
 a21:=Tryz.isAgg21
 z21:=Tryz.sizeOf21
 v21:=Tryz.zeroValue21
 t31:=Tryz.underlying89
 a31:=Tryz.isAgg89
 z31:=Tryz.sizeOf89
 v31:=Tryz.zeroValue89
 t46:=Tryz.underlying121
 a46:=Tryz.isAgg121
 z46:=Tryz.sizeOf121
 v46:=Tryz.zeroValue121
 t51:=Tryz.underlying143
 a51:=Tryz.isAgg143
 z51:=Tryz.sizeOf143
 v51:=Tryz.zeroValue143
 t105:=Tryz.underlying165
 a105:=Tryz.isAgg165
 z105:=Tryz.sizeOf165
 v105:=Tryz.zeroValue165
 t119:=Tryz.underlying185
 a119:=Tryz.isAgg185
 z119:=Tryz.sizeOf185
 t138:=Tryz.underlying187
 a138:=Tryz.isAgg187
 z138:=Tryz.sizeOf187
 v138:=Tryz.zeroValue187
 t139:=Tryz.underlying188
 a139:=Tryz.isAgg188
 z139:=Tryz.sizeOf188
 v139:=Tryz.zeroValue188
 t146:=Tryz.underlying162
 a146:=Tryz.isAgg162
 z146:=Tryz.sizeOf162
 v146:=Tryz.zeroValue162
 g1:=by kernel_rfl
 g3:=by kernel_rfl
 g4:=by kernel_rfl}
def Tryz.xF:Go.Shelf.Ren:=⟨fun|20=>114|n=>n,fun|22=>29|3=>3|4=>4|0=>0|n=>n,fun|n=>n⟩
theorem Tryz.yX:Go.Proofs.Lays2.n20 Tryz.prog Tryz.xF:={
 mixed:=by kernel_rfl
 f20:=Tryz.func114.trans (congrArg some (by kernel_rfl))
 t0:=Tryz.underlying0
 a0:=Tryz.isAgg0
 z0:=Tryz.sizeOf0
 v0:=Tryz.zeroValue0
 t3:=Tryz.underlying3
 a3:=Tryz.isAgg3
 z3:=Tryz.sizeOf3
 v3:=Tryz.zeroValue3
 t4:=Tryz.underlying4
 a4:=Tryz.isAgg4
 z4:=Tryz.sizeOf4
 v4:=Tryz.zeroValue4
 t22:=Tryz.underlying29
 a22:=Tryz.isAgg29
 z22:=Tryz.sizeOf29
 v22:=Tryz.zeroValue29
 i3:=by kernel_rfl}
open Go.RowKit Go.Lib Go.Sort in
theorem Tryz.slices_Compact_int (vm off cap:Nat) (zs:List Int) (w:World) (hH:Holds (Value.int .i64) w vm off zs.toArray) (ny:zs.length≤9223372036854775807) (n_:zs.length≤cap):
  Calls Tryz.prog 114 #[.slice (some ⟨vm,off,none⟩) zs.length cap] w fun e w'=>e=.returned (.slice (some ⟨vm,off,none⟩) (Lib.compact zs).length cap)∧∃q,w'=putRow (Value.int .i64) (Sort.ahead w q) vm off (Lib.compact zs++bY (zs.length - (Lib.compact zs).length) 0).toArray:=Any.slices_Compact_int Tryz.yX vm off cap zs w hH ny n_
open Go.RowKit Go.Lib Go.Sort in
theorem Tryz.slices_Compact_int_empty (a:Option Addr) (cap:Nat) (w:World):
  Calls Tryz.prog 114 #[.slice a 0 cap] w fun e w'=>e=.returned (.slice a 0 cap)∧w'=w:=Any.slices_Compact_int_empty Tryz.yX a cap w
open Go.RowKit Go.Sort in
theorem Tryz.slices_Sort_int_none (p:Option Addr) (cap:Nat) (w:World):
  Calls Tryz.prog 44 #[.slice p 0 cap] w fun e w'=>e=.returned (.tuple #[])∧w'=w:=Any.slices_Sort_int_none Tryz.Fl p cap w
end Go.Proofs
/- Go's slices.Sort and slices.Compact at numbers,as callees that rewrite a row. -/
namespace Go.Ab
open Go Go.Proofs Go.RowKit
def l4 (zs:List Int):List Int:=zs.mergeSort fun x y=>decide (x≤y)
def kd (zs:List Int):List Int:=Go.Lib.compact zs
def ox (zs:List Int):List Int:=kd zs++bY (zs.length - (kd zs).length) 0
theorem BX (zs:List Int):(kd zs).length≤zs.length:=by
 unfold kd Go.Lib.compact Go.Lib.compactUpTo
 rw[a6]
 exact aQ (List.length_filter_le _ _) (by simp)
theorem Hz:MV Tryz.prog 44 l4 none where
 enters:=enters_of Tryz.func44 rfl (by decide)
 len:=fun zs=>by simp [l4]
 retle:=fun r h=>by cases h
 calls:=fun b cap zs w hH hb hl _=>Tryz.slices_Sort_int b 0 cap zs w hH hb (by omega)
 nil:=fun w=>(Tryz.slices_Sort_int_none none 0 w).mono fun e w' ⟨h1,h2⟩=>⟨h1,h2▸Below.refl _ _⟩
theorem zY:MV Tryz.prog 114 ox (some fun zs=>(kd zs).length) where
 enters:=enters_of Tryz.func114 rfl (by decide)
 len:=fun zs=>by have:=BX zs;simp [ox];omega
 retle:=fun r h zs=>by cases h;exact BX zs
 calls:=fun b cap zs w hH hb hl hc=>(Tryz.slices_Compact_int b 0 cap zs w hH aJ hc).mono fun e w' ⟨h1,q,h2⟩=>⟨h1,q, #[],by rw[h2];simp [Sort.grow];rfl⟩
 nil:=fun w=>(Tryz.slices_Compact_int_empty none 0 w).mono fun e w' ⟨h1,h2⟩=>⟨h1,h2▸Below.refl _ _⟩
end Go.Ab
/- Lists of numbers put in order,each number once. -/
namespace Go.Ab
open Go Go.Proofs
abbrev RC (l:List Int):Prop:=l.Pairwise (·<·)
theorem FV:∀{a b:List Int},RC a→RC b→(∀x,x∈a↔x∈b)→a=b
 |[],[],_,_,_=>rfl
 |[],y::b,_,_,h=>by have:=(h y).2 (by simp);simp at this
 |x::a,[],_,_,h=>by have:=(h x).1 (by simp);simp at this
 |x::a,y::b,ha,hb,h=>by
  have LS:=dF.1 ha
  have iU:=dF.1 hb
  have Xc:x=y:=by
   have h1:=(h x).1 (by simp)
   have h2:=(h y).2 (by simp)
   rcases bu.1 h1 with e|h1
   ·exact e
   ·rcases bu.1 h2 with e|h2
    ·exact e.symm
    ·have:=iU.1 x h1
     have:=LS.1 y h2
     omega
  subst Xc
  rw[FV LS.2 iU.2 fun z=>?_]
  constructor
  ·intro hz
   have h1:=LS.1 z hz
   rcases bu.1 ((h z).1 (by simp [hz])) with e|h2
   ·omega
   ·exact h2
  ·intro hz
   have h1:=iU.1 z hz
   rcases bu.1 ((h z).2 (by simp [hz])) with e|h2
   ·omega
   ·exact h2
theorem lZ {zs:List Int} {j:Nat} (hj:j<zs.length):zs.toArray[j]! =zs[j]:=by simp [hj]
theorem KV {zs:List Int} {x:Int}:x∈kd zs↔∃j,∃h:j<zs.length,zs[j]=x∧(j=0∨∃h':j - 1<zs.length,zs[j]≠zs[j - 1]):=by
 unfold kd Go.Lib.compact Go.Lib.compactUpTo
 simp only[bw,de,dG,Go.Lib.keeps,decide_eq_true_eq]
 constructor
 ·rintro⟨j,⟨hj,hk⟩,rfl⟩
  refine⟨j,hj,(lZ hj).symm,?_⟩
  rcases hk with hk|hk
  ·exact .inl hk
  ·by_cases h0:j=0
   ·exact .inl h0
   ·right
    refine⟨by omega,?_⟩
    rwa [lZ hj,lZ aJ] at hk
 ·rintro⟨j,hj,rfl,hk⟩
  refine⟨j,⟨hj,?_⟩,lZ hj⟩
  rcases hk with hk|⟨h',hk⟩
  ·exact .inl hk
  ·right
   rwa [lZ hj,lZ h']
theorem Ko {zs:List Int} {x:Int}:x∈kd zs↔x∈zs:=by
 rw[KV]
 constructor
 ·rintro⟨j,hj,rfl,_⟩;exact cZ hj
 ·intro hx
  obtain⟨j,hj,rfl⟩:=List.getElem_of_mem hx
  induction j with
  |zero=>exact⟨0,hj,rfl,.inl rfl⟩
  |succ j ih=>
   by_cases e:zs[j+1]=zs[j]
   ·obtain⟨i,hi,h1,h2⟩:=ih aJ (cZ _)
    exact⟨i,hi,h1.trans e.symm,h2⟩
   ·exact⟨j+1,hj,rfl,.inr ⟨by omega,e⟩⟩
theorem Kg {zs:List Int} (h:zs.Pairwise (·≤·)):RC (kd zs):=by
 unfold kd Go.Lib.compact Go.Lib.compactUpTo RC
 rw[List.pairwise_map]
 have h1:((List.range zs.length).filter (Go.Lib.keeps zs.toArray)).Pairwise (·<·):=List.Pairwise.filter _ List.pairwise_lt_range
 refine List.Pairwise.imp_of_mem (fun {i j} hi hj r9=>?_) h1
 simp only[de,dG,Go.Lib.keeps,decide_eq_true_eq] at hi hj
 obtain⟨Yg,_⟩:=hi
 obtain⟨Q6,r7⟩:=hj
 rw[lZ Yg,lZ Q6]
 rw[List.pairwise_iff_getElem] at h
 rcases r7 with h0|h0
 ·omega
 ·have Kb:j - 1<zs.length:=by omega
  have h2:zs[j - 1]≤zs[j]:=h (j - 1) j Kb Q6 (by omega)
  rw[lZ Q6,lZ Kb] at h0
  by_cases e:i=j - 1
  ·subst e;omega
  ·have h3:zs[i]≤zs[j - 1]:=h i (j - 1) Yg Kb (by omega)
   omega
theorem K5 {zs:List Int} {x:Int}:x∈l4 zs↔x∈zs:=(List.mergeSort_perm zs _).mem_iff
theorem Nl (zs:List Int):(l4 zs).Pairwise (·≤·):=by
 have:=List.pairwise_mergeSort (le:=fun x y:Int=>decide (x≤y)) (fun a b c h1 h2=>by simp only[decide_eq_true_eq] at*;omega) (fun a b=>by simp only[Bool.or_eq_true,decide_eq_true_eq];omega) zs
 exact this.imp fun h=>by simpa using h
def canon (zs:List Int):List Int:=kd (l4 zs)
theorem HN (zs:List Int):kd (l4 zs)=canon zs:=rfl
theorem y7 (zs:List Int):RC (canon zs):=Kg (Nl zs)
theorem qw {zs:List Int} {x:Int}:x∈canon zs↔x∈zs:=by unfold canon;rw[Ko,K5]
theorem BL {a b:List Int} (h:∀x,x∈a↔x∈b):canon a=canon b:=FV (y7 a) (y7 b) fun x=>by rw[qw,qw,h]
theorem Dp (zs:List Int):(ox zs).take (kd zs).length=kd zs:=by unfold ox;rw[List.take_append_of_le_length (aP _),List.take_length]
end Go.Ab
/- Chapter 23:the checker's clauses:put in order,compared,within the variables,their images. -/
namespace Go.Ab
open Go Go.Proofs
open Nat (reduceAdd reduceSub)
set_option maxRecDepth 20000
set_option maxHeartbeats 4000000
theorem G4 {α:Type} {a b:List α} {k:Nat} (hl:a.length=b.length) (h:a.take k=b.take k) (hk:¬k<a.length):a=b:=by
 rwa [cF aJ,cF aJ] at h
theorem LN {α:Type} {a b:List α} {k:Nat} (h:a.take k=b.take k) (ha:k<a.length) (hb:k<b.length) (e:a[k]=b[k]):a.take (k+1)=b.take (k+1):=by
 rw[fP ha,fP hb,h,e]
attribute [local irreducible] AW a_ ga ft AR fB fp fG fU canon l4 kd ox
theorem qB (a b:List Int):Fn Tryz.prog 38 [.pv (ints a),.pv (ints b)] (fu (decide (a=b))):=by
 refine Fn.enter (n:=26) Tryz.func38 rfl rfl rfl rfl rfl (by decide) fun g fE fD=>?_;(try refine nz ?_)
 refine AW.kL 0 rfl fun hlen=>?_
 by_cases r8:a.length=b.length
 ·(refine QY ?_;refine vD ?_;refine u_ ?_;refine nj ?_)
  refine AW.loop (fun(k:Nat)=>{n:=26,env:=[(0,.pv (ints a)),(1,.pv (ints b)),(12,e7 a.length),(13,e7 k)],gq:=[],nx:=0}) (fun k=>k≤a.length∧a.take k=b.take k) (fun k=>a.length - k) 0 ?_ ?_ ?_
  ·simp
  ·exact fy rfl (by(refine aC ?_;(iterate 3 refine aC ?_);exact trivial)) (by(exact trivial)) rfl
  rintro k ⟨hk,mL⟩
  by_cases fx:k<a.length
  ·have DG:k<b.length:=by omega
   (refine ly ?_;refine rD ?_;refine AW.gk rfl rfl aI (by with_reducible assumption) ?_;(iterate 2 refine zm ?_);refine aA ?_;refine zr ?_;(iterate 2 refine zm ?_);refine aA ?_;refine zr ?_;refine a_.neq rfl rfl rfl rfl rfl ?_;refine zd ?_;(focus ((with_reducible apply AW.uz);exact rfl;exact rfl;all_goals intro r6));refine oH ?_;refine zJ ?_;(all_goals skip);rotate_left;refine AW.skip ?_;refine C4 ?_;refine pL ?_;(all_goals skip);rotate_left)
   ·have fZ:¬a=b:=by rintro rfl;exact r6 rfl
    (apply e9;(exact gn.one (.tmp rfl rfl));(refine Le.fu ?_;(rw[eq_comm,decide_eq_false_iff_not];exact fZ)))
   ·exact⟨k+1,⟨by omega,LN mL fx DG (Decidable.not_not.1 r6)⟩,by omega,fy rfl (by(refine aC ?_;(iterate 3 refine aC ?_);exact trivial)) (by(exact trivial)) rfl⟩
  ·have he:a=b:=G4 r8 mL fx
   (refine uB ?_;refine oH ?_)
   (apply e9;(exact gn.one (.tmp rfl rfl));(refine Le.fu ?_;(rw[eq_comm,decide_eq_true_iff];exact he)))
 ·have fZ:¬a=b:=by rintro rfl;exact r8 rfl
  (refine QY ?_;refine lq ?_;refine mF ?_;refine xL ?_)
  (apply e9;(exact gn.one (.tmp rfl rfl));(refine Le.fu ?_;(rw[eq_comm,decide_eq_false_iff_not];exact fZ)))
theorem Mu (l:List Int):l.map encI=l.map nI:=rfl
theorem yA (l:List Int) (hl:l.length≤1000000):L1 Tryz.prog 43 [.pv (ints l)] 3 1 (l.map nI):=by
 rw[← Mu]
 refine L1.enter (n:=8) Tryz.func43 rfl rfl rfl rfl rfl (by decide) fun g fE fD=>?_;(try refine nz ?_)
 by_cases h0:l=[]
 ·subst h0
  have e0:([]:List Int).length=0:=rfl
  (refine ta ?_;(focus ((with_reducible apply a_.rR);(iterate 6 exact rfl);all_goals intro r6));refine vc ?_;(all_goals skip);rotate_left;refine G0 ?_;refine uc ?_;(with_reducible apply a_.fJ);exact rfl;exact ah;(iterate 9 exact rfl);exact aa;refine nz ?_;refine tE ?_;(all_goals skip);rotate_left)
  all_goals ((first|(refine jj (gn.one (.tmp rfl rfl)) ?_)|(refine jj (gn.one (.cell1 rfl rfl rfl rfl)) ?_)|(refine mY (gn.one (.tmp rfl rfl)) ?_));(first|rfl|simp))
 ·have e0:0<l.length:=List.length_pos_iff.2 h0
  have e1:¬l.map encI=[]:=by simpa using h0
  clear h0
  (refine ta ?_;(focus ((with_reducible apply a_.rR);(iterate 6 exact rfl);all_goals intro r6));refine vc ?_;(all_goals skip);rotate_left;refine G0 ?_;refine uc ?_;(with_reducible apply a_.fJ);exact rfl;exact ah;(iterate 9 exact rfl);exact aa;refine nz ?_;refine tE ?_;(all_goals skip);rotate_left)
  ·exact absurd r6 e1
  ·((first|(refine jj (gn.one (.tmp rfl rfl)) ?_)|(refine jj (gn.one (.cell1 rfl rfl rfl rfl)) ?_)|(refine mY (gn.one (.tmp rfl rfl)) ?_));(first|rfl|simp))
theorem mR (l:List Int) (hl:l.length≤1000000):Fn Tryz.prog 85 [.pv (ints l)] (.pv (ints (canon l))):=by
 have hc:=yA l hl
 refine Fn.enter (n:=10) Tryz.func85 rfl rfl rfl rfl rfl (by decide) fun g fE fD=>?_;(try refine nz ?_)
 (refine sK ?_;refine zm ?_;(with_reducible apply a_.On (hc));exact aj;exact rfl;refine nz ?_;refine sH ?_;refine mF ?_;refine a_.gg rfl rfl rfl ?_;(try refine nz ?_);refine a_.Mf (Hz) [6,3,5] rfl ⟨rfl,rfl,rfl,trivial⟩ rfl rfl rfl ?_;(conv=>rhs;simp only[Nf.YO,Nf.all,di,reduceAdd,reduceSub]);refine lz ?_;refine a_.gg rfl rfl rfl ?_;(try refine nz ?_);refine a_.Mf (zY) [8,6,3,5] rfl ⟨rfl,rfl,rfl,rfl,trivial⟩ rfl rfl rfl ?_;(conv=>rhs;simp only[Nf.YO,Nf.all,di,reduceAdd,reduceSub]);refine tE ?_)
 (apply e9;(exact gn.one (.tmp rfl rfl));(refine Le.fj ?_;(first|rfl|(rw[Dp,HN];rfl))))
theorem IH (a b:List Int) (ha:a.length≤1000000) (hb:b.length≤1000000):Fn Tryz.prog 92 [.pv (ints a),.pv (ints b)] (fu (decide (canon a=canon b))):=by
 have h1:=mR a ha
 have h2:=mR b hb
 have h3:=qB (canon a) (canon b)
 refine Fn.enter (n:=10) Tryz.func92 rfl rfl rfl rfl rfl (by decide) fun g fE fD=>?_;(try refine nz ?_)
 (refine sK ?_;refine zm ?_;refine zP (h1) ?_;refine zm ?_;refine zP (h2) ?_;refine zA (h3) ?_;refine kH ?_)
 (apply e9;(exact gn.one (.tmp rfl rfl));(refine Le.fu ?_;(rfl)))
theorem uD {vars:Int} {l:List Int} {k:Nat} (hk:k<l.length):e_ vars (l.take (k+1))=(e_ vars (l.take k) && decide (l[k]≠0∧l[k]≤vars∧0 - vars≤l[k])):=by
 unfold e_
 rw[fP hk,List.all_append]
 simp
theorem oX (vars:Int) (l:List Int) (hv: -1000000≤vars∧vars≤1000000):Fn Tryz.prog 83 [e7 vars,.pv (ints l)] (fu (e_ vars l)):=by
 refine Fn.enter (n:=9) Tryz.func83 rfl rfl rfl rfl rfl (by decide) fun g fE fD=>?_;(try refine nz ?_)
 refine AW.kL 1 rfl fun hlen=>?_
 (refine Da ?_;refine xv ?_;refine zm ?_;refine a_.ng rfl rfl rfl ?_;(with_reducible apply a_.inline (hf:=Tryz.func20));(with_reducible assumption);(iterate 10 exact rfl);intro g_ fE fD;refine wF ?_;refine a_.jA rfl rfl rfl ?_;(with_reducible apply a_.inline (hf:=Tryz.func42));(with_reducible assumption);(iterate 10 exact rfl);intro g_ fE fD;refine nz ?_;refine ta ?_;refine nj ?_)
 (refine nz ?_;apply AW.gP [7,0,1,1006,1005,1004,1000,1001,2006,2005,2004,2002,2001] [0] (fun k:Nat=>([(8,e7 k)]:List (Nat×AV))) (fun k:Nat=>([]:List (Nat×Option Ob))) (fun k:Nat=>k≤l.length∧e_ vars (l.take k)=true) (fun k:Nat=>l.length - k) (0);(conv=>lhs;simp only[Nf.n7,Nf.all,di,reduceAdd,reduceSub]);(all_goals skip))
 ·exact⟨bk _,rfl⟩
 ·exact fy rfl (by(refine aC ?_;(iterate 13 refine aC ?_);exact trivial)) (by(refine⟨.box _ rfl ?_,?_⟩;refine aC ?_;(iterate 2 exact trivial))) rfl
 rintro k ⟨hk,mL⟩
 by_cases fx:k<l.length
 ·have hs:=uD (vars:=vars) fx
  rw[mL,Bool.true_and] at hs
  by_cases hb:l[k]≠0∧l[k]≤vars∧0 - vars≤l[k]
  ·obtain⟨b1,b2,b3⟩:=hb
   rw[decide_eq_true ⟨b1,b2,b3⟩] at hs
   have b4:¬l[k]< -vars:=by omega
   have b5:¬vars<l[k]:=by omega
   (refine Ax ?_;refine aA ?_;refine zr ?_;(with_reducible apply a_.inline (hf:=Tryz.func113));(with_reducible assumption);(iterate 10 exact rfl);intro g_ fE fD;refine wF ?_;refine P4 ?_;refine xq ?_;refine F8 ?_;refine yy ?_)
   exact⟨k+1,⟨by omega,hs⟩,by omega,fy rfl (by(refine aC ?_;(iterate 13 refine aC ?_);exact trivial)) (by(refine⟨.box _ rfl ?_,?_⟩;refine aC ?_;(iterate 2 exact trivial))) rfl⟩
  ·have hf:=xh fx hb
   rw[hf]
   by_cases b1:l[k]=0
   ·(refine Ax ?_;refine aA ?_;refine zr ?_;(with_reducible apply a_.inline (hf:=Tryz.func113));(with_reducible assumption);(iterate 10 exact rfl);intro g_ fE fD;refine wF ?_;refine a_.eql rfl rfl rfl rfl rfl ?_;refine R6 ?_;refine kH ?_;refine GQ ?_;refine Me ?_;refine kH ?_)
    all_goals (apply e9;(exact gn.one (.tmp rfl rfl));(refine Le.fu ?_;(first|rfl)))
   ·by_cases b2:vars<l[k]
    ·(refine Ax ?_;refine aA ?_;refine zr ?_;(with_reducible apply a_.inline (hf:=Tryz.func113));(with_reducible assumption);(iterate 10 exact rfl);intro g_ fE fD;refine wF ?_;refine a_.eql rfl rfl rfl rfl rfl ?_;(iterate 2 refine kO ?_);refine zb ?_;refine F6 ?_;refine zm ?_;refine Ms ?_;refine kH ?_;refine GQ ?_;refine Me ?_;refine kH ?_)
     all_goals (apply e9;(exact gn.one (.tmp rfl rfl));(refine Le.fu ?_;(first|rfl)))
    ·have b3:l[k]< -vars:=by omega
     (refine Ax ?_;refine aA ?_;refine zr ?_;(with_reducible apply a_.inline (hf:=Tryz.func113));(with_reducible assumption);(iterate 10 exact rfl);intro g_ fE fD;refine wF ?_;refine P4 ?_;refine xq ?_;refine lq ?_;refine zq ?_;refine zm ?_;refine kH ?_;refine zJ ?_;refine Me ?_;refine kH ?_)
     all_goals (apply e9;(exact gn.one (.tmp rfl rfl));(refine Le.fu ?_;(first|rfl)))
 ·rw[iv (l:=l) aJ] at mL
  rw[mL]
  (refine uB ?_;refine oH ?_;refine Me ?_;refine kH ?_)
  (apply e9;(exact gn.one (.tmp rfl rfl));(refine Le.fu ?_;(first|rfl)))
end Go.Ab
/- Chapter 23:Go's slices.Delete of one clause. -/
namespace Go.Ab
open Go Go.Proofs Go.RowKit Go.Lib Go.Sort
set_option maxRecDepth 1000000
set_option maxHeartbeats 4000000
abbrev vv (u:Value):Value:=u
theorem Hu (b off cap i:Nat) (us:List Value) (w:World) (Za:Holds (fun u:Value=>u) w b off us.toArray) (h1:∀u∈us,u.oneCell'=true) (n_:us.length≤cap) (hm:cap≤maxLen) (hi:i<us.length):
  Calls Tryz.prog 88 #[.slice (some ⟨b,off,none⟩) us.length cap,.int .i64 i,.int .i64 (i+1)] w fun e w'=>e=.returned (.slice (some ⟨b,off,none⟩) (us.length - 1) cap)∧
   ∃n,w'=putRow (fun u:Value=>u) (Sort.ahead w n) b off (us.take i++us.drop (i+1)++ [Value.slice none 0 0]).toArray:=by
 have Yx:cap≤9223372036854775807:=aQ hm (by unfold maxLen;decide)
 obtain⟨d,hd⟩:∃d:Array Value,d=us.toArray:=⟨_,rfl⟩
 have UM:us.length=d.size:=by rw[hd];simp
 have A2:d.toList=us:=by rw[hd]
 have hH:Holds vv w b off d:=by rw[hd];exact Za
 rw[UM] at n_ hi ⊢
 rw[← A2] at h1 ⊢
 clear Za UM A2 hd
 obtain⟨j,hj⟩:∃j,j=i+1:=⟨_,rfl⟩
 have r9:i≤j:=by omega
 have hjd:j≤d.size:=by omega
 have fZ:¬(i:Int)=(j:Int):=by omega
 rw[show((i:Int)+1)=(j:Int) by omega,← hj,show d.size - 1=d.size - (j - i) by omega]
 have hz:(Tryz.prog.info? 29).map (fun i=>(i.size,i.zero))=some (1,some (.slice none 0 0)):=rfl
 obtain⟨i0,jh,yP,mE⟩:∃i0,Tryz.prog.info? 29=some i0∧i0.size=1∧i0.zero=some (.slice none 0 0):=by
  cases h:Tryz.prog.info? 29 with
  |none=>rw[h] at hz;simp at hz
  |some i0=>rw[h] at hz;simp at hz;exact⟨i0,rfl,hz.1,hz.2⟩
 obtain⟨news,Cu⟩:∃news,news=(d.toList.drop j).map vv:=⟨_,rfl⟩
 have hlen:news.length=d.size - j:=by rw[Cu];simp
 have Hm:∀t,t<d.size - j→news[t]? =some (vv d[j+t]!):=by
  intro t ht
  rw[Cu,List.getElem?_map,List.getElem?_drop,Array.getElem?_toList,getElem!_pos d (j+t) aJ,Array.getElem?_eq_getElem aJ]
  rfl
 obtain⟨A,hA,QF⟩:∃A:Addr,(if cap=j then some (⟨b,off,none⟩:Addr) else some ⟨b,off+j,none⟩)=some A∧Hid (∀t u,news[t]? =some u→w.drew.cell? (A.add t)=some u):=by
  by_cases h:cap=j
  ·refine⟨⟨b,off,none⟩,by simp [h],fun t u hu=>?_⟩
   have h0:news.length=0:=by rw[hlen];omega
   rw[List.length_eq_zero_iff.1 h0] at hu
   simp at hu
  ·refine⟨⟨b,off+j,none⟩,by simp [h],fun t u hu=>?_⟩
   have ht:t<d.size - j:=by
    have:=(List.getElem?_eq_some_iff.1 hu).1
    rwa [hlen] at this
   rw[Hm t ht] at hu
   rw[Addr.add_lit,show off+j+t=off+(j+t) by omega]
   exact(hH (j+t) aJ).1.trans hu
 have s1:Hid (news.length=(d.size - j)*1):=by rw[cH];exact hlen
 have s2:Hid (∀u∈news,u.oneCell'=true):=by
  intro u hu
  rw[Cu] at hu
  obtain⟨x,hx,rfl⟩:=bw.1 hu
  exact h1 x (List.mem_of_mem_drop hx)
 have s3:Hid (∀t,t<news.length→(w.drew.cell? ⟨b,off+i*1+t,none⟩).isSome=true∧w.drew.frozen? ⟨b,off+i*1+t,none⟩=false):=by
  intro t ht
  rw[hlen] at ht
  rw[cH,Nat.add_assoc]
  exact⟨by show(w.cell? _).isSome=true;rw[(hH (i+t) aJ).1];rfl,(hH (i+t) aJ).2⟩
 obtain⟨W1,VK⟩:∃W1,W1=w.drew.setCells b (off+i*1) news:=⟨_,rfl⟩
 have OU:W1=putRow vv (Sort.ahead w 1) b off (lay d i (d.toList.drop j)):=by
  rw[VK,Cu,cH,← putRow_setCells vv (Sort.ahead w 1) b off _ d i (by simp;omega),putRow_self vv (Sort.ahead w 1) b off d (holds_ahead vv w 1 b off d hH)]
  rfl
 have Yj:Holds vv W1 b off (lay d i (d.toList.drop j)):=by rw[OU];exact holds_putRow vv _ b off d _ (holds_ahead vv w 1 b off d hH) (lay_size _ _ _)
 have hv:∀w,(zeroValue 29).run Tryz.prog w=.ok (Value.slice none 0 0) w:=fun w=>by simp [zeroValue,typeInfo,jh,mE]
 have jq:∀ty,(Builtin.clear_ #[22] ty #[.slice (some ⟨b,off+(i+(d.size - j)),none⟩) (d.size - (i+(d.size - j))) (cap - (i+(d.size - j)))]).run Tryz.prog W1=.ok (.tuple #[]) (W1.setCells b (off+(i+(d.size - j))) (bY (d.size - (i+(d.size - j))) (Value.slice none 0 0))):=
  fun ty=>Lib.run_clear_slice W1 _ _ ty _ Tryz.underlying22 hv rfl rfl b (off+(i+(d.size - j))) _ _ aJ (fun t ht=>by rw[show off+(i+(d.size - j))+t=off+(i+(d.size - j)+t) by omega,(Yj _ (by rw[lay_size];omega)).1];rfl) (fun t ht=>by rw[show off+(i+(d.size - j))+t=off+(i+(d.size - j)+t) by omega];exact(Yj _ (by rw[lay_size];omega)).2)
 have X:Aside (W1=putRow vv (Sort.ahead w 1) b off (lay d i (d.toList.drop j))):=OU
 have hW:Hid (W1=w.drew.setCells b (off+i*1) news):=VK
 have hic:i≤cap:=by omega
 have hjc:j≤cap:=by omega
 have pz:j - i=1:=by omega
 clear VK OU Yj hH Hm Cu hlen hj h1
 go_enter Tryz.func88,Tryz.ntmps88
 go_wp2_with fail
 go_region_law (refine step_append_room rfl (.tmp 22) (.tmp 25) 22 rfl 29 i0 1 Tryz.underlying22 jh yP b off i cap (by simp [Act.eval,Act.put]) A (d.size - j) (cap - j) news (by simp [Act.eval,Act.put]) s1.out QF.out s2.out aJ s3.out ?_;rw[← hW.out])
 go_wp2
 go_ret
 refine⟨by rw[show d.size - (j - i)=i+(d.size - j) by omega];rfl,1,?_⟩
 rw[show [Value.slice none 0 0]=bY (j - i) (Value.slice none 0 0) by rw[pz];rfl]
 rw[← delete_arr d i j _ r9 hjd,← putRow_setCells vv _ b off _ _ (i+(d.size - j)) (by rw[lay_size];simp;omega),← X.out,dH,show d.size - (i+(d.size - j))=j - i by omega]
theorem TY:Q4 Tryz.prog 88 (Value.slice none 0 0) where
 enters:=enters_of Tryz.func88 rfl (by decide)
 calls:=fun b cap i us w h1 h2 h3 h4 h5=>Hu b 0 cap i us w h1 h2 h3 h4 h5
end Go.Ab
/- Chapter 23:images of clauses,symmetries. -/
namespace Go.Ab
open Go Go.Proofs
open Nat (reduceAdd reduceSub)
set_option maxRecDepth 20000
set_option maxHeartbeats 4000000
def sI (sym:List Int) (x:Int):Int:=if 0<x then sym.getD (x - 1).toNat 0 else -(sym.getD (-x - 1).toNat 0)
def mN (sym c:List Int):List Int:=c.map (sI sym)
def I0 (sym c:List Int) (i:Nat):List Int:=mN sym (c.take i)++bY (c.length - i) 0
theorem kI (sym c:List Int):I0 sym c 0=bY c.length 0:=by unfold I0 mN;simp
theorem Nv (sym c:List Int) {i:Nat} (hi:i≤c.length):(I0 sym c i).length=c.length:=by unfold I0 mN;simp;omega
theorem FK {sym c:List Int} {i:Nat} (hi:i<c.length) {v:Int} (hv:v=sI sym c[i]):(I0 sym c i).set i v=I0 sym c (i+1):=by
 subst hv
 unfold I0 mN
 rw[List.set_append_right _ _ (by rw[a6,dI];omega),a6,dI,Nat.min_eq_left aJ,Nat.sub_self,fP hi,cU,List.append_assoc]
 congr 1
 obtain⟨k,hk⟩:∃k,c.length - i=k+1:=⟨c.length - i - 1,by omega⟩
 rw[hk,show c.length - (i+1)=k by omega]
 rfl
theorem L8 (sym c:List Int) {i:Nat} (hi:¬i<c.length):I0 sym c i=mN sym c:=by
 unfold I0
 rw[cF aJ,show c.length - i=0 by omega]
 simp
theorem CA (sym c:List Int):(mN sym c).length=c.length:=by unfold mN;simp
attribute [local irreducible] AW a_ ga ft AR fB fp fG fU canon l4 kd ox I0
theorem BM (sym c:List Int) (hs:Sm sym) (hl:sym.length≤1000000) (hc:c.length≤100000) (hw:e_ sym.length c=true):Fn Tryz.prog 90 [.pv (ints sym),.pv (ints c)] (.pv (ints (mN sym c))):=by
 have hb:=fI hw
 refine Fn.enter (n:=40) Tryz.func90 rfl rfl rfl rfl rfl (by decide) fun g fE fD=>?_;(try refine nz ?_)
 (refine sK ?_;refine zm ?_;refine zn ?_;refine Rg ?_;refine nz ?_;refine sH ?_;refine u_ ?_;refine nj ?_)
 (refine nz ?_;apply AW.gP [12,11,4,0] [] (fun i:Nat=>([(5,.own 0 3 1 ((I0 sym c i).map encI)),(13,e7 i)]:List (Nat×AV))) (fun i:Nat=>([(0,some .row)]:List (Nat×Option Ob))) (fun i:Nat=>i≤c.length) (fun i:Nat=>c.length - i) (0);(conv=>lhs;simp only[Nf.n7,Nf.all,di,reduceAdd,reduceSub]);(all_goals skip))
 ·exact bk _
 ·exact fy rfl (by(refine⟨.fj (by first|rfl|(rw[kI,dH];rfl)|(show bY _ _=dJ encI _;rw[kI,dH,dt];rfl)) rfl,?_⟩;refine⟨.gx (by first|rfl|(rw[kI,dH];rfl)|(show bY _ _=dJ encI _;rw[kI,dH,dt];rfl)),?_⟩;refine⟨.gx (by first|rfl|(rw[kI,dH];rfl)|(show bY _ _=dJ encI _;rw[kI,dH,dt];rfl)),?_⟩;refine⟨.ia (by first|rfl|(rw[kI,dH];rfl)|(show bY _ _=dJ encI _;rw[kI,dH,dt];rfl)),?_⟩;refine aC ?_;refine⟨.ia (by first|rfl|(rw[kI,dH];rfl)|(show bY _ _=dJ encI _;rw[kI,dH,dt];rfl)),?_⟩;exact trivial)) (by(refine aF ?_;exact trivial)) rfl
 rintro i hi
 have E3:=Nv sym c hi
 by_cases fx:i<c.length
 ·obtain⟨b1,b2,b3⟩:=hb _ (cZ fx)
  by_cases hp:0<c[i]
  ·have hj:(c[i] - 1).toNat<sym.length:=by omega
   have Qc:0≤c[i] - 1:=by omega
   have hv:sym[(c[i] - 1).toNat]=sI sym c[i]:=by unfold sI;rw[if_pos hp,c8,a8 hj];rfl
   have F0:=FK fx hv
   (refine ly ?_;refine aA ?_;refine zr ?_;refine lj ?_;refine pZ ?_;refine a_.gtr rfl rfl rfl rfl rfl ?_;refine lq ?_;refine p_ ?_;refine a_.gg rfl rfl rfl ?_;(iterate 3 refine zm ?_);refine a_.sub rfl rfl rfl rfl rfl aJ ?_;refine ay ?_;refine zr ?_;refine DO ?_;refine a_.gA rfl rfl rfl rfl rfl rfl rfl rfl ?_;refine xK ?_)
   exact Uo
  ·have hj:(-c[i] - 1).toNat<sym.length:=by omega
   have Qc:0≤ -c[i] - 1:=by omega
   have HX:=hs _ (cZ hj)
   have hv: -sym[(-c[i] - 1).toNat]=sI sym c[i]:=by unfold sI;rw[if_neg hp,c8,a8 hj];rfl
   have F0:=FK fx hv
   (refine ly ?_;refine aA ?_;refine zr ?_;refine lj ?_;refine pZ ?_;refine a_.gtr rfl rfl rfl rfl rfl ?_;refine zd ?_;refine zk ?_;refine p_ ?_;refine a_.gg rfl rfl rfl ?_;(iterate 3 refine zm ?_);refine a_.neg rfl rfl rfl aJ ?_;refine a_.sub rfl rfl rfl rfl rfl aJ ?_;refine ay ?_;refine zr ?_;refine a_.neg rfl rfl rfl aJ ?_;refine DO ?_;refine a_.gA rfl rfl rfl rfl rfl rfl rfl rfl ?_;refine xK ?_)
   exact Uo
 ·rw[L8 _ _ aJ]
  (refine uB ?_;refine mF ?_;refine a_.gg rfl rfl rfl ?_;refine tE ?_)
  (apply e9;(exact gn.one (.tmp rfl rfl));(exact Le.own _ _ _ _ rfl))
end Go.Ab
