/- Chapter 20, the reference's small functions: what each computes, and its walk. -/
import Derived.Test.YtigjjjpcjnifhaaGreatDoorRows
import Derived.Test.YtigjjjpcjnifhaaGreatDoorAbZ
import Derived.Test.YtigjjjpcjnifhaaGreatDoorAbL2
import Derived.Test.YtigjjjpcjnifhaaGreatDoorAbL3
import Derived.Shelf.Strings.Builder1
import Derived.Shelf.Strings.Builder2
import Derived.Shelf.Strings.OnBuilder
import Derived.Shelf.Small.Bits
import Derived.Shelf.Small.Strs
import Derived.Shelf.Small.Wraps
import Derived.Shelf.Strings.BuilderF
import Derived.Shelf.Strings.BuilderK
import Derived.Shelf.Utf8.RuneCount
import Derived.Shelf.Strings.Builder2Cap
import Derived.Shelf.Strconv.Atoi
import Derived.Shelf.Strconv.Itoa0
import Derived.Shelf.Strconv.Itoa1
import Derived.Shelf.LaysM
import Derived.Shelf.Strconv.Itoa2
import Derived.Shelf.Strconv.Itoa3
import Derived.Shelf.Strconv.AtoiErrFast
import Derived.Shelf.Strconv.ParseIntEmpty
import Derived.Shelf.Strconv.AtoiFail
import Derived.Shelf.Strconv.Clone
import Derived.Shelf.Strconv.SyntaxError
import Derived.Shelf.LaysC
import Derived.Shelf.Strconv.ToError
import Derived.Shelf.Strconv.AtoiErr
import Derived.Shelf.Strconv.Lower
import Derived.Shelf.Strconv.ParseUint10
import Derived.Shelf.Strconv.ParseUint10Empty
import Derived.Shelf.Strconv.ParseUint10Any
import Derived.Shelf.Strconv.ParseInt10
import Derived.Shelf.Strconv.AtoiLong
import Derived.Shelf.Strconv.AtoiInnerAll
import Derived.Shelf.Strconv.RangeError
import Derived.Shelf.Strconv.ToErrorRange
import Derived.Shelf.Strconv.AtoiAll
import Derived.Shelf.Strconv.ErrVarAll
import Derived.Shelf.Strconv.ParseUintEmpty
import Derived.Shelf.Strconv.ParseUint10b64
import Derived.Shelf.Strconv.ParseUint10b32
import Derived.Shelf.Strconv.ParseUint10b16
import Derived.Shelf.Strconv.ParseUint10b8
import Derived.Shelf.Strconv.ParseUint10At
import Derived.Shelf.Strings.Search1
import Derived.Shelf.Strings.Search2
import Derived.Shelf.Strings.Search3
import Derived.Shelf.Strings.Cut
import Derived.Shelf.Strings.Count
import Derived.Shelf.Strings.Shaped
import Derived.Shelf.Sort.Plain
import Derived.Shelf.Strings.Prefix
import Derived.Shelf.Strings.Split
import Derived.Shelf.Strings.SplitShaped
import Derived.Shelf.Unicode.Decode
import Derived.Shelf.Strings.RuneCount
import Derived.Shelf.Strings.Explode
import Derived.Shelf.Unicode.DecodeSlow
import Derived.Shelf.Unicode.DecodeAny
import Derived.Shelf.Strings.BuilderCap
import Derived.Shelf.Slices.Turned
import Derived.Shelf.Slices.Equal
import Derived.Ground.Names2Prog
import Derived.Shelf.Slices.Clone
import Derived.Shelf.Slices.CompactI
import Derived.Shelf.Slices.SearchI
import Derived.Shelf.Slices.Cells
import Derived.Shelf.Slices.In.SortNone
import Derived.Shelf.Slices.Empties2
import Derived.Ground.SlgnProg
import Derived.Shelf.SlicesE.Delete
import Derived.Shelf.SlicesE.Clone
import Derived.Test.YtigjjjpcjnifhaaGreatDoorProg
import Derived.Lib.SlicesCompact
import Derived.WalkKit
import Derived.Deep.RegionLaw
import Derived.Deep.LoopGhost
import Derived.Lib.Walk
import Derived.Lib.SliceRun
import Derived.Lib.SlicesDelete
import Derived.Sort.WalkB12
set_option linter.unusedSimpArgs false
set_option linter.unusedVariables false
open List renaming take_of_length_le→cG,mem_append→bX,getElem_mem→cZ,drop_eq_getElem_cons→dm,foldl_cons→ct,mem_map→bx,mem_singleton→cq,any_eq_false→dD,map_append→cV,all_eq_true→bD,mem_cons→bw,drop_eq_nil_of_le→dE,replicate→bZ,length_map→a6,pairwise_cons→dF,mem_filter→de,mem_range→dG,map_replicate→dH,length_take→dI,map→dJ,getD_eq_getElem?_getD→c8,getElem?_eq_getElem→a8
open Int renaming zero_sub→dh,toNat_natCast→dt
open Nat renaming zero_le→bm,le_refl→aP,le_trans→aQ,reduceBEq→di,mul_one→cI
namespace Go.Ab
open Go Go.Proofs
set_option maxRecDepth 20000
set_option maxHeartbeats 4000000
attribute [local irreducible] AW a_ gb fq
theorem fw {α:Type} {l:List α} {k:Nat} (hk:k<l.length):l.take (k+1)=l.take k++ [l[k]]:=List.take_succ_eq_append_getElem hk
theorem gC {α:Type} {l:List α} {k:Nat} (h:¬(k:Int)<(l.length:Int)):l.take k=l:=cG (by omega)
theorem G5 {l:List Int} {x:Int} {k:Nat} (h1:x∉l.take k) (hk:k<l.length) (h2:¬l[k]=x):x∉l.take (k+1):=by
 rw[fw hk,bX]
 simp [h1,Ne.symm h2]
def Sm (l:List Int):Prop:=∀x∈l,-1000000000000≤x∧x≤1000000000000
def eX (vars:Int) (l:List Int):Bool:=l.all fun x=>decide (x≠0∧x≤vars∧0 - vars≤x)
theorem v7 {vars:Int} {l:List Int} {k:Nat} (hk:k<l.length) (h:¬(l[k]≠0∧l[k]≤vars∧0 - vars≤l[k])):eX vars l=false:=by
 unfold eX
 rw[List.all_eq_false]
 exact⟨l[k],cZ hk,by simpa using h⟩
def gy (l:List Int):Bool:=l.any fun x=>decide ((0 - x)∈l)
theorem A6 {l:List Int} {k:Nat} (hk:k<l.length) (h:(0 - l[k])∈l):gy l=true:=by
 unfold gy;rw[List.any_eq_true];exact⟨l[k],cZ hk,by simpa using h⟩
end Go.Ab
/- Chapter 20,the reference's run:what each function computes,and its walk. -/
namespace Go.Ab
open Go Go.Proofs
set_option maxRecDepth 20000
set_option maxHeartbeats 4000000
attribute [local irreducible] AW a_ gb fq
abbrev F7 (vars:Int) (cl:List (List Int)):AV:=.agg [eV vars,.pv (jj cl)]
def l8 (vars:Int) (cl:List (List Int)):Bool:=decide (0≤vars∧vars≤20000∧(cl.length:Int)≤60000) && cl.all (eX vars)
theorem DH {vars:Int} {cl:List (List Int)} (h:¬(0≤vars∧vars≤20000∧(cl.length:Int)≤60000)):l8 vars cl=false:=by
 simp only[l8,decide_eq_false h,Bool.false_and]
def ij (xH:List Int):List Int→Int→Int×Int
 |[],left=>if left=0 then (1,0) else (2,left)
 |x::c,left=>if x∈xH∨((0 - x)∉xH∧left≠0∧left≠x) then (0,0) else ij xH c (if (0 - x)∈xH then left else x)
def gZ (c xH:List Int):Int×Int:=ij xH c 0
end Go.Ab
/- Chapter 20,the reference's trail:one step,the run. -/
namespace Go.Ab
open Go Go.Proofs
set_option maxRecDepth 20000
set_option maxHeartbeats 4000000
attribute [local irreducible] AW a_ gb fq
abbrev Tr:=List Int×List Int×Int
def kq (t:Tr):Int→List (List Int)→Tr×Bool
 |_,[]=>(t,false)
 |i,c::cl=>if (gZ c t.1).1=1 then ((t.1,t.2.1,i),false) else if (gZ c t.1).1=2 then ((t.1++ [(gZ c t.1).2],t.2.1++ [i],t.2.2),true) else kq t (i+1) cl
def kP (cl:List (List Int)) (t:Tr):Tr×Bool:=kq t 0 cl
theorem xf (t:Tr) (cl:List (List Int)) (k:Nat) (h:k<cl.length):kq t k (cl.drop k)=
  if (gZ cl[k] t.1).1=1 then ((t.1,t.2.1,(k:Int)),false) else if (gZ cl[k] t.1).1=2 then ((t.1++ [(gZ cl[k] t.1).2],t.2.1++ [(k:Int)],t.2.2),true) else kq t (k+1:Nat) (cl.drop (k+1)):=by
 rw[dm h];rfl
end Go.Ab
/- Chapter 20,the reference's run. -/
namespace Go.Ab
open Go Go.Proofs
set_option maxRecDepth 20000
set_option maxHeartbeats 4000000
attribute [local irreducible] AW a_ gb fq
def mA (t:Tr) (x:Int):Tr:=if x∈t.1 then t else (t.1++ [x],t.2.1++ [-1],t.2.2)
def il (assume:List Int):Tr:=assume.foldl mA ([],[],-1)
def qn (cl:List (List Int)):Nat→Tr→Tr
 |0,t=>t
 |n+1,t=>if (kP cl t).2 then qn cl n (kP cl t).1 else (kP cl t).1
def runM (vars:Int) (cl:List (List Int)) (assume:List Int):Tr:=qn cl (vars+1).toNat (il assume)
theorem Hl (t:Tr) (x:Int):(mA t x).1.length≤t.1.length+1∧(mA t x).2.1.length≤t.2.1.length+1:=by
 unfold mA;split<;>simp
theorem Gw (l:List Int):∀t:Tr,(l.foldl mA t).1.length≤t.1.length+l.length∧(l.foldl mA t).2.1.length≤t.2.1.length+l.length:=by
 induction l with
 |nil=>intro t;simp
 |cons x l ih=>intro t;have h1:=ih (mA t x);have h2:=Hl t x;simp only[ct,List.length_cons];omega
theorem Cr (assume:List Int):(il assume).1.length≤assume.length∧(il assume).2.1.length≤assume.length:=by
 have:=Gw assume ([],[],-1);simpa [il] using this
theorem AU {assume:List Int} {k:Nat} (h:k<assume.length):il (assume.take (k+1))=mA (il (assume.take k)) assume[k]:=by
 unfold il;rw[fw h,List.foldl_append];rfl
end Go.Ab
/- Chapter 20,the reference's answers. -/
namespace Go.Ab
open Go Go.Proofs
set_option maxRecDepth 20000
set_option maxHeartbeats 4000000
attribute [local irreducible] AW a_ gb fq
def yk (l:List Int) (x:Int):Int:=if x∈l then (l.idxOf x:Int) else -1
theorem I0 {l:List Int} {x:Int} {k:Nat} (hk:k<l.length) (h:l[k]=x) (kY:x∉l.take k):(k:Int)=yk l x:=by
 have hm:x∈l:=h▸cZ hk
 rw[yk,if_pos hm]
 have:l.idxOf x=k:=by
  have e:l=l.take k++x::l.drop (k+1):=by
   rw[← h,List.getElem_cons_drop,List.take_append_drop]
  rw[e,List.idxOf_append,if_neg kY,List.idxOf_cons_self]
  simp;omega
 rw[this]
def impl (l:List (Int×Int)):List (Int×Int):=l.filter fun p=>decide (0≤p.2)
def pr (t:Tr):List (Int×Int):=t.1.zip t.2.1
def vY (vars:Int) (cl:List (List Int)) (assume:List Int):List Int×Int:=
 if gy assume=true then ([],-2) else ((impl (pr (runM vars cl assume))).map (·.1),(runM vars cl assume).2.2)
def qx (t:Tr):Prop:=t.2.1.length=t.1.length
theorem I8 {t:Tr} (h:qx t) (x:Int):qx (mA t x):=by
 unfold mA qx at*;split<;>simp [h]
theorem Dn (assume:List Int):qx (il assume):=by
 have:∀(l:List Int) (t:Tr),qx t→qx (l.foldl mA t):=by
  intro l
  induction l with
  |nil=>intro t h;exact h
  |cons x l ih=>intro t h;exact ih _ (I8 h x)
 exact this assume _ rfl
end Go.Ab
/- Chapter 20,the reference's answers:reasons,implied clauses. -/
namespace Go.Ab
open Go Go.Proofs
set_option maxRecDepth 20000
set_option maxHeartbeats 4000000
attribute [local irreducible] AW a_ gb fq
def gR (vars:Int) (cl:List (List Int)) (c:List Int):Bool:=
 if gy (c.map fun x=>0 - x)=true then true else decide (0≤(runM vars cl (c.map fun x=>0 - x)).2.2)
theorem OF {l:List Int} (h:Sm l):Sm (l.map fun x=>0 - x):=by
 intro x hx
 obtain⟨y,hy,rfl⟩:=bx.1 hx
 have:=h y hy
 omega
end Go.Ab
/- Chapter 20:the library's search,the closure. -/
namespace Go.Ab
open Go Go.Proofs
set_option maxRecDepth 20000
set_option maxHeartbeats 4000000
attribute [local irreducible] AW a_ gb fq
theorem JC (l:List Int) (x:Int):Fn Tryz.prog 41 [.pv (ints l),eV x] (eV (yk l x)):=by
 refine Fn.enter (n:=19) Tryz.func41 rfl rfl rfl rfl rfl (by decide) fun g fD fB=>?_;(try refine nz ?_)
 refine AW.jE 0 rfl fun hlen=>?_
 (refine w6 ?_;refine n_ ?_)
 refine AW.loop (fun(k:Nat)=>{n:=19,env:=[(0,.pv (ints l)),(1,eV x),(7,eV l.length),(8,eV k)],gm:=[],nx:=0}) (fun k=>k≤l.length∧x∉l.take k) (fun k=>l.length - k) 0 ?_ ?_ ?_
 ·simp
 ·exact KX
 rintro k ⟨hk,kY⟩
 (refine zq ?_;refine zs ?_;refine zd ?_;refine zo ?_;(focus ((with_reducible apply AW.qB);exact rfl;exact rfl;all_goals intro qq));refine Cd ?_;refine zo ?_;refine AW.block ?_;refine ly ?_;refine zm ?_;refine pB ?_;(iterate 3 refine zm ?_);refine aA ?_;refine zr ?_;refine pN ?_;(focus ((with_reducible apply AW.qB);exact rfl;exact rfl;all_goals intro qq));refine ly ?_;refine zm ?_;refine kQ ?_;refine wu ?_;(all_goals skip);rotate_left;refine uB ?_;refine oI ?_;(all_goals skip);rotate_left;refine D5 ?_;refine lf ?_;(all_goals skip);rotate_left)
 ·exact e6 (.one (.tmp rfl rfl)) (.eV (I0 (l:=l) aJ qq.symm kY))
 ·exact⟨k+1,⟨by omega,G5 (l:=l) kY aJ (Ne.symm qq)⟩,by omega,fp rfl (by(refine aC ?_;(iterate 3 refine aC ?_);exact trivial)) (by(exact trivial)) rfl⟩
 ·exact e6 (.one (.tmp rfl rfl)) (.eV (by rw[gC (l:=l) aJ] at kY;rw[yk,if_neg kY]))
theorem Fm (l:List Int) (x:Int):decide (0≤yk l x)=decide (x∈l):=by
 unfold yk
 by_cases h:x∈l
 ·rw[if_pos h];simp [h]
 ·rw[if_neg h];simp [h]
theorem np (l:List Int) (x:Int):Fn Tryz.prog 18 [.pv (ints l),eV x] (fh (decide (x∈l))):=by
 refine Fn.enter (n:=9) Tryz.func18 rfl rfl rfl rfl rfl (by decide) fun g fD fB=>?_;(try refine nz ?_)
 (refine zq ?_;refine pB ?_;(iterate 2 refine zm ?_);refine a_.call (JC _ _) (.cons rfl (.pv _) (.cons rfl (.pv _) .nil)) rfl rfl (fun h_=>by cases h_) ?_;refine AL ?_)
 (apply e6;(exact gk.one (.tmp rfl rfl));(refine Le.fh ?_;(exact Fm l x)))
end Go.Ab
/- Chapter 20:unitprop's test for contradictory literals. -/
namespace Go.Ab
open Go Go.Proofs
set_option maxRecDepth 20000
set_option maxHeartbeats 4000000
attribute [local irreducible] AW a_ gb fq
theorem GD (l:List Int) (hs:Sm l):Fn Tryz.prog 39 [.pv (ints l)] (fh (gy l)):=by
 refine Fn.enter (n:=6) Tryz.func39 rfl rfl rfl rfl rfl (by decide) fun g fD fB=>?_;(try refine nz ?_)
 refine AW.jE 0 rfl fun hlen=>?_
 (refine zq ?_;refine Ee ?_;refine pB ?_;refine zb ?_;refine a_.lE rfl rfl rfl ?_;(with_reducible apply a_.inline (hf:=Tryz.func20));(with_reducible assumption);(iterate 10 exact rfl);intro g_ fD fB;refine sW ?_;refine zm ?_;refine a_.j7 rfl rfl rfl ?_;(with_reducible apply a_.inline (hf:=Tryz.func42));(with_reducible assumption);(iterate 10 exact rfl);intro g_ fD fB;refine uw ?_;refine FY ?_)
 refine AW.loop (fun(k:Nat)=>{n:=19,env:=[(0,.pv (ints l)),(1,.jk (.func 74) [] [.ptr 0 0]),(7,eV l.length),(8,eV k)],gm:=[(0,some (.box [.pv (ints l)]))],nx:=1}) (fun k=>k≤l.length∧(∀x∈l.take k,(0 - x)∉l)) (fun k=>l.length - k) 0 ?_ ?_ ?_
 ·simp
 ·exact fp rfl (by(refine aC ?_;(iterate 3 refine aC ?_);exact trivial)) (by(refine⟨.box _ rfl ?_,?_⟩;refine aC ?_;(iterate 2 exact trivial))) rfl
 rintro k ⟨hk,kY⟩
 by_cases fm:k<l.length
 ·have hx:=hs _ (cZ fm)
  (refine yM ?_;refine aA ?_;refine zr ?_;(with_reducible apply a_.inline (hf:=Tryz.func74));(with_reducible assumption);(iterate 10 exact rfl);intro g_ fD fB;refine sW ?_;refine jf ?_;refine a_.neg rfl rfl rfl aJ ?_;refine a_.call (np _ _) (.cons rfl (.pv _) (.cons rfl (.pv _) .nil)) rfl rfl (fun h_=>by cases h_) ?_;refine kQ ?_;refine w8 ?_;refine zd ?_;(focus ((with_reducible apply AW.qB);exact rfl;exact rfl;all_goals intro qq));refine ta ?_;refine kQ ?_;refine wu ?_;refine w8 ?_;refine AL ?_;refine w8 ?_;refine kQ ?_;(all_goals skip);rotate_left;refine uB ?_;refine Ba ?_;(all_goals skip);rotate_left)
  ·(apply e6;(exact gk.one (.tmp rfl rfl));(refine Le.fh ?_;(rw[A6 fm (by rw[dh];exact qq)];simp)))
  ·exact⟨k+1,⟨by omega,by rw[fw fm];intro x hx;rcases bX.1 hx with h|h;exact kY x h;simp only[cq] at h;subst h;rw[dh];exact qq⟩,by omega,fp rfl (by(exact Ky)) (by(refine⟨.box _ rfl ?_,?_⟩;refine aC ?_;(iterate 2 exact trivial))) rfl⟩
 ·(refine lU ?_;refine lf ?_;refine w8 ?_;refine AL ?_;refine w8 ?_;refine kQ ?_)
  have hf:gy l=false:=by rw[gC (l:=l) aJ] at kY;unfold gy;rw[dD];simpa using kY
  (apply e6;(exact gk.one (.tmp rfl rfl));(refine Le.fh ?_;(rw[hf];rfl)))
end Go.Ab
/- Chapter 20:unitprop's run,the plain part:what open and active compute,beside the reference's step. -/
namespace Go.Ab
open Go Go.Proofs
set_option maxRecDepth 20000
set_option maxHeartbeats 4000000
def fP (tr:List Int):List Int→List Int→Option (List Int)
 |[],out=>some out
 |x::c,out=>if x∈tr then none else fP tr c (if (-x)∉tr∧x∉out then out++ [x] else out)
theorem xd (tr c:List Int) (k:Nat) (out:List Int) (h:k<c.length):fP tr (c.drop k) out=
  if c[k]∈tr then none else fP tr (c.drop (k+1)) (if (-c[k])∉tr∧c[k]∉out then out++ [c[k]] else out):=by
 rw[dm h];rfl
theorem yW (tr:List Int):∀(c out r:List Int),fP tr c out=some r→∃s,r=out++s:=by
 intro c
 induction c with
 |nil=>intro out r h;simp only[fP,Option.some.injEq] at h;exact⟨[],by simp [h]⟩
 |cons x c ih=>
  intro out r h
  unfold fP at h
  split at h
  ·cases h
  ·obtain⟨s,hs⟩:=ih _ _ h
   split at hs
   ·exact⟨x::s,by simpa using hs⟩
   ·exact⟨s,hs⟩
def qA:Option (List Int)→Int×Int
 |none=>(0,0)
 |some []=>(1,0)
 |some [x]=>(2,x)
 |some _=>(0,0)
theorem FQ {tr c out:List Int} (h:2≤out.length):qA (fP tr c out)=(0,0):=by
 cases hc:fP tr c out with
 |none=>rfl
 |some r=>
  obtain⟨s,rfl⟩:=yW tr c out r hc
  match out,h with
  |a::b::out,_=>rfl
theorem Bk (tr:List Int):∀(c:List Int),(∀x∈c,x≠0)→
  (ij tr c 0=qA (fP tr c []))∧∀l,l≠0→ij tr c l=qA (fP tr c [l]):=by
 intro c
 induction c with
 |nil=>intro _;exact⟨rfl,fun l hl=>by simp [ij,fP,qA,hl]⟩
 |cons x c ih=>
  intro h
  have hx:x≠0:=h x (by simp)
  obtain⟨i1,i2⟩:=ih fun y hy=>h y (by simp [hy])
  have e:(0:Int) - x= -x:=by omega
  refine⟨?_,fun l hl=>?_⟩
  ·unfold ij fP
   by_cases h1:x∈tr
   ·simp [h1,qA]
   ·by_cases h2:(-x)∈tr
    ·simp [h1,h2,e,i1]
    ·simp only[h1,h2,e,false_or,not_false_eq_true,true_and,ne_eq,not_true_eq_false,false_and,and_false,if_false,List.not_mem_nil,if_true,List.nil_append]
     exact i2 x hx
  ·unfold ij fP
   by_cases h1:x∈tr
   ·simp [h1,qA]
   ·by_cases h2:(-x)∈tr
    ·simp only[h1,h2,e,false_or,not_true_eq_false,false_and,if_false,if_true]
     exact i2 l hl
    ·by_cases h3:l=x
     ·subst h3
      simp only[h1,h2,e,false_or,not_false_eq_true,true_and,ne_eq,not_true_eq_false,and_false,if_false,cq]
      exact i2 l hl
     ·rw[if_pos (.inr ⟨by rw[e];exact h2,hl,h3⟩),if_neg h1,if_pos ⟨h2,by simp;exact fun e=>h3 e.symm⟩]
      exact(FQ (by simp)).symm
theorem mx (c tr:List Int) (h:∀x∈c,x≠0):gZ c tr=qA (fP tr c []):=(Bk tr c h).1
theorem oP (tr:List Int):∀(c out r:List Int),fP tr c out=some r→(∀y∈out,y∉tr∧(-y)∉tr)→∀y∈r,(y∈out∨y∈c)∧y∉tr∧(-y)∉tr:=by
 intro c
 induction c with
 |nil=>intro out r h ho y hy;simp only[fP,Option.some.injEq] at h;subst h;exact⟨.inl hy,ho y hy⟩
 |cons x c ih=>
  intro out r h ho y hy
  unfold fP at h
  split at h
  ·cases h
  ·rename_i hx
   split at h
   ·rename_i h2
    have:=ih _ _ h (by intro z hz;rcases bX.1 hz with hz|hz;exact ho z hz;simp at hz;subst hz;exact⟨hx,h2.1⟩) y hy
    refine⟨?_,this.2⟩
    rcases this.1 with h3|h3
    ·rcases bX.1 h3 with h3|h3
     ·exact .inl h3
     ·simp at h3;subst h3;exact .inr (by simp)
    ·exact .inr (by simp [h3])
   ·have:=ih _ _ h ho y hy
    exact⟨this.1.imp id (fun h=>by simp [h]),this.2⟩
def pA (vars:Int) (l:List Int):Prop:=(l.map Int.natAbs).Nodup∧∀x∈l,x≠0∧x≤vars∧ -vars≤x
theorem Hp:∀(n:Nat) {l:List Nat},l.Nodup→(∀x∈l,1≤x∧x≤n)→l.length≤n:=by
 intro n
 induction n with
 |zero=>intro l _ h;cases l with|nil=>simp|cons x l=>have:=h x (by simp);omega
 |succ n ih=>
  intro l hn h
  have h1:=ih (l:=l.erase (n+1)) (hn.erase _) (fun x hx=>by
   have h2:=h x (List.mem_of_mem_erase hx)
   have h3:x≠n+1:=fun e=>by subst e;exact(List.Nodup.not_mem_erase hn) hx
   omega)
  have:=List.length_erase (a:=n+1) (l:=l)
  split at this<;>omega
theorem pA.len {vars:Int} {l:List Int} (h:pA vars l):(l.length:Int)≤max vars 0:=by
 have:=Hp vars.toNat h.1 (fun x hx=>by
  obtain⟨y,hy,rfl⟩:=bx.1 hx
  have:=h.2 y hy
  omega)
 simp at this;omega
theorem pA.add {vars:Int} {l:List Int} (h:pA vars l) {x:Int} (hx:x≠0∧x≤vars∧ -vars≤x) (h1:x∉l) (h2:(-x)∉l):pA vars (l++ [x]):=by
 refine⟨?_,fun y hy=>?_⟩
 ·rw[cV,List.nodup_append]
  refine⟨h.1,by simp,?_⟩
  intro a ha b hb e
  simp at hb;subst hb;subst e
  obtain⟨y,hy,he⟩:=bx.1 ha
  have:y=x∨y= -x:=by omega
  rcases this with rfl|rfl
  ·exact h1 hy
  ·exact h2 hy
 ·rcases bX.1 hy with hy|hy
  ·exact h.2 y hy
  ·simp at hy;subst hy;exact hx
theorem fE {vars:Int} {l:List Int} (h:eX vars l=true):∀x∈l,x≠0∧x≤vars∧ -vars≤x:=by
 intro x hx
 have:=bD.1 h x hx
 simp at this
 omega
theorem oF (assume:List Int):(∀x,x∈(il assume).1↔x∈assume):=by
 have:∀(l:List Int) (t:Tr) (x:Int),x∈(l.foldl mA t).1↔x∈t.1∨x∈l:=by
  intro l
  induction l with
  |nil=>intro t x;simp
  |cons y l ih=>
   intro t x
   rw[ct,ih,bw]
   unfold mA
   split
   ·rename_i h
    constructor
    ·rintro(h1|h1);exact .inl h1;exact .inr (.inr h1)
    ·rintro(h1|rfl|h1);exact .inl h1;exact .inl h;exact .inr h1
   ·simp only[bX,cq]
    rw[or_assoc]
 intro x
 have:=this assume ([],[],-1) x
 simpa [il] using this
theorem B3 {vars:Int} {assume:List Int} (h:eX vars assume=true) (hc:gy assume=false):pA vars (il assume).1:=by
 have key:∀(l:List Int) (t:Tr),(∀x∈t.1,x∈assume)→(∀x∈l,x∈assume)→pA vars t.1→pA vars (l.foldl mA t).1:=by
  intro l
  induction l with
  |nil=>intro t _ _ h;exact h
  |cons y l ih=>
   intro t h1 h2 h3
   rw[ct]
   have hy:=h2 y (by simp)
   refine ih _ ?_ (fun x hx=>h2 x (by simp [hx])) ?_
   ·intro x hx
    unfold mA at hx
    split at hx
    ·exact h1 x hx
    ·rcases bX.1 hx with hx|hx
     ·exact h1 x hx
     ·simp at hx;subst hx;exact hy
   ·unfold mA
    split
    ·exact h3
    ·rename_i hn
     refine h3.add (fE h y hy) hn (fun hm=>?_)
     unfold gy at hc
     rw[dD] at hc
     have:=hc y hy
     simp at this
     exact this (h1 _ hm)
 exact key assume _ (by simp) (fun x hx=>hx) ⟨by simp,by simp⟩
structure xr (vars:Int) (cl:List (List Int)) (assume:List Int) (t:Tr) (n:Nat):Prop where
 dist:pA vars t.1
 even:qx t
 CF:t.2.2= -1
 le:n≤t.1.length
 eq:runM vars cl assume=qn cl (vars+1 - n).toNat t
theorem vT {vars:Int} {cl:List (List Int)} {assume:List Int} (_hv:0≤vars) (h:eX vars assume=true) (hc:gy assume=false):xr vars cl assume (il assume) 0:=by
 refine⟨B3 h hc,Dn _,?_,bm _,?_⟩
 ·have:∀(l:List Int) (t:Tr),(l.foldl mA t).2.2=t.2.2:=by
   intro l
   induction l with
   |nil=>intro t;rfl
   |cons y l ih=>intro t;rw[ct,ih];unfold mA;split<;>rfl
  exact this assume _
 ·simp [runM]
theorem xr.fuel {vars:Int} {cl:List (List Int)} {assume:List Int} {t:Tr} {n:Nat} (hv:0≤vars) (h:xr vars cl assume t n):(vars+1 - (n:Int)).toNat=(vars+1 - ((n+1:Nat):Int)).toNat+1:=by
 have:=h.dist.len
 have:=h.le
 omega
theorem xr.stop {vars:Int} {cl:List (List Int)} {assume:List Int} {t t':Tr} {n:Nat} (hv:0≤vars) (h:xr vars cl assume t n) (hs:kP cl t=(t',false)):runM vars cl assume=t':=by
 rw[h.eq,h.fuel hv,qn,hs];rfl
theorem xr.go {vars:Int} {cl:List (List Int)} {assume:List Int} {t:Tr} {n:Nat} (hv:0≤vars) (h:xr vars cl assume t n) {x r:Int} (hs:kP cl t=((t.1++ [x],t.2.1++ [r],t.2.2),true))
  (hx:x≠0∧x≤vars∧ -vars≤x) (h1:x∉t.1) (h2:(-x)∉t.1):xr vars cl assume (t.1++ [x],t.2.1++ [r],-1) (n+1):=by
 refine⟨h.dist.add hx h1 h2,?_,rfl,?_,?_⟩
 ·have:t.2.1.length=t.1.length:=h.even
  show(t.2.1++ [r]).length=(t.1++ [x]).length
  simp [this]
 ·have:=h.le;simp;exact this
 ·rw[h.eq,h.fuel hv,qn,hs]
  show qn cl _ (t.1++ [x],t.2.1++ [r],t.2.2)=_
  rw[h.CF]
end Go.Ab
/- Chapter 20:unitprop's run,walked. -/
namespace Go.Ab
open Go Go.Proofs
set_option maxRecDepth 20000
set_option maxHeartbeats 4000000
attribute [local irreducible] AW a_ gb fq fz sS fJ
theorem LN (vars:Int) (cl:List (List Int)) (assume:List Int) (iR:∀c∈cl,eX vars c=true∧c.length≤100000) (h3:cl.length≤1000000) (hv:0≤vars∧vars≤100000) (ha:assume.length≤100000) (hw:eX vars assume=true) (hc:gy assume=false):
  Fn Tryz.prog 40 [F7 vars cl,.pv (ints assume)] (.fV [.lit (.int .i64 vars),jj cl,ints (runM vars cl assume).1,ints (runM vars cl assume).2.1,.any,.lit (.int .i64 (runM vars cl assume).2.2)]):=by
 refine Fn.enter (n:=46) Tryz.func40 rfl rfl rfl rfl rfl (by decide) fun g fD fB=>?_;(try refine nz ?_)
 (refine zq ?_;refine Ee ?_;refine pB ?_;refine rq ?_;refine a_.DU (t:=81) rfl ?_;refine nz ?_;refine a_.Ag 83 [0,4,5] rfl rfl rfl rfl rfl rfl rfl rfl rfl ?_;refine nz ?_;refine Ee ?_;refine uI ?_;refine DX ?_;refine zd ?_;refine nf ?_;refine n_ ?_)
 refine AW.jE 1 rfl fun hlen=>?_
 refine AW.loop (fun(k:Nat)=>{n:=46,env:=[(5,.ptr 3 0),(14,.pv (ints assume)),(15,eV assume.length),(16,eV k)],gm:=[(1,some (.mp (jL (lZ (il (assume.take k)).1)))),(2,some (.box [eV vars,.pv (jj cl),.own 4 3 1 ((il (assume.take k)).1.map encI),.own 5 3 1 ((il (assume.take k)).2.1.map encI),.gq 1,eV (-1)])),(3,some (.box [.ptr 2 0])),(4,some .row),(5,some .row)],nx:=6})
  (fun k=>k≤assume.length) (fun k=>assume.length - k) 0 ?_ ?_ ?_
 ·simp
 ·exact fp rfl (by(refine aC ?_;refine⟨.ib (by first|with_reducible rfl|(simp [il])),?_⟩;(iterate 2 refine⟨.fQ (by first|with_reducible rfl|(simp [il])),?_⟩);exact trivial)) (by(refine⟨WO.SL rfl,?_⟩;refine⟨.box _ rfl ?_,?_⟩;refine⟨.fQ (by first|with_reducible rfl|(simp [il])),?_⟩;refine⟨.ib (by first|with_reducible rfl|(simp [il])),?_⟩;(iterate 2 refine⟨.jt _ _ _ rfl rfl,?_⟩);refine aC ?_;refine⟨.fQ (by first|with_reducible rfl|(simp [il])),?_⟩;exact trivial;refine⟨.box _ rfl ?_,?_⟩;refine aC ?_;exact trivial;(iterate 2 refine⟨.iF rfl,?_⟩);exact trivial)) rfl
 ·rintro k hk
  have hs:=Cr (assume.take k)
  have rL:(assume.take k).length≤100000:=by simp;omega
  by_cases fm:k<assume.length
  ·have yO:=AU fm
   (refine EG ?_;refine aA ?_;refine zr ?_;refine pB ?_;refine zb ?_;refine a_.fj rfl rfl rfl ?_;refine a_.c_ 83 3 4 rfl rfl rfl rfl ?_;refine jf ?_;refine a_.rA rfl rfl rfl rfl rfl rfl rfl rfl rfl ?_;refine a_.ID rfl rfl rfl ?_;refine zd ?_;(focus ((with_reducible apply AW.qB);exact rfl;exact rfl;all_goals intro qq));refine AW.region ?_;refine nz ?_;refine jf ?_;(with_reducible apply a_.inline (hf:=Tryz.func75));(with_reducible assumption);(iterate 10 exact rfl);intro g_ fD fB;refine nz ?_;(all_goals skip);rotate_left;refine uB ?_;refine oI ?_;(all_goals skip);rotate_left)
   ·have D9:assume[k]∉(il (assume.take k)).1:=qq
    refine AW.yK [0,2,3,4,5,7,8,9,10,11,14,15,16,17,18] [23,26,27,29] rfl (by assumption) aI rfl ?_
    show a_ .held _ _ _ [_,_,_,_,_,_,_,_,_,_,_,_,_,_,_] _ _
    (refine SZ ?_)
    intro k_ iL
    (try refine nz ?_)
    refine AR.free 1 aI rfl rfl rfl (by first|exact fS.fH rfl rfl|exact fS.iu rfl rfl|exact fS.nilCheck rfl rfl) ?_
    refine AR.free 6 aI rfl rfl rfl (by first|exact fS.fH rfl rfl|exact fS.iu rfl rfl|exact fS.nilCheck rfl rfl) ?_
    refine AR.step2 (i:=12) (j:=19) rfl aI rfl rfl ?_ ?_<;>intro g_ b_ f_<;>(refine uZ ?_;refine Q4 ?_)
    ·refine AR.step2 (i:=13) (j:=19) rfl aI rfl rfl ?_ ?_<;>intro g_ b_ f_<;>(first|((with_reducible apply a_.fI);exact rfl;exact ah;(iterate 9 exact rfl);exact aa;refine rS ?_)|(refine uZ ?_;refine Q4 ?_))
     ·refine AR.step1 (i:=19) rfl aI rfl ?_
      intro g_ b_ f_
      (refine uZ ?_;refine Q4 ?_)
      refine AR.step1 (i:=20) rfl aI rfl ?_
      intro g_ b_ f_
      ((with_reducible apply a_.fI);exact rfl;exact ah;(iterate 9 exact rfl);exact aa;refine rS ?_)
      refine AR.step1 (i:=21) rfl aI rfl ?_
      intro g_ b_ f_
      (refine s6 ?_)
      refine AR.step1 (i:=22) rfl aI rfl ?_
      intro g_ b_ f_
      (refine GB ?_)
      refine Gm ?_
      intro g_ b_ fe
      (refine tK ?_)
      refine AR.step1 (i:=24) rfl aI rfl ?_
      intro g_ b_ f_
      (refine s6 ?_)
      refine AR.step1 (i:=25) rfl aI rfl ?_
      intro g_ b_ f_
      (refine FX ?_)
      refine Gn ?_
      intro g_ b_ fe
      (refine tK ?_)
      refine E2 ?_
      intro g_ b_ fe
      (refine E3 ?_)
      refine AR.step1 (i:=28) rfl aI rfl ?_
      intro g_ b_ f_
      (refine Gc ?_)
      refine FB ?_
      intro g_ b_ fe
      (refine FK ?_)
      refine AR.done (by assumption) aI ?_
      (refine j8 ?_;refine nz ?_;refine xz ?_)
      rw[mA,if_neg D9] at yO
      exact Wb
     ·refine AR.step1 (i:=13) rfl aI rfl ?_
      intro g_ b_ f_
      ((with_reducible apply a_.fI);exact rfl;exact ah;(iterate 9 exact rfl);exact aa;refine rS ?_)
      refine AR.step1 (i:=20) rfl aI rfl ?_
      intro g_ b_ f_
      ((with_reducible apply a_.fI);exact rfl;exact ah;(iterate 9 exact rfl);exact aa;refine rS ?_)
      refine AR.step1 (i:=21) rfl aI rfl ?_
      intro g_ b_ f_
      (refine s6 ?_)
      refine AR.step1 (i:=22) rfl aI rfl ?_
      intro g_ b_ f_
      (refine GB ?_)
      refine Gm ?_
      intro g_ b_ fe
      (refine tK ?_)
      refine AR.step1 (i:=24) rfl aI rfl ?_
      intro g_ b_ f_
      (refine s6 ?_)
      refine AR.step1 (i:=25) rfl aI rfl ?_
      intro g_ b_ f_
      (refine FX ?_)
      refine Gn ?_
      intro g_ b_ fe
      (refine tK ?_)
      refine E2 ?_
      intro g_ b_ fe
      (refine E3 ?_)
      refine AR.step1 (i:=28) rfl aI rfl ?_
      intro g_ b_ f_
      (refine Gc ?_)
      refine FB ?_
      intro g_ b_ fe
      (refine FK ?_)
      refine AR.done (by assumption) aI ?_
      (refine j8 ?_;refine nz ?_;refine xz ?_)
      rw[mA,if_neg D9] at yO
      exact Wb
    ·refine AR.step1 (i:=12) rfl aI rfl ?_
     intro g_ b_ f_
     (refine uZ ?_;refine Q4 ?_)
     refine AR.step1 (i:=13) rfl aI rfl ?_
     intro g_ b_ f_
     ((with_reducible apply a_.fI);exact rfl;exact ah;(iterate 9 exact rfl);exact aa;refine rS ?_)
     refine AR.step1 (i:=20) rfl aI rfl ?_
     intro g_ b_ f_
     ((with_reducible apply a_.fI);exact rfl;exact ah;(iterate 9 exact rfl);exact aa;refine rS ?_)
     refine AR.step1 (i:=21) rfl aI rfl ?_
     intro g_ b_ f_
     (refine s6 ?_)
     refine AR.step1 (i:=22) rfl aI rfl ?_
     intro g_ b_ f_
     (refine GB ?_)
     refine Gm ?_
     intro g_ b_ fe
     (refine tK ?_)
     refine AR.step1 (i:=24) rfl aI rfl ?_
     intro g_ b_ f_
     (refine s6 ?_)
     refine AR.step1 (i:=25) rfl aI rfl ?_
     intro g_ b_ f_
     (refine FX ?_)
     refine Gn ?_
     intro g_ b_ fe
     (refine tK ?_)
     refine E2 ?_
     intro g_ b_ fe
     (refine E3 ?_)
     refine AR.step1 (i:=28) rfl aI rfl ?_
     intro g_ b_ f_
     (refine Gc ?_)
     refine FB ?_
     intro g_ b_ fe
     (refine FK ?_)
     refine AR.done (by assumption) aI ?_
     (refine j8 ?_;refine nz ?_;refine xz ?_)
     rw[mA,if_neg D9] at yO
     exact Wb
   ·rw[mA,if_pos (Decidable.not_not.1 qq)] at yO
    exact⟨k+1,by omega,by omega,fp rfl (by(refine aC ?_;refine⟨.ib (by first|with_reducible rfl|(rw[yO])),?_⟩;refine⟨.fQ (by first|with_reducible rfl|(rw[yO])),?_⟩;refine aC ?_;exact trivial)) (by(refine⟨.SN rfl (by rw[yO]),?_⟩;refine⟨.box _ rfl ?_,?_⟩;refine⟨.fQ (by first|with_reducible rfl|(rw[yO])),?_⟩;refine⟨.ib (by first|with_reducible rfl|(rw[yO])),?_⟩;(iterate 2 refine⟨.e9 (by first|with_reducible rfl|(rw[yO])) rfl,?_⟩);refine aC ?_;refine⟨.fQ (by first|with_reducible rfl|(rw[yO])),?_⟩;exact trivial;refine⟨.box _ rfl ?_,?_⟩;refine aC ?_;exact trivial;(iterate 2 refine aF ?_);exact trivial)) rfl⟩
  ·have jO:assume.take k=assume:=gC (by omega)
   rw[jO] at hs ⊢
   have fu:=vT hv.1 hw hc (cl:=cl)
   generalize il assume=t0 at hs fu ⊢
   (refine lU ?_;refine qw ?_;refine zb ?_;refine a_.CK rfl rfl rfl ?_;refine zd ?_;refine AW.block ?_)
   refine AW.C7 (ps:=[33,34]) fD fB rfl rfl Tryz.func76 rfl rfl rfl rfl rfl rfl (by decide) ?_
   intro g2 tm l ps' asg' body' yp RG SG ui Gd
   (refine ly ?_;refine Aa ?_)
   refine AW.loop (S:=Tr×Nat×Bool) (fun s=>{n:=48,env:=[(0,.ptr 2 0),(1,.kO 6),(4,fh s.2.2),(1005,.ptr 3 0)],gm:=[(1,some (.mp (jL (lZ s.1.1)))),(2,some (.box [eV vars,.pv (jj cl),.own 4 3 1 (s.1.1.map encI),.own 5 3 1 (s.1.2.1.map encI),.gq 1,eV (-1)])),(3,some (.box [.ptr 2 0])),(4,some .row),(5,some .row),(6,some (.loop l tm ps' asg' body' .ready))],nx:=7})
    (fun s=>xr vars cl assume s.1 s.2.1∧(s.2.2=false→kP cl s.1=(s.1,false))) (fun s=>(vars+1 - (s.2.1:Int)).toNat*2+if s.2.2 then 1 else 0) (t0,0,true) ?_ ?_ ?_
   ·exact⟨fu,fun h=>by cases h⟩
   ·exact Wq
   ·rintro⟨t,n,b⟩ ⟨hI,hb⟩
    simp only at hI hb ⊢
    cases b with
    |false=>
     have IX:=hI.stop hv.1 (hb rfl)
     rw[IX,hI.CF]
     (refine nf ?_;refine zd ?_;refine AW.jT rfl rfl ?_;refine AW.exit ?_;(iterate 2 refine jY ?_);refine hZ ?_)
     refine uu (.inl rfl) rfl ?_
     (try refine nz ?_)
     repeat (first|with_reducible apply gT|with_reducible apply ic|with_reducible apply hZ)
     refine AW.fp (δ':={n:=46,env:=[(5,.ptr 3 0)],gm:=[(3,some (.box [.fV [.lit (.int .i64 vars),jj cl,ints t.1,ints t.2.1,.any,.lit (.int .i64 (-1))]]))],nx:=7}) (fp rfl (by(first|(exact NV)|(refine aC ?_;(iterate 12 refine aC ?_);exact trivial)|(refine aC ?_;(iterate 6 refine aC ?_);exact trivial)|(exact Ky)|(exact ye))) (by(first|(refine Ma ?_;refine⟨.iF rfl,?_⟩;exact trivial)|(refine Ma ?_;exact DA)|(refine Ma ?_;exact trivial)|(refine⟨.box _ rfl ?_,?_⟩;refine⟨.fbox rfl rfl (by repeat (first|exact Gz.nil|refine .cons (.any _) ?_|refine .cons (.pv _) ?_|refine .cons (.own rfl rfl) ?_|refine .cons (.nil _) ?_)),?_⟩;(iterate 2 exact trivial)))) rfl) ?_
     (refine zq ?_;refine zb ?_;refine a_.lQ rfl rfl rfl ?_;refine zd ?_;refine AW.ret ?_)
     (apply e6;(exact gk.one (.tmp rfl rfl));(exact Le.fV _))
    |true=>
     clear hb
     (refine nf ?_;refine th ?_;refine Cd ?_;refine AW.block ?_;refine ly ?_;refine pB ?_;refine oB ?_;refine a_.c_ 83 0 0 rfl rfl rfl rfl ?_;refine vB ?_;refine n_ ?_)
     refine AW.loop (fun(k:Nat)=>{n:=48,env:=[(0,.ptr 2 0),(1,.kO 6),(4,fh false),(14,.pv (jj cl)),(15,eV cl.length),(16,eV k),(1005,.ptr 3 0)],gm:=[(1,some (.mp (jL (lZ t.1)))),(2,some (.box [eV vars,.pv (jj cl),.own 4 3 1 (t.1.map encI),.own 5 3 1 (t.2.1.map encI),.gq 1,eV (-1)])),(3,some (.box [.ptr 2 0])),(4,some .row),(5,some .row),(6,some (.loop l tm ps' asg' body' .ready))],nx:=7})
      (fun k=>k≤cl.length∧kP cl t=kq t k (cl.drop k)) (fun k=>cl.length - k) 0 ?_ ?_ ?_
     ·exact⟨bm _,rfl⟩
     ·exact Wq
     ·rintro k ⟨hk,jn⟩
      by_cases fm:k<cl.length
      ·rw[xf _ _ _ fm] at jn
       obtain⟨Xt,G8⟩:=iR _ (cZ fm)
       have Tk:=fE Xt
       rw[mx _ _ (fun x hx=>(Tk x hx).1)] at jn
       (refine kA ?_;refine aA ?_;refine zr ?_;refine ur ?_;refine ly ?_;refine FU ?_;(with_reducible apply a_.inline (hf:=Tryz.func100));(with_reducible assumption);(iterate 10 exact rfl);intro g_ fD fB;refine uw ?_;refine ur ?_;refine ly ?_;refine FY ?_)
       refine AW.loop (S:=Nat×List Int) (fun s=>{n:=41,env:=[(0,.ptr 2 0),(6,.own 7 3 1 (s.2.map encI)),(9,.pv (ints (cl[k]'fm))),(10,eV (cl[k]'fm).length),(11,eV s.1),(1000,.ptr 2 0),(1001,.kO 6),(1004,fh false),(1005,eV k),(1014,.pv (jj cl)),(1015,eV cl.length),(1016,eV k),(2005,.ptr 3 0)],gm:=[(1,some (.mp (jL (lZ t.1)))),(2,some (.box [eV vars,.pv (jj cl),.own 4 3 1 (t.1.map encI),.own 5 3 1 (t.2.1.map encI),.gq 1,eV (-1)])),(3,some (.box [.ptr 2 0])),(4,some .row),(5,some .row),(6,some (.loop l tm ps' asg' body' .ready)),(7,some .row)],nx:=8})
        (fun s=>s.1≤(cl[k]'fm).length∧fP t.1 (cl[k]'fm) []=fP t.1 ((cl[k]'fm).drop s.1) s.2∧s.2.length≤s.1) (fun s=>(cl[k]'fm).length - s.1) (0,[]) ?_ ?_ ?_
       ·exact⟨bm _,rfl,aP _⟩
       ·exact Wq
       ·rintro⟨j,out⟩ ⟨hj,wy,Xj⟩
        simp only at hj wy Xj ⊢
        generalize Am:cl[k]=c at jn Xt G8 Tk hj wy ⊢
        by_cases Fv:j<c.length
        ·have Lp:=Tk c[j] (cZ Fv)
         rw[xd _ _ _ _ Fv] at wy
         (refine EG ?_;refine aA ?_;refine zr ?_;refine tg ?_;refine oB ?_;refine a_.c_ 83 3 4 rfl rfl rfl rfl ?_;refine jf ?_;refine a_.rA rfl rfl rfl rfl rfl rfl rfl rfl rfl ?_;refine zd ?_;(focus ((with_reducible apply AW.qB);exact rfl;exact rfl;all_goals intro qq));refine ly ?_;refine ur ?_;refine AW.ret ?_;refine gH ?_;refine wu ?_;refine BA rfl rfl rfl rfl ?_;refine nz ?_;refine Ox ?_;refine qw ?_;refine zm ?_;refine B9 ?_;refine E4 ?_;refine th ?_;refine Ei ?_;refine oI ?_;(all_goals skip);rotate_left;refine Cd ?_;refine ly ?_;refine oB ?_;refine a_.c_ 83 3 4 rfl rfl rfl rfl ?_;refine jf ?_;refine a_.neg rfl rfl rfl aJ ?_;refine a_.rA rfl rfl rfl rfl rfl rfl rfl rfl rfl ?_;refine a_.ID rfl rfl rfl ?_;refine zm ?_;(focus ((with_reducible apply a_.N1);(iterate 6 exact rfl);all_goals intro qq));refine a_.fT rfl rfl rfl ?_;refine zN ?_;refine a_.call (np _ _) (.cons rfl (.own _ _ _ _ rfl) (.cons rfl (.pv _) .nil)) rfl rfl (fun h_=>by cases h_) ?_;refine zt ?_;refine a_.ID rfl rfl rfl ?_;refine zT ?_;refine zd ?_;(focus ((with_reducible apply AW.qB);exact rfl;exact rfl;all_goals intro qq));refine Fh ?_;refine zm ?_;refine uZ ?_;(with_reducible apply a_.fI);exact rfl;exact ah;(iterate 9 exact rfl);exact aa;refine nz ?_;refine yB ?_;refine oI ?_;(all_goals skip);rotate_left;refine uB ?_;refine oI ?_;(all_goals skip);rotate_left;(iterate 3 refine a_.oo rfl rfl rfl rfl rfl rfl (by with_reducible assumption) ?_);refine zF ?_;refine rK ?_;refine oI ?_;(all_goals skip);rotate_left)
         all_goals first
          |(rw[if_pos (by assumption)] at wy
            rw[wy] at jn
            exact⟨k+1,⟨by omega,jn⟩,by omega,fp rfl (by(first|(refine aC ?_;refine⟨.jt _ _ _ rfl rfl,?_⟩;(iterate 11 refine aC ?_);exact trivial)|(refine aC ?_;(iterate 12 refine aC ?_);exact trivial)|(refine aC ?_;(iterate 6 refine aC ?_);exact trivial)|(refine aC ?_;(iterate 3 refine aC ?_);exact trivial)|(refine aC ?_;exact trivial))) (by(first|(refine⟨.set rfl,?_⟩;refine⟨.box _ rfl ?_,?_⟩;(iterate 6 refine aC ?_);exact trivial;refine⟨.box _ rfl ?_,?_⟩;refine aC ?_;exact trivial;(iterate 2 refine aF ?_);refine⟨.loop rfl,?_⟩;refine⟨.iF rfl,?_⟩;exact trivial)|(refine⟨.set rfl,?_⟩;refine⟨.box _ rfl ?_,?_⟩;(iterate 6 refine aC ?_);exact trivial;refine⟨.box _ rfl ?_,?_⟩;refine aC ?_;exact trivial;(iterate 2 refine aF ?_);refine⟨.loop rfl,?_⟩;refine aF ?_;exact trivial)|(refine⟨.set rfl,?_⟩;refine⟨.box _ rfl ?_,?_⟩;(iterate 6 refine aC ?_);exact trivial;refine⟨.box _ rfl ?_,?_⟩;refine aC ?_;exact trivial;(iterate 2 refine aF ?_);refine⟨.loop rfl,?_⟩;exact trivial)|(refine⟨.box _ rfl ?_,?_⟩;refine⟨.fbox rfl rfl (by repeat (first|exact Gz.nil|refine .cons (.any _) ?_|refine .cons (.pv _) ?_|refine .cons (.own rfl rfl) ?_|refine .cons (.nil _) ?_)),?_⟩;(iterate 2 exact trivial)))) rfl⟩)
          |(rw[if_neg (by assumption)] at wy
            rw[if_neg (show ¬(¬ -c[j]∈t.1∧¬c[j]∈out) from by rintro⟨h1,h2⟩;first|exact qq h2|exact qq h1)] at wy
            exact⟨(j+1,out),⟨by show j+1≤_;omega,wy,by show out.length≤j+1;omega⟩,by show c.length - (j+1)<c.length - j;omega,fp rfl (by(first|(refine aC ?_;refine⟨.jt _ _ _ rfl rfl,?_⟩;(iterate 11 refine aC ?_);exact trivial)|(refine aC ?_;(iterate 12 refine aC ?_);exact trivial)|(refine aC ?_;(iterate 6 refine aC ?_);exact trivial)|(refine aC ?_;(iterate 3 refine aC ?_);exact trivial)|(refine aC ?_;exact trivial))) (by(first|(refine⟨.set rfl,?_⟩;refine⟨.box _ rfl ?_,?_⟩;(iterate 6 refine aC ?_);exact trivial;refine⟨.box _ rfl ?_,?_⟩;refine aC ?_;exact trivial;(iterate 2 refine aF ?_);refine⟨.loop rfl,?_⟩;refine⟨.iF rfl,?_⟩;exact trivial)|(refine⟨.set rfl,?_⟩;refine⟨.box _ rfl ?_,?_⟩;(iterate 6 refine aC ?_);exact trivial;refine⟨.box _ rfl ?_,?_⟩;refine aC ?_;exact trivial;(iterate 2 refine aF ?_);refine⟨.loop rfl,?_⟩;refine aF ?_;exact trivial)|(refine⟨.set rfl,?_⟩;refine⟨.box _ rfl ?_,?_⟩;(iterate 6 refine aC ?_);exact trivial;refine⟨.box _ rfl ?_,?_⟩;refine aC ?_;exact trivial;(iterate 2 refine aF ?_);refine⟨.loop rfl,?_⟩;exact trivial)|(refine⟨.box _ rfl ?_,?_⟩;refine⟨.fbox rfl rfl (by repeat (first|exact Gz.nil|refine .cons (.any _) ?_|refine .cons (.pv _) ?_|refine .cons (.own rfl rfl) ?_|refine .cons (.nil _) ?_)),?_⟩;(iterate 2 exact trivial)))) rfl⟩)
          |(rw[if_neg (by assumption)] at wy
            rw[if_pos ⟨by assumption,by assumption⟩] at wy
            exact⟨(j+1,out++ [c[j]]),⟨by show j+1≤_;omega,wy,by show(out++ [c[j]]).length≤j+1;simp;omega⟩,by show c.length - (j+1)<c.length - j;omega,fp rfl (by(refine aC ?_;refine⟨.e9 (by first|with_reducible rfl|(first|(rw[cV];rfl)|rfl)) rfl,?_⟩;refine⟨.ib (by first|with_reducible rfl|(first|(rw[cV];rfl)|rfl)),?_⟩;refine⟨.fQ (by first|with_reducible rfl|(first|(rw[cV];rfl)|rfl)),?_⟩;refine⟨.fQ (by first|with_reducible rfl|(first|(rw[cV];rfl)|rfl)),?_⟩;(iterate 2 refine aC ?_);refine⟨.kE (by first|with_reducible rfl|(first|(rw[cV];rfl)|rfl)),?_⟩;refine⟨.fQ (by first|with_reducible rfl|(first|(rw[cV];rfl)|rfl)),?_⟩;refine⟨.ib (by first|with_reducible rfl|(first|(rw[cV];rfl)|rfl)),?_⟩;refine⟨.fQ (by first|with_reducible rfl|(first|(rw[cV];rfl)|rfl)),?_⟩;refine⟨.fQ (by first|with_reducible rfl|(first|(rw[cV];rfl)|rfl)),?_⟩;refine aC ?_;exact trivial)) (by(refine⟨.set rfl,?_⟩;refine⟨.box _ rfl ?_,?_⟩;refine⟨.fQ (by first|with_reducible rfl|(first|(rw[cV];rfl)|rfl)),?_⟩;refine⟨.ib (by first|with_reducible rfl|(first|(rw[cV];rfl)|rfl)),?_⟩;refine⟨.e9 (by first|with_reducible rfl|(first|(rw[cV];rfl)|rfl)) rfl,?_⟩;refine⟨.e9 (by first|with_reducible rfl|(first|(rw[cV];rfl)|rfl)) rfl,?_⟩;refine aC ?_;refine⟨.fQ (by first|with_reducible rfl|(first|(rw[cV];rfl)|rfl)),?_⟩;exact trivial;refine⟨.box _ rfl ?_,?_⟩;refine aC ?_;exact trivial;(iterate 2 refine aF ?_);refine⟨.loop rfl,?_⟩;refine aF ?_;exact trivial)) rfl⟩)
        ·rw[dE aJ] at wy
         have QF:fP t.1 c []=some out:=wy
         rw[QF] at jn
         have wQ:=oP t.1 c [] out QF (by simp)
         have G4:tm.size=46:=Gd
         rcases out with _|⟨x,_|⟨y,out⟩⟩
         ·have e0:([]:List Int).length=0:=rfl
          have Dc:kP cl t=((t.1,t.2.1,(k:Int)),false):=jn
          have IX:=hI.stop hv.1 Dc
          rw[IX]
          clear jn
          (refine T6 ?_;refine GS ?_;refine qw ?_;refine H8 ?_;refine a_.eql rfl rfl rfl rfl rfl ?_;refine th ?_;refine ly ?_;refine a_.move rfl rfl rfl ?_;refine nz ?_;refine zm ?_;(with_reducible apply a_.IB yp RG SG ui G4);(iterate 8 exact rfl);intro g3 Ry fB;(try refine nz ?_);refine zq ?_;refine kM ?_;refine AW.region ?_;refine nz ?_;refine kM ?_;refine And.intro (show pt _ _ _ _ from⟨_,_,_,_,rfl⟩) ?_;(try refine nz ?_);refine AW.block ?_;refine nf ?_;refine a_.eql rfl rfl rfl rfl rfl ?_;refine th ?_;refine Qu ?_;(with_reducible apply so);exact⟨_,_,_,_,rfl⟩;refine nz ?_;refine zd ?_;refine AW.ret ?_;refine Bf ?_;(iterate 2 refine gH ?_);(iterate 2 refine iX ?_);refine Bf ?_)
          refine vz (.inr rfl) rfl ?_
          (try refine nz ?_)
          repeat (first|with_reducible apply gT|with_reducible apply ic|with_reducible apply hZ)
          refine AW.fp (δ':={n:=46,env:=[(5,.ptr 3 0)],gm:=[(3,some (.box [.fV [.lit (.int .i64 vars),jj cl,ints t.1,ints t.2.1,.any,.lit (.int .i64 k)]]))],nx:=7}) (fp rfl (by(first|(exact NV)|(refine aC ?_;(iterate 12 refine aC ?_);exact trivial)|(refine aC ?_;(iterate 6 refine aC ?_);exact trivial)|(exact Ky)|(exact ye))) (by(first|(refine Ma ?_;refine⟨.iF rfl,?_⟩;exact trivial)|(refine Ma ?_;exact DA)|(refine Ma ?_;exact trivial)|(refine⟨.box _ rfl ?_,?_⟩;refine⟨.fbox rfl rfl (by repeat (first|exact Gz.nil|refine .cons (.any _) ?_|refine .cons (.pv _) ?_|refine .cons (.own rfl rfl) ?_|refine .cons (.nil _) ?_)),?_⟩;(iterate 2 exact trivial)))) rfl) ?_
          (refine zq ?_;refine zb ?_;refine a_.lQ rfl rfl rfl ?_;refine zd ?_;refine AW.ret ?_)
          (apply e6;(exact gk.one (.tmp rfl rfl));(exact Le.fV _))
         ·have e0:([x]:List Int).length=1:=rfl
          have Dc:kP cl t=((t.1++ [x],t.2.1++ [(k:Int)],t.2.2),true):=jn
          have GN:=wQ x (by simp)
          have td:=Tk x (by simpa using GN.1)
          have U0:=hI.go hv.1 Dc td GN.2.1 GN.2.2
          clear jn
          (refine T6 ?_;refine GS ?_;refine qw ?_;refine H8 ?_;refine pN ?_;refine GS ?_;refine qw ?_;refine a_.move rfl rfl rfl ?_;refine nz ?_;refine zm ?_;refine a_.fT rfl rfl rfl ?_;refine rW ?_;refine au ?_;(with_reducible apply a_.IB yp RG SG ui G4);(iterate 8 exact rfl);intro g3 Ry fB;(try refine nz ?_);refine zq ?_;refine kM ?_;refine AW.region ?_;refine nz ?_;refine kM ?_;refine And.intro (show pt _ _ _ _ from⟨_,_,_,_,rfl⟩) ?_;(try refine nz ?_);refine AW.block ?_;refine nf ?_;refine pN ?_;(focus ((with_reducible apply AW.qB);exact rfl;exact rfl;all_goals intro qq));refine Qu ?_;(with_reducible apply so);exact⟨_,_,_,_,rfl⟩;refine nz ?_;refine a_.not rfl rfl rfl ?_;refine th ?_;refine AW.ret ?_;refine Bf ?_;(iterate 2 refine gH ?_);(iterate 2 refine iX ?_);refine Bf ?_;(all_goals skip);rotate_left;refine Cd ?_;refine AW.region ?_;refine nz ?_;refine zb ?_;(iterate 2 refine zm ?_);(with_reducible apply a_.inline (hf:=Tryz.func75));(with_reducible assumption);(iterate 10 exact rfl);intro g_ fD fB;refine nz ?_;(all_goals skip);rotate_left)
          ·exact absurd (show x=0 from qq) td.1
          ·have D9:([x][Int.toNat 0]'Nat.one_pos)∉t.1:=GN.2.1
           have hl1:t.1.length≤100000:=by have:=hI.dist.len;omega
           have GI:t.2.1.length≤100000:=by have h9:t.2.1.length=t.1.length:=hI.even;omega
           refine AW.yK [0,2,3,4,5,7,8,9,10,11,14,15,16,17,18] [23,26,27,29] rfl (by assumption) aI rfl ?_
           show a_ .held _ _ _ [_,_,_,_,_,_,_,_,_,_,_,_,_,_,_] _ _
           (refine SZ ?_)
           intro k_ iL
           (try refine nz ?_)
           refine AR.free 1 aI rfl rfl rfl (by first|exact fS.fH rfl rfl|exact fS.iu rfl rfl|exact fS.nilCheck rfl rfl) ?_
           refine AR.free 6 aI rfl rfl rfl (by first|exact fS.fH rfl rfl|exact fS.iu rfl rfl|exact fS.nilCheck rfl rfl) ?_
           refine AR.step2 (i:=12) (j:=19) rfl aI rfl rfl ?_ ?_<;>intro g_ b_ f_<;>(refine uZ ?_;refine Q4 ?_)
           ·refine AR.step2 (i:=13) (j:=19) rfl aI rfl rfl ?_ ?_<;>intro g_ b_ f_<;>(first|((with_reducible apply a_.fI);exact rfl;exact ah;(iterate 9 exact rfl);exact aa;refine rS ?_)|(refine uZ ?_;refine Q4 ?_))
            ·refine AR.step1 (i:=19) rfl aI rfl ?_
             intro g_ b_ f_
             (refine uZ ?_;refine Q4 ?_)
             refine AR.step1 (i:=20) rfl aI rfl ?_
             intro g_ b_ f_
             ((with_reducible apply a_.fI);exact rfl;exact ah;(iterate 9 exact rfl);exact aa;refine rS ?_)
             refine AR.step1 (i:=21) rfl aI rfl ?_
             intro g_ b_ f_
             (refine s6 ?_)
             refine AR.step1 (i:=22) rfl aI rfl ?_
             intro g_ b_ f_
             (refine GB ?_)
             refine Gm ?_
             intro g_ b_ fe
             (refine tK ?_)
             refine AR.step1 (i:=24) rfl aI rfl ?_
             intro g_ b_ f_
             (refine s6 ?_)
             refine AR.step1 (i:=25) rfl aI rfl ?_
             intro g_ b_ f_
             (refine FX ?_)
             refine Gn ?_
             intro g_ b_ fe
             (refine tK ?_)
             refine E2 ?_
             intro g_ b_ fe
             (refine E3 ?_)
             refine AR.step1 (i:=28) rfl aI rfl ?_
             intro g_ b_ f_
             (refine Gc ?_)
             refine FB ?_
             intro g_ b_ fe
             (refine FK ?_)
             refine AR.done (by assumption) aI ?_
             (refine j8 ?_;refine nz ?_;refine a_.nil ?_;refine gT ?_;(with_reducible apply oD);exact⟨_,_,_,_,rfl⟩;refine nz ?_;refine NW ?_)
             exact⟨((t.1++ [x],t.2.1++ [(k:Int)],-1),n+1,true),⟨U0,fun h=>by cases h⟩,by have:=hI.fuel hv.1;show(vars+1 - ((n+1:Nat):Int)).toNat*2+1<(vars+1 - (n:Int)).toNat*2+1;omega,fp rfl (by(exact Om)) (by(exact Oc)) rfl⟩
            ·refine AR.step1 (i:=13) rfl aI rfl ?_
             intro g_ b_ f_
             ((with_reducible apply a_.fI);exact rfl;exact ah;(iterate 9 exact rfl);exact aa;refine rS ?_)
             refine AR.step1 (i:=20) rfl aI rfl ?_
             intro g_ b_ f_
             ((with_reducible apply a_.fI);exact rfl;exact ah;(iterate 9 exact rfl);exact aa;refine rS ?_)
             refine AR.step1 (i:=21) rfl aI rfl ?_
             intro g_ b_ f_
             (refine s6 ?_)
             refine AR.step1 (i:=22) rfl aI rfl ?_
             intro g_ b_ f_
             (refine GB ?_)
             refine Gm ?_
             intro g_ b_ fe
             (refine tK ?_)
             refine AR.step1 (i:=24) rfl aI rfl ?_
             intro g_ b_ f_
             (refine s6 ?_)
             refine AR.step1 (i:=25) rfl aI rfl ?_
             intro g_ b_ f_
             (refine FX ?_)
             refine Gn ?_
             intro g_ b_ fe
             (refine tK ?_)
             refine E2 ?_
             intro g_ b_ fe
             (refine E3 ?_)
             refine AR.step1 (i:=28) rfl aI rfl ?_
             intro g_ b_ f_
             (refine Gc ?_)
             refine FB ?_
             intro g_ b_ fe
             (refine FK ?_)
             refine AR.done (by assumption) aI ?_
             (refine j8 ?_;refine nz ?_;refine a_.nil ?_;refine gT ?_;(with_reducible apply oD);exact⟨_,_,_,_,rfl⟩;refine nz ?_;refine NW ?_)
             exact⟨((t.1++ [x],t.2.1++ [(k:Int)],-1),n+1,true),⟨U0,fun h=>by cases h⟩,by have:=hI.fuel hv.1;show(vars+1 - ((n+1:Nat):Int)).toNat*2+1<(vars+1 - (n:Int)).toNat*2+1;omega,fp rfl (by(exact Om)) (by(exact Oc)) rfl⟩
           ·refine AR.step1 (i:=12) rfl aI rfl ?_
            intro g_ b_ f_
            (refine uZ ?_;refine Q4 ?_)
            refine AR.step1 (i:=13) rfl aI rfl ?_
            intro g_ b_ f_
            ((with_reducible apply a_.fI);exact rfl;exact ah;(iterate 9 exact rfl);exact aa;refine rS ?_)
            refine AR.step1 (i:=20) rfl aI rfl ?_
            intro g_ b_ f_
            ((with_reducible apply a_.fI);exact rfl;exact ah;(iterate 9 exact rfl);exact aa;refine rS ?_)
            refine AR.step1 (i:=21) rfl aI rfl ?_
            intro g_ b_ f_
            (refine s6 ?_)
            refine AR.step1 (i:=22) rfl aI rfl ?_
            intro g_ b_ f_
            (refine GB ?_)
            refine Gm ?_
            intro g_ b_ fe
            (refine tK ?_)
            refine AR.step1 (i:=24) rfl aI rfl ?_
            intro g_ b_ f_
            (refine s6 ?_)
            refine AR.step1 (i:=25) rfl aI rfl ?_
            intro g_ b_ f_
            (refine FX ?_)
            refine Gn ?_
            intro g_ b_ fe
            (refine tK ?_)
            refine E2 ?_
            intro g_ b_ fe
            (refine E3 ?_)
            refine AR.step1 (i:=28) rfl aI rfl ?_
            intro g_ b_ f_
            (refine Gc ?_)
            refine FB ?_
            intro g_ b_ fe
            (refine FK ?_)
            refine AR.done (by assumption) aI ?_
            (refine j8 ?_;refine nz ?_;refine a_.nil ?_;refine gT ?_;(with_reducible apply oD);exact⟨_,_,_,_,rfl⟩;refine nz ?_;refine NW ?_)
            exact⟨((t.1++ [x],t.2.1++ [(k:Int)],-1),n+1,true),⟨U0,fun h=>by cases h⟩,by have:=hI.fuel hv.1;show(vars+1 - ((n+1:Nat):Int)).toNat*2+1<(vars+1 - (n:Int)).toNat*2+1;omega,fp rfl (by(exact Om)) (by(exact Oc)) rfl⟩
         ·have e0:(x::y::out).length=out.length+2:=rfl
          have Dc:kP cl t=kq t (k+1:Nat) (cl.drop (k+1)):=jn
          clear jn
          (refine T6 ?_;refine zc ?_;refine Ei ?_;refine oI ?_)
          exact⟨k+1,⟨by omega,Dc⟩,by omega,fp rfl (by(first|(refine aC ?_;refine⟨.jt _ _ _ rfl rfl,?_⟩;(iterate 11 refine aC ?_);exact trivial)|(refine aC ?_;(iterate 12 refine aC ?_);exact trivial)|(refine aC ?_;(iterate 6 refine aC ?_);exact trivial)|(refine aC ?_;(iterate 3 refine aC ?_);exact trivial)|(refine aC ?_;exact trivial))) (by(first|(refine⟨.set rfl,?_⟩;refine⟨.box _ rfl ?_,?_⟩;(iterate 6 refine aC ?_);exact trivial;refine⟨.box _ rfl ?_,?_⟩;refine aC ?_;exact trivial;(iterate 2 refine aF ?_);refine⟨.loop rfl,?_⟩;refine⟨.iF rfl,?_⟩;exact trivial)|(refine⟨.set rfl,?_⟩;refine⟨.box _ rfl ?_,?_⟩;(iterate 6 refine aC ?_);exact trivial;refine⟨.box _ rfl ?_,?_⟩;refine aC ?_;exact trivial;(iterate 2 refine aF ?_);refine⟨.loop rfl,?_⟩;refine aF ?_;exact trivial)|(refine⟨.set rfl,?_⟩;refine⟨.box _ rfl ?_,?_⟩;(iterate 6 refine aC ?_);exact trivial;refine⟨.box _ rfl ?_,?_⟩;refine aC ?_;exact trivial;(iterate 2 refine aF ?_);refine⟨.loop rfl,?_⟩;exact trivial)|(refine⟨.box _ rfl ?_,?_⟩;refine⟨.fbox rfl rfl (by repeat (first|exact Gz.nil|refine .cons (.any _) ?_|refine .cons (.pv _) ?_|refine .cons (.own rfl rfl) ?_|refine .cons (.nil _) ?_)),?_⟩;(iterate 2 exact trivial)))) rfl⟩
      ·rw[dE aJ] at jn
       have Dc:kP cl t=(t,false):=jn
       (refine zq ?_;refine zs ?_;refine zd ?_;refine zo ?_;refine zk ?_;refine AW.exit ?_;(iterate 2 refine jY ?_);refine hZ ?_;refine gT ?_;refine ic ?_)
       exact⟨(t,n,false),⟨hI,fun _=>Dc⟩,by show(vars+1 - (n:Int)).toNat*2+0<(vars+1 - (n:Int)).toNat*2+1;omega,fp rfl (by(first|(exact NV)|(refine aC ?_;(iterate 12 refine aC ?_);exact trivial)|(refine aC ?_;(iterate 6 refine aC ?_);exact trivial)|(exact Ky)|(exact ye))) (by(first|(refine Ma ?_;refine⟨.iF rfl,?_⟩;exact trivial)|(refine Ma ?_;exact DA)|(refine Ma ?_;exact trivial)|(refine⟨.box _ rfl ?_,?_⟩;refine⟨.fbox rfl rfl (by repeat (first|exact Gz.nil|refine .cons (.any _) ?_|refine .cons (.pv _) ?_|refine .cons (.own rfl rfl) ?_|refine .cons (.nil _) ?_)),?_⟩;(iterate 2 exact trivial)))) rfl⟩
end Go.Ab
/- Chapter 20:unitprop's answers:implied literals,reasons,implied clauses. -/
namespace Go.Ab
open Go Go.Proofs
set_option maxRecDepth 20000
set_option maxHeartbeats 4000000
attribute [local irreducible] AW a_ gb fq fz fk fJ runM gy
theorem tb {vars:Int} {l:List Int} (hv:0≤vars∧vars≤100000) (h:eX vars l=true):Sm l:=fun x hx=>by have:=fE h x hx;omega
structure Qm (vars:Int) (cl:List (List Int)):Prop where
 hv:0≤vars∧vars≤100000
 iR:∀c∈cl,eX vars c=true∧c.length≤100000
 h3:cl.length≤1000000
end Go.Ab
/- Chapter 20:unitprop's implied clauses. -/
namespace Go.Ab
open Go Go.Proofs
set_option maxRecDepth 20000
set_option maxHeartbeats 4000000
attribute [local irreducible] AW a_ gb fq fz fk fJ runM gy
theorem wi {vars:Int} {l:List Int} (h:eX vars l=true):eX vars (l.map fun x=>0 - x)=true:=by
 unfold eX
 rw[bD]
 intro x hx
 obtain⟨y,hy,rfl⟩:=bx.1 hx
 have:=fE h y hy
 simp;omega
theorem LI (l:List Int):(l.map fun x=> -x)=l.map fun x=>0 - x:=by simp
theorem DV (vars:Int) (cl:List (List Int)) (c:List Int) (hf:Qm vars cl) (PC:c.length≤100000) (hw:eX vars c=true):
  Fn Tryz.prog 17 [F7 vars cl,.pv (ints c)] (fh (gR vars cl c)):=by
 have hs:=tb hf.hv hw
 have Pe:=wi hw
 have kZ:=OF hs
 have Fz:(c.map fun x=>0 - x).length≤100000:=by simpa using PC
 have To:=GD _ kZ
 have Po:gy (c.map fun x=>0 - x)=false→_:=fun hc=>LN vars cl (c.map fun x=>0 - x) hf.iR hf.h3 hf.hv Fz Pe hc
 refine Fn.enter (n:=31) Tryz.func17 rfl rfl rfl rfl rfl (by decide) fun g fD fB=>?_;(try refine nz ?_)
 (refine zq ?_;refine Ee ?_;refine pB ?_;refine FY ?_)
 refine AW.jE 8 rfl fun hlen=>?_
 refine AW.loop (fun(k:Nat)=>{n:=31,env:=[(2,.ptr 0 0),(5,.own 1 3 1 (((c.take k).map fun x=>0 - x).map encI)),(8,.pv (ints c)),(9,eV c.length),(10,eV k)],gm:=[(0,some (.box [eV vars,.pv (jj cl)])),(1,some .row)],nx:=2})
  (fun k=>k≤c.length) (fun k=>c.length - k) 0 ?_ ?_ ?_
 ·simp
 ·exact fp rfl (by(first|(refine aC ?_;refine⟨.jt _ _ _ rfl rfl,?_⟩;(iterate 3 refine aC ?_);exact trivial)|(refine aC ?_;refine⟨.freeze rfl,?_⟩;(iterate 2 refine aC ?_);exact trivial))) (by(first|(refine⟨.box _ rfl ?_,?_⟩;(iterate 2 refine aC ?_);exact trivial;refine⟨.iF rfl,?_⟩;exact trivial)|(refine⟨.box _ rfl ?_,?_⟩;(iterate 2 refine aC ?_);(iterate 2 exact trivial)))) rfl
 rintro k hk
 have GP:(c.take k).length≤100000:=by simp;omega
 by_cases fm:k<c.length
 ·have hx:=hs _ (cZ fm)
  (refine EG ?_;refine aA ?_;refine zr ?_;refine kM ?_;refine Fh ?_;refine FR ?_;refine uZ ?_;(with_reducible apply a_.fI);exact rfl;exact ah;(iterate 9 exact rfl);exact aa;refine nz ?_;refine yB ?_;refine oI ?_)
  exact⟨k+1,by omega,by omega,fp rfl (by(refine aC ?_;refine⟨.e9 (by first|with_reducible rfl|(rw[fw fm,cV,cV];show _=_++ [encI (0 - c[k])];rw[dh];rfl)) rfl,?_⟩;refine⟨.ib (by first|with_reducible rfl|(rw[fw fm,cV,cV];show _=_++ [encI (0 - c[k])];rw[dh];rfl)),?_⟩;refine⟨.fQ (by first|with_reducible rfl|(rw[fw fm,cV,cV];show _=_++ [encI (0 - c[k])];rw[dh];rfl)),?_⟩;refine aC ?_;exact trivial)) (by(refine⟨.box _ rfl ?_,?_⟩;refine⟨.fQ (by first|with_reducible rfl|(rw[fw fm,cV,cV];show _=_++ [encI (0 - c[k])];rw[dh];rfl)),?_⟩;refine⟨.ib (by first|with_reducible rfl|(rw[fw fm,cV,cV];show _=_++ [encI (0 - c[k])];rw[dh];rfl)),?_⟩;exact trivial;refine aF ?_;exact trivial)) rfl⟩
 ·have jO:c.take k=c:=gC (by omega)
  rw[jO]
  cases hc:gy (c.map fun x=>0 - x) with
  |true=>
   rw[hc] at To
   (refine lU ?_;refine ly ?_;refine a_.fT rfl rfl rfl ?_;refine a_.call (To) (.cons rfl (.own _ _ _ _ rfl) .nil) rfl rfl (fun h_=>by cases h_) ?_;refine zm ?_;(iterate 7 refine a_.gg rfl rfl rfl rfl rfl rfl rfl ?_);refine a_.jz rfl rfl rfl rfl rfl rfl ?_;refine kQ ?_)
   ·(apply e6;(exact gk.one (.tmp rfl rfl));(refine Le.fh ?_;(rw[gR,if_pos hc])))
  |false=>
   have hr:=Po hc
   rw[hc] at To
   refine AW.fp (δ':={n:=31,env:=[(2,.ptr 0 0),(5,.pv (ints (c.map fun x=>0 - x))),(9,eV c.length),(10,eV k)],gm:=[(0,some (.box [eV vars,.pv (jj cl)]))],nx:=2}) (fp rfl (by(first|(refine aC ?_;refine⟨.jt _ _ _ rfl rfl,?_⟩;(iterate 3 refine aC ?_);exact trivial)|(refine aC ?_;refine⟨.freeze rfl,?_⟩;exact Bs))) (by(first|(refine⟨.box _ rfl ?_,?_⟩;exact Bs;refine⟨.iF rfl,?_⟩;exact trivial)|(refine⟨.box _ rfl ?_,?_⟩;(iterate 2 refine aC ?_);(iterate 2 exact trivial)))) rfl) ?_
   (refine lU ?_;refine ly ?_;refine zm ?_;refine a_.call (To) (.cons rfl (.pv _) .nil) rfl rfl (fun h_=>by cases h_) ?_;refine zm ?_;refine zl ?_;refine rq ?_;refine pd ?_;refine a_.Nl (hr) (.cons rfl (.rn (.cons (.pv _) (.cons (.pv _) .nil))) (.cons rfl (.pv _) .nil)) rfl ?_;refine zl ?_;refine a_.qE rfl rfl rfl ?_;refine zl ?_;refine a_.rZ 83 4 5 1 rfl rfl rfl rfl ?_;refine nz ?_;refine zl ?_;refine zr ?_;refine zl ?_;refine a_.geq rfl rfl rfl rfl rfl ?_;refine a_.gO rfl rfl rfl rfl rfl rfl ?_;refine kQ ?_)
   (apply e6;(exact gk.one (.tmp rfl rfl));(refine Le.fh ?_;(rw[gR,if_neg (by rw[hc];simp)])))
end Go.Ab
/-
 DERIVED:THE SHELF's CONTRACTS AT THIS DUMP,IN PLAIN WORDS (tools/lay-plain.mjs out of 'TryzShelf.lean',which tools/lay-shelf.mjs wrote):THE SAME DECLARATIONS UNDER THE SAME NAMES: 'import', 'namespace', 'open', 'def', 'theorem' AND NOTHING ELSE:no command of the shelf's:FOR A HAND-IN. Each laying:the table of numbers ('.._ren') and one theorem,a field a fact of the dump's own or the kernel's comparison;each contract:ONE APPLICATION.
-/
namespace Go.Proofs
open Go.Shelf
def Tryz.tW:Go.Shelf.Ren:=⟨fun|156=>45|165=>79|166=>31|169=>33|240=>68|241=>112|276=>93|277=>135|n=>n,fun|31=>89|9=>9|3=>3|4=>4|0=>0|20=>20|72=>63|76=>70|70=>60|37=>61|75=>67|127=>110|164=>126|5=>5|80=>73|n=>n,fun|n=>n⟩
theorem Tryz.D7:Go.Proofs.Lays.n156 Tryz.prog Tryz.tW:={
 mixed:=by kernel_rfl
 f156:=Tryz.func45.trans (congrArg some (by kernel_rfl))
 f165:=Tryz.func79.trans (congrArg some (by kernel_rfl))
 f166:=Tryz.func31.trans (congrArg some (by kernel_rfl))
 f169:=Tryz.func33.trans (congrArg some (by kernel_rfl))
 f240:=Tryz.func68.trans (congrArg some (by kernel_rfl))
 f241:=Tryz.func112.trans (congrArg some (by kernel_rfl))
 f276:=Tryz.func93.trans (congrArg some (by kernel_rfl))
 f277:=Tryz.func135.trans (congrArg some (by kernel_rfl))
 t0:=Tryz.underlying0
 a0:=Tryz.isAgg0
 z0:=Tryz.sizeOf0
 v0:=Tryz.zeroValue0
 t3:=Tryz.underlying3
 a3:=Tryz.isAgg3
 z3:=Tryz.sizeOf3
 v3:=Tryz.zeroValue3
 t4:=Tryz.underlying4
 a4:=Tryz.isAgg4
 z4:=Tryz.sizeOf4
 v4:=Tryz.zeroValue4
 t9:=Tryz.underlying9
 a9:=Tryz.isAgg9
 z9:=Tryz.sizeOf9
 v9:=Tryz.zeroValue9
 t20:=Tryz.underlying20
 a20:=Tryz.isAgg20
 z20:=Tryz.sizeOf20
 v20:=Tryz.zeroValue20
 t31:=Tryz.underlying89
 a31:=Tryz.isAgg89
 z31:=Tryz.sizeOf89
 v31:=Tryz.zeroValue89
 t37:=Tryz.underlying61
 a37:=Tryz.isAgg61
 z37:=Tryz.sizeOf61
 v37:=Tryz.zeroValue61
 t70:=Tryz.underlying60
 a70:=Tryz.isAgg60
 z70:=Tryz.sizeOf60
 v70:=Tryz.zeroValue60
 t72:=Tryz.underlying63
 a72:=Tryz.isAgg63
 z72:=Tryz.sizeOf63
 v72:=Tryz.zeroValue63
 t75:=Tryz.underlying67
 a75:=Tryz.isAgg67
 z75:=Tryz.sizeOf67
 v75:=Tryz.zeroValue67
 t76:=Tryz.underlying70
 a76:=Tryz.isAgg70
 z76:=Tryz.sizeOf70
 v76:=Tryz.zeroValue70
 t127:=Tryz.underlying110
 a127:=Tryz.isAgg110
 z127:=Tryz.sizeOf110
 v127:=Tryz.zeroValue110
 t164:=Tryz.underlying126
 a164:=Tryz.isAgg126
 z164:=Tryz.sizeOf126
 v164:=Tryz.zeroValue126}
theorem Tryz.nq:Builder.Extra Tryz.prog Tryz.tW:={
 sizeBuilder:=by kernel_rfl
 liesBuilder:=by kernel_rfl
 t5:=Tryz.underlying5
 a5:=Tryz.isAgg5
 z5:=Tryz.sizeOf5
 v5:=Tryz.zeroValue5
 infoByte:=by kernel_rfl
 cellsByte:=by kernel_rfl
 sizeByte:=by kernel_rfl
 neB5:=by decide}
open Go.RowKit in
theorem Tryz.strings_Join_none (a:Option Addr) (c:Nat) (sep:ByteArray) (w:World):
  Calls Tryz.prog 45 #[.slice a 0 c,.string sep] w fun e w'=>e=.returned (.string ⟨#[]⟩)∧w'=w:=Any.strings_Join_none Tryz.D7 Tryz.nq a c sep w
open Go.RowKit in
theorem Tryz.strings_Join (bk o c:Nat) (xs:List ByteArray) (sep:ByteArray) (w:World) (N_:∀(j:Nat) x,xs[j]? =some x→w.cell? ⟨bk,o+j,none⟩=some (.string x)) (GQ:bk<w.heap.size) (hN:xs.length≤140737488355328) (mM:xs.length≤c) (hlen:(Lib.join (xs.map (·.data.toList)) sep.data.toList).length≤140737488355328):
  Calls Tryz.prog 45 #[.slice (some ⟨bk,o,none⟩) xs.length c,.string sep] w fun e w'=>e=.returned (.string ⟨(Lib.join (xs.map (·.data.toList)) sep.data.toList).toArray⟩)∧Below w.heap.size w w':=Any.strings_Join Tryz.D7 Tryz.nq bk o c xs sep w N_ GQ hN mM hlen
def Tryz.y5:Go.Shelf.Ren:=⟨fun|171=>32|243=>69|246=>94|283=>115|284=>116|285=>117|286=>118|129=>111|317=>136|318=>137|319=>138|320=>139|337=>151|338=>152|n=>n,fun|3=>3|9=>9|2=>2|4=>4|171=>146|0=>0|53=>145|37=>61|5=>5|173=>148|212=>160|51=>143|20=>20|213=>161|46=>121|232=>183|233=>184|n=>n,fun|17=>1|18=>4|19=>5|n=>n⟩
theorem Tryz.Hh:Go.Proofs.LaysM.n171 Tryz.prog Tryz.y5:={
 mixed:=by kernel_rfl
 f129:=Tryz.func111.trans (congrArg some (by kernel_rfl))
 f171:=Tryz.func32.trans (congrArg some (by kernel_rfl))
 f243:=Tryz.func69.trans (congrArg some (by kernel_rfl))
 f246:=Tryz.func94.trans (congrArg some (by kernel_rfl))
 f283:=Tryz.func115.trans (congrArg some (by kernel_rfl))
 f284:=Tryz.func116.trans (congrArg some (by kernel_rfl))
 f285:=Tryz.func117.trans (congrArg some (by kernel_rfl))
 f286:=Tryz.func118.trans (congrArg some (by kernel_rfl))
 f317:=Tryz.func136.trans (congrArg some (by kernel_rfl))
 f318:=Tryz.func137.trans (congrArg some (by kernel_rfl))
 f319:=Tryz.func138.trans (congrArg some (by kernel_rfl))
 f320:=Tryz.func139.trans (congrArg some (by kernel_rfl))
 f337:=Tryz.func151.trans (congrArg some (by kernel_rfl))
 f338:=Tryz.func152.trans (congrArg some (by kernel_rfl))
 t0:=Tryz.underlying0
 a0:=Tryz.isAgg0
 z0:=Tryz.sizeOf0
 v0:=Tryz.zeroValue0
 t2:=Tryz.underlying2
 a2:=Tryz.isAgg2
 z2:=Tryz.sizeOf2
 v2:=Tryz.zeroValue2
 t3:=Tryz.underlying3
 a3:=Tryz.isAgg3
 z3:=Tryz.sizeOf3
 v3:=Tryz.zeroValue3
 t4:=Tryz.underlying4
 a4:=Tryz.isAgg4
 z4:=Tryz.sizeOf4
 v4:=Tryz.zeroValue4
 t5:=Tryz.underlying5
 a5:=Tryz.isAgg5
 z5:=Tryz.sizeOf5
 v5:=Tryz.zeroValue5
 t9:=Tryz.underlying9
 a9:=Tryz.isAgg9
 z9:=Tryz.sizeOf9
 v9:=Tryz.zeroValue9
 t20:=Tryz.underlying20
 a20:=Tryz.isAgg20
 z20:=Tryz.sizeOf20
 v20:=Tryz.zeroValue20
 t37:=Tryz.underlying61
 a37:=Tryz.isAgg61
 z37:=Tryz.sizeOf61
 v37:=Tryz.zeroValue61
 t46:=Tryz.underlying121
 a46:=Tryz.isAgg121
 z46:=Tryz.sizeOf121
 v46:=Tryz.zeroValue121
 t51:=Tryz.underlying143
 a51:=Tryz.isAgg143
 z51:=Tryz.sizeOf143
 v51:=Tryz.zeroValue143
 t53:=Tryz.underlying145
 a53:=Tryz.isAgg145
 z53:=Tryz.sizeOf145
 v53:=Tryz.zeroValue145
 t171:=Tryz.underlying146
 a171:=Tryz.isAgg146
 z171:=Tryz.sizeOf146
 v171:=Tryz.zeroValue146
 t173:=Tryz.underlying148
 a173:=Tryz.isAgg148
 z173:=Tryz.sizeOf148
 v173:=Tryz.zeroValue148
 t212:=Tryz.underlying160
 a212:=Tryz.isAgg160
 z212:=Tryz.sizeOf160
 v212:=Tryz.zeroValue160
 t213:=Tryz.underlying161
 a213:=Tryz.isAgg161
 z213:=Tryz.sizeOf161
 t232:=Tryz.underlying183
 a232:=Tryz.isAgg183
 z232:=Tryz.sizeOf183
 v232:=Tryz.zeroValue183
 t233:=Tryz.underlying184
 a233:=Tryz.isAgg184
 z233:=Tryz.sizeOf184
 v233:=Tryz.zeroValue184
 g17:=by kernel_rfl
 g18:=by kernel_rfl
 g19:=by kernel_rfl
 i0:=by kernel_rfl
 i2:=by kernel_rfl
 i3:=by kernel_rfl
 i4:=by kernel_rfl
 i5:=by kernel_rfl
 i9:=by kernel_rfl
 i20:=by kernel_rfl
 i37:=by kernel_rfl
 i46:=by kernel_rfl
 i51:=by kernel_rfl
 i53:=by kernel_rfl
 i171:=by kernel_rfl
 i173:=by kernel_rfl
 i212:=by kernel_rfl
 i232:=by kernel_rfl
 i233:=by kernel_rfl
 m17:=by kernel_rfl
 m18:=by kernel_rfl
 m19:=by kernel_rfl}
open Go.RowKit Go.Sort Go.Lib in
theorem Tryz.strconv_Itoa (n:Int) (h0: -9223372036854775808≤n) (h1:n≤9223372036854775807) (w:World) (WA:Lib.TabIs Tryz.prog w "internal/strconv.uint64pow10" .u64 Lib.pow10Tab):
  Calls Tryz.prog 32 #[.int .i64 n] w fun e w'=>e=.returned (.string ⟨(Lib.itoa n).toArray⟩)∧∃k os,w'=grow (w.drewN k) os:=Any.strconv_Itoa Tryz.Hh n h0 h1 w WA
def Tryz.Ax:Go.Shelf.Ren:=⟨fun|189=>44|125=>78|257=>77|128=>110|129=>111|294=>101|295=>102|296=>103|297=>104|298=>105|299=>106|216=>107|300=>108|301=>109|328=>129|329=>130|330=>131|331=>132|332=>133|215=>134|343=>150|n=>n,fun|28=>29|3=>3|46=>121|0=>0|51=>143|53=>145|4=>4|183=>137|182=>136|131=>117|5=>5|9=>9|218=>152|222=>156|228=>174|229=>175|n=>n,fun|n=>n⟩
theorem Tryz.Ev:Go.Proofs.Lays.n189 Tryz.prog Tryz.Ax:={
 mixed:=by kernel_rfl
 f125:=Tryz.func78.trans (congrArg some (by kernel_rfl))
 f128:=Tryz.func110.trans (congrArg some (by kernel_rfl))
 f129:=Tryz.func111.trans (congrArg some (by kernel_rfl))
 f189:=Tryz.func44.trans (congrArg some (by kernel_rfl))
 f215:=Tryz.func134.trans (congrArg some (by kernel_rfl))
 f216:=Tryz.func107.trans (congrArg some (by kernel_rfl))
 f257:=Tryz.func77.trans (congrArg some (by kernel_rfl))
 f294:=Tryz.func101.trans (congrArg some (by kernel_rfl))
 f295:=Tryz.func102.trans (congrArg some (by kernel_rfl))
 f296:=Tryz.func103.trans (congrArg some (by kernel_rfl))
 f297:=Tryz.func104.trans (congrArg some (by kernel_rfl))
 f298:=Tryz.func105.trans (congrArg some (by kernel_rfl))
 f299:=Tryz.func106.trans (congrArg some (by kernel_rfl))
 f300:=Tryz.func108.trans (congrArg some (by kernel_rfl))
 f301:=Tryz.func109.trans (congrArg some (by kernel_rfl))
 f328:=Tryz.func129.trans (congrArg some (by kernel_rfl))
 f329:=Tryz.func130.trans (congrArg some (by kernel_rfl))
 f330:=Tryz.func131.trans (congrArg some (by kernel_rfl))
 f331:=Tryz.func132.trans (congrArg some (by kernel_rfl))
 f332:=Tryz.func133.trans (congrArg some (by kernel_rfl))
 f343:=Tryz.func150.trans (congrArg some (by kernel_rfl))
 t0:=Tryz.underlying0
 a0:=Tryz.isAgg0
 z0:=Tryz.sizeOf0
 v0:=Tryz.zeroValue0
 t3:=Tryz.underlying3
 a3:=Tryz.isAgg3
 z3:=Tryz.sizeOf3
 v3:=Tryz.zeroValue3
 t4:=Tryz.underlying4
 a4:=Tryz.isAgg4
 z4:=Tryz.sizeOf4
 v4:=Tryz.zeroValue4
 t5:=Tryz.underlying5
 a5:=Tryz.isAgg5
 z5:=Tryz.sizeOf5
 v5:=Tryz.zeroValue5
 t9:=Tryz.underlying9
 a9:=Tryz.isAgg9
 z9:=Tryz.sizeOf9
 v9:=Tryz.zeroValue9
 t28:=Tryz.underlying29
 a28:=Tryz.isAgg29
 z28:=Tryz.sizeOf29
 v28:=Tryz.zeroValue29
 t46:=Tryz.underlying121
 a46:=Tryz.isAgg121
 z46:=Tryz.sizeOf121
 v46:=Tryz.zeroValue121
 t51:=Tryz.underlying143
 a51:=Tryz.isAgg143
 z51:=Tryz.sizeOf143
 v51:=Tryz.zeroValue143
 t53:=Tryz.underlying145
 a53:=Tryz.isAgg145
 z53:=Tryz.sizeOf145
 v53:=Tryz.zeroValue145
 t131:=Tryz.underlying117
 a131:=Tryz.isAgg117
 z131:=Tryz.sizeOf117
 v131:=Tryz.zeroValue117
 t182:=Tryz.underlying136
 a182:=Tryz.isAgg136
 z182:=Tryz.sizeOf136
 v182:=Tryz.zeroValue136
 t183:=Tryz.underlying137
 a183:=Tryz.isAgg137
 z183:=Tryz.sizeOf137
 v183:=Tryz.zeroValue137
 t218:=Tryz.underlying152
 a218:=Tryz.isAgg152
 z218:=Tryz.sizeOf152
 v218:=Tryz.zeroValue152
 t222:=Tryz.underlying156
 a222:=Tryz.isAgg156
 z222:=Tryz.sizeOf156
 v222:=Tryz.zeroValue156
 t228:=Tryz.underlying174
 a228:=Tryz.isAgg174
 z228:=Tryz.sizeOf174
 v228:=Tryz.zeroValue174
 t229:=Tryz.underlying175
 a229:=Tryz.isAgg175
 z229:=Tryz.sizeOf175
 v229:=Tryz.zeroValue175}
open Go.Sort Go.RowKit in
theorem Tryz.slices_Sort_int (wI off cap:Nat) (zs:List Int) (w:World) (hH:Holds (Value.int .i64) w wI off zs.toArray) (oa:wI<w.heap.size) (mZ:zs.length<4611686018427387904):
  Calls Tryz.prog 44 #[.slice (some ⟨wI,off,none⟩) zs.length cap] w fun e w'=>
   e=.returned (.tuple #[])∧∃n os,w'=grow (putRow (Value.int .i64) (Sort.ahead w n) wI off (zs.mergeSort fun x y=>decide (x≤y)).toArray) os:=Any.slices_Sort_int Tryz.Ev wI off cap zs w hH oa mZ
def Tryz.xC:Go.Shelf.Ren:=⟨fun|20=>114|n=>n,fun|22=>29|3=>3|4=>4|0=>0|n=>n,fun|n=>n⟩
theorem Tryz.xJ:Go.Proofs.Lays2.n20 Tryz.prog Tryz.xC:={
 mixed:=by kernel_rfl
 f20:=Tryz.func114.trans (congrArg some (by kernel_rfl))
 t0:=Tryz.underlying0
 a0:=Tryz.isAgg0
 z0:=Tryz.sizeOf0
 v0:=Tryz.zeroValue0
 t3:=Tryz.underlying3
 a3:=Tryz.isAgg3
 z3:=Tryz.sizeOf3
 v3:=Tryz.zeroValue3
 t4:=Tryz.underlying4
 a4:=Tryz.isAgg4
 z4:=Tryz.sizeOf4
 v4:=Tryz.zeroValue4
 t22:=Tryz.underlying29
 a22:=Tryz.isAgg29
 z22:=Tryz.sizeOf29
 v22:=Tryz.zeroValue29
 i3:=by kernel_rfl}
open Go.RowKit Go.Lib Go.Sort in
theorem Tryz.slices_Compact_int (wI off cap:Nat) (zs:List Int) (w:World) (hH:Holds (Value.int .i64) w wI off zs.toArray) (mZ:zs.length≤9223372036854775807) (mM:zs.length≤cap):
  Calls Tryz.prog 114 #[.slice (some ⟨wI,off,none⟩) zs.length cap] w fun e w'=>e=.returned (.slice (some ⟨wI,off,none⟩) (Lib.compact zs).length cap)∧∃q,w'=putRow (Value.int .i64) (Sort.ahead w q) wI off (Lib.compact zs++bZ (zs.length - (Lib.compact zs).length) 0).toArray:=Any.slices_Compact_int Tryz.xJ wI off cap zs w hH mZ mM
open Go.RowKit Go.Lib Go.Sort in
theorem Tryz.slices_Compact_int_empty (a:Option Addr) (cap:Nat) (w:World):
  Calls Tryz.prog 114 #[.slice a 0 cap] w fun e w'=>e=.returned (.slice a 0 cap)∧w'=w:=Any.slices_Compact_int_empty Tryz.xJ a cap w
open Go.RowKit Go.Sort in
theorem Tryz.slices_Sort_int_none (p:Option Addr) (cap:Nat) (w:World):
  Calls Tryz.prog 44 #[.slice p 0 cap] w fun e w'=>e=.returned (.tuple #[])∧w'=w:=Any.slices_Sort_int_none Tryz.Ev p cap w
end Go.Proofs
/- Go's slices.Sort and slices.Compact at numbers,as callees that rewrite a row. -/
namespace Go.Ab
open Go Go.Proofs Go.RowKit
def iV (zs:List Int):List Int:=zs.mergeSort fun x y=>decide (x≤y)
def j3 (zs:List Int):List Int:=Go.Lib.compact zs
def nP (zs:List Int):List Int:=j3 zs++bZ (zs.length - (j3 zs).length) 0
theorem BR (zs:List Int):(j3 zs).length≤zs.length:=by
 unfold j3 Go.Lib.compact Go.Lib.compactUpTo
 rw[a6]
 exact aQ (List.length_filter_le _ _) (by simp)
theorem yl:KM Tryz.prog 44 iV none where
 enters:=enters_of Tryz.func44 rfl (by decide)
 len:=fun zs=>by simp [iV]
 retle:=fun r h=>by cases h
 calls:=fun b cap zs w hH hb hl _=>Tryz.slices_Sort_int b 0 cap zs w hH hb (by omega)
 nil:=fun w=>(Tryz.slices_Sort_int_none none 0 w).mono fun e w' ⟨h1,h2⟩=>⟨h1,h2▸Below.refl _ _⟩
theorem yF:KM Tryz.prog 114 nP (some fun zs=>(j3 zs).length) where
 enters:=enters_of Tryz.func114 rfl (by decide)
 len:=fun zs=>by have:=BR zs;simp [nP];omega
 retle:=fun r h zs=>by cases h;exact BR zs
 calls:=fun b cap zs w hH hb hl hc=>(Tryz.slices_Compact_int b 0 cap zs w hH aJ hc).mono fun e w' ⟨h1,q,h2⟩=>⟨h1,q, #[],by rw[h2];simp [Sort.grow];rfl⟩
 nil:=fun w=>(Tryz.slices_Compact_int_empty none 0 w).mono fun e w' ⟨h1,h2⟩=>⟨h1,h2▸Below.refl _ _⟩
end Go.Ab
/- Lists of numbers put in order,each number once. -/
namespace Go.Ab
open Go Go.Proofs
abbrev PZ (l:List Int):Prop:=l.Pairwise (·<·)
theorem Et:∀{a b:List Int},PZ a→PZ b→(∀x,x∈a↔x∈b)→a=b
 |[],[],_,_,_=>rfl
 |[],y::b,_,_,h=>by have:=(h y).2 (by simp);simp at this
 |x::a,[],_,_,h=>by have:=(h x).1 (by simp);simp at this
 |x::a,y::b,ha,hb,h=>by
  have Li:=dF.1 ha
  have ja:=dF.1 hb
  have Uj:x=y:=by
   have h1:=(h x).1 (by simp)
   have h2:=(h y).2 (by simp)
   rcases bw.1 h1 with e|h1
   ·exact e
   ·rcases bw.1 h2 with e|h2
    ·exact e.symm
    ·have:=ja.1 x h1
     have:=Li.1 y h2
     omega
  subst Uj
  rw[Et Li.2 ja.2 fun z=>?_]
  constructor
  ·intro hz
   have h1:=Li.1 z hz
   rcases bw.1 ((h z).1 (by simp [hz])) with e|h2
   ·omega
   ·exact h2
  ·intro hz
   have h1:=ja.1 z hz
   rcases bw.1 ((h z).2 (by simp [hz])) with e|h2
   ·omega
   ·exact h2
theorem lN {zs:List Int} {j:Nat} (hj:j<zs.length):zs.toArray[j]! =zs[j]:=by simp [hj]
theorem JG {zs:List Int} {x:Int}:x∈j3 zs↔∃j,∃h:j<zs.length,zs[j]=x∧(j=0∨∃h':j - 1<zs.length,zs[j]≠zs[j - 1]):=by
 unfold j3 Go.Lib.compact Go.Lib.compactUpTo
 simp only[bx,de,dG,Go.Lib.keeps,decide_eq_true_eq]
 constructor
 ·rintro⟨j,⟨hj,hk⟩,rfl⟩
  refine⟨j,hj,(lN hj).symm,?_⟩
  rcases hk with hk|hk
  ·exact .inl hk
  ·by_cases h0:j=0
   ·exact .inl h0
   ·right
    refine⟨by omega,?_⟩
    rwa [lN hj,lN aJ] at hk
 ·rintro⟨j,hj,rfl,hk⟩
  refine⟨j,⟨hj,?_⟩,lN hj⟩
  rcases hk with hk|⟨h',hk⟩
  ·exact .inl hk
  ·right
   rwa [lN hj,lN h']
theorem Hu {zs:List Int} {x:Int}:x∈j3 zs↔x∈zs:=by
 rw[JG]
 constructor
 ·rintro⟨j,hj,rfl,_⟩;exact cZ hj
 ·intro hx
  obtain⟨j,hj,rfl⟩:=List.getElem_of_mem hx
  induction j with
  |zero=>exact⟨0,hj,rfl,.inl rfl⟩
  |succ j ih=>
   by_cases e:zs[j+1]=zs[j]
   ·obtain⟨i,hi,h1,h2⟩:=ih aJ (cZ _)
    exact⟨i,hi,h1.trans e.symm,h2⟩
   ·exact⟨j+1,hj,rfl,.inr ⟨by omega,e⟩⟩
theorem Js {zs:List Int} (h:zs.Pairwise (·≤·)):PZ (j3 zs):=by
 unfold j3 Go.Lib.compact Go.Lib.compactUpTo PZ
 rw[List.pairwise_map]
 have h1:((List.range zs.length).filter (Go.Lib.keeps zs.toArray)).Pairwise (·<·):=List.Pairwise.filter _ List.pairwise_lt_range
 refine List.Pairwise.imp_of_mem (fun {i j} hi hj va=>?_) h1
 simp only[de,dG,Go.Lib.keeps,decide_eq_true_eq] at hi hj
 obtain⟨Vw,_⟩:=hi
 obtain⟨N3,rB⟩:=hj
 rw[lN Vw,lN N3]
 rw[List.pairwise_iff_getElem] at h
 rcases rB with h0|h0
 ·omega
 ·have IE:j - 1<zs.length:=by omega
  have h2:zs[j - 1]≤zs[j]:=h (j - 1) j IE N3 (by omega)
  rw[lN N3,lN IE] at h0
  by_cases e:i=j - 1
  ·subst e;omega
  ·have h3:zs[i]≤zs[j - 1]:=h i (j - 1) Vw IE (by omega)
   omega
theorem pF {zs:List Int} {x:Int}:x∈iV zs↔x∈zs:=(List.mergeSort_perm zs _).mem_iff
theorem Kw (zs:List Int):(iV zs).Pairwise (·≤·):=by
 have:=List.pairwise_mergeSort (le:=fun x y:Int=>decide (x≤y)) (fun a b c h1 h2=>by simp only[decide_eq_true_eq] at*;omega) (fun a b=>by simp only[Bool.or_eq_true,decide_eq_true_eq];omega) zs
 exact this.imp fun h=>by simpa using h
def canon (zs:List Int):List Int:=j3 (iV zs)
theorem GA (zs:List Int):j3 (iV zs)=canon zs:=rfl
theorem yu (zs:List Int):PZ (canon zs):=Js (Kw zs)
theorem p7 {zs:List Int} {x:Int}:x∈canon zs↔x∈zs:=by unfold canon;rw[Hu,pF]
theorem A1 {a b:List Int} (h:∀x,x∈a↔x∈b):canon a=canon b:=Et (yu a) (yu b) fun x=>by rw[p7,p7,h]
theorem Dh (zs:List Int):(nP zs).take (j3 zs).length=j3 zs:=by unfold nP;rw[List.take_append_of_le_length (aP _),List.take_length]
end Go.Ab
/- Chapter 23:the checker's clauses:put in order,compared,within the variables,their images. -/
namespace Go.Ab
open Go Go.Proofs
open Nat (reduceAdd reduceSub)
set_option maxRecDepth 20000
set_option maxHeartbeats 4000000
theorem GG {α:Type} {a b:List α} {k:Nat} (hl:a.length=b.length) (h:a.take k=b.take k) (hk:¬k<a.length):a=b:=by
 rwa [cG aJ,cG aJ] at h
theorem LB {α:Type} {a b:List α} {k:Nat} (h:a.take k=b.take k) (ha:k<a.length) (hb:k<b.length) (e:a[k]=b[k]):a.take (k+1)=b.take (k+1):=by
 rw[fw ha,fw hb,h,e]
attribute [local irreducible] AW a_ gb fq AR fz fk fJ fX canon iV j3 nP
theorem sM (a b:List Int):Fn Tryz.prog 38 [.pv (ints a),.pv (ints b)] (fh (decide (a=b))):=by
 refine Fn.enter (n:=26) Tryz.func38 rfl rfl rfl rfl rfl (by decide) fun g fD fB=>?_;(try refine nz ?_)
 refine AW.jE 0 rfl fun hlen=>?_
 by_cases qh:a.length=b.length
 ·(refine On ?_;refine ph ?_;refine qw ?_;refine zm ?_;refine n_ ?_)
  refine AW.loop (fun(k:Nat)=>{n:=26,env:=[(0,.pv (ints a)),(1,.pv (ints b)),(12,eV a.length),(13,eV k)],gm:=[],nx:=0}) (fun k=>k≤a.length∧a.take k=b.take k) (fun k=>a.length - k) 0 ?_ ?_ ?_
  ·simp
  ·exact KX
  rintro k ⟨hk,kY⟩
  by_cases fm:k<a.length
  ·have DE:k<b.length:=by omega
   (refine kA ?_;refine pz ?_;refine AW.fY rfl rfl aI (by with_reducible assumption) ?_;(iterate 2 refine zm ?_);refine aA ?_;refine zr ?_;(iterate 2 refine zm ?_);refine aA ?_;refine zr ?_;refine a_.neq rfl rfl rfl rfl rfl ?_;refine zd ?_;(focus ((with_reducible apply AW.qB);exact rfl;exact rfl;all_goals intro qq));refine lf ?_;refine wu ?_;(all_goals skip);rotate_left;refine uB ?_;refine oI ?_;(all_goals skip);rotate_left)
   ·have fW:¬a=b:=by rintro rfl;exact qq rfl
    (apply e6;(exact gk.one (.tmp rfl rfl));(refine Le.fh ?_;(rw[eq_comm,decide_eq_false_iff_not];exact fW)))
   ·exact⟨k+1,⟨by omega,LB kY fm DE (Decidable.not_not.1 qq)⟩,by omega,fp rfl (by(refine aC ?_;(iterate 3 refine aC ?_);exact trivial)) (by(exact trivial)) rfl⟩
  ·have he:a=b:=GG qh kY fm
   (refine lU ?_;refine lf ?_)
   (apply e6;(exact gk.one (.tmp rfl rfl));(refine Le.fh ?_;(rw[eq_comm,decide_eq_true_iff];exact he)))
 ·have fW:¬a=b:=by rintro rfl;exact qh rfl
  (refine On ?_;refine na ?_;refine lf ?_;refine gH ?_)
  (apply e6;(exact gk.one (.tmp rfl rfl));(refine Le.fh ?_;(rw[eq_comm,decide_eq_false_iff_not];exact fW)))
theorem LJ (l:List Int):l.map encI=l.map nI:=rfl
theorem s7 (l:List Int) (hl:l.length≤1000000):J8 Tryz.prog 43 [.pv (ints l)] 3 1 (l.map nI):=by
 rw[← LJ]
 refine J8.enter (n:=8) Tryz.func43 rfl rfl rfl rfl rfl (by decide) fun g fD fB=>?_;(try refine nz ?_)
 by_cases h0:l=[]
 ·subst h0
  have e0:([]:List Int).length=0:=rfl
  (refine w6 ?_;(focus ((with_reducible apply a_.ri);(iterate 6 exact rfl);all_goals intro qq));refine wL ?_;(all_goals skip);rotate_left;refine E6 ?_;(with_reducible apply a_.fI);exact rfl;exact ah;(iterate 9 exact rfl);exact aa;refine nz ?_;refine tH ?_;(all_goals skip);rotate_left)
  all_goals ((first|(refine iU (gk.one (.tmp rfl rfl)) ?_)|(refine iU (gk.one (.cell1 rfl rfl rfl rfl)) ?_)|(refine mI (gk.one (.tmp rfl rfl)) ?_));(first|rfl|simp))
 ·have e0:0<l.length:=List.length_pos_iff.2 h0
  have e1:¬l.map encI=[]:=by simpa using h0
  clear h0
  (refine w6 ?_;(focus ((with_reducible apply a_.ri);(iterate 6 exact rfl);all_goals intro qq));refine wL ?_;(all_goals skip);rotate_left;refine E6 ?_;(with_reducible apply a_.fI);exact rfl;exact ah;(iterate 9 exact rfl);exact aa;refine nz ?_;refine tH ?_;(all_goals skip);rotate_left)
  ·exact absurd qq e1
  ·((first|(refine iU (gk.one (.tmp rfl rfl)) ?_)|(refine iU (gk.one (.cell1 rfl rfl rfl rfl)) ?_)|(refine mI (gk.one (.tmp rfl rfl)) ?_));(first|rfl|simp))
theorem mE (l:List Int) (hl:l.length≤1000000):Fn Tryz.prog 85 [.pv (ints l)] (.pv (ints (canon l))):=by
 have hc:=s7 l hl
 refine Fn.enter (n:=10) Tryz.func85 rfl rfl rfl rfl rfl (by decide) fun g fD fB=>?_;(try refine nz ?_)
 (refine zq ?_;refine pB ?_;refine zm ?_;(with_reducible apply a_.M9 (hc));exact aj;exact rfl;refine nz ?_;refine D3 ?_;refine ly ?_;refine a_.fT rfl rfl rfl ?_;(try refine nz ?_);refine a_.Ij (yl) [6,3,5] rfl ⟨rfl,rfl,rfl,trivial⟩ rfl rfl rfl ?_;(conv=>rhs;simp only[Nf.Ui,Nf.all,di,reduceAdd,reduceSub]);refine zd ?_;refine zq ?_;refine a_.fT rfl rfl rfl ?_;(try refine nz ?_);refine a_.Ij (yF) [8,6,3,5] rfl ⟨rfl,rfl,rfl,rfl,trivial⟩ rfl rfl rfl ?_;(conv=>rhs;simp only[Nf.Ui,Nf.all,di,reduceAdd,reduceSub]);refine tH ?_)
 (apply e6;(exact gk.one (.tmp rfl rfl));(refine Le.e9 ?_;(first|rfl|(rw[Dh,GA];rfl))))
theorem Ig (a b:List Int) (ha:a.length≤1000000) (hb:b.length≤1000000):Fn Tryz.prog 92 [.pv (ints a),.pv (ints b)] (fh (decide (canon a=canon b))):=by
 have h1:=mE a ha
 have h2:=mE b hb
 have h3:=sM (canon a) (canon b)
 refine Fn.enter (n:=10) Tryz.func92 rfl rfl rfl rfl rfl (by decide) fun g fD fB=>?_;(try refine nz ?_)
 (refine zq ?_;refine pB ?_;refine zm ?_;refine zP (h1) ?_;refine zm ?_;refine zP (h2) ?_;refine zA (h3) ?_;refine kQ ?_)
 (apply e6;(exact gk.one (.tmp rfl rfl));(refine Le.fh ?_;(rfl)))
theorem uh {vars:Int} {l:List Int} {k:Nat} (hk:k<l.length):eX vars (l.take (k+1))=(eX vars (l.take k) && decide (l[k]≠0∧l[k]≤vars∧0 - vars≤l[k])):=by
 unfold eX
 rw[fw hk,List.all_append]
 simp
theorem oh (vars:Int) (l:List Int) (hv: -1000000≤vars∧vars≤1000000):Fn Tryz.prog 83 [eV vars,.pv (ints l)] (fh (eX vars l)):=by
 refine Fn.enter (n:=9) Tryz.func83 rfl rfl rfl rfl rfl (by decide) fun g fD fB=>?_;(try refine nz ?_)
 refine AW.jE 1 rfl fun hlen=>?_
 (refine zq ?_;refine Ee ?_;refine pB ?_;refine zm ?_;refine a_.lE rfl rfl rfl ?_;(with_reducible apply a_.inline (hf:=Tryz.func20));(with_reducible assumption);(iterate 10 exact rfl);intro g_ fD fB;refine sW ?_;refine zm ?_;refine a_.j7 rfl rfl rfl ?_;(with_reducible apply a_.inline (hf:=Tryz.func42));(with_reducible assumption);(iterate 10 exact rfl);intro g_ fD fB;refine uw ?_;refine FY ?_)
 (refine nz ?_;apply AW.gN [7,0,1,1006,1005,1004,1000,1001,2006,2005,2004,2002,2001] [0] (fun k:Nat=>([(8,eV k)]:List (Nat×AV))) (fun k:Nat=>([]:List (Nat×Option Ob))) (fun k:Nat=>k≤l.length∧eX vars (l.take k)=true) (fun k:Nat=>l.length - k) (0);(conv=>lhs;simp only[Nf.nN,Nf.all,di,reduceAdd,reduceSub]);(all_goals skip))
 ·exact⟨bm _,rfl⟩
 ·exact fp rfl (by(refine aC ?_;(iterate 13 refine aC ?_);exact trivial)) (by(refine⟨.box _ rfl ?_,?_⟩;refine aC ?_;(iterate 2 exact trivial))) rfl
 rintro k ⟨hk,kY⟩
 by_cases fm:k<l.length
 ·have hs:=uh (vars:=vars) fm
  rw[kY,Bool.true_and] at hs
  by_cases hb:l[k]≠0∧l[k]≤vars∧0 - vars≤l[k]
  ·obtain⟨b1,b2,b3⟩:=hb
   rw[decide_eq_true ⟨b1,b2,b3⟩] at hs
   have b4:¬l[k]< -vars:=by omega
   have b5:¬vars<l[k]:=by omega
   (refine yM ?_;refine aA ?_;refine zr ?_;(with_reducible apply a_.inline (hf:=Tryz.func113));(with_reducible assumption);(iterate 10 exact rfl);intro g_ fD fB;refine sW ?_;refine zm ?_;refine Oo ?_;refine w8 ?_;refine zd ?_;refine zk ?_;refine uB ?_;refine Ba ?_)
   exact⟨k+1,⟨by omega,hs⟩,by omega,fp rfl (by(refine aC ?_;(iterate 13 refine aC ?_);exact trivial)) (by(refine⟨.box _ rfl ?_,?_⟩;refine aC ?_;(iterate 2 exact trivial))) rfl⟩
  ·have hf:=v7 fm hb
   rw[hf]
   by_cases b1:l[k]=0
   ·(refine yM ?_;refine aA ?_;refine zr ?_;(with_reducible apply a_.inline (hf:=Tryz.func113));(with_reducible assumption);(iterate 10 exact rfl);intro g_ fD fB;refine sW ?_;refine zm ?_;refine a_.eql rfl rfl rfl rfl rfl ?_;refine Qe ?_;refine kQ ?_;refine FP ?_;refine LH ?_;refine kQ ?_)
    all_goals (apply e6;(exact gk.one (.tmp rfl rfl));(refine Le.fh ?_;(first|rfl)))
   ·by_cases b2:vars<l[k]
    ·(refine yM ?_;refine aA ?_;refine zr ?_;(with_reducible apply a_.inline (hf:=Tryz.func113));(with_reducible assumption);(iterate 10 exact rfl);intro g_ fD fB;refine sW ?_;refine zm ?_;refine a_.eql rfl rfl rfl rfl rfl ?_;(iterate 2 refine lg ?_);refine zb ?_;refine Cc ?_;refine zm ?_;refine LQ ?_;refine kQ ?_;refine FP ?_;refine LH ?_;refine kQ ?_)
     all_goals (apply e6;(exact gk.one (.tmp rfl rfl));(refine Le.fh ?_;(first|rfl)))
    ·have b3:l[k]< -vars:=by omega
     (refine yM ?_;refine aA ?_;refine zr ?_;(with_reducible apply a_.inline (hf:=Tryz.func113));(with_reducible assumption);(iterate 10 exact rfl);intro g_ fD fB;refine sW ?_;refine zm ?_;refine Oo ?_;refine w8 ?_;refine na ?_;refine ta ?_;refine kQ ?_;refine wu ?_;refine LH ?_;refine kQ ?_)
     all_goals (apply e6;(exact gk.one (.tmp rfl rfl));(refine Le.fh ?_;(first|rfl)))
 ·rw[gC (l:=l) aJ] at kY
  rw[kY]
  (refine lU ?_;refine lf ?_;refine LH ?_;refine kQ ?_)
  (apply e6;(exact gk.one (.tmp rfl rfl));(refine Le.fh ?_;(first|rfl)))
end Go.Ab
/- Chapter 23:Go's slices.Delete of one clause. -/
namespace Go.Ab
open Go Go.Proofs Go.RowKit Go.Lib Go.Sort
set_option maxRecDepth 1000000
set_option maxHeartbeats 4000000
abbrev vv (u:Value):Value:=u
theorem Gl (b off cap i:Nat) (us:List Value) (w:World) (Xq:Holds (fun u:Value=>u) w b off us.toArray) (h1:∀u∈us,u.oneCell'=true) (mM:us.length≤cap) (hm:cap≤maxLen) (hi:i<us.length):
  Calls Tryz.prog 88 #[.slice (some ⟨b,off,none⟩) us.length cap,.int .i64 i,.int .i64 (i+1)] w fun e w'=>e=.returned (.slice (some ⟨b,off,none⟩) (us.length - 1) cap)∧
   ∃n,w'=putRow (fun u:Value=>u) (Sort.ahead w n) b off (us.take i++us.drop (i+1)++ [Value.slice none 0 0]).toArray:=by
 have Xy:cap≤9223372036854775807:=aQ hm (by unfold maxLen;decide)
 obtain⟨d,hd⟩:∃d:Array Value,d=us.toArray:=⟨_,rfl⟩
 have sK:us.length=d.size:=by rw[hd];simp
 have Ap:d.toList=us:=by rw[hd]
 have hH:Holds vv w b off d:=by rw[hd];exact Xq
 rw[sK] at mM hi ⊢
 rw[← Ap] at h1 ⊢
 clear Xq sK Ap hd
 obtain⟨j,hj⟩:∃j,j=i+1:=⟨_,rfl⟩
 have va:i≤j:=by omega
 have Zn:j≤d.size:=by omega
 have fW:¬(i:Int)=(j:Int):=by omega
 rw[show((i:Int)+1)=(j:Int) by omega,← hj,show d.size - 1=d.size - (j - i) by omega]
 have hz:(Tryz.prog.info? 29).map (fun i=>(i.size,i.zero))=some (1,some (.slice none 0 0)):=rfl
 obtain⟨i0,ju,Ae,nv⟩:∃i0,Tryz.prog.info? 29=some i0∧i0.size=1∧i0.zero=some (.slice none 0 0):=by
  cases h:Tryz.prog.info? 29 with
  |none=>rw[h] at hz;simp at hz
  |some i0=>rw[h] at hz;simp at hz;exact⟨i0,rfl,hz.1,hz.2⟩
 obtain⟨news,Bm⟩:∃news,news=(d.toList.drop j).map vv:=⟨_,rfl⟩
 have hlen:news.length=d.size - j:=by rw[Bm];simp
 have Gu:∀t,t<d.size - j→news[t]? =some (vv d[j+t]!):=by
  intro t ht
  rw[Bm,List.getElem?_map,List.getElem?_drop,Array.getElem?_toList,getElem!_pos d (j+t) aJ,Array.getElem?_eq_getElem aJ]
  rfl
 obtain⟨A,hA,O7⟩:∃A:Addr,(if cap=j then some (⟨b,off,none⟩:Addr) else some ⟨b,off+j,none⟩)=some A∧Hid (∀t u,news[t]? =some u→w.drew.cell? (A.add t)=some u):=by
  by_cases h:cap=j
  ·refine⟨⟨b,off,none⟩,by simp [h],fun t u hu=>?_⟩
   have h0:news.length=0:=by rw[hlen];omega
   rw[List.length_eq_zero_iff.1 h0] at hu
   simp at hu
  ·refine⟨⟨b,off+j,none⟩,by simp [h],fun t u hu=>?_⟩
   have ht:t<d.size - j:=by
    have:=(List.getElem?_eq_some_iff.1 hu).1
    rwa [hlen] at this
   rw[Gu t ht] at hu
   rw[Addr.add_lit,show off+j+t=off+(j+t) by omega]
   exact(hH (j+t) aJ).1.trans hu
 have s1:Hid (news.length=(d.size - j)*1):=by rw[cI];exact hlen
 have s2:Hid (∀u∈news,u.oneCell'=true):=by
  intro u hu
  rw[Bm] at hu
  obtain⟨x,hx,rfl⟩:=bx.1 hu
  exact h1 x (List.mem_of_mem_drop hx)
 have s3:Hid (∀t,t<news.length→(w.drew.cell? ⟨b,off+i*1+t,none⟩).isSome=true∧w.drew.frozen? ⟨b,off+i*1+t,none⟩=false):=by
  intro t ht
  rw[hlen] at ht
  rw[cI,Nat.add_assoc]
  exact⟨by show(w.cell? _).isSome=true;rw[(hH (i+t) aJ).1];rfl,(hH (i+t) aJ).2⟩
 obtain⟨W1,Vu⟩:∃W1,W1=w.drew.setCells b (off+i*1) news:=⟨_,rfl⟩
 have OI:W1=putRow vv (Sort.ahead w 1) b off (lay d i (d.toList.drop j)):=by
  rw[Vu,Bm,cI,← putRow_setCells vv (Sort.ahead w 1) b off _ d i (by simp;omega),putRow_self vv (Sort.ahead w 1) b off d (holds_ahead vv w 1 b off d hH)]
  rfl
 have Vt:Holds vv W1 b off (lay d i (d.toList.drop j)):=by rw[OI];exact holds_putRow vv _ b off d _ (holds_ahead vv w 1 b off d hH) (lay_size _ _ _)
 have hv:∀w,(zeroValue 29).run Tryz.prog w=.ok (Value.slice none 0 0) w:=fun w=>by simp [zeroValue,typeInfo,ju,nv]
 have iR:∀ty,(Builtin.clear_ #[22] ty #[.slice (some ⟨b,off+(i+(d.size - j)),none⟩) (d.size - (i+(d.size - j))) (cap - (i+(d.size - j)))]).run Tryz.prog W1=.ok (.tuple #[]) (W1.setCells b (off+(i+(d.size - j))) (bZ (d.size - (i+(d.size - j))) (Value.slice none 0 0))):=
  fun ty=>Lib.run_clear_slice W1 _ _ ty _ Tryz.underlying22 hv rfl rfl b (off+(i+(d.size - j))) _ _ aJ (fun t ht=>by rw[show off+(i+(d.size - j))+t=off+(i+(d.size - j)+t) by omega,(Vt _ (by rw[lay_size];omega)).1];rfl) (fun t ht=>by rw[show off+(i+(d.size - j))+t=off+(i+(d.size - j)+t) by omega];exact(Vt _ (by rw[lay_size];omega)).2)
 have X:Aside (W1=putRow vv (Sort.ahead w 1) b off (lay d i (d.toList.drop j))):=OI
 have hW:Hid (W1=w.drew.setCells b (off+i*1) news):=Vu
 have hic:i≤cap:=by omega
 have hjc:j≤cap:=by omega
 have pg:j - i=1:=by omega
 clear Vu OI Vt hH Gu Bm hlen hj h1
 go_enter Tryz.func88,Tryz.ntmps88
 go_wp2_with fail
 go_region_law (refine step_append_room rfl (.tmp 22) (.tmp 25) 22 rfl 29 i0 1 Tryz.underlying22 ju Ae b off i cap (by simp [Act.eval,Act.put]) A (d.size - j) (cap - j) news (by simp [Act.eval,Act.put]) s1.out O7.out s2.out aJ s3.out ?_;rw[← hW.out])
 go_wp2
 go_ret
 refine⟨by rw[show d.size - (j - i)=i+(d.size - j) by omega];rfl,1,?_⟩
 rw[show [Value.slice none 0 0]=bZ (j - i) (Value.slice none 0 0) by rw[pg];rfl]
 rw[← delete_arr d i j _ va Zn,← putRow_setCells vv _ b off _ _ (i+(d.size - j)) (by rw[lay_size];simp;omega),← X.out,dH,show d.size - (i+(d.size - j))=j - i by omega]
theorem Rt:NL Tryz.prog 88 (Value.slice none 0 0) where
 enters:=enters_of Tryz.func88 rfl (by decide)
 calls:=fun b cap i us w h1 h2 h3 h4 h5=>Gl b 0 cap i us w h1 h2 h3 h4 h5
end Go.Ab
/- Chapter 23:images of clauses,symmetries. -/
namespace Go.Ab
open Go Go.Proofs
open Nat (reduceAdd reduceSub)
set_option maxRecDepth 20000
set_option maxHeartbeats 4000000
def rQ (sym:List Int) (x:Int):Int:=if 0<x then sym.getD (x - 1).toNat 0 else -(sym.getD (-x - 1).toNat 0)
def mr (sym c:List Int):List Int:=c.map (rQ sym)
def IU (sym c:List Int) (i:Nat):List Int:=mr sym (c.take i)++bZ (c.length - i) 0
theorem kh (sym c:List Int):IU sym c 0=bZ c.length 0:=by unfold IU mr;simp
theorem Lz (sym c:List Int) {i:Nat} (hi:i≤c.length):(IU sym c i).length=c.length:=by unfold IU mr;simp;omega
theorem ES {sym c:List Int} {i:Nat} (hi:i<c.length) {v:Int} (hv:v=rQ sym c[i]):(IU sym c i).set i v=IU sym c (i+1):=by
 subst hv
 unfold IU mr
 rw[List.set_append_right _ _ (by rw[a6,dI];omega),a6,dI,Nat.min_eq_left aJ,Nat.sub_self,fw hi,cV,List.append_assoc]
 congr 1
 obtain⟨k,hk⟩:∃k,c.length - i=k+1:=⟨c.length - i - 1,by omega⟩
 rw[hk,show c.length - (i+1)=k by omega]
 rfl
theorem L9 (sym c:List Int) {i:Nat} (hi:¬i<c.length):IU sym c i=mr sym c:=by
 unfold IU
 rw[cG aJ,show c.length - i=0 by omega]
 simp
theorem AJ (sym c:List Int):(mr sym c).length=c.length:=by unfold mr;simp
attribute [local irreducible] AW a_ gb fq AR fz fk fJ fX canon iV j3 nP IU
theorem A8 (sym c:List Int) (hs:Sm sym) (hl:sym.length≤1000000) (hc:c.length≤100000) (hw:eX sym.length c=true):Fn Tryz.prog 90 [.pv (ints sym),.pv (ints c)] (.pv (ints (mr sym c))):=by
 have hb:=fE hw
 refine Fn.enter (n:=40) Tryz.func90 rfl rfl rfl rfl rfl (by decide) fun g fD fB=>?_;(try refine nz ?_)
 (refine zq ?_;refine pB ?_;refine zm ?_;refine zn ?_;refine a_.mY rfl rfl rfl rfl rfl rfl rfl rfl rfl rfl aJ ?_;refine nz ?_;refine D3 ?_;refine qw ?_;refine zm ?_;refine n_ ?_)
 (refine nz ?_;apply AW.gN [12,11,4,0] [] (fun i:Nat=>([(5,.own 0 3 1 ((IU sym c i).map encI)),(13,eV i)]:List (Nat×AV))) (fun i:Nat=>([(0,some .row)]:List (Nat×Option Ob))) (fun i:Nat=>i≤c.length) (fun i:Nat=>c.length - i) (0);(conv=>lhs;simp only[Nf.nN,Nf.all,di,reduceAdd,reduceSub]);(all_goals skip))
 ·exact bm _
 ·exact fp rfl (by(refine⟨.e9 (by first|rfl|(rw[kh,dH];rfl)|(show bZ _ _=dJ encI _;rw[kh,dH,dt];rfl)) rfl,?_⟩;refine⟨.fQ (by first|rfl|(rw[kh,dH];rfl)|(show bZ _ _=dJ encI _;rw[kh,dH,dt];rfl)),?_⟩;refine⟨.fQ (by first|rfl|(rw[kh,dH];rfl)|(show bZ _ _=dJ encI _;rw[kh,dH,dt];rfl)),?_⟩;refine⟨.ib (by first|rfl|(rw[kh,dH];rfl)|(show bZ _ _=dJ encI _;rw[kh,dH,dt];rfl)),?_⟩;refine aC ?_;refine⟨.ib (by first|rfl|(rw[kh,dH];rfl)|(show bZ _ _=dJ encI _;rw[kh,dH,dt];rfl)),?_⟩;exact trivial)) (by(refine aF ?_;exact trivial)) rfl
 rintro i hi
 have GP:=Lz sym c hi
 by_cases fm:i<c.length
 ·obtain⟨b1,b2,b3⟩:=hb _ (cZ fm)
  by_cases hp:0<c[i]
  ·have hj:(c[i] - 1).toNat<sym.length:=by omega
   have PA:0≤c[i] - 1:=by omega
   have hv:sym[(c[i] - 1).toNat]=rQ sym c[i]:=by unfold rQ;rw[if_pos hp,c8,a8 hj];rfl
   have Eh:=ES fm hv
   (refine kA ?_;refine aA ?_;refine zr ?_;refine ur ?_;refine ly ?_;refine Hb ?_;refine na ?_;refine Fh ?_;(iterate 3 refine zm ?_);refine a_.sub rfl rfl rfl rfl rfl aJ ?_;refine ay ?_;refine zr ?_;refine GF ?_;refine a_.gu rfl rfl rfl rfl rfl rfl rfl rfl ?_;refine nz ?_;refine xz ?_)
   exact SB
  ·have hj:(-c[i] - 1).toNat<sym.length:=by omega
   have PA:0≤ -c[i] - 1:=by omega
   have GX:=hs _ (cZ hj)
   have hv: -sym[(-c[i] - 1).toNat]=rQ sym c[i]:=by unfold rQ;rw[if_neg hp,c8,a8 hj];rfl
   have Eh:=ES fm hv
   (refine kA ?_;refine aA ?_;refine zr ?_;refine ur ?_;refine ly ?_;refine Hb ?_;refine zd ?_;refine zk ?_;refine Fh ?_;(iterate 3 refine zm ?_);refine a_.neg rfl rfl rfl aJ ?_;refine a_.sub rfl rfl rfl rfl rfl aJ ?_;refine ay ?_;refine zr ?_;refine a_.neg rfl rfl rfl aJ ?_;refine GF ?_;refine a_.gu rfl rfl rfl rfl rfl rfl rfl rfl ?_;refine nz ?_;refine xz ?_)
   exact SB
 ·rw[L9 _ _ aJ]
  (refine lU ?_;refine ly ?_;refine a_.fT rfl rfl rfl ?_;refine tH ?_)
  (apply e6;(exact gk.one (.tmp rfl rfl));(exact Le.own _ _ _ _ rfl))
end Go.Ab
