/- Chapters 05 to 07: relations, states, models as data; equality, the next state. -/
import Derived.Test.YtcklfjkaadfjjaaGreatRows
import Derived.Test.YtcklfjkaadfjjaaGreatAbZ
import Derived.Test.YtcklfjkaadfjjaaGreatAbL3
import Derived.Test.YtcklfjkaadfjjaaGreatAbL2
import Derived.Shelf.Small.Bits
import Derived.Shelf.Small.Wraps
import Derived.Shelf.Strconv.Itoa0
import Derived.Shelf.Sort.Plain
import Derived.Shelf.Slices.Reverse
import Derived.Shelf.Slices.Equal
import Derived.Ground.Names2Prog
import Derived.Shelf.Slices.Clone
import Derived.Shelf.Slices.SearchI
import Derived.Shelf.Slices.Cells
import Derived.Shelf.Slices.In.SortNone
import Derived.Shelf.Slices.Empties
import Derived.Shelf.Slices.Empties2
import Derived.Ground.SlgnProg
import Derived.Shelf.SlicesE.Clone
import Derived.Test.YtcklfjkaadfjjaaGreatProg
set_option linter.unusedSimpArgs false
set_option linter.unusedVariables false
open List renaming take_of_length_le→cE,findIdx_lt_length→eH,any_eq_true→eI,getElem?_append_left→aQ,length_append→bV,length_cons→cb,getElem_append_left→eK,getElem_append_right→eL,getD_eq_getElem?_getD→cO,getElem?_eq_getElem→aZ,findIdx_getElem→eM,nodup_append→ca,range→a7,nodup_cons→eN,mem_cons→br,getElem_mem→cT,getElem_inj→di,mem_map→bt,mem_range→dk,pairwise_iff_getElem→dE,getElem_of_mem→dc,length_map→aX,length_filter_le→dH,pairwise_cons→eg,mem_filter→dD,mem_singleton→cp,eq_nil_of_length_eq_zero→bf,mem_append→bW,length_dropLast→eQ,mem_of_mem_take→c7,length_take_le→c8,all_eq_true→bB,drop_eq_nil_of_le→dI,getElem_cons_succ→cX,count_eq_zero→eR,map_append→cV,append_nil→bp,filter_eq_nil_iff→eS,range_succ→dP,take_length→dF,drop→ep,map_cons→bz,map_nil→bY,append_assoc→dG
open Nat renaming le_refl→aM,le_succ→eJ,le_trans→aN,pow_zero→eO,zero_le→bg,zero_lt_one→db,reduceBEq→c6
open Int renaming emod_nonneg→c9,mul_nonneg→dv,zero_add→eC,emod_add_mul_ediv→eP,pow_zero→eF,pow_succ→eD,mul_le_mul_of_nonneg_right→dy,toNat→eo,zero_mul→eT
open Bool renaming and_eq_true→aW,not_eq_true'→cq,true_and→dt,false_and→du
namespace Go.Ab
open Go Go.Proofs
set_option maxRecDepth 20000
set_option maxHeartbeats 2000000
attribute [local irreducible] AW a_ fT ff
theorem fF {α:Type} {l:List α} {k:Nat} (hk:k<l.length):l.take (k+1)=l.take k++ [l[k]]:=List.take_succ_eq_append_getElem hk
theorem gV {α:Type} {l:List α} {k:Nat} (h:¬(k:Int)<(l.length:Int)):l.take k=l:=cE (by omega)
abbrev jc:=Int×List Int
def T1 (r:jc):List PV:=[.lit (.int .i64 r.1),ints r.2]
abbrev Bc (l:List jc):PV:=.slice 2 (l.map T1)
abbrev yL (l:List (List jc)):PV:=.slice 1 (l.map fun s=>[Bc s])
abbrev mA (r:jc):AV:=.agg [eU r.1,.pv (ints r.2)]
structure uf where
 atoms:List Int
 steps:Int
 states:List (List jc)
 loop:Int
deriving DecidableEq
abbrev GQ (m:uf):AV:=.agg [.pv (ints m.atoms),eU m.steps,.pv (yL m.states),eU m.loop]
theorem ru {α:Type} {a b:List α} {k:Nat} (hl:a.length=b.length) (h:a.take k=b.take k) (hk:¬k<a.length):a=b:=by
 rwa [cE aG,cE aG] at h
theorem wP {α:Type} {a b:List α} {k:Nat} (h:a.take k=b.take k) (ha:k<a.length) (hb:k<b.length) (e:a[k]=b[k]):a.take (k+1)=b.take (k+1):=by
 rw[fF ha,fF hb,h,e]
theorem zW (a b:List Int):Fn Tryz.prog 67 [.pv (ints a),.pv (ints b)] (fe (decide (a=b))):=by
 refine Fn.enter (n:=26) Tryz.func67 rfl rfl rfl rfl rfl (by decide) fun g fu fw=>?_;(try refine nz ?_)
 refine AW.ub 0 rfl fun hlen=>?_
 by_cases ti:a.length=b.length
 ·(refine C6 ?_;refine tH ?_;refine zm ?_;refine uj ?_)
  refine AW.loop (fun(k:Nat)=>{n:=26,env:=[(0,.pv (ints a)),(1,.pv (ints b)),(12,eU a.length),(13,eU k)],fY:=[],nx:=0}) (fun k=>k≤a.length∧a.take k=b.take k) (fun k=>a.length - k) 0 ?_ ?_ ?_
  ·simp
  ·exact R2
  rintro k ⟨hk,lz⟩
  by_cases ft:k<a.length
  ·have gM:k<b.length:=by omega
   (refine nR ?_;refine Q4 ?_;refine zo ?_;refine FO ?_;(iterate 2 refine zm ?_);refine ay ?_;refine BM ?_;refine ay ?_;refine Jc ?_;refine zd ?_;(focus ((with_reducible apply AW.G0);exact rfl;exact rfl;all_goals intro qp));refine Q5 ?_;refine oC ?_;(all_goals skip);rotate_left;refine AW.skip ?_;refine vT ?_;(all_goals skip);rotate_left)
   ·have gz:¬a=b:=by rintro rfl;exact qp rfl
    (apply c_;(exact fZ.one (.tmp rfl rfl));(refine Le.fe ?_;(rw[eq_comm,decide_eq_false_iff_not];exact gz)))
   ·exact⟨k+1,⟨by omega,wP lz ft gM (Decidable.not_not.1 qp)⟩,by omega,e_ rfl (by(refine aA ?_;(iterate 3 refine aA ?_);exact trivial)) (by(exact trivial)) rfl⟩
  ·have he:a=b:=ru ti lz ft
   (refine og ?_;refine j7 ?_)
   (apply c_;(exact fZ.one (.tmp rfl rfl));(refine Le.fe ?_;(rw[eq_comm,decide_eq_true_iff];exact he)))
 ·have gz:¬a=b:=by rintro rfl;exact ti rfl
  (refine C6 ?_;refine sK ?_)
  (apply c_;(exact fZ.one (.tmp rfl rfl));(refine Le.fe ?_;(rw[eq_comm,decide_eq_false_iff_not];exact gz)))
theorem vL (a b:jc):Fn Tryz.prog 66 [mA a,mA b] (fe (decide (a=b))):=by
 obtain⟨a1,a2⟩:=a
 obtain⟨b1,b2⟩:=b
 have hs:=zW a2 b2
 by_cases h1:a1=b1
 ·have he:decide ((a1,a2)=(b1,b2))=decide (a2=b2):=by simp [h1]
  rw[he]
  refine Fn.enter (n:=17) Tryz.func66 rfl rfl rfl rfl rfl (by decide) fun g fu fw=>?_;(try refine nz ?_)
  (refine wh ?_;refine nv ?_;(iterate 2 refine E6 ?_);refine a_.eql rfl rfl rfl rfl rfl ?_;refine pq ?_;refine a_.b_ 105 1 1 rfl rfl rfl rfl ?_;refine wc ?_;refine a_.b_ 105 1 1 rfl rfl rfl rfl ?_;refine wc ?_;refine a_.call (hs) (.cons rfl (.pv _) (.cons rfl (.pv _) .nil)) rfl rfl (fun h_=>by cases h_) ?_;refine zT ?_;refine j7 ?_)
  (apply c_;(exact fZ.one (.tmp rfl rfl));(refine Le.fe ?_;(rfl)))
 ·have he:decide ((a1,a2)=(b1,b2))=false:=by simp [h1]
  rw[he]
  refine Fn.enter (n:=17) Tryz.func66 rfl rfl rfl rfl rfl (by decide) fun g fu fw=>?_;(try refine nz ?_)
  (refine wh ?_;refine nv ?_;(iterate 2 refine E6 ?_);refine a_.eql rfl rfl rfl rfl rfl ?_;refine zm ?_;refine PJ ?_;refine j7 ?_)
  (apply c_;(exact fZ.one (.tmp rfl rfl));(refine Le.fe ?_;(rfl)))
theorem z1 (a b:jc):Fn Tryz.prog 122 [mA a,mA b] (fe (decide (a=b))):=by
 obtain⟨c,a⟩:=a
 obtain⟨d,b⟩:=b
 by_cases h1:c=d
 ·subst h1
  have he:decide ((c,a)=(c,b))=decide (a=b):=by simp
  rw[he]
  refine Fn.enter (n:=38) Tryz.func122 rfl rfl rfl rfl rfl (by decide) fun g fu fw=>?_;(try refine nz ?_)
  refine AW.Bj 0 1 rfl rfl fun hlen=>?_
  simp only at hlen
  by_cases ti:a.length=b.length
  ·(refine Wf ?_;refine tH ?_;refine sO ?_)
   refine AW.loop (fun(k:Nat)=>{n:=38,env:=[(2,.ptr 0 0),(3,.ptr 1 0),(5,eU k)],fY:=[(0,some (.box [eU c,.pv (ints a)])),(1,some (.box [eU c,.pv (ints b)]))],nx:=2}) (fun k=>k≤a.length∧a.take k=b.take k) (fun k=>a.length - k) 0 ?_ ?_ ?_
   ·simp
   ·exact e_ rfl (by(refine aA ?_;(iterate 2 refine aA ?_);exact trivial)) (by(refine⟨.box _ rfl ?_,?_⟩;(iterate 2 refine aA ?_);exact trivial;refine⟨.box _ rfl ?_,?_⟩;(iterate 2 refine aA ?_);(iterate 2 exact trivial))) rfl
   rintro k ⟨hk,lz⟩
   by_cases ft:k<a.length
   ·have gM:k<b.length:=by omega
    (refine E0 ?_;refine tU ?_;refine zo ?_;refine FO ?_;refine zi ?_;refine zm ?_;refine ay ?_;refine zr ?_;refine zi ?_;refine zm ?_;refine ay ?_;refine Jc ?_;refine zd ?_;(focus ((with_reducible apply AW.G0);exact rfl;exact rfl;all_goals intro qp));refine Q5 ?_;refine oC ?_;(all_goals skip);rotate_left;refine AW.skip ?_;refine uk ?_;(all_goals skip);rotate_left)
    ·have gz:¬a=b:=by rintro rfl;exact qp rfl
     (apply c_;(exact fZ.one (.tmp rfl rfl));(refine Le.fe ?_;(rw[eq_comm,decide_eq_false_iff_not];exact gz)))
    ·exact⟨k+1,⟨by omega,wP lz ft gM (Decidable.not_not.1 qp)⟩,by omega,e_ rfl (by(refine aA ?_;(iterate 2 refine aA ?_);exact trivial)) (by(refine⟨.box _ rfl ?_,?_⟩;(iterate 2 refine aA ?_);exact trivial;refine⟨.box _ rfl ?_,?_⟩;(iterate 2 refine aA ?_);(iterate 2 exact trivial))) rfl⟩
   ·have he:a=b:=ru ti lz ft
    (refine E0 ?_;refine rY ?_;refine j7 ?_)
    (apply c_;(exact fZ.one (.tmp rfl rfl));(refine Le.fe ?_;(rw[eq_comm,decide_eq_true_iff];exact he)))
  ·have gz:¬a=b:=by rintro rfl;exact ti rfl
   (refine Wf ?_;refine sK ?_)
   (apply c_;(exact fZ.one (.tmp rfl rfl));(refine Le.fe ?_;(rw[eq_comm,decide_eq_false_iff_not];exact gz)))
 ·have he:decide ((c,a)=(d,b))=false:=by simp [h1]
  rw[he]
  refine Fn.enter (n:=38) Tryz.func122 rfl rfl rfl rfl rfl (by decide) fun g fu fw=>?_;(try refine nz ?_)
  (refine wh ?_;refine vz ?_;(iterate 2 refine E6 ?_);refine a_.neq rfl rfl rfl rfl rfl ?_;refine zm ?_;(iterate 7 refine a_.jM rfl rfl rfl rfl rfl rfl (by with_reducible assumption) ?_);refine zT ?_;refine xH ?_)
  (apply c_;(exact fZ.one (.tmp rfl rfl));(refine Le.fe ?_;(rfl)))
end Go.Ab
/- Chapter 24 (as chapter 19):circuits,in plain terms. -/
namespace Go.Ab
open Go Go.Proofs
set_option maxRecDepth 20000
set_option maxHeartbeats 4000000
structure fq where
 k:Int
 a:Int
 b:Int
deriving DecidableEq
abbrev QT (g:fq):List PV:=[.lit (.int .i64 g.k),.lit (.int .i64 g.a),.lit (.int .i64 g.b)]
abbrev u0 (l:List fq):PV:=.slice 3 (l.map QT)
abbrev Jx (l:List fq):AV:=.agg [.pv (u0 l)]
def iD (r:Int):Int:=if r<0 then -1 else if r % 2=0 then r+1 else r - 1
def jH (gs:List fq) (g:fq):Int:=if gs.any (fun h=>decide (h=g))=true then (gs.findIdx (fun h=>decide (h=g)):Nat) else -1
def mR (gs:List fq) (g:fq):List fq×Int:=if 0≤jH gs g then (gs,2*jH gs g) else if 20000≤gs.length then (gs,-1) else (gs++ [g],2*gs.length)
def fW (gs:List fq) (v:Int):List fq×Int:=if v<1∨20000<v then (gs,-1) else mR gs ⟨1,v,0⟩
def jq (gs:List fq) (a b:Int):List fq×Int:=
 if a<0∨b<0∨2*(gs.length:Int)≤a∨2*(gs.length:Int)≤b then (gs,-1) else if a=1∨b=1∨b=iD a then (gs,1) else if a=0 then (gs,b) else if b=0∨a=b then (gs,a) else mR gs ⟨2,min a b,max a b⟩
def Jo (gs:List fq) (a b:Int):List fq×Int:=((jq gs (iD a) (iD b)).1,iD (jq gs (iD a) (iD b)).2)
def Zj (g:fq) (i:Nat):Prop:=(g.k=1∧1≤g.a∧g.a≤1000∧g.b=0)∨(g.k=2∧2≤g.a∧g.a<g.b∧g.b<2*(i:Int)∧g.a / 2≠g.b / 2)
structure ke (gs:List fq):Prop where
 zero:gs[0]? =some ⟨0,0,0⟩
 ok:∀(i:Nat) (h:i<gs.length),i≠0→Zj gs[i] i
def jl (gs:List fq) (r:Int):Prop:=0≤r∧r<2*(gs.length:Int)
theorem ke.pos {gs:List fq} (h:ke gs):0<gs.length:=(List.getElem?_eq_some_iff.1 h.zero).1
theorem ju {gs:List fq} {r:Int} (h:jl gs r):jl gs (iD r):=by
 unfold iD jl at*
 rw[if_neg aG]
 split<;>omega
theorem jl.mono {gs gs':List fq} {r:Int} (h:jl gs r) (hl:gs.length≤gs'.length):jl gs' r:=by unfold jl at*;omega
structure Grown (gs:List fq) (n:Nat) (p:List fq×Int):Prop where
 cir:ke p.1
 ref:jl p.1 p.2
 le:gs.length≤p.1.length
 len:p.1.length≤gs.length+n
theorem qs {gs:List fq} {g:fq}:jH gs g= -1∨(0≤jH gs g∧jH gs g<gs.length):=by
 unfold jH
 split
 ·rename_i h
  have:gs.findIdx (fun h=>decide (h=g))<gs.length:=by
   rw[eH]
   obtain⟨x,hx,h⟩:=eI.1 h
   exact⟨x,hx,h⟩
  right;omega
 ·exact .inl rfl
theorem Ce {gs:List fq} {g:fq} (hc:ke gs) (hg:Zj g gs.length) (hl:gs.length<20000):Grown gs 1 (mR gs g):=by
 unfold mR
 have hr:=qs (gs:=gs) (g:=g)
 split
 ·exact⟨hc,⟨by show 0≤2*jH gs g;omega,by show 2*jH gs g<2*(gs.length:Int);omega⟩,aM _,eJ _⟩
 ·rw[if_neg aG]
  refine⟨⟨by show(gs++ [g])[0]? =_;rw[aQ hc.pos];exact hc.zero,fun i hi h0=>?_⟩,⟨by show 0≤2*(gs.length:Int);omega,by show 2*(gs.length:Int)<2*((gs++ [g]).length:Nat);rw[bV];simp only[cb,List.length_nil];omega⟩,by simp,by simp⟩
  have jS:i<(gs++ [g]).length:=hi
  show Zj (gs++ [g])[i] i
  by_cases h:i<gs.length
  ·rw[eK h];exact hc.ok i h h0
  ·have:i=gs.length:=by simp at jS;omega
   subst this
   rw[eL (aM _)]
   simpa using hg
theorem tV {gs:List fq} {v:Int} (hc:ke gs) (hv:1≤v∧v≤1000) (hl:gs.length<20000):Grown gs 1 (fW gs v):=by
 unfold fW
 rw[if_neg aG]
 exact Ce hc (.inl ⟨rfl,hv.1,hv.2,rfl⟩) hl
theorem pO {gs:List fq} {a b:Int} (hc:ke gs) (ha:jl gs a) (hb:jl gs b) (hl:gs.length<20000):Grown gs 1 (jq gs a b):=by
 have hp:=hc.pos
 unfold jq
 have F3:=ha
 have js:=hb
 unfold jl at F3 js
 rw[if_neg aG]
 split
 ·exact⟨hc,⟨by show(0:Int)≤1;omega,by show(1:Int)<2*(gs.length:Int);omega⟩,aM _,eJ _⟩
 ·rename_i h1
  split
  ·exact⟨hc,hb,aM _,eJ _⟩
  ·split
   ·exact⟨hc,ha,aM _,eJ _⟩
   ·rename_i h2 h3
    have hn:b≠iD a:=fun h=>h1 (.inr (.inr h))
    unfold iD at hn
    rw[if_neg aG] at hn
    refine Ce hc (.inr ⟨rfl,?_,?_,?_,?_⟩) hl
    ·show 2≤min a b;omega
    ·show min a b<max a b;omega
    ·show max a b<_;omega
    ·show min a b / 2≠max a b / 2
     split at hn<;>omega
theorem PK {gs:List fq} {a b:Int} (hc:ke gs) (ha:jl gs a) (hb:jl gs b) (hl:gs.length<20000):Grown gs 1 (Jo gs a b):=by
 have h:=pO hc (ju ha) (ju hb) hl
 exact⟨h.cir,ju h.ref,h.le,h.len⟩
def jF (vals:List Bool) (a:Int):Bool:=vals.getD (a - 1).toNat false
def yM (done:List Bool) (r:Int):Bool:=done.getD (r / 2).toNat false==decide (r % 2=0)
def qd (vals done:List Bool) (g:fq):Bool:=if g.k=1 then jF vals g.a else if g.k=2 then yM done g.a && yM done g.b else true
def jE (gs:List fq) (vals:List Bool):Nat→List Bool
 |0=>[]
 |i+1=>jE gs vals i++ [qd vals (jE gs vals i) (gs.getD i ⟨0,0,0⟩)]
theorem l8 (gs:List fq) (vals:List Bool):∀i,(jE gs vals i).length=i
 |0=>rfl
 |i+1=>by rw[jE,bV,l8 gs vals i];rfl
def Dy (gs:List fq) (vals:List Bool) (i:Nat):Bool:=(jE gs vals (i+1)).getD i false
theorem Aa (gs:List fq) (vals:List Bool):∀(m i:Nat),i<m→(jE gs vals m).getD i false=Dy gs vals i
 |0,i,h=>by omega
 |m+1,i,h=>by
  by_cases e:i=m
  ·subst e;rfl
  ·rw[jE,cO,aQ (by rw[l8];omega),← cO,Aa gs vals m i aG]
def gO (gs:List fq) (vals:List Bool) (r:Int):Bool:=Dy gs vals (r / 2).toNat==decide (r % 2=0)
theorem oM (gs:List fq) (vals:List Bool) {m:Nat} {r:Int} (h0:0≤r) (h:r<2*(m:Int)):yM (jE gs vals m) r=gO gs vals r:=by
 unfold yM gO
 rw[Aa gs vals m _ aG]
theorem GD (gs:List fq) (vals:List Bool) (i:Nat):Dy gs vals i=qd vals (jE gs vals i) (gs.getD i ⟨0,0,0⟩):=by
 unfold Dy
 rw[jE,cO,List.getElem?_append_right (by rw[l8];omega),l8]
 simp
theorem KF {gs:List fq} (hc:ke gs) (vals:List Bool) {i:Nat} (hi:i<gs.length) (hk:gs[i].k=2):Dy gs vals i=(gO gs vals gs[i].a && gO gs vals gs[i].b):=by
 have hg:gs.getD i ⟨0,0,0⟩=gs[i]:=by rw[cO,aZ hi];rfl
 have h0:i≠0:=fun e=>by
  subst e
  have:=hc.zero
  rw[aZ hi] at this
  rw[Option.some.inj this] at hk
  simp at hk
 rcases hc.ok i hi h0 with h|h
 ·omega
 ·rw[GD,hg,qd,if_neg aG,if_pos hk,oM gs vals aG aG,oM gs vals aG aG]
theorem eval_not {gs:List fq} {vals:List Bool} {r:Int} (h:0≤r):gO gs vals (iD r)=!(gO gs vals r):=by
 unfold gO iD
 rw[if_neg aG]
 by_cases h2:r % 2=0
 ·rw[if_pos h2,show(r+1) / 2=r / 2 by omega,decide_eq_true h2,decide_eq_false (show ¬(r+1) % 2=0 by omega)]
  cases Dy gs vals (r / 2).toNat<;>rfl
 ·rw[if_neg h2,show(r - 1) / 2=r / 2 by omega,decide_eq_false h2,decide_eq_true (show(r - 1) % 2=0 by omega)]
  cases Dy gs vals (r / 2).toNat<;>rfl
end Go.Ab
/- Chapter 24:what the gates that a circuit gains compute. -/
namespace Go.Ab
open Go Go.Proofs
set_option maxRecDepth 20000
set_option maxHeartbeats 4000000
theorem uO (gs ex:List fq) (v:List Bool):∀n,n≤gs.length→jE (gs++ex) v n=jE gs v n
 |0,_=>rfl
 |n+1,h=>by
  rw[jE,jE,uO gs ex v n aG,cO,aQ aG,← cO]
theorem HU (gs ex:List fq) (v:List Bool) {r:Int} (hr:jl gs r):gO (gs++ex) v r=gO gs v r:=by
 unfold jl at hr
 unfold gO Dy
 rw[uO gs ex v _ aG]
structure Ev (gs:List fq) (p:List fq×Int) (f:List Bool→Bool):Prop where
 keep:∀v r,jl gs r→gO p.1 v r=gO gs v r
 val:∀v,gO p.1 v p.2=f v
theorem LN {gs:List fq} {g:fq} (h:0≤jH gs g):∃i:Nat,∃hi:i<gs.length,jH gs g=(i:Int)∧gs[i]=g:=by
 unfold jH at h ⊢
 split at h
 ·rename_i hx
  have ft:gs.findIdx (fun h=>decide (h=g))<gs.length:=by
   rw[eH]
   obtain⟨x,hx,h⟩:=eI.1 hx
   exact⟨x,hx,h⟩
  refine⟨_,ft,if_pos hx,?_⟩
  have:=eM (w:=ft)
  exact of_decide_eq_true this
 ·omega
theorem yg {gs:List fq} {v:List Bool} {i:Nat} (hi:i<gs.length):gO gs v (2*(i:Int))=qd v (jE gs v i) gs[i]:=by
 unfold gO
 rw[show(2*(i:Int) / 2).toNat=i by omega,decide_eq_true (show 2*(i:Int) % 2=0 by omega),GD,cO,aZ hi]
 simp
theorem Cu {gs:List fq} {g:fq} (hl:gs.length<20000) {f:List Bool→Bool} (SK:∀(v:List Bool) (i:Nat) (hi:i<gs.length),gs[i]=g→gO gs v (2*(i:Int))=f v) (il:∀v,qd v (jE gs v gs.length) g=f v):Ev gs (mR gs g) f:=by
 unfold mR
 split
 ·rename_i h
  obtain⟨i,hi,h1,h2⟩:=LN h
  refine⟨fun v r _=>rfl,fun v=>?_⟩
  show gO gs v (2*jH gs g)=f v
  rw[h1]
  exact SK v i hi h2
 ·rw[if_neg aG]
  refine⟨fun v r hr=>HU gs [g] v hr,fun v=>?_⟩
  show gO (gs++ [g]) v (2*(gs.length:Int))=f v
  rw[yg (by simp),uO gs [g] v _ (aM _),eL (aM _)]
  simpa using il v
theorem Dv {gs:List fq} {w:Int} (hw:1≤w∧w≤1000) (hl:gs.length<20000):Ev gs (fW gs w) (fun v=>jF v w):=by
 unfold fW
 rw[if_neg aG]
 refine Cu hl (fun v i hi h=>?_) (fun v=>rfl)
 rw[yg hi,h];rfl
theorem tv {gs:List fq} (hc:ke gs) (v:List Bool):gO gs v 0=true:=by
 have h:=yg (gs:=gs) (v:=v) hc.pos
 have h0:=hc.zero
 rw[aZ hc.pos] at h0
 rw[Option.some.inj h0] at h
 exact h
theorem AQ {gs:List fq} (hc:ke gs) (v:List Bool):gO gs v 1=false:=by
 have h:=eval_not (gs:=gs) (vals:=v) (r:=0) (by omega)
 rw[tv hc] at h
 exact h
theorem vE (f:Int→Bool) (a b:Int):(f (min a b) && f (max a b))=(f a && f b):=by
 rcases Int.le_total a b with h|h
 ·rw[Int.min_eq_left h,Int.max_eq_right h]
 ·rw[Int.min_eq_right h,Int.max_eq_left h,Bool.and_comm]
theorem xi {gs:List fq} {a b:Int} (hc:ke gs) (ha:jl gs a) (hb:jl gs b) (hl:gs.length<20000):Ev gs (jq gs a b) (fun v=>gO gs v a && gO gs v b):=by
 have F3:=ha
 have js:=hb
 unfold jl at F3 js
 unfold jq
 rw[if_neg aG]
 split
 ·rename_i h
  refine⟨fun v r _=>rfl,fun v=>?_⟩
  show gO gs v 1=_
  rw[AQ hc]
  rcases h with rfl|rfl|rfl
  ·rw[AQ hc];rfl
  ·rw[AQ hc,Bool.and_false]
  ·rw[eval_not F3.1];cases gO gs v a<;>rfl
 ·split
  ·rename_i h;subst h
   exact⟨fun v r _=>rfl,fun v=>by rw[tv hc];rfl⟩
  ·split
   ·rename_i h
    refine⟨fun v r _=>rfl,fun v=>?_⟩
    rcases h with rfl|rfl
    ·rw[tv hc,Bool.and_true]
    ·rw[Bool.and_self]
   ·refine Cu hl (fun v i hi h=>?_) (fun v=>?_)
    ·have:=KF hc v hi (by rw[h])
     rw[h] at this
     unfold gO at this ⊢
     rw[show(2*(i:Int) / 2).toNat=i by omega,decide_eq_true (show 2*(i:Int) % 2=0 by omega),this]
     have hm:=vE (fun r=>gO gs v r) a b
     unfold gO at hm
     rw[hm]
     simp
    ·show(if (2:Int)=1 then jF v (min a b) else if (2:Int)=2 then yM (jE gs v gs.length) (min a b) && yM (jE gs v gs.length) (max a b) else true)=_
     rw[if_neg (by decide),if_pos rfl,oM gs v aG aG,oM gs v aG aG,vE (fun r=>gO gs v r) a b]
theorem TM {gs:List fq} {a b:Int} (hc:ke gs) (ha:jl gs a) (hb:jl gs b) (hl:gs.length<20000):Ev gs (Jo gs a b) (fun v=>gO gs v a||gO gs v b):=by
 have h:=xi hc (ju ha) (ju hb) hl
 have hg:=pO hc (ju ha) (ju hb) hl
 refine⟨h.keep,fun v=>?_⟩
 have hr:=hg.ref
 unfold jl at ha hb hr
 show gO (jq gs (iD a) (iD b)).1 v (iD (jq gs (iD a) (iD b)).2)=_
 rw[eval_not hr.1,h.val,eval_not ha.1,eval_not hb.1]
 cases gO gs v a<;>cases gO gs v b<;>rfl
theorem Ey {gs:List fq} {g:fq} (h:¬0≤jH gs g):g∉gs:=fun hm=>by
 unfold jH at h
 rw[if_pos (eI.2 ⟨g,hm,by simp⟩)] at h
 omega
theorem vD {gs:List fq} {g:fq} (h:gs.Nodup):(mR gs g).1.Nodup:=by
 unfold mR
 split
 ·exact h
 ·rename_i hf
  split
  ·exact h
  ·show(gs++ [g]).Nodup
   rw[ca]
   exact⟨h,by simp,fun a ha b hb e=>by simp at hb;subst hb;subst e;exact Ey hf ha⟩
theorem vx {gs:List fq} {w:Int} (h:gs.Nodup):(fW gs w).1.Nodup:=by
 unfold fW;split
 ·exact h
 ·exact vD h
theorem o_ {gs:List fq} {a b:Int} (h:gs.Nodup):(jq gs a b).1.Nodup:=by
 unfold jq
 split
 ·exact h
 ·split
  ·exact h
  ·split
   ·exact h
   ·split
    ·exact h
    ·exact vD h
theorem J9 {gs:List fq} {a b:Int} (h:gs.Nodup):(Jo gs a b).1.Nodup:=o_ h
end Go.Ab
/- Chapter 24:the predicate of a permutation,in plain terms. -/
namespace Go.Ab
open Go Go.Proofs
set_option maxRecDepth 20000
set_option maxHeartbeats 4000000
def gw (perm:List Int) (w:Int):Int:=(perm.findIdx (fun x=>decide (x=w)):Nat)+1
def jy (perm:List Int):List Int:=(a7 perm.length).map fun j:Nat=>gw perm ((j:Int)+1)
structure iL (perm:List Int):Prop where
 wI:∀w∈perm,1≤w∧w≤perm.length
 nodup:perm.Nodup
theorem rA (n:Nat):∀{l:List Int},l.Nodup→(∀x∈l,1≤x∧x≤n)→l.length≤n:=by
 induction n with
 |zero=>
  intro l _ h
  cases l with
  |nil=>exact aM _
  |cons x l=>have:=h x (by simp);omega
 |succ n ih=>
  intro l h1 h2
  have h3:(l.erase ((n:Int)+1)).length≤n:=ih (h1.erase _) fun x hx=>by
   have h4:=(List.Nodup.mem_erase_iff h1).1 hx
   have h5:=h2 x h4.2
   have:=h4.1
   omega
  by_cases hn:((n:Int)+1)∈l
  ·rw[List.length_erase_of_mem hn] at h3;omega
  ·rw[List.erase_of_not_mem hn] at h3;omega
theorem iL.all {perm:List Int} (h:iL perm) {w:Int} (hw:1≤w∧w≤perm.length):w∈perm:=by
 apply Classical.byContradiction
 intro hn
 have:=rA perm.length (l:=w::perm) (eN.2 ⟨hn,h.nodup⟩) (fun x hx=>by
  rcases br.1 hx with rfl|hx
  ·exact hw
  ·exact h.wI x hx)
 rw[cb] at this
 omega
theorem iL.at {perm:List Int} (h:iL perm) {w:Int} (hw:1≤w∧w≤perm.length):∃i:Nat,∃hi:i<perm.length,perm.findIdx (fun x=>decide (x=w))=i∧perm[i]=w:=by
 have hm:=h.all hw
 have ft:perm.findIdx (fun x=>decide (x=w))<perm.length:=by
  rw[eH]
  exact⟨w,hm,by simp⟩
 exact⟨_,ft,rfl,of_decide_eq_true (eM (w:=ft))⟩
theorem iL.back {perm:List Int} (h:iL perm) {w:Int} (hw:1≤w∧w≤perm.length):1≤gw perm w∧gw perm w≤perm.length:=by
 obtain⟨i,hi,h1,h2⟩:=h.at hw
 unfold gw
 rw[h1]
 omega
theorem iL.Gf {perm:List Int} (h:iL perm) {i:Nat} (hi:i<perm.length):gw perm perm[i]=(i:Int)+1:=by
 obtain⟨j,hj,h1,h2⟩:=h.at (h.wI _ (cT hi))
 unfold gw
 rw[h1]
 have:=(di h.nodup).1 h2
 omega
theorem nj (perm:List Int):(jy perm).length=perm.length:=by simp [jy]
theorem q_ {perm:List Int} {w:Int} (hw:1≤w∧w≤perm.length) (h:(w - 1).toNat<(jy perm).length):(jy perm)[(w - 1).toNat]=gw perm w:=by
 have e:(jy perm)[(w - 1).toNat]=gw perm (((w - 1).toNat:Nat)+1:Int):=by simp [jy]
 rw[e]
 congr 1
 omega
def yj (perm:List Int) (w:Int) (p:List fq×Int):List fq×Int:=
 if gw perm w=w then p else
  (jq (Jo (jq (jq (fW (fW p.1 w).1 (gw perm w)).1 (fW p.1 w).2 (iD (fW (fW p.1 w).1 (gw perm w)).2)).1 (iD (fW p.1 w).2) (fW (fW p.1 w).1 (gw perm w)).2).1 (jq (jq (fW (fW p.1 w).1 (gw perm w)).1 (fW p.1 w).2 (iD (fW (fW p.1 w).1 (gw perm w)).2)).1 (iD (fW p.1 w).2) (fW (fW p.1 w).1 (gw perm w)).2).2 p.2).1
   (iD (jq (fW (fW p.1 w).1 (gw perm w)).1 (fW p.1 w).2 (iD (fW (fW p.1 w).1 (gw perm w)).2)).2)
   (Jo (jq (jq (fW (fW p.1 w).1 (gw perm w)).1 (fW p.1 w).2 (iD (fW (fW p.1 w).1 (gw perm w)).2)).1 (iD (fW p.1 w).2) (fW (fW p.1 w).1 (gw perm w)).2).1 (jq (jq (fW (fW p.1 w).1 (gw perm w)).1 (fW p.1 w).2 (iD (fW (fW p.1 w).1 (gw perm w)).2)).1 (iD (fW p.1 w).2) (fW (fW p.1 w).1 (gw perm w)).2).2 p.2).2)
def i_ (gs:List fq) (perm order:List Int):List fq×Int:=order.foldr (yj perm) (gs,0)
def Fc (f g:Int→Bool):List Int→Bool
 |[]=>true
 |w::o=>if f w=g w then Fc f g o else g w
structure Pred (gs:List fq) (n:Nat) (p:List fq×Int) (f:List Bool→Bool):Prop where
 cir:ke p.1
 ref:jl p.1 p.2
 le:gs.length≤p.1.length
 len:p.1.length≤gs.length+n
 keep:∀v r,jl gs r→gO p.1 v r=gO gs v r
 val:∀v,gO p.1 v p.2=f v
 nodup:gs.Nodup→p.1.Nodup
theorem Pred.of {gs:List fq} {n:Nat} {p:List fq×Int} {f:List Bool→Bool} (h1:Grown gs n p) (h2:Ev gs p f) (h3:gs.Nodup→p.1.Nodup):Pred gs n p f:=⟨h1.cir,h1.ref,h1.le,h1.len,h2.keep,h2.val,h3⟩
theorem Mp {gs:List fq} {n:Nat} {perm:List Int} {p:List fq×Int} {f:List Bool→Bool} (hp:Pred gs n p f) (ho:iL perm) (hn:perm.length≤1000) {w:Int} (hw:1≤w∧w≤perm.length) (hl:gs.length+n<19000):
  Pred gs (n+6) (yj perm w p) (fun v=>if jF v w=jF v (gw perm w) then f v else jF v (gw perm w)):=by
 obtain⟨hc,hr,hle,hlen,hk,hv,qc⟩:=hp
 obtain⟨gs1,r⟩:=p
 simp only at hc hr hle hlen hk hv qc
 have hb:=ho.back hw
 unfold yj
 by_cases he:gw perm w=w
 ·rw[if_pos he]
  refine⟨hc,hr,hle,by show gs1.length≤_;omega,hk,fun v=>?_,qc⟩
  show gO gs1 v r=_
  rw[hv v,he,if_pos rfl]
 ·rw[if_neg he]
  simp only
  have g1:=tV hc (v:=w) aG (by omega)
  have v1:=Dv (gs:=gs1) (w:=w) aG (by omega)
  have n1:=fun h=>vx (gs:=gs1) (w:=w) h
  generalize fW gs1 w=i1 at g1 v1 n1 ⊢
  have l1:=g1.le
  have m1:=g1.len
  have g2:=tV g1.cir (v:=gw perm w) aG (by omega)
  have v2:=Dv (gs:=i1.1) (w:=gw perm w) aG (by omega)
  have n2:=fun h=>vx (gs:=i1.1) (w:=gw perm w) h
  generalize fW i1.1 (gw perm w)=i2 at g2 v2 n2 ⊢
  have l2:=g2.le
  have m2:=g2.len
  have x2:=g1.ref.mono l2
  have y2:=g2.ref
  have g3:=pO g2.cir x2 (ju y2) (by omega)
  have v3:=xi g2.cir x2 (ju y2) (by omega)
  have n3:=fun h=>o_ (gs:=i2.1) (a:=i1.2) (b:=iD i2.2) h
  generalize jq i2.1 i1.2 (iD i2.2)=i3 at g3 v3 n3 ⊢
  have l3:=g3.le
  have m3:=g3.len
  have x3:=x2.mono l3
  have y3:=y2.mono l3
  have g4:=pO g3.cir (ju x3) y3 (by omega)
  have v4:=xi g3.cir (ju x3) y3 (by omega)
  have n4:=fun h=>o_ (gs:=i3.1) (a:=iD i1.2) (b:=i2.2) h
  generalize jq i3.1 (iD i1.2) i2.2=i4 at g4 v4 n4 ⊢
  have l4:=g4.le
  have m4:=g4.len
  have r4:=((((hr.mono l1).mono l2).mono l3).mono l4)
  have g5:=PK g4.cir g4.ref r4 (by omega)
  have v5:=TM g4.cir g4.ref r4 (by omega)
  have n5:=fun h=>J9 (gs:=i4.1) (a:=i4.2) (b:=r) h
  generalize Jo i4.1 i4.2 r=i5 at g5 v5 n5 ⊢
  have l5:=g5.le
  have m5:=g5.len
  have s5:=(g3.ref.mono l4).mono l5
  have g6:=pO g5.cir (ju s5) g5.ref (by omega)
  have v6:=xi g5.cir (ju s5) g5.ref (by omega)
  have n6:=fun h=>o_ (gs:=i5.1) (a:=iD i3.2) (b:=i5.2) h
  generalize jq i5.1 (iD i3.2) i5.2=i6 at g6 v6 n6 ⊢
  have l6:=g6.le
  have m6:=g6.len
  refine⟨g6.cir,g6.ref,by omega,by omega,fun v q hq=>?_,fun v=>?_,fun h=>n6 (n5 (n4 (n3 (n2 (n1 (qc h))))))⟩
  ·have q1:=hq.mono hle
   rw[v6.keep v q ((((((q1.mono l1).mono l2).mono l3).mono l4)).mono l5),v5.keep v q (((((q1.mono l1).mono l2).mono l3).mono l4)),v4.keep v q ((((q1.mono l1).mono l2).mono l3)),v3.keep v q ((q1.mono l1).mono l2),v2.keep v q (q1.mono l1),v1.keep v q q1,hk v q hq]
  ·have p3:=g3.ref
   unfold jl at p3
   have py:=y2
   unfold jl at py
   have px:=g1.ref
   unfold jl at px
   have ex2:gO i2.1 v i1.2=jF v w:=by rw[v2.keep v _ g1.ref,v1.val]
   have ey2:gO i2.1 v i2.2=jF v (gw perm w):=v2.val v
   have e3:gO i3.1 v i3.2=(jF v w && !(jF v (gw perm w))):=by rw[v3.val,ex2,eval_not py.1,ey2]
   have ex3:gO i3.1 v i1.2=jF v w:=by rw[v3.keep v _ x2,ex2]
   have ey3:gO i3.1 v i2.2=jF v (gw perm w):=by rw[v3.keep v _ y2,ey2]
   have e4:gO i4.1 v i4.2=(!(jF v w) && jF v (gw perm w)):=by rw[v4.val,eval_not px.1,ex3,ey3]
   have er4:gO i4.1 v r=f v:=by rw[v4.keep v _ (((hr.mono l1).mono l2).mono l3),v3.keep v _ ((hr.mono l1).mono l2),v2.keep v _ (hr.mono l1),v1.keep v _ hr,hv v]
   have e5:gO i5.1 v i5.2=((!(jF v w) && jF v (gw perm w))||f v):=by rw[v5.val,e4,er4]
   have es5:gO i5.1 v i3.2=(jF v w && !(jF v (gw perm w))):=by rw[v5.keep v _ (g3.ref.mono l4),v4.keep v _ g3.ref,e3]
   rw[v6.val,eval_not p3.1,es5,e5]
   cases jF v w<;>cases jF v (gw perm w)<;>simp
theorem wq {gs:List fq} {perm:List Int} (hc:ke gs) (ho:iL perm) (hn:perm.length≤1000):∀order:List Int,(∀w∈order,1≤w∧w≤perm.length)→gs.length+6*order.length<18000→Pred gs (6*order.length) (i_ gs perm order) (fun v=>Fc (jF v) (fun w=>jF v (gw perm w)) order)
 |[],_,_=>⟨hc,⟨Int.le_refl _,by have:=hc.pos;show(0:Int)<2*(gs.length:Int);omega⟩,aM _,aM _,fun v r _=>rfl,fun v=>tv hc v,fun h=>h⟩
 |w::o,hw,hl=>by
  have ih:=wq hc ho hn o (fun x hx=>hw x (by simp [hx])) (by simp only[cb] at hl;omega)
  have h:=Mp ih ho hn (hw w (by simp)) (by simp only[cb] at hl;omega)
  exact h
theorem Gh {gs:List fq} {perm:List Int}:∀order:List Int,(∀w∈order,gw perm w=w)→i_ gs perm order=(gs,0)
 |[],_=>rfl
 |w::o,h=>by
  show yj perm w (i_ gs perm o)=_
  rw[Gh o fun x hx=>h x (by simp [hx]),yj,if_pos (h w (by simp))]
end Go.Ab
/- Chapter 24:the order of assignments,in plain terms. -/
namespace Go.Ab
open Go Go.Proofs
set_option maxRecDepth 20000
set_option maxHeartbeats 4000000
theorem DK {f f' g g':Int→Bool}:∀o:List Int,(∀w∈o,f w=f' w)→(∀w∈o,g w=g' w)→Fc f g o=Fc f' g' o
 |[],_,_=>rfl
 |w::o,h1,h2=>by
  unfold Fc
  rw[h1 w (by simp),h2 w (by simp),DK o (fun x hx=>h1 x (by simp [hx])) (fun x hx=>h2 x (by simp [hx]))]
def nU (vals:List Bool) (perm:List Int):List Bool:=(jy perm).map fun w=>jF vals w
theorem Bb (vals:List Bool) (perm:List Int):(nU vals perm).length=perm.length:=by simp [nU,nj]
theorem Ei (vals:List Bool) {perm:List Int} {w:Int} (hw:1≤w∧w≤perm.length):jF (nU vals perm) w=jF vals (gw perm w):=by
 unfold jF
 have ft:(w - 1).toNat<(nU vals perm).length:=by rw[Bb];omega
 rw[cO,aZ ft]
 show(nU vals perm)[(w - 1).toNat]=_
 have:(nU vals perm)[(w - 1).toNat]=jF vals ((jy perm)[(w - 1).toNat]'(by rw[nj];omega)):=by simp [nU]
 rw[this,q_ hw];rfl
def ng (n:Nat):List Int:=(a7 n).map fun i:Nat=>(i:Int)+1
theorem wH {n:Nat} {w:Int}:w∈ng n↔1≤w∧w≤n:=by
 unfold ng
 rw[bt]
 constructor
 ·rintro⟨i,hi,rfl⟩
  have:=dk.1 hi
  omega
 ·intro h
  exact⟨(w - 1).toNat,dk.2 aG,by omega⟩
def vG (vals:List Bool) (perm:List Int):Bool:=Fc (jF vals) (jF (nU vals perm)) (ng perm.length)
def xl (vals:List Bool) (perms:List (List Int)):Bool:=perms.all (vG vals)
end Go.Ab
/- Chapter 24:the permutation that numbers describe,in plain terms. -/
namespace Go.Ab
open Go Go.Proofs
set_option maxRecDepth 20000
set_option maxHeartbeats 4000000
def PO (l:List Int) (i k:Nat):List Int:=(l.set i (l.getD k 0)).set k (l.getD i 0)
def PI (raw:List Int):Nat→List Int
 |0=>ng raw.length
 |i+1=>PO (PI raw i) i (raw.getD i 0 % (raw.length:Int)).toNat
theorem rF (n:Nat):(ng n).length=n:=by simp [ng]
theorem Qy {n j:Nat} (h:j<(ng n).length):(ng n)[j]=(j:Int)+1:=by simp [ng]
structure qF (n:Nat) (l:List Int):Prop where
 len:l.length=n
 nodup:l.Nodup
 wI:∀w∈l,1≤w∧w≤(n:Int)
theorem qF.ok {n:Nat} {l:List Int} (h:qF n l):iL l:=⟨fun w hw=>by rw[h.len];exact h.wI w hw,h.nodup⟩
end Go.Ab
/- Chapter 24:permutations that act on a list of variables;leaders,in plain terms. -/
namespace Go.Ab
open Go Go.Proofs
set_option maxRecDepth 20000
set_option maxHeartbeats 4000000
def lg {α:Type} [DecidableEq α] (V:List α) (f:α→α):List Int:=V.map fun v=>(V.findIdx (fun u=>decide (u=f v)):Int)+1
theorem qV {α:Type} [DecidableEq α] (V:List α) (f:α→α):(lg V f).length=V.length:=by simp [lg]
theorem rG {α:Type} [DecidableEq α] {V:List α} {x:α} (h:x∈V):∃i:Nat,∃hi:i<V.length,V.findIdx (fun u=>decide (u=x))=i∧V[i]=x:=by
 have ft:V.findIdx (fun u=>decide (u=x))<V.length:=by
  rw[eH]
  exact⟨x,h,by simp⟩
 exact⟨_,ft,rfl,of_decide_eq_true (eM (w:=ft))⟩
theorem uc {α:Type} [DecidableEq α] {V:List α} {f:α→α} {i:Nat} (h:i<(lg V f).length):(lg V f)[i]=(V.findIdx (fun u=>decide (u=f (V[i]'(by rwa [qV] at h)))):Int)+1:=by simp [lg]
theorem Ir {α:Type} [DecidableEq α] {V:List α} (hV:V.Nodup) {f:α→α} (hf:∀v∈V,f v∈V) (hi:∀u∈V,∀v∈V,f u=f v→u=v):qF V.length (lg V f):=by
 refine⟨qV V f,?_,fun w hw=>?_⟩
 ·unfold List.Nodup
  rw[dE]
  intro a b ha hb ti e
  rw[uc ha,uc hb] at e
  rw[qV] at ha hb
  obtain⟨i,i0,i1,i2⟩:=rG (hf _ (cT ha))
  obtain⟨j,j0,j1,j2⟩:=rG (hf _ (cT hb))
  rw[i1,j1] at e
  have Ad:i=j:=by omega
  subst Ad
  have:=hi _ (cT ha) _ (cT hb) (i2.symm.trans j2)
  have:=(di hV).1 this
  omega
 ·obtain⟨i,jS,rfl⟩:=dc hw
  rw[uc jS]
  rw[qV] at jS
  obtain⟨j,j0,j1,j2⟩:=rG (hf _ (cT jS))
  rw[j1]
  omega
end Go.Ab
/-
 DERIVED:THE SHELF's CONTRACTS AT THIS DUMP,IN PLAIN WORDS (tools/lay-plain.mjs out of 'TryzShelf.lean',which tools/lay-shelf.mjs wrote):THE SAME DECLARATIONS UNDER THE SAME NAMES: 'import', 'namespace', 'open', 'def', 'theorem' AND NOTHING ELSE:no command of the shelf's:FOR A HAND-IN. Each laying:the table of numbers ('.._ren') and one theorem,a field a fact of the dump's own or the kernel's comparison;each contract:ONE APPLICATION.
-/
namespace Go.Proofs
open Go.Shelf
def Tryz.Df:Go.Shelf.Ren:=⟨fun|189=>45|125=>89|257=>88|128=>132|129=>133|294=>124|295=>125|296=>126|297=>127|298=>128|299=>129|216=>98|300=>130|301=>131|328=>150|329=>151|330=>152|331=>153|332=>154|215=>138|343=>160|n=>n,fun|28=>28|3=>3|46=>150|0=>0|51=>185|53=>187|4=>4|183=>179|182=>178|131=>120|5=>5|9=>9|218=>195|222=>199|228=>203|229=>204|n=>n,fun|n=>n⟩
theorem Tryz.Gz:Go.Proofs.Lays.n189 Tryz.prog Tryz.Df:={
 mixed:=by kernel_rfl
 f125:=Tryz.func89.trans (congrArg some (by kernel_rfl))
 f128:=Tryz.func132.trans (congrArg some (by kernel_rfl))
 f129:=Tryz.func133.trans (congrArg some (by kernel_rfl))
 f189:=Tryz.func45.trans (congrArg some (by kernel_rfl))
 f215:=Tryz.func138.trans (congrArg some (by kernel_rfl))
 f216:=Tryz.func98.trans (congrArg some (by kernel_rfl))
 f257:=Tryz.func88.trans (congrArg some (by kernel_rfl))
 f294:=Tryz.func124.trans (congrArg some (by kernel_rfl))
 f295:=Tryz.func125.trans (congrArg some (by kernel_rfl))
 f296:=Tryz.func126.trans (congrArg some (by kernel_rfl))
 f297:=Tryz.func127.trans (congrArg some (by kernel_rfl))
 f298:=Tryz.func128.trans (congrArg some (by kernel_rfl))
 f299:=Tryz.func129.trans (congrArg some (by kernel_rfl))
 f300:=Tryz.func130.trans (congrArg some (by kernel_rfl))
 f301:=Tryz.func131.trans (congrArg some (by kernel_rfl))
 f328:=Tryz.func150.trans (congrArg some (by kernel_rfl))
 f329:=Tryz.func151.trans (congrArg some (by kernel_rfl))
 f330:=Tryz.func152.trans (congrArg some (by kernel_rfl))
 f331:=Tryz.func153.trans (congrArg some (by kernel_rfl))
 f332:=Tryz.func154.trans (congrArg some (by kernel_rfl))
 f343:=Tryz.func160.trans (congrArg some (by kernel_rfl))
 t0:=Tryz.underlying0
 a0:=Tryz.isAgg0
 z0:=Tryz.sizeOf0
 v0:=Tryz.zeroValue0
 t3:=Tryz.underlying3
 a3:=Tryz.isAgg3
 z3:=Tryz.sizeOf3
 v3:=Tryz.zeroValue3
 t4:=Tryz.underlying4
 a4:=Tryz.isAgg4
 z4:=Tryz.sizeOf4
 v4:=Tryz.zeroValue4
 t5:=Tryz.underlying5
 a5:=Tryz.isAgg5
 z5:=Tryz.sizeOf5
 v5:=Tryz.zeroValue5
 t9:=Tryz.underlying9
 a9:=Tryz.isAgg9
 z9:=Tryz.sizeOf9
 v9:=Tryz.zeroValue9
 t28:=Tryz.underlying28
 a28:=Tryz.isAgg28
 z28:=Tryz.sizeOf28
 v28:=Tryz.zeroValue28
 t46:=Tryz.underlying150
 a46:=Tryz.isAgg150
 z46:=Tryz.sizeOf150
 v46:=Tryz.zeroValue150
 t51:=Tryz.underlying185
 a51:=Tryz.isAgg185
 z51:=Tryz.sizeOf185
 v51:=Tryz.zeroValue185
 t53:=Tryz.underlying187
 a53:=Tryz.isAgg187
 z53:=Tryz.sizeOf187
 v53:=Tryz.zeroValue187
 t131:=Tryz.underlying120
 a131:=Tryz.isAgg120
 z131:=Tryz.sizeOf120
 v131:=Tryz.zeroValue120
 t182:=Tryz.underlying178
 a182:=Tryz.isAgg178
 z182:=Tryz.sizeOf178
 v182:=Tryz.zeroValue178
 t183:=Tryz.underlying179
 a183:=Tryz.isAgg179
 z183:=Tryz.sizeOf179
 v183:=Tryz.zeroValue179
 t218:=Tryz.underlying195
 a218:=Tryz.isAgg195
 z218:=Tryz.sizeOf195
 v218:=Tryz.zeroValue195
 t222:=Tryz.underlying199
 a222:=Tryz.isAgg199
 z222:=Tryz.sizeOf199
 v222:=Tryz.zeroValue199
 t228:=Tryz.underlying203
 a228:=Tryz.isAgg203
 z228:=Tryz.sizeOf203
 v228:=Tryz.zeroValue203
 t229:=Tryz.underlying204
 a229:=Tryz.isAgg204
 z229:=Tryz.sizeOf204
 v229:=Tryz.zeroValue204}
open Go.Sort Go.RowKit in
theorem Tryz.slices_Sort_int (yD off cap:Nat) (zs:List Int) (w:World) (hH:Holds (Value.int .i64) w yD off zs.toArray) (pz:yD<w.heap.size) (mX:zs.length<4611686018427387904):
  Calls Tryz.prog 45 #[.slice (some ⟨yD,off,none⟩) zs.length cap] w fun e w'=>
   e=.returned (.tuple #[])∧∃n os,w'=grow (putRow (Value.int .i64) (Sort.ahead w n) yD off (zs.mergeSort fun x y=>decide (x≤y)).toArray) os:=Any.slices_Sort_int Tryz.Gz yD off cap zs w hH pz mX
def Tryz.yK:Go.Shelf.Ren:=⟨fun|25=>57|31=>98|32=>99|37=>138|n=>n,fun|22=>28|3=>3|4=>4|40=>150|0=>0|n=>n,fun|n=>n⟩
theorem Tryz.z8:Go.Proofs.Lays2.n25 Tryz.prog Tryz.yK:={
 mixed:=by kernel_rfl
 f25:=Tryz.func57.trans (congrArg some (by kernel_rfl))
 f31:=Tryz.func98.trans (congrArg some (by kernel_rfl))
 f32:=Tryz.func99.trans (congrArg some (by kernel_rfl))
 f37:=Tryz.func138.trans (congrArg some (by kernel_rfl))
 t0:=Tryz.underlying0
 a0:=Tryz.isAgg0
 z0:=Tryz.sizeOf0
 v0:=Tryz.zeroValue0
 t3:=Tryz.underlying3
 a3:=Tryz.isAgg3
 z3:=Tryz.sizeOf3
 v3:=Tryz.zeroValue3
 t4:=Tryz.underlying4
 a4:=Tryz.isAgg4
 z4:=Tryz.sizeOf4
 v4:=Tryz.zeroValue4
 t22:=Tryz.underlying28
 a22:=Tryz.isAgg28
 z22:=Tryz.sizeOf28
 v22:=Tryz.zeroValue28
 t40:=Tryz.underlying150
 a40:=Tryz.isAgg150
 z40:=Tryz.sizeOf150
 v40:=Tryz.zeroValue150}
open Go.RowKit Go.Lib in
theorem Tryz.slices_BinarySearch_int (b off n c:Nat) (zs:List Int) (x:Int) (w:World) (hz:n≤zs.length) (MI:n<4611686018427387904) (hc:∀j,j<zs.length→w.cell? ⟨b,off+j,none⟩=some (.int .i64 (zs.getD j 0))) (hs:(zs.take n).Pairwise (·≤·)):
  Calls Tryz.prog 57 #[.slice (some ⟨b,off,none⟩) n c,.int .i64 x] w fun e w'=>e=.returned (.tuple #[.int .i64 ((zs.take n).countP (·<x):Nat),.bool ((zs.take n).contains x)])∧∃q,w'=w.drewN q:=Any.slices_BinarySearch_int Tryz.z8 b off n c zs x w hz MI hc hs
open Go.RowKit Go.Sort in
theorem Tryz.slices_Sort_int_none (p:Option Addr) (cap:Nat) (w:World):
  Calls Tryz.prog 45 #[.slice p 0 cap] w fun e w'=>e=.returned (.tuple #[])∧w'=w:=Any.slices_Sort_int_none Tryz.Gz p cap w
open Go.RowKit Go.Lib in
theorem Tryz.slices_BinarySearch_int_empty (a:Option Addr) (c:Nat) (x:Int) (w:World):
  Calls Tryz.prog 57 #[.slice a 0 c,.int .i64 x] w fun e w'=>e=.returned (.tuple #[.int .i64 0,.bool false])∧w'=w:=Any.slices_BinarySearch_int_empty Tryz.z8 a c x w
end Go.Proofs
/- Go's slices.Sort and slices.Compact at numbers,as callees that rewrite a row. -/
namespace Go.Ab
open Go Go.Proofs Go.RowKit
def j5 (zs:List Int):List Int:=zs.mergeSort fun x y=>decide (x≤y)
def q6 (zs:List Int):List Int:=Go.Lib.compact zs
def UL (zs:List Int):List Int:=q6 zs++List.replicate (zs.length - (q6 zs).length) 0
theorem MX (zs:List Int):(q6 zs).length≤zs.length:=by
 unfold q6 Go.Lib.compact Go.Lib.compactUpTo
 rw[aX]
 exact aN (dH _ _) (by simp)
theorem Ap:SM Tryz.prog 45 j5 none where
 enters:=enters_of Tryz.func45 rfl (by decide)
 len:=fun zs=>by simp [j5]
 retle:=fun r h=>by cases h
 calls:=fun b cap zs w hH hb hl _=>Tryz.slices_Sort_int b 0 cap zs w hH hb (by omega)
 nil:=fun w=>(Tryz.slices_Sort_int_none none 0 w).mono fun e w' ⟨h1,h2⟩=>⟨h1,h2▸Below.refl _ _⟩
end Go.Ab
/- Lists of numbers put in order,each number once. -/
namespace Go.Ab
open Go Go.Proofs
abbrev nY (l:List Int):Prop:=l.Pairwise (·<·)
theorem mh:∀{a b:List Int},nY a→nY b→(∀x,x∈a↔x∈b)→a=b
 |[],[],_,_,_=>rfl
 |[],y::b,_,_,h=>by have:=(h y).2 (by simp);simp at this
 |x::a,[],_,_,h=>by have:=(h x).1 (by simp);simp at this
 |x::a,y::b,ha,hb,h=>by
  have F3:=eg.1 ha
  have js:=eg.1 hb
  have U4:x=y:=by
   have h1:=(h x).1 (by simp)
   have h2:=(h y).2 (by simp)
   rcases br.1 h1 with e|h1
   ·exact e
   ·rcases br.1 h2 with e|h2
    ·exact e.symm
    ·have:=js.1 x h1
     have:=F3.1 y h2
     omega
  subst U4
  rw[mh F3.2 js.2 fun z=>?_]
  constructor
  ·intro hz
   have h1:=F3.1 z hz
   rcases br.1 ((h z).1 (by simp [hz])) with e|h2
   ·omega
   ·exact h2
  ·intro hz
   have h1:=js.1 z hz
   rcases br.1 ((h z).2 (by simp [hz])) with e|h2
   ·omega
   ·exact h2
theorem mg {zs:List Int} {j:Nat} (hj:j<zs.length):zs.toArray[j]! =zs[j]:=by simp [hj]
theorem Mg {zs:List Int} {x:Int}:x∈q6 zs↔∃j,∃h:j<zs.length,zs[j]=x∧(j=0∨∃h':j - 1<zs.length,zs[j]≠zs[j - 1]):=by
 unfold q6 Go.Lib.compact Go.Lib.compactUpTo
 simp only[bt,dD,dk,Go.Lib.keeps,decide_eq_true_eq]
 constructor
 ·rintro⟨j,⟨hj,hk⟩,rfl⟩
  refine⟨j,hj,(mg hj).symm,?_⟩
  rcases hk with hk|hk
  ·exact .inl hk
  ·by_cases h0:j=0
   ·exact .inl h0
   ·right
    refine⟨by omega,?_⟩
    rwa [mg hj,mg aG] at hk
 ·rintro⟨j,hj,rfl,hk⟩
  refine⟨j,⟨hj,?_⟩,mg hj⟩
  rcases hk with hk|⟨h',hk⟩
  ·exact .inl hk
  ·right
   rwa [mg hj,mg h']
theorem KW {zs:List Int} {x:Int}:x∈q6 zs↔x∈zs:=by
 rw[Mg]
 constructor
 ·rintro⟨j,hj,rfl,_⟩;exact cT hj
 ·intro hx
  obtain⟨j,hj,rfl⟩:=dc hx
  induction j with
  |zero=>exact⟨0,hj,rfl,.inl rfl⟩
  |succ j ih=>
   by_cases e:zs[j+1]=zs[j]
   ·obtain⟨i,hi,h1,h2⟩:=ih aG (cT _)
    exact⟨i,hi,h1.trans e.symm,h2⟩
   ·exact⟨j+1,hj,rfl,.inr ⟨by omega,e⟩⟩
theorem ME {zs:List Int} (h:zs.Pairwise (·≤·)):nY (q6 zs):=by
 unfold q6 Go.Lib.compact Go.Lib.compactUpTo nY
 rw[List.pairwise_map]
 have h1:((a7 zs.length).filter (Go.Lib.keeps zs.toArray)).Pairwise (·<·):=List.Pairwise.filter _ List.pairwise_lt_range
 refine List.Pairwise.imp_of_mem (fun {i j} hi hj Ad=>?_) h1
 simp only[dD,dk,Go.Lib.keeps,decide_eq_true_eq] at hi hj
 obtain⟨Ww,_⟩:=hi
 obtain⟨OB,Ed⟩:=hj
 rw[mg Ww,mg OB]
 rw[dE] at h
 rcases Ed with h0|h0
 ·omega
 ·have XR:j - 1<zs.length:=by omega
  have h2:zs[j - 1]≤zs[j]:=h (j - 1) j XR OB (by omega)
  rw[mg OB,mg XR] at h0
  by_cases e:i=j - 1
  ·subst e;omega
  ·have h3:zs[i]≤zs[j - 1]:=h i (j - 1) Ww XR (by omega)
   omega
theorem yc {zs:List Int} {x:Int}:x∈j5 zs↔x∈zs:=(List.mergeSort_perm zs _).mem_iff
theorem AP (zs:List Int):(j5 zs).Pairwise (·≤·):=by
 have:=List.pairwise_mergeSort (le:=fun x y:Int=>decide (x≤y)) (fun a b c h1 h2=>by simp only[decide_eq_true_eq] at*;omega) (fun a b=>by simp only[Bool.or_eq_true,decide_eq_true_eq];omega) zs
 exact this.imp fun h=>by simpa using h
def canon (zs:List Int):List Int:=q6 (j5 zs)
theorem mc (zs:List Int):nY (canon zs):=ME (AP zs)
theorem lh {zs:List Int} {x:Int}:x∈canon zs↔x∈zs:=by unfold canon;rw[KW,yc]
theorem HE (zs:List Int):(canon zs).length≤zs.length:=by
 have h1:=MX (j5 zs)
 have h2:(j5 zs).length=zs.length:=by simp [j5]
 unfold canon;omega
theorem ML {zs:List Int} (h:nY zs):canon zs=zs:=mh (mc zs) h fun x=>lh
theorem Dt {a b:List Int} (h:∀x,x∈a↔x∈b):canon a=canon b:=mh (mc a) (mc b) fun x=>by rw[lh,lh,h]
end Go.Ab
/- Chapter 24:permutations of atoms,images of ranks,the group of symmetries,in plain terms. -/
namespace Go.Ab
open Go Go.Proofs
set_option maxRecDepth 20000
set_option maxHeartbeats 4000000
def fV (n:Nat) (p:List Int):Nat→Int→Int
 |0,_=>0
 |a+1,t=>p.getD (t % (n:Int)).toNat 0+(n:Int)*fV n p a (t / (n:Int))
structure iH (n:Nat) (iF:Int→Int) (p:List Int):Prop where
 len:p.length=n
 nodup:p.Nodup
 wI:∀x∈p,0≤x∧x<(n:Int)
 iF:∀(i:Nat) (h:i<p.length),iF p[i]=iF (i:Int)
theorem iH.at {n:Nat} {iF:Int→Int} {p:List Int} (h:iH n iF p) {i:Nat} (hi:i<n):p.getD i 0=p[i]'(by rw[h.len];exact hi):=by
 rw[cO,aZ (by rw[h.len];exact hi)];rfl
theorem iH.lt {n:Nat} {iF:Int→Int} {p:List Int} (h:iH n iF p) {i:Nat} (hi:i<n):0≤p.getD i 0∧p.getD i 0<(n:Int):=by
 rw[h.at hi];exact h.wI _ (cT _)
theorem iH.inj {n:Nat} {iF:Int→Int} {p:List Int} (h:iH n iF p) {i j:Nat} (hi:i<n) (hj:j<n) (e:p.getD i 0=p.getD j 0):i=j:=by
 rw[h.at hi,h.at hj] at e
 exact(di h.nodup).1 e
theorem mod_lt {n:Nat} (hn:0<n) (t:Int):(t % (n:Int)).toNat<n:=by
 have h1:=c9 t (show(n:Int)≠0 by omega)
 have h2:=Int.emod_lt_of_pos t (show 0<(n:Int) by omega)
 omega
theorem iT (n a:Nat):((n ^ (a+1):Nat):Int)=(n:Int)*((n ^ a:Nat):Int):=by
 rw[Nat.pow_succ,Nat.mul_comm];exact Int.natCast_mul _ _
theorem BS {n a:Nat} (hn:0<n) {t:Int} (h:0≤t∧t<((n ^ (a+1):Nat):Int)):0≤t / (n:Int)∧t / (n:Int)<((n ^ a:Nat):Int):=by
 rw[iT] at h
 exact⟨Int.ediv_nonneg h.1 aG,Int.ediv_lt_of_lt_mul aG (by rw[Int.mul_comm];exact h.2)⟩
theorem CI {n a:Nat} {d s:Int} (hd:0≤d∧d<(n:Int)) (hs:0≤s∧s<((n ^ a:Nat):Int)):0≤d+(n:Int)*s∧d+(n:Int)*s<((n ^ (a+1):Nat):Int):=by
 rw[iT]
 have h1:0≤(n:Int)*s:=dv aG hs.1
 have h2:(n:Int)*(s+1)≤(n:Int)*((n ^ a:Nat):Int):=Int.mul_le_mul_of_nonneg_left aG (by omega)
 rw[Int.mul_add,Int.mul_one] at h2
 omega
theorem uK {n:Nat} {d s:Int} (hd:0≤d∧d<(n:Int)):(d+(n:Int)*s) % (n:Int)=d:=by
 rw[Int.add_mul_emod_self_left,Int.emod_eq_of_lt hd.1 hd.2]
theorem uG {n:Nat} (hn:0<n) {d s:Int} (hd:0≤d∧d<(n:Int)):(d+(n:Int)*s) / (n:Int)=s:=by
 rw[Int.add_mul_ediv_left _ _ aG,Int.ediv_eq_zero_of_lt hd.1 hd.2,eC]
theorem Bu {n:Nat} {iF:Int→Int} {p:List Int} (h:iH n iF p) (hn:0<n):∀(a:Nat) (t:Int),0≤fV n p a t∧fV n p a t<((n ^ a:Nat):Int)
 |0,_=>by simp [fV]
 |a+1,t=>CI (h.lt (mod_lt hn t)) (Bu h hn a _)
theorem wo {n:Nat} {iF:Int→Int} {p:List Int} (h:iH n iF p) (hn:0<n):∀(a:Nat) {t u:Int},(0≤t∧t<((n ^ a:Nat):Int))→(0≤u∧u<((n ^ a:Nat):Int))→fV n p a t=fV n p a u→t=u
 |0,t,u,ht,hu,_=>by rw[eO] at ht hu;omega
 |a+1,t,u,ht,hu,e=>by
  have d1:=h.lt (mod_lt hn t)
  have d2:=h.lt (mod_lt hn u)
  have e1:p.getD (t % (n:Int)).toNat 0=p.getD (u % (n:Int)).toNat 0:=by
   have:=congrArg (·% (n:Int)) e
   simp only[fV] at this
   rwa [uK d1,uK d2] at this
  have e2:fV n p a (t / (n:Int))=fV n p a (u / (n:Int)):=by
   have:=congrArg (·/ (n:Int)) e
   simp only[fV] at this
   rwa [uG hn d1,uG hn d2] at this
  have e3:=h.inj (mod_lt hn t) (mod_lt hn u) e1
  have e4:=wo h hn a (BS hn ht) (BS hn hu) e2
  have m1:=c9 t (show(n:Int)≠0 by omega)
  have m2:=c9 u (show(n:Int)≠0 by omega)
  have e5:t % (n:Int)=u % (n:Int):=by omega
  have q1:=eP t n
  have q2:=eP u n
  rw[← q1,← q2,e5,e4]
def oF (p q:List Int):List Int:=q.map fun x=>p.getD x.toNat 0
theorem yq (p q:List Int):(oF p q).length=q.length:=by simp [oF]
theorem LB {p q:List Int} {i:Nat} (h:i<(oF p q).length):(oF p q)[i]=p.getD (q[i]'(by rwa [yq] at h)).toNat 0:=by simp [oF]
theorem O9 {p q:List Int} {i:Nat} (h:i<q.length):(oF p q).getD i 0=p.getD (q.getD i 0).toNat 0:=by
 rw[cO,aZ (by rw[yq];exact h),cO (l:=q),aZ h]
 simp [oF]
theorem As {n:Nat} {iF:Int→Int} {p q:List Int} (hq:iH n iF q) (hn:0<n):∀(a:Nat) (t:Int),fV n (oF p q) a t=fV n p a (fV n q a t)
 |0,_=>rfl
 |a+1,t=>by
  have d1:=hq.lt (mod_lt hn t)
  have e:fV n (oF p q) (a+1) t=(oF p q).getD (t % (n:Int)).toNat 0+(n:Int)*fV n (oF p q) a (t / (n:Int)):=rfl
  have e2:fV n p (a+1) (fV n q (a+1) t)=p.getD (fV n q (a+1) t % (n:Int)).toNat 0+(n:Int)*fV n p a (fV n q (a+1) t / (n:Int)):=rfl
  have e3:fV n q (a+1) t=q.getD (t % (n:Int)).toNat 0+(n:Int)*fV n q a (t / (n:Int)):=rfl
  rw[e,e2,e3,uK d1,uG hn d1,O9 (by rw[hq.len];exact mod_lt hn t),As hq hn a]
def tt (p:List Int):List Int:=(a7 p.length).map fun j:Nat=>((p.findIdx fun x=>decide (x=(j:Int)):Nat):Int)
theorem qL (p:List Int):(tt p).length=p.length:=by simp [tt]
theorem tL {p:List Int} {j:Nat} (h:j<(tt p).length):(tt p)[j]=((p.findIdx fun x=>decide (x=(j:Int)):Nat):Int):=by simp [tt]
theorem AS (n:Nat) {p:List Int} (qc:p.Nodup) (hr:∀x∈p,0≤x∧x<(n:Int)) (hl:p.length=n) {j:Int} (hj:0≤j∧j<(n:Int)):j∈p:=by
 apply Classical.byContradiction
 intro hn
 have:=rA n (l:=(j::p).map (·+1)) (by
  refine List.Pairwise.map _ (fun a b ti e=>ti aG) (eN.2 ⟨hn,qc⟩)) (fun x hx=>by
  obtain⟨y,hy,rfl⟩:=bt.1 hx
  rcases br.1 hy with rfl|hy
  ·omega
  ·have:=hr y hy;omega)
 simp only[aX,cb] at this
 omega
theorem iH.find {n:Nat} {iF:Int→Int} {p:List Int} (h:iH n iF p) {j:Nat} (hj:j<n):∃i:Nat,∃hi:i<p.length,(p.findIdx fun x=>decide (x=(j:Int)))=i∧p[i]=(j:Int):=
 rG (AS n h.nodup h.wI h.len aG)
theorem iH.q_ {n:Nat} {iF:Int→Int} {p:List Int} (h:iH n iF p) {i:Nat} (hi:i<n):(tt p).getD (p.getD i 0).toNat 0=(i:Int):=by
 have hl:=h.lt hi
 have BP:=h.len
 have ft:(p.getD i 0).toNat<(tt p).length:=by rw[qL];omega
 obtain⟨k,hk,k1,k2⟩:=h.find (j:=(p.getD i 0).toNat) (by omega)
 rw[cO,aZ ft]
 show(tt p)[_]=_
 rw[tL,k1]
 have:k=i:=h.inj aG hi (by rw[h.at aG,k2];omega)
 omega
theorem iH.inv {n:Nat} {iF:Int→Int} {p:List Int} (h:iH n iF p):iH n iF (tt p):=by
 have BP:=h.len
 refine⟨by rw[qL,h.len],?_,fun x hx=>?_,fun j hj=>?_⟩
 ·unfold List.Nodup
  rw[dE]
  intro a b ha hb ti e
  rw[tL,tL] at e
  rw[qL] at ha hb
  obtain⟨i,i0,i1,i2⟩:=h.find (j:=a) (by omega)
  obtain⟨j,j0,j1,j2⟩:=h.find (j:=b) (by omega)
  rw[i1,j1] at e
  have:i=j:=by omega
  subst this
  omega
 ·obtain⟨j,hj,rfl⟩:=dc hx
  rw[tL]
  rw[qL] at hj
  obtain⟨i,i0,i1,i2⟩:=h.find (j:=j) (by omega)
  rw[i1]
  omega
 ·rw[tL]
  rw[qL] at hj
  obtain⟨i,i0,i1,i2⟩:=h.find (j:=j) (by omega)
  rw[i1,← h.iF i i0,i2]
def D3 (n:Nat):List Int:=(a7 n).map fun i:Nat=>(i:Int)
theorem LP {n i:Nat} (h:i<n):(D3 n).getD i 0=(i:Int):=by
 rw[cO,aZ (by simp [D3];exact h)]
 simp [D3]
theorem Bv (n:Nat):(D3 n).length=n:=by simp [D3]
theorem iH.id (n:Nat) (iF:Int→Int):iH n iF (D3 n):=by
 refine⟨Bv n,?_,fun x hx=>?_,fun i h=>by simp [D3]⟩
 ·unfold D3
  refine List.Pairwise.map _ (fun a b ti e=>ti aG) List.nodup_range
 ·obtain⟨y,hy,rfl⟩:=bt.1 hx
  have:=dk.1 hy
  omega
theorem MT {n:Nat} {iF:Int→Int} {p:List Int} (h:iH n iF p):oF (tt p) p=D3 n:=by
 have BP:=h.len
 refine List.ext_getElem (by rw[yq,h.len,Bv]) fun i h1 h2=>?_
 rw[Bv] at h2
 rw[LB]
 have:=h.q_ h2
 rw[h.at h2] at this
 rw[this]
 simp [D3]
theorem By {n:Nat} (hn:0<n):∀(a:Nat) {t:Int},(0≤t∧t<((n ^ a:Nat):Int))→fV n (D3 n) a t=t
 |0,t,h=>by rw[eO] at h;show(0:Int)=t;omega
 |a+1,t,h=>by
  show(D3 n).getD (t % (n:Int)).toNat 0+(n:Int)*fV n (D3 n) a (t / (n:Int))=t
  rw[LP (mod_lt hn t),By hn a (BS hn h)]
  have m1:=c9 t (show(n:Int)≠0 by omega)
  have q1:=eP t n
  omega
def lj (n:Nat) (p:List Int) (a:Nat) (ts:List Int):Bool:=decide (canon (ts.map (fV n p a))=ts)
structure qa (n a:Nat) (ts:List Int):Prop where
 inc:nY ts
 wI:∀t∈ts,0≤t∧t<((n ^ a:Nat):Int)
theorem qv {n a:Nat} {p ts:List Int} (h:nY ts):lj n p a ts=true↔∀x,x∈ts.map (fV n p a)↔x∈ts:=by
 unfold lj
 rw[decide_eq_true_iff]
 constructor
 ·intro e x
  rw[← lh (zs:=ts.map (fV n p a)),e]
 ·intro e
  exact mh (mc _) h fun x=>by rw[lh];exact e x
theorem CW {n a:Nat} {p ts:List Int} (h:nY ts) (hk:lj n p a ts=true) {t:Int} (ht:t∈ts):fV n p a t∈ts:=
 ((qv h).1 hk _).1 (bt.2 ⟨t,ht,rfl⟩)
theorem I5 {n a:Nat} {iF:Int→Int} {p ts:List Int} (hp:iH n iF p) (hn:0<n) (h:qa n a ts) (hk:lj n p a ts=true) {t:Int} (ht:0≤t∧t<((n ^ a:Nat):Int)) (hi:fV n p a t∈ts):t∈ts:=by
 obtain⟨u,hu,e⟩:=bt.1 (((qv h.inc).1 hk _).2 hi)
 rw[← wo hp hn a (h.wI u hu) ht e]
 exact hu
theorem Ci {n a:Nat} {iF:Int→Int} {p ts:List Int} (hp:iH n iF p) (hn:0<n) (h:qa n a ts) (h1:lj n p a ts=true):lj n (tt p) a ts=true:=by
 have key:∀t∈ts,fV n (tt p) a (fV n p a t)=t:=fun t ht=>by
  rw[← As hp hn,MT hp,By hn a (h.wI t ht)]
 rw[qv h.inc] at h1 ⊢
 intro x
 constructor
 ·intro hx
  obtain⟨t,ht,rfl⟩:=bt.1 hx
  obtain⟨u,hu,rfl⟩:=bt.1 ((h1 t).2 ht)
  rw[key u hu]
  exact hu
 ·intro hx
  exact bt.2 ⟨fV n p a x,(h1 _).1 (bt.2 ⟨x,hx,rfl⟩),key x hx⟩
theorem F8 {n a:Nat} (hn:0<n) {ts:List Int} (h:qa n a ts):lj n (D3 n) a ts=true:=by
 rw[qv h.inc]
 intro x
 constructor
 ·intro hx
  obtain⟨t,ht,rfl⟩:=bt.1 hx
  rw[By hn a (h.wI t ht)];exact ht
 ·intro hx
  exact bt.2 ⟨x,hx,By hn a (h.wI x hx)⟩
def allM (n:Nat) (iF:Int→Int):Nat→List (List Int)
 |0=>[[]]
 |i+1=>(allM n iF i).flatMap fun p=>((a7 n).filter fun x:Nat=>decide (iF x=iF i) && !decide ((x:Int)∈p)).map fun x:Nat=>p++ [(x:Int)]
theorem ud {n:Nat} {iF:Int→Int}:∀{i:Nat} {p:List Int},p∈allM n iF i↔p.length=i∧p.Nodup∧(∀x∈p,0≤x∧x<(n:Int))∧∀(k:Nat) (h:k<p.length),iF p[k]=iF (k:Int)
 |0,p=>by
  rw[allM,cp]
  constructor
  ·rintro rfl
   exact⟨rfl,List.nodup_nil,by simp,by simp⟩
  ·rintro⟨h,_⟩
   exact bf h
 |i+1,p=>by
  rw[allM,List.mem_flatMap]
  constructor
  ·rintro⟨q,hq,hp⟩
   obtain⟨x,hx,rfl⟩:=bt.1 hp
   obtain⟨hx,hc⟩:=dD.1 hx
   rw[aW,decide_eq_true_iff,cq,decide_eq_false_iff_not] at hc
   obtain⟨h1,h2,h3,h4⟩:=ud.1 hq
   have hx:=dk.1 hx
   refine⟨by rw[bV,h1];rfl,?_,fun y hy=>?_,fun k h=>?_⟩
   ·rw[ca]
    exact⟨h2,by simp,fun a ha b hb e=>by rw[cp] at hb;subst hb;subst e;exact hc.2 ha⟩
   ·rcases bW.1 hy with hy|hy
    ·exact h3 y hy
    ·rw[cp] at hy;subst hy;omega
   ·rw[bV,List.length_singleton] at h
    by_cases hk:k<q.length
    ·rw[eK hk];exact h4 k hk
    ·have:k=i:=by omega
     subst this
     rw[eL aG]
     simp only[List.getElem_singleton]
     exact hc.1
  ·rintro⟨h1,h2,h3,h4⟩
   have gz:p≠ []:=by rintro rfl;simp at h1
   have hs:p.dropLast++ [p.getLast gz]=p:=List.dropLast_concat_getLast gz
   have hl:p.dropLast.length=i:=by rw[eQ];omega
   have hr:=h3 _ (List.getLast_mem gz)
   have qc:(p.dropLast++ [p.getLast gz]).Nodup:=by rw[hs];exact h2
   rw[ca] at qc
   refine⟨p.dropLast,ud.2 ⟨hl,qc.1,fun x hx=>h3 x (List.dropLast_subset _ hx),fun k h=>?_⟩,bt.2 ⟨(p.getLast gz).toNat,dD.2 ⟨dk.2 aG,?_⟩,?_⟩⟩
   ·rw[List.getElem_dropLast];exact h4 k (by rw[eQ] at h;omega)
   ·rw[aW,decide_eq_true_iff,cq,decide_eq_false_iff_not,show(((p.getLast gz).toNat:Nat):Int)=p.getLast gz by omega]
    constructor
    ·rw[List.getLast_eq_getElem,h4 _ aG]
     congr 1
     omega
    ·intro hm
     exact qc.2.2 _ hm _ (cp.2 rfl) rfl
   ·rw[show(((p.getLast gz).toNat:Nat):Int)=p.getLast gz by omega];exact hs
theorem xp {n:Nat} {iF:Int→Int} {p:List Int}:p∈allM n iF n↔iH n iF p:=by
 rw[ud]
 exact⟨fun⟨h1,h2,h3,h4⟩=>⟨h1,h2,h3,h4⟩,fun⟨h1,h2,h3,h4⟩=>⟨h1,h2,h3,h4⟩⟩
end Go.Ab
/- Chapter 05's small functions,and their like in chapter 07's reference:sums,sorts,scopes. -/
namespace Go.Ab
open Go Go.Proofs
set_option maxRecDepth 20000
set_option maxHeartbeats 4000000
abbrev sq:=ByteArray×Bool
structure gx where
 name:ByteArray
 sorts:List Int
 var:Bool
structure IH where
 a:Option Addr
 l:Nat
 c:Nat
def mT (s:sq):List PV:=[.lit (.string s.1),.lit (.bool s.2)]
def qj (f:gx):List PV:=[.lit (.string f.name),ints f.sorts,.lit (.bool f.var)]
structure gu where
 sorts:List sq
 fields:List gx
 preds:IH
 facts:IH
abbrev vO (s:IH):AV:=.pv (.lit (.slice s.a s.l s.c))
abbrev De (s:gu):AV:=.agg [.pv (.slice 2 (s.sorts.map mT)),.pv (.slice 3 (s.fields.map qj)),vO s.preds,vO s.facts]
abbrev pI (at':List Int) (st:Int):AV:=.agg [.pv (ints at'),eU st]
def sr (at':List Int):Prop:=at'.length≤1000∧∀x∈at',0≤x∧x≤1000
theorem my (l:List Int) {k:Nat} (hk:k<l.length):(l.take (k+1)).sum=(l.take k).sum+l[k]:=by
 rw[fF hk,List.sum_append];simp
theorem Ha:∀(l:List Int),(∀x∈l,0≤x∧x≤1000)→0≤l.sum∧l.sum≤1000*l.length:=by
 intro l
 induction l with
 |nil=>intro _;simp
 |cons x l ih=>
  intro h
  have h1:=h x (by simp)
  have h2:=ih fun y hy=>h y (by simp [hy])
  simp only[List.sum_cons,cb]
  omega
theorem sr.take {at':List Int} (h:sr at') (k:Nat):0≤(at'.take k).sum∧(at'.take k).sum≤1000000:=by
 have h1:=Ha (at'.take k) fun x hx=>h.2 x (c7 hx)
 have h2:=c8 k at'
 have h3:(at'.take k).length≤1000:=by have:=h.1;simp;omega
 omega
attribute [local irreducible] AW a_ fT ff AR fh e6 fp fA
theorem J3 (l:List Int) (h:sr l):Fn Tryz.prog 103 [.pv (ints l)] (eU l.sum):=by
 have hb:=h.take
 have hle:=h.1
 refine Fn.enter (n:=17) Tryz.func103 rfl rfl rfl rfl rfl (by decide) fun g fu fw=>?_;(try refine nz ?_)
 (refine nQ ?_;refine lM ?_;refine uj ?_)
 refine AW.loop (fun(k:Nat)=>{n:=17,env:=[(3,eU (l.take k).sum),(6,.pv (ints l)),(7,eU l.length),(8,eU k)],fY:=[],nx:=0}) (fun k=>k≤l.length) (fun k=>l.length - k) 0 ?_ ?_ ?_
 ·exact bg _
 ·exact R2
 rintro k hk
 by_cases ft:k<l.length
 ·have hs:=my l ft
  have h1:=hb k
  have h2:=hb (k+1)
  (refine rN ?_;refine ay ?_;refine zr ?_;refine Q4 ?_;refine Bl ?_;refine zj ?_;refine uC ?_;refine vT ?_)
  exact⟨k+1,by omega,by omega,e_ rfl (by(refine⟨.d_ (by first|with_reducible rfl|(rw[hs])),?_⟩;refine⟨.fb (by first|with_reducible rfl|(rw[hs])),?_⟩;refine⟨.d_ (by first|with_reducible rfl|(rw[hs])),?_⟩;refine aA ?_;exact trivial)) (by(exact trivial)) rfl⟩
 ·rw[gV (l:=l) aG]
  (refine og ?_;refine zm ?_;refine j7 ?_)
  (apply c_;(exact fZ.one (.tmp rfl rfl));(refine Le.eU ?_;(rfl)))
theorem qS (at':List Int) (st:Int) (h:sr at'):Fn Tryz.prog 61 [pI at' st] (eU at'.sum):=by
 refine Fn.enter (n:=6) Tryz.func61 rfl rfl rfl rfl rfl (by decide) fun g fu fw=>?_;(try refine nz ?_)
 (refine tc ?_;refine BI ?_;refine a_.call (J3 at' h) (.cons rfl (.pv _) .nil) rfl rfl (fun h_=>by cases h_) ?_;refine j7 ?_)
 (apply c_;(exact fZ.one (.tmp rfl rfl));(refine Le.eU ?_;(rfl)))
theorem o9 (at':List Int) (st:Int) (s:Nat) (h:sr at') (hs:s≤at'.length):Fn Tryz.prog 146 [pI at' st,eU s] (eU (at'.take s).sum):=by
 have h2:sr (at'.take s):=⟨by have:=h.1;simp;omega,fun x hx=>h.2 x (c7 hx)⟩
 refine Fn.enter (n:=10) Tryz.func146 rfl rfl rfl rfl rfl (by decide) fun g fu fw=>?_;(try refine nz ?_)
 (refine tc ?_;refine BI ?_;refine zm ?_;refine a_.CD rfl rfl rfl rfl rfl rfl rfl aG ?_;refine a_.call (J3 (at'.take s) h2) (.cons rfl (.pv _) .nil) rfl rfl (fun h_=>by cases h_) ?_;refine j7 ?_)
 (apply c_;(exact fZ.one (.tmp rfl rfl));(refine Le.eU ?_;(rfl)))
theorem jg (n a b:Int):Fn Tryz.prog 102 [eU n,eU a,eU b] (fe (decide (a≤n∧n≤b))):=by
 by_cases h1:a≤n
 ·by_cases h2:n≤b
  ·rw[decide_eq_true ⟨h1,h2⟩]
   refine Fn.enter (n:=15) Tryz.func102 rfl rfl rfl rfl rfl (by decide) fun g fu fw=>?_;(try refine nz ?_)
   (refine nQ ?_;(iterate 2 refine zm ?_);refine IE ?_;refine pq ?_;refine K8 ?_;refine j7 ?_)
   (apply c_;(exact fZ.one (.tmp rfl rfl));(refine Le.fe ?_;(first|rfl|exact decide_eq_true aG)))
  ·rw[decide_eq_false (fun h=>h2 h.2)]
   refine Fn.enter (n:=15) Tryz.func102 rfl rfl rfl rfl rfl (by decide) fun g fu fw=>?_;(try refine nz ?_)
   (refine nQ ?_;(iterate 2 refine zm ?_);refine IE ?_;refine pq ?_;refine K8 ?_;refine j7 ?_)
   (apply c_;(exact fZ.one (.tmp rfl rfl));(refine Le.fe ?_;exact ak))
 ·rw[decide_eq_false (fun h=>h1 h.1)]
  refine Fn.enter (n:=15) Tryz.func102 rfl rfl rfl rfl rfl (by decide) fun g fu fw=>?_;(try refine nz ?_)
  (refine nQ ?_;(iterate 2 refine zm ?_);refine a_.geq rfl rfl rfl rfl rfl ?_;refine zm ?_;(iterate 3 refine a_.kR rfl rfl rfl rfl rfl rfl (by with_reducible assumption) ?_);refine zF ?_;refine j7 ?_)
  (apply c_;(exact fZ.one (.tmp rfl rfl));(refine Le.fe ?_;exact ak))
def kn (at':List Int):Bool:=at'.all fun n=>decide (1≤n∧n≤5)
def lB (k:Nat) (at':List Int) (st:Int):Bool:=decide (k≤4∧at'.length=k∧1≤st∧st≤4) && kn at' && decide (at'.sum≤12)
theorem xY {at':List Int} {k:Nat} (hk:k<at'.length) (h:¬(1≤at'[k]∧at'[k]≤5)):kn at'=false:=by
 unfold kn;rw[List.all_eq_false];exact⟨_,cT hk,by simpa using h⟩
theorem qx {at':List Int}:kn at'=true↔∀x∈at',1≤x∧x≤5:=by
 unfold kn;rw[bB];simp
theorem p8 {at':List Int} (h:kn at'=true) (hl:at'.length≤1000):sr at':=⟨hl,fun x hx=>by have:=qx.1 h x hx;omega⟩
theorem yi {at':List Int} {k:Nat} (h:kn (at'.take k)=true) (hk:k<at'.length) (hx:1≤at'[k]∧at'[k]≤5):kn (at'.take (k+1))=true:=by
 rw[qx] at*
 rw[fF hk]
 intro x hm
 rcases bW.1 hm with hm|hm
 ·exact h x hm
 ·simp at hm;subst hm;exact hx
theorem I6 (s:gu) (at':List Int) (st:Int):Fn Tryz.prog 60 [De s,pI at' st] (fe (lB s.sorts.length at' st)):=by
 obtain⟨so,fs,p,q⟩:=s
 simp only
 by_cases h1:so.length≤4∧at'.length=so.length∧1≤st∧st≤4
 ·have he:lB so.length at' st=(kn at' && decide (at'.sum≤12)):=by unfold lB;rw[decide_eq_true h1,dt]
  rw[he]
  have hw:=jg st 1 4
  rw[decide_eq_true ⟨h1.2.2.1,h1.2.2.2⟩] at hw
  refine Fn.enter (n:=40) Tryz.func60 rfl rfl rfl rfl rfl (by decide) fun g fu fw=>?_;(try refine nz ?_)
  (refine Kl ?_;refine zn ?_;refine a_.gtr rfl rfl rfl rfl rfl ?_;refine mW ?_;refine Sj ?_;refine mW ?_;refine IM ?_;refine a_.call (hw) (.cons rfl (.pv _) (.cons rfl (.pv _) (.cons rfl (.pv _) .nil))) rfl rfl (fun h_=>by cases h_) ?_;refine ES ?_;refine mC ?_;refine rX ?_;refine BI ?_;refine uj ?_)
  refine AW.loop (fun(k:Nat)=>{n:=40,env:=[(3,.ptr 1 0),(27,.pv (ints at')),(28,eU at'.length),(29,eU k)],fY:=[(1,some (.box [.pv (ints at'),eU st]))],nx:=2}) (fun k=>k≤at'.length∧kn (at'.take k)=true) (fun k=>at'.length - k) 0 ?_ ?_ ?_
  ·exact⟨bg _,rfl⟩
  ·exact UD
  rintro k ⟨hk,pC⟩
  by_cases ft:k<at'.length
  ·have H6:=jg at'[k] 1 5
   by_cases h2:1≤at'[k]∧at'[k]≤5
   ·rw[decide_eq_true h2] at H6
    (refine rN ?_;refine ay ?_;refine zr ?_;refine tr ?_;refine a_.call (H6) (.cons rfl (.pv _) (.cons rfl (.pv _) (.cons rfl (.pv _) .nil))) rfl rfl (fun h_=>by cases h_) ?_;refine v7 ?_)
    exact⟨k+1,⟨by omega,yi pC ft h2⟩,by omega,e_ rfl (by(refine aA ?_;(iterate 3 refine aA ?_);exact trivial)) (by(refine⟨.box _ rfl ?_,?_⟩;(iterate 2 refine aA ?_);(iterate 2 exact trivial))) rfl⟩
   ·rw[decide_eq_false h2] at H6
    have hz:=xY ft h2
    (refine rN ?_;refine ay ?_;refine zr ?_;refine tr ?_;refine a_.call (H6) (.cons rfl (.pv _) (.cons rfl (.pv _) (.cons rfl (.pv _) .nil))) rfl rfl (fun h_=>by cases h_) ?_;refine a_.not rfl rfl rfl ?_;refine tn ?_;refine oC ?_)
    (apply c_;(exact fZ.one (.tmp rfl rfl));(refine Le.fe ?_;(rw[hz];rfl)))
  ·rw[gV (l:=at') aG] at pC
   have ha:=qS at' st (p8 pC aG)
   rw[pC,dt]
   (refine og ?_;refine j4 ?_;refine a_.call (ha) (.cons rfl (.ia (.cons (.pv _) (.cons (.pv _) .nil))) .nil) rfl rfl (fun h_=>by cases h_) ?_;refine a_.leq rfl rfl rfl rfl rfl ?_;refine j7 ?_)
   (apply c_;(exact fZ.one (.tmp rfl rfl));(refine Le.fe ?_;(rfl)))
 ·have he:lB so.length at' st=false:=by unfold lB;rw[decide_eq_false h1];rfl
  rw[he]
  have hw:=jg st 1 4
  by_cases h3:1≤st∧st≤4
  ·rw[decide_eq_true h3] at hw
   refine Fn.enter (n:=40) Tryz.func60 rfl rfl rfl rfl rfl (by decide) fun g fu fw=>?_;(try refine nz ?_)
   (refine Kl ?_;refine zn ?_;refine yZ ?_;(focus ((with_reducible apply a_.kV);(iterate 6 exact rfl);all_goals intro qp));refine Sj ?_;refine zm ?_;refine NJ ?_;refine xH ?_;(all_goals skip);rotate_left;refine L6 ?_;refine zm ?_;refine Du ?_;refine MR ?_;(all_goals skip);rotate_left)
   all_goals (apply c_;(exact fZ.one (.tmp rfl rfl));(refine Le.fe ?_;exact ak))
  ·rw[decide_eq_false h3] at hw
   refine Fn.enter (n:=40) Tryz.func60 rfl rfl rfl rfl rfl (by decide) fun g fu fw=>?_;(try refine nz ?_)
   (refine Kl ?_;refine zn ?_;refine yZ ?_;(focus ((with_reducible apply a_.kV);(iterate 6 exact rfl);all_goals intro qp));refine Sj ?_;refine zm ?_;(focus ((with_reducible apply a_.kV);(iterate 6 exact rfl);all_goals intro qp));refine IM ?_;refine a_.call (hw) (.cons rfl (.pv _) (.cons rfl (.pv _) (.cons rfl (.pv _) .nil))) rfl rfl (fun h_=>by cases h_) ?_;refine ES ?_;refine xH ?_;(all_goals skip);rotate_left;refine RQ ?_;refine xH ?_;(all_goals skip);rotate_left;refine L6 ?_;refine zm ?_;refine Du ?_;refine MR ?_;(all_goals skip);rotate_left)
   all_goals (apply c_;(exact fZ.one (.tmp rfl rfl));(refine Le.fe ?_;exact ak))
end Go.Ab
/- Chapter 06's tests for well-formed relations,the program's and the reference's. -/
namespace Go.Ab
open Go Go.Proofs
set_option maxRecDepth 20000
set_option maxHeartbeats 4000000
theorem ry {n:Int} (h:0≤n∧n≤1000):∀k:Nat,k≤3→0≤n ^ k∧n ^ k≤1000000000:=by
 intro k hk
 have h0:n ^ 0=1:=eF n
 have h1:n ^ 1=n:=by rw[eD,eF,Int.one_mul]
 have m2:0≤n*n∧n*n≤1000000:=⟨dv h.1 h.1,by
  have:=dy h.2 h.1;omega⟩
 have h2:n ^ 2=n*n:=by rw[eD,h1]
 have h3:n ^ 3=n*n*n:=by rw[eD,h2]
 have m3:0≤n*n*n∧n*n*n≤1000000000:=⟨dv m2.1 h.1,by
  have:=dy m2.2 h.1;omega⟩
 match k,hk with
 |0,_=>rw[h0];omega
 |1,_=>rw[h1];omega
 |2,_=>rw[h2];omega
 |3,_=>rw[h3];exact m3
attribute [local irreducible] AW a_ fT ff AR fh e6 fp fA
theorem LO (n:Int) (k:Nat) (hn:0≤n∧n≤1000) (hk:k≤3):Fn Tryz.prog 106 [eU n,eU k] (eU (n ^ k)):=by
 have hb:=ry hn
 refine Fn.enter (n:=14) Tryz.func106 rfl rfl rfl rfl rfl (by decide) fun g fu fw=>?_;(try refine nz ?_)
 (refine nQ ?_;refine vz ?_;(iterate 2 refine zm ?_);refine rW ?_)
 refine AW.loop (fun(j:Nat)=>{n:=14,env:=[(0,eU n),(5,eU (n ^ j)),(6,eU k),(7,eU j)],fY:=[],nx:=0}) (fun j=>j≤k) (fun j=>k - j) 0 ?_ ?_ ?_
 ·exact bg _
 ·exact e_ rfl (by(refine⟨.d_ (by first|with_reducible rfl|(exact(eF n).symm)),?_⟩;refine⟨.d_ (by first|with_reducible rfl|(exact(eF n).symm)),?_⟩;refine⟨.d_ (by first|with_reducible rfl|(exact(eF n).symm)),?_⟩;refine aA ?_;exact trivial)) (by(exact trivial)) rfl
 rintro j hj
 by_cases ft:j<k
 ·have h1:=hb j (by omega)
  have h2:=hb (j+1) (by omega)
  have he:n ^ (j+1)=n ^ j*n:=eD _ _
  rw[he] at h2
  (refine BW ?_;refine Q1 ?_;refine Bl ?_;refine a_.mul rfl rfl rfl rfl rfl aG ?_;refine uC ?_;refine vT ?_)
  exact⟨j+1,by omega,by omega,e_ rfl (by(refine⟨.d_ (by first|with_reducible rfl|(rw[he])),?_⟩;(iterate 2 refine⟨.d_ (by first|with_reducible rfl|(rw[he])),?_⟩);refine aA ?_;exact trivial)) (by(exact trivial)) rfl⟩
 ·obtain rfl:j=k:=by omega
  (refine og ?_;refine zm ?_;refine j7 ?_)
  (apply c_;(exact fZ.one (.tmp rfl rfl));(refine Le.eU ?_;(rfl)))
def qy (top:Int):Int→List Int→Bool
 |_,[]=>true
 |last,t::l=>decide (last<t∧t<top) && qy top t l
theorem FG {top last:Int} {l:List Int} {k:Nat} (hk:k<l.length):qy top last (l.drop k)=(decide (last<l[k]∧l[k]<top) && qy top l[k] (l.drop (k+1))):=by
 rw[List.drop_eq_getElem_cons hk];rfl
def kJ (n:Int) (r:jc):Bool:=decide (0≤n∧n≤12∧1≤r.1∧r.1≤3) && qy (n ^ r.1.toNat) (-1) r.2
theorem Cc (n:Int) (r:jc):Fn Tryz.prog 63 [eU n,mA r] (fe (kJ n r)):=by
 obtain⟨ar,l⟩:=r
 unfold kJ
 simp only
 by_cases h1:0≤n∧n≤12∧1≤ar∧ar≤3
 ·rw[decide_eq_true h1,dt]
  obtain⟨k,rfl⟩:∃k:Nat,ar=k:=⟨ar.toNat,by omega⟩
  rw[Int.toNat_natCast]
  have hp:=LO n k aG (by omega)
  generalize n ^ k=top at hp ⊢
  refine Fn.enter (n:=44) Tryz.func63 rfl rfl rfl rfl rfl (by decide) fun g fu fw=>?_;(try refine nz ?_)
  refine AW.Bj 1 1 rfl rfl fun hlen=>?_
  simp only at hlen
  (refine lV ?_;refine lM ?_;refine zs ?_;refine mW ?_;refine zm ?_;refine wL ?_;refine mW ?_;refine Hv ?_;refine zs ?_;refine zF ?_;refine mW ?_;refine Hv ?_;refine a_.gtr rfl rfl rfl rfl rfl ?_;refine zF ?_;refine qZ ?_;refine vz ?_;refine zi ?_;refine uj ?_)
  refine AW.loop (S:=Nat×Int) (fun s=>{n:=44,env:=[(0,eU n),(3,.ptr 0 0),(5,eU s.2),(25,.pv (ints l)),(26,eU l.length),(27,eU s.1)],fY:=[(0,some (.box [eU k,.pv (ints l)]))],nx:=1}) (fun s=>s.1≤l.length∧qy top (-1) l=qy top s.2 (l.drop s.1)) (fun s=>l.length - s.1) (0,-1) ?_ ?_ ?_
  ·exact⟨bg _,rfl⟩
  ·exact e_ rfl (by(refine aA ?_;(iterate 5 refine aA ?_);exact trivial)) (by(refine⟨.box _ rfl ?_,?_⟩;(iterate 2 refine aA ?_);(iterate 2 exact trivial))) rfl
  rintro⟨j,last⟩ ⟨hj,he⟩
  simp only at hj he ⊢
  by_cases ft:j<l.length
  ·rw[FG ft] at he
   by_cases h2:last<l[j]∧l[j]<top
   ·rw[decide_eq_true h2,dt] at he
    (refine rN ?_;refine ay ?_;refine zr ?_;refine vz ?_;(iterate 2 refine zm ?_);refine a_.leq rfl rfl rfl rfl rfl ?_;refine nS ?_;refine mW ?_;refine Hv ?_;refine a_.call (hp) (.cons rfl (.pv _) (.cons rfl (.pv _) .nil)) rfl rfl (fun h_=>by cases h_) ?_;refine vV ?_;refine B1 ?_;refine qC ?_;refine zm ?_;refine uC ?_;refine vT ?_)
    exact⟨(j+1,l[j]),⟨by show j+1≤_;omega,he⟩,by show l.length - (j+1)<l.length - j;omega,e_ rfl (by(refine aA ?_;(iterate 5 refine aA ?_);exact trivial)) (by(refine⟨.box _ rfl ?_,?_⟩;(iterate 2 refine aA ?_);(iterate 2 exact trivial))) rfl⟩
   ·rw[decide_eq_false h2,du] at he
    (refine rN ?_;refine ay ?_;refine zr ?_;refine vz ?_;(iterate 2 refine zm ?_);refine a_.leq rfl rfl rfl rfl rfl ?_;refine zm ?_;(focus ((with_reducible apply a_.kV);(iterate 6 exact rfl);all_goals intro qp));refine nS ?_;refine Hv ?_;refine a_.call (hp) (.cons rfl (.pv _) (.cons rfl (.pv _) .nil)) rfl rfl (fun h_=>by cases h_) ?_;refine vV ?_;refine sK ?_;refine JA ?_;(all_goals skip);rotate_left;refine Rq ?_;refine JA ?_;(all_goals skip);rotate_left)
    all_goals (apply c_;(exact fZ.one (.tmp rfl rfl));(refine Le.fe ?_;(exact he.symm)))
  ·rw[dI aG] at he
   (refine og ?_;refine j7 ?_)
   (apply c_;(exact fZ.one (.tmp rfl rfl));(refine Le.fe ?_;(exact he.symm)))
 ·rw[decide_eq_false h1,du]
  refine Fn.enter (n:=44) Tryz.func63 rfl rfl rfl rfl rfl (by decide) fun g fu fw=>?_;(try refine nz ?_)
  (refine lV ?_;refine lM ?_;refine zs ?_;refine zm ?_;(focus ((with_reducible apply a_.kV);(iterate 6 exact rfl);all_goals intro qp));refine zm ?_;refine wL ?_;refine zm ?_;(focus ((with_reducible apply a_.kV);(iterate 6 exact rfl);all_goals intro qp));refine Hv ?_;refine zs ?_;refine zF ?_;refine zm ?_;(focus ((with_reducible apply a_.kV);(iterate 6 exact rfl);all_goals intro qp));refine Hv ?_;refine a_.gtr rfl rfl rfl rfl rfl ?_;refine zF ?_;refine sK ?_;(all_goals skip);rotate_left;refine Ie ?_;refine xH ?_;(all_goals skip);rotate_left;refine Ie ?_;refine zm ?_;refine KK ?_;refine MR ?_;(all_goals skip);rotate_left;refine a_.jM rfl rfl rfl rfl rfl rfl (by with_reducible assumption) ?_;refine zT ?_;refine zm ?_;refine KK ?_;refine qh ?_;refine KK ?_;refine MR ?_;(all_goals skip);rotate_left)
  all_goals (apply c_;(exact fZ.one (.tmp rfl rfl));(refine Le.fe ?_;(rfl)))
theorem LK {top:Int}:∀{l:List Int} {last:Int},-1≤last→(qy top last l=true↔∀j (h:j<l.length),last<l[j]∧0≤l[j]∧l[j]<top∧(0<j→l[j - 1]'(by omega)<l[j])):=by
 intro l
 induction l with
 |nil=>intro last _;simp [qy]
 |cons t l ih=>
  intro last hl
  unfold qy
  rw[aW,decide_eq_true_eq]
  constructor
  ·rintro⟨⟨h1,h2⟩,h3⟩ j hj
   rw[ih aG] at h3
   cases j with
   |zero=>simp;omega
   |succ j=>
    simp only[cb] at hj
    have h4:=h3 j (by omega)
    simp only[cX]
    refine⟨by omega,h4.2.1,h4.2.2.1,fun _=>?_⟩
    cases j with
    |zero=>simpa using h4.1
    |succ j=>simpa using h4.2.2.2 (by omega)
  ·intro h
   have h0:=h 0 (by simp)
   simp at h0
   refine⟨by omega,?_⟩
   rw[ih aG]
   have TQ:∀j (hj:j<l.length),t<l[j]:=by
    intro j
    induction j with
    |zero=>intro hj;have:=(h 1 (by simp;omega)).2.2.2 aG;simpa using this
    |succ j ihj=>
     intro hj
     have h5:=ihj (by omega)
     have h6:=(h (j+2) (by simp;omega)).2.2.2 (by omega)
     simp at h6
     omega
   intro j hj
   have h4:=h (j+1) (by simp;omega)
   simp only[cX] at h4
   refine⟨TQ j hj,h4.2.1,h4.2.2.1,fun TG=>?_⟩
   have h7:=h4.2.2.2 (by omega)
   obtain⟨i,rfl⟩:∃i,j=i+1:=⟨j - 1,by omega⟩
   simpa using h7
end Go.Ab
/- Chapter 06:difference and inclusion of relations. -/
namespace Go.Ab
open Go Go.Proofs
set_option maxRecDepth 20000
set_option maxHeartbeats 4000000
def q7 (ts:List Int):List (Int×Int):=ts.foldl (fun l t=>sg l t (nX l t+1)) []
theorem Iq {ts:List Int} {k:Nat} (hk:k<ts.length):q7 (ts.take (k+1))=sg (q7 (ts.take k)) ts[k] (nX (q7 (ts.take k)) ts[k]+1):=by
 unfold q7
 rw[fF hk,List.foldl_append];rfl
theorem DV (ts:List Int) (x:Int):nX (q7 ts) x=(ts.count x:Int):=by
 have key:∀(ts:List Int) (l:List (Int×Int)),nX (ts.foldl (fun l t=>sg l t (nX l t+1)) l) x=nX l x+(ts.count x:Int):=by
  intro ts
  induction ts with
  |nil=>intro l;simp
  |cons t ts ih=>
   intro l
   rw[List.foldl_cons,ih,Cd]
   by_cases h:x=t
   ·subst h;rw[if_pos rfl,List.count_cons_self];omega
   ·rw[if_neg h,List.count_cons_of_ne (fun e=>h e.symm)]
 have:=key ts []
 simpa [q7,nX] using this
theorem Nv (ts:List Int) (k:Nat) (x:Int):0≤nX (q7 (ts.take k)) x∧nX (q7 (ts.take k)) x≤k:=by
 rw[DV]
 have h1:=List.count_le_length (a:=x) (l:=ts.take k)
 have h2:=c8 k ts
 omega
theorem K6 (ts:List Int) (x:Int):nX (q7 ts) x=0↔x∉ts:=by
 rw[DV]
 constructor
 ·intro h;exact eR.1 (by omega)
 ·intro h;rw[eR.2 h];rfl
def gg (a b:List Int):List Int:=a.filter fun t=>decide (t∉b)
theorem ta {a b:List Int} {k:Nat} (hk:k<a.length):gg (a.take (k+1)) b=gg (a.take k) b++if a[k]∉b then [a[k]] else []:=by
 unfold gg
 rw[fF hk,List.filter_append]
 by_cases h:a[k]∈b
 ·simp [h]
 ·simp [h]
theorem rC (a b:List Int) (k:Nat):(gg (a.take k) b).length≤k:=by
 unfold gg
 exact aN (dH _ _) (c8 k a)
attribute [local irreducible] AW a_ fT ff AR fh e6 fp fA q7 gg
theorem JQ (t:Int):Fn Tryz.prog 142 [eU t] (eU t):=by
 refine Fn.enter (n:=4) Tryz.func142 rfl rfl rfl rfl rfl (by decide) fun g fu fw=>?_;(try refine nz ?_)
 (refine tX ?_;refine j7 ?_)
 (apply c_;(exact fZ.one (.tmp rfl rfl));(refine Le.eU ?_;(rfl)))
theorem NN (c:Int) (a:List Int) (d:Int) (b:List Int) (ha:a.length≤1000000) (hb:b.length≤1000000):Fn Tryz.prog 107 [mA (c,a),mA (d,b)] (mA (c,gg a b)):=by
 refine Fn.enter (n:=15) Tryz.func107 rfl rfl rfl rfl rfl (by decide) fun g fu fw=>?_;(try refine nz ?_)
 (refine wh ?_;refine pZ ?_;refine nd ?_;refine j4 ?_;(with_reducible apply a_.inline (hf:=Tryz.func141));(with_reducible assumption);(iterate 10 exact rfl);intro g_ fu fw;refine nz ?_;refine tc ?_;refine a_.Gu (t:=192) rfl ?_;refine nz ?_;refine a_.vw rfl rfl rfl ?_;refine zd ?_;refine Hw ?_;refine zi ?_;refine uj ?_)
 refine AW.loop (fun(k:Nat)=>{n:=24,env:=[(1,.jd (.func 142) [] []),(5,.gH 4),(10,.pv (ints b)),(11,eU b.length),(12,eU k),(1002,.ptr 0 0),(1004,.ptr 2 0)],fY:=[(0,some (.box [eU c,.pv (ints a)])),(2,some (.box [.any,.any])),(4,some (.mp (mx (oI (q7 (b.take k))))))],nx:=5}) (fun k=>k≤b.length) (fun k=>b.length - k) 0 ?_ ?_ ?_
 ·exact bg _
 ·exact e_ rfl (by(refine aA ?_;refine aA ?_;refine⟨.fb (by first|with_reducible rfl|(rfl)),?_⟩;(iterate 2 refine⟨.d_ (by first|with_reducible rfl|(rfl)),?_⟩);(iterate 2 refine aA ?_);exact trivial)) (by(refine⟨.box _ rfl ?_,?_⟩;refine⟨.d_ (by first|with_reducible rfl|(rfl)),?_⟩;refine⟨.fb (by first|with_reducible rfl|(rfl)),?_⟩;exact trivial;refine⟨.box _ rfl ?_,?_⟩;(iterate 2 refine⟨.any _,?_⟩);exact trivial;refine⟨.Ch rfl (by unfold q7;rfl),?_⟩;exact trivial)) rfl
 rintro k hk
 by_cases ft:k<b.length
 ·have hs:=JQ b[k]
  have hc:=Iq ft
  have hg:=Nv b k b[k]
  (refine rN ?_;refine ay ?_;refine zr ?_;refine Q4 ?_;refine qC ?_;refine a_.z6 rfl rfl rfl ?_;refine a_.iX rfl rfl rfl ?_;refine zm ?_;refine a_.DU (hf:=hs) rfl rfl (.cons rfl (.pv _) .nil) rfl rfl (fun h_=>by cases h_) ?_;refine a_.xP rfl rfl rfl rfl rfl rfl rfl rfl rfl ?_;refine zj ?_;refine a_.yX rfl rfl rfl rfl rfl rfl rfl rfl rfl rfl (by with_reducible assumption) ?_;refine nz ?_;refine a_.nil ?_;refine vP ?_;refine wb ?_)
  exact⟨k+1,by omega,by omega,e_ rfl (by(refine aA ?_;refine aA ?_;refine⟨.fb (by first|with_reducible rfl|(rfl)),?_⟩;(iterate 2 refine⟨.d_ (by first|with_reducible rfl|(rfl)),?_⟩);(iterate 2 refine aA ?_);exact trivial)) (by(refine⟨.box _ rfl ?_,?_⟩;refine⟨.d_ (by first|with_reducible rfl|(rfl)),?_⟩;refine⟨.fb (by first|with_reducible rfl|(rfl)),?_⟩;exact trivial;refine⟨.box _ rfl ?_,?_⟩;(iterate 2 refine⟨.any _,?_⟩);exact trivial;refine⟨.Ch rfl (by rw[hc]),?_⟩;exact trivial)) rfl⟩
 ·rw[gV (l:=b) aG]
  have hp:=K6 b
  (refine og ?_;refine a_.z6 rfl rfl rfl ?_;refine a_.vw rfl rfl rfl ?_;refine qu ?_;refine zg rfl rfl ?_;refine nz ?_;refine pZ ?_;refine qn ?_;refine zd ?_;refine zo ?_)
  refine AW.Wr (δc:={n:=15,env:=[(4,.ptr 2 0)],fY:=[(2,some (.box [eU c,.pv (ints (gg a b))]))],nx:=3}) ?_ ?_
  ·refine AW.tY [2,3,4] [5,7] rfl (by assumption) aF rfl ?_
   show a_ .held _ _ _ [_,_,_] _ _
   (refine zi ?_;refine a_.kX rfl rfl rfl ?_;refine Q3 ?_)
   intro k_ jA
   (try refine nz ?_)
   refine AR.free 0 aF rfl rfl rfl (jx.fieldAddr 105 0 0 rfl rfl rfl) ?_
   (try refine nz ?_)
   refine AR.qM (i:=1) (j:=5) rfl aF rfl rfl aF ?_ ?_<;>intro g_ eV hG
   ·(refine zb ?_;refine Q3 ?_)
    refine AR.nC (i:=5) rfl aF rfl aF ?_
    intro g_ eV fz
    ((with_reducible apply a_.inline (hf:=Tryz.func143));(with_reducible assumption);(iterate 10 exact rfl);intro g_ fu fw;refine nz ?_;refine nQ ?_;refine lM ?_;refine uj ?_)
    refine AW.loop (fun(k:Nat)=>{n:=23,env:=[(1,.jd (.func 144) [] [.ptr 5 0]),(5,.own 6 3 1 ((gg (a.take k) b).map encI)),(8,.pv (ints a)),(9,eU a.length),(10,eU k),(1004,.ptr 2 0),(1009,eU c)],fY:=[(0,some (.box [eU c,.pv (ints a)])),(2,some (.box [.any,.any])),(4,some (.mp (mx (oI (q7 b))))),(5,some (.box [.gH 4])),(6,some .row)],nx:=7}) (fun k=>k≤a.length) (fun k=>a.length - k) 0 ?_ ?_ ?_
    ·exact bg _
    ·exact e_ rfl (by(refine aA ?_;refine⟨.nc (by unfold gg;rfl) rfl rfl,?_⟩;refine⟨.fb (by first|with_reducible rfl|(unfold gg;rfl)),?_⟩;refine⟨.d_ (by first|with_reducible rfl|(unfold gg;rfl)),?_⟩;(iterate 2 refine aA ?_);refine⟨.d_ (by first|with_reducible rfl|(unfold gg;rfl)),?_⟩;exact trivial)) (by(refine⟨.box _ rfl ?_,?_⟩;refine⟨.d_ (by first|with_reducible rfl|(unfold gg;rfl)),?_⟩;refine⟨.fb (by first|with_reducible rfl|(unfold gg;rfl)),?_⟩;exact trivial;refine⟨.box _ rfl ?_,?_⟩;(iterate 2 refine⟨.any _,?_⟩);exact trivial;refine⟨.Ch rfl (by rfl),?_⟩;refine⟨.box _ rfl ?_,?_⟩;refine aA ?_;exact trivial;refine⟨.jv rfl,?_⟩;exact trivial)) rfl
    rintro k hk
    have Nh:=rC a b k
    by_cases ft:k<a.length
    ·have gZ:=ta (b:=b) ft
     have Jv:=hp a[k]
     by_cases hq:nX (q7 b) a[k]=0
     ·rw[if_pos (Jv.1 hq)] at gZ
      (refine rN ?_;refine ay ?_;refine zr ?_;refine zu ?_;refine zm ?_;(with_reducible apply a_.inline (hf:=Tryz.func144));(with_reducible assumption);(iterate 10 exact rfl);intro g_ fu fw;refine Np ?_;refine zc ?_;refine AW.region ?_;refine a_.gk rfl rfl rfl ?_;refine q9 ?_;(with_reducible apply a_.fl);exact rfl;exact ai;(iterate 9 exact rfl);exact ab;refine nz ?_;refine Tt ?_;refine vT ?_)
      exact⟨k+1,by omega,by omega,e_ rfl (by(refine aA ?_;refine⟨.fR (by first|with_reducible rfl|(first|(rw[gZ,cV];rfl)|rfl)) rfl,?_⟩;refine⟨.fb (by first|with_reducible rfl|(first|(rw[gZ,cV];rfl)|rfl)),?_⟩;refine⟨.d_ (by first|with_reducible rfl|(first|(rw[gZ,cV];rfl)|rfl)),?_⟩;refine⟨.d_ (by first|with_reducible rfl|(first|(rw[gZ,cV];rfl)|rfl)),?_⟩;refine aA ?_;refine⟨.d_ (by first|with_reducible rfl|(first|(rw[gZ,cV];rfl)|rfl)),?_⟩;exact trivial)) (by(refine⟨.box _ rfl ?_,?_⟩;refine⟨.d_ (by first|with_reducible rfl|(first|(rw[gZ,cV];rfl)|rfl)),?_⟩;refine⟨.fb (by first|with_reducible rfl|(first|(rw[gZ,cV];rfl)|rfl)),?_⟩;exact trivial;refine⟨.box _ rfl ?_,?_⟩;(iterate 2 refine⟨.any _,?_⟩);exact trivial;refine⟨.Ch rfl (by rfl),?_⟩;refine⟨.box _ rfl ?_,?_⟩;refine aA ?_;exact trivial;refine aC ?_;exact trivial)) rfl⟩
     ·rw[if_neg (fun h=>hq (Jv.2 h)),bp] at gZ
      (refine rN ?_;refine ay ?_;refine zr ?_;refine zu ?_;refine zm ?_;(with_reducible apply a_.inline (hf:=Tryz.func144));(with_reducible assumption);(iterate 10 exact rfl);intro g_ fu fw;refine Np ?_;refine zk ?_;refine AW.skip ?_;refine vP ?_;refine wb ?_)
      exact⟨k+1,by omega,by omega,e_ rfl (by(refine aA ?_;refine⟨.fR (by first|with_reducible rfl|(first|(rw[gZ])|rfl)) rfl,?_⟩;refine⟨.fb (by first|with_reducible rfl|(first|(rw[gZ])|rfl)),?_⟩;refine⟨.d_ (by first|with_reducible rfl|(first|(rw[gZ])|rfl)),?_⟩;refine⟨.d_ (by first|with_reducible rfl|(first|(rw[gZ])|rfl)),?_⟩;refine aA ?_;refine⟨.d_ (by first|with_reducible rfl|(first|(rw[gZ])|rfl)),?_⟩;exact trivial)) (by(refine⟨.box _ rfl ?_,?_⟩;refine⟨.d_ (by first|with_reducible rfl|(first|(rw[gZ])|rfl)),?_⟩;refine⟨.fb (by first|with_reducible rfl|(first|(rw[gZ])|rfl)),?_⟩;exact trivial;refine⟨.box _ rfl ?_,?_⟩;(iterate 2 refine⟨.any _,?_⟩);exact trivial;refine⟨.Ch rfl (by rfl),?_⟩;refine⟨.box _ rfl ?_,?_⟩;refine aA ?_;exact trivial;refine aC ?_;exact trivial)) rfl⟩
    ·rw[gV (l:=a) aG]
     (refine KQ ?_;refine nz ?_;refine Q3 ?_)
     refine AR.mG (i:=6) rfl aF rfl ?_
     intro g_ eV hG
     (refine a_.iW 105 [0,1] rfl rfl rfl rfl rfl rfl rfl rfl rfl ?_;refine nz ?_;refine Q3 ?_)
     refine AR.nC (i:=7) rfl aF rfl aF ?_
     intro g_ eV fz
     (refine lN ?_;refine Q3 ?_)
     refine AR.done (by assumption) aF ?_
     show lD _ _ _
     exact Ue
   ·((with_reducible apply a_.inline (hf:=Tryz.func143));(with_reducible assumption);(iterate 10 exact rfl);intro g_ fu fw;refine nz ?_;refine nQ ?_;refine lM ?_;refine uj ?_)
    refine AW.loop (fun(k:Nat)=>{n:=23,env:=[(1,.jd (.func 144) [] [.ptr 5 0]),(5,.own 6 3 1 ((gg (a.take k) b).map encI)),(8,.pv (ints a)),(9,eU a.length),(10,eU k),(1004,.ptr 2 0),(1008,.ptr 0 0)],fY:=[(0,some (.box [eU c,.pv (ints a)])),(2,some (.box [.any,.any])),(4,some (.mp (mx (oI (q7 b))))),(5,some (.box [.gH 4])),(6,some .row)],nx:=7}) (fun k=>k≤a.length) (fun k=>a.length - k) 0 ?_ ?_ ?_
    ·exact bg _
    ·exact e_ rfl (by(refine aA ?_;refine⟨.nc (by unfold gg;rfl) rfl rfl,?_⟩;refine⟨.fb (by first|with_reducible rfl|(unfold gg;rfl)),?_⟩;refine⟨.d_ (by first|with_reducible rfl|(unfold gg;rfl)),?_⟩;(iterate 3 refine aA ?_);exact trivial)) (by(refine⟨.box _ rfl ?_,?_⟩;refine⟨.d_ (by first|with_reducible rfl|(unfold gg;rfl)),?_⟩;refine⟨.fb (by first|with_reducible rfl|(unfold gg;rfl)),?_⟩;exact trivial;refine⟨.box _ rfl ?_,?_⟩;(iterate 2 refine⟨.any _,?_⟩);exact trivial;refine⟨.Ch rfl (by rfl),?_⟩;refine⟨.box _ rfl ?_,?_⟩;refine aA ?_;exact trivial;refine⟨.jv rfl,?_⟩;exact trivial)) rfl
    rintro k hk
    have Nh:=rC a b k
    by_cases ft:k<a.length
    ·have gZ:=ta (b:=b) ft
     have Jv:=hp a[k]
     by_cases hq:nX (q7 b) a[k]=0
     ·rw[if_pos (Jv.1 hq)] at gZ
      (refine rN ?_;refine ay ?_;refine zr ?_;refine zu ?_;refine zm ?_;(with_reducible apply a_.inline (hf:=Tryz.func144));(with_reducible assumption);(iterate 10 exact rfl);intro g_ fu fw;refine Np ?_;refine zc ?_;refine AW.region ?_;refine a_.gk rfl rfl rfl ?_;refine q9 ?_;(with_reducible apply a_.fl);exact rfl;exact ai;(iterate 9 exact rfl);exact ab;refine nz ?_;refine Tt ?_;refine vT ?_)
      exact⟨k+1,by omega,by omega,e_ rfl (by(refine aA ?_;refine⟨.fR (by first|with_reducible rfl|(first|(rw[gZ,cV];rfl)|rfl)) rfl,?_⟩;refine⟨.fb (by first|with_reducible rfl|(first|(rw[gZ,cV];rfl)|rfl)),?_⟩;refine⟨.d_ (by first|with_reducible rfl|(first|(rw[gZ,cV];rfl)|rfl)),?_⟩;refine⟨.d_ (by first|with_reducible rfl|(first|(rw[gZ,cV];rfl)|rfl)),?_⟩;(iterate 2 refine aA ?_);exact trivial)) (by(refine⟨.box _ rfl ?_,?_⟩;refine⟨.d_ (by first|with_reducible rfl|(first|(rw[gZ,cV];rfl)|rfl)),?_⟩;refine⟨.fb (by first|with_reducible rfl|(first|(rw[gZ,cV];rfl)|rfl)),?_⟩;exact trivial;refine⟨.box _ rfl ?_,?_⟩;(iterate 2 refine⟨.any _,?_⟩);exact trivial;refine⟨.Ch rfl (by rfl),?_⟩;refine⟨.box _ rfl ?_,?_⟩;refine aA ?_;exact trivial;refine aC ?_;exact trivial)) rfl⟩
     ·rw[if_neg (fun h=>hq (Jv.2 h)),bp] at gZ
      (refine rN ?_;refine ay ?_;refine zr ?_;refine zu ?_;refine zm ?_;(with_reducible apply a_.inline (hf:=Tryz.func144));(with_reducible assumption);(iterate 10 exact rfl);intro g_ fu fw;refine Np ?_;refine zk ?_;refine AW.skip ?_;refine vP ?_;refine wb ?_)
      exact⟨k+1,by omega,by omega,e_ rfl (by(refine aA ?_;refine⟨.fR (by first|with_reducible rfl|(first|(rw[gZ])|rfl)) rfl,?_⟩;refine⟨.fb (by first|with_reducible rfl|(first|(rw[gZ])|rfl)),?_⟩;refine⟨.d_ (by first|with_reducible rfl|(first|(rw[gZ])|rfl)),?_⟩;refine⟨.d_ (by first|with_reducible rfl|(first|(rw[gZ])|rfl)),?_⟩;(iterate 2 refine aA ?_);exact trivial)) (by(refine⟨.box _ rfl ?_,?_⟩;refine⟨.d_ (by first|with_reducible rfl|(first|(rw[gZ])|rfl)),?_⟩;refine⟨.fb (by first|with_reducible rfl|(first|(rw[gZ])|rfl)),?_⟩;exact trivial;refine⟨.box _ rfl ?_,?_⟩;(iterate 2 refine⟨.any _,?_⟩);exact trivial;refine⟨.Ch rfl (by rfl),?_⟩;refine⟨.box _ rfl ?_,?_⟩;refine aA ?_;exact trivial;refine aC ?_;exact trivial)) rfl⟩
    ·rw[gV (l:=a) aG]
     (refine KQ ?_;refine nz ?_;refine Q3 ?_)
     refine AR.mG (i:=1) rfl aF rfl ?_
     intro g_ eV hG
     (refine zb ?_;refine Q3 ?_)
     refine AR.mG (i:=6) rfl aF rfl ?_
     intro g_ eV hG
     (refine a_.iW 105 [0,1] rfl rfl rfl rfl rfl rfl rfl rfl rfl ?_;refine nz ?_;refine Q3 ?_)
     refine AR.nC (i:=7) rfl aF rfl aF ?_
     intro g_ eV fz
     (refine lN ?_;refine Q3 ?_)
     refine AR.done (by assumption) aF ?_
     show lD _ _ _
     exact Ue
  ·(refine AW.ret ?_)
   (apply c_;(exact fZ.one (.cell rfl rfl rfl rfl));(refine Le.ia ?_;refine gX.cons ?_ ?_;(with_reducible exact Le.pv _);refine gX.cons ?_ ?_;(with_reducible exact Le.pv _);exact gX.nil))
def nW (a b:List Int):Bool:=a.all fun t=>decide (t∈b)
theorem IB (a b:List Int):decide (((gg a b).length:Int)=0)=nW a b:=by
 unfold gg nW
 rw[Bool.eq_iff_iff,decide_eq_true_eq,bB]
 constructor
 ·intro h x hx
  have h1:a.filter (fun t=>decide (t∉b))=[]:=bf (by omega)
  have:=eS.1 h1 x hx
  simpa using this
 ·intro h
  have:a.filter (fun t=>decide (t∉b))=[]:=eS.2 fun x hx=>by simpa using h x hx
  rw[this];rfl
theorem Uk (c:Int) (a:List Int) (d:Int) (b:List Int) (ha:a.length≤1000000) (hb:b.length≤1000000):Fn Tryz.prog 64 [mA (c,a),mA (d,b)] (fe (nW a b)):=by
 have hd:=NN c a d b ha hb
 have hs:=IB a b
 refine Fn.enter (n:=11) Tryz.func64 rfl rfl rfl rfl rfl (by decide) fun g fu fw=>?_;(try refine nz ?_)
 (refine wh ?_;refine nv ?_;(iterate 2 refine j4 ?_);refine a_.F1 (hd) (.cons rfl (.ia (.cons (.pv _) (.cons (.pv _) .nil))) (.cons rfl (.ia (.cons (.pv _) (.cons (.pv _) .nil))) .nil)) rfl ?_;refine a_.Gn 105 1 1 rfl rfl rfl rfl rfl ?_;refine P6 ?_;refine j7 ?_)
 (apply c_;(exact fZ.one (.tmp rfl rfl));(refine Le.fe ?_;(exact hs)))
end Go.Ab
/- Chapter 05:all tuples over columns of given sorts,walked:a function that yields,ranged over within itself. -/
namespace Go.Ab
open Go Go.Proofs
set_option maxRecDepth 20000
set_option maxHeartbeats 8000000
def rR (a:Int) (k:Nat):List Int:=(a7 k).map fun(i:Nat)=>a+i
theorem Aq (a:Int) (k:Nat):rR a (k+1)=rR a k++ [a+k]:=by simp [rR,dP]
theorem MM (a:Int) (k:Nat):(rR a k).length=k:=by simp [rR]
attribute [local irreducible] AW a_ fT ff AR fh e6 fp fA rR
theorem JO (at':List Int) (st:Int) (ss:List Int) (hl:ss.length=1) (x:Nat) (hx:ss[0]'(by omega)=(x:Int)) (hs:x<at'.length) (h:sr at'):Fn Tryz.prog 65 [pI at' st,.pv (ints ss)] (mA (1,rR (at'.take x).sum at'[x].toNat)):=by
 have hle:=h.1
 have hb:=h.take x
 have GM:=h.take at'.length
 rw[dF] at GM
 have VM:=h.2 _ (cT hs)
 have Kq:=jg ss.length 1 3
 rw[decide_eq_true aG] at Kq
 have H6:=jg (ss[0]'(by omega)) 0 (at'.length - 1)
 rw[decide_eq_true aG] at H6
 have G4:=o9 at' st x h (by omega)
 have QP:=qS at' st h
 have TC:(ss.drop 1).length=0:=by simp;omega
 have Lw:(ss[eo 0]'(by show 0<_;omega))=(x:Int):=hx
 rw[← Lw] at G4
 have hz:at'[(ss[eo 0]'(by show 0<_;omega)).toNat]'(by rw[Lw];omega)=at'[x]:=by simp only[Lw];rfl
 generalize at'[x]=z at hz VM ⊢
 generalize hf:(at'.take x).sum=f at hb G4 ⊢
 generalize hn:at'.sum=n at GM QP
 refine Fn.enter (n:=43) Tryz.func65 rfl rfl rfl rfl rfl (by decide) fun g fu fw=>?_;(try refine nz ?_)
 (refine lV ?_;refine pZ ?_;refine zd ?_;refine rH ?_;refine zn ?_;refine a_.call (Kq) (.cons rfl (.pv _) (.cons rfl (.pv _) (.cons rfl (.pv _) .nil))) rfl rfl (fun h_=>by cases h_) ?_;refine vj ?_;refine rX ?_;refine zm ?_;refine uj ?_)
 refine AW.loop (fun(k:Nat)=>{n:=43,env:=[(1,.pv (ints ss)),(2,.ptr 0 0),(4,.ptr 1 0),(14,.pv (ints ss)),(15,eU ss.length),(16,eU k)],fY:=[(0,some (.box [.pv (ints at'),eU st])),(1,some (.box [.any,.any]))],nx:=2}) (fun k=>k≤1) (fun k=>1 - k) 0 ?_ ?_ ?_
 ·exact bg _
 ·exact e_ rfl (by(refine aA ?_;(iterate 5 refine aA ?_);exact trivial)) (by(refine⟨.box _ rfl ?_,?_⟩;(iterate 2 refine aA ?_);exact trivial;refine⟨.box _ rfl ?_,?_⟩;(iterate 2 refine⟨.any _,?_⟩);(iterate 2 exact trivial))) rfl
 rintro k hk
 by_cases nh:k<1
 ·obtain rfl:k=0:=by omega
  (refine rN ?_;refine ay ?_;refine IG ?_;refine a_.call (H6) (.cons rfl (.pv _) (.cons rfl (.pv _) (.cons rfl (.pv _) .nil))) rfl rfl (fun h_=>by cases h_) ?_;refine v7 ?_)
  exact⟨1,by omega,by omega,e_ rfl (by(refine aA ?_;(iterate 5 refine aA ?_);exact trivial)) (by(refine⟨.box _ rfl ?_,?_⟩;(iterate 2 refine aA ?_);exact trivial;refine⟨.box _ rfl ?_,?_⟩;(iterate 2 refine⟨.any _,?_⟩);(iterate 2 exact trivial))) rfl⟩
 obtain rfl:k=1:=by omega
 (refine og ?_;refine zm ?_;refine zn ?_;refine Ip ?_;refine nG ?_;(with_reducible apply a_.inline (hf:=Tryz.func108));(with_reducible assumption);(iterate 10 exact rfl);intro g_ fu fw;refine xD ?_;refine rW ?_)
 refine AW.hZ (ps:=[35]) (by assumption) (by assumption) rfl rfl Tryz.func145 rfl rfl rfl rfl rfl rfl (by decide) ?_
 intro gB tm0 l0 ps0 asg0 body0 jW Hs sR jY IX uA
 (refine BL ?_;refine B1 ?_;refine zo ?_;refine FO ?_;refine j4 ?_;refine zb ?_;(focus ((with_reducible apply a_.e8);(iterate 7 exact rfl);omega;rotate_left;(first|omega|exact db|exact(by simp))));refine zr ?_;refine a_.call (G4) (.cons rfl (.ia (.cons (.pv _) (.cons (.pv _) .nil))) (.cons rfl (.pv _) .nil)) rfl rfl (fun h_=>by cases h_) ?_;refine tr ?_;refine sO ?_)
 refine AW.loop (fun(i:Nat)=>{n:=48,env:=[(1,.ptr 5 0),(2,.ptr 4 0),(3,.ptr 3 0),(4,.ptr 7 0),(5,eU f),(6,eU (f+i)),(1004,.ptr 1 0),(1007,.ptr 2 0)],fY:=[(1,some (.box [.any,.any])),(2,some (.box [eU ss.length,.own 8 3 1 ((rR f i).map encI)])),(3,some (.box [.pv (ints at'),eU st])),(4,some (.box [eU 0])),(5,some (.box [.pv (ints ss)])),(6,some (.loop l0 tm0 ps0 asg0 body0 .ready)),(7,some (.box [.kS 6])),(8,some .row)],nx:=9})
  (fun i=>i≤z.toNat) (fun i=>z.toNat - i) 0 ?_ ?_ ?_
 ·exact bg _
 ·exact e_ rfl (by(refine aA ?_;(iterate 3 refine aA ?_);(iterate 2 refine⟨.d_ (by first|with_reducible rfl|(simp [rR])),?_⟩);(iterate 2 refine aA ?_);exact trivial)) (by(refine⟨.box _ rfl ?_,?_⟩;(iterate 2 refine⟨.any _,?_⟩);exact trivial;refine⟨.box _ rfl ?_,?_⟩;refine⟨.d_ (by first|with_reducible rfl|(simp [rR])),?_⟩;refine⟨.nc (by simp [rR]) rfl rfl,?_⟩;exact trivial;refine⟨.box _ rfl ?_,?_⟩;refine⟨.fb (by first|with_reducible rfl|(simp [rR])),?_⟩;refine⟨.d_ (by first|with_reducible rfl|(simp [rR])),?_⟩;exact trivial;refine⟨.box _ rfl ?_,?_⟩;refine⟨.d_ (by first|with_reducible rfl|(simp [rR])),?_⟩;exact trivial;refine⟨.box _ rfl ?_,?_⟩;refine⟨.fb (by first|with_reducible rfl|(simp [rR])),?_⟩;exact trivial;refine⟨.loop rfl,?_⟩;refine⟨.box _ rfl ?_,?_⟩;refine aA ?_;exact trivial;refine⟨.jv rfl,?_⟩;exact trivial)) rfl
 rintro i hi
 by_cases ft:i<z.toNat
 ·have hrl:=MM f i
  have oh:=Aq f i
  repeat (refine zo ?_)
  ((with_reducible apply AW.fG);exact rfl;exact rfl;kernel_rfl;(with_reducible assumption))
  ((iterate 2 refine zm ?_);refine YV ?_;(focus ((with_reducible apply a_.e8);(iterate 7 exact rfl);omega;rotate_left;(first|omega|exact db|exact(by simp))));refine zr ?_;(focus ((with_reducible apply a_.e8);(iterate 7 exact rfl);omega;rotate_left;(first|omega|exact db|exact(by simp))));refine vQ ?_;refine Q1 ?_;refine zo ?_)
  refine AW.tY [0,1,2,5,7,8] [9] rfl (by assumption) aF rfl ?_
  show a_ .held _ _ _ [_,_,_,_,_,_] _ _
  (refine Iz ?_)
  intro k_ jA
  (try refine nz ?_)
  refine AR.mG (i:=3) rfl aF rfl ?_
  intro g_ eV hG
  (refine a_.call (QP) (.cons rfl (.ia (.cons (.pv _) (.cons (.pv _) .nil))) .nil) rfl rfl (fun h_=>by cases h_) ?_;refine Q3 ?_)
  refine AR.mG (i:=4) rfl aF rfl ?_
  intro g_ eV hG
  (refine a_.mul rfl rfl rfl rfl rfl aG ?_;refine Q3 ?_)
  refine AR.mG (i:=6) rfl aF rfl ?_
  intro g_ eV hG
  (refine zj ?_;refine Q3 ?_)
  refine AR.nC (i:=9) rfl aF rfl aF ?_
  intro g_ eV fz
  ((with_reducible apply a_.inline (hf:=Tryz.func108));(with_reducible assumption);(iterate 10 exact rfl);intro g_ fu fw;refine xD ?_;refine Q3 ?_)
  refine AR.done (by assumption) aF ?_
  (refine gr ?_;refine AW.block ?_)
  refine AW.hZ (ps:=[43]) (by assumption) (by assumption) rfl rfl Tryz.func145 rfl rfl rfl rfl rfl rfl (by decide) ?_
  intro gC tm1 l1 ps1 asg1 body1 pY RD FD pW IL E9
  have tl:tm1.size=48:=E9
  have lT:tm0.size=43:=uA
  (refine BL ?_;refine zd ?_;(focus ((with_reducible apply AW.G0);exact rfl;exact rfl;all_goals intro qp));refine Q5 ?_;(iterate 2 refine zb ?_);(with_reducible apply a_.jL pY FD pW tl);(iterate 8 exact rfl);intro gR n8 q8 pf;refine vU ?_;refine And.intro (show jw _ _ _ _ from⟨_,_,_,_,rfl⟩) ?_;refine H_ ?_;(with_reducible apply a_.Bz jW q8 (fun j hj=>(congrArg gR.held (show j+HS+2*HS=j+HS+HS+HS by omega)).trans ((pf (j+HS)).trans ((IL j).trans (jY j hj)))) lT);(iterate 8 exact rfl);intro gS P4 Pc L8;refine vU ?_;refine And.intro (show jw _ _ _ _ from⟨_,_,_,_,rfl⟩) ?_;refine Bo ?_;refine AW.region ?_;refine zi ?_;refine q9 ?_;(with_reducible apply a_.fl);exact rfl;exact ai;(iterate 9 exact rfl);exact ab;refine nz ?_;refine O_ ?_;refine gL ?_;(with_reducible apply fX);exact⟨_,_,_,_,rfl⟩;refine HR ?_;(with_reducible apply fX);exact⟨_,_,_,_,rfl⟩;refine nz ?_;refine qu ?_;refine iU ?_;(all_goals skip);rotate_left;refine AW.skip ?_;refine gr ?_;refine zo ?_;(all_goals skip);rotate_left)
  all_goals first|exact absurd (show((ep (eo 1) ss).length:Int)=0 by rw[show eo 1=1 from rfl,TC];rfl) qp|skip
  ·first|refine ic (.inl rfl) rfl ?_|refine ic (.inr rfl) rfl ?_
   (try refine nz ?_)
   (refine gL ?_;refine vP ?_;refine rS ?_)
   exact⟨i+1,by omega,by omega,e_ rfl (by(refine aA ?_;(iterate 3 refine aA ?_);refine⟨.d_ (by first|rfl|(push_cast;omega)|(simp only[oh,cV,bz,bY,eT,eC];rfl)|simp_all),?_⟩;refine⟨.d_ (by first|rfl|(push_cast;omega)|(simp only[oh,cV,bz,bY,eT,eC];rfl)|simp_all),?_⟩;(iterate 2 refine aA ?_);exact trivial)) (by(refine⟨.box _ rfl ?_,?_⟩;(iterate 2 refine⟨.any _,?_⟩);exact trivial;refine⟨.box _ rfl ?_,?_⟩;refine⟨.d_ (by first|rfl|(push_cast;omega)|(simp only[oh,cV,bz,bY,eT,eC];rfl)|simp_all),?_⟩;refine⟨.fR (by first|rfl|(push_cast;omega)|(simp only[oh,cV,bz,bY,eT,eC];rfl)|simp_all) rfl,?_⟩;exact trivial;refine⟨.box _ rfl ?_,?_⟩;refine⟨.fb (by first|rfl|(push_cast;omega)|(simp only[oh,cV,bz,bY,eT,eC];rfl)|simp_all),?_⟩;refine⟨.d_ (by first|rfl|(push_cast;omega)|(simp only[oh,cV,bz,bY,eT,eC];rfl)|simp_all),?_⟩;exact trivial;refine⟨.box _ rfl ?_,?_⟩;refine⟨.d_ (by first|rfl|(push_cast;omega)|(simp only[oh,cV,bz,bY,eT,eC];rfl)|simp_all),?_⟩;exact trivial;refine⟨.box _ rfl ?_,?_⟩;refine⟨.fb (by first|rfl|(push_cast;omega)|(simp only[oh,cV,bz,bY,eT,eC];rfl)|simp_all),?_⟩;exact trivial;refine⟨.loop rfl,?_⟩;refine⟨.box _ rfl ?_,?_⟩;refine aA ?_;exact trivial;refine aC ?_;exact trivial)) rfl⟩
 ·obtain rfl:i=z.toNat:=by omega
  repeat (refine zo ?_)
  ((with_reducible apply AW.fG);exact rfl;exact rfl;kernel_rfl;(with_reducible assumption))
  ((iterate 2 refine zm ?_);refine YV ?_;(focus ((with_reducible apply a_.e8);(iterate 7 exact rfl);omega;rotate_left;(first|omega|exact db|exact(by simp))));refine zr ?_;(focus ((with_reducible apply a_.e8);(iterate 7 exact rfl);omega;rotate_left;(first|omega|exact db|exact(by simp))));refine vQ ?_;refine Q7 ?_)
  first|refine ic (.inl rfl) rfl ?_|refine ic (.inr rfl) rfl ?_
  (try refine nz ?_)
  (refine H3 ?_;refine Ib ?_)
  (apply c_;(exact fZ.one (.cell rfl rfl rfl rfl));(refine Le.ia ?_;refine gX.cons ?_ ?_;refine Le.eU ?_;(first|rfl|(rw[hl];rfl)|simp [hl]);refine gX.cons ?_ ?_;exact Le.own _ _ _ _ rfl;exact gX.nil))
end Go.Ab
/- Chapter 05:all tuples over two columns,walked:iterators in iterators. -/
namespace Go.Ab
open Go Go.Proofs
open Nat (reduceAdd reduceSub)
set_option maxRecDepth 20000
set_option maxHeartbeats 8000000
def sS (n:Int):Int→List (Int×Nat)→List Int
 |p,[]=>[p]
 |p,(f,z)::l=>(a7 z).flatMap fun i=>sS n (p*n+(f+(i:Nat))) l
def kE (n:Int) (p:Int) (f:Int) (i:Nat) (l:List (Int×Nat)):List Int:=(a7 i).flatMap fun i=>sS n (p*n+(f+(i:Nat))) l
theorem gf (n p f:Int) (z:Nat) (l:List (Int×Nat)):sS n p ((f,z)::l)=kE n p f z l:=rfl
theorem me (n p f:Int) (i:Nat) (l:List (Int×Nat)):kE n p f (i+1) l=kE n p f i l++sS n (p*n+(f+i)) l:=by
 simp [kE,dP]
theorem fg (n p f:Int) (l:List (Int×Nat)):kE n p f 0 l=[]:=rfl
theorem f_ (n p:Int):sS n p []=[p]:=rfl
def rQ (l:List (Int×Nat)):Nat:=(l.map (·.2)).foldr (·*·) 1
theorem GN (n:Int):∀(l:List (Int×Nat)) (p:Int),(sS n p l).length=rQ l
 |[],_=>rfl
 |(f,z)::l,p=>by
  show((a7 z).flatMap fun i=>sS n (p*n+(f+(i:Nat))) l).length=z*rQ l
  rw[List.length_flatMap]
  have:((a7 z).map fun i=>(sS n (p*n+(f+(i:Nat))) l).length)=(a7 z).map fun _=>rQ l:=by
   apply List.map_congr_left
   intro i _
   exact GN n l _
  rw[this,List.map_const',List.length_range,List.sum_replicate_nat]
theorem ph (n p f:Int) (i:Nat) (l:List (Int×Nat)):(kE n p f i l).length=i*rQ l:=GN n ((f,i)::l) p
attribute [local irreducible] AW a_ fT ff AR fh e6 fp fA sS kE
theorem Mw (at':List Int) (st:Int) (ss:List Int) (hl:ss.length=2) (x y:Nat) (hx:ss[0]'(by omega)=(x:Int)) (hy:ss[1]'(by omega)=(y:Int)) (hs:x<at'.length) (jj:y<at'.length) (h:sr at') (yB:at'.sum≤1000):
  Fn Tryz.prog 65 [pI at' st,.pv (ints ss)] (mA (2,sS at'.sum 0 [((at'.take x).sum,at'[x].toNat),((at'.take y).sum,at'[y].toNat)])):=by
 have hle:=h.1
 have hb:=h.take x
 have Hl:=h.take y
 have GM:=h.take at'.length
 rw[dF] at GM
 have VM:=h.2 _ (cT hs)
 have RO:=h.2 _ (cT jj)
 have Kq:=jg ss.length 1 3
 rw[decide_eq_true aG] at Kq
 have H6:=jg (ss[0]'(by omega)) 0 (at'.length - 1)
 rw[decide_eq_true aG] at H6
 have V5:=jg (ss[1]'(by omega)) 0 (at'.length - 1)
 rw[decide_eq_true aG] at V5
 have G4:=o9 at' st x h (by omega)
 have EG:=o9 at' st y h (by omega)
 have QP:=qS at' st h
 have Lw:(ss[eo 0]'(by show 0<_;omega))=(x:Int):=hx
 obtain⟨ss1,Cg⟩:∃ss1,ss1=ep (eo 1) ss:=⟨_,rfl⟩
 have MP:ss1.length=1:=by rw[Cg];simp;omega
 have Td:(ss1[eo 0]'(by show 0<_;omega))=(y:Int):=by
  rw[← hy]
  simp only[Cg]
  rw[List.getElem_drop];rfl
 have Ls:ep (eo 1) ss1=[]:=dI (by show _≤1;omega)
 have yW:(([]:List Int).length:Int)=0:=rfl
 rw[← Lw] at G4
 rw[← Td] at EG
 have hz:at'[(ss[eo 0]'(by show 0<_;omega)).toNat]'(by rw[Lw];omega)=at'[x]:=by simp only[Lw];rfl
 have Za:at'[(ss1[eo 0]'(by show 0<_;omega)).toNat]'(by rw[Td];omega)=at'[y]:=by simp only[Td];rfl
 generalize at'[x]=z at hz VM ⊢
 generalize at'[y]=z2 at Za RO ⊢
 generalize hf:(at'.take x).sum=f at hb G4 ⊢
 generalize yY:(at'.take y).sum=f2 at Hl EG ⊢
 generalize hn:at'.sum=n at GM QP yB ⊢
 refine Fn.enter (n:=43) Tryz.func65 rfl rfl rfl rfl rfl (by decide) fun g fu fw=>?_;(try refine nz ?_)
 (refine lV ?_;refine pZ ?_;refine zd ?_;refine rH ?_;refine zn ?_;refine zA (Kq) ?_;refine vj ?_;refine rX ?_;refine zm ?_;refine uj ?_)
 (refine nz ?_;apply AW.fO [15,14,4,2,1] [1,0] (fun k:Nat=>([(16,eU k)]:List (Nat×AV))) (fun k:Nat=>([]:List (Nat×Option Ob))) (fun k:Nat=>k≤2) (fun k:Nat=>2 - k) (0);(conv=>lhs;simp only[Nf.jI,Nf.all,c6,reduceAdd,reduceSub]);(all_goals skip))
 ·exact bg _
 ·exact UN
 rintro k hk
 by_cases yx:k<2
 ·by_cases nh:k=0
  ·subst nh
   (refine rN ?_;refine ay ?_;refine IG ?_;refine zA (H6) ?_;refine v7 ?_)
   exact Vd
  ·obtain rfl:k=1:=by omega
   (refine rN ?_;refine ay ?_;refine IG ?_;refine zA (V5) ?_;refine v7 ?_)
   exact TY
 obtain rfl:k=2:=by omega
 (refine og ?_;refine zm ?_;refine zn ?_;refine Ip ?_;refine nG ?_;(with_reducible apply a_.inline (hf:=Tryz.func108));(with_reducible assumption);(iterate 10 exact rfl);intro g_ fu fw;refine xD ?_;refine rW ?_)
 refine AW.hZ (ps:=[35]) (by assumption) (by assumption) rfl rfl Tryz.func145 rfl rfl rfl rfl rfl rfl (by decide) ?_
 intro gB tm0 l0 ps0 asg0 body0 jW Hs sR jY IX uA
 (refine BL ?_;refine B1 ?_;refine zo ?_;(with_reducible apply AW.fG);exact rfl;exact rfl;kernel_rfl;(with_reducible assumption);refine j4 ?_;refine zb ?_;(focus ((with_reducible apply a_.e8);(iterate 7 exact rfl);omega;rotate_left;(first|omega|exact db|exact(by simp))));refine zr ?_;refine zA (G4) ?_;refine tr ?_;refine sO ?_)
 (refine nz ?_;apply AW.fO [5,4,1,2,3,1007,1004] [7,6,5,4,3,1,0] (fun i:Nat=>([(6,eU (f+i))]:List (Nat×AV))) (fun i:Nat=>([(2,some (.box [eU ss.length,.own 8 3 1 ((kE n 0 f i [(f2,z2.toNat)]).map encI)])),(8,some .row)]:List (Nat×Option Ob))) (fun i:Nat=>i≤z.toNat) (fun i:Nat=>z.toNat - i) (0);(conv=>lhs;simp only[Nf.jI,Nf.all,c6,reduceAdd,reduceSub]);(all_goals skip))
 ·exact bg _
 ·exact Q42
 rintro i hi
 by_cases ft:i<z.toNat
 ·have hp2:0≤(0*n+(f+(i:Int)))*n∧(0*n+(f+(i:Int)))*n≤10000000000:=by
   have e:0*n+(f+(i:Int))=f+i:=by omega
   rw[e]
   exact⟨dv aG aG,by
    have h1:=Int.mul_le_mul (by omega:f+(i:Int)≤1001000) (by omega:n≤1000) aG aG;omega⟩
  have oh:=me n 0 f i [(f2,z2.toNat)]
  have hrl:(kE n 0 f i [(f2,z2.toNat)]).length≤1000000:=by
   rw[ph]
   have h1:i*rQ [(f2,z2.toNat)]=i*z2.toNat:=by simp [rQ]
   rw[h1]
   exact aN (Nat.mul_le_mul (by omega:i≤1000) (by omega:z2.toNat≤1000)) (by omega)
  ((iterate 2 refine zo ?_);(with_reducible apply AW.fG);exact rfl;exact rfl;kernel_rfl;(with_reducible assumption);refine zh ?_;(focus ((with_reducible apply a_.e8);(iterate 7 exact rfl);omega;rotate_left;(first|omega|exact db|exact(by simp))));refine zr ?_;(focus ((with_reducible apply a_.e8);(iterate 7 exact rfl);omega;rotate_left;(first|omega|exact db|exact(by simp))));refine vQ ?_;refine MU ?_;show a_ .held _ _ _ [_,_,_,_,_,_] _ _;refine Iz ?_;intro k_ jA;refine Ck ?_;intro g_ eV hG;refine KS ?_;intro g_ eV;show a_ .held _ _ _ [_,_] _ _;refine Im ?_;refine Q3 ?_;intro k_ jA;refine nz ?_;refine EC ?_;intro g_ eV fz;(with_reducible apply a_.inline (hf:=Tryz.func108));(with_reducible assumption);(iterate 10 exact rfl);intro g_ fu fw;refine xD ?_;refine sZ ?_;refine AW.block ?_)
  rw[← Cg]
  refine AW.hZ (ps:=[43]) (by assumption) (by assumption) rfl rfl Tryz.func145 rfl rfl rfl rfl rfl rfl (by decide) ?_
  intro gC tm1 l1 ps1 asg1 body1 pY RD FD pW IL E9
  (refine BL ?_;refine B1 ?_;refine zo ?_;(with_reducible apply AW.fG);exact rfl;exact rfl;kernel_rfl;(with_reducible assumption);refine j4 ?_;refine zb ?_;(focus ((with_reducible apply a_.e8);(iterate 7 exact rfl);omega;rotate_left;(first|omega|exact db|exact(by simp))));refine zr ?_;refine zA (EG) ?_;refine tr ?_;refine sO ?_)
  (refine nz ?_;apply AW.fO [5,4,1,2,3,1006,1005,1004,1001,1002,1003,2007,2004] [13,12,11,10,9,8,7,6,5,4,3,1,0] (fun j:Nat=>([(6,eU (f2+j))]:List (Nat×AV))) (fun j:Nat=>([(2,some (.box [eU ss.length,.own 8 3 1 ((kE n 0 f i [(f2,z2.toNat)]++kE n (0*n+(f+(i:Int))) f2 j []).map encI)]))]:List (Nat×Option Ob))) (fun j:Nat=>j≤z2.toNat) (fun j:Nat=>z2.toNat - j) (0);(conv=>lhs;simp only[Nf.jI,Nf.all,c6,reduceAdd,reduceSub]);(all_goals skip))
  ·exact bg _
  ·exact Q29
  rintro j hj
  by_cases gM:j<z2.toNat
  ·have ka:=me n (0*n+(f+(i:Int))) f2 j []
   have X6:(kE n (0*n+(f+(i:Int))) f2 j []).length≤1000:=by rw[ph];simp [rQ];omega
   have hpj:0≤(0*n+(f+(i:Int)))*n+(f2+(j:Int))∧(0*n+(f+(i:Int)))*n+(f2+(j:Int))≤20000000000:=by omega
   ((iterate 2 refine zo ?_);(with_reducible apply AW.fG);exact rfl;exact rfl;kernel_rfl;(with_reducible assumption);refine zh ?_;(focus ((with_reducible apply a_.e8);(iterate 7 exact rfl);omega;rotate_left;(first|omega|exact db|exact(by simp))));refine zr ?_;(focus ((with_reducible apply a_.e8);(iterate 7 exact rfl);omega;rotate_left;(first|omega|exact db|exact(by simp))));refine vQ ?_;refine MU ?_;show a_ .held _ _ _ [_,_,_,_,_,_] _ _;refine Iz ?_;intro k_ jA;refine Ck ?_;intro g_ eV hG;refine KS ?_;intro g_ eV;show a_ .held _ _ _ [_,_] _ _;refine Im ?_;refine Q3 ?_;intro k_ jA;refine nz ?_;refine EC ?_;intro g_ eV fz;(with_reducible apply a_.inline (hf:=Tryz.func108));(with_reducible assumption);(iterate 10 exact rfl);intro g_ fu fw;refine xD ?_;refine sZ ?_;refine AW.block ?_)
   rw[Ls]
   refine AW.hZ (ps:=[43]) (by assumption) (by assumption) rfl rfl Tryz.func145 rfl rfl rfl rfl rfl rfl (by decide) ?_
   intro gD tm2 l2 ps2 asg2 body2 FL Yy Uu E_ Mn R4
   have MC:tm2.size=48:=R4
   have tl:tm1.size=48:=E9
   have lT:tm0.size=43:=uA
   (refine BL ?_;refine tn ?_;(iterate 2 refine zb ?_);(with_reducible apply a_.jL FL Uu E_ MC);(iterate 8 exact rfl);intro gR n8 q8 pf;refine vU ?_;refine And.intro (show jw _ _ _ _ from⟨_,_,_,_,rfl⟩) ?_;refine H_ ?_;(with_reducible apply a_.Bz pY q8 (fun j hj=>(congrArg gR.held (show j+HS+2*HS=j+HS+HS+HS by omega)).trans ((pf (j+HS)).trans ((Mn j).trans (pW j hj)))) tl);(iterate 8 exact rfl);intro gS P4 Pc L8;refine vU ?_;refine And.intro (show jw _ _ _ _ from⟨_,_,_,_,rfl⟩) ?_;refine H_ ?_;(with_reducible apply a_.GH jW Pc (fun j hj=>(congrArg gS.held (show j+HS+4*HS=j+HS+HS+HS+HS+HS by omega)).trans ((L8 (j+HS+HS+HS)).trans ((pf (j+HS+HS)).trans ((Mn (j+HS)).trans ((IL j).trans (jY j hj)))))) lT);(iterate 8 exact rfl);intro gT Vn U1 TV;refine vU ?_;refine And.intro (show jw _ _ _ _ from⟨_,_,_,_,rfl⟩) ?_;refine Bo ?_;refine AW.region ?_;refine zi ?_;refine q9 ?_;(with_reducible apply a_.fl);exact rfl;exact ai;(iterate 9 exact rfl);exact ab;refine nz ?_;refine O_ ?_;refine gL ?_;(with_reducible apply fX);exact⟨_,_,_,_,rfl⟩;refine HR ?_;(with_reducible apply fX);exact⟨_,_,_,_,rfl⟩;refine HR ?_;(with_reducible apply fX);exact⟨_,_,_,_,rfl⟩;refine nz ?_;refine qu ?_;refine iU ?_;refine ic (.inr rfl) rfl ?_;(try refine nz ?_);refine H9 ?_;refine rS ?_)
   exact⟨j+1,by omega,by omega,e_ rfl (by(refine⟨.d_ (by first|rfl|(push_cast;omega)|(rw[ka,f_,← dG,cV (l₂:=[_])];rfl)),?_⟩;refine⟨.d_ (by first|rfl|(push_cast;omega)|(rw[ka,f_,← dG,cV (l₂:=[_])];rfl)),?_⟩;(iterate 4 refine aA ?_);refine⟨.d_ (by first|rfl|(push_cast;omega)|(rw[ka,f_,← dG,cV (l₂:=[_])];rfl)),?_⟩;refine⟨.d_ (by first|rfl|(push_cast;omega)|(rw[ka,f_,← dG,cV (l₂:=[_])];rfl)),?_⟩;(iterate 6 refine aA ?_);exact trivial)) (by(refine⟨.box _ rfl ?_,?_⟩;refine⟨.d_ (by first|rfl|(push_cast;omega)|(rw[ka,f_,← dG,cV (l₂:=[_])];rfl)),?_⟩;refine⟨.fR (by first|rfl|(push_cast;omega)|(rw[ka,f_,← dG,cV (l₂:=[_])];rfl)) rfl,?_⟩;exact trivial;refine⟨.box _ rfl ?_,?_⟩;refine aA ?_;exact trivial;refine⟨.loop rfl,?_⟩;refine⟨.box _ rfl ?_,?_⟩;refine⟨.fb (by first|rfl|(push_cast;omega)|(rw[ka,f_,← dG,cV (l₂:=[_])];rfl)),?_⟩;exact trivial;refine⟨.box _ rfl ?_,?_⟩;refine⟨.d_ (by first|rfl|(push_cast;omega)|(rw[ka,f_,← dG,cV (l₂:=[_])];rfl)),?_⟩;exact trivial;refine⟨.box _ rfl ?_,?_⟩;refine⟨.fb (by first|rfl|(push_cast;omega)|(rw[ka,f_,← dG,cV (l₂:=[_])];rfl)),?_⟩;refine⟨.d_ (by first|rfl|(push_cast;omega)|(rw[ka,f_,← dG,cV (l₂:=[_])];rfl)),?_⟩;exact trivial;refine aC ?_;refine⟨.box _ rfl ?_,?_⟩;refine aA ?_;exact trivial;refine⟨.loop rfl,?_⟩;refine⟨.box _ rfl ?_,?_⟩;refine⟨.fb (by first|rfl|(push_cast;omega)|(rw[ka,f_,← dG,cV (l₂:=[_])];rfl)),?_⟩;exact trivial;refine⟨.box _ rfl ?_,?_⟩;refine⟨.d_ (by first|rfl|(push_cast;omega)|(rw[ka,f_,← dG,cV (l₂:=[_])];rfl)),?_⟩;exact trivial;refine⟨.box _ rfl ?_,?_⟩;refine⟨.fb (by first|rfl|(push_cast;omega)|(rw[ka,f_,← dG,cV (l₂:=[_])];rfl)),?_⟩;refine⟨.d_ (by first|rfl|(push_cast;omega)|(rw[ka,f_,← dG,cV (l₂:=[_])];rfl)),?_⟩;exact trivial;refine⟨.box _ rfl ?_,?_⟩;refine⟨.d_ (by first|rfl|(push_cast;omega)|(rw[ka,f_,← dG,cV (l₂:=[_])];rfl)),?_⟩;refine aA ?_;exact trivial;refine⟨.box _ rfl ?_,?_⟩;refine⟨.fb (by first|rfl|(push_cast;omega)|(rw[ka,f_,← dG,cV (l₂:=[_])];rfl)),?_⟩;refine⟨.d_ (by first|rfl|(push_cast;omega)|(rw[ka,f_,← dG,cV (l₂:=[_])];rfl)),?_⟩;(iterate 2 exact trivial))) rfl⟩
  ·obtain rfl:j=z2.toNat:=by omega
   ((iterate 2 refine zo ?_);(with_reducible apply AW.fG);exact rfl;exact rfl;kernel_rfl;(with_reducible assumption);refine zh ?_;(focus ((with_reducible apply a_.e8);(iterate 7 exact rfl);omega;rotate_left;(first|omega|exact db|exact(by simp))));refine zr ?_;(focus ((with_reducible apply a_.e8);(iterate 7 exact rfl);omega;rotate_left;(first|omega|exact db|exact(by simp))));refine vQ ?_;refine CT ?_;refine H9 ?_;refine rS ?_)
   exact Q33
 ·obtain rfl:i=z.toNat:=by omega
  ((iterate 2 refine zo ?_);(with_reducible apply AW.fG);exact rfl;exact rfl;kernel_rfl;(with_reducible assumption);refine zh ?_;(focus ((with_reducible apply a_.e8);(iterate 7 exact rfl);omega;rotate_left;(first|omega|exact db|exact(by simp))));refine zr ?_;(focus ((with_reducible apply a_.e8);(iterate 7 exact rfl);omega;rotate_left;(first|omega|exact db|exact(by simp))));refine vQ ?_;refine CT ?_;refine H3 ?_;refine Ib ?_)
  (apply c_;(exact fZ.one (.cell rfl rfl rfl rfl));(refine Le.ia ?_;refine gX.cons ?_ ?_;refine Le.eU ?_;(first|rfl|(rw[hl];rfl)|(rw[gf]));refine gX.cons ?_ ?_;refine Le.fR ?_;(first|rfl|(rw[hl];rfl)|(rw[gf]));exact gX.nil))
end Go.Ab
