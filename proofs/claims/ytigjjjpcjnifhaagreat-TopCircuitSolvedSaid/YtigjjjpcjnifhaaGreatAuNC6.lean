/- Chapter 19: the formula of a reference, in plain terms. -/
import Derived.Test.YtigjjjpcjnifhaaGreatAuNA1
import Derived.Test.YtigjjjpcjnifhaaGreatAbZ
import Derived.Test.YtigjjjpcjnifhaaGreatAbL3
import Derived.Test.YtigjjjpcjnifhaaGreatAbL4
import Derived.Test.YtigjjjpcjnifhaaGreatAbL2
import Derived.Test.YtigjjjpcjnifhaaGreatAuC2
set_option linter.unusedSimpArgs false
set_option linter.unusedVariables false
open List renaming getElem_mem→cY,pairwise_iff_getElem→dO,ext_getElem→cN,getElem?_eq_getElem→a8,getD_eq_getElem?_getD→c6,all_eq_true→bD,length_take→cO,length_append→bW,length_map→a6,any_append→dP,any_eq_true→dc,findIdx_eq→dQ,any_eq_false→dD,mem_take_iff_getElem→dR,getElem?_eq_none→cH,nodup_nil→dU,getElem_inj→dr,nodup_append→cp,mem_append→bX,map_append→cR,take_length→c8
open Bool renaming true_and→cZ,false_or→dS
open Nat renaming reduceBEq→df,zero_le→bm,le_refl→aP
namespace Go.Ab.N19
open Go Go.Proofs Go.Ab
set_option maxRecDepth 20000
set_option maxHeartbeats 4000000
def il (w:List Bool) (l:Int):Bool:=w.getD (max l (-l) - 1).toNat false==decide (0<l)
def nH (cl:List (List Int)) (w:List Bool):Bool:=cl.all fun c=>c.any (il w)
def eX (G:List Int) (x:Int):Nat:=G.findIdx (fun y=>decide (y=x))
theorem gT {G:List Int} {x:Int} (h:x∈G):eX G x<G.length:=by
 unfold eX
 rw[List.findIdx_lt_length]
 exact⟨x,h,by simp⟩
theorem Ds {G:List Int} {x:Int} (h:x∈G):G[eX G x]'(gT h)=x:=by
 have:=List.findIdx_getElem (xs:=G) (p:=fun y=>decide (y=x)) (w:=gT h)
 exact of_decide_eq_true this
theorem OL {G:List Int} (hG:Gu G) {i:Nat} (hi:i<G.length):eX G G[i]=i:=by
 have h1:=gT (cY hi)
 have h2:=Ds (cY hi)
 rw[Gu,dO] at hG
 rcases Nat.lt_trichotomy (eX G G[i]) i with h|h|h
 ·have:=hG _ _ h1 hi h;omega
 ·exact h
 ·have:=hG _ _ hi h1 h;omega
def w9 (gs:List fg) (n:Int) (G:List Int) (x:Int):Int:=if x∈G then n+1+(eX G x:Nat) else (lH gs x.toNat).a
def kb (gs:List fg) (n:Int) (G:List Int) (r:Int):Int:=if r % 2=1 then -(w9 gs n G (r / 2)) else w9 gs n G (r / 2)
def ml (gs:List fg) (n:Int) (G:List Int) (x:Int):List (List Int):=
 [[-(kb gs n G (2*x)),kb gs n G (lH gs x.toNat).a],[-(kb gs n G (2*x)),kb gs n G (lH gs x.toNat).b],[kb gs n G (2*x),-(kb gs n G (lH gs x.toNat).a),-(kb gs n G (lH gs x.toNat).b)]]
def Bw (gs:List fg) (r n:Int) (G:List Int):List (List Int):=G.flatMap (ml gs n G)++ [[kb gs n G r]]
noncomputable def lf (gs:List fg) (r n:Int):Int×List (List Int):=if r=0 then (n,[]) else if r=1 then (n,[[]]) else (n+((mU gs r).length:Nat),Bw gs r n (mU gs r))
def ti (n:Nat) (values:List Bool):List Bool:=(List.range n).map fun i=>values.getD i false
theorem lx (n:Nat) (v:List Bool):(ti n v).length=n:=by simp [ti]
theorem B9 {n:Nat} {v:List Bool} (h:v.length=n):ti n v=v:=by
 apply cN
 ·rw[lx,h]
 ·intro i h1 h2
  simp [ti,a8 h2]
def pD (gs:List fg) (G:List Int) (given:List Bool):List Bool:=given++G.map fun x=>jH gs given (2*x)
noncomputable def uM (gs:List fg) (r:Int) (n:Nat) (values:List Bool):List Bool:=if r<2 then ti n values else pD gs (mU gs r) (ti n values)
theorem yl (gs:List fg) (G:List Int) (v:List Bool):(pD gs G v).length=v.length+G.length:=by simp [pD]
structure va (gs:List fg) (G:List Int) (x:Int):Prop where
 lo:2≤x
 hi:x<2*(gs.length:Int)
 and:(lH gs (x / 2).toNat).k=2→x / 2∈G
theorem C3 {gs:List fg} {n:Int} {G:List Int} {x:Int} (h:x∈G):w9 gs n G x=n+1+(eX G x:Nat):=if_pos h
theorem nf.said {gs:List fg} (hc:gD gs) {r:Int} (hr:gz gs r) (h2:2≤r) {G:List Int} (h:nf gs r G):va gs G r:=⟨h2,hr.2,h.self⟩
theorem nf.JS {gs:List fg} (hc:gD gs) {r:Int} {G:List Int} (h:nf gs r G) {x:Int} (hx:x∈G):va gs G (lH gs x.toNat).a:=by
 obtain⟨h0,_,hk⟩:=h.and x hx
 obtain⟨h1,h2,h3,h4⟩:=hc.and hk
 have:=vk hk
 exact⟨h1,by omega,(h.kids x hx).1⟩
theorem nf.Kq {gs:List fg} (hc:gD gs) {r:Int} {G:List Int} (h:nf gs r G) {x:Int} (hx:x∈G):va gs G (lH gs x.toNat).b:=by
 obtain⟨h0,_,hk⟩:=h.and x hx
 obtain⟨h1,h2,h3,h4⟩:=hc.and hk
 have:=vk hk
 exact⟨by omega,by omega,(h.kids x hx).2⟩
theorem nf.own {gs:List fg} {r:Int} {G:List Int} (h:nf gs r G) {x:Int} (hx:x∈G) (hc:gD gs):va gs G (2*x):=by
 obtain⟨h0,_,hk⟩:=h.and x hx
 obtain⟨h1,h2,h3,h4⟩:=hc.and hk
 have:=vk hk
 exact⟨by omega,by omega,fun _=>by rwa [show 2*x / 2=x by omega]⟩
theorem va.var {gs:List fg} (hc:gD gs) {G:List Int} {x:Int} (h:va gs G x) {n:Int} (hn:8≤n):1≤w9 gs n G (x / 2)∧w9 gs n G (x / 2)≤n+(G.length:Nat):=by
 unfold w9
 by_cases hx:x / 2∈G
 ·rw[if_pos hx]
  have:=gT hx
  omega
 ·rw[if_neg hx]
  have h1:=h.lo
  have h2:=h.hi
  rcases hc.kind (i:=(x / 2).toNat) aJ aJ with h3|h3
  ·omega
  ·exact absurd (h.and h3) hx
theorem va.lit {gs:List fg} (hc:gD gs) {G:List Int} {x:Int} (h:va gs G x) {n:Int} (hn:8≤n):kb gs n G x≠0∧kb gs n G x≤n+(G.length:Nat)∧ -(n+(G.length:Nat):Int)≤kb gs n G x:=by
 have:=h.var hc hn
 unfold kb
 split<;>omega
theorem r7 {w:List Bool} {l:Int} (h:l≠0):il w (-l)=!(il w l):=by
 unfold il
 rw[show max (-l) (- -l)=max l (-l) by omega]
 by_cases h0:0<l
 ·rw[decide_eq_true h0,decide_eq_false (show ¬0< -l by omega)]
  cases w.getD (max l (-l) - 1).toNat false<;>rfl
 ·rw[decide_eq_false h0,decide_eq_true (show 0< -l by omega)]
  cases w.getD (max l (-l) - 1).toNat false<;>rfl
theorem AA {w:List Bool} {l:Int} (h:1≤l):il w l=w.getD (l - 1).toNat false:=by
 unfold il
 rw[show max l (-l)=l by omega,decide_eq_true (show 0<l by omega)]
 cases w.getD (l - 1).toNat false<;>rfl
def uk (gs:List fg) (n:Nat) (G:List Int) (w:List Bool):Prop:=∀x∈G,w.getD (n+eX G x) false=so gs (w.take n) x.toNat
theorem uk.lit {gs:List fg} (hc:gD gs) {n:Nat} {G:List Int} {w:List Bool} (hw:n≤w.length) (hn:8≤n) {x:Int} (h:va gs G x) (hr:x / 2∈G→w.getD (n+eX G (x / 2)) false=so gs (w.take n) (x / 2).toNat):il w (kb gs n G x)=jH gs (w.take n) x:=by
 have hv:=h.var hc (n:=n) (by omega)
 have key:il w (w9 gs n G (x / 2))=so gs (w.take n) (x / 2).toNat:=by
  rw[AA hv.1]
  by_cases hx:x / 2∈G
  ·rw[C3 hx,← hr hx]
   congr 1
   omega
  ·have h1:=h.lo
   have h2:=h.hi
   rcases hc.kind (i:=(x / 2).toNat) aJ aJ with h3|h3
   ·rw[NX _ (show(x / 2).toNat<gs.length by omega) (by rw[← o7 aJ];exact h3.1),P_,w9,if_neg hx,o7 aJ]
    rw[o7 aJ] at h3
    rw[c6,c6,List.getElem?_take,if_pos aJ]
   ·exact absurd (h.and h3) hx
 unfold kb jH
 by_cases h2:x % 2=1
 ·rw[if_pos h2,r7 aJ,key,decide_eq_false (show ¬x % 2=0 by omega)]
  cases so gs (w.take n) (x / 2).toNat<;>rfl
 ·rw[if_neg h2,key,decide_eq_true (show x % 2=0 by omega)]
  cases so gs (w.take n) (x / 2).toNat<;>rfl
theorem AK {w:List Bool} {g a b:Int} (hg:g≠0) (ha:a≠0) (hb:b≠0):nH [[-g,a],[-g,b],[g,-a,-b]] w=(il w g==(il w a && il w b)):=by
 unfold nH
 simp only[List.all_cons,List.all_nil,List.any_cons,List.any_nil,r7 hg,r7 ha,r7 hb]
 cases il w g<;>cases il w a<;>cases il w b<;>rfl
theorem Gy (a b:List (List Int)) (w:List Bool):nH (a++b) w=(nH a w && nH b w):=by unfold nH;rw[List.all_append]
theorem CY {G:List Int} {f:Int→List (List Int)} {w:List Bool}:nH (G.flatMap f) w=G.all fun x=>nH (f x) w:=by
 unfold nH
 rw[List.all_flatMap]
theorem OI (l:Int) (w:List Bool):nH [[l]] w=il w l:=by unfold nH;simp
theorem Bs {gs:List fg} {v:List Bool} {x:Int}:jH gs v (2*x)=so gs v x.toNat:=by
 unfold jH
 rw[show 2*x / 2=x by omega,decide_eq_true (show 2*x % 2=0 by omega)]
 cases so gs v x.toNat<;>rfl
theorem DG {gs:List fg} (hc:gD gs) {x:Int} (hk:(lH gs x.toNat).k=2) (v:List Bool):so gs v x.toNat=(jH gs v (lH gs x.toNat).a && jH gs v (lH gs x.toNat).b):=by
 have hi:=vk hk
 have e:=o7 hi
 rw[e] at hk ⊢
 exact LU hc v hi hk
theorem pY {gs:List fg} (hc:gD gs) {r:Int} (hr:gz gs r) (h2:2≤r) {G:List Int} (h:nf gs r G) {n:Nat} (hn:8≤n) {w:List Bool} (hw:n≤w.length) (hR:uk gs n G w):nH (Bw gs r n G) w=jH gs (w.take n) r:=by
 have L:∀{x:Int},va gs G x→il w (kb gs n G x)=jH gs (w.take n) x:=fun hs=>uk.lit hc hw hn hs fun hx=>hR _ hx
 unfold Bw
 rw[Gy,CY,OI,L (h.said hc hr h2)]
 have:(G.all fun x=>nH (ml gs n G x) w)=true:=by
  rw[bD]
  intro x hx
  have s1:=h.own hx hc
  have s2:=h.JS hc hx
  have s3:=h.Kq hc hx
  unfold ml
  rw[AK (s1.lit hc (n:=n) aJ).1 (s2.lit hc (n:=n) aJ).1 (s3.lit hc (n:=n) aJ).1,L s1,L s2,L s3,Bs,DG hc (h.and x hx).2.2]
  simp
 rw[this,cZ]
theorem By {gs:List fg} (hc:gD gs) {r:Int} (hr:gz gs r) (h2:2≤r) {G:List Int} (h:nf gs r G) {n:Nat} (hn:8≤n) {w:List Bool} (hw:n≤w.length) (hs:nH (Bw gs r n G) w=true):uk gs n G w:=by
 unfold Bw at hs
 rw[Gy,CY,Bool.and_eq_true,bD] at hs
 have key:∀m:Nat,∀x∈G,x.toNat=m→w.getD (n+eX G x) false=so gs (w.take n) x.toNat:=by
  intro m
  induction m using Nat.strongRecOn with
  |_ m ih=>
   intro x hx hm
   obtain⟨h0,_,hk⟩:=h.and x hx
   obtain⟨k1,k2,k3,k4⟩:=hc.and hk
   have s1:=h.own hx hc
   have s2:=h.JS hc hx
   have s3:=h.Kq hc hx
   have h3:=hs.1 x hx
   unfold ml at h3
   rw[AK (s1.lit hc (n:=n) aJ).1 (s2.lit hc (n:=n) aJ).1 (s3.lit hc (n:=n) aJ).1] at h3
   have La:=uk.lit hc hw hn s2 fun Ct=>ih _ aJ _ Ct rfl
   have Lb:=uk.lit hc hw hn s3 fun Ct=>ih _ aJ _ Ct rfl
   rw[La,Lb,← DG hc hk] at h3
   have e1:kb gs n G (2*x)=n+1+(eX G x:Nat):=by
    unfold kb
    rw[if_neg aJ,show 2*x / 2=x by omega,C3 hx]
   rw[e1,AA aJ,show((n:Int)+1+(eX G x:Nat) - 1).toNat=n+eX G x by omega] at h3
   simpa using h3
 exact fun x hx=>key _ x hx rfl
theorem AY {gs:List fg} {G:List Int} (hG:Gu G) (v:List Bool):uk gs v.length G (pD gs G v):=by
 intro x hx
 have h1:=gT hx
 unfold pD
 rw[c6,List.getElem?_append_right aJ,List.take_left,Nat.add_sub_cancel_left,List.getElem?_map,a8 h1,Ds hx]
 exact Bs
theorem HE {gs:List fg} {G:List Int} (hG:Gu G) {n:Nat} {w:List Bool} (hw:w.length=n+G.length) (hR:uk gs n G w):w=pD gs G (w.take n):=by
 have ht:(w.take n).length=n:=by rw[cO];omega
 unfold pD
 apply cN
 ·rw[bW,a6,ht,hw]
 ·intro i h1 h2
  by_cases hi:i<n
  ·rw[List.getElem_append_left aJ];simp
  ·rw[List.getElem_append_right aJ]
   have hj:i - n<G.length:=by omega
   have:=hR _ (cY hj)
   rw[OL hG hj] at this
   simp only[ht,List.getElem_map]
   rw[Bs,← this,show n+(i - n)=i by omega,c6,a8 h1];rfl
theorem sat_iff {gs:List fg} (hc:gD gs) {r:Int} (hr:gz gs r) (h2:2≤r) {G:List Int} (h:nf gs r G) {n:Nat} (hn:8≤n) {w:List Bool} (hw:w.length=n+G.length):nH (Bw gs r n G) w=true↔w=pD gs G (w.take n)∧jH gs (w.take n) r=true:=by
 constructor
 ·intro hs
  have hR:=By hc hr h2 h hn aJ hs
  exact⟨HE h.inc hw hR,by rw[← pY hc hr h2 h hn aJ hR];exact hs⟩
 ·rintro⟨h1,h3⟩
  have ht:(w.take n).length=n:=by rw[cO];omega
  have hR:uk gs n G w:=by
   have:=AY (gs:=gs) h.inc (w.take n)
   rw[← h1,ht] at this
   exact this
  rw[pY hc hr h2 h hn aJ hR];exact h3
end Go.Ab.N19
/- Chapter 19:the reference's circuits,walked. -/
namespace Go.Ab.N19
open Go Go.Proofs Go.Ab
open Nat (reduceAdd reduceSub)
set_option maxRecDepth 20000
set_option maxHeartbeats 4000000
attribute [local irreducible] AW a_ gr fz AR fH fv fM gk
theorem Ia {gs:List fg} {g:fg} {k:Nat} (hk:k<gs.length):(gs.take (k+1)).any (fun h=>decide (h=g))=((gs.take k).any (fun h=>decide (h=g))||decide (gs[k]=g)):=by
 rw[fI hk,dP];simp
theorem Ic {gs:List fg} {g:fg} {k:Nat} (hk:k<gs.length) (h0:(gs.take k).any (fun h=>decide (h=g))=false) (he:gs[k]=g):nZ gs g=(k:Int):=by
 have h1:gs.any (fun h=>decide (h=g))=true:=dc.2 ⟨gs[k],cY hk,by simpa using he⟩
 unfold nZ
 rw[if_pos h1]
 congr 1
 rw[dQ (by exact hk)]
 refine⟨by simpa using he,fun j hj=>?_⟩
 rw[dD] at h0
 have:=h0 gs[j] (dR.2 ⟨j,by omega,rfl⟩)
 simpa using this
theorem KV {gs:List fg} {g:fg} (h0:gs.any (fun h=>decide (h=g))=false):nZ gs g= -1:=by
 unfold nZ
 rw[if_neg (by rw[h0];simp)]
theorem GV {x y:fg}:x=y↔x.k=y.k∧x.a=y.a∧x.b=y.b:=by
 cases x;cases y;simp
abbrev gtV (g:fg):AV:=.agg [eU g.k,eU g.a,eU g.b]
theorem Ie:Fn Tryz.prog 41 [] (DD [⟨0,0,0⟩]):=by
 refine Fn.enter (n:=4) Tryz.func41 rfl rfl rfl rfl rfl (by decide) fun g fp fl=>?_;(try refine nz ?_)
 (refine zq ?_;refine mV ?_;refine ko ?_;refine a_.oZ 84 [] rfl rfl rfl rfl rfl rfl rfl rfl rfl ?_;refine nz ?_;refine a_.AJ rfl rfl rfl rfl rfl rfl rfl rfl rfl rfl ?_;refine nz ?_;refine a_.oZ 50 [0] rfl rfl rfl rfl rfl rfl rfl rfl rfl ?_;refine nz ?_;refine kV ?_;refine zd ?_;refine AW.ret ?_)
 (apply eY;(exact gm.one (.cell rfl rfl rfl rfl));(refine Le.lS ?_;refine hO.cons ?_ ?_;exact Le.own _ _ _ _ rfl;exact hO.nil))
theorem kh (r:Int) (hr: -1000000≤r∧r≤1000000):Fn Tryz.prog 43 [eU r] (eU (ir r)):=by
 refine Fn.enter (n:=12) Tryz.func43 rfl rfl rfl rfl rfl (by decide) fun g fp fl=>?_;(try refine nz ?_)
 unfold ir
 by_cases h0:r<0
 ·rw[if_pos h0]
  (refine rK ?_;refine zs ?_;refine jD ?_;refine iK ?_;refine qP ?_)
  (apply eY;(exact gm.one (.tmp rfl rfl));(refine Le.eU ?_;(rfl)))
 ·rw[if_neg h0]
  by_cases h1:r % 2=0
  ·rw[if_pos h1]
   (refine rK ?_;refine zs ?_;refine qx ?_;refine j6 ?_;refine PI ?_;refine jD ?_;refine j6 ?_;refine zj ?_;refine qP ?_)
   (apply eY;(exact gm.one (.tmp rfl rfl));(refine Le.eU ?_;(rfl)))
  ·rw[if_neg h1]
   (refine rK ?_;refine zs ?_;refine qx ?_;refine j6 ?_;refine PI ?_;refine uD ?_;refine j6 ?_;refine a_.sub rfl rfl rfl rfl rfl aJ ?_;refine ku ?_)
   (apply eY;(exact gm.one (.tmp rfl rfl));(refine Le.eU ?_;(rfl)))
theorem OQ (gs:List fg) (x:fg):Fn Tryz.prog 112 [DD gs,gtV x] (eU (nZ gs x)):=by
 refine Fn.enter (n:=21) Tryz.func112 rfl rfl rfl rfl rfl (by decide) fun g fp fl=>?_;(try refine nz ?_)
 refine AW.uB 0 0 rfl rfl fun hlen=>?_
 (refine ny ?_;refine MU ?_;refine kc ?_;refine iK ?_;refine wX ?_)
 (refine nz ?_;apply AW.gJ [3,2] [1,0] (fun k:Nat=>([(5,eU k)]:List (Nat×AV))) (fun k:Nat=>([]:List (Nat×Option Ob))) (fun k:Nat=>k≤gs.length∧(gs.take k).any (fun h=>decide (h=x))=false) (fun k:Nat=>gs.length - k) (0);(conv=>lhs;simp only[Nf.ot,Nf.all,df,reduceAdd,reduceSub]);(all_goals skip))
 ·exact⟨bm _,rfl⟩
 ·exact fe rfl (by(refine aC ?_;(iterate 2 refine aC ?_);exact trivial)) (by(refine⟨.box _ rfl ?_,?_⟩;(iterate 3 refine aC ?_);exact trivial;refine⟨.box _ rfl ?_,?_⟩;refine aC ?_;(iterate 2 exact trivial))) rfl
 rintro k ⟨hk,jI⟩
 by_cases fy:k<gs.length
 ·have hs:=Ia (g:=x) fy
  rw[jI,dS] at hs
  by_cases he:gs[k]=x
  ·have h1:=Ic fy jI he
   have h2:=GV.1 he
   rw[h1]
   (refine sd ?_;refine Fl ?_;refine zs ?_;refine zd ?_;refine Q6 ?_;refine zo ?_;(with_reducible apply AW.gb);exact rfl;exact rfl;kernel_rfl;(with_reducible assumption);refine En ?_;refine aA ?_;refine a_.l5 rfl rfl rfl rfl ?_;refine nz ?_;refine mJ ?_;refine a_.WQ rfl rfl aI rfl rfl rfl ?_;refine jD ?_;refine j6 ?_;refine qR ?_)
   (apply eY;(exact gm.one (.tmp rfl rfl));(refine Le.eU ?_;(rfl)))
  ·rw[decide_eq_false he] at hs
   have h2:¬(gs[k].k=x.k∧gs[k].a=x.a∧gs[k].b=x.b):=fun h=>he (GV.2 h)
   (refine sd ?_;refine Fl ?_;refine zs ?_;refine zd ?_;refine Q6 ?_;refine zo ?_;(with_reducible apply AW.gb);exact rfl;exact rfl;kernel_rfl;(with_reducible assumption);refine En ?_;refine aA ?_;refine a_.l5 rfl rfl rfl rfl ?_;refine nz ?_;refine mJ ?_;refine a_.WQ rfl rfl aI rfl rfl rfl ?_;refine EM ?_;refine uH ?_;refine xx ?_)
   exact⟨k+1,⟨by omega,hs⟩,by omega,fe rfl (by(refine aC ?_;(iterate 2 refine aC ?_);exact trivial)) (by(refine⟨.box _ rfl ?_,?_⟩;(iterate 3 refine aC ?_);exact trivial;refine⟨.box _ rfl ?_,?_⟩;refine aC ?_;(iterate 2 exact trivial))) rfl⟩
 ·rw[gP (l:=gs) aJ] at jI
  rw[KV jI]
  (refine sd ?_;refine Fl ?_;refine zs ?_;refine zd ?_;refine tW ?_;refine iK ?_;refine ku ?_)
  (apply eY;(exact gm.one (.tmp rfl rfl));(refine Le.eU ?_;(rfl)))
end Go.Ab.N19
/- slices' functions that take functions. -/
namespace Go.Ab.N19
open Go Go.Proofs Go.Ab
open Nat (reduceAdd reduceSub)
set_option maxRecDepth 20000
set_option maxHeartbeats 4000000
attribute [local irreducible] AW a_ gr fz AR fH fv fM gk
def Ff {α:Type} (p:α→Bool) (l:List α):Int:=if l.any p=true then (l.findIdx p:Nat) else -1
theorem LM {α:Type} {p:α→Bool} {l:List α} {k:Nat} (hk:k<l.length) (h0:(l.take k).any p=false) (hp:p l[k]=true):Ff p l=(k:Int):=by
 unfold Ff
 rw[if_pos (dc.2 ⟨l[k],cY hk,hp⟩),dQ (by exact hk)|>.2 ⟨hp,fun j hj=>?_⟩]
 rw[dD] at h0
 simpa using h0 l[j] (dR.2 ⟨j,by omega,rfl⟩)
theorem O0 {α:Type} {p:α→Bool} {l:List α} (h0:l.any p=false):Ff p l= -1:=by
 unfold Ff
 rw[if_neg (by rw[h0];simp)]
theorem N7 {α:Type} (p:α→Bool) (l:List α):decide (0≤Ff p l)=l.any p:=by
 unfold Ff
 cases l.any p with
 |true=>simp
 |false=>simp
theorem AU {α:Type} {p:α→Bool} {l:List α} {k:Nat} (hk:k<l.length):(l.take (k+1)).any p=((l.take k).any p||p l[k]):=by
 rw[fI hk,dP];simp
abbrev vF (fx:FuncId) (vs us:Array Value):Value:=.func (.func fx) vs us
abbrev C6 {α:Type} (p:α→Bool) (x:α):AV:=fq (p x)
theorem I2 (l:List Int) (p:Int→Bool) (fx:FuncId) (vs us:Array Value):Hj (ye Tryz.prog (vF fx vs us) eU (C6 p) l) Tryz.prog 78 [.pv (ints l),.pv (.lit (vF fx vs us))] (eU (Ff p l)):=by
 have FQ:=ye.stay (P:=Tryz.prog) (vF fx vs us) eU (C6 p) l
 refine Hj.enter FQ (n:=19) Tryz.func78 rfl rfl rfl rfl rfl (by decide) fun g fp fl hT=>?_;(try refine nz ?_)
 refine AW.jK 0 rfl fun hlen=>?_
 (refine rK ?_;refine nq ?_)
 (refine nz ?_;apply AW.gJ [7,0,1] [] (fun k:Nat=>([(8,eU k)]:List (Nat×AV))) (fun k:Nat=>([]:List (Nat×Option Ob))) (fun k:Nat=>k≤l.length∧(l.take k).any p=false) (fun k:Nat=>l.length - k) (0);(conv=>lhs;simp only[Nf.ot,Nf.all,df,reduceAdd,reduceSub]);(all_goals skip))
 ·exact⟨bm _,rfl⟩
 ·exact SE
 rintro k ⟨hk,jI⟩
 by_cases fy:k<l.length
 ·have hs:=AU (p:=p) fy
  rw[jI,dS] at hs
  cases hp:p l[k] with
  |true=>
   have hw:TB (fun w=>DZ Tryz.prog (vF fx vs us) w (eU l[k]) (fq true)) g:=hp▸hT.way (cY fy)
   rw[LM fy jI hp]
   (refine mn ?_;refine rz ?_;(iterate 3 refine zm ?_);refine aA ?_;refine zr ?_;(with_reducible apply a_.PM (hT:=hw));(iterate 3 exact rfl);(first|exact .le (.pv _)|exact .box rfl rfl|exact .le (.own _ _ _ _ rfl)|exact .le (.nil _)|exact .le (.any _)|exact .le (.gf _)|(refine .le (.lS ?_);repeat (first|exact .nil|(refine .cons ?_ ?_;(first|exact .pv _|exact .own _ _ _ _ rfl|exact .nil _)))));exact rfl;exact rfl;exact(fun h_=>by cases h_);refine xj ?_;refine j6 ?_;refine qR ?_)
   (apply eY;(exact gm.one (.tmp rfl rfl));(refine Le.eU ?_;(rfl)))
  |false=>
   have hw:TB (fun w=>DZ Tryz.prog (vF fx vs us) w (eU l[k]) (fq false)) g:=hp▸hT.way (cY fy)
   rw[hp] at hs
   (refine mn ?_;refine rz ?_;(iterate 3 refine zm ?_);refine aA ?_;refine zr ?_;(with_reducible apply a_.PM (hT:=hw));(iterate 3 exact rfl);(first|exact .le (.pv _)|exact .box rfl rfl|exact .le (.own _ _ _ _ rfl)|exact .le (.nil _)|exact .le (.any _)|exact .le (.gf _)|(refine .le (.lS ?_);repeat (first|exact .nil|(refine .cons ?_ ?_;(first|exact .pv _|exact .own _ _ _ _ rfl|exact .nil _)))));exact rfl;exact rfl;exact(fun h_=>by cases h_);refine Ci ?_;refine uH ?_;refine sm ?_)
   exact⟨k+1,⟨by omega,hs⟩,by omega,fe rfl (by(refine aC ?_;(iterate 3 refine aC ?_);exact trivial)) (by(exact trivial)) rfl⟩
 ·rw[gP (l:=l) aJ] at jI
  rw[O0 jI]
  (refine zD ?_)
  (apply eY;(exact gm.one (.tmp rfl rfl));(refine Le.eU ?_;(rfl)))
theorem Mf (l:List Int) (p:Int→Bool) (fx:FuncId) (vs us:Array Value):Hj (ye Tryz.prog (vF fx vs us) eU (C6 p) l) Tryz.prog 39 [.pv (ints l),.pv (.lit (vF fx vs us))] (fq (l.any p)):=by
 have FQ:=ye.stay (P:=Tryz.prog) (vF fx vs us) eU (C6 p) l
 have hi:=I2 l p fx vs us
 rw[← N7]
 refine Hj.enter FQ (n:=9) Tryz.func39 rfl rfl rfl rfl rfl (by decide) fun g fp fl hT=>?_;(try refine nz ?_)
 (refine u6 ?_;(iterate 2 refine zm ?_);(with_reducible apply a_.Wp (hf:=hi));(first|(with_reducible assumption)|(refine TB.gs ?_ (by with_reducible assumption);with_reducible assumption)|(refine TB.gi ?_ (by with_reducible assumption);with_reducible assumption)|exact TB.none _);exact aj;exact rfl;exact rfl;exact(fun h_=>by cases h_);refine FA ?_)
 (apply eY;(exact gm.one (.tmp rfl rfl));(refine Le.fq ?_;(rfl)))
end Go.Ab.N19
/- Chapter 19:formulas:valid,satisfied. -/
namespace Go.Ab.N19
open Go Go.Proofs Go.Ab
set_option maxRecDepth 20000
set_option maxHeartbeats 4000000
attribute [local irreducible] AW a_ gr fz AR fH fv fM gk
abbrev KA (vars:Int) (cl:List (List Int)):AV:=.agg [eU vars,.pv (j3 cl)]
def Sr (vars x:Int):Bool:=decide (x≠0∧x≤vars∧0 - vars≤x)
def e8 (vars:Int) (l:List Int):Bool:=l.all (Sr vars)
def oU (vars:Int) (cl:List (List Int)):Bool:=decide (0≤vars∧vars≤20000∧(cl.length:Int)≤60000) && cl.all (e8 vars)
theorem DJ {α:Type} (p:α→Bool) (l:List α):(!(l.any fun x=>!p x))=l.all p:=by rw[List.all_eq_not_any_not]
end Go.Ab.N19
/- Chapter 19:formulas:satisfied;the reference's comparisons. -/
namespace Go.Ab.N19
open Go Go.Proofs Go.Ab
open Nat (reduceAdd reduceSub)
set_option maxRecDepth 20000
set_option maxHeartbeats 4000000
attribute [local irreducible] AW a_ gr fz AR fH fv fM gk
def Vr (l:Int):Prop:=l≠0∧ -1000000≤l∧l≤1000000
theorem BO {α:Type} {l:List α} {i:Nat} {d:α} (h:i<l.length):l.getD i d=l[i]:=by rw[c6,a8 h];rfl
theorem Cz {α:Type} {l:List α} {i:Nat} {d:α} (h:l.length≤i):l.getD i d=d:=by rw[c6,cH h];rfl
theorem x4 (a b:Bool):(a==b)=decide (a=b):=by cases a<;>cases b<;>rfl
theorem Kh (w:List Bool) (l:Int) (hl:Vr l) (hw:w.length≤100000):Fn Tryz.prog 36 [eU l,.gf [qV w]] (fq (il w l)):=by
 obtain⟨h0,h1,h2⟩:=hl
 unfold il
 have F9:1≤max l (-l):=by omega
 have qM:max l (-l)≤1000000:=by omega
 have e:max l (-l)=max l (0 - l):=by omega
 by_cases hle:max l (-l)≤(w.length:Int)
 ·rw[BO (show(max l (-l) - 1).toNat<w.length by omega),x4]
  refine Fn.enter (n:=25) Tryz.func36 rfl rfl rfl rfl rfl (by decide) fun g fp fl=>?_;(try refine nz ?_)
  (refine VI ?_;refine zt ?_;refine zr ?_;refine uW ?_;refine a_.sub rfl rfl rfl rfl rfl aJ ?_;refine zt ?_;refine ay ?_;refine zt ?_;refine zr ?_;refine zT ?_;refine zm ?_;refine a_.Wo rfl rfl rfl rfl rfl rfl ?_;refine ku ?_)
  (apply eY;(exact gm.one (.tmp rfl rfl));(refine Le.fq ?_;(first|rfl)))
 ·rw[Cz (show w.length≤(max l (-l) - 1).toNat by omega),x4]
  refine Fn.enter (n:=25) Tryz.func36 rfl rfl rfl rfl rfl (by decide) fun g fp fl=>?_;(try refine nz ?_)
  (refine VI ?_;(iterate 5 refine a_.mG rfl rfl rfl rfl rfl rfl (by with_reducible assumption) ?_);refine zF ?_;refine zm ?_;refine a_.Wo rfl rfl rfl rfl rfl rfl ?_;refine ku ?_)
  (apply eY;(exact gm.one (.tmp rfl rfl));(refine Le.fq ?_;(first|rfl)))
theorem Tj (vars:Int) (cl:List (List Int)) (w:List Bool) (iX:∀c∈cl,∀l∈c,Vr l) (hw:w.length≤100000):Fn Tryz.prog 12 [KA vars cl,.pv (qV w)] (fq (nH cl w)):=by
 unfold nH
 refine Fn.enter (n:=11) Tryz.func12 rfl rfl rfl rfl rfl (by decide) fun g fp fl=>?_;(try refine nz ?_)
 refine AW.uB 0 1 rfl rfl fun hlen=>?_
 (refine ny ?_;refine MU ?_;refine rz ?_;refine a_.jB rfl rfl rfl ?_;refine L8 ?_;refine vm ?_;refine a_.jB rfl rfl rfl ?_;(with_reducible apply a_.inline (hf:=Tryz.func37));(with_reducible assumption);(iterate 10 exact rfl);intro g_ fp fl;refine nz ?_;refine ny ?_;refine rz ?_;refine zm ?_;refine a_.jB rfl rfl rfl ?_;(with_reducible apply a_.inline (hf:=Tryz.func74));(with_reducible assumption);(iterate 10 exact rfl);intro g_ fp fl;refine qL ?_;refine IV ?_;(with_reducible apply a_.inline (hf:=Tryz.func97));(with_reducible assumption);(iterate 10 exact rfl);intro g_ fp fl;refine nz ?_;refine rK ?_;refine nq ?_)
 (refine nz ?_;apply AW.gJ [7,0,1,1006,1005,1004,1000,1001,2006,2005,2004,2003,2000,2001,3009,3008,3007,3005,3004,3002] [3,2,1,0] (fun k:Nat=>([(8,eU k)]:List (Nat×AV))) (fun k:Nat=>([]:List (Nat×Option Ob))) (fun k:Nat=>k≤cl.length∧(cl.take k).any (fun c=>!(c.any (il w)))=false) (fun k:Nat=>cl.length - k) (0);(conv=>lhs;simp only[Nf.ot,Nf.all,df,reduceAdd,reduceSub]);(all_goals skip))
 ·exact⟨bm _,rfl⟩
 ·exact fe rfl (by(refine aC ?_;(iterate 20 refine aC ?_);exact trivial)) (by(refine⟨.box _ rfl ?_,?_⟩;refine aC ?_;exact trivial;refine⟨.box _ rfl ?_,?_⟩;refine aC ?_;exact trivial;refine⟨.box _ rfl ?_,?_⟩;refine aC ?_;exact trivial;refine⟨.box _ rfl ?_,?_⟩;(iterate 2 refine aC ?_);(iterate 2 exact trivial))) rfl
 rintro k ⟨hk,jI⟩
 by_cases fy:k<cl.length
 ·have jY:=AU (p:=fun c=>!(c.any (il w))) fy
  rw[jI,dS] at jY
  have hf:=Mf cl[k] (il w)
  have Ju:∀x∈cl[k],Hj (fun _=>True) Tryz.prog 36 [eU x,.gf [qV w]] (C6 (il w) x):=fun x hx=>(Kh w x (iX _ (cY fy) x hx) hw).toW
  cases hb:cl[k].any (il w) with
  |true=>
   rw[hb] at jY hf
   (refine yX ?_;refine aA ?_;refine zr ?_;(with_reducible apply a_.inline (hf:=Tryz.func77));(with_reducible assumption);(iterate 10 exact rfl);intro g_ fp fl;refine qL ?_;refine iY ?_;(with_reducible apply a_.inline (hf:=Tryz.func38));(with_reducible assumption);(iterate 10 exact rfl);intro g_ fp fl;refine qL ?_;refine zm ?_;refine zb ?_;(with_reducible apply a_.Mp (hf:=hf) (hc:=Ju) (hen:=enters_of Tryz.func36 rfl (by decide)));(first|(with_reducible assumption)|(refine TB.gs ?_ (by with_reducible assumption);with_reducible assumption)|(refine TB.gi ?_ (by with_reducible assumption);with_reducible assumption)|exact TB.none _);(intro fx_ vs_ us_;(repeat (first|exact .nil|apply oe.here|(apply oe.cons rfl;(first|exact .le (.pv _)|exact .box rfl rfl|exact .le (.own _ _ _ _ rfl)|exact .le (.nil _)|exact .le (.any _)|exact .le (.gf _)|(refine .le (.lS ?_);repeat (first|exact .nil|(refine .cons ?_ ?_;(first|exact .pv _|exact .own _ _ _ _ rfl|exact .nil _)))))))));exact rfl;exact rfl;(repeat (first|exact .nil|(refine .cons ?_ ?_;(first|exact .le (.pv _)|exact .box rfl rfl|exact .le (.own _ _ _ _ rfl)|exact .le (.nil _)|exact .le (.any _)|exact .le (.gf _)|(refine .le (.lS ?_);repeat (first|exact .nil|(refine .cons ?_ ?_;(first|exact .pv _|exact .own _ _ _ _ rfl|exact .nil _))))))));exact(fun _=>rfl);exact rfl;exact rfl;exact(fun h_=>by cases h_);refine ku ?_;refine ui ?_;refine a_.not rfl rfl rfl ?_;refine ku ?_;refine ui ?_;refine Ci ?_;refine tP ?_)
   exact⟨k+1,⟨by omega,jY⟩,by omega,fe rfl (by(refine aC ?_;(iterate 20 refine aC ?_);exact trivial)) (by(refine⟨.box _ rfl ?_,?_⟩;refine aC ?_;exact trivial;refine⟨.box _ rfl ?_,?_⟩;refine aC ?_;exact trivial;refine⟨.box _ rfl ?_,?_⟩;refine aC ?_;exact trivial;refine⟨.box _ rfl ?_,?_⟩;(iterate 2 refine aC ?_);(iterate 2 exact trivial))) rfl⟩
  |false=>
   rw[hb] at hf
   have j4:(cl.all fun c=>c.any (il w))=false:=by rw[List.all_eq_false];exact⟨cl[k],cY fy,by rw[hb];simp⟩
   rw[j4]
   (refine yX ?_;refine aA ?_;refine zr ?_;(with_reducible apply a_.inline (hf:=Tryz.func77));(with_reducible assumption);(iterate 10 exact rfl);intro g_ fp fl;refine qL ?_;refine iY ?_;(with_reducible apply a_.inline (hf:=Tryz.func38));(with_reducible assumption);(iterate 10 exact rfl);intro g_ fp fl;refine qL ?_;refine zm ?_;refine zb ?_;(with_reducible apply a_.Mp (hf:=hf) (hc:=Ju) (hen:=enters_of Tryz.func36 rfl (by decide)));(first|(with_reducible assumption)|(refine TB.gs ?_ (by with_reducible assumption);with_reducible assumption)|(refine TB.gi ?_ (by with_reducible assumption);with_reducible assumption)|exact TB.none _);(intro fx_ vs_ us_;(repeat (first|exact .nil|apply oe.here|(apply oe.cons rfl;(first|exact .le (.pv _)|exact .box rfl rfl|exact .le (.own _ _ _ _ rfl)|exact .le (.nil _)|exact .le (.any _)|exact .le (.gf _)|(refine .le (.lS ?_);repeat (first|exact .nil|(refine .cons ?_ ?_;(first|exact .pv _|exact .own _ _ _ _ rfl|exact .nil _)))))))));exact rfl;exact rfl;(repeat (first|exact .nil|(refine .cons ?_ ?_;(first|exact .le (.pv _)|exact .box rfl rfl|exact .le (.own _ _ _ _ rfl)|exact .le (.nil _)|exact .le (.any _)|exact .le (.gf _)|(refine .le (.lS ?_);repeat (first|exact .nil|(refine .cons ?_ ?_;(first|exact .pv _|exact .own _ _ _ _ rfl|exact .nil _))))))));exact(fun _=>rfl);exact rfl;exact rfl;exact(fun h_=>by cases h_);refine ku ?_;refine ui ?_;refine a_.not rfl rfl rfl ?_;refine ku ?_;refine Jg ?_;refine ku ?_;refine ui ?_;refine ku ?_)
   (apply eY;(exact gm.one (.tmp rfl rfl));(refine Le.fq ?_;(rfl)))
 ·rw[gP (l:=cl) aJ] at jI
  have j4:(cl.all fun c=>c.any (il w))=true:=by rw[← DJ,jI];rfl
  rw[j4]
  (refine zD ?_;refine IT ?_;refine ku ?_;refine ui ?_;refine ku ?_)
  (apply eY;(exact gm.one (.tmp rfl rfl));(refine Le.fq ?_;(rfl)))
end Go.Ab.N19
/- Chapter 19:the needed gates,walked:a closure that calls itself. -/
namespace Go.Ab.N19
open Go Go.Proofs Go.Ab
set_option maxRecDepth 20000
set_option maxHeartbeats 4000000
attribute [local irreducible] AW a_ gr fz AR fH fv fM gk lk
abbrev vO (gs:List fg) (met:List Int):List (Nat×Option Ob):=[(0,some (.box [.pv (Bb gs)])),(1,some (.mp (jl (j7 met)))),(2,some (.box [.gx 1])),(3,some (.box [.jx (.func 83) [] [.ptr 0 0,.ptr 2 0,.ptr 3 0]]))]
theorem x6 {gs:List fg} (hc:gD gs) (hl:gs.length≤100000):∀(n:Nat) (met:List Int) (i:Nat),i<n→i<gs.length→oP Tryz.prog 83 4 (vO gs met) [eU (i:Nat),.ptr 0 0,.ptr 2 0,.ptr 3 0] (vO gs (visitM gs n met i)) (.gY [])
 |0,met,i,h,_=>by omega
 |n+1,met,i,h,hi=>by
  have yh:=o7 hi
  have hu:visitM gs (n+1) met i=if gs[i].k=2∧¬(i:Int)∈met then visitM gs n (visitM gs n (met++ [(i:Int)]) (gs[i].a / 2).toNat) (gs[i].b / 2).toNat else met:=by rw[← yh];rfl
  by_cases hk:gs[i].k=2
  ·by_cases hm:(i:Int)∈met
   ·rw[hu,if_neg (fun h=>h.2 hm)]
    refine oP.enter (n:=31) Tryz.func83 rfl rfl rfl rfl rfl (by decide) rfl rfl fun g fp fl=>?_;refine s9 ?_
    (refine zq ?_;refine En ?_;refine aA ?_;refine RL ?_;refine zm ?_;refine zS ?_;refine qn ?_;refine Li ?_;refine zF ?_;refine jD ?_;refine AW.ret ?_;refine gV ?_)
    (apply iJ;((exact gm.none));((exact qH));((exact Ta));exact rfl)
   ·rw[hu,if_pos ⟨hk,hm⟩]
    obtain⟨h1,h2,h3,h4⟩:=hc.and (i:=i) (by rw[yh];exact hk)
    rw[yh] at h1 h2 h3 h4
    have ea:(((gs[i].a / 2).toNat:Nat):Int)=gs[i].a / 2:=by omega
    have eb:(((gs[i].b / 2).toNat:Nat):Int)=gs[i].b / 2:=by omega
    have Zk:CU met (i:Int)=met++ [(i:Int)]:=if_neg hm
    rw[← Zk]
    have ih1:=x6 hc hl n (CU met (i:Int)) (gs[i].a / 2).toNat aJ (by omega)
    generalize visitM gs n (CU met (i:Int)) (gs[i].a / 2).toNat=m1 at ih1 ⊢
    have ih2:=x6 hc hl n m1 (gs[i].b / 2).toNat aJ (by omega)
    generalize visitM gs n m1 (gs[i].b / 2).toNat=m2 at ih2 ⊢
    rw[ea] at ih1
    rw[eb] at ih2
    refine oP.enter (n:=31) Tryz.func83 rfl rfl rfl rfl rfl (by decide) rfl rfl fun g fp fl=>?_;refine s9 ?_
    (refine zq ?_;refine En ?_;refine aA ?_;refine RL ?_;refine zm ?_;refine zS ?_;refine qn ?_;refine Li ?_;refine zF ?_;refine uD ?_;refine iK ?_;refine iY ?_;refine a_.y_ rfl rfl rfl rfl rfl rfl rfl rfl rfl rfl (by with_reducible assumption) ?_;refine nz ?_;refine ko ?_;refine zb ?_;refine a_.c_ 84 1 1 rfl rfl rfl rfl ?_;refine zb ?_;refine a_.BJ rfl rfl rfl rfl rfl aJ ?_;refine zX (ih1) ?_;refine Q1 ?_;refine nz ?_;refine BG ?_;refine zb ?_;refine a_.c_ 84 2 2 rfl rfl rfl rfl ?_;refine zb ?_;refine a_.BJ rfl rfl rfl rfl rfl aJ ?_;refine zX (ih2) ?_;refine Q1 ?_;refine nz ?_;refine a_.nil ?_)
    (apply nR;((exact gm.none));((exact qH));((exact Ta));exact rfl)
  ·rw[hu,if_neg (fun h=>hk h.1)]
   refine oP.enter (n:=31) Tryz.func83 rfl rfl rfl rfl rfl (by decide) rfl rfl fun g fp fl=>?_;refine s9 ?_
   (refine zq ?_;refine En ?_;refine aA ?_;refine RL ?_;refine zm ?_;refine O8 ?_;refine xj ?_;refine AW.ret ?_;refine gV ?_)
   (apply iJ;((exact gm.none));((exact qH));((exact Ta));exact rfl)
end Go.Ab.N19
/- Chapter 19:the needed gates,in order. -/
namespace Go.Ab.N19
open Go Go.Proofs Go.Ab
open Nat (reduceAdd reduceSub)
set_option maxRecDepth 20000
set_option maxHeartbeats 4000000
attribute [local irreducible] AW a_ gr fz AR fH fv fM gk lk canon kf
theorem yW (n:Nat):∀{l:List Nat},l.Nodup→(∀x∈l,x<n)→l.length≤n:=by
 induction n with
 |zero=>
  intro l _ h
  cases l with
  |nil=>exact aP _
  |cons x l=>exact absurd (h x (by simp)) (by omega)
 |succ n ih=>
  intro l h1 h2
  have h3:(l.erase n).length≤n:=ih (h1.erase n) fun x hx=>by
   have h4:=(List.Nodup.mem_erase_iff h1).1 hx
   have:=h2 x h4.2
   omega
  by_cases hn:n∈l
  ·rw[List.length_erase_of_mem hn] at h3;omega
  ·rw[List.erase_of_not_mem hn] at h3;omega
theorem AW.YQ (id t s i m:Nat) {P:Program} {g:eZ} {δ:DS} {Q:Exit→DS→Prop} {b:Bool} {arr:Array Oper} {l:List Int} {p:PV} (ht:δ.get t=.ptr i 0) (hs:δ.get s=.pv p) (hi:δ.ob i=some (.box [.gx m])) (hm:δ.ob m=some (.mp (jl (j7 l)))) (gn:Nat.beq i m=false) (hx:Nat.blt i δ.nx=true)
  {cc:Code} (hK:AW P g ((Code.region id arr b).seq cc) Q {n:=δ.n,env:=[(t,.ptr i 0),(s,.pv p)],gv:=[(i,some (.box [.pv (.mp (qF l))]))],nx:=δ.nx}):AW P g ((Code.region id arr b).seq cc) Q δ:=
 AW.fe (δ':={n:=δ.n,env:=[(t,.ptr i 0),(s,.pv p)],gv:=[(i,some (.box [.pv (.mp (qF l))]))],nx:=δ.nx}) (Go.Ab.fe rfl ⟨by
  rw[ht]
  refine .eq rfl ?_
  show DS.qd _ i=true
  simp [DS.qd,DS.ob,fE],by rw[hs];exact .eq rfl rfl,trivial⟩ ⟨.box _ hi ⟨WV.e_ hm (by
   show fi [(i,some (Ob.box [.pv (.mp (qF l))]))] m=none
   unfold fi
   rw[gn];rfl),trivial⟩,trivial⟩ (by simp only[tL,hx,cZ])) hK
theorem wh {gs:List fg} (hc:gD gs) {r:Int} (hr:gz gs r):(visitM gs gs.length [] (r / 2).toNat).Nodup:=by
 unfold gz at hr
 exact(q_ hc gs.length [] (r / 2).toNat aJ).nodup dU
theorem wu {gs:List fg} (hc:gD gs) {r:Int} (hr:gz gs r):(visitM gs gs.length [] (r / 2).toNat).length≤gs.length:=by
 have hn:=wh hc hr
 unfold gz at hr
 have v:=q_ hc gs.length [] (r / 2).toNat (by omega)
 generalize visitM gs gs.length [] (r / 2).toNat=m at v hn
 have h1:(m.map Int.toNat).Nodup:=by
  unfold List.Nodup at hn ⊢
  rw[List.pairwise_map]
  refine hn.imp_of_mem fun {a b} ha hb gn e=>gn ?_
  rcases v.and a ha with h|⟨h1,_,_⟩
  ·cases h
  ·rcases v.and b hb with h|⟨h2,_,_⟩
   ·cases h
   ·omega
 have:=yW gs.length h1 (by
  intro x hx
  obtain⟨z,hz,rfl⟩:=List.mem_map.1 hx
  rcases v.and z hz with h|⟨h1,h2,_⟩
  ·cases h
  ·omega)
 simpa using this
theorem Fx {T J:List Int} (hn:T.Nodup) (h:∀x,x∈T↔x∈J):kf T=canon J:=by
 refine Bd ?_ (rV J) fun x=>by rw[D7,ki,h]
 have h1:=GG T
 have h2:(kf T).Nodup:=by
  unfold kf
  exact(List.mergeSort_perm T _).nodup_iff.2 hn
 unfold Gu
 rw[dO] at h1 ⊢
 intro i j hi hj v7
 have h3:=h1 i j hi hj v7
 have h4:(kf T)[i]≠(kf T)[j]:=fun e=>by
  have:=(dr h2).1 e
  omega
 omega
theorem AB {gs:List fg} (hc:gD gs) (hl:gs.length≤100000) {r:Int} (hr:gz gs r):Fn Tryz.prog 45 [DD gs,eU r] (.pv (ints (mU gs r))):=by
 have xp:=hr
 unfold gz at hr
 have hv:=x6 hc hl gs.length [] (r / 2).toNat aJ (by omega)
 have hn:=wh hc xp
 have DR:=wu hc xp
 rw[show(((r / 2).toNat:Nat):Int)=r / 2 by omega] at hv
 unfold mU
 generalize visitM gs gs.length [] (r / 2).toNat=J at hv hn DR ⊢
 refine Fn.enter (n:=28) Tryz.func45 rfl rfl rfl rfl rfl (by decide) fun g fp fl=>?_;(try refine nz ?_)
 (refine ny ?_;refine rz ?_;refine a_.GA (t:=88) rfl ?_;refine nz ?_;refine L8 ?_;refine mV ?_;refine ko ?_;refine a_.s_ rfl rfl rfl rfl rfl rfl rfl ?_;refine GB ?_;refine nz ?_;refine ko ?_;refine iY ?_;refine a_.BJ rfl rfl rfl rfl rfl aJ ?_;refine zX (hv) ?_;refine Q1 ?_;refine nz ?_;refine ko ?_;refine kc ?_;(with_reducible apply AW.YQ 6 5 7 2 1);(iterate 6 exact rfl);(try refine nz ?_);refine zq ?_;refine zb ?_;refine a_.xX rfl rfl rfl rfl ?_;refine nz ?_;refine zd ?_;refine AW.block ?_)
 (apply AW.gJ [] [] (fun s:List Nat×List Int=>([(7,.own 5 3 1 (s.2.map encI)),(16,.ptr 4 0)]:List (Nat×AV))) (fun s:List Nat×List Int=>([(4,some (.it (qF J) s.1)),(5,some .row)]:List (Nat×Option Ob))) (fun s:List Nat×List Int=>s.1.Nodup∧(∀i∈s.1,i<J.length)∧s.2.length=s.1.length∧s.2.Nodup∧(∀z,z∈s.2↔∃i∈s.1,J[i]? =some z)) (fun s:List Nat×List Int=>J.length - s.1.length) (([],[]));(conv=>lhs;simp only[Nf.ot,Nf.all,df,reduceAdd,reduceSub]);(all_goals skip))
 ·exact⟨dU,by simp,rfl,dU,by simp⟩
 ·exact fe rfl (by(refine⟨.jN _ _ _ rfl rfl,?_⟩;refine aC ?_;exact trivial)) (by(refine⟨.it rfl,?_⟩;refine⟨.iW rfl,?_⟩;exact trivial)) rfl
 rintro⟨seen,T⟩ ⟨ux,UZ,hT0,X2,Xd⟩
 simp only at ux UZ hT0 X2 Xd ⊢
 have S5:=yW J.length ux UZ
 (refine zq ?_;(focus ((with_reducible apply a_.Pw);(iterate 4 exact rfl);(with_reducible assumption);all_goals intro oD;(try refine nz ?_)));refine a_.extract rfl rfl rfl rfl ?_;refine kW ?_;refine AW.j8 rfl rfl ?_;refine I6 ?_;refine BR ?_;(try refine nz ?_);refine a_.KL (AE) [25,7] rfl ⟨rfl,rfl,trivial⟩ rfl rfl rfl ?_;refine Ol ?_;refine ko ?_;refine Fk ?_;(all_goals skip);rotate_left;refine a_.extract rfl rfl rfl rfl ?_;refine kW ?_;refine AW.oQ rfl rfl ?_;refine vH ?_;refine AW.block ?_;refine iK ?_;(focus ((with_reducible apply a_.LH);(iterate 4 exact rfl);exact ar;rotate_left;(first|exact oD.2.1|(with_reducible assumption))));refine a_.extract rfl rfl rfl rfl ?_;refine lK ?_;refine sg ?_;refine se ?_;refine tE ?_;(with_reducible apply a_.fD);exact rfl;exact ah;(iterate 9 exact rfl);exact aa;refine nz ?_;refine a_.n6 rfl rfl rfl ?_;refine a_.nil ?_;refine yM ?_;(all_goals skip);rotate_left)
 ·have Y_:kf T=canon J:=Fx X2 fun z=>by
   rw[Xd]
   constructor
   ·rintro⟨i,_,hi⟩;exact List.mem_of_getElem? hi
   ·intro hz
    obtain⟨i,hi⟩:=List.getElem?_of_mem hz
    exact⟨i,oD i (List.getElem?_eq_some_iff.1 hi).1,hi⟩
  (apply eY;(exact gm.one (.tmp rfl rfl));(refine Le.ff ?_;(first|rfl|(rw[← Y_];rfl))))
 ·obtain⟨i,Pu,qU⟩:=oD
  have jg:(seen++ [i]).Nodup:=by rw[cp];exact⟨ux,by simp,by intro a ha b hb e;simp at hb;subst hb;subst e;exact qU ha⟩
  have hbd:∀x∈seen++ [i],x<J.length:=by intro x hx;rcases bX.1 hx with hx|hx;exact UZ x hx;simp at hx;subst hx;exact Pu
  have y6:=yW J.length jg hbd
  have tj:J[i]∉T:=fun hm=>by
   obtain⟨j,hj,Xa⟩:=(Xd _).1 hm
   have qN:=UZ j hj
   rw[a8 qN] at Xa
   have:=(dr hn).1 (Option.some.inj Xa)
   subst this
   exact qU hj
  refine⟨(seen++ [i],T++ [J[i]]),⟨jg,hbd,by simp [hT0],by rw[cp];exact⟨X2,by simp,by intro a ha b hb e;simp at hb;subst hb;subst e;exact tj ha⟩,fun z=>?_⟩,by show J.length - (seen++ [i]).length<J.length - seen.length;simp at y6 ⊢;omega,fe rfl (by(refine⟨.ff (by first|rfl|(rw[cR];rfl)) rfl,?_⟩;exact vM)) (by(refine⟨.it rfl,?_⟩;exact Bq)) rfl⟩
  show z∈T++ [J[i]]↔_
  rw[bX,Xd]
  constructor
  ·rintro(⟨m,hm,h⟩|h)
   ·exact⟨m,by simp [hm],h⟩
   ·simp at h;subst h;exact⟨i,by simp,a8 Pu⟩
  ·rintro⟨m,hm,h⟩
   rcases bX.1 hm with hm|hm
   ·exact .inl ⟨m,hm,h⟩
   ·simp at hm;subst hm;rw[a8 Pu] at h;exact .inr (by simpa using (Option.some.inj h).symm)
end Go.Ab.N19
/- Chapter 19:the formula of a reference,walked. -/
namespace Go.Ab.N19
open Go Go.Proofs Go.RowKit Go.Ab
set_option maxRecDepth 20000
set_option maxHeartbeats 4000000
theorem C_:∀{l:List Int},Gu l→∀{x:Int},x∈l→l.countP (fun y=>decide (y<x))=eX l x
 |[],_,x,h=>by cases h
 |y::l,hi,x,h=>by
  have jJ:=List.pairwise_cons.1 hi
  unfold eX
  rw[List.countP_cons,List.findIdx_cons]
  by_cases e:y=x
  ·subst e
   have h0:l.countP (fun z=>decide (z<y))=0:=by
    rw[List.countP_eq_zero]
    intro z hz
    have:=jJ.1 z hz
    simp;omega
   rw[h0];simp
  ·have hx:x∈l:=by
    rcases List.mem_cons.1 h with e'|h
    ·exact absurd e'.symm e
    ·exact h
   have h1:=jJ.1 x hx
   have h2:=C_ jJ.2 hx
   unfold eX at h2
   rw[h2,if_pos (by simpa using h1)]
   simp [e]
theorem below_drewN {B:Nat} {a w:World} (h:Below B a w) (n:Nat):Below B a (w.drewN n):=h.trans ⟨rfl,rfl,rfl,aP _,fun _ _=>rfl⟩
theorem FG (l:List Int) (x:Int) (hl:l.length≤1000000) (h:Gu l):Fn Tryz.prog 47 [.pv (ints l),eU x] (.gY [eU (l.countP (fun y=>decide (y<x)):Nat),fq (decide (x∈l))]) where
 enters:=enters_of Tryz.func47 rfl (by decide)
 calls:=by
  intro N w vals hN hs gp
  have hs:vals.size=2:=hs
  obtain⟨v0,v1,rfl⟩:∃v0 v1,vals= #[v0,v1]:=by
   rcases vals with ⟨_|⟨v0,_|⟨v1,_|_⟩⟩⟩<;>simp at hs
   exact⟨v0,v1,rfl⟩
  have h0:=gp 0 v0 _ rfl rfl
  have h1:=(gp 1 v1 _ rfl rfl).lit
  subst h1
  have Qe:∀k:List Int,(k.contains x)=decide (x∈k):=fun k=>by simp
  have h0:=h0.lV
  cases h0 with
  | @slice a len cap k fa b off vs IE oX hb ha hk hc hr=>
   rw[a6] at IE
   subst IE
   by_cases H_:l=[]
   ·subst H_
    refine(Tryz.slices_BinarySearch_int_empty a cap x w).mono fun e w' ⟨he,hw⟩=>⟨_,he,?_,hw▸Below.refl _ _⟩
    exact .gY rfl fun j u c h1 h2=>by
     match j,h1,h2 with
     |0,h1,h2=>cases h1;cases h2;exact .pv (.lit _)
     |1,h1,h2=>cases h1;cases h2;exact .pv (.lit _)
   ·have sS:=ha (by simpa using H_)
    obtain⟨rfl,_,_⟩:=sS
    have mj:∀j,j<l.length→w.cell? ⟨b,off+j,none⟩=some (.int .i64 (l.getD j 0)):=by
     intro j hj
     have hp:cellAt (l.map encI) j 0=some (.lit (.int .i64 l[j])):=by simp [cellAt,encI,hj]
     have h2:=hr j 0 _ hp
     have h3:=(hc j 0 _ hp).1
     generalize vs j 0=u at h2 h3
     cases h2
     rw[Nat.mul_one,Nat.add_zero] at h3
     rw[h3,BO hj]
    refine(Tryz.slices_BinarySearch_int b off l.length cap l x w (aP _) aJ mj (by rw[c8];exact h.imp (fun h=>by omega))).mono fun e w' ⟨he,q,hw⟩=>⟨_,he,?_,hw▸below_drewN (Below.refl _ _) q⟩
    exact .gY rfl fun j u c h1 h2=>by
     match j,h1,h2 with
     |0,h1,h2=>
      cases h1;cases h2
      rw[c8]
      exact .pv (.lit _)
     |1,h1,h2=>
      cases h1;cases h2
      rw[c8,Qe]
      exact .pv (.lit _)
attribute [local irreducible] AW a_ gr fz AR fH fv fM gk canon eX
theorem Ow (gs:List fg) (G:List Int) (n x:Int) (hG:Gu G) (hl:G.length≤100000) (hn:0≤n∧n≤1000000) (h0:0≤x) (hx:x<2*(gs.length:Int)) (hb:gs.length≤1000000) (ha: -1000000≤(lH gs (x / 2).toNat).a∧(lH gs (x / 2).toNat).a≤1000000):
  Fn Tryz.prog 46 [eU x,.gf [Bb gs],.gf [ints G],.gf [.lit (.int .i64 n)]] (eU (kb gs n G x)):=by
 have u0:=FG G (x / 2) aJ hG
 have fy:(x / 2).toNat<gs.length:=by omega
 have yh:=o7 fy
 unfold kb w9
 rw[yh] at ha ⊢
 by_cases hm:x / 2∈G
 ·have hc:=C_ hG hm
  have vT:=gT hm
  rw[hc,decide_eq_true hm] at u0
  rw[if_pos hm]
  by_cases h2:x % 2=1
  ·rw[if_pos h2]
   refine Fn.enter (n:=34) Tryz.func46 rfl rfl rfl rfl rfl (by decide) fun g fp fl=>?_;(try refine nz ?_)
   (refine NT ?_;refine ay ?_;refine NJ ?_;refine xj ?_;refine sg ?_;refine zr ?_;refine zj ?_;refine zm ?_;refine zj ?_;refine yf ?_;refine PI ?_;refine jD ?_;refine j6 ?_;refine a_.neg rfl rfl rfl aJ ?_;refine qP ?_)
   (apply eY;(exact gm.one (.tmp rfl rfl));(refine Le.eU ?_;(first|rfl|omega)))
  ·rw[if_neg h2]
   refine Fn.enter (n:=34) Tryz.func46 rfl rfl rfl rfl rfl (by decide) fun g fp fl=>?_;(try refine nz ?_)
   (refine NT ?_;refine ay ?_;refine NJ ?_;refine xj ?_;refine sg ?_;refine zr ?_;refine zj ?_;refine zm ?_;refine zj ?_;refine yf ?_;refine PI ?_;refine uD ?_;refine j6 ?_;refine ku ?_)
   (apply eY;(exact gm.one (.tmp rfl rfl));(refine Le.eU ?_;(first|rfl|omega)))
 ·rw[decide_eq_false hm] at u0
  rw[if_neg hm]
  have iX:G.countP (fun y=>decide (y<x / 2))≤G.length:=List.countP_le_length
  generalize G.countP (fun y=>decide (y<x / 2))=cnt at u0 iX
  by_cases h2:x % 2=1
  ·rw[if_pos h2]
   refine Fn.enter (n:=34) Tryz.func46 rfl rfl rfl rfl rfl (by decide) fun g fp fl=>?_;(try refine nz ?_)
   (refine NT ?_;refine ay ?_;refine NJ ?_;refine nY ?_;refine zo ?_;refine j6 ?_;refine PI ?_;refine jD ?_;refine j6 ?_;refine a_.neg rfl rfl rfl aJ ?_;refine qP ?_)
   (apply eY;(exact gm.one (.tmp rfl rfl));(refine Le.eU ?_;(first|rfl|omega)))
  ·rw[if_neg h2]
   refine Fn.enter (n:=34) Tryz.func46 rfl rfl rfl rfl rfl (by decide) fun g fp fl=>?_;(try refine nz ?_)
   (refine NT ?_;refine ay ?_;refine NJ ?_;refine nY ?_;refine zo ?_;refine j6 ?_;refine PI ?_;refine uD ?_;refine j6 ?_;refine ku ?_)
   (apply eY;(exact gm.one (.tmp rfl rfl));(refine Le.eU ?_;(first|rfl|omega)))
end Go.Ab.N19
/- Chapter 19:a reference's value,walked:the reference's Eval and the program's. -/
namespace Go.Ab.N19
open Go Go.Proofs Go.Ab
open Nat (reduceAdd reduceSub)
set_option maxRecDepth 20000
set_option maxHeartbeats 4000000
attribute [local irreducible] AW a_ gr fz AR fH fv fM gk
theorem EV (gs:List fg) (vals:List Bool) {i:Nat} (h:i<gs.length):ma gs vals (i+1)=ma gs vals i++ [qk vals (ma gs vals i) gs[i]]:=by
 rw[ma,c6,a8 h];rfl
theorem gD.cases {gs:List fg} (hc:gD gs) {i:Nat} (h:i<gs.length):(gs[i].k=0)∨(gs[i].k=1∧1≤gs[i].a∧gs[i].a≤8)∨(gs[i].k=2∧2≤gs[i].a∧gs[i].a<gs[i].b∧gs[i].b<2*(i:Int)):=by
 by_cases h0:i=0
 ·subst h0
  have:=hc.zero
  rw[a8 h] at this
  rw[Option.some.inj this]
  exact .inl rfl
 ·rcases hc.ok i h h0 with h1|h1
  ·exact .inr (.inl ⟨h1.1,h1.2.1,h1.2.2.1⟩)
  ·exact .inr (.inr ⟨h1.1,h1.2.1,h1.2.2.1,h1.2.2.2.1⟩)
theorem Rf {vals:List Bool} {a:Int} (h:1≤a) (h2:a≤(vals.length:Int)):P_ vals a=vals[(a - 1).toNat]'(by omega):=by
 unfold P_
 rw[c6,a8 aJ];rfl
theorem OS {vals:List Bool} {a:Int} (h:1≤a) (h2:¬a≤(vals.length:Int)):P_ vals a=false:=by
 unfold P_
 rw[c6,cH aJ];rfl
theorem Nd {done:List Bool} {r:Int} (h:0≤r) (h2:r<2*(done.length:Int)):BQ done r=decide (done[(r / 2).toNat]'(by omega)=decide (r % 2=0)):=by
 unfold BQ
 rw[c6,a8 aJ]
 simp only[Option.getD_some]
 cases done[(r / 2).toNat]'(by omega)<;>cases decide (r % 2=0)<;>rfl
theorem xO {done:List Bool} {r:Int} (h:0≤r) (h2:r<2*(done.length:Int)):BQ done r=decide (¬done[(r / 2).toNat]'(by omega)=decide (r % 2=1)):=by
 rw[Nd h h2]
 by_cases e:r % 2=0
 ·rw[decide_eq_true e,decide_eq_false (show ¬r % 2=1 by omega)]
  cases done[(r / 2).toNat]'(by omega)<;>rfl
 ·rw[decide_eq_false e,decide_eq_true (show r % 2=1 by omega)]
  cases done[(r / 2).toNat]'(by omega)<;>rfl
theorem Io (gs:List fg) (vals:List Bool) {r:Int} (h0:0≤r) {d:List Bool} (hd:d=ma gs vals ((r / 2).toNat+1)):∃h:(r / 2).toNat<d.length,jH gs vals r=decide (¬d[(r / 2).toNat]=decide (r % 2=1)):=by
 subst hd
 refine⟨by rw[mu];omega,?_⟩
 rw[← vq gs vals (m:=(r / 2).toNat+1) h0 aJ]
 exact xO h0 (by rw[mu];omega)
theorem Ep (gs:List fg) (vals:List Bool) (r:Int) (hc:gD gs) (hr:gz gs r) (hl:gs.length≤100000) (hv:vals.length≤100000):Fn Tryz.prog 23 [DD gs,.pv (qV vals),eU r] (fq (jH gs vals r)):=by
 have xp:=hr
 unfold gz at hr
 refine Fn.enter (n:=75) Tryz.func23 rfl rfl rfl rfl rfl (by decide) fun g fp fl=>?_;(try refine nz ?_)
 have p1:¬r<0:=by omega
 have p2:¬2*(gs.length:Int)≤r:=by omega
 obtain⟨ts,sM⟩:∃ts,ts=gs.take (r / 2+1).toNat:=⟨_,rfl⟩
 have FL:ts.length=(r / 2).toNat+1:=by rw[sM,cO];omega
 have tA:∀(i:Nat) (h:i<ts.length) (h2:i<gs.length),ts[i]=gs[i]:=by subst sM;exact fun i h h2=>List.getElem_take
 (refine ny ?_;refine yf ?_;refine zs ?_;refine xB ?_;refine a_.c_ 50 0 0 rfl rfl rfl rfl ?_;refine zS ?_;refine zn ?_;refine zy ?_;refine a_.mul rfl rfl rfl rfl rfl aJ ?_;refine zy ?_;refine KE ?_;refine uD ?_;refine iK ?_;refine mV ?_;refine ko ?_;refine a_.jB rfl rfl rfl ?_;refine a_.assign rfl rfl rfl ?_;refine nz ?_;refine kW ?_;refine zq ?_;refine En ?_;refine a_.BJ rfl rfl rfl rfl rfl aJ ?_;refine zj ?_;refine a_.Je rfl rfl rfl rfl rfl rfl rfl aJ aJ ?_;refine nq ?_)
 rw[← sM]
 clear sM
 (refine nz ?_;apply AW.gJ [28,27,8,7,6,1,2] [] (fun i:Nat=>([(29,eU i)]:List (Nat×AV))) (fun i:Nat=>([(1,some (.box [.own 2 4 1 ((ma gs vals i).map kX)])),(2,some .row)]:List (Nat×Option Ob))) (fun i:Nat=>i≤(r / 2).toNat+1) (fun i:Nat=>(r / 2).toNat+1 - i) (0);(conv=>lhs;simp only[Nf.ot,Nf.all,df,reduceAdd,reduceSub]);(all_goals skip))
 ·exact bm _
 ·exact fe rfl (by(refine aC ?_;(iterate 7 refine aC ?_);exact trivial)) (by(refine⟨.box _ rfl ?_,?_⟩;refine⟨.jN _ _ _ rfl rfl,?_⟩;exact trivial;refine⟨.iW rfl,?_⟩;exact trivial)) rfl
 rintro i hi
 have C9:=mu gs vals i
 by_cases fy:i<(r / 2).toNat+1
 ·have XX:i<gs.length:=by omega
  have Qp:i<ts.length:=by omega
  have Ev:=EV gs vals XX
  have qU:(i:Int)≤r / 2:=by omega
  have pI:=hc.cases XX
  rw[← tA i Qp XX] at Ev pI
  generalize ma gs vals i=d at C9 Ev ⊢
  rcases pI with k0|⟨k1,a1,a2⟩|⟨k2,a1,a2,a3⟩
  ·have n1:¬ts[i].k=1:=by omega
   have n2:¬ts[i].k=2:=by omega
   have e:qk vals d ts[i]=true:=by unfold qk;rw[if_neg n1,if_neg n2]
   rw[e] at Ev
   (refine Cj ?_;refine aA ?_;refine JQ ?_;refine zk ?_;refine iK ?_;refine wY ?_;refine zk ?_;refine sg ?_;refine zb ?_;refine tE ?_;(with_reducible apply a_.fD);exact rfl;exact ah;(iterate 9 exact rfl);exact aa;refine nz ?_;refine GB ?_;refine nz ?_;refine a_.nil ?_;(iterate 2 refine ix ?_);refine iB ?_;refine AW.region ?_;refine Qf ?_)
   exact VR
  ·have n2:¬ts[i].k=2:=by omega
   have e:qk vals d ts[i]=P_ vals ts[i].a:=by unfold qk;rw[if_pos k1]
   rw[e] at Ev
   by_cases hle:ts[i].a≤(vals.length:Int)
   ·rw[Rf a1 hle] at Ev
    (refine Cj ?_;refine aA ?_;refine JQ ?_;refine zc ?_;refine AW.gg [0,1,2,3,4,5,6,7,8,9,10,11,12,13] [16] rfl (by assumption) aI aI rfl ?_;show a_ .held _ _ _ [_,_,_,_,_,_,_,_,_,_,_,_,_,_] _ _;refine zb ?_;refine a_.c_ 84 1 1 rfl rfl rfl rfl ?_;refine iY ?_;refine zn ?_;refine a_.leq rfl rfl rfl rfl rfl ?_;refine zm ?_;refine uW ?_;refine a_.c_ 84 1 1 rfl rfl rfl rfl ?_;refine zt ?_;refine zb ?_;refine zt ?_;refine a_.sub rfl rfl rfl rfl rfl aJ ?_;refine zt ?_;refine ay ?_;refine zt ?_;refine zr ?_;refine zT ?_;refine Q3 ?_;intro k_ iE;refine nz ?_;refine AR.fA (i:=14) rfl aI rfl ?_;intro g_ b_ fU;refine tE ?_;refine Q3 ?_;refine AR.fA (i:=15) rfl aI rfl ?_;intro g_ b_ fU;(with_reducible apply a_.fD);exact rfl;exact ah;(iterate 9 exact rfl);exact aa;refine jR ?_;refine AR.im (i:=16) rfl aI rfl aI ?_;intro g_ b_ eT;refine NY ?_)
    exact VR
   ·rw[OS a1 hle] at Ev
    (refine Cj ?_;refine aA ?_;refine JQ ?_;refine zc ?_;refine AW.gg [0,1,2,3,4,5,6,7,8,9,10,11,12,13] [16] rfl (by assumption) aI aI rfl ?_;show a_ .held _ _ _ [_,_,_,_,_,_,_,_,_,_,_,_,_,_] _ _;refine zb ?_;refine a_.c_ 84 1 1 rfl rfl rfl rfl ?_;refine iY ?_;refine zn ?_;refine a_.leq rfl rfl rfl rfl rfl ?_;refine zm ?_;(iterate 6 refine a_.mG rfl rfl rfl rfl rfl rfl (by with_reducible assumption) ?_);refine zF ?_;refine Q3 ?_;intro k_ iE;refine nz ?_;refine AR.fA (i:=14) rfl aI rfl ?_;intro g_ b_ fU;refine tE ?_;refine Q3 ?_;refine AR.fA (i:=15) rfl aI rfl ?_;intro g_ b_ fU;(with_reducible apply a_.fD);exact rfl;exact ah;(iterate 9 exact rfl);exact aa;refine jR ?_;refine AR.im (i:=16) rfl aI rfl aI ?_;intro g_ b_ eT;refine NY ?_)
    exact VR
  ·have n1:¬ts[i].k=1:=by omega
   have e:qk vals d ts[i]=(BQ d ts[i].a && BQ d ts[i].b):=by unfold qk;rw[if_neg n1,if_pos k2]
   rw[e,xO (r:=ts[i].a) aJ aJ,xO (r:=ts[i].b) aJ aJ] at Ev
   by_cases c1:¬d[(ts[i].a / 2).toNat]'(by omega)=decide (ts[i].a % 2=1)
   ·rw[decide_eq_true c1,cZ] at Ev
    have c1':=decide_eq_true c1
    (refine Cj ?_;refine aA ?_;refine JQ ?_;refine zk ?_;refine iK ?_;refine wY ?_;refine zc ?_;refine AW.gg [1,2,3] [4] rfl (by assumption) aI aI rfl ?_;show a_ .held _ _ _ [_,_,_] _ _;refine a_.iu rfl rfl rfl ?_;refine a_.c_ 84 1 1 rfl rfl rfl rfl ?_;refine n7 ?_;intro k_ iE;refine nz ?_;apply AR.cut [3,2,1,0,4,5,6,7,8,9,10,11];intro kv;apply AR.cut [3,2,1,0,4,5,6,7,8,9,10];intro ly;apply AR.cut [3,2,1,0,4,5,6,7,8,9];intro lu;apply AR.cut [3,2,1,0,4,5,6,7,8];intro lF;apply AR.cut [3,2,1,0,4,5,6,7];intro ni;(refine AR.m_ (i:=0) (j:=4) rfl aI rfl rfl aI ?_ ?_<;>intro g_ b_ eT);refine n7 ?_;refine AR.xq (i:=4) (by assumption) rfl aI rfl aI ?_;(with_reducible apply a_.inline (hf:=Tryz.func48));(with_reducible assumption);(iterate 10 exact rfl);intro g_ fp fl;refine nz ?_;refine BI ?_;refine au ?_;refine E8 ?_;refine MJ ?_;intro g_ b_ eT;refine zm ?_;refine Q3 ?_;(refine AR.fG (i:=6) (j:=7) rfl aI rfl rfl aI ?_ ?_<;>intro g_ b_ eT);refine wU ?_;refine wy ?_;intro g_ b_ eT;refine Fy ?_;refine mX ?_;refine Q5 ?_;exact AR.perm aI ni;refine Fy ?_;refine Q3 ?_;(refine AR.fG (i:=6) (j:=8) rfl aI rfl rfl aI ?_ ?_<;>intro g_ b_ eT);refine wU ?_;exact GF;refine zt ?_;refine zb ?_;refine xr ?_;intro g_ b_ eT;refine wU ?_;refine mX ?_;exact Jh;(with_reducible apply a_.inline (hf:=Tryz.func48));(with_reducible assumption);(iterate 10 exact rfl);intro g_ fp fl;refine nz ?_;refine BI ?_;refine au ?_;refine E8 ?_;(refine AR.free 5 aI rfl rfl rfl (by first|exact fS.fN rfl rfl|exact fS.iD rfl rfl|exact fS.nilCheck rfl rfl) ?_);(refine AR.rC (i:=0) (j:=6) (m:=7) rfl aI rfl rfl rfl aI ?_ ?_ ?_<;>intro g_ b_ eT);refine n7 ?_;(refine AR.fG (i:=6) (j:=7) rfl aI rfl rfl aI ?_ ?_<;>intro g_ b_ eT);refine wU ?_;refine wy ?_;intro g_ b_ eT;refine Fy ?_;exact GF;refine Fy ?_;refine Q3 ?_;(refine AR.fG (i:=6) (j:=8) rfl aI rfl rfl aI ?_ ?_<;>intro g_ b_ eT);refine wU ?_;exact GF;refine zt ?_;refine zb ?_;refine xr ?_;intro g_ b_ eT;refine wU ?_;exact Hf;refine wU ?_;refine Q3 ?_;(refine AR.fG (i:=0) (j:=7) rfl aI rfl rfl aI ?_ ?_<;>intro g_ b_ eT);refine zb ?_;refine wy ?_;intro g_ b_ eT;refine Fy ?_;exact GF;refine Fy ?_;refine Q3 ?_;(refine AR.fG (i:=0) (j:=8) rfl aI rfl rfl aI ?_ ?_<;>intro g_ b_ eT);refine zb ?_;exact GF;refine zt ?_;refine n7 ?_;(refine AR.fG (i:=0) (j:=9) rfl aI rfl rfl aI ?_ ?_<;>intro g_ b_ eT);refine zb ?_;exact Hf;refine zt ?_;(with_reducible apply a_.inline (hf:=Tryz.func48));(with_reducible assumption);(iterate 10 exact rfl);intro g_ fp fl;refine nz ?_;refine BI ?_;refine au ?_;refine E8 ?_;(refine AR.fG (i:=0) (j:=10) rfl aI rfl rfl aI ?_ ?_<;>intro g_ b_ eT);refine zb ?_;refine mX ?_;exact BV;refine zT ?_;refine Q3 ?_;(refine AR.fG (i:=0) (j:=11) rfl aI rfl rfl aI ?_ ?_<;>intro g_ b_ eT);refine zb ?_;refine mX ?_;exact ss;refine Ip ?_;intro g_ b_ eT;refine zb ?_;refine mX ?_;exact pE;refine Fy ?_;refine Q3 ?_;(refine AR.rC (i:=0) (j:=6) (m:=8) rfl aI rfl rfl rfl aI ?_ ?_ ?_<;>intro g_ b_ eT);refine n7 ?_;(refine AR.fG (i:=6) (j:=8) rfl aI rfl rfl aI ?_ ?_<;>intro g_ b_ eT);refine wU ?_;exact GF;refine zt ?_;refine zb ?_;refine xr ?_;intro g_ b_ eT;refine wU ?_;exact Hf;refine wU ?_;refine Q3 ?_;(refine AR.fG (i:=0) (j:=8) rfl aI rfl rfl aI ?_ ?_<;>intro g_ b_ eT);refine zb ?_;exact GF;refine zt ?_;refine n7 ?_;(refine AR.fG (i:=0) (j:=9) rfl aI rfl rfl aI ?_ ?_<;>intro g_ b_ eT);refine zb ?_;exact Hf;refine zt ?_;(with_reducible apply a_.inline (hf:=Tryz.func48));(with_reducible assumption);(iterate 10 exact rfl);intro g_ fp fl;refine nz ?_;refine BI ?_;refine au ?_;refine E8 ?_;(refine AR.fG (i:=0) (j:=10) rfl aI rfl rfl aI ?_ ?_<;>intro g_ b_ eT);refine zb ?_;exact H4;refine zT ?_;refine Q3 ?_;(refine AR.fG (i:=0) (j:=11) rfl aI rfl rfl aI ?_ ?_<;>intro g_ b_ eT);refine zb ?_;exact HB;refine Ip ?_;intro g_ b_ eT;refine zb ?_;exact HU;refine zt ?_;refine n7 ?_;(refine AR.fG (i:=0) (j:=6) rfl aI rfl rfl aI ?_ ?_<;>intro g_ b_ eT);refine zb ?_;refine xr ?_;intro g_ b_ eT;refine wU ?_;exact Hf;refine wU ?_;refine Q3 ?_;(refine AR.fG (i:=0) (j:=9) rfl aI rfl rfl aI ?_ ?_<;>intro g_ b_ eT);refine zb ?_;exact Hf;refine zt ?_;(with_reducible apply a_.inline (hf:=Tryz.func48));(with_reducible assumption);(iterate 10 exact rfl);intro g_ fp fl;refine nz ?_;refine BI ?_;refine au ?_;refine E8 ?_;(refine AR.fG (i:=0) (j:=10) rfl aI rfl rfl aI ?_ ?_<;>intro g_ b_ eT);refine zb ?_;exact H4;refine zT ?_;refine Q3 ?_;(refine AR.fG (i:=0) (j:=11) rfl aI rfl rfl aI ?_ ?_<;>intro g_ b_ eT);refine zb ?_;exact HB;refine Ip ?_;intro g_ b_ eT;refine zb ?_;exact HU;refine vS ?_;intro g_ b_ eT;refine zt ?_;refine zb ?_;exact Hf;refine AR.xq (i:=9) (by assumption) rfl aI rfl aI ?_;refine zt ?_;(with_reducible apply a_.inline (hf:=Tryz.func48));(with_reducible assumption);(iterate 10 exact rfl);intro g_ fp fl;refine nz ?_;refine BI ?_;refine au ?_;refine zm ?_;refine Rw ?_;exact H4;refine yx ?_;intro g_ b_ eT;refine zT ?_;exact HB;refine uo ?_;intro g_ b_ eT;refine tE ?_;exact HU;refine AM ?_;intro g_ b_ eT;(with_reducible apply a_.fD);exact rfl;exact ah;(iterate 9 exact rfl);exact aa;refine jR ?_;refine wE ?_;intro g_ b_ eT;refine NY ?_)
    exact VR
   ·rw[decide_eq_false c1,Bool.false_and] at Ev
    have c1':=decide_eq_false c1
    (refine Cj ?_;refine aA ?_;refine JQ ?_;refine zk ?_;refine iK ?_;refine wY ?_;refine zc ?_;refine AW.gg [1,2,3] [4] rfl (by assumption) aI aI rfl ?_;show a_ .held _ _ _ [_,_,_] _ _;refine a_.iu rfl rfl rfl ?_;refine a_.c_ 84 1 1 rfl rfl rfl rfl ?_;refine n7 ?_;intro k_ iE;refine nz ?_;apply AR.cut [3,2,1,0,4,5,6,7,8,9,10,11];intro kv;apply AR.cut [3,2,1,0,4,5,6,7,8,9,10];intro ly;apply AR.cut [3,2,1,0,4,5,6,7,8,9];intro lu;apply AR.cut [3,2,1,0,4,5,6,7,8];intro lF;apply AR.cut [3,2,1,0,4,5,6,7];intro ni;(refine AR.m_ (i:=0) (j:=4) rfl aI rfl rfl aI ?_ ?_<;>intro g_ b_ eT);refine n7 ?_;refine AR.xq (i:=4) (by assumption) rfl aI rfl aI ?_;(with_reducible apply a_.inline (hf:=Tryz.func48));(with_reducible assumption);(iterate 10 exact rfl);intro g_ fp fl;refine nz ?_;refine BI ?_;refine au ?_;refine E8 ?_;refine MJ ?_;intro g_ b_ eT;refine zm ?_;refine Q3 ?_;(refine AR.fG (i:=6) (j:=7) rfl aI rfl rfl aI ?_ ?_<;>intro g_ b_ eT);refine Cw ?_;refine wy ?_;intro g_ b_ eT;refine Cw ?_;refine mX ?_;refine Q5 ?_;exact AR.perm aI ni;refine vE ?_;(refine AR.fG (i:=6) (j:=8) rfl aI rfl rfl aI ?_ ?_<;>intro g_ b_ eT);refine Cw ?_;exact GF;refine Cw ?_;refine xr ?_;intro g_ b_ eT;refine Cw ?_;refine mX ?_;exact Jh;(with_reducible apply a_.inline (hf:=Tryz.func48));(with_reducible assumption);(iterate 10 exact rfl);intro g_ fp fl;refine nz ?_;refine BI ?_;refine au ?_;refine E8 ?_;(refine AR.free 5 aI rfl rfl rfl (by first|exact fS.fN rfl rfl|exact fS.iD rfl rfl|exact fS.nilCheck rfl rfl) ?_);(refine AR.rC (i:=0) (j:=6) (m:=7) rfl aI rfl rfl rfl aI ?_ ?_ ?_<;>intro g_ b_ eT);refine n7 ?_;(refine AR.fG (i:=6) (j:=7) rfl aI rfl rfl aI ?_ ?_<;>intro g_ b_ eT);refine Cw ?_;refine wy ?_;intro g_ b_ eT;refine Cw ?_;exact GF;refine vE ?_;(refine AR.fG (i:=6) (j:=8) rfl aI rfl rfl aI ?_ ?_<;>intro g_ b_ eT);refine Cw ?_;exact GF;refine Cw ?_;refine xr ?_;intro g_ b_ eT;refine Cw ?_;exact Hf;refine vE ?_;(refine AR.fG (i:=0) (j:=7) rfl aI rfl rfl aI ?_ ?_<;>intro g_ b_ eT);refine zb ?_;refine wy ?_;intro g_ b_ eT;refine Cw ?_;exact GF;refine vE ?_;(refine AR.fG (i:=0) (j:=8) rfl aI rfl rfl aI ?_ ?_<;>intro g_ b_ eT);refine zb ?_;exact GF;refine vE ?_;(refine AR.fG (i:=0) (j:=9) rfl aI rfl rfl aI ?_ ?_<;>intro g_ b_ eT);refine zb ?_;exact Hf;refine vE ?_;(refine AR.fG (i:=0) (j:=10) rfl aI rfl rfl aI ?_ ?_<;>intro g_ b_ eT);refine zb ?_;refine mX ?_;exact BV;refine zF ?_;refine Q3 ?_;(refine AR.fG (i:=0) (j:=11) rfl aI rfl rfl aI ?_ ?_<;>intro g_ b_ eT);refine zb ?_;refine mX ?_;exact ss;refine Ip ?_;intro g_ b_ eT;refine zb ?_;refine mX ?_;exact pE;refine vE ?_;(refine AR.rC (i:=0) (j:=6) (m:=8) rfl aI rfl rfl rfl aI ?_ ?_ ?_<;>intro g_ b_ eT);refine n7 ?_;(refine AR.fG (i:=6) (j:=8) rfl aI rfl rfl aI ?_ ?_<;>intro g_ b_ eT);refine Cw ?_;exact GF;refine Cw ?_;refine xr ?_;intro g_ b_ eT;refine Cw ?_;exact Hf;refine vE ?_;(refine AR.fG (i:=0) (j:=8) rfl aI rfl rfl aI ?_ ?_<;>intro g_ b_ eT);refine zb ?_;exact GF;refine vE ?_;(refine AR.fG (i:=0) (j:=9) rfl aI rfl rfl aI ?_ ?_<;>intro g_ b_ eT);refine zb ?_;exact Hf;refine vE ?_;(refine AR.fG (i:=0) (j:=10) rfl aI rfl rfl aI ?_ ?_<;>intro g_ b_ eT);refine zb ?_;exact H4;refine zF ?_;refine Q3 ?_;(refine AR.fG (i:=0) (j:=11) rfl aI rfl rfl aI ?_ ?_<;>intro g_ b_ eT);refine zb ?_;exact HB;refine Ip ?_;intro g_ b_ eT;refine zb ?_;exact HU;refine vE ?_;(refine AR.fG (i:=0) (j:=6) rfl aI rfl rfl aI ?_ ?_<;>intro g_ b_ eT);refine zb ?_;refine xr ?_;intro g_ b_ eT;refine Cw ?_;exact Hf;refine vE ?_;(refine AR.fG (i:=0) (j:=9) rfl aI rfl rfl aI ?_ ?_<;>intro g_ b_ eT);refine zb ?_;exact Hf;refine vE ?_;(refine AR.fG (i:=0) (j:=10) rfl aI rfl rfl aI ?_ ?_<;>intro g_ b_ eT);refine zb ?_;exact H4;refine zF ?_;refine Q3 ?_;(refine AR.fG (i:=0) (j:=11) rfl aI rfl rfl aI ?_ ?_<;>intro g_ b_ eT);refine zb ?_;exact HB;refine Ip ?_;intro g_ b_ eT;refine zb ?_;exact HU;refine vS ?_;intro g_ b_ eT;refine Cw ?_;exact Hf;refine AR.xq (i:=9) (by assumption) rfl aI rfl aI ?_;refine Cw ?_;exact H4;refine yx ?_;intro g_ b_ eT;refine zF ?_;exact HB;refine uo ?_;intro g_ b_ eT;refine tE ?_;exact HU;refine AM ?_;intro g_ b_ eT;(with_reducible apply a_.fD);exact rfl;exact ah;(iterate 9 exact rfl);exact aa;refine jR ?_;refine wE ?_;intro g_ b_ eT;refine NY ?_)
    exact VR
 ·have he:i=(r / 2).toNat+1:=by omega
  obtain⟨d,hd⟩:∃d,d=ma gs vals i:=⟨_,rfl⟩
  obtain⟨hd2,MP⟩:=Io gs vals (r:=r) aJ (d:=d) (by rw[hd,he])
  rw[MP,← hd]
  rw[← hd] at C9
  clear MP hd
  (refine Cp ?_;refine iK ?_;refine a_.iu rfl rfl rfl ?_;refine zm ?_;(with_reducible apply a_.inline (hf:=Tryz.func48));(with_reducible assumption);(iterate 10 exact rfl);intro g_ fp fl;refine nz ?_;refine BI ?_;refine au ?_;refine zm ?_;refine Rw ?_;refine ku ?_)
  (apply eY;(exact gm.one (.tmp rfl rfl));(refine Le.fq ?_;(rfl)))
end Go.Ab.N19
/- Chapter 19:the formula of a reference,walked. -/
namespace Go.Ab.N19
open Go Go.Proofs Go.RowKit Go.Ab
open Nat (reduceAdd reduceSub)
set_option maxRecDepth 20000
set_option maxHeartbeats 4000000
attribute [local irreducible] AW a_ gr fz AR fH fv fM gk canon eX kb mU
theorem FW {gs:List fg} {n:Int} {G:List Int} {k:Nat} (hk:k<G.length):(G.take (k+1)).flatMap (ml gs n G)=(G.take k).flatMap (ml gs n G)++ml gs n G G[k]:=by
 rw[fI hk,List.flatMap_append];simp
theorem u7 {gs:List fg} {n:Int} {G:List Int}:∀l:List Int,(l.flatMap (ml gs n G)).length=3*l.length
 |[]=>rfl
 |x::l=>by rw[List.flatMap_cons,bW,u7 l];simp [ml];omega
theorem yq {gs:List fg} (hc:gD gs) {r:Int} (hr:gz gs r):(mU gs r).length≤gs.length:=by
 have h1:=wu hc hr
 unfold mU
 have:=HQ (visitM gs gs.length [] (r / 2).toNat)
 omega
theorem U3 {gs:List fg} (hc:gD gs) {i:Nat} (hi:i<gs.length):0≤(lH gs i).a∧(lH gs i).a≤2*(gs.length:Int)+8:=by
 rw[o7 hi]
 rcases hc.cases hi with h|⟨h,h1,h2⟩|⟨h,h1,h2,h3⟩
 ·by_cases h0:i=0
  ·subst h0
   have:=hc.zero
   rw[a8 hi] at this
   rw[Option.some.inj this]
   simp;omega
  ·rcases hc.ok i hi h0 with h1|h1<;>omega
 ·omega
 ·omega
theorem va.Oo {gs:List fg} (hc:gD gs) {G:List Int} {x:Int} (h:va gs G x) {n:Int} (hn:0≤n):kb gs n G x≠0∧kb gs n G x≤n+8+(G.length:Nat)∧ -(n+8+(G.length:Nat):Int)≤kb gs n G x:=by
 have h1:1≤w9 gs n G (x / 2)∧w9 gs n G (x / 2)≤n+8+(G.length:Nat):=by
  unfold w9
  by_cases hx:x / 2∈G
  ·rw[if_pos hx]
   have:=gT hx
   omega
  ·rw[if_neg hx]
   have h1:=h.lo
   have h2:=h.hi
   rcases hc.kind (i:=(x / 2).toNat) aJ aJ with h3|h3
   ·omega
   ·exact absurd (h.and h3) hx
 unfold kb
 split<;>omega
theorem Sh {gs:List fg} (hc:gD gs) (hl:gs.length≤10000) {r:Int} (hr:gz gs r) (n:Int) (hn:0≤n∧n≤1000):Fn Tryz.prog 21 [DD gs,eU r,eU n] (KA (lf gs r n).1 (lf gs r n).2):=by
 have xp:=hr
 unfold gz at hr
 by_cases h0:r=0
 ·have e:lf gs r n=(n,[]):=if_pos h0
  rw[e]
  refine Fn.enter (n:=92) Tryz.func21 rfl rfl rfl rfl rfl (by decide) fun g fp fl=>?_;(try refine nz ?_)
  (refine Q_ ?_;refine zc ?_;refine qS ?_;refine kV ?_;refine zd ?_;refine AW.ret ?_;refine ic ?_;refine gV ?_)
  (apply eY;(exact gm.one (.cell rfl rfl rfl rfl));(refine Le.lS ?_;refine hO.cons ?_ ?_;(with_reducible exact Le.pv _);refine hO.cons ?_ ?_;exact Le.nil _;exact hO.nil))
 ·by_cases h1:r=1
  ·have e:lf gs r n=(n,[[]]):=by unfold lf;rw[if_neg h0,if_pos h1]
   rw[e]
   refine Fn.enter (n:=92) Tryz.func21 rfl rfl rfl rfl rfl (by decide) fun g fp fl=>?_;(try refine nz ?_)
   (refine Q_ ?_;refine zk ?_;refine iK ?_;refine wY ?_;refine zc ?_;refine iK ?_;refine a_.iu rfl rfl rfl ?_;(with_reducible apply a_.inline (hf:=Tryz.func44));(with_reducible assumption);(iterate 10 exact rfl);intro g_ fp fl;refine nz ?_;refine AW.region ?_;refine vm ?_;refine zm ?_;(with_reducible apply a_.Zp 5 1);exact rfl;(try refine nz ?_);refine a_.oE rfl rfl rfl rfl rfl rfl rfl rfl ?_;(with_reducible apply a_.oN);exact rfl;exact ah;(iterate 8 exact rfl);exact aa;refine Mv ?_;refine ko ?_;refine zL ?_;refine zB ?_;refine zd ?_;refine AW.ret ?_;refine ic ?_;refine gV ?_)
   (apply eY;(exact gm.one (.cell rfl rfl rfl rfl));(refine Le.lS ?_;refine hO.cons ?_ ?_;(with_reducible exact Le.pv _);refine hO.cons ?_ ?_;exact Le.own _ _ _ _ rfl;exact hO.nil))
  ·have e:lf gs r n=(n+((mU gs r).length:Nat),Bw gs r n (mU gs r)):=by unfold lf;rw[if_neg h0,if_neg h1]
   rw[e]
   have jI:=tM hc xp
   have nG:=yq hc xp
   have jg:=AB hc aJ xp
   generalize mU gs r=G at jI nG jg ⊢
   have lY:=fun x h1 h2=>Ow gs G n x jI.inc aJ aJ h1 h2 aJ (by have:=U3 hc (i:=(x / 2).toNat) aJ;omega)
   have hr3:=lY r aJ (by omega)
   have sr:=(jI.said hc xp aJ).Oo hc (n:=n) (by omega)
   refine Fn.enter (n:=92) Tryz.func21 rfl rfl rfl rfl rfl (by decide) fun g fp fl=>?_;(try refine nz ?_)
   (refine Q_ ?_;refine zk ?_;refine iK ?_;refine wY ?_;refine zk ?_;refine AW.skip ?_;refine yM ?_;refine qS ?_;refine zm ?_;refine zP (jg) ?_;refine L8 ?_;refine a_.s_ rfl rfl rfl rfl rfl rfl rfl ?_;refine a_.assign rfl rfl rfl ?_;refine nz ?_;refine kW ?_;refine zq ?_;refine zb ?_;refine nq ?_)
   (refine nz ?_;apply AW.gJ [33,32,10,9,8,7,6,3,1] [4,2,1,0] (fun k:Nat=>([(34,eU k)]:List (Nat×AV))) (fun k:Nat=>([(3,some (.box [eU n,.own 5 25 1 (((G.take k).flatMap (ml gs n G)).map fun c=>[ints c])])),(5,some .row)]:List (Nat×Option Ob))) (fun k:Nat=>k≤G.length) (fun k:Nat=>G.length - k) (0);(conv=>lhs;simp only[Nf.ot,Nf.all,df,reduceAdd,reduceSub]);(all_goals skip))
   ·exact bm _
   ·exact fe rfl (by(refine aC ?_;(iterate 9 refine aC ?_);exact trivial)) (by(refine⟨.box _ rfl ?_,?_⟩;refine aC ?_;refine⟨.jN _ _ _ rfl rfl,?_⟩;exact trivial;refine⟨.iW rfl,?_⟩;refine⟨.box _ rfl ?_,?_⟩;refine aC ?_;exact trivial;refine⟨.box _ rfl ?_,?_⟩;(iterate 2 refine aC ?_);exact trivial;refine⟨.box _ rfl ?_,?_⟩;refine aC ?_;exact trivial;refine⟨.box _ rfl ?_,?_⟩;refine aC ?_;(iterate 2 exact trivial))) rfl
   rintro k hk
   have iX:=u7 (gs:=gs) (n:=n) (G:=G) (G.take k)
   have FL:(G.take k).length≤10000:=by rw[cO];omega
   by_cases fy:k<G.length
   ·have hm:=cY fy
    obtain⟨x0,x1,x2⟩:=jI.and _ hm
    have jY:=FW (gs:=gs) (n:=n) (G:=G) fy
    have s1:=(jI.own hm hc).Oo hc (n:=n) (by omega)
    have s2:=(jI.JS hc hm).Oo hc (n:=n) (by omega)
    have s3:=(jI.Kq hc hm).Oo hc (n:=n) (by omega)
    have k1:=jI.JS hc hm
    have k2:=jI.Kq hc hm
    have Z4:=lY (2*G[k]) aJ (by omega)
    have DW:=lY (lH gs G[k].toNat).a (by have:=k1.lo;omega) k1.hi
    have YV:=lY (lH gs G[k].toNat).b (by have:=k2.lo;omega) k2.hi
    have Cu:G[k].toNat<gs.length:=vk x2
    rw[show ml gs n G G[k]=[[-(kb gs n G (2*G[k])),kb gs n G (lH gs G[k].toNat).a],[-(kb gs n G (2*G[k])),kb gs n G (lH gs G[k].toNat).b],[kb gs n G (2*G[k]),-(kb gs n G (lH gs G[k].toNat).a),-(kb gs n G (lH gs G[k].toNat).b)]] from rfl] at jY
    rw[o7 Cu] at DW YV s2 s3 jY
    generalize kb gs n G (2*G[k])=lg at Z4 s1 jY
    generalize kb gs n G gs[G[k].toNat].a=la at DW s2 jY
    generalize kb gs n G gs[G[k].toNat].b=lb at YV s3 jY
    generalize (G.take k).flatMap _=cls at iX jY ⊢
    have hq:(cls++ [[-lg,la],[-lg,lb],[lg,-la,-lb]]).map (fun c:List Int=>[ints c])=cls.map (fun c:List Int=>[ints c])++ [[ints [-lg,la]]]++ [[ints [-lg,lb]]]++ [[ints [lg,-la,-lb]]]:=by simp
    (refine Cj ?_;refine aA ?_;refine zr ?_;refine kc ?_;refine AW.gb rfl rfl aI (by with_reducible assumption) ?_;refine a_.iu rfl rfl rfl ?_;refine zm ?_;refine a_.mul rfl rfl rfl rfl rfl aJ ?_;refine zC (Z4) ?_;refine a_.iu rfl rfl rfl ?_;refine En ?_;refine ay ?_;refine a_.kQ 84 1 1 1 rfl rfl rfl rfl ?_;refine nz ?_;refine zr ?_;refine zC (DW) ?_;refine a_.iu rfl rfl rfl ?_;refine En ?_;refine ay ?_;refine a_.kQ 84 2 2 1 rfl rfl rfl rfl ?_;refine nz ?_;refine zr ?_;refine zC (YV) ?_;(iterate 3 refine za ?_);refine zd ?_;refine iK ?_;refine a_.iu rfl rfl rfl ?_;refine zm ?_;refine Oz ?_;(with_reducible apply a_.inline (hf:=Tryz.func44));(with_reducible assumption);(iterate 10 exact rfl);intro g_ fp fl;refine Oc ?_;(with_reducible apply a_.fD);exact rfl;exact ah;(iterate 9 exact rfl);exact aa;refine nz ?_;refine Mv ?_;refine ko ?_;refine a_.iu rfl rfl rfl ?_;refine zm ?_;refine Oz ?_;(with_reducible apply a_.inline (hf:=Tryz.func44));(with_reducible assumption);(iterate 10 exact rfl);intro g_ fp fl;refine Oc ?_;(with_reducible apply a_.fD);exact rfl;exact ah;(iterate 9 exact rfl);exact aa;refine nz ?_;refine Mv ?_;refine BG ?_;refine a_.iu rfl rfl rfl ?_;(iterate 2 refine zm ?_);refine a_.neg rfl rfl rfl aJ ?_;refine zm ?_;refine a_.neg rfl rfl rfl aJ ?_;refine a_.W5 rfl rfl rfl rfl rfl rfl rfl rfl rfl rfl rfl rfl rfl rfl ?_;refine nz ?_;(with_reducible apply a_.inline (hf:=Tryz.func44));(with_reducible assumption);(iterate 10 exact rfl);intro g_ fp fl;refine Oc ?_;(with_reducible apply a_.fD);exact rfl;exact ah;(iterate 9 exact rfl);exact aa;refine nz ?_;refine Mv ?_;refine Bt ?_)
    exact⟨k+1,by omega,by omega,fe rfl (by(refine⟨.gq (by first|rfl|(rw[jY,hq];rfl)),?_⟩;refine⟨.gq (by first|rfl|(rw[jY,hq];rfl)),?_⟩;refine⟨.iz (by first|rfl|(rw[jY,hq];rfl)),?_⟩;(iterate 6 refine aC ?_);refine⟨.gq (by first|rfl|(rw[jY,hq];rfl)),?_⟩;exact trivial)) (by(refine⟨.box _ rfl ?_,?_⟩;refine⟨.gq (by first|rfl|(rw[jY,hq];rfl)),?_⟩;refine⟨.ff (by first|rfl|(rw[jY,hq];rfl)) rfl,?_⟩;exact trivial;refine aF ?_;refine⟨.box _ rfl ?_,?_⟩;refine⟨.iz (by first|rfl|(rw[jY,hq];rfl)),?_⟩;exact trivial;refine⟨.box _ rfl ?_,?_⟩;refine⟨.gq (by first|rfl|(rw[jY,hq];rfl)),?_⟩;refine aC ?_;exact trivial;refine⟨.box _ rfl ?_,?_⟩;refine⟨.gq (by first|rfl|(rw[jY,hq];rfl)),?_⟩;exact trivial;refine⟨.box _ rfl ?_,?_⟩;refine⟨.iz (by first|rfl|(rw[jY,hq];rfl)),?_⟩;(iterate 2 exact trivial))) rfl⟩
   ·rw[gP (l:=G) aJ] at iX ⊢
    unfold Bw
    generalize kb gs n G r=lr at hr3 sr ⊢
    generalize G.flatMap _=cls at iX ⊢
    (refine Cp ?_;refine iK ?_;(iterate 2 refine a_.iu rfl rfl rfl ?_);refine zm ?_;refine zC (hr3) ?_;refine tE ?_;(with_reducible apply a_.inline (hf:=Tryz.func44));(with_reducible assumption);(iterate 10 exact rfl);intro g_ fp fl;refine Oc ?_;(with_reducible apply a_.fD);exact rfl;exact ah;(iterate 9 exact rfl);exact aa;refine nz ?_;refine Mv ?_;refine ko ?_;refine a_.c_ 24 0 0 rfl rfl rfl rfl ?_;(iterate 2 refine zb ?_);refine zn ?_;refine zj ?_;refine a_.c_ 24 0 0 rfl rfl rfl rfl ?_;refine GB ?_;refine nz ?_;refine ko ?_;refine mJ ?_;refine kV ?_;refine zd ?_;refine AW.ret ?_)
    (apply eY;(exact gm.one (.cell rfl rfl rfl rfl));(refine Le.lS ?_;refine hO.cons ?_ ?_;(with_reducible exact Le.pv _);refine hO.cons ?_ ?_;refine Le.ff ?_;(first|rfl|(rw[cR];rfl));exact hO.nil))
end Go.Ab.N19
