/- Chapter 19: the extension of an assignment, walked. -/
import Derived.Test.YtigjjjpcjnifhaaGreatAuNC6
import Derived.Test.YtigjjjpcjnifhaaGreatAbZ
import Derived.Test.YtigjjjpcjnifhaaGreatAbL3
import Derived.Test.YtigjjjpcjnifhaaGreatAbL4
import Derived.Test.YtigjjjpcjnifhaaGreatAbL2
import Derived.Test.YtigjjjpcjnifhaaGreatAuNA1
import Derived.Test.YtigjjjpcjnifhaaGreatAuS7
import Derived.Test.YtigjjjpcjnifhaaGreatAuA3
import Derived.Test.YtigjjjpcjnifhaaGreatAuS9
set_option linter.unusedSimpArgs false
set_option linter.unusedVariables false
open List renaming replicate→bZ,getElem?_map→a7,getElem?_eq_getElem→a8,getElem?_eq_none→cH,map_append→cR,append_assoc→dh,length_take→cO,getElem_mem→cY,length_append→bW,length_cons→dL,length_nil→bV,getD_eq_getElem?_getD→c6,mem_append→bX,mem_flatMap→eQ,mem_cons→bw,not_mem_nil→eR,take_of_length_le→cJ,any_eq_true→dc,all_eq_true→bD,append_nil→bt
open Int renaming toNat_natCast→dq
open Nat renaming reduceBEq→df,zero_le→bm,le_refl→aP
open Bool renaming eq_iff_iff→eS
namespace Go.Ab.N19
open Go Go.Proofs Go.RowKit Go.Ab
open Nat (reduceAdd reduceSub)
set_option maxRecDepth 20000
set_option maxHeartbeats 4000000
attribute [local irreducible] AW a_ gr fz AR fH fv fM gk canon eX kb mU
theorem E9 (l:List Bool) (hl:l.length≤1000000):MY Tryz.prog 49 [.pv (qV l)] 4 1 (l.map kX):=by
 refine MY.enter (n:=8) Tryz.func49 rfl rfl rfl rfl rfl (by decide) fun g fp fl=>?_;(try refine nz ?_)
 by_cases h0:l=[]
 ·subst h0
  have e0:([]:List Bool).length=0:=rfl
  (refine rK ?_;(focus ((with_reducible apply a_.tv);(iterate 6 exact rfl);all_goals intro oD));refine oz ?_;refine qP ?_;(all_goals skip);rotate_left;refine HD ?_;refine zm ?_;(with_reducible apply a_.fD);exact rfl;exact ah;(iterate 9 exact rfl);exact aa;refine nz ?_;refine xV ?_;(all_goals skip);rotate_left)
  all_goals ((first|(refine jo (gm.one (.tmp rfl rfl)) ?_)|(refine jo (gm.one (.cell1 rfl rfl rfl rfl)) ?_)|(refine nX (gm.one (.tmp rfl rfl)) ?_));(first|rfl|simp))
 ·have e0:0<l.length:=List.length_pos_iff.2 h0
  have e1:¬l.map kX=[]:=by simpa using h0
  clear h0
  (refine rK ?_;(focus ((with_reducible apply a_.tv);(iterate 6 exact rfl);all_goals intro oD));refine oz ?_;refine qP ?_;(all_goals skip);rotate_left;refine HD ?_;refine zm ?_;(with_reducible apply a_.fD);exact rfl;exact ah;(iterate 9 exact rfl);exact aa;refine nz ?_;refine xV ?_;(all_goals skip);rotate_left)
  ·exact absurd oD e1
  ·((first|(refine jo (gm.one (.tmp rfl rfl)) ?_)|(refine jo (gm.one (.cell1 rfl rfl rfl rfl)) ?_)|(refine nX (gm.one (.tmp rfl rfl)) ?_));(first|rfl|simp))
theorem KX (n:Nat) (v:List Bool):copied (v.map kX) (bZ n [PV.lit (.bool false)])=(ti n v).map kX:=by
 apply List.ext_getElem?
 intro i
 by_cases h:i<n
 ·have hR:((ti n v).map kX)[i]? =some (kX (v.getD i false)):=by
   rw[a7,ti,a7,List.getElem?_range h];rfl
  rw[yk (by simpa using h),hR]
  simp only[List.length_map]
  by_cases hi:i<v.length
  ·rw[if_pos hi,a7,a8 hi,BO hi];rfl
  ·rw[if_neg hi,Cz aJ,List.getElem?_replicate,if_pos h];rfl
 ·rw[cH (by rw[oo];simp;omega),cH (by simp [lx];omega)]
theorem Mb {gs:List fg} {G:List Int} {v:List Bool} {k:Nat} (hk:k<G.length):pD gs (G.take (k+1)) v=pD gs (G.take k) v++ [jH gs v (2*G[k])]:=by
 unfold pD
 rw[fI hk,cR,dh];rfl
theorem Sk {gs:List fg} (hc:gD gs) (hl:gs.length≤10000) {r:Int} (hr:gz gs r) (n:Nat) (hn:n≤1000) (vals:List Bool) (hv:vals.length≤100000):Fn Tryz.prog 24 [DD gs,eU r,eU (n:Nat),.pv (qV vals)] (.pv (qV (uM gs r n vals))):=by
 have xp:=hr
 unfold gz at hr
 have hp:=lx n vals
 have hpc:copied (vals.map kX) (bZ ((n:Nat):Int).toNat [PV.lit (.bool false)])=(ti n vals).map kX:=by rw[dq];exact KX n vals
 refine Fn.enter (n:=41) Tryz.func24 rfl rfl rfl rfl rfl (by decide) fun g fp fl=>?_;(try refine nz ?_)
 refine AW.jK 3 rfl fun hlen=>?_
 (refine ny ?_;refine rz ?_;refine zm ?_;refine PQ ?_;refine nz ?_;refine B8 ?_;refine iK ?_;refine se ?_;(refine a_.copy (15::9::14::List.nil) rfl rfl ⟨rfl,rfl,rfl,trivial⟩ rfl rfl rfl rfl rfl rfl ?_);refine Ol ?_;refine ko ?_;refine a_.fX rfl rfl rfl ?_)
 rw[hpc]
 unfold uM
 generalize ti n vals=v at hp ⊢
 have Qq:=E9 v (by omega)
 by_cases h2:r<2
 ·rw[if_pos h2]
  ((with_reducible apply a_.JZ (Qq));exact Ee (fun _=>⟨_,rfl⟩) _;exact aj;exact rfl;refine nz ?_;refine B8 ?_;refine zo ?_;refine j6 ?_;refine zs ?_;refine jD ?_;refine iK ?_;refine Fk ?_;refine gV ?_)
  (apply eY;(exact gm.one (.tmp rfl rfl));(exact Le.own _ _ _ _ rfl))
 ·rw[if_neg h2]
  have jI:=tM hc xp
  have nG:=yq hc xp
  have jg:=AB hc aJ xp
  generalize mU gs r=G at jI nG jg ⊢
  ((with_reducible apply a_.JZ (Qq));exact Ee (fun _=>⟨_,rfl⟩) _;exact aj;exact rfl;refine nz ?_;refine B8 ?_;refine zo ?_;refine j6 ?_;refine zs ?_;refine qx ?_;refine qS ?_;refine zm ?_;refine zP (jg) ?_;refine nq ?_)
  (refine nz ?_;apply AW.gJ [26,25,10,8,4] [2,0] (fun k:Nat=>([(27,eU k),(9,.own 1 4 1 ((pD gs (G.take k) v).map kX))]:List (Nat×AV))) (fun k:Nat=>([(1,some .row)]:List (Nat×Option Ob))) (fun k:Nat=>k≤G.length) (fun k:Nat=>G.length - k) (0);(conv=>lhs;simp only[Nf.ot,Nf.all,df,reduceAdd,reduceSub]);(all_goals skip))
  ·exact bm _
  ·exact fe rfl (by(refine⟨.gq (by first|rfl|(unfold pD;simp)),?_⟩;refine⟨.ff (by first|rfl|(unfold pD;simp)) rfl,?_⟩;refine⟨.gq (by first|rfl|(unfold pD;simp)),?_⟩;refine⟨.iz (by first|rfl|(unfold pD;simp)),?_⟩;refine⟨.ff (by first|rfl|(unfold pD;simp)) rfl,?_⟩;(iterate 2 refine aC ?_);exact trivial)) (by(refine aF ?_;refine aF ?_;refine⟨.box _ rfl ?_,?_⟩;refine⟨.iz (by first|rfl|(unfold pD;simp)),?_⟩;(iterate 2 exact trivial))) rfl
  rintro k hk
  have JL:=yl gs (G.take k) v
  have FL:(G.take k).length≤10000:=by rw[cO];omega
  by_cases fy:k<G.length
  ·obtain⟨x0,x1,x2⟩:=jI.and _ (cY fy)
   have jY:=Mb (gs:=gs) (v:=v) fy
   have MP:=Ep gs v (2*G[k]) hc ⟨by omega,by omega⟩ aJ (by omega)
   generalize pD gs (G.take k) v=ex at JL jY ⊢
   (refine Cj ?_;refine aA ?_;refine zr ?_;refine lK ?_;refine sg ?_;refine a_.fX rfl rfl rfl ?_;refine mJ ?_;refine se ?_;refine a_.mul rfl rfl rfl rfl rfl aJ ?_;refine zA (MP) ?_;refine tE ?_;(with_reducible apply a_.fD);exact rfl;exact ah;(iterate 9 exact rfl);exact aa;refine nz ?_;refine vG ?_;refine sm ?_)
   exact⟨k+1,by omega,by omega,fe rfl (by(refine⟨.gq (by first|rfl|(rw[jY,cR];rfl)),?_⟩;refine⟨.ff (by first|rfl|(rw[jY,cR];rfl)) rfl,?_⟩;refine⟨.gq (by first|rfl|(rw[jY,cR];rfl)),?_⟩;refine⟨.iz (by first|rfl|(rw[jY,cR];rfl)),?_⟩;refine⟨.ff (by first|rfl|(rw[jY,cR];rfl)) rfl,?_⟩;(iterate 2 refine aC ?_);exact trivial)) (by(refine aF ?_;refine aF ?_;refine⟨.box _ rfl ?_,?_⟩;refine⟨.iz (by first|rfl|(rw[jY,cR];rfl)),?_⟩;(iterate 2 exact trivial))) rfl⟩
  ·rw[gP (l:=G) aJ]
   (refine Cp ?_;refine iK ?_;refine Fk ?_)
   (apply eY;(exact gm.one (.tmp rfl rfl));(exact Le.own _ _ _ _ rfl))
end Go.Ab.N19
/- Chapter 19:the reference's circuits built,walked. -/
namespace Go.Ab.N19
open Go Go.Proofs Go.Ab
open Nat (reduceAdd reduceSub)
set_option maxRecDepth 20000
set_option maxHeartbeats 4000000
attribute [local irreducible] AW a_ gr fz AR fH fv fM gk nZ
theorem DY (gs:List fg) (x:fg) (hl:gs.length≤1000000):Fn Tryz.prog 105 [DD gs,gtV x] (.gY [DD (rG gs x).1,eU (rG gs x).2]):=by
 have hf:=OQ gs x
 have hr:=ry (gs:=gs) (g:=x)
 unfold rG
 generalize nZ gs x=i at hf hr ⊢
 refine Fn.enter (n:=35) Tryz.func105 rfl rfl rfl rfl rfl (by decide) fun g fp fl=>?_;(try refine nz ?_)
 by_cases h0:0≤i
 ·rw[if_pos h0]
  (refine RX ?_;refine jD ?_;refine qS ?_;refine zm ?_;refine a_.mul rfl rfl rfl rfl rfl aJ ?_;refine kV ?_;refine qP ?_)
  (apply eY;(exact gm.two (.cell rfl rfl rfl rfl) (.tmp rfl rfl));(refine Le.tV ?_;refine hO.cons ?_ ?_;refine Le.lS ?_;refine hO.cons ?_ ?_;(with_reducible exact Le.pv _);exact hO.nil;refine hO.cons ?_ ?_;refine Le.eU ?_;(rfl);exact hO.nil))
 ·rw[if_neg h0]
  by_cases h1:20000≤gs.length
  ·rw[if_pos h1]
   (refine RX ?_;refine qx ?_;refine iK ?_;refine Fl ?_;refine a_.geq rfl rfl rfl rfl rfl ?_;refine jD ?_;refine zu ?_)
   (apply eY;(exact gm.two (.cell rfl rfl rfl rfl) (.tmp rfl rfl));(refine Le.tV ?_;refine hO.cons ?_ ?_;refine Le.lS ?_;refine hO.cons ?_ ?_;(with_reducible exact Le.pv _);exact hO.nil;refine hO.cons ?_ ?_;refine Le.eU ?_;(rfl);exact hO.nil))
  ·rw[if_neg h1]
   (refine RX ?_;refine qx ?_;refine iK ?_;refine Fl ?_;refine a_.geq rfl rfl rfl rfl rfl ?_;refine uD ?_;refine iK ?_;refine rz ?_;refine zm ?_;refine a_.c_ 50 0 0 rfl rfl rfl rfl ?_;refine zb ?_;(with_reducible apply a_.oN);exact rfl;exact ah;(iterate 8 exact rfl);exact aa;refine nz ?_;refine B8 ?_;refine BR ?_;refine mJ ?_;refine a_.AJ rfl rfl rfl rfl rfl rfl rfl rfl rfl rfl ?_;refine nz ?_;(with_reducible apply a_.fD);exact rfl;exact ah;(iterate 9 exact rfl);exact aa;refine nz ?_;refine B8 ?_;refine zo ?_;refine AW.gg [0,1] [6] rfl (by assumption) aI aI rfl ?_;show a_ .held _ _ _ [_,_] _ _;refine a_.fX rfl rfl rfl ?_;refine a_.oZ 50 [0] rfl rfl rfl rfl rfl rfl rfl rfl rfl ?_;refine jR ?_;intro k_ iE;refine AR.free 2 aI rfl rfl rfl (fS.fieldAddr _ _ 0 rfl rfl rfl) ?_;(try refine nz ?_);apply AR.cut [2,1,0,3,4,5,6];intro kv;apply AR.cut [2,1,0,3,4,6];intro ly;apply AR.cut [2,1,0,3,6];intro lu;(refine AR.m_ (i:=3) (j:=6) rfl aI rfl rfl aI ?_ ?_<;>intro g_ b_ eT);refine n7 ?_;(refine AR.m_ (i:=4) (j:=6) rfl aI rfl rfl aI ?_ ?_<;>intro g_ b_ eT);refine zn ?_;refine Q3 ?_;(refine AR.m_ (i:=5) (j:=6) rfl aI rfl rfl aI ?_ ?_<;>intro g_ b_ eT);refine a_.mul rfl rfl rfl rfl rfl aJ ?_;refine xr ?_;intro g_ b_ eT;refine kV ?_;refine mX ?_;exact pE;refine kV ?_;refine mX ?_;exact ss;refine kV ?_;refine mX ?_;exact BV;refine zB ?_;refine jR ?_;refine AR.im (i:=3) rfl aI rfl aI ?_;intro g_ b_ eT;refine zb ?_;refine mX ?_;refine AR.meet lu aI (fun g_=>fe rfl ?_ ?_ rfl);(iterate 8 refine aC ?_);exact RH;exact Ra;refine HL ?_;intro g_ b_ eT;refine zn ?_;refine mX ?_;refine AR.meet ly aI (fun g_=>fe rfl ?_ ?_ rfl);(iterate 9 refine aC ?_);exact RH;exact Ra;refine MJ ?_;intro g_ b_ eT;refine a_.mul rfl rfl rfl rfl rfl aJ ?_;refine mX ?_;refine AR.meet kv aI (fun g_=>fe rfl ?_ ?_ rfl);(iterate 10 refine aC ?_);exact RH;exact Ra;refine AR.im (i:=7) rfl aI rfl aI ?_;intro g_ b_ eT;refine za ?_;refine Q3 ?_;refine Cq ?_;refine AW.ret ?_)
   (apply eY;(exact gm.two (.cell rfl rfl rfl rfl) (.tmp rfl rfl));(refine Le.tV ?_;refine hO.cons ?_ ?_;refine Le.lS ?_;refine hO.cons ?_ ?_;refine Le.ff ?_;(first|rfl|(rw[cR];rfl));exact hO.nil;refine hO.cons ?_ ?_;refine Le.eU ?_;(first|rfl|(rw[cR];rfl));exact hO.nil))
theorem Ll (gs:List fg) (v:Int) (hl:gs.length≤1000000):Fn Tryz.prog 79 [DD gs,eU v] (.gY [DD (tc gs v).1,eU (tc gs v).2]):=by
 have hs:=DY gs ⟨1,v,0⟩ hl
 unfold tc
 refine Fn.enter (n:=19) Tryz.func79 rfl rfl rfl rfl rfl (by decide) fun g fp fl=>?_;(try refine nz ?_)
 by_cases h0:v<1∨20000<v
 ·rw[if_pos h0]
  (refine ny ?_;refine mV ?_;refine yf ?_;refine zs ?_;refine zm ?_;(focus ((with_reducible apply a_.tD);(iterate 6 exact rfl);all_goals intro oD));refine zm ?_;refine vi ?_;refine jD ?_;refine zu ?_;(all_goals skip);rotate_left;refine FP ?_;refine zT ?_;refine xj ?_;refine zu ?_;(all_goals skip);rotate_left)
  all_goals (apply eY;(exact gm.two (.cell rfl rfl rfl rfl) (.tmp rfl rfl));(refine Le.tV ?_;refine hO.cons ?_ ?_;refine Le.lS ?_;refine hO.cons ?_ ?_;(with_reducible exact Le.pv _);exact hO.nil;refine hO.cons ?_ ?_;refine Le.eU ?_;(rfl);exact hO.nil))
 ·rw[if_neg h0]
  have h1:¬v<1:=by omega
  have h2:¬20000<v:=by omega
  (refine ny ?_;refine mV ?_;refine yf ?_;refine zs ?_;refine xB ?_;refine a_.gtr rfl rfl rfl rfl rfl ?_;refine zF ?_;refine uD ?_;refine qS ?_;refine zm ?_;refine a_.oZ 84 [0,1] rfl rfl rfl rfl rfl rfl rfl rfl rfl ?_;refine nz ?_;refine zP (hs) ?_;(iterate 2 refine a_.extract rfl rfl rfl rfl ?_);refine kV ?_;refine ku ?_)
  (apply eY;(exact gm.two (.cell rfl rfl rfl rfl) (.tmp rfl rfl));(refine Le.tV ?_;refine hO.cons ?_ ?_;refine Le.lS ?_;refine hO.cons ?_ ?_;(with_reducible exact Le.pv _);exact hO.nil;refine hO.cons ?_ ?_;refine Le.eU ?_;(rfl);exact hO.nil))
theorem yJ (gs:List fg) (a b:Int) (hl:gs.length≤400000) (ha: -1000000≤a∧a≤1000000) (hb: -1000000≤b∧b≤1000000):Fn Tryz.prog 80 [DD gs,eU a,eU b] (.gY [DD (l_ gs a b).1,eU (l_ gs a b).2]):=by
 have hs:=DY gs ⟨2,min a b,max a b⟩ (by omega)
 have hn:=kh a ha
 have sA:ir a=ir a:=rfl
 unfold l_
 generalize ir a=na at hn ⊢
 refine Fn.enter (n:=67) Tryz.func80 rfl rfl rfl rfl rfl (by decide) fun g fp fl=>?_;(try refine nz ?_)
 by_cases h0:a<0∨b<0∨2*(gs.length:Int)≤a∨2*(gs.length:Int)≤b
 ·rw[if_pos h0]
  (refine ny ?_;refine mV ?_;refine rz ?_;refine Fl ?_;refine a_.mul rfl rfl rfl rfl rfl aJ ?_;refine yf ?_;refine zs ?_;refine zm ?_;(focus ((with_reducible apply a_.tD);(iterate 6 exact rfl);all_goals intro oD));refine qn ?_;refine zs ?_;refine zF ?_;refine zm ?_;(focus ((with_reducible apply a_.tD);(iterate 6 exact rfl);all_goals intro oD));refine xB ?_;refine KE ?_;refine zm ?_;(focus ((with_reducible apply a_.tD);(iterate 6 exact rfl);all_goals intro oD));refine xB ?_;refine KE ?_;refine jD ?_;refine zu ?_;(all_goals skip);rotate_left;refine S6 ?_;refine xj ?_;refine zu ?_;(all_goals skip);rotate_left;refine S6 ?_;refine zm ?_;refine E3 ?_;refine xj ?_;refine zu ?_;(all_goals skip);rotate_left;refine FP ?_;refine zT ?_;refine zm ?_;refine E3 ?_;refine zm ?_;refine E3 ?_;refine xj ?_;refine zu ?_;(all_goals skip);rotate_left)
  all_goals (apply eY;(exact gm.two (.cell rfl rfl rfl rfl) (.tmp rfl rfl));(refine Le.tV ?_;refine hO.cons ?_ ?_;refine Le.lS ?_;refine hO.cons ?_ ?_;(with_reducible exact Le.pv _);exact hO.nil;refine hO.cons ?_ ?_;refine Le.eU ?_;(rfl);exact hO.nil))
 ·rw[if_neg h0]
  have h1:¬a<0:=by omega
  have h2:¬b<0:=by omega
  have h3:¬2*(gs.length:Int)≤a:=by omega
  have h4:¬2*(gs.length:Int)≤b:=by omega
  by_cases h5:a=1∨b=1∨b=na
  ·rw[if_pos h5]
   (refine ny ?_;refine mV ?_;refine rz ?_;refine Fl ?_;refine a_.mul rfl rfl rfl rfl rfl aJ ?_;refine yf ?_;refine zs ?_;refine xB ?_;refine zs ?_;refine zF ?_;refine xB ?_;refine qn ?_;refine KE ?_;refine xB ?_;refine qn ?_;refine KE ?_;refine qx ?_;refine iK ?_;refine qI ?_;refine zm ?_;(focus ((with_reducible apply a_.tD);(iterate 6 exact rfl);all_goals intro oD));refine qn ?_;refine a_.eql rfl rfl rfl rfl rfl ?_;refine zF ?_;refine zm ?_;(focus ((with_reducible apply a_.tD);(iterate 6 exact rfl);all_goals intro oD));refine xB ?_;refine zA (hn) ?_;refine zy ?_;refine a_.eql rfl rfl rfl rfl rfl ?_;refine zF ?_;refine jD ?_;refine zu ?_;(all_goals skip);rotate_left;refine O8 ?_;refine xj ?_;refine zu ?_;(all_goals skip);rotate_left;refine FP ?_;refine zT ?_;refine Na ?_;refine A9 ?_;refine zu ?_;(all_goals skip);rotate_left)
   all_goals (apply eY;(exact gm.two (.cell rfl rfl rfl rfl) (.tmp rfl rfl));(refine Le.tV ?_;refine hO.cons ?_ ?_;refine Le.lS ?_;refine hO.cons ?_ ?_;(with_reducible exact Le.pv _);exact hO.nil;refine hO.cons ?_ ?_;refine Le.eU ?_;(rfl);exact hO.nil))
  ·rw[if_neg h5]
   have k1:¬a=1:=by omega
   have k2:¬b=1:=by omega
   have k3:¬b=na:=by omega
   by_cases h6:a=0
   ·rw[if_pos h6]
    (refine XI ?_;refine jD ?_;refine qS ?_;refine zm ?_;refine kV ?_;refine qP ?_)
    (apply eY;(exact gm.two (.cell rfl rfl rfl rfl) (.tmp rfl rfl));(refine Le.tV ?_;refine hO.cons ?_ ?_;refine Le.lS ?_;refine hO.cons ?_ ?_;(with_reducible exact Le.pv _);exact hO.nil;refine hO.cons ?_ ?_;refine Le.eU ?_;(rfl);exact hO.nil))
   ·rw[if_neg h6]
    by_cases h7:b=0∨a=b
    ·rw[if_pos h7]
     (refine XI ?_;refine qx ?_;refine iK ?_;refine qI ?_;refine zm ?_;(focus ((with_reducible apply a_.tD);(iterate 6 exact rfl);all_goals intro oD));refine xB ?_;refine a_.eql rfl rfl rfl rfl rfl ?_;refine zF ?_;refine jD ?_;refine qS ?_;refine zm ?_;refine kV ?_;refine qP ?_;(all_goals skip);rotate_left;refine S6 ?_;refine xj ?_;refine qS ?_;refine zm ?_;refine kV ?_;refine qP ?_;(all_goals skip);rotate_left)
     all_goals (apply eY;(exact gm.two (.cell rfl rfl rfl rfl) (.tmp rfl rfl));(refine Le.tV ?_;refine hO.cons ?_ ?_;refine Le.lS ?_;refine hO.cons ?_ ?_;(with_reducible exact Le.pv _);exact hO.nil;refine hO.cons ?_ ?_;refine Le.eU ?_;(rfl);exact hO.nil))
    ·rw[if_neg h7]
     have m1:¬b=0:=by omega
     have m2:¬a=b:=by omega
     (refine XI ?_;refine qx ?_;refine iK ?_;refine qI ?_;refine xB ?_;refine qn ?_;refine a_.eql rfl rfl rfl rfl rfl ?_;refine zF ?_;refine uD ?_;refine qS ?_;(iterate 2 refine zm ?_);refine a_.min2 rfl rfl rfl rfl rfl ?_;(iterate 2 refine zm ?_);refine a_.max2 rfl rfl rfl rfl rfl ?_;refine a_.oZ 84 [0,1,2] rfl rfl rfl rfl rfl rfl rfl rfl rfl ?_;refine nz ?_;refine zP (hs) ?_;(iterate 2 refine a_.extract rfl rfl rfl rfl ?_);refine kV ?_;refine ku ?_)
     (apply eY;(exact gm.two (.cell rfl rfl rfl rfl) (.tmp rfl rfl));(refine Le.tV ?_;refine hO.cons ?_ ?_;refine Le.lS ?_;refine hO.cons ?_ ?_;(with_reducible exact Le.pv _);exact hO.nil;refine hO.cons ?_ ?_;refine Le.eU ?_;(rfl);exact hO.nil))
theorem rD {r:Int} (h: -500000≤r∧r≤500000): -500001≤ir r∧ir r≤500001:=by unfold ir;split<;>(try split)<;>omega
theorem UJ (gs:List fg) (a b:Int) (hl:gs.length≤100000) (ha: -500000≤a∧a≤500000) (hb: -500000≤b∧b≤500000) (ho: -1000000≤(l_ gs (ir a) (ir b)).2∧(l_ gs (ir a) (ir b)).2≤1000000):Fn Tryz.prog 81 [DD gs,eU a,eU b] (.gY [DD (Tp gs a b).1,eU (Tp gs a b).2]):=by
 have h1:=kh a (by omega)
 have h2:=kh b (by omega)
 have b1:=rD ha
 have b2:=rD hb
 have h3:=yJ gs (ir a) (ir b) aJ aJ (by omega)
 unfold Tp
 generalize l_ gs (ir a) (ir b)=p at h3 ho ⊢
 generalize ir a=na at h1 h3 b1
 generalize ir b=nb at h2 h3 b2
 obtain⟨gs',r⟩:=p
 simp only at h3 ho ⊢
 have h4:=kh r ho
 generalize ir r=nr at h4 ⊢
 refine Fn.enter (n:=22) Tryz.func81 rfl rfl rfl rfl rfl (by decide) fun g fp fl=>?_;(try refine nz ?_)
 (refine ny ?_;refine mV ?_;refine kc ?_;refine AW.gg [0,1,3] [10] rfl (by assumption) aI aI rfl ?_;show a_ .held _ _ _ [_,_,_] _ _;refine mJ ?_;(iterate 2 refine zm ?_);refine Q3 ?_;intro k_ iE;refine nz ?_;apply AR.cut [3,1,0,2,4,5,6,7,8,9,10];intro kv;apply AR.cut [3,1,0,2,4,5,6,7,8,9];intro ly;apply AR.cut [3,1,0,2,4,5,6,7,9];intro lu;apply AR.cut [3,1,0,2,4,5,6,8,9];intro lF;apply AR.cut [3,1,0,2,4,5,6,7,8];intro ni;apply AR.cut [3,1,0,2,4,5,6,9];intro mP;apply AR.cut [3,1,0,2,4,9];intro vg;apply AR.cut [3,1,0,2,9];intro DV;(refine AR.gh (i:=2) (j:=9) rfl aI rfl rfl ?_ ?_<;>intro g_ b_ fU);refine zA (h1) ?_;refine Q3 ?_;(refine AR.gh (i:=4) (j:=9) rfl aI rfl rfl ?_ ?_<;>intro g_ b_ fU);refine zA (h2) ?_;refine Q3 ?_;(refine AR.gh (i:=5) (j:=9) rfl aI rfl rfl ?_ ?_<;>intro g_ b_ fU);refine zP (h3) ?_;refine Q3 ?_;(refine AR.gh (i:=6) (j:=9) rfl aI rfl rfl ?_ ?_<;>intro g_ b_ fU);refine Gp ?_;(refine AR.pS (i:=7) (j:=8) (m:=9) rfl aI rfl rfl rfl ?_ ?_ ?_<;>intro g_ b_ fU);refine pd ?_;(refine AR.gh (i:=8) (j:=9) rfl aI rfl rfl ?_ ?_<;>intro g_ b_ fU);refine tK ?_;refine Q5 ?_;exact AR.perm aI ni;refine th ?_;exact AR.perm aI lu;refine pd ?_;(refine AR.gh (i:=7) (j:=9) rfl aI rfl rfl ?_ ?_<;>intro g_ b_ fU);refine tK ?_;refine AR.meet ni aI (fun g_=>fe rfl ?_ ?_ rfl);exact Jt;refine xh ?_;exact Qs;refine th ?_;exact AR.perm aI lF;refine th ?_;exact AR.perm aI mP;refine mV ?_;refine JV ?_;intro g_ b_ fU;refine ML ?_;refine AR.meet mP aI (fun g_=>fe rfl ?_ ?_ rfl);exact Mw;exact nh;refine th ?_;exact AR.perm aI vg;refine th ?_;exact AR.perm aI DV;refine mV ?_;refine Q3 ?_;refine AR.fA (i:=2) rfl aI rfl ?_;intro g_ b_ fU;refine zA (h1) ?_;refine mX ?_;refine AR.meet DV aI (fun g_=>fe rfl ?_ ?_ rfl);exact E2;exact nh;refine AR.fA (i:=4) rfl aI rfl ?_;intro g_ b_ fU;refine zA (h2) ?_;refine mX ?_;refine AR.meet vg aI (fun g_=>fe rfl ?_ ?_ rfl);exact FJ;exact nh;refine AR.fA (i:=5) rfl aI rfl ?_;intro g_ b_ fU;refine zP (h3) ?_;refine JV ?_;intro g_ b_ fU;refine ML ?_;refine AR.meet mP aI (fun g_=>fe rfl ?_ ?_ rfl);exact Mw;exact nh;(refine AR.gh (i:=7) (j:=8) rfl aI rfl rfl ?_ ?_<;>intro g_ b_ fU);refine tK ?_;refine AR.meet lu aI (fun g_=>fe rfl ?_ ?_ rfl);exact Jt;exact nh;refine tK ?_;refine AR.meet lF aI (fun g_=>fe rfl ?_ ?_ rfl);exact Jt;exact nh;refine AR.fA (i:=9) rfl aI rfl ?_;intro g_ b_ fU;refine mV ?_;refine mX ?_;exact ss;refine AR.fA (i:=7) rfl aI rfl ?_;intro g_ b_ fU;refine tK ?_;refine AR.meet ly aI (fun g_=>fe rfl ?_ ?_ rfl);(iterate 16 refine aC ?_);exact trivial;exact nh;(refine AR.m_ (i:=8) (j:=10) rfl aI rfl rfl aI ?_ ?_<;>intro g_ b_ eT);refine tK ?_;refine AR.meet ly aI (fun g_=>fe rfl ?_ ?_ rfl);(iterate 16 refine aC ?_);exact trivial;exact nh;refine zB ?_;refine jR ?_;refine vS ?_;intro g_ b_ eT;refine tK ?_;exact pE;refine yx ?_;intro g_ b_ eT;refine kV ?_;refine mX ?_;refine AR.meet kv aI (fun g_=>fe rfl ?_ ?_ rfl);(iterate 16 refine aC ?_);exact trivial;exact nh;refine uo ?_;intro g_ b_ eT;refine za ?_;refine Q3 ?_;refine Cq ?_;refine zo ?_;refine AW.gg [0,1] [3] rfl (by assumption) aI aI rfl ?_;show a_ .held _ _ _ [_,_] _ _;refine mJ ?_;refine zm ?_;refine Q3 ?_;intro k_ iE;refine nz ?_;refine AR.fA (i:=2) rfl aI rfl ?_;intro g_ b_ fU;refine zA (h4) ?_;refine Q3 ?_;refine AR.im (i:=3) rfl aI rfl aI ?_;intro g_ b_ eT;refine zB ?_;refine jR ?_;refine HL ?_;intro g_ b_ eT;refine za ?_;refine Q3 ?_;refine Cq ?_;refine AW.ret ?_)
 all_goals (apply eY;(exact gm.two (.cell rfl rfl rfl rfl) (.tmp rfl rfl));(refine Le.tV ?_;refine hO.cons ?_ ?_;refine Le.lS ?_;refine hO.cons ?_ ?_;(with_reducible exact Le.pv _);exact hO.nil;refine hO.cons ?_ ?_;refine Le.eU ?_;(rfl);exact hO.nil))
theorem FR {gs:List fg} {a b:Int} (hl:gs.length≤100000) (ha: -1000000≤a∧a≤1000000) (hb: -1000000≤b∧b≤1000000): -1≤(l_ gs a b).2∧(l_ gs a b).2≤2*(gs.length:Int)+1∧(l_ gs a b).1.length≤gs.length+1:=by
 have hf:=ry (gs:=gs) (g:=⟨2,min a b,max a b⟩)
 unfold l_
 split
 ·simp only;omega
 ·split
  ·simp only;omega
  ·split
   ·simp only;omega
   ·split
    ·simp only;omega
    ·unfold rG
     split
     ·simp only;omega
     ·split
      ·simp only;omega
      ·simp only[bW,dL,bV];omega
theorem Sx (gs:List fg) (a b:Int) (hl:gs.length≤90000) (ha: -500000≤a∧a≤500000) (hb: -500000≤b∧b≤500000):Fn Tryz.prog 82 [DD gs,eU a,eU b] (.gY [DD (C7 gs a b).1,eU (C7 gs a b).2]):=by
 have h1:=kh a (by omega)
 have h2:=kh b (by omega)
 have b1:=rD ha
 have b2:=rD hb
 have h3:=yJ gs a (ir b) aJ aJ (by omega)
 have q3:=FR (gs:=gs) (a:=a) (b:=ir b) aJ aJ (by omega)
 have h5:=yJ (l_ gs a (ir b)).1 (ir a) b aJ aJ (by omega)
 have q5:=FR (gs:=(l_ gs a (ir b)).1) (a:=ir a) (b:=b) aJ aJ (by omega)
 unfold C7
 generalize l_ (l_ gs a (ir b)).1 (ir a) b=p2 at h5 q5 ⊢
 generalize l_ gs a (ir b)=p1 at h3 q3 h5 q5 ⊢
 obtain⟨gs1,r1⟩:=p1
 obtain⟨gs2,r2⟩:=p2
 simp only at h3 q3 h5 q5 ⊢
 have k1:=kh r1 (by omega)
 have k2:=kh r2 (by omega)
 have c1:=rD (r:=r1) (by omega)
 have c2:=rD (r:=r2) (by omega)
 have h6:=yJ gs2 (ir r1) (ir r2) aJ aJ (by omega)
 generalize l_ gs2 (ir r1) (ir r2)=p3 at h6 ⊢
 generalize ir a=na at h1 h5 b1
 generalize ir b=nb at h2 h3 b2
 generalize ir r1=n1 at k1 h6 c1
 generalize ir r2=n2 at k2 h6 c2
 obtain⟨gs3,r3⟩:=p3
 simp only at h6 ⊢
 refine Fn.enter (n:=36) Tryz.func82 rfl rfl rfl rfl rfl (by decide) fun g fp fl=>?_;(try refine nz ?_)
 (refine ny ?_;refine mV ?_;refine kc ?_;refine AW.gg [0,1,2] [9] rfl (by assumption) aI aI rfl ?_;show a_ .held _ _ _ [_,_,_] _ _;refine mJ ?_;(iterate 2 refine zm ?_);refine Q3 ?_;intro k_ iE;refine nz ?_;apply AR.cut [2,1,0,3,4,5,6,7,8,9];intro kv;apply AR.cut [2,1,0,3,4,5,6,7,8];intro ly;apply AR.cut [2,1,0,3,4,5,6,7];intro lu;apply AR.cut [2,1,0,3,4,5,7,8];intro lF;apply AR.cut [2,1,0,3,4,5,6,8];intro ni;apply AR.cut [2,1,0,3,4,5,8];intro mP;apply AR.cut [2,1,0,3,8];intro vg;(refine AR.gh (i:=3) (j:=8) rfl aI rfl rfl ?_ ?_<;>intro g_ b_ fU);refine zA (h2) ?_;refine Q3 ?_;(refine AR.gh (i:=4) (j:=8) rfl aI rfl rfl ?_ ?_<;>intro g_ b_ fU);refine zP (h3) ?_;refine Q3 ?_;(refine AR.gh (i:=5) (j:=8) rfl aI rfl rfl ?_ ?_<;>intro g_ b_ fU);refine Gp ?_;(refine AR.pS (i:=6) (j:=7) (m:=8) rfl aI rfl rfl rfl ?_ ?_ ?_<;>intro g_ b_ fU);refine pd ?_;(refine AR.gh (i:=7) (j:=8) rfl aI rfl rfl ?_ ?_<;>intro g_ b_ fU);refine tK ?_;exact BV;refine th ?_;exact AR.perm aI ni;refine pd ?_;(refine AR.gh (i:=6) (j:=8) rfl aI rfl rfl ?_ ?_<;>intro g_ b_ fU);refine tK ?_;refine AR.meet lu aI (fun g_=>fe rfl ?_ ?_ rfl);exact Mw;refine xh ?_;exact Qs;refine th ?_;exact AR.perm aI lF;refine th ?_;exact AR.perm aI mP;refine mV ?_;refine K2 ?_;intro g_ b_ fU;refine ML ?_;refine AR.meet mP aI (fun g_=>fe rfl ?_ ?_ rfl);(iterate 13 refine aC ?_);exact trivial;exact nh;refine th ?_;exact AR.perm aI vg;refine mV ?_;refine Q3 ?_;refine AR.fA (i:=3) rfl aI rfl ?_;intro g_ b_ fU;refine zA (h2) ?_;refine mX ?_;refine AR.meet vg aI (fun g_=>fe rfl ?_ ?_ rfl);exact E2;exact nh;refine AR.fA (i:=4) rfl aI rfl ?_;intro g_ b_ fU;refine zP (h3) ?_;refine K2 ?_;intro g_ b_ fU;refine ML ?_;refine AR.meet mP aI (fun g_=>fe rfl ?_ ?_ rfl);(iterate 13 refine aC ?_);exact trivial;exact nh;(refine AR.gh (i:=6) (j:=7) rfl aI rfl rfl ?_ ?_<;>intro g_ b_ fU);refine tK ?_;refine AR.meet ni aI (fun g_=>fe rfl ?_ ?_ rfl);exact Mw;exact nh;refine tK ?_;refine AR.meet lF aI (fun g_=>fe rfl ?_ ?_ rfl);exact Mw;exact nh;(refine AR.m_ (i:=7) (j:=9) rfl aI rfl rfl aI ?_ ?_<;>intro g_ b_ eT);refine tK ?_;exact ss;refine kV ?_;refine wy ?_;intro g_ b_ eT;refine tK ?_;exact pE;refine AR.fA (i:=6) rfl aI rfl ?_;intro g_ b_ fU;refine tK ?_;refine AR.meet ly aI (fun g_=>fe rfl ?_ ?_ rfl);exact Jt;exact nh;refine AR.fA (i:=8) rfl aI rfl ?_;intro g_ b_ fU;refine mV ?_;refine mX ?_;refine AR.meet ly aI (fun g_=>fe rfl ?_ ?_ rfl);exact Jt;exact nh;refine wL ?_;intro g_ b_ eT;refine kV ?_;refine mX ?_;refine AR.meet kv aI (fun g_=>fe rfl ?_ ?_ rfl);exact Jt;exact nh;refine yx ?_;intro g_ b_ eT;refine za ?_;refine Q3 ?_;refine Cq ?_;refine zo ?_;refine AW.gg [0,1,3] [9] rfl (by assumption) aI aI rfl ?_;show a_ .held _ _ _ [_,_,_] _ _;refine mJ ?_;(iterate 2 refine zm ?_);refine Q3 ?_;intro k_ iE;refine nz ?_;apply AR.cut [3,1,0,2,4,5,6,7,8,9];intro kv;apply AR.cut [3,1,0,2,4,5,6,7,8];intro ly;apply AR.cut [3,1,0,2,4,5,6,7];intro lu;apply AR.cut [3,1,0,2,4,5,7,8];intro lF;apply AR.cut [3,1,0,2,4,5,6,8];intro ni;apply AR.cut [3,1,0,2,4,5,8];intro mP;apply AR.cut [3,1,0,2,8];intro vg;(refine AR.gh (i:=2) (j:=8) rfl aI rfl rfl ?_ ?_<;>intro g_ b_ fU);refine zA (h1) ?_;refine Q3 ?_;(refine AR.gh (i:=4) (j:=8) rfl aI rfl rfl ?_ ?_<;>intro g_ b_ fU);refine zP (h5) ?_;refine Q3 ?_;(refine AR.gh (i:=5) (j:=8) rfl aI rfl rfl ?_ ?_<;>intro g_ b_ fU);refine Gp ?_;(refine AR.pS (i:=6) (j:=7) (m:=8) rfl aI rfl rfl rfl ?_ ?_ ?_<;>intro g_ b_ fU);refine pd ?_;(refine AR.gh (i:=7) (j:=8) rfl aI rfl rfl ?_ ?_<;>intro g_ b_ fU);refine tK ?_;exact BV;refine th ?_;exact AR.perm aI ni;refine pd ?_;(refine AR.gh (i:=6) (j:=8) rfl aI rfl rfl ?_ ?_<;>intro g_ b_ fU);refine tK ?_;refine AR.meet lu aI (fun g_=>fe rfl ?_ ?_ rfl);(iterate 24 refine aC ?_);exact trivial;exact nh;refine th ?_;exact AR.perm aI lF;refine th ?_;exact AR.perm aI mP;refine mV ?_;refine K2 ?_;intro g_ b_ fU;exact TY;refine th ?_;exact AR.perm aI vg;refine mV ?_;refine Q3 ?_;refine AR.fA (i:=2) rfl aI rfl ?_;intro g_ b_ fU;refine zA (h1) ?_;refine mX ?_;refine AR.meet vg aI (fun g_=>fe rfl ?_ ?_ rfl);(iterate 21 refine aC ?_);exact trivial;refine xh ?_;exact nh;refine AR.fA (i:=4) rfl aI rfl ?_;intro g_ b_ fU;refine zP (h5) ?_;refine K2 ?_;intro g_ b_ fU;exact TY;(refine AR.gh (i:=6) (j:=7) rfl aI rfl rfl ?_ ?_<;>intro g_ b_ fU);refine tK ?_;refine AR.meet ni aI (fun g_=>fe rfl ?_ ?_ rfl);(iterate 24 refine aC ?_);exact trivial;refine xh ?_;exact nh;refine tK ?_;refine AR.meet lF aI (fun g_=>fe rfl ?_ ?_ rfl);(iterate 24 refine aC ?_);exact trivial;refine xh ?_;exact nh;(refine AR.m_ (i:=7) (j:=9) rfl aI rfl rfl aI ?_ ?_<;>intro g_ b_ eT);refine tK ?_;exact ss;refine kV ?_;refine wy ?_;intro g_ b_ eT;refine tK ?_;exact pE;refine AR.fA (i:=6) rfl aI rfl ?_;intro g_ b_ fU;refine tK ?_;refine AR.meet ly aI (fun g_=>fe rfl ?_ ?_ rfl);(iterate 25 refine aC ?_);exact trivial;refine xh ?_;exact nh;refine AR.fA (i:=8) rfl aI rfl ?_;intro g_ b_ fU;refine mV ?_;refine mX ?_;refine AR.meet ly aI (fun g_=>fe rfl ?_ ?_ rfl);(iterate 25 refine aC ?_);exact trivial;refine xh ?_;exact nh;refine wL ?_;intro g_ b_ eT;refine kV ?_;refine mX ?_;refine AR.meet kv aI (fun g_=>fe rfl ?_ ?_ rfl);(iterate 25 refine aC ?_);exact trivial;refine xh ?_;exact nh;refine yx ?_;intro g_ b_ eT;refine za ?_;refine Q3 ?_;refine Cq ?_;refine zo ?_;refine AW.gg [0,1,3] [8] rfl (by assumption) aI aI rfl ?_;show a_ .held _ _ _ [_,_,_] _ _;refine mJ ?_;(iterate 2 refine zm ?_);refine Q3 ?_;intro k_ iE;refine nz ?_;refine AR.fA (i:=2) rfl aI rfl ?_;intro g_ b_ fU;refine zA (k1) ?_;refine Q3 ?_;refine AR.fA (i:=4) rfl aI rfl ?_;intro g_ b_ fU;refine zA (k2) ?_;refine K2 ?_;intro g_ b_ fU;refine zP (h6) ?_;refine Q3 ?_;refine AR.iP [6,7] aI aI aI aI ?_;intro g_ b_;show a_ .held _ _ _ [_,_] _ _;(iterate 2 refine a_.extract rfl rfl rfl rfl ?_);refine Q3 ?_;intro k_ iE;refine nz ?_;refine vS ?_;intro g_ b_ eT;refine zB ?_;refine jR ?_;refine wL ?_;intro g_ b_ eT;refine za ?_;refine Q3 ?_;refine Cq ?_;refine AW.ret ?_)
 all_goals (apply eY;(exact gm.two (.cell rfl rfl rfl rfl) (.tmp rfl rfl));(refine Le.tV ?_;refine hO.cons ?_ ?_;refine Le.lS ?_;refine hO.cons ?_ ?_;(with_reducible exact Le.pv _);exact hO.nil;refine hO.cons ?_ ?_;refine Le.eU ?_;(rfl);exact hO.nil))
end Go.Ab.N19
/- Chapter 19:construction steps,walked. -/
namespace Go.Ab.N19
open Go Go.Proofs Go.Ab
open Nat (reduceAdd reduceSub)
set_option maxRecDepth 20000
set_option maxHeartbeats 4000000
attribute [local irreducible] AW a_ gr fz AR fH fv fM gk
abbrev Ui (n:Int):AV:=.pv (.lit (.int .u8 n))
abbrev PN (s:pG):List PV:=[.lit (.int .u8 s.k),.lit (.int .u8 s.a),.lit (.int .u8 s.b)]
abbrev FI (l:List pG):PV:=.slice 3 (l.map PN)
def Va (s:pG):Prop:=(0≤s.k∧s.k≤255)∧(0≤s.a∧s.a≤255)∧(0≤s.b∧s.b≤255)
theorem A6 (refs:List Int) (n:Int) (hl:refs.length≤1000000) (hr:∀r∈refs,0≤r∧r≤1000000) (hn:0≤n∧n≤255):Fn Tryz.prog 20 [.pv (ints refs),Ui n] (eU (oL refs n)):=by
 unfold oL
 have q0:0≤n / 2 % ((refs.length:Int)+1):=Int.emod_nonneg _ (by omega)
 have q1:n / 2 % ((refs.length:Int)+1)<(refs.length:Int)+1:=Int.emod_lt_of_pos _ (by omega)
 refine Fn.enter (n:=27) Tryz.func20 rfl rfl rfl rfl rfl (by decide) fun g fp fl=>?_;(try refine nz ?_)
 by_cases h0:0<n / 2 % ((refs.length:Int)+1)
 ·rw[if_pos h0]
  have fy:(n / 2 % ((refs.length:Int)+1) - 1).toNat<refs.length:=by omega
  have e:refs.getD (n / 2 % ((refs.length:Int)+1) - 1).toNat 0=refs[(n / 2 % ((refs.length:Int)+1) - 1).toNat]:=by rw[c6,a8 fy];rfl
  rw[e]
  have hb:=hr _ (cY fy)
  by_cases h1:n % 2=1
  ·rw[if_pos h1]
   have hn:=kh refs[(n / 2 % ((refs.length:Int)+1) - 1).toNat] (by omega)
   (refine Nw ?_;refine jD ?_;refine sg ?_;(iterate 2 refine zm ?_);refine a_.sub rfl rfl rfl rfl rfl aJ ?_;refine ay ?_;refine zr ?_;refine yf ?_;refine Pj ?_;refine jD ?_;refine j6 ?_;refine zA (hn) ?_;refine qP ?_)
   (apply eY;(exact gm.one (.tmp rfl rfl));(refine Le.eU ?_;(rfl)))
  ·rw[if_neg h1]
   (refine Nw ?_;refine jD ?_;refine sg ?_;(iterate 2 refine zm ?_);refine a_.sub rfl rfl rfl rfl rfl aJ ?_;refine ay ?_;refine zr ?_;refine yf ?_;refine Pj ?_;refine uD ?_;refine j6 ?_;refine ku ?_)
   (apply eY;(exact gm.one (.tmp rfl rfl));(refine Le.eU ?_;(rfl)))
 ·rw[if_neg h0]
  by_cases h1:n % 2=1
  ·rw[if_pos h1]
   have hn:=kh 0 (by omega)
   (refine Nw ?_;refine qx ?_;refine j6 ?_;refine Pj ?_;refine jD ?_;refine j6 ?_;refine zA (hn) ?_;refine qP ?_)
   (apply eY;(exact gm.one (.tmp rfl rfl));(refine Le.eU ?_;(rfl)))
  ·rw[if_neg h1]
   (refine Nw ?_;refine qx ?_;refine j6 ?_;refine Pj ?_;refine uD ?_;refine j6 ?_;refine ku ?_)
   (apply eY;(exact gm.one (.tmp rfl rfl));(refine Le.eU ?_;(rfl)))
theorem L6 (l:List pG) (hs:∀s∈l,Va s) (hl:l.length≤1000):Fn Tryz.prog 19 [.pv (FI l)] (.gY [DD (nj l).1,.pv (ints (nj l).2)]):=by
 have DB:=yA (l:=l) (fun s h=>⟨(hs s h).1.1,(hs s h).2.1.1,(hs s h).2.2.1⟩) hl
 have tj:=Ie
 refine Fn.enter (n:=33) Tryz.func19 rfl rfl rfl rfl rfl (by decide) fun g fp fl=>?_;(try refine nz ?_)
 refine AW.jK 0 rfl fun hlen=>?_
 (refine zq ?_;refine mV ?_;refine rz ?_;refine zP (tj) ?_;refine mV ?_;refine kV ?_;refine ko ?_;refine kc ?_;refine iK ?_;refine wX ?_)
 (refine nz ?_;apply AW.gJ [4,3,2,0] [0] (fun s:Nat×List fg×List Int=>([(6,eU s.1),(5,.own 2 3 1 (s.2.2.map encI))]:List (Nat×AV))) (fun s:Nat×List fg×List Int=>([(1,some (.box [.pv (Bb s.2.1)])),(2,some .row)]:List (Nat×Option Ob))) (fun s:Nat×List fg×List Int=>s.1≤l.length∧s.2=nj (l.take s.1)) (fun s:Nat×List fg×List Int=>l.length - s.1) ((0,([⟨0,0,0⟩],[])));(conv=>lhs;simp only[Nf.ot,Nf.all,df,reduceAdd,reduceSub]);(all_goals skip))
 ·exact⟨bm _,rfl⟩
 ·exact fe rfl (by(refine aC ?_;refine⟨.jN _ _ _ rfl rfl,?_⟩;(iterate 4 refine aC ?_);exact trivial)) (by(refine⟨.box _ rfl ?_,?_⟩;refine aC ?_;exact trivial;refine⟨.iW rfl,?_⟩;refine⟨.box _ rfl ?_,?_⟩;refine aC ?_;(iterate 2 exact trivial))) rfl
 rintro⟨i,gs,refs⟩ ⟨hi,i_⟩
 simp only at hi i_ ⊢
 have hb:=DB i hi
 rw[← i_] at hb
 by_cases fy:i<l.length
 ·have jY:=wB fy
  rw[← i_] at jY
  obtain⟨hc,hr,Cu,M_⟩:=hb
  simp only at hc hr Cu M_
  obtain⟨b1,b2,b3⟩:=hs _ (cY fy)
  have hrr:∀r∈refs,0≤r∧r≤1000000:=fun r h=>by have:=hr r h;unfold gz at this;omega
  have pa:=A6 refs l[i].a aJ hrr b2
  have pb:=A6 refs l[i].b aJ hrr b3
  have oa:=tZ hc hr b2.1
  have ob:=tZ hc hr b3.1
  have iT:=Ll gs (l[i].a % 8+1) (by omega)
  have hd:stepG (gs,refs) l[i]=((PU gs refs l[i]).1,refs++ [(PU gs refs l[i]).2]):=rfl
  rw[hd] at jY
  unfold PU at jY
  unfold gz at oa ob
  generalize oL refs l[i].a=a at pa oa jY
  generalize oL refs l[i].b=b at pb ob jY
  have hand:=yJ gs a b aJ aJ (by omega)
  have KM:=(P6 hc (a:=a) (b:=b) oa ob aJ).ref
  have uI:=UJ gs a b aJ aJ aJ (by
   have na:=rD (r:=a) (by omega)
   have nb:=rD (r:=b) (by omega)
   have:=FR (gs:=gs) (a:=ir a) (b:=ir b) aJ aJ (by omega)
   omega)
  have LD:=Sx gs a b aJ aJ (by omega)
  by_cases k0:l[i].k % 4=0
  ·rw[if_pos k0] at jY
   generalize tc gs (l[i].a % 8+1)=q at iT jY
   obtain⟨gs',r⟩:=q
   simp only at iT jY
   (refine N_ ?_;show a_ .held _ _ _ [_,_,_,_,_,_] _ _;refine N6 ?_;refine aA ?_;refine a_.l5 rfl rfl rfl rfl ?_;refine jR ?_;intro k_ iE;apply AR.cut [5,4,3,2,1,0,6,7,8,9,10,11];intro kv;apply AR.cut [5,4,3,2,1,0,6,7,8,9,10];intro ly;apply AR.cut [5,4,3,2,1,0,6,7,8,10];intro lu;apply AR.cut [5,4,3,2,1,0,6,7,9,10];intro lF;apply AR.cut [5,4,3,2,1,0,6,7,8,9];intro ni;apply AR.cut [5,4,3,2,1,0,6,7,10];intro mP;(refine AR.Bi (i:=6) (j:=10) rfl aI rfl rfl aI ?_ ?_<;>intro g_ b_ eT);(with_reducible apply a_.inline (hf:=Tryz.func42));(with_reducible assumption);(iterate 10 exact rfl);intro g_ fp fl;refine UY ?_;refine Q3 ?_;(refine AR.fG (i:=7) (j:=10) rfl aI rfl rfl aI ?_ ?_<;>intro g_ b_ eT);refine Gp ?_;(refine AR.rC (i:=8) (j:=9) (m:=10) rfl aI rfl rfl rfl aI ?_ ?_ ?_<;>intro g_ b_ eT);refine pd ?_;(refine AR.fG (i:=9) (j:=10) rfl aI rfl rfl aI ?_ ?_<;>intro g_ b_ eT);exact Nu;refine JF ?_;exact AR.perm aI lu;refine pd ?_;(refine AR.fG (i:=8) (j:=10) rfl aI rfl rfl aI ?_ ?_<;>intro g_ b_ eT);exact N3;refine JF ?_;exact AR.perm aI lF;refine JF ?_;exact AR.perm aI mP;refine mV ?_;refine wy ?_;intro g_ b_ eT;exact Nq;refine mV ?_;refine xr ?_;intro g_ b_ eT;(with_reducible apply a_.inline (hf:=Tryz.func42));(with_reducible assumption);(iterate 10 exact rfl);intro g_ fp fl;refine UY ?_;refine wy ?_;intro g_ b_ eT;exact O2;(refine AR.fG (i:=8) (j:=9) rfl aI rfl rfl aI ?_ ?_<;>intro g_ b_ eT);exact Nz;exact Nj;refine yx ?_;intro g_ b_ eT;refine mV ?_;refine mX ?_;exact ss;refine vS ?_;intro g_ b_ eT;exact CN;(refine AR.fG (i:=9) (j:=11) rfl aI rfl rfl aI ?_ ?_<;>intro g_ b_ eT);exact CN;refine zB ?_;refine jR ?_;refine wL ?_;intro g_ b_ eT;refine tK ?_;exact pE;refine uo ?_;intro g_ b_ eT;refine kV ?_;refine mX ?_;refine Iv ?_;exact Oe;refine AM ?_;intro g_ b_ eT;refine Pl ?_;(with_reducible apply a_.fD);exact rfl;exact ah;(iterate 9 exact rfl);exact aa;refine nz ?_;refine vG ?_;refine xx ?_)
   exact WS
  ·rw[if_neg k0] at jY
   by_cases k1:l[i].k % 4=1
   ·rw[if_pos k1] at jY
    generalize l_ gs a b=q at hand jY
    obtain⟨gs',r⟩:=q
    simp only at hand jY
    (refine N_ ?_;show a_ .held _ _ _ [_,_,_,_,_,_] _ _;refine N6 ?_;refine aA ?_;refine a_.l5 rfl rfl rfl rfl ?_;refine jR ?_;intro k_ iE;apply AR.cut [5,4,3,2,1,0,6,7,8,9,10,11];intro kv;apply AR.cut [5,4,3,2,1,0,6,7,8,9,10];intro ly;apply AR.cut [5,4,3,2,1,0,6,7,8,10];intro lu;apply AR.cut [5,4,3,2,1,0,6,7,9,10];intro lF;apply AR.cut [5,4,3,2,1,0,6,7,8,9];intro ni;apply AR.cut [5,4,3,2,1,0,6,7,10];intro mP;(refine AR.Bi (i:=6) (j:=10) rfl aI rfl rfl aI ?_ ?_<;>intro g_ b_ eT);(with_reducible apply a_.inline (hf:=Tryz.func42));(with_reducible assumption);(iterate 10 exact rfl);intro g_ fp fl;refine Tu ?_;refine O1 ?_;refine zP (hand) ?_;refine J0 ?_;refine Q3 ?_;(refine AR.fG (i:=7) (j:=10) rfl aI rfl rfl aI ?_ ?_<;>intro g_ b_ eT);refine Gp ?_;(refine AR.rC (i:=8) (j:=9) (m:=10) rfl aI rfl rfl rfl aI ?_ ?_ ?_<;>intro g_ b_ eT);refine pd ?_;(refine AR.fG (i:=9) (j:=10) rfl aI rfl rfl aI ?_ ?_<;>intro g_ b_ eT);exact Nu;refine JF ?_;exact AR.perm aI lu;refine pd ?_;(refine AR.fG (i:=8) (j:=10) rfl aI rfl rfl aI ?_ ?_<;>intro g_ b_ eT);exact N3;refine JF ?_;exact AR.perm aI lF;refine JF ?_;exact AR.perm aI mP;refine mV ?_;refine wy ?_;intro g_ b_ eT;exact Nq;refine mV ?_;refine xr ?_;intro g_ b_ eT;(with_reducible apply a_.inline (hf:=Tryz.func42));(with_reducible assumption);(iterate 10 exact rfl);intro g_ fp fl;refine Tu ?_;refine O1 ?_;refine zP (hand) ?_;refine J0 ?_;refine wy ?_;intro g_ b_ eT;exact O2;(refine AR.fG (i:=8) (j:=9) rfl aI rfl rfl aI ?_ ?_<;>intro g_ b_ eT);exact Nz;exact Nj;refine yx ?_;intro g_ b_ eT;refine mV ?_;refine mX ?_;exact ss;refine vS ?_;intro g_ b_ eT;exact CN;(refine AR.fG (i:=9) (j:=11) rfl aI rfl rfl aI ?_ ?_<;>intro g_ b_ eT);exact CN;refine zB ?_;refine jR ?_;refine wL ?_;intro g_ b_ eT;refine tK ?_;exact pE;refine uo ?_;intro g_ b_ eT;refine kV ?_;refine mX ?_;refine Iv ?_;exact Oe;refine AM ?_;intro g_ b_ eT;refine Pl ?_;(with_reducible apply a_.fD);exact rfl;exact ah;(iterate 9 exact rfl);exact aa;refine nz ?_;refine vG ?_;refine xx ?_)
    exact WS
   ·rw[if_neg k1] at jY
    by_cases k2:l[i].k % 4=2
    ·rw[if_pos k2] at jY
     generalize Tp gs a b=q at uI jY
     obtain⟨gs',r⟩:=q
     simp only at uI jY
     (refine N_ ?_;show a_ .held _ _ _ [_,_,_,_,_,_] _ _;refine N6 ?_;refine aA ?_;refine a_.l5 rfl rfl rfl rfl ?_;refine jR ?_;intro k_ iE;apply AR.cut [5,4,3,2,1,0,6,7,8,9,10,11];intro kv;apply AR.cut [5,4,3,2,1,0,6,7,8,9,10];intro ly;apply AR.cut [5,4,3,2,1,0,6,7,8,10];intro lu;apply AR.cut [5,4,3,2,1,0,6,7,9,10];intro lF;apply AR.cut [5,4,3,2,1,0,6,7,8,9];intro ni;apply AR.cut [5,4,3,2,1,0,6,7,10];intro mP;(refine AR.Bi (i:=6) (j:=10) rfl aI rfl rfl aI ?_ ?_<;>intro g_ b_ eT);(with_reducible apply a_.inline (hf:=Tryz.func42));(with_reducible assumption);(iterate 10 exact rfl);intro g_ fp fl;refine Tu ?_;refine Mj ?_;refine O1 ?_;refine zP (uI) ?_;refine J0 ?_;refine Q3 ?_;(refine AR.fG (i:=7) (j:=10) rfl aI rfl rfl aI ?_ ?_<;>intro g_ b_ eT);refine Gp ?_;(refine AR.rC (i:=8) (j:=9) (m:=10) rfl aI rfl rfl rfl aI ?_ ?_ ?_<;>intro g_ b_ eT);refine pd ?_;(refine AR.fG (i:=9) (j:=10) rfl aI rfl rfl aI ?_ ?_<;>intro g_ b_ eT);exact Nu;refine JF ?_;exact AR.perm aI lu;refine pd ?_;(refine AR.fG (i:=8) (j:=10) rfl aI rfl rfl aI ?_ ?_<;>intro g_ b_ eT);exact N3;refine JF ?_;exact AR.perm aI lF;refine JF ?_;exact AR.perm aI mP;refine mV ?_;refine wy ?_;intro g_ b_ eT;exact Nq;refine mV ?_;refine xr ?_;intro g_ b_ eT;(with_reducible apply a_.inline (hf:=Tryz.func42));(with_reducible assumption);(iterate 10 exact rfl);intro g_ fp fl;refine Tu ?_;refine Mj ?_;refine O1 ?_;refine zP (uI) ?_;refine J0 ?_;refine wy ?_;intro g_ b_ eT;exact O2;(refine AR.fG (i:=8) (j:=9) rfl aI rfl rfl aI ?_ ?_<;>intro g_ b_ eT);exact Nz;exact Nj;refine yx ?_;intro g_ b_ eT;refine mV ?_;refine mX ?_;exact ss;refine vS ?_;intro g_ b_ eT;exact CN;(refine AR.fG (i:=9) (j:=11) rfl aI rfl rfl aI ?_ ?_<;>intro g_ b_ eT);exact CN;refine zB ?_;refine jR ?_;refine wL ?_;intro g_ b_ eT;refine tK ?_;exact pE;refine uo ?_;intro g_ b_ eT;refine kV ?_;refine mX ?_;refine Iv ?_;exact Oe;refine AM ?_;intro g_ b_ eT;refine Pl ?_;(with_reducible apply a_.fD);exact rfl;exact ah;(iterate 9 exact rfl);exact aa;refine nz ?_;refine vG ?_;refine xx ?_)
     exact WS
    ·rw[if_neg k2] at jY
     generalize C7 gs a b=q at LD jY
     obtain⟨gs',r⟩:=q
     simp only at LD jY
     (refine N_ ?_;show a_ .held _ _ _ [_,_,_,_,_,_] _ _;refine N6 ?_;refine aA ?_;refine a_.l5 rfl rfl rfl rfl ?_;refine jR ?_;intro k_ iE;apply AR.cut [5,4,3,2,1,0,6,7,8,9,10,11];intro kv;apply AR.cut [5,4,3,2,1,0,6,7,8,9,10];intro ly;apply AR.cut [5,4,3,2,1,0,6,7,8,10];intro lu;apply AR.cut [5,4,3,2,1,0,6,7,9,10];intro lF;apply AR.cut [5,4,3,2,1,0,6,7,8,9];intro ni;apply AR.cut [5,4,3,2,1,0,6,7,10];intro mP;(refine AR.Bi (i:=6) (j:=10) rfl aI rfl rfl aI ?_ ?_<;>intro g_ b_ eT);(with_reducible apply a_.inline (hf:=Tryz.func42));(with_reducible assumption);(iterate 10 exact rfl);intro g_ fp fl;refine VB ?_;refine jR ?_;(refine AR.fG (i:=7) (j:=10) rfl aI rfl rfl aI ?_ ?_<;>intro g_ b_ eT);refine Gp ?_;(refine AR.rC (i:=8) (j:=9) (m:=10) rfl aI rfl rfl rfl aI ?_ ?_ ?_<;>intro g_ b_ eT);refine pd ?_;(refine AR.fG (i:=9) (j:=10) rfl aI rfl rfl aI ?_ ?_<;>intro g_ b_ eT);exact Nu;refine JF ?_;exact AR.perm aI lu;refine pd ?_;(refine AR.fG (i:=8) (j:=10) rfl aI rfl rfl aI ?_ ?_<;>intro g_ b_ eT);exact N3;refine JF ?_;exact AR.perm aI lF;refine JF ?_;exact AR.perm aI mP;refine mV ?_;refine wy ?_;intro g_ b_ eT;exact Nq;refine mV ?_;refine xr ?_;intro g_ b_ eT;(with_reducible apply a_.inline (hf:=Tryz.func42));(with_reducible assumption);(iterate 10 exact rfl);intro g_ fp fl;refine VB ?_;refine nz ?_;refine wy ?_;intro g_ b_ eT;exact O2;(refine AR.fG (i:=8) (j:=9) rfl aI rfl rfl aI ?_ ?_<;>intro g_ b_ eT);exact Nz;exact Nj;refine yx ?_;intro g_ b_ eT;refine mV ?_;refine mX ?_;exact ss;refine vS ?_;intro g_ b_ eT;exact CN;(refine AR.fG (i:=9) (j:=11) rfl aI rfl rfl aI ?_ ?_<;>intro g_ b_ eT);exact CN;refine zB ?_;refine jR ?_;refine wL ?_;intro g_ b_ eT;refine tK ?_;exact pE;refine uo ?_;intro g_ b_ eT;refine kV ?_;refine mX ?_;refine Iv ?_;exact Oe;refine AM ?_;intro g_ b_ eT;refine Pl ?_;(with_reducible apply a_.fD);exact rfl;exact ah;(iterate 9 exact rfl);exact aa;refine nz ?_;refine vG ?_;refine xx ?_)
     exact WS
 ·rw[gP (l:=l) aJ] at i_
  rw[← i_]
  (refine FH ?_;refine tW ?_;refine qS ?_;refine a_.fX rfl rfl rfl ?_;refine kV ?_;refine xV ?_)
  (apply eY;(exact gm.two (.cell rfl rfl rfl rfl) (.tmp rfl rfl));(refine Le.tV ?_;refine hO.cons ?_ ?_;refine Le.lS ?_;refine hO.cons ?_ ?_;(with_reducible exact Le.pv _);exact hO.nil;refine hO.cons ?_ ?_;exact Le.own _ _ _ _ rfl;exact hO.nil))
end Go.Ab.N19
/- What the laws need of the formula of a reference,in plain terms. -/
namespace Go.Ab.N19
open Go Go.Proofs Go.Ab
set_option maxRecDepth 20000
set_option maxHeartbeats 4000000
theorem R5 {gs:List fg} (hc:gD gs) {r:Int} (hr:gz gs r) {n:Int} (hn:8≤n):∀c∈(lf gs r n).2,∀x∈c,x≠0∧x≤(lf gs r n).1∧ -(lf gs r n).1≤x:=by
 unfold lf
 by_cases h0:r=0
 ·rw[if_pos h0];intro c h;cases h
 ·rw[if_neg h0]
  by_cases h1:r=1
  ·rw[if_pos h1];intro c h x hx;simp at h;subst h;cases hx
  ·rw[if_neg h1]
   have jI:=tM hc hr
   have h2:2≤r:=by unfold gz at hr;omega
   generalize mU gs r=G at jI ⊢
   intro c h x hx
   have key:∀y,va gs G y→(kb gs n G y≠0∧kb gs n G y≤n+(G.length:Nat)∧ -(n+(G.length:Nat):Int)≤kb gs n G y):=fun y hy=>hy.lit hc hn
   show x≠0∧x≤n+(G.length:Nat)∧ -(n+(G.length:Nat):Int)≤x
   rcases bX.1 h with h|h
   ·obtain⟨g,hg,h⟩:=eQ.1 h
    have k1:=key _ (jI.own hg hc)
    have k2:=key _ (jI.JS hc hg)
    have k3:=key _ (jI.Kq hc hg)
    simp only[ml,bw,eR,or_false] at h
    rcases h with rfl|rfl|rfl<;>simp only[bw,eR,or_false] at hx
    ·rcases hx with rfl|rfl<;>omega
    ·rcases hx with rfl|rfl<;>omega
    ·rcases hx with rfl|rfl|rfl<;>omega
   ·simp at h;subst h
    simp at hx;subst hx
    exact key _ (jI.said hc hr h2)
theorem xW {gs:List fg} (hc:gD gs) {r:Int} (hr:gz gs r) {n:Int}:n≤(lf gs r n).1∧(lf gs r n).1≤n+gs.length∧(lf gs r n).2.length≤3*gs.length+1:=by
 have nG:=yq hc hr
 unfold lf
 split
 ·simp only[bV];omega
 ·split
  ·simp only[dL,bV];omega
  ·simp only[Bw,bW,dL,bV,u7];omega
theorem Pd {gs:List fg} {r:Int} (h0:0≤r) {n:Nat} {vals:List Bool}:((uM gs r n vals).length:Int)=(lf gs r n).1:=by
 unfold uM lf
 by_cases h2:r<2
 ·rw[if_pos h2,lx]
  by_cases h:r=0
  ·rw[if_pos h]
  ·rw[if_neg h,if_pos aJ]
 ·rw[if_neg h2,if_neg aJ,if_neg aJ,yl,lx]
  simp
theorem C8 {gs:List fg} {r:Int} {n:Nat} {vals:List Bool}:(uM gs r n vals).take n=ti n vals:=by
 unfold uM
 split
 ·rw[cJ (by rw[lx];exact aP _)]
 ·unfold pD
  rw[List.take_append_of_le_length (by rw[lx];exact aP _),cJ (by rw[lx];exact aP _)]
theorem val_zero {gs:List fg} (hc:gD gs) (v:List Bool):so gs v 0=true:=by
 rw[B4,qk]
 have h:gs.getD 0 ⟨0,0,0⟩=⟨0,0,0⟩:=by rw[c6,hc.zero];rfl
 rw[h]
 rfl
theorem KZ {gs:List fg} (hc:gD gs) (v:List Bool):jH gs v 0=true:=by
 unfold jH
 rw[show((0:Int) / 2).toNat=0 by rfl,val_zero hc];rfl
theorem eval_1 {gs:List fg} (hc:gD gs) (v:List Bool):jH gs v 1=false:=by
 unfold jH
 rw[show((1:Int) / 2).toNat=0 by rfl,val_zero hc];rfl
theorem Og {gs:List fg} (hc:gD gs) {r:Int} (hr:gz gs r) {n:Nat} (hn:8≤n) (vals:List Bool):nH (lf gs r n).2 (uM gs r n vals)=jH gs (ti n vals) r:=by
 unfold lf
 by_cases h0:r=0
 ·rw[if_pos h0,h0,KZ hc];rfl
 ·rw[if_neg h0]
  by_cases h1:r=1
  ·rw[if_pos h1,h1,eval_1 hc];rfl
  ·rw[if_neg h1]
   have h2:2≤r:=by unfold gz at hr;omega
   have ht:=C8 (gs:=gs) (r:=r) (n:=n) (vals:=vals)
   rw[← ht]
   have jI:=tM hc hr
   unfold uM at ht ⊢
   rw[if_neg aJ] at ht ⊢
   refine pY hc hr h2 jI hn (by rw[yl,lx];omega) ?_
   have:=AY (gs:=gs) jI.inc (ti n vals)
   rwa [lx] at this
theorem Hq {gs:List fg} (hc:gD gs) {r:Int} (hr:gz gs r) {n:Nat} (hn:8≤n) {w:List Bool} (hw:(w.length:Int)=(lf gs r n).1) (hs:nH (lf gs r n).2 w=true):uM gs r n (w.take n)=w∧jH gs (w.take n) r=true:=by
 have xn:=hr
 unfold gz at xn
 unfold lf at hw hs
 unfold uM
 by_cases h0:r=0
 ·rw[if_pos h0] at hw hs
  have hl:w.length=n:=by simp only at hw;omega
  rw[if_pos aJ,cJ aJ,B9 hl,h0]
  exact⟨rfl,KZ hc _⟩
 ·by_cases h1:r=1
  ·rw[if_neg h0,if_pos h1] at hs
   exact absurd hs (by simp [nH])
  ·rw[if_neg h0,if_neg h1] at hw hs
   have hl:w.length=n+(mU gs r).length:=by simp only at hw;omega
   obtain⟨h2,h3⟩:=(sat_iff hc hr aJ (tM hc hr) hn hl).1 hs
   rw[if_neg aJ,B9 (by rw[cO];omega)]
   exact⟨h2.symm,h3⟩
end Go.Ab.N19
/- A circuit's formula solved:what the solver finds,in plain terms. -/
namespace Go.Ab
open Go Go.Proofs
set_option maxRecDepth 20000
set_option maxHeartbeats 4000000
theorem xM {w:List Bool} {x:Int} (h0:x≠0):N19.il w x=jZ w x:=by
 unfold N19.il jZ
 by_cases h1:0<x
 ·rw[if_pos h1,show max x (-x)=x by omega,decide_eq_true h1]
  cases w.getD (x - 1).toNat false<;>rfl
 ·rw[if_neg h1,if_pos (show x<0 by omega),show max x (-x)= -x by omega,decide_eq_false h1,show 0 - x - 1= -x - 1 by omega]
  cases w.getD (-x - 1).toNat false<;>rfl
theorem D1 {w:List Bool} {cl:List (List Int)} (h:∀c∈cl,∀x∈c,x≠0):allM w cl=N19.nH cl w:=by
 have key:∀c∈cl,kU w c=c.any (N19.il w):=fun c hc=>by
  unfold kU
  rw[eS,dc,dc]
  exact⟨fun⟨x,hx,e⟩=>⟨x,hx,by rw[xM (h c hc x hx)];exact e⟩,fun⟨x,hx,e⟩=>⟨x,hx,by rw[← xM (h c hc x hx)];exact e⟩⟩
 unfold allM N19.nH
 rw[eS,bD,bD]
 exact⟨fun g c hc=>by rw[← key c hc];exact g c hc,fun g c hc=>by rw[key c hc];exact g c hc⟩
theorem getD_take {w:List Bool} {n u:Nat} (h:u<n):(w.take n).getD u false=w.getD u false:=by
 rw[c6,c6,List.getElem?_take,if_pos h]
theorem Im {gs:List N19.fg} {r n:Int}:∀c∈(N19.lf gs r n).2,c.length≤3:=by
 unfold N19.lf
 split
 ·intro c h;cases h
 ·split
  ·intro c h;simp at h;subst h;simp
  ·intro c h
   rcases bX.1 h with h|h
   ·obtain⟨g,hg,h⟩:=eQ.1 h
    simp only[N19.ml,bw,eR,or_false] at h
    rcases h with rfl|rfl|rfl<;>simp
   ·simp at h;subst h;simp
section
variable {gs:List N19.fg} {r:Int} {n:Nat} {q:Int×List Bool×List Int×List (List Int)}
theorem fK.three {F:List (List Int)} {A:List Int} (h:fK n F A q):(q.1=0∧8<n)∨q.1=1∨q.1=2:=by
 obtain⟨t,h1,_⟩:=h
 rcases h1.res with ⟨e,_⟩|⟨e,_⟩|⟨e0,_,_,e⟩
 ·exact .inr (.inl e)
 ·exact .inr (.inr e)
 ·refine .inl ⟨e0,?_⟩
  by_cases hn:n≤8
  ·exfalso
   have:3 ^ n≤3 ^ 8:=Nat.pow_le_pow_right aJ hn
   have:3 ^ 8=6561:=by decide
   omega
  ·omega
theorem NP (hc:N19.gD gs) (hr:N19.gz gs r) (hn:(N19.lf gs r ((8:Nat):Int)).1=(n:Int)) (h:fK n (N19.lf gs r ((8:Nat):Int)).2 [] q) (hk:q.1≠0) {i:Nat} (hi:i<256) (he:N19.jH gs (gI 8 i) r=true) (tY:∀j,j<i→N19.jH gs (gI 8 j) r=false):q.1=1∧q.2.1.length=n∧q.2.1=N19.uM gs r 8 (gI 8 i)∧N19.nH (N19.lf gs r ((8:Nat):Int)).2 q.2.1=true:=by
 have Wu:N19.ti 8 (gI 8 i)=gI 8 i:=N19.B9 (kM 8 i)
 have XN:=N19.Og hc hr (n:=8) (aP _) (gI 8 i)
 have JL:=N19.Pd (gs:=gs) (r:=r) (by unfold N19.gz at hr;omega) (n:=8) (vals:=gI 8 i)
 have het:=N19.C8 (gs:=gs) (r:=r) (n:=8) (vals:=gI 8 i)
 rw[Wu,he] at XN
 rw[Wu] at het
 rw[hn] at JL
 have ED:=fun w hw hs=>N19.Hq (w:=w) hc hr (n:=8) (aP _) hw hs
 have hF:=h.zG
 have h8:8≤n:=by
  have:=(N19.xW hc hr (n:=((8:Nat):Int))).1
  omega
 have VM:∀c∈(N19.lf gs r ((8:Nat):Int)).2,∀x∈c,x≠0:=fun c h1 x h2=>(hF c h1 x h2).1
 have EE:=fun w=>D1 (w:=w) VM
 generalize hgx:N19.uM gs r 8 (gI 8 i)=ex at XN JL het ⊢
 have hex:ns (zE ex) (N19.lf gs r ((8:Nat):Int)).2:=(mM hF).2 ((EE ex).trans XN)
 have h1:q.1=1:=by
  rcases h.three with ⟨e,_⟩|e|e
  ·exact absurd e hk
  ·exact e
  ·exact(h.unsat e hex (by simp)).elim
 obtain⟨L,hL,eL,_⟩:=h.sat h1
 obtain⟨q1,q2⟩:=h.Jn h1
 rw[EE] at q2
 refine⟨h1,q1,?_,q2⟩
 obtain⟨p1,p2⟩:=ED q.2.1 (by rw[hn,q1]) q2
 obtain⟨m,hm,em⟩:=tO (n:=8) (l:=q.2.1.take 8) (by rw[cO];omega)
 rw[← em] at p1 p2
 have TF:m=i:=by
  rcases Nat.lt_trichotomy m i with fy|e|fy
  ·rw[tY m fy] at p2;cases p2
  ·exact e
  ·exfalso
   obtain⟨v,v1,v2,v3,v4⟩:=yj fy hm
   have r8:∀u,u<8→pX L (u+1)=(gI 8 m).getD u false:=fun u hu=>by
    rw[em,getD_take hu,eL,← uA (n:=n) aJ aJ];rfl
   have hax:∀u,u<8→zE ex (u+1)=(gI 8 i).getD u false:=fun u hu=>by
    rw[← het,getD_take hu];rfl
   have:=hL.min (zE ex) hex (by simp) (v+1) aJ aJ (fun u u1 u2=>by
    obtain⟨w,rfl⟩:∃w,u=w+1:=⟨u - 1,by omega⟩
    rw[r8 w aJ,hax w aJ]
    exact v2 w aJ) (by rw[r8 v v1];exact v4)
   rw[hax v v1,v3] at this
   cases this
 subst TF
 rw[← hgx]
 exact p1.symm
theorem H5 (hc:N19.gD gs) (hr:N19.gz gs r) (hn:(N19.lf gs r ((8:Nat):Int)).1=(n:Int)) (h:fK n (N19.lf gs r ((8:Nat):Int)).2 [] q) (hk:q.1≠0) (tY:∀j,j<256→N19.jH gs (gI 8 j) r=false):q.1=2:=by
 rcases h.three with ⟨e,_⟩|e|e
 ·exact absurd e hk
 ·exfalso
  have hF:=h.zG
  have h8:8≤n:=by
   have:=(N19.xW hc hr (n:=((8:Nat):Int))).1
   omega
  obtain⟨q1,q2⟩:=h.Jn e
  rw[D1 fun c h1 x h2=>(hF c h1 x h2).1] at q2
  obtain⟨_,p2⟩:=N19.Hq (w:=q.2.1) hc hr (n:=8) (aP _) (by rw[hn,q1]) q2
  obtain⟨m,hm,em⟩:=tO (n:=8) (l:=q.2.1.take 8) (by rw[cO];omega)
  rw[← em,tY m (by simpa using hm)] at p2
  cases p2
 ·exact e
end
end Go.Ab
/- Assignments by number;what they satisfy:the reference's functions walked. -/
namespace Go.Ab
open Go Go.Proofs
open Nat (reduceAdd reduceSub)
set_option maxRecDepth 20000
set_option maxHeartbeats 8000000
theorem UT (l:List Bool) (i:Nat) (b:Bool):(l.map kX).set i [PV.lit (.bool b)]=(l.set i b).map kX:=by
 rw[List.map_set];rfl
theorem LZ (v:Nat) (b:Bool) (T:List Bool):(bZ (v+1) false++T).set v b=bZ v false++b::T:=by
 rw[List.replicate_succ',dh,List.set_append,if_neg (by simp)]
 simp
theorem Hv (r:Nat):decide ((r:Int) % 2=1)=decide (r % 2=1):=by
 rw[eS,decide_eq_true_iff,decide_eq_true_iff];omega
attribute [local irreducible] AW a_ gr fz AR fH fv fM gk e8 gI
theorem O_ (n k:Nat) (hn:n≤1000) (hk:k≤1000000):Fn Tryz.prog 14 [eU n,eU k] (.pv (qV (gI n k))):=by
 have LR:bZ ((n:Nat):Int).toNat [PV.lit (.bool false)]=(bZ n false).map kX:=by rw[dq];exact SD n
 have zH:=kM n k
 refine Fn.enter (n:=26) Tryz.func14 rfl rfl rfl rfl rfl (by decide) fun g fp fl=>?_;(try refine nz ?_)
 (refine u6 ?_;refine zm ?_;refine PQ ?_;refine nz ?_;refine B8 ?_;(with_reducible apply AW.xe 2);(rw[LR]);refine j6 ?_;refine yf ?_;refine Bc ?_;refine AW.block ?_)
 (refine nz ?_;apply AW.gJ [4] [0] (fun q:Nat×Nat×List Bool=>([(5,.own 0 4 1 ((bZ q.1 false++q.2.2).map kX)),(6,eU (q.2.1:Nat)),(7,eU ((q.1:Int) - 1))]:List (Nat×AV))) (fun q:Nat×Nat×List Bool=>([]:List (Nat×Option Ob))) (fun q:Nat×Nat×List Bool=>(gI n k=gI q.1 q.2.1++q.2.2∧q.1≤n∧q.2.1≤1000000∧q.1+q.2.2.length=n)) (fun q:Nat×Nat×List Bool=>q.1) ((n,k,([]:List Bool)));(conv=>lhs;simp only[Nf.ot,Nf.all,df,reduceAdd,reduceSub]);(all_goals skip))
 ·exact⟨by rw[bt],aP _,hk,rfl⟩
 ·exact fe rfl (by(refine⟨.ff (by first|rfl|(rw[bt])) rfl,?_⟩;refine⟨.fm (by first|rfl|(rw[bt])),?_⟩;refine⟨.fm (by first|rfl|(rw[bt])),?_⟩;refine⟨.fm (by first|rfl|(rw[bt])),?_⟩;exact trivial)) (by(refine aF ?_;exact trivial)) rfl
 rintro⟨v,r,T⟩ ⟨hb,hv,hr,hT⟩
 simp only at hb hv hr hT
 cases v with
 |zero=>
  (refine zo ?_;refine j6 ?_;refine a_.geq rfl rfl rfl rfl rfl ?_;refine zd ?_;refine AW.j8 rfl rfl ?_;refine I6 ?_;refine iK ?_;refine Fk ?_)
  have e:(bZ 0 false++T)=gI n k:=by rw[hb];unfold gI;rfl
  rw[e]
  (apply eY;(exact gm.one (.tmp rfl rfl));(exact Le.own _ _ _ _ rfl))
 |succ v=>
  have ek:((v+1:Nat):Int) - 1=(v:Int):=by omega
  have hlen:(bZ (v+1) false++T).length=n:=by rw[bW,List.length_replicate];exact hT
  have MR:gI n k=gI v (r / 2)++(decide (r % 2=1)::T):=by
                                       rw[hb];conv=>lhs;unfold gI
                                       rw[dh];rfl
  have i_:=fun b=>(UT (bZ (v+1) false++T) v b).trans (congrArg _ (LZ v b T))
  have hrd:((r:Int) / 2)=((r / 2:Nat):Int):=by omega
  rw[ek]
  (refine zo ?_;refine j6 ?_;refine Wc ?_;refine BR ?_;(iterate 2 refine zm ?_);refine PI ?_;refine Dl ?_;refine OM ?_;refine BG ?_;refine zm ?_;refine a_.BJ rfl rfl rfl rfl rfl aJ ?_;refine za ?_;refine a_.nil ?_;refine uH ?_;refine nz ?_;refine zm ?_;refine Bc ?_)
  exact⟨(v,r / 2,decide (r % 2=1)::T),⟨MR,(by show v≤n;omega),(by show r / 2≤1000000;omega),(by show v+(T.length+1)=n;omega)⟩,Nat.lt_succ_self v,fe rfl (by(refine⟨.ff (by first|rfl|(rw[i_,Hv])) rfl,?_⟩;refine⟨.fm (by first|rfl|(rw[i_,Hv])),?_⟩;refine⟨.fm (by first|rfl|(rw[i_,Hv])),?_⟩;refine⟨.fm (by first|rfl|(rw[i_,Hv])),?_⟩;exact trivial)) (by(refine aF ?_;exact trivial)) rfl⟩
end Go.Ab
/- The least assignment's number,walked. -/
namespace Go.Ab
open Go Go.Proofs
open Nat (reduceAdd reduceSub)
set_option maxRecDepth 20000
set_option maxHeartbeats 8000000
theorem xY (p:Nat→Bool):∀m,∃i,i≤m∧(∀j,j<i→p j=false)∧(i<m→p i=true)
 |0=>⟨0,aP _,fun j hj=>by omega,fun h=>by omega⟩
 |m+1=>by
  obtain⟨i,h1,h2,h3⟩:=xY p m
  by_cases e:i<m
  ·exact⟨i,by omega,h2,fun _=>h3 e⟩
  ·obtain rfl:i=m:=by omega
   cases hp:p i with
   |true=>exact⟨i,by omega,h2,fun _=>hp⟩
   |false=>exact⟨i+1,aP _,fun j hj=>by
     by_cases e2:j=i
     ·rw[e2];exact hp
     ·exact h2 j aJ,fun h=>by omega⟩
attribute [local irreducible] AW a_ gr fz AR fH fv fM gk e8 gI allM oO
end Go.Ab
