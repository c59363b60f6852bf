/- Chapter 07: states and models held against each other; the next state, the state at a time. -/
import Derived.Test.YtijkecidjjicbaaGreatDoorAqM2
import Derived.Test.YtijkecidjjicbaaGreatDoorAbZ
import Derived.Test.YtijkecidjjicbaaGreatDoorAbL3
import Derived.Test.YtijkecidjjicbaaGreatDoorAbL2
import Derived.Test.YtijkecidjjicbaaGreatDoorAqS
set_option linter.unusedSimpArgs false
set_option linter.unusedVariables false
namespace Go.Ab
open Go Go.Proofs
set_option maxRecDepth 20000
set_option maxHeartbeats 2000000
attribute [local irreducible] AW AOps thenD inBlockD AR iterEnds roundEndsN inlEnds
theorem rSame_fn (a b:List RelM):Fn Tryz.prog 32 [.pv (rels a),.pv (rels b)] (litB (decide (a=b))):=by
 refine Fn.enter (n:=27) Tryz.func32 rfl rfl rfl rfl rfl (by decide) fun g hro_ hwt_=>?_;(try refine nz ?_)
 refine AW.len_map 0 rfl fun hlen=>?_
 by_cases hab:a.length=b.length
 ·(refine j357 ?_;refine j299 ?_)
  refine AW.loop (fun(k:Nat)=>{n:=27,env:=[(0,.pv (rels a)),(1,.pv (rels b)),(5,litI k)],objs:=[],nx:=0}) (fun k=>k≤a.length∧a.take k=b.take k) (fun k=>a.length - k) 0 ?_ ?_ ?_
  ·simp
  ·exact weak rfl (by(refine⟨.eq rfl rfl,?_⟩;(iterate 2 refine⟨.eq rfl rfl,?_⟩);exact trivial)) (by(exact trivial)) rfl
  rintro k ⟨hk,hno⟩
  by_cases hlt:k<a.length
  ·have hlt2:k<b.length:=by omega
   have he:=rEqual_fn a[k] b[k]
   by_cases heq:a[k]=b[k]
   ·rw[decide_eq_true heq] at he
    (refine j142 ?_;refine j39 ?_;refine zo ?_)
    refine AW.regionE [0,1,2,3,4,5,6,7] [] rfl (by assumption) (by kernel_rfl) rfl ?_
    show AOps .held _ _ _ [_,_,_,_,_,_,_,_] _ _
    ((iterate 2 refine zm ?_);(focus ((with_reducible apply AOps.index_map);(iterate 7 exact rfl);rotate_left;omega));refine j167 ?_;(iterate 2 refine zm ?_);(focus ((with_reducible apply AOps.index_map);(iterate 7 exact rfl);rotate_left;omega));refine j167 ?_;refine j6 ?_)
    intro k_ hk_
    (try refine nz ?_)
    refine AR.step1 (i:=8) rfl (by kernel_rfl) rfl ?_
    intro g_ hgro_ hw_
    (refine AOps.call (he) (.cons rfl (.aggL (.cons (.pv _) (.cons (.pv _) .nil))) (.cons rfl (.aggL (.cons (.pv _) (.cons (.pv _) .nil))) .nil)) rfl rfl (fun h_=>by cases h_) ?_;refine j6 ?_)
    refine AR.step1 (i:=9) rfl (by kernel_rfl) rfl ?_
    intro g_ hgro_ hw_
    (refine AOps.not rfl rfl rfl ?_;refine j6 ?_)
    refine AR.done (by assumption) (by kernel_rfl) ?_
    (refine thenD_n ?_;refine j302 ?_)
    exact⟨k+1,⟨by omega,eq_step hno hlt hlt2 heq⟩,by omega,weak rfl (by(refine⟨.eq rfl rfl,?_⟩;(iterate 2 refine⟨.eq rfl rfl,?_⟩);exact trivial)) (by(exact trivial)) rfl⟩
   ·rw[decide_eq_false heq] at he
    have hne:¬a=b:=by rintro rfl;exact heq rfl
    (refine j142 ?_;refine j39 ?_;refine zo ?_)
    refine AW.regionE [0,1,2,3,4,5,6,7] [] rfl (by assumption) (by kernel_rfl) rfl ?_
    show AOps .held _ _ _ [_,_,_,_,_,_,_,_] _ _
    ((iterate 2 refine zm ?_);(focus ((with_reducible apply AOps.index_map);(iterate 7 exact rfl);rotate_left;omega));refine j167 ?_;(iterate 2 refine zm ?_);(focus ((with_reducible apply AOps.index_map);(iterate 7 exact rfl);rotate_left;omega));refine j167 ?_;refine j6 ?_)
    intro k_ hk_
    (try refine nz ?_)
    refine AR.step1 (i:=8) rfl (by kernel_rfl) rfl ?_
    intro g_ hgro_ hw_
    (refine AOps.call (he) (.cons rfl (.aggL (.cons (.pv _) (.cons (.pv _) .nil))) (.cons rfl (.aggL (.cons (.pv _) (.cons (.pv _) .nil))) .nil)) rfl rfl (fun h_=>by cases h_) ?_;refine j6 ?_)
    refine AR.step1 (i:=9) rfl (by kernel_rfl) rfl ?_
    intro g_ hgro_ hw_
    (refine AOps.not rfl rfl rfl ?_;refine j6 ?_)
    refine AR.done (by assumption) (by kernel_rfl) ?_
    (refine thenD_n ?_;refine AW.cond_lt rfl rfl ?_;refine j2 ?_;refine j11 ?_;refine j10 ?_)
    (apply ends_ret;(exact Res.one (.tmp rfl rfl));(refine Le.litB ?_;(rw[eq_comm,decide_eq_false_iff_not];exact hne)))
  ·have he:a=b:=eq_at_end hab hno hlt
   (refine j142 ?_;refine j337 ?_)
   (apply ends_ret;(exact Res.one (.tmp rfl rfl));(refine Le.litB ?_;(rw[eq_comm,decide_eq_true_iff];exact he)))
 ·have hne:¬a=b:=by rintro rfl;exact hab rfl
  (refine j357 ?_;refine j268 ?_)
  (apply ends_ret;(exact Res.one (.tmp rfl rfl));(refine Le.litB ?_;(rw[eq_comm,decide_eq_false_iff_not];exact hne)))
end Go.Ab
/- Chapter 07:copies,the state at a time,models held against each other. -/
namespace Go.Ab
open Go Go.Proofs
set_option maxRecDepth 20000
set_option maxHeartbeats 2000000
attribute [local irreducible] AW AOps thenD inBlockD AR iterEnds roundEndsN inlEnds
theorem mod_eq (a b:ModM):decide (a=b)=(decide (a.atoms=b.atoms) && decide (a.steps=b.steps) && decide (a.loop=b.loop) && decide (a.states=b.states)):=by
 obtain⟨a1,a2,a3,a4⟩:=a
 obtain⟨b1,b2,b3,b4⟩:=b
 rw[Bool.eq_iff_iff]
 simp only[Bool.and_eq_true,decide_eq_true_eq,ModM.mk.injEq]
 constructor
 ·rintro⟨h1,h2,h3,h4⟩;exact⟨⟨⟨h1,h2⟩,h4⟩,h3⟩
 ·rintro⟨⟨⟨h1,h2⟩,h4⟩,h3⟩;exact⟨h1,h2,h3,h4⟩
end Go.Ab
/- Chapter 07:traces of looped models,in plain terms. -/
namespace Go.Ab
open Go Go.Proofs
section
variable {α:Type} {d:α}
end
end Go.Ab
/- Chapter 07:models held against each other,the same trace. -/
namespace Go.Ab
open Go Go.Proofs
set_option maxRecDepth 20000
set_option maxHeartbeats 2000000
attribute [local irreducible] AW AOps thenD inBlockD AR iterEnds roundEndsN inlEnds
theorem rEq07_fn (a b:ModM):Fn Tryz.prog 11 [mdl a,mdl b] (litB (decide (a=b))):=by
 rw[mod_eq]
 obtain⟨a1,a2,a3,a4⟩:=a
 obtain⟨b1,b2,b3,b4⟩:=b
 simp only
 have hs:=ints_fn a1 b1
 cases h1:decide (a1=b1) with
 |false=>
  rw[h1] at hs
  rw[Bool.false_and,Bool.false_and,Bool.false_and]
  refine Fn.enter (n:=58) Tryz.func11 rfl rfl rfl rfl rfl (by decide) fun g hro_ hwt_=>?_;(try refine nz ?_)
  (refine j131 ?_;(iterate 2 refine j112 ?_);refine AOps.call (hs) (.cons rfl (.pv _) (.cons rfl (.pv _) .nil)) rfl rfl (fun h_=>by cases h_) ?_;refine j145 ?_;refine j150 ?_;refine j129 ?_;refine j290 ?_;refine j129 ?_;refine j150 ?_;refine j55 ?_)
  (apply ends_ret;(exact Res.one (.tmp rfl rfl));(refine Le.litB ?_;(rfl)))
 |true=>
 rw[h1] at hs
 by_cases h2:a2=b2
 ·by_cases h4:a4=b4
  ·rw[decide_eq_true h2,decide_eq_true h4,Bool.true_and,Bool.true_and,Bool.true_and]
   refine Fn.enter (n:=58) Tryz.func11 rfl rfl rfl rfl rfl (by decide) fun g hro_ hwt_=>?_;(try refine nz ?_)
   refine AW.len_agg 0 2 rfl rfl fun hlen=>?_
   simp only at hlen
   by_cases hab:a3.length=b3.length
   ·(refine j131 ?_;(iterate 2 refine j112 ?_);refine AOps.call (hs) (.cons rfl (.pv _) (.cons rfl (.pv _) .nil)) rfl rfl (fun h_=>by cases h_) ?_;refine j179 ?_;refine j85 ?_;(iterate 2 refine j260 ?_);refine AOps.neq rfl rfl rfl rfl rfl ?_;refine zF ?_;refine j299 ?_)
    refine AW.loop (fun(k:Nat)=>{n:=58,env:=[(2,.ptr 0 0),(3,.ptr 1 0),(5,litI k)],objs:=[(0,some (.box [.pv (ints a1),litI a2,.pv (stts a3),litI a4])),(1,some (.box [.pv (ints b1),litI b2,.pv (stts b3),litI b4]))],nx:=2}) (fun k=>k≤a3.length∧a3.take k=b3.take k) (fun k=>a3.length - k) 0 ?_ ?_ ?_
    ·simp
    ·exact weak rfl (by(refine⟨.eq rfl rfl,?_⟩;(iterate 2 refine⟨.eq rfl rfl,?_⟩);exact trivial)) (by(refine⟨.box _ rfl ?_,?_⟩;(iterate 4 refine⟨.eq rfl rfl,?_⟩);exact trivial;refine⟨.box _ rfl ?_,?_⟩;(iterate 4 refine⟨.eq rfl rfl,?_⟩);(iterate 2 exact trivial))) rfl
    rintro k ⟨hk,hno⟩
    by_cases hlt:k<a3.length
    ·have hlt2:k<b3.length:=by omega
     have he:=rSame_fn a3[k] b3[k]
     by_cases heq:a3[k]=b3[k]
     ·rw[decide_eq_true heq] at he
      (refine j175 ?_;refine zo ?_;refine j91 ?_;refine j327 ?_;(focus ((with_reducible apply AOps.index_map);(iterate 7 exact rfl);rotate_left;omega));refine zr ?_;refine j327 ?_;(focus ((with_reducible apply AOps.index_map);(iterate 7 exact rfl);rotate_left;omega));refine zr ?_;refine AOps.call (he) (.cons rfl (.pv _) (.cons rfl (.pv _) .nil)) rfl rfl (fun h_=>by cases h_) ?_;refine j82 ?_;refine j171 ?_)
      exact⟨k+1,⟨by omega,eq_step hno hlt hlt2 heq⟩,by omega,weak rfl (by(refine⟨.eq rfl rfl,?_⟩;(iterate 2 refine⟨.eq rfl rfl,?_⟩);exact trivial)) (by(refine⟨.box _ rfl ?_,?_⟩;(iterate 4 refine⟨.eq rfl rfl,?_⟩);exact trivial;refine⟨.box _ rfl ?_,?_⟩;(iterate 4 refine⟨.eq rfl rfl,?_⟩);(iterate 2 exact trivial))) rfl⟩
     ·rw[decide_eq_false heq] at he
      have hne:¬a3=b3:=by rintro rfl;exact heq rfl
      (refine j175 ?_;refine zo ?_;refine j91 ?_;refine j327 ?_;(focus ((with_reducible apply AOps.index_map);(iterate 7 exact rfl);rotate_left;omega));refine zr ?_;refine j327 ?_;(focus ((with_reducible apply AOps.index_map);(iterate 7 exact rfl);rotate_left;omega));refine zr ?_;refine AOps.call (he) (.cons rfl (.pv _) (.cons rfl (.pv _) .nil)) rfl rfl (fun h_=>by cases h_) ?_;refine j300 ?_;refine j10 ?_)
      (apply ends_ret;(exact Res.one (.tmp rfl rfl));(refine Le.litB ?_;(rw[eq_comm,decide_eq_false_iff_not];exact hne)))
    ·have he:a3=b3:=eq_at_end hab hno hlt
     (refine j26 ?_;refine j22 ?_;refine j337 ?_)
     (apply ends_ret;(exact Res.one (.tmp rfl rfl));(refine Le.litB ?_;(rw[eq_comm,decide_eq_true_iff];exact he)))
   ·have hne:¬a3=b3:=by rintro rfl;exact hab rfl
    (refine j131 ?_;(iterate 2 refine j112 ?_);refine AOps.call (hs) (.cons rfl (.pv _) (.cons rfl (.pv _) .nil)) rfl rfl (fun h_=>by cases h_) ?_;refine j179 ?_;refine j85 ?_;(iterate 2 refine j260 ?_);refine AOps.neq rfl rfl rfl rfl rfl ?_;refine zF ?_;refine j268 ?_)
    (apply ends_ret;(exact Res.one (.tmp rfl rfl));(refine Le.litB ?_;(rw[eq_comm,decide_eq_false_iff_not];exact hne)))
  ·rw[decide_eq_true h2,decide_eq_false h4,Bool.and_false,Bool.false_and]
   refine Fn.enter (n:=58) Tryz.func11 rfl rfl rfl rfl rfl (by decide) fun g hro_ hwt_=>?_;(try refine nz ?_)
   (refine j131 ?_;(iterate 2 refine j112 ?_);refine AOps.call (hs) (.cons rfl (.pv _) (.cons rfl (.pv _) .nil)) rfl rfl (fun h_=>by cases h_) ?_;refine j179 ?_;refine zm ?_;(iterate 7 refine AOps.guardFn rfl rfl rfl rfl rfl rfl (by with_reducible assumption) ?_);refine j148 ?_)
   all_goals (apply ends_ret;(exact Res.one (.tmp rfl rfl));(refine Le.litB ?_;(rfl)))
 ·rw[decide_eq_false h2,Bool.and_false,Bool.false_and,Bool.false_and]
  refine Fn.enter (n:=58) Tryz.func11 rfl rfl rfl rfl rfl (by decide) fun g hro_ hwt_=>?_;(try refine nz ?_)
  (refine j131 ?_;(iterate 2 refine j112 ?_);refine AOps.call (hs) (.cons rfl (.pv _) (.cons rfl (.pv _) .nil)) rfl rfl (fun h_=>by cases h_) ?_;refine j145 ?_;refine j54 ?_;refine zb ?_;refine j54 ?_;refine zb ?_;refine zl ?_;refine AOps.neq rfl rfl rfl rfl rfl ?_;refine AOps.pick_lf rfl rfl rfl rfl rfl rfl ?_;refine zm ?_;refine j217 ?_;refine j315 ?_;refine j150 ?_;refine j55 ?_)
  all_goals (apply ends_ret;(exact Res.one (.tmp rfl rfl));(refine Le.litB ?_;(rfl)))
end Go.Ab
/- Chapter 34:names,and what the laws ask of their inputs,walked. -/
namespace Go.Ab
open Go Go.Proofs
open Nat (reduceAdd reduceSub)
set_option maxRecDepth 20000
set_option maxHeartbeats 4000000
def kwL:List Bt:=[[115,111,114,116],[111,114,100,101,114,101,100],[118,97,114],[102,105,101,108,100],[112,114,101,100],[102,97,99,116],[97,108,108],[115,111,109,101],[110,111],[111,110,101],[108,111,110,101],[97,108,119,97,121,115],[101,118,101,110,116,117,97,108,108,121],[97,102,116,101,114],[117,110,116,105,108],[110,111,110,101],[117,110,105,118],[105,100,101,110],[105,110],[110,111,116],[116,114,117,101],[102,97,108,115,101]]
theorem kw_lits:kwL.map (fun k=>[PV.lit (.string (mkS k))])=List.map (fun p=>[p]) [PV.lit (Value.string ⟨#[115,111,114,116]⟩),PV.lit (Value.string ⟨#[111,114,100,101,114,101,100]⟩),PV.lit (Value.string ⟨#[118,97,114]⟩),PV.lit (Value.string ⟨#[102,105,101,108,100]⟩),PV.lit (Value.string ⟨#[112,114,101,100]⟩),PV.lit (Value.string ⟨#[102,97,99,116]⟩),PV.lit (Value.string ⟨#[97,108,108]⟩),PV.lit (Value.string ⟨#[115,111,109,101]⟩),PV.lit (Value.string ⟨#[110,111]⟩),PV.lit (Value.string ⟨#[111,110,101]⟩),PV.lit (Value.string ⟨#[108,111,110,101]⟩),PV.lit (Value.string ⟨#[97,108,119,97,121,115]⟩),PV.lit (Value.string ⟨#[101,118,101,110,116,117,97,108,108,121]⟩),PV.lit (Value.string ⟨#[97,102,116,101,114]⟩),PV.lit (Value.string ⟨#[117,110,116,105,108]⟩),PV.lit (Value.string ⟨#[110,111,110,101]⟩),PV.lit (Value.string ⟨#[117,110,105,118]⟩),PV.lit (Value.string ⟨#[105,100,101,110]⟩),PV.lit (Value.string ⟨#[105,110]⟩),PV.lit (Value.string ⟨#[110,111,116]⟩),PV.lit (Value.string ⟨#[116,114,117,101]⟩),PV.lit (Value.string ⟨#[102,97,108,115,101]⟩)]:=rfl
def kwB (s:Bt):Bool:=decide (s∈kwL)
def letC (c:Int):Bool:=decide ((97≤c∧c≤122)∨(65≤c∧c≤90))
def okC (s:Bt) (k:Nat):Bool:=letC (byteAt (mkS s) k)||decide (k≠0∧(byteAt (mkS s) k=95∨(48≤byteAt (mkS s) k∧byteAt (mkS s) k≤57)))
def nameB (s:Bt):Bool:=decide (s.length≠0∧s.length≤16) && (!kwB s && (List.range s.length).all (okC s))
attribute [local irreducible] AW AOps thenD inBlockD AR iterEnds roundEndsN inlEnds noGotoD EndsX EndsP mkS byteAt
theorem kw_fn (s:Bt):Fn Tryz.prog 88 [litS (mkS s)] (litB (kwB s)):=by
 have hlen:kwL.length=22:=rfl
 obtain⟨L,hL⟩:∃L,L=kwL:=⟨_,rfl⟩
 unfold kwB
 rw[← hL] at hlen ⊢
 refine Fn.enter (n:=18) Tryz.func88 rfl rfl rfl rfl rfl (by decide) fun g hro_ hwt_=>?_;(try refine nz ?_)
 (refine j235 ?_;(focus ((with_reducible apply AOps.bsS);(iterate 5 exact rfl);(focus ((repeat ((any_goals (apply PvS.cons));(all_goals (try exact rfl))));(any_goals (exact PvS.nil));done));exact rfl;exact rfl;(try refine nz ?_)));refine j222 ?_;refine j130 ?_;refine j92 ?_)
 (refine nz ?_;apply AW.loopR [] [] (fun k:Nat=>([(0,litS (mkS s)),(4,litI k),(3,.own 0 9 1 (L.map fun k=>[.lit (.string (mkS k))]))]:List (Nat×AV))) (fun k:Nat=>([(0,some .row)]:List (Nat×Option Ob))) (fun k:Nat=>k≤22∧∀j (h:j<L.length),j<k→L[j]≠s) (fun k:Nat=>22 - k) (0);(conv=>lhs;simp only[Nf.lpR,Nf.all,Nat.reduceBEq,reduceAdd,reduceSub]);(all_goals skip))
 ·exact⟨by omega,fun j h hj=>by omega⟩
 ·exact weak rfl (by(refine⟨.strE (by first|with_reducible rfl|(rw[hL,kw_lits])),?_⟩;refine⟨.eq rfl rfl,?_⟩;refine⟨.ownE (by first|with_reducible rfl|(rw[hL,kw_lits])) rfl,?_⟩;exact trivial)) (by(refine⟨.row rfl,?_⟩;exact trivial)) rfl
 rintro k ⟨hk,hne⟩
 by_cases hlt:k<L.length
 ·by_cases hq:L[k]=s
  ·have hq':mkS L[k]=mkS s:=by rw[hq]
   rw[decide_eq_true (by rw[← hq];exact List.getElem_mem hlt)]
   (refine j318 ?_;refine j1 ?_;refine j313 ?_;refine zm ?_;refine AOps.index_own_mapN rfl rfl rfl rfl rfl rfl rfl (by omega) ?_;(focus ((with_reducible apply AOps.load_o1_mapI);(iterate 4 exact rfl);exact(fun h_=>by cases h_);rotate_left;(first|omega|exact Nat.zero_lt_one|exact(by simp))));refine zm ?_;refine AOps.eqlS rfl rfl rfl rfl rfl ?_;refine j185 ?_)
   (apply ends_ret;(exact Res.one (.tmp rfl rfl));(refine Le.litB ?_;(rfl)))
  ·have hq':mkS L[k]≠mkS s:=fun h=>hq (mk_inj.1 h)
   (refine j318 ?_;refine j1 ?_;refine j313 ?_;refine zm ?_;refine AOps.index_own_mapN rfl rfl rfl rfl rfl rfl rfl (by omega) ?_;(focus ((with_reducible apply AOps.load_o1_mapI);(iterate 4 exact rfl);exact(fun h_=>by cases h_);rotate_left;(first|omega|exact Nat.zero_lt_one|exact(by simp))));refine zm ?_;refine AOps.eqlS rfl rfl rfl rfl rfl ?_;refine j316 ?_)
   exact⟨k+1,⟨by omega,fun j h hj=>by
    by_cases e:j=k
    ·subst e;exact hq
    ·exact hne j h (by omega)⟩,by omega,weak rfl (by(refine⟨.strE (by first|with_reducible rfl|(rfl)),?_⟩;refine⟨.intE (by first|with_reducible rfl|(rfl)),?_⟩;refine⟨.ownE (by first|with_reducible rfl|(rfl)) rfl,?_⟩;exact trivial)) (by(refine⟨.row rfl,?_⟩;exact trivial)) rfl⟩
 ·rw[decide_eq_false (by
   intro h
   obtain⟨j,hj,e⟩:=List.getElem_of_mem h
   exact hne j hj (by omega) e)]
  (refine j318 ?_;refine j104 ?_;refine j11 ?_)
  (apply ends_ret;(exact Res.one (.tmp rfl rfl));(refine Le.litB ?_;(rfl)))
theorem okC_yes {s:Bt} {k:Nat} (h:(97≤byteAt (mkS s) k∧byteAt (mkS s) k≤122)∨(65≤byteAt (mkS s) k∧byteAt (mkS s) k≤90)∨(k≠0∧(byteAt (mkS s) k=95∨(48≤byteAt (mkS s) k∧byteAt (mkS s) k≤57)))):okC s k=true:=by
 unfold okC letC
 rw[Bool.or_eq_true,decide_eq_true_eq,decide_eq_true_eq]
 rcases h with h|h|h
 ·exact .inl (.inl h)
 ·exact .inl (.inr h)
 ·exact .inr h
theorem okC_no {s:Bt} {k:Nat} (h:¬((97≤byteAt (mkS s) k∧byteAt (mkS s) k≤122)∨(65≤byteAt (mkS s) k∧byteAt (mkS s) k≤90)∨(k≠0∧(byteAt (mkS s) k=95∨(48≤byteAt (mkS s) k∧byteAt (mkS s) k≤57))))):okC s k=false:=by
 unfold okC letC
 rw[Bool.or_eq_false_iff,decide_eq_false_iff_not,decide_eq_false_iff_not]
 exact⟨fun h'=>h (h'.elim .inl fun h'=> .inr (.inl h')),fun h'=>h (.inr (.inr h'))⟩
theorem name2_fn (s:Bt):Fn Tryz.prog 63 [litS (mkS s)] (litB (nameB s)):=by
 have kz:=mk_size s
 have kw:=kw_fn s
 unfold nameB
 by_cases h0:s.length=0
 ·rw[decide_eq_false (by omega),Bool.false_and]
  refine Fn.enter (n:=59) Tryz.func63 rfl rfl rfl rfl rfl (by decide) fun g hro_ hwt_=>?_;(try refine nz ?_)
  (refine j267 ?_;refine AOps.len_str rfl rfl rfl rfl ?_;refine AOps.eql rfl rfl rfl rfl rfl ?_;refine zm ?_;(iterate 3 refine AOps.guardFn rfl rfl rfl rfl rfl rfl (by first|omega|decide) ?_);refine j315 ?_;(iterate 2 refine AOps.guard_lf rfl rfl rfl rfl rfl rfl rfl ?_);refine j55 ?_)
  (apply ends_ret;(exact Res.one (.tmp rfl rfl));(refine Le.litB ?_;(rfl)))
 by_cases h1:16<s.length
 ·rw[decide_eq_false (by omega),Bool.false_and]
  refine Fn.enter (n:=59) Tryz.func63 rfl rfl rfl rfl rfl (by decide) fun g hro_ hwt_=>?_;(try refine nz ?_)
  (refine j267 ?_;refine j236 ?_;refine zm ?_;(iterate 2 refine AOps.guardFn rfl rfl rfl rfl rfl rfl (by first|omega|decide) ?_);refine j148 ?_)
  (apply ends_ret;(exact Res.one (.tmp rfl rfl));(refine Le.litB ?_;(rfl)))
 rw[decide_eq_true (by omega),Bool.true_and]
 cases hkw:kwB s with
 |true=>
  rw[hkw] at kw
  rw[Bool.not_true,Bool.false_and]
  refine Fn.enter (n:=59) Tryz.func63 rfl rfl rfl rfl rfl (by decide) fun g hro_ hwt_=>?_;(try refine nz ?_)
  (refine j267 ?_;refine j236 ?_;refine j12 ?_;refine zA (kw) ?_;refine zF ?_;refine j25 ?_;refine thenD_ret ?_)
  (apply ends_ret;(exact Res.one (.tmp rfl rfl));(refine Le.litB ?_;(rfl)))
 |false=>
  rw[hkw] at kw
  rw[Bool.not_false,Bool.true_and]
  obtain⟨b,hb⟩:∃b,b=(List.range s.length).all (okC s):=⟨_,rfl⟩
  rw[← hb]
  refine Fn.enter (n:=59) Tryz.func63 rfl rfl rfl rfl rfl (by decide) fun g hro_ hwt_=>?_;(try refine nz ?_)
  (refine j267 ?_;refine j236 ?_;refine j12 ?_;refine zA (kw) ?_;refine zF ?_;refine zd ?_;refine j133 ?_;refine j130 ?_;refine j92 ?_)
  (refine nz ?_;apply AW.loopR [11,9,8,6,0] [] (fun k:Nat=>([(3,litI k)]:List (Nat×AV))) (fun k:Nat=>([]:List (Nat×Option Ob))) (fun k:Nat=>k≤s.length∧∀j,j<k→okC s j=true) (fun k:Nat=>s.length - k) (0);(conv=>lhs;simp only[Nf.lpR,Nf.all,Nat.reduceBEq,reduceAdd,reduceSub]);(all_goals skip))
  ·exact⟨by omega,fun j hj=>by omega⟩
  ·exact weak rfl (by(refine⟨.intE (by first|with_reducible rfl|(rfl)),?_⟩;refine⟨.intE (by first|with_reducible rfl|(rfl)),?_⟩;(iterate 2 refine⟨.boolE (by first|with_reducible rfl|(rfl)),?_⟩);(iterate 2 refine⟨.strE (by first|with_reducible rfl|(rfl)),?_⟩);exact trivial)) (by(exact trivial)) rfl
  rintro k ⟨hk,hok⟩
  by_cases hlt:k<s.length
  ·by_cases c1:97≤byteAt (mkS s) k
   ·by_cases c2:byteAt (mkS s) k≤122
    ·have hk1:okC s k=true:=okC_yes (by omega)
     (refine j177 ?_;refine zm ?_;refine j110 ?_;(iterate 2 refine AOps.guard_u rfl rfl rfl rfl rfl rfl ?_);refine j151 ?_;refine zT ?_;refine j58 ?_;refine zm ?_;refine j145 ?_;refine j113 ?_;(iterate 10 refine AOps.guard_u rfl rfl rfl rfl rfl rfl ?_);refine AOps.guard_lf rfl rfl rfl rfl rfl rfl rfl ?_;refine j127 ?_;refine j302 ?_)
     exact⟨k+1,⟨by omega,fun j hj=>by
      by_cases e:j=k
      ·subst e;exact hk1
      ·exact hok j (by omega)⟩,by omega,weak rfl (by(refine⟨.intE (by first|with_reducible rfl|(rfl)),?_⟩;refine⟨.intE (by first|with_reducible rfl|(rfl)),?_⟩;(iterate 2 refine⟨.boolE (by first|with_reducible rfl|(rfl)),?_⟩);(iterate 2 refine⟨.strE (by first|with_reducible rfl|(rfl)),?_⟩);exact trivial)) (by(exact trivial)) rfl⟩
    ·have c3:65≤byteAt (mkS s) k:=by omega
     have c4:¬byteAt (mkS s) k≤90:=by omega
     by_cases c5:(k:Int)=0
     ·have hb':b=false:=by rw[hb,List.all_eq_false];exact j201
      subst hb'
      (refine j330 ?_;refine zm ?_;refine AOps.notD rfl rfl rfl ?_;refine j285 ?_;refine zm ?_;refine j346 ?_;refine zt ?_;(iterate 2 refine zT ?_);refine j25 ?_;refine j10 ?_)
      (apply ends_ret;(exact Res.one (.tmp rfl rfl));(refine Le.litB ?_;(rfl)))
     have c6:¬byteAt (mkS s) k=95:=by omega
     have c7:¬byteAt (mkS s) k<48:=by omega
     have c8:57<byteAt (mkS s) k:=by omega
     have hb':b=false:=by rw[hb,List.all_eq_false];exact j201
     subst hb'
     (refine j330 ?_;refine zm ?_;refine AOps.notD rfl rfl rfl ?_;refine j285 ?_;refine j108 ?_;refine zt ?_;refine zF ?_;refine zT ?_;refine j185 ?_)
     (apply ends_ret;(exact Res.one (.tmp rfl rfl));(refine Le.litB ?_;(rfl)))
   ·by_cases c3:65≤byteAt (mkS s) k
    ·by_cases c4:byteAt (mkS s) k≤90
     ·have hk1:okC s k=true:=okC_yes (by omega)
      (refine j165 ?_;refine zm ?_;(iterate 3 refine AOps.guardTn rfl rfl rfl rfl rfl rfl (by first|omega|decide) ?_);(iterate 10 refine AOps.guard_u rfl rfl rfl rfl rfl rfl ?_);refine AOps.guardTn rfl rfl rfl rfl rfl rfl (by first|omega|decide) ?_;refine zF ?_;refine zd ?_;refine j302 ?_)
      exact⟨k+1,⟨by omega,fun j hj=>by
       by_cases e:j=k
       ·subst e;exact hk1
       ·exact hok j (by omega)⟩,by omega,weak rfl (by(refine⟨.intE (by first|with_reducible rfl|(rfl)),?_⟩;refine⟨.intE (by first|with_reducible rfl|(rfl)),?_⟩;(iterate 2 refine⟨.boolE (by first|with_reducible rfl|(rfl)),?_⟩);(iterate 2 refine⟨.strE (by first|with_reducible rfl|(rfl)),?_⟩);exact trivial)) (by(exact trivial)) rfl⟩
     by_cases c5:(k:Int)=0
     ·have hb':b=false:=by rw[hb,List.all_eq_false];exact j201
      subst hb'
      (refine j165 ?_;refine j285 ?_;refine zm ?_;refine j346 ?_;refine zt ?_;(iterate 2 refine zT ?_);refine j25 ?_;refine j10 ?_)
      (apply ends_ret;(exact Res.one (.tmp rfl rfl));(refine Le.litB ?_;(rfl)))
     by_cases c6:byteAt (mkS s) k=95
     ·have c6':¬¬byteAt (mkS s) k=95:=fun h=>h c6
      have hk1:okC s k=true:=okC_yes (by omega)
      (refine j165 ?_;refine j285 ?_;refine j12 ?_;refine AOps.neqU rfl rfl rfl rfl rfl ?_;refine zy ?_;refine zm ?_;(iterate 3 refine AOps.guardTn rfl rfl rfl rfl rfl rfl (by with_reducible assumption) ?_);(iterate 2 refine AOps.guard_u rfl rfl rfl rfl rfl rfl ?_);refine AOps.guardTn rfl rfl rfl rfl rfl rfl (by with_reducible assumption) ?_;refine zy ?_;refine zF ?_;refine zt ?_;refine zF ?_;refine zT ?_;refine zd ?_;refine j302 ?_)
      exact⟨k+1,⟨by omega,fun j hj=>by
       by_cases e:j=k
       ·subst e;exact hk1
       ·exact hok j (by omega)⟩,by omega,weak rfl (by(refine⟨.intE (by first|with_reducible rfl|(rfl)),?_⟩;refine⟨.intE (by first|with_reducible rfl|(rfl)),?_⟩;(iterate 2 refine⟨.boolE (by first|with_reducible rfl|(rfl)),?_⟩);(iterate 2 refine⟨.strE (by first|with_reducible rfl|(rfl)),?_⟩);exact trivial)) (by(exact trivial)) rfl⟩
     have c7:¬byteAt (mkS s) k<48:=by omega
     have c8:57<byteAt (mkS s) k:=by omega
     have hb':b=false:=by rw[hb,List.all_eq_false];exact j201
     subst hb'
     (refine j165 ?_;refine j285 ?_;refine j108 ?_;refine zt ?_;refine zF ?_;refine zT ?_;refine j185 ?_)
     (apply ends_ret;(exact Res.one (.tmp rfl rfl));(refine Le.litB ?_;(rfl)))
    ·by_cases c5:(k:Int)=0
     ·have hb':b=false:=by rw[hb,List.all_eq_false];exact j201
      subst hb'
      (refine j103 ?_;refine zm ?_;refine j346 ?_;refine zl ?_;refine zT ?_;refine AOps.pick_lt rfl rfl rfl rfl rfl rfl ?_;refine j25 ?_;refine j10 ?_)
      (apply ends_ret;(exact Res.one (.tmp rfl rfl));(refine Le.litB ?_;(rfl)))
     have c6:¬byteAt (mkS s) k=95:=by omega
     by_cases c7:byteAt (mkS s) k<48
     ·have hb':b=false:=by rw[hb,List.all_eq_false];exact j201
      subst hb'
      (refine j103 ?_;refine j12 ?_;refine AOps.neqU rfl rfl rfl rfl rfl ?_;refine zy ?_;refine j41 ?_;refine AOps.lssU rfl rfl rfl rfl rfl ?_;refine zt ?_;refine zm ?_;refine j109 ?_;refine zt ?_;refine zT ?_;refine zy ?_;refine zT ?_;refine zl ?_;refine zF ?_;refine AOps.pick_lt rfl rfl rfl rfl rfl rfl ?_;refine j25 ?_;refine j10 ?_)
      (apply ends_ret;(exact Res.one (.tmp rfl rfl));(refine Le.litB ?_;(rfl)))
     by_cases c8:57<byteAt (mkS s) k
     ·have hb':b=false:=by rw[hb,List.all_eq_false];exact j201
      subst hb'
      (refine j103 ?_;refine j108 ?_;refine zl ?_;refine zF ?_;refine AOps.pick_lt rfl rfl rfl rfl rfl rfl ?_;refine j185 ?_)
      (apply ends_ret;(exact Res.one (.tmp rfl rfl));(refine Le.litB ?_;(rfl)))
     have hk1:okC s k=true:=okC_yes (by omega)
     (refine j103 ?_;refine j108 ?_;refine zl ?_;refine zF ?_;refine AOps.pick_lt rfl rfl rfl rfl rfl rfl ?_;refine j316 ?_)
     exact⟨k+1,⟨by omega,fun j hj=>by
      by_cases e:j=k
      ·subst e;exact hk1
      ·exact hok j (by omega)⟩,by omega,weak rfl (by(refine⟨.intE (by first|with_reducible rfl|(rfl)),?_⟩;refine⟨.intE (by first|with_reducible rfl|(rfl)),?_⟩;(iterate 2 refine⟨.boolE (by first|with_reducible rfl|(rfl)),?_⟩);(iterate 2 refine⟨.strE (by first|with_reducible rfl|(rfl)),?_⟩);exact trivial)) (by(exact trivial)) rfl⟩
  ·have hb':b=true:=by rw[hb,List.all_eq_true];exact fun j hj=>hok j (by have:=List.mem_range.1 hj;omega)
   subst hb'
   (refine j142 ?_;refine AOps.len_str rfl rfl rfl rfl ?_;refine j139 ?_;refine j104 ?_;refine j11 ?_)
   (apply ends_ret;(exact Res.one (.tmp rfl rfl));(refine Le.litB ?_;(rfl)))
end Go.Ab
/- Chapter 34:what the laws ask of their inputs,walked. -/
namespace Go.Ab
open Go Go.Proofs
open Nat (reduceAdd reduceSub)
set_option maxRecDepth 20000
set_option maxHeartbeats 4000000
def nmS (l:List SortM):Bool:=l.all fun q=>nameB (sL q.1)
def nmF (l:List FieldM):Bool:=l.all fun f=>nameB (sL f.name)
theorem nmS_drop {l:List SortM} {k:Nat} (hk:k<l.length):nmS (l.drop k)=(nameB (sL l[k].1) && nmS (l.drop (k+1))):=by
 rw[List.drop_eq_getElem_cons hk];rfl
theorem nmF_drop {l:List FieldM} {k:Nat} (hk:k<l.length):nmF (l.drop k)=(nameB (sL l[k].name) && nmF (l.drop (k+1))):=by
 rw[List.drop_eq_getElem_cons hk];rfl
attribute [local irreducible] AW AOps thenD inBlockD AR iterEnds roundEndsN inlEnds noGotoD EndsX EndsP mkS byteAt
theorem named_fn (s:SpecM) (h1:s.sorts.length≤1000) (h2:s.fields.length≤1000):Fn Tryz.prog 22 [spc s] (litB (nmS s.sorts && nmF s.fields)):=by
 obtain⟨so,fs,p,q⟩:=s
 simp only at h1 h2 ⊢
 have hn:=fun(b:ByteArray)=>name2_fn (sL b)
 simp only[mk_sL] at hn
 refine Fn.enter (n:=35) Tryz.func22 rfl rfl rfl rfl rfl (by decide) fun g hro_ hwt_=>?_;(try refine nz ?_)
 (refine j157 ?_;refine j92 ?_)
 (refine nz ?_;apply AW.loopR [1] [0] (fun k:Nat=>([(3,litI k)]:List (Nat×AV))) (fun k:Nat=>([]:List (Nat×Option Ob))) (fun k:Nat=>k≤so.length∧nmS so=nmS (so.drop k)) (fun k:Nat=>so.length - k) (0);(conv=>lhs;simp only[Nf.lpR,Nf.all,Nat.reduceBEq,reduceAdd,reduceSub]);(all_goals skip))
 ·exact⟨by omega,rfl⟩
 ·exact j121
 rintro k ⟨hk,he⟩
 by_cases hlt:k<so.length
 ·rw[nmS_drop hlt] at he
  have hc:=hn so[k].1
  cases hb:nameB (sL so[k].1) with
  |false=>
   rw[hb] at hc
   rw[hb,Bool.false_and] at he
   rw[he,Bool.false_and]
   (refine j26 ?_;refine j62 ?_;refine j39 ?_;refine j2 ?_;refine j62 ?_;refine zm ?_;(focus ((with_reducible apply AOps.index_map);(iterate 7 exact rfl);rotate_left;omega));refine j128 ?_;refine zA (hc) ?_;refine j300 ?_;refine j10 ?_)
   (apply ends_ret;(exact Res.one (.tmp rfl rfl));(refine Le.litB ?_;(rfl)))
  |true=>
   rw[hb] at hc
   rw[hb,Bool.true_and] at he
   (refine j26 ?_;refine j62 ?_;refine j39 ?_;refine j2 ?_;refine j62 ?_;refine zm ?_;(focus ((with_reducible apply AOps.index_map);(iterate 7 exact rfl);rotate_left;omega));refine j128 ?_;refine zA (hc) ?_;refine j82 ?_;refine j171 ?_)
   exact j192
 ·obtain rfl:k=so.length:=by omega
  have he:nmS so=true:=by rw[he,List.drop_length];rfl
  rw[he,Bool.true_and]
  (refine j26 ?_;refine j62 ?_;refine zn ?_;refine j218 ?_;refine j92 ?_)
  (refine nz ?_;apply AW.loopR [1] [0] (fun k:Nat=>([(4,litI k)]:List (Nat×AV))) (fun k:Nat=>([]:List (Nat×Option Ob))) (fun k:Nat=>k≤fs.length∧nmF fs=nmF (fs.drop k)) (fun k:Nat=>fs.length - k) (0);(conv=>lhs;simp only[Nf.lpR,Nf.all,Nat.reduceBEq,reduceAdd,reduceSub]);(all_goals skip))
  ·exact⟨by omega,rfl⟩
  ·exact j121
  rintro k ⟨hk,he⟩
  by_cases hlt:k<fs.length
  ·rw[nmF_drop hlt] at he
   have hc:=hn fs[k].name
   cases hb:nameB (sL fs[k].name) with
   |false=>
    rw[hb] at hc
    rw[hb,Bool.false_and] at he
    rw[he]
    (refine j275 ?_;refine zm ?_;(focus ((with_reducible apply AOps.index_map);(iterate 7 exact rfl);rotate_left;omega));refine AOps.fieldAddr_rN 52 0 0 1 rfl rfl rfl rfl ?_;refine nz ?_;refine zr ?_;refine zA (hc) ?_;refine j300 ?_;refine j10 ?_)
    (apply ends_ret;(exact Res.one (.tmp rfl rfl));(refine Le.litB ?_;(rfl)))
   |true=>
    rw[hb] at hc
    rw[hb,Bool.true_and] at he
    (refine j275 ?_;refine zm ?_;(focus ((with_reducible apply AOps.index_map);(iterate 7 exact rfl);rotate_left;omega));refine AOps.fieldAddr_rN 52 0 0 1 rfl rfl rfl rfl ?_;refine nz ?_;refine zr ?_;refine zA (hc) ?_;refine j82 ?_;refine j171 ?_)
    exact j192
  ·obtain rfl:k=fs.length:=by omega
   have he:nmF fs=true:=by rw[he,List.drop_length];rfl
   rw[he]
   (refine j238 ?_;refine j337 ?_)
   (apply ends_ret;(exact Res.one (.tmp rfl rfl));(refine Le.litB ?_;(rfl)))
def fewB (s:SpecM) (m:ModM):Bool:=smallB s m && (nmS s.sorts && nmF s.fields)
theorem small_spec {s:SpecM} {m:ModM} (h:smallB s m=true):(s.sorts.length≤10∧s.fields.length≤10∧m.states.length≤64∧m.atoms.length≤10)∧∀f∈s.fields,f.sorts.length≤10:=by
 unfold smallB at h
 rw[Bool.and_eq_true,Bool.and_eq_true,decide_eq_true_eq] at h
 refine⟨h.1,fun f hf=>?_⟩
 have:=h.2.2
 unfold smF at this
 rw[List.all_eq_true] at this
 simpa using this f hf
theorem few_fn (s:SpecM) (m:ModM):Fn Tryz.prog 8 [spc s,mdl m] (litB (fewB s m)):=by
 have h1:=small_fn s m
 unfold fewB
 cases e:smallB s m with
 |false=>
  rw[e] at h1
  rw[Bool.false_and]
  obtain⟨so,fs,p,q⟩:=s
  obtain⟨at',st,ss,lp⟩:=m
  refine Fn.enter (n:=12) Tryz.func8 rfl rfl rfl rfl rfl (by decide) fun g hro_ hwt_=>?_;(try refine nz ?_)
  (refine j187 ?_;refine j137 ?_;refine zA (h1) ?_;refine zm ?_;(iterate 2 refine AOps.guard_lf rfl rfl rfl rfl rfl rfl rfl ?_);refine AOps.pick_lf rfl rfl rfl rfl rfl rfl ?_;refine j11 ?_)
  (apply ends_ret;(exact Res.one (.tmp rfl rfl));(refine Le.litB ?_;(rfl)))
 |true=>
  rw[e] at h1
  rw[Bool.true_and]
  have hsp:=small_spec e
  have h2:=named_fn s (by omega) (by omega)
  obtain⟨so,fs,p,q⟩:=s
  obtain⟨at',st,ss,lp⟩:=m
  refine Fn.enter (n:=12) Tryz.func8 rfl rfl rfl rfl rfl (by decide) fun g hro_ hwt_=>?_;(try refine nz ?_)
  (refine j187 ?_;refine j137 ?_;refine zA (h1) ?_;refine zm ?_;refine j116 ?_;refine zA (h2) ?_;refine AOps.pick_lt rfl rfl rfl rfl rfl rfl ?_;refine j11 ?_)
  (apply ends_ret;(exact Res.one (.tmp rfl rfl));(refine Le.litB ?_;(rfl)))
theorem name_spec {s:Bt} (h:nameB s=true):s.length≤16∧∃c r,s=c::r∧c≠125:=by
 unfold nameB at h
 rw[Bool.and_eq_true,Bool.and_eq_true,decide_eq_true_eq] at h
 obtain⟨h1,h2,h3⟩:=h
 refine⟨h1.2,?_⟩
 cases s with
 |nil=>simp at h1
 |cons c r=>
  refine⟨c,r,rfl,fun e=>?_⟩
  have h4:=List.all_eq_true.1 h3 0 (List.mem_range.2 (by simp))
  subst e
  have h5:byteAt (mkS (125::r)) 0=125:=by unfold byteAt mkS;rfl
  rw[okC_no (by rw[h5];omega)] at h4
  cases h4
theorem few_spec {s:SpecM} {m:ModM} (h:fewB s m=true):SpP s∧smallB s m=true:=by
 unfold fewB at h
 rw[Bool.and_eq_true,Bool.and_eq_true] at h
 obtain⟨h1,h2,h3⟩:=h
 have hs:=small_spec h1
 unfold nmS at h2
 unfold nmF at h3
 rw[List.all_eq_true] at h2 h3
 exact⟨⟨hs.1.1,fun q hq=>name_spec (h2 q hq),hs.1.2.1,fun f hf=>⟨(name_spec (h3 f hf)).1,hs.2 f hf⟩⟩,h1⟩
theorem parse_fmt {s:SpecM} {m:ModM} (hp:SpP s) (hv:validB (fullR m.atoms) s m=true):parseF s (fmtT s m)=(m,0):=by
 have h:=modelP_app (tab_ok hp hv) []
 rw[List.append_nil] at h
 unfold parseF
 rw[h]
 simp [hv]
theorem parse_ok {s:SpecM} {t:Bt} {e:Int} {m:ModM} (h:parseF s t=(m,e)) (he:e≠340):e=0∧validB (fullR m.atoms) s m=true∧fmtT s m=t:=by
 unfold parseF at h
 split at h
 ·cases h;exact absurd rfl he
 ·split at h
  ·rename_i hc
   cases h
   exact⟨rfl,hc⟩
  ·cases h;exact absurd rfl he
theorem parse_two (s:SpecM) (t:Bt):(parseF s t).2=340∨(parseF s t).2=0:=by
 unfold parseF
 split
 ·exact .inl rfl
 ·split
  ·exact .inr rfl
  ·exact .inl rfl
theorem parse_ext {s:SpecM} (hp:SpP s) {m:ModM} (hv:validB (fullR m.atoms) s m=true) {more:Bt} (hm:more≠ []):(parseF s (fmtT s m++more)).2=340:=by
 unfold parseF
 rw[modelP_app (tab_ok hp hv) more]
 simp only
 split
 ·rename_i hc
  have h1:=congrArg List.length hc.2
  rw[List.length_append] at h1
  have:more.length=0:=by omega
  exact absurd (List.length_eq_zero_iff.1 this) hm
 ·rfl
theorem parse_cut {s:SpecM} (hp:SpP s) {m:ModM} (hv:validB (fullR m.atoms) s m=true) {k:Nat} (hk:k<(fmtT s m).length):(parseF s ((fmtT s m).take k)).2=340:=by
 rcases parse_two s ((fmtT s m).take k) with h|h
 ·exact h
 ·exfalso
  obtain⟨m',e,hpe⟩:∃m' e,parseF s ((fmtT s m).take k)=(m',e):=⟨_,_,rfl⟩
  rw[hpe] at h
  obtain⟨_,hv',hf⟩:=parse_ok hpe (by show e≠340;have:e=0:=h;omega)
  have h1:=parse_ext hp hv' (more:=(fmtT s m).drop k) (by
   intro e
   have:=congrArg List.length e
   rw[List.length_drop] at this
   simp only[List.length_nil] at this
   omega)
  rw[hf,List.take_append_drop,parse_fmt hp hv] at h1
  cases h1
end Go.Ab
/- Chapter 34:the laws' head is true. -/
namespace Go.Ab
open Go Go.Proofs
open Nat (reduceAdd reduceSub)
set_option maxRecDepth 100000
set_option maxHeartbeats 64000000
def hS:SpecM:=⟨[(⟨#[65]⟩,false),(⟨#[66]⟩,false)],[⟨⟨#[102]⟩,[0,1],true⟩,⟨⟨#[115]⟩,[0],false⟩],⟨none,0,0⟩,⟨none,0,0⟩⟩
def hM:ModM:=⟨[2,1],2,[[(2,[2,5]),(1,[1])],[(2,[]),(1,[1])]],1⟩
def hT:Bt:=[115,99,111,112,101,32,65,61,50,32,66,61,49,32,115,116,101,112,115,61,50,32,108,111,111,112,61,49,10,115,116,97,116,101,32,48,10,102,32,61,32,123,65,36,48,45,62,66,36,48,44,32,65,36,49,45,62,66,36,48,125,10,115,32,61,32,123,65,36,49,125,10,115,116,97,116,101,32,49,10,102,32,61,32,123,125,10,115,32,61,32,123,65,36,49,125,10]
theorem hSp:SpP hS:=⟨by decide,by
 intro q hq
 have:q=(⟨#[65]⟩,false)∨q=(⟨#[66]⟩,false):=by simpa [hS] using hq
 rcases this with rfl|rfl
 ·exact⟨by decide,65,[],rfl,by decide⟩
 ·exact⟨by decide,66,[],rfl,by decide⟩,by decide,by
 intro f hf
 have:f=⟨⟨#[102]⟩,[0,1],true⟩∨f=⟨⟨#[115]⟩,[0],false⟩:=by simpa [hS] using hf
 rcases this with rfl|rfl
 ·exact⟨by decide,by decide⟩
 ·exact⟨by decide,by decide⟩⟩
theorem hMv:validB (fullR hM.atoms) hS hM=true:=by decide+kernel
theorem hMt:fmtT hS hM=hT:=by decide+kernel
theorem hTp:parseF hS hT=(hM,0):=by rw[← hMt];exact parse_fmt hSp hMv
theorem hTc:(parseF hS (hT.take (hT.length - 1))).2=340:=by rw[← hMt];exact parse_cut hSp hMv (by rw[hMt];decide)
theorem hT0:(parseF hS []).2=340:=by
 have h:=parse_cut hSp hMv (k:=0) (by rw[hMt];decide)
 rw[List.take_zero] at h
 exact h
attribute [local irreducible] AW AOps thenD inBlockD AR iterEnds roundEndsN inlEnds noGotoD EndsX EndsP byteAt parseF fmtT
theorem head34_fn:FnW errT Tryz.prog 7 [] (litB true):=by
 have hstay_:=errT_stay
 have f1:=format_fn hS hM (fmt_ok hSp hMv)
 rw[hMt] at f1
 have p1:=parse_fn hS hSp (t:=hT) (by decide)
 rw[hTp] at p1
 have p2:=parse_fn hS hSp (t:=hT.take (hT.length - 1)) (by decide)
 rw[hTc] at p2
 have p3:=parse_fn hS hSp (t:=[]) (by decide)
 rw[hT0] at p3
 generalize (parseF hS (hT.take (hT.length - 1))).1=m2 at p2
 generalize (parseF hS []).1=m3 at p3
 have q1:=rEq07_fn hM hM
 rw[decide_eq_true rfl] at q1
 have e1:mkS (hT.take (hT.length - 1))=(mkS hT).extract 0 (((mkS hT).size:Int) - 1).toNat:=by
  rw[mk_ext,mk_size,List.drop_zero];rfl
 rw[e1] at p2
 have hb:mkS hT=⟨(List.append (115::99::111::112::101::32::65::61::50::32::66::61::49::32::115::116::101::112::115::61::50::32::108::111::111::112::61::49::10::115::116::97::116::101::32::48::10::102::32::61::32::123::65::36::48::45::62::66::[]) (36::48::44::32::65::36::49::45::62::66::36::48::125::10::115::32::61::32::123::65::36::49::125::10::115::116::97::116::101::32::49::10::102::32::61::32::123::125::10::115::32::61::32::123::65::36::49::125::10::[])).toArray⟩:=rfl
 have hsz:(ByteArray.mk (List.append (115::99::111::112::101::32::65::61::50::32::66::61::49::32::115::116::101::112::115::61::50::32::108::111::111::112::61::49::10::115::116::97::116::101::32::48::10::102::32::61::32::123::65::36::48::45::62::66::[]) (36::48::44::32::65::36::49::45::62::66::36::48::125::10::115::32::61::32::123::65::36::49::125::10::115::116::97::116::101::32::49::10::102::32::61::32::123::125::10::115::32::61::32::123::65::36::49::125::10::[])).toArray).size=97:=rfl
 rw[hb] at f1 p1 p2
 rw[show mkS []=⟨#[]⟩ from rfl] at p3
 obtain⟨a2,s2,x2,l2⟩:=m2
 obtain⟨a3,s3,x3,l3⟩:=m3
 refine FnW.enter hstay_ (n:=76) Tryz.func7 rfl rfl rfl rfl rfl (by decide) fun g hro_ hwt_ hT=>?_;(try refine nz ?_)
 (refine j235 ?_;refine AOps.buildN 50 [0] rfl rfl rfl rfl rfl rfl rfl rfl rfl ?_;refine nz ?_;refine AOps.buildN 50 [0] rfl rfl rfl rfl rfl rfl rfl rfl rfl ?_;refine nz ?_;refine j124 ?_;refine j209 ?_;refine AOps.buildN 52 [0,1,2] rfl rfl rfl rfl rfl rfl rfl rfl rfl ?_;refine nz ?_;refine j81 ?_;refine AOps.buildN 52 [0,1] rfl rfl rfl rfl rfl rfl rfl rfl rfl ?_;refine nz ?_;refine AOps.frzB rfl rfl ?_;refine nz ?_;refine AOps.frzB rfl rfl ?_;refine nz ?_;(focus ((with_reducible apply AOps.bsA (k:=3));(iterate 6 exact rfl);(focus ((repeat ((any_goals (apply PvR.cons));(all_goals (try exact rfl));(all_goals (try (repeat (first|exact PvL.nil|apply PvL.cons))))));(any_goals (exact PvR.nil));done));exact rfl;exact rfl;(try refine nz ?_)));refine AOps.buildN 27 [0,1] rfl rfl rfl rfl rfl rfl rfl rfl rfl ?_;refine nz ?_;refine j21 ?_;refine j155 ?_;refine j180 ?_;refine j58 ?_;refine j81 ?_;refine j307 ?_;refine j21 ?_;refine j155 ?_;refine j180 ?_;refine j209 ?_;refine AOps.buildN 30 [0,1] rfl rfl rfl rfl rfl rfl rfl rfl rfl ?_;refine nz ?_;refine j209 ?_;refine j307 ?_;refine j27 ?_;refine AOps.frzB rfl rfl ?_;refine nz ?_;refine AOps.frzB rfl rfl ?_;refine nz ?_;refine j124 ?_;refine AOps.buildN 54 [0] rfl rfl rfl rfl rfl rfl rfl rfl rfl ?_;refine nz ?_;refine j27 ?_;(with_reducible apply AOps.nilB);exact rfl;exact rfl;(focus ((repeat (first|exact .nil|apply NilC.here|apply NilC.skip));done));refine nz ?_;refine j124 ?_;refine AOps.frzB rfl rfl ?_;refine nz ?_;refine AOps.frzB rfl rfl ?_;refine nz ?_;refine j209 ?_;refine AOps.buildN 33 [0,3,2] rfl rfl rfl rfl rfl rfl rfl rfl rfl ?_;refine nz ?_;refine j21 ?_;refine j155 ?_;refine j180 ?_;refine j27 ?_;refine zm ?_;(iterate 2 refine j325 ?_);(with_reducible apply AOps.callWp (hf:=p1));(first|(with_reducible assumption)|(refine TB.gs ?_ (by with_reducible assumption);with_reducible assumption)|(refine TB.gi ?_ (by with_reducible assumption);with_reducible assumption)|exact TB.none _);(repeat (first|exact .nil|(refine .cons rfl ?_ ?_;(first|exact .pv _|exact .own _ _ _ _ rfl|exact .nil _|exact .any _|exact .rptr _|(refine .aggL ?_;repeat (first|exact .nil|(refine .cons ?_ ?_;(first|exact .pv _|exact .own _ _ _ _ rfl|exact .nil _))))))));exact rfl;refine j31 ?_;refine j21 ?_;refine j155 ?_;refine j3 ?_;refine zo ?_;refine AW.regionM [0,1,2,3,4,5] [11] rfl (by assumption) (by kernel_rfl) (by kernel_rfl) rfl ?_;show AOps .held _ _ _ [_,_,_,_,_,_] _ _;refine j27 ?_;(iterate 2 refine zm ?_);refine AOps.len_str rfl rfl rfl rfl ?_;refine AOps.sub rfl rfl rfl rfl rfl (by omega) ?_;refine j272 ?_;refine j6 ?_;intro k_ hk_;refine nz ?_;apply AR.cut [5,4,3,2,1,0,6,7,8,9,10,11];intro hJ_0;apply AR.cut [5,4,3,2,1,0,6,7,8,9,10];intro hJ_1;apply AR.cut [5,4,3,2,1,0,6,7,8,10];intro hJ_2;apply AR.cut [5,4,3,2,1,0,6,7,9,10];intro hJ_3;apply AR.cut [5,4,3,2,1,0,6,7,8,9];intro hJ_4;apply AR.cut [5,4,3,2,1,0,6,7,10];intro hJ_5;(refine AR.step2M (i:=6) (j:=10) rfl (by kernel_rfl) rfl rfl ?_ ?_<;>intro g_ hgro_ hw_);(with_reducible apply AOps.callWp (hf:=p2));(first|(with_reducible assumption)|(refine TB.gs ?_ (by with_reducible assumption);with_reducible assumption)|(refine TB.gi ?_ (by with_reducible assumption);with_reducible assumption)|exact TB.none _);(repeat (first|exact .nil|(refine .cons rfl ?_ ?_;(first|exact .pv _|exact .own _ _ _ _ rfl|exact .nil _|exact .any _|exact .rptr _|(refine .aggL ?_;repeat (first|exact .nil|(refine .cons ?_ ?_;(first|exact .pv _|exact .own _ _ _ _ rfl|exact .nil _))))))));exact rfl;refine j6 ?_;(refine AR.step2M (i:=7) (j:=10) rfl (by kernel_rfl) rfl rfl ?_ ?_<;>intro g_ hgro_ hw_);refine AOps.move_tup rfl rfl rfl ?_;refine j6 ?_;(refine AR.step3M (i:=8) (j:=9) (m:=10) rfl (by kernel_rfl) rfl rfl rfl ?_ ?_ ?_<;>intro g_ hgro_ hw_);refine AOps.extract rfl rfl rfl rfl ?_;refine j6 ?_;(refine AR.step2M (i:=9) (j:=10) rfl (by kernel_rfl) rfl rfl ?_ ?_<;>intro g_ hgro_ hw_);refine AOps.extract rfl rfl rfl rfl ?_;refine j18 ?_;refine AR.gc [13,12,11,7,6,4] rfl ?_;refine j90 ?_;exact AR.perm (by kernel_rfl) hJ_4;refine j347 ?_;exact AR.perm (by kernel_rfl) hJ_2;refine AOps.extract rfl rfl rfl rfl ?_;refine j6 ?_;(refine AR.step2M (i:=8) (j:=10) rfl (by kernel_rfl) rfl rfl ?_ ?_<;>intro g_ hgro_ hw_);refine j135 ?_;refine AR.meet hJ_4 (by kernel_rfl) (fun g_=>weak rfl ?_ ?_ rfl);(iterate 45 refine⟨.eq rfl rfl,?_⟩);exact trivial;(iterate 2 refine j16 ?_);(iterate 2 refine⟨.row rfl,?_⟩);refine j59 ?_;exact j30;refine j347 ?_;exact AR.perm (by kernel_rfl) hJ_3;refine j347 ?_;exact AR.perm (by kernel_rfl) hJ_5;refine j21 ?_;refine j6 ?_;refine AR.step1M (i:=7) rfl (by kernel_rfl) rfl ?_;intro g_ hgro_ hw_;exact j341;refine j21 ?_;refine j6 ?_;refine AR.step1M (i:=6) rfl (by kernel_rfl) rfl ?_;intro g_ hgro_ hw_;(with_reducible apply AOps.callWp (hf:=p2));(first|(with_reducible assumption)|(refine TB.gs ?_ (by with_reducible assumption);with_reducible assumption)|(refine TB.gi ?_ (by with_reducible assumption);with_reducible assumption)|exact TB.none _);(repeat (first|exact .nil|(refine .cons rfl ?_ ?_;(first|exact .pv _|exact .own _ _ _ _ rfl|exact .nil _|exact .any _|exact .rptr _|(refine .aggL ?_;repeat (first|exact .nil|(refine .cons ?_ ?_;(first|exact .pv _|exact .own _ _ _ _ rfl|exact .nil _))))))));exact rfl;refine j6 ?_;refine AR.step1M (i:=7) rfl (by kernel_rfl) rfl ?_;intro g_ hgro_ hw_;exact j341;(refine AR.step2M (i:=8) (j:=9) rfl (by kernel_rfl) rfl rfl ?_ ?_<;>intro g_ hgro_ hw_);refine j135 ?_;refine AR.meet hJ_2 (by kernel_rfl) (fun g_=>weak rfl ?_ ?_ rfl);(iterate 45 refine⟨.eq rfl rfl,?_⟩);exact trivial;exact j126;refine j135 ?_;refine AR.meet hJ_3 (by kernel_rfl) (fun g_=>weak rfl ?_ ?_ rfl);(iterate 45 refine⟨.eq rfl rfl,?_⟩);exact trivial;exact j126;refine AR.step1M (i:=10) rfl (by kernel_rfl) rfl ?_;intro g_ hgro_ hw_;refine j21 ?_;refine j18 ?_;exact AR.perm (by kernel_rfl) hJ_1;refine AR.step1M (i:=8) rfl (by kernel_rfl) rfl ?_;intro g_ hgro_ hw_;refine j135 ?_;refine AR.meet hJ_1 (by kernel_rfl) (fun g_=>weak rfl ?_ ?_ rfl);(iterate 46 refine⟨.eq rfl rfl,?_⟩);exact trivial;exact j126;(refine AR.step2L (i:=9) (j:=11) rfl (by kernel_rfl) rfl rfl (by kernel_rfl) ?_ ?_<;>intro g_ hgro_ hwt2_);refine j135 ?_;refine AR.meet hJ_1 (by kernel_rfl) (fun g_=>weak rfl ?_ ?_ rfl);(iterate 46 refine⟨.eq rfl rfl,?_⟩);exact trivial;exact j126;refine j155 ?_;refine j6 ?_;refine j120 ?_;intro g_ hgro_ hwt2_;refine AOps.extract rfl rfl rfl rfl ?_;refine j18 ?_;exact AR.perm (by kernel_rfl) hJ_0;refine AR.step1LM (i:=11) rfl (by kernel_rfl) rfl (by kernel_rfl) ?_;intro g_ hgro_ hwt2_;refine j155 ?_;refine j204 ?_;refine AR.meet hJ_0 (by kernel_rfl) (fun g_=>weak rfl ?_ ?_ rfl);(iterate 46 refine⟨.eq rfl rfl,?_⟩);exact trivial;exact j126;refine AR.step1LM (i:=12) rfl (by kernel_rfl) rfl (by kernel_rfl) ?_;intro g_ hgro_ hwt2_;refine za ?_;refine j96 ?_;refine thenD_n ?_;refine j324 ?_;(with_reducible apply AOps.callWp (hf:=p3));(first|(with_reducible assumption)|(refine TB.gs ?_ (by with_reducible assumption);with_reducible assumption)|(refine TB.gi ?_ (by with_reducible assumption);with_reducible assumption)|exact TB.none _);(repeat (first|exact .nil|(refine .cons rfl ?_ ?_;(first|exact .pv _|exact .own _ _ _ _ rfl|exact .nil _|exact .any _|exact .rptr _|(refine .aggL ?_;repeat (first|exact .nil|(refine .cons ?_ ?_;(first|exact .pv _|exact .own _ _ _ _ rfl|exact .nil _))))))));exact rfl;refine j31 ?_;refine j21 ?_;refine j155 ?_;refine j58 ?_;refine j137 ?_;refine zA (f1) ?_;refine zm ?_;refine AOps.eqlS rfl rfl rfl rfl rfl ?_;refine zm ?_;refine j196 ?_;refine AOps.eql rfl rfl rfl rfl rfl ?_;refine j129 ?_;refine j306 ?_;refine zA (q1) ?_;refine j129 ?_;refine j196 ?_;refine AOps.eql rfl rfl rfl rfl rfl ?_;refine j129 ?_;refine j196 ?_;refine AOps.eql rfl rfl rfl rfl rfl ?_;refine AOps.pick_lt rfl rfl rfl rfl rfl rfl ?_;refine j11 ?_)
 (apply ends_ret;(exact Res.one (.tmp rfl rfl));(refine Le.litB ?_;(rfl)))
end Go.Ab
/- Chapter 34's reference:a word eaten,a number read. -/
namespace Go.Ab
open Go Go.Proofs
set_option maxRecDepth 20000
set_option maxHeartbeats 4000000
def eatI (s:Bt) (at':Int) (w:Bt):Int:=if 0≤at'∧at'+(w.length:Int)≤(s.length:Int)∧(s.drop at'.toNat).take w.length=w then at'+(w.length:Int) else -1
def numI (s:Bt) (at':Int):Int×Int:=
 if 0≤at'∧at'<(s.length:Int)∧48≤byteAt (mkS s) at'.toNat∧byteAt (mkS s) at'.toNat≤57 then
  if at'+1<(s.length:Int)∧48≤byteAt (mkS s) (at'.toNat+1)∧byteAt (mkS s) (at'.toNat+1)≤57 then (10*(byteAt (mkS s) at'.toNat - 48)+byteAt (mkS s) (at'.toNat+1) - 48,at'+2) else (byteAt (mkS s) at'.toNat - 48,at'+1)
 else (0,-1)
attribute [local irreducible] AW AOps thenD inBlockD AR iterEnds roundEndsN inlEnds noGotoD EndsX EndsP byteAt mkS
theorem eat_fn (s w:Bt) (at':Int) (hs:s.length≤1000000000) (hw:w.length≤1000000000) (ha: -1000≤at'∧at'≤1000000000):Fn Tryz.prog 28 [litS (mkS s),litI at',litS (mkS w)] (litI (eatI s at' w)):=by
 have k1:=mk_size s
 have k2:=mk_size w
 by_cases c1:at'<0
 ·have e:eatI s at' w= -1:=by unfold eatI;rw[if_neg (by omega)]
  rw[e]
  refine Fn.enter (n:=33) Tryz.func28 rfl rfl rfl rfl rfl (by decide) fun g hro_ hwt_=>?_;(try refine nz ?_)
  (refine j267 ?_;refine j353 ?_;(iterate 7 refine AOps.guardFn rfl rfl rfl rfl rfl rfl (by with_reducible assumption) ?_);refine j315 ?_;(iterate 9 refine AOps.guard_lf rfl rfl rfl rfl rfl rfl rfl ?_);refine j55 ?_)
  (apply ends_ret;(exact Res.one (.tmp rfl rfl));(refine Le.litI ?_;(rfl)))
 by_cases c2:(s.length:Int)<at'+(w.length:Int)
 ·have e:eatI s at' w= -1:=by unfold eatI;rw[if_neg (by omega)]
  rw[e]
  refine Fn.enter (n:=33) Tryz.func28 rfl rfl rfl rfl rfl (by decide) fun g hro_ hwt_=>?_;(try refine nz ?_)
  (refine j267 ?_;refine zs ?_;refine j12 ?_;refine j85 ?_;refine AOps.len_str rfl rfl rfl rfl ?_;refine zy ?_;refine zj ?_;refine zy ?_;refine j85 ?_;refine AOps.len_str rfl rfl rfl rfl ?_;refine zy ?_;refine j84 ?_;refine zm ?_;(iterate 9 refine AOps.guardFn rfl rfl rfl rfl rfl rfl (by first|omega|decide) ?_);refine j148 ?_)
  (apply ends_ret;(exact Res.one (.tmp rfl rfl));(refine Le.litI ?_;(rfl)))
 have hx:(mkS s).extract at'.toNat (at'+((mkS w).size:Int)).toNat=mkS ((s.drop at'.toNat).take w.length):=by
  rw[mk_ext,k2,show(at'+(w.length:Int)).toNat - at'.toNat=w.length by omega]
 by_cases c3:(s.drop at'.toNat).take w.length=w
 ·have e:eatI s at' w=at'+((mkS w).size:Int):=by unfold eatI;rw[if_pos ⟨by omega,by omega,c3⟩,k2]
  rw[e]
  rw[c3] at hx
  have c4:¬¬(mkS s).extract at'.toNat (at'+((mkS w).size:Int)).toNat=mkS w:=fun h=>h hx
  refine Fn.enter (n:=33) Tryz.func28 rfl rfl rfl rfl rfl (by decide) fun g hro_ hwt_=>?_;(try refine nz ?_)
  (refine j267 ?_;refine zs ?_;refine j143 ?_;refine j166 ?_;refine j2 ?_;(iterate 2 refine zm ?_);refine AOps.len_str rfl rfl rfl rfl ?_;refine zj ?_;refine j11 ?_)
  (apply ends_ret;(exact Res.one (.tmp rfl rfl));(refine Le.litI ?_;(rfl)))
 ·have e:eatI s at' w= -1:=by unfold eatI;rw[if_neg (fun h=>c3 h.2.2)]
  rw[e]
  have c4:¬(mkS s).extract at'.toNat (at'+((mkS w).size:Int)).toNat=mkS w:=by rw[hx];exact fun h=>c3 (mk_inj.1 h)
  refine Fn.enter (n:=33) Tryz.func28 rfl rfl rfl rfl rfl (by decide) fun g hro_ hwt_=>?_;(try refine nz ?_)
  (refine j267 ?_;refine zs ?_;refine j143 ?_;refine j268 ?_)
  (apply ends_ret;(exact Res.one (.tmp rfl rfl));(refine Le.litI ?_;(rfl)))
theorem number34_fn (s:Bt) (at':Int) (hs:s.length≤1000000000) (ha: -1000≤at'∧at'≤1000000000):Fn Tryz.prog 68 [litS (mkS s),litI at'] (.tup [litI (numI s at').1,litI (numI s at').2]):=by
 have k1:=mk_size s
 by_cases c1:at'<0
 ·have e:numI s at'=(0,-1):=by unfold numI;rw[if_neg (by omega)]
  rw[e]
  refine Fn.enter (n:=62) Tryz.func68 rfl rfl rfl rfl rfl (by decide) fun g hro_ hwt_=>?_;(try refine nz ?_)
  (refine zq ?_;refine j101 ?_;refine j130 ?_;refine zm ?_;refine j353 ?_;refine j176 ?_;refine j315 ?_;refine j134 ?_;refine j129 ?_;refine j134 ?_;refine AOps.pick_lt rfl rfl rfl rfl rfl rfl ?_;refine j154 ?_;refine j261 ?_)
  (apply ends_ret;(exact Res.two (.tmp rfl rfl) (.tmp rfl rfl));(refine Le.tupL ?_;refine LeL.cons ?_ ?_;refine Le.litI ?_;(rfl);refine LeL.cons ?_ ?_;refine Le.litI ?_;(rfl);exact LeL.nil))
 obtain⟨a,rfl⟩:∃a:Nat,at'=a:=⟨at'.toNat,by omega⟩
 by_cases c2:(a:Int)<(s.length:Int)
 ·by_cases c3:byteAt (mkS s) a<48
  ·have e:numI s (a:Int)=(0,-1):=by unfold numI;rw[Int.toNat_natCast,if_neg (by omega)]
   rw[e]
   refine Fn.enter (n:=62) Tryz.func68 rfl rfl rfl rfl rfl (by decide) fun g hro_ hwt_=>?_;(try refine nz ?_)
   (refine j219 ?_;refine j321 ?_;refine AOps.lssU rfl rfl rfl rfl rfl ?_;refine zF ?_;refine zm ?_;refine j176 ?_;refine zT ?_;refine j154 ?_;refine j261 ?_)
   (apply ends_ret;(exact Res.two (.tmp rfl rfl) (.tmp rfl rfl));(refine Le.tupL ?_;refine LeL.cons ?_ ?_;refine Le.litI ?_;(rfl);refine LeL.cons ?_ ?_;refine Le.litI ?_;(rfl);exact LeL.nil))
  by_cases c4:57<byteAt (mkS s) a
  ·have e:numI s (a:Int)=(0,-1):=by unfold numI;rw[Int.toNat_natCast,if_neg (by omega)]
   rw[e]
   refine Fn.enter (n:=62) Tryz.func68 rfl rfl rfl rfl rfl (by decide) fun g hro_ hwt_=>?_;(try refine nz ?_)
   (refine j219 ?_;refine j321 ?_;refine AOps.lssU rfl rfl rfl rfl rfl ?_;refine zF ?_;refine j321 ?_;refine AOps.gtrU rfl rfl rfl rfl rfl ?_;refine zF ?_;refine j340 ?_;refine j261 ?_)
   (apply ends_ret;(exact Res.two (.tmp rfl rfl) (.tmp rfl rfl));(refine Le.tupL ?_;refine LeL.cons ?_ ?_;refine Le.litI ?_;(rfl);refine LeL.cons ?_ ?_;refine Le.litI ?_;(rfl);exact LeL.nil))
  have hk:((a:Int)+1).toNat=a+1:=by omega
  by_cases c5:a+1<s.length
  ·by_cases c6:48≤byteAt (mkS s) ((a:Int)+1).toNat
   ·by_cases c7:byteAt (mkS s) ((a:Int)+1).toNat≤57
    ·have e:numI s (a:Int)=(10*(byteAt (mkS s) a - 48)+byteAt (mkS s) ((a:Int)+1).toNat - 48,(a:Int)+1+1):=by
      rw[hk] at c6 c7 ⊢
      unfold numI;rw[Int.toNat_natCast,if_pos (by omega),if_pos (by omega)];congr 1
     rw[e]
     refine Fn.enter (n:=62) Tryz.func68 rfl rfl rfl rfl rfl (by decide) fun g hro_ hwt_=>?_;(try refine nz ?_)
     (refine j354 ?_;refine zT ?_;refine j41 ?_;refine zm ?_;refine j199 ?_;refine j344 ?_;refine j340 ?_;refine j2 ?_;refine zm ?_;refine AOps.mul rfl rfl rfl rfl rfl (by omega) ?_;(iterate 2 refine zm ?_);refine AOps.index_strI rfl rfl rfl rfl rfl rfl (by omega) (by omega) ?_;refine AOps.convI rfl rfl rfl rfl rfl (by omega) ?_;refine zj ?_;refine AOps.sub rfl rfl rfl rfl rfl (by omega) ?_;refine j3 ?_;refine j372 ?_;refine zj ?_;refine j58 ?_;(iterate 2 refine zm ?_);refine j194 ?_)
     (apply ends_ret;(exact Res.two (.tmp rfl rfl) (.tmp rfl rfl));(refine Le.tupL ?_;refine LeL.cons ?_ ?_;refine Le.litI ?_;(rfl);refine LeL.cons ?_ ?_;refine Le.litI ?_;(rfl);exact LeL.nil))
    ·have e:numI s (a:Int)=(byteAt (mkS s) a - 48,(a:Int)+1):=by
      try rw[hk] at c6
      try rw[hk] at c7
      unfold numI;rw[Int.toNat_natCast,if_pos (by omega),if_neg (by omega)]
     rw[e]
     refine Fn.enter (n:=62) Tryz.func68 rfl rfl rfl rfl rfl (by decide) fun g hro_ hwt_=>?_;(try refine nz ?_)
     (refine j354 ?_;refine zT ?_;refine j41 ?_;refine zm ?_;refine j199 ?_;refine j344 ?_;refine j166 ?_;refine j2 ?_;(iterate 2 refine zm ?_);refine j194 ?_)
     (apply ends_ret;(exact Res.two (.tmp rfl rfl) (.tmp rfl rfl));(refine Le.tupL ?_;refine LeL.cons ?_ ?_;refine Le.litI ?_;(rfl);refine LeL.cons ?_ ?_;refine Le.litI ?_;(rfl);exact LeL.nil))
   ·have e:numI s (a:Int)=(byteAt (mkS s) a - 48,(a:Int)+1):=by
     try rw[hk] at c6
     try rw[hk] at c7
     unfold numI;rw[Int.toNat_natCast,if_pos (by omega),if_neg (by omega)]
    rw[e]
    refine Fn.enter (n:=62) Tryz.func68 rfl rfl rfl rfl rfl (by decide) fun g hro_ hwt_=>?_;(try refine nz ?_)
    (refine j354 ?_;refine j315 ?_;(iterate 4 refine AOps.guardTn rfl rfl rfl rfl rfl rfl (by with_reducible assumption) ?_);refine zF ?_;refine zd ?_;refine j133 ?_;refine j2 ?_;(iterate 2 refine zm ?_);refine j194 ?_)
    (apply ends_ret;(exact Res.two (.tmp rfl rfl) (.tmp rfl rfl));(refine Le.tupL ?_;refine LeL.cons ?_ ?_;refine Le.litI ?_;(rfl);refine LeL.cons ?_ ?_;refine Le.litI ?_;(rfl);exact LeL.nil))
  ·have e:numI s (a:Int)=(byteAt (mkS s) a - 48,(a:Int)+1):=by
    try rw[hk] at c6
    try rw[hk] at c7
    unfold numI;rw[Int.toNat_natCast,if_pos (by omega),if_neg (by omega)]
   rw[e]
   refine Fn.enter (n:=62) Tryz.func68 rfl rfl rfl rfl rfl (by decide) fun g hro_ hwt_=>?_;(try refine nz ?_)
   (refine zq ?_;refine j20 ?_;refine j353 ?_;(iterate 4 refine AOps.guardTn rfl rfl rfl rfl rfl rfl (by first|omega|decide) ?_);refine zF ?_;refine zm ?_;refine j134 ?_;refine j127 ?_;refine j133 ?_;refine j2 ?_;(iterate 2 refine zm ?_);refine j194 ?_)
   (apply ends_ret;(exact Res.two (.tmp rfl rfl) (.tmp rfl rfl));(refine Le.tupL ?_;refine LeL.cons ?_ ?_;refine Le.litI ?_;(rfl);refine LeL.cons ?_ ?_;refine Le.litI ?_;(rfl);exact LeL.nil))
 ·have e:numI s (a:Int)=(0,-1):=by unfold numI;rw[if_neg (by omega)]
  rw[e]
  refine Fn.enter (n:=62) Tryz.func68 rfl rfl rfl rfl rfl (by decide) fun g hro_ hwt_=>?_;(try refine nz ?_)
  (refine j219 ?_;refine zm ?_;(iterate 4 refine AOps.guardFn rfl rfl rfl rfl rfl rfl (by first|omega|decide) ?_);refine j315 ?_;refine j134 ?_;refine AOps.pick_lt rfl rfl rfl rfl rfl rfl ?_;refine j154 ?_;refine j261 ?_)
  (apply ends_ret;(exact Res.two (.tmp rfl rfl) (.tmp rfl rfl));(refine Le.tupL ?_;refine LeL.cons ?_ ?_;refine Le.litI ?_;(rfl);refine LeL.cons ?_ ?_;refine Le.litI ?_;(rfl);exact LeL.nil))
end Go.Ab
/- Chapter 34's reference:the sorts that fields name,an atom's first,digits. -/
namespace Go.Ab
open Go Go.Proofs
open Nat (reduceAdd reduceSub)
set_option maxRecDepth 20000
set_option maxHeartbeats 4000000
theorem sortsIn_drop {k:Nat} {l:List FieldM} {j:Nat} (hj:j<l.length):sortsIn k (l.drop j)=(insB k l[j].sorts && sortsIn k (l.drop (j+1))):=by
 rw[List.drop_eq_getElem_cons hj];rfl
theorem insB_drop' {k:Nat} {l:List Int} {j:Nat} (hj:j<l.length):insB k (l.drop j)=(decide (0≤l[j]∧l[j]<(k:Int)) && insB k (l.drop (j+1))):=by
 rw[List.drop_eq_getElem_cons hj];rfl
attribute [local irreducible] AW AOps thenD inBlockD AR iterEnds roundEndsN inlEnds noGotoD EndsX EndsP byteAt mkS
theorem fits34_fn (s:SpecM) (h1:s.fields.length≤1000) (h2:∀f∈s.fields,f.sorts.length≤1000):Fn Tryz.prog 26 [spc s] (litB (sortsIn s.sorts.length s.fields)):=by
 obtain⟨so,fs,p,q⟩:=s
 simp only at h1 h2 ⊢
 refine Fn.enter (n:=48) Tryz.func26 rfl rfl rfl rfl rfl (by decide) fun g hro_ hwt_=>?_;(try refine nz ?_)
 (refine j157 ?_;refine j92 ?_)
 (refine nz ?_;apply AW.loopR [1] [0] (fun i:Nat=>([(3,litI i)]:List (Nat×AV))) (fun i:Nat=>([]:List (Nat×Option Ob))) (fun i:Nat=>i≤fs.length∧sortsIn so.length fs=sortsIn so.length (fs.drop i)) (fun i:Nat=>fs.length - i) (0);(conv=>lhs;simp only[Nf.lpR,Nf.all,Nat.reduceBEq,reduceAdd,reduceSub]);(all_goals skip))
 ·exact⟨by omega,rfl⟩
 ·exact j121
 rintro i ⟨hi,he⟩
 by_cases hlt:i<fs.length
 ·rw[sortsIn_drop hlt] at he
  have hl:=h2 _ (List.getElem_mem hlt)
  (refine j238 ?_;refine j39 ?_;refine j2 ?_;refine j92 ?_)
  (refine nz ?_;apply AW.loopR [3,1] [0] (fun k:Nat=>([(4,litI k)]:List (Nat×AV))) (fun k:Nat=>([]:List (Nat×Option Ob))) (fun k:Nat=>k≤fs[i].sorts.length∧insB so.length fs[i].sorts=insB so.length (fs[i].sorts.drop k)) (fun k:Nat=>fs[i].sorts.length - k) (0);(conv=>lhs;simp only[Nf.lpR,Nf.all,Nat.reduceBEq,reduceAdd,reduceSub]);(all_goals skip))
  ·exact⟨by omega,rfl⟩
  ·exact weak rfl (by(refine⟨.intE (by first|with_reducible rfl|(rfl)),?_⟩;refine⟨.intE (by first|with_reducible rfl|(rfl)),?_⟩;refine⟨.eq rfl rfl,?_⟩;exact trivial)) (by(refine⟨.box _ rfl ?_,?_⟩;(iterate 2 refine⟨.pvE (by first|with_reducible rfl|(rfl)),?_⟩);(iterate 2 refine⟨.eq rfl rfl,?_⟩);(iterate 2 exact trivial))) rfl
  rintro k ⟨hk,he2⟩
  by_cases hlt2:k<fs[i].sorts.length
  ·rw[insB_drop' hlt2] at he2
   by_cases c1:fs[i].sorts[k]<0
   ·rw[decide_eq_false (by omega),Bool.false_and] at he2
    rw[he2,Bool.false_and] at he
    rw[he]
    (refine j238 ?_;refine zm ?_;(focus ((with_reducible apply AOps.index_map);(iterate 7 exact rfl);rotate_left;omega));refine j178 ?_;refine j39 ?_;refine zo ?_;(with_reducible apply AW.regionQ);exact rfl;exact rfl;kernel_rfl;(with_reducible assumption);refine j47 ?_;refine zm ?_;(focus ((with_reducible apply AOps.index_map);(iterate 7 exact rfl);rotate_left;omega));refine j178 ?_;refine zm ?_;(focus ((with_reducible apply AOps.index_map);(iterate 7 exact rfl);rotate_left;omega));refine zr ?_;refine j353 ?_;(iterate 13 refine AOps.guardFn rfl rfl rfl rfl rfl rfl (by with_reducible assumption) ?_);refine zT ?_;refine j25 ?_;refine j35 ?_)
    (apply ends_ret;(exact Res.one (.tmp rfl rfl));(refine Le.litB ?_;(rfl)))
   by_cases c2:(so.length:Int)≤fs[i].sorts[k]
   ·rw[decide_eq_false (by omega),Bool.false_and] at he2
    rw[he2,Bool.false_and] at he
    rw[he]
    (refine j238 ?_;refine zm ?_;(focus ((with_reducible apply AOps.index_map);(iterate 7 exact rfl);rotate_left;omega));refine j178 ?_;refine j39 ?_;refine zo ?_;(with_reducible apply AW.regionQ);exact rfl;exact rfl;kernel_rfl;(with_reducible assumption);refine j47 ?_;refine zm ?_;(focus ((with_reducible apply AOps.index_map);(iterate 7 exact rfl);rotate_left;omega));refine j178 ?_;refine zm ?_;(focus ((with_reducible apply AOps.index_map);(iterate 7 exact rfl);rotate_left;omega));refine j334 ?_;refine AOps.fieldAddrN 27 1 1 rfl rfl rfl rfl ?_;refine j38 ?_;refine j85 ?_;(focus ((with_reducible apply AOps.index_map);(iterate 7 exact rfl);rotate_left;omega));refine zy ?_;refine AOps.fieldAddr_rN 52 1 1 1 rfl rfl rfl rfl ?_;refine nz ?_;refine j163 ?_;refine j85 ?_;(focus ((with_reducible apply AOps.index_map);(iterate 7 exact rfl);rotate_left;omega));refine j163 ?_;refine j93 ?_;refine j74 ?_;refine j340 ?_;refine j2 ?_;refine j11 ?_;refine j35 ?_)
    (apply ends_ret;(exact Res.one (.tmp rfl rfl));(refine Le.litB ?_;(rfl)))
   rw[decide_eq_true (by omega),Bool.true_and] at he2
   (refine j238 ?_;refine zm ?_;(focus ((with_reducible apply AOps.index_map);(iterate 7 exact rfl);rotate_left;omega));refine j178 ?_;refine j39 ?_;refine zo ?_;(with_reducible apply AW.regionQ);exact rfl;exact rfl;kernel_rfl;(with_reducible assumption);refine j47 ?_;refine zm ?_;(focus ((with_reducible apply AOps.index_map);(iterate 7 exact rfl);rotate_left;omega));refine j178 ?_;refine zm ?_;(focus ((with_reducible apply AOps.index_map);(iterate 7 exact rfl);rotate_left;omega));refine j334 ?_;refine AOps.fieldAddrN 27 1 1 rfl rfl rfl rfl ?_;refine j38 ?_;refine j85 ?_;(focus ((with_reducible apply AOps.index_map);(iterate 7 exact rfl);rotate_left;omega));refine zy ?_;refine AOps.fieldAddr_rN 52 1 1 1 rfl rfl rfl rfl ?_;refine nz ?_;refine j163 ?_;refine j85 ?_;(focus ((with_reducible apply AOps.index_map);(iterate 7 exact rfl);rotate_left;omega));refine j163 ?_;refine j93 ?_;refine j74 ?_;refine j316 ?_)
   exact⟨k+1,⟨by omega,he2⟩,by omega,weak rfl (by(refine⟨.intE (by first|with_reducible rfl|(rfl)),?_⟩;refine⟨.intE (by first|with_reducible rfl|(rfl)),?_⟩;refine⟨.eq rfl rfl,?_⟩;exact trivial)) (by(refine⟨.box _ rfl ?_,?_⟩;(iterate 2 refine⟨.pvE (by first|with_reducible rfl|(rfl)),?_⟩);(iterate 2 refine⟨.eq rfl rfl,?_⟩);(iterate 2 exact trivial))) rfl⟩
  ·obtain rfl:k=fs[i].sorts.length:=by omega
   have he3:insB so.length fs[i].sorts=true:=by rw[he2,List.drop_length];rfl
   rw[he3,Bool.true_and] at he
   (refine j238 ?_;refine zm ?_;(focus ((with_reducible apply AOps.index_map);(iterate 7 exact rfl);rotate_left;omega));refine j178 ?_;refine zn ?_;refine j139 ?_;refine j4 ?_;refine j48 ?_)
   exact⟨i+1,⟨by omega,he⟩,by omega,weak rfl (by(refine⟨.intE (by first|with_reducible rfl|(rfl)),?_⟩;refine⟨.eq rfl rfl,?_⟩;exact trivial)) (by(refine⟨.box _ rfl ?_,?_⟩;(iterate 2 refine⟨.pvE (by first|with_reducible rfl|(rfl)),?_⟩);(iterate 2 refine⟨.eq rfl rfl,?_⟩);(iterate 2 exact trivial))) rfl⟩
 ·obtain rfl:i=fs.length:=by omega
  have he3:sortsIn so.length fs=true:=by rw[he,List.drop_length];rfl
  rw[he3]
  (refine j238 ?_;refine j337 ?_)
  (apply ends_ret;(exact Res.one (.tmp rfl rfl));(refine Le.litB ?_;(rfl)))
end Go.Ab
/- Chapter 34's reference:digits,walked. -/
namespace Go.Ab
open Go Go.Proofs
set_option maxRecDepth 20000
set_option maxHeartbeats 4000000
theorem dig_byte:∀n,n<10→(⟨#[UInt8.ofNat (48+n)]⟩:ByteArray)=mkS (Go.Lib.decDigits n):=by
 intro n hn
 have key:∀n,n<10→Go.Lib.decDigits n=[UInt8.ofNat (48+n)]:=by decide+kernel
 rw[key n hn];rfl
theorem sL_app (a b:ByteArray):sL (a++b)=sL a++sL b:=by simp
theorem sL_mk (l:Bt):sL (mkS l)=l:=rfl
theorem mk_of {x:ByteArray} {l:Bt} (h:sL x=l):x=mkS l:=by subst h;exact(mk_sL x).symm
attribute [local irreducible] AW AOps thenD inBlockD AR iterEnds roundEndsN inlEnds noGotoD EndsX EndsP byteAt mkS
theorem digits34_fn (z:Int) (hz:0≤z∧z<10):Fn Tryz.prog 29 [litI z] (litS (mkS (digT z))):=by
 have e:=dig_byte z.toNat (by omega)
 rw[show 48+z.toNat=(48+z).toNat by omega] at e
 rw[← e]
 refine Fn.enter (n:=20) Tryz.func29 rfl rfl rfl rfl rfl (by decide) fun g hro_ hwt_=>?_;(try refine nz ?_)
 (refine j267 ?_;refine j139 ?_;refine zc ?_;refine j2 ?_;refine zm ?_;refine zj ?_;(first|((with_reducible apply AOps.convU8);(iterate 5 exact rfl);omega)|(refine AOps.freeze 0 rfl ?_;(try refine nz ?_);(with_reducible apply AOps.byteS);(iterate 6 exact rfl)));refine j81 ?_;(first|((with_reducible apply AOps.convU8);(iterate 5 exact rfl);omega)|(refine AOps.freeze 0 rfl ?_;(try refine nz ?_);(with_reducible apply AOps.byteS);(iterate 6 exact rfl)));refine j247 ?_)
 (apply ends_ret;(exact Res.one (.tmp rfl rfl));(exact Le.pv _))
end Go.Ab
/- Chapter 34's reference:an atom's name,a tuple,walked. -/
namespace Go.Ab
open Go Go.Proofs
open Nat (reduceAdd reduceSub)
set_option maxRecDepth 20000
set_option maxHeartbeats 4000000
theorem sumQ {l:List Int} {i:Nat} (h:i<l.length):(l.take (i+1)).sum=(l.take i).sum+l[i]:=by
 rw[List.take_succ_eq_append_getElem h,List.sum_append];simp
theorem digL_at (n:Int):∀(k:Nat) (r:Int) (i:Nat) (h:i<(digL n k r).length),i+1=k→(digL n k r)[i]=r % n
 |0,_,i,_,h=>by omega
 |k+1,r,i,h1,h2=>by
  have:i=(digL n k (r / n)).length:=by rw[digL_len];omega
  subst this
  simp [digL]
def sufT (L:List Bt) (i:Nat):Bt:=if i=L.length then joinT [45,62] L else (L.drop (L.length - i)).flatMap fun y=>[45,62]++y
theorem suf_0 (L:List Bt):sufT L 0=[]:=by
 unfold sufT
 split
 ·rename_i h
  rw[List.eq_nil_of_length_eq_zero h.symm];rfl
 ·simp
theorem suf_s {L:List Bt} {i:Nat} (h:i<L.length):sufT L (i+1)=(if i+1<L.length then [45,62] else [])++(L[L.length - 1 - i]++sufT L i):=by
 have e1:sufT L i=(L.drop (L.length - i)).flatMap fun y=>[45,62]++y:=by unfold sufT;rw[if_neg (by omega)]
 have e2:L.drop (L.length - 1 - i)=L[L.length - 1 - i]::L.drop (L.length - i):=by
  rw[List.drop_eq_getElem_cons (by omega),show L.length - 1 - i+1=L.length - i by omega]
 by_cases h2:i+1<L.length
 ·rw[if_pos h2,e1]
  unfold sufT
  rw[if_neg (by omega),show L.length - (i+1)=L.length - 1 - i by omega,e2,List.flatMap_cons,List.append_assoc]
 ·rw[if_neg h2,e1,List.nil_append]
  unfold sufT
  rw[if_pos (by omega)]
  have e3:L=L[L.length - 1 - i]::L.drop (L.length - i):=by rw[← e2,show L.length - 1 - i=0 by omega,List.drop_zero]
  generalize L[L.length - 1 - i]=x at e3
  generalize L.drop (L.length - i)=r at e3 ⊢
  rw[e3];rfl
theorem suf_all (L:List Bt):sufT L L.length=joinT [45,62] L:=by unfold sufT;rw[if_pos rfl]
def lowR (n t:Int):Nat→Int
 |0=>t
 |i+1=>lowR n t i / n
theorem low_0 (n t:Int):lowR n t 0=t:=rfl
theorem low_s (n t:Int) (i:Nat):lowR n t (i+1)=lowR n t i / n:=rfl
theorem digL_low (n:Int):∀(k:Nat) (t:Int) (i:Nat) (h:i<k),(digL n k t)[k - 1 - i]'(by rw[digL_len];omega)=lowR n t i % n
 |0,_,i,h=>by omega
 |k+1,t,i,h=>by
  rcases i with _|i
  ·exact digL_at n (k+1) t _ _ (by omega)
  ·have ih:=digL_low n k (t / n) i (by omega)
   have e:∀i,lowR n (t / n) i=lowR n t (i+1):=by
    intro i
    induction i with
    |zero=>rfl
    |succ i ih=>show lowR n (t / n) i / n=lowR n t (i+1) / n;rw[ih]
   rw[← e i,← ih]
   have:(digL n (k+1) t)[k+1 - 1 - (i+1)]'(by rw[digL_len];omega)=(digL n k (t / n)++ [t % n])[k - 1 - i]'(by simp [digL_len];omega):=by
    congr 1
    omega
   rw[this,List.getElem_append_left (by rw[digL_len];omega)]
theorem low_rng {n t:Int} (hn:1≤n) (ht:0≤t):∀i,0≤lowR n t i∧lowR n t i≤t
 |0=>⟨ht,Int.le_refl _⟩
 |i+1=>by
  have:=low_rng hn ht i
  have h1:0≤lowR n t i / n:=Int.ediv_nonneg this.1 (by omega)
  have h2:lowR n t i / n≤lowR n t i:=Int.ediv_le_self _ this.1
  exact⟨h1,by show lowR n t i / n≤t;omega⟩
theorem suf_len {L:List Bt} (h:∀x∈L,x.length≤20) (hl:L.length≤3):∀i,i≤L.length→(sufT L i).length≤22*i
 |0,_=>by rw[suf_0];simp
 |i+1,hi=>by
  have:=suf_len h hl i (by omega)
  have h2:=h _ (List.getElem_mem (show L.length - 1 - i<L.length by omega))
  rw[suf_s (by omega),List.length_append,List.length_append]
  have:(if i+1<L.length then ([45,62]:Bt) else []).length≤2:=by split<;>simp
  omega
attribute [local irreducible] AW AOps thenD inBlockD AR iterEnds roundEndsN inlEnds noGotoD EndsX EndsP byteAt mkS lowR sufT
theorem atom34_fn (s:SpecM) (at':List Int) (st x:Int) (h5:Ok5 at') (hl:s.sorts.length=at'.length) (hx:0≤x∧x<at'.sum) (hz:∀q∈s.sorts,q.1.size≤16):Fn Tryz.prog 96 [spc s,scp at' st,litI x] (litS (mkS (nameT s.sorts at' x))):=by
 obtain⟨so,fs,p,q⟩:=s
 simp only at hl hz ⊢
 obtain⟨k,k1,k2,k3,k4⟩:=srt_in h5.nn hx.1 hx.2
 have hks:k<so.length:=by omega
 have e:=nameT_in (so:=so) h5 k1 hx.1 k3 k4
 rw[getDS hks] at e
 have hs4:=h5.len
 have hsum:=h5.sum
 have hbk:=h5.each _ (List.getElem_mem k1)
 have hk4:=k4
 rw[sumQ k1] at hk4
 have hd:=digits34_fn (x - (at'.take k).sum) (by omega)
 have hdl:=digT_le (z:=x - (at'.take k).sum) (by omega)
 have hdz:=mk_size (digT (x - (at'.take k).sum))
 have hzk:=hz _ (List.getElem_mem hks)
 have z36:(ByteArray.mk #[36]).size=1:=rfl
 have er:so[k].1++⟨#[36]⟩++mkS (digT (x - (at'.take k).sum))=mkS (nameT so at' x):=by
  apply mk_of
  rw[sL_app,sL_app,sL_mk,e,List.append_assoc]
 rw[← er]
 clear er
 generalize mkS (digT (x - (at'.take k).sum))=ds at hd hdz ⊢
 refine Fn.enter (n:=44) Tryz.func96 rfl rfl rfl rfl rfl (by decide) fun g hro_ hwt_=>?_;(try refine nz ?_)
 (refine j187 ?_;refine j311 ?_)
 (refine nz ?_;apply AW.loopR [4,3,2] [1,0] (fun i:Nat=>([(7,litI (at'.take i).sum),(8,litI i)]:List (Nat×AV))) (fun i:Nat=>([]:List (Nat×Option Ob))) (fun i:Nat=>i≤k) (fun i:Nat=>k - i) (0);(conv=>lhs;simp only[Nf.lpR,Nf.all,Nat.reduceBEq,reduceAdd,reduceSub]);(all_goals skip))
 ·exact Nat.zero_le _
 ·exact weak rfl (by(refine⟨.intE (by first|with_reducible rfl|(rfl)),?_⟩;refine⟨.intE (by first|with_reducible rfl|(rfl)),?_⟩;(iterate 2 refine⟨.eq rfl rfl,?_⟩);refine⟨.intE (by first|with_reducible rfl|(rfl)),?_⟩;exact trivial)) (by(refine⟨.box _ rfl ?_,?_⟩;refine⟨.pvE (by first|with_reducible rfl|(rfl)),?_⟩;refine⟨.intE (by first|with_reducible rfl|(rfl)),?_⟩;exact trivial;refine⟨.box _ rfl ?_,?_⟩;(iterate 2 refine⟨.pvE (by first|with_reducible rfl|(rfl)),?_⟩);(iterate 2 refine⟨.eq rfl rfl,?_⟩);(iterate 2 exact trivial))) rfl
 rintro i hi
 have hil:i<at'.length:=by omega
 have hbi:=h5.each _ (List.getElem_mem hil)
 have hsi:=sumQ hil
 have htk:=take_mono h5.nn hi
 have hti:=h5.sm.take i
 by_cases he:i=k
 ·subst he
  (refine j312 ?_;refine j130 ?_;(iterate 2 refine zm ?_);refine j28 ?_;refine zm ?_;(focus ((with_reducible apply AOps.index_map);(iterate 7 exact rfl);rotate_left;omega));refine zr ?_;refine zj ?_;refine j139 ?_;refine zc ?_;refine zo ?_;(with_reducible apply AW.regionQ);exact rfl;exact rfl;kernel_rfl;(with_reducible assumption);refine j62 ?_;refine zm ?_;(focus ((with_reducible apply AOps.index_map);(iterate 7 exact rfl);rotate_left;omega));refine j128 ?_;(with_reducible apply AOps.catS);(iterate 5 exact rfl);(first|omega|decide|(simp only[ByteArray.size_append];omega));refine j251 ?_;refine zA (hd) ?_;(with_reducible apply AOps.catS);(iterate 5 exact rfl);(first|omega|decide|(simp only[ByteArray.size_append];omega));refine j247 ?_;refine j10 ?_)
  (apply ends_ret;(exact Res.one (.tmp rfl rfl));(exact Le.pv _))
 ·have htk2:=take_mono h5.nn (show i+1≤k by omega)
  (refine j312 ?_;refine j130 ?_;(iterate 2 refine zm ?_);refine j28 ?_;refine zm ?_;(focus ((with_reducible apply AOps.index_map);(iterate 7 exact rfl);rotate_left;omega));refine zr ?_;refine zj ?_;refine j139 ?_;refine j105 ?_;refine j372 ?_;refine j28 ?_;refine zm ?_;(focus ((with_reducible apply AOps.index_map);(iterate 7 exact rfl);rotate_left;omega));refine zr ?_;refine zj ?_;refine j158 ?_)
  exact⟨i+1,by omega,by omega,weak rfl (by(refine⟨.intE (by first|rfl|(rw[hsi])),?_⟩;refine⟨.intE (by first|rfl|(rw[hsi])),?_⟩;(iterate 2 refine⟨.eq rfl rfl,?_⟩);refine⟨.intE (by first|rfl|(rw[hsi])),?_⟩;exact trivial)) (by(refine⟨.box _ rfl ?_,?_⟩;refine⟨.pvE (by first|rfl|(rw[hsi])),?_⟩;refine⟨.intE (by first|rfl|(rw[hsi])),?_⟩;exact trivial;refine⟨.box _ rfl ?_,?_⟩;refine⟨.pvE (by first|rfl|(rw[hsi])),?_⟩;refine⟨.pvE (by first|rfl|(rw[hsi])),?_⟩;(iterate 2 refine⟨.eq rfl rfl,?_⟩);(iterate 2 exact trivial))) rfl⟩
theorem tuple34_fn (s:SpecM) (at':List Int) (st t:Int) (ar:Nat) (h5:Ok5 at') (hl:s.sorts.length=at'.length) (ha:1≤ar∧ar≤3) (ht:0≤t∧t<at'.sum ^ ar) (ht':t≤1000000) (hz:∀q∈s.sorts,q.1.size≤16):Fn Tryz.prog 77 [spc s,scp at' st,litI (ar:Nat),litI t] (litS (mkS (tupT s.sorts at' ar t))):=by
 have hat:=rAtoms_fn at' st h5.sm
 have hs4:=h5.len
 have hsum:=h5.sum
 have hpos:1≤at'.sum:=by
  rcases Nat.eq_zero_or_pos at'.length with h0|h0
  ·rw[List.eq_nil_of_length_eq_zero h0] at ht
   obtain⟨h1,h2⟩:=ht
   exfalso
   rw[List.sum_nil,show ar=ar - 1+1 by omega,Int.pow_succ,Int.mul_zero] at h2
   omega
  ·exact h5.pos h0
 have hatm:=fun x hx=>atom34_fn s at' st x h5 hl hx hz
 have hnl:=fun x=>nameT_le (so:=s.sorts) h5 hz x
 obtain⟨n,hn⟩:∃n,n=at'.sum:=⟨_,rfl⟩
 obtain⟨L,hL⟩:∃L,L=(digL n ar t).map (nameT s.sorts at'):=⟨_,rfl⟩
 have hLl:L.length=ar:=by rw[hL,List.length_map,digL_len]
 have e:tupT s.sorts at' ar t=sufT L L.length:=by
  rw[suf_all,hL]
  unfold tupT
  rw[← hn,tupF_pos ha.2 ht.1 (by rw[hn];exact ht.2)]
 have hLx:∀x∈L,x.length≤20:=fun x hx=>by
  rw[hL] at hx
  obtain⟨y,_,rfl⟩:=List.mem_map.1 hx
  exact hnl y
 have hsl:=suf_len hLx (by omega)
 have hLi:∀i (h:i<ar),L[L.length - 1 - i]'(by omega)=nameT s.sorts at' (lowR n t i % n):=fun i h=>by
  subst hL
  rw[List.getElem_map]
  congr 1
  rw[← digL_low n ar t i h]
  congr 1
  rw[List.length_map,digL_len]
 rw[e,hLl]
 rw[← hn] at hpos hsum hat
 have hlow:=low_rng hpos ht.1
 clear e hL
 obtain⟨so,fs,p,q⟩:=s
 simp only at hl hz hatm hLi hnl ⊢
 have z2:(ByteArray.mk #[45,62]).size=2:=rfl
 have hmax:max 1 n=n:=by omega
 have e0:mkS (sufT L 0)=⟨#[]⟩:=by rw[suf_0];unfold mkS;rfl
 refine Fn.enter (n:=38) Tryz.func77 rfl rfl rfl rfl rfl (by decide) fun g hro_ hwt_=>?_;(try refine nz ?_)
 (refine j187 ?_;refine j27 ?_;refine zA (hat) ?_;refine AOps.max2 rfl rfl rfl rfl rfl ?_;refine j58 ?_;refine j311 ?_)
 rw[hmax]
 (refine nz ?_;apply AW.loopR [9,8,5,4,2] [1,0] (fun i:Nat=>([(3,litI (lowR n t i)),(10,litS (mkS (sufT L i))),(11,litI i)]:List (Nat×AV))) (fun i:Nat=>([]:List (Nat×Option Ob))) (fun i:Nat=>i≤ar) (fun i:Nat=>ar - i) (0);(conv=>lhs;simp only[Nf.lpR,Nf.all,Nat.reduceBEq,reduceAdd,reduceSub]);(all_goals skip))
 ·exact Nat.zero_le _
 ·exact weak rfl (by(refine⟨.intE (by first|rfl|(rw[e0])|(rw[low_0])),?_⟩;refine⟨.strE (by first|rfl|(rw[e0])|(rw[low_0])),?_⟩;refine⟨.intE (by first|rfl|(rw[e0])|(rw[low_0])),?_⟩;refine⟨.intE (by first|rfl|(rw[e0])|(rw[low_0])),?_⟩;refine⟨.strE (by first|rfl|(rw[e0])|(rw[low_0])),?_⟩;(iterate 2 refine⟨.eq rfl rfl,?_⟩);refine⟨.intE (by first|rfl|(rw[e0])|(rw[low_0])),?_⟩;exact trivial)) (by(refine⟨.box _ rfl ?_,?_⟩;refine⟨.pvE (by first|rfl|(rw[e0])|(rw[low_0])),?_⟩;refine⟨.intE (by first|rfl|(rw[e0])|(rw[low_0])),?_⟩;exact trivial;refine⟨.box _ rfl ?_,?_⟩;refine⟨.pvE (by first|rfl|(rw[e0])|(rw[low_0])),?_⟩;refine⟨.pvE (by first|rfl|(rw[e0])|(rw[low_0])),?_⟩;(iterate 2 refine⟨.eq rfl rfl,?_⟩);(iterate 2 exact trivial))) rfl
 rintro i hi
 have hlw:=hlow i
 have hlw1:=hlow (i+1)
 have el:=low_s n t i
 by_cases hlt:i<ar
 ·have hm:=Int.emod_nonneg (lowR n t i) (show n≠0 by omega)
  have hm2:=Int.emod_lt_of_pos (lowR n t i) (show 0<n by omega)
  have ha1:=hatm (lowR n t i % n) ⟨hm,by rw[← hn];exact hm2⟩
  have hz1:=mk_size (nameT so at' (lowR n t i % n))
  have hz2:=mk_size (sufT L i)
  have hs1:=hsl i (by omega)
  have hnl1:=hnl (lowR n t i % n)
  have hss:=suf_s (L:=L) (i:=i) (by omega)
  rw[hLi i hlt,hLl] at hss
  by_cases hlast:i+1<ar
  ·rw[if_pos hlast] at hss
   have er:(⟨#[45,62]⟩:ByteArray)++(mkS (nameT so at' (lowR n t i % n))++mkS (sufT L i))=mkS (sufT L (i+1)):=by
    apply mk_of
    rw[sL_app,sL_app,sL_mk,sL_mk,hss]
   (refine j142 ?_;refine j139 ?_;refine j1 ?_;refine zo ?_;(with_reducible apply AW.regionQ);exact rfl;exact rfl;kernel_rfl;(with_reducible assumption);refine j137 ?_;refine j301 ?_;refine zA (ha1) ?_;refine zm ?_;(with_reducible apply AOps.catS);(iterate 5 exact rfl);(first|omega|decide|(simp only[ByteArray.size_append];omega));refine j58 ?_;(iterate 2 refine zm ?_);refine AOps.quoE rfl rfl rfl rfl rfl (by omega) ?_;refine j58 ?_;refine j251 ?_;refine j139 ?_;refine zc ?_;refine j372 ?_;(with_reducible apply AOps.catS);(iterate 5 exact rfl);(first|omega|decide|(simp only[ByteArray.size_append];omega));refine j158 ?_)
   exact j67
  ·rw[if_neg hlast,List.nil_append] at hss
   have er:mkS (nameT so at' (lowR n t i % n))++mkS (sufT L i)=mkS (sufT L (i+1)):=by
    apply mk_of
    rw[sL_app,sL_mk,sL_mk,hss]
   (refine j142 ?_;refine j139 ?_;refine j1 ?_;refine zo ?_;(with_reducible apply AW.regionQ);exact rfl;exact rfl;kernel_rfl;(with_reducible assumption);refine j137 ?_;refine j301 ?_;refine zA (ha1) ?_;refine zm ?_;(with_reducible apply AOps.catS);(iterate 5 exact rfl);(first|omega|decide|(simp only[ByteArray.size_append];omega));refine j58 ?_;(iterate 2 refine zm ?_);refine AOps.quoE rfl rfl rfl rfl rfl (by omega) ?_;refine j58 ?_;refine j251 ?_;refine j139 ?_;refine zk ?_;refine j171 ?_)
   exact j67
 ·obtain rfl:i=ar:=by omega
  (refine j142 ?_;refine j139 ?_;refine j104 ?_;refine zm ?_;refine j11 ?_)
  (apply ends_ret;(exact Res.one (.tmp rfl rfl));(exact Le.pv _))
end Go.Ab
