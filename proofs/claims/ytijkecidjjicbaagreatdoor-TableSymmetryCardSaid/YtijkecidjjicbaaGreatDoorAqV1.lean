/- Chapter 07: states and models held against each other; the next state, the state at a time. -/
import Derived.Test.YtijkecidjjicbaaGreatDoorAqM2
import Derived.Test.YtijkecidjjicbaaGreatDoorAbZ
import Derived.Test.YtijkecidjjicbaaGreatDoorAbL3
import Derived.Test.YtijkecidjjicbaaGreatDoorAbL2
import Derived.Test.YtijkecidjjicbaaGreatDoorAqS
import Derived.Test.YtijkecidjjicbaaGreatDoorAbL4
import Derived.Test.YtijkecidjjicbaaGreatDoorAqP4
set_option linter.unusedSimpArgs false
set_option linter.unusedVariables false
namespace Go.Ab
open Go Go.Proofs
set_option maxRecDepth 20000
set_option maxHeartbeats 2000000
attribute [local irreducible] AW AOps thenD inBlockD AR iterEnds roundEndsN inlEnds
theorem rSame_fn (a b:List RelM):Fn Tryz.prog 32 [.pv (rels a),.pv (rels b)] (litB (decide (a=b))):=by
 refine Fn.enter (n:=27) Tryz.func32 rfl rfl rfl rfl rfl (by decide) fun g hro_ hwt_=>?_;(try refine nz ?_)
 refine AW.len_map 0 rfl fun hlen=>?_
 by_cases hab:a.length=b.length
 ·(refine J201 ?_;refine J45 ?_;refine J158 ?_)
  refine AW.loop (fun(k:Nat)=>{n:=27,env:=[(0,.pv (rels a)),(1,.pv (rels b)),(5,litI k)],objs:=[],nx:=0}) (fun k=>k≤a.length∧a.take k=b.take k) (fun k=>a.length - k) 0 ?_ ?_ ?_
  ·simp
  ·exact weak rfl (by(refine⟨.eq rfl rfl,?_⟩;(iterate 2 refine⟨.eq rfl rfl,?_⟩);exact trivial)) (by(exact trivial)) rfl
  rintro k ⟨hk,hno⟩
  by_cases hlt:k<a.length
  ·have hlt2:k<b.length:=by omega
   have he:=rEqual_fn a[k] b[k]
   by_cases heq:a[k]=b[k]
   ·rw[decide_eq_true heq] at he
    (refine J96 ?_;refine zn ?_;refine J3 ?_;refine zo ?_)
    refine AW.regionE [0,1,2,3,4,5,6,7] [] rfl (by assumption) (by kernel_rfl) rfl ?_
    show AOps .held _ _ _ [_,_,_,_,_,_,_,_] _ _
    ((iterate 2 refine zm ?_);(focus ((with_reducible apply AOps.index_map);(iterate 7 exact rfl);rotate_left;omega));refine J155 ?_;(iterate 2 refine zm ?_);(focus ((with_reducible apply AOps.index_map);(iterate 7 exact rfl);rotate_left;omega));refine J155 ?_;refine J5 ?_)
    intro k_ hk_
    (try refine nz ?_)
    refine AR.step1 (i:=8) rfl (by kernel_rfl) rfl ?_
    intro g_ hgro_ hw_
    (refine AOps.call (he) (.cons rfl (.aggL (.cons (.pv _) (.cons (.pv _) .nil))) (.cons rfl (.aggL (.cons (.pv _) (.cons (.pv _) .nil))) .nil)) rfl rfl (fun h_=>by cases h_) ?_;refine J5 ?_)
    refine AR.step1 (i:=9) rfl (by kernel_rfl) rfl ?_
    intro g_ hgro_ hw_
    (refine J304 ?_)
    refine AR.done (by assumption) (by kernel_rfl) ?_
    (refine thenD_n ?_;refine J35 ?_;refine J77 ?_)
    exact⟨k+1,⟨by omega,eq_step hno hlt hlt2 heq⟩,by omega,weak rfl (by(refine⟨.eq rfl rfl,?_⟩;(iterate 2 refine⟨.eq rfl rfl,?_⟩);exact trivial)) (by(exact trivial)) rfl⟩
   ·rw[decide_eq_false heq] at he
    have hne:¬a=b:=by rintro rfl;exact heq rfl
    (refine J96 ?_;refine zn ?_;refine J3 ?_;refine zo ?_)
    refine AW.regionE [0,1,2,3,4,5,6,7] [] rfl (by assumption) (by kernel_rfl) rfl ?_
    show AOps .held _ _ _ [_,_,_,_,_,_,_,_] _ _
    ((iterate 2 refine zm ?_);(focus ((with_reducible apply AOps.index_map);(iterate 7 exact rfl);rotate_left;omega));refine J155 ?_;(iterate 2 refine zm ?_);(focus ((with_reducible apply AOps.index_map);(iterate 7 exact rfl);rotate_left;omega));refine J155 ?_;refine J5 ?_)
    intro k_ hk_
    (try refine nz ?_)
    refine AR.step1 (i:=8) rfl (by kernel_rfl) rfl ?_
    intro g_ hgro_ hw_
    (refine AOps.call (he) (.cons rfl (.aggL (.cons (.pv _) (.cons (.pv _) .nil))) (.cons rfl (.aggL (.cons (.pv _) (.cons (.pv _) .nil))) .nil)) rfl rfl (fun h_=>by cases h_) ?_;refine J5 ?_)
    refine AR.step1 (i:=9) rfl (by kernel_rfl) rfl ?_
    intro g_ hgro_ hw_
    (refine J304 ?_)
    refine AR.done (by assumption) (by kernel_rfl) ?_
    (refine thenD_n ?_;refine AW.cond_lt rfl rfl ?_;refine J134 ?_;refine J11 ?_)
    (apply ends_ret;(exact Res.one (.tmp rfl rfl));(refine Le.litB ?_;(rw[eq_comm,decide_eq_false_iff_not];exact hne)))
  ·have he:a=b:=eq_at_end hab hno hlt
   (refine J96 ?_;refine zn ?_;refine J246 ?_)
   (apply ends_ret;(exact Res.one (.tmp rfl rfl));(refine Le.litB ?_;(rw[eq_comm,decide_eq_true_iff];exact he)))
 ·have hne:¬a=b:=by rintro rfl;exact hab rfl
  (refine J201 ?_;refine J274 ?_)
  (apply ends_ret;(exact Res.one (.tmp rfl rfl));(refine Le.litB ?_;(rw[eq_comm,decide_eq_false_iff_not];exact hne)))
end Go.Ab
/- Chapter 07:copies,the state at a time,models held against each other. -/
namespace Go.Ab
open Go Go.Proofs
set_option maxRecDepth 20000
set_option maxHeartbeats 2000000
attribute [local irreducible] AW AOps thenD inBlockD AR iterEnds roundEndsN inlEnds
theorem mod_eq (a b:ModM):decide (a=b)=(decide (a.atoms=b.atoms) && decide (a.steps=b.steps) && decide (a.loop=b.loop) && decide (a.states=b.states)):=by
 obtain⟨a1,a2,a3,a4⟩:=a
 obtain⟨b1,b2,b3,b4⟩:=b
 rw[Bool.eq_iff_iff]
 simp only[Bool.and_eq_true,decide_eq_true_eq,ModM.mk.injEq]
 constructor
 ·rintro⟨h1,h2,h3,h4⟩;exact⟨⟨⟨h1,h2⟩,h4⟩,h3⟩
 ·rintro⟨⟨⟨h1,h2⟩,h4⟩,h3⟩;exact⟨h1,h2,h3,h4⟩
end Go.Ab
/- Chapter 07:traces of looped models,in plain terms. -/
namespace Go.Ab
open Go Go.Proofs
def idxN (k l t:Nat):Nat:=if t<k then t else l+(t - l) % (k - l)
theorem idxN_small {k l t:Nat} (h:t<k):idxN k l t=t:=if_pos h
theorem idxN_mod {k l t:Nat} (h:l<k) (ht:l≤t):idxN k l t=l+(t - l) % (k - l):=by
 unfold idxN
 split
 ·rw[Nat.mod_eq_of_lt (by omega)];omega
 ·rfl
theorem idxN_per {k l t:Nat} (h:l<k) (ht:l≤t) (n:Nat):idxN k l (t+n*(k - l))=idxN k l t:=by
 rw[idxN_mod h (by omega),idxN_mod h ht]
 congr 1
 rw[show t+n*(k - l) - l=(t - l)+n*(k - l) by omega,Nat.add_mul_mod_self_right]
theorem idxN_per1 {k l t:Nat} (h:l<k) (ht:l≤t):idxN k l (t+(k - l))=idxN k l t:=by
 have:=idxN_per h ht 1
 rwa [Nat.one_mul] at this
section
variable {α:Type} {d:α}
def Rep (T:Nat→α) (n l:Nat):Prop:=l<n∧∀t,T t=T (idxN n l t)
theorem Rep.shift {T:Nat→α} {n l:Nat} (h:Rep T n l) (t:Nat):T (n+t)=T (l+t):=by
 have h1:=h.1
 rw[h.2 (n+t),h.2 (l+t)]
 have:=idxN_per1 (t:=l+t) h.1 (by omega)
 rw[← this];congr 2;omega
theorem Rep.of_shift {T:Nat→α} {n l:Nat} (hl:l<n) (h:∀t,T (n+t)=T (l+t)):Rep T n l:=by
 refine⟨hl,fun t=>?_⟩
 induction t using Nat.strongRecOn with
 |_ t ih=>
  by_cases ht:t<n
  ·rw[idxN_small ht]
  ·have h1:=h (t - n)
   rw[show n+(t - n)=t by omega] at h1
   rw[h1,ih (l+(t - n)) (by omega)]
   have:=idxN_per1 (t:=l+(t - n)) hl (by omega)
   rw[← this];congr 2;omega
theorem Rep.less {T:Nat→α} {n l l':Nat} (h:Rep T n l) (h':Rep T n l') (hl:l<l'):Rep T l' l:=
 .of_shift hl fun t=>by rw[← h'.shift,h.shift]
end
end Go.Ab
/- Chapter 07:models held against each other,the same trace. -/
namespace Go.Ab
open Go Go.Proofs
set_option maxRecDepth 20000
set_option maxHeartbeats 2000000
attribute [local irreducible] AW AOps thenD inBlockD AR iterEnds roundEndsN inlEnds
theorem rEq07_fn (a b:ModM):Fn Tryz.prog 11 [mdl a,mdl b] (litB (decide (a=b))):=by
 rw[mod_eq]
 obtain⟨a1,a2,a3,a4⟩:=a
 obtain⟨b1,b2,b3,b4⟩:=b
 simp only
 have hs:=ints_fn a1 b1
 cases h1:decide (a1=b1) with
 |false=>
  rw[h1] at hs
  rw[Bool.false_and,Bool.false_and,Bool.false_and]
  refine Fn.enter (n:=58) Tryz.func11 rfl rfl rfl rfl rfl (by decide) fun g hro_ hwt_=>?_;(try refine nz ?_)
  (refine J110 ?_;refine AOps.call (hs) (.cons rfl (.pv _) (.cons rfl (.pv _) .nil)) rfl rfl (fun h_=>by cases h_) ?_;refine J153 ?_;refine J136 ?_;refine J125 ?_;refine J231 ?_;refine J125 ?_;refine J136 ?_;refine J50 ?_)
  (apply ends_ret;(exact Res.one (.tmp rfl rfl));(refine Le.litB ?_;(rfl)))
 |true=>
 rw[h1] at hs
 by_cases h2:a2=b2
 ·by_cases h4:a4=b4
  ·rw[decide_eq_true h2,decide_eq_true h4,Bool.true_and,Bool.true_and,Bool.true_and]
   refine Fn.enter (n:=58) Tryz.func11 rfl rfl rfl rfl rfl (by decide) fun g hro_ hwt_=>?_;(try refine nz ?_)
   refine AW.len_agg 0 2 rfl rfl fun hlen=>?_
   simp only at hlen
   by_cases hab:a3.length=b3.length
   ·(refine J110 ?_;refine AOps.call (hs) (.cons rfl (.pv _) (.cons rfl (.pv _) .nil)) rfl rfl (fun h_=>by cases h_) ?_;refine J277 ?_;refine J40 ?_;(iterate 2 refine J171 ?_);refine J161 ?_;refine J45 ?_;refine J158 ?_)
    refine AW.loop (fun(k:Nat)=>{n:=58,env:=[(2,.ptr 0 0),(3,.ptr 1 0),(5,litI k)],objs:=[(0,some (.box [.pv (ints a1),litI a2,.pv (stts a3),litI a4])),(1,some (.box [.pv (ints b1),litI b2,.pv (stts b3),litI b4]))],nx:=2}) (fun k=>k≤a3.length∧a3.take k=b3.take k) (fun k=>a3.length - k) 0 ?_ ?_ ?_
    ·simp
    ·exact weak rfl (by(refine⟨.eq rfl rfl,?_⟩;(iterate 2 refine⟨.eq rfl rfl,?_⟩);exact trivial)) (by(refine⟨.box _ rfl ?_,?_⟩;(iterate 4 refine⟨.eq rfl rfl,?_⟩);exact trivial;refine⟨.box _ rfl ?_,?_⟩;(iterate 4 refine⟨.eq rfl rfl,?_⟩);(iterate 2 exact trivial))) rfl
    rintro k ⟨hk,hno⟩
    by_cases hlt:k<a3.length
    ·have hlt2:k<b3.length:=by omega
     have he:=rSame_fn a3[k] b3[k]
     by_cases heq:a3[k]=b3[k]
     ·rw[decide_eq_true heq] at he
      (refine J133 ?_;refine zo ?_;refine J83 ?_;refine J297 ?_;(focus ((with_reducible apply AOps.index_map);(iterate 7 exact rfl);rotate_left;omega));refine zr ?_;refine J297 ?_;(focus ((with_reducible apply AOps.index_map);(iterate 7 exact rfl);rotate_left;omega));refine zr ?_;refine AOps.call (he) (.cons rfl (.pv _) (.cons rfl (.pv _) .nil)) rfl rfl (fun h_=>by cases h_) ?_;refine J78 ?_;refine J77 ?_)
      exact⟨k+1,⟨by omega,eq_step hno hlt hlt2 heq⟩,by omega,weak rfl (by(refine⟨.eq rfl rfl,?_⟩;(iterate 2 refine⟨.eq rfl rfl,?_⟩);exact trivial)) (by(refine⟨.box _ rfl ?_,?_⟩;(iterate 4 refine⟨.eq rfl rfl,?_⟩);exact trivial;refine⟨.box _ rfl ?_,?_⟩;(iterate 4 refine⟨.eq rfl rfl,?_⟩);(iterate 2 exact trivial))) rfl⟩
     ·rw[decide_eq_false heq] at he
      have hne:¬a3=b3:=by rintro rfl;exact heq rfl
      (refine J133 ?_;refine zo ?_;refine J83 ?_;refine J297 ?_;(focus ((with_reducible apply AOps.index_map);(iterate 7 exact rfl);rotate_left;omega));refine zr ?_;refine J297 ?_;(focus ((with_reducible apply AOps.index_map);(iterate 7 exact rfl);rotate_left;omega));refine zr ?_;refine AOps.call (he) (.cons rfl (.pv _) (.cons rfl (.pv _) .nil)) rfl rfl (fun h_=>by cases h_) ?_;refine J267 ?_)
      (apply ends_ret;(exact Res.one (.tmp rfl rfl));(refine Le.litB ?_;(rw[eq_comm,decide_eq_false_iff_not];exact hne)))
    ·have he:a3=b3:=eq_at_end hab hno hlt
     (refine J46 ?_;refine J21 ?_;refine zn ?_;refine J246 ?_)
     (apply ends_ret;(exact Res.one (.tmp rfl rfl));(refine Le.litB ?_;(rw[eq_comm,decide_eq_true_iff];exact he)))
   ·have hne:¬a3=b3:=by rintro rfl;exact hab rfl
    (refine J110 ?_;refine AOps.call (hs) (.cons rfl (.pv _) (.cons rfl (.pv _) .nil)) rfl rfl (fun h_=>by cases h_) ?_;refine J277 ?_;refine J40 ?_;(iterate 2 refine J171 ?_);refine J161 ?_;refine J274 ?_)
    (apply ends_ret;(exact Res.one (.tmp rfl rfl));(refine Le.litB ?_;(rw[eq_comm,decide_eq_false_iff_not];exact hne)))
  ·rw[decide_eq_true h2,decide_eq_false h4,Bool.and_false,Bool.false_and]
   refine Fn.enter (n:=58) Tryz.func11 rfl rfl rfl rfl rfl (by decide) fun g hro_ hwt_=>?_;(try refine nz ?_)
   (refine J110 ?_;refine AOps.call (hs) (.cons rfl (.pv _) (.cons rfl (.pv _) .nil)) rfl rfl (fun h_=>by cases h_) ?_;refine J277 ?_;refine zm ?_;(iterate 7 refine AOps.guardFn rfl rfl rfl rfl rfl rfl (by with_reducible assumption) ?_);refine zT ?_;refine J152 ?_)
   all_goals (apply ends_ret;(exact Res.one (.tmp rfl rfl));(refine Le.litB ?_;(rfl)))
 ·rw[decide_eq_false h2,Bool.and_false,Bool.false_and,Bool.false_and]
  refine Fn.enter (n:=58) Tryz.func11 rfl rfl rfl rfl rfl (by decide) fun g hro_ hwt_=>?_;(try refine nz ?_)
  (refine J110 ?_;refine AOps.call (hs) (.cons rfl (.pv _) (.cons rfl (.pv _) .nil)) rfl rfl (fun h_=>by cases h_) ?_;refine J153 ?_;refine J44 ?_;refine zb ?_;refine J91 ?_;refine zm ?_;refine J182 ?_;refine zm ?_;refine J136 ?_;refine J50 ?_)
  all_goals (apply ends_ret;(exact Res.one (.tmp rfl rfl));(refine Le.litB ?_;(rfl)))
end Go.Ab
/- Chapter 34:names,and what the laws ask of their inputs,walked. -/
namespace Go.Ab
open Go Go.Proofs
open Nat (reduceAdd reduceSub)
set_option maxRecDepth 20000
set_option maxHeartbeats 4000000
def kwL:List Bt:=[[115,111,114,116],[111,114,100,101,114,101,100],[118,97,114],[102,105,101,108,100],[112,114,101,100],[102,97,99,116],[97,108,108],[115,111,109,101],[110,111],[111,110,101],[108,111,110,101],[97,108,119,97,121,115],[101,118,101,110,116,117,97,108,108,121],[97,102,116,101,114],[117,110,116,105,108],[110,111,110,101],[117,110,105,118],[105,100,101,110],[105,110],[110,111,116],[116,114,117,101],[102,97,108,115,101]]
theorem kw_lits:kwL.map (fun k=>[PV.lit (.string (mkS k))])=List.map (fun p=>[p]) [PV.lit (Value.string ⟨#[115,111,114,116]⟩),PV.lit (Value.string ⟨#[111,114,100,101,114,101,100]⟩),PV.lit (Value.string ⟨#[118,97,114]⟩),PV.lit (Value.string ⟨#[102,105,101,108,100]⟩),PV.lit (Value.string ⟨#[112,114,101,100]⟩),PV.lit (Value.string ⟨#[102,97,99,116]⟩),PV.lit (Value.string ⟨#[97,108,108]⟩),PV.lit (Value.string ⟨#[115,111,109,101]⟩),PV.lit (Value.string ⟨#[110,111]⟩),PV.lit (Value.string ⟨#[111,110,101]⟩),PV.lit (Value.string ⟨#[108,111,110,101]⟩),PV.lit (Value.string ⟨#[97,108,119,97,121,115]⟩),PV.lit (Value.string ⟨#[101,118,101,110,116,117,97,108,108,121]⟩),PV.lit (Value.string ⟨#[97,102,116,101,114]⟩),PV.lit (Value.string ⟨#[117,110,116,105,108]⟩),PV.lit (Value.string ⟨#[110,111,110,101]⟩),PV.lit (Value.string ⟨#[117,110,105,118]⟩),PV.lit (Value.string ⟨#[105,100,101,110]⟩),PV.lit (Value.string ⟨#[105,110]⟩),PV.lit (Value.string ⟨#[110,111,116]⟩),PV.lit (Value.string ⟨#[116,114,117,101]⟩),PV.lit (Value.string ⟨#[102,97,108,115,101]⟩)]:=rfl
def kwB (s:Bt):Bool:=decide (s∈kwL)
def letC (c:Int):Bool:=decide ((97≤c∧c≤122)∨(65≤c∧c≤90))
def okC (s:Bt) (k:Nat):Bool:=letC (byteAt (mkS s) k)||decide (k≠0∧(byteAt (mkS s) k=95∨(48≤byteAt (mkS s) k∧byteAt (mkS s) k≤57)))
def nameB (s:Bt):Bool:=decide (s.length≠0∧s.length≤16) && (!kwB s && (List.range s.length).all (okC s))
attribute [local irreducible] AW AOps thenD inBlockD AR iterEnds roundEndsN inlEnds noGotoD EndsX EndsP mkS byteAt
theorem kw_fn (s:Bt):Fn Tryz.prog 88 [litS (mkS s)] (litB (kwB s)):=by
 have hlen:kwL.length=22:=rfl
 obtain⟨L,hL⟩:∃L,L=kwL:=⟨_,rfl⟩
 unfold kwB
 rw[← hL] at hlen ⊢
 refine Fn.enter (n:=18) Tryz.func88 rfl rfl rfl rfl rfl (by decide) fun g hro_ hwt_=>?_;(try refine nz ?_)
 (refine J224 ?_;(focus ((with_reducible apply AOps.bsS);(iterate 5 exact rfl);(focus ((repeat ((any_goals (apply PvS.cons));(all_goals (try exact rfl))));(any_goals (exact PvS.nil));done));exact rfl;exact rfl;(try refine nz ?_)));refine AOps.assign_own rfl rfl rfl ?_;refine zd ?_;refine J158 ?_)
 (refine nz ?_;apply AW.loopR [] [] (fun k:Nat=>([(0,litS (mkS s)),(4,litI k),(3,.own 0 9 1 (L.map fun k=>[.lit (.string (mkS k))]))]:List (Nat×AV))) (fun k:Nat=>([(0,some .row)]:List (Nat×Option Ob))) (fun k:Nat=>k≤22∧∀j (h:j<L.length),j<k→L[j]≠s) (fun k:Nat=>22 - k) (0);(conv=>lhs;simp only[Nf.lpR,Nf.all,Nat.reduceBEq,reduceAdd,reduceSub]);(all_goals skip))
 ·exact⟨by omega,fun j h hj=>by omega⟩
 ·exact weak rfl (by(refine⟨.strE (by first|with_reducible rfl|(rw[hL,kw_lits])),?_⟩;refine⟨.eq rfl rfl,?_⟩;refine⟨.ownE (by first|with_reducible rfl|(rw[hL,kw_lits])) rfl,?_⟩;exact trivial)) (by(refine⟨.row rfl,?_⟩;exact trivial)) rfl
 rintro k ⟨hk,hne⟩
 by_cases hlt:k<L.length
 ·by_cases hq:L[k]=s
  ·have hq':mkS L[k]=mkS s:=by rw[hq]
   rw[decide_eq_true (by rw[← hq];exact List.getElem_mem hlt)]
   (refine J330 ?_;(focus ((with_reducible apply AOps.load_o1_mapI);(iterate 4 exact rfl);exact(fun h_=>by cases h_);rotate_left;(first|omega|exact Nat.zero_lt_one|exact(by simp))));refine zm ?_;refine AOps.eqlS rfl rfl rfl rfl rfl ?_;refine J226 ?_)
   (apply ends_ret;(exact Res.one (.tmp rfl rfl));(refine Le.litB ?_;(rfl)))
  ·have hq':mkS L[k]≠mkS s:=fun h=>hq (mk_inj.1 h)
   (refine J330 ?_;(focus ((with_reducible apply AOps.load_o1_mapI);(iterate 4 exact rfl);exact(fun h_=>by cases h_);rotate_left;(first|omega|exact Nat.zero_lt_one|exact(by simp))));refine zm ?_;refine AOps.eqlS rfl rfl rfl rfl rfl ?_;refine J159 ?_)
   exact⟨k+1,⟨by omega,fun j h hj=>by
    by_cases e:j=k
    ·subst e;exact hq
    ·exact hne j h (by omega)⟩,by omega,weak rfl (by(refine⟨.strE (by first|with_reducible rfl|(rfl)),?_⟩;refine⟨.intE (by first|with_reducible rfl|(rfl)),?_⟩;refine⟨.ownE (by first|with_reducible rfl|(rfl)) rfl,?_⟩;exact trivial)) (by(refine⟨.row rfl,?_⟩;exact trivial)) rfl⟩
 ·rw[decide_eq_false (by
   intro h
   obtain⟨j,hj,e⟩:=List.getElem_of_mem h
   exact hne j hj (by omega) e)]
  (refine J46 ?_;refine J149 ?_;refine J246 ?_)
  (apply ends_ret;(exact Res.one (.tmp rfl rfl));(refine Le.litB ?_;(rfl)))
theorem okC_yes {s:Bt} {k:Nat} (h:(97≤byteAt (mkS s) k∧byteAt (mkS s) k≤122)∨(65≤byteAt (mkS s) k∧byteAt (mkS s) k≤90)∨(k≠0∧(byteAt (mkS s) k=95∨(48≤byteAt (mkS s) k∧byteAt (mkS s) k≤57)))):okC s k=true:=by
 unfold okC letC
 rw[Bool.or_eq_true,decide_eq_true_eq,decide_eq_true_eq]
 rcases h with h|h|h
 ·exact .inl (.inl h)
 ·exact .inl (.inr h)
 ·exact .inr h
theorem okC_no {s:Bt} {k:Nat} (h:¬((97≤byteAt (mkS s) k∧byteAt (mkS s) k≤122)∨(65≤byteAt (mkS s) k∧byteAt (mkS s) k≤90)∨(k≠0∧(byteAt (mkS s) k=95∨(48≤byteAt (mkS s) k∧byteAt (mkS s) k≤57))))):okC s k=false:=by
 unfold okC letC
 rw[Bool.or_eq_false_iff,decide_eq_false_iff_not,decide_eq_false_iff_not]
 exact⟨fun h'=>h (h'.elim .inl fun h'=> .inr (.inl h')),fun h'=>h (.inr (.inr h'))⟩
theorem name2_fn (s:Bt):Fn Tryz.prog 63 [litS (mkS s)] (litB (nameB s)):=by
 have kz:=mk_size s
 have kw:=kw_fn s
 unfold nameB
 by_cases h0:s.length=0
 ·rw[decide_eq_false (by omega),Bool.false_and]
  refine Fn.enter (n:=59) Tryz.func63 rfl rfl rfl rfl rfl (by decide) fun g hro_ hwt_=>?_;(try refine nz ?_)
  (refine zq ?_;refine J146 ?_;refine AOps.len_str rfl rfl rfl rfl ?_;refine AOps.eql rfl rfl rfl rfl rfl ?_;refine zm ?_;(iterate 3 refine AOps.guardFn rfl rfl rfl rfl rfl rfl (by first|omega|decide) ?_);refine J317 ?_;(iterate 2 refine AOps.guard_lf rfl rfl rfl rfl rfl rfl rfl ?_);refine J50 ?_)
  (apply ends_ret;(exact Res.one (.tmp rfl rfl));(refine Le.litB ?_;(rfl)))
 by_cases h1:16<s.length
 ·rw[decide_eq_false (by omega),Bool.false_and]
  refine Fn.enter (n:=59) Tryz.func63 rfl rfl rfl rfl rfl (by decide) fun g hro_ hwt_=>?_;(try refine nz ?_)
  (refine zq ?_;refine J170 ?_;refine zm ?_;(iterate 2 refine AOps.guardFn rfl rfl rfl rfl rfl rfl (by first|omega|decide) ?_);refine zT ?_;refine J152 ?_)
  (apply ends_ret;(exact Res.one (.tmp rfl rfl));(refine Le.litB ?_;(rfl)))
 rw[decide_eq_true (by omega),Bool.true_and]
 cases hkw:kwB s with
 |true=>
  rw[hkw] at kw
  rw[Bool.not_true,Bool.false_and]
  refine Fn.enter (n:=59) Tryz.func63 rfl rfl rfl rfl rfl (by decide) fun g hro_ hwt_=>?_;(try refine nz ?_)
  (refine zq ?_;refine J170 ?_;refine J218 ?_;refine zA (kw) ?_;refine zF ?_;refine J152 ?_)
  (apply ends_ret;(exact Res.one (.tmp rfl rfl));(refine Le.litB ?_;(rfl)))
 |false=>
  rw[hkw] at kw
  rw[Bool.not_false,Bool.true_and]
  obtain⟨b,hb⟩:∃b,b=(List.range s.length).all (okC s):=⟨_,rfl⟩
  rw[← hb]
  refine Fn.enter (n:=59) Tryz.func63 rfl rfl rfl rfl rfl (by decide) fun g hro_ hwt_=>?_;(try refine nz ?_)
  (refine zq ?_;refine J170 ?_;refine J218 ?_;refine zA (kw) ?_;refine zF ?_;refine zd ?_;refine J278 ?_;refine J158 ?_)
  (refine nz ?_;apply AW.loopR [11,9,8,6,0] [] (fun k:Nat=>([(3,litI k)]:List (Nat×AV))) (fun k:Nat=>([]:List (Nat×Option Ob))) (fun k:Nat=>k≤s.length∧∀j,j<k→okC s j=true) (fun k:Nat=>s.length - k) (0);(conv=>lhs;simp only[Nf.lpR,Nf.all,Nat.reduceBEq,reduceAdd,reduceSub]);(all_goals skip))
  ·exact⟨by omega,fun j hj=>by omega⟩
  ·exact weak rfl (by(refine⟨.intE (by first|with_reducible rfl|(rfl)),?_⟩;refine⟨.intE (by first|with_reducible rfl|(rfl)),?_⟩;(iterate 2 refine⟨.boolE (by first|with_reducible rfl|(rfl)),?_⟩);(iterate 2 refine⟨.strE (by first|with_reducible rfl|(rfl)),?_⟩);exact trivial)) (by(exact trivial)) rfl
  rintro k ⟨hk,hok⟩
  by_cases hlt:k<s.length
  ·by_cases c1:97≤byteAt (mkS s) k
   ·by_cases c2:byteAt (mkS s) k≤122
    ·have hk1:okC s k=true:=okC_yes (by omega)
     (refine J96 ?_;refine AOps.len_str rfl rfl rfl rfl ?_;refine J3 ?_;refine J2 ?_;(iterate 2 refine zm ?_);refine AOps.index_str rfl rfl rfl rfl rfl rfl (by omega) ?_;refine J131 ?_;refine AOps.geqU rfl rfl rfl rfl rfl ?_;refine J72 ?_;refine AOps.leqU rfl rfl rfl rfl rfl ?_;refine J317 ?_;refine J107 ?_;(iterate 2 refine AOps.guard_u rfl rfl rfl rfl rfl rfl ?_);refine J137 ?_;refine zT ?_;refine J131 ?_;refine J153 ?_;refine J109 ?_;(iterate 10 refine AOps.guard_u rfl rfl rfl rfl rfl rfl ?_);refine AOps.guard_lf rfl rfl rfl rfl rfl rfl rfl ?_;refine J203 ?_;refine J35 ?_;refine J77 ?_)
     exact⟨k+1,⟨by omega,fun j hj=>by
      by_cases e:j=k
      ·subst e;exact hk1
      ·exact hok j (by omega)⟩,by omega,weak rfl (by(refine⟨.intE (by first|with_reducible rfl|(rfl)),?_⟩;refine⟨.intE (by first|with_reducible rfl|(rfl)),?_⟩;(iterate 2 refine⟨.boolE (by first|with_reducible rfl|(rfl)),?_⟩);(iterate 2 refine⟨.strE (by first|with_reducible rfl|(rfl)),?_⟩);exact trivial)) (by(exact trivial)) rfl⟩
    ·have c3:65≤byteAt (mkS s) k:=by omega
     have c4:¬byteAt (mkS s) k≤90:=by omega
     by_cases c5:(k:Int)=0
     ·have hb':b=false:=by rw[hb,List.all_eq_false];exact J185
      subst hb'
      (refine J142 ?_;refine zm ?_;refine J305 ?_;refine zt ?_;(iterate 2 refine zT ?_);refine J14 ?_;refine J11 ?_)
      (apply ends_ret;(exact Res.one (.tmp rfl rfl));(refine Le.litB ?_;(rfl)))
     have c6:¬byteAt (mkS s) k=95:=by omega
     have c7:¬byteAt (mkS s) k<48:=by omega
     have c8:57<byteAt (mkS s) k:=by omega
     have hb':b=false:=by rw[hb,List.all_eq_false];exact J185
     subst hb'
     (refine J142 ?_;refine J92 ?_;refine zt ?_;refine zF ?_;refine zT ?_;refine J226 ?_)
     (apply ends_ret;(exact Res.one (.tmp rfl rfl));(refine Le.litB ?_;(rfl)))
   ·by_cases c3:65≤byteAt (mkS s) k
    ·by_cases c4:byteAt (mkS s) k≤90
     ·have hk1:okC s k=true:=okC_yes (by omega)
      (refine J165 ?_;refine zm ?_;(iterate 3 refine AOps.guardTn rfl rfl rfl rfl rfl rfl (by first|omega|decide) ?_);(iterate 10 refine AOps.guard_u rfl rfl rfl rfl rfl rfl ?_);refine AOps.guardTn rfl rfl rfl rfl rfl rfl (by first|omega|decide) ?_;refine zF ?_;refine zd ?_;refine J35 ?_;refine J77 ?_)
      exact⟨k+1,⟨by omega,fun j hj=>by
       by_cases e:j=k
       ·subst e;exact hk1
       ·exact hok j (by omega)⟩,by omega,weak rfl (by(refine⟨.intE (by first|with_reducible rfl|(rfl)),?_⟩;refine⟨.intE (by first|with_reducible rfl|(rfl)),?_⟩;(iterate 2 refine⟨.boolE (by first|with_reducible rfl|(rfl)),?_⟩);(iterate 2 refine⟨.strE (by first|with_reducible rfl|(rfl)),?_⟩);exact trivial)) (by(exact trivial)) rfl⟩
     by_cases c5:(k:Int)=0
     ·have hb':b=false:=by rw[hb,List.all_eq_false];exact J185
      subst hb'
      (refine J165 ?_;refine J72 ?_;refine AOps.eql rfl rfl rfl rfl rfl ?_;refine zt ?_;refine zm ?_;refine J305 ?_;refine zt ?_;(iterate 2 refine zT ?_);refine J14 ?_;refine J11 ?_)
      (apply ends_ret;(exact Res.one (.tmp rfl rfl));(refine Le.litB ?_;(rfl)))
     by_cases c6:byteAt (mkS s) k=95
     ·have c6':¬¬byteAt (mkS s) k=95:=fun h=>h c6
      have hk1:okC s k=true:=okC_yes (by omega)
      (refine J165 ?_;refine J72 ?_;refine AOps.eql rfl rfl rfl rfl rfl ?_;refine zt ?_;refine J218 ?_;refine AOps.neqU rfl rfl rfl rfl rfl ?_;refine zy ?_;refine zm ?_;(iterate 3 refine AOps.guardTn rfl rfl rfl rfl rfl rfl (by with_reducible assumption) ?_);(iterate 2 refine AOps.guard_u rfl rfl rfl rfl rfl rfl ?_);refine AOps.guardTn rfl rfl rfl rfl rfl rfl (by with_reducible assumption) ?_;refine zy ?_;refine zF ?_;refine zt ?_;refine zF ?_;refine zT ?_;refine zd ?_;refine J35 ?_;refine J77 ?_)
      exact⟨k+1,⟨by omega,fun j hj=>by
       by_cases e:j=k
       ·subst e;exact hk1
       ·exact hok j (by omega)⟩,by omega,weak rfl (by(refine⟨.intE (by first|with_reducible rfl|(rfl)),?_⟩;refine⟨.intE (by first|with_reducible rfl|(rfl)),?_⟩;(iterate 2 refine⟨.boolE (by first|with_reducible rfl|(rfl)),?_⟩);(iterate 2 refine⟨.strE (by first|with_reducible rfl|(rfl)),?_⟩);exact trivial)) (by(exact trivial)) rfl⟩
     have c7:¬byteAt (mkS s) k<48:=by omega
     have c8:57<byteAt (mkS s) k:=by omega
     have hb':b=false:=by rw[hb,List.all_eq_false];exact J185
     subst hb'
     (refine J165 ?_;refine J72 ?_;refine AOps.eql rfl rfl rfl rfl rfl ?_;refine zt ?_;refine J92 ?_;refine zt ?_;refine zF ?_;refine zT ?_;refine J226 ?_)
     (apply ends_ret;(exact Res.one (.tmp rfl rfl));(refine Le.litB ?_;(rfl)))
    ·by_cases c5:(k:Int)=0
     ·have hb':b=false:=by rw[hb,List.all_eq_false];exact J185
      subst hb'
      (refine J103 ?_;refine zm ?_;refine J305 ?_;refine zl ?_;refine zT ?_;refine AOps.pick_lt rfl rfl rfl rfl rfl rfl ?_;refine J14 ?_;refine J11 ?_)
      (apply ends_ret;(exact Res.one (.tmp rfl rfl));(refine Le.litB ?_;(rfl)))
     have c6:¬byteAt (mkS s) k=95:=by omega
     by_cases c7:byteAt (mkS s) k<48
     ·have hb':b=false:=by rw[hb,List.all_eq_false];exact J185
      subst hb'
      (refine J103 ?_;refine J218 ?_;refine AOps.neqU rfl rfl rfl rfl rfl ?_;refine zy ?_;refine J72 ?_;refine AOps.lssU rfl rfl rfl rfl rfl ?_;refine zt ?_;refine zm ?_;refine J94 ?_;refine zt ?_;refine zT ?_;refine zy ?_;refine zT ?_;refine zl ?_;refine zF ?_;refine AOps.pick_lt rfl rfl rfl rfl rfl rfl ?_;refine J14 ?_;refine J11 ?_)
      (apply ends_ret;(exact Res.one (.tmp rfl rfl));(refine Le.litB ?_;(rfl)))
     by_cases c8:57<byteAt (mkS s) k
     ·have hb':b=false:=by rw[hb,List.all_eq_false];exact J185
      subst hb'
      (refine J103 ?_;refine J92 ?_;refine zl ?_;refine zF ?_;refine AOps.pick_lt rfl rfl rfl rfl rfl rfl ?_;refine J226 ?_)
      (apply ends_ret;(exact Res.one (.tmp rfl rfl));(refine Le.litB ?_;(rfl)))
     have hk1:okC s k=true:=okC_yes (by omega)
     (refine J103 ?_;refine J92 ?_;refine zl ?_;refine zF ?_;refine AOps.pick_lt rfl rfl rfl rfl rfl rfl ?_;refine J159 ?_)
     exact⟨k+1,⟨by omega,fun j hj=>by
      by_cases e:j=k
      ·subst e;exact hk1
      ·exact hok j (by omega)⟩,by omega,weak rfl (by(refine⟨.intE (by first|with_reducible rfl|(rfl)),?_⟩;refine⟨.intE (by first|with_reducible rfl|(rfl)),?_⟩;(iterate 2 refine⟨.boolE (by first|with_reducible rfl|(rfl)),?_⟩);(iterate 2 refine⟨.strE (by first|with_reducible rfl|(rfl)),?_⟩);exact trivial)) (by(exact trivial)) rfl⟩
  ·have hb':b=true:=by rw[hb,List.all_eq_true];exact fun j hj=>hok j (by have:=List.mem_range.1 hj;omega)
   subst hb'
   (refine J96 ?_;refine AOps.len_str rfl rfl rfl rfl ?_;refine J246 ?_)
   (apply ends_ret;(exact Res.one (.tmp rfl rfl));(refine Le.litB ?_;(rfl)))
end Go.Ab
/- Chapter 34:what the laws ask of their inputs,walked. -/
namespace Go.Ab
open Go Go.Proofs
open Nat (reduceAdd reduceSub)
set_option maxRecDepth 20000
set_option maxHeartbeats 4000000
def nmS (l:List SortM):Bool:=l.all fun q=>nameB (sL q.1)
def nmF (l:List FieldM):Bool:=l.all fun f=>nameB (sL f.name)
theorem nmS_drop {l:List SortM} {k:Nat} (hk:k<l.length):nmS (l.drop k)=(nameB (sL l[k].1) && nmS (l.drop (k+1))):=by
 rw[List.drop_eq_getElem_cons hk];rfl
theorem nmF_drop {l:List FieldM} {k:Nat} (hk:k<l.length):nmF (l.drop k)=(nameB (sL l[k].name) && nmF (l.drop (k+1))):=by
 rw[List.drop_eq_getElem_cons hk];rfl
attribute [local irreducible] AW AOps thenD inBlockD AR iterEnds roundEndsN inlEnds noGotoD EndsX EndsP mkS byteAt
theorem named_fn (s:SpecM) (h1:s.sorts.length≤1000) (h2:s.fields.length≤1000):Fn Tryz.prog 22 [spc s] (litB (nmS s.sorts && nmF s.fields)):=by
 obtain⟨so,fs,p,q⟩:=s
 simp only at h1 h2 ⊢
 have hn:=fun(b:ByteArray)=>name2_fn (sL b)
 simp only[mk_sL] at hn
 refine Fn.enter (n:=35) Tryz.func22 rfl rfl rfl rfl rfl (by decide) fun g hro_ hwt_=>?_;(try refine nz ?_)
 (refine J164 ?_;refine J58 ?_;refine J126 ?_)
 (refine nz ?_;apply AW.loopR [1] [0] (fun k:Nat=>([(3,litI k)]:List (Nat×AV))) (fun k:Nat=>([]:List (Nat×Option Ob))) (fun k:Nat=>k≤so.length∧nmS so=nmS (so.drop k)) (fun k:Nat=>so.length - k) (0);(conv=>lhs;simp only[Nf.lpR,Nf.all,Nat.reduceBEq,reduceAdd,reduceSub]);(all_goals skip))
 ·exact⟨by omega,rfl⟩
 ·exact J197
 rintro k ⟨hk,he⟩
 by_cases hlt:k<so.length
 ·rw[nmS_drop hlt] at he
  have hc:=hn so[k].1
  cases hb:nameB (sL so[k].1) with
  |false=>
   rw[hb] at hc
   rw[hb,Bool.false_and] at he
   rw[he,Bool.false_and]
   (refine J46 ?_;refine J62 ?_;refine zn ?_;refine J3 ?_;refine J2 ?_;refine J62 ?_;refine zm ?_;(focus ((with_reducible apply AOps.index_map);(iterate 7 exact rfl);rotate_left;omega));refine J251 ?_;refine zA (hc) ?_;refine J267 ?_)
   (apply ends_ret;(exact Res.one (.tmp rfl rfl));(refine Le.litB ?_;(rfl)))
  |true=>
   rw[hb] at hc
   rw[hb,Bool.true_and] at he
   (refine J46 ?_;refine J62 ?_;refine zn ?_;refine J3 ?_;refine J2 ?_;refine J62 ?_;refine zm ?_;(focus ((with_reducible apply AOps.index_map);(iterate 7 exact rfl);rotate_left;omega));refine J251 ?_;refine zA (hc) ?_;refine J78 ?_;refine J77 ?_)
   exact J175
 ·obtain rfl:k=so.length:=by omega
  have he:nmS so=true:=by rw[he,List.drop_length];rfl
  rw[he,Bool.true_and]
  (refine J46 ?_;refine J62 ?_;refine zn ?_;refine J101 ?_;refine J158 ?_)
  (refine nz ?_;apply AW.loopR [1] [0] (fun k:Nat=>([(4,litI k)]:List (Nat×AV))) (fun k:Nat=>([]:List (Nat×Option Ob))) (fun k:Nat=>k≤fs.length∧nmF fs=nmF (fs.drop k)) (fun k:Nat=>fs.length - k) (0);(conv=>lhs;simp only[Nf.lpR,Nf.all,Nat.reduceBEq,reduceAdd,reduceSub]);(all_goals skip))
  ·exact⟨by omega,rfl⟩
  ·exact J197
  rintro k ⟨hk,he⟩
  by_cases hlt:k<fs.length
  ·rw[nmF_drop hlt] at he
   have hc:=hn fs[k].name
   cases hb:nameB (sL fs[k].name) with
   |false=>
    rw[hb] at hc
    rw[hb,Bool.false_and] at he
    rw[he]
    (refine J166 ?_;refine zm ?_;(focus ((with_reducible apply AOps.index_map);(iterate 7 exact rfl);rotate_left;omega));refine AOps.fieldAddr_rN 52 0 0 1 rfl rfl rfl rfl ?_;refine nz ?_;refine zr ?_;refine zA (hc) ?_;refine J267 ?_)
    (apply ends_ret;(exact Res.one (.tmp rfl rfl));(refine Le.litB ?_;(rfl)))
   |true=>
    rw[hb] at hc
    rw[hb,Bool.true_and] at he
    (refine J166 ?_;refine zm ?_;(focus ((with_reducible apply AOps.index_map);(iterate 7 exact rfl);rotate_left;omega));refine AOps.fieldAddr_rN 52 0 0 1 rfl rfl rfl rfl ?_;refine nz ?_;refine zr ?_;refine zA (hc) ?_;refine J78 ?_;refine J77 ?_)
    exact J175
  ·obtain rfl:k=fs.length:=by omega
   have he:nmF fs=true:=by rw[he,List.drop_length];rfl
   rw[he]
   (refine J46 ?_;refine J48 ?_;refine J246 ?_)
   (apply ends_ret;(exact Res.one (.tmp rfl rfl));(refine Le.litB ?_;(rfl)))
def fewB (s:SpecM) (m:ModM):Bool:=smallB s m && (nmS s.sorts && nmF s.fields)
theorem small_spec {s:SpecM} {m:ModM} (h:smallB s m=true):(s.sorts.length≤10∧s.fields.length≤10∧m.states.length≤64∧m.atoms.length≤10)∧∀f∈s.fields,f.sorts.length≤10:=by
 unfold smallB at h
 rw[Bool.and_eq_true,Bool.and_eq_true,decide_eq_true_eq] at h
 refine⟨h.1,fun f hf=>?_⟩
 have:=h.2.2
 unfold smF at this
 rw[List.all_eq_true] at this
 simpa using this f hf
theorem few_fn (s:SpecM) (m:ModM):Fn Tryz.prog 8 [spc s,mdl m] (litB (fewB s m)):=by
 have h1:=small_fn s m
 unfold fewB
 cases e:smallB s m with
 |false=>
  rw[e] at h1
  rw[Bool.false_and]
  obtain⟨so,fs,p,q⟩:=s
  obtain⟨at',st,ss,lp⟩:=m
  refine Fn.enter (n:=12) Tryz.func8 rfl rfl rfl rfl rfl (by decide) fun g hro_ hwt_=>?_;(try refine nz ?_)
  (refine J293 ?_;(iterate 2 refine J30 ?_);refine zA (h1) ?_;refine zm ?_;(iterate 2 refine AOps.guard_lf rfl rfl rfl rfl rfl rfl rfl ?_);refine AOps.pick_lf rfl rfl rfl rfl rfl rfl ?_;refine J33 ?_)
  (apply ends_ret;(exact Res.one (.tmp rfl rfl));(refine Le.litB ?_;(rfl)))
 |true=>
  rw[e] at h1
  rw[Bool.true_and]
  have hsp:=small_spec e
  have h2:=named_fn s (by omega) (by omega)
  obtain⟨so,fs,p,q⟩:=s
  obtain⟨at',st,ss,lp⟩:=m
  refine Fn.enter (n:=12) Tryz.func8 rfl rfl rfl rfl rfl (by decide) fun g hro_ hwt_=>?_;(try refine nz ?_)
  (refine J293 ?_;(iterate 2 refine J30 ?_);refine zA (h1) ?_;refine zm ?_;refine J128 ?_;refine zA (h2) ?_;refine AOps.pick_lt rfl rfl rfl rfl rfl rfl ?_;refine J33 ?_)
  (apply ends_ret;(exact Res.one (.tmp rfl rfl));(refine Le.litB ?_;(rfl)))
theorem name_spec {s:Bt} (h:nameB s=true):s.length≤16∧∃c r,s=c::r∧c≠125:=by
 unfold nameB at h
 rw[Bool.and_eq_true,Bool.and_eq_true,decide_eq_true_eq] at h
 obtain⟨h1,h2,h3⟩:=h
 refine⟨h1.2,?_⟩
 cases s with
 |nil=>simp at h1
 |cons c r=>
  refine⟨c,r,rfl,fun e=>?_⟩
  have h4:=List.all_eq_true.1 h3 0 (List.mem_range.2 (by simp))
  subst e
  have h5:byteAt (mkS (125::r)) 0=125:=by unfold byteAt mkS;rfl
  rw[okC_no (by rw[h5];omega)] at h4
  cases h4
theorem few_spec {s:SpecM} {m:ModM} (h:fewB s m=true):SpP s∧smallB s m=true:=by
 unfold fewB at h
 rw[Bool.and_eq_true,Bool.and_eq_true] at h
 obtain⟨h1,h2,h3⟩:=h
 have hs:=small_spec h1
 unfold nmS at h2
 unfold nmF at h3
 rw[List.all_eq_true] at h2 h3
 exact⟨⟨hs.1.1,fun q hq=>name_spec (h2 q hq),hs.1.2.1,fun f hf=>⟨(name_spec (h3 f hf)).1,hs.2 f hf⟩⟩,h1⟩
theorem parse_fmt {s:SpecM} {m:ModM} (hp:SpP s) (hv:validB (fullR m.atoms) s m=true):parseF s (fmtT s m)=(m,0):=by
 have h:=modelP_app (tab_ok hp hv) []
 rw[List.append_nil] at h
 unfold parseF
 rw[h]
 simp [hv]
theorem parse_ok {s:SpecM} {t:Bt} {e:Int} {m:ModM} (h:parseF s t=(m,e)) (he:e≠340):e=0∧validB (fullR m.atoms) s m=true∧fmtT s m=t:=by
 unfold parseF at h
 split at h
 ·cases h;exact absurd rfl he
 ·split at h
  ·rename_i hc
   cases h
   exact⟨rfl,hc⟩
  ·cases h;exact absurd rfl he
theorem parse_two (s:SpecM) (t:Bt):(parseF s t).2=340∨(parseF s t).2=0:=by
 unfold parseF
 split
 ·exact .inl rfl
 ·split
  ·exact .inr rfl
  ·exact .inl rfl
theorem parse_ext {s:SpecM} (hp:SpP s) {m:ModM} (hv:validB (fullR m.atoms) s m=true) {more:Bt} (hm:more≠ []):(parseF s (fmtT s m++more)).2=340:=by
 unfold parseF
 rw[modelP_app (tab_ok hp hv) more]
 simp only
 split
 ·rename_i hc
  have h1:=congrArg List.length hc.2
  rw[List.length_append] at h1
  have:more.length=0:=by omega
  exact absurd (List.length_eq_zero_iff.1 this) hm
 ·rfl
theorem parse_cut {s:SpecM} (hp:SpP s) {m:ModM} (hv:validB (fullR m.atoms) s m=true) {k:Nat} (hk:k<(fmtT s m).length):(parseF s ((fmtT s m).take k)).2=340:=by
 rcases parse_two s ((fmtT s m).take k) with h|h
 ·exact h
 ·exfalso
  obtain⟨m',e,hpe⟩:∃m' e,parseF s ((fmtT s m).take k)=(m',e):=⟨_,_,rfl⟩
  rw[hpe] at h
  obtain⟨_,hv',hf⟩:=parse_ok hpe (by show e≠340;have:e=0:=h;omega)
  have h1:=parse_ext hp hv' (more:=(fmtT s m).drop k) (by
   intro e
   have:=congrArg List.length e
   rw[List.length_drop] at this
   simp only[List.length_nil] at this
   omega)
  rw[hf,List.take_append_drop,parse_fmt hp hv] at h1
  cases h1
end Go.Ab
/- Chapter 34:the laws' head is true. -/
namespace Go.Ab
open Go Go.Proofs
open Nat (reduceAdd reduceSub)
set_option maxRecDepth 100000
set_option maxHeartbeats 64000000
def hS:SpecM:=⟨[(⟨#[65]⟩,false),(⟨#[66]⟩,false)],[⟨⟨#[102]⟩,[0,1],true⟩,⟨⟨#[115]⟩,[0],false⟩],⟨none,0,0⟩,⟨none,0,0⟩⟩
def hM:ModM:=⟨[2,1],2,[[(2,[2,5]),(1,[1])],[(2,[]),(1,[1])]],1⟩
def hT:Bt:=[115,99,111,112,101,32,65,61,50,32,66,61,49,32,115,116,101,112,115,61,50,32,108,111,111,112,61,49,10,115,116,97,116,101,32,48,10,102,32,61,32,123,65,36,48,45,62,66,36,48,44,32,65,36,49,45,62,66,36,48,125,10,115,32,61,32,123,65,36,49,125,10,115,116,97,116,101,32,49,10,102,32,61,32,123,125,10,115,32,61,32,123,65,36,49,125,10]
theorem hSp:SpP hS:=⟨by decide,by
 intro q hq
 have:q=(⟨#[65]⟩,false)∨q=(⟨#[66]⟩,false):=by simpa [hS] using hq
 rcases this with rfl|rfl
 ·exact⟨by decide,65,[],rfl,by decide⟩
 ·exact⟨by decide,66,[],rfl,by decide⟩,by decide,by
 intro f hf
 have:f=⟨⟨#[102]⟩,[0,1],true⟩∨f=⟨⟨#[115]⟩,[0],false⟩:=by simpa [hS] using hf
 rcases this with rfl|rfl
 ·exact⟨by decide,by decide⟩
 ·exact⟨by decide,by decide⟩⟩
theorem hMv:validB (fullR hM.atoms) hS hM=true:=by decide+kernel
theorem hMt:fmtT hS hM=hT:=by decide+kernel
theorem hTp:parseF hS hT=(hM,0):=by rw[← hMt];exact parse_fmt hSp hMv
theorem hTc:(parseF hS (hT.take (hT.length - 1))).2=340:=by rw[← hMt];exact parse_cut hSp hMv (by rw[hMt];decide)
theorem hT0:(parseF hS []).2=340:=by
 have h:=parse_cut hSp hMv (k:=0) (by rw[hMt];decide)
 rw[List.take_zero] at h
 exact h
attribute [local irreducible] AW AOps thenD inBlockD AR iterEnds roundEndsN inlEnds noGotoD EndsX EndsP byteAt parseF fmtT
theorem head34_fn:FnW errT Tryz.prog 7 [] (litB true):=by
 have hstay_:=errT_stay
 have f1:=format_fn hS hM (fmt_ok hSp hMv)
 rw[hMt] at f1
 have p1:=parse_fn hS hSp (t:=hT) (by decide)
 rw[hTp] at p1
 have p2:=parse_fn hS hSp (t:=hT.take (hT.length - 1)) (by decide)
 rw[hTc] at p2
 have p3:=parse_fn hS hSp (t:=[]) (by decide)
 rw[hT0] at p3
 generalize (parseF hS (hT.take (hT.length - 1))).1=m2 at p2
 generalize (parseF hS []).1=m3 at p3
 have q1:=rEq07_fn hM hM
 rw[decide_eq_true rfl] at q1
 have e1:mkS (hT.take (hT.length - 1))=(mkS hT).extract 0 (((mkS hT).size:Int) - 1).toNat:=by
  rw[mk_ext,mk_size,List.drop_zero];rfl
 rw[e1] at p2
 have hb:mkS hT=⟨(List.append (115::99::111::112::101::32::65::61::50::32::66::61::49::32::115::116::101::112::115::61::50::32::108::111::111::112::61::49::10::115::116::97::116::101::32::48::10::102::32::61::32::123::65::36::48::45::62::66::[]) (36::48::44::32::65::36::49::45::62::66::36::48::125::10::115::32::61::32::123::65::36::49::125::10::115::116::97::116::101::32::49::10::102::32::61::32::123::125::10::115::32::61::32::123::65::36::49::125::10::[])).toArray⟩:=rfl
 have hsz:(ByteArray.mk (List.append (115::99::111::112::101::32::65::61::50::32::66::61::49::32::115::116::101::112::115::61::50::32::108::111::111::112::61::49::10::115::116::97::116::101::32::48::10::102::32::61::32::123::65::36::48::45::62::66::[]) (36::48::44::32::65::36::49::45::62::66::36::48::125::10::115::32::61::32::123::65::36::49::125::10::115::116::97::116::101::32::49::10::102::32::61::32::123::125::10::115::32::61::32::123::65::36::49::125::10::[])).toArray).size=97:=rfl
 rw[hb] at f1 p1 p2
 rw[show mkS []=⟨#[]⟩ from rfl] at p3
 obtain⟨a2,s2,x2,l2⟩:=m2
 obtain⟨a3,s3,x3,l3⟩:=m3
 refine FnW.enter hstay_ (n:=76) Tryz.func7 rfl rfl rfl rfl rfl (by decide) fun g hro_ hwt_ hT=>?_;(try refine nz ?_)
 (refine J224 ?_;refine AOps.buildN 50 [0] rfl rfl rfl rfl rfl rfl rfl rfl rfl ?_;refine nz ?_;refine AOps.buildN 50 [0] rfl rfl rfl rfl rfl rfl rfl rfl rfl ?_;refine nz ?_;refine J111 ?_;refine J140 ?_;refine nz ?_;refine AOps.buildN 52 [0,1,2] rfl rfl rfl rfl rfl rfl rfl rfl rfl ?_;refine nz ?_;refine J47 ?_;refine AOps.buildN 52 [0,1] rfl rfl rfl rfl rfl rfl rfl rfl rfl ?_;refine nz ?_;(iterate 2 refine J287 ?_);(focus ((with_reducible apply AOps.bsA (k:=3));(iterate 6 exact rfl);(focus ((repeat ((any_goals (apply PvR.cons));(all_goals (try exact rfl));(all_goals (try (repeat (first|exact PvL.nil|apply PvL.cons))))));(any_goals (exact PvR.nil));done));exact rfl;exact rfl;(try refine nz ?_)));refine AOps.buildN 27 [0,1] rfl rfl rfl rfl rfl rfl rfl rfl rfl ?_;refine nz ?_;refine J89 ?_;refine zB ?_;refine J113 ?_;refine J224 ?_;refine J47 ?_;refine J247 ?_;refine nz ?_;refine J89 ?_;refine zB ?_;refine J113 ?_;refine zq ?_;refine J140 ?_;refine nz ?_;refine AOps.buildN 30 [0,1] rfl rfl rfl rfl rfl rfl rfl rfl rfl ?_;refine nz ?_;refine J140 ?_;refine nz ?_;refine J247 ?_;refine nz ?_;refine J30 ?_;(iterate 2 refine J287 ?_);refine J111 ?_;refine AOps.buildN 54 [0] rfl rfl rfl rfl rfl rfl rfl rfl rfl ?_;refine nz ?_;refine J30 ?_;(with_reducible apply AOps.nilB);exact rfl;exact rfl;(focus ((repeat (first|exact .nil|apply NilC.here|apply NilC.skip));done));refine nz ?_;refine J111 ?_;(iterate 2 refine J287 ?_);refine J140 ?_;refine nz ?_;refine AOps.buildN 33 [0,3,2] rfl rfl rfl rfl rfl rfl rfl rfl rfl ?_;refine nz ?_;refine J89 ?_;refine zB ?_;refine J113 ?_;refine J270 ?_;refine zm ?_;(iterate 2 refine J314 ?_);(with_reducible apply AOps.callWp (hf:=p1));(first|(with_reducible assumption)|(refine TB.gs ?_ (by with_reducible assumption);with_reducible assumption)|(refine TB.gi ?_ (by with_reducible assumption);with_reducible assumption)|exact TB.none _);(repeat (first|exact .nil|(refine .cons rfl ?_ ?_;(first|exact .pv _|exact .own _ _ _ _ rfl|exact .nil _|exact .any _|exact .rptr _|(refine .aggL ?_;repeat (first|exact .nil|(refine .cons ?_ ?_;(first|exact .pv _|exact .own _ _ _ _ rfl|exact .nil _))))))));exact rfl;refine J138 ?_;refine J89 ?_;refine zB ?_;refine nz ?_;refine J7 ?_;refine zo ?_;refine AW.regionM [0,1,2,3,4,5] [11] rfl (by assumption) (by kernel_rfl) (by kernel_rfl) rfl ?_;show AOps .held _ _ _ [_,_,_,_,_,_] _ _;refine J30 ?_;(iterate 2 refine zm ?_);refine AOps.len_str rfl rfl rfl rfl ?_;refine AOps.sub rfl rfl rfl rfl rfl (by omega) ?_;refine J244 ?_;refine J5 ?_;intro k_ hk_;refine nz ?_;apply AR.cut [5,4,3,2,1,0,6,7,8,9,10,11];intro hJ_0;apply AR.cut [5,4,3,2,1,0,6,7,8,9,10];intro hJ_1;apply AR.cut [5,4,3,2,1,0,6,7,8,10];intro hJ_2;apply AR.cut [5,4,3,2,1,0,6,7,9,10];intro hJ_3;apply AR.cut [5,4,3,2,1,0,6,7,8,9];intro hJ_4;apply AR.cut [5,4,3,2,1,0,6,7,10];intro hJ_5;(refine AR.step2M (i:=6) (j:=10) rfl (by kernel_rfl) rfl rfl ?_ ?_<;>intro g_ hgro_ hw_);(with_reducible apply AOps.callWp (hf:=p2));(first|(with_reducible assumption)|(refine TB.gs ?_ (by with_reducible assumption);with_reducible assumption)|(refine TB.gi ?_ (by with_reducible assumption);with_reducible assumption)|exact TB.none _);(repeat (first|exact .nil|(refine .cons rfl ?_ ?_;(first|exact .pv _|exact .own _ _ _ _ rfl|exact .nil _|exact .any _|exact .rptr _|(refine .aggL ?_;repeat (first|exact .nil|(refine .cons ?_ ?_;(first|exact .pv _|exact .own _ _ _ _ rfl|exact .nil _))))))));exact rfl;refine J5 ?_;(refine AR.step2M (i:=7) (j:=10) rfl (by kernel_rfl) rfl rfl ?_ ?_<;>intro g_ hgro_ hw_);refine AOps.move_tup rfl rfl rfl ?_;refine J5 ?_;(refine AR.step3M (i:=8) (j:=9) (m:=10) rfl (by kernel_rfl) rfl rfl rfl ?_ ?_ ?_<;>intro g_ hgro_ hw_);refine AOps.extract rfl rfl rfl rfl ?_;refine J5 ?_;(refine AR.step2M (i:=9) (j:=10) rfl (by kernel_rfl) rfl rfl ?_ ?_<;>intro g_ hgro_ hw_);refine AOps.extract rfl rfl rfl rfl ?_;refine J24 ?_;refine AR.gc [13,12,11,7,6,4] rfl ?_;refine J82 ?_;exact AR.perm (by kernel_rfl) hJ_4;refine J306 ?_;exact AR.perm (by kernel_rfl) hJ_2;refine AOps.extract rfl rfl rfl rfl ?_;refine J5 ?_;(refine AR.step2M (i:=8) (j:=10) rfl (by kernel_rfl) rfl rfl ?_ ?_<;>intro g_ hgro_ hw_);refine AOps.extract rfl rfl rfl rfl ?_;refine J180 ?_;refine AR.meet hJ_4 (by kernel_rfl) (fun g_=>weak rfl ?_ ?_ rfl);(iterate 45 refine⟨.eq rfl rfl,?_⟩);exact trivial;exact J34;refine J306 ?_;exact AR.perm (by kernel_rfl) hJ_3;refine J306 ?_;exact AR.perm (by kernel_rfl) hJ_5;refine J89 ?_;refine J5 ?_;refine AR.step1M (i:=7) rfl (by kernel_rfl) rfl ?_;intro g_ hgro_ hw_;exact J279;refine J89 ?_;refine J5 ?_;refine AR.step1M (i:=6) rfl (by kernel_rfl) rfl ?_;intro g_ hgro_ hw_;(with_reducible apply AOps.callWp (hf:=p2));(first|(with_reducible assumption)|(refine TB.gs ?_ (by with_reducible assumption);with_reducible assumption)|(refine TB.gi ?_ (by with_reducible assumption);with_reducible assumption)|exact TB.none _);(repeat (first|exact .nil|(refine .cons rfl ?_ ?_;(first|exact .pv _|exact .own _ _ _ _ rfl|exact .nil _|exact .any _|exact .rptr _|(refine .aggL ?_;repeat (first|exact .nil|(refine .cons ?_ ?_;(first|exact .pv _|exact .own _ _ _ _ rfl|exact .nil _))))))));exact rfl;refine J5 ?_;refine AR.step1M (i:=7) rfl (by kernel_rfl) rfl ?_;intro g_ hgro_ hw_;exact J279;(refine AR.step2M (i:=8) (j:=9) rfl (by kernel_rfl) rfl rfl ?_ ?_<;>intro g_ hgro_ hw_);refine AOps.extract rfl rfl rfl rfl ?_;refine J180 ?_;refine AR.meet hJ_2 (by kernel_rfl) (fun g_=>weak rfl ?_ ?_ rfl);(iterate 45 refine⟨.eq rfl rfl,?_⟩);exact trivial;refine J16 ?_;exact J34;refine AOps.extract rfl rfl rfl rfl ?_;refine J180 ?_;refine AR.meet hJ_3 (by kernel_rfl) (fun g_=>weak rfl ?_ ?_ rfl);(iterate 45 refine⟨.eq rfl rfl,?_⟩);exact trivial;refine J16 ?_;exact J34;refine AR.step1M (i:=10) rfl (by kernel_rfl) rfl ?_;intro g_ hgro_ hw_;refine J89 ?_;refine J24 ?_;exact AR.perm (by kernel_rfl) hJ_1;refine AR.step1M (i:=8) rfl (by kernel_rfl) rfl ?_;intro g_ hgro_ hw_;exact J266;(refine AR.step2L (i:=9) (j:=11) rfl (by kernel_rfl) rfl rfl (by kernel_rfl) ?_ ?_<;>intro g_ hgro_ hwt2_);exact J266;refine zB ?_;refine J311 ?_;refine J100 ?_;intro g_ hgro_ hwt2_;refine AOps.extract rfl rfl rfl rfl ?_;refine J24 ?_;exact AR.perm (by kernel_rfl) hJ_0;refine AR.step1LM (i:=11) rfl (by kernel_rfl) rfl (by kernel_rfl) ?_;intro g_ hgro_ hwt2_;refine zB ?_;refine nz ?_;refine J180 ?_;refine AR.meet hJ_0 (by kernel_rfl) (fun g_=>weak rfl ?_ ?_ rfl);(iterate 46 refine⟨.eq rfl rfl,?_⟩);exact trivial;refine J16 ?_;exact J34;refine AR.step1LM (i:=12) rfl (by kernel_rfl) rfl (by kernel_rfl) ?_;intro g_ hgro_ hwt2_;refine za ?_;refine J87 ?_;refine thenD_n ?_;refine J2 ?_;refine J30 ?_;(with_reducible apply AOps.callWp (hf:=p3));(first|(with_reducible assumption)|(refine TB.gs ?_ (by with_reducible assumption);with_reducible assumption)|(refine TB.gi ?_ (by with_reducible assumption);with_reducible assumption)|exact TB.none _);(repeat (first|exact .nil|(refine .cons rfl ?_ ?_;(first|exact .pv _|exact .own _ _ _ _ rfl|exact .nil _|exact .any _|exact .rptr _|(refine .aggL ?_;repeat (first|exact .nil|(refine .cons ?_ ?_;(first|exact .pv _|exact .own _ _ _ _ rfl|exact .nil _))))))));exact rfl;refine J138 ?_;refine J89 ?_;refine zB ?_;refine nz ?_;refine J93 ?_;(iterate 2 refine J30 ?_);refine zA (f1) ?_;refine zm ?_;refine AOps.eqlS rfl rfl rfl rfl rfl ?_;refine zm ?_;refine zl ?_;refine zm ?_;refine zl ?_;refine AOps.eql rfl rfl rfl rfl rfl ?_;refine J125 ?_;refine J128 ?_;refine J30 ?_;refine zl ?_;refine zA (q1) ?_;refine J125 ?_;refine zl ?_;refine zm ?_;refine zl ?_;refine AOps.eql rfl rfl rfl rfl rfl ?_;refine J125 ?_;refine zl ?_;refine zm ?_;refine zl ?_;refine AOps.eql rfl rfl rfl rfl rfl ?_;refine AOps.pick_lt rfl rfl rfl rfl rfl rfl ?_;refine J33 ?_)
 (apply ends_ret;(exact Res.one (.tmp rfl rfl));(refine Le.litB ?_;(rfl)))
end Go.Ab
/- Chapter 24 (as chapter 19):circuits,in plain terms. -/
namespace Go.Ab
open Go Go.Proofs
set_option maxRecDepth 20000
set_option maxHeartbeats 4000000
structure GateM where
 k:Int
 a:Int
 b:Int
deriving DecidableEq
def findG (gs:List GateM) (g:GateM):Int:=if gs.any (fun h=>decide (h=g))=true then (gs.findIdx (fun h=>decide (h=g)):Nat) else -1
def gOk (g:GateM) (i:Nat):Prop:=(g.k=1∧1≤g.a∧g.a≤1000∧g.b=0)∨(g.k=2∧2≤g.a∧g.a<g.b∧g.b<2*(i:Int)∧g.a / 2≠g.b / 2)
structure CirOk (gs:List GateM):Prop where
 zero:gs[0]? =some ⟨0,0,0⟩
 ok:∀(i:Nat) (h:i<gs.length),i≠0→gOk gs[i] i
def RefOk (gs:List GateM) (r:Int):Prop:=0≤r∧r<2*(gs.length:Int)
theorem CirOk.pos {gs:List GateM} (h:CirOk gs):0<gs.length:=(List.getElem?_eq_some_iff.1 h.zero).1
theorem RefOk.mono {gs gs':List GateM} {r:Int} (h:RefOk gs r) (hl:gs.length≤gs'.length):RefOk gs' r:=by unfold RefOk at*;omega
structure Grown (gs:List GateM) (n:Nat) (p:List GateM×Int):Prop where
 cir:CirOk p.1
 ref:RefOk p.1 p.2
 le:gs.length≤p.1.length
 len:p.1.length≤gs.length+n
def inV (vals:List Bool) (a:Int):Bool:=vals.getD (a - 1).toNat false
def refV (done:List Bool) (r:Int):Bool:=done.getD (r / 2).toNat false==decide (r % 2=0)
def gateV (vals done:List Bool) (g:GateM):Bool:=if g.k=1 then inV vals g.a else if g.k=2 then refV done g.a && refV done g.b else true
def doneG (gs:List GateM) (vals:List Bool):Nat→List Bool
 |0=>[]
 |i+1=>doneG gs vals i++ [gateV vals (doneG gs vals i) (gs.getD i ⟨0,0,0⟩)]
def valG (gs:List GateM) (vals:List Bool) (i:Nat):Bool:=(doneG gs vals (i+1)).getD i false
def evalG (gs:List GateM) (vals:List Bool) (r:Int):Bool:=valG gs vals (r / 2).toNat==decide (r % 2=0)
end Go.Ab
/- Chapter 24:what the gates that a circuit gains compute. -/
namespace Go.Ab
open Go Go.Proofs
set_option maxRecDepth 20000
set_option maxHeartbeats 4000000
structure Ev (gs:List GateM) (p:List GateM×Int) (f:List Bool→Bool):Prop where
 keep:∀v r,RefOk gs r→evalG p.1 v r=evalG gs v r
 val:∀v,evalG p.1 v p.2=f v
end Go.Ab
/- Chapter 24:the predicate of a permutation,in plain terms. -/
namespace Go.Ab
open Go Go.Proofs
set_option maxRecDepth 20000
set_option maxHeartbeats 4000000
def backM (perm:List Int) (w:Int):Int:=(perm.findIdx (fun x=>decide (x=w)):Nat)+1
def invM (perm:List Int):List Int:=(List.range perm.length).map fun j:Nat=>backM perm ((j:Int)+1)
structure PermOk (perm:List Int):Prop where
 rng:∀w∈perm,1≤w∧w≤perm.length
 nodup:perm.Nodup
theorem nodup_len (n:Nat):∀{l:List Int},l.Nodup→(∀x∈l,1≤x∧x≤n)→l.length≤n:=by
 induction n with
 |zero=>
  intro l _ h
  cases l with
  |nil=>exact Nat.le_refl _
  |cons x l=>have:=h x (by simp);omega
 |succ n ih=>
  intro l h1 h2
  have h3:(l.erase ((n:Int)+1)).length≤n:=ih (h1.erase _) fun x hx=>by
   have h4:=(List.Nodup.mem_erase_iff h1).1 hx
   have h5:=h2 x h4.2
   have:=h4.1
   omega
  by_cases hn:((n:Int)+1)∈l
  ·rw[List.length_erase_of_mem hn] at h3;omega
  ·rw[List.erase_of_not_mem hn] at h3;omega
theorem PermOk.all {perm:List Int} (h:PermOk perm) {w:Int} (hw:1≤w∧w≤perm.length):w∈perm:=by
 apply Classical.byContradiction
 intro hn
 have:=nodup_len perm.length (l:=w::perm) (List.nodup_cons.2 ⟨hn,h.nodup⟩) (fun x hx=>by
  rcases List.mem_cons.1 hx with rfl|hx
  ·exact hw
  ·exact h.rng x hx)
 rw[List.length_cons] at this
 omega
theorem PermOk.at {perm:List Int} (h:PermOk perm) {w:Int} (hw:1≤w∧w≤perm.length):∃i:Nat,∃hi:i<perm.length,perm.findIdx (fun x=>decide (x=w))=i∧perm[i]=w:=by
 have hm:=h.all hw
 have hlt:perm.findIdx (fun x=>decide (x=w))<perm.length:=by
  rw[List.findIdx_lt_length]
  exact⟨w,hm,by simp⟩
 exact⟨_,hlt,rfl,of_decide_eq_true (List.findIdx_getElem (w:=hlt))⟩
theorem PermOk.back {perm:List Int} (h:PermOk perm) {w:Int} (hw:1≤w∧w≤perm.length):1≤backM perm w∧backM perm w≤perm.length:=by
 obtain⟨i,hi,h1,h2⟩:=h.at hw
 unfold backM
 rw[h1]
 omega
theorem inv_at {perm:List Int} {w:Int} (hw:1≤w∧w≤perm.length) (h:(w - 1).toNat<(invM perm).length):(invM perm)[(w - 1).toNat]=backM perm w:=by
 have e:(invM perm)[(w - 1).toNat]=backM perm (((w - 1).toNat:Nat)+1:Int):=by simp [invM]
 rw[e]
 congr 1
 omega
def ngF (f g:Int→Bool):List Int→Bool
 |[]=>true
 |w::o=>if f w=g w then ngF f g o else g w
structure Pred (gs:List GateM) (n:Nat) (p:List GateM×Int) (f:List Bool→Bool):Prop where
 cir:CirOk p.1
 ref:RefOk p.1 p.2
 le:gs.length≤p.1.length
 len:p.1.length≤gs.length+n
 keep:∀v r,RefOk gs r→evalG p.1 v r=evalG gs v r
 val:∀v,evalG p.1 v p.2=f v
 nodup:gs.Nodup→p.1.Nodup
theorem Pred.of {gs:List GateM} {n:Nat} {p:List GateM×Int} {f:List Bool→Bool} (h1:Grown gs n p) (h2:Ev gs p f) (h3:gs.Nodup→p.1.Nodup):Pred gs n p f:=⟨h1.cir,h1.ref,h1.le,h1.len,h2.keep,h2.val,h3⟩
end Go.Ab
/- Chapter 24:the order of assignments,in plain terms. -/
namespace Go.Ab
open Go Go.Proofs
set_option maxRecDepth 20000
set_option maxHeartbeats 4000000
def ordM (n:Nat):List Int:=(List.range n).map fun i:Nat=>(i:Int)+1
end Go.Ab
/- Chapter 24:the permutation that numbers describe,in plain terms. -/
namespace Go.Ab
open Go Go.Proofs
set_option maxRecDepth 20000
set_option maxHeartbeats 4000000
def swapL (l:List Int) (i k:Nat):List Int:=(l.set i (l.getD k 0)).set k (l.getD i 0)
def permM (raw:List Int):Nat→List Int
 |0=>ordM raw.length
 |i+1=>swapL (permM raw i) i (raw.getD i 0 % (raw.length:Int)).toNat
structure PermN (n:Nat) (l:List Int):Prop where
 len:l.length=n
 nodup:l.Nodup
 rng:∀w∈l,1≤w∧w≤(n:Int)
theorem PermN.ok {n:Nat} {l:List Int} (h:PermN n l):PermOk l:=⟨fun w hw=>by rw[h.len];exact h.rng w hw,h.nodup⟩
end Go.Ab
/- Chapter 24:permutations that act on a list of variables;leaders,in plain terms. -/
namespace Go.Ab
open Go Go.Proofs
set_option maxRecDepth 20000
set_option maxHeartbeats 4000000
theorem find_at {α:Type} [DecidableEq α] {V:List α} {x:α} (h:x∈V):∃i:Nat,∃hi:i<V.length,V.findIdx (fun u=>decide (u=x))=i∧V[i]=x:=by
 have hlt:V.findIdx (fun u=>decide (u=x))<V.length:=by
  rw[List.findIdx_lt_length]
  exact⟨x,h,by simp⟩
 exact⟨_,hlt,rfl,of_decide_eq_true (List.findIdx_getElem (w:=hlt))⟩
end Go.Ab
/- Chapter 24:permutations of atoms,images of ranks,the group of symmetries,in plain terms. -/
namespace Go.Ab
open Go Go.Proofs
set_option maxRecDepth 20000
set_option maxHeartbeats 4000000
def imgR (n:Nat) (p:List Int):Nat→Int→Int
 |0,_=>0
 |a+1,t=>p.getD (t % (n:Int)).toNat 0+(n:Int)*imgR n p a (t / (n:Int))
structure PermA (n:Nat) (srt:Int→Int) (p:List Int):Prop where
 len:p.length=n
 nodup:p.Nodup
 rng:∀x∈p,0≤x∧x<(n:Int)
 srt:∀(i:Nat) (h:i<p.length),srt p[i]=srt (i:Int)
theorem PermA.at {n:Nat} {srt:Int→Int} {p:List Int} (h:PermA n srt p) {i:Nat} (hi:i<n):p.getD i 0=p[i]'(by rw[h.len];exact hi):=by
 rw[List.getD_eq_getElem?_getD,List.getElem?_eq_getElem (by rw[h.len];exact hi)];rfl
theorem PermA.lt {n:Nat} {srt:Int→Int} {p:List Int} (h:PermA n srt p) {i:Nat} (hi:i<n):0≤p.getD i 0∧p.getD i 0<(n:Int):=by
 rw[h.at hi];exact h.rng _ (List.getElem_mem _)
theorem PermA.inj {n:Nat} {srt:Int→Int} {p:List Int} (h:PermA n srt p) {i j:Nat} (hi:i<n) (hj:j<n) (e:p.getD i 0=p.getD j 0):i=j:=by
 rw[h.at hi,h.at hj] at e
 exact(List.getElem_inj h.nodup).1 e
theorem mod_lt {n:Nat} (hn:0<n) (t:Int):(t % (n:Int)).toNat<n:=by
 have h1:=Int.emod_nonneg t (show(n:Int)≠0 by omega)
 have h2:=Int.emod_lt_of_pos t (show 0<(n:Int) by omega)
 omega
theorem pow_succ_cast (n a:Nat):((n ^ (a+1):Nat):Int)=(n:Int)*((n ^ a:Nat):Int):=by
 rw[Nat.pow_succ,Nat.mul_comm];exact Int.natCast_mul _ _
theorem div_rng {n a:Nat} (hn:0<n) {t:Int} (h:0≤t∧t<((n ^ (a+1):Nat):Int)):0≤t / (n:Int)∧t / (n:Int)<((n ^ a:Nat):Int):=by
 rw[pow_succ_cast] at h
 exact⟨Int.ediv_nonneg h.1 (by omega),Int.ediv_lt_of_lt_mul (by omega) (by rw[Int.mul_comm];exact h.2)⟩
theorem add_mul_rng {n a:Nat} {d s:Int} (hd:0≤d∧d<(n:Int)) (hs:0≤s∧s<((n ^ a:Nat):Int)):0≤d+(n:Int)*s∧d+(n:Int)*s<((n ^ (a+1):Nat):Int):=by
 rw[pow_succ_cast]
 have h1:0≤(n:Int)*s:=Int.mul_nonneg (by omega) hs.1
 have h2:(n:Int)*(s+1)≤(n:Int)*((n ^ a:Nat):Int):=Int.mul_le_mul_of_nonneg_left (by omega) (by omega)
 rw[Int.mul_add,Int.mul_one] at h2
 omega
theorem digit_mod {n:Nat} {d s:Int} (hd:0≤d∧d<(n:Int)):(d+(n:Int)*s) % (n:Int)=d:=by
 rw[Int.add_mul_emod_self_left,Int.emod_eq_of_lt hd.1 hd.2]
theorem digit_div {n:Nat} (hn:0<n) {d s:Int} (hd:0≤d∧d<(n:Int)):(d+(n:Int)*s) / (n:Int)=s:=by
 rw[Int.add_mul_ediv_left _ _ (by omega),Int.ediv_eq_zero_of_lt hd.1 hd.2,Int.zero_add]
theorem img_rng {n:Nat} {srt:Int→Int} {p:List Int} (h:PermA n srt p) (hn:0<n):∀(a:Nat) (t:Int),0≤imgR n p a t∧imgR n p a t<((n ^ a:Nat):Int)
 |0,_=>by simp [imgR]
 |a+1,t=>add_mul_rng (h.lt (mod_lt hn t)) (img_rng h hn a _)
theorem img_inj {n:Nat} {srt:Int→Int} {p:List Int} (h:PermA n srt p) (hn:0<n):∀(a:Nat) {t u:Int},(0≤t∧t<((n ^ a:Nat):Int))→(0≤u∧u<((n ^ a:Nat):Int))→imgR n p a t=imgR n p a u→t=u
 |0,t,u,ht,hu,_=>by rw[Nat.pow_zero] at ht hu;omega
 |a+1,t,u,ht,hu,e=>by
  have d1:=h.lt (mod_lt hn t)
  have d2:=h.lt (mod_lt hn u)
  have e1:p.getD (t % (n:Int)).toNat 0=p.getD (u % (n:Int)).toNat 0:=by
   have:=congrArg (·% (n:Int)) e
   simp only[imgR] at this
   rwa [digit_mod d1,digit_mod d2] at this
  have e2:imgR n p a (t / (n:Int))=imgR n p a (u / (n:Int)):=by
   have:=congrArg (·/ (n:Int)) e
   simp only[imgR] at this
   rwa [digit_div hn d1,digit_div hn d2] at this
  have e3:=h.inj (mod_lt hn t) (mod_lt hn u) e1
  have e4:=img_inj h hn a (div_rng hn ht) (div_rng hn hu) e2
  have m1:=Int.emod_nonneg t (show(n:Int)≠0 by omega)
  have m2:=Int.emod_nonneg u (show(n:Int)≠0 by omega)
  have e5:t % (n:Int)=u % (n:Int):=by omega
  have q1:=Int.emod_add_mul_ediv t n
  have q2:=Int.emod_add_mul_ediv u n
  rw[← q1,← q2,e5,e4]
def compA (p q:List Int):List Int:=q.map fun x=>p.getD x.toNat 0
theorem comp_len (p q:List Int):(compA p q).length=q.length:=by simp [compA]
theorem comp_get {p q:List Int} {i:Nat} (h:i<(compA p q).length):(compA p q)[i]=p.getD (q[i]'(by rwa [comp_len] at h)).toNat 0:=by simp [compA]
theorem comp_at {p q:List Int} {i:Nat} (h:i<q.length):(compA p q).getD i 0=p.getD (q.getD i 0).toNat 0:=by
 rw[List.getD_eq_getElem?_getD,List.getElem?_eq_getElem (by rw[comp_len];exact h),List.getD_eq_getElem?_getD (l:=q),List.getElem?_eq_getElem h]
 simp [compA]
theorem img_compA {n:Nat} {srt:Int→Int} {p q:List Int} (hq:PermA n srt q) (hn:0<n):∀(a:Nat) (t:Int),imgR n (compA p q) a t=imgR n p a (imgR n q a t)
 |0,_=>rfl
 |a+1,t=>by
  have d1:=hq.lt (mod_lt hn t)
  have e:imgR n (compA p q) (a+1) t=(compA p q).getD (t % (n:Int)).toNat 0+(n:Int)*imgR n (compA p q) a (t / (n:Int)):=rfl
  have e2:imgR n p (a+1) (imgR n q (a+1) t)=p.getD (imgR n q (a+1) t % (n:Int)).toNat 0+(n:Int)*imgR n p a (imgR n q (a+1) t / (n:Int)):=rfl
  have e3:imgR n q (a+1) t=q.getD (t % (n:Int)).toNat 0+(n:Int)*imgR n q a (t / (n:Int)):=rfl
  rw[e,e2,e3,digit_mod d1,digit_div hn d1,comp_at (by rw[hq.len];exact mod_lt hn t),img_compA hq hn a]
def invA (p:List Int):List Int:=(List.range p.length).map fun j:Nat=>((p.findIdx fun x=>decide (x=(j:Int)):Nat):Int)
theorem invA_len (p:List Int):(invA p).length=p.length:=by simp [invA]
theorem invA_at {p:List Int} {j:Nat} (h:j<(invA p).length):(invA p)[j]=((p.findIdx fun x=>decide (x=(j:Int)):Nat):Int):=by simp [invA]
theorem mem_of_nodup (n:Nat) {p:List Int} (hnd:p.Nodup) (hr:∀x∈p,0≤x∧x<(n:Int)) (hl:p.length=n) {j:Int} (hj:0≤j∧j<(n:Int)):j∈p:=by
 apply Classical.byContradiction
 intro hn
 have:=nodup_len n (l:=(j::p).map (·+1)) (by
  refine List.Pairwise.map _ (fun a b hab e=>hab (by omega)) (List.nodup_cons.2 ⟨hn,hnd⟩)) (fun x hx=>by
  obtain⟨y,hy,rfl⟩:=List.mem_map.1 hx
  rcases List.mem_cons.1 hy with rfl|hy
  ·omega
  ·have:=hr y hy;omega)
 simp only[List.length_map,List.length_cons] at this
 omega
theorem PermA.find {n:Nat} {srt:Int→Int} {p:List Int} (h:PermA n srt p) {j:Nat} (hj:j<n):∃i:Nat,∃hi:i<p.length,(p.findIdx fun x=>decide (x=(j:Int)))=i∧p[i]=(j:Int):=
 find_at (mem_of_nodup n h.nodup h.rng h.len (by omega))
theorem PermA.inv_at {n:Nat} {srt:Int→Int} {p:List Int} (h:PermA n srt p) {i:Nat} (hi:i<n):(invA p).getD (p.getD i 0).toNat 0=(i:Int):=by
 have hl:=h.lt hi
 have hln:=h.len
 have hlt:(p.getD i 0).toNat<(invA p).length:=by rw[invA_len];omega
 obtain⟨k,hk,k1,k2⟩:=h.find (j:=(p.getD i 0).toNat) (by omega)
 rw[List.getD_eq_getElem?_getD,List.getElem?_eq_getElem hlt]
 show(invA p)[_]=_
 rw[invA_at,k1]
 have:k=i:=h.inj (by omega) hi (by rw[h.at (by omega),k2];omega)
 omega
theorem PermA.inv {n:Nat} {srt:Int→Int} {p:List Int} (h:PermA n srt p):PermA n srt (invA p):=by
 have hln:=h.len
 refine⟨by rw[invA_len,h.len],?_,fun x hx=>?_,fun j hj=>?_⟩
 ·unfold List.Nodup
  rw[List.pairwise_iff_getElem]
  intro a b ha hb hab e
  rw[invA_at,invA_at] at e
  rw[invA_len] at ha hb
  obtain⟨i,i0,i1,i2⟩:=h.find (j:=a) (by omega)
  obtain⟨j,j0,j1,j2⟩:=h.find (j:=b) (by omega)
  rw[i1,j1] at e
  have:i=j:=by omega
  subst this
  omega
 ·obtain⟨j,hj,rfl⟩:=List.getElem_of_mem hx
  rw[invA_at]
  rw[invA_len] at hj
  obtain⟨i,i0,i1,i2⟩:=h.find (j:=j) (by omega)
  rw[i1]
  omega
 ·rw[invA_at]
  rw[invA_len] at hj
  obtain⟨i,i0,i1,i2⟩:=h.find (j:=j) (by omega)
  rw[i1,← h.srt i i0,i2]
def idA (n:Nat):List Int:=(List.range n).map fun i:Nat=>(i:Int)
theorem idA_at {n i:Nat} (h:i<n):(idA n).getD i 0=(i:Int):=by
 rw[List.getD_eq_getElem?_getD,List.getElem?_eq_getElem (by simp [idA];exact h)]
 simp [idA]
theorem idA_len (n:Nat):(idA n).length=n:=by simp [idA]
theorem PermA.id (n:Nat) (srt:Int→Int):PermA n srt (idA n):=by
 refine⟨idA_len n,?_,fun x hx=>?_,fun i h=>by simp [idA]⟩
 ·unfold idA
  refine List.Pairwise.map _ (fun a b hab e=>hab (by omega)) List.nodup_range
 ·obtain⟨y,hy,rfl⟩:=List.mem_map.1 hx
  have:=List.mem_range.1 hy
  omega
theorem inv_comp {n:Nat} {srt:Int→Int} {p:List Int} (h:PermA n srt p):compA (invA p) p=idA n:=by
 have hln:=h.len
 refine List.ext_getElem (by rw[comp_len,h.len,idA_len]) fun i h1 h2=>?_
 rw[idA_len] at h2
 rw[comp_get]
 have:=h.inv_at h2
 rw[h.at h2] at this
 rw[this]
 simp [idA]
theorem img_id {n:Nat} (hn:0<n):∀(a:Nat) {t:Int},(0≤t∧t<((n ^ a:Nat):Int))→imgR n (idA n) a t=t
 |0,t,h=>by rw[Nat.pow_zero] at h;show(0:Int)=t;omega
 |a+1,t,h=>by
  show(idA n).getD (t % (n:Int)).toNat 0+(n:Int)*imgR n (idA n) a (t / (n:Int))=t
  rw[idA_at (mod_lt hn t),img_id hn a (div_rng hn h)]
  have m1:=Int.emod_nonneg t (show(n:Int)≠0 by omega)
  have q1:=Int.emod_add_mul_ediv t n
  omega
end Go.Ab
/- Chapter 24:the reference's functions on permutations and assignments,walked. -/
namespace Go.Ab
open Go Go.Proofs
set_option maxRecDepth 20000
set_option maxHeartbeats 4000000
def atMG (perm:List Int) (w:Int) (k:Nat):Int:=if perm.findIdx (fun x=>decide (x=w))<k then (perm.findIdx (fun x=>decide (x=w)):Nat)+1 else w
attribute [local irreducible] AW AOps thenD inBlockD AR iterEnds roundEndsN inlEnds noGotoD canon ordM invM backM atMG ngF
end Go.Ab
/- Chapter 19:the reference's circuits,walked. -/
namespace Go.Ab
open Go Go.Proofs
set_option maxRecDepth 20000
set_option maxHeartbeats 4000000
attribute [local irreducible] AW AOps thenD inBlockD AR iterEnds roundEndsN inlEnds noGotoD
end Go.Ab
/- Chapter 19:the reference's circuits built,walked. -/
namespace Go.Ab
open Go Go.Proofs
set_option maxRecDepth 20000
set_option maxHeartbeats 4000000
attribute [local irreducible] AW AOps thenD inBlockD AR iterEnds roundEndsN inlEnds noGotoD findG
end Go.Ab
/- Chapter 19:construction steps,walked. -/
namespace Go.Ab
open Go Go.Proofs
set_option maxRecDepth 20000
set_option maxHeartbeats 4000000
attribute [local irreducible] AW AOps thenD inBlockD AR iterEnds roundEndsN inlEnds noGotoD
end Go.Ab
/- Chapter 24:the law's permutation;the circuits' Valid and Same,walked. -/
namespace Go.Ab
open Go Go.Proofs
set_option maxRecDepth 20000
set_option maxHeartbeats 4000000
theorem getD_of {α:Type} {l:List α} {i:Nat} {d:α} (h:i<l.length):l.getD i d=l[i]:=by rw[List.getD_eq_getElem?_getD,List.getElem?_eq_getElem h];rfl
attribute [local irreducible] AW AOps thenD inBlockD AR iterEnds roundEndsN inlEnds noGotoD canon ordM invM backM atMG ngF permM swapL
end Go.Ab
/- Chapter 24:images of ranks and relations:the program's Rel,walked. -/
namespace Go.Ab
open Go Go.Proofs
open Nat (reduceAdd reduceSub)
set_option maxRecDepth 20000
set_option maxHeartbeats 4000000
abbrev pwI (n i:Nat):Int:=((n ^ i:Nat):Int)
theorem pw_b {n i:Nat} (h:n≤12) (hi:i≤3) (hn:0<n):1≤pwI n i∧pwI n i≤1728:=by
 have h1:=Nat.pow_le_pow_left h i
 have h2:12 ^ i≤12 ^ 3:=Nat.pow_le_pow_right (by omega) hi
 have h3:0<n ^ i:=Nat.pow_pos hn
 simp only[pwI]
 omega
theorem imgR_snoc (n:Nat) (p:List Int):∀(i:Nat) (t:Int),imgR n p (i+1) t=imgR n p i t+p.getD (t / pwI n i % (n:Int)).toNat 0*pwI n i
 |0,t=>by simp [imgR,pwI]
 |i+1,t=>by
  show p.getD (t % (n:Int)).toNat 0+(n:Int)*imgR n p (i+1) (t / (n:Int))=(p.getD (t % (n:Int)).toNat 0+(n:Int)*imgR n p i (t / (n:Int)))+_
  rw[imgR_snoc n p i (t / (n:Int)),Int.ediv_ediv_of_nonneg (by omega),show(n:Int)*pwI n i=pwI n (i+1) from(pow_succ_cast n i).symm,Int.mul_add,Int.mul_left_comm,show(n:Int)*pwI n i=pwI n (i+1) from(pow_succ_cast n i).symm,Int.add_assoc]
attribute [local irreducible] AW AOps thenD inBlockD AR iterEnds roundEndsN inlEnds noGotoD imgR
theorem rank_fn {srt:Int→Int} (p:List Int) (ar:Nat) (t:Int) (hp:PermA p.length srt p) (hn:0<p.length) (hl:p.length≤12) (ha:ar≤3) (ht:0≤t∧t≤1000000):
  Fn Tryz.prog 85 [.agg [.pv (ints p),litI ar],litI t] (litI (imgR p.length p ar t)):=by
 refine Fn.enter (n:=34) Tryz.func85 rfl rfl rfl rfl rfl (by decide) fun g hro_ hwt_=>?_;(try refine nz ?_)
 (refine J164 ?_;refine J93 ?_;refine AOps.fieldAddrN 128 0 0 rfl rfl rfl rfl ?_;refine zb ?_;refine zn ?_;refine J93 ?_;refine J129 ?_;refine J282 ?_;refine AOps.fieldAddrN 128 1 1 rfl rfl rfl rfl ?_;refine zb ?_;refine J90 ?_)
 (refine nz ?_;apply AW.loopR [12,5,4,2] [0] (fun i:Nat=>([(13,litI i),(1,litI (t / pwI p.length i)),(6,litI (imgR p.length p i t)),(7,litI (pwI p.length i))]:List (Nat×AV))) (fun i:Nat=>([]:List (Nat×Option Ob))) (fun i:Nat=>i≤ar) (fun i:Nat=>ar - i) (0);(conv=>lhs;simp only[Nf.lpR,Nf.all,Nat.reduceBEq,reduceAdd,reduceSub]);(all_goals skip))
 ·exact Nat.zero_le _
 ·exact weak rfl (by(refine⟨.intE (by first|rfl|(simp [imgR,pwI];rfl)|simp [imgR,pwI]),?_⟩;refine⟨.intE (by first|rfl|(simp [imgR,pwI];rfl)|simp [imgR,pwI]),?_⟩;refine⟨.intE (by first|rfl|(simp [imgR,pwI];rfl)|simp [imgR,pwI]),?_⟩;refine⟨.intE (by first|rfl|(simp [imgR,pwI];rfl)|simp [imgR,pwI]),?_⟩;refine⟨.intE (by first|rfl|(simp [imgR,pwI];rfl)|simp [imgR,pwI]),?_⟩;refine⟨.intE (by first|rfl|(simp [imgR,pwI];rfl)|simp [imgR,pwI]),?_⟩;refine⟨.intE (by first|rfl|(simp [imgR,pwI];rfl)|simp [imgR,pwI]),?_⟩;refine⟨.eq rfl rfl,?_⟩;exact trivial)) (by(refine⟨.box _ rfl ?_,?_⟩;refine⟨.pvE (by first|rfl|(simp [imgR,pwI];rfl)|simp [imgR,pwI]),?_⟩;refine⟨.intE (by first|rfl|(simp [imgR,pwI];rfl)|simp [imgR,pwI]),?_⟩;(iterate 2 exact trivial))) rfl
 rintro i hi
 by_cases hlt:i<ar
 ·have hS:=pw_b (n:=p.length) (i:=i) hl (by omega) hn
  have hS2:=pw_b (n:=p.length) (i:=i+1) hl (by omega) hn
  have hsn:=imgR_snoc p.length p i t
  have hT0:0≤t / pwI p.length i:=Int.ediv_nonneg ht.1 (by omega)
  have hT1:t / pwI p.length i≤t:=Int.ediv_le_self _ ht.1
  have hT2:t / pwI p.length (i+1)=t / pwI p.length i / (p.length:Int):=by
   rw[Int.ediv_ediv_of_nonneg (by omega),Int.mul_comm,← pow_succ_cast]
  have hSn:pwI p.length (i+1)=pwI p.length i*(p.length:Int):=by
   rw[Int.mul_comm];exact pow_succ_cast _ _
  have hb:=img_rng hp hn i t
  have hO:0≤imgR p.length p i t∧imgR p.length p i t<pwI p.length i:=hb
  rw[hSn] at hS2
  clear hb
  generalize imgR p.length p i t=O at hO hsn ⊢
  generalize t / pwI p.length i=T at hT0 hT1 hT2 hsn ⊢
  generalize pwI p.length i=S at hS hSn hS2 hO hsn ⊢
  have hm:=mod_lt hn T
  have hm0:0≤T % (p.length:Int):=Int.emod_nonneg _ (by omega)
  have hm1:T % (p.length:Int)<(p.length:Int):=Int.emod_lt_of_pos _ (by omega)
  have hd0:0≤T / (p.length:Int):=Int.ediv_nonneg hT0 (by omega)
  rw[getD_of hm] at hsn
  have hx:=hp.rng _ (List.getElem_mem hm)
  have hM:0≤p[(T % (p.length:Int)).toNat]*S∧p[(T % (p.length:Int)).toNat]*S≤12*1728:=⟨Int.mul_nonneg hx.1 (by omega),Int.mul_le_mul (by omega) hS.2 (by omega) (by omega)⟩
  (refine zq ?_;refine J286 ?_;refine zc ?_;refine J181 ?_;refine zo ?_;(with_reducible apply AW.regionQ);exact rfl;exact rfl;kernel_rfl;(with_reducible assumption);refine zm ?_;refine AOps.fieldAddrN 128 0 0 rfl rfl rfl rfl ?_;refine zb ?_;(iterate 2 refine zm ?_);refine AOps.remE rfl rfl rfl rfl rfl (by omega) ?_;(focus ((with_reducible apply AOps.index_mapI);(iterate 7 exact rfl);omega;rotate_left;(first|omega|exact Nat.zero_lt_one|exact(by simp))));refine zr ?_;refine zm ?_;refine AOps.mul rfl rfl rfl rfl rfl (by omega) ?_;refine zj ?_;refine J93 ?_;(iterate 2 refine zm ?_);refine AOps.quoE rfl rfl rfl rfl rfl (by omega) ?_;refine J7 ?_;refine J243 ?_;refine J223 ?_;refine J61 ?_)
  exact⟨i+1,by omega,by omega,weak rfl (by(refine⟨.intE (by first|rfl|(rw[hT2])|(rw[hsn])|(rw[hSn])),?_⟩;refine⟨.intE (by first|rfl|(rw[hT2])|(rw[hsn])|(rw[hSn])),?_⟩;refine⟨.intE (by first|rfl|(rw[hT2])|(rw[hsn])|(rw[hSn])),?_⟩;refine⟨.intE (by first|rfl|(rw[hT2])|(rw[hsn])|(rw[hSn])),?_⟩;refine⟨.intE (by first|rfl|(rw[hT2])|(rw[hsn])|(rw[hSn])),?_⟩;refine⟨.intE (by first|rfl|(rw[hT2])|(rw[hsn])|(rw[hSn])),?_⟩;refine⟨.intE (by first|rfl|(rw[hT2])|(rw[hsn])|(rw[hSn])),?_⟩;refine⟨.eq rfl rfl,?_⟩;exact trivial)) (by(refine⟨.box _ rfl ?_,?_⟩;refine⟨.pvE (by first|rfl|(rw[hT2])|(rw[hsn])|(rw[hSn])),?_⟩;refine⟨.intE (by first|rfl|(rw[hT2])|(rw[hsn])|(rw[hSn])),?_⟩;(iterate 2 exact trivial))) rfl⟩
 ·obtain rfl:i=ar:=by omega
  (refine J29 ?_;refine J303 ?_)
  (apply ends_ret;(exact Res.one (.tmp rfl rfl));(refine Le.litI ?_;(rfl)))
end Go.Ab
/- Chapter 24:the program's image of a relation,walked. -/
namespace Go.Ab
open Go Go.Proofs
open Nat (reduceAdd reduceSub)
set_option maxRecDepth 20000
set_option maxHeartbeats 4000000
attribute [local irreducible] AW AOps thenD inBlockD AR iterEnds roundEndsN inlEnds noGotoD imgR sortL
theorem pRel_fn {srt:Int→Int} (at':List Int) (st:Int) (p:List Int) (ar:Nat) (ts:List Int) (hp:PermA p.length srt p) (hn:0<p.length) (hl:p.length≤12) (ha:ar≤3) (ht:∀t∈ts,0≤t∧t≤1000000) (hts:ts.length≤100000):
  Fn Tryz.prog 62 [scp at' st,.pv (ints p),relA ((ar:Int),ts)] (relA ((ar:Int),sortL (ts.map (imgR p.length p ar)))):=by
 have hr:=fun t (h:t∈ts)=>rank_fn p ar t hp hn hl ha (ht t h)
 refine Fn.enter (n:=24) Tryz.func62 rfl rfl rfl rfl rfl (by decide) fun g hro_ hwt_=>?_;(try refine nz ?_)
 (refine J63 ?_;refine J308 ?_;refine zm ?_;refine J116 ?_;refine AOps.buildN 128 [0,1] rfl rfl rfl rfl rfl rfl rfl rfl rfl ?_;refine nz ?_;refine AOps.makeFunc_f1 rfl rfl rfl ?_;refine AOps.assign rfl rfl rfl ?_;refine J113 ?_;refine zq ?_;refine J71 ?_;refine AOps.move_clo rfl rfl rfl ?_;(with_reducible apply AOps.inline (hf:=Tryz.func86));(with_reducible assumption);(iterate 10 exact rfl);intro g_ hro_ hwt_;refine nz ?_;refine zq ?_;refine J131 ?_;refine zn ?_;refine J192 ?_;refine J173 ?_)
 (refine nz ?_;apply AW.loopR [12,11,9,4,0,1,1016,1015,1014,1007,1006,1005] [2,1,0] (fun k:Nat=>([(13,litI k),(5,.own 3 3 1 (((ts.take k).map (imgR p.length p ar)).map nI))]:List (Nat×AV))) (fun k:Nat=>([(3,some .row)]:List (Nat×Option Ob))) (fun k:Nat=>k≤ts.length) (fun k:Nat=>ts.length - k) (0);(conv=>lhs;simp only[Nf.lpR,Nf.all,Nat.reduceBEq,reduceAdd,reduceSub]);(all_goals skip))
 ·exact Nat.zero_le _
 ·exact weak rfl (by(refine⟨.eq rfl rfl,?_⟩;(iterate 13 refine⟨.eq rfl rfl,?_⟩);exact trivial)) (by(refine⟨.row rfl,?_⟩;refine⟨.box _ rfl ?_,?_⟩;(iterate 2 refine⟨.eq rfl rfl,?_⟩);exact trivial;refine⟨.box _ rfl ?_,?_⟩;(iterate 2 refine⟨.eq rfl rfl,?_⟩);exact trivial;refine⟨.box _ rfl ?_,?_⟩;(iterate 2 refine⟨.eq rfl rfl,?_⟩);(iterate 2 exact trivial))) rfl
 rintro k hk
 by_cases hlt:k<ts.length
 ·have h1:=hr ts[k] (List.getElem_mem hlt)
  have hs:=take_succ_get hlt
  (refine J1 ?_;(focus ((with_reducible apply AOps.index_map);(iterate 7 exact rfl);rotate_left;omega));refine zr ?_;refine J7 ?_;refine J135 ?_;refine AOps.move_clo rfl rfl rfl ?_;refine zm ?_;refine zC (h1) ?_;refine J47 ?_;(with_reducible apply AOps.appendS);exact rfl;(first|exact .pv rfl|exact .own rfl|exact .nil rfl);(iterate 9 exact rfl);(first|omega|(simp only[List.length_map,List.length_append,List.length_cons,List.length_nil,List.length_drop,List.length_take,List.length_set,chunk_len];omega));refine J319 ?_)
  exact⟨k+1,by omega,by omega,weak rfl (by(refine⟨.intE (by first|rfl|(rw[hs,List.map_append,List.map_append];rfl)),?_⟩;refine⟨.ownE (by first|rfl|(rw[hs,List.map_append,List.map_append];rfl)) rfl,?_⟩;refine⟨.intE (by first|rfl|(rw[hs,List.map_append,List.map_append];rfl)),?_⟩;refine⟨.pvE (by first|rfl|(rw[hs,List.map_append,List.map_append];rfl)),?_⟩;refine⟨.intE (by first|rfl|(rw[hs,List.map_append,List.map_append];rfl)),?_⟩;refine⟨.eq rfl rfl,?_⟩;refine⟨.pvE (by first|rfl|(rw[hs,List.map_append,List.map_append];rfl)),?_⟩;(iterate 2 refine⟨.eq rfl rfl,?_⟩);refine⟨.pvE (by first|rfl|(rw[hs,List.map_append,List.map_append];rfl)),?_⟩;(iterate 4 refine⟨.eq rfl rfl,?_⟩);exact trivial)) (by(refine⟨.row rfl,?_⟩;refine⟨.box _ rfl ?_,?_⟩;refine⟨.intE (by first|rfl|(rw[hs,List.map_append,List.map_append];rfl)),?_⟩;refine⟨.eq rfl rfl,?_⟩;exact trivial;refine⟨.box _ rfl ?_,?_⟩;refine⟨.intE (by first|rfl|(rw[hs,List.map_append,List.map_append];rfl)),?_⟩;refine⟨.pvE (by first|rfl|(rw[hs,List.map_append,List.map_append];rfl)),?_⟩;exact trivial;refine⟨.box _ rfl ?_,?_⟩;refine⟨.pvE (by first|rfl|(rw[hs,List.map_append,List.map_append];rfl)),?_⟩;refine⟨.intE (by first|rfl|(rw[hs,List.map_append,List.map_append];rfl)),?_⟩;(iterate 2 exact trivial))) rfl⟩
 ·rw[take_all (l:=ts) (by omega)]
  generalize ts.map (imgR p.length p ar)=yl
  (refine J250 ?_;refine J132 ?_;refine zd ?_;refine J2 ?_;refine AOps.move_own rfl rfl rfl ?_;(try refine nz ?_);refine AOps.rowC (sort_rowC) [18,8,17] rfl ⟨rfl,rfl,rfl,trivial⟩ rfl rfl rfl ?_;(conv=>rhs;simp only[Nf.rwR,Nf.all,Nat.reduceBEq,reduceAdd,reduceSub]);refine zd ?_;refine zq ?_;refine J116 ?_;refine AOps.move_own rfl rfl rfl ?_;refine J247 ?_;refine nz ?_;refine zB ?_;refine J221 ?_)
  (apply ends_ret;(exact Res.one (.cell rfl rfl rfl rfl));(refine Le.aggL ?_;refine LeL.cons ?_ ?_;(with_reducible exact Le.pv _);refine LeL.cons ?_ ?_;exact Le.own _ _ _ _ rfl;exact LeL.nil))
end Go.Ab
/- The program's image of a model,walked. -/
namespace Go.Ab
open Go Go.Proofs
open Nat (reduceAdd reduceSub)
set_option maxRecDepth 20000
set_option maxHeartbeats 8000000
def imgRel (p:List Int) (r:RelM):RelM:=(r.1,sortL (r.2.map (imgR p.length p r.1.toNat)))
def imgMod (p:List Int) (m:ModM):ModM:=⟨m.atoms,m.steps,m.states.map fun st=>st.map (imgRel p),m.loop⟩
structure ImgOk (r:RelM):Prop where
 ar:0≤r.1∧r.1≤3
 ts:∀t∈r.2,0≤t∧t≤1000000
 ln:r.2.length≤100000
abbrev PB2 (p:List Int) (at':List Int) (st:Int) (ss:List (List RelM)) (lp:Int):List (Nat×Option Ob):=[(0,some (.box [.pv (ints p)])),(1,some (.box [.pv (ints at'),litI st,.pv (stts ss),litI lp]))]
attribute [local irreducible] AW AOps thenD inBlockD AR iterEnds roundEndsN inlEnds noGotoD EndsX imgR sortL
theorem img1_fn {srt:Int→Int} (p at':List Int) (st:Int) (ss:List (List RelM)) (lp:Int) (r:RelM) (hp:PermA p.length srt p) (hn:0<p.length) (hl:p.length≤12) (hr:ImgOk r):
  FnX Tryz.prog 61 2 (PB2 p at' st ss lp) [relA r,.ptr 1 0,.ptr 0 0] (PB2 p at' st ss lp) (relA (imgRel p r)):=by
 obtain⟨ar,ts⟩:=r
 obtain⟨h1,h2,h3⟩:=hr
 obtain⟨n,rfl⟩:∃n:Nat,ar=n:=⟨ar.toNat,by have:=h1.1;simp only at this;omega⟩
 have c1:=pRel_fn at' st p n ts hp hn hl (by have:=h1.2;simp only at this;omega) h2 (by simp only at h3;omega)
 unfold imgRel PB2
 simp only[Int.toNat_natCast]
 generalize sortL (ts.map (imgR p.length p n))=yl at c1 ⊢
 refine FnX.enter (n:=10) Tryz.func61 rfl rfl rfl rfl rfl (by decide) rfl rfl fun g hro_ hwt_=>?_;refine J20 ?_
 (refine J164 ?_;refine J308 ?_;refine AOps.fieldAddrN 33 0 0 rfl rfl rfl rfl ?_;(with_reducible apply AOps.load_bs);(iterate 3 exact rfl);(repeat' first|exact Sub.nil|apply Sub.take|apply Sub.skip);(iterate 3 exact rfl);refine zb ?_;refine J30 ?_;refine zP (c1) ?_;refine zB ?_;refine J221 ?_)
 (apply endsX_ret;((exact Res.one (.cell rfl rfl rfl rfl)));((refine⟨.eq rfl rfl,?_⟩;exact J41));((refine⟨.box _ rfl ?_,?_⟩;refine J233 ?_;exact trivial;refine⟨.box _ rfl ?_,?_⟩;refine J233 ?_;refine J122 ?_;refine J233 ?_;refine J122 ?_;(iterate 2 exact trivial)));exact rfl)
theorem img2_fn {srt:Int→Int} (p at':List Int) (st:Int) (ss:List (List RelM)) (lp:Int) (x:List RelM) (hp:PermA p.length srt p) (hn:x≠ []→0<p.length) (hl:p.length≤12) (hx:∀r∈x,ImgOk r) (hxl:x.length≤100000):
  FnX Tryz.prog 59 2 (PB2 p at' st ss lp) [.pv (rels x),.ptr 1 0,.ptr 0 0] (PB2 p at' st ss lp) (.pv (rels (x.map (imgRel p)))):=by
 have c1:=fun r (h:r∈x)=>img1_fn p at' st ss lp r hp (hn (List.ne_nil_of_mem h)) hl (hx r h)
 unfold PB2 at*
 refine FnX.enter (n:=8) Tryz.func59 rfl rfl rfl rfl rfl (by decide) rfl rfl fun g hro_ hwt_=>?_;refine J20 ?_
 (refine zq ?_;refine J131 ?_;refine AOps.makeFunc_2 rfl rfl rfl rfl rfl ?_;(with_reducible apply AOps.inline (hf:=Tryz.func60));(with_reducible assumption);(iterate 10 exact rfl);intro g_ hro_ hwt_;refine nz ?_;refine zq ?_;refine J131 ?_;refine zn ?_;refine J192 ?_;refine J173 ?_)
 (refine nz ?_;apply AW.loopR [12,11,4,0,1,1006,1005,1004,1000,1001,1002,2000] [0,1] (fun k:Nat=>([(13,litI k),(5,.own 2 54 2 ((x.take k).map fun r=>encR (imgRel p r)))]:List (Nat×AV))) (fun k:Nat=>([(2,some .row)]:List (Nat×Option Ob))) (fun k:Nat=>k≤x.length) (fun k:Nat=>x.length - k) (0);(conv=>lhs;simp only[Nf.lpR,Nf.all,Nat.reduceBEq,reduceAdd,reduceSub]);(all_goals skip))
 ·exact Nat.zero_le _
 ·exact weak rfl (by(refine⟨.intE (by first|with_reducible rfl|(rfl)),?_⟩;refine⟨.ownE (by first|with_reducible rfl|(rfl)) rfl,?_⟩;refine⟨.intE (by first|with_reducible rfl|(rfl)),?_⟩;refine⟨.pvE (by first|with_reducible rfl|(rfl)),?_⟩;refine⟨.eq rfl rfl,?_⟩;refine⟨.pvE (by first|with_reducible rfl|(rfl)),?_⟩;(iterate 2 refine⟨.eq rfl rfl,?_⟩);refine⟨.pvE (by first|with_reducible rfl|(rfl)),?_⟩;refine⟨.eq rfl rfl,?_⟩;refine⟨.pvE (by first|with_reducible rfl|(rfl)),?_⟩;(iterate 3 refine⟨.eq rfl rfl,?_⟩);exact trivial)) (by(refine⟨.row rfl,?_⟩;refine⟨.box _ rfl ?_,?_⟩;refine⟨.pvE (by first|with_reducible rfl|(rfl)),?_⟩;exact trivial;refine⟨.box _ rfl ?_,?_⟩;refine⟨.pvE (by first|with_reducible rfl|(rfl)),?_⟩;refine⟨.intE (by first|with_reducible rfl|(rfl)),?_⟩;refine⟨.pvE (by first|with_reducible rfl|(rfl)),?_⟩;refine⟨.intE (by first|with_reducible rfl|(rfl)),?_⟩;(iterate 2 exact trivial))) rfl
 rintro k hk
 by_cases hlt:k<x.length
 ·have h1:=c1 x[k] (List.getElem_mem hlt)
  have hs:=take_succ_get hlt
  (refine J1 ?_;(focus ((with_reducible apply AOps.index_map);(iterate 7 exact rfl);rotate_left;omega));refine J18 ?_;refine J254 ?_;refine AOps.move_clo rfl rfl rfl ?_;refine J30 ?_;refine zX (h1) ?_;refine J190 ?_;refine AOps.bs1a2 rfl rfl rfl rfl rfl rfl rfl rfl rfl ?_;refine nz ?_;(with_reducible apply AOps.appendS);exact rfl;(first|exact .pv rfl|exact .own rfl|exact .nil rfl);(iterate 9 exact rfl);(first|omega|(simp only[List.length_map,List.length_append,List.length_cons,List.length_nil,List.length_drop,List.length_take,List.length_set,chunk_len];omega));refine J319 ?_)
  exact⟨k+1,by omega,by omega,weak rfl (by(refine⟨.intE (by first|rfl|(rw[hs,List.map_append];rfl)),?_⟩;refine⟨.ownE (by first|rfl|(rw[hs,List.map_append];rfl)) rfl,?_⟩;refine⟨.intE (by first|rfl|(rw[hs,List.map_append];rfl)),?_⟩;refine⟨.pvE (by first|rfl|(rw[hs,List.map_append];rfl)),?_⟩;refine⟨.eq rfl rfl,?_⟩;refine⟨.pvE (by first|rfl|(rw[hs,List.map_append];rfl)),?_⟩;(iterate 2 refine⟨.eq rfl rfl,?_⟩);refine⟨.pvE (by first|rfl|(rw[hs,List.map_append];rfl)),?_⟩;refine⟨.eq rfl rfl,?_⟩;refine⟨.pvE (by first|rfl|(rw[hs,List.map_append];rfl)),?_⟩;(iterate 3 refine⟨.eq rfl rfl,?_⟩);exact trivial)) (by(refine⟨.row rfl,?_⟩;refine⟨.box _ rfl ?_,?_⟩;refine⟨.pvE (by first|rfl|(rw[hs,List.map_append];rfl)),?_⟩;exact trivial;refine⟨.box _ rfl ?_,?_⟩;refine⟨.pvE (by first|rfl|(rw[hs,List.map_append];rfl)),?_⟩;refine⟨.intE (by first|rfl|(rw[hs,List.map_append];rfl)),?_⟩;refine⟨.pvE (by first|rfl|(rw[hs,List.map_append];rfl)),?_⟩;refine⟨.intE (by first|rfl|(rw[hs,List.map_append];rfl)),?_⟩;(iterate 2 exact trivial))) rfl⟩
 ·obtain rfl:k=x.length:=by omega
  rw[List.take_length]
  (refine J250 ?_;refine J132 ?_;refine zd ?_;refine AW.ret ?_)
  (apply endsX_ret;((exact Res.one (.tmp rfl rfl)));((refine⟨.freezeE rfl (by first|rfl|(rw[List.map_map];rfl)),?_⟩;exact J41));((refine⟨.box _ rfl ?_,?_⟩;refine⟨.pvE (by first|rfl|(rw[List.map_map];rfl)),?_⟩;exact trivial;refine⟨.box _ rfl ?_,?_⟩;(iterate 2 refine J269 ?_);(iterate 2 exact trivial)));exact rfl)
theorem pModel_fn {srt:Int→Int} (p:List Int) (m:ModM) (hp:PermA p.length srt p) (hn:∀x∈m.states,x≠ []→0<p.length) (hl:p.length≤12) (hx:∀x∈m.states,x.length≤100000∧∀r∈x,ImgOk r) (hxl:m.states.length≤100000):
  Fn Tryz.prog 19 [.pv (ints p),mdl m] (mdl (imgMod p m)):=by
 obtain⟨at',st,ss,lp⟩:=m
 have c1:=fun x h=>img2_fn p at' st ss lp x hp (hn x h) hl (hx x h).2 (hx x h).1
 unfold imgMod
 unfold PB2 at*
 simp only at hxl hx c1 ⊢
 refine Fn.enter (n:=11) Tryz.func19 rfl rfl rfl rfl rfl (by decide) fun g hro_ hwt_=>?_;(try refine nz ?_)
 (refine J63 ?_;refine J308 ?_;refine J21 ?_;refine AOps.makeFunc_2 rfl rfl rfl rfl rfl ?_;(with_reducible apply AOps.inline (hf:=Tryz.func58));(with_reducible assumption);(iterate 10 exact rfl);intro g_ hro_ hwt_;refine nz ?_;refine zq ?_;refine J131 ?_;refine zn ?_;refine J192 ?_;refine J173 ?_)
 (refine nz ?_;apply AW.loopR [12,11,4,0,1,1007,1006,1005,1004,1003,1002] [2,1,0] (fun k:Nat=>([(13,litI k),(5,.own 3 55 1 ((ss.take k).map fun x=>[rels (x.map (imgRel p))]))]:List (Nat×AV))) (fun k:Nat=>([(3,some .row)]:List (Nat×Option Ob))) (fun k:Nat=>k≤ss.length) (fun k:Nat=>ss.length - k) (0);(conv=>lhs;simp only[Nf.lpR,Nf.all,Nat.reduceBEq,reduceAdd,reduceSub]);(all_goals skip))
 ·exact Nat.zero_le _
 ·exact weak rfl (by(refine⟨.intE (by first|with_reducible rfl|(rfl)),?_⟩;refine⟨.ownE (by first|with_reducible rfl|(rfl)) rfl,?_⟩;refine⟨.intE (by first|with_reducible rfl|(rfl)),?_⟩;refine⟨.pvE (by first|with_reducible rfl|(rfl)),?_⟩;refine⟨.eq rfl rfl,?_⟩;refine⟨.pvE (by first|with_reducible rfl|(rfl)),?_⟩;(iterate 2 refine⟨.eq rfl rfl,?_⟩);refine⟨.pvE (by first|with_reducible rfl|(rfl)),?_⟩;(iterate 4 refine⟨.eq rfl rfl,?_⟩);exact trivial)) (by(refine⟨.row rfl,?_⟩;refine⟨.box _ rfl ?_,?_⟩;refine⟨.eq rfl rfl,?_⟩;refine⟨.intE (by first|with_reducible rfl|(rfl)),?_⟩;refine⟨.eq rfl rfl,?_⟩;refine⟨.intE (by first|with_reducible rfl|(rfl)),?_⟩;exact trivial;refine⟨.box _ rfl ?_,?_⟩;refine⟨.pvE (by first|with_reducible rfl|(rfl)),?_⟩;refine⟨.intE (by first|with_reducible rfl|(rfl)),?_⟩;refine⟨.pvE (by first|with_reducible rfl|(rfl)),?_⟩;refine⟨.intE (by first|with_reducible rfl|(rfl)),?_⟩;exact trivial;refine⟨.box _ rfl ?_,?_⟩;refine⟨.pvE (by first|with_reducible rfl|(rfl)),?_⟩;(iterate 2 exact trivial))) rfl
 rintro k hk
 by_cases hlt:k<ss.length
 ·have h1:=c1 ss[k] (List.getElem_mem hlt)
  have hs:=take_succ_get hlt
  (refine J1 ?_;(focus ((with_reducible apply AOps.index_map);(iterate 7 exact rfl);rotate_left;omega));refine zr ?_;refine J7 ?_;refine J135 ?_;refine AOps.move_clo rfl rfl rfl ?_;refine zm ?_;refine zX (h1) ?_;refine J190 ?_;refine J47 ?_;(with_reducible apply AOps.appendS);exact rfl;(first|exact .pv rfl|exact .own rfl|exact .nil rfl);(iterate 9 exact rfl);(first|omega|(simp only[List.length_map,List.length_append,List.length_cons,List.length_nil,List.length_drop,List.length_take,List.length_set,chunk_len];omega));refine J319 ?_)
  exact⟨k+1,by omega,by omega,weak rfl (by(refine⟨.intE (by first|rfl|(rw[hs,List.map_append];rfl)),?_⟩;refine⟨.ownE (by first|rfl|(rw[hs,List.map_append];rfl)) rfl,?_⟩;refine⟨.intE (by first|rfl|(rw[hs,List.map_append];rfl)),?_⟩;refine⟨.pvE (by first|rfl|(rw[hs,List.map_append];rfl)),?_⟩;refine⟨.eq rfl rfl,?_⟩;refine⟨.pvE (by first|rfl|(rw[hs,List.map_append];rfl)),?_⟩;(iterate 2 refine⟨.eq rfl rfl,?_⟩);refine⟨.pvE (by first|rfl|(rw[hs,List.map_append];rfl)),?_⟩;(iterate 4 refine⟨.eq rfl rfl,?_⟩);exact trivial)) (by(refine⟨.row rfl,?_⟩;refine⟨.box _ rfl ?_,?_⟩;refine⟨.eq rfl rfl,?_⟩;refine⟨.intE (by first|rfl|(rw[hs,List.map_append];rfl)),?_⟩;refine⟨.eq rfl rfl,?_⟩;refine⟨.intE (by first|rfl|(rw[hs,List.map_append];rfl)),?_⟩;exact trivial;refine⟨.box _ rfl ?_,?_⟩;refine⟨.pvE (by first|rfl|(rw[hs,List.map_append];rfl)),?_⟩;refine⟨.intE (by first|rfl|(rw[hs,List.map_append];rfl)),?_⟩;refine⟨.pvE (by first|rfl|(rw[hs,List.map_append];rfl)),?_⟩;refine⟨.intE (by first|rfl|(rw[hs,List.map_append];rfl)),?_⟩;exact trivial;refine⟨.box _ rfl ?_,?_⟩;refine⟨.pvE (by first|rfl|(rw[hs,List.map_append];rfl)),?_⟩;(iterate 2 exact trivial))) rfl⟩
 ·obtain rfl:k=ss.length:=by omega
  rw[List.take_length]
  (refine J250 ?_;refine nz ?_;refine AOps.fieldAddrN 33 1 2 rfl rfl rfl rfl ?_;refine J19 ?_;refine J113 ?_;refine J270 ?_;refine zB ?_;refine J221 ?_)
  (apply ends_ret;(exact Res.one (.cell rfl rfl rfl rfl));(refine Le.aggL ?_;refine LeL.cons ?_ ?_;(with_reducible exact Le.pv _);refine LeL.cons ?_ ?_;(with_reducible exact Le.pv _);refine LeL.cons ?_ ?_;refine Le.ownE ?_;(first|rfl|(rw[List.map_map];rfl));refine LeL.cons ?_ ?_;(with_reducible exact Le.pv _);exact LeL.nil))
end Go.Ab
/- Chapter 24:chapter 11's reference:equality,composition,inverse,sorts of atoms. -/
namespace Go.Ab
open Go Go.Proofs
open Nat (reduceAdd reduceSub)
set_option maxRecDepth 20000
set_option maxHeartbeats 4000000
attribute [local irreducible] AW AOps thenD inBlockD AR iterEnds roundEndsN inlEnds noGotoD
attribute [local irreducible] compA
def invU (p:List Int) (k:Nat):List Int:=(List.range p.length).map fun j:Nat=>if p.findIdx (fun x=>decide (x=(j:Int)))<k then ((p.findIdx fun x=>decide (x=(j:Int)):Nat):Int) else p.getD j 0
theorem invU_len (p:List Int) (k:Nat):(invU p k).length=p.length:=by simp [invU]
theorem invU_zero (p:List Int):invU p 0=p:=by
 refine List.ext_getElem (invU_len p 0) fun i h1 h2=>?_
 simp only[invU,List.getElem_map,List.getElem_range]
 rw[if_neg (by omega),getD_of h2]
theorem invU_all {srt:Int→Int} {p:List Int} (h:PermA p.length srt p):invU p p.length=invA p:=by
 unfold invU invA
 refine List.map_congr_left fun j hj=>?_
 obtain⟨i,hi,h1,_⟩:=h.find (j:=j) (List.mem_range.1 hj)
 rw[if_pos (by omega)]
theorem invU_set {srt:Int→Int} {p:List Int} (h:PermA p.length srt p) {k:Nat} (hk:k<p.length):(invU p k).set p[k].toNat (k:Int)=invU p (k+1):=by
 have hr:=h.rng _ (List.getElem_mem hk)
 refine List.ext_getElem (by simp [invU]) fun j h1 h2=>?_
 have hj:j<p.length:=by simpa [invU] using h2
 obtain⟨i,hi,i1,i2⟩:=h.find (j:=j) hj
 rw[List.getElem_set]
 simp only[invU,List.getElem_map,List.getElem_range,i1]
 by_cases e:p[k].toNat=j
 ·rw[if_pos e]
  have e2:p[i]=p[k]:=by rw[i2];omega
  have:=(List.getElem_inj h.nodup).1 e2
  subst this
  rw[if_pos (by omega)]
 ·rw[if_neg e]
  have:i≠k:=by rintro rfl;omega
  by_cases hik:i<k
  ·rw[if_pos hik,if_pos (by omega)]
  ·rw[if_neg hik,if_neg (by omega)]
theorem setI2 (l:List Int) (i:Nat) (x:Int):(l.map encI).set i [PV.lit (.int .i64 x)]=(l.set i x).map encI:=by
 rw[List.map_set];rfl
attribute [local irreducible] invU invA
theorem inverse11_fn {srt:Int→Int} (p:List Int) (h:PermA p.length srt p) (hl:p.length≤100000):Fn Tryz.prog 20 [.pv (ints p)] (.pv (ints (invA p))):=by
 refine Fn.enter (n:=22) Tryz.func20 rfl rfl rfl rfl rfl (by decide) fun g hro_ hwt_=>?_;(try refine nz ?_)
 (refine J224 ?_;refine AOps.bs0 rfl rfl rfl rfl rfl ?_;refine nz ?_;refine zm ?_;(with_reducible apply AOps.appendS);exact rfl;(first|exact .pv rfl|exact .own rfl|exact .nil rfl);(iterate 9 exact rfl);(first|omega|(simp only[List.length_map,List.length_append,List.length_cons,List.length_nil,List.length_drop,List.length_take,List.length_set,chunk_len];omega));refine J132 ?_;refine zd ?_;refine J158 ?_)
 (refine nz ?_;apply AW.loopR [2,0] [] (fun k:Nat=>([(4,litI k),(3,.own 0 3 1 ((invU p k).map encI))]:List (Nat×AV))) (fun k:Nat=>([(0,some .row)]:List (Nat×Option Ob))) (fun k:Nat=>k≤p.length) (fun k:Nat=>p.length - k) (0);(conv=>lhs;simp only[Nf.lpR,Nf.all,Nat.reduceBEq,reduceAdd,reduceSub]);(all_goals skip))
 ·exact Nat.zero_le _
 ·exact weak rfl (by(refine⟨.intE (by first|rfl|(rw[invU_zero];rfl)|(rw[invU_zero])),?_⟩;refine⟨.ownE (by first|rfl|(rw[invU_zero];rfl)|(rw[invU_zero])) rfl,?_⟩;refine⟨.eq rfl rfl,?_⟩;refine⟨.pvE (by first|rfl|(rw[invU_zero];rfl)|(rw[invU_zero])),?_⟩;exact trivial)) (by(refine⟨.row rfl,?_⟩;exact trivial)) rfl
 rintro k hk
 have hil:=invU_len p k
 by_cases hlt:k<p.length
 ·have hst:=invU_set h hlt
  have hr:=h.rng _ (List.getElem_mem hlt)
  (refine J96 ?_;refine zn ?_;refine J3 ?_;refine J135 ?_;(iterate 2 refine zm ?_);(focus ((with_reducible apply AOps.index_map);(iterate 7 exact rfl);rotate_left;omega));refine zr ?_;refine zm ?_;refine AOps.index_own_mapI rfl rfl rfl rfl rfl rfl rfl (by omega) (by omega) ?_;refine AOps.store_o1 rfl rfl rfl rfl rfl rfl rfl rfl ?_;refine AOps.nil ?_;refine J77 ?_)
  exact⟨k+1,by omega,by omega,weak rfl (by(refine⟨.intE (by first|rfl|(rw[setI2,hst])),?_⟩;refine⟨.ownE (by first|rfl|(rw[setI2,hst])) rfl,?_⟩;refine⟨.eq rfl rfl,?_⟩;refine⟨.pvE (by first|rfl|(rw[setI2,hst])),?_⟩;exact trivial)) (by(refine⟨.row rfl,?_⟩;exact trivial)) rfl⟩
 ·obtain rfl:k=p.length:=by omega
  rw[invU_all h]
  (refine J96 ?_;refine zn ?_;refine J101 ?_;refine J108 ?_;refine zd ?_;refine AW.ret ?_)
  (apply ends_ret;(exact Res.one (.tmp rfl rfl));(exact Le.own _ _ _ _ rfl))
theorem atoms11_fn (at':List Int) (st:Int) (h:SmA at'):Fn Tryz.prog 56 [scp at' st] (litI at'.sum):=by
 have hb:=h.take
 have hle:=h.1
 refine Fn.enter (n:=20) Tryz.func56 rfl rfl rfl rfl rfl (by decide) fun g hro_ hwt_=>?_;(try refine nz ?_)
 (refine J164 ?_;refine J93 ?_;refine J58 ?_;refine J126 ?_)
 (refine nz ?_;apply AW.loopR [2,1] [0] (fun k:Nat=>([(3,litI (at'.take k).sum),(4,litI k)]:List (Nat×AV))) (fun k:Nat=>([]:List (Nat×Option Ob))) (fun k:Nat=>k≤at'.length) (fun k:Nat=>at'.length - k) (0);(conv=>lhs;simp only[Nf.lpR,Nf.all,Nat.reduceBEq,reduceAdd,reduceSub]);(all_goals skip))
 ·exact Nat.zero_le _
 ·exact J256
 rintro k hk
 by_cases hlt:k<at'.length
 ·have hs:=sum_snoc at' hlt
  have h1:=hb k
  have h2:=hb (k+1)
  (refine J179 ?_;refine J3 ?_;refine J102 ?_;refine zm ?_;refine J312 ?_;(focus ((with_reducible apply AOps.index_map);(iterate 7 exact rfl);rotate_left;omega));refine zr ?_;refine zj ?_;refine J223 ?_;refine J77 ?_)
  exact⟨k+1,by omega,by omega,weak rfl (by(refine⟨.intE (by first|rfl|(rw[hs])),?_⟩;refine⟨.intE (by first|rfl|(rw[hs])),?_⟩;refine⟨.intE (by first|rfl|(rw[hs])),?_⟩;refine⟨.eq rfl rfl,?_⟩;exact trivial)) (by(refine⟨.box _ rfl ?_,?_⟩;refine⟨.pvE (by first|rfl|(rw[hs])),?_⟩;refine⟨.intE (by first|rfl|(rw[hs])),?_⟩;(iterate 2 exact trivial))) rfl⟩
 ·rw[take_all (l:=at') (by omega)]
  (refine J179 ?_;refine J101 ?_;refine J303 ?_)
  (apply ends_ret;(exact Res.one (.tmp rfl rfl));(refine Le.litI ?_;(rfl)))
theorem sort11_fn (at':List Int) (st x:Int) (h:SmA at') (hx: -9223372036854775808≤x∧x≤9223372036854775807):Fn Tryz.prog 57 [scp at' st,litI x] (litI (sortF at' x 0)):=by
 have hle:=h.1
 refine Fn.enter (n:=28) Tryz.func57 rfl rfl rfl rfl rfl (by decide) fun g hro_ hwt_=>?_;(try refine nz ?_)
 (refine J164 ?_;refine J58 ?_;refine J126 ?_)
 (refine nz ?_;apply AW.loopR [2] [0] (fun s:Nat×Int=>([(5,litI s.1),(1,litI s.2)]:List (Nat×AV))) (fun s:Nat×Int=>([]:List (Nat×Option Ob))) (fun s:Nat×Int=>s.1≤at'.length∧ -9223372036854775808≤s.2∧s.2≤9223372036854775807∧sortF at' x 0=sortF (at'.drop s.1) s.2 s.1) (fun s:Nat×Int=>at'.length - s.1) ((0,x));(conv=>lhs;simp only[Nf.lpR,Nf.all,Nat.reduceBEq,reduceAdd,reduceSub]);(all_goals skip))
 ·exact⟨Nat.zero_le _,hx.1,hx.2,rfl⟩
 ·exact J84
 rintro⟨j,y⟩ ⟨hj,h1,h2,he⟩
 simp only at hj h1 h2 he ⊢
 by_cases hlt:j<at'.length
 ·have hz:=h.2 _ (List.getElem_mem hlt)
  rw[sortF_drop hlt] at he
  by_cases hc:y<at'[j]
  ·rw[if_pos hc] at he
   (refine J179 ?_;refine J3 ?_;refine J67 ?_;refine J312 ?_;(focus ((with_reducible apply AOps.index_map);(iterate 7 exact rfl);rotate_left;omega));refine zr ?_;refine J316 ?_)
   (apply ends_ret;(exact Res.one (.tmp rfl rfl));(refine Le.litI ?_;(exact he.symm)))
  ·rw[if_neg hc] at he
   (refine J179 ?_;refine J3 ?_;refine J67 ?_;refine J312 ?_;(focus ((with_reducible apply AOps.index_map);(iterate 7 exact rfl);rotate_left;omega));refine zr ?_;refine zs ?_;refine J45 ?_;refine J102 ?_;refine zm ?_;refine J312 ?_;(focus ((with_reducible apply AOps.index_map);(iterate 7 exact rfl);rotate_left;omega));refine zr ?_;refine AOps.sub rfl rfl rfl rfl rfl (by omega) ?_;refine J223 ?_;refine J77 ?_)
   exact J151
 ·rw[List.drop_eq_nil_of_le (by omega)] at he
  (refine J179 ?_;refine J246 ?_)
  (apply ends_ret;(exact Res.one (.tmp rfl rfl));(refine Le.litI ?_;(exact he.symm)))
end Go.Ab
/- Chapter 24:chapter 11's reference:images,relations,permutations that are valid. -/
namespace Go.Ab
open Go Go.Proofs
open Nat (reduceAdd reduceSub)
set_option maxRecDepth 20000
set_option maxHeartbeats 4000000
attribute [local irreducible] AW AOps thenD inBlockD AR iterEnds roundEndsN inlEnds noGotoD imgR canon
theorem usable_fn (at':List Int) (st:Int) (h:SmA at') (h4:at'.length≤4) (h5:∀x∈at',x≤5) (hs:at'.sum≤12):Fn Tryz.prog 55 [scp at' st] (litB true):=by
 have ha:=atoms11_fn at' st h
 refine Fn.enter (n:=32) Tryz.func55 rfl rfl rfl rfl rfl (by decide) fun g hro_ hwt_=>?_;(try refine nz ?_)
 (refine J164 ?_;refine J58 ?_;refine J13 ?_;refine J145 ?_;refine J45 ?_;refine J158 ?_)
 (refine nz ?_;apply AW.loopR [6,1] [0] (fun k:Nat=>([(3,litI k)]:List (Nat×AV))) (fun k:Nat=>([]:List (Nat×Option Ob))) (fun k:Nat=>k≤at'.length) (fun k:Nat=>at'.length - k) (0);(conv=>lhs;simp only[Nf.lpR,Nf.all,Nat.reduceBEq,reduceAdd,reduceSub]);(all_goals skip))
 ·exact Nat.zero_le _
 ·exact J84
 rintro k hk
 by_cases hlt:k<at'.length
 ·have h1:=h.2 _ (List.getElem_mem hlt)
  have h2:=h5 _ (List.getElem_mem hlt)
  (refine J179 ?_;refine J3 ?_;refine J2 ?_;refine J312 ?_;(focus ((with_reducible apply AOps.index_map);(iterate 7 exact rfl);rotate_left;omega));refine zr ?_;refine zs ?_;refine J40 ?_;refine AOps.fieldAddrN 30 0 0 rfl rfl rfl rfl ?_;refine J31 ?_;refine J40 ?_;(focus ((with_reducible apply AOps.index_map);(iterate 7 exact rfl);rotate_left;omega));refine J220 ?_;refine J75 ?_;refine J159 ?_)
  exact⟨k+1,by omega,by omega,weak rfl (by(refine⟨.eq rfl rfl,?_⟩;(iterate 2 refine⟨.eq rfl rfl,?_⟩);exact trivial)) (by(refine⟨.box _ rfl ?_,?_⟩;(iterate 2 refine⟨.eq rfl rfl,?_⟩);(iterate 2 exact trivial))) rfl⟩
 ·have e:=decide_eq_true hs
  (refine J179 ?_;refine J101 ?_;refine J2 ?_;refine J30 ?_;refine zA (ha) ?_;refine AOps.leq rfl rfl rfl rfl rfl ?_;refine J33 ?_)
  (apply ends_ret;(exact Res.one (.tmp rfl rfl));(refine Le.litB ?_;(first|rfl|(rw[e]))))
theorem valid11_fn (at':List Int) (st:Int) (p:List Int) (h:SmA at') (h4:at'.length≤4) (h5:∀x∈at',x≤5) (hs:at'.sum≤12) (hp:PermA p.length (fun x=>sortF at' x 0) p) (hl:(p.length:Int)=at'.sum):Fn Tryz.prog 18 [scp at' st,.pv (ints p)] (litB true):=by
 have hu:=usable_fn at' st h h4 h5 hs
 have ha:=atoms11_fn at' st h
 rw[← hl] at ha
 have hso:=fun x hx=>sort11_fn at' st x h hx
 refine Fn.enter (n:=63) Tryz.func18 rfl rfl rfl rfl rfl (by decide) fun g hro_ hwt_=>?_;(try refine nz ?_)
 (refine J164 ?_;refine J58 ?_;refine J30 ?_;refine zA (hu) ?_;refine J153 ?_;refine zl ?_;refine zm ?_;refine zl ?_;refine zn ?_;refine J128 ?_;refine zA (ha) ?_;refine zl ?_;refine AOps.neq rfl rfl rfl rfl rfl ?_;refine AOps.pick_lf rfl rfl rfl rfl rfl rfl ?_;refine J45 ?_;refine J158 ?_)
 (refine nz ?_;apply AW.loopR [14,2,1] [0] (fun i:Nat=>([(5,litI i)]:List (Nat×AV))) (fun i:Nat=>([]:List (Nat×Option Ob))) (fun i:Nat=>i≤p.length) (fun i:Nat=>p.length - i) (0);(conv=>lhs;simp only[Nf.lpR,Nf.all,Nat.reduceBEq,reduceAdd,reduceSub]);(all_goals skip))
 ·exact Nat.zero_le _
 ·exact J196
 rintro i hi
 by_cases hlt:i<p.length
 ·have hx:=hp.rng _ (List.getElem_mem hlt)
  have e:=hp.srt i hlt
  have s1:=hso p[i] (by omega)
  have s2:=hso (i:Int) (by omega)
  rw[e] at s1
  generalize sortF at' (i:Int) 0=sv at s1 s2
  clear e
  (refine J96 ?_;refine zn ?_;refine J3 ?_;(iterate 2 refine zo ?_);(with_reducible apply AW.regionQ);exact rfl;exact rfl;kernel_rfl;(with_reducible assumption);(iterate 2 refine zm ?_);(focus ((with_reducible apply AOps.index_map);(iterate 7 exact rfl);rotate_left;omega));refine zr ?_;refine zs ?_;refine J218 ?_;refine J40 ?_;(focus ((with_reducible apply AOps.index_map);(iterate 7 exact rfl);rotate_left;omega));refine J220 ?_;refine J40 ?_;refine zn ?_;refine zy ?_;refine J115 ?_;refine J40 ?_;refine J30 ?_;refine zy ?_;refine J218 ?_;(focus ((with_reducible apply AOps.index_map);(iterate 7 exact rfl);rotate_left;omega));refine J220 ?_;refine zA (s1) ?_;refine zy ?_;refine J30 ?_;refine zy ?_;refine J40 ?_;refine zA (s2) ?_;refine zy ?_;refine J161 ?_;refine J45 ?_;refine J2 ?_;refine J126 ?_)
  (refine nz ?_;apply AW.loopR [5,14,2,1] [0] (fun k:Nat=>([(6,litI k)]:List (Nat×AV))) (fun k:Nat=>([]:List (Nat×Option Ob))) (fun k:Nat=>k≤i) (fun k:Nat=>i - k) (0);(conv=>lhs;simp only[Nf.lpR,Nf.all,Nat.reduceBEq,reduceAdd,reduceSub]);(all_goals skip))
  ·exact Nat.zero_le _
  ·exact J196
  rintro k hk
  by_cases hlt2:k<i
  ·have hne:¬p[k]=p[i]:=fun e=>by
    have:=(List.getElem_inj hp.nodup).1 e
    omega
   (refine J96 ?_;refine J3 ?_;refine zo ?_;(with_reducible apply AW.regionQ);exact rfl;exact rfl;kernel_rfl;(with_reducible assumption);(iterate 2 refine zm ?_);(focus ((with_reducible apply AOps.index_map);(iterate 7 exact rfl);rotate_left;omega));refine zr ?_;(iterate 2 refine zm ?_);(focus ((with_reducible apply AOps.index_map);(iterate 7 exact rfl);rotate_left;omega));refine zr ?_;refine AOps.eql rfl rfl rfl rfl rfl ?_;refine J159 ?_)
   exact⟨k+1,by omega,by omega,weak rfl (by(first|(refine⟨.eq rfl rfl,?_⟩;(iterate 4 refine⟨.eq rfl rfl,?_⟩);exact trivial)|(refine⟨.eq rfl rfl,?_⟩;(iterate 3 refine⟨.eq rfl rfl,?_⟩);exact trivial))) (by(refine⟨.box _ rfl ?_,?_⟩;(iterate 2 refine⟨.eq rfl rfl,?_⟩);(iterate 2 exact trivial))) rfl⟩
  ·(refine J96 ?_;refine zs ?_;refine zd ?_;refine J4 ?_;refine J77 ?_)
   exact⟨i+1,by omega,by omega,weak rfl (by(first|(refine⟨.eq rfl rfl,?_⟩;(iterate 4 refine⟨.eq rfl rfl,?_⟩);exact trivial)|(refine⟨.eq rfl rfl,?_⟩;(iterate 3 refine⟨.eq rfl rfl,?_⟩);exact trivial))) (by(refine⟨.box _ rfl ?_,?_⟩;(iterate 2 refine⟨.eq rfl rfl,?_⟩);(iterate 2 exact trivial))) rfl⟩
 ·(refine J96 ?_;refine zn ?_;refine J246 ?_)
  (apply ends_ret;(exact Res.one (.tmp rfl rfl));(refine Le.litB ?_;(rfl)))
end Go.Ab
