/- Chapters 05 to 07: relations, states, models as data; equality, the next state. -/
import Derived.Test.YtijkecidjjicbaaGreatDoorRows
import Derived.Test.YtijkecidjjicbaaGreatDoorAbZ
import Derived.Test.YtijkecidjjicbaaGreatDoorAbL3
import Derived.Test.YtijkecidjjicbaaGreatDoorAbL2
set_option linter.unusedSimpArgs false
set_option linter.unusedVariables false
namespace Go.Ab
open Go Go.Proofs
set_option maxRecDepth 20000
set_option maxHeartbeats 2000000
attribute [local irreducible] AW AOps thenD inBlockD
theorem take_succ_get {α:Type} {l:List α} {k:Nat} (hk:k<l.length):l.take (k+1)=l.take k++ [l[k]]:=List.take_succ_eq_append_getElem hk
theorem take_all {α:Type} {l:List α} {k:Nat} (h:¬(k:Int)<(l.length:Int)):l.take k=l:=List.take_of_length_le (by omega)
abbrev RelM:=Int×List Int
def encR (r:RelM):List PV:=[.lit (.int .i64 r.1),ints r.2]
abbrev rels (l:List RelM):PV:=.slice 2 (l.map encR)
abbrev stts (l:List (List RelM)):PV:=.slice 1 (l.map fun s=>[rels s])
abbrev relA (r:RelM):AV:=.agg [litI r.1,.pv (ints r.2)]
structure ModM where
 atoms:List Int
 steps:Int
 states:List (List RelM)
 loop:Int
deriving DecidableEq
abbrev mdl (m:ModM):AV:=.agg [.pv (ints m.atoms),litI m.steps,.pv (stts m.states),litI m.loop]
theorem eq_at_end {α:Type} {a b:List α} {k:Nat} (hl:a.length=b.length) (h:a.take k=b.take k) (hk:¬k<a.length):a=b:=by
 rwa [List.take_of_length_le (by omega),List.take_of_length_le (by omega)] at h
theorem eq_step {α:Type} {a b:List α} {k:Nat} (h:a.take k=b.take k) (ha:k<a.length) (hb:k<b.length) (e:a[k]=b[k]):a.take (k+1)=b.take (k+1):=by
 rw[take_succ_get ha,take_succ_get hb,h,e]
theorem sEqual_fn (a b:List Int):Fn Tryz.prog 52 [.pv (ints a),.pv (ints b)] (litB (decide (a=b))):=by
 refine Fn.enter (n:=26) Tryz.func52 rfl rfl rfl rfl rfl (by decide) fun g hro_ hwt_=>?_;(try refine nz ?_)
 refine AW.len_map 0 rfl fun hlen=>?_
 by_cases hab:a.length=b.length
 ·(refine j357 ?_;refine j166 ?_;refine j130 ?_;refine zm ?_;refine j97 ?_)
  refine AW.loop (fun(k:Nat)=>{n:=26,env:=[(0,.pv (ints a)),(1,.pv (ints b)),(12,litI a.length),(13,litI k)],objs:=[],nx:=0}) (fun k=>k≤a.length∧a.take k=b.take k) (fun k=>a.length - k) 0 ?_ ?_ ?_
  ·simp
  ·exact j265
  rintro k ⟨hk,hno⟩
  by_cases hlt:k<a.length
  ·have hlt2:k<b.length:=by omega
   (refine j303 ?_;refine j3 ?_;refine zo ?_;refine j91 ?_;(iterate 2 refine zm ?_);(focus ((with_reducible apply AOps.index_map);(iterate 7 exact rfl);rotate_left;omega));refine zr ?_;(iterate 2 refine zm ?_);(focus ((with_reducible apply AOps.index_map);(iterate 7 exact rfl);rotate_left;omega));refine j345 ?_;refine zd ?_;(focus ((with_reducible apply AW.condD);exact rfl;exact rfl;all_goals intro hc_));refine j2 ?_;refine j11 ?_;refine j10 ?_;(all_goals skip);rotate_left;refine AW.skip ?_;refine j88 ?_;(all_goals skip);rotate_left)
   ·have hne:¬a=b:=by rintro rfl;exact hc_ rfl
    (apply ends_ret;(exact Res.one (.tmp rfl rfl));(refine Le.litB ?_;(rw[eq_comm,decide_eq_false_iff_not];exact hne)))
   ·exact⟨k+1,⟨by omega,eq_step hno hlt hlt2 (Decidable.not_not.1 hc_)⟩,by omega,weak rfl (by(refine⟨.eq rfl rfl,?_⟩;(iterate 3 refine⟨.eq rfl rfl,?_⟩);exact trivial)) (by(exact trivial)) rfl⟩
  ·have he:a=b:=eq_at_end hab hno hlt
   (refine j215 ?_;refine j11 ?_)
   (apply ends_ret;(exact Res.one (.tmp rfl rfl));(refine Le.litB ?_;(rw[eq_comm,decide_eq_true_iff];exact he)))
 ·have hne:¬a=b:=by rintro rfl;exact hab rfl
  (refine j357 ?_;refine j268 ?_)
  (apply ends_ret;(exact Res.one (.tmp rfl rfl));(refine Le.litB ?_;(rw[eq_comm,decide_eq_false_iff_not];exact hne)))
theorem ints_fn (a b:List Int):Fn Tryz.prog 31 [.pv (ints a),.pv (ints b)] (litB (decide (a=b))):=by
 refine Fn.enter (n:=26) Tryz.func31 rfl rfl rfl rfl rfl (by decide) fun g hro_ hwt_=>?_;(try refine nz ?_)
 refine AW.len_map 0 rfl fun hlen=>?_
 by_cases hab:a.length=b.length
 ·(refine j357 ?_;refine j299 ?_)
  refine AW.loop (fun(k:Nat)=>{n:=26,env:=[(0,.pv (ints a)),(1,.pv (ints b)),(5,litI k)],objs:=[],nx:=0}) (fun k=>k≤a.length∧a.take k=b.take k) (fun k=>a.length - k) 0 ?_ ?_ ?_
  ·simp
  ·exact weak rfl (by(refine⟨.eq rfl rfl,?_⟩;(iterate 2 refine⟨.eq rfl rfl,?_⟩);exact trivial)) (by(exact trivial)) rfl
  rintro k ⟨hk,hno⟩
  by_cases hlt:k<a.length
  ·have hlt2:k<b.length:=by omega
   (refine j142 ?_;refine j39 ?_;refine zo ?_;refine j91 ?_;(iterate 2 refine zm ?_);(focus ((with_reducible apply AOps.index_map);(iterate 7 exact rfl);rotate_left;omega));refine zr ?_;(iterate 2 refine zm ?_);(focus ((with_reducible apply AOps.index_map);(iterate 7 exact rfl);rotate_left;omega));refine j345 ?_;refine zd ?_;(focus ((with_reducible apply AW.condD);exact rfl;exact rfl;all_goals intro hc_));refine j2 ?_;refine j11 ?_;refine j10 ?_;(all_goals skip);rotate_left;refine j171 ?_;(all_goals skip);rotate_left)
   ·have hne:¬a=b:=by rintro rfl;exact hc_ rfl
    (apply ends_ret;(exact Res.one (.tmp rfl rfl));(refine Le.litB ?_;(rw[eq_comm,decide_eq_false_iff_not];exact hne)))
   ·exact⟨k+1,⟨by omega,eq_step hno hlt hlt2 (Decidable.not_not.1 hc_)⟩,by omega,weak rfl (by(refine⟨.eq rfl rfl,?_⟩;(iterate 2 refine⟨.eq rfl rfl,?_⟩);exact trivial)) (by(exact trivial)) rfl⟩
  ·have he:a=b:=eq_at_end hab hno hlt
   (refine j142 ?_;refine j337 ?_)
   (apply ends_ret;(exact Res.one (.tmp rfl rfl));(refine Le.litB ?_;(rw[eq_comm,decide_eq_true_iff];exact he)))
 ·have hne:¬a=b:=by rintro rfl;exact hab rfl
  (refine j357 ?_;refine j268 ?_)
  (apply ends_ret;(exact Res.one (.tmp rfl rfl));(refine Le.litB ?_;(rw[eq_comm,decide_eq_false_iff_not];exact hne)))
theorem relEqual_fn (a b:RelM):Fn Tryz.prog 51 [relA a,relA b] (litB (decide (a=b))):=by
 obtain⟨a1,a2⟩:=a
 obtain⟨b1,b2⟩:=b
 have hs:=sEqual_fn a2 b2
 by_cases h1:a1=b1
 ·have he:decide ((a1,a2)=(b1,b2))=decide (a2=b2):=by simp [h1]
  rw[he]
  refine Fn.enter (n:=17) Tryz.func51 rfl rfl rfl rfl rfl (by decide) fun g hro_ hwt_=>?_;(try refine nz ?_)
  (refine j187 ?_;(iterate 2 refine j89 ?_);refine AOps.eql rfl rfl rfl rfl rfl ?_;refine zm ?_;refine j186 ?_;refine AOps.fieldAddrN 54 1 1 rfl rfl rfl rfl ?_;refine zt ?_;refine zb ?_;refine zt ?_;refine AOps.call (hs) (.cons rfl (.pv _) (.cons rfl (.pv _) .nil)) rfl rfl (fun h_=>by cases h_) ?_;refine zT ?_;refine j11 ?_)
  (apply ends_ret;(exact Res.one (.tmp rfl rfl));(refine Le.litB ?_;(rfl)))
 ·have he:decide ((a1,a2)=(b1,b2))=false:=by simp [h1]
  rw[he]
  refine Fn.enter (n:=17) Tryz.func51 rfl rfl rfl rfl rfl (by decide) fun g hro_ hwt_=>?_;(try refine nz ?_)
  (refine j187 ?_;(iterate 2 refine j89 ?_);refine AOps.eql rfl rfl rfl rfl rfl ?_;refine zm ?_;(iterate 5 refine AOps.guardTn rfl rfl rfl rfl rfl rfl (by with_reducible assumption) ?_);refine zF ?_;refine j11 ?_)
  (apply ends_ret;(exact Res.one (.tmp rfl rfl));(refine Le.litB ?_;(rfl)))
theorem rEqual_fn (a b:RelM):Fn Tryz.prog 37 [relA a,relA b] (litB (decide (a=b))):=by
 obtain⟨c,a⟩:=a
 obtain⟨d,b⟩:=b
 by_cases h1:c=d
 ·subst h1
  have he:decide ((c,a)=(c,b))=decide (a=b):=by simp
  rw[he]
  refine Fn.enter (n:=38) Tryz.func37 rfl rfl rfl rfl rfl (by decide) fun g hro_ hwt_=>?_;(try refine nz ?_)
  refine AW.len_agg 0 1 rfl rfl fun hlen=>?_
  simp only at hlen
  by_cases hab:a.length=b.length
  ·(refine j239 ?_;refine j299 ?_)
   refine AW.loop (fun(k:Nat)=>{n:=38,env:=[(2,.ptr 0 0),(3,.ptr 1 0),(5,litI k)],objs:=[(0,some (.box [litI c,.pv (ints a)])),(1,some (.box [litI c,.pv (ints b)]))],nx:=2}) (fun k=>k≤a.length∧a.take k=b.take k) (fun k=>a.length - k) 0 ?_ ?_ ?_
   ·simp
   ·exact weak rfl (by(refine⟨.eq rfl rfl,?_⟩;(iterate 2 refine⟨.eq rfl rfl,?_⟩);exact trivial)) (by(refine⟨.box _ rfl ?_,?_⟩;(iterate 2 refine⟨.eq rfl rfl,?_⟩);exact trivial;refine⟨.box _ rfl ?_,?_⟩;(iterate 2 refine⟨.eq rfl rfl,?_⟩);(iterate 2 exact trivial))) rfl
   rintro k ⟨hk,hno⟩
   by_cases hlt:k<a.length
   ·have hlt2:k<b.length:=by omega
    (refine j224 ?_;refine zm ?_;(focus ((with_reducible apply AOps.index_map);(iterate 7 exact rfl);rotate_left;omega));refine zr ?_;refine j83 ?_;refine zm ?_;(focus ((with_reducible apply AOps.index_map);(iterate 7 exact rfl);rotate_left;omega));refine j345 ?_;refine zd ?_;(focus ((with_reducible apply AW.condD);exact rfl;exact rfl;all_goals intro hc_));refine j2 ?_;refine j11 ?_;refine j10 ?_;(all_goals skip);rotate_left;refine j171 ?_;(all_goals skip);rotate_left)
    ·have hne:¬a=b:=by rintro rfl;exact hc_ rfl
     (apply ends_ret;(exact Res.one (.tmp rfl rfl));(refine Le.litB ?_;(rw[eq_comm,decide_eq_false_iff_not];exact hne)))
    ·exact⟨k+1,⟨by omega,eq_step hno hlt hlt2 (Decidable.not_not.1 hc_)⟩,by omega,weak rfl (by(refine⟨.eq rfl rfl,?_⟩;(iterate 2 refine⟨.eq rfl rfl,?_⟩);exact trivial)) (by(refine⟨.box _ rfl ?_,?_⟩;(iterate 2 refine⟨.eq rfl rfl,?_⟩);exact trivial;refine⟨.box _ rfl ?_,?_⟩;(iterate 2 refine⟨.eq rfl rfl,?_⟩);(iterate 2 exact trivial))) rfl⟩
   ·have he:a=b:=eq_at_end hab hno hlt
    (refine j26 ?_;refine j83 ?_;refine j337 ?_)
    (apply ends_ret;(exact Res.one (.tmp rfl rfl));(refine Le.litB ?_;(rw[eq_comm,decide_eq_true_iff];exact he)))
  ·have hne:¬a=b:=by rintro rfl;exact hab rfl
   (refine j239 ?_;refine j268 ?_)
   (apply ends_ret;(exact Res.one (.tmp rfl rfl));(refine Le.litB ?_;(rw[eq_comm,decide_eq_false_iff_not];exact hne)))
 ·have he:decide ((c,a)=(d,b))=false:=by simp [h1]
  rw[he]
  refine Fn.enter (n:=38) Tryz.func37 rfl rfl rfl rfl rfl (by decide) fun g hro_ hwt_=>?_;(try refine nz ?_)
  (refine j131 ?_;(iterate 2 refine j89 ?_);refine AOps.neq rfl rfl rfl rfl rfl ?_;refine zm ?_;(iterate 7 refine AOps.guardFn rfl rfl rfl rfl rfl rfl (by with_reducible assumption) ?_);refine j148 ?_)
  (apply ends_ret;(exact Res.one (.tmp rfl rfl));(refine Le.litB ?_;(rfl)))
end Go.Ab
/- Chapter 05's small functions,and their like in chapter 07's reference:sums,sorts,scopes. -/
namespace Go.Ab
open Go Go.Proofs
set_option maxRecDepth 20000
set_option maxHeartbeats 4000000
abbrev SortM:=ByteArray×Bool
structure FieldM where
 name:ByteArray
 sorts:List Int
 var:Bool
structure SlV where
 a:Option Addr
 l:Nat
 c:Nat
def encSo (s:SortM):List PV:=[.lit (.string s.1),.lit (.bool s.2)]
def encF (f:FieldM):List PV:=[.lit (.string f.name),ints f.sorts,.lit (.bool f.var)]
structure SpecM where
 sorts:List SortM
 fields:List FieldM
 preds:SlV
 facts:SlV
abbrev slv (s:SlV):AV:=.pv (.lit (.slice s.a s.l s.c))
abbrev spc (s:SpecM):AV:=.agg [.pv (.slice 2 (s.sorts.map encSo)),.pv (.slice 3 (s.fields.map encF)),slv s.preds,slv s.facts]
abbrev scp (at':List Int) (st:Int):AV:=.agg [.pv (ints at'),litI st]
def SmA (at':List Int):Prop:=at'.length≤1000∧∀x∈at',0≤x∧x≤1000
theorem sum_snoc (l:List Int) {k:Nat} (hk:k<l.length):(l.take (k+1)).sum=(l.take k).sum+l[k]:=by
 rw[take_succ_get hk,List.sum_append];simp
theorem sum_bound:∀(l:List Int),(∀x∈l,0≤x∧x≤1000)→0≤l.sum∧l.sum≤1000*l.length:=by
 intro l
 induction l with
 |nil=>intro _;simp
 |cons x l ih=>
  intro h
  have h1:=h x (by simp)
  have h2:=ih fun y hy=>h y (by simp [hy])
  simp only[List.sum_cons,List.length_cons]
  omega
theorem SmA.take {at':List Int} (h:SmA at') (k:Nat):0≤(at'.take k).sum∧(at'.take k).sum≤1000000:=by
 have h1:=sum_bound (at'.take k) fun x hx=>h.2 x (List.mem_of_mem_take hx)
 have h2:=List.length_take_le k at'
 have h3:(at'.take k).length≤1000:=by have:=h.1;simp;omega
 omega
attribute [local irreducible] AW AOps thenD inBlockD AR iterEnds roundEndsN inlEnds noGotoD
theorem sum_fn (l:List Int) (h:SmA l):Fn Tryz.prog 78 [.pv (ints l)] (litI l.sum):=by
 have hb:=h.take
 have hle:=h.1
 refine Fn.enter (n:=17) Tryz.func78 rfl rfl rfl rfl rfl (by decide) fun g hro_ hwt_=>?_;(try refine nz ?_)
 (refine j235 ?_;refine j37 ?_;refine zm ?_;refine j97 ?_)
 refine AW.loop (fun(k:Nat)=>{n:=17,env:=[(3,litI (l.take k).sum),(6,.pv (ints l)),(7,litI l.length),(8,litI k)],objs:=[],nx:=0}) (fun k=>k≤l.length) (fun k=>l.length - k) 0 ?_ ?_ ?_
 ·exact Nat.zero_le _
 ·exact j265
 rintro k hk
 by_cases hlt:k<l.length
 ·have hs:=sum_snoc l hlt
  have h1:=hb k
  have h2:=hb (k+1)
  (refine j7 ?_;(focus ((with_reducible apply AOps.index_map);(iterate 7 exact rfl);rotate_left;omega));refine zr ?_;refine j3 ?_;refine j214 ?_;refine zj ?_;refine j323 ?_;refine j88 ?_)
  exact⟨k+1,by omega,by omega,weak rfl (by(refine⟨.intE (by first|with_reducible rfl|(rw[hs])),?_⟩;refine⟨.pvE (by first|with_reducible rfl|(rw[hs])),?_⟩;refine⟨.intE (by first|with_reducible rfl|(rw[hs])),?_⟩;refine⟨.eq rfl rfl,?_⟩;exact trivial)) (by(exact trivial)) rfl⟩
 ·rw[take_all (l:=l) (by omega)]
  (refine j215 ?_;refine zm ?_;refine j11 ?_)
  (apply ends_ret;(exact Res.one (.tmp rfl rfl));(refine Le.litI ?_;(rfl)))
theorem atoms_fn (at':List Int) (st:Int) (h:SmA at'):Fn Tryz.prog 46 [scp at' st] (litI at'.sum):=by
 refine Fn.enter (n:=6) Tryz.func46 rfl rfl rfl rfl rfl (by decide) fun g hro_ hwt_=>?_;(try refine nz ?_)
 (refine zq ?_;refine j40 ?_;refine j58 ?_;refine j28 ?_;refine AOps.call (sum_fn at' h) (.cons rfl (.pv _) .nil) rfl rfl (fun h_=>by cases h_) ?_;refine j11 ?_)
 (apply ends_ret;(exact Res.one (.tmp rfl rfl));(refine Le.litI ?_;(rfl)))
theorem rAtoms_fn (at':List Int) (st:Int) (h:SmA at'):Fn Tryz.prog 33 [scp at' st] (litI at'.sum):=by
 have hb:=h.take
 have hle:=h.1
 refine Fn.enter (n:=20) Tryz.func33 rfl rfl rfl rfl rfl (by decide) fun g hro_ hwt_=>?_;(try refine nz ?_)
 (refine zq ?_;refine j40 ?_;refine j58 ?_;refine j311 ?_)
 refine AW.loop (fun(k:Nat)=>{n:=20,env:=[(1,.ptr 0 0),(3,litI (at'.take k).sum),(4,litI k)],objs:=[(0,some (.box [.pv (ints at'),litI st]))],nx:=1}) (fun k=>k≤at'.length) (fun k=>at'.length - k) 0 ?_ ?_ ?_
 ·exact Nat.zero_le _
 ·exact j162
 rintro k hk
 by_cases hlt:k<at'.length
 ·have hs:=sum_snoc at' hlt
  have h1:=hb k
  have h2:=hb (k+1)
  (refine j312 ?_;refine j372 ?_;refine j28 ?_;refine zm ?_;(focus ((with_reducible apply AOps.index_map);(iterate 7 exact rfl);rotate_left;omega));refine zr ?_;refine zj ?_;refine j158 ?_)
  exact⟨k+1,by omega,by omega,weak rfl (by(refine⟨.eq rfl rfl,?_⟩;refine⟨.intE (by first|with_reducible rfl|(rw[hs])),?_⟩;refine⟨.eq rfl rfl,?_⟩;exact trivial)) (by(refine⟨.box _ rfl ?_,?_⟩;refine⟨.pvE (by first|with_reducible rfl|(rw[hs])),?_⟩;refine⟨.intE (by first|with_reducible rfl|(rw[hs])),?_⟩;(iterate 2 exact trivial))) rfl⟩
 ·rw[take_all (l:=at') (by omega)]
  (refine j26 ?_;refine j28 ?_;refine j156 ?_;refine zm ?_;refine j11 ?_)
  (apply ends_ret;(exact Res.one (.tmp rfl rfl));(refine Le.litI ?_;(rfl)))
theorem first_fn (at':List Int) (st:Int) (s:Nat) (h:SmA at') (hs:s≤at'.length):Fn Tryz.prog 75 [scp at' st,litI s] (litI (at'.take s).sum):=by
 have h2:SmA (at'.take s):=⟨by have:=h.1;simp;omega,fun x hx=>h.2 x (List.mem_of_mem_take hx)⟩
 refine Fn.enter (n:=10) Tryz.func75 rfl rfl rfl rfl rfl (by decide) fun g hro_ hwt_=>?_;(try refine nz ?_)
 (refine zq ?_;refine j40 ?_;refine j58 ?_;refine j28 ?_;refine zm ?_;refine AOps.slice_to rfl rfl rfl rfl rfl rfl rfl (by omega) ?_;refine AOps.call (sum_fn (at'.take s) h2) (.cons rfl (.pv _) .nil) rfl rfl (fun h_=>by cases h_) ?_;refine j11 ?_)
 (apply ends_ret;(exact Res.one (.tmp rfl rfl));(refine Le.litI ?_;(rfl)))
theorem within_fn (n a b:Int):Fn Tryz.prog 73 [litI n,litI a,litI b] (litB (decide (a≤n∧n≤b))):=by
 by_cases h1:a≤n
 ·by_cases h2:n≤b
  ·rw[decide_eq_true ⟨h1,h2⟩]
   refine Fn.enter (n:=15) Tryz.func73 rfl rfl rfl rfl rfl (by decide) fun g hro_ hwt_=>?_;(try refine nz ?_)
   (refine j235 ?_;(iterate 2 refine zm ?_);refine AOps.geq rfl rfl rfl rfl rfl ?_;refine j41 ?_;refine zm ?_;refine j295 ?_)
   (apply ends_ret;(exact Res.one (.tmp rfl rfl));(refine Le.litB ?_;(first|rfl|exact decide_eq_true (by omega))))
  ·rw[decide_eq_false (fun h=>h2 h.2)]
   refine Fn.enter (n:=15) Tryz.func73 rfl rfl rfl rfl rfl (by decide) fun g hro_ hwt_=>?_;(try refine nz ?_)
   (refine j235 ?_;(iterate 2 refine zm ?_);refine AOps.geq rfl rfl rfl rfl rfl ?_;refine j41 ?_;refine zm ?_;refine j295 ?_)
   (apply ends_ret;(exact Res.one (.tmp rfl rfl));(refine Le.litB ?_;(first|rfl|exact decide_eq_false (by omega))))
 ·rw[decide_eq_false (fun h=>h1 h.1)]
  refine Fn.enter (n:=15) Tryz.func73 rfl rfl rfl rfl rfl (by decide) fun g hro_ hwt_=>?_;(try refine nz ?_)
  (refine j235 ?_;(iterate 2 refine zm ?_);refine AOps.geq rfl rfl rfl rfl rfl ?_;refine zm ?_;(iterate 3 refine AOps.guardTn rfl rfl rfl rfl rfl rfl (by with_reducible assumption) ?_);refine zF ?_;refine j11 ?_)
  (apply ends_ret;(exact Res.one (.tmp rfl rfl));(refine Le.litB ?_;(first|rfl|exact decide_eq_false (by omega))))
def sizesOk (at':List Int):Bool:=at'.all fun n=>decide (1≤n∧n≤5)
def scopeOk (k:Nat) (at':List Int) (st:Int):Bool:=decide (k≤4∧at'.length=k∧1≤st∧st≤4) && sizesOk at' && decide (at'.sum≤12)
theorem sizesOk_no {at':List Int} {k:Nat} (hk:k<at'.length) (h:¬(1≤at'[k]∧at'[k]≤5)):sizesOk at'=false:=by
 unfold sizesOk;rw[List.all_eq_false];exact⟨_,List.getElem_mem hk,by simpa using h⟩
theorem sizesOk_all {at':List Int}:sizesOk at'=true↔∀x∈at',1≤x∧x≤5:=by
 unfold sizesOk;rw[List.all_eq_true];simp
theorem sizesOk_sm {at':List Int} (h:sizesOk at'=true) (hl:at'.length≤1000):SmA at':=⟨hl,fun x hx=>by have:=sizesOk_all.1 h x hx;omega⟩
theorem sizes_step {at':List Int} {k:Nat} (h:sizesOk (at'.take k)=true) (hk:k<at'.length) (hx:1≤at'[k]∧at'[k]≤5):sizesOk (at'.take (k+1))=true:=by
 rw[sizesOk_all] at*
 rw[take_succ_get hk]
 intro x hm
 rcases List.mem_append.1 hm with hm|hm
 ·exact h x hm
 ·simp at hm;subst hm;exact hx
theorem uValid_fn (s:SpecM) (at':List Int) (st:Int):Fn Tryz.prog 45 [spc s,scp at' st] (litB (scopeOk s.sorts.length at' st)):=by
 obtain⟨so,fs,p,q⟩:=s
 simp only
 by_cases h1:so.length≤4∧at'.length=so.length∧1≤st∧st≤4
 ·have he:scopeOk so.length at' st=(sizesOk at' && decide (at'.sum≤12)):=by unfold scopeOk;rw[decide_eq_true h1,Bool.true_and]
  rw[he]
  have hw:=within_fn st 1 4
  rw[decide_eq_true ⟨h1.2.2.1,h1.2.2.2⟩] at hw
  refine Fn.enter (n:=40) Tryz.func45 rfl rfl rfl rfl rfl (by decide) fun g hro_ hwt_=>?_;(try refine nz ?_)
  (refine j131 ?_;refine j62 ?_;refine j168 ?_;refine j85 ?_;refine j248 ?_;refine j85 ?_;refine j190 ?_;refine AOps.call (hw) (.cons rfl (.pv _) (.cons rfl (.pv _) (.cons rfl (.pv _) .nil))) rfl rfl (fun h_=>by cases h_) ?_;refine j123 ?_;refine zd ?_;refine j133 ?_;refine j130 ?_;refine j28 ?_;refine j97 ?_)
  refine AW.loop (fun(k:Nat)=>{n:=40,env:=[(3,.ptr 1 0),(27,.pv (ints at')),(28,litI at'.length),(29,litI k)],objs:=[(1,some (.box [.pv (ints at'),litI st]))],nx:=2}) (fun k=>k≤at'.length∧sizesOk (at'.take k)=true) (fun k=>at'.length - k) 0 ?_ ?_ ?_
  ·exact⟨Nat.zero_le _,rfl⟩
  ·exact weak rfl (by(refine⟨.eq rfl rfl,?_⟩;(iterate 3 refine⟨.eq rfl rfl,?_⟩);exact trivial)) (by(refine⟨.box _ rfl ?_,?_⟩;(iterate 2 refine⟨.eq rfl rfl,?_⟩);(iterate 2 exact trivial))) rfl
  rintro k ⟨hk,hok⟩
  by_cases hlt:k<at'.length
  ·have hw2:=within_fn at'[k] 1 5
   by_cases h2:1≤at'[k]∧at'[k]≤5
   ·rw[decide_eq_true h2] at hw2
    (refine j7 ?_;(focus ((with_reducible apply AOps.index_map);(iterate 7 exact rfl);rotate_left;omega));refine j356 ?_;refine AOps.call (hw2) (.cons rfl (.pv _) (.cons rfl (.pv _) (.cons rfl (.pv _) .nil))) rfl rfl (fun h_=>by cases h_) ?_;refine j216 ?_)
    exact⟨k+1,⟨by omega,sizes_step hok hlt h2⟩,by omega,weak rfl (by(refine⟨.eq rfl rfl,?_⟩;(iterate 3 refine⟨.eq rfl rfl,?_⟩);exact trivial)) (by(refine⟨.box _ rfl ?_,?_⟩;(iterate 2 refine⟨.eq rfl rfl,?_⟩);(iterate 2 exact trivial))) rfl⟩
   ·rw[decide_eq_false h2] at hw2
    have hz:=sizesOk_no hlt h2
    (refine j7 ?_;(focus ((with_reducible apply AOps.index_map);(iterate 7 exact rfl);rotate_left;omega));refine j356 ?_;refine AOps.call (hw2) (.cons rfl (.pv _) (.cons rfl (.pv _) (.cons rfl (.pv _) .nil))) rfl rfl (fun h_=>by cases h_) ?_;refine j300 ?_;refine j10 ?_)
    (apply ends_ret;(exact Res.one (.tmp rfl rfl));(refine Le.litB ?_;(rw[hz];rfl)))
  ·rw[take_all (l:=at') (by omega)] at hok
   have ha:=atoms_fn at' st (sizesOk_sm hok (by omega))
   rw[hok,Bool.true_and]
   (refine j215 ?_;refine j27 ?_;refine AOps.call (ha) (.cons rfl (.aggL (.cons (.pv _) (.cons (.pv _) .nil))) .nil) rfl rfl (fun h_=>by cases h_) ?_;refine AOps.leq rfl rfl rfl rfl rfl ?_;refine j11 ?_)
   (apply ends_ret;(exact Res.one (.tmp rfl rfl));(refine Le.litB ?_;(rfl)))
 ·have he:scopeOk so.length at' st=false:=by unfold scopeOk;rw[decide_eq_false h1];rfl
  rw[he]
  have hw:=within_fn st 1 4
  by_cases h3:1≤st∧st≤4
  ·rw[decide_eq_true h3] at hw
   refine Fn.enter (n:=40) Tryz.func45 rfl rfl rfl rfl rfl (by decide) fun g hro_ hwt_=>?_;(try refine nz ?_)
   (refine j131 ?_;refine j62 ?_;refine j168 ?_;refine zm ?_;(focus ((with_reducible apply AOps.guardF);(iterate 6 exact rfl);all_goals intro hc_));refine j248 ?_;refine zm ?_;(iterate 4 refine AOps.guardFn rfl rfl rfl rfl rfl rfl (by first|omega|decide) ?_);refine j148 ?_;(all_goals skip);rotate_left;(iterate 6 refine AOps.guardFn rfl rfl rfl rfl rfl rfl (by with_reducible assumption) ?_);refine j315 ?_;refine j134 ?_;refine j55 ?_;(all_goals skip);rotate_left)
   all_goals (apply ends_ret;(exact Res.one (.tmp rfl rfl));(refine Le.litB ?_;(first|rfl|exact decide_eq_false (by omega))))
  ·rw[decide_eq_false h3] at hw
   refine Fn.enter (n:=40) Tryz.func45 rfl rfl rfl rfl rfl (by decide) fun g hro_ hwt_=>?_;(try refine nz ?_)
   (refine j131 ?_;refine j62 ?_;refine j168 ?_;refine zm ?_;(focus ((with_reducible apply AOps.guardF);(iterate 6 exact rfl);all_goals intro hc_));refine j248 ?_;refine zm ?_;(focus ((with_reducible apply AOps.guardF);(iterate 6 exact rfl);all_goals intro hc_));refine j190 ?_;refine AOps.call (hw) (.cons rfl (.pv _) (.cons rfl (.pv _) (.cons rfl (.pv _) .nil))) rfl rfl (fun h_=>by cases h_) ?_;refine j123 ?_;refine j25 ?_;refine thenD_ret ?_;(all_goals skip);rotate_left;refine j110 ?_;refine j148 ?_;(all_goals skip);rotate_left;(iterate 6 refine AOps.guardFn rfl rfl rfl rfl rfl rfl (by with_reducible assumption) ?_);refine j315 ?_;refine j134 ?_;refine j55 ?_;(all_goals skip);rotate_left)
   all_goals (apply ends_ret;(exact Res.one (.tmp rfl rfl));(refine Le.litB ?_;(first|rfl|exact decide_eq_false (by omega))))
theorem rScope_fn (s:SpecM) (at':List Int) (st:Int):Fn Tryz.prog 27 [spc s,scp at' st] (litB (scopeOk s.sorts.length at' st)):=by
 obtain⟨so,fs,p,q⟩:=s
 simp only
 by_cases h1:so.length≤4∧at'.length=so.length∧1≤st∧st≤4
 ·have he:scopeOk so.length at' st=(sizesOk at' && decide (at'.sum≤12)):=by unfold scopeOk;rw[decide_eq_true h1,Bool.true_and]
  rw[he]
  refine Fn.enter (n:=53) Tryz.func27 rfl rfl rfl rfl rfl (by decide) fun g hro_ hwt_=>?_;(try refine nz ?_)
  (refine j131 ?_;refine j28 ?_;refine zn ?_;refine j62 ?_;refine j70 ?_;refine j85 ?_;refine j93 ?_;refine zy ?_;refine j84 ?_;refine j85 ?_;refine j190 ?_;refine zs ?_;refine zF ?_;refine j85 ?_;refine j190 ?_;refine j84 ?_;refine j299 ?_)
  refine AW.loop (fun(k:Nat)=>{n:=53,env:=[(3,.ptr 1 0),(5,litI k)],objs:=[(1,some (.box [.pv (ints at'),litI st]))],nx:=2}) (fun k=>k≤at'.length∧sizesOk (at'.take k)=true) (fun k=>at'.length - k) 0 ?_ ?_ ?_
  ·exact⟨Nat.zero_le _,rfl⟩
  ·exact weak rfl (by(refine⟨.eq rfl rfl,?_⟩;refine⟨.eq rfl rfl,?_⟩;exact trivial)) (by(refine⟨.box _ rfl ?_,?_⟩;(iterate 2 refine⟨.eq rfl rfl,?_⟩);(iterate 2 exact trivial))) rfl
  rintro k ⟨hk,hok⟩
  by_cases hlt:k<at'.length
  ·by_cases h2:1≤at'[k]∧at'[k]≤5
   ·(refine j312 ?_;refine j2 ?_;refine j28 ?_;refine zm ?_;(focus ((with_reducible apply AOps.index_map);(iterate 7 exact rfl);rotate_left;omega));refine j334 ?_;refine AOps.fieldAddrN 30 0 0 rfl rfl rfl rfl ?_;refine j38 ?_;refine j85 ?_;(focus ((with_reducible apply AOps.index_map);(iterate 7 exact rfl);rotate_left;omega));refine j163 ?_;refine j84 ?_;refine j316 ?_)
    exact⟨k+1,⟨by omega,sizes_step hok hlt h2⟩,by omega,weak rfl (by(refine⟨.eq rfl rfl,?_⟩;refine⟨.eq rfl rfl,?_⟩;exact trivial)) (by(refine⟨.box _ rfl ?_,?_⟩;(iterate 2 refine⟨.eq rfl rfl,?_⟩);(iterate 2 exact trivial))) rfl⟩
   ·have hz:=sizesOk_no hlt h2
    (refine j312 ?_;refine j2 ?_;refine j28 ?_;refine zm ?_;(focus ((with_reducible apply AOps.index_map);(iterate 7 exact rfl);rotate_left;omega));refine zr ?_;refine j353 ?_;(focus ((with_reducible apply AOps.guardF);(iterate 6 exact rfl);all_goals intro hc_));refine AOps.fieldAddrN 30 0 0 rfl rfl rfl rfl ?_;refine j38 ?_;refine j85 ?_;(focus ((with_reducible apply AOps.index_map);(iterate 7 exact rfl);rotate_left;omega));refine j163 ?_;refine j84 ?_;refine j185 ?_;(all_goals skip);rotate_left;refine j217 ?_;refine zT ?_;refine j25 ?_;refine j10 ?_;(all_goals skip);rotate_left)
    all_goals (apply ends_ret;(exact Res.one (.tmp rfl rfl));(refine Le.litB ?_;(rw[hz];rfl)))
  ·rw[take_all (l:=at') (by omega)] at hok
   have ha:=rAtoms_fn at' st (sizesOk_sm hok (by omega))
   rw[hok,Bool.true_and]
   (refine j26 ?_;refine j28 ?_;refine j156 ?_;refine j27 ?_;refine AOps.call (ha) (.cons rfl (.aggL (.cons (.pv _) (.cons (.pv _) .nil))) .nil) rfl rfl (fun h_=>by cases h_) ?_;refine AOps.leq rfl rfl rfl rfl rfl ?_;refine j11 ?_)
   (apply ends_ret;(exact Res.one (.tmp rfl rfl));(refine Le.litB ?_;(rfl)))
 ·have he:scopeOk so.length at' st=false:=by unfold scopeOk;rw[decide_eq_false h1];rfl
  rw[he]
  refine Fn.enter (n:=53) Tryz.func27 rfl rfl rfl rfl rfl (by decide) fun g hro_ hwt_=>?_;(try refine nz ?_)
  (refine j131 ?_;refine j28 ?_;refine zn ?_;refine j62 ?_;refine j70 ?_;refine zm ?_;(focus ((with_reducible apply AOps.guardF);(iterate 6 exact rfl);all_goals intro hc_));refine j93 ?_;refine zy ?_;refine j84 ?_;refine zm ?_;(focus ((with_reducible apply AOps.guardF);(iterate 6 exact rfl);all_goals intro hc_));refine j190 ?_;refine zs ?_;refine zF ?_;refine zm ?_;(focus ((with_reducible apply AOps.guardF);(iterate 6 exact rfl);all_goals intro hc_));refine j190 ?_;refine j84 ?_;refine j268 ?_;(all_goals skip);rotate_left;refine j109 ?_;refine j148 ?_;(all_goals skip);rotate_left;refine j109 ?_;refine j315 ?_;refine j113 ?_;refine j55 ?_;(all_goals skip);rotate_left;refine j110 ?_;refine j315 ?_;refine j113 ?_;refine j129 ?_;refine j113 ?_;refine j55 ?_;(all_goals skip);rotate_left)
  all_goals (apply ends_ret;(exact Res.one (.tmp rfl rfl));(refine Le.litB ?_;(first|rfl|exact decide_eq_false (by omega))))
end Go.Ab
/- Chapter 06's tests for well-formed relations,the program's and the reference's. -/
namespace Go.Ab
open Go Go.Proofs
set_option maxRecDepth 20000
set_option maxHeartbeats 4000000
theorem pow_bound {n:Int} (h:0≤n∧n≤1000):∀k:Nat,k≤3→0≤n ^ k∧n ^ k≤1000000000:=by
 intro k hk
 have h0:n ^ 0=1:=Int.pow_zero n
 have h1:n ^ 1=n:=by rw[Int.pow_succ,Int.pow_zero,Int.one_mul]
 have m2:0≤n*n∧n*n≤1000000:=⟨Int.mul_nonneg h.1 h.1,by
  have:=Int.mul_le_mul_of_nonneg_right h.2 h.1;omega⟩
 have h2:n ^ 2=n*n:=by rw[Int.pow_succ,h1]
 have h3:n ^ 3=n*n*n:=by rw[Int.pow_succ,h2]
 have m3:0≤n*n*n∧n*n*n≤1000000000:=⟨Int.mul_nonneg m2.1 h.1,by
  have:=Int.mul_le_mul_of_nonneg_right m2.2 h.1;omega⟩
 match k,hk with
 |0,_=>rw[h0];omega
 |1,_=>rw[h1];omega
 |2,_=>rw[h2];omega
 |3,_=>rw[h3];exact m3
attribute [local irreducible] AW AOps thenD inBlockD AR iterEnds roundEndsN inlEnds noGotoD
theorem power_fn (n:Int) (k:Nat) (hn:0≤n∧n≤1000) (hk:k≤3):Fn Tryz.prog 81 [litI n,litI k] (litI (n ^ k)):=by
 have hb:=pow_bound hn
 refine Fn.enter (n:=14) Tryz.func81 rfl rfl rfl rfl rfl (by decide) fun g hro_ hwt_=>?_;(try refine nz ?_)
 (refine j235 ?_;refine j37 ?_;(iterate 2 refine zm ?_);refine zd ?_;refine AW.block ?_)
 refine AW.loop (fun(j:Nat)=>{n:=14,env:=[(0,litI n),(5,litI (n ^ j)),(6,litI k),(7,litI j)],objs:=[],nx:=0}) (fun j=>j≤k) (fun j=>k - j) 0 ?_ ?_ ?_
 ·exact Nat.zero_le _
 ·exact j195
 rintro j hj
 by_cases hlt:j<k
 ·have h1:=hb j (by omega)
  have h2:=hb (j+1) (by omega)
  have he:n ^ (j+1)=n ^ j*n:=Int.pow_succ _ _
  rw[he] at h2
  (refine zq ?_;refine j139 ?_;refine zo ?_;refine j1 ?_;refine j214 ?_;refine AOps.mul rfl rfl rfl rfl rfl (by omega) ?_;refine j323 ?_;refine j88 ?_)
  exact j249
 ·obtain rfl:j=k:=by omega
  (refine j215 ?_;refine zm ?_;refine j11 ?_)
  (apply ends_ret;(exact Res.one (.tmp rfl rfl));(refine Le.litI ?_;(rfl)))
theorem rPower_fn (n:Int) (k:Nat) (hn:0≤n∧n≤1000) (hk:k≤3):Fn Tryz.prog 70 [litI n,litI k] (litI (n ^ k)):=by
 have hb:=pow_bound hn
 refine Fn.enter (n:=20) Tryz.func70 rfl rfl rfl rfl rfl (by decide) fun g hro_ hwt_=>?_;(try refine nz ?_)
 (refine j235 ?_;refine j311 ?_)
 refine AW.loop (fun(j:Nat)=>{n:=20,env:=[(0,litI n),(1,litI k),(5,litI (n ^ j)),(6,litI j)],objs:=[],nx:=0}) (fun j=>j≤k) (fun j=>k - j) 0 ?_ ?_ ?_
 ·exact Nat.zero_le _
 ·exact j195
 rintro j hj
 by_cases hlt:j<k
 ·have h1:=hb j (by omega)
  have h2:=hb (j+1) (by omega)
  have he:n ^ (j+1)=n ^ j*n:=Int.pow_succ _ _
  rw[he] at h2
  (refine j142 ?_;refine zs ?_;refine j41 ?_;refine zs ?_;refine zT ?_;refine zd ?_;refine j1 ?_;refine j214 ?_;refine AOps.mul rfl rfl rfl rfl rfl (by omega) ?_;refine j158 ?_)
  exact j249
 ·obtain rfl:j=k:=by omega
  (refine j142 ?_;refine j353 ?_;refine j259 ?_;refine zd ?_;refine j44 ?_;refine j2 ?_;refine zm ?_;refine j11 ?_)
  (apply ends_ret;(exact Res.one (.tmp rfl rfl));(refine Le.litI ?_;(rfl)))
def incrB (top:Int):Int→List Int→Bool
 |_,[]=>true
 |last,t::l=>decide (last<t∧t<top) && incrB top t l
theorem incrB_drop {top last:Int} {l:List Int} {k:Nat} (hk:k<l.length):incrB top last (l.drop k)=(decide (last<l[k]∧l[k]<top) && incrB top l[k] (l.drop (k+1))):=by
 rw[List.drop_eq_getElem_cons hk];rfl
def relOk (n:Int) (r:RelM):Bool:=decide (0≤n∧n≤12∧1≤r.1∧r.1≤3) && incrB (n ^ r.1.toNat) (-1) r.2
theorem relValid_fn (n:Int) (r:RelM):Fn Tryz.prog 48 [litI n,relA r] (litB (relOk n r)):=by
 obtain⟨ar,l⟩:=r
 unfold relOk
 simp only
 by_cases h1:0≤n∧n≤12∧1≤ar∧ar≤3
 ·rw[decide_eq_true h1,Bool.true_and]
  obtain⟨k,rfl⟩:∃k:Nat,ar=k:=⟨ar.toNat,by omega⟩
  rw[Int.toNat_natCast]
  have hp:=power_fn n k (by omega) (by omega)
  generalize n ^ k=top at hp ⊢
  refine Fn.enter (n:=44) Tryz.func48 rfl rfl rfl rfl rfl (by decide) fun g hro_ hwt_=>?_;(try refine nz ?_)
  refine AW.len_agg 1 1 rfl rfl fun hlen=>?_
  simp only at hlen
  (refine j370 ?_;refine zs ?_;refine j12 ?_;refine j84 ?_;refine j85 ?_;refine j114 ?_;refine zs ?_;refine zF ?_;refine j85 ?_;refine j114 ?_;refine j84 ?_;refine j166 ?_;refine j2 ?_;refine j37 ?_;refine j83 ?_;refine j97 ?_)
  refine AW.loop (S:=Nat×Int) (fun s=>{n:=44,env:=[(0,litI n),(3,.ptr 0 0),(5,litI s.2),(25,.pv (ints l)),(26,litI l.length),(27,litI s.1)],objs:=[(0,some (.box [litI k,.pv (ints l)]))],nx:=1}) (fun s=>s.1≤l.length∧incrB top (-1) l=incrB top s.2 (l.drop s.1)) (fun s=>l.length - s.1) (0,-1) ?_ ?_ ?_
  ·exact⟨Nat.zero_le _,rfl⟩
  ·exact weak rfl (by(refine⟨.eq rfl rfl,?_⟩;(iterate 5 refine⟨.eq rfl rfl,?_⟩);exact trivial)) (by(refine⟨.box _ rfl ?_,?_⟩;(iterate 2 refine⟨.eq rfl rfl,?_⟩);(iterate 2 exact trivial))) rfl
  rintro⟨j,last⟩ ⟨hj,he⟩
  simp only at hj he ⊢
  by_cases hlt:j<l.length
  ·rw[incrB_drop hlt] at he
   by_cases h2:last<l[j]∧l[j]<top
   ·rw[decide_eq_true h2,Bool.true_and] at he
    (refine j7 ?_;(focus ((with_reducible apply AOps.index_map);(iterate 7 exact rfl);rotate_left;omega));refine zr ?_;refine j37 ?_;(iterate 2 refine zm ?_);refine AOps.leq rfl rfl rfl rfl rfl ?_;refine j12 ?_;refine j85 ?_;refine j114 ?_;refine AOps.call (hp) (.cons rfl (.pv _) (.cons rfl (.pv _) .nil)) rfl rfl (fun h_=>by cases h_) ?_;refine j74 ?_;refine j166 ?_;refine j372 ?_;refine j323 ?_;refine j88 ?_)
    exact⟨(j+1,l[j]),⟨by show j+1≤_;omega,he⟩,by show l.length - (j+1)<l.length - j;omega,weak rfl (by(refine⟨.eq rfl rfl,?_⟩;(iterate 5 refine⟨.eq rfl rfl,?_⟩);exact trivial)) (by(refine⟨.box _ rfl ?_,?_⟩;(iterate 2 refine⟨.eq rfl rfl,?_⟩);(iterate 2 exact trivial))) rfl⟩
   ·rw[decide_eq_false h2,Bool.false_and] at he
    (refine j7 ?_;(focus ((with_reducible apply AOps.index_map);(iterate 7 exact rfl);rotate_left;omega));refine zr ?_;refine j37 ?_;(iterate 2 refine zm ?_);refine AOps.leq rfl rfl rfl rfl rfl ?_;refine zm ?_;(focus ((with_reducible apply AOps.guardF);(iterate 6 exact rfl);all_goals intro hc_));refine j12 ?_;refine j114 ?_;refine AOps.call (hp) (.cons rfl (.pv _) (.cons rfl (.pv _) .nil)) rfl rfl (fun h_=>by cases h_) ?_;refine j74 ?_;refine j268 ?_;refine j10 ?_;(all_goals skip);rotate_left;refine j217 ?_;refine j148 ?_;refine j10 ?_;(all_goals skip);rotate_left)
    all_goals (apply ends_ret;(exact Res.one (.tmp rfl rfl));(refine Le.litB ?_;(exact he.symm)))
  ·rw[List.drop_eq_nil_of_le (by omega)] at he
   (refine j215 ?_;refine j11 ?_)
   (apply ends_ret;(exact Res.one (.tmp rfl rfl));(refine Le.litB ?_;(exact he.symm)))
 ·rw[decide_eq_false h1,Bool.false_and]
  refine Fn.enter (n:=44) Tryz.func48 rfl rfl rfl rfl rfl (by decide) fun g hro_ hwt_=>?_;(try refine nz ?_)
  (refine j370 ?_;refine j353 ?_;(focus ((with_reducible apply AOps.guardF);(iterate 6 exact rfl);all_goals intro hc_));refine j85 ?_;refine j84 ?_;refine zm ?_;(focus ((with_reducible apply AOps.guardF);(iterate 6 exact rfl);all_goals intro hc_));refine j114 ?_;refine zs ?_;refine zF ?_;refine zm ?_;(focus ((with_reducible apply AOps.guardF);(iterate 6 exact rfl);all_goals intro hc_));refine j114 ?_;refine j84 ?_;refine j268 ?_;(all_goals skip);rotate_left;refine j109 ?_;refine j148 ?_;(all_goals skip);rotate_left;refine j109 ?_;refine j315 ?_;refine j113 ?_;refine j55 ?_;(all_goals skip);rotate_left;refine j151 ?_;refine j315 ?_;refine j113 ?_;refine j129 ?_;refine j113 ?_;refine j55 ?_;(all_goals skip);rotate_left)
  all_goals (apply ends_ret;(exact Res.one (.tmp rfl rfl));(refine Le.litB ?_;(rfl)))
theorem incrB_at {top:Int}:∀{l:List Int} {last:Int},-1≤last→(incrB top last l=true↔∀j (h:j<l.length),last<l[j]∧0≤l[j]∧l[j]<top∧(0<j→l[j - 1]'(by omega)<l[j])):=by
 intro l
 induction l with
 |nil=>intro last _;simp [incrB]
 |cons t l ih=>
  intro last hl
  unfold incrB
  rw[Bool.and_eq_true,decide_eq_true_eq]
  constructor
  ·rintro⟨⟨h1,h2⟩,h3⟩ j hj
   rw[ih (by omega)] at h3
   cases j with
   |zero=>simp;omega
   |succ j=>
    simp only[List.length_cons] at hj
    have h4:=h3 j (by omega)
    simp only[List.getElem_cons_succ]
    refine⟨by omega,h4.2.1,h4.2.2.1,fun _=>?_⟩
    cases j with
    |zero=>simpa using h4.1
    |succ j=>simpa using h4.2.2.2 (by omega)
  ·intro h
   have h0:=h 0 (by simp)
   simp at h0
   refine⟨by omega,?_⟩
   rw[ih (by omega)]
   have hmono:∀j (hj:j<l.length),t<l[j]:=by
    intro j
    induction j with
    |zero=>intro hj;have:=(h 1 (by simp;omega)).2.2.2 (by omega);simpa using this
    |succ j ihj=>
     intro hj
     have h5:=ihj (by omega)
     have h6:=(h (j+2) (by simp;omega)).2.2.2 (by omega)
     simp at h6
     omega
   intro j hj
   have h4:=h (j+1) (by simp;omega)
   simp only[List.getElem_cons_succ] at h4
   refine⟨hmono j hj,h4.2.1,h4.2.2.1,fun hj0=>?_⟩
   have h7:=h4.2.2.2 (by omega)
   obtain⟨i,rfl⟩:∃i,j=i+1:=⟨j - 1,by omega⟩
   simpa using h7
theorem rValid06_fn (n:Int) (r:RelM):Fn Tryz.prog 35 [litI n,relA r] (litB (relOk n r)):=by
 obtain⟨ar,l⟩:=r
 unfold relOk
 simp only
 by_cases h1:0≤n∧n≤12∧1≤ar∧ar≤3
 ·rw[decide_eq_true h1,Bool.true_and]
  obtain⟨k,rfl⟩:∃k:Nat,ar=k:=⟨ar.toNat,by omega⟩
  rw[Int.toNat_natCast]
  have hp:=rPower_fn n k (by omega) (by omega)
  generalize n ^ k=top at hp ⊢
  have hin:=incrB_at (top:=top) (l:=l) (last:= -1) (by omega)
  generalize incrB top (-1) l=res at hin ⊢
  refine Fn.enter (n:=65) Tryz.func35 rfl rfl rfl rfl rfl (by decide) fun g hro_ hwt_=>?_;(try refine nz ?_)
  refine AW.len_agg 1 1 rfl rfl fun hlen=>?_
  simp only at hlen
  (refine j370 ?_;refine zs ?_;refine j12 ?_;refine j84 ?_;refine j85 ?_;refine j114 ?_;refine zs ?_;refine zF ?_;refine j85 ?_;refine j114 ?_;refine j84 ?_;refine j299 ?_)
  refine AW.loop (S:=Nat) (fun s=>{n:=65,env:=[(0,litI n),(3,.ptr 0 0),(5,litI s)],objs:=[(0,some (.box [litI k,.pv (ints l)]))],nx:=1}) (fun s=>s≤l.length∧∀j (h:j<l.length),j<s→0≤l[j]∧l[j]<top∧(0<j→l[j - 1]'(by omega)<l[j])) (fun s=>l.length - s) 0 ?_ ?_ ?_
  ·exact⟨Nat.zero_le _,fun j h h2=>by omega⟩
  ·exact j162
  rintro j ⟨hj,hok⟩
  by_cases hlt:j<l.length
  ·have hno:¬(0≤l[j]∧l[j]<top∧(0<j→l[j - 1]'(by omega)<l[j]))→res=false:=fun h=>by
    cases res with
    |false=>rfl
    |true=>exact absurd ((hin.1 rfl) j hlt).2 h
   have hstep:(0≤l[j]∧l[j]<top∧(0<j→l[j - 1]'(by omega)<l[j]))→∀i (h:i<l.length),i<j+1→0≤l[i]∧l[i]<top∧(0<i→l[i - 1]'(by omega)<l[i]):=fun h i hi hi2=>by
    rcases Nat.lt_or_eq_of_le (Nat.le_of_lt_succ hi2) with h3|rfl
    ·exact hok i hi h3
    ·exact h
   by_cases h2:0≤l[j]∧l[j]<top
   ·by_cases hj0:0<j
    ·have ej:(j:Int) - 1=((j - 1:Nat):Int):=by omega
     have et:((j:Int) - 1).toNat=j - 1:=by omega
     by_cases h3:l[((j:Int) - 1).toNat]'(by omega)<l[j]
     ·have h3':l[j - 1]'(by omega)<l[j]:=by simpa only[et] using h3
      (refine j224 ?_;refine zm ?_;(focus ((with_reducible apply AOps.index_map);(iterate 7 exact rfl);rotate_left;omega));refine j334 ?_;refine j308 ?_;(focus ((with_reducible apply AOps.index_map);(iterate 7 exact rfl);rotate_left;omega));refine j163 ?_;refine j85 ?_;refine j114 ?_;refine AOps.call (hp) (.cons rfl (.pv _) (.cons rfl (.pv _) .nil)) rfl rfl (fun h_=>by cases h_) ?_;refine j369 ?_;refine j186 ?_;refine zm ?_;refine zt ?_;(focus ((with_reducible apply AOps.index_map);(iterate 7 exact rfl);rotate_left;omega));refine zt ?_;refine zr ?_;refine j186 ?_;refine zm ?_;refine zt ?_;refine AOps.sub rfl rfl rfl rfl rfl (by omega) ?_;refine zt ?_;(focus ((with_reducible apply AOps.index_mapI);(iterate 7 exact rfl);omega;rotate_left;(first|omega|exact Nat.zero_lt_one|exact(by simp))));refine zt ?_;refine zr ?_;refine zt ?_;refine AOps.leq rfl rfl rfl rfl rfl ?_;refine zy ?_;refine zT ?_;refine zF ?_;refine j316 ?_)
      exact⟨j+1,⟨by omega,hstep ⟨h2.1,h2.2,fun _=>h3'⟩⟩,by omega,weak rfl (by(exact j278)) (by(refine⟨.box _ rfl ?_,?_⟩;(iterate 2 refine⟨.eq rfl rfl,?_⟩);(iterate 2 exact trivial))) rfl⟩
     ·have hr:=hno fun h=>h3 (by simpa only[et] using h.2.2 hj0)
      (refine j224 ?_;refine zm ?_;(focus ((with_reducible apply AOps.index_map);(iterate 7 exact rfl);rotate_left;omega));refine j334 ?_;refine j308 ?_;(focus ((with_reducible apply AOps.index_map);(iterate 7 exact rfl);rotate_left;omega));refine j163 ?_;refine j85 ?_;refine j114 ?_;refine AOps.call (hp) (.cons rfl (.pv _) (.cons rfl (.pv _) .nil)) rfl rfl (fun h_=>by cases h_) ?_;refine j369 ?_;refine j186 ?_;refine zm ?_;refine zt ?_;(focus ((with_reducible apply AOps.index_map);(iterate 7 exact rfl);rotate_left;omega));refine zt ?_;refine zr ?_;refine j186 ?_;refine zm ?_;refine zt ?_;refine AOps.sub rfl rfl rfl rfl rfl (by omega) ?_;refine zt ?_;(focus ((with_reducible apply AOps.index_mapI);(iterate 7 exact rfl);omega;rotate_left;(first|omega|exact Nat.zero_lt_one|exact(by simp))));refine zt ?_;refine zr ?_;refine zt ?_;refine AOps.leq rfl rfl rfl rfl rfl ?_;refine zy ?_;refine zT ?_;refine zF ?_;refine j185 ?_)
      (apply ends_ret;(exact Res.one (.tmp rfl rfl));(refine Le.litB ?_;(exact hr.symm)))
    ·(refine j224 ?_;refine zm ?_;(focus ((with_reducible apply AOps.index_map);(iterate 7 exact rfl);rotate_left;omega));refine j334 ?_;refine j308 ?_;(focus ((with_reducible apply AOps.index_map);(iterate 7 exact rfl);rotate_left;omega));refine j163 ?_;refine j85 ?_;refine j114 ?_;refine AOps.call (hp) (.cons rfl (.pv _) (.cons rfl (.pv _) .nil)) rfl rfl (fun h_=>by cases h_) ?_;refine j369 ?_;(iterate 12 refine AOps.guardTn rfl rfl rfl rfl rfl rfl (by first|omega|decide) ?_);refine zy ?_;(iterate 2 refine zF ?_);refine zd ?_;refine j302 ?_)
     exact⟨j+1,⟨by omega,hstep ⟨h2.1,h2.2,fun h=>absurd h hj0⟩⟩,by omega,weak rfl (by(exact j278)) (by(refine⟨.box _ rfl ?_,?_⟩;(iterate 2 refine⟨.eq rfl rfl,?_⟩);(iterate 2 exact trivial))) rfl⟩
   ·have hr:=hno fun h=>h2 ⟨h.1,h.2.1⟩
    (refine j224 ?_;refine zm ?_;(focus ((with_reducible apply AOps.index_map);(iterate 7 exact rfl);rotate_left;omega));refine zr ?_;refine j353 ?_;(focus ((with_reducible apply AOps.guardF);(iterate 6 exact rfl);all_goals intro hc_));refine j308 ?_;(focus ((with_reducible apply AOps.index_map);(iterate 7 exact rfl);rotate_left;omega));refine j163 ?_;refine j85 ?_;refine j114 ?_;refine AOps.call (hp) (.cons rfl (.pv _) (.cons rfl (.pv _) .nil)) rfl rfl (fun h_=>by cases h_) ?_;refine j74 ?_;refine zm ?_;(iterate 3 refine AOps.guardFn rfl rfl rfl rfl rfl rfl (by first|omega|decide) ?_);(iterate 12 refine AOps.guard_u rfl rfl rfl rfl rfl rfl ?_);refine AOps.guardFn rfl rfl rfl rfl rfl rfl (by first|omega|decide) ?_;refine zT ?_;refine j25 ?_;refine j10 ?_;(all_goals skip);rotate_left;(iterate 9 refine AOps.guardFn rfl rfl rfl rfl rfl rfl (by with_reducible assumption) ?_);refine j315 ?_;refine j113 ?_;(iterate 12 refine AOps.guard_u rfl rfl rfl rfl rfl rfl ?_);refine AOps.guard_lf rfl rfl rfl rfl rfl rfl rfl ?_;refine AOps.pick_lt rfl rfl rfl rfl rfl rfl ?_;refine j25 ?_;refine j10 ?_;(all_goals skip);rotate_left)
    all_goals (apply ends_ret;(exact Res.one (.tmp rfl rfl));(refine Le.litB ?_;(exact hr.symm)))
  ·have hr:res=true:=hin.2 fun j' hj'=>by
    have:=hok j' hj' (by omega)
    exact⟨by omega,this⟩
   (refine j26 ?_;refine j83 ?_;refine j337 ?_)
   (apply ends_ret;(exact Res.one (.tmp rfl rfl));(refine Le.litB ?_;(exact hr.symm)))
 ·rw[decide_eq_false h1,Bool.false_and]
  refine Fn.enter (n:=65) Tryz.func35 rfl rfl rfl rfl rfl (by decide) fun g hro_ hwt_=>?_;(try refine nz ?_)
  (refine j370 ?_;refine j353 ?_;(focus ((with_reducible apply AOps.guardF);(iterate 6 exact rfl);all_goals intro hc_));refine j85 ?_;refine j84 ?_;refine zm ?_;(focus ((with_reducible apply AOps.guardF);(iterate 6 exact rfl);all_goals intro hc_));refine j114 ?_;refine zs ?_;refine zF ?_;refine zm ?_;(focus ((with_reducible apply AOps.guardF);(iterate 6 exact rfl);all_goals intro hc_));refine j114 ?_;refine j84 ?_;refine j268 ?_;(all_goals skip);rotate_left;refine j109 ?_;refine j148 ?_;(all_goals skip);rotate_left;refine j109 ?_;refine j315 ?_;refine j113 ?_;refine j55 ?_;(all_goals skip);rotate_left;refine j151 ?_;refine j315 ?_;refine j113 ?_;refine j129 ?_;refine j113 ?_;refine j55 ?_;(all_goals skip);rotate_left)
  all_goals (apply ends_ret;(exact Res.one (.tmp rfl rfl));(refine Le.litB ?_;(rfl)))
end Go.Ab
/- Chapter 06:difference and inclusion of relations. -/
namespace Go.Ab
open Go Go.Proofs
set_option maxRecDepth 20000
set_option maxHeartbeats 4000000
def cntL (ts:List Int):List (Int×Int):=ts.foldl (fun l t=>setL' l t (getL l t+1)) []
theorem cntL_snoc {ts:List Int} {k:Nat} (hk:k<ts.length):cntL (ts.take (k+1))=setL' (cntL (ts.take k)) ts[k] (getL (cntL (ts.take k)) ts[k]+1):=by
 unfold cntL
 rw[take_succ_get hk,List.foldl_append];rfl
theorem getL_cnt (ts:List Int) (x:Int):getL (cntL ts) x=(ts.count x:Int):=by
 have key:∀(ts:List Int) (l:List (Int×Int)),getL (ts.foldl (fun l t=>setL' l t (getL l t+1)) l) x=getL l x+(ts.count x:Int):=by
  intro ts
  induction ts with
  |nil=>intro l;simp
  |cons t ts ih=>
   intro l
   rw[List.foldl_cons,ih,getL_set]
   by_cases h:x=t
   ·subst h;rw[if_pos rfl,List.count_cons_self];omega
   ·rw[if_neg h,List.count_cons_of_ne (fun e=>h e.symm)]
 have:=key ts []
 simpa [cntL,getL] using this
theorem getL_le (ts:List Int) (k:Nat) (x:Int):0≤getL (cntL (ts.take k)) x∧getL (cntL (ts.take k)) x≤k:=by
 rw[getL_cnt]
 have h1:=List.count_le_length (a:=x) (l:=ts.take k)
 have h2:=List.length_take_le k ts
 omega
theorem getL_pos (ts:List Int) (x:Int):getL (cntL ts) x=0↔x∉ts:=by
 rw[getL_cnt]
 constructor
 ·intro h;exact List.count_eq_zero.1 (by omega)
 ·intro h;rw[List.count_eq_zero.2 h];rfl
def diffL (a b:List Int):List Int:=a.filter fun t=>decide (t∉b)
theorem diffL_snoc {a b:List Int} {k:Nat} (hk:k<a.length):diffL (a.take (k+1)) b=diffL (a.take k) b++if a[k]∉b then [a[k]] else []:=by
 unfold diffL
 rw[take_succ_get hk,List.filter_append]
 by_cases h:a[k]∈b
 ·simp [h]
 ·simp [h]
theorem diffL_len (a b:List Int) (k:Nat):(diffL (a.take k) b).length≤k:=by
 unfold diffL
 exact Nat.le_trans (List.length_filter_le _ _) (List.length_take_le k a)
attribute [local irreducible] AW AOps thenD inBlockD AR iterEnds roundEndsN inlEnds noGotoD cntL diffL
theorem sameI_fn (t:Int):Fn Tryz.prog 99 [litI t] (litI t):=by
 refine Fn.enter (n:=4) Tryz.func99 rfl rfl rfl rfl rfl (by decide) fun g hro_ hwt_=>?_;(try refine nz ?_)
 (refine j235 ?_;refine zm ?_;refine j11 ?_)
 (apply ends_ret;(exact Res.one (.tmp rfl rfl));(refine Le.litI ?_;(rfl)))
theorem diff_fn (c:Int) (a:List Int) (d:Int) (b:List Int) (ha:a.length≤1000000) (hb:b.length≤1000000):Fn Tryz.prog 82 [relA (c,a),relA (d,b)] (relA (c,diffL a b)):=by
 refine Fn.enter (n:=15) Tryz.func82 rfl rfl rfl rfl rfl (by decide) fun g hro_ hwt_=>?_;(try refine nz ?_)
 (refine zq ?_;refine j5 ?_;refine j21 ?_;refine j180 ?_;refine j27 ?_;(with_reducible apply AOps.inline (hf:=Tryz.func98));(with_reducible assumption);(iterate 10 exact rfl);intro g_ hro_ hwt_;refine nz ?_;refine zq ?_;refine j40 ?_;refine j58 ?_;refine AOps.makeCnt (t:=133) rfl ?_;refine nz ?_;refine AOps.assign_mapr rfl rfl rfl ?_;refine zd ?_;refine j130 ?_;refine j83 ?_;refine j97 ?_)
 refine AW.loop (fun(k:Nat)=>{n:=24,env:=[(1,.clo (.func 99) [] []),(5,.mapr 4),(10,.pv (ints b)),(11,litI b.length),(12,litI k),(1002,.ptr 0 0),(1004,.ptr 2 0)],objs:=[(0,some (.box [litI c,.pv (ints a)])),(2,some (.box [.any,.any])),(4,some (.mp (mpI (cntI (cntL (b.take k))))))],nx:=5}) (fun k=>k≤b.length) (fun k=>b.length - k) 0 ?_ ?_ ?_
 ·exact Nat.zero_le _
 ·exact weak rfl (by(refine⟨.eq rfl rfl,?_⟩;refine⟨.eq rfl rfl,?_⟩;refine⟨.pvE (by first|with_reducible rfl|(rfl)),?_⟩;(iterate 2 refine⟨.intE (by first|with_reducible rfl|(rfl)),?_⟩);(iterate 2 refine⟨.eq rfl rfl,?_⟩);exact trivial)) (by(refine⟨.box _ rfl ?_,?_⟩;refine⟨.intE (by first|with_reducible rfl|(rfl)),?_⟩;refine⟨.pvE (by first|with_reducible rfl|(rfl)),?_⟩;exact trivial;refine⟨.box _ rfl ?_,?_⟩;(iterate 2 refine⟨.any _,?_⟩);exact trivial;refine⟨.cntE rfl (by unfold cntL;rfl),?_⟩;exact trivial)) rfl
 rintro k hk
 by_cases hlt:k<b.length
 ·have hs:=sameI_fn b[k]
  have hc:=cntL_snoc hlt
  have hg:=getL_le b k b[k]
  (refine j7 ?_;(focus ((with_reducible apply AOps.index_map);(iterate 7 exact rfl);rotate_left;omega));refine zr ?_;refine j3 ?_;refine j98 ?_;refine AOps.move_mapr rfl rfl rfl ?_;refine AOps.move_clo rfl rfl rfl ?_;refine zm ?_;refine AOps.callT (hf:=hs) rfl rfl (.cons rfl (.pv _) .nil) rfl rfl (fun h_=>by cases h_) ?_;refine AOps.lookup_cnt rfl rfl rfl rfl rfl rfl rfl rfl rfl ?_;refine zj ?_;refine AOps.mapUpdate_cnt rfl rfl rfl rfl rfl rfl rfl rfl rfl rfl (by with_reducible assumption) ?_;refine nz ?_;refine AOps.nil ?_;refine j8 ?_;refine j279 ?_)
  exact⟨k+1,by omega,by omega,weak rfl (by(refine⟨.eq rfl rfl,?_⟩;refine⟨.eq rfl rfl,?_⟩;refine⟨.pvE (by first|with_reducible rfl|(rfl)),?_⟩;(iterate 2 refine⟨.intE (by first|with_reducible rfl|(rfl)),?_⟩);(iterate 2 refine⟨.eq rfl rfl,?_⟩);exact trivial)) (by(refine⟨.box _ rfl ?_,?_⟩;refine⟨.intE (by first|with_reducible rfl|(rfl)),?_⟩;refine⟨.pvE (by first|with_reducible rfl|(rfl)),?_⟩;exact trivial;refine⟨.box _ rfl ?_,?_⟩;(iterate 2 refine⟨.any _,?_⟩);exact trivial;refine⟨.cntE rfl (by rw[hc]),?_⟩;exact trivial)) rfl⟩
 ·rw[take_all (l:=b) (by omega)]
  have hp:=getL_pos b
  (refine j215 ?_;refine AOps.move_mapr rfl rfl rfl ?_;refine AOps.assign_mapr rfl rfl rfl ?_;refine j328 ?_;refine inlEnds_rmapr rfl rfl ?_;refine nz ?_;refine j21 ?_;refine j188 ?_;refine zd ?_;refine zo ?_)
  refine AW.cutT (δc:={n:=15,env:=[(4,.ptr 2 0)],objs:=[(2,some (.box [litI c,.pv (ints (diffL a b))]))],nx:=3}) ?_ ?_
  ·refine AW.regionE [2,3,4] [5,7] rfl (by assumption) (by kernel_rfl) rfl ?_
   show AOps .held _ _ _ [_,_,_] _ _
   (refine j83 ?_;refine AOps.makeFunc_c rfl rfl rfl ?_;refine j6 ?_)
   intro k_ hk_
   (try refine nz ?_)
   refine AR.free 0 (by kernel_rfl) rfl rfl rfl (Frees.fieldAddr 54 0 0 rfl rfl rfl) ?_
   (try refine nz ?_)
   refine AR.step2L (i:=1) (j:=5) rfl (by kernel_rfl) rfl rfl (by kernel_rfl) ?_ ?_<;>intro g_ hgro_ hw_
   ·(refine zb ?_;refine j6 ?_)
    refine AR.step1L (i:=5) rfl (by kernel_rfl) rfl (by kernel_rfl) ?_
    intro g_ hgro_ hwt2_
    ((with_reducible apply AOps.inline (hf:=Tryz.func100));(with_reducible assumption);(iterate 10 exact rfl);intro g_ hro_ hwt_;refine nz ?_;refine j235 ?_;refine j37 ?_;refine zm ?_;refine j97 ?_)
    refine AW.loop (fun(k:Nat)=>{n:=23,env:=[(1,.clo (.func 101) [] [.ptr 5 0]),(5,.own 6 3 1 ((diffL (a.take k) b).map encI)),(8,.pv (ints a)),(9,litI a.length),(10,litI k),(1004,.ptr 2 0),(1009,litI c)],objs:=[(0,some (.box [litI c,.pv (ints a)])),(2,some (.box [.any,.any])),(4,some (.mp (mpI (cntI (cntL b))))),(5,some (.box [.mapr 4])),(6,some .row)],nx:=7}) (fun k=>k≤a.length) (fun k=>a.length - k) 0 ?_ ?_ ?_
    ·exact Nat.zero_le _
    ·exact weak rfl (by(refine⟨.eq rfl rfl,?_⟩;refine⟨.nilownE (by unfold diffL;rfl) rfl rfl,?_⟩;refine⟨.pvE (by first|with_reducible rfl|(unfold diffL;rfl)),?_⟩;refine⟨.intE (by first|with_reducible rfl|(unfold diffL;rfl)),?_⟩;(iterate 2 refine⟨.eq rfl rfl,?_⟩);refine⟨.intE (by first|with_reducible rfl|(unfold diffL;rfl)),?_⟩;exact trivial)) (by(refine⟨.box _ rfl ?_,?_⟩;refine⟨.intE (by first|with_reducible rfl|(unfold diffL;rfl)),?_⟩;refine⟨.pvE (by first|with_reducible rfl|(unfold diffL;rfl)),?_⟩;exact trivial;refine⟨.box _ rfl ?_,?_⟩;(iterate 2 refine⟨.any _,?_⟩);exact trivial;refine⟨.cntE rfl (by rfl),?_⟩;refine⟨.box _ rfl ?_,?_⟩;refine⟨.eq rfl rfl,?_⟩;exact trivial;refine⟨.newrow rfl,?_⟩;exact trivial)) rfl
    rintro k hk
    have hdl:=diffL_len a b k
    by_cases hlt:k<a.length
    ·have hsn:=diffL_snoc (b:=b) hlt
     have hpk:=hp a[k]
     by_cases hq:getL (cntL b) a[k]=0
     ·rw[if_pos (hpk.1 hq)] at hsn
      (refine j7 ?_;(focus ((with_reducible apply AOps.index_map);(iterate 7 exact rfl);rotate_left;omega));refine j371 ?_;(with_reducible apply AOps.inline (hf:=Tryz.func101));(with_reducible assumption);(iterate 10 exact rfl);intro g_ hro_ hwt_;refine j358 ?_;refine j340 ?_;refine AW.region ?_;refine AOps.move_own rfl rfl rfl ?_;refine zm ?_;refine j81 ?_;(with_reducible apply AOps.appendS);exact rfl;(first|exact .pv rfl|exact .own rfl|exact .nil rfl);(iterate 9 exact rfl);(first|omega|(simp only[List.length_map,List.length_append,List.length_cons,List.length_nil,List.length_drop,List.length_take,List.length_set,chunk_len];omega));refine nz ?_;refine j136 ?_)
      exact⟨k+1,by omega,by omega,weak rfl (by(refine⟨.eq rfl rfl,?_⟩;refine⟨.ownE (by first|with_reducible rfl|(first|(rw[hsn,List.map_append];rfl)|rfl)) rfl,?_⟩;refine⟨.pvE (by first|with_reducible rfl|(first|(rw[hsn,List.map_append];rfl)|rfl)),?_⟩;refine⟨.intE (by first|with_reducible rfl|(first|(rw[hsn,List.map_append];rfl)|rfl)),?_⟩;refine⟨.intE (by first|with_reducible rfl|(first|(rw[hsn,List.map_append];rfl)|rfl)),?_⟩;refine⟨.eq rfl rfl,?_⟩;refine⟨.intE (by first|with_reducible rfl|(first|(rw[hsn,List.map_append];rfl)|rfl)),?_⟩;exact trivial)) (by(refine⟨.box _ rfl ?_,?_⟩;refine⟨.intE (by first|with_reducible rfl|(first|(rw[hsn,List.map_append];rfl)|rfl)),?_⟩;refine⟨.pvE (by first|with_reducible rfl|(first|(rw[hsn,List.map_append];rfl)|rfl)),?_⟩;exact trivial;refine⟨.box _ rfl ?_,?_⟩;(iterate 2 refine⟨.any _,?_⟩);exact trivial;refine⟨.cntE rfl (by rfl),?_⟩;refine⟨.box _ rfl ?_,?_⟩;refine⟨.eq rfl rfl,?_⟩;exact trivial;refine⟨.row rfl,?_⟩;exact trivial)) rfl⟩
     ·rw[if_neg (fun h=>hq (hpk.2 h)),List.append_nil] at hsn
      (refine j7 ?_;(focus ((with_reducible apply AOps.index_map);(iterate 7 exact rfl);rotate_left;omega));refine j371 ?_;(with_reducible apply AOps.inline (hf:=Tryz.func101));(with_reducible assumption);(iterate 10 exact rfl);intro g_ hro_ hwt_;refine j358 ?_;refine zd ?_;refine zk ?_;refine AW.skip ?_;refine j8 ?_;refine j279 ?_)
      exact⟨k+1,by omega,by omega,weak rfl (by(refine⟨.eq rfl rfl,?_⟩;refine⟨.ownE (by first|with_reducible rfl|(first|(rw[hsn])|rfl)) rfl,?_⟩;refine⟨.pvE (by first|with_reducible rfl|(first|(rw[hsn])|rfl)),?_⟩;refine⟨.intE (by first|with_reducible rfl|(first|(rw[hsn])|rfl)),?_⟩;refine⟨.intE (by first|with_reducible rfl|(first|(rw[hsn])|rfl)),?_⟩;refine⟨.eq rfl rfl,?_⟩;refine⟨.intE (by first|with_reducible rfl|(first|(rw[hsn])|rfl)),?_⟩;exact trivial)) (by(refine⟨.box _ rfl ?_,?_⟩;refine⟨.intE (by first|with_reducible rfl|(first|(rw[hsn])|rfl)),?_⟩;refine⟨.pvE (by first|with_reducible rfl|(first|(rw[hsn])|rfl)),?_⟩;exact trivial;refine⟨.box _ rfl ?_,?_⟩;(iterate 2 refine⟨.any _,?_⟩);exact trivial;refine⟨.cntE rfl (by rfl),?_⟩;refine⟨.box _ rfl ?_,?_⟩;refine⟨.eq rfl rfl,?_⟩;exact trivial;refine⟨.row rfl,?_⟩;exact trivial)) rfl⟩
    ·rw[take_all (l:=a) (by omega)]
     (refine j215 ?_;refine AOps.move_own rfl rfl rfl ?_;refine j222 ?_;refine AW.ret ?_;refine inlEnds_rown rfl rfl ?_;refine nz ?_;refine j6 ?_)
     refine AR.step1 (i:=6) rfl (by kernel_rfl) rfl ?_
     intro g_ hgro_ hw_
     (refine j307 ?_;refine j6 ?_)
     refine AR.step1L (i:=7) rfl (by kernel_rfl) rfl (by kernel_rfl) ?_
     intro g_ hgro_ hwt2_
     (refine j155 ?_;refine j6 ?_)
     refine AR.done (by assumption) (by kernel_rfl) ?_
     show Weak _ _ _
     exact j309
   ·((with_reducible apply AOps.inline (hf:=Tryz.func100));(with_reducible assumption);(iterate 10 exact rfl);intro g_ hro_ hwt_;refine nz ?_;refine j235 ?_;refine j37 ?_;refine zm ?_;refine j97 ?_)
    refine AW.loop (fun(k:Nat)=>{n:=23,env:=[(1,.clo (.func 101) [] [.ptr 5 0]),(5,.own 6 3 1 ((diffL (a.take k) b).map encI)),(8,.pv (ints a)),(9,litI a.length),(10,litI k),(1004,.ptr 2 0),(1008,.ptr 0 0)],objs:=[(0,some (.box [litI c,.pv (ints a)])),(2,some (.box [.any,.any])),(4,some (.mp (mpI (cntI (cntL b))))),(5,some (.box [.mapr 4])),(6,some .row)],nx:=7}) (fun k=>k≤a.length) (fun k=>a.length - k) 0 ?_ ?_ ?_
    ·exact Nat.zero_le _
    ·exact weak rfl (by(refine⟨.eq rfl rfl,?_⟩;refine⟨.nilownE (by unfold diffL;rfl) rfl rfl,?_⟩;refine⟨.pvE (by first|with_reducible rfl|(unfold diffL;rfl)),?_⟩;refine⟨.intE (by first|with_reducible rfl|(unfold diffL;rfl)),?_⟩;(iterate 3 refine⟨.eq rfl rfl,?_⟩);exact trivial)) (by(refine⟨.box _ rfl ?_,?_⟩;refine⟨.intE (by first|with_reducible rfl|(unfold diffL;rfl)),?_⟩;refine⟨.pvE (by first|with_reducible rfl|(unfold diffL;rfl)),?_⟩;exact trivial;refine⟨.box _ rfl ?_,?_⟩;(iterate 2 refine⟨.any _,?_⟩);exact trivial;refine⟨.cntE rfl (by rfl),?_⟩;refine⟨.box _ rfl ?_,?_⟩;refine⟨.eq rfl rfl,?_⟩;exact trivial;refine⟨.newrow rfl,?_⟩;exact trivial)) rfl
    rintro k hk
    have hdl:=diffL_len a b k
    by_cases hlt:k<a.length
    ·have hsn:=diffL_snoc (b:=b) hlt
     have hpk:=hp a[k]
     by_cases hq:getL (cntL b) a[k]=0
     ·rw[if_pos (hpk.1 hq)] at hsn
      (refine j7 ?_;(focus ((with_reducible apply AOps.index_map);(iterate 7 exact rfl);rotate_left;omega));refine j371 ?_;(with_reducible apply AOps.inline (hf:=Tryz.func101));(with_reducible assumption);(iterate 10 exact rfl);intro g_ hro_ hwt_;refine j358 ?_;refine j340 ?_;refine AW.region ?_;refine AOps.move_own rfl rfl rfl ?_;refine zm ?_;refine j81 ?_;(with_reducible apply AOps.appendS);exact rfl;(first|exact .pv rfl|exact .own rfl|exact .nil rfl);(iterate 9 exact rfl);(first|omega|(simp only[List.length_map,List.length_append,List.length_cons,List.length_nil,List.length_drop,List.length_take,List.length_set,chunk_len];omega));refine nz ?_;refine j136 ?_)
      exact⟨k+1,by omega,by omega,weak rfl (by(refine⟨.eq rfl rfl,?_⟩;refine⟨.ownE (by first|with_reducible rfl|(first|(rw[hsn,List.map_append];rfl)|rfl)) rfl,?_⟩;refine⟨.pvE (by first|with_reducible rfl|(first|(rw[hsn,List.map_append];rfl)|rfl)),?_⟩;refine⟨.intE (by first|with_reducible rfl|(first|(rw[hsn,List.map_append];rfl)|rfl)),?_⟩;refine⟨.intE (by first|with_reducible rfl|(first|(rw[hsn,List.map_append];rfl)|rfl)),?_⟩;(iterate 2 refine⟨.eq rfl rfl,?_⟩);exact trivial)) (by(refine⟨.box _ rfl ?_,?_⟩;refine⟨.intE (by first|with_reducible rfl|(first|(rw[hsn,List.map_append];rfl)|rfl)),?_⟩;refine⟨.pvE (by first|with_reducible rfl|(first|(rw[hsn,List.map_append];rfl)|rfl)),?_⟩;exact trivial;refine⟨.box _ rfl ?_,?_⟩;(iterate 2 refine⟨.any _,?_⟩);exact trivial;refine⟨.cntE rfl (by rfl),?_⟩;refine⟨.box _ rfl ?_,?_⟩;refine⟨.eq rfl rfl,?_⟩;exact trivial;refine⟨.row rfl,?_⟩;exact trivial)) rfl⟩
     ·rw[if_neg (fun h=>hq (hpk.2 h)),List.append_nil] at hsn
      (refine j7 ?_;(focus ((with_reducible apply AOps.index_map);(iterate 7 exact rfl);rotate_left;omega));refine j371 ?_;(with_reducible apply AOps.inline (hf:=Tryz.func101));(with_reducible assumption);(iterate 10 exact rfl);intro g_ hro_ hwt_;refine j358 ?_;refine zd ?_;refine zk ?_;refine AW.skip ?_;refine j8 ?_;refine j279 ?_)
      exact⟨k+1,by omega,by omega,weak rfl (by(refine⟨.eq rfl rfl,?_⟩;refine⟨.ownE (by first|with_reducible rfl|(first|(rw[hsn])|rfl)) rfl,?_⟩;refine⟨.pvE (by first|with_reducible rfl|(first|(rw[hsn])|rfl)),?_⟩;refine⟨.intE (by first|with_reducible rfl|(first|(rw[hsn])|rfl)),?_⟩;refine⟨.intE (by first|with_reducible rfl|(first|(rw[hsn])|rfl)),?_⟩;(iterate 2 refine⟨.eq rfl rfl,?_⟩);exact trivial)) (by(refine⟨.box _ rfl ?_,?_⟩;refine⟨.intE (by first|with_reducible rfl|(first|(rw[hsn])|rfl)),?_⟩;refine⟨.pvE (by first|with_reducible rfl|(first|(rw[hsn])|rfl)),?_⟩;exact trivial;refine⟨.box _ rfl ?_,?_⟩;(iterate 2 refine⟨.any _,?_⟩);exact trivial;refine⟨.cntE rfl (by rfl),?_⟩;refine⟨.box _ rfl ?_,?_⟩;refine⟨.eq rfl rfl,?_⟩;exact trivial;refine⟨.row rfl,?_⟩;exact trivial)) rfl⟩
    ·rw[take_all (l:=a) (by omega)]
     (refine j215 ?_;refine AOps.move_own rfl rfl rfl ?_;refine j222 ?_;refine AW.ret ?_;refine inlEnds_rown rfl rfl ?_;refine nz ?_;refine j6 ?_)
     refine AR.step1 (i:=1) rfl (by kernel_rfl) rfl ?_
     intro g_ hgro_ hw_
     (refine zb ?_;refine j6 ?_)
     refine AR.step1 (i:=6) rfl (by kernel_rfl) rfl ?_
     intro g_ hgro_ hw_
     (refine j307 ?_;refine j6 ?_)
     refine AR.step1L (i:=7) rfl (by kernel_rfl) rfl (by kernel_rfl) ?_
     intro g_ hgro_ hwt2_
     (refine j155 ?_;refine j6 ?_)
     refine AR.done (by assumption) (by kernel_rfl) ?_
     show Weak _ _ _
     exact j309
  ·(refine AW.ret ?_)
   (apply ends_ret;(exact Res.one (.cell rfl rfl rfl rfl));(refine Le.aggL ?_;refine LeL.cons ?_ ?_;(with_reducible exact Le.pv _);refine LeL.cons ?_ ?_;(with_reducible exact Le.pv _);exact LeL.nil))
def subL (a b:List Int):Bool:=a.all fun t=>decide (t∈b)
theorem subL_diff (a b:List Int):decide (((diffL a b).length:Int)=0)=subL a b:=by
 unfold diffL subL
 rw[Bool.eq_iff_iff,decide_eq_true_eq,List.all_eq_true]
 constructor
 ·intro h x hx
  have h1:a.filter (fun t=>decide (t∉b))=[]:=List.eq_nil_of_length_eq_zero (by omega)
  have:=List.filter_eq_nil_iff.1 h1 x hx
  simpa using this
 ·intro h
  have:a.filter (fun t=>decide (t∉b))=[]:=List.filter_eq_nil_iff.2 fun x hx=>by simpa using h x hx
  rw[this];rfl
theorem in_fn (c:Int) (a:List Int) (d:Int) (b:List Int) (ha:a.length≤1000000) (hb:b.length≤1000000):Fn Tryz.prog 49 [relA (c,a),relA (d,b)] (litB (subL a b)):=by
 have hd:=diff_fn c a d b ha hb
 have hs:=subL_diff a b
 refine Fn.enter (n:=11) Tryz.func49 rfl rfl rfl rfl rfl (by decide) fun g hro_ hwt_=>?_;(try refine nz ?_)
 (refine j187 ?_;refine j137 ?_;refine AOps.callp (hd) (.cons rfl (.aggL (.cons (.pv _) (.cons (.pv _) .nil))) (.cons rfl (.aggL (.cons (.pv _) (.cons (.pv _) .nil))) .nil)) rfl ?_;refine AOps.field1N 54 1 1 rfl rfl rfl rfl rfl ?_;refine zn ?_;refine AOps.eql rfl rfl rfl rfl rfl ?_;refine j11 ?_)
 (apply ends_ret;(exact Res.one (.tmp rfl rfl));(refine Le.litB ?_;(exact hs)))
end Go.Ab
/- Chapter 05:all tuples over columns of given sorts,walked:a function that yields,ranged over within itself. -/
namespace Go.Ab
open Go Go.Proofs
set_option maxRecDepth 20000
set_option maxHeartbeats 8000000
def rngI (a:Int) (k:Nat):List Int:=(List.range k).map fun(i:Nat)=>a+i
theorem rngI_succ (a:Int) (k:Nat):rngI a (k+1)=rngI a k++ [a+k]:=by simp [rngI,List.range_succ]
theorem rngI_len (a:Int) (k:Nat):(rngI a k).length=k:=by simp [rngI]
attribute [local irreducible] AW AOps thenD inBlockD AR iterEnds roundEndsN inlEnds noGotoD rngI
theorem full1_fn (at':List Int) (st:Int) (ss:List Int) (hl:ss.length=1) (x:Nat) (hx:ss[0]'(by omega)=(x:Int)) (hs:x<at'.length) (h:SmA at'):Fn Tryz.prog 50 [scp at' st,.pv (ints ss)] (relA (1,rngI (at'.take x).sum at'[x].toNat)):=by
 have hle:=h.1
 have hb:=h.take x
 have hsb:=h.take at'.length
 rw[List.take_length] at hsb
 have hzb:=h.2 _ (List.getElem_mem hs)
 have hw1:=within_fn ss.length 1 3
 rw[decide_eq_true (by omega)] at hw1
 have hw2:=within_fn (ss[0]'(by omega)) 0 (at'.length - 1)
 rw[decide_eq_true (by omega)] at hw2
 have hff:=first_fn at' st x h (by omega)
 have haf:=atoms_fn at' st h
 have hd1:(ss.drop 1).length=0:=by simp;omega
 have hx0:(ss[Int.toNat 0]'(by show 0<_;omega))=(x:Int):=hx
 rw[← hx0] at hff
 have hz:at'[(ss[Int.toNat 0]'(by show 0<_;omega)).toNat]'(by rw[hx0];omega)=at'[x]:=by simp only[hx0];rfl
 generalize at'[x]=z at hz hzb ⊢
 generalize hf:(at'.take x).sum=f at hb hff ⊢
 generalize hn:at'.sum=n at hsb haf
 refine Fn.enter (n:=43) Tryz.func50 rfl rfl rfl rfl rfl (by decide) fun g hro_ hwt_=>?_;(try refine nz ?_)
 (refine zq ?_;refine j40 ?_;refine j21 ?_;refine zd ?_;refine j26 ?_;refine zn ?_;refine AOps.call (hw1) (.cons rfl (.pv _) (.cons rfl (.pv _) (.cons rfl (.pv _) .nil))) rfl rfl (fun h_=>by cases h_) ?_;refine j82 ?_;refine j29 ?_;refine j130 ?_;refine zm ?_;refine j97 ?_)
 refine AW.loop (fun(k:Nat)=>{n:=43,env:=[(1,.pv (ints ss)),(2,.ptr 0 0),(4,.ptr 1 0),(14,.pv (ints ss)),(15,litI ss.length),(16,litI k)],objs:=[(0,some (.box [.pv (ints at'),litI st])),(1,some (.box [.any,.any]))],nx:=2}) (fun k=>k≤1) (fun k=>1 - k) 0 ?_ ?_ ?_
 ·exact Nat.zero_le _
 ·exact weak rfl (by(refine⟨.eq rfl rfl,?_⟩;(iterate 5 refine⟨.eq rfl rfl,?_⟩);exact trivial)) (by(refine⟨.box _ rfl ?_,?_⟩;(iterate 2 refine⟨.eq rfl rfl,?_⟩);exact trivial;refine⟨.box _ rfl ?_,?_⟩;(iterate 2 refine⟨.any _,?_⟩);(iterate 2 exact trivial))) rfl
 rintro k hk
 by_cases hk0:k<1
 ·obtain rfl:k=0:=by omega
  (refine j7 ?_;(focus ((with_reducible apply AOps.index_map);(iterate 7 exact rfl);rotate_left;omega));refine j356 ?_;refine j210 ?_;refine AOps.call (hw2) (.cons rfl (.pv _) (.cons rfl (.pv _) (.cons rfl (.pv _) .nil))) rfl rfl (fun h_=>by cases h_) ?_;refine j216 ?_)
  exact⟨1,by omega,by omega,weak rfl (by(refine⟨.eq rfl rfl,?_⟩;(iterate 5 refine⟨.eq rfl rfl,?_⟩);exact trivial)) (by(refine⟨.box _ rfl ?_,?_⟩;(iterate 2 refine⟨.eq rfl rfl,?_⟩);exact trivial;refine⟨.box _ rfl ?_,?_⟩;(iterate 2 refine⟨.any _,?_⟩);(iterate 2 exact trivial))) rfl⟩
 obtain rfl:k=1:=by omega
 (refine j255 ?_;(with_reducible apply AOps.inline (hf:=Tryz.func83));(with_reducible assumption);(iterate 10 exact rfl);intro g_ hro_ hwt_;refine j71 ?_;refine zd ?_;refine AW.block ?_)
 refine AW.rangeFuncUH (ps:=[35]) (by assumption) (by assumption) rfl rfl Tryz.func102 rfl rfl rfl rfl rfl rfl (by decide) ?_
 intro gB tm0 l0 ps0 asg0 body0 hcode0 hroB hwtB hheld0 hupB htm0
 (refine j232 ?_;refine j91 ?_;refine j27 ?_;refine zb ?_;(focus ((with_reducible apply AOps.index_mapI);(iterate 7 exact rfl);omega;rotate_left;(first|omega|exact Nat.zero_lt_one|exact(by simp))));refine zr ?_;refine AOps.call (hff) (.cons rfl (.aggL (.cons (.pv _) (.cons (.pv _) .nil))) (.cons rfl (.pv _) .nil)) rfl rfl (fun h_=>by cases h_) ?_;refine j58 ?_;refine zm ?_;refine j92 ?_)
 refine AW.loop (fun(i:Nat)=>{n:=48,env:=[(1,.ptr 5 0),(2,.ptr 4 0),(3,.ptr 3 0),(4,.ptr 7 0),(5,litI f),(6,litI (f+i)),(1004,.ptr 1 0),(1007,.ptr 2 0)],objs:=[(1,some (.box [.any,.any])),(2,some (.box [litI ss.length,.own 8 3 1 ((rngI f i).map encI)])),(3,some (.box [.pv (ints at'),litI st])),(4,some (.box [litI 0])),(5,some (.box [.pv (ints ss)])),(6,some (.loop l0 tm0 ps0 asg0 body0 .ready)),(7,some (.box [.yld 6])),(8,some .row)],nx:=9})
  (fun i=>i≤z.toNat) (fun i=>z.toNat - i) 0 ?_ ?_ ?_
 ·exact Nat.zero_le _
 ·exact weak rfl (by(refine⟨.eq rfl rfl,?_⟩;(iterate 3 refine⟨.eq rfl rfl,?_⟩);(iterate 2 refine⟨.intE (by first|with_reducible rfl|(simp [rngI])),?_⟩);(iterate 2 refine⟨.eq rfl rfl,?_⟩);exact trivial)) (by(refine⟨.box _ rfl ?_,?_⟩;(iterate 2 refine⟨.any _,?_⟩);exact trivial;refine⟨.box _ rfl ?_,?_⟩;refine⟨.intE (by first|with_reducible rfl|(simp [rngI])),?_⟩;refine⟨.nilownE (by simp [rngI]) rfl rfl,?_⟩;exact trivial;refine⟨.box _ rfl ?_,?_⟩;refine⟨.pvE (by first|with_reducible rfl|(simp [rngI])),?_⟩;refine⟨.intE (by first|with_reducible rfl|(simp [rngI])),?_⟩;exact trivial;refine⟨.box _ rfl ?_,?_⟩;refine⟨.intE (by first|with_reducible rfl|(simp [rngI])),?_⟩;exact trivial;refine⟨.box _ rfl ?_,?_⟩;refine⟨.pvE (by first|with_reducible rfl|(simp [rngI])),?_⟩;exact trivial;refine⟨.loop rfl,?_⟩;refine⟨.box _ rfl ?_,?_⟩;refine⟨.eq rfl rfl,?_⟩;exact trivial;refine⟨.newrow rfl,?_⟩;exact trivial)) rfl
 rintro i hi
 by_cases hlt:i<z.toNat
 ·have hrl:=rngI_len f i
  have hrs:=rngI_succ f i
  repeat (refine zo ?_)
  ((with_reducible apply AW.regionQ);exact rfl;exact rfl;kernel_rfl;(with_reducible assumption))
  ((iterate 2 refine zm ?_);refine AOps.fieldAddrN 30 0 0 rfl rfl rfl rfl ?_;(iterate 2 refine zb ?_);(focus ((with_reducible apply AOps.index_mapI);(iterate 7 exact rfl);omega;rotate_left;(first|omega|exact Nat.zero_lt_one|exact(by simp))));refine zr ?_;(focus ((with_reducible apply AOps.index_mapI);(iterate 7 exact rfl);omega;rotate_left;(first|omega|exact Nat.zero_lt_one|exact(by simp))));refine zr ?_;refine zj ?_;refine j139 ?_;refine j1 ?_;refine zo ?_)
  refine AW.regionE [0,1,2,5,7,8] [9] rfl (by assumption) (by kernel_rfl) rfl ?_
  show AOps .held _ _ _ [_,_,_,_,_,_] _ _
  (refine j153 ?_)
  intro k_ hk_
  (try refine nz ?_)
  refine AR.step1 (i:=3) rfl (by kernel_rfl) rfl ?_
  intro g_ hgro_ hw_
  (refine AOps.call (haf) (.cons rfl (.aggL (.cons (.pv _) (.cons (.pv _) .nil))) .nil) rfl rfl (fun h_=>by cases h_) ?_;refine j6 ?_)
  refine AR.step1 (i:=4) rfl (by kernel_rfl) rfl ?_
  intro g_ hgro_ hw_
  (refine AOps.mul rfl rfl rfl rfl rfl (by omega) ?_;refine j6 ?_)
  refine AR.step1 (i:=6) rfl (by kernel_rfl) rfl ?_
  intro g_ hgro_ hw_
  (refine zj ?_;refine j6 ?_)
  refine AR.step1L (i:=9) rfl (by kernel_rfl) rfl (by kernel_rfl) ?_
  intro g_ hgro_ hwt2_
  ((with_reducible apply AOps.inline (hf:=Tryz.func83));(with_reducible assumption);(iterate 10 exact rfl);intro g_ hro_ hwt_;refine j71 ?_;refine j6 ?_)
  refine AR.done (by assumption) (by kernel_rfl) ?_
  (refine thenD_n ?_;refine AW.block ?_)
  refine AW.rangeFuncUH (ps:=[43]) (by assumption) (by assumption) rfl rfl Tryz.func102 rfl rfl rfl rfl rfl rfl (by decide) ?_
  intro gC tm1 l1 ps1 asg1 body1 hcode1 hroC hwtC hheld1 hupC htm1
  have htm1':tm1.size=48:=htm1
  have htm0':tm0.size=43:=htm0
  (refine j2 ?_;refine j40 ?_;refine zd ?_;refine j118 ?_;refine zd ?_;(focus ((with_reducible apply AW.condD);exact rfl;exact rfl;all_goals intro hc_));refine j2 ?_;(iterate 2 refine zb ?_);(with_reducible apply AOps.yieldN0 hcode1 hwtC hheld1 htm1');(iterate 8 exact rfl);intro gR hroR_ hwtR hupR;refine j213 ?_;refine And.intro (show isLp _ _ _ _ from⟨_,_,_,_,rfl⟩) ?_;refine j281 ?_;refine zm ?_;(with_reducible apply AOps.yieldN2 hcode0 hwtR (fun j hj=>(congrArg gR.held (show j+HS+2*HS=j+HS+HS+HS by omega)).trans ((hupR (j+HS)).trans ((hupC j).trans (hheld0 j hj)))) htm0');(iterate 8 exact rfl);intro gS hroS_ hwtS hupS;refine j213 ?_;refine And.intro (show isLp _ _ _ _ from⟨_,_,_,_,rfl⟩) ?_;refine j363 ?_;(with_reducible apply AOps.appendS);exact rfl;(first|exact .pv rfl|exact .own rfl|exact .nil rfl);(iterate 9 exact rfl);(first|omega|(simp only[List.length_map,List.length_append,List.length_cons,List.length_nil,List.length_drop,List.length_take,List.length_set,chunk_len];omega));refine nz ?_;refine j289 ?_;refine AOps.nil ?_;refine inBlockD_n ?_;(with_reducible apply roundEndsN_n);exact⟨_,_,_,_,rfl⟩;refine j269 ?_;(with_reducible apply roundEndsN_n);exact⟨_,_,_,_,rfl⟩;refine nz ?_;refine j328 ?_;refine thenD_ret ?_;(all_goals skip);rotate_left;refine j29 ?_;refine zo ?_;(all_goals skip);rotate_left)
  all_goals first|exact absurd (show((List.drop (Int.toNat 1) ss).length:Int)=0 by rw[show Int.toNat 1=1 from rfl,hd1];rfl) hc_|skip
  ·first|refine iterEndsN_ready (.inl rfl) rfl ?_|refine iterEndsN_ready (.inr rfl) rfl ?_
   (try refine nz ?_)
   (refine inBlockD_n ?_;refine j8 ?_;refine j348 ?_)
   exact⟨i+1,by omega,by omega,weak rfl (by(refine⟨.eq rfl rfl,?_⟩;(iterate 3 refine⟨.eq rfl rfl,?_⟩);refine⟨.intE (by first|rfl|(push_cast;omega)|(simp only[hrs,List.map_append,List.map_cons,List.map_nil,Int.zero_mul,Int.zero_add];rfl)|simp_all),?_⟩;refine⟨.intE (by first|rfl|(push_cast;omega)|(simp only[hrs,List.map_append,List.map_cons,List.map_nil,Int.zero_mul,Int.zero_add];rfl)|simp_all),?_⟩;(iterate 2 refine⟨.eq rfl rfl,?_⟩);exact trivial)) (by(refine⟨.box _ rfl ?_,?_⟩;(iterate 2 refine⟨.any _,?_⟩);exact trivial;refine⟨.box _ rfl ?_,?_⟩;refine⟨.intE (by first|rfl|(push_cast;omega)|(simp only[hrs,List.map_append,List.map_cons,List.map_nil,Int.zero_mul,Int.zero_add];rfl)|simp_all),?_⟩;refine⟨.ownE (by first|rfl|(push_cast;omega)|(simp only[hrs,List.map_append,List.map_cons,List.map_nil,Int.zero_mul,Int.zero_add];rfl)|simp_all) rfl,?_⟩;exact trivial;refine⟨.box _ rfl ?_,?_⟩;refine⟨.pvE (by first|rfl|(push_cast;omega)|(simp only[hrs,List.map_append,List.map_cons,List.map_nil,Int.zero_mul,Int.zero_add];rfl)|simp_all),?_⟩;refine⟨.intE (by first|rfl|(push_cast;omega)|(simp only[hrs,List.map_append,List.map_cons,List.map_nil,Int.zero_mul,Int.zero_add];rfl)|simp_all),?_⟩;exact trivial;refine⟨.box _ rfl ?_,?_⟩;refine⟨.intE (by first|rfl|(push_cast;omega)|(simp only[hrs,List.map_append,List.map_cons,List.map_nil,Int.zero_mul,Int.zero_add];rfl)|simp_all),?_⟩;exact trivial;refine⟨.box _ rfl ?_,?_⟩;refine⟨.pvE (by first|rfl|(push_cast;omega)|(simp only[hrs,List.map_append,List.map_cons,List.map_nil,Int.zero_mul,Int.zero_add];rfl)|simp_all),?_⟩;exact trivial;refine⟨.loop rfl,?_⟩;refine⟨.box _ rfl ?_,?_⟩;refine⟨.eq rfl rfl,?_⟩;exact trivial;refine⟨.row rfl,?_⟩;exact trivial)) rfl⟩
 ·obtain rfl:i=z.toNat:=by omega
  repeat (refine zo ?_)
  ((with_reducible apply AW.regionQ);exact rfl;exact rfl;kernel_rfl;(with_reducible assumption))
  ((iterate 2 refine zm ?_);refine AOps.fieldAddrN 30 0 0 rfl rfl rfl rfl ?_;(iterate 2 refine zb ?_);(focus ((with_reducible apply AOps.index_mapI);(iterate 7 exact rfl);omega;rotate_left;(first|omega|exact Nat.zero_lt_one|exact(by simp))));refine zr ?_;(focus ((with_reducible apply AOps.index_mapI);(iterate 7 exact rfl);omega;rotate_left;(first|omega|exact Nat.zero_lt_one|exact(by simp))));refine zr ?_;refine zj ?_;refine j139 ?_;refine j4 ?_)
  first|refine iterEndsN_ready (.inl rfl) rfl ?_|refine iterEndsN_ready (.inr rfl) rfl ?_
  (try refine nz ?_)
  (refine j266 ?_;refine zq ?_;refine j27 ?_;refine j155 ?_;refine j328 ?_)
  (apply ends_ret;(exact Res.one (.cell rfl rfl rfl rfl));(refine Le.aggL ?_;refine LeL.cons ?_ ?_;refine Le.litI ?_;(first|rfl|(rw[hl];rfl)|simp [hl]);refine LeL.cons ?_ ?_;exact Le.own _ _ _ _ rfl;exact LeL.nil))
end Go.Ab
/- Chapter 05:all tuples over two columns,walked:iterators in iterators. -/
namespace Go.Ab
open Go Go.Proofs
open Nat (reduceAdd reduceSub)
set_option maxRecDepth 20000
set_option maxHeartbeats 8000000
def rks (n:Int):Int→List (Int×Nat)→List Int
 |p,[]=>[p]
 |p,(f,z)::l=>(List.range z).flatMap fun i=>rks n (p*n+(f+(i:Nat))) l
def rksTo (n:Int) (p:Int) (f:Int) (i:Nat) (l:List (Int×Nat)):List Int:=(List.range i).flatMap fun i=>rks n (p*n+(f+(i:Nat))) l
theorem rks_cons (n p f:Int) (z:Nat) (l:List (Int×Nat)):rks n p ((f,z)::l)=rksTo n p f z l:=rfl
theorem rksTo_succ (n p f:Int) (i:Nat) (l:List (Int×Nat)):rksTo n p f (i+1) l=rksTo n p f i l++rks n (p*n+(f+i)) l:=by
 simp [rksTo,List.range_succ]
theorem rksTo_zero (n p f:Int) (l:List (Int×Nat)):rksTo n p f 0 l=[]:=rfl
theorem rks_nil (n p:Int):rks n p []=[p]:=rfl
def cols (l:List (Int×Nat)):Nat:=(l.map (·.2)).foldr (·*·) 1
theorem rks_len (n:Int):∀(l:List (Int×Nat)) (p:Int),(rks n p l).length=cols l
 |[],_=>rfl
 |(f,z)::l,p=>by
  show((List.range z).flatMap fun i=>rks n (p*n+(f+(i:Nat))) l).length=z*cols l
  rw[List.length_flatMap]
  have:((List.range z).map fun i=>(rks n (p*n+(f+(i:Nat))) l).length)=(List.range z).map fun _=>cols l:=by
   apply List.map_congr_left
   intro i _
   exact rks_len n l _
  rw[this,List.map_const',List.length_range,List.sum_replicate_nat]
theorem rksTo_len (n p f:Int) (i:Nat) (l:List (Int×Nat)):(rksTo n p f i l).length=i*cols l:=rks_len n ((f,i)::l) p
attribute [local irreducible] AW AOps thenD inBlockD AR iterEnds roundEndsN inlEnds noGotoD rks rksTo
theorem full2_fn (at':List Int) (st:Int) (ss:List Int) (hl:ss.length=2) (x y:Nat) (hx:ss[0]'(by omega)=(x:Int)) (hy:ss[1]'(by omega)=(y:Int)) (hs:x<at'.length) (hs2:y<at'.length) (h:SmA at') (hsm:at'.sum≤1000):
  Fn Tryz.prog 50 [scp at' st,.pv (ints ss)] (relA (2,rks at'.sum 0 [((at'.take x).sum,at'[x].toNat),((at'.take y).sum,at'[y].toNat)])):=by
 have hle:=h.1
 have hb:=h.take x
 have hb2:=h.take y
 have hsb:=h.take at'.length
 rw[List.take_length] at hsb
 have hzb:=h.2 _ (List.getElem_mem hs)
 have hzb2:=h.2 _ (List.getElem_mem hs2)
 have hw1:=within_fn ss.length 1 3
 rw[decide_eq_true (by omega)] at hw1
 have hw2:=within_fn (ss[0]'(by omega)) 0 (at'.length - 1)
 rw[decide_eq_true (by omega)] at hw2
 have hw3:=within_fn (ss[1]'(by omega)) 0 (at'.length - 1)
 rw[decide_eq_true (by omega)] at hw3
 have hff:=first_fn at' st x h (by omega)
 have hff2:=first_fn at' st y h (by omega)
 have haf:=atoms_fn at' st h
 have hx0:(ss[Int.toNat 0]'(by show 0<_;omega))=(x:Int):=hx
 obtain⟨ss1,hss1⟩:∃ss1,ss1=List.drop (Int.toNat 1) ss:=⟨_,rfl⟩
 have hl1:ss1.length=1:=by rw[hss1];simp;omega
 have hy0:(ss1[Int.toNat 0]'(by show 0<_;omega))=(y:Int):=by
  rw[← hy]
  simp only[hss1]
  rw[List.getElem_drop];rfl
 have hss2:List.drop (Int.toNat 1) ss1=[]:=List.drop_eq_nil_of_le (by show _≤1;omega)
 have hnil:(([]:List Int).length:Int)=0:=rfl
 rw[← hx0] at hff
 rw[← hy0] at hff2
 have hz:at'[(ss[Int.toNat 0]'(by show 0<_;omega)).toNat]'(by rw[hx0];omega)=at'[x]:=by simp only[hx0];rfl
 have hz2:at'[(ss1[Int.toNat 0]'(by show 0<_;omega)).toNat]'(by rw[hy0];omega)=at'[y]:=by simp only[hy0];rfl
 generalize at'[x]=z at hz hzb ⊢
 generalize at'[y]=z2 at hz2 hzb2 ⊢
 generalize hf:(at'.take x).sum=f at hb hff ⊢
 generalize hf2:(at'.take y).sum=f2 at hb2 hff2 ⊢
 generalize hn:at'.sum=n at hsb haf hsm ⊢
 refine Fn.enter (n:=43) Tryz.func50 rfl rfl rfl rfl rfl (by decide) fun g hro_ hwt_=>?_;(try refine nz ?_)
 (refine j368 ?_)
 (refine nz ?_;apply AW.loopR [15,14,4,2,1] [1,0] (fun k:Nat=>([(16,litI k)]:List (Nat×AV))) (fun k:Nat=>([]:List (Nat×Option Ob))) (fun k:Nat=>k≤2) (fun k:Nat=>2 - k) (0);(conv=>lhs;simp only[Nf.lpR,Nf.all,Nat.reduceBEq,reduceAdd,reduceSub]);(all_goals skip))
 ·exact Nat.zero_le _
 ·exact j226
 rintro k hk
 by_cases hk2:k<2
 ·by_cases hk0:k=0
  ·subst hk0
   (refine j7 ?_;(focus ((with_reducible apply AOps.index_map);(iterate 7 exact rfl);rotate_left;omega));refine j356 ?_;refine j210 ?_;refine zA (hw2) ?_;refine j216 ?_)
   exact j206
  ·obtain rfl:k=1:=by omega
   (refine j7 ?_;(focus ((with_reducible apply AOps.index_map);(iterate 7 exact rfl);rotate_left;omega));refine j356 ?_;refine j210 ?_;refine zA (hw3) ?_;refine j216 ?_)
   exact j205
 obtain rfl:k=2:=by omega
 (refine j255 ?_;(with_reducible apply AOps.inline (hf:=Tryz.func83));(with_reducible assumption);(iterate 10 exact rfl);intro g_ hro_ hwt_;refine j71 ?_;refine zd ?_;refine AW.block ?_)
 refine AW.rangeFuncUH (ps:=[35]) (by assumption) (by assumption) rfl rfl Tryz.func102 rfl rfl rfl rfl rfl rfl (by decide) ?_
 intro gB tm0 l0 ps0 asg0 body0 hcode0 hroB hwtB hheld0 hupB htm0
 (refine j232 ?_;(with_reducible apply AW.regionQ);exact rfl;exact rfl;kernel_rfl;(with_reducible assumption);refine j27 ?_;refine zb ?_;(focus ((with_reducible apply AOps.index_mapI);(iterate 7 exact rfl);omega;rotate_left;(first|omega|exact Nat.zero_lt_one|exact(by simp))));refine zr ?_;refine zA (hff) ?_;refine j58 ?_;refine zm ?_;refine j92 ?_)
 (refine nz ?_;apply AW.loopR [5,4,1,2,3,1007,1004] [7,6,5,4,3,1,0] (fun i:Nat=>([(6,litI (f+i))]:List (Nat×AV))) (fun i:Nat=>([(2,some (.box [litI ss.length,.own 8 3 1 ((rksTo n 0 f i [(f2,z2.toNat)]).map encI)])),(8,some .row)]:List (Nat×Option Ob))) (fun i:Nat=>i≤z.toNat) (fun i:Nat=>z.toNat - i) (0);(conv=>lhs;simp only[Nf.lpR,Nf.all,Nat.reduceBEq,reduceAdd,reduceSub]);(all_goals skip))
 ·exact Nat.zero_le _
 ·exact j49
 rintro i hi
 by_cases hlt:i<z.toNat
 ·have hp2:0≤(0*n+(f+(i:Int)))*n∧(0*n+(f+(i:Int)))*n≤10000000000:=by
   have e:0*n+(f+(i:Int))=f+i:=by omega
   rw[e]
   exact⟨Int.mul_nonneg (by omega) (by omega),by
    have h1:=Int.mul_le_mul (by omega:f+(i:Int)≤1001000) (by omega:n≤1000) (by omega) (by omega);omega⟩
  have hrs:=rksTo_succ n 0 f i [(f2,z2.toNat)]
  have hrl:(rksTo n 0 f i [(f2,z2.toNat)]).length≤1000000:=by
   rw[rksTo_len]
   have h1:i*cols [(f2,z2.toNat)]=i*z2.toNat:=by simp [cols]
   rw[h1]
   exact Nat.le_trans (Nat.mul_le_mul (by omega:i≤1000) (by omega:z2.toNat≤1000)) (by omega)
  ((iterate 2 refine zo ?_);(with_reducible apply AW.regionQ);exact rfl;exact rfl;kernel_rfl;(with_reducible assumption);refine j95 ?_;(focus ((with_reducible apply AOps.index_mapI);(iterate 7 exact rfl);omega;rotate_left;(first|omega|exact Nat.zero_lt_one|exact(by simp))));refine zr ?_;(focus ((with_reducible apply AOps.index_mapI);(iterate 7 exact rfl);omega;rotate_left;(first|omega|exact Nat.zero_lt_one|exact(by simp))));refine j146 ?_;show AOps .held _ _ _ [_,_,_,_,_,_] _ _;refine j153 ?_;intro k_ hk_;refine j280 ?_;intro g_ hgro_ hw_;refine j152 ?_;intro g_ hgro_;show AOps .held _ _ _ [_,_] _ _;refine j270 ?_;intro k_ hk_;refine nz ?_;refine j120 ?_;intro g_ hgro_ hwt2_;(with_reducible apply AOps.inline (hf:=Tryz.func83));(with_reducible assumption);(iterate 10 exact rfl);intro g_ hro_ hwt_;refine j277 ?_)
  rw[← hss1]
  refine AW.rangeFuncUH (ps:=[43]) (by assumption) (by assumption) rfl rfl Tryz.func102 rfl rfl rfl rfl rfl rfl (by decide) ?_
  intro gC tm1 l1 ps1 asg1 body1 hcode1 hroC hwtC hheld1 hupC htm1
  (refine j232 ?_;(with_reducible apply AW.regionQ);exact rfl;exact rfl;kernel_rfl;(with_reducible assumption);refine j27 ?_;refine zb ?_;(focus ((with_reducible apply AOps.index_mapI);(iterate 7 exact rfl);omega;rotate_left;(first|omega|exact Nat.zero_lt_one|exact(by simp))));refine zr ?_;refine zA (hff2) ?_;refine j58 ?_;refine zm ?_;refine j92 ?_)
  (refine nz ?_;apply AW.loopR [5,4,1,2,3,1006,1005,1004,1001,1002,1003,2007,2004] [13,12,11,10,9,8,7,6,5,4,3,1,0] (fun j:Nat=>([(6,litI (f2+j))]:List (Nat×AV))) (fun j:Nat=>([(2,some (.box [litI ss.length,.own 8 3 1 ((rksTo n 0 f i [(f2,z2.toNat)]++rksTo n (0*n+(f+(i:Int))) f2 j []).map encI)]))]:List (Nat×Option Ob))) (fun j:Nat=>j≤z2.toNat) (fun j:Nat=>z2.toNat - j) (0);(conv=>lhs;simp only[Nf.lpR,Nf.all,Nat.reduceBEq,reduceAdd,reduceSub]);(all_goals skip))
  ·exact Nat.zero_le _
  ·exact j23
  rintro j hj
  by_cases hlt2:j<z2.toNat
  ·have hrs2:=rksTo_succ n (0*n+(f+(i:Int))) f2 j []
   have hrl2:(rksTo n (0*n+(f+(i:Int))) f2 j []).length≤1000:=by rw[rksTo_len];simp [cols];omega
   have hpj:0≤(0*n+(f+(i:Int)))*n+(f2+(j:Int))∧(0*n+(f+(i:Int)))*n+(f2+(j:Int))≤20000000000:=by omega
   ((iterate 2 refine zo ?_);(with_reducible apply AW.regionQ);exact rfl;exact rfl;kernel_rfl;(with_reducible assumption);refine j95 ?_;(focus ((with_reducible apply AOps.index_mapI);(iterate 7 exact rfl);omega;rotate_left;(first|omega|exact Nat.zero_lt_one|exact(by simp))));refine zr ?_;(focus ((with_reducible apply AOps.index_mapI);(iterate 7 exact rfl);omega;rotate_left;(first|omega|exact Nat.zero_lt_one|exact(by simp))));refine j146 ?_;show AOps .held _ _ _ [_,_,_,_,_,_] _ _;refine j153 ?_;intro k_ hk_;refine j280 ?_;intro g_ hgro_ hw_;refine j152 ?_;intro g_ hgro_;show AOps .held _ _ _ [_,_] _ _;refine j270 ?_;intro k_ hk_;refine nz ?_;refine j120 ?_;intro g_ hgro_ hwt2_;(with_reducible apply AOps.inline (hf:=Tryz.func83));(with_reducible assumption);(iterate 10 exact rfl);intro g_ hro_ hwt_;refine j277 ?_)
   rw[hss2]
   refine AW.rangeFuncUH (ps:=[43]) (by assumption) (by assumption) rfl rfl Tryz.func102 rfl rfl rfl rfl rfl rfl (by decide) ?_
   intro gD tm2 l2 ps2 asg2 body2 hcode2 hroD hwtD hheld2 hupD htm2
   have htm2':tm2.size=48:=htm2
   have htm1':tm1.size=48:=htm1
   have htm0':tm0.size=43:=htm0
   (refine j2 ?_;refine j40 ?_;refine zd ?_;refine j118 ?_;refine j154 ?_;refine j2 ?_;(iterate 2 refine zb ?_);(with_reducible apply AOps.yieldN0 hcode2 hwtD hheld2 htm2');(iterate 8 exact rfl);intro gR hroR_ hwtR hupR;refine j213 ?_;refine And.intro (show isLp _ _ _ _ from⟨_,_,_,_,rfl⟩) ?_;refine j281 ?_;refine zm ?_;(with_reducible apply AOps.yieldN2 hcode1 hwtR (fun j hj=>(congrArg gR.held (show j+HS+2*HS=j+HS+HS+HS by omega)).trans ((hupR (j+HS)).trans ((hupD j).trans (hheld1 j hj)))) htm1');(iterate 8 exact rfl);intro gS hroS_ hwtS hupS;refine j213 ?_;refine And.intro (show isLp _ _ _ _ from⟨_,_,_,_,rfl⟩) ?_;refine j281 ?_;refine zm ?_;(with_reducible apply AOps.yieldN4 hcode0 hwtS (fun j hj=>(congrArg gS.held (show j+HS+4*HS=j+HS+HS+HS+HS+HS by omega)).trans ((hupS (j+HS+HS+HS)).trans ((hupR (j+HS+HS)).trans ((hupD (j+HS)).trans ((hupC j).trans (hheld0 j hj)))))) htm0');(iterate 8 exact rfl);intro gT hroT_ hwtT hupT;refine j213 ?_;refine And.intro (show isLp _ _ _ _ from⟨_,_,_,_,rfl⟩) ?_;refine j363 ?_;(with_reducible apply AOps.appendS);exact rfl;(first|exact .pv rfl|exact .own rfl|exact .nil rfl);(iterate 9 exact rfl);(first|omega|(simp only[List.length_map,List.length_append,List.length_cons,List.length_nil,List.length_drop,List.length_take,List.length_set,chunk_len];omega));refine nz ?_;refine j289 ?_;refine AOps.nil ?_;refine inBlockD_n ?_;(with_reducible apply roundEndsN_n);exact⟨_,_,_,_,rfl⟩;refine j269 ?_;(with_reducible apply roundEndsN_n);exact⟨_,_,_,_,rfl⟩;refine j269 ?_;(with_reducible apply roundEndsN_n);exact⟨_,_,_,_,rfl⟩;refine nz ?_;refine j328 ?_;refine thenD_ret ?_;refine iterEndsN_ready (.inr rfl) rfl ?_;(try refine nz ?_);refine j161 ?_;refine j348 ?_)
   exact⟨j+1,by omega,by omega,weak rfl (by(refine⟨.intE (by first|rfl|(push_cast;omega)|(rw[hrs2,rks_nil,← List.append_assoc,List.map_append (l₂:=[_])];rfl)),?_⟩;refine⟨.intE (by first|rfl|(push_cast;omega)|(rw[hrs2,rks_nil,← List.append_assoc,List.map_append (l₂:=[_])];rfl)),?_⟩;(iterate 4 refine⟨.eq rfl rfl,?_⟩);refine⟨.intE (by first|rfl|(push_cast;omega)|(rw[hrs2,rks_nil,← List.append_assoc,List.map_append (l₂:=[_])];rfl)),?_⟩;refine⟨.intE (by first|rfl|(push_cast;omega)|(rw[hrs2,rks_nil,← List.append_assoc,List.map_append (l₂:=[_])];rfl)),?_⟩;(iterate 6 refine⟨.eq rfl rfl,?_⟩);exact trivial)) (by(refine⟨.box _ rfl ?_,?_⟩;refine⟨.intE (by first|rfl|(push_cast;omega)|(rw[hrs2,rks_nil,← List.append_assoc,List.map_append (l₂:=[_])];rfl)),?_⟩;refine⟨.ownE (by first|rfl|(push_cast;omega)|(rw[hrs2,rks_nil,← List.append_assoc,List.map_append (l₂:=[_])];rfl)) rfl,?_⟩;exact trivial;refine⟨.box _ rfl ?_,?_⟩;refine⟨.eq rfl rfl,?_⟩;exact trivial;refine⟨.loop rfl,?_⟩;refine⟨.box _ rfl ?_,?_⟩;refine⟨.pvE (by first|rfl|(push_cast;omega)|(rw[hrs2,rks_nil,← List.append_assoc,List.map_append (l₂:=[_])];rfl)),?_⟩;exact trivial;refine⟨.box _ rfl ?_,?_⟩;refine⟨.intE (by first|rfl|(push_cast;omega)|(rw[hrs2,rks_nil,← List.append_assoc,List.map_append (l₂:=[_])];rfl)),?_⟩;exact trivial;refine⟨.box _ rfl ?_,?_⟩;refine⟨.pvE (by first|rfl|(push_cast;omega)|(rw[hrs2,rks_nil,← List.append_assoc,List.map_append (l₂:=[_])];rfl)),?_⟩;refine⟨.intE (by first|rfl|(push_cast;omega)|(rw[hrs2,rks_nil,← List.append_assoc,List.map_append (l₂:=[_])];rfl)),?_⟩;exact trivial;refine⟨.row rfl,?_⟩;refine⟨.box _ rfl ?_,?_⟩;refine⟨.eq rfl rfl,?_⟩;exact trivial;refine⟨.loop rfl,?_⟩;refine⟨.box _ rfl ?_,?_⟩;refine⟨.pvE (by first|rfl|(push_cast;omega)|(rw[hrs2,rks_nil,← List.append_assoc,List.map_append (l₂:=[_])];rfl)),?_⟩;exact trivial;refine⟨.box _ rfl ?_,?_⟩;refine⟨.intE (by first|rfl|(push_cast;omega)|(rw[hrs2,rks_nil,← List.append_assoc,List.map_append (l₂:=[_])];rfl)),?_⟩;exact trivial;refine⟨.box _ rfl ?_,?_⟩;refine⟨.pvE (by first|rfl|(push_cast;omega)|(rw[hrs2,rks_nil,← List.append_assoc,List.map_append (l₂:=[_])];rfl)),?_⟩;refine⟨.intE (by first|rfl|(push_cast;omega)|(rw[hrs2,rks_nil,← List.append_assoc,List.map_append (l₂:=[_])];rfl)),?_⟩;exact trivial;refine⟨.box _ rfl ?_,?_⟩;refine⟨.intE (by first|rfl|(push_cast;omega)|(rw[hrs2,rks_nil,← List.append_assoc,List.map_append (l₂:=[_])];rfl)),?_⟩;refine⟨.eq rfl rfl,?_⟩;exact trivial;refine⟨.box _ rfl ?_,?_⟩;refine⟨.pvE (by first|rfl|(push_cast;omega)|(rw[hrs2,rks_nil,← List.append_assoc,List.map_append (l₂:=[_])];rfl)),?_⟩;refine⟨.intE (by first|rfl|(push_cast;omega)|(rw[hrs2,rks_nil,← List.append_assoc,List.map_append (l₂:=[_])];rfl)),?_⟩;(iterate 2 exact trivial))) rfl⟩
  ·obtain rfl:j=z2.toNat:=by omega
   ((iterate 2 refine zo ?_);(with_reducible apply AW.regionQ);exact rfl;exact rfl;kernel_rfl;(with_reducible assumption);refine j95 ?_;(focus ((with_reducible apply AOps.index_mapI);(iterate 7 exact rfl);omega;rotate_left;(first|omega|exact Nat.zero_lt_one|exact(by simp))));refine zr ?_;(focus ((with_reducible apply AOps.index_mapI);(iterate 7 exact rfl);omega;rotate_left;(first|omega|exact Nat.zero_lt_one|exact(by simp))));refine j170 ?_;refine j161 ?_;refine j348 ?_)
   exact j36
 ·obtain rfl:i=z.toNat:=by omega
  ((iterate 2 refine zo ?_);(with_reducible apply AW.regionQ);exact rfl;exact rfl;kernel_rfl;(with_reducible assumption);refine j95 ?_;(focus ((with_reducible apply AOps.index_mapI);(iterate 7 exact rfl);omega;rotate_left;(first|omega|exact Nat.zero_lt_one|exact(by simp))));refine zr ?_;(focus ((with_reducible apply AOps.index_mapI);(iterate 7 exact rfl);omega;rotate_left;(first|omega|exact Nat.zero_lt_one|exact(by simp))));refine j170 ?_;refine j266 ?_;refine zq ?_;refine j27 ?_;refine j155 ?_;refine j328 ?_)
  (apply ends_ret;(exact Res.one (.cell rfl rfl rfl rfl));(refine Le.aggL ?_;refine LeL.cons ?_ ?_;refine Le.litI ?_;(first|rfl|(rw[hl];rfl)|(rw[rks_cons]));refine LeL.cons ?_ ?_;refine Le.ownE ?_;(first|rfl|(rw[hl];rfl)|(rw[rks_cons]));exact LeL.nil))
end Go.Ab
