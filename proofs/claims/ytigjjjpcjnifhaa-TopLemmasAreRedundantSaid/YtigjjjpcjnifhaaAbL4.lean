/- Pools: a row of the walk's own taken in; a shorter slice; a new pool. -/
import Derived.Test.YtigjjjpcjnifhaaAbL3
import Derived.Test.YtigjjjpcjnifhaaAbL2
import Derived.LoopNIn
import Derived.WalkSmall
import Derived.Shelf.Strings.Builder1
import Derived.RecoverIn
set_option linter.unusedSimpArgs false
set_option linter.unusedVariables false
namespace Go.Ab
open Go Go.RowKit
variable {q:Md} {P:Program} {g:Ghost} {δ:DS} {κ:Kp} {a:Act} {w:World}
variable {ops:Array Oper} {rest:List Oper} {Q:Exit→DS→Prop}
theorem ObIs.kill_goes {C C':Cx} {w w':World} {i j:Nat} {o:Ob} (G:Goes (C.less i) w C' w') (hκ:C'.κ j=C.κ j) (hb:∀b,C.κ j=some b→w'.heap[b]? =w.heap[b]?) (hP:∀b,C.κ.F j b→b<w.heap.size→C'.κ.F j b∧w'.heap[b]? =w.heap[b]?) (h:ObIs C w j o):ObIs C' w' j (o.mp' (AV.kill i)):=by
 cases o with
 |row=>
  intro b hb'
  rw[hκ] at hb'
  obtain⟨c,e,h1⟩:=h b hb'
  exact⟨c,e,(hb b hb').trans h1⟩
 |box cs=>
  obtain⟨b,c,e,h1,h2,h3,h4⟩:=h
  refine⟨b,c,e,hκ.trans h1,(hb b h1).trans h2,by simpa using h3,fun k u av h5 h6=>?_⟩
  simp only[List.getElem?_map,Option.map_eq_some_iff] at h6
  obtain⟨av',h6,rfl⟩:=h6
  exact⟨(h4 k u av' h5 h6).1.kill G,(h4 k u av' h5 h6).2⟩
 |mp l=>
  obtain⟨b,es,clock,h1,h2,h3,h4⟩:=h
  refine⟨b,es,clock,hκ.trans h1,(hb b h1).trans h2,⟨h3.1,fun k e p h5 h6=>?_⟩,h4⟩
  exact⟨(h3.2 k e p h5 h6).1,G.ra ((h3.2 k e p h5 h6).2.less (h4.2 p (List.mem_of_getElem? h6)))⟩
 |mpl l kk v=>
  obtain⟨b,es,clock,h1,h2,h3,h4⟩:=h
  refine⟨b,es,clock,hκ.trans h1,(hb b h1).trans h2,?_,h4⟩
  exact h3.last (fun u p hp h=>G.ra (h.less (h4.2 p hp))) (fun u h=>h.kill G)
 |it l seen=>
  obtain⟨b,h1,h2⟩:=h
  exact⟨b,hκ.trans h1,h2.mono G.size G.N (hb b h1)⟩
 |lit T vals=>
  obtain⟨b,h1,h2⟩:=h
  exact⟨b,hκ.trans h1,(hb b h1).trans h2⟩
 |pool e rows=>exact⟨hκ.trans h.1,fun k=>(h.2.1 k).goes G.B fun b _ hF hlt=>hP b hF hlt,h.2.2⟩
 |loop l tm ps asg body st=>
  obtain⟨b,lr,h1,h2,h3⟩:=h
  exact⟨b,lr,hκ.trans h1,(hb b h1).trans h2,h3⟩
theorem Rel.pool_adopt (r:Rel g δ κ a w) {i j k t:Nat} {e:TypeId} {rows:PRows} {us:List Value} {els:List (List PV)} (ho:δ.ob i=some (.pool e rows)) (hj:δ.ob j=some .row) (ht:δ.get t=.own j e 1 els) (he:els=us.map fun u=>[.lit u]) (hk:(rows k).1=.slice none 0 0):
  ∃v κ',Rel g (((δ.mapV (AV.kill j)).setOb i (some (.pool e (rset rows k (v,us))))).put t (.pv (.lit v))) κ' a w:=by
 subst he
 have hij:i≠j:=by rintro rfl;rw[ho] at hj;cases hj
 have hlj:δ.live j:=⟨_,hj⟩
 have hli:δ.live i:=⟨_,ho⟩
 have hv:=r.env t
 rw[ht] at hv
 have hv:=hv.own_inv
 generalize hve:g.val a t=v at hv
 obtain⟨hκi,hrows,hdis⟩:=r.obj i _ ho
 obtain⟨xs,hown,hx1,hxc⟩:=hv.row
 have hlim:=hv.lim
 rw[List.length_map] at hown hlim
 have hxs:xs=us:=by
  apply List.ext_getElem?
  intro n
  by_cases hn:n<us.length
  ·obtain⟨u,h1,h2⟩:=hxc n 0 (.lit us[n]) (by simp [cellAt,hn])
   rw[Nat.mul_one,Nat.add_zero] at h1
   rw[h1,List.getElem?_eq_getElem hn]
   cases h2;rfl
  ·have:=hown.1
   rw[List.getElem?_eq_none (by omega),List.getElem?_eq_none (by omega)]
 subst hxs
 have hvb:∀b,v.ownBlock=some b→κ j=some b:=fun b hb=>hv.blk b hb
 let κ':Kp:=⟨(upd κ j none).f,fun n b=>κ.F n b∨(n=i∧v.ownBlock=some b)⟩
 let δ1:=(δ.mapV (AV.kill j)).setOb i (some (.pool e (rset rows k (v,xs))))
 have hob:∀n,δ1.ob n=if i=n then some (.pool e (rset rows k (v,xs))) else (δ.ob n).map (Ob.mp' (AV.kill j)):=fun n=>by
  show((δ.mapV (AV.kill j)).setOb i _).ob n=_
  rw[ob_setOb,ob_mapV]
 have hlive:∀n,δ1.live n↔δ.live n:=by
  intro n
  unfold DS.live
  rw[hob]
  by_cases h:i=n
  ·subst h;simp [ho]
  ·rw[if_neg h];cases δ.ob n<;>simp
 have hlr:∀n,δ1.lr n↔δ.lr n:=by
  intro n
  unfold DS.lr
  rw[hob]
  by_cases h:i=n
  ·subst h;simp [ho]
  ·rw[if_neg h]
   cases δ.ob n with
   |none=>simp
   |some o=>cases o<;>simp [Ob.mp']
 have hlb:∀n,δ.lb n→δ1.lb n:=by
  rintro n ⟨o,h1,h2⟩
  unfold DS.lb
  rw[hob]
  by_cases h:i=n
  ·rw[if_pos h];exact⟨_,rfl,rfl⟩
  ·rw[if_neg h,h1];exact⟨_,rfl,by cases o<;>simp_all [Ob.mp',Ob.isRow]⟩
 have hκs:∀n b,κ' n=some b→n≠j∧κ n=some b:=by
  intro n b h
  by_cases hn:j=n
  ·subst hn
   have:κ' j=none:=by show upd κ j none j=none;simp [upd]
   rw[this] at h;cases h
  ·have:κ' n=κ n:=by show upd κ j none n=κ n;simp [upd,hn]
   rw[this] at h
   exact⟨fun e=>hn e.symm,h⟩
 have hκo:∀n,n≠j→κ' n=κ n:=fun n hn=>by show upd κ j none n=κ n;simp [upd,Ne.symm hn]
 have hjlb:∀n,δ.lb n→n≠j:=by
  rintro n ⟨o,h1,h2⟩ rfl
  rw[hj] at h1;cases h1;simp [Ob.isRow] at h2
 have hFl:∀b,κ.Fs b→b<w.heap.size:=fun b hb=>r.fr.Fs_lt hb
 have G:Goes ((δ.cx g κ).less j) w (δ1.cx g κ') w:=
  {B:=rfl,size:=Nat.le_refl _
   N:=fun b _ h2=>⟨⟨⟨h2.1.1,by
    rintro⟨n,h3|⟨_,h3⟩⟩
    ·exact h2.1.2 ⟨n,h3⟩
    ·exact h2.2 j hlj (hvb b h3)⟩,fun n hn e=>h2.2 n ((hlive n).1 hn) (hκs n b e).2⟩,rfl⟩
   Lr:=fun n hn=>⟨(hlr n).2 hn.1,hκo n hn.2,fun _ _=>rfl⟩
   Lb:=fun n hn=>⟨hlb n hn,hκo n (hjlb n hn)⟩}
 have R1:Rel g δ1 κ' a w:=
  {n:=r.n,dfr:=r.dfr
   env:=fun n=>by
    show RA _ w _ ((δ.mapV (AV.kill j)).get n)
    rw[get_mapV _ rfl];exact(r.env n).kill G
   obj:=fun n x h=>by
    rw[hob] at h
    by_cases hn:i=n
    ·subst hn
     rw[if_pos rfl] at h
     cases h
     refine⟨(hκo i hij).trans hκi,fun kk=>?_,fun k1 k2 b h2 h3=>?_⟩
     ·unfold rset
      by_cases hk':kk=k
      ·rw[if_pos hk'];exact⟨hown,hlim,fun b hb=> .inr ⟨rfl,hb⟩,hx1⟩
      ·rw[if_neg hk'];exact(hrows kk).goes rfl fun b _ h2 _=>⟨.inl h2,rfl⟩
     ·have hne:∀kk b,(rows kk).1.ownBlock=some b→v.ownBlock=some b→False:=fun kk b h4 h5=>r.fr.Fs_own hlj (hvb b h5) ⟨i,(hrows kk).2.2.1 b h4⟩
      unfold rset at h2 h3
      by_cases hk1:k1=k
      ·by_cases hk2:k2=k
       ·rw[hk1,hk2]
       ·rw[if_pos hk1] at h2
        rw[if_neg hk2] at h3
        exact(hne k2 b h3 h2).elim
      ·by_cases hk2:k2=k
       ·rw[if_neg hk1] at h2
        rw[if_pos hk2] at h3
        exact(hne k1 b h2 h3).elim
       ·rw[if_neg hk1] at h2
        rw[if_neg hk2] at h3
        exact hdis k1 k2 b h2 h3
    ·rw[if_neg hn] at h
     cases ho':δ.ob n with
     |none=>rw[ho'] at h;simp at h
     |some o=>
      rw[ho'] at h
      simp only[Option.map_some,Option.some.injEq] at h
      subst h
      by_cases hnj:n=j
      ·subst hnj
       rw[hj] at ho'
       cases ho'
       intro b hb
       exact absurd rfl (hκs n b hb).1
      ·exact(r.obj n o ho').kill_goes G (hκo n hnj) (fun _ _=>rfl) fun b h2 _=>⟨.inl h2,rfl⟩
   inj:=fun n m b h1 h2 h3 h4=>r.inj n m b ((hlive n).1 h1) ((hlive m).1 h2) (hκs n b h3).2 (hκs m b h4).2
   lo:=fun n b h1 h2=>r.lo n b ((hlive n).1 h1) (hκs n b h2).2
   nx:=fun n h=>r.nx n ((hlive n).1 h)
   wt:=fun kk hk=>⟨(r.wt kk hk).1,fun n b h1 hor h2=>(r.wt kk hk).2 n b ((hlive n).1 h1) (hor.imp (hlr n).1 id) (hκs n b h2).2⟩
   below:=r.below,hB:=r.hB,N0:=r.N0,mkf:=r.mkf
   fr:=by
    refine⟨fun b hb=>?_,fun n b hb=>?_⟩
    ·obtain⟨h2,h3,h4⟩:=r.fr.1 b hb
     exact⟨h2,h3,fun m hm e=>h4 m ((hlive m).1 hm) (hκs m b e).2⟩
    ·rcases hb with h2|⟨rfl,h2⟩
     ·obtain⟨h4,h5,h6,h7,h8⟩:=r.fr.2 n b h2
      refine⟨h4,h5,h6,fun m hm e=>h7 m ((hlive m).1 hm) (hκs m b e).2,fun m hm=>?_⟩
      rcases hm with hm|⟨rfl,hm⟩
      ·exact h8 m hm
      ·exact(r.fr.Fs_own hlj (hvb b hm) ⟨n,h2⟩).elim
     ·have hκj:=hvb b h2
      obtain⟨h3,h4⟩:=r.lo j b hlj hκj
      refine⟨⟨h3,fun kk hk=>(r.wt kk hk).2 j b hlj (.inl hj) hκj⟩,h4,fun hf=>(r.fr.1 b hf).2.2 j hlj hκj,fun m hm e=>?_,fun m hm=>?_⟩
      ·obtain⟨h5,h6⟩:=hκs m b e
       exact h5 (r.inj m j b ((hlive m).1 hm) hlj h6 hκj)
      ·rcases hm with hm|⟨rfl,_⟩
       ·exact(r.fr.Fs_own hlj hκj ⟨m,hm⟩).elim
       ·rfl}
 exact⟨v,κ',R1.learn (by rw[hve];exact .pv (.lit _))⟩
theorem AW.pool_adopt {c:Code} (i j k t:Nat) {e:TypeId} {rows:PRows} {us:List Value} {els:List (List PV)} (ho:δ.ob i=some (.pool e rows)) (hj:δ.ob j=some .row) (ht:δ.get t=.own j e 1 els) (he:els=us.map fun u=>[.lit u]) (hk:(rows k).1=.slice none 0 0)
  (hK:∀v,AW P g c Q (((δ.mapV (AV.kill j)).setOb i (some (.pool e (rset rows k (v,us))))).put t (.pv (.lit v)))):AW P g c Q δ:=fun κ a w r=>by
 obtain⟨v,κ',r'⟩:=r.pool_adopt ho hj ht he hk
 exact hK v κ' a w r'
theorem AW.pool_shrink {c:Code} (i k m:Nat) {e:TypeId} {rows:PRows} {H:Value} {ys:List Value} (ho:δ.ob i=some (.pool e rows)) (hk:rows k=(H,ys)) (hm:m≤ys.length) (hK:AW P g c Q (δ.setOb i (some (.pool e (rset rows k (hdLen m H,ys.take m)))))):AW P g c Q δ:=fun κ a w r=>by
 have h0:=pool_hdr r ho k
 have hl:=((r.obj i _ ho).2.1 k).2.1
 have h1c:=((r.obj i _ ho).2.1 k).2.2.2
 rw[hk] at h0 h1c hl
 simp only at h0 h1c hl
 have hlen:(ys.take m).length=m:=by simp;omega
 have hown:w.ownsRow g.B e 1 (hdLen m H) (ys.take m).length (ys.take m)∧∀b,(hdLen m H).ownBlock=some b→H.ownBlock=some b:=by
  rcases h0.2 with ⟨h1,h2⟩|⟨b,cap,cur,h1,hB,h3,hle,hcm,hcs,htk⟩
  ·subst h1
   obtain rfl:m=0:=by omega
   exact⟨⟨by simp,.inl ⟨rfl,by simp⟩⟩,fun b hb=>by cases hb⟩
  ·subst h1
   refine⟨⟨by simp,.inr ⟨b,cap,cur,by rw[hlen];rfl,hB,h3,by rw[hlen];omega,hcm,hcs,?_⟩⟩,fun b hb=>hb⟩
   rw[hlen,← htk,List.take_take,Nat.mul_one,Nat.mul_one,Nat.min_eq_left hm]
 obtain⟨κ',r',_⟩:=r.pool_turn ho (k:=k) (w':=w) ⟨rfl,rfl,rfl,Nat.le_refl _,fun _ _ _=>rfl⟩ hown.1 (by rw[hlen];omega) (fun u hu=>h1c u (List.mem_of_mem_take hu)) (fun b hb=> .inl (by rw[hk];exact hown.2 b hb))
 exact hK κ' a w r'
theorem Rel.pool_new (r:Rel g δ κ a w) (e:TypeId):Rel g (δ.addOb (.pool e fun _=>(.slice none 0 0,[]))) (upd κ δ.nx none) a w:=by
 have hnl:¬δ.live δ.nx:=fun h=>Nat.lt_irrefl _ (r.nx _ h)
 have hne:∀i,δ.live i→δ.nx≠i:=fun i h e=>hnl (e▸h)
 have hlive:∀i,(δ.addOb (.pool e fun _=>(.slice none 0 0,[]))).live i→i=δ.nx∨δ.live i:=by
  intro i ⟨o',h⟩
  rw[ob_addOb] at h
  by_cases e:δ.nx=i
  ·exact .inl e.symm
  ·rw[if_neg e] at h;exact .inr ⟨o',h⟩
 have hsome:∀i b,(δ.addOb (.pool e fun _=>(.slice none 0 0,[]))).live i→upd κ δ.nx none i=some b→δ.live i∧κ i=some b:=by
  intro i b hi h
  rcases hlive i hi with rfl|hi
  ·simp [upd] at h
  ·simp only[upd,hne i hi,if_false] at h;exact⟨hi,h⟩
 have G:Goes (δ.cx g κ) w ((δ.addOb (.pool e fun _=>(.slice none 0 0,[]))).cx g (upd κ δ.nx none)) w:=
  {B:=rfl,size:=Nat.le_refl _
   N:=fun b h1 h2=>⟨⟨h2.1,fun i hi e=>let ⟨h3,h4⟩:=hsome i b hi e;h2.2 i h3 h4⟩,rfl⟩
   Lr:=fun i hi=>by
    have hi':=hne i (DS.lr_live hi)
    refine⟨?_,by show upd _ _ _ i=κ i;simp [upd,hi'],fun b hκ=>rfl⟩
    show(δ.addOb _).ob i=_
    rw[ob_addOb,if_neg hi'];exact hi
   Lb:=fun i hi=>by
    have hi':=hne i (DS.lb_live hi)
    refine⟨?_,by show upd _ _ _ i=κ i;simp [upd,hi']⟩
    obtain⟨o',h1,h2⟩:=hi
    exact⟨o',by rw[ob_addOb,if_neg hi'];exact h1,h2⟩}
 exact
  {n:=r.n,dfr:=r.dfr,env:=fun j=>G.ra (r.env j)
   obj:=fun i o' h=>by
    rw[ob_addOb] at h
    by_cases e:δ.nx=i
    ·rw[if_pos e] at h;cases h;subst e
     exact⟨by show upd _ _ _ _=_;simp [upd],fun k=>⟨w.ownsRow_nil _ _ _,by simp,fun b hb=>by simp [Value.ownBlock] at hb,fun u hu=>by simp at hu⟩,fun k k' b hb=>by simp [Value.ownBlock] at hb⟩
    ·rw[if_neg e] at h
     exact(r.obj i o' h).goes G (by show upd _ _ _ i=κ i;simp [upd,e]) (fun b hκ=>rfl) (fun b hF hlt=>⟨hF,rfl⟩)
   inj:=fun i j b h1 h2 h3 h4=>let ⟨h5,h6⟩:=hsome i b h1 h3;let ⟨h7,h8⟩:=hsome j b h2 h4;r.inj i j b h5 h7 h6 h8
   lo:=fun i b h1 h2=>let ⟨h5,h6⟩:=hsome i b h1 h2;r.lo i b h5 h6
   nx:=fun i h=>by
    show i<δ.nx+1
    rcases hlive i h with rfl|h
    ·omega
    ·have:=r.nx i h;omega
   wt:=fun k hk=>⟨(r.wt k hk).1,fun i b hi hi' hκ hb=>by
    obtain⟨h5,h6⟩:=hsome i b hi hκ
    refine(r.wt k hk).2 i b h5 (hi'.imp (fun h=>?_) id) h6 hb
    have h7:(δ.addOb _).ob i=some .row:=h
    rw[ob_addOb,if_neg (hne i h5)] at h7
    exact h7⟩
   below:=r.below,hB:=r.hB,N0:=r.N0,mkf:=r.mkf
   fr:=r.fr.sub fun i b h1 h2=>let ⟨h5,h6⟩:=hsome i b h1 h2;⟨i,h5,h6⟩}
theorem AW.pool_new {c:Code} (e:TypeId) (hK:AW P g c Q (δ.addOb (.pool e fun _=>(.slice none 0 0,[])))):AW P g c Q δ:=fun _ a w r=>hK _ a w (r.pool_new e)
end Go.Ab
/- Contracts with more than one outcome:of the caller's objects,and of the result,only a relation is told. -/
namespace Go.Ab
open Go Go.RowKit
variable {P:Program} {g:Ghost} {δ:DS} {κ:Kp} {a:Act} {w:World}
variable {ops:Array Oper} {rest:List Oper} {Q:Exit→DS→Prop} {dst:Option Nat} {ty:TypeId} {pos:String} {af:Array Edge}
abbrev FnR {α:Type} (P:Program) (f:FuncId) (n0:Nat) (objs0:List (Nat×Option Ob)) (args:List AV) (p:α→Prop) (objs1:α→List (Nat×Option Ob)) (r:α→AV):Prop:=
 FnXG (fun _=>True) P (fun(x:α) C w e=>p x∧ERet (r x) C w e) f n0 objs0 args objs1
def EndsQ {α:Type} (P:Program) (rs:List ResultVar) (objs0:List (Nat×Option Ob)) (p:α→Prop) (objs1:α→List (Nat×Option Ob)) (r:α→AV):Exit→DS→Prop
 |.normal,δ|.ret,δ=>∃x,p x∧∃v,Res P δ rs v∧WV δ (XF δ objs0 (objs1 x)) v (r x)∧WV δ (XF δ objs0 (objs1 x)) (δ.get 1000) (.agg (pinL objs0))∧WObs δ (XF δ objs0 (objs1 x)) (objs1 x)∧nxB δ.nx (objs1 x)=true
 |_,_=>False
theorem endsQ_ret {α:Type} {rs:List ResultVar} {objs0:List (Nat×Option Ob)} {p:α→Prop} {objs1:α→List (Nat×Option Ob)} {r:α→AV} {v:AV} (x:α) (hp:p x) (h:Res P δ rs v) (hw:WVs δ (XF δ objs0 (objs1 x)) [v,δ.get 1000] [r x,.agg (pinL objs0)]) (ho:WObs δ (XF δ objs0 (objs1 x)) (objs1 x)) (hx:nxB δ.nx (objs1 x)=true):EndsQ P rs objs0 p objs1 r .ret δ:=⟨x,hp,v,h,hw.1,hw.2.1,ho,hx⟩
theorem endsQ_nor {α:Type} {rs:List ResultVar} {objs0:List (Nat×Option Ob)} {p:α→Prop} {objs1:α→List (Nat×Option Ob)} {r:α→AV} {v:AV} (x:α) (hp:p x) (h:Res P δ rs v) (hw:WVs δ (XF δ objs0 (objs1 x)) [v,δ.get 1000] [r x,.agg (pinL objs0)]) (ho:WObs δ (XF δ objs0 (objs1 x)) (objs1 x)) (hx:nxB δ.nx (objs1 x)=true):EndsQ P rs objs0 p objs1 r .normal δ:=⟨x,hp,v,h,hw.1,hw.2.1,ho,hx⟩
theorem FnR.enter {α:Type} {f:FuncId} {fn:Func} {c:Code} {rs:List ResultVar} {n n0:Nat} {objs0:List (Nat×Option Ob)} {args:List AV} {p:α→Prop} {objs1:α→List (Nat×Option Ob)} {r:α→AV} (hf:P.funcs[f]? =some fn) (hb:fn.body=some c) (hrs:fn.results=rs.toArray) (hn:fn.ntmps=n) (hna:Nat.ble args.length n=true)
  (hna':Nat.ble n HS=true) (he:(fn.name== "runtime.NumGoroutine")=false) (hpin:pinB objs0 objs0=true) (hn1:∀x,nxB n0 (objs1 x)=true)
  (h:∀g:Ghost,g.ro=none→g.wt=none→AW P g c (EndsQ P rs objs0 p objs1 r) ⟨n,enum 0 args++ [(1000,.agg (pinL objs0))],objs0,n0⟩):FnR P f n0 objs0 args p objs1 r:=by
 refine FnXG.enter (Q:=EndsQ P rs objs0 p objs1 r) hf hb hn hna hna' he hpin hn1 (fun g h1 h2 _=>h g h1 h2) fun g e δ' κ' a' w' R hwt hbs hq r' hR=>?_
 have fin:(∃x,p x∧∃v,Res P δ' rs v∧WV δ' (XF δ' objs0 (objs1 x)) v (r x)∧WV δ' (XF δ' objs0 (objs1 x)) (δ'.get 1000) (.agg (pinL objs0))∧WObs δ' (XF δ' objs0 (objs1 x)) (objs1 x)∧nxB δ'.nx (objs1 x)=true)→
   LeavesInM Fence.wide 0 P fn a'.tmps R a'.defers .returning w':=fun⟨x,hpx,v,h1,hv,hp,ho,hx⟩=>
  leaves (g:=g) hwt hbs hrs h1 r' fun w2 r2 u hu=>hR x hp ho hx _ _ r2 ⟨hpx,u,rfl,hu.wv (δ:=δ') (δ':=XF δ' objs0 (objs1 x)) r2.hdrop r2.obj hv⟩
 cases e with
 |normal=>exact fin hq
 |ret=>exact fin hq
 |_=>exact hq.elim
theorem AOps.callR {α:Type} {y:Operand} {f:FuncId} {xs:List Operand} {tys:Array TypeId} {first cap args:List AV} {n0:Nat} {objs0:List (Nat×Option Ob)} {p:α→Prop} {objs1:α→List (Nat×Option Ob)} {r:α→AV} (hwt:g.wt=none) (hf:FnR P f n0 objs0 args p objs1 r) (hy:δ.ev y=.clo (.func f) first cap) (hoy:okT y=true) (hos:xs.all okT=true)
  (hsub:SubO δ objs0) (hargs:LeXs (XS objs0 n0).lrB (XS objs0 n0).lbB (first++xs.map δ.ev++cap) args) (hk:∀x,kindB objs0 (objs1 x)=true) (hn0:nxB n0 objs0=true) (hself:SelfO (XS objs0 n0).lrB (XS objs0 n0).lbB objs0)
  (hself1:∀x,SelfO (XS (objs1 x) n0).lrB (XS (objs1 x) n0).lbB (objs1 x)) (hr:∀x,(r x).ids (XS (objs1 x) n0).lrB (XS (objs1 x) n0).lbB=true) (hd:okD δ.n dst=true)
  (hK:∀x,p x→AOps .plain P g ops rest Q ((δ.afterX objs0 (objs1 x)).putd dst (r x))):
  AOps .plain P g ops (⟨dst,.call {callee:=.value y,args:=xs.toArray,argTypes:=tys},ty,pos,af,none⟩::rest) Q δ:=
 callX_core hwt (fun _ _=>trivial) hf hy hoy hos hsub hargs hk hn0 hself hself1 (fun x κ a w' C v hR hE hra=>by
  obtain⟨hp,u,he,hu⟩:=hE
  cases he
  exact hK x hp _ _ _ (hR.putd (okD_spec hd) (hra (r x) hu (hr x)))) (fun _ C w' ch hE=>by obtain⟨_,u,he,_⟩:=hE;cases he) (fun _ C w' hE=>by obtain⟨_,u,he,_⟩:=hE;cases he)
end Go.Ab
/- Pools of numbers. -/
namespace Go.Ab
open Go Go.RowKit
variable {q:Md} {P:Program} {g:Ghost} {δ:DS} {κ:Kp} {a:Act} {w:World}
variable {ops:Array Oper} {rest:List Oper} {Q:Exit→DS→Prop} {dst:Option Nat} {ty:TypeId} {pos:String} {af:Array Edge} {gd:Option (Tmp×Bool)}
abbrev vI (x:Int):Value:=.int .i64 x
def fset {α:Type} (f:Nat→α) (k:Nat) (v:α):Nat→α:=fun j=>if j=k then v else f j
theorem fset_same {α:Type} (f:Nat→α) (k:Nat) (v:α):fset f k v k=v:=by simp [fset]
theorem fset_ne {α:Type} (f:Nat→α) {k j:Nat} (v:α) (h:j≠k):fset f k v j=f j:=by simp [fset,h]
theorem fset_id {α:Type} (f:Nat→α) (k:Nat):fset f k (f k)=f:=by funext j;unfold fset;split<;>simp_all
theorem fset_fset {α:Type} (f:Nat→α) (k:Nat) (v u:α):fset (fset f k v) k u=fset f k u:=by funext j;unfold fset;split<;>rfl
def plI (hs:Nat→Value) (ls:Nat→List Int):PRows:=fun k=>(hs k,(ls k).map vI)
theorem rset_plI (hs:Nat→Value) (ls:Nat→List Int) (k:Nat) (h:Value) (xs:List Int) {ys:List Value} (hy:ys=xs.map vI):rset (plI hs ls) k (h,ys)=plI (fset hs k h) (fset ls k xs):=by
 subst hy
 funext j
 unfold rset plI fset
 split<;>rfl
theorem rset_plI' (hs:Nat→Value) (ls:Nat→List Int) (k:Nat) (xs:List Int) {ys:List Value} (hy:ys=xs.map vI):rset (plI hs ls) k (hs k,ys)=plI hs (fset ls k xs):=by
 rw[rset_plI hs ls k _ xs hy,fset_id]
section
variable {i k:Nat} {e:TypeId} {hs:Nat→Value} {ls:Nat→List Int}
theorem AOps.plI_len (i:Nat) {x:Operand} {t e':TypeId} (ho:δ.ob i=some (.pool e (plI hs ls))) (hx:δ.ev x=.pv (.lit (hs k))) (ht:P.underlying t=some (.slice e')) (hox:okT x=true) (hd:okD δ.n dst=true)
  (hK:AOps q P g ops rest Q (δ.putd dst (litI ((ls k).length:Nat)))):AOps q P g ops (⟨dst,.call {callee:=.builtin .len,args:= #[x],argTypes:= #[t]},ty,pos,af,none⟩::rest) Q δ:=
 AOps.pool_len i k ho rfl hx ht hox hd (by rw[List.length_map];exact hK)
theorem AOps.plI_len_from (i:Nat) {x:Operand} {t e':TypeId} {m:Nat} (ho:δ.ob i=some (.pool e (plI hs ls))) (hx:δ.ev x=.pv (.lit (hdFrom m (hs k)))) (ht:P.underlying t=some (.slice e')) (hox:okT x=true) (hd:okD δ.n dst=true)
  (hK:AOps q P g ops rest Q (δ.putd dst (litI ((ls k).length - m:Nat)))):AOps q P g ops (⟨dst,.call {callee:=.builtin .len,args:= #[x],argTypes:= #[t]},ty,pos,af,none⟩::rest) Q δ:=
 AOps.pool_len_from i k m ho rfl hx ht hox hd (by rw[List.length_map];exact hK)
theorem AOps.plI_index (i:Nat) {x y:Operand} {t e':TypeId} {m:Int} (ho:δ.ob i=some (.pool e (plI hs ls))) (hx:δ.ev x=.pv (.lit (hs k))) (hy:δ.ev y=litI m) (ht:P.underlying t=some (.slice e')) (hs1:(P.info? e').map (·.size)=some 1) (hox:okT x=true) (hoy:okT y=true) (hd:okD δ.n dst=true)
  (h0:0≤m) (hn:m.toNat<(ls k).length) (hK:AOps q P g ops rest Q (δ.putd dst (.pv (.lit (hdPtr m.toNat (hs k)))))):AOps q P g ops (⟨dst,.indexAddr t x y,ty,pos,af,none⟩::rest) Q δ:=
 AOps.pool_index i k ho rfl hx (n:=m.toNat) (by rw[Int.toNat_of_nonneg h0];exact hy) (by rw[List.length_map];exact hn) ht hs1 hox hoy hd hK
theorem AOps.plI_index_from (i:Nat) {x y:Operand} {t e':TypeId} {m:Int} {m0:Nat} (ho:δ.ob i=some (.pool e (plI hs ls))) (hx:δ.ev x=.pv (.lit (hdFrom m0 (hs k)))) (hy:δ.ev y=litI m) (ht:P.underlying t=some (.slice e')) (hs1:(P.info? e').map (·.size)=some 1) (hox:okT x=true) (hoy:okT y=true) (hd:okD δ.n dst=true)
  (h0:0≤m) (hn:m0+m.toNat<(ls k).length) (hK:AOps q P g ops rest Q (δ.putd dst (.pv (.lit (hdPtr (m0+m.toNat) (hs k)))))):AOps q P g ops (⟨dst,.indexAddr t x y,ty,pos,af,none⟩::rest) Q δ:=
 AOps.pool_index_from i k m0 ho rfl hx (n:=m.toNat) (by rw[Int.toNat_of_nonneg h0];exact hy) (by rw[List.length_map];exact hn) ht hs1 hox hoy hd hK
theorem AOps.plI_load (i:Nat) {x:Operand} {t:TypeId} {n:Nat} (ho:δ.ob i=some (.pool e (plI hs ls))) (hx:δ.ev x=.pv (.lit (hdPtr n (hs k)))) (ht:scalarT P t=true) (hox:okT x=true) (hd:okD δ.n dst=true) (hq:q≠ .held)
  (hn:n<(ls k).length) (hK:AOps q P g ops rest Q (δ.putd dst (litI (ls k)[n]))):AOps q P g ops (⟨dst,.load t x,ty,pos,af,none⟩::rest) Q δ:=
 AOps.pool_load i k ho rfl hx (u:=vI (ls k)[n]) (by rw[List.getElem?_map,List.getElem?_eq_getElem hn];rfl) ht hox hd hq hK
theorem AOps.plI_store (i:Nat) {x y:Operand} {t:TypeId} {n:Nat} {v:Int} (ho:δ.ob i=some (.pool e (plI hs ls))) (hx:δ.ev x=.pv (.lit (hdPtr n (hs k)))) (hy:δ.ev y=litI v) (ht:(P.info? t).map (·.size)=some 1) (hox:okT x=true) (hoy:okT y=true) (hd:okD δ.n dst=true)
  (hn:n<(ls k).length) (hK:AOps .plain P g ops rest Q ((δ.setOb i (some (.pool e (plI hs (fset ls k ((ls k).set n v)))))).putd dst .any)):AOps .plain P g ops (⟨dst,.store t x y,ty,pos,af,none⟩::rest) Q δ:=
 AOps.pool_store i k ho rfl hx (by rw[List.length_map];exact hn) hy rfl ht hox hoy hd (by rw[rset_plI' hs ls k ((ls k).set n v) (by rw[List.map_set])];exact hK)
theorem AOps.plI_slice (i:Nat) {t e':TypeId} {x y:Operand} {m:Int} (ho:δ.ob i=some (.pool e (plI hs ls))) (hx:δ.ev x=.pv (.lit (hs k))) (hy:δ.ev y=litI m) (ht:P.underlying t=some (.slice e')) (hs1:(P.info? e').map (·.size)=some 1) (hox:okT x=true) (hoy:okT y=true) (hd:okD δ.n dst=true)
  (h0:0≤m) (hm:m.toNat≤(ls k).length) (hK:AOps q P g ops rest Q (δ.putd dst (.pv (.lit (hdLen m.toNat (hs k)))))):AOps q P g ops (⟨dst,.slice t x none (some y) none,ty,pos,af,none⟩::rest) Q δ:=
 AOps.pool_slice i k m.toNat ho rfl hx (by rw[Int.toNat_of_nonneg h0];exact hy) (by rw[List.length_map];exact hm) ht hs1 hox hoy hd hK
theorem AOps.plI_from (i:Nat) {t e':TypeId} {x y:Operand} {m:Int} (ho:δ.ob i=some (.pool e (plI hs ls))) (hx:δ.ev x=.pv (.lit (hs k))) (hy:δ.ev y=litI m) (ht:P.underlying t=some (.slice e')) (hs1:(P.info? e').map (·.size)=some 1) (hox:okT x=true) (hoy:okT y=true) (hd:okD δ.n dst=true)
  (h0:0≤m) (hm:m.toNat≤(ls k).length) (hK:AOps q P g ops rest Q (δ.putd dst (.pv (.lit (hdFrom m.toNat (hs k)))))):AOps q P g ops (⟨dst,.slice t x (some y) none none,ty,pos,af,none⟩::rest) Q δ:=
 AOps.pool_from i k m.toNat ho rfl hx (by rw[Int.toNat_of_nonneg h0];exact hy) (by rw[List.length_map];exact hm) ht hs1 hox hoy hd hK
theorem AOps.plI_len_to (i:Nat) {x:Operand} {t e':TypeId} {m:Nat} (ho:δ.ob i=some (.pool e (plI hs ls))) (hx:δ.ev x=.pv (.lit (hdLen m (hs k)))) (ht:P.underlying t=some (.slice e')) (hox:okT x=true) (hd:okD δ.n dst=true) (hm:m≤(ls k).length)
  (hK:AOps q P g ops rest Q (δ.putd dst (litI (m:Nat)))):AOps q P g ops (⟨dst,.call {callee:=.builtin .len,args:= #[x],argTypes:= #[t]},ty,pos,af,none⟩::rest) Q δ:=
 AOps.valw _ hd (fun κ a w r=>by
  have h0:=pool_hdr r ho k
  unfold plI at h0
  simp only[List.length_map] at h0
  have hv:a.eval x=hdLen m (hs k):=r.lit hx hox
  rcases h0.2 with ⟨h1,h2⟩|⟨b,cap,cur,h1,_⟩
  ·rw[h1] at hv
   exact⟨_,fun w' _=>run_len_slice ht x a.eval none _ 0 hv w',.pv (.lit _)⟩
  ·rw[h1] at hv
   exact⟨_,fun w' _=>run_len_slice ht x a.eval _ _ cap hv w',.pv (.lit _)⟩) hK
theorem AOps.plI_index_to (i:Nat) {x y:Operand} {t e':TypeId} {m:Int} {m0:Nat} (ho:δ.ob i=some (.pool e (plI hs ls))) (hx:δ.ev x=.pv (.lit (hdLen m0 (hs k)))) (hy:δ.ev y=litI m) (ht:P.underlying t=some (.slice e')) (hs1:(P.info? e').map (·.size)=some 1) (hox:okT x=true) (hoy:okT y=true) (hd:okD δ.n dst=true)
  (h0:0≤m) (hn:m.toNat<m0) (hm0:m0≤(ls k).length) (hK:AOps q P g ops rest Q (δ.putd dst (.pv (.lit (hdPtr m.toNat (hs k)))))):AOps q P g ops (⟨dst,.indexAddr t x y,ty,pos,af,none⟩::rest) Q δ:=
 AOps.valw _ hd (fun κ a w r=>by
  have h00:=pool_hdr r ho k
  unfold plI at h00
  simp only[List.length_map] at h00
  have hv:a.eval x=hdLen m0 (hs k):=r.lit hx hox
  rcases h00.2 with ⟨h1,h2⟩|⟨b,cap,cur,h1,_⟩
  ·exfalso;omega
  ·rw[h1] at hv ⊢
   refine⟨_,fun w' _=>?_,.pv (.lit _)⟩
   have:=run_indexAddr_slice (dst:=dst) (ty:=ty) (pos:=pos) (af:=af) ht hs1 hv (n:=m.toNat) (by rw[Int.toNat_of_nonneg h0];exact r.lit hy hoy) hn w'
   rw[Nat.mul_one] at this
   exact this) hK
theorem AOps.plI_append (i:Nat) {s x:Operand} {t:TypeId} {bytes:Nat} {z:Value} {us:List Int} {els:List (List PV)} (ho:δ.ob i=some (.pool e (plI hs ls))) (hsx:δ.ev s=.pv (.lit (hs k))) (hx:Srcs δ x 1 els) (he:els=us.map fun u=>[.lit (vI u)]) (ht:P.underlying t=some (.slice e)) (hi:(P.info? e).map (fun i=>(i.size,i.zero,i.bytes))=some (1,some z,bytes)) (hz1:z.oneCell'=true) (hos:okT s=true) (hox:okT x=true) (hd:okD δ.n dst=true)
  (hby:Nat.ble bytes 64=true) (hl:(ls k).length+us.length≤1000000000) (hK:∀v',v'.oneCell'=true→AOps .plain P g ops rest Q ((δ.setOb i (some (.pool e (plI (fset hs k v') (fset ls k (ls k++us)))))).putd dst (.pv (.lit v')))):AOps .plain P g ops (⟨dst,.call {callee:=.builtin .append,args:= #[s,x],argTypes:= #[t,t]},ty,pos,af,none⟩::rest) Q δ:=by
 have h64:bytes≤64:=by simpa using hby
 refine AOps.pool_append i k ho rfl hsx (us:=us.map vI) (.src hx (by rw[he,List.map_map];rfl)) ht hi hz1 hos hox hd ?_ (by simp only[List.length_map];omega) fun v'=>?_
 ·simp only[List.length_map]
  have:((ls k).length+us.length)*bytes≤1000000000*64:=Nat.mul_le_mul hl h64
  omega
 ·rw[rset_plI hs ls k v' (ls k++us) (by rw[List.map_append])]
  intro κ a w r
  refine hK v' ?_ κ a w r
  have h0:=pool_hdr r (i:=i) (rows:=plI (fset hs k v') (fset ls k (ls k++us))) (e:=e) (by cases dst<;>exact(ob_setOb _ _ _ _).trans (if_pos rfl)) k
  unfold plI at h0
  simp only[fset_same] at h0
  rcases h0.2 with ⟨h1,_⟩|⟨b,cap,cur,h1,_⟩<;>rw[h1]<;>rfl
theorem AOps.plI_append1 (i:Nat) {s x:Operand} {t:TypeId} {bytes:Nat} {z:Value} {u:Int} {els:List (List PV)} (ho:δ.ob i=some (.pool e (plI hs ls))) (hsx:δ.ev s=.pv (.lit (hs k))) (hx:Srcs δ x 1 els) (he:els=[[.lit (vI u)]]) (ht:P.underlying t=some (.slice e)) (hi:(P.info? e).map (fun i=>(i.size,i.zero,i.bytes))=some (1,some z,bytes)) (hz1:z.oneCell'=true) (hos:okT s=true) (hox:okT x=true) (hd:okD δ.n dst=true)
  (hby:Nat.ble bytes 64=true) (hl:(ls k).length+1≤1000000000) (hK:∀v',v'.oneCell'=true→AOps .plain P g ops rest Q ((δ.setOb i (some (.pool e (plI (fset hs k v') (fset ls k (ls k++ [u])))))).putd dst (.pv (.lit v')))):AOps .plain P g ops (⟨dst,.call {callee:=.builtin .append,args:= #[s,x],argTypes:= #[t,t]},ty,pos,af,none⟩::rest) Q δ:=
 AOps.plI_append i (us:=[u]) ho hsx hx he ht hi hz1 hos hox hd hby hl hK
theorem AOps.plI_append_in (i m:Nat) {s x:Operand} {t:TypeId} {bytes:Nat} {z:Value} {us:List Int} {els:List (List PV)} (ho:δ.ob i=some (.pool e (plI hs ls))) (hsx:δ.ev s=.pv (.lit (hdLen m (hs k)))) (hx:Srcs δ x 1 els) (he:els=us.map fun u=>[.lit (vI u)]) (ht:P.underlying t=some (.slice e)) (hi:(P.info? e).map (fun i=>(i.size,i.zero,i.bytes))=some (1,some z,bytes)) (hos:okT s=true) (hox:okT x=true) (hd:okD δ.n dst=true)
  (hroom:m+us.length≤(ls k).length) (hne:ls k≠ []) (hK:AOps .plain P g ops rest Q ((δ.setOb i (some (.pool e (plI hs (fset ls k ((ls k).take m++us++(ls k).drop (m+us.length))))))).putd dst (.pv (.lit (hdLen (m+us.length) (hs k)))))):AOps .plain P g ops (⟨dst,.call {callee:=.builtin .append,args:= #[s,x],argTypes:= #[t,t]},ty,pos,af,none⟩::rest) Q δ:=
 AOps.pool_append_in i k m ho rfl hsx (us:=us.map vI) (.src hx (by rw[he,List.map_map];rfl)) (by simp only[List.length_map];exact hroom) (by simpa using hne) ht hi hos hox hd (by
  rw[rset_plI' hs ls k ((ls k).take m++us++(ls k).drop (m+us.length)) (by simp [List.map_take,List.map_drop]),List.length_map];exact hK)
theorem AOps.plI_append_in1 (i:Nat) {m:Nat} {s x:Operand} {t:TypeId} {bytes:Nat} {z:Value} {u:Int} {els:List (List PV)} (ho:δ.ob i=some (.pool e (plI hs ls))) (hsx:δ.ev s=.pv (.lit (hdLen m (hs k)))) (hx:Srcs δ x 1 els) (he:els=[[.lit (vI u)]]) (ht:P.underlying t=some (.slice e)) (hi:(P.info? e).map (fun i=>(i.size,i.zero,i.bytes))=some (1,some z,bytes)) (hos:okT s=true) (hox:okT x=true) (hd:okD δ.n dst=true)
  (hroom:m+1≤(ls k).length) (hK:AOps .plain P g ops rest Q ((δ.setOb i (some (.pool e (plI hs (fset ls k ((ls k).set m u)))))).putd dst (.pv (.lit (hdLen (m+1) (hs k)))))):AOps .plain P g ops (⟨dst,.call {callee:=.builtin .append,args:= #[s,x],argTypes:= #[t,t]},ty,pos,af,none⟩::rest) Q δ:=
 AOps.plI_append_in i m (us:=[u]) ho hsx hx he ht hi hos hox hd hroom (by intro h;rw[h] at hroom;simp at hroom) (by
  have e1:(ls k).take m++ [u]++(ls k).drop (m+ [u].length)=(ls k).set m u:=by
   rw[List.set_eq_take_append_cons_drop,if_pos (by omega)];simp
  rw[e1];exact hK)
theorem AOps.plI_append_tail (i m m':Nat) {s x:Operand} {t:TypeId} {bytes:Nat} {z:Value} (ho:δ.ob i=some (.pool e (plI hs ls))) (hsx:δ.ev s=.pv (.lit (hdLen m (hs k)))) (hx:δ.ev x=.pv (.lit (hdFrom m' (hs k)))) (ht:P.underlying t=some (.slice e)) (hi:(P.info? e).map (fun i=>(i.size,i.zero,i.bytes))=some (1,some z,bytes)) (hos:okT s=true) (hox:okT x=true) (hd:okD δ.n dst=true)
  (hroom:m≤m') (hm':m'≤(ls k).length) (hne:ls k≠ []) (hK:AOps .plain P g ops rest Q ((δ.setOb i (some (.pool e (plI hs (fset ls k ((ls k).take m++(ls k).drop m'++(ls k).drop (m+((ls k).length - m')))))))).putd dst (.pv (.lit (hdLen (m+((ls k).length - m')) (hs k)))))):AOps .plain P g ops (⟨dst,.call {callee:=.builtin .append,args:= #[s,x],argTypes:= #[t,t]},ty,pos,af,none⟩::rest) Q δ:=
 AOps.pool_append_in i k m ho rfl hsx (us:=((ls k).map vI).drop m') (.tail ho rfl (by simp only[List.length_map];exact hm') hx (by simpa using hne)) (by simp only[List.length_map,List.length_drop];omega) (by simpa using hne) ht hi hos hox hd (by
  have e1:(((ls k).map vI).drop m').length=(ls k).length - m':=by simp
  rw[e1,rset_plI' hs ls k ((ls k).take m++(ls k).drop m'++(ls k).drop (m+((ls k).length - m'))) (by simp [List.map_take,List.map_drop])];exact hK)
end
def hrow (n:Nat) (h:Nat→Value):List (List PV):=(List.range n).map fun j=>[.lit (h j)]
theorem hrow_len (n:Nat) (h:Nat→Value):(hrow n h).length=n:=by simp [hrow]
theorem hrow_get {n k:Nat} (h:Nat→Value) (hk:k<n):(hrow n h)[k]? =some [.lit (h k)]:=by simp [hrow,hk]
theorem hrow_set {n k:Nat} (h:Nat→Value) (hk:k<n) (v:Value):(hrow n h).set k [.lit v]=hrow n (fset h k v):=by
 apply List.ext_getElem (by simp [hrow])
 intro j h1 h2
 have hj:j<n:=by simpa [hrow] using h1
 rw[List.getElem_set]
 simp only[hrow,List.getElem_map,List.getElem_range]
 by_cases e:k=j
 ·subst e;rw[if_pos rfl,fset_same]
 ·rw[if_neg e,fset_ne _ _ (Ne.symm e)]
theorem hrow_succ (n:Nat) (h:Nat→Value):hrow n h++ [[.lit (h n)]]=hrow (n+1) h:=by
 simp only[hrow,List.range_succ,List.map_append,List.map_cons,List.map_nil]
theorem AOps.hrow_len {x:Operand} {t e e':TypeId} {i n:Nat} {h:Nat→Value} (hx:δ.ev x=.own i e' 1 (hrow n h)) (ht:P.underlying t=some (.slice e)) (ho:okT x=true) (hd:okD δ.n dst=true)
  (hK:AOps q P g ops rest Q (δ.putd dst (litI (n:Nat)))):AOps q P g ops (⟨dst,.call {callee:=.builtin .len,args:= #[x],argTypes:= #[t]},ty,pos,af,none⟩::rest) Q δ:=
 AOps.len_own hx ht ho hd (by rw[Go.Ab.hrow_len];exact hK)
theorem AOps.hrow_index {x y:Operand} {t e e':TypeId} {i n:Nat} {m:Int} {h:Nat→Value} (hx:δ.ev x=.own i e' 1 (hrow n h)) (hy:δ.ev y=litI m) (ht:P.underlying t=some (.slice e)) (hk:(P.info? e).map (·.size)=some 1) (ho:okT x=true) (ho':okT y=true) (hd:okD δ.n dst=true) (h0:0≤m) (hn:m.toNat<n)
  (hK:AOps q P g ops rest Q (δ.putd dst (.optr i e' 1 (hrow n h) m.toNat))):AOps q P g ops (⟨dst,.indexAddr t x y,ty,pos,af,none⟩::rest) Q δ:=
 AOps.index_own (n:=m.toNat) hx (by rw[Int.toNat_of_nonneg h0];exact hy) (by rw[Go.Ab.hrow_len];exact hn) ht hk ho ho' hd hK
theorem AOps.hrow_load {x:Operand} {t e:TypeId} {i n m:Nat} {h:Nat→Value} (hx:δ.ev x=.optr i e 1 (hrow n h) m) (ht:scalarT P t=true) (ho:okT x=true) (hd:okD δ.n dst=true) (hq:q≠ .held) (hn:m<n)
  (hK:AOps q P g ops rest Q (δ.putd dst (.pv (.lit (h m))))):AOps q P g ops (⟨dst,.load t x,ty,pos,af,none⟩::rest) Q δ:=
 AOps.load_o1 hq hx (hrow_get h hn) ht ho hd hK
theorem AW.plI_adopt {c:Code} (i j k t:Nat) {e:TypeId} {hs:Nat→Value} {ls:Nat→List Int} {us:List Int} {els:List (List PV)} (ho:δ.ob i=some (.pool e (plI hs ls))) (hj:δ.ob j=some .row) (ht:δ.get t=.own j e 1 els) (he:els=us.map fun u=>[.lit (vI u)]) (hk:hs k=.slice none 0 0)
  (hK:∀v,v.oneCell'=true→AW P g c Q (((δ.mapV (AV.kill j)).setOb i (some (.pool e (plI (fset hs k v) (fset ls k us))))).put t (.pv (.lit v)))):AW P g c Q δ:=
 AW.pool_adopt i j k t (us:=us.map vI) ho hj ht (by rw[he,List.map_map];rfl) hk fun v=>by
  rw[rset_plI hs ls k v us rfl]
  intro κ a w r
  refine hK v ?_ κ a w r
  have h0:=pool_hdr r (i:=i) (rows:=plI (fset hs k v) (fset ls k us)) (e:=e) (by show((δ.mapV (AV.kill j)).setOb i _).ob i=_;rw[ob_setOb,if_pos rfl]) k
  unfold plI at h0
  simp only[fset_same] at h0
  rcases h0.2 with ⟨h1,_⟩|⟨b,cap,cur,h1,_⟩<;>rw[h1]<;>rfl
theorem AW.plI_shrink {c:Code} (i k m:Nat) {e:TypeId} {hs:Nat→Value} {ls:Nat→List Int} (ho:δ.ob i=some (.pool e (plI hs ls))) (hm:m≤(ls k).length) (hK:AW P g c Q (δ.setOb i (some (.pool e (plI (fset hs k (hdLen m (hs k))) (fset ls k ((ls k).take m))))))):AW P g c Q δ:=
 AW.pool_shrink i k m ho rfl (by rw[List.length_map];exact hm) (by rw[rset_plI hs ls k _ ((ls k).take m) (by rw[List.map_take])];exact hK)
theorem AW.plI_new {c:Code} (e:TypeId) (hK:AW P g c Q (δ.addOb (.pool e (plI (fun _=> .slice none 0 0) fun _=>[])))):AW P g c Q δ:=AW.pool_new e hK
theorem AW.plI_shrinkR (id i k m:Nat) {b:Bool} {l:Array Oper} {e:TypeId} {hs:Nat→Value} {ls:Nat→List Int} (ho:δ.ob i=some (.pool e (plI hs ls))) (hm:m≤(ls k).length) (hK:AW P g (.region id l b) Q (δ.setOb i (some (.pool e (plI (fset hs k (hdLen m (hs k))) (fset ls k ((ls k).take m))))))):AW P g (.region id l b) Q δ:=
 AW.plI_shrink i k m ho hm hK
theorem pool_one (r:Rel g δ κ a w) {i:Nat} {e:TypeId} {hs:Nat→Value} {ls:Nat→List Int} (ho:δ.ob i=some (.pool e (plI hs ls))) (k m:Nat):(hs k).oneCell'=true∧(hdLen m (hs k)).oneCell'=true:=by
 have h0:=pool_hdr r ho k
 unfold plI at h0
 simp only at h0
 rcases h0.2 with ⟨h1,_⟩|⟨b,cap,cur,h1,_⟩<;>rw[h1]<;>exact⟨rfl,rfl⟩
theorem AW.plI_one {c:Code} (i:Nat) {e:TypeId} {hs:Nat→Value} {ls:Nat→List Int} (ho:δ.ob i=some (.pool e (plI hs ls))) (hK:(∀k,(hs k).oneCell'=true)→(∀k m,(hdLen m (hs k)).oneCell'=true)→AW P g c Q δ):AW P g c Q δ:=fun κ a w r=>
 hK (fun k=>(pool_one r ho k 0).1) (fun k m=>(pool_one r ho k m).2) κ a w r
theorem WV.litE {δ δ':DS} {u v:Value} (h:u=v):WV δ δ' (.pv (.lit u)) (.pv (.lit v)):=.eq (by rw[h]) rfl
namespace Nf
variable {i n j:Nat} {c:List PV}
theorem s_any:AV.stor1 i n c .any=.any:=rfl
theorem s_pv (p:PV):AV.stor1 i n c (.pv p)=.pv p:=rfl
theorem s_ptr (a b:Nat):AV.stor1 i n c (.ptr a b)=.ptr a b:=rfl
theorem s_rptr (d:List PV):AV.stor1 i n c (.rptr d)=.rptr d:=rfl
theorem s_mapr (a:Nat):AV.stor1 i n c (.mapr a)=.mapr a:=rfl
theorem s_yld (a:Nat):AV.stor1 i n c (.yld a)=.yld a:=rfl
theorem s_own (e els):AV.stor1 i n c (.own j e 1 els)=bif Nat.beq i j then .own j e 1 (els.set n c) else .own j e 1 els:=rfl
theorem s_own3 (e els):AV.stor1 i n c (.own j e 3 els)=bif Nat.beq i j then .any else .own j e 3 els:=rfl
theorem s_optr (e k els m):AV.stor1 i n c (.optr j e k els m)=bif Nat.beq i j then .any else .optr j e k els m:=rfl
theorem s_agg (cs:List AV):AV.stor1 i n c (.agg cs)=.agg (mapC (AV.stor1 i n c) cs):=by
 show AV.agg (AV.mpL (stor1F i n c) cs)=_
 rw[AV.mpL_eq]
 congr 1
 induction cs with
 |nil=>rfl
 |cons a r ih=>rw[List.map_cons,ih];rfl
theorem s_tup (cs:List AV):AV.stor1 i n c (.tup cs)=.tup (mapC (AV.stor1 i n c) cs):=by
 show AV.tup (AV.mpL (stor1F i n c) cs)=_
 rw[AV.mpL_eq]
 congr 1
 induction cs with
 |nil=>rfl
 |cons a r ih=>rw[List.map_cons,ih];rfl
set_option linter.defProp false in
def s1R:=And.intro @s_any (And.intro @s_pv (And.intro @s_ptr (And.intro @s_rptr (And.intro @s_mapr (And.intro @s_yld (And.intro @s_own (And.intro @s_own3 (And.intro @s_optr (And.intro @s_agg @s_tup)))))))))
end Nf
end Go.Ab
/- An index into an own row of any form. -/
namespace Go.Ab
open Go Go.RowKit
variable {q:Md} {P:Program} {g:Ghost} {δ:DS} {ops:Array Oper} {rest:List Oper} {Q:Exit→DS→Prop} {dst:Option Nat} {ty:TypeId} {pos:String} {af:Array Edge}
theorem AOps.index_ownI {x y:Operand} {t e e':TypeId} {i k:Nat} {m:Int} {els:List (List PV)} (hx:δ.ev x=.own i e' k els) (hy:δ.ev y=litI m)
  (ht:P.underlying t=some (.slice e)) (hk:(P.info? e).map (·.size)=some k) (ho:okT x=true) (ho':okT y=true) (hd:okD δ.n dst=true) (h0:0≤m) (hn:m.toNat<els.length)
  (hK:AOps q P g ops rest Q (δ.putd dst (.optr i e' k els m.toNat))):AOps q P g ops (⟨dst,.indexAddr t x y,ty,pos,af,none⟩::rest) Q δ:=
 AOps.index_own (n:=m.toNat) hx (by rw[hy];show litI m=litI _;rw[Int.toNat_of_nonneg h0]) hn ht hk ho ho' hd hK
end Go.Ab
/- Pools of numbers:a row forgotten;a row appended to a row of the walk's own. -/
namespace Go.Ab
open Go Go.RowKit
variable {q:Md} {P:Program} {g:Ghost} {δ:DS} {κ:Kp} {a:Act} {w:World} {Q:Exit→DS→Prop}
variable {ops:Array Oper} {rest:List Oper} {dst:Option Nat} {ty:TypeId} {pos:String} {af:Array Edge} {gd:Option (Tmp×Bool)}
theorem AW.plI_drop {c:Code} (i k:Nat) {e:TypeId} {hs:Nat→Value} {ls:Nat→List Int} (ho:δ.ob i=some (.pool e (plI hs ls))) (hK:AW P g c Q (δ.setOb i (some (.pool e (plI (fset hs k (.slice none 0 0)) (fset ls k [])))))):AW P g c Q δ:=fun κ a w r=>by
 obtain⟨κ',r',_⟩:=r.pool_turn ho (k:=k) (w':=w) ⟨rfl,rfl,rfl,Nat.le_refl _,fun _ _ _=>rfl⟩ (v':=.slice none 0 0) (ys:=[]) ⟨by simp,.inl ⟨rfl,by simp⟩⟩ (by simp) (fun u hu=>by simp at hu) (fun b hb=>by cases hb)
 rw[rset_plI hs ls k _ [] (ys:=[]) rfl] at r'
 exact hK κ' a w r'
theorem pool_src (r:Rel g δ κ a w) {i k:Nat} {e:TypeId} {hs:Nat→Value} {ls:Nat→List Int} (ho:δ.ob i=some (.pool e (plI hs ls))) {x:Operand} (hx:δ.ev x=.pv (.lit (hs k))) (hox:okT x=true):Src (δ.cx g κ) w (a.eval x) 1 ((ls k).map fun u=>[.lit (vI u)]):=by
 have h0:=pool_hdr r ho k
 have hl:=((r.obj i _ ho).2.1 k).2.1
 unfold plI at h0 hl
 simp only[List.length_map] at h0 hl
 have hv:a.eval x=hs k:=r.lit hx hox
 refine⟨by simpa using hl,fun c hc=>by obtain⟨u,_,rfl⟩:=List.mem_map.1 hc;rfl,?_⟩
 rw[List.length_map]
 rcases h0.2 with ⟨h1,h2⟩|⟨b,cap,cur,h1,_,h3,hle,_,hcs,htk⟩
 ·exact⟨none,0,by rw[hv,h1,h2],fun hne=>absurd (by rw[List.eq_nil_of_length_eq_zero h2];rfl) hne⟩
 ·refine⟨_,_,by rw[hv,h1],fun hne=>⟨b,0,fun i _=>vI ((ls k).getD i 0),rfl,fun i j p hp=>?_⟩⟩
  rw[Nat.mul_one] at htk
  obtain⟨hi,hj⟩:i<(ls k).length∧j=0∧True:=by
   unfold cellAt at hp
   simp only[List.getElem?_map] at hp
   cases hq:(ls k)[i]? with
   |none=>rw[hq] at hp;simp at hp
   |some u=>
    refine⟨(List.getElem?_eq_some_iff.1 hq).1,?_,trivial⟩
    rw[hq] at hp
    cases j with
    |zero=>rfl
    |succ j=>simp at hp
  obtain⟨rfl,_⟩:=hj
  have hp2:p=.lit (vI (ls k)[i]):=by
   unfold cellAt at hp
   simp only[List.getElem?_map,List.getElem?_eq_getElem hi] at hp
   simpa using hp.symm
  subst hp2
  have hg:(ls k).getD i 0=(ls k)[i]:=by simp [List.getD_eq_getElem?_getD,hi]
  refine⟨?_,rfl,?_⟩
  ·rw[cell_of h3,← Array.getElem?_toList]
   show cur.toList[0+i*1+0]? =some (vI ((ls k).getD i 0))
   rw[hg,show 0+i*1+0=i by omega]
   have:=congrArg (·[i]?) htk
   simp only[List.getElem?_take,if_pos hi,List.getElem?_map,List.getElem?_eq_getElem hi] at this
   simpa using this
  ·show RP _ _ (vI ((ls k).getD i 0)) _
   rw[hg];exact .lit _
theorem AOps.append_pool (i0:Nat) {s x:Operand} {t e e0:TypeId} {i bytes k:Nat} {z:Value} {els:List (List PV)} {hs:Nat→Value} {ls:Nat→List Int} (ho0:δ.ob i0=some (.pool e0 (plI hs ls))) (hsx:δ.ev s=.own i e 1 els) (hx:δ.ev x=.pv (.lit (hs k))) (hr:δ.ob i=some .row) (ht:P.underlying t=some (.slice e))
  (hi:(P.info? e).map (fun i=>(i.size,i.zero,i.bytes))=some (1,some z,bytes)) (hby:Nat.ble bytes 64=true) (hzk:Nat.beq z.cells.size 1=true) (ho:okT s=true) (ho':okT x=true) (hd:okD δ.n dst=true)
  (hl:els.length+(ls k).length≤1000000000000) (hK:AOps .plain P g ops rest Q ((δ.mapV (AV.kill i)).putd dst (.own i e 1 (els++(ls k).map fun u=>[.lit (vI u)])))):
  AOps .plain P g ops (⟨dst,.call {callee:=.builtin .append,args:= #[s,x],argTypes:= #[t,t]},ty,pos,af,none⟩::rest) Q δ:=
 AOps.eff rfl rfl (fun κ a w r=>by
  obtain⟨v',w',κ',h1,h2,h3⟩:=append_core (ty:=ty) r hr (r.ra hsx ho).own_inv (pool_src r ho0 hx ho') ht hi (Nat.eq_of_beq_eq_true hzk) (by simp) (mul_bytes hby (by rw[List.length_map];exact hl)) (by rw[List.length_map];omega)
  exact .inl ⟨_,_,_,_,run_append_op h1,.inl rfl,h2.putd (okD_spec hd) (.own h3)⟩) hK
theorem AOps.plI_eqnil (i:Nat) {x y:Operand} {t e e' t':TypeId} {k:Nat} {hs:Nat→Value} {ls:Nat→List Int} (ho:δ.ob i=some (.pool e' (plI hs ls))) (hx:δ.ev x=.pv (.lit (hs k))) (hy:δ.ev y=.pv (.lit (.slice none 0 0))) (ht:P.underlying t=some (.slice e)) (hox:okT x=true) (hoy:okT y=true) (hd:okD δ.n dst=true) (hne:0<(ls k).length)
  (hK:AOps q P g ops rest Q (δ.putd dst (litB false))):AOps q P g ops (⟨dst,.binOp .eql t x y t',ty,pos,af,none⟩::rest) Q δ:=
 AOps.valw _ hd (fun κ a w r=>by
  have h0:=pool_hdr r ho k
  unfold plI at h0
  simp only[List.length_map] at h0
  have hv:a.eval x=hs k:=r.lit hx hox
  have h2:=r.lit hy hoy
  rcases h0.2 with ⟨_,h3⟩|⟨b,cap,cur,h1,_⟩
  ·exfalso;omega
  ·refine⟨.bool false,fun w' _=>?_,.pv (.lit _)⟩
   have:=run_eqlnil ht x y (some ⟨b,0,none⟩) (ls k).length cap w'
   rw[h1] at hv
   simp only[execOp,hv,h2]
   simp only[Sem.run_bind,this,Result.andThen_ok] at*
   first|rfl|simp [this]) hK
end Go.Ab
/- A row of the walk's own with elements is not nil. -/
namespace Go.Ab
open Go Go.RowKit
variable {q:Md} {P:Program} {g:Ghost} {δ:DS} {κ:Kp} {a:Act} {w:World} {Q:Exit→DS→Prop}
variable {ops:Array Oper} {rest:List Oper} {dst:Option Nat} {ty:TypeId} {pos:String} {af:Array Edge} {gd:Option (Tmp×Bool)}
theorem AOps.own_eqnil {x y:Operand} {t e e' t':TypeId} {i k:Nat} {els:List (List PV)} (hx:δ.ev x=.own i e' k els) (hy:δ.ev y=.pv (.lit (.slice none 0 0))) (ht:P.underlying t=some (.slice e)) (hox:okT x=true) (hoy:okT y=true) (hd:okD δ.n dst=true) (hne:0<els.length)
  (hK:AOps q P g ops rest Q (δ.putd dst (litB false))):AOps q P g ops (⟨dst,.binOp .eql t x y t',ty,pos,af,none⟩::rest) Q δ:=
 AOps.valw _ hd (fun κ a w r=>by
  obtain⟨xs,⟨_,hown⟩,_⟩:=(r.ra hx hox).own_inv.row
  have h2:=r.lit hy hoy
  rcases hown with ⟨_,h3⟩|⟨b,cap,cur,h1,_⟩
  ·exfalso;omega
  ·refine⟨.bool false,fun w' _=>?_,.pv (.lit _)⟩
   have:=run_eqlnil ht x y (some ⟨b,0,none⟩) els.length cap w'
   simp only[execOp,h1,h2]
   simp only[Sem.run_bind,this,Result.andThen_ok] at*
   first|rfl|simp [this]) hK
end Go.Ab
/- Contracts of functions that panic;an own panic. -/
namespace Go.Ab
open Go Go.RowKit
variable {q:Md} {P:Program} {g:Ghost} {δ:DS} {κ:Kp} {a:Act} {w:World}
variable {ops:Array Oper} {rest:List Oper} {Q:Exit→DS→Prop} {dst:Option Nat} {ty:TypeId} {pos:String} {af:Array Edge}
theorem leavesP (hwt:g.wt=none) (hbs:g.base=[]) {fn:Func} {ch:List PanicEntry} {R:Ending→World→Prop}:∀{a:Act} {w:World},Rel g δ κ a w→
  (∀w2,Rel g δ κ {a with defers:=[]} w2→R (.panicked ch) w2)→LeavesInM Fence.wide 0 P fn a.tmps R a.defers (.panicking ch) w:=by
 intro a w r hR
 obtain⟨ms,h1,h2,h3⟩:=r.dfr
 rw[hbs,List.append_nil] at h1
 rw[h1]
 induction ms generalizing a w with
 |nil=>
  have ra:Rel g δ κ {a with defers:=[]} w:={r with dfr:=⟨[],by rw[hbs];rfl,h2,h3⟩,mkf:=fun d hd=>by cases hd}
  exact hR w ra
 |cons m ms ih=>
  refine⟨by simp,.inl ⟨m,_,rfl,run_takeDeferred (h3 m (by simp)).2,?_⟩⟩
  have hm:=h3 m (by simp)
  rw[List.cons_append] at h2
  have hnd:=List.nodup_cons.1 h2
  have hkeep:∀k∈ms++g.mks,g.B≤k∧(w.putObj m (.deferred none)).heap[k]? =some (.deferred (some [])):=fun k hk=>
   ⟨(h3 k (by simp only[List.cons_append,List.mem_cons];exact .inr hk)).1,by rw[World.putObj_heap_other (by intro e;subst e;exact hnd.1 hk)];exact(h3 k (by simp only[List.cons_append,List.mem_cons];exact .inr hk)).2⟩
  have hd:Dfr g {a with defers:=ms.map fun r=>({target:=.collected r,args:= #[]}:Deferred)} (w.putObj m (.deferred none)):=⟨ms,by rw[hbs,List.append_nil],hnd.2,hkeep⟩
  have r2:=r.shut hwt hm.1 hm.2 (a':={a with defers:=ms.map fun r=>({target:=.collected r,args:= #[]}:Deferred)}) rfl (fun d hd=>by rw[h1];exact List.mem_map.2 (let ⟨x,hx,e⟩:=List.mem_map.1 hd;⟨x,by simp [hx],e⟩)) (r.mkf {target:=.collected m,args:= #[]} (by rw[h1];exact List.mem_map.2 ⟨m,by simp,rfl⟩) m rfl) hd
  exact ih (a:={a with defers:=ms.map fun r=>({target:=.collected r,args:= #[]}:Deferred)}) r2 (fun w2 r3=>hR w2 r3) rfl hnd.2 hkeep
theorem FnD.enter {T:World→Prop} {t:TypeId} {f:FuncId} {fn:Func} {c:Code} {n n0:Nat} {objs0 objs1:List (Nat×Option Ob)} {args:List AV} (hf:P.funcs[f]? =some fn) (hb:fn.body=some c) (hn:fn.ntmps=n) (hna:Nat.ble args.length n=true)
  (hna':Nat.ble n HS=true) (he:(fn.name== "runtime.NumGoroutine")=false) (hpin:pinB objs0 objs0=true) (hn1:nxB n0 objs1=true)
  (h:∀g:Ghost,g.ro=none→g.wt=none→TB T g→AW P g c (EndsP t objs0 objs1) ⟨n,enum 0 args++ [(1000,.agg (pinL objs0))],objs0,n0⟩):FnD T P t f n0 objs0 args objs1:=by
 refine FnXG.enter (Q:=EndsP t objs0 objs1) hf hb hn hna hna' he hpin (fun _=>hn1) h fun g e δ' κ' a' w' R hwt hbs hq r' hR=>?_
 cases e with
 |panic ch=>
  obtain⟨h1,h2,h3,h4⟩:=hq
  exact leavesP (g:=g) hwt hbs r' fun w2 r2=>hR () h2 h3 h4 _ _ r2 ⟨ch,rfl,h1⟩
 |_=>exact hq.elim
theorem WV.aggL {δ δ':DS} {cs ds:List AV} (h:WVs δ δ' cs ds):WV δ δ' (.agg cs) (.agg ds):=by
 have key:∀{cs ds:List AV},WVs δ δ' cs ds→cs.length=ds.length∧∀(j:Nat) (c d:AV),cs[j]? =some c→ds[j]? =some d→WV δ δ' c d:=by
  intro cs
  induction cs with
  |nil=>
   intro ds h
   cases ds with
   |nil=>exact⟨rfl,fun j c d h1=>by simp at h1⟩
   |cons d ds=>exact h.elim
  |cons c cs ih=>
   intro ds h
   cases ds with
   |nil=>exact h.elim
   |cons d ds=>
    obtain⟨h1,h2⟩:=h
    obtain⟨h3,h4⟩:=ih h2
    refine⟨by simp [h3],fun j c' d' h5 h6=>?_⟩
    cases j with
    |zero=>simp at h5 h6;subst h5;subst h6;exact h1
    |succ j=>exact h4 j c' d' (by simpa using h5) (by simpa using h6)
 exact .agg (key h).1 (key h).2
variable {k:Wt} {late:List Nat} {l:List Oper} {dn:List Nat} {QD:Exit→DS→Prop}
end Go.Ab
/- A strings.Builder's own steps:a variable told by its very cells and its type,pointers through unsafe.Pointer,pointers held against nil and themselves;String. -/
namespace Go.Ab
open Go Go.RowKit
variable {q:Md} {P:Program} {g:Ghost} {δ:DS} {κ:Kp} {a:Act} {w:World}
variable {ops:Array Oper} {rest:List Oper} {Q:Exit→DS→Prop} {dst:Option Nat} {ty:TypeId} {pos:String} {af:Array Edge} {gd:Option (Tmp×Bool)}
theorem AW.adopt {c:Code} (h:AW P g c Q (δ.addOb .row)):AW P g c Q δ:=fun κ a w r=>by
 obtain⟨r1,_⟩:=r.adopt
 exact h _ _ _ r1
theorem AOps.adopt {l:List Oper} (h:AOps .plain P g ops l Q (δ.addOb .row)):AOps .plain P g ops l Q δ:=fun κ a w r=>by
 obtain⟨r1,_⟩:=r.adopt
 exact h _ _ _ r1
theorem eqG_ptr (op:BinOp) (t:TypeId) (x y:Operand) (u v:Option Addr) (w:World):(eqGuard op t x y (.pointer u) (.pointer v)).run P w=.ok () w:=by
 unfold eqGuard
 cases op<;>simp [Sem.run,pure,Sem.bind,bind]
theorem run_eq_ptr_nil {tp te:TypeId} (u:Option Addr) (hp:P.underlying tp=some (.pointer te)) (hte:(P.info? te).isSome=true) (w:World):(Go.binOp .eql tp (.pointer u) (.pointer none)).run P w=.ok (.bool u.isNone) w:=by
 obtain⟨j,hj⟩:=Option.isSome_iff_exists.1 hte
 have h:∀d:Nat,(Op.equalIn (d+1) tp (.pointer u) (.pointer none)).run P w=.ok u.isNone w:=fun d=>by
  cases u<;>simp [Op.equalIn,run_underlying hp,sizeOf,typeInfo,hj]
 simp only[Go.binOp]
 simp [Op.equal,Op.maxDepth,h 9999]
theorem AOps.eqlPS {x y:Operand} {t te t':TypeId} {i off:Nat} (hx:δ.ev x=.ptr i off) (hy:δ.ev y=.pv (.lit (.pointer none))) (hp:P.underlying t=some (.pointer te)) (hte:(P.info? te).isSome=true) (ho:okT x=true) (ho':okT y=true) (hd:okD δ.n dst=true)
  (hK:AOps q P g ops rest Q (δ.putd dst (litB false))):AOps q P g ops (⟨dst,.binOp .eql t x y t',ty,pos,af,none⟩::rest) Q δ:=
 AOps.valw _ hd (fun κ a w r=>⟨.bool false,fun w' _=>by
  have h1:=r.ra hx ho
  have h2:=r.lit hy ho'
  generalize hv:a.eval x=v at h1
  cases h1 with
  | @ptr _ _ b hl hκ=>
   have:=run_eq_ptr_nil (P:=P) (some ⟨b,off,none⟩) hp hte w'
   simp only[execOp,hv,h2,Sem.run_bind,eqG_ptr,Result.andThen_ok,this]
   rfl,.pv (.lit _)⟩) hK
inductive LitL:List Value→List AV→Prop
 |nil:LitL [] []
 |cons {v:Value} {vs:List Value} {l:List AV} (h:LitL vs l):LitL (v::vs) (.pv (.lit v)::l)
theorem LitL.eq {vs:List Value} {l:List AV} (h:LitL vs l):vs.map (fun u=> .pv (.lit u))=l:=by
 induction h with
 |nil=>rfl
 |cons h ih=>rw[List.map_cons,ih]
end Go.Ab
/- strings.Builder's String over objects. -/
set_option maxHeartbeats 1000000
set_option maxRecDepth 100000
namespace Go.Ab
open Go Go.RowKit Go.Proofs Go.Shelf
variable {P:Program} {ρ:Ren}
end Go.Ab
/- A function that defers a closure over two of its variables,which recovers. -/
namespace Go.Ab
open Go Go.RowKit
variable {P:Program} {g:Ghost} {δ:DS} {κ:Kp} {a:Act} {w:World} {Q:Exit→DS→Prop}
def AWr (P:Program) (g:Ghost) (c:Code) (R:Exit→Act→World→Prop) (δ:DS):Prop:=∀κ a w,Rel g δ κ a w→c.wpIn (Fw g.ro) 0 P R a w
theorem AWr.of {c:Code} {R:Exit→Act→World→Prop} (h:AW P g c Q δ) (hR:∀e a w,lift g Q e a w→R e a w):AWr P g c R δ:=fun κ a w r=>wpIn_mono (h κ a w r) hR
def AW0 (P:Program) (g:Ghost) (c:Code) (R:Exit→Act→World→Prop) (δ:DS):Prop:=∀κ a w,a.defers=[]→Rel g δ κ a w→c.wpIn (Fw g.ro) 0 P R a w
def AO0 (P:Program) (g:Ghost) (ops:Array Oper) (l:List Oper) (c:Code) (R:Exit→Act→World→Prop) (δ:DS):Prop:=∀κ a w,a.defers=[]→Rel g δ κ a w→wpListIn (Fw g.ro) 0 P ops (Exit.then (c.wpIn (Fw g.ro) 0 P R) R) l a w
theorem AW0.region {id:Nat} {l:List Oper} {c:Code} {R:Exit→Act→World→Prop} (h:AO0 P g l.toArray l c R δ):AW0 P g (.seq (.region id l.toArray false) c) R δ:=
 fun κ a w ha r=>wpIn_seq (wpIn_region_lit (h κ a w ha r))
theorem AO0.nil {ops:Array Oper} {c:Code} {R:Exit→Act→World→Prop} (h:AW0 P g c R δ):AO0 P g ops [] c R δ:=fun κ a w ha r=>by
 unfold wpListIn
 exact h κ a w ha r
theorem AO0.eff {ops:Array Oper} {o:Oper} {rest:List Oper} {c:Code} {R:Exit→Act→World→Prop} {δ':DS} (hg:o.guard=none) (hnd:noDefer o=true) (h:Eff P g o δ δ') (hc:∀(a:Act) (w:World) f vals,(execOp a.eval o).run P w≠ .ok (.enter f vals) w) (hK:AO0 P g ops rest c R δ'):AO0 P g ops (o::rest) c R δ:=by
 intro κ a w ha r
 refine wpl_plain hg hnd fun K hK'=>?_
 unfold Oper.wpF
 rcases h κ a w r with ⟨x,v,w',κ',hrun,hx,r'⟩|⟨f,vals,hrun,_⟩
 ·rw[hrun]
  rcases hx with rfl|⟨rfl,rfl⟩
  ·simp only[Oper.uponIn]
   exact hK' _ _ (hK κ' _ _ (by cases o.dst<;>exact ha) r')
  ·simp only[Oper.uponIn]
   exact hK' _ _ (hK κ' _ _ (by cases o.dst<;>exact ha) r')
 ·exact absurd hrun (hc _ _ _ _)
theorem leavesBase (hwt:g.wt=none) {fn:Func} {u:FrameMode} (hu:u≠ .run) {R:Ending→World→Prop}:∀{a:Act} {w:World},Rel g δ κ a w→
  (∀w2,Rel g δ κ {a with defers:=g.base} w2→LeavesInM Fence.wide 0 P fn a.tmps R g.base u w2)→LeavesInM Fence.wide 0 P fn a.tmps R a.defers u w:=by
 intro a w r hR
 obtain⟨ms,h1,h2,h3⟩:=r.dfr
 rw[h1]
 induction ms generalizing a w with
 |nil=>
  have ra:Rel g δ κ {a with defers:=g.base} w:={r with dfr:=⟨[],rfl,h2,h3⟩,mkf:=fun d hd=>r.mkf d (by rw[h1];exact hd)}
  exact hR w ra
 |cons m ms ih=>
  refine⟨hu,.inl ⟨m,_,rfl,run_takeDeferred (h3 m (by simp)).2,?_⟩⟩
  have hm:=h3 m (by simp)
  rw[List.cons_append] at h2
  have hnd:=List.nodup_cons.1 h2
  have hkeep:∀k∈ms++g.mks,g.B≤k∧(w.putObj m (.deferred none)).heap[k]? =some (.deferred (some [])):=fun k hk=>
   ⟨(h3 k (by simp only[List.cons_append,List.mem_cons];exact .inr hk)).1,by rw[World.putObj_heap_other (by intro e;subst e;exact hnd.1 hk)];exact(h3 k (by simp only[List.cons_append,List.mem_cons];exact .inr hk)).2⟩
  have hd:Dfr g {a with defers:=(ms.map fun r=>({target:=.collected r,args:= #[]}:Deferred))++g.base} (w.putObj m (.deferred none)):=⟨ms,rfl,hnd.2,hkeep⟩
  have r2:=r.shut hwt hm.1 hm.2 (a':={a with defers:=(ms.map fun r=>({target:=.collected r,args:= #[]}:Deferred))++g.base}) rfl (fun d hd=>by rw[h1,List.map_cons,List.cons_append];exact List.mem_cons_of_mem _ hd) (r.mkf {target:=.collected m,args:= #[]} (by rw[h1];simp) m rfl) hd
  exact ih (a:={a with defers:=(ms.map fun r=>({target:=.collected r,args:= #[]}:Deferred))++g.base}) r2 (fun w2 r3=>hR w2 r3) rfl hnd.2 hkeep
end Go.Ab
/- Functions of four results whose outcome is told by a relation. -/
namespace Go.Ab
open Go Go.RowKit
variable {P:Program} {g:Ghost} {δ:DS} {κ:Kp} {a:Act} {w:World}
inductive Res4 (P:Program) (δ:DS):List ResultVar→AV→Prop
 |four {r1 r2 r3 r4:ResultVar} {v1 v2 v3 v4:AV} (h1:ResV P δ r1 v1) (h2:ResV P δ r2 v2) (h3:ResV P δ r3 v3) (h4:ResV P δ r4 v4):Res4 P δ [r1,r2,r3,r4] (.tup [v1,v2,v3,v4])
theorem ra_four {C:Cx} {w:World} {u1 u2 u3 u4:Value} {v1 v2 v3 v4:AV} (h1:RA C w u1 v1) (h2:RA C w u2 v2) (h3:RA C w u3 v3) (h4:RA C w u4 v4):RA C w (.tuple #[u1,u2,u3,u4]) (.tup [v1,v2,v3,v4]):=by
 refine .tup rfl fun j u c k1 k2=>?_
 match j with
 |0=>simp at k1 k2;subst k1;subst k2;exact h1
 |1=>simp at k1 k2;subst k1;subst k2;exact h2
 |2=>simp at k1 k2;subst k1;subst k2;exact h3
 |3=>simp at k1 k2;subst k1;subst k2;exact h4
 |j+4=>simp at k2
theorem Res4.run {fn:Func} {rs:List ResultVar} (hrs:fn.results=rs.toArray) {v:AV} (h:Res4 P δ rs v) (r:Rel g δ κ a w):∃u,(results fn a.tmps).run P w=.ok u w∧RA (δ.cx g κ) w u v:=by
 rw[results_eq (P:=P),hrs]
 cases h with
 |four h1 h2 h3 h4=>
  obtain⟨u1,h1,k1⟩:=h1.run r
  obtain⟨u2,h2,k2⟩:=h2.run r
  obtain⟨u3,h3,k3⟩:=h3.run r
  obtain⟨u4,h4,k4⟩:=h4.run r
  exact⟨.tuple #[u1,u2,u3,u4],by simp [Array.mapM_eq_foldlM,h1,h2,h3,h4],ra_four k1 k2 k3 k4⟩
theorem leaves4 (hwt:g.wt=none) (hbs:g.base=[]) {fn:Func} {rs:List ResultVar} (hrs:fn.results=rs.toArray) {v:AV} (h:Res4 P δ rs v) {R:Ending→World→Prop} {a:Act} {w:World} (r:Rel g δ κ a w)
  (hR:∀w2,Rel g δ κ {a with defers:=[]} w2→∀u,RA (δ.cx g κ) w2 u v→R (.returned u) w2):LeavesInM Fence.wide 0 P fn a.tmps R a.defers .returning w:=by
 refine leavesBase hwt (by simp) r fun w2 r2=>?_
 rw[hbs]
 rw[hbs] at r2
 obtain⟨u,h4,h5⟩:=h.run hrs r2
 exact⟨u,h4,hR w2 r2 u h5⟩
def EndsQ4 {α:Type} (P:Program) (rs:List ResultVar) (objs0:List (Nat×Option Ob)) (p:α→Prop) (objs1:α→List (Nat×Option Ob)) (r:α→AV):Exit→DS→Prop
 |.normal,δ|.ret,δ=>∃x,p x∧∃v,Res4 P δ rs v∧WV δ (XF δ objs0 (objs1 x)) v (r x)∧WV δ (XF δ objs0 (objs1 x)) (δ.get 1000) (.agg (pinL objs0))∧WObs δ (XF δ objs0 (objs1 x)) (objs1 x)∧nxB δ.nx (objs1 x)=true
 |_,_=>False
theorem endsQ4_ret {α:Type} {rs:List ResultVar} {objs0:List (Nat×Option Ob)} {p:α→Prop} {objs1:α→List (Nat×Option Ob)} {r:α→AV} {v:AV} (x:α) (hp:p x) (h:Res4 P δ rs v) (hw:WVs δ (XF δ objs0 (objs1 x)) [v,δ.get 1000] [r x,.agg (pinL objs0)]) (ho:WObs δ (XF δ objs0 (objs1 x)) (objs1 x)) (hx:nxB δ.nx (objs1 x)=true):EndsQ4 P rs objs0 p objs1 r .ret δ:=⟨x,hp,v,h,hw.1,hw.2.1,ho,hx⟩
theorem FnR.enter4 {α:Type} {f:FuncId} {fn:Func} {c:Code} {rs:List ResultVar} {n n0:Nat} {objs0:List (Nat×Option Ob)} {args:List AV} {p:α→Prop} {objs1:α→List (Nat×Option Ob)} {r:α→AV} (hf:P.funcs[f]? =some fn) (hb:fn.body=some c) (hrs:fn.results=rs.toArray) (hn:fn.ntmps=n) (hna:Nat.ble args.length n=true)
  (hna':Nat.ble n HS=true) (he:(fn.name== "runtime.NumGoroutine")=false) (hpin:pinB objs0 objs0=true) (hn1:∀x,nxB n0 (objs1 x)=true)
  (h:∀g:Ghost,g.ro=none→g.wt=none→AW P g c (EndsQ4 P rs objs0 p objs1 r) ⟨n,enum 0 args++ [(1000,.agg (pinL objs0))],objs0,n0⟩):FnR P f n0 objs0 args p objs1 r:=by
 refine FnXG.enter (Q:=EndsQ4 P rs objs0 p objs1 r) hf hb hn hna hna' he hpin hn1 (fun g h1 h2 _=>h g h1 h2) fun g e δ' κ' a' w' R hwt hbs hq r' hR=>?_
 have fin:(∃x,p x∧∃v,Res4 P δ' rs v∧WV δ' (XF δ' objs0 (objs1 x)) v (r x)∧WV δ' (XF δ' objs0 (objs1 x)) (δ'.get 1000) (.agg (pinL objs0))∧WObs δ' (XF δ' objs0 (objs1 x)) (objs1 x)∧nxB δ'.nx (objs1 x)=true)→
   LeavesInM Fence.wide 0 P fn a'.tmps R a'.defers .returning w':=fun⟨x,hpx,v,h1,hv,hp,ho,hx⟩=>
  leaves4 (g:=g) hwt hbs hrs h1 r' fun w2 r2 u hu=>hR x hp ho hx _ _ r2 ⟨hpx,u,rfl,hu.wv (δ:=δ') (δ':=XF δ' objs0 (objs1 x)) r2.hdrop r2.obj hv⟩
 cases e with
 |normal=>exact fin hq
 |ret=>exact fin hq
 |_=>exact hq.elim
end Go.Ab
