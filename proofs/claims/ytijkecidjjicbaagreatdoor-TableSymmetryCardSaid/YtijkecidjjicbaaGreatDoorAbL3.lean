/- Loops over functions within loops over functions: a yield from a round, to a loop some frames above. -/
import Derived.Test.YtijkecidjjicbaaGreatDoorAbL2
import Derived.Sort.Row
import Derived.Sort.Grow
import Derived.Lib.AppendZeros
import Derived.Lib.AppendStr
set_option linter.unusedSimpArgs false
set_option linter.unusedVariables false
namespace Go.Ab
open Go Go.RowKit
attribute [local irreducible] HS
variable {P:Program} {g:Ghost} {δ:DS} {κ:Nat→Option Nat} {a:Act} {w:World}
variable {ops:Array Oper} {rest:List Oper} {Q:Exit→DS→Prop} {dst:Option Nat} {ty:TypeId} {pos:String} {af:Array Edge}
def unD:Nat→List (Nat×AV)→List (Nat×AV)
 |0,e=>e
 |d+1,e=>unshiftE (unD d e)
theorem look_unD:∀(d:Nat) (e:List (Nat×AV)) (j:Nat),look (unD d e) j=look e (j+d*HS)
 |0,e,j=>by rw[Nat.zero_mul,Nat.add_zero];rfl
 |d+1,e,j=>by
  show look (unshiftE (unD d e)) j=_
  rw[look_unshift,look_unD d e]
  congr 1
  rw[Nat.add_mul,Nat.one_mul];omega
theorem look_round2 (e1 e:List (Nat×AV)) (j:Nat):look (ownE e1++shiftE e) j=if j<HS then look e1 (j+HS) else look e (j - HS):=by
 by_cases hj:j<HS
 ·rw[if_pos hj]
  rcases look_append (ownE e1) (shiftE e) j with h|⟨h1,h2⟩
  ·rw[h,look_own,if_pos hj]
  ·have h3:=look_none _ _ h1
   rw[look_own,if_pos hj] at h3
   rw[h2,look_shift_lt _ _ hj,h3]
 ·rw[if_neg hj]
  have h1:∀p∈ownE e1,p.1≠j:=fun p hp e'=>hj (e'▸own_keys e1 p hp)
  have:∀(e1:List (Nat×AV)),(∀p∈e1,p.1≠j)→look (e1++shiftE e) j=look (shiftE e) j:=by
   intro e1 hne
   induction e1 with
   |nil=>rfl
   |cons p e1 ih=>
    rw[List.cons_append]
    show look ((p.1,p.2)::(e1++shiftE e)) j=_
    rw[look_cons,if_neg (hne p (by simp))]
    exact ih fun q hq=>hne q (by simp [hq])
  rw[this _ h1]
  obtain⟨m,rfl⟩:∃m,j=m+HS:=⟨j - HS,by omega⟩
  rw[look_shift,Nat.add_sub_cancel]
theorem AW.rangeFuncU {x:Operand} {ps:Array Tmp} {asg body:Code} {f:FuncId} {first cap:List AV} {fn:Func} {c:Code} {n':Nat} (hro:g.ro=none) (hwt:g.wt=none) (hx:δ.ev x=.clo (.func f) first cap) (ho:okT x=true)
  (hf:P.funcs[f]? =some fn) (hb:fn.body=some c) (hres:fn.results= #[]) (hn:fn.ntmps=n') (hle:Nat.ble (first.length+1+cap.length) n'=true) (hnH:Nat.ble n' HS=true) (hown:Nat.ble δ.n HS=true) (he:(fn.name== "runtime.NumGoroutine")=false)
  (h:∀(g':Ghost) (tm:Array Value) (l:Nat),g'.ro=none→g'.wt=none→(∀j,j<HS→g'.held (j+HS)=tm.getD j undef)→(∀j,g'.held (j+HS+HS)=g.held (j+HS))→tm.size=δ.n→
   AW P g' c (iterEnds δ.n δ.nx l Q) {n:=n',env:=enum 0 (first++ .yld δ.nx::cap)++shiftE δ.env,objs:=(δ.nx,some (.loop l tm ps asg body .ready))::δ.objs,nx:=δ.nx+1}):
  AW P g (.rangeFunc x ps asg body) Q δ:=by
 intro κ a w r
 have hra:=r.ra hx ho
 generalize hv:a.eval x=v at hra
 cases hra with
 | @clo _ vs us _ _ hs hvs ht hus=>
  rw[hro]
  have hle':first.length+1+cap.length≤n':=by simpa using hle
  have hnH':n'≤HS:=by simpa using hnH
  obtain⟨ms,hm1,hm2,hm3⟩:=r.dfr
  refine wpIn_rangeFunc fun fnid _=>?_
  let w1:=w.alloc (.deferred (some []))
  let lp:Loop:={state:=.ready,pending:=none,fn:=fnid,tmps:=a.tmps,params:=ps,assign:=asg,body,defers:=w.heap.size}
  let w2:=w1.alloc (.loop lp)
  have hw1s:w1.heap.size=w.heap.size+1:=by show(w.heap.push _).size=_;simp
  refine⟨w.heap.size+1,[{target:=.collected w.heap.size,args:= #[]}],w2,_,w2,f,vs++ #[.func (.yield (w.heap.size+1)) #[] #[]]++us,w2,run_enterLoop_outer fnid a.tmps ps asg body,clo_run hv _ _,fun _ _=>trivial,?_,fun h=>by simp at h,?_⟩
  ·have hne:(fn.name== "runtime.NumGoroutine")=false:=he
   simp [invoke,callFunc,hf,hb]
   simpa using hne
  let g':Ghost:={B:=g.B,w0:=g.w0,N0:=g.N0,held:=fun j=>g.val a (j - HS),ro:=none,mks:=w.heap.size::(ms++g.mks),wt:=none,fr:=g.fr,w1:=g.w1}
  have hr1:Rel g δ κ a w1:=r.ext ((Below.refl _ _).alloc (Nat.le_refl _) _)
  obtain⟨hr2,G⟩:=hr1.grow (.loop (w.heap.size+1) a.tmps ps asg body .ready) (.loop lp) (fun C G hκ=>⟨_,lp,hκ,heap_alloc_new w1 _,hw1s,rfl,rfl,rfl,rfl,rfl,rfl⟩)
  let κ2:=upd κ δ.nx (some w1.heap.size)
  have hκ2:κ2 δ.nx=some (w.heap.size+1):=by show upd _ _ _ _=_;simp [upd,hw1s]
  let δ2:DS:={n:=n',env:=enum 0 (first++ .yld δ.nx::cap)++shiftE δ.env,objs:=(δ.nx,some (.loop (w.heap.size+1) a.tmps ps asg body .ready))::δ.objs,nx:=δ.nx+1}
  have hcx:δ2.cx g' κ2=(δ.addOb (.loop (w.heap.size+1) a.tmps ps asg body .ready)).cx g κ2:=rfl
  have happ:∀(e1 e2:List (Nat×AV)) (j:Nat),look (e1++e2) j=look e1 j∨(look e1 j=.any∧look (e1++e2) j=look e2 j):=by
   intro e1 e2 j
   induction e1 with
   |nil=>exact .inr ⟨rfl,rfl⟩
   |cons p e1 ih=>
    obtain⟨i,v⟩:=p
    rw[List.cons_append,look_cons,look_cons]
    by_cases e:i=j
    ·rw[if_pos e,if_pos e];exact .inl rfl
    ·rw[if_neg e,if_neg e];exact ih
  let args:Array Value:=vs++ #[.func (.yield (w.heap.size+1)) #[] #[]]++us
  have hsz:args.size=first.length+1+cap.length:=by simp [args];omega
  have hrel:Rel g' δ2 κ2 {tmps:=args++Array.replicate (fn.ntmps - args.size) undef,defers:=[]} w2:=
   {n:=by show(args++Array.replicate (fn.ntmps - args.size) undef).size=n';rw[Array.size_append,Array.size_replicate,hn,hsz];omega
    dfr:=⟨[],rfl,by
      show(w.heap.size::(ms++g.mks)).Nodup
      refine List.nodup_cons.2 ⟨fun hmem=>?_,hm2⟩
      have:=heap_lt (hm3 _ hmem).2
      omega,fun k hk=>by
      rw[List.nil_append] at hk
      rcases List.mem_cons.1 hk with rfl|hk
      ·refine⟨r.hB,?_⟩
       rw[show w2.heap[w.heap.size]? =w1.heap[w.heap.size]? from Below.heap_alloc w1 _ _ (by omega)]
       exact heap_alloc_new w _
      ·have h3:=hm3 k hk
       have hlt:=heap_lt h3.2
       refine⟨h3.1,?_⟩
       rw[show w2.heap[k]? =w1.heap[k]? from Below.heap_alloc w1 _ _ (by omega),show w1.heap[k]? =w.heap[k]? from Below.heap_alloc w _ _ hlt]
       exact h3.2⟩
    env:=fun j=>by
     rw[hcx]
     by_cases hj:j<HS
     ·have hval:g'.val {tmps:=args++Array.replicate (fn.ntmps - args.size) undef,defers:=[]} j=(args++Array.replicate (fn.ntmps - args.size) undef).getD j undef:=if_pos hj
      rw[hval]
      have hget:δ2.get j=look (enum 0 (first++ .yld δ.nx::cap)) j:=by
       rcases happ (enum 0 (first++ .yld δ.nx::cap)) (shiftE δ.env) j with h1|⟨h1,h2⟩
       ·exact h1
       ·show look (_++_) j=_
        rw[h2,h1,look_shift_lt _ _ hj]
      rw[hget]
      by_cases hja:j<args.size
      ·have hl:j<(first++ .yld δ.nx::cap).length:=by simp;omega
       rw[look_enum _ 0 j ((first++ .yld δ.nx::cap)[j]) (Nat.zero_le _) (by rw[Nat.sub_zero];exact List.getElem?_eq_getElem hl)]
       have hav:(args++Array.replicate (fn.ntmps - args.size) undef).getD j undef=args[j]:=by
        rw[Array.getD_eq_getD_getElem?,Array.getElem?_append_left hja,Array.getElem?_eq_getElem hja];rfl
       rw[hav]
       have hA:args[j]? =some args[j]:=Array.getElem?_eq_getElem hja
       have hL:(first++ .yld δ.nx::cap)[j]? =some (first++ .yld δ.nx::cap)[j]:=List.getElem?_eq_getElem hl
       generalize args[j]=u at hA ⊢
       generalize (first++ .yld δ.nx::cap)[j]=d at hL ⊢
       simp only[args] at hA
       by_cases h1:j<first.length
       ·rw[List.getElem?_append_left h1] at hL
        rw[Array.getElem?_append_left (by simp;omega),Array.getElem?_append_left (by omega)] at hA
        exact G.ra ((Goes.ra ⟨rfl,by rw[hw1s];omega,fun b hb hN=>⟨hN,Below.heap_alloc w _ _ hb⟩,fun i hi=>⟨hi,rfl,fun b hκ=>Below.heap_alloc w _ _ (r.lo i b (DS.lr_live hi) hκ).2⟩,fun i hi=>⟨hi,rfl⟩⟩ (hvs j u d hA hL)))
       ·rw[List.getElem?_append_right (by omega)] at hL
        by_cases h2:j=first.length
        ·subst h2
         simp at hL
         subst hL
         rw[Array.getElem?_append_left (by simp;omega),Array.getElem?_append_right (by omega)] at hA
         simp [hs] at hA
         subst hA
         exact .yld ⟨_,by show(δ.addOb _).ob _=_;rw[ob_addOb,if_pos rfl],rfl⟩ hκ2
        ·obtain⟨m,hm⟩:∃m,j=first.length+1+m:=⟨j - first.length - 1,by omega⟩
         subst hm
         rw[show first.length+1+m - first.length=m+1 by omega,List.getElem?_cons_succ] at hL
         rw[Array.getElem?_append_right (by simp;omega)] at hA
         have e0:first.length+1+m - (vs++ #[Value.func (.yield (w.heap.size+1)) #[] #[]]).size=m:=by simp;omega
         rw[e0] at hA
         exact G.ra ((Goes.ra ⟨rfl,by rw[hw1s];omega,fun b hb hN=>⟨hN,Below.heap_alloc w _ _ hb⟩,fun i hi=>⟨hi,rfl,fun b hκ=>Below.heap_alloc w _ _ (r.lo i b (DS.lr_live hi) hκ).2⟩,fun i hi=>⟨hi,rfl⟩⟩ (hus m u d hA hL)))
      ·rw[look_enum_out _ 0 j (.inr (by simp;omega))];exact .any _
     ·obtain⟨m,rfl⟩:∃m,j=m+HS:=⟨j - HS,by omega⟩
      have hval:g'.val {tmps:=args++Array.replicate (fn.ntmps - args.size) undef,defers:=[]} (m+HS)=g.val a m:=by
       rw[val_held];exact congrArg (g.val a) (Nat.add_sub_cancel m HS)
      rw[hval]
      have hget:δ2.get (m+HS)=δ.get m:=by
       have h0:look (enum 0 (first++ .yld δ.nx::cap)) (m+HS)=.any:=look_enum_out _ 0 _ (.inr (by simp;omega))
       rcases happ (enum 0 (first++ .yld δ.nx::cap)) (shiftE δ.env) (m+HS) with h1|⟨h1,h2⟩
       ·
        have:∀(e1:List (Nat×AV)),(∀p∈e1,p.1≠m+HS)→look (e1++shiftE δ.env) (m+HS)=look (shiftE δ.env) (m+HS):=by
         intro e1 hne
         induction e1 with
         |nil=>rfl
         |cons p e1 ih=>
          rw[List.cons_append]
          show look ((p.1,p.2)::(e1++shiftE δ.env)) _=_
          rw[look_cons,if_neg (hne p (by simp))]
          exact ih (fun q hq=>hne q (by simp [hq]))
        have hk:∀(l:List AV) (i:Nat),∀p∈enum i l,p.1<i+l.length:=by
         intro l
         induction l with
         |nil=>intro i p hp;simp [enum] at hp
         |cons v l ih=>
          intro i p hp
          simp only[enum,List.mem_cons] at hp
          rcases hp with rfl|hp
          ·simp
          ·have:=ih (i+1) p hp;simp;omega
        show look (_++_) _=_
        rw[this _ (fun p hp=>by have:=hk _ 0 p hp;simp at this;omega),look_shift];rfl
       ·show look (_++_) _=_
        rw[h2,look_shift];rfl
      rw[hget]
      exact hr2.env m
    obj:=hr2.obj,inj:=hr2.inj,lo:=hr2.lo,nx:=hr2.nx,wt:=fun k hk=>(by cases hk),below:=hr2.below,hB:=hr2.hB,N0:=hr2.N0,fr:=hr2.fr,mkf:=fun d hd=>by cases hd}
  have hbody:=h g' a.tmps (w.heap.size+1) rfl rfl (fun j hj=>(congrArg (g.val a) (Nat.add_sub_cancel j HS)).trans (by unfold Ghost.val;rw[if_pos hj])) (fun j=>(congrArg (g.val a) (Nat.add_sub_cancel (j+HS) HS)).trans (val_held g a j)) r.n κ2 _ w2 hrel
  refine callsIn_of_wp_marks (n:=0) hf hb trivial (wpIn_mono hbody ?_)
  rintro e a2 w3 ⟨δ3,κ3,hq,r3⟩
  have fin:jumpD (w.heap.size+1) Q (backD δ.n δ.nx δ3) (δ3.ob δ.nx)→LeavesInM (Fw none) 0 P fn a2.tmps (rangePost (Fw none) 0 P (w.heap.size+1) (lift g Q) {a with defers:=[{target:=.collected w.heap.size,args:= #[]}]++a.defers}) a2.defers .returning w3:=by
   intro hj
   obtain⟨tm3,ps3,asg3,body3,st3,hob⟩:∃tm ps asg body st,δ3.ob δ.nx=some (.loop (w.heap.size+1) tm ps asg body st):=by
    cases hoo:δ3.ob δ.nx with
    |none=>rw[hoo] at hj;exact hj.elim
    |some o=>
     rw[hoo] at hj
     cases o with
     |row=>exact hj.elim
     |box cs=>exact hj.elim
     |mp l=>exact hj.elim
     |mpl l k v=>exact hj.elim
     |it l seen=>exact hj.elim
     |lit T vals=>exact hj.elim
     |loop l' tm ps asg body st=>
      cases st with
      |ready=>obtain⟨rfl,_⟩:=hj;exact⟨tm,ps,asg,body,_,rfl⟩
      |busy=>exact hj.elim
      |over=>exact hj.elim
      |done c=>cases c<;>first|exact hj.elim|(obtain⟨rfl,_⟩:=hj;exact⟨tm,ps,asg,body,_,rfl⟩)
   refine leaves (g:=g') rfl rfl (rs:=[]) hres .none r3 (fun w4 r4 u hu=>?_)
   obtain⟨b,rl,h1,h2,hbl,h3,h4,h5,h6,h7⟩:=r4.obj _ _ hob
   have h1':κ3 δ.nx=some b:=h1
   subst hbl
   have hnb:rl.state≠ .busy:=by
    rw[hob] at hj
    cases st3 with
    |ready=>rw[h7.1];simp
    |busy=>exact hj.elim
    |over=>exact hj.elim
    |done c=>rw[h7.1];simp
   have hend:=run_endLoop (P:=P) (w:=w4) h2 hnb
   have hd:Dfr g {a with defers:=[{target:=.collected w.heap.size,args:= #[]}]++a.defers} (w4.putObj (w.heap.size+1) (.loop {rl with state:=.exhausted})):=by
    obtain⟨rs4,k1,k2,k3⟩:=r4.dfr
    refine⟨w.heap.size::ms,by simp [hm1],?_,fun k hk=>?_⟩
    ·have:(rs4++g'.mks).Nodup:=k2
     exact(List.nodup_append.1 this).2.1
    ·have hk':=k3 k (List.mem_append.2 (.inr hk))
     refine⟨hk'.1,?_⟩
     rw[World.putObj_heap_other (by intro e;subst e;rw[h2] at hk';cases hk'.2)]
     exact hk'.2
   have rb:=r4.back (g:=g) (n:=δ.n) (a':={a with defers:=[{target:=.collected w.heap.size,args:= #[]}]++a.defers}) hwt rfl ⟨rfl,rfl,rfl,rfl,rfl⟩ (fun j=>congrArg (g.val a) (Nat.add_sub_cancel j HS)) r.n hob h1' h2 {rl with state:=.exhausted} ⟨rfl,rfl,rfl,rfl⟩ rfl hd (fun d hd r0 e=>by
    rcases List.mem_append.1 hd with hd|hd
    ·rw[List.mem_singleton] at hd
     subst hd
     cases e
     exact fun hf=>Nat.lt_irrefl _ (r.fr.old hf)
    ·exact r.mkf d hd r0 e)
   refine⟨rl.pending,_,hend,?_⟩
   rw[hob] at hj
   cases st3 with
   |ready=>rw[h7.2] at rb ⊢;exact⟨_,κ3,hj.2,rb⟩
   |busy=>exact hj.elim
   |over=>exact hj.elim
   |done c=>
    rw[h7.2] at rb ⊢
    cases c with
    |ret=>exact wpIn_ret ⟨_,κ3,hj.2,rb⟩
    |exit id=>exact wpIn_exit ⟨_,κ3,hj.2,rb⟩
    |_=>exact hj.elim
  cases e with
  |normal=>exact fin hq
  |ret=>exact fin hq
  |_=>exact hq.elim
theorem AOps.yieldD (d:Nat) {x:Operand} {ys:List Operand} {tys:Array TypeId} {i l n0:Nat} {tm:Array Value} {ps:List Tmp} {asg body:Code} (hwt:g.wt=none) (hheld:∀j,j<HS→g.held (j+HS+d*HS)=tm.getD j undef) (htm:tm.size=n0) (hn0:Nat.ble n0 HS=true)
  (hx:δ.ev x=.yld i) (hob:δ.ob i=some (.loop l tm ps.toArray asg body .ready)) (ho:okT x=true) (hys:ys.all okT=true) (hlen:Nat.beq ys.length ps.length=true) (hps:ps.all (fun t=>Nat.blt t n0)=true) (hd':okD δ.n dst=true)
  (h:∀g':Ghost,g'.ro=some l→g'.wt=none→(∀j,g'.held (j+HS+HS)=g.held (j+HS))→AW P g' asg (thenD (fun δ1=>isLp δ1 i l .ready∧AW P g' body (roundEnds δ.n i l (fun b st δ2=>AOps .plain P g ops rest Q ((δ2.lpSt i st).putd dst (litB b)))) (δ1.lpSt i .busy)) (fun _ _=>False)) {n:=n0,env:=parE ps (ys.map δ.ev) (ownE (unD d δ.env)++shiftE δ.env),objs:=δ.objs,nx:=δ.nx}):
  AOps .plain P g ops (⟨dst,.call {callee:=.value x,args:=ys.toArray,argTypes:=tys},ty,pos,af,none⟩::rest) Q δ:=by
 intro κ a w r
 have hra:=r.ra hx ho
 generalize hv:a.eval x=v at hra
 cases hra with
 | @yld _ b hl hκ=>
  obtain⟨b',rl,h1,h2,hbl,h3,h4,h5,h6,h7⟩:=r.obj _ _ hob
  have:b'=b:=Option.some.inj (h1.symm.trans hκ)
  subst this
  subst hbl
  obtain⟨ms,hm1,hm2,hm3⟩:=r.dfr
  have hlen':ys.length=ps.length:=Nat.eq_of_beq_eq_true hlen
  show wpListIn _ _ P ops _ (_::rest) a w
  refine wpl_plain rfl rfl fun K hK'=>?_
  unfold Oper.wpF
  rw[run_yieldOp hv h2 (by rw[h4];simpa using hlen'),Oper.uponIn_round]
  refine⟨fun h=>by simp at h,?_⟩
  let tm':Array Value:=(rl.params.zip (ys.toArray.map a.eval)).foldl (fun tmps (t,a)=>tmps.setIfInBounds t a) rl.tmps
  have htm':tm'=(ps.zip (ys.map a.eval)).foldl (fun tmps (t,a)=>tmps.setIfInBounds t a) tm:=by
   show(rl.params.zip (ys.toArray.map a.eval)).foldl _ rl.tmps=_
   rw[h3,h4,← Array.foldl_toList,Array.toList_zip]
   simp
  let g':Ghost:={B:=g.B,w0:=g.w0,N0:=g.N0,held:=fun j=>g.val a (j - HS),ro:=some b',mks:=ms++g.mks,wt:=none,fr:=g.fr,w1:=g.w1}
  have hheld':∀j,g'.held (j+HS)=g.val a j:=fun j=>congrArg (g.val a) (Nat.add_sub_cancel j HS)
  have hrel:Rel g' {n:=n0,env:=parE ps (ys.map δ.ev) (ownE (unD d δ.env)++shiftE δ.env),objs:=δ.objs,nx:=δ.nx} κ {tmps:=tm',defers:=[]} w:=
   {n:=by show tm'.size=n0;rw[htm',par_size];exact htm
    dfr:=⟨[],rfl,hm2,hm3⟩
    env:=fun j=>by
     have hp:=par_ok (C:=δ.cx g κ) (w:=w) (hv:=g'.held) ps (ys.map a.eval) (ys.map δ.ev) tm (ownE (unD d δ.env)++shiftE δ.env) (by simpa using hlen') (by simpa using hlen')
      (fun t ht=>by
       have h8:=(List.all_eq_true.1 hps) t ht
       have h9:t<n0:=by simpa using h8
       have h10:n0≤HS:=by simpa using hn0
       exact⟨htm▸h9,Nat.lt_of_lt_of_le h9 h10⟩)
      (fun j u v h8 h9=>by
       simp only[List.getElem?_map,Option.map_eq_some_iff] at h8 h9
       obtain⟨y,h8,rfl⟩:=h8
       obtain⟨y',h9,rfl⟩:=h9
       rw[h8] at h9;cases h9
       exact r.evc y (okT_spec ((List.all_eq_true.1 hys) y (List.mem_of_getElem? h8))))
      (fun j=>by
       rw[look_round2]
       by_cases hj:j<HS
       ·rw[if_pos hj,if_pos hj,← hheld j hj,look_unD]
        have:=r.env (j+HS+d*HS)
        rw[show g.val a (j+HS+d*HS)=g.held (j+HS+d*HS) from by unfold Ghost.val;rw[if_neg (by omega)]] at this
        exact this
       ·rw[if_neg hj,if_neg hj]
        exact r.env (j - HS)) j
     rw[← htm'] at hp
     exact hp
    obj:=r.obj,inj:=r.inj,lo:=r.lo,nx:=r.nx,wt:=fun k hk=>(by cases hk),below:=r.below,hB:=r.hB,N0:=r.N0,fr:=r.fr,mkf:=fun d hd=>by cases hd}
  rw[h5,h6]
  refine roundIn_of_wpIn (F:=Fw g.ro) trivial (wpIn_mono (h g' rfl rfl (fun j=>(congrArg (g.val a) (Nat.add_sub_cancel (j+HS) HS)).trans (val_held g a j)) κ _ w hrel) ?_)
  rintro e a1 w1 ⟨δ1,κ1,hq,r1⟩
  cases e with
  |normal=>
   obtain⟨hlp,hq⟩:=hq
   have hlp0:=hlp
   obtain⟨tm1,ps1,asg1,body1,ho1⟩:=hlp
   obtain⟨b1,rl1,k1,k2,kbl,k3,k4,k5,k6,k7⟩:=r1.obj _ _ ho1
   subst kbl
   have r1':=r1.lpSt rfl (st':=.busy) (r':={rl1 with state:=.busy}) hlp0 k2 ⟨rfl,rfl,rfl,rfl⟩ rfl
   refine⟨_,run_beginRound k2 k7.1,wpIn_mono (hq κ1 a1 _ r1') ?_⟩
   rintro e2 a2 w2 ⟨δ2,κ2,hq2,r2⟩
   have fin:∀(jump:Option Code) (st:LpSt) (bb:Bool),bb=jump.isNone→isLp δ2 i b1 .busy→AOps .plain P g ops rest Q (((roundBack δ.n δ2).lpSt i st).putd dst (litB bb))→
     (match st with|.ready=>jump=none|.done c=>jump=some c|_=>False)→
     ∃v w',(Instr.endRound b1 jump).run P w2=.ok v w'∧K (a.put dst v) w':=by
    intro jump st bb hbb hl2 hA hst
    have hl20:=hl2
    obtain⟨tm2,ps2,asg2,body2,ho2⟩:=hl2
    obtain⟨b2,rl2,m1,m2,mbl,m3,m4,m5,m6,m7⟩:=r2.obj _ _ ho2
    subst mbl
    have r3:=r2.lpSt rfl (st':=st) (r':={rl2 with state:=if jump.isNone then .ready else .done,pending:=jump}) hl20 m2 ⟨rfl,rfl,rfl,rfl⟩ (by
     cases st with
     |ready=>simp only at hst;subst hst;exact⟨rfl,rfl⟩
     |done c=>simp only at hst;subst hst;exact⟨rfl,rfl⟩
     |_=>exact hst.elim)
    refine⟨_,_,run_endRound jump m2,?_⟩
    have hd:Dfr g a (w2.putObj b2 (.loop {rl2 with state:=if jump.isNone then .ready else .done,pending:=jump})):=by
     obtain⟨rs4,k1,k2,k3⟩:=r3.dfr
     exact⟨ms,hm1,(List.nodup_append.1 k2).2.1,fun k hk=>k3 k (List.mem_append.2 (.inr hk))⟩
    have r4:=r3.frame (g:=g) (a':=a) (n:=δ.n) hwt rfl ⟨rfl,rfl,rfl,rfl,rfl⟩ hheld' r.n hd r.mkf
    have he:roundBack δ.n (δ2.lpSt i st)=(roundBack δ.n δ2).lpSt i st:=by
     unfold DS.lpSt
     have:(roundBack δ.n δ2).ob i=δ2.ob i:=rfl
     rw[this,ho2];rfl
    rw[he] at r4
    subst hbb
    have hnn:((roundBack δ.n δ2).lpSt i st).n=δ.n:=by
     unfold DS.lpSt
     have:(roundBack δ.n δ2).ob i=δ2.ob i:=rfl
     rw[this,ho2];rfl
    exact hK' _ _ (hA κ2 _ _ (r4.putd (v:=.bool jump.isNone) (okD_spec (by rw[hnn];exact hd')) (.pv (.lit _))))
   cases e2 with
   |normal=>exact fin none .ready true rfl hq2.1 hq2.2 rfl
   |ret=>exact fin (some .ret) (.done .ret) false rfl hq2.1 hq2.2 rfl
   |exit id=>exact fin (some (.exit id)) (.done (.exit id)) false rfl hq2.1 hq2.2 rfl
   |_=>exact hq2.elim
  |_=>exact hq.elim
theorem AW.rangeFuncUH {x:Operand} {ps:List Tmp} {asg body:Code} {f:FuncId} {first cap:List AV} {fn:Func} {c:Code} {n':Nat} (hro:g.ro=none) (hwt:g.wt=none) (hx:δ.ev x=.clo (.func f) first cap) (ho:okT x=true)
  (hf:P.funcs[f]? =some fn) (hb:fn.body=some c) (hres:fn.results= #[]) (hn:fn.ntmps=n') (hle:Nat.ble (first.length+1+cap.length) n'=true) (hnH:Nat.ble n' HS=true) (hown:Nat.ble δ.n HS=true) (he:(fn.name== "runtime.NumGoroutine")=false)
  (h:∀(g':Ghost) (tm:Array Value) (l:Nat) (ps':Array Tmp) (asg' body':Code),LpCode ps' asg' body' ps asg body→g'.ro=none→g'.wt=none→(∀j,j<HS→g'.held (j+HS)=tm.getD j undef)→(∀j,g'.held (j+HS+HS)=g.held (j+HS))→tm.size=δ.n→
   AW P g' c (iterEnds δ.n δ.nx l Q) {n:=n',env:=enum 0 (first++ .yld δ.nx::cap)++shiftE δ.env,objs:=(δ.nx,some (.loop l tm ps' asg' body' .ready))::δ.objs,nx:=δ.nx+1}):
  AW P g (.rangeFunc x ps.toArray asg body) Q δ:=
 AW.rangeFuncU hro hwt hx ho hf hb hres hn hle hnH hown he fun g' tm l h1 h2 h3 h4 h5=>h g' tm l _ _ _ ⟨rfl,rfl,rfl⟩ h1 h2 h3 h4 h5
theorem AOps.yieldDN (d:Nat) {x:Operand} {ys:List Operand} {tys:Array TypeId} {i l n0:Nat} {tm:Array Value} {ps:List Tmp} {asg body:Code} {ps':Array Tmp} {asg' body':Code} (hcode:LpCode ps' asg' body' ps asg body) (hwt:g.wt=none) (hheld:∀j,j<HS→g.held (j+HS+d*HS)=tm.getD j undef) (htm:tm.size=n0)
  (hn0:Nat.ble n0 HS=true) (hx:δ.ev x=.yld i) (hob:δ.ob i=some (.loop l tm ps' asg' body' .ready)) (ho:okT x=true) (hys:ys.all okT=true) (hlen:Nat.beq ys.length ps.length=true) (hps:ps.all (fun t=>Nat.blt t n0)=true) (hd':okD δ.n dst=true)
  (h:∀g':Ghost,g'.ro=some l→g'.wt=none→(∀j,g'.held (j+HS+HS)=g.held (j+HS))→AW P g' asg (thenD (fun δ1=>isLp δ1 i l .ready∧AW P g' body (roundEndsN P g ops rest Q dst δ.n i l) (stO δ1 i .busy)) (fun _ _=>False)) {n:=n0,env:=parE ps (ys.map δ.ev) (ownE (unD d δ.env)++shiftE δ.env),objs:=δ.objs,nx:=δ.nx}):
  AOps .plain P g ops (⟨dst,.call {callee:=.value x,args:=ys.toArray,argTypes:=tys},ty,pos,af,none⟩::rest) Q δ:=by
 obtain⟨rfl,rfl,rfl⟩:=hcode
 refine AOps.yieldD d hwt hheld htm hn0 hx hob ho hys hlen hps hd' fun g' h1 h2 hu=>(h g' h1 h2 hu).mono ?_
 intro e δ1 he
 cases e with
 |normal=>
  obtain⟨h3,h4⟩:=he
  refine⟨h3,?_⟩
  rw[stO_eq _ h3]
  refine AW.mono h4 ?_
  intro e2 δ2 he2
  cases e2 with
  |normal=>exact⟨he2.1,by show AOps .plain P g ops rest Q (((roundBack δ.n δ2).lpSt i .ready).putd dst (litB true));rw[stO_eq .ready (isLp_back (n:=δ.n) he2.1)];exact he2.2⟩
  |ret=>exact⟨he2.1,by show AOps .plain P g ops rest Q (((roundBack δ.n δ2).lpSt i (.done .ret)).putd dst (litB false));rw[stO_eq (.done .ret) (isLp_back (n:=δ.n) he2.1)];exact he2.2⟩
  |exit id=>exact⟨he2.1,by show AOps .plain P g ops rest Q (((roundBack δ.n δ2).lpSt i (.done (.exit id))).putd dst (litB false));rw[stO_eq (.done (.exit id)) (isLp_back (n:=δ.n) he2.1)];exact he2.2⟩
  |_=>exact he2.elim
 |_=>exact he.elim
theorem AOps.yieldN0 {x:Operand} {ys:List Operand} {tys:Array TypeId} {i l n0:Nat} {tm:Array Value} {ps:List Tmp} {asg body:Code} {ps':Array Tmp} {asg' body':Code} (hcode:LpCode ps' asg' body' ps asg body) (hwt:g.wt=none) (hheld:∀j,j<HS→g.held (j+HS)=tm.getD j undef) (htm:tm.size=n0)
  (hn0:Nat.ble n0 HS=true) (hx:δ.ev x=.yld i) (hob:δ.ob i=some (.loop l tm ps' asg' body' .ready)) (ho:okT x=true) (hys:ys.all okT=true) (hlen:Nat.beq ys.length ps.length=true) (hps:ps.all (fun t=>Nat.blt t n0)=true) (hd':okD δ.n dst=true)
  (h:∀g':Ghost,g'.ro=some l→g'.wt=none→(∀j,g'.held (j+HS+HS)=g.held (j+HS))→AW P g' asg (thenD (fun δ1=>isLp δ1 i l .ready∧AW P g' body (roundEndsN P g ops rest Q dst δ.n i l) (stO δ1 i .busy)) (fun _ _=>False)) {n:=n0,env:=parE ps (ys.map δ.ev) (ownE (δ.env)++shiftE δ.env),objs:=δ.objs,nx:=δ.nx}):
  AOps .plain P g ops (⟨dst,.call {callee:=.value x,args:=ys.toArray,argTypes:=tys},ty,pos,af,none⟩::rest) Q δ:=by
 exact AOps.yieldDN 0 hcode hwt (fun j hj=>(congrArg g.held (by omega)).trans (hheld j hj)) htm hn0 hx hob ho hys hlen hps hd' h
theorem AOps.yieldN2 {x:Operand} {ys:List Operand} {tys:Array TypeId} {i l n0:Nat} {tm:Array Value} {ps:List Tmp} {asg body:Code} {ps':Array Tmp} {asg' body':Code} (hcode:LpCode ps' asg' body' ps asg body) (hwt:g.wt=none) (hheld:∀j,j<HS→g.held (j+HS+2*HS)=tm.getD j undef) (htm:tm.size=n0)
  (hn0:Nat.ble n0 HS=true) (hx:δ.ev x=.yld i) (hob:δ.ob i=some (.loop l tm ps' asg' body' .ready)) (ho:okT x=true) (hys:ys.all okT=true) (hlen:Nat.beq ys.length ps.length=true) (hps:ps.all (fun t=>Nat.blt t n0)=true) (hd':okD δ.n dst=true)
  (h:∀g':Ghost,g'.ro=some l→g'.wt=none→(∀j,g'.held (j+HS+HS)=g.held (j+HS))→AW P g' asg (thenD (fun δ1=>isLp δ1 i l .ready∧AW P g' body (roundEndsN P g ops rest Q dst δ.n i l) (stO δ1 i .busy)) (fun _ _=>False)) {n:=n0,env:=parE ps (ys.map δ.ev) (ownE (unshiftE (unshiftE (δ.env)))++shiftE δ.env),objs:=δ.objs,nx:=δ.nx}):
  AOps .plain P g ops (⟨dst,.call {callee:=.value x,args:=ys.toArray,argTypes:=tys},ty,pos,af,none⟩::rest) Q δ:=by
 exact AOps.yieldDN 2 hcode hwt (fun j hj=>hheld j hj) htm hn0 hx hob ho hys hlen hps hd' h
theorem AOps.yieldN4 {x:Operand} {ys:List Operand} {tys:Array TypeId} {i l n0:Nat} {tm:Array Value} {ps:List Tmp} {asg body:Code} {ps':Array Tmp} {asg' body':Code} (hcode:LpCode ps' asg' body' ps asg body) (hwt:g.wt=none) (hheld:∀j,j<HS→g.held (j+HS+4*HS)=tm.getD j undef) (htm:tm.size=n0)
  (hn0:Nat.ble n0 HS=true) (hx:δ.ev x=.yld i) (hob:δ.ob i=some (.loop l tm ps' asg' body' .ready)) (ho:okT x=true) (hys:ys.all okT=true) (hlen:Nat.beq ys.length ps.length=true) (hps:ps.all (fun t=>Nat.blt t n0)=true) (hd':okD δ.n dst=true)
  (h:∀g':Ghost,g'.ro=some l→g'.wt=none→(∀j,g'.held (j+HS+HS)=g.held (j+HS))→AW P g' asg (thenD (fun δ1=>isLp δ1 i l .ready∧AW P g' body (roundEndsN P g ops rest Q dst δ.n i l) (stO δ1 i .busy)) (fun _ _=>False)) {n:=n0,env:=parE ps (ys.map δ.ev) (ownE (unshiftE (unshiftE (unshiftE (unshiftE (δ.env)))))++shiftE δ.env),objs:=δ.objs,nx:=δ.nx}):
  AOps .plain P g ops (⟨dst,.call {callee:=.value x,args:=ys.toArray,argTypes:=tys},ty,pos,af,none⟩::rest) Q δ:=by
 exact AOps.yieldDN 4 hcode hwt (fun j hj=>hheld j hj) htm hn0 hx hob ho hys hlen hps hd' h
theorem AOps.yieldN6 {x:Operand} {ys:List Operand} {tys:Array TypeId} {i l n0:Nat} {tm:Array Value} {ps:List Tmp} {asg body:Code} {ps':Array Tmp} {asg' body':Code} (hcode:LpCode ps' asg' body' ps asg body) (hwt:g.wt=none) (hheld:∀j,j<HS→g.held (j+HS+6*HS)=tm.getD j undef) (htm:tm.size=n0)
  (hn0:Nat.ble n0 HS=true) (hx:δ.ev x=.yld i) (hob:δ.ob i=some (.loop l tm ps' asg' body' .ready)) (ho:okT x=true) (hys:ys.all okT=true) (hlen:Nat.beq ys.length ps.length=true) (hps:ps.all (fun t=>Nat.blt t n0)=true) (hd':okD δ.n dst=true)
  (h:∀g':Ghost,g'.ro=some l→g'.wt=none→(∀j,g'.held (j+HS+HS)=g.held (j+HS))→AW P g' asg (thenD (fun δ1=>isLp δ1 i l .ready∧AW P g' body (roundEndsN P g ops rest Q dst δ.n i l) (stO δ1 i .busy)) (fun _ _=>False)) {n:=n0,env:=parE ps (ys.map δ.ev) (ownE (unshiftE (unshiftE (unshiftE (unshiftE (unshiftE (unshiftE (δ.env)))))))++shiftE δ.env),objs:=δ.objs,nx:=δ.nx}):
  AOps .plain P g ops (⟨dst,.call {callee:=.value x,args:=ys.toArray,argTypes:=tys},ty,pos,af,none⟩::rest) Q δ:=by
 exact AOps.yieldDN 6 hcode hwt (fun j hj=>hheld j hj) htm hn0 hx hob ho hys hlen hps hd' h
end Go.Ab
/- Maps from numbers to numbers;the address of a field,taken first. -/
namespace Go.Ab
open Go Go.RowKit
def cntI (l:List (Int×Int)):List (Int×AV):=l.map fun p=>(p.1,litI p.2)
def getL:List (Int×Int)→Int→Int
 |[],_=>0
 |(k,v)::l,m=>if m=k then v else getL l m
def setL':List (Int×Int)→Int→Int→List (Int×Int)
 |[],m,n=>[(m,n)]
 |(k,v)::l,m,n=>if m=k then (k,n)::l else (k,v)::setL' l m n
theorem lookI_cnt:∀(l:List (Int×Int)) (m:Int),(lookI (cntI l) m).getD (.pv (.lit (.int .i64 0)))=litI (getL l m)
 |[],_=>rfl
 |(k,v)::l,m=>by
  show(if m=k then some (litI v) else lookI (cntI l) m).getD _=litI (if m=k then v else getL l m)
  by_cases h:m=k
  ·rw[if_pos h,if_pos h];rfl
  ·rw[if_neg h,if_neg h];exact lookI_cnt l m
theorem updI_cnt:∀(l:List (Int×Int)) (m n:Int),updI (cntI l) m (litI n)=cntI (setL' l m n)
 |[],_,_=>rfl
 |(k,v)::l,m,n=>by
  show(if m=k then (k,litI n)::cntI l else (k,litI v)::updI (cntI l) m (litI n))=cntI (if m=k then (k,n)::l else (k,v)::setL' l m n)
  by_cases h:m=k
  ·rw[if_pos h,if_pos h];rfl
  ·rw[if_neg h,if_neg h,updI_cnt l m n];rfl
theorem getL_set:∀(l:List (Int×Int)) (m n x:Int),getL (setL' l m n) x=if x=m then n else getL l x
 |[],m,n,x=>rfl
 |(k,v)::l,m,n,x=>by
  unfold setL'
  by_cases h:m=k
  ·rw[if_pos h]
   show(if x=k then n else getL l x)=if x=m then n else (if x=k then v else getL l x)
   by_cases hx:x=m
   ·rw[if_pos hx,if_pos (hx.trans h)]
   ·rw[if_neg hx,if_neg (fun e=>hx (e.trans h.symm)),if_neg (fun e=>hx (e.trans h.symm))]
  ·rw[if_neg h]
   show(if x=k then v else getL (setL' l m n) x)=if x=m then n else (if x=k then v else getL l x)
   rw[getL_set l m n x]
   by_cases hx:x=k
   ·rw[if_pos hx,if_pos hx,if_neg (fun e=>h (e.symm.trans hx))]
   ·rw[if_neg hx,if_neg hx]
section
variable {P:Program} {g:Ghost} {δ δ':DS} {q:Md}
variable {ops:Array Oper} {rest:List Oper} {Q:Exit→DS→Prop} {dst:Option Nat} {ty:TypeId} {pos:String} {af:Array Edge}
theorem AOps.lookup_cnt {x y:Operand} {t kt et:TypeId} {i:Nat} {l:List (Int×Int)} {m:Int} (hx:δ.ev x=.mapr i) (hob:δ.ob i=some (.mp (mpI (cntI l)))) (hy:δ.ev y=litI m) (ht:P.underlying t=some (.map kt et)) (hk:P.underlying kt=some (.int .i64)) (hz:(P.info? et).bind (·.zero)=some (.int .i64 0))
  (ho:okT x=true) (ho':okT y=true) (hd:okD δ.n dst=true) (hK:AOps q P g ops rest Q (δ.putd dst (litI (getL l m)))):AOps q P g ops (⟨dst,.lookup t x y false,ty,pos,af,none⟩::rest) Q δ:=
 AOps.lookup hx hob hy ht hk hz (lookI_cnt l m) ho ho' hd hK
theorem AOps.mapUpdate_cnt {x y z:Operand} {t kt et:TypeId} {i:Nat} {l:List (Int×Int)} {m n:Int} (hx:δ.ev x=.mapr i) (hob:δ.ob i=some (.mp (mpI (cntI l)))) (hy:δ.ev y=litI m) (hz:δ.ev z=litI n) (ht:P.underlying t=some (.map kt et)) (hk:P.underlying kt=some (.int .i64))
  (ho:okT x=true) (ho':okT y=true) (hoz:okT z=true) (hd:okD δ.n dst=true) (hwt:g.wt=none)
  (hK:AOps .plain P g ops rest Q ((δ.setOb i (some (.mp (mpI (cntI (setL' l m n)))))).putd dst .any)):AOps .plain P g ops (⟨dst,.mapUpdate t x y z,ty,pos,af,none⟩::rest) Q δ:=
 AOps.eff rfl rfl (Eff.mapUpdate hx hob hy hz rfl ht hk ho ho' hoz hd (wtOk_none hwt i)) (by rw[updI_cnt];exact hK)
theorem AOps.makeCnt {t:TypeId} (hd:okD δ.n dst=true) (hK:AOps .plain P g ops rest Q ((δ.addOb (.mp (mpI (cntI [])))).putd dst (.mapr δ.nx))):AOps .plain P g ops (⟨dst,.makeMap t none,ty,pos,af,none⟩::rest) Q δ:=AOps.makeMap hd hK
theorem cnt_ids (l:List (Int×Int)) (f h:Nat→Bool):∀p∈mpI (cntI l),p.2.ids f h=true:=by
 intro p hp
 simp only[mpI,cntI,List.map_map,List.mem_map] at hp
 obtain⟨x,_,rfl⟩:=hp
 rfl
theorem WO.cnt {i:Nat} {l:List (Int×Int)} (h:δ.ob i=some (.mp (mpI (cntI l)))):WO δ δ' i (.mp (mpI (cntI l))):=.mp h (cnt_ids l _ _)
theorem WO.cntE {i:Nat} {l l':List (Int×Int)} (h:δ.ob i=some (.mp (mpI (cntI l)))) (e:l=l'):WO δ δ' i (.mp (mpI (cntI l'))):=e▸ .cnt h
variable {t n:Nat} {K:DS→Prop}
theorem inlEnds_rmapr {i:Nat} (ht:Nat.blt t HS=true) (h:δ.get t=.mapr i) (hK:K ((roundBack n δ).putd dst (.mapr i))):inlEnds P [.tmp t] n dst K .ret δ:=inlEnds_r (.one (.tmp ht h)) hK
theorem inlEnds_rclo {f:Go.Fn} {a b:List AV} (ht:Nat.blt t HS=true) (h:δ.get t=.clo f a b) (hK:K ((roundBack n δ).putd dst (.clo f a b))):inlEnds P [.tmp t] n dst K .ret δ:=inlEnds_r (.one (.tmp ht h)) hK
end
theorem Frees.fieldAddr {P:Program} {δ:DS} {dst:Option Nat} {ty:TypeId} {pos:String} {af:Array Edge} {gd:Option (Tmp×Bool)} (s:TypeId) (f k:Nat) {x:Operand} {i off:Nat} (hx:δ.ev x=.ptr i off) (hB:offB P s f k=true) (ho:okT x=true):
  Frees P ⟨dst,.fieldAddr s x f,ty,pos,af,gd⟩ δ (.ptr i (off+k)):=by
 intro g κ a w r
 unfold offB at hB
 split at hB
 ·rename_i fs hs
  split at hB
  ·rename_i fld hf
   simp only[Bool.and_eq_true,beq_iff_eq] at hB
   have hk:=Nat.eq_of_beq_eq_true hB.1
   subst hk
   have hra:=r.ra hx ho
   generalize hu:a.eval x=u at hra
   cases hra with
   |ptr hl hκ=>exact⟨_,fun w'=>by have:=run_fieldAddr (dst:=dst) (ty:=ty) (pos:=pos) (af:=af) hs hf hB.2 hu w';simpa [execOp] using this,.ptr hl hκ⟩
  ·cases hB
 ·cases hB
section
variable {P:Program} {g:Ghost} {δ:DS} {l:List Oper} {late dn:List Nat} {k:Wt} {QD:Exit→DS→Prop}
theorem AR.step2L {i j:Nat} {o p:Oper} (hl:Nat.blt dn.length l.length=true) (hr:readyIs l dn [i,j]=true) (ho:l[i]? =some o) (hp:l[j]? =some p) (hlt:lateIn late (setL l.length (j::dn))=true)
  (h:∀g':Ghost,Gs g' g→(∀j,k.2.2≤j→g'.wtOk j)→AOps .plain P g' l.toArray [o] (onlyN (AR P g k late l QD (i::dn))) δ)
  (h':∀g':Ghost,Gs g' g→g'.wt=none→AOps .plain P g' l.toArray [p] (onlyN (AR P g k late l QD (j::dn))) δ):AR P g k late l QD dn δ:=
 AR.all hl hr (by simp) fun i' hi'=>by
  have hw:∀i',∀j,k.2.2≤j→(gOf g k late (setL l.length (i'::dn))).wtOk j:=by
   intro i' j hj k' hk'
   have:(if lateIn late (setL l.length (i'::dn))=true then none else some k)=some k':=hk'
   split at this
   ·cases this
   ·cases this;exact hj
  simp only[List.mem_cons,List.not_mem_nil,or_false] at hi'
  rcases hi' with rfl|rfl
  ·exact⟨o,ho,h _ ⟨rfl,rfl,rfl⟩ (hw _)⟩
  ·exact⟨p,hp,h' _ ⟨rfl,rfl,rfl⟩ (if_pos hlt)⟩
end
end Go.Ab
/- In the midst of a region that draws its order:operations that only read are taken in one order;the watch over memory begins anew. -/
namespace Go.Ab
open Go Go.RowKit
variable {P:Program} {g:Ghost} {δ:DS} {k:Wt} {late:List Nat} {l:List Oper} {dn:List Nat} {QD:Exit→DS→Prop} {ro:Option Nat}
def directB (ops:Array Oper) (i j:Nat):Bool:=match ops[j]? with
 |some o=>o.after.any fun e=>Region.binds .any e && e.on==i
 |none=>false
theorem directB_waits {ops:Array Oper} {i j n:Nat} (h:directB ops i j=true):waitsB ops i (n+1) j=true:=by
 unfold directB at h
 unfold waitsB
 cases ho:ops[j]? with
 |none=>rw[ho] at h;cases h
 |some o=>
  rw[ho] at h
  simp only at h ⊢
  obtain⟨e,he,hb⟩:=Array.any_eq_true'.1 h
  refine Array.any_eq_true'.2 ⟨e,he,?_⟩
  simp only[Bool.and_eq_true,Bool.or_eq_true] at hb ⊢
  exact⟨hb.1,.inl hb.2⟩
def firstD (l:List Oper) (late:List Nat):List Nat→List Nat→Bool
 |[],_=>true
 |i::r,dn=>freeB l late dn i && late.all (fun j=>directB l.toArray i j||waitsB l.toArray i l.length j) && firstD l late r (i::dn)
theorem firstD_first:∀(l2 dn:List Nat),firstD l late l2 dn=true→firstB l late l2 dn=true
 |[],_,_=>rfl
 |i::r,dn,h=>by
  unfold firstD at h
  unfold firstB
  simp only[Bool.and_eq_true] at h ⊢
  refine⟨⟨h.1.1,List.all_eq_true.2 fun j hj=>?_⟩,firstD_first r _ h.2⟩
  have h1:=(List.all_eq_true.1 h.1.2) j hj
  rcases Bool.or_eq_true _ _▸h1 with h2|h2
  ·cases hl:l.length with
   |zero=>simp only[List.length_eq_zero_iff] at hl;subst hl;simp [directB] at h2
   |succ n=>exact directB_waits h2
  ·exact h2
theorem AR.reads (l2:List Nat) (hB:firstD l late l2 dn=true) (hL:lateIn late (setL l.length dn)=false) (hle:Nat.ble (l2.length+dn.length) l.length=true)
  (h:∀g':Ghost,Gs g' g→AOps .held P g' l.toArray (pick l l2) (onlyN fun δ'=>∀k':Wt,k'.2.2=δ.nx→AR P g k' late l QD (l2.reverse++dn) δ') δ):AR P g k late l QD dn δ:=by
 intro hdc κ a w r
 have hle':l2.length+dn.length≤l.length:=by simpa using hle
 have h1:=h (gOf g k late (setL l.length dn)) ⟨rfl,rfl,rfl⟩ κ a w r
 have hwt:=r.wt k (show(if lateIn late (setL l.length dn)=true then none else some k)=some k by rw[hL];rfl)
 obtain⟨k',hk⟩:∃k':Wt,k'=(w,(fun b=>b<w.heap.size∧∀i,δ.lr i→κ i≠some b),δ.nx):=⟨_,rfl⟩
 have hsub:∀listed w',Sof k' late listed w'→Sof k late listed w':=by
  intro listed w' h3 hl b hb
  obtain⟨h4,h5⟩:=hwt.1 b hb
  have h6:b<w.heap.size:=by
   rw[Array.getElem?_eq_getElem h4] at h5
   exact(Array.getElem?_eq_some_iff.1 h5).1
  have h7:k'.2.1 b:=by
   rw[hk]
   exact⟨h6,fun i hi hκ=>hwt.2 i b ⟨_,hi⟩ (.inl hi) hκ hb⟩
  have h8:=(h3 hl b h7).2
  rw[hk] at h8
  exact⟨h4,h8.trans h5⟩
 have hfrom:∀(fuel:Nat) (listed:Array Bool) (a:Act) (w':World),wpAnyL g.ro P l.toArray (postN g QD) (Sof k' late) fuel listed a w'→wpAnyL g.ro P l.toArray (postN g QD) (Sof k late) fuel listed a w':=by
  intro fuel
  induction fuel with
  |zero=>intro _ _ _ h;exact h
  |succ fuel ih=>intro listed a w' h;exact⟨h.1,fun i hi=>wpOpIn_mono (fun a' w'' h'=>⟨hsub _ _ h'.1,ih _ _ _ h'.2⟩) (h.2 i hi)⟩
 have hfu:l.length - dn.length=l2.length+(l.length - (l2.reverse++dn).length):=by simp;omega
 rw[hfu]
 have hk0:Sof k' late (setL l.length dn) w:=fun _ b hb=>by subst hk;exact⟨hb.1,rfl⟩
 refine hfrom _ _ _ _ (heldIn (ro:=g.ro) (g:=g) (QD:=QD) (late:=late) (l:=l) (P:=P) (δ0:=δ) (κ1:=κ) (w1:=w) (k:=k') (by rw[hk]) (by rw[hk]) (N:=l.length - (l2.reverse++dn).length) l2 dn a (firstD_first _ _ hB) hdc hk0 h1 (fun a' ha' hd'=>?_))
 obtain⟨δ',hq,hobj,r2⟩:=ha'
 refine hq k' (by rw[hk]) hd' κ a' w ?_
 have hob:∀i,δ'.ob i=δ.ob i:=fun i=>by unfold DS.ob;rw[hobj]
 refine Rel.rewt (g:=gOf g k late (setL l.length dn)) r2 (wt':=if lateIn late (setL l.length (l2.reverse++dn))=true then none else some k') fun k'' hk'=>?_
 split at hk'
 ·cases hk'
 ·cases hk'
  subst hk
  refine⟨fun b hb=>⟨hb.1,rfl⟩,fun i b hli hor hκ hb=>?_⟩
  rcases hor with hor|hor
  ·exact hb.2 i (by have:δ'.ob i=some .row:=hor;rw[hob] at this;exact this) hκ
  ·obtain⟨o,hli⟩:=hli
   rw[hob] at hli
   exact absurd (r.nx i ⟨o,hli⟩) (Nat.not_lt.2 hor)
end Go.Ab
/- A part of a box,loaded as a whole. -/
namespace Go.Ab
open Go Go.RowKit
inductive Sub:Nat→Nat→List AV→List AV→Prop where
 |nil {l}:Sub 0 0 l []
 |take {n a l vs}:Sub 0 n l vs→Sub 0 (n+1) (a::l) (a::vs)
 |skip {k n a l vs}:Sub k n l vs→Sub (k+1) n (a::l) vs
theorem Sub.spec {k n:Nat} {l vs:List AV} (h:Sub k n l vs):(l.drop k).take n=vs∧k+n≤l.length:=by
 induction h with
 |nil=>simp
 |take _ ih=>simp at ih ⊢;exact⟨ih.1,ih.2⟩
 |skip _ ih=>simp at ih ⊢;exact⟨ih.1,by omega⟩
variable {q:Md} {P:Program} {g:Ghost} {δ:DS} {ops:Array Oper} {rest:List Oper} {Q:Exit→DS→Prop} {dst:Option Nat} {ty:TypeId} {pos:String} {af:Array Edge}
theorem AOps.load_bs {x:Operand} {t:TypeId} {i off n:Nat} {cells vs:List AV} (hx:δ.ev x=.ptr i off) (hb:δ.ob i=some (.box cells)) (hn:(P.info? t).map (·.size)=some n) (hs:Sub off n cells vs) (ht:aggT P t n=true) (ho:okT x=true) (hd:okD δ.n dst=true)
  (hK:AOps q P g ops rest Q (δ.putd dst (.agg vs))):AOps q P g ops (⟨dst,.load t x,ty,pos,af,none⟩::rest) Q δ:=
 AOps.load_bn (n:=n) hx hb ht (by simpa using hs.spec.2) ho hd (by rw[hs.spec.1];exact hK)
theorem AOps.pickBt {x y z:Operand} {b:Bool} {v:PV} (hx:δ.ev x=litB b) (hy:δ.ev y=.pv v) (hb:b=true) (ho:okT x=true) (hoy:okT y=true) (hoz:okT z=true) (hd:okD δ.n dst=true)
  (hK:AOps q P g ops rest Q (δ.putd dst (.pv v))):AOps q P g ops (⟨dst,.pick x y z,ty,pos,af,none⟩::rest) Q δ:=AOps.pick_lt (hb▸hx) hy ho hoy hoz hd hK
theorem AOps.pickBf {x y z:Operand} {b:Bool} {v:PV} (hx:δ.ev x=litB b) (hz:δ.ev z=.pv v) (hb:b=false) (ho:okT x=true) (hoy:okT y=true) (hoz:okT z=true) (hd:okD δ.n dst=true)
  (hK:AOps q P g ops rest Q (δ.putd dst (.pv v))):AOps q P g ops (⟨dst,.pick x y z,ty,pos,af,none⟩::rest) Q δ:=AOps.pick_lf (hb▸hx) hz ho hoy hoz hd hK
variable {gd:Option (Tmp×Bool)}
end Go.Ab
/- The checks over a region's orders,quick for the kernel:what is listed lies as the bits of one number. -/
namespace Go.Ab
open Go Go.RowKit
variable {P:Program} {g:Ghost} {δ:DS} {k:Wt} {late:List Nat} {l:List Oper} {dn:List Nat} {QD:Exit→DS→Prop}
def maskL (n:Nat):List Nat→Nat
 |[]=>0
 |i::d=>bif Nat.blt i n then maskL n d|||(1<<<i) else maskL n d
theorem maskL_spec {n:Nat}:∀{d:List Nat} {j:Nat},(maskL n d).testBit j=(setL n d).getD j false
 |[],j=>by
  show Nat.testBit 0 j=(Array.replicate n false).getD j false
  rw[Nat.zero_testBit]
  simp [Array.getD_eq_getD_getElem?,Array.getElem?_replicate]
  split<;>rfl
 |i::d,j=>by
  show(bif Nat.blt i n then maskL n d|||(1<<<i) else maskL n d).testBit j=((setL n d).setIfInBounds i true).getD j false
  rw[getD_set]
  have hsz:(setL n d).size=n:=by
   clear j
   induction d with
   |nil=>simp [setL]
   |cons i d ih=>simp [setL,ih]
  by_cases hi:i<n
  ·have hb:Nat.blt i n=true:=by simpa using hi
   rw[hb,cond_true,Nat.testBit_or,maskL_spec,Nat.one_shiftLeft,Nat.testBit_two_pow]
   by_cases hij:i=j
   ·subst hij;simp [hsz,hi]
   ·simp [hij]
  ·have hb:Nat.blt i n=false:=by
    cases h:Nat.blt i n with
    |false=>rfl
    |true=>exact absurd (by simpa using h) hi
   rw[hb,cond_false,maskL_spec]
   by_cases hij:i=j
   ·subst hij
    rw[if_pos rfl,if_neg (by omega)]
    simp [Array.getD_eq_getD_getElem?,Array.getElem?_eq_none (by omega:(setL n d).size≤i)]
   ·rw[if_neg hij]
def afterM (m:Nat) (o:Oper):Bool:=o.after.toList.all fun e=>!Region.binds .any e||m.testBit e.on
def readyM (m:Nat):Nat→List Oper→List Nat
 |_,[]=>[]
 |j,o::r=>bif !m.testBit j && afterM m o then j::readyM m (j+1) r else readyM m (j+1) r
theorem readyM_filter (m:Nat):∀(l:List Oper) (j:Nat),readyM m j l=((List.range l.length).filter fun i=>!m.testBit (j+i) && ((l[i]?).map (afterM m)).getD false).map (j+·)
 |[],_=>rfl
 |o::r,j=>by
  rw[List.length_cons,List.range_succ_eq_map,List.filter_cons,readyM,readyM_filter m r (j+1)]
  simp only[Nat.add_zero,List.getElem?_cons_zero,Option.map_some,Option.getD_some,List.filter_map]
  have e:(List.map (fun x=>j+x) (List.map Nat.succ (List.filter ((fun i=>!m.testBit (j+i) && (Option.map (afterM m) (o::r)[i]?).getD false)∘Nat.succ) (List.range r.length))))=List.map (fun x=>j+1+x) (List.filter (fun i=>!m.testBit (j+1+i) && (Option.map (afterM m) r[i]?).getD false) (List.range r.length)):=by
   rw[List.map_map]
   have e2:((fun i=>!m.testBit (j+i) && (Option.map (afterM m) (o::r)[i]?).getD false)∘Nat.succ)=(fun i=>!m.testBit (j+1+i) && (Option.map (afterM m) r[i]?).getD false):=by
    funext i
    simp only[Function.comp,Nat.succ_eq_add_one,List.getElem?_cons_succ]
    rw[show j+(i+1)=j+1+i by omega]
   rw[e2]
   apply List.map_congr_left
   intro i _
   simp only[Function.comp,Nat.succ_eq_add_one]
   omega
  cases (!m.testBit j && afterM m o) with
  |true=>simp only[cond_true,if_true,List.map_cons,Nat.add_zero];rw[e]
  |false=>simp only[cond_false,Bool.false_eq_true,if_false];rw[e]
theorem readyM_eq:Region.ready .any l.toArray (setL l.length dn)=readyM (maskL l.length dn) 0 l:=by
 rw[readyM_filter]
 unfold Region.ready
 simp only[Nat.zero_add,List.size_toArray]
 rw[show(fun x:Nat=>x)=id from rfl,List.map_id]
 apply List.filter_congr
 intro i hi
 have hil:i<l.length:=List.mem_range.1 hi
 have e1:(setL l.length dn).getD i true=(maskL l.length dn).testBit i:=by
  rw[maskL_spec]
  have hsz:(setL l.length dn).size=l.length:=by
   clear hi hil
   generalize l.length=n
   induction dn with
   |nil=>simp [setL]
   |cons i d ih=>simp [setL,ih]
  rw[Array.getD_eq_getD_getElem?,Array.getD_eq_getD_getElem?,Array.getElem?_eq_getElem (by omega)];rfl
 rw[e1]
 congr 1
 rw[List.getElem?_toArray]
 congr 2
 funext o
 unfold afterM
 rw[← Array.all_toList]
 congr 1
 funext e
 rw[maskL_spec]
theorem readyIs_M {rs:List Nat} (h:(readyM (maskL l.length dn) 0 l==rs)=true):readyIs l dn rs=true:=by
 unfold readyIs;rw[readyM_eq];exact h
def lateM (late:List Nat) (m:Nat):Bool:=late.any m.testBit
theorem lateM_eq:lateIn late (setL l.length dn)=lateM late (maskL l.length dn):=by
 unfold lateIn lateM
 congr 1
 funext j
 rw[maskL_spec]
def freeJ (ops:Array Oper) (m i:Nat) (oi:Oper):Nat→List Oper→Bool
 |_,[]=>true
 |j,o::r=>(Nat.beq j i||m.testBit j||o.after.toList.any (fun e=>Region.binds .any e && Nat.beq e.on i)||oi.apart ops o) && freeJ ops m i oi (j+1) r
theorem freeJ_spec {ops:Array Oper} {m i:Nat} {oi:Oper}:∀{l:List Oper} {j:Nat},freeJ ops m i oi j l=true→∀(x:Nat) (o:Oper),l[x]? =some o→(j+x==i||m.testBit (j+x)||(o.after.any (fun e=>Region.binds .any e && e.on==i)||oi.apart ops o))=true
 |[],_,_,x,o,h=>by simp at h
 |o'::r,j,h,x,o,hx=>by
  unfold freeJ at h
  rw[Bool.and_eq_true] at h
  cases x with
  |zero=>
   simp only[List.getElem?_cons_zero,Option.some.injEq] at hx
   subst hx
   have h1:=h.1
   simp only[Nat.add_zero]
   rw[← Array.any_toList]
   simpa [Bool.or_assoc] using h1
  |succ x=>
   rw[List.getElem?_cons_succ] at hx
   have:=freeJ_spec h.2 x o hx
   rwa [show j+1+x=j+(x+1) by omega] at this
def freeM (l:List Oper) (late:List Nat) (m:Nat) (i:Nat):Bool:=
 (readyM m 0 l).contains i && (match l[i]? with|some oi=>freeJ l.toArray m i oi 0 l|none=>false) && !late.contains i
def firstM (l:List Oper) (late:List Nat):List Nat→List Nat→Bool
 |[],_=>true
 |i::r,dn=>freeM l late (maskL l.length dn) i && late.all (fun j=>directB l.toArray i j||waitsB l.toArray i l.length j) && firstM l late r (i::dn)
def fineL (l:List Oper):Bool:=Region.noSelect l.toArray && l.all noDefer
theorem freeM_free {i:Nat} (hf:fineL l=true) (hl:Nat.blt dn.length l.length=true) (h:freeM l late (maskL l.length dn) i=true):freeB l late dn i=true:=by
 unfold fineL at hf
 unfold freeM at h
 unfold freeB
 simp only[Bool.and_eq_true] at hf h ⊢
 refine⟨⟨⟨⟨hf,by rw[readyM_eq];exact h.1.1⟩,?_⟩,h.2⟩,hl⟩
 have h2:=h.1.2
 unfold Region.free
 rw[List.getElem?_toArray]
 cases ho:l[i]? with
 |none=>rw[ho] at h2;cases h2
 |some oi=>
  rw[ho] at h2
  simp only at h2 ⊢
  rw[List.all_eq_true]
  intro j hj
  have hj':j<l.length:=by simpa using hj
  have h3:=freeJ_spec h2 j _ (List.getElem?_eq_getElem hj')
  rw[Nat.zero_add,maskL_spec] at h3
  have hsz:(setL l.length dn).size=l.length:=by
   clear hf h h2 h3 hl
   generalize l.length=n
   induction dn with
   |nil=>simp [setL]
   |cons i d ih=>simp [setL,ih]
  have e1:(setL l.length dn).getD j true=(setL l.length dn).getD j false:=by
   rw[Array.getD_eq_getD_getElem?,Array.getD_eq_getD_getElem?,Array.getElem?_eq_getElem (by omega)];rfl
  rw[e1,List.getElem?_toArray,List.getElem?_eq_getElem hj']
  exact h3
theorem firstM_first (hf:fineL l=true):∀(l2 dn:List Nat),Nat.ble (l2.length+dn.length) l.length=true→firstM l late l2 dn=true→firstD l late l2 dn=true
 |[],_,_,_=>rfl
 |i::r,dn,hle,h=>by
  unfold firstM at h
  unfold firstD
  simp only[Bool.and_eq_true] at h ⊢
  have hle':(i::r).length+dn.length≤l.length:=by simpa using hle
  simp only[List.length_cons] at hle'
  exact⟨⟨freeM_free hf (by simp;omega) h.1.1,h.1.2⟩,firstM_first hf r _ (by simp;omega) h.2⟩
theorem AR.readsM (l2:List Nat) (hf:fineL l=true) (hB:firstM l late l2 dn=true) (hL:lateM late (maskL l.length dn)=false) (hle:Nat.ble (l2.length+dn.length) l.length=true)
  (h:∀g':Ghost,Gs g' g→AOps .held P g' l.toArray (pick l l2) (onlyN fun δ'=>∀k':Wt,k'.2.2=δ.nx→AR P g k' late l QD (l2.reverse++dn) δ') δ):AR P g k late l QD dn δ:=
 AR.reads l2 (firstM_first hf _ _ hle hB) (by rw[lateM_eq];exact hL) hle h
theorem AR.doneM (hwt:g.wt=none) (hr:(readyM (maskL l.length dn) 0 l==[])=true) (h:QD .normal δ):AR P g k late l QD dn δ:=AR.done hwt (readyIs_M hr) h
theorem AR.step1M {i:Nat} {o:Oper} (hl:Nat.blt dn.length l.length=true) (hr:(readyM (maskL l.length dn) 0 l==[i])=true) (ho:l[i]? =some o)
  (h:∀g':Ghost,Gs g' g→(∀j,k.2.2≤j→g'.wtOk j)→AOps .plain P g' l.toArray [o] (onlyN (AR P g k late l QD (i::dn))) δ):AR P g k late l QD dn δ:=AR.step1 hl (readyIs_M hr) ho h
theorem AR.step1LM {i:Nat} {o:Oper} (hl:Nat.blt dn.length l.length=true) (hr:(readyM (maskL l.length dn) 0 l==[i])=true) (ho:l[i]? =some o) (hlt:lateM late (maskL l.length (i::dn))=true)
  (h:∀g':Ghost,Gs g' g→g'.wt=none→AOps .plain P g' l.toArray [o] (onlyN (AR P g k late l QD (i::dn))) δ):AR P g k late l QD dn δ:=AR.step1L hl (readyIs_M hr) ho (by rw[lateM_eq];exact hlt) h
theorem AR.step2M {i j:Nat} {o p:Oper} (hl:Nat.blt dn.length l.length=true) (hr:(readyM (maskL l.length dn) 0 l==[i,j])=true) (ho:l[i]? =some o) (hp:l[j]? =some p)
  (h:∀g':Ghost,Gs g' g→(∀j,k.2.2≤j→g'.wtOk j)→AOps .plain P g' l.toArray [o] (onlyN (AR P g k late l QD (i::dn))) δ)
  (h':∀g':Ghost,Gs g' g→(∀j,k.2.2≤j→g'.wtOk j)→AOps .plain P g' l.toArray [p] (onlyN (AR P g k late l QD (j::dn))) δ):AR P g k late l QD dn δ:=AR.step2 hl (readyIs_M hr) ho hp h h'
theorem AW.regionM {id:Nat} (l1:List Nat) (late:List Nat) {l:List Oper} (hm:P.follows .mixedOrders=true) (hwt:g.wt=none) (hf:fineL l=true) (hB:firstM l late l1 []=true) (hle:Nat.ble l1.length l.length=true)
  (h:AOps .held P g l.toArray (pick l l1) (onlyN fun δ'=>∀k:Wt,k.2.2=δ.nx→AR P g k late l QD l1.reverse δ') δ):AW P g (.region id l.toArray true) QD δ:=
 AW.regionE l1 late hm hwt (firstD_first _ _ (firstM_first hf _ _ (by simpa using hle) hB)) hle h
end Go.Ab
/- A loop's state told by what stays of the state before it and what changes. -/
namespace Go.Ab
open Go Go.RowKit
variable {P:Program} {g:Ghost} {δ:DS}
def selE (e:List (Nat×AV)):List Nat→List (Nat×AV)
 |[]=>[]
 |k::ks=>(k,look e k)::selE e ks
def selO (o:List (Nat×Option Ob)):List Nat→List (Nat×Option Ob)
 |[]=>[]
 |k::ks=>(k,lookOb o k)::selO o ks
def nxUp:List (Nat×Option Ob)→Nat→Nat
 |[],n=>n
 |(k,_)::r,n=>nxUp r (bif Nat.ble n k then k+1 else n)
namespace Nf
theorem nx0 (n:Nat):nxUp [] n=n:=rfl
theorem nx1 (k n:Nat) (v:Option Ob) (r:List (Nat×Option Ob)):nxUp ((k,v)::r) n=nxUp r (bif Nat.ble n k then k+1 else n):=rfl
def ao:List (Nat×Option Ob)→List (Nat×Option Ob)→List (Nat×Option Ob)
 |[],m=>m
 |v::r,m=>v::ao r m
theorem ao0 (m:List (Nat×Option Ob)):ao [] m=m:=rfl
theorem ao1 (v:Nat×Option Ob) (r m:List (Nat×Option Ob)):ao (v::r) m=v::ao r m:=rfl
theorem se0 (e:List (Nat×AV)):selE e []=[]:=rfl
theorem se1 (e:List (Nat×AV)) (k:Nat) (ks:List Nat):selE e (k::ks)=(k,look e k)::selE e ks:=rfl
theorem so0 (e:List (Nat×Option Ob)):selO e []=[]:=rfl
theorem so1 (e:List (Nat×Option Ob)) (k:Nat) (ks:List Nat):selO e (k::ks)=(k,lookOb e k)::selO e ks:=rfl
set_option linter.defProp false in
def lpR:=And.intro @nx0 (And.intro @nx1 (And.intro @ao0 (And.intro @ao1 (And.intro @se0 (And.intro @se1 (And.intro @so0 @so1))))))
end Nf
theorem AW.loopR {S:Type} {c:Code} {Q:Exit→DS→Prop} (ks os:List Nat) (u:S→List (Nat×AV)) (ou:S→List (Nat×Option Ob)) (I:S→Prop) (μ:S→Nat) (s0:S) {D:S→DS}
  (hD:(fun s=>(⟨δ.n,Nf.ae (u s) (selE δ.env ks),Nf.ao (ou s) (selO δ.objs os),nxUp (ou s) δ.nx⟩:DS))=D) (hs:I s0) (hw:Weak g δ (D s0))
  (round:∀s,I s→AW P g c (thenD (fun δ'=>∃s',I s'∧μ s'<μ s∧Weak g δ' (D s')) Q) (D s)):AW P g (.loop c) Q δ:=AW.loop D I μ s0 hs hw round
theorem Rd.raw {P:Program} {t e:TypeId} (ht:P.underlying t=some (.slice e)):Rd P t (fun s:Option Addr×Nat×Nat=>[.lit (.slice s.1 s.2.1 s.2.2)]) (fun _=>True):=by
 intro H en w sp fuel cs x hx _
 rcases DataW.trod_slice ht hx with ⟨rfl,rfl⟩|⟨a,len,cap,elems,rest,n,rfl,rfl,rfl,_⟩
 ·exact⟨(_,_,_),.one (.lit _) rfl,trivial⟩
 ·exact⟨(_,_,_),.one (.lit _) rfl,trivial⟩
end Go.Ab
/- Quotient and remainder of numbers that are not below zero. -/
namespace Go.Ab
open Go Go.RowKit
variable {q:Md} {P:Program} {g:Ghost} {δ:DS} {ops:Array Oper} {rest:List Oper} {Q:Exit→DS→Prop} {dst:Option Nat} {ty:TypeId} {pos:String} {af:Array Edge} {x y:Operand} {m n:Int} {t t':TypeId}
theorem AOps.remE (hx:δ.ev x=litI m) (hy:δ.ev y=litI n) (ho:okT x=true) (ho':okT y=true) (hd:okD δ.n dst=true) (h0:0≤m∧0<n) (hK:AOps q P g ops rest Q (δ.putd dst (litI (m % n)))):AOps q P g ops (⟨dst,.binOp .rem t x y t',ty,pos,af,none⟩::rest) Q δ:=
 AOps.rem hx hy ho ho' hd (by omega) (by rw[Int.tmod_eq_emod_of_nonneg h0.1];exact hK)
theorem AOps.quoE (hx:δ.ev x=litI m) (hy:δ.ev y=litI n) (ho:okT x=true) (ho':okT y=true) (hd:okD δ.n dst=true) (h0:0≤m∧m≤9223372036854775807∧0<n) (hK:AOps q P g ops rest Q (δ.putd dst (litI (m / n)))):AOps q P g ops (⟨dst,.binOp .quo t x y t',ty,pos,af,none⟩::rest) Q δ:=
 AOps.quo hx hy ho ho' hd (by omega) (by
  have h1:m.tdiv n=m / n:=Int.tdiv_eq_ediv_of_nonneg h0.1
  have h2:0≤m / n:=Int.ediv_nonneg h0.1 (by omega)
  have h3:m / n≤m:=Int.ediv_le_self _ h0.1
  rw[h1,IntWalk.i64_in _ (by omega)]
  exact hK)
end Go.Ab
/- Two objects' names exchanged;the orders of a drawn region brought together again. -/
namespace Go.Ab
open Go Go.RowKit
variable {P:Program} {g:Ghost} {δ:DS} {κ:Nat→Option Nat} {a:Act} {w:World}
def swN (i j x:Nat):Nat:=bif Nat.beq i x then j else bif Nat.beq j x then i else x
theorem swN_if (i j x:Nat):swN i j x=if i=x then j else if j=x then i else x:=by
 unfold swN
 by_cases h1:i=x
 ·subst h1;simp
 ·rw[beq_ne h1,if_neg h1]
  by_cases h2:j=x
  ·subst h2;simp
  ·rw[beq_ne h2,if_neg h2];rfl
theorem swN_sw (i j x:Nat):swN i j (swN i j x)=x:=by
 simp only[swN_if]
 split<;>split<;>(try split)<;>omega
mutual
def AV.sw (i j:Nat):AV→AV
 |.any=> .any
 |.pv p=> .pv p
 |.own x e k els=> .own (swN i j x) e k els
 |.ptr x o=> .ptr (swN i j x) o
 |.rptr c=> .rptr c
 |.optr x e k els n=> .optr (swN i j x) e k els n
 |.agg cs=> .agg (AV.swL i j cs)
 |.tup cs=> .tup (AV.swL i j cs)
 |.clo fn cs ds=> .clo fn (AV.swL i j cs) (AV.swL i j ds)
 |.mapr x=> .mapr (swN i j x)
 |.yld x=> .yld (swN i j x)
def AV.swL (i j:Nat):List AV→List AV
 |[]=>[]
 |c::cs=>AV.sw i j c::AV.swL i j cs
end
theorem AV.swL_eq (i j:Nat):∀l,AV.swL i j l=l.map (AV.sw i j)
 |[]=>rfl
 |c::cs=>by simp [AV.swL,AV.swL_eq i j cs]
def Ob.sw (i j:Nat):Ob→Ob
 |.row=> .row
 |.box cs=> .box (AV.swL i j cs)
 |.mp l=> .mp (l.map fun p=>(p.1,p.2.sw i j))
 |.mpl l k v=> .mpl (l.map fun p=>(p.1,p.2.sw i j)) k (v.sw i j)
 |.it l seen=> .it l seen
 |.lit T vals=> .lit T vals
 |.loop l tm ps asg body st=> .loop l tm ps asg body st
theorem Ob.sw_row (i j:Nat) (o:Ob):(o.sw i j).isRow=o.isRow:=by cases o<;>rfl
def swE (i j:Nat):List (Nat×AV)→List (Nat×AV)
 |[]=>[]
 |(x,v)::r=>(x,v.sw i j)::swE i j r
def swO (i j:Nat):List (Nat×Option Ob)→List (Nat×Option Ob)
 |[]=>[]
 |(x,none)::r=>(swN i j x,none)::swO i j r
 |(x,some o)::r=>(swN i j x,some (o.sw i j))::swO i j r
def DS.sw (δ:DS) (i j:Nat):DS:=⟨δ.n,swE i j δ.env,swO i j δ.objs,δ.nx⟩
theorem look_sw (i j:Nat) (k:Nat):∀e,look (swE i j e) k=(look e k).sw i j
 |[]=>rfl
 |(x,v)::r=>by
  unfold swE
  simp only[look_cons,look_sw i j k r]
  split<;>rfl
theorem lookOb_sw (i j:Nat) (k:Nat):∀e,lookOb (swO i j e) (swN i j k)=(lookOb e k).map (Ob.sw i j)
 |[]=>rfl
 |(x,o)::r=>by
  have hx:(swN i j x=swN i j k)=(x=k):=by
   apply propext
   constructor
   ·intro h;rw[← swN_sw i j x,h,swN_sw]
   ·intro h;rw[h]
  cases o with
  |none=>
   unfold swO
   simp only[lookOb_cons,lookOb_sw i j k r,hx]
   split<;>rfl
  |some o=>
   unfold swO
   simp only[lookOb_cons,lookOb_sw i j k r,hx]
   split<;>rfl
theorem ob_sw (i j k:Nat):(δ.sw i j).ob k=(δ.ob (swN i j k)).map (Ob.sw i j):=by
 have:=lookOb_sw i j (swN i j k) δ.objs
 rw[swN_sw] at this
 exact this
theorem live_sw (i j k:Nat):(δ.sw i j).live k↔δ.live (swN i j k):=by
 unfold DS.live
 rw[ob_sw]
 cases δ.ob (swN i j k)<;>simp
theorem lr_sw (i j k:Nat):(δ.sw i j).lr k↔δ.lr (swN i j k):=by
 unfold DS.lr
 rw[ob_sw]
 cases h:δ.ob (swN i j k) with
 |none=>simp
 |some o=>cases o<;>simp [Ob.sw]
theorem lb_sw (i j k:Nat):(δ.sw i j).lb k↔δ.lb (swN i j k):=by
 unfold DS.lb
 rw[ob_sw]
 cases h:δ.ob (swN i j k) with
 |none=>simp
 |some o=>simp [Ob.sw_row]
def swK (i j:Nat) (κ:Nat→Option Nat):Nat→Option Nat:=fun x=>κ (swN i j x)
theorem N_sw (i j b:Nat):((δ.sw i j).cx g (swK i j κ)).N b↔(δ.cx g κ).N b:=by
 show(g.N0 b∧_)↔(g.N0 b∧_)
 constructor
 ·rintro⟨h1,h2⟩
  refine⟨h1,fun x hx=>?_⟩
  have:=h2 (swN i j x) ((live_sw i j _).2 (by rw[swN_sw];exact hx))
  unfold swK at this
  rwa [swN_sw] at this
 ·rintro⟨h1,h2⟩
  exact⟨h1,fun x hx=>h2 _ ((live_sw i j _).1 hx)⟩
theorem rp_sw (i j:Nat) {v:Value} {p:PV} (h:RP (δ.cx g κ).N w v p):RP ((δ.sw i j).cx g (swK i j κ)).N w v p:=
 h.mono (Nat.le_refl _) fun b _ hb=>⟨(N_sw i j b).2 hb,rfl⟩
theorem own_sw (i j:Nat) {v:Value} {x:Nat} {e:TypeId} {k:Nat} {els:List (List PV)} (h:OwnV (δ.cx g κ) w v x e k els):OwnV ((δ.sw i j).cx g (swK i j κ)) w v (swN i j x) e k els:=by
 obtain⟨hl,hlim,hk,hb,xs,ho,h1,hx⟩:=h
 refine⟨(lr_sw i j _).2 (by rw[swN_sw];exact hl),hlim,hk,fun b hv=>?_,xs,ho,h1,fun i' j' p hp=>let ⟨u,h1,h2⟩:=hx i' j' p hp;⟨u,h1,rp_sw i j h2⟩⟩
 show κ (swN i j (swN i j x))=some b
 rw[swN_sw];exact hb b hv
theorem ra_sw (i j:Nat) {v:Value} {av:AV} (h:RA (δ.cx g κ) w v av):RA ((δ.sw i j).cx g (swK i j κ)) w v (av.sw i j):=by
 induction h with
 |any v=>exact .any v
 |pv h=>exact .pv (rp_sw i j h)
 |own h=>exact .own (own_sw i j h)
 |ptr hl hκ=>exact .ptr ((lb_sw i j _).2 (by rw[swN_sw];exact hl)) (by show κ (swN i j (swN i j _))=_;rw[swN_sw];exact hκ)
 |rptr b off vs hN hb hc hr=>exact .rptr b off vs ((N_sw i j b).2 hN) hb hc fun k p hp=>rp_sw i j (hr k p hp)
 |optr hi h=>exact .optr hi (own_sw i j h)
 |agg hs h ih=>
  show RA _ _ _ (.agg (AV.swL i j _))
  rw[AV.swL_eq]
  refine .agg (by simp [hs]) fun k u c hu hc=>?_
  rw[List.getElem?_map] at hc
  obtain⟨c',hc',rfl⟩:=Option.map_eq_some_iff.1 hc
  exact ih k u c' hu hc'
 |tup hs h ih=>
  show RA _ _ _ (.tup (AV.swL i j _))
  rw[AV.swL_eq]
  refine .tup (by simp [hs]) fun k u c hu hc=>?_
  rw[List.getElem?_map] at hc
  obtain⟨c',hc',rfl⟩:=Option.map_eq_some_iff.1 hc
  exact ih k u c' hu hc'
 |clo hs h ht h' ih ih'=>
  show RA _ _ _ (.clo _ (AV.swL i j _) (AV.swL i j _))
  rw[AV.swL_eq,AV.swL_eq]
  refine .clo (by simp [hs]) (fun k u c hu hc=>?_) (by simp [ht]) (fun k u c hu hc=>?_)
  ·rw[List.getElem?_map] at hc
   obtain⟨c',hc',rfl⟩:=Option.map_eq_some_iff.1 hc
   exact ih k u c' hu hc'
  ·rw[List.getElem?_map] at hc
   obtain⟨c',hc',rfl⟩:=Option.map_eq_some_iff.1 hc
   exact ih' k u c' hu hc'
 |mapr hl hκ=>exact .mapr ((lb_sw i j _).2 (by rw[swN_sw];exact hl)) (by show κ (swN i j (swN i j _))=_;rw[swN_sw];exact hκ)
 |yld hl hκ=>exact .yld ((lb_sw i j _).2 (by rw[swN_sw];exact hl)) (by show κ (swN i j (swN i j _))=_;rw[swN_sw];exact hκ)
theorem noOwn_sw (i j:Nat) (v:AV):(v.sw i j).noOwn=v.noOwn:=by cases v<;>rfl
theorem ObIs.sw (i j:Nat) {x:Nat} {o:Ob} (h:ObIs (δ.cx g κ) w x o):ObIs ((δ.sw i j).cx g (swK i j κ)) w (swN i j x) (o.sw i j):=by
 have hκ:∀y,((δ.sw i j).cx g (swK i j κ)).κ (swN i j y)=κ y:=fun y=>by show κ (swN i j (swN i j y))=_;rw[swN_sw]
 cases o with
 |row=>
  intro b hb
  rw[hκ] at hb
  exact h b hb
 |box cs=>
  obtain⟨b,c,e,h1,h2,h3,h4⟩:=h
  show ObIs _ _ _ (.box (AV.swL i j cs))
  rw[AV.swL_eq]
  refine⟨b,c,e,(hκ x).trans h1,h2,by simp [h3],fun k u av h5 h6=>?_⟩
  rw[List.getElem?_map] at h6
  obtain⟨c',hc',rfl⟩:=Option.map_eq_some_iff.1 h6
  exact⟨ra_sw i j (h4 k u c' h5 hc').1,(h4 k u c' h5 hc').2⟩
 |mp l=>
  obtain⟨b,es,clock,h1,h2,h3,h4,h5⟩:=h
  refine⟨b,es,clock,(hκ x).trans h1,h2,⟨by simp [h3.1],fun k e p h6 h7=>?_⟩,h4,fun p hp=>?_⟩
  ·rw[List.getElem?_map] at h7
   obtain⟨p',hp',rfl⟩:=Option.map_eq_some_iff.1 h7
   exact⟨(h3.2 k e p' h6 hp').1,ra_sw i j (h3.2 k e p' h6 hp').2⟩
  ·obtain⟨p',hp',rfl⟩:=List.mem_map.1 hp
   show(p'.2.sw i j).noOwn=true
   rw[noOwn_sw];exact h5 p' hp'
 |mpl l kk v=>
  obtain⟨b,es,clock,h1,h2,h3,h4,h5⟩:=h
  refine⟨b,es,clock,(hκ x).trans h1,h2,⟨by simpa using h3.1,fun k e p h6 h7=>?_⟩,h4,fun p hp=>?_⟩
  ·have h8:((l++ [(kk,v)]).map fun p=>(p.1,p.2.sw i j))[k]? =some p:=by simpa using h7
   rw[List.getElem?_map] at h8
   obtain⟨p',hp',rfl⟩:=Option.map_eq_some_iff.1 h8
   exact⟨(h3.2 k e p' h6 hp').1,ra_sw i j (h3.2 k e p' h6 hp').2⟩
  ·obtain⟨p',hp',rfl⟩:=List.mem_map.1 hp
   show(p'.2.sw i j).noOwn=true
   rw[noOwn_sw];exact h5 p' hp'
 |it l seen=>
  obtain⟨b,h1,h2⟩:=h
  exact⟨b,(hκ x).trans h1,h2.mono (Nat.le_refl _) (fun b _ hb=>⟨(N_sw i j b).2 hb,rfl⟩) rfl⟩
 |lit T vals=>obtain⟨b,h1,h2⟩:=h;exact⟨b,(hκ x).trans h1,h2⟩
 |loop l tm ps asg body st=>
  obtain⟨b,r,h1,h2⟩:=h
  exact⟨b,r,(hκ x).trans h1,h2⟩
theorem Rel.sw (i j:Nat) (hi:i<δ.nx) (hj:j<δ.nx) (hw:∀k,g.wt=some k→k.2.2≤i∧k.2.2≤j) (r:Rel g δ κ a w):Rel g (δ.sw i j) (swK i j κ) a w where
 n:=r.n
 dfr:=r.dfr
 env:=fun k=>by
  have e:(δ.sw i j).get k=(δ.get k).sw i j:=look_sw i j k δ.env
  rw[e];exact ra_sw i j (r.env k)
 obj:=fun x o h=>by
  rw[ob_sw] at h
  obtain⟨o',ho',rfl⟩:=Option.map_eq_some_iff.1 h
  have:=(r.obj _ o' ho').sw i j
  rwa [swN_sw] at this
 inj:=fun x y b hx hy h1 h2=>by
  have:=r.inj _ _ b ((live_sw i j x).1 hx) ((live_sw i j y).1 hy) h1 h2
  rw[← swN_sw i j x,this,swN_sw]
 lo:=fun x b hx h1=>r.lo _ b ((live_sw i j x).1 hx) h1
 nx:=fun x hx=>by
  have:=r.nx _ ((live_sw i j x).1 hx)
  show x<δ.nx
  rw[swN_if] at this
  split at this
  ·omega
  ·split at this<;>omega
 wt:=fun k hk=>by
  obtain⟨h1,h2⟩:=hw k hk
  refine⟨(r.wt k hk).1,fun x b hx hor hκ=>(r.wt k hk).2 (swN i j x) b ((live_sw i j x).1 hx) ?_ hκ⟩
  rcases hor with hor|hor
  ·exact .inl ((lr_sw i j x).1 hor)
  ·right
   rw[swN_if]
   split
   ·exact h2
   ·split
    ·exact h1
    ·exact hor
 below:=r.below
 hB:=r.hB
 N0:=r.N0
 mkf:=r.mkf
 fr:=r.fr.sub fun x b hx h1=>⟨_,(live_sw i j x).1 hx,h1⟩
namespace Nf
variable {n x:Nat} {e:List (Nat×AV)} {o:List (Nat×Option Ob)} {i j k:Nat}
theorem sw:DS.sw ⟨n,e,o,x⟩ i j=⟨n,swE i j e,swO i j o,x⟩:=rfl
theorem swE0:swE i j []=[]:=rfl
theorem swE1 (v:AV) (r:List (Nat×AV)):swE i j ((k,v)::r)=(k,v.sw i j)::swE i j r:=rfl
theorem swO0:swO i j []=[]:=rfl
theorem swOn (r:List (Nat×Option Ob)):swO i j ((k,none)::r)=(swN i j k,none)::swO i j r:=rfl
theorem swOr (r:List (Nat×Option Ob)):swO i j ((k,some .row)::r)=(swN i j k,some .row)::swO i j r:=rfl
theorem swOb (cs:List AV) (r:List (Nat×Option Ob)):swO i j ((k,some (.box cs))::r)=(swN i j k,some (.box (AV.swL i j cs)))::swO i j r:=rfl
theorem swOi (l:List (Value×PV)) (s:List Nat) (r:List (Nat×Option Ob)):swO i j ((k,some (.it l s))::r)=(swN i j k,some (.it l s))::swO i j r:=rfl
theorem swOl (l tm ps asg body st) (r:List (Nat×Option Ob)):swO i j ((k,some (.loop l tm ps asg body st))::r)=(swN i j k,some (.loop l tm ps asg body st))::swO i j r:=rfl
theorem swL0:AV.swL i j []=[]:=rfl
theorem swL1 (v:AV) (r:List AV):AV.swL i j (v::r)=v.sw i j::AV.swL i j r:=rfl
theorem swA0:AV.sw i j .any=.any:=rfl
theorem swA1 (p:PV):AV.sw i j (.pv p)=.pv p:=rfl
theorem swA2 (e m els):AV.sw i j (.own k e m els)=.own (swN i j k) e m els:=rfl
theorem swA3 (m:Nat):AV.sw i j (.ptr k m)=.ptr (swN i j k) m:=rfl
theorem swA4 (c:List PV):AV.sw i j (.rptr c)=.rptr c:=rfl
theorem swA5 (e m els m'):AV.sw i j (.optr k e m els m')=.optr (swN i j k) e m els m':=rfl
theorem swA6 (c:List AV):AV.sw i j (.agg c)=.agg (AV.swL i j c):=rfl
theorem swA7 (c:List AV):AV.sw i j (.tup c)=.tup (AV.swL i j c):=rfl
theorem swA8 (f) (c d:List AV):AV.sw i j (.clo f c d)=.clo f (AV.swL i j c) (AV.swL i j d):=rfl
theorem swA9:AV.sw i j (.mapr k)=.mapr (swN i j k):=rfl
theorem swAa:AV.sw i j (.yld k)=.yld (swN i j k):=rfl
theorem swNd:swN i j k=bif Nat.beq i k then j else bif Nat.beq j k then i else k:=rfl
set_option linter.defProp false in
def swR:=And.intro @sw (And.intro @swE0 (And.intro @swE1 (And.intro @swO0 (And.intro @swOn (And.intro @swOr (And.intro @swOb (And.intro @swOi (And.intro @swOl (And.intro @swL0 (And.intro @swL1 (And.intro @swA0 (And.intro @swA1 (And.intro @swA2 (And.intro @swA3 (And.intro @swA4 (And.intro @swA5 (And.intro @swA6 (And.intro @swA7 (And.intro @swA8 (And.intro @swA9 (And.intro @swAa @swNd)))))))))))))))))))))
end Nf
variable {k:Wt} {late:List Nat} {l:List Oper} {dn:List Nat} {QD:Exit→DS→Prop}
theorem AR.weakG {δ':DS} (hw:∀g':Ghost,(∀k',g'.wt=some k'→k'=k)→Weak g' δ δ') (h:AR P g k late l QD dn δ'):AR P g k late l QD dn δ:=by
 intro hdc κ a w r
 obtain⟨κ',r'⟩:=hw _ (fun k' hk'=>by
  have:(if lateIn late (setL l.length dn)=true then none else some k)=some k':=hk'
  split at this
  ·cases this
  ·cases this;rfl) κ a w r
 exact h hdc κ' a w r'
theorem setL_size (n:Nat) (d:List Nat):(setL n d).size=n:=by
 induction d with
 |nil=>simp [setL]
 |cons i d ih=>simp [setL,ih]
theorem setL_mask {n:Nat} {d d':List Nat} (h:maskL n d=maskL n d'):setL n d=setL n d':=by
 apply Array.ext
 ·rw[setL_size,setL_size]
 ·intro i h1 h2
  have e1:=maskL_spec (n:=n) (d:=d) (j:=i)
  have e2:=maskL_spec (n:=n) (d:=d') (j:=i)
  rw[h] at e1
  rw[e1] at e2
  rw[Array.getD_eq_getD_getElem?,Array.getD_eq_getD_getElem?,Array.getElem?_eq_getElem h1,Array.getElem?_eq_getElem h2] at e2
  exact e2
theorem AR.perm {J:List Nat} (hm:(maskL l.length dn==maskL l.length J && Nat.beq dn.length J.length)=true) (h:AR P g k late l QD J δ):AR P g k late l QD dn δ:=by
 simp only[Bool.and_eq_true,beq_iff_eq] at hm
 have hm:maskL l.length dn=maskL l.length J∧dn.length=J.length:=⟨hm.1,Nat.eq_of_beq_eq_true hm.2⟩
 have e:=setL_mask hm.1
 intro hdc κ a w r
 rw[hm.2]
 have h1:=h (by rw[← e];exact hdc) κ a w (by rw[← e];exact r)
 rw[e];exact h1
theorem AR.cut (J:List Nat) {δc:DS} (h1:AR P g k late l QD J δc→AR P g k late l QD dn δ) (h2:AR P g k late l QD J δc):AR P g k late l QD dn δ:=h1 h2
theorem AR.meet {J:List Nat} {δc:DS} (hJ:AR P g k late l QD J δc) (hm:(maskL l.length dn==maskL l.length J && Nat.beq dn.length J.length)=true) (hw:∀g':Ghost,Weak g' δ δc):AR P g k late l QD dn δ:=
 AR.weakG (fun g' _=>hw g') (AR.perm hm hJ)
theorem AR.step3M {i j m:Nat} {o p q:Oper} (hl:Nat.blt dn.length l.length=true) (hr:(readyM (maskL l.length dn) 0 l==[i,j,m])=true) (ho:l[i]? =some o) (hp:l[j]? =some p) (hq:l[m]? =some q)
  (h:∀g':Ghost,Gs g' g→(∀j,k.2.2≤j→g'.wtOk j)→AOps .plain P g' l.toArray [o] (onlyN (AR P g k late l QD (i::dn))) δ)
  (h':∀g':Ghost,Gs g' g→(∀j,k.2.2≤j→g'.wtOk j)→AOps .plain P g' l.toArray [p] (onlyN (AR P g k late l QD (j::dn))) δ)
  (h'':∀g':Ghost,Gs g' g→(∀j,k.2.2≤j→g'.wtOk j)→AOps .plain P g' l.toArray [q] (onlyN (AR P g k late l QD (m::dn))) δ):AR P g k late l QD dn δ:=
 AR.all hl (readyIs_M hr) (by simp) fun i' hi'=>by
  have hw:∀i',∀j,k.2.2≤j→(gOf g k late (setL l.length (i'::dn))).wtOk j:=by
   intro i' j hj k' hk'
   have:(if lateIn late (setL l.length (i'::dn))=true then none else some k)=some k':=hk'
   split at this
   ·cases this
   ·cases this;exact hj
  simp only[List.mem_cons,List.not_mem_nil,or_false] at hi'
  rcases hi' with rfl|rfl|rfl
  ·exact⟨o,ho,h _ ⟨rfl,rfl,rfl⟩ (hw _)⟩
  ·exact⟨p,hp,h' _ ⟨rfl,rfl,rfl⟩ (hw _)⟩
  ·exact⟨q,hq,h'' _ ⟨rfl,rfl,rfl⟩ (hw _)⟩
theorem AR.step2LL {i j:Nat} {o p:Oper} (hl:Nat.blt dn.length l.length=true) (hr:(readyM (maskL l.length dn) 0 l==[i,j])=true) (ho:l[i]? =some o) (hp:l[j]? =some p) (hlt:lateM late (maskL l.length dn)=true)
  (h:∀g':Ghost,Gs g' g→g'.wt=none→AOps .plain P g' l.toArray [o] (onlyN (AR P g k late l QD (i::dn))) δ)
  (h':∀g':Ghost,Gs g' g→g'.wt=none→AOps .plain P g' l.toArray [p] (onlyN (AR P g k late l QD (j::dn))) δ):AR P g k late l QD dn δ:=
 AR.all hl (readyIs_M hr) (by simp) fun i' hi'=>by
  have hlt':lateIn late (setL l.length dn)=true:=by rw[lateM_eq];exact hlt
  have hw:∀i',(gOf g k late (setL l.length (i'::dn))).wt=none:=fun i'=>if_pos (lateIn_mono hlt')
  simp only[List.mem_cons,List.not_mem_nil,or_false] at hi'
  rcases hi' with rfl|rfl
  ·exact⟨o,ho,h _ ⟨rfl,rfl,rfl⟩ (hw _)⟩
  ·exact⟨p,hp,h' _ ⟨rfl,rfl,rfl⟩ (hw _)⟩
def memB (k:Nat):List Nat→Bool
 |[]=>false
 |x::r=>bif Nat.beq x k then true else memB k r
def ddE (s:List Nat):List (Nat×AV)→List (Nat×AV)
 |[]=>[]
 |(k,v)::r=>bif memB k s then ddE s r else (k,v)::ddE (k::s) r
def ddO (s:List Nat):List (Nat×Option Ob)→List (Nat×Option Ob)
 |[]=>[]
 |(k,v)::r=>bif memB k s then ddO s r else (k,v)::ddO (k::s) r
theorem memB_iff {k:Nat}:∀{s:List Nat},memB k s=true↔k∈s
 |[]=>by simp [memB]
 |x::r=>by
  unfold memB
  by_cases h:x=k
  ·subst h;simp
  ·rw[beq_ne h,cond_false,memB_iff,List.mem_cons]
   constructor
   ·exact .inr
   ·rintro(h'|h')
    ·exact absurd h'.symm h
    ·exact h'
theorem look_ddE {j:Nat}:∀{e:List (Nat×AV)} {s:List Nat},j∉s→look (ddE s e) j=look e j
 |[],_,_=>rfl
 |(k,v)::r,s,h=>by
  unfold ddE
  cases hm:memB k s with
  |true=>
   have:k≠j:=by rintro rfl;exact h (memB_iff.1 hm)
   rw[cond_true,look_cons,if_neg this,look_ddE h]
  |false=>
   rw[cond_false,look_cons,look_cons]
   by_cases e:k=j
   ·rw[if_pos e,if_pos e]
   ·rw[if_neg e,if_neg e,look_ddE (by simp only[List.mem_cons,not_or];exact⟨fun h'=>e h'.symm,h⟩)]
theorem lookOb_ddO {j:Nat}:∀{e:List (Nat×Option Ob)} {s:List Nat},j∉s→lookOb (ddO s e) j=lookOb e j
 |[],_,_=>rfl
 |(k,v)::r,s,h=>by
  unfold ddO
  cases hm:memB k s with
  |true=>
   have:k≠j:=by rintro rfl;exact h (memB_iff.1 hm)
   rw[cond_true,lookOb_cons,if_neg this,lookOb_ddO h]
  |false=>
   rw[cond_false,lookOb_cons,lookOb_cons]
   by_cases e:k=j
   ·rw[if_pos e,if_pos e]
   ·rw[if_neg e,if_neg e,lookOb_ddO (by simp only[List.mem_cons,not_or];exact⟨fun h'=>e h'.symm,h⟩)]
def DS.dd (δ:DS):DS:=⟨δ.n,ddE [] δ.env,ddO [] δ.objs,δ.nx⟩
theorem Rel.congr {δ':DS} (hn:δ'.n=δ.n) (hx:δ'.nx=δ.nx) (he:∀j,δ'.get j=δ.get j) (ho:∀j,δ'.ob j=δ.ob j) (r:Rel g δ κ a w):Rel g δ' κ a w:=by
 have hob:δ'.ob=δ.ob:=funext ho
 have hl:δ'.live=δ.live:=by unfold DS.live;rw[hob]
 have hlr:δ'.lr=δ.lr:=by unfold DS.lr;rw[hob]
 have hlb:δ'.lb=δ.lb:=by unfold DS.lb;rw[hob]
 have hcx:δ'.cx g κ=δ.cx g κ:=by unfold DS.cx;rw[hl,hlr,hlb]
 exact
  {n:=r.n.trans hn.symm,dfr:=r.dfr
   env:=fun j=>by rw[hcx,he];exact r.env j
   obj:=fun i o h=>by rw[hcx];rw[ho] at h;exact r.obj i o h
   inj:=by rw[hl];exact r.inj
   lo:=by rw[hl];exact r.lo
   nx:=by rw[hl,hx];exact r.nx
   wt:=by rw[hl,hlr];exact r.wt
   below:=r.below,hB:=r.hB,N0:=r.N0,mkf:=r.mkf,fr:=by rw[hl];exact r.fr}
theorem Weak.dd:Weak g δ δ.dd:=fun κ _ _ r=>⟨κ,Rel.congr (δ:=δ) (δ':=δ.dd) rfl rfl (fun j=>look_ddE (s:=[]) (by simp)) (fun j=>lookOb_ddO (s:=[]) (by simp)) r⟩
theorem AR.dd (h:AR P g k late l QD dn δ.dd):AR P g k late l QD dn δ:=AR.weakG (fun _ _=>Weak.dd) h
def ddEc (b:Bool) (s:List Nat) (k:Nat) (v:AV) (r:List (Nat×AV)):List (Nat×AV):=bif b then ddE s r else (k,v)::ddE (k::s) r
def ddOc (b:Bool) (s:List Nat) (k:Nat) (v:Option Ob) (r:List (Nat×Option Ob)):List (Nat×Option Ob):=bif b then ddO s r else (k,v)::ddO (k::s) r
namespace Nf
variable {n x:Nat} {e:List (Nat×AV)} {o:List (Nat×Option Ob)} {i j m:Nat}
theorem dd:DS.dd ⟨n,e,o,x⟩=⟨n,ddE [] e,ddO [] o,x⟩:=rfl
theorem ddE0 (s:List Nat):ddE s []=[]:=rfl
theorem ddE1 (s:List Nat) (v:AV) (r:List (Nat×AV)):ddE s ((m,v)::r)=ddEc (memB m s) s m v r:=rfl
theorem ddEt (s:List Nat) (v:AV) (r:List (Nat×AV)):ddEc true s m v r=ddE s r:=rfl
theorem ddEf (s:List Nat) (v:AV) (r:List (Nat×AV)):ddEc false s m v r=(m,v)::ddE (m::s) r:=rfl
theorem ddO0 (s:List Nat):ddO s []=[]:=rfl
theorem ddO1 (s:List Nat) (v:Option Ob) (r:List (Nat×Option Ob)):ddO s ((m,v)::r)=ddOc (memB m s) s m v r:=rfl
theorem ddOt (s:List Nat) (v:Option Ob) (r:List (Nat×Option Ob)):ddOc true s m v r=ddO s r:=rfl
theorem ddOf (s:List Nat) (v:Option Ob) (r:List (Nat×Option Ob)):ddOc false s m v r=(m,v)::ddO (m::s) r:=rfl
theorem me0:memB m []=false:=rfl
theorem me1 (y:Nat) (r:List Nat):memB m (y::r)=bif Nat.beq y m then true else memB m r:=rfl
set_option linter.defProp false in
def ddR:=And.intro @dd (And.intro @ddE0 (And.intro @ddE1 (And.intro @ddEt (And.intro @ddEf (And.intro @ddO0 (And.intro @ddO1 (And.intro @ddOt (And.intro @ddOf (And.intro @me0 @me1)))))))))
end Nf
end Go.Ab
/- Contracts under a premise on the world at the call that no own memory touches (a table laid,a function value's ways);calls of told closures;functions that take functions. -/
namespace Go.Ab
open Go Go.RowKit
variable {P:Program} {g:Ghost} {δ:DS} {κ:Nat→Option Nat} {a:Act} {w:World}
variable {ops:Array Oper} {rest:List Oper} {Q:Exit→DS→Prop} {dst:Option Nat} {ty:TypeId} {pos:String} {af:Array Edge}
def Stay (T:World→Prop):Prop:=∀w w',T w→Below w.heap.size w w'→T w'
structure FnW (T:World→Prop) (P:Program) (f:FuncId) (args:List AV) (r:AV):Prop where
 enters:∀vals w,(callFunc f vals).run P w=.ok (.enter f vals) w
 calls:∀(N:Nat→Prop) (w:World) (vals:Array Value),T w→(∀b,w.heap.size≤b→N b)→vals.size=args.length→
  (∀(j:Nat) (v:Value) (av:AV),vals[j]? =some v→args[j]? =some av→RA (pcx N) w v av)→
  Calls P f vals w fun e w'=>∃v,e=.returned v∧RA (pcx N) w' v r∧Below w.heap.size w w'
theorem Fn.toW {T:World→Prop} {f:FuncId} {args:List AV} {r:AV} (h:Fn P f args r):FnW T P f args r:=⟨h.enters,fun N w vals _=>h.calls N w vals⟩
theorem FnW.sub {T T':World→Prop} {f:FuncId} {args:List AV} {r:AV} (h:FnW T P f args r) (hT:∀w,T' w→T w):FnW T' P f args r:=⟨h.enters,fun N w vals ht=>h.calls N w vals (hT w ht)⟩
def TB (T:World→Prop) (g:Ghost):Prop:=∀w',Below g.B g.w0 w'→T w'
theorem TB.gs {T:World→Prop} {g g':Ghost} (h:TB T g) (hg:Gs g' g):TB T g':=fun w' hb=>h w' (by rw[← hg.2.1,← hg.2.2];exact hb)
def Gi (g' g:Ghost):Prop:=g'.B=g.B∧g'.w0=g.w0
theorem TB.gi {T:World→Prop} {g g':Ghost} (h:TB T g) (hg:Gi g' g):TB T g':=fun w' hb=>h w' (by rw[← hg.1,← hg.2];exact hb)
theorem TB.sub {T T':World→Prop} {g:Ghost} (h:TB T g) (hT:∀w,T w→T' w):TB T' g:=fun w' hb=>hT w' (h w' hb)
theorem FnW.enter {T:World→Prop} (hst:Stay T) {f:FuncId} {fn:Func} {c:Code} {rs:List ResultVar} {n:Nat} {args:List AV} {r:AV} (hf:P.funcs[f]? =some fn) (hb:fn.body=some c) (hrs:fn.results=rs.toArray) (hn:fn.ntmps=n) (hna:Nat.ble args.length n=true)
  (hna':Nat.ble n HS=true) (he:(fn.name== "runtime.NumGoroutine")=false) (h:∀g:Ghost,g.ro=none→g.wt=none→TB T g→AW P g c (Ends P rs r) (start n args)):FnW T P f args r:=by
 refine⟨fun vals w=>by simp [callFunc,hf,hb];simpa using he,fun N w vals hTw hN hs hargs=>?_⟩
 have hle:args.length≤n:=by simpa using hna
 have hnH:n≤HS:=by simpa using hna'
 let g:Ghost:={B:=w.heap.size,w0:=w,N0:=N,held:=fun _=>undef,ro:=none,mks:=[],wt:=none,fr:=fun _=>False,w1:=w}
 have hnl:∀i,¬(start n args).live i:=fun i ⟨o,h⟩=>by cases h
 refine callsIn_wide.1 (callsIn_of_wp_marks (n:=0) hf hb trivial (wpIn_mono (h g rfl rfl (fun w' hb=>hst w w' hTw hb) (fun _=>none) _ w ?_) ?_))
 ·exact
  {n:=by simp [hn,start];omega
   dfr:=⟨[],rfl,by simp [g],by simp [g]⟩
   env:=fun j=>by
    by_cases hj:j<args.length
    ·have h1:(start n args).get j=args[j]:=look_enum args 0 j _ (Nat.zero_le _) (by simp [hj])
     have h2:g.val {tmps:=vals++Array.replicate (fn.ntmps - vals.size) undef,defers:=[]} j=vals[j]'(by omega):=by
      unfold Ghost.val
      rw[if_pos (by omega)]
      simp [Array.getD_eq_getD_getElem?,Array.getElem?_append,hs,hj]
     rw[h1,h2]
     exact(hargs j _ _ (Array.getElem?_eq_getElem (by omega)) (List.getElem?_eq_getElem hj)).of_pcx _ fun b _ h=>⟨h,fun i hi=>absurd hi (hnl i)⟩
    ·have h1:(start n args).get j=.any:=look_enum_out args 0 j (by omega)
     rw[h1];exact .any _
   obj:=fun i o h=>by cases h
   inj:=fun i j b h=>absurd h (hnl i)
   lo:=fun i b h=>absurd h (hnl i)
   nx:=fun i h=>absurd h (hnl i)
   wt:=fun k hk=>by cases hk
   below:=Below.refl _ _
   hB:=Nat.le_refl _
   N0:=fun b h _=>hN b h
   fr:=fun b hb=>hb.elim
   mkf:=fun d hd=>by cases hd}
 ·rintro e a' w' ⟨δ',κ',hq,r'⟩
  have fin:∀v,Res P δ' rs v→Le true v r→LeavesInM Fence.wide 0 P fn a'.tmps (fun e w'=>∃v,e=.returned v∧RA (pcx N) w' v r∧Below w.heap.size w w') a'.defers .returning w':=by
   intro v h1 h2
   exact leaves (g:=g) rfl rfl hrs h1 r' (fun w2 r2 u hu=>by
    exact⟨u,rfl,hu.le h2 (fun b _ h=>h.1) (fun _ i b hi hκ=>hN b (r2.lo i b (DS.lr_live hi) hκ).1),r2.below⟩)
  cases e with
  |normal=>obtain⟨v,h1,h2⟩:=hq;exact fin v h1 h2
  |ret=>obtain⟨v,h1,h2⟩:=hq;exact fin v h1 h2
  |_=>exact hq.elim
theorem TB.at {T:World→Prop} (h:TB T g) (r:Rel g δ κ a w) {w':World} (hb:Below w.heap.size w w'):T w':=h w' (r.below.trans (hb.mono r.hB))
theorem AOps.callW {q:Md} {T:World→Prop} {f:FuncId} {xs:List Operand} {tys:Array TypeId} {args:List AV} {r:AV} (hT:TB T g) (hf:FnW T P f args r) (hargs:Args true δ xs args) (hdet:r.det=true) (hd:okD δ.n dst=true) (hq:q≠ .held)
  (hK:AOps q P g ops rest Q (δ.putd dst r)):AOps q P g ops (⟨dst,.call {callee:=.value (.func f),args:=xs.toArray,argTypes:=tys},ty,pos,af,none⟩::rest) Q δ:=by
 intro κ a w r0
 have hc:∀w',Below w.heap.size w w'→Calls P f (xs.toArray.map a.eval) w' fun e w''=>e=.returned r.out∧Below w'.heap.size w' w'':=fun w' hw'=>
  (hf.calls (fun _=>True) w' _ (hT.at r0 hw') (fun _ _=>trivial) (by simp [hargs.len]) (hargs.ras (r0.ext hw') (fun _ _ _=>trivial) (fun _ _ _ _ _=>trivial))).mono (by
   rintro e w'' ⟨v,rfl,hv,hb⟩
   exact⟨by rw[hv.det (AV.out_ra (C:=pcx (fun _=>True)) (w:=w) hdet) hdet],hb⟩)
 have hK1:=hK κ _ _ (r0.putd (okD_spec hd) (AV.out_ra hdet))
 cases q with
 |quiet=>
  show wpQuiet P ops _ _ (_::rest) a
  unfold wpQuiet
  rw[if_pos (by simp [Region.wanted])]
  refine⟨r.out,fun w' hw'=>?_,hK1⟩
  unfold Oper.quietAt
  rw[run_call (f:=f) rfl hf.enters]
  exact⟨rfl,(hc w' hw').mono fun e w'' ⟨h1,h2⟩=>⟨h1,hw'.trans (h2.mono hw'.size)⟩⟩
 |held=>exact absurd rfl hq
 |plain=>
  show wpListIn _ _ P ops _ (_::rest) a w
  refine wpl_plain rfl rfl fun K hK'=>?_
  unfold Oper.wpF
  rw[run_call (f:=f) rfl hf.enters,Oper.uponIn_enter]
  refine⟨fun h=>by simp at h,(callsIn_any (hc w (Below.refl _ _))).mono ?_⟩
  rintro e w' ⟨rfl,hb⟩
  exact hK' _ _ (hK κ _ _ ((r0.ext hb).putd (okD_spec hd) (AV.out_ra hdet)))
theorem AOps.callWp {T:World→Prop} {f:FuncId} {xs:List Operand} {tys:Array TypeId} {args:List AV} {r:AV} (hT:TB T g) (hf:FnW T P f args r) (hargs:Args false δ xs args) (hd:okD δ.n dst=true)
  (hK:AOps .plain P g ops rest Q (δ.putd dst r)):AOps .plain P g ops (⟨dst,.call {callee:=.value (.func f),args:=xs.toArray,argTypes:=tys},ty,pos,af,none⟩::rest) Q δ:=by
 intro κ a w r0
 show wpListIn _ _ P ops _ (_::rest) a w
 refine wpl_plain rfl rfl fun K hK'=>?_
 unfold Oper.wpF
 rw[run_call (f:=f) rfl hf.enters,Oper.uponIn_enter]
 refine⟨fun h=>by simp at h,(callsIn_any (hf.calls (fun b=>(δ.cx g κ).N b∨w.heap.size≤b) w _ (hT.at r0 (Below.refl _ _)) (fun _ h=> .inr h) (by simp [hargs.len]) (hargs.ras r0 (fun _ _ h=> .inl h) (fun h=>by simp at h)))).mono ?_⟩
 rintro e w' ⟨v,rfl,hv,hb⟩
 have r1:=r0.ext hb
 refine hK' _ _ (hK κ _ _ (r1.putd (okD_spec hd) (hv.of_pcx _ fun b _ h=>?_)))
 rcases h with h|h
 ·exact h
 ·refine⟨r0.N0new h,fun i hi e=>?_⟩
  have:=(r0.lo i b hi e).2
  omega
def AV.seen:AV→PV
 |.pv p=>p
 |.own _ _ k els=> .slice k els
 |_=> .any
inductive LeB (δ:DS):AV→AV→Prop
 |le {v r:AV} (h:Le true v r):LeB δ v r
 |box {i off:Nat} {cells:List AV} {ps:List PV} (h:δ.ob i=some (.box cells)) (hc:(cells.drop off).map AV.seen=ps):LeB δ (.ptr i off) (.rptr ps)
inductive LeBs (δ:DS):List AV→List AV→Prop
 |nil:LeBs δ [] []
 |cons {c d:AV} {cs ds:List AV} (h:LeB δ c d) (hs:LeBs δ cs ds):LeBs δ (c::cs) (d::ds)
theorem LeBs.len {cs ds:List AV} (h:LeBs δ cs ds):cs.length=ds.length:=by induction h with|nil=>rfl|cons h hs ih=>simp [ih]
theorem LeBs.at {cs ds:List AV} (h:LeBs δ cs ds):∀(j:Nat) (c d:AV),cs[j]? =some c→ds[j]? =some d→LeB δ c d:=by
 induction h with
 |nil=>intro j c d h1;simp at h1
 |cons h hs ih=>
  intro j c d h1 h2
  cases j with
  |zero=>simp at h1 h2;subst h1;subst h2;exact h
  |succ j=>exact ih j c d (by simpa using h1) (by simpa using h2)
theorem RA.seen {C:Cx} {u:Value} {av:AV} (h:RA C w u av):RP (fun _=>True) w u av.seen:=by
 cases h with
 |pv h=>exact h.mono (Nat.le_refl _) fun _ _ _=>⟨trivial,rfl⟩
 |own h=>exact h.pv (fun _ _ _=>trivial) (fun _ _ _ _=>trivial)
 |_=>exact .any _
theorem LeB.ra {v r:AV} (h:LeB δ v r) (rl:Rel g δ κ a w) {u:Value} (hu:RA (δ.cx g κ) w u v):RA (pcx fun _=>True) w u r:=by
 cases h with
 |le h=>exact hu.le h (fun _ _ _=>trivial) (fun _ _ _ _ _=>trivial)
 | @box i off cells ps hb hc=>
  obtain⟨b,c,e,rfl,hκ,h3,h4,h5⟩:=rl.box hu hb
  have hcell:∀j,w.cell? ⟨b,off+j,none⟩=c[off+j]?:=fun j=>cell_of h3 _
  have hat:∀(j:Nat) (p:PV),ps[j]? =some p→∃av,cells[off+j]? =some av∧p=av.seen:=by
   intro j p hp
   rw[← hc,List.getElem?_map,List.getElem?_drop] at hp
   obtain⟨av,h1,h2⟩:=Option.map_eq_some_iff.1 hp
   exact⟨av,h1,h2.symm⟩
  refine .rptr b off (fun j=>(c[off+j]?).getD undef) trivial (heap_lt h3) (fun j p hp=>?_) (fun j p hp=>?_)
  ·obtain⟨av,h1,rfl⟩:=hat j p hp
   have hlt:=(List.getElem?_eq_some_iff.1 h1).1
   have hcj:c[off+j]? =some c[off+j]:=Array.getElem?_eq_getElem (by omega)
   rw[hcell,hcj]
   exact⟨rfl,(h5 _ _ _ hcj h1).2⟩
  ·obtain⟨av,h1,rfl⟩:=hat j p hp
   have hlt:=(List.getElem?_eq_some_iff.1 h1).1
   have hcj:c[off+j]? =some c[off+j]:=Array.getElem?_eq_getElem (by omega)
   simp only[hcj,Option.getD_some]
   exact(h5 _ _ _ hcj h1).1.seen
theorem RA.keep {u:Value} {r:AV} (h:RA (pcx fun _=>True) w u r) {w':World} (hb:Below w.heap.size w w'):RA (pcx fun _=>True) w' u r:=
 (show Goes (pcx fun _=>True) w (pcx fun _=>True) w' from {B:=rfl,size:=hb.size,N:=fun b h1 h2=>⟨h2,hb.block b h1⟩,Lr:=fun i hi=>hi.elim,Lb:=fun i hi=>hi.elim}).ra h
theorem clo_args {r:Rel g δ κ a w} {xs:List Operand} (hos:xs.all okT=true) {first cap args:List AV} {vs us:Array Value} (hs:vs.size=first.length) (hvs:∀(j:Nat) (u:Value) (c:AV),vs[j]? =some u→first[j]? =some c→RA (δ.cx g κ) w u c)
  (ht:us.size=cap.length) (hus:∀(j:Nat) (u:Value) (c:AV),us[j]? =some u→cap[j]? =some c→RA (δ.cx g κ) w u c) (hargs:LeBs δ (first++xs.map δ.ev++cap) args):
  (vs++xs.toArray.map a.eval++us).size=args.length∧∀(j:Nat) (v:Value) (av:AV),(vs++xs.toArray.map a.eval++us)[j]? =some v→args[j]? =some av→RA (pcx fun _=>True) w v av:=by
 have hl:=hargs.len
 simp only[List.length_append,List.length_map] at hl
 refine⟨by simp;omega,fun j v av h1 h2=>?_⟩
 have hjl:j<(first++xs.map δ.ev++cap).length:=by rw[hargs.len];exact(List.getElem?_eq_some_iff.1 h2).1
 have h3:=List.getElem?_eq_getElem hjl
 refine(hargs.at j _ av h3 h2).ra r ?_
 generalize (first++xs.map δ.ev++cap)[j]=c at h3
 by_cases hj:j<first.length+xs.length
 ·rw[List.getElem?_append_left (by simp;omega)] at h3
  rw[Array.getElem?_append_left (by simp;omega)] at h1
  by_cases hj1:j<first.length
  ·rw[List.getElem?_append_left hj1] at h3
   rw[Array.getElem?_append_left (by omega)] at h1
   exact hvs j v c h1 h3
  ·rw[List.getElem?_append_right (by omega)] at h3
   rw[Array.getElem?_append_right (by omega),hs] at h1
   simp only[List.map_toArray,List.getElem?_toArray,List.getElem?_map,Option.map_eq_some_iff] at h1 h3
   obtain⟨y,h5,rfl⟩:=h1
   obtain⟨y',h4,rfl⟩:=h3
   rw[h5] at h4;cases h4
   exact r.evc y (okT_spec ((List.all_eq_true.1 hos) y (List.mem_of_getElem? h5)))
 ·rw[List.getElem?_append_right (by simp;omega)] at h3
  rw[Array.getElem?_append_right (by simp;omega)] at h1
  have e1:(vs++xs.toArray.map a.eval).size=(first++xs.map δ.ev).length:=by simp;omega
  rw[e1] at h1
  exact hus _ v c h1 h3
theorem AOps.callC {q:Md} {T:World→Prop} {y:Operand} {f:FuncId} {xs:List Operand} {tys:Array TypeId} {first cap args:List AV} {r:AV} (hT:TB T g) (hf:FnW T P f args r) (hy:δ.ev y=.clo (.func f) first cap) (hoy:okT y=true) (hos:xs.all okT=true) (hargs:LeBs δ (first++xs.map δ.ev++cap) args) (hdet:r.det=true) (hd:okD δ.n dst=true) (hq:q≠ .held)
  (hK:AOps q P g ops rest Q (δ.putd dst r)):AOps q P g ops (⟨dst,.call {callee:=.value y,args:=xs.toArray,argTypes:=tys},ty,pos,af,none⟩::rest) Q δ:=by
 intro κ a w r0
 have hra:=r0.ra hy hoy
 generalize hv:a.eval y=v at hra
 cases hra with
 | @clo _ vs us _ _ hs hvs ht hus=>
  obtain⟨hsz,hcl⟩:=clo_args (r:=r0) hos hs hvs ht hus hargs
  have hc:∀w',Below w.heap.size w w'→Calls P f (vs++xs.toArray.map a.eval++us) w' fun e w''=>e=.returned r.out∧Below w'.heap.size w' w'':=fun w' hw'=>
   (hf.calls (fun _=>True) w' _ (hT.at r0 hw') (fun _ _=>trivial) hsz (fun j v av h1 h2=>(hcl j v av h1 h2).keep hw')).mono (by
    rintro e w'' ⟨v,rfl,hv,hb⟩
    exact⟨by rw[hv.det (AV.out_ra (C:=pcx (fun _=>True)) (w:=w) hdet) hdet],hb⟩)
  have hK1:=hK κ _ _ (r0.putd (okD_spec hd) (AV.out_ra hdet))
  cases q with
  |quiet=>
   show wpQuiet P ops _ _ (_::rest) a
   unfold wpQuiet
   rw[if_pos (by simp [Region.wanted])]
   refine⟨r.out,fun w' hw'=>?_,hK1⟩
   unfold Oper.quietAt
   rw[run_callv hv hf.enters]
   exact⟨rfl,(hc w' hw').mono fun e w'' ⟨h1,h2⟩=>⟨h1,hw'.trans (h2.mono hw'.size)⟩⟩
  |held=>exact absurd rfl hq
  |plain=>
   show wpListIn _ _ P ops _ (_::rest) a w
   refine wpl_plain rfl rfl fun K hK'=>?_
   unfold Oper.wpF
   rw[run_callv hv hf.enters,Oper.uponIn_enter]
   refine⟨fun h=>by simp at h,(callsIn_any (hc w (Below.refl _ _))).mono ?_⟩
   rintro e w' ⟨rfl,hb⟩
   exact hK' _ _ (hK κ _ _ ((r0.ext hb).putd (okD_spec hd) (AV.out_ra hdet)))
theorem TB.none (g:Ghost):TB (fun _=>True) g:=fun _ _=>trivial
theorem AOps.callC0 {q:Md} {y:Operand} {f:FuncId} {xs:List Operand} {tys:Array TypeId} {first cap args:List AV} {r:AV} (hf:Fn P f args r) (hy:δ.ev y=.clo (.func f) first cap) (hoy:okT y=true) (hos:xs.all okT=true) (hargs:LeBs δ (first++xs.map δ.ev++cap) args) (hdet:r.det=true) (hd:okD δ.n dst=true) (hq:q≠ .held)
  (hK:AOps q P g ops rest Q (δ.putd dst r)):AOps q P g ops (⟨dst,.call {callee:=.value y,args:=xs.toArray,argTypes:=tys},ty,pos,af,none⟩::rest) Q δ:=AOps.callC (TB.none g) hf.toW hy hoy hos hargs hdet hd hq hK
def Acts (P:Program) (v:Value) (w:World) (arg r:AV):Prop:=∃(f:FuncId) (vs us:Array Value),v=.func (.func f) vs us∧(∀vals w,(callFunc f vals).run P w=.ok (.enter f vals) w)∧
 ∀w',Below w.heap.size w w'→∀u,RA (pcx fun _=>True) w' u arg→Calls P f (vs++ #[u]++us) w' fun e w''=>e=.returned r.out∧Below w'.heap.size w' w''
def Ways (P:Program) {α:Type} (v:Value) (A R:α→AV) (l:List α) (w:World):Prop:=∀x∈l,Acts P v w (A x) (R x)
theorem TB.way {α:Type} {v:Value} {A R:α→AV} {l:List α} (h:TB (Ways P v A R l) g) {x:α} (hx:x∈l):TB (fun w=>Acts P v w (A x) (R x)) g:=h.sub fun w hw=>hw x hx
inductive ArgsV (δ:DS) (z:Operand) (v:Value):List Operand→List AV→Prop
 |nil:ArgsV δ z v [] []
 |here {xs:List Operand} {vs:List AV} (hs:ArgsV δ z v xs vs):ArgsV δ z v (z::xs) (.pv (.lit v)::vs)
 |cons {x:Operand} {u:AV} {xs:List Operand} {vs:List AV} (ho:okT x=true) (h:LeB δ (δ.ev x) u) (hs:ArgsV δ z v xs vs):ArgsV δ z v (x::xs) (u::vs)
theorem ArgsV.len {z:Operand} {v:Value} {xs:List Operand} {vs:List AV} (h:ArgsV δ z v xs vs):xs.length=vs.length:=by induction h with|nil=>rfl|here hs ih=>simp [ih]|cons ho h hs ih=>simp [ih]
end Go.Ab
/- Objects that nothing names any more are given up. -/
namespace Go.Ab
open Go Go.RowKit
variable {P:Program} {g:Ghost} {δ:DS} {κ:Nat→Option Nat} {a:Act} {w:World}
def keepO (ks:List Nat):List (Nat×Option Ob)→List (Nat×Option Ob)
 |[]=>[]
 |(i,o)::r=>bif memN i ks then (i,o)::keepO ks r else keepO ks r
theorem kO0 (ks:List Nat):keepO ks []=[]:=rfl
theorem kO1 (ks:List Nat) (i:Nat) (o:Option Ob) (r:List (Nat×Option Ob)):keepO ks ((i,o)::r)=bif memN i ks then (i,o)::keepO ks r else keepO ks r:=rfl
def DS.gc (δ:DS) (ks:List Nat):DS:={δ with objs:=keepO ks δ.objs}
theorem gcE (ks:List Nat) (n x:Nat) (e:List (Nat×AV)) (o:List (Nat×Option Ob)):DS.gc ⟨n,e,o,x⟩ ks=⟨n,e,keepO ks o,x⟩:=rfl
theorem ob_gc {ks:List Nat} {i:Nat}:(δ.gc ks).ob i=if memN i ks=true then δ.ob i else none:=by
 show lookOb (keepO ks δ.objs) i=if memN i ks=true then lookOb δ.objs i else none
 generalize δ.objs=l
 induction l with
 |nil=>simp [keepO,lookOb]
 |cons p r ih=>
  obtain⟨j,o⟩:=p
  rw[kO1]
  cases hm:memN j ks with
  |true=>
   rw[cond_true,lookOb_cons,lookOb_cons,ih]
   by_cases e:j=i
   ·subst e;rw[if_pos rfl,if_pos rfl,if_pos hm]
   ·rw[if_neg e,if_neg e]
  |false=>
   rw[cond_false,ih,lookOb_cons]
   by_cases e:j=i
   ·subst e;rw[hm];simp
   ·rw[if_neg e]
def obIds (lr lb:Nat→Bool):Ob→Bool
 |.row|.it _ _|.loop _ _ _ _ _ _|.lit _ _=>true
 |.box cs=>AV.idsL lr lb cs
 |.mp l=>l.all fun p=>p.2.ids lr lb
 |.mpl l _ v=>(l.all fun p=>p.2.ids lr lb) && v.ids lr lb
def gcB (ks:List Nat) (δ:DS):Bool:=
 (δ.env.all fun p=>p.2.ids (δ.gc ks).lrB (δ.gc ks).lbB) && ((δ.gc ks).objs.all fun p=>match p.2 with|some o=>obIds (δ.gc ks).lrB (δ.gc ks).lbB o|none=>true)
theorem look_ids {lr lb:Nat→Bool}:∀{l:List (Nat×AV)},(l.all fun p=>p.2.ids lr lb)=true→∀j,(look l j).ids lr lb=true
 |[],_,j=>rfl
 |(i,v)::r,h,j=>by
  simp only[List.all_cons,Bool.and_eq_true] at h
  rw[look_cons]
  by_cases e:i=j
  ·rw[if_pos e];exact h.1
  ·rw[if_neg e];exact look_ids h.2 j
theorem lookOb_ids {lr lb:Nat→Bool}:∀{l:List (Nat×Option Ob)},(l.all fun p=>match p.2 with|some o=>obIds lr lb o|none=>true)=true→∀i o,lookOb l i=some o→obIds lr lb o=true
 |[],_,i,o,h=>by simp [lookOb] at h
 |(j,x)::r,h,i,o,ho=>by
  simp only[List.all_cons,Bool.and_eq_true] at h
  rw[lookOb_cons] at ho
  by_cases e:j=i
  ·rw[if_pos e] at ho;subst ho;exact h.1
  ·rw[if_neg e] at ho;exact lookOb_ids h.2 i o ho
theorem WVs.refl {δ δ':DS}:∀{cs:List AV},AV.idsL δ'.lrB δ'.lbB cs=true→WVs δ δ' cs cs
 |[],_=>trivial
 |c::cs,h=>by
  simp only[AV.idsL,Bool.and_eq_true] at h
  exact⟨.eq rfl h.1,WVs.refl h.2⟩
theorem Weak.gc (ks:List Nat) (hb:gcB ks δ=true):Weak g δ (δ.gc ks):=by
 intro κ a w r
 unfold gcB at hb
 rw[Bool.and_eq_true] at hb
 refine weakF (g:=g) (δ:=δ) (δ':=δ.gc ks) rfl (fun j=> .eq rfl (look_ids hb.1 j)) (fun i o h=>?_) (fun i o h=>?_) κ a w r
 ·have h1:=lookOb_ids hb.2 i o h
  have h2:δ.ob i=some o:=by
   rw[ob_gc] at h
   split at h
   ·exact h
   ·cases h
  cases o with
  |row=>exact .row h2
  |box cs=>exact .box cs h2 (WVs.refl h1)
  |mp l=>exact .mp h2 fun p hp=>List.all_eq_true.1 h1 p hp
  |mpl l k v=>
   simp only[obIds,Bool.and_eq_true] at h1
   exact .mpl h2 rfl rfl (fun p hp=>List.all_eq_true.1 h1.1 p hp) (.eq rfl h1.2)
  |it l seen=>exact .it h2
  |lit T vals=>exact .lit h2
  |loop=>exact .loop h2
 ·rw[ob_gc] at h
  split at h
  ·exact r.nx i ⟨o,h⟩
  ·cases h
variable {k:Wt} {late:List Nat} {l:List Oper} {dn:List Nat} {QD:Exit→DS→Prop}
theorem AR.gc (ks:List Nat) (hb:gcB ks δ=true) (h:AR P g k late l QD dn (δ.gc ks)):AR P g k late l QD dn δ:=AR.weakG (fun _ _=>Weak.gc ks hb) h
end Go.Ab
/- Contracts of functions that change objects of their caller's. -/
namespace Go.Ab
open Go Go.RowKit
variable {P:Program} {g:Ghost} {δ:DS} {κ:Nat→Option Nat} {a:Act} {w:World}
variable {ops:Array Oper} {rest:List Oper} {Q:Exit→DS→Prop} {dst:Option Nat} {ty:TypeId} {pos:String} {af:Array Edge}
abbrev XS (objs:List (Nat×Option Ob)) (n:Nat):DS:=⟨0,[],objs,n⟩
abbrev act0:Act:={tmps:= #[],defers:=[]}
def pinL:List (Nat×Option Ob)→List AV
 |[]=>[]
 |(i,some (.box _))::r=> .ptr i 0::pinL r
 |(i,some (.lit _ _))::r=> .ptr i 0::pinL r
 |(i,some (.mp _))::r=> .mapr i::pinL r
 |_::r=>pinL r
structure FnXG (T:World→Prop) (P:Program) (E:Cx→World→Ending→Prop) (f:FuncId) (n0:Nat) (objs0:List (Nat×Option Ob)) (args:List AV) (objs1:List (Nat×Option Ob)):Prop where
 enters:∀vals w,(callFunc f vals).run P w=.ok (.enter f vals) w
 calls:∀(g:Ghost) (κ:Nat→Option Nat) (w:World) (vals:Array Value),g.ro=none→g.wt=none→TB T g→Rel g (XS objs0 n0) κ act0 w→vals.size=args.length→
  (∀(j:Nat) (v:Value) (av:AV),vals[j]? =some v→args[j]? =some av→RA ((XS objs0 n0).cx g κ) w v av)→
  Calls P f vals w fun e w'=>∃κ',E ((XS objs1 n0).cx g κ') w' e∧Rel g (XS objs1 n0) κ' act0 w'∧∀i b,(AV.ptr i 0∈pinL objs0∨AV.mapr i∈pinL objs0)→κ i=some b→κ' i=some b
def ERet (r:AV) (C:Cx) (w:World) (e:Ending):Prop:=∃v,e=.returned v∧RA C w v r
def Pan (t:TypeId) (ch:List PanicEntry):Prop:=∃u:Value,ch=[{v:=.iface t (.agg #[u]),recovered:=false}]∧u.oneCell'=true
def EPan (t:TypeId) (_:Cx) (_:World) (e:Ending):Prop:=∃ch,e=.panicked ch∧Pan t ch
abbrev FnXT (T:World→Prop) (P:Program) (f:FuncId) (n0:Nat) (objs0:List (Nat×Option Ob)) (args:List AV) (objs1:List (Nat×Option Ob)) (r:AV):Prop:=FnXG T P (ERet r) f n0 objs0 args objs1
abbrev FnX (P:Program) (f:FuncId) (n0:Nat) (objs0:List (Nat×Option Ob)) (args:List AV) (objs1:List (Nat×Option Ob)) (r:AV):Prop:=FnXG (fun _=>True) P (ERet r) f n0 objs0 args objs1
abbrev FnD (T:World→Prop) (P:Program) (t:TypeId) (f:FuncId) (n0:Nat) (objs0:List (Nat×Option Ob)) (args:List AV) (objs1:List (Nat×Option Ob)):Prop:=FnXG T P (EPan t) f n0 objs0 args objs1
theorem FnXG.sub {T T':World→Prop} {P:Program} {E:Cx→World→Ending→Prop} {f:FuncId} {n0:Nat} {objs0:List (Nat×Option Ob)} {args:List AV} {objs1:List (Nat×Option Ob)} (h:FnXG T P E f n0 objs0 args objs1) (hT:∀w,T' w→T w):FnXG T' P E f n0 objs0 args objs1:=⟨h.enters,fun g κ w vals h1 h2 h3=>h.calls g κ w vals h1 h2 (h3.sub hT)⟩
def pinB (objs:List (Nat×Option Ob)):List (Nat×Option Ob)→Bool
 |[]=>true
 |(i,some (.box _))::r=>(XS objs 0).lbB i && pinB objs r
 |(i,some (.lit _ _))::r=>(XS objs 0).lbB i && pinB objs r
 |(i,some (.mp _))::r=>(XS objs 0).lbB i && pinB objs r
 |_::r=>pinB objs r
theorem lbB_at {δ:DS} {i:Nat} (h:δ.lbB i=true) {C:Cx} {w:World} (ho:∀i o,δ.ob i=some o→ObIs C w i o):∃b,C.κ i=some b:=by
 obtain⟨o,h1,h2⟩:=lbB_spec h
 have h3:=ho i o h1
 cases o with
 |row=>simp [Ob.isRow] at h2
 |box cs=>obtain⟨b,_,_,h4,_⟩:=h3;exact⟨b,h4⟩
 |lit T vals=>obtain⟨b,h4,_⟩:=h3;exact⟨b,h4⟩
 |mp l=>obtain⟨b,_,_,h4,_⟩:=h3;exact⟨b,h4⟩
 |mpl l k v=>obtain⟨b,_,_,h4,_⟩:=h3;exact⟨b,h4⟩
 |it l seen=>obtain⟨b,h4,_⟩:=h3;exact⟨b,h4⟩
 |loop l tm ps asg body st=>obtain⟨b,_,h4,_⟩:=h3;exact⟨b,h4⟩
theorem pin_vals {objs:List (Nat×Option Ob)} {n:Nat} (ho:∀i o,(XS objs n).ob i=some o→ObIs ((XS objs n).cx g κ) w i o):∀{l:List (Nat×Option Ob)},pinB objs l=true→∃vs:List Value,vs.length=(pinL l).length∧∀(j:Nat) (u:Value) (c:AV),vs[j]? =some u→(pinL l)[j]? =some c→RA ((XS objs n).cx g κ) w u c
 |[],_=>⟨[],rfl,fun j u c h=>by simp at h⟩
 |(i,none)::r,h=>pin_vals ho (l:=r) h
 |(i,some .row)::r,h=>pin_vals ho (l:=r) h
 |(i,some (.mpl _ _ _))::r,h=>pin_vals ho (l:=r) h
 |(i,some (.it _ _))::r,h=>pin_vals ho (l:=r) h
 |(i,some (.loop _ _ _ _ _ _))::r,h=>pin_vals ho (l:=r) h
 |(i,some (.box cs))::r,h=>by
  simp only[pinB,Bool.and_eq_true] at h
  obtain⟨vs,h1,h2⟩:=pin_vals ho h.2
  obtain⟨b,hb⟩:=lbB_at (δ:=XS objs n) h.1 ho
  refine⟨.pointer (some ⟨b,0,none⟩)::vs,by simp [pinL,h1],fun j u c h3 h4=>?_⟩
  cases j with
  |zero=>simp [pinL] at h3 h4;subst h3;subst h4;exact .ptr (lbB_spec (δ:=XS objs n) h.1) hb
  |succ j=>exact h2 j u c (by simpa using h3) (by simpa [pinL] using h4)
 |(i,some (.lit _ _))::r,h=>by
  simp only[pinB,Bool.and_eq_true] at h
  obtain⟨vs,h1,h2⟩:=pin_vals ho h.2
  obtain⟨b,hb⟩:=lbB_at (δ:=XS objs n) h.1 ho
  refine⟨.pointer (some ⟨b,0,none⟩)::vs,by simp [pinL,h1],fun j u c h3 h4=>?_⟩
  cases j with
  |zero=>simp [pinL] at h3 h4;subst h3;subst h4;exact .ptr (lbB_spec (δ:=XS objs n) h.1) hb
  |succ j=>exact h2 j u c (by simpa using h3) (by simpa [pinL] using h4)
 |(i,some (.mp m))::r,h=>by
  simp only[pinB,Bool.and_eq_true] at h
  obtain⟨vs,h1,h2⟩:=pin_vals ho h.2
  obtain⟨b,hb⟩:=lbB_at (δ:=XS objs n) h.1 ho
  refine⟨.map (some b)::vs,by simp [pinL,h1],fun j u c h3 h4=>?_⟩
  cases j with
  |zero=>simp [pinL] at h3 h4;subst h3;subst h4;exact .mapr (lbB_spec (δ:=XS objs n) h.1) hb
  |succ j=>exact h2 j u c (by simpa using h3) (by simpa [pinL] using h4)
abbrev XF (δ:DS) (objs0 objs1:List (Nat×Option Ob)):DS:=⟨δ.n,[(1000,.agg (pinL objs0))],objs1,δ.nx⟩
def EndsX (P:Program) (rs:List ResultVar) (objs0 objs1:List (Nat×Option Ob)) (r:AV):Exit→DS→Prop
 |.normal,δ|.ret,δ=>∃v,Res P δ rs v∧WV δ (XF δ objs0 objs1) v r∧WV δ (XF δ objs0 objs1) (δ.get 1000) (.agg (pinL objs0))∧WObs δ (XF δ objs0 objs1) objs1∧nxB δ.nx objs1=true
 |_,_=>False
def EndsP (t:TypeId) (objs0 objs1:List (Nat×Option Ob)):Exit→DS→Prop
 |.panic ch,δ=>Pan t ch∧WV δ (XF δ objs0 objs1) (δ.get 1000) (.agg (pinL objs0))∧WObs δ (XF δ objs0 objs1) objs1∧nxB δ.nx objs1=true
 |_,_=>False
theorem RA.ptr_inv {C:Cx} {w:World} {u:Value} {i off:Nat} (h:RA C w u (.ptr i off)):∃b,u=.pointer (some ⟨b,off,none⟩)∧C.κ i=some b:=by
 cases h with
 |ptr hl hκ=>exact⟨_,rfl,hκ⟩
theorem RA.mapr_inv {C:Cx} {w:World} {u:Value} {i:Nat} (h:RA C w u (.mapr i)):∃b,u=.map (some b)∧C.κ i=some b:=by
 cases h with
 |mapr hl hκ=>exact⟨_,rfl,hκ⟩
theorem pin_same {C C':Cx} {w w':World} {vs:Array Value} {ps:List AV} (h:RA C w (.agg vs) (.agg ps)) (h':RA C' w' (.agg vs) (.agg ps)) {i b:Nat} (hp:AV.ptr i 0∈ps∨AV.mapr i∈ps) (hb:C.κ i=some b):C'.κ i=some b:=by
 cases h with
 |agg hs h=>
  cases h' with
  |agg hs' h'=>
   rcases hp with hp|hp
   ·obtain⟨j,hj⟩:=List.getElem?_of_mem hp
    have hlt:j<vs.size:=by rw[hs];exact(List.getElem?_eq_some_iff.1 hj).1
    have h1:=h j _ _ (Array.getElem?_eq_getElem hlt) hj
    have h2:=h' j _ _ (Array.getElem?_eq_getElem hlt) hj
    obtain⟨b1,e1,k1⟩:=h1.ptr_inv
    obtain⟨b2,e2,k2⟩:=h2.ptr_inv
    rw[e1] at e2
    cases e2
    rw[k1] at hb
    cases hb
    exact k2
   ·obtain⟨j,hj⟩:=List.getElem?_of_mem hp
    have hlt:j<vs.size:=by rw[hs];exact(List.getElem?_eq_some_iff.1 hj).1
    have h1:=h j _ _ (Array.getElem?_eq_getElem hlt) hj
    have h2:=h' j _ _ (Array.getElem?_eq_getElem hlt) hj
    obtain⟨b1,e1,k1⟩:=h1.mapr_inv
    obtain⟨b2,e2,k2⟩:=h2.mapr_inv
    rw[e1] at e2
    cases e2
    rw[k1] at hb
    cases hb
    exact k2
theorem FnXG.enter {T:World→Prop} {E:Cx→World→Ending→Prop} {Q:Exit→DS→Prop} {f:FuncId} {fn:Func} {c:Code} {n n0:Nat} {objs0 objs1:List (Nat×Option Ob)} {args:List AV} (hf:P.funcs[f]? =some fn) (hb:fn.body=some c) (hn:fn.ntmps=n) (hna:Nat.ble args.length n=true)
  (hna':Nat.ble n HS=true) (he:(fn.name== "runtime.NumGoroutine")=false) (hpin:pinB objs0 objs0=true) (hn1:nxB n0 objs1=true)
  (h:∀g:Ghost,g.ro=none→g.wt=none→TB T g→AW P g c Q ⟨n,enum 0 args++ [(1000,.agg (pinL objs0))],objs0,n0⟩)
  (hQ:∀(g:Ghost) (e:Exit) (δ':DS) (κ':Nat→Option Nat) (a':Act) (w':World) (R:Ending→World→Prop),g.wt=none→g.base=[]→Q e δ'→Rel g δ' κ' a' w'→
   (WV δ' (XF δ' objs0 objs1) (δ'.get 1000) (.agg (pinL objs0))→WObs δ' (XF δ' objs0 objs1) objs1→nxB δ'.nx objs1=true→
    ∀en w2,Rel g δ' κ' {a' with defers:=[]} w2→E ((XF δ' objs0 objs1).cx g (κof δ' κ')) w2 en→R en w2)→bodyPostM Fence.wide 0 P fn R e a' w'):FnXG T P E f n0 objs0 args objs1:=by
 refine⟨fun vals w=>by simp [callFunc,hf,hb];simpa using he,fun g κ w vals hro hwt hTB hrel hs hargs=>?_⟩
 have hle:args.length≤n:=by simpa using hna
 have hnH:n≤HS:=by simpa using hna'
 have hHS:HS=1000:=rfl
 obtain⟨ps,hps,hpv⟩:=pin_vals hrel.obj hpin
 have hbs:g.base=[]:=by
  obtain⟨rs,e,_,_⟩:=hrel.dfr
  exact(List.append_eq_nil_iff.1 e.symm).2
 have hpa:RA ((XS objs0 n0).cx g κ) w (.agg ps.toArray) (.agg (pinL objs0)):=.agg (by simpa using hps) fun j u c h1 h2=>hpv j u c (by simpa using h1) h2
 let g':Ghost:={g with held:=fun _=> .agg ps.toArray}
 let δ0:DS:=⟨n,enum 0 args++ [(1000,.agg (pinL objs0))],objs0,n0⟩
 have happ:∀(l:List AV) (i j:Nat),look (enum i l++ [(1000,AV.agg (pinL objs0))]) j=if i≤j∧j<i+l.length then look (enum i l) j else look [(1000,AV.agg (pinL objs0))] j:=by
  intro l
  induction l with
  |nil=>intro i j;rw[if_neg (by simp)];rfl
  |cons x l ih=>
   intro i j
   show look ((i,x)::(enum (i+1) l++_)) j=_
   rw[look_cons]
   by_cases e:i=j
   ·subst e
    rw[if_pos rfl,if_pos (by simp)]
    show x=look ((i,x)::enum (i+1) l) i
    rw[look_cons,if_pos rfl]
   ·rw[if_neg e,ih]
    simp only[List.length_cons]
    by_cases hj:i+1≤j∧j<i+1+l.length
    ·rw[if_pos hj,if_pos (by omega)]
     show _=look ((i,x)::enum (i+1) l) j
     rw[look_cons,if_neg e]
    ·rw[if_neg hj,if_neg (by omega)]
 have hR:Rel g' δ0 κ {tmps:=vals++Array.replicate (fn.ntmps - vals.size) undef,defers:=[]} w:=
  {n:=by show _=n;simp [hn];omega
   dfr:=by
    obtain⟨rs,e,h1,h2⟩:=hrel.dfr
    have e0:=(List.append_eq_nil_iff.1 e.symm).1
    have e0:rs=[]:=by simpa using e0
    subst e0
    exact⟨[],by show []=_++g.base;rw[hbs];rfl,h1,h2⟩
   env:=fun j=>by
    show RA ((XS objs0 n0).cx g κ) w _ (look (enum 0 args++ [(1000,AV.agg (pinL objs0))]) j)
    rw[happ]
    by_cases hj:j<args.length
    ·rw[if_pos (by omega)]
     have h1:look (enum 0 args) j=args[j]:=look_enum args 0 j _ (Nat.zero_le _) (by simp [hj])
     have h2:g'.val {tmps:=vals++Array.replicate (fn.ntmps - vals.size) undef,defers:=[]} j=vals[j]'(by omega):=by
      unfold Ghost.val
      rw[if_pos (by omega)]
      simp [Array.getD_eq_getD_getElem?,Array.getElem?_append,hs,hj]
     rw[h1,h2]
     exact hargs j _ _ (Array.getElem?_eq_getElem (by omega)) (List.getElem?_eq_getElem hj)
    ·rw[if_neg (by omega),look_cons]
     by_cases e:1000=j
     ·rw[if_pos e]
      have h2:g'.val {tmps:=vals++Array.replicate (fn.ntmps - vals.size) undef,defers:=[]} j=.agg ps.toArray:=by
       unfold Ghost.val
       rw[if_neg (by omega)]
      rw[h2];exact hpa
     ·rw[if_neg e];exact .any _
   obj:=hrel.obj,inj:=hrel.inj,lo:=hrel.lo,nx:=hrel.nx,wt:=hrel.wt,below:=hrel.below,hB:=hrel.hB,N0:=hrel.N0,fr:=hrel.fr
   mkf:=fun d hd=>by cases hd}
 have hw:=h g' hro hwt hTB κ _ w hR
 rw[show g'.ro=none from hro] at hw
 refine callsIn_wide.1 (callsIn_of_wp_marks (n:=0) hf hb trivial (wpIn_mono hw ?_))
 rintro e a' w' ⟨δ',κ',hq,r'⟩
 refine hQ g' e δ' κ' a' w' _ hwt hbs hq r' fun hp ho hx en w2 r2 hE=>?_
 have hg:∀j,(XF δ' objs0 objs1).get j=if 1000=j then .agg (pinL objs0) else .any:=fun j=>look_cons _ _ _ _
 have r3:Rel g' (XF δ' objs0 objs1) (κof δ' κ') {a' with defers:=[]} w2:=weakR (g:=g') (δ:=δ') (δ':=XF δ' objs0 objs1) rfl (fun j=>by
   rw[hg]
   by_cases e:1000=j
   ·subst e;rw[if_pos rfl];exact hp
   ·rw[if_neg e];exact .any _) (fun i o h=>ho.at i o h) (fun i o h=>nxB_spec hx i o h) r2
 refine⟨κof δ' κ',hE,?_,fun i b hpi hb=>?_⟩
 ·exact
   {n:=rfl
    dfr:=by
     obtain⟨rs,e,h1,h2⟩:=r3.dfr
     have e0:=(List.append_eq_nil_iff.1 e.symm).1
     have e0:rs=[]:=by simpa using e0
     subst e0
     exact⟨[],by show []=_++g.base;rw[hbs];rfl,h1,h2⟩
    env:=fun j=> .any _
    obj:=r3.obj,inj:=r3.inj,lo:=r3.lo,nx:=fun i ⟨o,h⟩=>nxB_spec hn1 i o h,wt:=fun k hk=>by rw[hwt] at hk;cases hk
    below:=r3.below,hB:=r3.hB,N0:=r3.N0,fr:=r3.fr,mkf:=fun d hd=>by cases hd}
 ·have h3:=r3.env 1000
  rw[hg,if_pos rfl] at h3
  have h4:g'.val {a' with defers:=[]} 1000=.agg ps.toArray:=by
   unfold Ghost.val
   rw[if_neg (by omega)]
  rw[h4] at h3
  exact pin_same (C:=(XS objs0 n0).cx g κ) (w:=w) hpa h3 hpi hb
theorem FnXT.enter {T:World→Prop} {f:FuncId} {fn:Func} {c:Code} {rs:List ResultVar} {n n0:Nat} {objs0 objs1:List (Nat×Option Ob)} {args:List AV} {r:AV} (hf:P.funcs[f]? =some fn) (hb:fn.body=some c) (hrs:fn.results=rs.toArray) (hn:fn.ntmps=n) (hna:Nat.ble args.length n=true)
  (hna':Nat.ble n HS=true) (he:(fn.name== "runtime.NumGoroutine")=false) (hpin:pinB objs0 objs0=true) (hn1:nxB n0 objs1=true)
  (h:∀g:Ghost,g.ro=none→g.wt=none→TB T g→AW P g c (EndsX P rs objs0 objs1 r) ⟨n,enum 0 args++ [(1000,.agg (pinL objs0))],objs0,n0⟩):FnXT T P f n0 objs0 args objs1 r:=by
 refine FnXG.enter (Q:=EndsX P rs objs0 objs1 r) hf hb hn hna hna' he hpin hn1 h fun g e δ' κ' a' w' R hwt hbs hq r' hR=>?_
 have fin:∀v,Res P δ' rs v→WV δ' (XF δ' objs0 objs1) v r→WV δ' (XF δ' objs0 objs1) (δ'.get 1000) (.agg (pinL objs0))→WObs δ' (XF δ' objs0 objs1) objs1→nxB δ'.nx objs1=true→
   LeavesInM Fence.wide 0 P fn a'.tmps R a'.defers .returning w':=fun v h1 hv hp ho hx=>
  leaves (g:=g) hwt hbs hrs h1 r' fun w2 r2 u hu=>hR hp ho hx _ _ r2 ⟨u,rfl,hu.wv (δ:=δ') (δ':=XF δ' objs0 objs1) r2.hdrop r2.obj hv⟩
 cases e with
 |normal=>obtain⟨v,h1,h2,h3,h4,h5⟩:=hq;exact fin v h1 h2 h3 h4 h5
 |ret=>obtain⟨v,h1,h2,h3,h4,h5⟩:=hq;exact fin v h1 h2 h3 h4 h5
 |_=>exact hq.elim
theorem FnX.enter {f:FuncId} {fn:Func} {c:Code} {rs:List ResultVar} {n n0:Nat} {objs0 objs1:List (Nat×Option Ob)} {args:List AV} {r:AV} (hf:P.funcs[f]? =some fn) (hb:fn.body=some c) (hrs:fn.results=rs.toArray) (hn:fn.ntmps=n) (hna:Nat.ble args.length n=true)
  (hna':Nat.ble n HS=true) (he:(fn.name== "runtime.NumGoroutine")=false) (hpin:pinB objs0 objs0=true) (hn1:nxB n0 objs1=true)
  (h:∀g:Ghost,g.ro=none→g.wt=none→AW P g c (EndsX P rs objs0 objs1 r) ⟨n,enum 0 args++ [(1000,.agg (pinL objs0))],objs0,n0⟩):FnX P f n0 objs0 args objs1 r:=FnXT.enter hf hb hrs hn hna hna' he hpin hn1 fun g h1 h2 _=>h g h1 h2
end Go.Ab
namespace Go.Ab
open Go Go.RowKit
variable {P:Program} {g:Ghost} {δ:DS} {κ:Nat→Option Nat} {a:Act} {w:World}
variable {ops:Array Oper} {rest:List Oper} {Q:Exit→DS→Prop} {dst:Option Nat} {ty:TypeId} {pos:String} {af:Array Edge}
theorem RA.to {C C':Cx} (hB:C'.B=C.B) (hN:∀b,C.N b→C'.N b) {lr lb:Nat→Bool} (hlr:∀i,lr i=true→C'.Lr i∧C'.κ i=C.κ i) (hlb:∀i,lb i=true→C'.Lb i∧C'.κ i=C.κ i) {v:Value} {av:AV} (h:RA C w v av) (hi:av.ids lr lb=true):RA C' w v av:=by
 have hp:∀{v:Value} {p:PV},RP C.N w v p→RP C'.N w v p:=fun h=>h.mono (Nat.le_refl _) fun b _ h2=>⟨hN b h2,rfl⟩
 have ho:∀{v:Value} {i e k els},OwnV C w v i e k els→lr i=true→OwnV C' w v i e k els:=by
  intro v i e k els h hl
  obtain⟨h1,h2,h3,h4,xs,h5,h6,h7⟩:=h
  refine⟨(hlr i hl).1,h2,h3,fun b hb=>(hlr i hl).2.trans (h4 b hb),xs,?_,h6,fun i' j p hp'=>let ⟨u,h8,h9⟩:=h7 i' j p hp';⟨u,h8,hp h9⟩⟩
  rw[hB];exact h5
 induction h with
 |any v=>exact .any v
 |pv h=>exact .pv (hp h)
 |own h=>exact .own (ho h hi)
 |ptr hl hκ=>exact .ptr (hlb _ hi).1 ((hlb _ hi).2.trans hκ)
 |rptr b off vs hN' hb hc hr=>exact .rptr b off vs (hN _ hN') hb hc (fun j p h=>hp (hr j p h))
 |optr hlt h=>exact .optr hlt (ho h hi)
 |agg hs h ih=>exact .agg hs fun j u c h1 h2=>ih j u c h1 h2 (AV.idsL_at _ hi j c h2)
 |tup hs h ih=>exact .tup hs fun j u c h1 h2=>ih j u c h1 h2 (AV.idsL_at _ hi j c h2)
 |clo hs h ht h' ih ih'=>
  simp only[AV.ids,Bool.and_eq_true] at hi
  exact .clo hs (fun j u c h1 h2=>ih j u c h1 h2 (AV.idsL_at _ hi.1 j c h2)) ht (fun j u c h1 h2=>ih' j u c h1 h2 (AV.idsL_at _ hi.2 j c h2))
 |mapr hl hκ=>exact .mapr (hlb _ hi).1 ((hlb _ hi).2.trans hκ)
 |yld hl hκ=>exact .yld (hlb _ hi).1 ((hlb _ hi).2.trans hκ)
theorem ObIs.to {C C':Cx} (hB:C'.B=C.B) (hN:∀b,C.N b→C'.N b) {lr lb:Nat→Bool} (hlr:∀i,lr i=true→C'.Lr i∧C'.κ i=C.κ i) (hlb:∀i,lb i=true→C'.Lb i∧C'.κ i=C.κ i) {i:Nat} {o:Ob} (hκ:C'.κ i=C.κ i) (h:ObIs C w i o) (hi:obIds lr lb o=true):ObIs C' w i o:=by
 cases o with
 |row=>intro b hb;rw[hκ] at hb;exact h b hb
 |lit T vals=>obtain⟨b,h1,h2⟩:=h;exact⟨b,hκ.trans h1,h2⟩
 |box cs=>
  obtain⟨b,c,e,h1,h2,h3,h4⟩:=h
  exact⟨b,c,e,hκ.trans h1,h2,h3,fun j u av h5 h6=>⟨(h4 j u av h5 h6).1.to hB hN hlr hlb (AV.idsL_at _ hi j av h6),(h4 j u av h5 h6).2⟩⟩
 |mp l=>
  obtain⟨b,es,clock,h1,h2,h3,h4⟩:=h
  exact⟨b,es,clock,hκ.trans h1,h2,⟨h3.1,fun j e p h5 h6=>⟨(h3.2 j e p h5 h6).1,(h3.2 j e p h5 h6).2.to hB hN hlr hlb (List.all_eq_true.1 hi p (List.mem_of_getElem? h6))⟩⟩,h4⟩
 |mpl l k v=>
  obtain⟨b,es,clock,h1,h2,h3,h4⟩:=h
  simp only[obIds,Bool.and_eq_true] at hi
  exact⟨b,es,clock,hκ.trans h1,h2,h3.last (fun u p hp h=>h.to hB hN hlr hlb (List.all_eq_true.1 hi.1 p hp)) (fun u h=>h.to hB hN hlr hlb hi.2),h4⟩
 |it l seen=>
  obtain⟨b,h1,h2⟩:=h
  exact⟨b,hκ.trans h1,h2.mono (Nat.le_refl _) (fun b _ h=>⟨hN b h,rfl⟩) rfl⟩
 |loop l tm ps asg body st=>
  obtain⟨b,lr',h1,h2⟩:=h
  exact⟨b,lr',hκ.trans h1,h2⟩
def kindB:List (Nat×Option Ob)→List (Nat×Option Ob)→Bool
 |[],[]=>true
 |(i,some .row)::r,(j,some .row)::r'=>Nat.beq i j && kindB r r'
 |(i,some (.box _))::r,(j,some (.box _))::r'=>Nat.beq i j && kindB r r'
 |(i,some (.lit _ _))::r,(j,some (.box _))::r'=>Nat.beq i j && kindB r r'
 |(i,some (.mp _))::r,(j,some (.mp _))::r'=>Nat.beq i j && kindB r r'
 |_,_=>false
inductive Kind (l0 l1:List (Nat×Option Ob)) (i:Nat):Prop
 |none (h0:lookOb l0 i=.none) (h1:lookOb l1 i=.none)
 |row (h0:lookOb l0 i=some .row) (h1:lookOb l1 i=some .row)
 |box (c d:List AV) (h0:lookOb l0 i=some (.box c)) (h1:lookOb l1 i=some (.box d)) (hp:AV.ptr i 0∈pinL l0)
 |lit (T:TypeId) (vals:Array Value) (d:List AV) (h0:lookOb l0 i=some (.lit T vals)) (h1:lookOb l1 i=some (.box d)) (hp:AV.ptr i 0∈pinL l0)
 |mp (c d:List (Value×AV)) (h0:lookOb l0 i=some (.mp c)) (h1:lookOb l1 i=some (.mp d)) (hp:AV.mapr i∈pinL l0)
theorem Kind.skip {j:Nat} {o o':Option Ob} {r r':List (Nat×Option Ob)} {i:Nat} (h:Kind r r' i) (hne:¬j=i):Kind ((j,o)::r) ((j,o')::r') i:=by
 have e0:∀(o:Option Ob) (r:List (Nat×Option Ob)),lookOb ((j,o)::r) i=lookOb r i:=fun o r=>by rw[lookOb_cons,if_neg hne]
 have hp:∀{c:AV},c∈pinL r→c∈pinL ((j,o)::r):=fun {c} h=>by
  rcases o with _|o
  ·exact h
  ·cases o<;>simp only[pinL]<;>first|exact h|exact List.mem_cons_of_mem _ h
 cases h with
 |none h0 h1=>exact .none ((e0 _ _).trans h0) ((e0 _ _).trans h1)
 |row h0 h1=>exact .row ((e0 _ _).trans h0) ((e0 _ _).trans h1)
 |box c d h0 h1 h2=>exact .box c d ((e0 _ _).trans h0) ((e0 _ _).trans h1) (hp h2)
 |lit T vals d h0 h1 h2=>exact .lit T vals d ((e0 _ _).trans h0) ((e0 _ _).trans h1) (hp h2)
 |mp c d h0 h1 h2=>exact .mp c d ((e0 _ _).trans h0) ((e0 _ _).trans h1) (hp h2)
theorem kindB_at:∀{l0 l1:List (Nat×Option Ob)},kindB l0 l1=true→∀i,Kind l0 l1 i
 |[],[],_,i=> .none rfl rfl
 |(j,some .row)::r,(j',some .row)::r',h,i=>by
  simp only[kindB,Bool.and_eq_true] at h
  obtain rfl:=Nat.eq_of_beq_eq_true h.1
  by_cases e:j=i
  ·subst e;exact .row (by rw[lookOb_cons,if_pos rfl]) (by rw[lookOb_cons,if_pos rfl])
  ·exact(kindB_at h.2 i).skip e
 |(j,some (.box c))::r,(j',some (.box d))::r',h,i=>by
  simp only[kindB,Bool.and_eq_true] at h
  obtain rfl:=Nat.eq_of_beq_eq_true h.1
  by_cases e:j=i
  ·subst e;exact .box c d (by rw[lookOb_cons,if_pos rfl]) (by rw[lookOb_cons,if_pos rfl]) (by simp [pinL])
  ·exact(kindB_at h.2 i).skip e
 |(j,some (.lit T c))::r,(j',some (.box d))::r',h,i=>by
  simp only[kindB,Bool.and_eq_true] at h
  obtain rfl:=Nat.eq_of_beq_eq_true h.1
  by_cases e:j=i
  ·subst e;exact .lit T c d (by rw[lookOb_cons,if_pos rfl]) (by rw[lookOb_cons,if_pos rfl]) (by simp [pinL])
  ·exact(kindB_at h.2 i).skip e
 |(j,some (.mp c))::r,(j',some (.mp d))::r',h,i=>by
  simp only[kindB,Bool.and_eq_true] at h
  obtain rfl:=Nat.eq_of_beq_eq_true h.1
  by_cases e:j=i
  ·subst e;exact .mp c d (by rw[lookOb_cons,if_pos rfl]) (by rw[lookOb_cons,if_pos rfl]) (by simp [pinL])
  ·exact(kindB_at h.2 i).skip e
def rowsL:List (Nat×Option Ob)→List Nat
 |[]=>[]
 |(i,some .row)::r=>i::rowsL r
 |_::r=>rowsL r
theorem rowsL_mem:∀{l:List (Nat×Option Ob)} {i:Nat},lookOb l i=some .row→memN i (rowsL l)=true
 |[],i,h=>by simp [lookOb] at h
 |(j,o)::r,i,h=>by
  rw[lookOb_cons] at h
  have hm:∀(b:Bool),(bif b then true else memN i (rowsL r))=true∨memN i (rowsL r)=false:=fun b=>by cases b<;>cases memN i (rowsL r)<;>simp
  by_cases e:j=i
  ·rw[if_pos e] at h
   subst h
   subst e
   simp only[rowsL,memN1,beq_self_eq_true,cond_true]
  ·rw[if_neg e] at h
   have:=rowsL_mem h
   rcases o with _|o
   ·exact this
   ·cases o<;>simp only[rowsL,memN1]<;>first|exact this|(rw[this];cases (i==j)<;>rfl)
def killSF (rs:List Nat):AV→AV
 |.own j e k els=>bif memN j rs then .any else .own j e k els
 |.optr j e k els n=>bif memN j rs then .any else .optr j e k els n
 |v=>v
def AV.killS (rs:List Nat):AV→AV:=AV.mp (killSF rs)
def Cx.lessS (C:Cx) (rs:List Nat):Cx:={C with Lr:=fun j=>C.Lr j∧memN j rs=false}
theorem RA.killS {C C':Cx} {rs:List Nat} {w w':World} (G:Goes (C.lessS rs) w C' w') {v:Value} {av:AV} (h:RA C w v av):RA C' w' v (av.killS rs):=by
 have hless:∀{v j e k els},OwnV C w v j e k els→memN j rs=false→OwnV (C.lessS rs) w v j e k els:=fun h hj=>⟨⟨h.live,hj⟩,h.lim,h.hk,h.blk,h.row⟩
 unfold AV.killS
 induction h with
 |any v=>exact .any v
 |pv h=>exact .pv (G.rp h)
 | @own v j e k els h=>
  simp only[AV.mp,killSF]
  cases hj:memN j rs with
  |true=>exact .any _
  |false=>exact .own (G.ownV (hless h hj))
 |ptr hl hκ=>exact .ptr (G.Lb _ hl).1 ((G.Lb _ hl).2.trans hκ)
 |rptr b off vs hN hb hc hr=>exact G.ra (C:=C.lessS rs) (.rptr b off vs hN hb hc hr)
 | @optr j e k els n b cap hn h=>
  simp only[AV.mp,killSF]
  cases hj:memN j rs with
  |true=>exact .any _
  |false=>exact .optr hn (G.ownV (hless h hj))
 | @agg vs cs hs h ih=>
  simp only[AV.mp,AV.mpL_eq]
  refine .agg (by simpa using hs) fun j u c h1 h2=>?_
  simp only[List.getElem?_map,Option.map_eq_some_iff] at h2
  obtain⟨c',h2,rfl⟩:=h2
  exact ih j u c' h1 h2
 | @tup vs cs hs h ih=>
  simp only[AV.mp,AV.mpL_eq]
  refine .tup (by simpa using hs) fun j u c h1 h2=>?_
  simp only[List.getElem?_map,Option.map_eq_some_iff] at h2
  obtain⟨c',h2,rfl⟩:=h2
  exact ih j u c' h1 h2
 | @clo fn vs us cs ds hs h ht h' ih ih'=>
  simp only[AV.mp,AV.mpL_eq]
  refine .clo (by simpa using hs) (fun j u c h1 h2=>?_) (by simpa using ht) (fun j u c h1 h2=>?_)
  ·simp only[List.getElem?_map,Option.map_eq_some_iff] at h2
   obtain⟨c',h2,rfl⟩:=h2
   exact ih j u c' h1 h2
  ·simp only[List.getElem?_map,Option.map_eq_some_iff] at h2
   obtain⟨c',h2,rfl⟩:=h2
   exact ih' j u c' h1 h2
 |mapr hl hκ=>exact .mapr (G.Lb _ hl).1 ((G.Lb _ hl).2.trans hκ)
 |yld hl hκ=>exact .yld (G.Lb _ hl).1 ((G.Lb _ hl).2.trans hκ)
theorem RA.lessS {C:Cx} {rs:List Nat} {w:World} {v:Value} {av:AV} (h:RA C w v av) (hn:av.noOwn=true):RA (C.lessS rs) w v av:=by
 cases h with
 |any v=>exact .any v
 |pv h=>exact .pv h
 |own h=>simp [AV.noOwn] at hn
 |ptr hl hκ=>exact .ptr hl hκ
 |rptr b off vs hN hb hc hr=>exact .rptr b off vs hN hb hc hr
 |optr hi h=>simp [AV.noOwn] at hn
 |agg hs h=>simp [AV.noOwn] at hn
 |tup hs h=>simp [AV.noOwn] at hn
 |clo hs h ht h'=>simp [AV.noOwn] at hn
 |mapr hl hκ=>exact .mapr hl hκ
 |yld hl hκ=>exact .yld hl hκ
def SubO (δ:DS):List (Nat×Option Ob)→Prop
 |[]=>True
 |(i,o)::r=>δ.ob i=o∧SubO δ r
theorem SubO.at {δ:DS}:∀{l:List (Nat×Option Ob)},SubO δ l→∀i o,lookOb l i=some o→δ.ob i=some o
 |[],_,i,o,h=>by simp [lookOb] at h
 |(j,x)::r,hs,i,o,h=>by
  rw[lookOb_cons] at h
  by_cases e:j=i
  ·rw[if_pos e] at h;subst e;rw[hs.1];exact h
  ·rw[if_neg e] at h;exact hs.2.at i o h
inductive LeX (lr lb:Nat→Bool):AV→AV→Prop
 |any (c:AV):LeX lr lb c .any
 |eq {c d:AV} (h:c=d) (hi:d.ids lr lb=true):LeX lr lb c d
 |nil (k:Nat):LeX lr lb (.pv (.lit (.slice none 0 0))) (.pv (.slice k []))
inductive LeXs (lr lb:Nat→Bool):List AV→List AV→Prop
 |nil:LeXs lr lb [] []
 |cons {c d:AV} {cs ds:List AV} (h:LeX lr lb c d) (hs:LeXs lr lb cs ds):LeXs lr lb (c::cs) (d::ds)
theorem LeXs.len {lr lb:Nat→Bool} {cs ds:List AV} (h:LeXs lr lb cs ds):cs.length=ds.length:=by induction h with|nil=>rfl|cons h hs ih=>simp [ih]
theorem LeXs.at {lr lb:Nat→Bool} {cs ds:List AV} (h:LeXs lr lb cs ds):∀(j:Nat) (c d:AV),cs[j]? =some c→ds[j]? =some d→LeX lr lb c d:=by
 induction h with
 |nil=>intro j c d h1;simp at h1
 |cons h hs ih=>
  intro j c d h1 h2
  cases j with
  |zero=>simp at h1 h2;subst h1;subst h2;exact h
  |succ j=>exact ih j c d (by simpa using h1) (by simpa using h2)
def DS.afterX (δ:DS) (objs0 objs1:List (Nat×Option Ob)):DS:={(δ.mapV (AV.killS (rowsL objs0))) with objs:=objs1++(δ.mapV (AV.killS (rowsL objs0))).objs}
theorem look_app:∀{l l':List (Nat×Option Ob)} {i:Nat},(∀p∈l,p.2.isSome=true)→lookOb (l++l') i=match lookOb l i with|some o=>some o|none=>lookOb l' i
 |[],l',i,_=>rfl
 |(j,o)::r,l',i,h=>by
  rw[List.cons_append,lookOb_cons,lookOb_cons]
  by_cases e:j=i
  ·rw[if_pos e,if_pos e]
   have:=h (j,o) (by simp)
   cases o with
   |none=>simp at this
   |some o=>rfl
  ·rw[if_neg e,if_neg e];exact look_app fun p hp=>h p (by simp [hp])
theorem kindB_some:∀{l0 l1:List (Nat×Option Ob)},kindB l0 l1=true→∀p∈l1,p.2.isSome=true
 |[],[],_,p,hp=>by simp at hp
 |(j,some .row)::r,(j',some .row)::r',h,p,hp=>by
  simp only[kindB,Bool.and_eq_true] at h
  rcases List.mem_cons.1 hp with rfl|hp
  ·rfl
  ·exact kindB_some h.2 p hp
 |(j,some (.box c))::r,(j',some (.box d))::r',h,p,hp=>by
  simp only[kindB,Bool.and_eq_true] at h
  rcases List.mem_cons.1 hp with rfl|hp
  ·rfl
  ·exact kindB_some h.2 p hp
 |(j,some (.lit T c))::r,(j',some (.box d))::r',h,p,hp=>by
  simp only[kindB,Bool.and_eq_true] at h
  rcases List.mem_cons.1 hp with rfl|hp
  ·rfl
  ·exact kindB_some h.2 p hp
 |(j,some (.mp c))::r,(j',some (.mp d))::r',h,p,hp=>by
  simp only[kindB,Bool.and_eq_true] at h
  rcases List.mem_cons.1 hp with rfl|hp
  ·rfl
  ·exact kindB_some h.2 p hp
theorem killS_any (rs:List Nat):AV.killS rs .any=.any:=rfl
end Go.Ab
/- Callees that rewrite a row of numbers in place:Go's slices.Sort,slices.Compact. -/
namespace Go.Ab
open Go Go.RowKit
variable {P:Program} {g:Ghost} {δ:DS} {κ:Nat→Option Nat} {a:Act} {w:World}
def nI (z:Int):List PV:=[.lit (.int .i64 z)]
structure RowC (P:Program) (f:FuncId) (out:List Int→List Int) (ret:Option (List Int→Nat)):Prop where
 enters:∀vals w,(callFunc f vals).run P w=.ok (.enter f vals) w
 len:∀zs,(out zs).length=zs.length
 retle:∀r,ret=some r→∀zs,r zs≤zs.length
 calls:∀(b cap:Nat) (zs:List Int) (w:World),Sort.Holds (Value.int .i64) w b 0 zs.toArray→b<w.heap.size→zs.length≤140737488355328→zs.length≤cap→
  Calls P f #[.slice (some ⟨b,0,none⟩) zs.length cap] w fun e w'=>e=.returned (match ret with|none=> .tuple #[]|some r=> .slice (some ⟨b,0,none⟩) (r zs) cap)∧
   ∃n os,w'=Sort.grow (Sort.putRow (Value.int .i64) (Sort.ahead w n) b 0 (out zs).toArray) os
 nil:∀w,Calls P f #[.slice none 0 0] w fun e w'=>e=.returned (match ret with|none=> .tuple #[]|some _=> .slice none 0 0)∧Below w.heap.size w w'
theorem putRow_heap {w:World} {b n:Nat} {c:Array Value} {e:TypeId} {d:Array Int} {os:Array Obj} (h:w.heap[b]? =some (.cells c e (0,0))):
  (Sort.grow (Sort.putRow (Value.int .i64) (Sort.ahead w n) b 0 d) os).heap[b]? =some (.cells (Sort.putCells (Value.int .i64) 0 d c) e (0,0)):=by
 have hb:b<w.heap.size:=(Array.getElem?_eq_some_iff.1 h).1
 unfold Sort.grow Sort.putRow Sort.mapBlock Sort.ahead
 simp only
 rw[Array.getElem?_append_left (by simpa using hb),Array.getElem?_modify,if_pos rfl,h]
 rfl
theorem putRow_other {w:World} {b n k:Nat} {d:Array Int} {os:Array Obj} (hk:k<w.heap.size) (hne:b≠k):
  (Sort.grow (Sort.putRow (Value.int .i64) (Sort.ahead w n) b 0 d) os).heap[k]? =w.heap[k]?:=by
 unfold Sort.grow Sort.putRow Sort.mapBlock Sort.ahead
 simp only
 rw[Array.getElem?_append_left (by simpa using hk),Array.getElem?_modify,if_neg hne]
theorem putRow_turns (w:World) (b n:Nat) (d:Array Int) (os:Array Obj):Turns w (Sort.grow (Sort.putRow (Value.int .i64) (Sort.ahead w n) b 0 d) os) (some b):=
 ⟨rfl,rfl,rfl,by simp [Sort.grow,Sort.putRow,Sort.mapBlock,Sort.ahead],fun k hk hne=>putRow_other hk (fun e=>hne (by rw[e]))⟩
theorem putCells_take {c:Array Value} {d:List Int} (hc:d.length≤c.size):(Sort.putCells (Value.int .i64) 0 d.toArray c).toList.take d.length=d.map (Value.int .i64):=by
 apply List.ext_getElem
 ·simp [Sort.putCells];omega
 ·intro j h1 h2
  have hj:j<d.length:=by simpa using h2
  simp [Sort.putCells,hj]
theorem xs_nums {w:World} {N:Nat→Prop} {xs:List Value} {zs:List Int} (hl:xs.length=zs.length*1) (hx:∀i' j p,cellAt (zs.map nI) i' j=some p→∃u,xs[i'*1+j]? =some u∧RP N w u p):xs=zs.map (Value.int .i64):=by
 apply List.ext_getElem
 ·simp [hl]
 ·intro j h1 h2
  have hj:j<zs.length:=by simpa using h2
  obtain⟨u,hu,hr⟩:=hx j 0 (.lit (.int .i64 zs[j])) (by simp [cellAt,hj,nI])
  cases hr
  rw[Nat.mul_one,Nat.add_zero,List.getElem?_eq_getElem h1] at hu
  simpa using hu
def putAll (δ:DS) (v:AV):List Nat→DS
 |[]=>δ
 |t::ts=>(putAll δ v ts).put t v
theorem putAll_n (δ:DS) (v:AV) (ts:List Nat):(putAll δ v ts).n=δ.n:=by induction ts with|nil=>rfl|cons t ts ih=>exact ih
def allAt (δ:DS) (v:AV):List Nat→Prop
 |[]=>True
 |t::ts=>δ.get t=v∧allAt δ v ts
theorem cx_put (δ:DS) (t:Nat) (v:AV):(δ.put t v).cx g κ=δ.cx g κ:=rfl
theorem cx_putAll (δ:DS) (v:AV):∀ts,(putAll δ v ts).cx g κ=δ.cx g κ
 |[]=>rfl
 |t::ts=>by show((putAll δ v ts).put t v).cx g κ=_;rw[cx_put,cx_putAll δ v ts]
theorem Rel.learn (r:Rel g δ κ a w) {t:Nat} {v:AV} (h:RA (δ.cx g κ) w (g.val a t) v):Rel g (δ.put t v) κ a w where
 n:=r.n
 dfr:=r.dfr
 env:=fun j=>by
  rw[get_put]
  by_cases e:t=j
  ·subst e;rw[if_pos rfl];exact h
  ·rw[if_neg e];exact r.env j
 obj:=r.obj
 inj:=r.inj
 lo:=r.lo
 nx:=r.nx
 wt:=r.wt
 below:=r.below
 hB:=r.hB
 N0:=r.N0
 fr:=r.fr
 mkf:=r.mkf
theorem Rel.learnAll (r:Rel g δ κ a w) {v:AV}:∀ts:List Nat,(∀t∈ts,RA (δ.cx g κ) w (g.val a t) v)→Rel g (putAll δ v ts) κ a w
 |[],_=>r
 |t::ts,h=>(Rel.learnAll r ts fun t ht=>h t (by simp [ht])).learn (by rw[cx_putAll];exact h t (by simp))
theorem allAt_mem {δ:DS} {v:AV}:∀{ts:List Nat},allAt δ v ts→∀t∈ts,δ.get t=v
 |[],_,t,h=>by simp at h
 |x::ts,h,t,ht=>by
  rcases List.mem_cons.1 ht with rfl|ht
  ·exact h.1
  ·exact allAt_mem h.2 t ht
variable {ops:Array Oper} {rest:List Oper} {Q:Exit→DS→Prop} {dst:Option Nat} {ty:TypeId} {pos:String} {af:Array Edge} {gd:Option (Tmp×Bool)}
def rowRet (i:Nat) (e:TypeId) (zs os:List Int):Option (List Int→Nat)→AV
 |none=> .tup []
 |some r=> .own i e 1 ((os.take (r zs)).map nI)
theorem OwnV.nums {C:Cx} {w:World} {v:Value} {i:Nat} {e:TypeId} {zs:List Int} (h:OwnV C w v i e 1 (zs.map nI)):
  (v=.slice none 0 0∧zs=[])∨∃b cap c,v=.slice (some ⟨b,0,none⟩) zs.length cap∧C.κ i=some b∧C.B≤b∧w.heap[b]? =some (.cells c e (0,0))∧zs.length≤cap∧cap≤maxLen∧c.size=cap∧c.toList.take zs.length=zs.map (Value.int .i64):=by
 obtain⟨xs,⟨hl,hown⟩,_,hx⟩:=h.row
 rw[List.length_map] at hl hown
 have hxs:=xs_nums hl hx
 rcases hown with ⟨rfl,h0⟩|⟨b,cap,c,rfl,h1,h2,h3,h4,h5,h6⟩
 ·exact .inl ⟨rfl,List.eq_nil_of_length_eq_zero h0⟩
 ·refine .inr ⟨b,cap,c,rfl,h.blk b rfl,h1,h2,h3,h4,by omega,?_⟩
  rw[← hxs,← h6,Nat.mul_one]
theorem OwnV.mkNums {C:Cx} {w:World} {i b cap:Nat} {e:TypeId} {zs:List Int} {c:Array Value} (hl:C.Lr i) (hκ:C.κ i=some b) (hB:C.B≤b) (h2:w.heap[b]? =some (.cells c e (0,0))) (h3:zs.length≤cap) (h4:cap≤maxLen) (h5:c.size=cap)
  (h6:c.toList.take zs.length=zs.map (Value.int .i64)) (hlim:zs.length≤140737488355328):OwnV C w (.slice (some ⟨b,0,none⟩) zs.length cap) i e 1 (zs.map nI):=by
 refine⟨hl,by simpa using hlim,fun c hc=>?_,fun b' hb'=>?_,zs.map (Value.int .i64),⟨by simp,.inr ⟨b,cap,c,by simp,hB,h2,by simpa using h3,h4,by omega,by simpa using h6⟩⟩,fun u hu=>?_,fun i' j p hp=>?_⟩
 ·obtain⟨z,_,rfl⟩:=List.mem_map.1 hc;rfl
 ·cases hb';exact hκ
 ·obtain⟨z,_,rfl⟩:=List.mem_map.1 hu;rfl
 ·unfold cellAt at hp
  rw[List.getElem?_map] at hp
  cases hz:zs[i']? with
  |none=>rw[hz] at hp;simp at hp
  |some z=>
   rw[hz] at hp
   cases j with
   |zero=>
    simp [nI] at hp
    subst hp
    exact⟨.int .i64 z,by rw[Nat.mul_one,Nat.add_zero,List.getElem?_map,hz];rfl,.lit _⟩
   |succ j=>simp [nI] at hp
theorem Eff.rowC {f:FuncId} {x:Operand} {tys:Array TypeId} {out:List Int→List Int} {ret:Option (List Int→Nat)} (hf:RowC P f out ret) (ts:List Nat) {i:Nat} {e:TypeId} {zs:List Int} (hx:δ.ev x=.own i e 1 (zs.map nI)) (hts:allAt δ (.own i e 1 (zs.map nI)) ts) (hr:δ.ob i=some .row)
  (ho:okT x=true) (hd:okD δ.n dst=true):
  Eff P g ⟨dst,.call {callee:=.value (.func f),args:= #[x],argTypes:=tys},ty,pos,af,none⟩ δ ((putAll (δ.mapV (AV.kill i)) (.own i e 1 ((out zs).map nI)) ts).putd dst (rowRet i e zs (out zs) ret)):=by
 intro κ a w r
 right
 have hxv:=(r.ra hx ho).own_inv
 have hrun:=run_call (dst:=dst) (ty:=ty) (pos:=pos) (af:=af) (xs:= #[x]) (tys:=tys) (ρ:=a.eval) (x:=.func f) (f:=f) rfl hf.enters w
 have hlim:zs.length≤140737488355328:=by simpa using hxv.lim
 refine⟨f, #[a.eval x],by simpa using hrun,?_⟩
 have hnn:∀ts,okD (putAll (δ.mapV (AV.kill i)) (.own i e 1 ((out zs).map nI)) ts).n dst=true:=fun ts=>by rw[putAll_n];exact hd
 have hlr:∀κ',((δ.mapV (AV.kill i)).cx g κ').Lr i:=fun κ'=>by
  show(δ.mapV (AV.kill i)).ob i=some .row
  rw[ob_mapV,hr];rfl
 have hoth:∀t∈ts,OwnV (δ.cx g κ) w (g.val a t) i e 1 (zs.map nI):=fun t ht=>by
  have:=r.env t
  rw[allAt_mem hts t ht] at this
  exact this.own_inv
 have hnil:∀{w':World},OwnV ((δ.mapV (AV.kill i)).cx g κ) w' (.slice none 0 0) i e 1 (([]:List Int).map nI):=fun {w'}=>
  ⟨hlr κ,(by simp),(fun c hc=>by simp at hc),(fun b hb=>by cases hb),⟨[],⟨by simp,.inl ⟨rfl,rfl⟩⟩,(fun u hu=>by simp at hu),(fun i' j p hp=>by simp [cellAt] at hp)⟩⟩
 rcases hxv.nums with ⟨hv,rfl⟩|⟨b,cap,c,hv,hκ,hB,hb,hcap,hmax,hcs,htk⟩
 ·
  rw[hv]
  refine(hf.nil w).mono fun e' w' ⟨he,hbel⟩=>?_
  have r1:=r.ext hbel
  have e0:out []=[]:=List.eq_nil_of_length_eq_zero (by rw[hf.len];rfl)
  have rk:Rel g (δ.mapV (AV.kill i)) κ a w':=by
   refine(r1.row hr (κ':=κ) (fun _ _=>rfl) ⟨rfl,rfl,rfl,Nat.le_refl _,fun _ _ _=>rfl⟩ (fun b hb'=>?_) (AV.kill i) rfl (fun G v av h=>h.kill G)).1
   obtain⟨c,e',h1⟩:=r1.obj i .row hr b hb'
   exact⟨.inl hb',(Array.getElem?_eq_some_iff.1 h1).1,c,e',h1⟩
  have ra:Rel g (putAll (δ.mapV (AV.kill i)) (.own i e 1 ((out []).map nI)) ts) κ a w':=by
   refine rk.learnAll ts fun t ht=> .own ?_
   have h1:=r1.env t
   rw[allAt_mem hts t ht] at h1
   rw[e0]
   rcases h1.own_inv.nums with ⟨h2,_⟩|⟨b,cap,c,h2,hκ,hB,hb,hcap,hmax,hcs,htk⟩
   ·rw[h2];exact hnil
   ·rw[h2];exact OwnV.mkNums (hlr κ) hκ hB hb hcap hmax hcs htk (by simp)
  refine⟨_,κ,he,ra.putd (okD_spec (hnn ts)) ?_⟩
  cases ret with
  |none=>exact .tup rfl (fun j u c h=>by simp at h)
  |some rr=>
   show RA _ _ _ (.own i e 1 (((out []).take (rr [])).map nI))
   rw[e0,cx_putAll]
   exact .own (by simpa using hnil)
 ·rw[hv]
  have hκ0:κ i=some b:=hκ
  have hblt:b<w.heap.size:=(Array.getElem?_eq_some_iff.1 hb).1
  have hold:Sort.Holds (Value.int .i64) w b 0 zs.toArray:=by
   intro j hj
   have hj':j<zs.length:=by simpa using hj
   refine⟨?_,by rw[Nat.zero_add];exact frozen_of hb _⟩
   rw[Nat.zero_add,cell_of hb]
   have h1:(c.toList.take zs.length)[j]? =(zs.map (Value.int .i64))[j]?:=by rw[htk]
   rw[List.getElem?_take,if_pos hj',Array.getElem?_toList,List.getElem?_map,List.getElem?_eq_getElem hj'] at h1
   rw[h1]
   simp [hj']
  refine(hf.calls b cap zs w hold hblt hlim hcap).mono fun e' w' ⟨he,n,os,hw'⟩=>?_
  have hh:w'.heap[b]? =some (.cells (Sort.putCells (Value.int .i64) 0 (out zs).toArray c) e (0,0)):=by rw[hw'];exact putRow_heap hb
  have hsz:(Sort.putCells (Value.int .i64) 0 (out zs).toArray c).size=c.size:=by simp [Sort.putCells]
  have htk2:=putCells_take (c:=c) (d:=out zs) (by rw[hf.len];omega)
  have rk:Rel g (δ.mapV (AV.kill i)) κ a w':=by
   refine(r.row hr (κ':=κ) (fun _ _=>rfl) (by rw[hκ0,hw'];exact putRow_turns _ _ _ _ _) (fun b' hb'=>?_) (AV.kill i) rfl (fun G v av h=>h.kill G)).1
   obtain rfl:b=b':=Option.some.inj (hκ.symm.trans hb')
   exact⟨.inl hκ,(Array.getElem?_eq_some_iff.1 hh).1,_,_,hh⟩
  have ra:Rel g (putAll (δ.mapV (AV.kill i)) (.own i e 1 ((out zs).map nI)) ts) κ a w':=by
   refine rk.learnAll ts fun t ht=> .own ?_
   rcases(hoth t ht).nums with ⟨h2,h0⟩|⟨b',cap',c',h2,hκ',hB',hb',hcap',hmax',hcs',htk'⟩
   ·have e0:out zs=[]:=List.eq_nil_of_length_eq_zero (by rw[hf.len,h0];rfl)
    rw[h2,e0];exact hnil
   ·obtain rfl:b=b':=Option.some.inj (hκ.symm.trans hκ')
    rw[hb] at hb'
    simp only[Option.some.injEq,Obj.cells.injEq] at hb'
    obtain⟨rfl,_⟩:=hb'
    rw[h2,← hf.len zs]
    exact OwnV.mkNums (hlr κ) hκ hB hh (by rw[hf.len];exact hcap') hmax' (by omega) htk2 (by rw[hf.len];exact hlim)
  refine⟨_,κ,he,ra.putd (okD_spec (hnn ts)) ?_⟩
  rw[cx_putAll]
  cases ret with
  |none=>exact .tup rfl (fun j u c h=>by simp at h)
  |some rr=>
   have hle:=hf.retle rr rfl zs
   have hl2:((out zs).take (rr zs)).length=rr zs:=by rw[List.length_take,hf.len];omega
   show RA _ _ (.slice (some ⟨b,0,none⟩) (rr zs) cap) (.own i e 1 (((out zs).take (rr zs)).map nI))
   refine .own ?_
   have:=OwnV.mkNums (C:=(δ.mapV (AV.kill i)).cx g κ) (w:=w') (i:=i) (b:=b) (cap:=cap) (e:=e) (zs:=(out zs).take (rr zs)) (hlr κ) hκ hB hh (by omega) hmax (by omega)
    (by rw[hl2,List.map_take,← htk2,List.take_take,hf.len,Nat.min_eq_left (by omega)]) (by omega)
   rwa [hl2] at this
theorem AOps.rowC {f:FuncId} {x:Operand} {tys:Array TypeId} {out:List Int→List Int} {ret:Option (List Int→Nat)} (hf:RowC P f out ret) (ts:List Nat) {i:Nat} {e:TypeId} {zs:List Int} (hx:δ.ev x=.own i e 1 (zs.map nI)) (hts:allAt δ (.own i e 1 (zs.map nI)) ts) (hr:δ.ob i=some .row)
  (ho:okT x=true) (hd:okD δ.n dst=true) (hK:AOps .plain P g ops rest Q ((putAll (δ.mapV (AV.kill i)) (.own i e 1 ((out zs).map nI)) ts).putd dst (rowRet i e zs (out zs) ret))):
  AOps .plain P g ops (⟨dst,.call {callee:=.value (.func f),args:= #[x],argTypes:=tys},ty,pos,af,none⟩::rest) Q δ:=
 AOps.eff rfl rfl (Eff.rowC hf ts hx hts hr ho hd) hK
theorem enters_of {f:FuncId} {fn:Func} {c:Code} (hf:P.funcs[f]? =some fn) (hb:fn.body=some c) (he:(fn.name== "runtime.NumGoroutine")=false):∀vals w,(callFunc f vals).run P w=.ok (.enter f vals) w:=fun vals w=>by
 simp [callFunc,hf,hb];simpa using he
end Go.Ab
/- A call by a contract over objects. -/
namespace Go.Ab
open Go Go.RowKit
variable {P:Program} {g:Ghost} {δ:DS} {κ:Nat→Option Nat} {a:Act} {w:World}
variable {ops:Array Oper} {rest:List Oper} {Q:Exit→DS→Prop} {dst:Option Nat} {ty:TypeId} {pos:String} {af:Array Edge}
def hiE:List (Nat×AV)→List (Nat×AV)
 |[]=>[]
 |(i,v)::r=>bif Nat.ble HS i then (i,v)::hiE r else hiE r
abbrev DS.hi (δ:DS):DS:=⟨δ.n,hiE δ.env,δ.objs,δ.nx⟩
theorem look_hiE:∀(e:List (Nat×AV)) (j:Nat),look (hiE e) j=if j<HS then .any else look e j
 |[],j=>by simp [hiE,look]
 |(i,v)::r,j=>by
  have ih:=look_hiE r j
  rw[look_cons]
  unfold hiE
  cases hb:Nat.ble HS i with
  |true=>
   have hb':HS≤i:=by simpa using hb
   rw[cond_true,look_cons,ih]
   by_cases e:i=j
   ·subst e;rw[if_pos rfl,if_pos rfl,if_neg (by omega)]
   ·rw[if_neg e,if_neg e]
  |false=>
   have hb':¬HS≤i:=by
    intro h
    have h':Nat.ble HS i=true:=by simpa using h
    rw[hb] at h'
    cases h'
   rw[cond_false,ih]
   by_cases e:i=j
   ·subst e;rw[if_pos (by omega),if_pos (by omega)]
   ·rw[if_neg e]
theorem Rel.hi (r:Rel g δ κ a w):Rel g δ.hi κ a w:=
 {n:=r.n,dfr:=r.dfr
  env:=fun j=>by
   have:=r.env j
   show RA (δ.cx g κ) w _ (look (hiE δ.env) j)
   rw[look_hiE]
   by_cases h:j<HS
   ·rw[if_pos h];exact .any _
   ·rw[if_neg h];exact this
  obj:=r.obj,inj:=r.inj,lo:=r.lo,nx:=r.nx,wt:=r.wt,below:=r.below,hB:=r.hB,N0:=r.N0,fr:=r.fr,mkf:=r.mkf}
theorem lift_hi {e:Exit} (h:Q e δ.hi) (r:Rel g δ κ a w):lift g Q e a w:=⟨δ.hi,κ,h,r.hi⟩
namespace Nf
theorem hi (n:Nat) (e:List (Nat×AV)) (o:List (Nat×Option Ob)) (x:Nat):DS.hi ⟨n,e,o,x⟩=⟨n,hiE e,o,x⟩:=rfl
theorem hi0:hiE []=[]:=rfl
theorem hi1 (i:Nat) (v:AV) (r:List (Nat×AV)):hiE ((i,v)::r)=bif Nat.ble 1000 i then (i,v)::hiE r else hiE r:=rfl
end Nf
def SelfO (lr lb:Nat→Bool):List (Nat×Option Ob)→Prop
 |[]=>True
 |(_,none)::r=>SelfO lr lb r
 |(_,some o)::r=>obIds lr lb o=true∧SelfO lr lb r
theorem SelfO.at {lr lb:Nat→Bool}:∀{l:List (Nat×Option Ob)},SelfO lr lb l→∀i o,lookOb l i=some o→obIds lr lb o=true
 |[],_,i,o,h=>by simp [lookOb] at h
 |(j,none)::r,hs,i,o,h=>by
  rw[lookOb_cons] at h
  by_cases e:j=i
  ·rw[if_pos e] at h;cases h
  ·rw[if_neg e] at h;exact SelfO.at (l:=r) hs i o h
 |(j,some x)::r,hs,i,o,h=>by
  rw[lookOb_cons] at h
  by_cases e:j=i
  ·rw[if_pos e] at h;cases h;exact hs.1
  ·rw[if_neg e] at h;exact SelfO.at (l:=r) hs.2 i o h
theorem obIds_set {lr lb:Nat→Bool} {l:List Int}:obIds lr lb (.mp (mpI (setI l)))=true:=by
 unfold obIds
 rw[List.all_eq_true]
 intro p hp
 unfold mpI setI at hp
 obtain⟨q,hq,rfl⟩:=List.mem_map.1 hp
 obtain⟨x,_,rfl⟩:=List.mem_map.1 hq
 rfl
open Classical in
noncomputable def κX (objs0:List (Nat×Option Ob)) (κ κ':Nat→Option Nat):Nat→Option Nat:=fun i=>if (lookOb objs0 i).isSome=true then κ' i else κ i
theorem afterX_ob {objs0 objs1:List (Nat×Option Ob)} (hk:kindB objs0 objs1=true) (i:Nat):(δ.afterX objs0 objs1).ob i=match lookOb objs1 i with|some o=>some o|none=>(δ.ob i).map (Ob.mp' (AV.killS (rowsL objs0))):=by
 show lookOb (objs1++(δ.mapV (AV.killS (rowsL objs0))).objs) i=_
 rw[look_app (kindB_some hk)]
 cases h:lookOb objs1 i with
 |some o=>rfl
 |none=>exact ob_mapV _ _ _
theorem callX_core {T:World→Prop} {E:Cx→World→Ending→Prop} {y:Operand} {f:FuncId} {xs:List Operand} {tys:Array TypeId} {first cap args:List AV} {n0:Nat} {objs0 objs1:List (Nat×Option Ob)} (hwt:g.wt=none) (hTB:TB T g) (hf:FnXG T P E f n0 objs0 args objs1) (hy:δ.ev y=.clo (.func f) first cap) (hoy:okT y=true) (hos:xs.all okT=true)
  (hsub:SubO δ objs0) (hargs:LeXs (XS objs0 n0).lrB (XS objs0 n0).lbB (first++xs.map δ.ev++cap) args) (hk:kindB objs0 objs1=true) (hn0:nxB n0 objs0=true) (hself:SelfO (XS objs0 n0).lrB (XS objs0 n0).lbB objs0)
  (hself1:SelfO (XS objs1 n0).lrB (XS objs1 n0).lbB objs1)
  (hKr:∀(κ:Nat→Option Nat) (a:Act) (w':World) (C:Cx) (v:Value),Rel g (δ.afterX objs0 objs1) κ a w'→E C w' (.returned v)→(∀r,RA C w' v r→r.ids (XS objs1 n0).lrB (XS objs1 n0).lbB=true→RA ((δ.afterX objs0 objs1).cx g κ) w' v r)→wpListIn (Fw g.ro) 0 P ops (lift g Q) rest (a.put dst v) w')
  (hKp:∀(C:Cx) (w':World) (ch:List PanicEntry),E C w' (.panicked ch)→Q (.panic ch) (δ.afterX objs0 objs1).hi∨Q (.panic ch) (δ.afterX objs0 objs1)) (hno:∀(C:Cx) (w':World),¬E C w' .outgrown):
  AOps .plain P g ops (⟨dst,.call {callee:=.value y,args:=xs.toArray,argTypes:=tys},ty,pos,af,none⟩::rest) Q δ:=by
 intro κ a w r0
 have hra:=r0.ra hy hoy
 generalize hv:a.eval y=v at hra
 cases hra with
 | @clo _ vs us _ _ hs hvs ht hus=>
  obtain⟨ms,hm1,hm2,hm3⟩:=r0.dfr
  have hlive0:∀i,(XS objs0 n0).live i→δ.live i:=fun i ⟨o,h⟩=>⟨o,hsub.at i o h⟩
  let g':Ghost:={B:=g.B,w0:=w,N0:=fun b=>(δ.cx g κ).N b∨(∃i,(XS objs0 n0).live i∧κ i=some b)∨w.heap.size≤b,held:=fun _=>undef,ro:=none,mks:=ms++g.mks,wt:=none,fr:=fun b=>b<w.heap.size∧∀i,(XS objs0 n0).live i→κ i≠some b,w1:=w}
  have hN1:∀b,(δ.cx g κ).N b→((XS objs0 n0).cx g' κ).N b:=fun b h=>⟨.inl h,fun i hi=>h.2 i (hlive0 i hi)⟩
  have hlr1:∀i,(XS objs0 n0).lrB i=true→((XS objs0 n0).cx g' κ).Lr i∧((XS objs0 n0).cx g' κ).κ i=(δ.cx g κ).κ i:=fun i h=>⟨lrB_spec (δ:=XS objs0 n0) h,rfl⟩
  have hlb1:∀i,(XS objs0 n0).lbB i=true→((XS objs0 n0).cx g' κ).Lb i∧((XS objs0 n0).cx g' κ).κ i=(δ.cx g κ).κ i:=fun i h=>⟨lbB_spec (δ:=XS objs0 n0) h,rfl⟩
  have hrel:Rel g' (XS objs0 n0) κ act0 w:=
   {n:=rfl,dfr:=⟨[],rfl,hm2,hm3⟩,env:=fun j=> .any _
    obj:=fun i o h=>ObIs.to (C:=δ.cx g κ) (C':=(XS objs0 n0).cx g' κ) rfl hN1 hlr1 hlb1 rfl (r0.obj i o (hsub.at i o h)) (hself.at i o h)
    inj:=fun i j b h1 h2=>r0.inj i j b (hlive0 i h1) (hlive0 j h2)
    lo:=fun i b h1=>r0.lo i b (hlive0 i h1)
    nx:=fun i ⟨o,h⟩=>nxB_spec hn0 i o h
    wt:=fun k hk=>by cases hk
    below:=Below.refl _ _,hB:=r0.hB
    N0:=fun b hb hf=>by
     by_cases h1:w.heap.size≤b
     ·exact .inr (.inr h1)
     ·by_cases h2:∃i,(XS objs0 n0).live i∧κ i=some b
      ·exact .inr (.inl h2)
      ·exact absurd ⟨by omega,fun i hi e=>h2 ⟨i,hi,e⟩⟩ hf
    fr:=fun b hb=>⟨hb.1,rfl,hb.2⟩
    mkf:=fun d hd=>by cases hd}
  have hl:=hargs.len
  simp only[List.length_append,List.length_map] at hl
  have hvals:∀(j:Nat) (v:Value) (av:AV),(vs++xs.toArray.map a.eval++us)[j]? =some v→args[j]? =some av→RA ((XS objs0 n0).cx g' κ) w v av:=by
   intro j v av h1 h2
   have hjl:j<(first++xs.map δ.ev++cap).length:=by rw[hargs.len];exact(List.getElem?_eq_some_iff.1 h2).1
   have h3:=List.getElem?_eq_getElem hjl
   have hle:=hargs.at j _ av h3 h2
   generalize (first++xs.map δ.ev++cap)[j]=c at h3 hle
   have hc:RA (δ.cx g κ) w v c:=by
    by_cases hj:j<first.length+xs.length
    ·rw[List.getElem?_append_left (by simp;omega)] at h3
     rw[Array.getElem?_append_left (by simp;omega)] at h1
     by_cases hj1:j<first.length
     ·rw[List.getElem?_append_left hj1] at h3
      rw[Array.getElem?_append_left (by omega)] at h1
      exact hvs j v c h1 h3
     ·rw[List.getElem?_append_right (by omega)] at h3
      rw[Array.getElem?_append_right (by omega),hs] at h1
      simp only[List.map_toArray,List.getElem?_toArray,List.getElem?_map,Option.map_eq_some_iff] at h1 h3
      obtain⟨y,h5,rfl⟩:=h1
      obtain⟨y',h4,rfl⟩:=h3
      rw[h5] at h4;cases h4
      exact r0.evc y (okT_spec ((List.all_eq_true.1 hos) y (List.mem_of_getElem? h5)))
    ·rw[List.getElem?_append_right (by simp;omega)] at h3
     rw[Array.getElem?_append_right (by simp;omega)] at h1
     have e1:(vs++xs.toArray.map a.eval).size=(first++xs.map δ.ev).length:=by simp;omega
     rw[e1] at h1
     exact hus _ v c h1 h3
   cases hle with
   |any=>exact .any _
   |eq e hi=>subst e;exact RA.to (C:=δ.cx g κ) (C':=(XS objs0 n0).cx g' κ) rfl hN1 hlr1 hlb1 hc hi
   |nil k=>rw[hc.lit];exact .pv (rp_nil k)
  show wpListIn _ _ P ops _ (_::rest) a w
  refine wpl_plain rfl rfl fun K hK'=>?_
  unfold Oper.wpF
  rw[run_callv hv hf.enters,Oper.uponIn_enter]
  refine⟨fun h=>by simp at h,(callsIn_any (hf.calls g' κ w _ rfl rfl (fun w' hb=>hTB w' (r0.below.trans hb)) hrel (by simp;omega) hvals)).mono ?_⟩
  rintro e w' ⟨κ',hE,r1,hpin⟩
  obtain⟨F,hF⟩:∃F,F=AV.killS (rowsL objs0):=⟨_,rfl⟩
  have hob:=fun i=>afterX_ob (δ:=δ) hk i
  have hkind:=kindB_at hk
  have hsz:w.heap.size≤w'.heap.size:=r1.below.size
  have hfr:∀b,b<w.heap.size→(∀i,(XS objs0 n0).live i→κ i≠some b)→w'.heap[b]? =w.heap[b]?∧∀i,(XS objs1 n0).live i→κ' i≠some b:=fun b h1 h2=>(r1.fr b ⟨h1,h2⟩).2
  -- in and out
  have hin:∀i,(lookOb objs0 i).isSome=true→(XS objs0 n0).live i∧(XS objs1 n0).live i∧κX objs0 κ κ' i=κ' i:=fun i h=>by
   refine⟨Option.isSome_iff_exists.1 h,?_,if_pos h⟩
   cases hkind i with
   |none h0 _=>rw[h0] at h;cases h
   |row _ h1=>exact⟨_,h1⟩
   |box c d _ h1 _=>exact⟨_,h1⟩
   |lit T c d _ h1 _=>exact⟨_,h1⟩
   |mp c d _ h1 _=>exact⟨_,h1⟩
  have hout:∀i,¬(lookOb objs0 i).isSome=true→lookOb objs1 i=.none∧κX objs0 κ κ' i=κ i:=fun i h=>by
   refine⟨?_,if_neg h⟩
   cases hkind i with
   |none _ h1=>exact h1
   |row h0 _=>rw[h0] at h;exact absurd rfl h
   |box c d h0 _ _=>rw[h0] at h;exact absurd rfl h
   |lit T c d h0 _ _=>rw[h0] at h;exact absurd rfl h
   |mp c d h0 _ _=>rw[h0] at h;exact absurd rfl h
  have hob1:∀i,(lookOb objs0 i).isSome=true→(δ.afterX objs0 objs1).ob i=lookOb objs1 i:=fun i h=>by
   obtain⟨_,⟨o,h1⟩,_⟩:=hin i h
   rw[hob i]
   have h1:lookOb objs1 i=some o:=h1
   rw[h1]
  have hob2:∀i,¬(lookOb objs0 i).isSome=true→(δ.afterX objs0 objs1).ob i=(δ.ob i).map (Ob.mp' F):=fun i h=>by rw[hob i,(hout i h).1,hF]
  have hlive1:∀i,(lookOb objs0 i).isSome=true→δ.live i:=fun i h=>hlive0 i (hin i h).1
  have hlive2:∀i,¬(lookOb objs0 i).isSome=true→(δ.afterX objs0 objs1).live i→δ.live i:=fun i h ⟨o,ho⟩=>by
   rw[hob2 i h] at ho
   obtain⟨o',h1,_⟩:=Option.map_eq_some_iff.1 ho
   exact⟨o',h1⟩
  have hnd:∀i,¬(lookOb objs0 i).isSome=true→∀j,(XS objs0 n0).live j→j≠i:=fun i h j ⟨o,ho⟩ e=>by
   subst e
   have ho:lookOb objs0 j=some o:=ho
   rw[ho] at h
   exact h rfl
  have hold:∀i b,¬(lookOb objs0 i).isSome=true→δ.live i→κ i=some b→b<w.heap.size∧∀j,(XS objs0 n0).live j→κ j≠some b:=fun i b h hl hb=>
   ⟨(r0.lo i b hl hb).2,fun j hj e=>hnd i h j hj (r0.inj j i b (hlive0 j hj) hl e hb)⟩
  have hoN:∀b,(δ.cx g κ).N b→∀j,(XS objs0 n0).live j→κ j≠some b:=fun b h j hj=>h.2 j (hlive0 j hj)
  have hNN:∀b,b<w.heap.size→(δ.cx g κ).N b→((δ.afterX objs0 objs1).cx g (κX objs0 κ κ')).N b:=fun b h1 h2=>by
   refine⟨h2.1,fun i hi e=>?_⟩
   by_cases h:(lookOb objs0 i).isSome=true
   ·rw[(hin i h).2.2] at e
    exact(hfr b h1 (hoN b h2)).2 i (hin i h).2.1 e
   ·rw[(hout i h).2] at e
    exact h2.2 i (hlive2 i h hi) e
  have hsame:∀i b,(AV.ptr i 0∈pinL objs0∨AV.mapr i∈pinL objs0)→κ i=some b→κX objs0 κ κ' i=κ i:=fun i b hp hb=>by
   by_cases h:(lookOb objs0 i).isSome=true
   ·rw[(hin i h).2.2,hpin i b hp hb,hb]
   ·exact(hout i h).2
  have G:Goes ((δ.cx g κ).lessS (rowsL objs0)) w ((δ.afterX objs0 objs1).cx g (κX objs0 κ κ')) w':=
   {B:=rfl,size:=hsz
    N:=fun b h1 h2=>⟨hNN b h1 h2,(hfr b h1 (hoN b h2)).1⟩
    Lr:=fun i hi=>by
     have hl:δ.ob i=some .row:=hi.1
     have h:¬(lookOb objs0 i).isSome=true:=fun h=>by
      obtain⟨⟨o,ho⟩,_,_⟩:=hin i h
      have h1:=hsub.at i o ho
      rw[hl] at h1
      cases h1
      have:=rowsL_mem (l:=objs0) ho
      rw[hi.2] at this
      cases this
     refine⟨?_,(hout i h).2,fun b hb=>?_⟩
     ·show(δ.afterX objs0 objs1).ob i=_
      rw[hob2 i h,hl];rfl
     ·obtain⟨h1,h2⟩:=hold i b h ⟨_,hl⟩ hb
      exact(hfr b h1 h2).1
    Lb:=fun i hi=>by
     obtain⟨o,h1,h2⟩:=hi
     by_cases h:(lookOb objs0 i).isSome=true
     ·have h3:=hob1 i h
      cases hkind i with
      |none h0 _=>rw[h0] at h;cases h
      |row h0 _=>
       have:=hsub.at i _ h0
       rw[h1] at this
       cases this
       simp [Ob.isRow] at h2
      |box c d h0 h4 hp=>
       obtain⟨b,_,_,h5,_⟩:=r0.obj i _ (hsub.at i _ h0)
       exact⟨⟨_,h3.trans h4,rfl⟩,hsame i b (.inl hp) h5⟩
      |lit T c d h0 h4 hp=>
       obtain⟨b,h5,_⟩:=r0.obj i _ (hsub.at i _ h0)
       exact⟨⟨_,h3.trans h4,rfl⟩,hsame i b (.inl hp) h5⟩
      |mp c d h0 h4 hp=>
       obtain⟨b,_,_,h5,_⟩:=r0.obj i _ (hsub.at i _ h0)
       exact⟨⟨_,h3.trans h4,rfl⟩,hsame i b (.inr hp) h5⟩
     ·refine⟨⟨_,by rw[hob2 i h,h1];rfl,?_⟩,(hout i h).2⟩
      cases o<;>first|rfl|(simp [Ob.isRow] at h2)}
  have HF:∀{u:Value} {av:AV},RA (δ.cx g κ) w u av→RA ((δ.afterX objs0 objs1).cx g (κX objs0 κ κ')) w' u (F av):=fun h=>by rw[hF];exact h.killS G
  have hN2:∀b,((XS objs1 n0).cx g' κ').N b→((δ.afterX objs0 objs1).cx g (κX objs0 κ κ')).N b:=fun b h=>by
   obtain⟨h1,h2⟩:=h
   have hkk:∀i,(δ.afterX objs0 objs1).live i→κX objs0 κ κ' i=some b→¬(lookOb objs0 i).isSome=true∧δ.live i∧κ i=some b:=fun i hi e=>by
    by_cases h:(lookOb objs0 i).isSome=true
    ·rw[(hin i h).2.2] at e
     exact absurd e (h2 i (hin i h).2.1)
    ·rw[(hout i h).2] at e
     exact⟨h,hlive2 i h hi,e⟩
   rcases h1 with h1|⟨j,hj,hjb⟩|h1
   ·exact⟨h1.1,fun i hi e=>let ⟨_,h3,h4⟩:=hkk i hi e;h1.2 i h3 h4⟩
   ·refine⟨r0.N0own (hlive0 j hj) hjb,fun i hi e=>?_⟩
    obtain⟨h3,h4,h5⟩:=hkk i hi e
    exact hnd i h3 j hj (r0.inj j i b (hlive0 j hj) h4 hjb h5)
   ·refine⟨r0.N0new h1,fun i hi e=>?_⟩
    obtain⟨_,h4,h5⟩:=hkk i hi e
    have:=(r0.lo i b h4 h5).2
    omega
  have hlr2:∀i,(XS objs1 n0).lrB i=true→((δ.afterX objs0 objs1).cx g (κX objs0 κ κ')).Lr i∧((δ.afterX objs0 objs1).cx g (κX objs0 κ κ')).κ i=((XS objs1 n0).cx g' κ').κ i:=fun i h=>by
   have h1:lookOb objs1 i=some .row:=lrB_spec (δ:=XS objs1 n0) h
   have h2:(lookOb objs0 i).isSome=true:=by
    cases hkind i with
    |none _ h0=>rw[h0] at h1;cases h1
    |row h0 _=>rw[h0];rfl
    |box c d h0 _ _=>rw[h0];rfl
    |lit T c d h0 _ _=>rw[h0];rfl
    |mp c d h0 _ _=>rw[h0];rfl
   exact⟨(hob1 i h2).trans h1,(hin i h2).2.2⟩
  have hlb2:∀i,(XS objs1 n0).lbB i=true→((δ.afterX objs0 objs1).cx g (κX objs0 κ κ')).Lb i∧((δ.afterX objs0 objs1).cx g (κX objs0 κ κ')).κ i=((XS objs1 n0).cx g' κ').κ i:=fun i h=>by
   obtain⟨o,h1,h3⟩:=lbB_spec (δ:=XS objs1 n0) h
   have h1:lookOb objs1 i=some o:=h1
   have h2:(lookOb objs0 i).isSome=true:=by
    cases hkind i with
    |none _ h0=>rw[h0] at h1;cases h1
    |row h0 _=>rw[h0];rfl
    |box c d h0 _ _=>rw[h0];rfl
    |lit T c d h0 _ _=>rw[h0];rfl
    |mp c d h0 _ _=>rw[h0];rfl
   exact⟨⟨o,(hob1 i h2).trans h1,h3⟩,(hin i h2).2.2⟩
  have hR:Rel g (δ.afterX objs0 objs1) (κX objs0 κ κ') a w':=
   {n:=r0.n
    dfr:=by
     obtain⟨rs,_,_,k3⟩:=r1.dfr
     exact⟨ms,hm1,hm2,fun k hk=>k3 k (List.mem_append.2 (.inr hk))⟩
    env:=fun j=>by
     have:(δ.afterX objs0 objs1).get j=F (δ.get j):=by rw[hF];exact get_mapV _ (killS_any _) δ j
     rw[this];exact HF (r0.env j)
    obj:=fun i o h=>by
     by_cases hi:(lookOb objs0 i).isSome=true
     ·rw[hob1 i hi] at h
      exact ObIs.to (C:=(XS objs1 n0).cx g' κ') (C':=(δ.afterX objs0 objs1).cx g (κX objs0 κ κ')) rfl hN2 hlr2 hlb2 (hin i hi).2.2 (r1.obj i o h) (hself1.at i o h)
     ·rw[hob2 i hi] at h
      obtain⟨o',ho',rfl⟩:=Option.map_eq_some_iff.1 h
      have h0:=r0.obj i o' ho'
      have hκi:=(hout i hi).2
      have hbl:∀b,κ i=some b→w'.heap[b]? =w.heap[b]?:=fun b hb=>let ⟨h1,h2⟩:=hold i b hi ⟨_,ho'⟩ hb;(hfr b h1 h2).1
      cases o' with
      |row=>
       intro b hb
       have hb':κ i=some b:=by rw[← hκi];exact hb
       obtain⟨c,e,h1⟩:=h0 b hb'
       exact⟨c,e,(hbl b hb').trans h1⟩
      |lit T vals=>obtain⟨b,h1,h2⟩:=h0;exact⟨b,hκi.trans h1,(hbl b h1).trans h2⟩
      |box cs=>
       obtain⟨b,c,e,h1,h2,h3,h4⟩:=h0
       refine⟨b,c,e,hκi.trans h1,(hbl b h1).trans h2,by simpa using h3,fun k u av h5 h6=>?_⟩
       simp only[List.getElem?_map,Option.map_eq_some_iff] at h6
       obtain⟨av',h6,rfl⟩:=h6
       exact⟨HF (h4 k u av' h5 h6).1,(h4 k u av' h5 h6).2⟩
      |mp l=>
       obtain⟨b,es,clock,h1,h2,h3,h4⟩:=h0
       exact⟨b,es,clock,hκi.trans h1,(hbl b h1).trans h2,⟨h3.1,fun k e p h5 h6=>⟨(h3.2 k e p h5 h6).1,G.ra ((h3.2 k e p h5 h6).2.lessS (h4.2 p (List.mem_of_getElem? h6)))⟩⟩,h4⟩
      |mpl l kk v=>
       obtain⟨b,es,clock,h1,h2,h3,h4⟩:=h0
       exact⟨b,es,clock,hκi.trans h1,(hbl b h1).trans h2,h3.last (fun u p hp h=>G.ra (h.lessS (h4.2 p hp))) (fun u h=>HF h),h4⟩
      |it l seen=>
       obtain⟨b,h1,h2⟩:=h0
       exact⟨b,hκi.trans h1,h2.mono G.size G.N (hbl b h1)⟩
      |loop l tm ps asg body st=>
       obtain⟨b,lr,h1,h2,h3⟩:=h0
       exact⟨b,lr,hκi.trans h1,(hbl b h1).trans h2,h3⟩
    inj:=fun i j b h1 h2 h3 h4=>by
     by_cases hi:(lookOb objs0 i).isSome=true
     ·rw[(hin i hi).2.2] at h3
      by_cases hj:(lookOb objs0 j).isSome=true
      ·rw[(hin j hj).2.2] at h4
       exact r1.inj i j b (hin i hi).2.1 (hin j hj).2.1 h3 h4
      ·rw[(hout j hj).2] at h4
       obtain⟨k1,k2⟩:=hold j b hj (hlive2 j hj h2) h4
       exact absurd h3 ((hfr b k1 k2).2 i (hin i hi).2.1)
     ·rw[(hout i hi).2] at h3
      by_cases hj:(lookOb objs0 j).isSome=true
      ·rw[(hin j hj).2.2] at h4
       obtain⟨k1,k2⟩:=hold i b hi (hlive2 i hi h1) h3
       exact absurd h4 ((hfr b k1 k2).2 j (hin j hj).2.1)
      ·rw[(hout j hj).2] at h4
       exact r0.inj i j b (hlive2 i hi h1) (hlive2 j hj h2) h3 h4
    lo:=fun i b h1 h2=>by
     by_cases hi:(lookOb objs0 i).isSome=true
     ·rw[(hin i hi).2.2] at h2
      exact r1.lo i b (hin i hi).2.1 h2
     ·rw[(hout i hi).2] at h2
      have:=r0.lo i b (hlive2 i hi h1) h2
      exact⟨this.1,Nat.lt_of_lt_of_le this.2 hsz⟩
    nx:=fun i h=>by
     by_cases hi:(lookOb objs0 i).isSome=true
     ·exact r0.nx i (hlive1 i hi)
     ·exact r0.nx i (hlive2 i hi h)
    wt:=fun k hk=>by rw[hwt] at hk;cases hk
    below:=r0.below.trans r1.below
    hB:=r1.hB
    N0:=r0.N0
    fr:=fun b hb=>by
     obtain⟨h1,h2,h3⟩:=r0.fr b hb
     have hlt:=r0.fr.old hb
     have h4:=hfr b hlt fun i hi=>h3 i (hlive0 i hi)
     refine⟨h1,h4.1.trans h2,fun i hi e=>?_⟩
     by_cases hii:(lookOb objs0 i).isSome=true
     ·rw[(hin i hii).2.2] at e
      exact h4.2 i (hin i hii).2.1 e
     ·rw[(hout i hii).2] at e
      exact h3 i (hlive2 i hii hi) e
    mkf:=r0.mkf}
  cases e with
  |returned v=>exact hK' _ _ (hKr _ _ _ _ v hR hE fun r hvr hr=>RA.to (C:=(XS objs1 n0).cx g' κ') (C':=(δ.afterX objs0 objs1).cx g (κX objs0 κ κ')) rfl hN2 hlr2 hlb2 hvr hr)
  |panicked ch=>
           rcases hKp _ _ ch hE with h|h;·exact lift_hi h hR
           ·exact⟨_,_,h,hR⟩
  |outgrown=>exact absurd hE (hno _ _)
theorem AOps.callXT {T:World→Prop} {y:Operand} {f:FuncId} {xs:List Operand} {tys:Array TypeId} {first cap args:List AV} {r:AV} {n0:Nat} {objs0 objs1:List (Nat×Option Ob)} (hwt:g.wt=none) (hTB:TB T g) (hf:FnXT T P f n0 objs0 args objs1 r) (hy:δ.ev y=.clo (.func f) first cap) (hoy:okT y=true) (hos:xs.all okT=true)
  (hsub:SubO δ objs0) (hargs:LeXs (XS objs0 n0).lrB (XS objs0 n0).lbB (first++xs.map δ.ev++cap) args) (hk:kindB objs0 objs1=true) (hn0:nxB n0 objs0=true) (hself:SelfO (XS objs0 n0).lrB (XS objs0 n0).lbB objs0)
  (hself1:SelfO (XS objs1 n0).lrB (XS objs1 n0).lbB objs1) (hr:r.ids (XS objs1 n0).lrB (XS objs1 n0).lbB=true) (hd:okD δ.n dst=true)
  (hK:AOps .plain P g ops rest Q ((δ.afterX objs0 objs1).putd dst r)):
  AOps .plain P g ops (⟨dst,.call {callee:=.value y,args:=xs.toArray,argTypes:=tys},ty,pos,af,none⟩::rest) Q δ:=
 callX_core hwt hTB hf hy hoy hos hsub hargs hk hn0 hself hself1 (fun κ a w' C v hR hE hra=>by
  obtain⟨u,he,hu⟩:=hE
  cases he
  exact hK _ _ _ (hR.putd (okD_spec hd) (hra r hu hr))) (fun C w' ch hE=>by obtain⟨u,he,_⟩:=hE;cases he) (fun C w' hE=>by obtain⟨u,he,_⟩:=hE;cases he)
theorem AOps.callX {y:Operand} {f:FuncId} {xs:List Operand} {tys:Array TypeId} {first cap args:List AV} {r:AV} {n0:Nat} {objs0 objs1:List (Nat×Option Ob)} (hwt:g.wt=none) (hf:FnX P f n0 objs0 args objs1 r) (hy:δ.ev y=.clo (.func f) first cap) (hoy:okT y=true) (hos:xs.all okT=true)
  (hsub:SubO δ objs0) (hargs:LeXs (XS objs0 n0).lrB (XS objs0 n0).lbB (first++xs.map δ.ev++cap) args) (hk:kindB objs0 objs1=true) (hn0:nxB n0 objs0=true) (hself:SelfO (XS objs0 n0).lrB (XS objs0 n0).lbB objs0)
  (hself1:SelfO (XS objs1 n0).lrB (XS objs1 n0).lbB objs1) (hr:r.ids (XS objs1 n0).lrB (XS objs1 n0).lbB=true) (hd:okD δ.n dst=true)
  (hK:AOps .plain P g ops rest Q ((δ.afterX objs0 objs1).putd dst r)):
  AOps .plain P g ops (⟨dst,.call {callee:=.value y,args:=xs.toArray,argTypes:=tys},ty,pos,af,none⟩::rest) Q δ:=AOps.callXT hwt (fun _ _=>trivial) hf hy hoy hos hsub hargs hk hn0 hself hself1 hr hd hK
theorem AOps.callD {T:World→Prop} {t:TypeId} {y:Operand} {f:FuncId} {xs:List Operand} {tys:Array TypeId} {first cap args:List AV} {n0:Nat} {objs0 objs1:List (Nat×Option Ob)} (hwt:g.wt=none) (hTB:TB T g) (hf:FnD T P t f n0 objs0 args objs1) (hy:δ.ev y=.clo (.func f) first cap) (hoy:okT y=true) (hos:xs.all okT=true)
  (hsub:SubO δ objs0) (hargs:LeXs (XS objs0 n0).lrB (XS objs0 n0).lbB (first++xs.map δ.ev++cap) args) (hk:kindB objs0 objs1=true) (hn0:nxB n0 objs0=true) (hself:SelfO (XS objs0 n0).lrB (XS objs0 n0).lbB objs0)
  (hself1:SelfO (XS objs1 n0).lrB (XS objs1 n0).lbB objs1)
  (hK:∀ch,Pan t ch→Q (.panic ch) (δ.afterX objs0 objs1).hi):
  AOps .plain P g ops (⟨dst,.call {callee:=.value y,args:=xs.toArray,argTypes:=tys},ty,pos,af,none⟩::rest) Q δ:=
 callX_core hwt hTB hf hy hoy hos hsub hargs hk hn0 hself hself1 (fun κ a w' C v hR hE hra=>by obtain⟨u,he,_⟩:=hE;cases he) (fun C w' ch hE=>by
  obtain⟨u,he,hu⟩:=hE
  cases he
  exact .inl (hK _ hu)) (fun C w' hE=>by obtain⟨u,he,_⟩:=hE;cases he)
theorem AOps.callDK {T:World→Prop} {t:TypeId} {y:Operand} {f:FuncId} {xs:List Operand} {tys:Array TypeId} {first cap args:List AV} {n0:Nat} {objs0 objs1:List (Nat×Option Ob)} (hwt:g.wt=none) (hTB:TB T g) (hf:FnD T P t f n0 objs0 args objs1) (hy:δ.ev y=.clo (.func f) first cap) (hoy:okT y=true) (hos:xs.all okT=true)
  (hsub:SubO δ objs0) (hargs:LeXs (XS objs0 n0).lrB (XS objs0 n0).lbB (first++xs.map δ.ev++cap) args) (hk:kindB objs0 objs1=true) (hn0:nxB n0 objs0=true) (hself:SelfO (XS objs0 n0).lrB (XS objs0 n0).lbB objs0)
  (hself1:SelfO (XS objs1 n0).lrB (XS objs1 n0).lbB objs1)
  (hK:∀ch,Pan t ch→Q (.panic ch) (δ.afterX objs0 objs1)):
  AOps .plain P g ops (⟨dst,.call {callee:=.value y,args:=xs.toArray,argTypes:=tys},ty,pos,af,none⟩::rest) Q δ:=
 callX_core hwt hTB hf hy hoy hos hsub hargs hk hn0 hself hself1 (fun κ a w' C v hR hE hra=>by obtain⟨u,he,_⟩:=hE;cases he) (fun C w' ch hE=>by
  obtain⟨u,he,hu⟩:=hE
  cases he
  exact .inr (hK _ hu)) (fun C w' hE=>by obtain⟨u,he,_⟩:=hE;cases he)
end Go.Ab
namespace Go.Ab
open Go Go.RowKit
variable {P:Program} {g:Ghost} {δ:DS}
theorem endsX_ret {rs:List ResultVar} {objs0 objs1:List (Nat×Option Ob)} {r v:AV} (h:Res P δ rs v) (hw:WVs δ (XF δ objs0 objs1) [v,δ.get 1000] [r,.agg (pinL objs0)]) (ho:WObs δ (XF δ objs0 objs1) objs1) (hx:nxB δ.nx objs1=true):EndsX P rs objs0 objs1 r .ret δ:=⟨v,h,hw.1,hw.2.1,ho,hx⟩
theorem endsX_nor {rs:List ResultVar} {objs0 objs1:List (Nat×Option Ob)} {r v:AV} (h:Res P δ rs v) (hw:WVs δ (XF δ objs0 objs1) [v,δ.get 1000] [r,.agg (pinL objs0)]) (ho:WObs δ (XF δ objs0 objs1) objs1) (hx:nxB δ.nx objs1=true):EndsX P rs objs0 objs1 r .normal δ:=⟨v,h,hw.1,hw.2.1,ho,hx⟩
namespace Nf
variable {n x i:Nat} {e:List (Nat×AV)} {o l0 l1 l:List (Nat×Option Ob)} {rs:List Nat}
def kEs (rs:List Nat):List (Nat×AV)→List (Nat×AV)
 |[]=>[]
 |(i,v)::r=>(i,v.killS rs)::kEs rs r
def kOs (rs:List Nat):List (Nat×Option Ob)→List (Nat×Option Ob)
 |[]=>[]
 |(i,o)::r=>(i,o.map (Ob.mp' (AV.killS rs)))::kOs rs r
def kLs (rs:List Nat):List AV→List AV
 |[]=>[]
 |v::r=>v.killS rs::kLs rs r
theorem kEs_eq:∀e:List (Nat×AV),e.map (fun p=>(p.1,p.2.killS rs))=kEs rs e
 |[]=>rfl
 |(i,v)::r=>by rw[List.map_cons,kEs_eq r];rfl
theorem kOs_eq:∀o:List (Nat×Option Ob),o.map (fun p=>(p.1,p.2.map (Ob.mp' (AV.killS rs))))=kOs rs o
 |[]=>rfl
 |(i,v)::r=>by rw[List.map_cons,kOs_eq r];rfl
theorem kLs_eq:∀l:List AV,AV.mpL (killSF rs) l=kLs rs l
 |[]=>rfl
 |v::r=>by rw[AV.mpL,kLs_eq r];rfl
theorem kLs_map (l:List AV):l.map (AV.killS rs)=kLs rs l:=by
 induction l with
 |nil=>rfl
 |cons v r ih=>rw[List.map_cons,ih];rfl
theorem af:DS.afterX ⟨n,e,o,x⟩ l0 l1=⟨n,kEs (rowsL l0) e,l1++kOs (rowsL l0) o,x⟩:=by
 show(⟨n,e.map (fun p=>(p.1,p.2.killS (rowsL l0))),l1++o.map (fun p=>(p.1,p.2.map (Ob.mp' (AV.killS (rowsL l0))))),x⟩:DS)=_
 rw[kEs_eq,kOs_eq]
theorem xe0:kEs rs []=[]:=rfl
theorem xe1 (i:Nat) (v:AV) (r:List (Nat×AV)):kEs rs ((i,v)::r)=(i,v.killS rs)::kEs rs r:=rfl
theorem xo0:kOs rs []=[]:=rfl
theorem xon (i:Nat) (r:List (Nat×Option Ob)):kOs rs ((i,none)::r)=(i,none)::kOs rs r:=rfl
theorem xor (i:Nat) (r:List (Nat×Option Ob)):kOs rs ((i,some .row)::r)=(i,some .row)::kOs rs r:=rfl
theorem xob (i:Nat) (cs:List AV) (r:List (Nat×Option Ob)):kOs rs ((i,some (.box cs))::r)=(i,some (.box (kLs rs cs)))::kOs rs r:=by
 show(i,some (Ob.box (cs.map (AV.killS rs))))::kOs rs r=_
 rw[kLs_map]
theorem xot (i:Nat) (T:TypeId) (vs:Array Value) (r:List (Nat×Option Ob)):kOs rs ((i,some (.lit T vs))::r)=(i,some (.lit T vs))::kOs rs r:=rfl
theorem xom (i:Nat) (l:List (Value×AV)) (r:List (Nat×Option Ob)):kOs rs ((i,some (.mp l))::r)=(i,some (.mp l))::kOs rs r:=rfl
theorem xoi (i:Nat) (l:List (Value×PV)) (s:List Nat) (r:List (Nat×Option Ob)):kOs rs ((i,some (.it l s))::r)=(i,some (.it l s))::kOs rs r:=rfl
theorem xol (i:Nat) (l:List (Value×AV)) (k:Value) (v:AV) (r:List (Nat×Option Ob)):kOs rs ((i,some (.mpl l k v))::r)=(i,some (.mpl l k (v.killS rs)))::kOs rs r:=rfl
theorem xop (i m:Nat) (tm:Array Value) (ps:Array Tmp) (a b:Code) (st:LpSt) (r:List (Nat×Option Ob)):kOs rs ((i,some (.loop m tm ps a b st))::r)=(i,some (.loop m tm ps a b st))::kOs rs r:=rfl
theorem xl0:kLs rs []=[]:=rfl
theorem xl1 (v:AV) (r:List AV):kLs rs (v::r)=v.killS rs::kLs rs r:=rfl
theorem xk_any:AV.killS rs .any=.any:=rfl
theorem xk_pv (p:PV):AV.killS rs (.pv p)=.pv p:=rfl
theorem xk_ptr (j k:Nat):AV.killS rs (.ptr j k)=.ptr j k:=rfl
theorem xk_rptr (c:List PV):AV.killS rs (.rptr c)=.rptr c:=rfl
theorem xk_mapr (j:Nat):AV.killS rs (.mapr j)=.mapr j:=rfl
theorem xk_yld (j:Nat):AV.killS rs (.yld j)=.yld j:=rfl
theorem xk_own (j:Nat) (t:TypeId) (k:Nat) (els:List (List PV)):AV.killS rs (.own j t k els)=bif memN j rs then .any else .own j t k els:=rfl
theorem xk_optr (j:Nat) (t:TypeId) (k:Nat) (els:List (List PV)) (m:Nat):AV.killS rs (.optr j t k els m)=bif memN j rs then .any else .optr j t k els m:=rfl
theorem xk_agg (cs:List AV):AV.killS rs (.agg cs)=.agg (kLs rs cs):=by show AV.agg (AV.mpL (killSF rs) cs)=_;rw[kLs_eq]
theorem xk_tup (cs:List AV):AV.killS rs (.tup cs)=.tup (kLs rs cs):=by show AV.tup (AV.mpL (killSF rs) cs)=_;rw[kLs_eq]
theorem xk_clo (fn:Go.Fn) (cs ds:List AV):AV.killS rs (.clo fn cs ds)=.clo fn (kLs rs cs) (kLs rs ds):=by show AV.clo fn (AV.mpL (killSF rs) cs) (AV.mpL (killSF rs) ds)=_;rw[kLs_eq,kLs_eq]
theorem rw0:rowsL []=[]:=rfl
theorem rwr (i:Nat) (r:List (Nat×Option Ob)):rowsL ((i,some .row)::r)=i::rowsL r:=rfl
theorem rwb (i:Nat) (c:List AV) (r:List (Nat×Option Ob)):rowsL ((i,some (.box c))::r)=rowsL r:=rfl
theorem rwt (i:Nat) (T:TypeId) (vs:Array Value) (r:List (Nat×Option Ob)):rowsL ((i,some (.lit T vs))::r)=rowsL r:=rfl
theorem rwm (i:Nat) (c:List (Value×AV)) (r:List (Nat×Option Ob)):rowsL ((i,some (.mp c))::r)=rowsL r:=rfl
theorem pi0:pinL []=[]:=rfl
theorem pir (i:Nat) (r:List (Nat×Option Ob)):pinL ((i,some .row)::r)=pinL r:=rfl
theorem pib (i:Nat) (c:List AV) (r:List (Nat×Option Ob)):pinL ((i,some (.box c))::r)=.ptr i 0::pinL r:=rfl
theorem pit (i:Nat) (T:TypeId) (vs:Array Value) (r:List (Nat×Option Ob)):pinL ((i,some (.lit T vs))::r)=.ptr i 0::pinL r:=rfl
theorem pim (i:Nat) (c:List (Value×AV)) (r:List (Nat×Option Ob)):pinL ((i,some (.mp c))::r)=.mapr i::pinL r:=rfl
theorem cn {α:Type} (a:α) (r s:List α):(a::r)++s=a::(r++s):=rfl
theorem nn {α:Type} (s:List α):[]++s=s:=rfl
end Nf
end Go.Ab
/- Short names of the rules that a walk takes most often;what is plain is filled in. -/
namespace Go.Ab
open Go Go.RowKit
variable {P:Program} {g:Ghost} {δ:DS} {q:Md} {ops:Array Oper} {rest:List Oper} {Q:Exit→DS→Prop} {dst:Option Nat} {ty:TypeId} {pos:String} {af:Array Edge}
theorem nz {A:DS→Prop} {δ δ':DS} (h:A δ') (e:δ=δ':=by conv=>lhs;simp only[Nf.all,Nat.reduceBEq,Nat.reduceAdd,Nat.reduceSub]):A δ:=e▸h
theorem zm {x:Operand} {p:PV} (hK:AOps q P g ops rest Q (δ.putd dst (.pv p))) (hx:δ.ev x=.pv p:=by exact rfl) (ho:okT x=true:=by exact rfl) (hd:okD δ.n dst=true:=by exact rfl):AOps q P g ops (⟨dst,.move x,ty,pos,af,none⟩::rest) Q δ:=AOps.move_pv hx ho hd hK
theorem za {x:Operand} {p:PV} (hK:AOps q P g ops rest Q (δ.putd dst (.pv p))) (hx:δ.ev x=.pv p:=by exact rfl) (ho:okT x=true:=by exact rfl) (hd:okD δ.n dst=true:=by exact rfl):AOps q P g ops (⟨dst,.assign x,ty,pos,af,none⟩::rest) Q δ:=AOps.assign_pv hx ho hd hK
theorem zl {op:Op} {gj d:Nat} {want b:Bool} {o':Oper} (hy:AOps q P g ops (⟨dst,op,ty,pos,af,none⟩::rest) Q δ) (ho:ops[gj]? =some o':=by exact rfl) (hd:o'.dst=some d:=by exact rfl) (hd0:Nat.blt d HS=true:=by exact rfl) (hdn:Nat.blt d δ.n=true:=by exact rfl) (hb:δ.get d=litB b:=by exact rfl) (hbw:b=want:=by exact rfl) (hdd:okD δ.n dst=true:=by exact rfl):
  AOps q P g ops (⟨dst,op,ty,pos,af,some (gj,want)⟩::rest) Q δ:=AOps.guard_lt ho hd hd0 hdn hb hbw hdd hy
theorem zy {op:Op} {gj d:Nat} {o':Oper} {p:Prop} {_:Decidable p} (hy:AOps q P g ops (⟨dst,op,ty,pos,af,none⟩::rest) Q δ) (ho:ops[gj]? =some o':=by exact rfl) (hd:o'.dst=some d:=by exact rfl) (hd0:Nat.blt d HS=true:=by exact rfl) (hdn:Nat.blt d δ.n=true:=by exact rfl) (hb:δ.get d=litB (decide p):=by exact rfl) (hdd:okD δ.n dst=true:=by exact rfl) (hp:¬p:=by first|(with_reducible assumption)|omega|decide):
  AOps q P g ops (⟨dst,op,ty,pos,af,some (gj,false)⟩::rest) Q δ:=AOps.guardFy ho hd hb hd0 hdn hdd hp hy
theorem zt {op:Op} {gj d:Nat} {o':Oper} {p:Prop} {_:Decidable p} (hy:AOps q P g ops (⟨dst,op,ty,pos,af,none⟩::rest) Q δ) (ho:ops[gj]? =some o':=by exact rfl) (hd:o'.dst=some d:=by exact rfl) (hd0:Nat.blt d HS=true:=by exact rfl) (hdn:Nat.blt d δ.n=true:=by exact rfl) (hb:δ.get d=litB (decide p):=by exact rfl) (hdd:okD δ.n dst=true:=by exact rfl) (hp:p:=by first|(with_reducible assumption)|omega|decide):
  AOps q P g ops (⟨dst,op,ty,pos,af,some (gj,true)⟩::rest) Q δ:=AOps.guardTy ho hd hb hd0 hdn hdd hp hy
theorem zb {x:Operand} {t:TypeId} {i off:Nat} {cells:List AV} {v:AV} (hK:AOps q P g ops rest Q (δ.putd dst v)) (hx:δ.ev x=.ptr i off:=by exact rfl) (hb:δ.ob i=some (.box cells):=by exact rfl) (hv:cells[off]? =some v:=by exact rfl) (ht:scalarT P t=true:=by exact rfl) (ho:okT x=true:=by exact rfl) (hd:okD δ.n dst=true:=by exact rfl):
  AOps q P g ops (⟨dst,.load t x,ty,pos,af,none⟩::rest) Q δ:=AOps.load_b1 hx hb hv ht ho hd hK
theorem zn {α:Type} {x:Operand} {t e:TypeId} {k:Nat} {f:α→List PV} {l:List α} (hK:AOps q P g ops rest Q (δ.putd dst (litI (l.length:Nat)))) (hx:δ.ev x=.pv (.slice k (l.map f)):=by exact rfl) (ht:P.underlying t=some (.slice e):=by exact rfl) (ho:okT x=true:=by exact rfl) (hd:okD δ.n dst=true:=by exact rfl):
  AOps q P g ops (⟨dst,.call {callee:=.builtin .len,args:= #[x],argTypes:= #[t]},ty,pos,af,none⟩::rest) Q δ:=AOps.len_map hx ht ho hd hK
theorem zs {x y:Operand} {t t':TypeId} {m n:Int} (hK:AOps q P g ops rest Q (δ.putd dst (litB (decide (m<n))))) (hx:δ.ev x=litI m:=by exact rfl) (hy:δ.ev y=litI n:=by exact rfl) (ho:okT x=true:=by exact rfl) (ho':okT y=true:=by exact rfl) (hd:okD δ.n dst=true:=by exact rfl):
  AOps q P g ops (⟨dst,.binOp .lss t x y t',ty,pos,af,none⟩::rest) Q δ:=AOps.lss hx hy ho ho' hd hK
set_option linter.defProp false in
abbrev zd:= @AOps.nilD
set_option linter.defProp false in
abbrev zq:= @AW.seqR
set_option linter.defProp false in
abbrev zo:= @AW.seq
theorem zc {c:Operand} {x y:Code} {p:Prop} {_:Decidable p} (h1:AW P g x Q δ) (ho:okT c=true:=by exact rfl) (hc:δ.ev c=litB (decide p):=by exact rfl) (hp:p:=by first|(with_reducible assumption)|omega|decide):AW P g (.cond c x y) Q δ:=AW.condY ho hc hp h1
theorem zk {c:Operand} {x y:Code} {p:Prop} {_:Decidable p} (h1:AW P g y Q δ) (ho:okT c=true:=by exact rfl) (hc:δ.ev c=litB (decide p):=by exact rfl) (hp:¬p:=by first|(with_reducible assumption)|omega|decide):AW P g (.cond c x y) Q δ:=AW.condN ho hc hp h1
theorem zr {x:Operand} {t:TypeId} {p:PV} (hK:AOps q P g ops rest Q (δ.putd dst (.pv p))) (hx:δ.ev x=.rptr [p]:=by exact rfl) (ht:scalarT P t=true:=by exact rfl) (ho:okT x=true:=by exact rfl) (hd:okD δ.n dst=true:=by exact rfl):AOps q P g ops (⟨dst,.load t x,ty,pos,af,none⟩::rest) Q δ:=AOps.load_r1 hx ht ho hd hK
theorem zA {f:FuncId} {xs:List Operand} {tys:Array TypeId} {args:List AV} {r:AV} (hf:Fn P f args r) (hK:AOps q P g ops rest Q (δ.putd dst r)) (hargs:Args true δ xs args:=by repeat (first|exact .nil|(refine .cons rfl ?_ ?_;(first|exact .pv _|exact .own _ _ _ _ rfl|exact .nil _|exact .any _|exact .rptr _|(refine .aggL ?_;repeat (first|exact .nil|(refine .cons ?_ ?_;(first|exact .pv _|exact .own _ _ _ _ rfl|exact .nil _)))))))) (hdet:r.det=true:=by exact rfl) (hd:okD δ.n dst=true:=by exact rfl) (hq:q≠ .held:=by exact(fun h_=>by cases h_)):
  AOps q P g ops (⟨dst,.call {callee:=.value (.func f),args:=xs.toArray,argTypes:=tys},ty,pos,af,none⟩::rest) Q δ:=AOps.call hf hargs hdet hd hq hK
theorem zP {f:FuncId} {xs:List Operand} {tys:Array TypeId} {args:List AV} {r:AV} (hf:Fn P f args r) (hK:AOps .plain P g ops rest Q (δ.putd dst r)) (hargs:Args false δ xs args:=by repeat (first|exact .nil|(refine .cons rfl ?_ ?_;(first|exact .pv _|exact .own _ _ _ _ rfl|exact .nil _|exact .any _|exact .rptr _|(refine .aggL ?_;repeat (first|exact .nil|(refine .cons ?_ ?_;(first|exact .pv _|exact .own _ _ _ _ rfl|exact .nil _)))))))) (hd:okD δ.n dst=true:=by exact rfl):
  AOps .plain P g ops (⟨dst,.call {callee:=.value (.func f),args:=xs.toArray,argTypes:=tys},ty,pos,af,none⟩::rest) Q δ:=AOps.callp hf hargs hd hK
theorem zC {y:Operand} {f:FuncId} {xs:List Operand} {tys:Array TypeId} {first cap args:List AV} {r:AV} (hf:Fn P f args r) (hK:AOps q P g ops rest Q (δ.putd dst r)) (hy:δ.ev y=.clo (.func f) first cap:=by exact rfl) (hoy:okT y=true:=by exact rfl) (hos:xs.all okT=true:=by exact rfl) (hargs:LeBs δ (first++xs.map δ.ev++cap) args:=by repeat (first|exact .nil|(refine .cons ?_ ?_;(first|exact .le (.pv _)|exact .box rfl rfl|exact .le (.own _ _ _ _ rfl)|exact .le (.nil _)|exact .le (.any _)|exact .le (.rptr _)|(refine .le (.aggL ?_);repeat (first|exact .nil|(refine .cons ?_ ?_;(first|exact .pv _|exact .own _ _ _ _ rfl|exact .nil _)))))))) (hdet:r.det=true:=by exact rfl) (hd:okD δ.n dst=true:=by exact rfl) (hq:q≠ .held:=by exact(fun h_=>by cases h_)):
  AOps q P g ops (⟨dst,.call {callee:=.value y,args:=xs.toArray,argTypes:=tys},ty,pos,af,none⟩::rest) Q δ:=AOps.callC0 hf hy hoy hos hargs hdet hd hq hK
theorem zX {y:Operand} {f:FuncId} {xs:List Operand} {tys:Array TypeId} {first cap args:List AV} {r:AV} {n0:Nat} {objs0 objs1:List (Nat×Option Ob)} (hf:FnX P f n0 objs0 args objs1 r) (hK:AOps .plain P g ops rest Q ((δ.afterX objs0 objs1).putd dst r)) (hwt:g.wt=none:=by with_reducible assumption) (hy:δ.ev y=.clo (.func f) first cap:=by exact rfl) (hoy:okT y=true:=by exact rfl) (hos:xs.all okT=true:=by exact rfl)
  (hsub:SubO δ objs0:=by repeat (first|exact trivial|refine⟨rfl,?_⟩)) (hargs:LeXs (XS objs0 n0).lrB (XS objs0 n0).lbB (first++xs.map δ.ev++cap) args:=by repeat (first|exact .nil|(refine .cons ?_ ?_;(first|exact .eq rfl rfl|exact .nil _|exact .any _)))) (hk:kindB objs0 objs1=true:=by exact rfl) (hn0:nxB n0 objs0=true:=by exact rfl) (hself:SelfO (XS objs0 n0).lrB (XS objs0 n0).lbB objs0:=by repeat (first|exact trivial|refine⟨rfl,?_⟩|refine⟨obIds_set,?_⟩))
  (hself1:SelfO (XS objs1 n0).lrB (XS objs1 n0).lbB objs1:=by repeat (first|exact trivial|refine⟨rfl,?_⟩|refine⟨obIds_set,?_⟩)) (hr:r.ids (XS objs1 n0).lrB (XS objs1 n0).lbB=true:=by exact rfl) (hd:okD δ.n dst=true:=by exact rfl):
  AOps .plain P g ops (⟨dst,.call {callee:=.value y,args:=xs.toArray,argTypes:=tys},ty,pos,af,none⟩::rest) Q δ:=AOps.callX hwt hf hy hoy hos hsub hargs hk hn0 hself hself1 hr hd hK
theorem nx {A:DS→Prop} {δ δ':DS} (h:A δ') (e:δ=δ':=by conv=>lhs;simp only[Nf.af,Nf.xe0,Nf.xe1,Nf.xo0,Nf.xon,Nf.xor,Nf.xob,Nf.xom,Nf.xoi,Nf.xol,Nf.xop,Nf.xl0,Nf.xl1,Nf.xk_any,Nf.xk_pv,Nf.xk_ptr,Nf.xk_rptr,Nf.xk_mapr,Nf.xk_yld,Nf.xk_own,Nf.xk_optr,Nf.xk_agg,Nf.xk_tup,Nf.xk_clo,Nf.rw0,Nf.rwr,Nf.rwb,Nf.rwm,Nf.cn,Nf.nn,memN0,memN1,Nat.reduceBEq,cond_true,cond_false]):A δ:=e▸h
theorem zB {x y:Operand} {t:TypeId} {i:Nat} {cells cs:List AV} (hK:AOps .plain P g ops rest Q ((δ.setOb i (some (.box cs))).putd dst .any)) (hx:δ.ev x=.ptr i 0:=by exact rfl) (hy:δ.ev y=.agg cs:=by exact rfl) (hb:δ.ob i=some (.box cells):=by exact rfl) (hlen:cells.length=cs.length:=by exact rfl) (ht:(P.info? t).map (·.size)=some cs.length:=by exact rfl) (h1:AV.ones cs=true:=by exact rfl) (ho:okT x=true:=by exact rfl) (ho':okT y=true:=by exact rfl) (hd:okD δ.n dst=true:=by exact rfl) (hwt:g.wt=none:=by with_reducible assumption):
  AOps .plain P g ops (⟨dst,.store t x y,ty,pos,af,none⟩::rest) Q δ:=AOps.store_bn hx hy hb hlen ht h1 ho ho' hd hwt hK
theorem zL {x:Operand} {t:TypeId} {i:Nat} {cells:List AV} (hK:AOps q P g ops rest Q (δ.putd dst (.agg cells))) (hx:δ.ev x=.ptr i 0:=by exact rfl) (hb:δ.ob i=some (.box cells):=by exact rfl) (ht:aggT P t cells.length=true:=by exact rfl) (ho:okT x=true:=by exact rfl) (hd:okD δ.n dst=true:=by exact rfl):
  AOps q P g ops (⟨dst,.load t x,ty,pos,af,none⟩::rest) Q δ:=AOps.load_ball hx hb ht ho hd hK
theorem zj {x y:Operand} {t t':TypeId} {m n:Int} (hK:AOps q P g ops rest Q (δ.putd dst (litI (m+n)))) (hx:δ.ev x=litI m:=by exact rfl) (hy:δ.ev y=litI n:=by exact rfl) (ho:okT x=true:=by exact rfl) (ho':okT y=true:=by exact rfl) (hd:okD δ.n dst=true:=by exact rfl) (hb: -9223372036854775808≤m+n∧m+n≤9223372036854775807:=by omega):
  AOps q P g ops (⟨dst,.binOp .add t x y t',ty,pos,af,none⟩::rest) Q δ:=AOps.add hx hy ho ho' hd hb hK
theorem zF {x y z:Operand} {p:Prop} {_:Decidable p} {v:PV} (hK:AOps q P g ops rest Q (δ.putd dst (.pv v))) (hx:δ.ev x=litB (decide p):=by exact rfl) (hz:δ.ev z=.pv v:=by exact rfl) (hp:¬p:=by first|(with_reducible assumption)|omega|decide) (ho:okT x=true:=by exact rfl) (hoy:okT y=true:=by exact rfl) (hoz:okT z=true:=by exact rfl) (hd:okD δ.n dst=true:=by exact rfl):
  AOps q P g ops (⟨dst,.pick x y z,ty,pos,af,none⟩::rest) Q δ:=AOps.pickF_pv hx hz hp ho hoy hoz hd hK
theorem zT {x y z:Operand} {p:Prop} {_:Decidable p} {v:PV} (hK:AOps q P g ops rest Q (δ.putd dst (.pv v))) (hx:δ.ev x=litB (decide p):=by exact rfl) (hy:δ.ev y=.pv v:=by exact rfl) (hp:p:=by first|(with_reducible assumption)|omega|decide) (ho:okT x=true:=by exact rfl) (hoy:okT y=true:=by exact rfl) (hoz:okT z=true:=by exact rfl) (hd:okD δ.n dst=true:=by exact rfl):
  AOps q P g ops (⟨dst,.pick x y z,ty,pos,af,none⟩::rest) Q δ:=AOps.pickT_pv hx hy hp ho hoy hoz hd hK
end Go.Ab
/- A row's first part;append of made zeros to nothing;a capacity. -/
namespace Go.Ab
open Go Go.RowKit
variable {q:Md} {P:Program} {g:Ghost} {δ:DS} {κ:Nat→Option Nat} {a:Act} {w:World}
variable {ops:Array Oper} {rest:List Oper} {Q:Exit→DS→Prop} {dst:Option Nat} {ty:TypeId} {pos:String} {af:Array Edge} {gd:Option (Tmp×Bool)}
theorem AOps.slice_own {t e e':TypeId} {x y:Operand} {i k:Nat} {m:Int} {els:List (List PV)} (hx:δ.ev x=.own i e' k els) (hy:δ.ev y=litI m) (ht:P.underlying t=some (.slice e)) (hk:(P.info? e).map (·.size)=some k)
  (ho:okT x=true) (ho':okT y=true) (hd:okD δ.n dst=true) (h0:0≤m) (hm:m.toNat≤els.length) (hK:AOps q P g ops rest Q (δ.putd dst (.own i e' k (els.take m.toNat)))):AOps q P g ops (⟨dst,.slice t x none (some y) none,ty,pos,af,none⟩::rest) Q δ:=
 AOps.valw _ hd (fun κ a w r=>by
  have h1:=(r.ra hx ho).own_inv
  obtain⟨i0,hi0,hk0⟩:∃i0,P.info? e=some i0∧i0.size=k:=by
   cases h:P.info? e with
   |none=>rw[h] at hk;simp at hk
   |some i0=>rw[h] at hk;exact⟨i0,rfl,by simpa using hk⟩
  have hyv:a.eval y=.int .i64 m:=r.lit hy ho'
  obtain⟨h,rfl⟩:∃h:Nat,m=(h:Int):=⟨m.toNat,by omega⟩
  rw[Int.toNat_natCast] at hm ⊢
  obtain⟨a0,cap,hv,hcap,hb⟩:∃a0 cap,a.eval x=.slice a0 els.length cap∧els.length≤cap∧OwnV (δ.cx g κ) w (.slice a0 h cap) i e' k (els.take h):=by
   obtain⟨hl,hlim,hkk,hblk,xs,⟨hxl,hown⟩,h1x,hxx⟩:=h1
   have mk:∀a0 cap,(∀b,(Value.slice a0 h cap).ownBlock=some b→(δ.cx g κ).κ i=some b)→((Value.slice a0 h cap=.slice none 0 0∧h=0)∨∃g0 cap' cur,Value.slice a0 h cap=.slice (some ⟨g0,0,none⟩) h cap'∧(δ.cx g κ).B≤g0∧w.heap[g0]? =some (.cells cur e' (0,0))∧h≤cap'∧cap'≤maxLen∧cur.size=cap'*k∧cur.toList.take (h*k)=xs.take (h*k))→OwnV (δ.cx g κ) w (.slice a0 h cap) i e' k (els.take h):=by
    intro a0 cap hbk hor
    have hlen:(els.take h).length=h:=by rw[List.length_take];omega
    have hmul:h*k≤els.length*k:=Nat.mul_le_mul_right k hm
    refine⟨hl,by omega,fun c hc=>hkk c (List.mem_of_mem_take hc),hbk,xs.take (h*k),⟨by rw[hlen,List.length_take];omega,by rw[hlen];exact hor⟩,fun u hu=>h1x u (List.mem_of_mem_take hu),fun i' j p hp=>?_⟩
    unfold cellAt at hp
    rw[List.getElem?_take] at hp
    by_cases hih:i'<h
    ·rw[if_pos hih] at hp
     obtain⟨u,hu,hu2⟩:=hxx i' j p (by unfold cellAt;exact hp)
     refine⟨u,?_,hu2⟩
     have hjk:j<k:=by
      rw[Option.bind_eq_some_iff] at hp
      obtain⟨c,hc1,hc2⟩:=hp
      have:=hkk c (List.mem_of_getElem? hc1)
      have:=(List.getElem?_eq_some_iff.1 hc2).1
      omega
     have:(i'+1)*k≤h*k:=Nat.mul_le_mul_right k hih
     rw[Nat.add_mul,Nat.one_mul] at this
     rw[List.getElem?_take,if_pos (by omega)];exact hu
    ·rw[if_neg hih] at hp;simp at hp
   rcases hown with ⟨hn,hz⟩|⟨g0,cap,cur,hv,hg,h3,hle,hcm,hcs,htk⟩
   ·refine⟨none,0,by rw[hn,hz],by omega,mk none 0 (fun b hb=>by cases hb) (.inl ⟨?_,by omega⟩)⟩
    rw[show h=0 by omega]
   ·refine⟨_,cap,hv,hle,mk _ cap (fun b hb=>hblk b (by rw[hv];exact hb)) (.inr ⟨g0,cap,cur,rfl,hg,h3,by omega,hcm,hcs,?_⟩)⟩
    rw[← htk,List.take_take,Nat.min_eq_left (Nat.mul_le_mul_right k hm)]
  have hrun:∀w,(execOp a.eval ⟨dst,.slice t x none (some y) none,ty,pos,af,none⟩).run P w=.ok (.value (.slice a0 h cap)) w:=by
   intro w
   have hb1:∀w,(Instr.sliceBounds true els.length cap none (some (.int .i64 (h:Int))) none).run P w=.ok (0,h,cap) w:=by
    intro w
    have e1:(0:Int)≤(h:Int)∧(h:Int)≤(cap:Int):=by omega
    simp [Instr.sliceBounds,Instr.sliceBound,asIntOf,e1]
    intro h0;exfalso;omega
   simp only[execOp,Instr.sliceAt,Instr.slice,run_underlying ht,hv,hyv,Sem.run_bind,Result.andThen_ok,Option.map_none,Option.map_some,hb1,sizeOf,typeInfo,Sem.run_pure]
   cases a0 with
   |none=>simp [hi0,hk0]
   |some ad=>
    simp [hi0,hk0]
    intro _
    cases ad;simp [Addr.add]
  exact⟨_,fun w' _=>hrun w',.own hb⟩) hK
namespace Nf
variable {n x:Nat} {e:List (Nat×AV)} {o:List (Nat×Option Ob)}
theorem pum (d:Nat) (v:AV):DS.put ⟨n,e,o,x⟩ d v=⟨n,(d,v)::e,o,x⟩:=rfl
theorem pu0 (δ:DS) (v:AV):putAll δ v []=δ:=rfl
theorem pu1 (δ:DS) (v:AV) (t:Nat) (ts:List Nat):putAll δ v (t::ts)=(putAll δ v ts).put t v:=rfl
theorem rr0 (i:Nat) (e:TypeId) (zs os:List Int):rowRet i e zs os none=.tup []:=rfl
theorem rr1 (i:Nat) (e:TypeId) (zs os:List Int) (r:List Int→Nat):rowRet i e zs os (some r)=.own i e 1 ((os.take (r zs)).map nI):=rfl
set_option linter.defProp false in
def rwR:=And.intro @pum (And.intro @pu0 (And.intro @pu1 (And.intro @rr0 @rr1)))
end Nf
end Go.Ab
/- Contracts of callees that return a row of their own making;the caller owns it from then on. -/
namespace Go.Ab
open Go Go.RowKit
variable {P:Program} {g:Ghost} {δ:DS} {κ:Nat→Option Nat} {a:Act} {w:World}
variable {ops:Array Oper} {rest:List Oper} {Q:Exit→DS→Prop} {dst:Option Nat} {ty:TypeId} {pos:String} {af:Array Edge}
structure Fresh (N:Nat→Prop) (w:World) (B:Nat) (v:Value) (e:TypeId) (k:Nat) (els:List (List PV)):Prop where
 lim:els.length≤140737488355328
 hk:∀c∈els,c.length=k
 row:∃xs,w.ownsRow B e k v els.length xs∧(∀u∈xs,u.oneCell'=true)∧∀i' j p,cellAt els i' j=some p→∃u,xs[i'*k+j]? =some u∧RP (fun b=>N b∧v.ownBlock≠some b) w u p
structure FnO (P:Program) (f:FuncId) (args:List AV) (e:TypeId) (k:Nat) (els:List (List PV)):Prop where
 enters:∀vals w,(callFunc f vals).run P w=.ok (.enter f vals) w
 calls:∀(N:Nat→Prop) (w:World) (vals:Array Value),(∀b,w.heap.size≤b→N b)→vals.size=args.length→
  (∀(j:Nat) (v:Value) (av:AV),vals[j]? =some v→args[j]? =some av→RA (pcx N) w v av)→
  Calls P f vals w fun en w'=>∃v,en=.returned v∧Below w.heap.size w w'∧Fresh N w' w.heap.size v e k els
def EndsO (P:Program) (rs:List ResultVar) (e:TypeId) (k:Nat) (els:List (List PV)):Exit→DS→Prop
 |.normal,δ|.ret,δ=>(∃i,Res P δ rs (.own i e k els))∨(els=[]∧Res P δ rs (.pv (.lit (.slice none 0 0))))
 |_,_=>False
theorem FnO.enter {f:FuncId} {fn:Func} {c:Code} {rs:List ResultVar} {n:Nat} {args:List AV} {e:TypeId} {k:Nat} {els:List (List PV)} (hf:P.funcs[f]? =some fn) (hb:fn.body=some c) (hrs:fn.results=rs.toArray) (hn:fn.ntmps=n) (hna:Nat.ble args.length n=true)
  (hna':Nat.ble n HS=true) (he:(fn.name== "runtime.NumGoroutine")=false) (h:∀g:Ghost,g.ro=none→g.wt=none→AW P g c (EndsO P rs e k els) (start n args)):FnO P f args e k els:=by
 refine⟨fun vals w=>by simp [callFunc,hf,hb];simpa using he,fun N w vals hN hs hargs=>?_⟩
 have hle:args.length≤n:=by simpa using hna
 have hnH:n≤HS:=by simpa using hna'
 let g:Ghost:={B:=w.heap.size,w0:=w,N0:=N,held:=fun _=>undef,ro:=none,mks:=[],wt:=none,fr:=fun _=>False,w1:=w}
 have hnl:∀i,¬(start n args).live i:=fun i ⟨o,h⟩=>by cases h
 refine callsIn_wide.1 (callsIn_of_wp_marks (n:=0) hf hb trivial (wpIn_mono (h g rfl rfl (fun _=>none) _ w ?_) ?_))
 ·exact
  {n:=by simp [hn,start];omega
   dfr:=⟨[],rfl,by simp [g],by simp [g]⟩
   env:=fun j=>by
    by_cases hj:j<args.length
    ·have h1:(start n args).get j=args[j]:=look_enum args 0 j _ (Nat.zero_le _) (by simp [hj])
     have h2:g.val {tmps:=vals++Array.replicate (fn.ntmps - vals.size) undef,defers:=[]} j=vals[j]'(by omega):=by
      unfold Ghost.val
      rw[if_pos (by omega)]
      simp [Array.getD_eq_getD_getElem?,Array.getElem?_append,hs,hj]
     rw[h1,h2]
     exact(hargs j _ _ (Array.getElem?_eq_getElem (by omega)) (List.getElem?_eq_getElem hj)).of_pcx _ fun b _ h=>⟨h,fun i hi=>absurd hi (hnl i)⟩
    ·have h1:(start n args).get j=.any:=look_enum_out args 0 j (by omega)
     rw[h1];exact .any _
   obj:=fun i o h=>by cases h
   inj:=fun i j b h=>absurd h (hnl i)
   lo:=fun i b h=>absurd h (hnl i)
   nx:=fun i h=>absurd h (hnl i)
   wt:=fun k hk=>by cases hk
   below:=Below.refl _ _
   hB:=Nat.le_refl _
   N0:=fun b h _=>hN b h
   fr:=fun b hb=>hb.elim
   mkf:=fun d hd=>by cases hd}
 ·rintro ex a' w' ⟨δ',κ',hq,r'⟩
  have fin:∀i,Res P δ' rs (.own i e k els)→LeavesInM Fence.wide 0 P fn a'.tmps (fun en w'=>∃v,en=.returned v∧Below w.heap.size w w'∧Fresh N w' w.heap.size v e k els) a'.defers .returning w':=by
   intro i h1
   exact leaves (g:=g) rfl rfl hrs h1 r' (fun w2 r2 u hu=>by
    have ho:=hu.own_inv
    refine⟨u,rfl,r2.below,ho.lim,ho.hk,?_⟩
    obtain⟨xs,h3,h4,h5⟩:=ho.row
    refine⟨xs,h3,h4,fun i' j p hp=>?_⟩
    obtain⟨v,hv,hr⟩:=h5 i' j p hp
    refine⟨v,hv,hr.mono (Nat.le_refl _) fun b _ hN=>⟨⟨hN.1,fun hb=>?_⟩,rfl⟩⟩
    exact hN.2 i (DS.lr_live ho.live) (ho.blk b hb))
  have finN:els=[]→Res P δ' rs (.pv (.lit (.slice none 0 0)))→LeavesInM Fence.wide 0 P fn a'.tmps (fun en w'=>∃v,en=.returned v∧Below w.heap.size w w'∧Fresh N w' w.heap.size v e k els) a'.defers .returning w':=by
   intro h0 h1
   exact leaves (g:=g) rfl rfl hrs h1 r' (fun w2 r2 u hu=>by
    have hu:=hu.lit
    subst hu
    subst h0
    exact⟨_,rfl,r2.below,by simp,fun c hc=>by simp at hc,[],World.ownsRow_nil _ _ _ _,fun u hu=>by simp at hu,fun i' j p hp=>by simp [cellAt] at hp⟩)
  cases ex with
  |normal=>
   rcases hq with ⟨i,h1⟩|⟨h0,h1⟩
   ·exact fin i h1
   ·exact finN h0 h1
  |ret=>
   rcases hq with ⟨i,h1⟩|⟨h0,h1⟩
   ·exact fin i h1
   ·exact finN h0 h1
  |_=>exact hq.elim
end Go.Ab
/- Strings:joined,compared,measured,indexed,cut;numbers of any kind compared. -/
namespace Go.Ab
open Go Go.RowKit
variable {q:Md} {P:Program} {g:Ghost} {δ:DS} {κ:Nat→Option Nat} {a:Act} {w:World}
variable {ops:Array Oper} {rest:List Oper} {Q:Exit→DS→Prop} {dst:Option Nat} {ty:TypeId} {pos:String} {af:Array Edge}
abbrev litS (s:ByteArray):AV:=.pv (.lit (.string s))
theorem toList_beq (s u:ByteArray):(s.toList==u.toList)=decide (s=u):=by
 rw[ByteArray.toList_eq,ByteArray.toList_eq]
 by_cases h:s=u
 ·subst h;simp
 ·rw[decide_eq_false h,beq_eq_false_iff_ne]
  intro h2
  exact h (ByteArray.ext (Array.toList_inj.1 h2))
theorem run_str (op:BinOp) (t:TypeId) (x y:Operand) (s u:ByteArray) (c:Value) (h:∀w,(Go.binOp op t (.string s) (.string u):Sem Value).run P w=.ok c w) (w:World):
  (do eqGuard op t x y (.string s) (.string u);Go.binOp op t (.string s) (.string u):Sem Value).run P w=.ok c w:=by
 have h1:(eqGuard op t x y (.string s) (.string u)).run P w=.ok () w:=by
  unfold eqGuard
  cases op<;>simp [Sem.run,pure,Sem.bind,bind]
 rw[Sem.run_bind,h1,Result.andThen_ok,h]
section strs
variable {x y:Operand} {t t':TypeId} {s u:ByteArray} (hx:δ.ev x=litS s) (hy:δ.ev y=litS u) (ho:okT x=true) (ho':okT y=true) (hd:okD δ.n dst=true)
include hx hy ho ho' hd
theorem AOps.catS (hb:s.size+u.size≤9223372036854775807) (hK:AOps q P g ops rest Q (δ.putd dst (litS (s++u)))):AOps q P g ops (⟨dst,.binOp .add t x y t',ty,pos,af,none⟩::rest) Q δ:=
 AOps.bin hx hy ho ho' (run_str _ _ _ _ _ _ _ fun w=>by rw[binOp_string_add];exact run_string_add_sum w s u hb) hd hK
theorem AOps.eqlS (hK:AOps q P g ops rest Q (δ.putd dst (litB (decide (s=u))))):AOps q P g ops (⟨dst,.binOp .eql t x y t',ty,pos,af,none⟩::rest) Q δ:=
 AOps.bin hx hy ho ho' (run_str _ _ _ _ _ _ _ fun w=>by rw[binOp_string_eql,toList_beq];rfl) hd hK
theorem AOps.neqS (hK:AOps q P g ops rest Q (δ.putd dst (litB (decide (¬s=u))))):AOps q P g ops (⟨dst,.binOp .neq t x y t',ty,pos,af,none⟩::rest) Q δ:=
 AOps.bin hx hy ho ho' (run_str _ _ _ _ _ _ _ fun w=>by
  have:(Go.binOp .neq t (.string s) (.string u):Sem Value)=pure (.bool (!(s.toList==u.toList))):=by simp [Go.binOp,Op.stringOp]
  rw[this,toList_beq]
  by_cases h:s=u<;>simp [h]) hd hK
end strs
theorem AOps.len_str {x:Operand} {t:TypeId} {s:ByteArray} (hx:δ.ev x=litS s) (ht:P.underlying t=some .string) (ho:okT x=true) (hd:okD δ.n dst=true)
  (hK:AOps q P g ops rest Q (δ.putd dst (litI (s.size:Nat)))):AOps q P g ops (⟨dst,.call {callee:=.builtin .len,args:= #[x],argTypes:= #[t]},ty,pos,af,none⟩::rest) Q δ:=
 AOps.valw _ hd (fun κ a w r=>⟨_,fun w' _=>by
  have h:=r.lit hx ho
  simp [execOp,resolve,invoke,builtin,Builtin.len_,run_underlying ht,h,goInt],.pv (.lit _)⟩) hK
def byteAt (s:ByteArray) (n:Nat):Int:=((s.data.toList.getD n 0).toNat:Nat)
theorem AOps.index_str {x y:Operand} {t:TypeId} {s:ByteArray} {ik:IntKind} {n:Nat} (hx:δ.ev x=litS s) (hy:δ.ev y=.pv (.lit (.int ik (n:Int)))) (ht:P.underlying t=some .string) (ho:okT x=true) (ho':okT y=true) (hd:okD δ.n dst=true) (hn:n<s.size)
  (hK:AOps q P g ops rest Q (δ.putd dst (.pv (.lit (.int .u8 (byteAt s n)))))):AOps q P g ops (⟨dst,.index t x y,ty,pos,af,none⟩::rest) Q δ:=
 AOps.valw _ hd (fun κ a w r=>⟨_,fun w' _=>by
  have h:=r.lit hx ho
  have h2:=r.lit hy ho'
  have h3:=run_index_string (P:=P) w' t s ik n ht
  rw[dif_pos ⟨by omega,by omega⟩] at h3
  have e:s[((n:Int)).toNat]'(by omega)=s.data.toList.getD n 0:=by
   have h':n<s.data.toList.length:=by simpa using hn
   rw[List.getD,List.getElem?_eq_getElem h']
   simp
   rfl
  simp only[execOp,h,h2,Sem.run_bind,h3,Result.andThen_ok]
  rw[e]
  rfl,.pv (.lit _)⟩) hK
theorem AOps.slice_strT {x y:Operand} {t:TypeId} {s:ByteArray} {n:Int} (hx:δ.ev x=litS s) (hy:δ.ev y=litI n) (ht:P.underlying t=some .string) (ho:okT x=true) (ho':okT y=true) (hd:okD δ.n dst=true) (h0:0≤n) (hn:n≤s.size)
  (hK:AOps q P g ops rest Q (δ.putd dst (litS (s.extract 0 n.toNat)))):AOps q P g ops (⟨dst,.slice t x none (some y) none,ty,pos,af,none⟩::rest) Q δ:=
 AOps.valw _ hd (fun κ a w r=>⟨_,fun w' _=>by
  have h:=r.lit hx ho
  have h2:=r.lit hy ho'
  have h3:=run_slice_string_to_if (P:=P) w' t s .i64 n ht
  rw[if_pos ⟨h0,hn⟩] at h3
  simp only[execOp,h,h2,Option.map_none,Option.map_some,Sem.run_bind,run_sliceAt_string w' t _ _ _ _ ht,h3,Result.andThen_ok]
  rfl,.pv (.lit _)⟩) hK
end Go.Ab
/- Values of interface type,type switches;a string appended to a row of bytes. -/
namespace Go.Ab
open Go Go.RowKit
variable {q:Md} {P:Program} {g:Ghost} {δ:DS} {κ:Nat→Option Nat} {a:Act} {w:World}
variable {ops:Array Oper} {rest:List Oper} {Q:Exit→DS→Prop} {dst:Option Nat} {ty:TypeId} {pos:String} {af:Array Edge}
theorem AOps.makeIfc {t:TypeId} {x:Operand} {v:Value} (hx:δ.ev x=.pv (.lit v)) (hc:P.concrete t=true) (ho:okT x=true) (hd:okD δ.n dst=true) (hK:AOps q P g ops rest Q (δ.putd dst (.pv (.lit (.iface t v))))):
  AOps q P g ops (⟨dst,.makeInterface t x,ty,pos,af,none⟩::rest) Q δ:=
 AOps.valw _ hd (fun κ a w r=>⟨.iface t v,fun w' _=>by
  have h:=r.lit hx ho
  simp only[execOp,h,Sem.run_bind,run_makeInterface w' t v hc,Result.andThen_ok]
  rfl,.pv (.lit _)⟩) hK
theorem run_ta_yes {t xt:TypeId} {v:Value} (h:P.concrete t=true) (w:World):(Instr.typeAssert (.iface t v) xt t true).run P w=.ok (.tuple #[v,.bool true]) w:=by
 unfold Program.concrete at h
 cases hd:P.underlying t with
 |none=>simp [hd] at h
 |some d=>cases d<;>first|(simp [hd] at h;done)|simp [Instr.typeAssert,run_underlying hd]
theorem run_ta_no {t u xt:TypeId} {v z:Value} (h:P.concrete u=true) (hne:Nat.beq t u=false) (hz:(P.info? u).map (fun i=>i.zero)=some (some z)) (w:World):(Instr.typeAssert (.iface t v) xt u true).run P w=.ok (.tuple #[z,.bool false]) w:=by
 have hne':t≠u:=fun e=>by subst e;simp at hne
 obtain⟨i0,h0,h1⟩:∃i0,P.info? u=some i0∧i0.zero=some z:=by
  cases h:P.info? u with
  |none=>rw[h] at hz;simp at hz
  |some i0=>rw[h] at hz;simp at hz;exact⟨i0,rfl,hz⟩
 unfold Program.concrete at h
 cases hd:P.underlying u with
 |none=>simp [hd] at h
 |some d=>cases d<;>first|(simp [hd] at h;done)|simp [Instr.typeAssert,run_underlying hd,hne',zeroValue,typeInfo,h0,h1]
theorem AOps.taY {t xt:TypeId} {x:Operand} {v:Value} (hx:δ.ev x=.pv (.lit (.iface t v))) (hc:P.concrete t=true) (ho:okT x=true) (hd:okD δ.n dst=true) (hK:AOps q P g ops rest Q (δ.putd dst (.tup [.pv (.lit v),litB true]))):
  AOps q P g ops (⟨dst,.typeAssert x xt t true,ty,pos,af,none⟩::rest) Q δ:=
 AOps.valw _ hd (fun κ a w r=>⟨.tuple #[v,.bool true],fun w' _=>by
  have h:=r.lit hx ho
  simp only[execOp,h,Sem.run_bind,run_ta_yes hc,Result.andThen_ok]
  rfl,.tup rfl fun j u c h1 h2=>by
   match j,h1,h2 with
   |0,h1,h2=>simp at h1 h2;subst h1;subst h2;exact .pv (.lit _)
   |1,h1,h2=>simp at h1 h2;subst h1;subst h2;exact .pv (.lit _)
   |j+2,h1,h2=>simp at h2⟩) hK
theorem AOps.taN {t u xt:TypeId} {x:Operand} {v z:Value} (hx:δ.ev x=.pv (.lit (.iface t v))) (hne:Nat.beq t u=false) (hc:P.concrete u=true) (hz:(P.info? u).map (fun i=>i.zero)=some (some z)) (ho:okT x=true) (hd:okD δ.n dst=true) (hK:AOps q P g ops rest Q (δ.putd dst (.tup [.pv (.lit z),litB false]))):
  AOps q P g ops (⟨dst,.typeAssert x xt u true,ty,pos,af,none⟩::rest) Q δ:=
 AOps.valw _ hd (fun κ a w r=>⟨.tuple #[z,.bool false],fun w' _=>by
  have h:=r.lit hx ho
  simp only[execOp,h,Sem.run_bind,run_ta_no hc hne hz,Result.andThen_ok]
  rfl,.tup rfl fun j u c h1 h2=>by
   match j,h1,h2 with
   |0,h1,h2=>simp at h1 h2;subst h1;subst h2;exact .pv (.lit _)
   |1,h1,h2=>simp at h1 h2;subst h1;subst h2;exact .pv (.lit _)
   |j+2,h1,h2=>simp at h2⟩) hK
theorem AOps.taYe {t xt:TypeId} {x:Operand} {v:Value} {p:PV} (hx:δ.ev x=.pv p) (hp:p=.lit (.iface t v)) (hc:P.concrete t=true) (ho:okT x=true) (hd:okD δ.n dst=true) (hK:AOps q P g ops rest Q (δ.putd dst (.tup [.pv (.lit v),litB true]))):
  AOps q P g ops (⟨dst,.typeAssert x xt t true,ty,pos,af,none⟩::rest) Q δ:=AOps.taY (by rw[hx,hp]) hc ho hd hK
theorem AOps.taNe {t u xt:TypeId} {x:Operand} {v z:Value} {p:PV} (hx:δ.ev x=.pv p) (hp:p=.lit (.iface t v)) (hne:Nat.beq t u=false) (hc:P.concrete u=true) (hz:(P.info? u).map (fun i=>i.zero)=some (some z)) (ho:okT x=true) (hd:okD δ.n dst=true) (hK:AOps q P g ops rest Q (δ.putd dst (.tup [.pv (.lit z),litB false]))):
  AOps q P g ops (⟨dst,.typeAssert x xt u true,ty,pos,af,none⟩::rest) Q δ:=AOps.taN (by rw[hx,hp]) hne hc hz ho hd hK
def bytesE (l:List UInt8):List (List PV):=l.map fun b=>[.lit (.int .u8 b.toNat)]
theorem bytesE_len (l:List UInt8):(bytesE l).length=l.length:=by simp [bytesE]
theorem bytesE_cell {l:List UInt8} {i j:Nat} {p:PV} (h:cellAt (bytesE l) i j=some p):j=0∧∃b,l[i]? =some b∧p=.lit (.int .u8 b.toNat):=by
 unfold cellAt bytesE at h
 rw[List.getElem?_map] at h
 cases hb:l[i]? with
 |none=>rw[hb] at h;simp at h
 |some b=>
  rw[hb] at h
  cases j with
  |zero=>simp at h;exact⟨rfl,b,rfl,h.symm⟩
  |succ j=>simp at h
theorem append_str_core (r:Rel g δ κ a w) {i:Nat} {e t u:TypeId} {l:List UInt8} {v:Value} {s:ByteArray} (ho:δ.ob i=some .row) (hv:OwnV (δ.cx g κ) w v i e 1 (bytesE l)) (ht:P.underlying t=some (.slice e)) (hu:P.underlying u=some .string)
  (hi:(P.info? e).map (fun i=>(i.size,i.zero,i.bytes))=some (1,some (.int .u8 0),1)) (hl:l.length+s.size≤140737488355328):
  ∃v' w' κ',(Builtin.append_ #[t,u] ty #[v,.string s]).run P w=.ok v' w'∧Rel g (δ.mapV (AV.kill i)) κ' a w'∧OwnV ((δ.mapV (AV.kill i)).cx g κ') w' v' i e 1 (bytesE (l++s.data.toList)):=by
 obtain⟨i0,hi0,hs0,hz0,hb0⟩:∃i0,P.info? e=some i0∧i0.size=1∧i0.zero=some (.int .u8 0)∧i0.bytes=1:=by
  cases h:P.info? e with
  |none=>rw[h] at hi;simp at hi
  |some i0=>rw[h] at hi;simp at hi;exact⟨i0,rfl,hi.1,hi.2.1,hi.2.2⟩
 obtain⟨hlr,hlim,hk,hblk,xs,hown,h1,hxs⟩:=hv
 rw[bytesE_len] at hown hlim
 have hml:l.length+s.size≤maxLen:=by simp only[maxLen];omega
 have hB:g.B≤w.heap.size:=r.hB
 obtain⟨v',w',hrun,hown',hgrow,_⟩:=Lib.run_append_own_string (P:=P) w g.B t u ty e i0 ht hu hi0 hz0 hs0 hb0 v l.length xs hown s hml hl hB
 have hκi:∀b,v.ownBlock=some b→κ i=some b:=hblk
 have hT:Turns w w' (κ i):=by
  cases hob:v.ownBlock with
  |none=>rw[hob] at hgrow;exact⟨hgrow.os,hgrow.tape,hgrow.output,hgrow.size,fun k' hk' _=>hgrow.block k' hk' (by simp)⟩
  |some b=>rw[hob] at hgrow;rw[hκi b hob];exact Turns.grownBy hgrow
 let κ':Nat→Option Nat:=upd κ i v'.ownBlock
 have hκo:∀j,j≠i→κ' j=κ j:=fun j hj=>by show upd _ _ _ _=_;simp [upd,Ne.symm hj]
 have hκ'i:κ' i=v'.ownBlock:=by show upd _ _ _ _=_;simp [upd]
 have hnew:∀b,κ' i=some b→(κ i=some b∨w.heap.size≤b)∧b<w'.heap.size∧∃c e,w'.heap[b]? =some (.cells c e (0,0)):=by
  intro b hb'
  rw[hκ'i] at hb'
  rcases hown'.2 with ⟨rfl,_⟩|⟨b',cap,cur,rfl,h2,h3,_⟩
  ·simp [Value.ownBlock] at hb'
  ·simp only[Value.ownBlock,Option.some.injEq] at hb'
   subst hb'
   refine⟨?_,(Array.getElem?_eq_some_iff.1 h3).1,cur,e,h3⟩
   by_cases hlt:w.heap.size≤b'
   ·exact .inr hlt
   ·left
    have hlt':b'<w.heap.size:=by omega
    rcases hown.2 with ⟨rfl,h0⟩|⟨b0,cap0,cur0,rfl,h4,h5,h6⟩
    ·exfalso
     by_cases hm:s.size=0
     ·have hf:=Lib.run_firstCells_string (P:=P) w 1 s
      have hn:Lib.strCells s=[]:=List.eq_nil_of_length_eq_zero (by rw[Lib.strCells_length];exact hm)
      rw[hm,hn] at hf
      have hr2:(Builtin.append_ #[t,u] ty #[.slice none 0 0,.string s]).run P w=.ok (.slice none 0 0) w:=by
       simp [Builtin.append_,run_underlying ht,run_underlying hu,sizeOf,typeInfo,hi0,hs0,Builtin.lenOf,hm,hf]
      rw[hr2] at hrun
      simp at hrun
     ·have hr2:=run_append_nil_string (P:=P) w t u ty e i0 (.int .u8 0) ht hu hi0 hz0 s (by omega) (by omega) (by rw[hb0];omega)
      rw[hr2] at hrun
      simp only[Result.ok.injEq,Value.slice.injEq,Option.some.injEq,Addr.mk.injEq] at hrun
      omega
    ·rw[hκi b0 rfl]
     by_cases hbb:b'=b0
     ·rw[hbb]
     ·exfalso
      by_cases hroom:l.length+s.size≤cap0
      ·have hr2:=Lib.run_append_room_string (P:=P) w t u ty e i0 ht hu hi0 hs0 b0 l.length cap0 cur0 h5 s hroom (by have:=h6.2.2.1;simp at this;omega)
       rw[hr2] at hrun
       simp only[Result.ok.injEq,Value.slice.injEq,Option.some.injEq,Addr.mk.injEq] at hrun
       exact hbb hrun.1.1.1.symm
      ·have hr2:=Lib.run_append_grow_string (P:=P) w t u ty e i0 (.int .u8 0) ht hu hi0 hz0 ⟨b0,0,none⟩ l.length cap0 xs (by rw[hs0];exact hown.1) (hown.cells (g:=b0) rfl) s (by omega) (by omega) (by rw[hb0];exact growslice_fits (by omega) (by omega))
       rw[hr2] at hrun
       simp only[Result.ok.injEq,Value.slice.injEq,Option.some.injEq,Addr.mk.injEq] at hrun
       omega
 obtain⟨r',G⟩:=r.row ho hκo hT hnew (AV.kill i) rfl (fun G v av h=>h.kill G)
 refine⟨v',w',κ',hrun,r',?_⟩
 have hsl:s.data.toList.length=s.size:=by rw[Array.length_toList];rfl
 refine⟨?_,by rw[bytesE_len,List.length_append,hsl];exact hl,fun c hc=>?_,fun b hb'=>hκ'i.trans hb',xs++Lib.strCells s,by rw[bytesE_len,List.length_append,hsl];exact hown',fun u hu=>(List.mem_append.1 hu).elim (h1 u) (Lib.strCells_oneCell s u),fun i' j p hp=>?_⟩
 ·show(δ.mapV _).ob i=_
  rw[ob_mapV,ho];rfl
 ·unfold bytesE at hc
  obtain⟨b,_,rfl⟩:=List.mem_map.1 hc
  rfl
 ·obtain⟨rfl,b,hb,rfl⟩:=bytesE_cell hp
  refine⟨.int .u8 b.toNat,?_,.lit _⟩
  have hxl:xs.length=l.length:=by simpa using hown.1
  simp only[Nat.mul_one,Nat.add_zero]
  by_cases hlt:i'<l.length
  ·rw[List.getElem?_append_left hlt] at hb
   rw[List.getElem?_append_left (by omega)]
   obtain⟨u,h3,h4⟩:=hxs i' 0 (.lit (.int .u8 b.toNat)) (by unfold cellAt bytesE;rw[List.getElem?_map,hb];rfl)
   simp only[Nat.mul_one,Nat.add_zero] at h3
   rw[h3]
   cases h4
   rfl
  ·rw[List.getElem?_append_right (by omega)] at hb
   rw[List.getElem?_append_right (by omega),hxl]
   unfold Lib.strCells
   rw[List.getElem?_map,hb]
   rfl
theorem run_append_opS {gd:Option (Tmp×Bool)} {s x:Operand} {t u:TypeId} {ρ:Operand→Value} {v:Value} {w':World} (h:(Builtin.append_ #[t,u] ty #[ρ s,ρ x]).run P w=.ok v w'):
  (execOp ρ ⟨dst,.call {callee:=.builtin .append,args:= #[s,x],argTypes:= #[t,u]},ty,pos,af,gd⟩).run P w=.ok (.value v) w':=by
 simp only[execOp,resolve,invoke,builtin,Sem.run_bind,Sem.run_pure,Result.andThen_ok,List.map_toArray,List.map_cons,List.map_nil,h]
theorem Eff.append_str {gd:Option (Tmp×Bool)} {s x:Operand} {t u e:TypeId} {i:Nat} {l:List UInt8} {z:ByteArray} (hs:δ.ev s=.own i e 1 (bytesE l)) (hx:δ.ev x=litS z) (hr:δ.ob i=some .row) (ht:P.underlying t=some (.slice e)) (hu:P.underlying u=some .string)
  (hi:(P.info? e).map (fun i=>(i.size,i.zero,i.bytes))=some (1,some (.int .u8 0),1)) (ho:okT s=true) (ho':okT x=true) (hd:okD δ.n dst=true) (hl:l.length+z.size≤140737488355328):
  Eff P g ⟨dst,.call {callee:=.builtin .append,args:= #[s,x],argTypes:= #[t,u]},ty,pos,af,gd⟩ δ ((δ.mapV (AV.kill i)).putd dst (.own i e 1 (bytesE (l++z.data.toList)))):=by
 intro κ a w r
 obtain⟨v',w',κ',h1,h2,h3⟩:=append_str_core (ty:=ty) r hr (r.ra hs ho).own_inv ht hu hi hl
 rw[← r.lit hx ho'] at h1
 exact .inl ⟨_,_,_,_,run_append_opS h1,.inl rfl,h2.putd (okD_spec hd) (.own h3)⟩
theorem AOps.append_str {s x:Operand} {t u e:TypeId} {i:Nat} {l:List UInt8} {z:ByteArray} (hs:δ.ev s=.own i e 1 (bytesE l)) (hx:δ.ev x=litS z) (hr:δ.ob i=some .row) (ht:P.underlying t=some (.slice e)) (hu:P.underlying u=some .string)
  (hi:(P.info? e).map (fun i=>(i.size,i.zero,i.bytes))=some (1,some (.int .u8 0),1)) (ho:okT s=true) (ho':okT x=true) (hd:okD δ.n dst=true) (hl:l.length+z.size≤140737488355328)
  (hK:AOps .plain P g ops rest Q ((δ.mapV (AV.kill i)).putd dst (.own i e 1 (bytesE (l++z.data.toList))))):AOps .plain P g ops (⟨dst,.call {callee:=.builtin .append,args:= #[s,x],argTypes:= #[t,u]},ty,pos,af,none⟩::rest) Q δ:=
 AOps.eff rfl rfl (Eff.append_str hs hx hr ht hu hi ho ho' hd hl) hK
theorem AOps.append_str0 {s x:Operand} {t u e:TypeId} {i:Nat} {z:ByteArray} (hs:δ.ev s=.own i e 1 []) (hx:δ.ev x=litS z) (hr:δ.ob i=some .row) (ht:P.underlying t=some (.slice e)) (hu:P.underlying u=some .string)
  (hi:(P.info? e).map (fun i=>(i.size,i.zero,i.bytes))=some (1,some (.int .u8 0),1)) (ho:okT s=true) (ho':okT x=true) (hd:okD δ.n dst=true) (hl:z.size≤140737488355328)
  (hK:AOps .plain P g ops rest Q ((δ.mapV (AV.kill i)).putd dst (.own i e 1 (bytesE z.data.toList)))):AOps .plain P g ops (⟨dst,.call {callee:=.builtin .append,args:= #[s,x],argTypes:= #[t,u]},ty,pos,af,none⟩::rest) Q δ:=
 AOps.append_str (l:=[]) hs hx hr ht hu hi ho ho' hd (by simpa using hl) hK
theorem AOps.slice_strF {x y:Operand} {t:TypeId} {s:ByteArray} {n:Int} (hx:δ.ev x=litS s) (hy:δ.ev y=litI n) (ht:P.underlying t=some .string) (ho:okT x=true) (ho':okT y=true) (hd:okD δ.n dst=true) (h0:0≤n) (hn:n≤s.size)
  (hK:AOps q P g ops rest Q (δ.putd dst (litS (s.extract n.toNat s.size)))):AOps q P g ops (⟨dst,.slice t x (some y) none none,ty,pos,af,none⟩::rest) Q δ:=
 AOps.valw _ hd (fun κ a w r=>⟨_,fun w' _=>by
  have h:=r.lit hx ho
  have h2:=r.lit hy ho'
  have h3:=run_slice_string_from_if (P:=P) w' t s .i64 n ht
  rw[if_pos ⟨h0,hn⟩] at h3
  simp only[execOp,h,h2,Option.map_none,Option.map_some,Sem.run_bind,run_sliceAt_string w' t _ _ _ _ ht,h3,Result.andThen_ok]
  rfl,.pv (.lit _)⟩) hK
section ints
variable {x y:Operand} {t t':TypeId} {m n:Int} {k:IntKind} (hx:δ.ev x=.pv (.lit (.int k m))) (hy:δ.ev y=.pv (.lit (.int k n))) (ho:okT x=true) (ho':okT y=true) (hd:okD δ.n dst=true)
include hx hy ho ho' hd
theorem AOps.geqU (hK:AOps q P g ops rest Q (δ.putd dst (litB (decide (n≤m))))):AOps q P g ops (⟨dst,.binOp .geq t x y t',ty,pos,af,none⟩::rest) Q δ:=
 AOps.bin hx hy ho ho' (run_int _ _ _ _ _ _ _ _ (by simp) rfl) hd hK
theorem AOps.leqU (hK:AOps q P g ops rest Q (δ.putd dst (litB (decide (m≤n))))):AOps q P g ops (⟨dst,.binOp .leq t x y t',ty,pos,af,none⟩::rest) Q δ:=
 AOps.bin hx hy ho ho' (run_int _ _ _ _ _ _ _ _ (by simp) rfl) hd hK
theorem AOps.lssU (hK:AOps q P g ops rest Q (δ.putd dst (litB (decide (m<n))))):AOps q P g ops (⟨dst,.binOp .lss t x y t',ty,pos,af,none⟩::rest) Q δ:=
 AOps.bin hx hy ho ho' (run_int _ _ _ _ _ _ _ _ (by simp) rfl) hd hK
end ints
theorem run_neq_in {t:TypeId} {ms:Array (String×TypeId)} (ht:P.underlying t=some (.interface ms)) (u:TypeId) (v:Value) (w:World):(Go.binOp .neq t (.iface u v) .nilIface).run P w=.ok (.bool true) w:=by
 have h:∀d:Nat,(Op.equalIn (d+1) t (.iface u v) .nilIface).run P w=.ok false w:=fun d=>by simp [Op.equalIn,run_underlying ht]
 simp only[Go.binOp]
 simp [Op.equal,Op.maxDepth,h 9999]
theorem run_neq_nn {t:TypeId} {ms:Array (String×TypeId)} (ht:P.underlying t=some (.interface ms)) (w:World):(Go.binOp .neq t .nilIface .nilIface).run P w=.ok (.bool false) w:=by
 have h:∀d:Nat,(Op.equalIn (d+1) t .nilIface .nilIface).run P w=.ok true w:=fun d=>by simp [Op.equalIn,run_underlying ht]
 simp only[Go.binOp]
 simp [Op.equal,Op.maxDepth,h 9999]
theorem AOps.neqIN {x y:Operand} {t t' u:TypeId} {v:Value} {ms:Array (String×TypeId)} (hx:δ.ev x=.pv (.lit (.iface u v))) (hy:δ.ev y=.pv (.lit .nilIface)) (ht:P.underlying t=some (.interface ms)) (ho:okT x=true) (ho':okT y=true) (hd:okD δ.n dst=true)
  (hK:AOps q P g ops rest Q (δ.putd dst (litB true))):AOps q P g ops (⟨dst,.binOp .neq t x y t',ty,pos,af,none⟩::rest) Q δ:=
 AOps.bin hx hy ho ho' (fun w=>by
  have h1:(eqGuard .neq t x y (.iface u v) .nilIface).run P w=.ok () w:=rfl
  rw[Sem.run_bind,h1,Result.andThen_ok,run_neq_in ht]) hd hK
theorem AOps.neqNN {x:Operand} {c:Value} {t t':TypeId} {ms:Array (String×TypeId)} (hx:δ.ev x=.pv (.lit .nilIface)) (hc:c=.nilIface) (ht:P.underlying t=some (.interface ms)) (ho:okT x=true) (hd:okD δ.n dst=true)
  (hK:AOps q P g ops rest Q (δ.putd dst (litB false))):AOps q P g ops (⟨dst,.binOp .neq t x (.const c) t',ty,pos,af,none⟩::rest) Q δ:=
 AOps.bin hx (by subst hc;rfl) ho rfl (fun w=>by
  rw[Sem.run_bind,eqGuard_nil_constR]
  exact run_neq_nn ht w) hd hK
structure FnWE (T:World→Prop) (P:Program) (f:FuncId) (args:List AV) {α:Type} (R:α→AV):Prop where
 enters:∀vals w,(callFunc f vals).run P w=.ok (.enter f vals) w
 calls:∀(N:Nat→Prop) (w:World) (vals:Array Value),T w→(∀b,w.heap.size≤b→N b)→vals.size=args.length→
  (∀(j:Nat) (v:Value) (av:AV),vals[j]? =some v→args[j]? =some av→RA (pcx N) w v av)→
  Calls P f vals w fun e w'=>∃v x,e=.returned v∧RA (pcx N) w' v (R x)∧Below w.heap.size w w'
theorem AOps.callWE {T:World→Prop} {f:FuncId} {xs:List Operand} {tys:Array TypeId} {args:List AV} {α:Type} {R:α→AV} (hT:TB T g) (hf:FnWE T P f args R) (hargs:Args false δ xs args) (hd:okD δ.n dst=true)
  (hK:∀x,AOps .plain P g ops rest Q (δ.putd dst (R x))):AOps .plain P g ops (⟨dst,.call {callee:=.value (.func f),args:=xs.toArray,argTypes:=tys},ty,pos,af,none⟩::rest) Q δ:=by
 intro κ a w r0
 show wpListIn _ _ P ops _ (_::rest) a w
 refine wpl_plain rfl rfl fun K hK'=>?_
 unfold Oper.wpF
 rw[run_call (f:=f) rfl hf.enters,Oper.uponIn_enter]
 refine⟨fun h=>by simp at h,(callsIn_any (hf.calls (fun b=>(δ.cx g κ).N b∨w.heap.size≤b) w _ (hT.at r0 (Below.refl _ _)) (fun _ h=> .inr h) (by simp [hargs.len]) (hargs.ras r0 (fun _ _ h=> .inl h) (fun h=>by simp at h)))).mono ?_⟩
 rintro e w' ⟨v,x,rfl,hv,hb⟩
 have r1:=r0.ext hb
 refine hK' _ _ (hK x _ _ _ (r1.putd (okD_spec hd) (hv.of_pcx _ fun b _ h=>?_)))
 rcases h with h|h
 ·exact h
 ·refine⟨r0.N0new h,fun i hi e=>?_⟩
  have:=(r0.lo i b hi e).2
  omega
end Go.Ab
