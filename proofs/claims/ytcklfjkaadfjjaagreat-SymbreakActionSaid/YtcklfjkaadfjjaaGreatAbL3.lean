/- A call of a function value that is told: a function of the program's, nothing captured. -/
import Derived.Test.YtcklfjkaadfjjaaGreatAbL2
import Derived.Laws.Small
import Derived.Scope
import Derived.Sort.Row
import Derived.Sort.Grow
import Derived.Lib.AppendZeros
set_option linter.unusedSimpArgs false
set_option linter.unusedVariables false
namespace Go.Ab
open Go Go.RowKit
variable {P:Program} {g:eY} {δ:DS} {κ:Kp} {a:Act} {w:World}
variable {ops:Array Oper} {rest:List Oper} {Q:Exit→DS→Prop} {dst:Option Nat} {ty:TypeId} {pos:String} {af:Array Edge}
theorem Ye {C:Cx} {w:World} {v:Value} {f:Go.Fn} (h:RA C w v (.jd f [] [])):v=.func f #[] #[]:=by
 cases h with
 |jd hs h ht h'=>
  rename_i vs us
  have e1:vs= #[]:=Array.eq_empty_of_size_eq_zero (by simpa using hs)
  have e2:us= #[]:=Array.eq_empty_of_size_eq_zero (by simpa using ht)
  rw[e1,e2]
theorem a_.DU {q:Md} {f:FuncId} {xs:List Operand} {tys:Array TypeId} {args:List AV} {r:AV} {y:Operand} (hy:δ.ev y=.jd (.func f) [] []) (np:fk y=true) (hf:Fn P f args r) (gp:rV true δ xs args) (oY:r.wz=true) (hd:gb δ.n dst=true) (hq:q≠ .held)
  (hK:a_ q P g ops rest Q (δ.eZ dst r)):a_ q P g ops (⟨dst,.call {callee:=.value y,args:=xs.toArray,argTypes:=tys},ty,pos,af,none⟩::rest) Q δ:=by
 intro κ a w r0
 have FN:a.eval y=.func (.func f) #[] #[]:=Ye (hy▸r0.C5 y (iK np))
 have hc:∀w',Below w.heap.size w w'→Calls P f (xs.toArray.map a.eval) w' fun e w''=>e=.returned r.out∧Below w'.heap.size w' w'':=fun w' ly=>
  (hf.calls (fun _=>True) w' _ (fun _ _=>trivial) (by simp [gp.len]) (gp.Vf (r0.ext ly) (fun _ _ _=>trivial) (fun _ _ _ _ _=>trivial))).mono (by
   rintro e w'' ⟨v,rfl,hv,hb⟩
   exact⟨by rw[hv.wz (AV.nB (C:=yA (fun _=>True)) (w:=w) oY) oY],hb⟩)
 have zI:=hK κ _ _ (r0.eZ (fE hd) (AV.nB oY))
 cases q with
 |quiet=>
  show wpQuiet P ops _ _ (_::rest) a
  unfold wpQuiet
  rw[if_pos (by simp [Region.wanted])]
  refine⟨r.out,fun w' ly=>?_,zI⟩
  unfold Oper.quietAt
  rw[mD (f:=f) FN hf.enters]
  exact⟨rfl,(hc w' ly).mono fun e w'' ⟨h1,h2⟩=>⟨h1,ly.trans (h2.mono ly.size)⟩⟩
 |held=>exact absurd rfl hq
 |plain=>
  show wpListIn _ _ P ops _ (_::rest) a w
  refine iu rfl rfl fun K rf=>?_
  unfold Oper.AL
  rw[mD (f:=f) FN hf.enters,Oper.uponIn_enter]
  refine⟨fun h=>by simp at h,(kb (hc w (Below.refl _ _))).mono ?_⟩
  rintro e w' ⟨rfl,hb⟩
  exact rf _ _ (hK κ _ _ ((r0.ext hb).eZ (fE hd) (AV.nB oY)))
end Go.Ab
/- min and max of two numbers. -/
namespace Go.Ab
open Go Go.RowKit
variable {P:Program} {g:eY} {δ:DS} {q:Md}
variable {ops:Array Oper} {rest:List Oper} {Q:Exit→DS→Prop} {dst:Option Nat} {ty:TypeId} {pos:String} {af:Array Edge}
theorem a_.max2 {x y:Operand} {tys:Array TypeId} {m n:Int} (hx:δ.ev x=eU m) (hy:δ.ev y=eU n) (ho:fk x=true) (gi:fk y=true) (hd:gb δ.n dst=true)
  (hK:a_ q P g ops rest Q (δ.eZ dst (eU (max m n)))):a_ q P g ops (⟨dst,.call {callee:=.builtin .max,args:= #[x,y],argTypes:=tys},ty,pos,af,none⟩::rest) Q δ:=
 a_.jK _ hd (fun κ a w r=>⟨.int .i64 (max m n),fun w' _=>by
  have h1:=r.lit hx ho
  have h2:=r.lit hy gi
  have h3:(if n>m then n else m)=max m n:=by split<;>omega
  simp [execOp,resolve,invoke,builtin,h1,h2,run_max_int2,h3],.pv (.lit _)⟩) hK
theorem a_.min2 {x y:Operand} {tys:Array TypeId} {m n:Int} (hx:δ.ev x=eU m) (hy:δ.ev y=eU n) (ho:fk x=true) (gi:fk y=true) (hd:gb δ.n dst=true)
  (hK:a_ q P g ops rest Q (δ.eZ dst (eU (min m n)))):a_ q P g ops (⟨dst,.call {callee:=.builtin .min,args:= #[x,y],argTypes:=tys},ty,pos,af,none⟩::rest) Q δ:=
 a_.jK _ hd (fun κ a w r=>⟨.int .i64 (min m n),fun w' _=>by
  have h1:=r.lit hx ho
  have h2:=r.lit hy gi
  have h3:(if n<m then n else m)=min m n:=by split<;>omega
  simp [execOp,resolve,invoke,builtin,h1,h2,run_min_int2,h3],.pv (.lit _)⟩) hK
theorem a_.sD {fn:Go.Fn} {x y:Operand} {u1 u2:AV} (hx:δ.ev x=u1) (hy:δ.ev y=u2) (ho:fk x=true) (gi:fk y=true) (hd:gb δ.n dst=true) (hK:a_ q P g ops rest Q (δ.eZ dst (.jd fn [] [u1,u2]))):a_ q P g ops (⟨dst,.makeFunc fn #[] #[x,y],ty,pos,af,none⟩::rest) Q δ:=
 a_.jK _ hd (fun κ a w r=>⟨.func fn #[] #[a.eval x,a.eval y],fun w' _=>by simp [execOp,Instr.makeFunc],.jd rfl (fun j u c h=>by simp at h) rfl (fun j u c h1 h2=>by
  match j with
  |0=>simp at h1 h2;subst h1;subst h2;exact r.ra hx ho
  |1=>simp at h1 h2;subst h1;subst h2;exact r.ra hy gi
  |j+2=>simp at h2)⟩) hK
theorem a_.Fo {fn:Go.Fn} {x y z:Operand} {u1 u2 u3:AV} (hx:δ.ev x=u1) (hy:δ.ev y=u2) (hz:δ.ev z=u3) (ho:fk x=true) (gi:fk y=true) (Sz:fk z=true) (hd:gb δ.n dst=true) (hK:a_ q P g ops rest Q (δ.eZ dst (.jd fn [] [u1,u2,u3]))):a_ q P g ops (⟨dst,.makeFunc fn #[] #[x,y,z],ty,pos,af,none⟩::rest) Q δ:=
 a_.jK _ hd (fun κ a w r=>⟨.func fn #[] #[a.eval x,a.eval y,a.eval z],fun w' _=>by simp [execOp,Instr.makeFunc],.jd rfl (fun j u c h=>by simp at h) rfl (fun j u c h1 h2=>by
  match j with
  |0=>simp at h1 h2;subst h1;subst h2;exact r.ra hx ho
  |1=>simp at h1 h2;subst h1;subst h2;exact r.ra hy gi
  |2=>simp at h1 h2;subst h1;subst h2;exact r.ra hz Sz
  |j+3=>simp at h2)⟩) hK
end Go.Ab
/- Labelled statements whose labels are left by break and continue alone. -/
namespace Go.Ab
open Go Go.RowKit
section
variable {P:Program} {F:Fence} {n:Nat} {a:Act} {w:World} {b:Frame} {k:List Item} {cs:List Frame}
end
variable {P:Program} {g:eY} {δ:DS}
def fA (Q:Exit→DS→Prop):Exit→DS→Prop
 |.goto _,_=>False
 |e,δ=>Q e δ
end Go.Ab
/- Loops over functions within loops over functions:a yield from a round,to a loop some frames above. -/
namespace Go.Ab
open Go Go.RowKit
attribute [local irreducible] HS
variable {P:Program} {g:eY} {δ:DS} {κ:Kp} {a:Act} {w:World}
variable {ops:Array Oper} {rest:List Oper} {Q:Exit→DS→Prop} {dst:Option Nat} {ty:TypeId} {pos:String} {af:Array Edge}
def Sr:Nat→List (Nat×AV)→List (Nat×AV)
 |0,e=>e
 |d+1,e=>gq (Sr d e)
theorem CE:∀(d:Nat) (e:List (Nat×AV)) (j:Nat),look (Sr d e) j=look e (j+d*HS)
 |0,e,j=>by rw[Nat.zero_mul,Nat.add_zero];rfl
 |d+1,e,j=>by
  show look (gq (Sr d e)) j=_
  rw[lJ,CE d e]
  congr 1
  rw[Nat.add_mul,Nat.one_mul];omega
theorem Dh (e1 e:List (Nat×AV)) (j:Nat):look (fR e1++gn e) j=if j<HS then look e1 (j+HS) else look e (j - HS):=by
 by_cases hj:j<HS
 ·rw[if_pos hj]
  rcases oc (fR e1) (gn e) j with h|⟨h1,h2⟩
  ·rw[h,pj,if_pos hj]
  ·have h3:=rE _ _ h1
   rw[pj,if_pos hj] at h3
   rw[h2,kN _ _ hj,h3]
 ·rw[if_neg hj]
  have h1:∀p∈fR e1,p.1≠j:=fun p hp e'=>hj (e'▸tT e1 p hp)
  have:∀(e1:List (Nat×AV)),(∀p∈e1,p.1≠j)→look (e1++gn e) j=look (gn e) j:=by
   intro e1 gz
   induction e1 with
   |nil=>rfl
   |cons p e1 ih=>
    rw[List.cons_append]
    show look ((p.1,p.2)::(e1++gn e)) j=_
    rw[fC,if_neg (gz p (by simp))]
    exact ih fun q hq=>gz q (by simp [hq])
  rw[this _ h1]
  obtain⟨m,rfl⟩:∃m,j=m+HS:=⟨j - HS,by omega⟩
  rw[k8,Nat.add_sub_cancel]
theorem AW.EK {x:Operand} {ps:Array Tmp} {iQ body:Code} {f:FuncId} {first cap:List AV} {fn:Func} {c:Code} {n':Nat} (Gx:g.ro=none) (jz:g.wt=none) (hx:δ.ev x=.jd (.func f) first cap) (ho:fk x=true)
  (hf:P.funcs[f]? =some fn) (hb:fn.body=some c) (SA:fn.results= #[]) (hn:fn.ntmps=n') (hle:Nat.ble (first.length+1+cap.length) n'=true) (P3:Nat.ble n' HS=true) (hX:Nat.ble δ.n HS=true) (he:(fn.name== "runtime.NumGoroutine")=false)
  (h:∀(g':eY) (tm:Array Value) (l:Nat),g'.ro=none→g'.wt=none→(∀j,j<HS→g'.held (j+HS)=tm.getD j undef)→(∀j,g'.held (j+HS+HS)=g.held (j+HS))→tm.size=δ.n→
   AW P g' c (fh δ.n δ.nx l Q) {n:=n',env:=enum 0 (first++ .kS δ.nx::cap)++gn δ.env,fY:=(δ.nx,some (.loop l tm ps iQ body .ready))::δ.fY,nx:=δ.nx+1}):
  AW P g (.rangeFunc x ps iQ body) Q δ:=by
 intro κ a w r
 have oz:=r.ra hx ho
 generalize hv:a.eval x=v at oz
 cases oz with
 | @jd _ vs us _ _ hs zN ht Jt=>
  rw[Gx]
  have IC:first.length+1+cap.length≤n':=by simpa using hle
  have XB:n'≤HS:=by simpa using P3
  obtain⟨ms,G9,BZ,M4⟩:=r.dfr
  refine wpIn_rangeFunc fun fnid _=>?_
  let w1:=w.alloc (.deferred (some []))
  let lp:Loop:={state:=.ready,pending:=none,fn:=fnid,tmps:=a.tmps,params:=ps,assign:=iQ,body,defers:=w.heap.size}
  let w2:=w1.alloc (.loop lp)
  have Nz:w1.heap.size=w.heap.size+1:=by show(w.heap.push _).size=_;simp
  refine⟨w.heap.size+1,[{target:=.collected w.heap.size,args:= #[]}],w2,_,w2,f,vs++ #[.func (.yield (w.heap.size+1)) #[] #[]]++us,w2,run_enterLoop_outer fnid a.tmps ps iQ body,NV hv _ _,fun _ _=>trivial,?_,fun h=>by simp at h,?_⟩
  ·have gz:(fn.name== "runtime.NumGoroutine")=false:=he
   simp [invoke,callFunc,hf,hb]
   simpa using gz
  let g':eY:={B:=g.B,w0:=g.w0,N0:=g.N0,held:=fun j=>g.val a (j - HS),ro:=none,mks:=w.heap.size::(ms++g.mks),wt:=none,fr:=g.fr,w1:=g.w1}
  have hr1:Rel g δ κ a w1:=r.ext ((Below.refl _ _).alloc (Nat.le_refl _) _)
  obtain⟨y7,G⟩:=hr1.grow (.loop (w.heap.size+1) a.tmps ps iQ body .ready) (.loop lp) (fun C G hκ=>⟨_,lp,hκ,heap_alloc_new w1 _,Nz,rfl,rfl,rfl,rfl,rfl,rfl⟩)
  let κ2:=ix κ δ.nx (some w1.heap.size)
  have hκ2:κ2 δ.nx=some (w.heap.size+1):=by show ix _ _ _ _=_;simp [ix,Nz]
  let δ2:DS:={n:=n',env:=enum 0 (first++ .kS δ.nx::cap)++gn δ.env,fY:=(δ.nx,some (.loop (w.heap.size+1) a.tmps ps iQ body .ready))::δ.fY,nx:=δ.nx+1}
  have M3:δ2.cx g' κ2=(δ.fM (.loop (w.heap.size+1) a.tmps ps iQ body .ready)).cx g κ2:=rfl
  have IT:∀(e1 e2:List (Nat×AV)) (j:Nat),look (e1++e2) j=look e1 j∨(look e1 j=.any∧look (e1++e2) j=look e2 j):=by
   intro e1 e2 j
   induction e1 with
   |nil=>exact .inr ⟨rfl,rfl⟩
   |cons p e1 ih=>
    obtain⟨i,v⟩:=p
    rw[List.cons_append,fC,fC]
    by_cases e:i=j
    ·rw[if_pos e,if_pos e];exact .inl rfl
    ·rw[if_neg e,if_neg e];exact ih
  let args:Array Value:=vs++ #[.func (.yield (w.heap.size+1)) #[] #[]]++us
  have mX:args.size=first.length+1+cap.length:=by simp [args];omega
  have mS:Rel g' δ2 κ2 {tmps:=args++Array.replicate (fn.ntmps - args.size) undef,defers:=[]} w2:=
   {n:=by show(args++Array.replicate (fn.ntmps - args.size) undef).size=n';rw[Array.size_append,Array.size_replicate,hn,mX];omega
    dfr:=⟨[],rfl,by
      show(w.heap.size::(ms++g.mks)).Nodup
      refine List.nodup_cons.2 ⟨fun Zg=>?_,BZ⟩
      have:=iM (M4 _ Zg).2
      omega,fun k hk=>by
      rw[List.nil_append] at hk
      rcases List.mem_cons.1 hk with rfl|hk
      ·refine⟨r.hB,?_⟩
       rw[show w2.heap[w.heap.size]? =w1.heap[w.heap.size]? from Below.heap_alloc w1 _ _ aG]
       exact heap_alloc_new w _
      ·have h3:=M4 k hk
       have ft:=iM h3.2
       refine⟨h3.1,?_⟩
       rw[show w2.heap[k]? =w1.heap[k]? from Below.heap_alloc w1 _ _ aG,show w1.heap[k]? =w.heap[k]? from Below.heap_alloc w _ _ ft]
       exact h3.2⟩
    env:=fun j=>by
     rw[M3]
     by_cases hj:j<HS
     ·have s_:g'.val {tmps:=args++Array.replicate (fn.ntmps - args.size) undef,defers:=[]} j=(args++Array.replicate (fn.ntmps - args.size) undef).getD j undef:=if_pos hj
      rw[s_]
      have ot:δ2.get j=look (enum 0 (first++ .kS δ.nx::cap)) j:=by
       rcases IT (enum 0 (first++ .kS δ.nx::cap)) (gn δ.env) j with h1|⟨h1,h2⟩
       ·exact h1
       ·show look (_++_) j=_
        rw[h2,h1,kN _ _ hj]
      rw[ot]
      by_cases TJ:j<args.size
      ·have hl:j<(first++ .kS δ.nx::cap).length:=by simp;omega
       rw[oU _ 0 j ((first++ .kS δ.nx::cap)[j]) (Nat.zero_le _) (by rw[Nat.sub_zero];exact List.getElem?_eq_getElem hl)]
       have D4:(args++Array.replicate (fn.ntmps - args.size) undef).getD j undef=args[j]:=by
        rw[Array.getD_eq_getD_getElem?,Array.getElem?_append_left TJ,Array.getElem?_eq_getElem TJ];rfl
       rw[D4]
       have hA:args[j]? =some args[j]:=Array.getElem?_eq_getElem TJ
       have hL:(first++ .kS δ.nx::cap)[j]? =some (first++ .kS δ.nx::cap)[j]:=List.getElem?_eq_getElem hl
       generalize args[j]=u at hA ⊢
       generalize (first++ .kS δ.nx::cap)[j]=d at hL ⊢
       simp only[args] at hA
       by_cases h1:j<first.length
       ·rw[List.getElem?_append_left h1] at hL
        rw[Array.getElem?_append_left (by simp;omega),Array.getElem?_append_left aG] at hA
        exact G.ra ((j6.ra ⟨rfl,by rw[Nz];omega,fun b hb hN=>⟨hN,Below.heap_alloc w _ _ hb⟩,fun i hi=>⟨hi,rfl,fun b hκ=>Below.heap_alloc w _ _ (r.lo i b (DS.iw hi) hκ).2⟩,fun i hi=>⟨hi,rfl⟩⟩ (zN j u d hA hL)))
       ·rw[List.getElem?_append_right aG] at hL
        by_cases h2:j=first.length
        ·subst h2
         simp at hL
         subst hL
         rw[Array.getElem?_append_left (by simp;omega),Array.getElem?_append_right aG] at hA
         simp [hs] at hA
         subst hA
         exact .kS ⟨_,by show(δ.fM _).ob _=_;rw[gh,if_pos rfl],rfl⟩ hκ2
        ·obtain⟨m,hm⟩:∃m,j=first.length+1+m:=⟨j - first.length - 1,by omega⟩
         subst hm
         rw[show first.length+1+m - first.length=m+1 by omega,List.getElem?_cons_succ] at hL
         rw[Array.getElem?_append_right (by simp;omega)] at hA
         have e0:first.length+1+m - (vs++ #[Value.func (.yield (w.heap.size+1)) #[] #[]]).size=m:=by simp;omega
         rw[e0] at hA
         exact G.ra ((j6.ra ⟨rfl,by rw[Nz];omega,fun b hb hN=>⟨hN,Below.heap_alloc w _ _ hb⟩,fun i hi=>⟨hi,rfl,fun b hκ=>Below.heap_alloc w _ _ (r.lo i b (DS.iw hi) hκ).2⟩,fun i hi=>⟨hi,rfl⟩⟩ (Jt m u d hA hL)))
      ·rw[jV _ 0 j (.inr (by simp;omega))];exact .any _
     ·obtain⟨m,rfl⟩:∃m,j=m+HS:=⟨j - HS,by omega⟩
      have s_:g'.val {tmps:=args++Array.replicate (fn.ntmps - args.size) undef,defers:=[]} (m+HS)=g.val a m:=by
       rw[oB];exact congrArg (g.val a) (Nat.add_sub_cancel m HS)
      rw[s_]
      have ot:δ2.get (m+HS)=δ.get m:=by
       have h0:look (enum 0 (first++ .kS δ.nx::cap)) (m+HS)=.any:=jV _ 0 _ (.inr (by simp;omega))
       rcases IT (enum 0 (first++ .kS δ.nx::cap)) (gn δ.env) (m+HS) with h1|⟨h1,h2⟩
       ·
        have:∀(e1:List (Nat×AV)),(∀p∈e1,p.1≠m+HS)→look (e1++gn δ.env) (m+HS)=look (gn δ.env) (m+HS):=by
         intro e1 gz
         induction e1 with
         |nil=>rfl
         |cons p e1 ih=>
          rw[List.cons_append]
          show look ((p.1,p.2)::(e1++gn δ.env)) _=_
          rw[fC,if_neg (gz p (by simp))]
          exact ih (fun q hq=>gz q (by simp [hq]))
        have hk:∀(l:List AV) (i:Nat),∀p∈enum i l,p.1<i+l.length:=by
         intro l
         induction l with
         |nil=>intro i p hp;simp [enum] at hp
         |cons v l ih=>
          intro i p hp
          simp only[enum,List.mem_cons] at hp
          rcases hp with rfl|hp
          ·simp
          ·have:=ih (i+1) p hp;simp;omega
        show look (_++_) _=_
        rw[this _ (fun p hp=>by have:=hk _ 0 p hp;simp at this;omega),k8];rfl
       ·show look (_++_) _=_
        rw[h2,k8];rfl
      rw[ot]
      exact y7.env m
    obj:=y7.obj,inj:=y7.inj,lo:=y7.lo,nx:=y7.nx,wt:=fun k hk=>(by cases hk),below:=y7.below,hB:=y7.hB,N0:=y7.N0,fr:=y7.fr.re rfl rfl rfl rfl,kI:=fun d hd=>by cases hd}
  have VN:=h g' a.tmps (w.heap.size+1) rfl rfl (fun j hj=>(congrArg (g.val a) (Nat.add_sub_cancel j HS)).trans (by unfold eY.val;rw[if_pos hj])) (fun j=>(congrArg (g.val a) (Nat.add_sub_cancel (j+HS) HS)).trans (oB g a j)) r.n κ2 _ w2 mS
  refine callsIn_of_wp_marks (n:=0) hf hb trivial (wpIn_mono VN ?_)
  rintro e a2 w3 ⟨δ3,κ3,hq,r3⟩
  have fin:KU (w.heap.size+1) Q (mJ δ.n δ.nx δ3) (δ3.ob δ.nx)→LeavesInM (Fw none) 0 P fn a2.tmps (rangePost (Fw none) 0 P (w.heap.size+1) (lift g Q) {a with defers:=[{target:=.collected w.heap.size,args:= #[]}]++a.defers}) a2.defers .returning w3:=by
   intro hj
   obtain⟨tm3,ps3,asg3,body3,D2,jo⟩:∃tm ps iQ body st,δ3.ob δ.nx=some (.loop (w.heap.size+1) tm ps iQ body st):=by
    cases hoo:δ3.ob δ.nx with
    |none=>rw[hoo] at hj;exact hj.elim
    |some o=>
     rw[hoo] at hj
     cases o with
     |row=>exact hj.elim
     |box cs=>exact hj.elim
     |mp l=>exact hj.elim
     |mpl l k v=>exact hj.elim
     |it l seen=>exact hj.elim
     |lit T vals=>exact hj.elim
     |fm e rows=>exact hj.elim
     |loop l' tm ps iQ body st=>
      cases st with
      |ready=>obtain⟨rfl,_⟩:=hj;exact⟨tm,ps,iQ,body,_,rfl⟩
      |busy=>exact hj.elim
      |pL=>exact hj.elim
      |done c=>cases c<;>first|exact hj.elim|(obtain⟨rfl,_⟩:=hj;exact⟨tm,ps,iQ,body,_,rfl⟩)
   refine leaves (g:=g') rfl rfl (rs:=[]) SA .none r3 (fun w4 r4 u hu=>?_)
   obtain⟨b,rl,h1,h2,yV,h3,h4,h5,h6,h7⟩:=r4.obj _ _ jo
   have QY:κ3 δ.nx=some b:=h1
   subst yV
   have W1:rl.state≠ .busy:=by
    rw[jo] at hj
    cases D2 with
    |ready=>rw[h7.1];simp
    |busy=>exact hj.elim
    |pL=>exact hj.elim
    |done c=>rw[h7.1];simp
   have XJ:=run_endLoop (P:=P) (w:=w4) h2 W1
   have hd:Jr g {a with defers:=[{target:=.collected w.heap.size,args:= #[]}]++a.defers} (w4.putObj (w.heap.size+1) (.loop {rl with state:=.exhausted})):=by
    obtain⟨rs4,k1,k2,k3⟩:=r4.dfr
    refine⟨w.heap.size::ms,by simp [G9],?_,fun k hk=>?_⟩
    ·have:(rs4++g'.mks).Nodup:=k2
     exact(List.nodup_append.1 this).2.1
    ·have jN:=k3 k (List.mem_append.2 (.inr hk))
     refine⟨jN.1,?_⟩
     rw[World.putObj_heap_other (by intro e;subst e;rw[h2] at jN;cases jN.2)]
     exact jN.2
   have rb:=r4.back (g:=g) (n:=δ.n) (a':={a with defers:=[{target:=.collected w.heap.size,args:= #[]}]++a.defers}) jz rfl ⟨rfl,rfl,rfl,rfl,rfl⟩ (fun j=>congrArg (g.val a) (Nat.add_sub_cancel j HS)) r.n jo QY h2 {rl with state:=.exhausted} ⟨rfl,rfl,rfl,rfl⟩ rfl hd (fun d hd r0 e=>by
    rcases List.mem_append.1 hd with hd|hd
    ·rw[List.mem_singleton] at hd
     subst hd
     cases e
     exact fun hf=>Nat.lt_irrefl _ (r.fr.NZ hf)
    ·exact r.kI d hd r0 e)
   refine⟨rl.pending,_,XJ,?_⟩
   rw[jo] at hj
   cases D2 with
   |ready=>rw[h7.2] at rb ⊢;exact⟨_,κ3,hj.2,rb⟩
   |busy=>exact hj.elim
   |pL=>exact hj.elim
   |done c=>
    rw[h7.2] at rb ⊢
    cases c with
    |ret=>exact wpIn_ret ⟨_,κ3,hj.2,rb⟩
    |exit id=>exact wpIn_exit ⟨_,κ3,hj.2,rb⟩
    |_=>exact hj.elim
  cases e with
  |normal=>exact fin hq
  |ret=>exact fin hq
  |_=>exact hq.elim
theorem a_.Sg (d:Nat) {x:Operand} {ys:List Operand} {tys:Array TypeId} {i l n0:Nat} {tm:Array Value} {ps:List Tmp} {iQ body:Code} (jz:g.wt=none) (oE:∀j,j<HS→g.held (j+HS+d*HS)=tm.getD j undef) (Fj:tm.size=n0) (wG:Nat.ble n0 HS=true)
  (hx:δ.ev x=.kS i) (jo:δ.ob i=some (.loop l tm ps.toArray iQ body .ready)) (ho:fk x=true) (B6:ys.all fk=true) (hlen:Nat.beq ys.length ps.length=true) (Fp:ps.all (fun t=>Nat.blt t n0)=true) (uh:gb δ.n dst=true)
  (h:∀g':eY,g'.ro=some l→g'.wt=none→(∀j,g'.held (j+HS+HS)=g.held (j+HS))→AW P g' iQ (fT (fun δ1=>jw δ1 i l .ready∧AW P g' body (zZ δ.n i l (fun b st δ2=>a_ .plain P g ops rest Q ((δ2.lQ i st).eZ dst (fe b)))) (δ1.lQ i .busy)) (fun _ _=>False)) {n:=n0,env:=sJ ps (ys.map δ.ev) (fR (Sr d δ.env)++gn δ.env),fY:=δ.fY,nx:=δ.nx}):
  a_ .plain P g ops (⟨dst,.call {callee:=.value x,args:=ys.toArray,argTypes:=tys},ty,pos,af,none⟩::rest) Q δ:=by
 intro κ a w r
 have oz:=r.ra hx ho
 generalize hv:a.eval x=v at oz
 cases oz with
 | @kS _ b hl hκ=>
  obtain⟨b',rl,h1,h2,yV,h3,h4,h5,h6,h7⟩:=r.obj _ _ jo
  have:b'=b:=Option.some.inj (h1.symm.trans hκ)
  subst this
  subst yV
  obtain⟨ms,G9,BZ,M4⟩:=r.dfr
  have vJ:ys.length=ps.length:=Nat.eq_of_beq_eq_true hlen
  show wpListIn _ _ P ops _ (_::rest) a w
  refine iu rfl rfl fun K rf=>?_
  unfold Oper.AL
  rw[vu hv h2 (by rw[h4];simpa using vJ),Oper.uponIn_round]
  refine⟨fun h=>by simp at h,?_⟩
  let tm':Array Value:=(rl.params.zip (ys.toArray.map a.eval)).foldl (fun tmps (t,a)=>tmps.setIfInBounds t a) rl.tmps
  have J0:tm'=(ps.zip (ys.map a.eval)).foldl (fun tmps (t,a)=>tmps.setIfInBounds t a) tm:=by
   show(rl.params.zip (ys.toArray.map a.eval)).foldl _ rl.tmps=_
   rw[h3,h4,← Array.foldl_toList,Array.toList_zip]
   simp
  let g':eY:={B:=g.B,w0:=g.w0,N0:=g.N0,held:=fun j=>g.val a (j - HS),ro:=some b',mks:=ms++g.mks,wt:=none,fr:=g.fr,w1:=g.w1}
  have EU:∀j,g'.held (j+HS)=g.val a j:=fun j=>congrArg (g.val a) (Nat.add_sub_cancel j HS)
  have mS:Rel g' {n:=n0,env:=sJ ps (ys.map δ.ev) (fR (Sr d δ.env)++gn δ.env),fY:=δ.fY,nx:=δ.nx} κ {tmps:=tm',defers:=[]} w:=
   {n:=by show tm'.size=n0;rw[J0,wU];exact Fj
    dfr:=⟨[],rfl,BZ,M4⟩
    env:=fun j=>by
     have hp:=FK (C:=δ.cx g κ) (w:=w) (hv:=g'.held) ps (ys.map a.eval) (ys.map δ.ev) tm (fR (Sr d δ.env)++gn δ.env) (by simpa using vJ) (by simpa using vJ)
      (fun t ht=>by
       have h8:=(List.all_eq_true.1 Fp) t ht
       have h9:t<n0:=by simpa using h8
       have wm:n0≤HS:=by simpa using wG
       exact⟨Fj▸h9,Nat.lt_of_lt_of_le h9 wm⟩)
      (fun j u v h8 h9=>by
       simp only[List.getElem?_map,Option.map_eq_some_iff] at h8 h9
       obtain⟨y,h8,rfl⟩:=h8
       obtain⟨y',h9,rfl⟩:=h9
       rw[h8] at h9;cases h9
       exact r.C5 y (iK ((List.all_eq_true.1 B6) y (List.mem_of_getElem? h8))))
      (fun j=>by
       rw[Dh]
       by_cases hj:j<HS
       ·rw[if_pos hj,if_pos hj,← oE j hj,CE]
        have:=r.env (j+HS+d*HS)
        rw[show g.val a (j+HS+d*HS)=g.held (j+HS+d*HS) from by unfold eY.val;rw[if_neg aG]] at this
        exact this
       ·rw[if_neg hj,if_neg hj]
        exact r.env (j - HS)) j
     rw[← J0] at hp
     exact hp
    obj:=r.obj,inj:=r.inj,lo:=r.lo,nx:=r.nx,wt:=fun k hk=>(by cases hk),below:=r.below,hB:=r.hB,N0:=r.N0,fr:=r.fr.re rfl rfl rfl rfl,kI:=fun d hd=>by cases hd}
  rw[h5,h6]
  refine roundIn_of_wpIn (F:=Fw g.ro) trivial (wpIn_mono (h g' rfl rfl (fun j=>(congrArg (g.val a) (Nat.add_sub_cancel (j+HS) HS)).trans (oB g a j)) κ _ w mS) ?_)
  rintro e a1 w1 ⟨δ1,κ1,hq,r1⟩
  cases e with
  |normal=>
   obtain⟨Ql,hq⟩:=hq
   have RY:=Ql
   obtain⟨tm1,ps1,asg1,body1,U0⟩:=Ql
   obtain⟨b1,rl1,k1,k2,kbl,k3,k4,k5,k6,k7⟩:=r1.obj _ _ U0
   subst kbl
   have r1':=r1.lQ rfl (st':=.busy) (r':={rl1 with state:=.busy}) RY k2 ⟨rfl,rfl,rfl,rfl⟩ rfl
   refine⟨_,run_beginRound k2 k7.1,wpIn_mono (hq κ1 a1 _ r1') ?_⟩
   rintro e2 a2 w2 ⟨δ2,κ2,D5,r2⟩
   have fin:∀(jump:Option Code) (st:u9) (bb:Bool),bb=jump.isNone→jw δ2 i b1 .busy→a_ .plain P g ops rest Q (((fK δ.n δ2).lQ i st).eZ dst (fe bb))→
     (match st with|.ready=>jump=none|.done c=>jump=some c|_=>False)→
     ∃v w',(Instr.endRound b1 jump).run P w2=.ok v w'∧K (a.put dst v) w':=by
    intro jump st bb Ju pB hA ij
    have S5:=pB
    obtain⟨tm2,ps2,asg2,body2,yI⟩:=pB
    obtain⟨b2,rl2,m1,m2,mbl,m3,m4,m5,m6,m7⟩:=r2.obj _ _ yI
    subst mbl
    have r3:=r2.lQ rfl (st':=st) (r':={rl2 with state:=if jump.isNone then .ready else .done,pending:=jump}) S5 m2 ⟨rfl,rfl,rfl,rfl⟩ (by
     cases st with
     |ready=>simp only at ij;subst ij;exact⟨rfl,rfl⟩
     |done c=>simp only at ij;subst ij;exact⟨rfl,rfl⟩
     |_=>exact ij.elim)
    refine⟨_,_,run_endRound jump m2,?_⟩
    have hd:Jr g a (w2.putObj b2 (.loop {rl2 with state:=if jump.isNone then .ready else .done,pending:=jump})):=by
     obtain⟨rs4,k1,k2,k3⟩:=r3.dfr
     exact⟨ms,G9,(List.nodup_append.1 k2).2.1,fun k hk=>k3 k (List.mem_append.2 (.inr hk))⟩
    have r4:=r3.frame (g:=g) (a':=a) (n:=δ.n) jz rfl ⟨rfl,rfl,rfl,rfl,rfl⟩ EU r.n hd r.kI
    have he:fK δ.n (δ2.lQ i st)=(fK δ.n δ2).lQ i st:=by
     unfold DS.lQ
     have:(fK δ.n δ2).ob i=δ2.ob i:=rfl
     rw[this,yI];rfl
    rw[he] at r4
    subst Ju
    have Fy:((fK δ.n δ2).lQ i st).n=δ.n:=by
     unfold DS.lQ
     have:(fK δ.n δ2).ob i=δ2.ob i:=rfl
     rw[this,yI];rfl
    exact rf _ _ (hA κ2 _ _ (r4.eZ (v:=.bool jump.isNone) (fE (by rw[Fy];exact uh)) (.pv (.lit _))))
   cases e2 with
   |normal=>exact fin none .ready true rfl D5.1 D5.2 rfl
   |ret=>exact fin (some .ret) (.done .ret) false rfl D5.1 D5.2 rfl
   |exit id=>exact fin (some (.exit id)) (.done (.exit id)) false rfl D5.1 D5.2 rfl
   |_=>exact D5.elim
  |_=>exact hq.elim
theorem AW.hZ {x:Operand} {ps:List Tmp} {iQ body:Code} {f:FuncId} {first cap:List AV} {fn:Func} {c:Code} {n':Nat} (Gx:g.ro=none) (jz:g.wt=none) (hx:δ.ev x=.jd (.func f) first cap) (ho:fk x=true)
  (hf:P.funcs[f]? =some fn) (hb:fn.body=some c) (SA:fn.results= #[]) (hn:fn.ntmps=n') (hle:Nat.ble (first.length+1+cap.length) n'=true) (P3:Nat.ble n' HS=true) (hX:Nat.ble δ.n HS=true) (he:(fn.name== "runtime.NumGoroutine")=false)
  (h:∀(g':eY) (tm:Array Value) (l:Nat) (ps':Array Tmp) (asg' body':Code),uX ps' asg' body' ps iQ body→g'.ro=none→g'.wt=none→(∀j,j<HS→g'.held (j+HS)=tm.getD j undef)→(∀j,g'.held (j+HS+HS)=g.held (j+HS))→tm.size=δ.n→
   AW P g' c (fh δ.n δ.nx l Q) {n:=n',env:=enum 0 (first++ .kS δ.nx::cap)++gn δ.env,fY:=(δ.nx,some (.loop l tm ps' asg' body' .ready))::δ.fY,nx:=δ.nx+1}):
  AW P g (.rangeFunc x ps.toArray iQ body) Q δ:=
 AW.EK Gx jz hx ho hf hb SA hn hle P3 hX he fun g' tm l h1 h2 h3 h4 h5=>h g' tm l _ _ _ ⟨rfl,rfl,rfl⟩ h1 h2 h3 h4 h5
theorem a_.wF (d:Nat) {x:Operand} {ys:List Operand} {tys:Array TypeId} {i l n0:Nat} {tm:Array Value} {ps:List Tmp} {iQ body:Code} {ps':Array Tmp} {asg' body':Code} (tp:uX ps' asg' body' ps iQ body) (jz:g.wt=none) (oE:∀j,j<HS→g.held (j+HS+d*HS)=tm.getD j undef) (Fj:tm.size=n0)
  (wG:Nat.ble n0 HS=true) (hx:δ.ev x=.kS i) (jo:δ.ob i=some (.loop l tm ps' asg' body' .ready)) (ho:fk x=true) (B6:ys.all fk=true) (hlen:Nat.beq ys.length ps.length=true) (Fp:ps.all (fun t=>Nat.blt t n0)=true) (uh:gb δ.n dst=true)
  (h:∀g':eY,g'.ro=some l→g'.wt=none→(∀j,g'.held (j+HS+HS)=g.held (j+HS))→AW P g' iQ (fT (fun δ1=>jw δ1 i l .ready∧AW P g' body (e6 P g ops rest Q dst δ.n i l) (JB δ1 i .busy)) (fun _ _=>False)) {n:=n0,env:=sJ ps (ys.map δ.ev) (fR (Sr d δ.env)++gn δ.env),fY:=δ.fY,nx:=δ.nx}):
  a_ .plain P g ops (⟨dst,.call {callee:=.value x,args:=ys.toArray,argTypes:=tys},ty,pos,af,none⟩::rest) Q δ:=by
 obtain⟨rfl,rfl,rfl⟩:=tp
 refine a_.Sg d jz oE Fj wG hx jo ho B6 hlen Fp uh fun g' h1 h2 hu=>(h g' h1 h2 hu).mono ?_
 intro e δ1 he
 cases e with
 |normal=>
  obtain⟨h3,h4⟩:=he
  refine⟨h3,?_⟩
  rw[A5 _ h3]
  refine AW.mono h4 ?_
  intro e2 δ2 vZ
  cases e2 with
  |normal=>exact⟨vZ.1,by show a_ .plain P g ops rest Q (((fK δ.n δ2).lQ i .ready).eZ dst (fe true));rw[A5 .ready (vh (n:=δ.n) vZ.1)];exact vZ.2⟩
  |ret=>exact⟨vZ.1,by show a_ .plain P g ops rest Q (((fK δ.n δ2).lQ i (.done .ret)).eZ dst (fe false));rw[A5 (.done .ret) (vh (n:=δ.n) vZ.1)];exact vZ.2⟩
  |exit id=>exact⟨vZ.1,by show a_ .plain P g ops rest Q (((fK δ.n δ2).lQ i (.done (.exit id))).eZ dst (fe false));rw[A5 (.done (.exit id)) (vh (n:=δ.n) vZ.1)];exact vZ.2⟩
  |_=>exact vZ.elim
 |_=>exact he.elim
theorem a_.jL {x:Operand} {ys:List Operand} {tys:Array TypeId} {i l n0:Nat} {tm:Array Value} {ps:List Tmp} {iQ body:Code} {ps':Array Tmp} {asg' body':Code} (tp:uX ps' asg' body' ps iQ body) (jz:g.wt=none) (oE:∀j,j<HS→g.held (j+HS)=tm.getD j undef) (Fj:tm.size=n0)
  (wG:Nat.ble n0 HS=true) (hx:δ.ev x=.kS i) (jo:δ.ob i=some (.loop l tm ps' asg' body' .ready)) (ho:fk x=true) (B6:ys.all fk=true) (hlen:Nat.beq ys.length ps.length=true) (Fp:ps.all (fun t=>Nat.blt t n0)=true) (uh:gb δ.n dst=true)
  (h:∀g':eY,g'.ro=some l→g'.wt=none→(∀j,g'.held (j+HS+HS)=g.held (j+HS))→AW P g' iQ (fT (fun δ1=>jw δ1 i l .ready∧AW P g' body (e6 P g ops rest Q dst δ.n i l) (JB δ1 i .busy)) (fun _ _=>False)) {n:=n0,env:=sJ ps (ys.map δ.ev) (fR (δ.env)++gn δ.env),fY:=δ.fY,nx:=δ.nx}):
  a_ .plain P g ops (⟨dst,.call {callee:=.value x,args:=ys.toArray,argTypes:=tys},ty,pos,af,none⟩::rest) Q δ:=by
 exact a_.wF 0 tp jz (fun j hj=>(congrArg g.held aG).trans (oE j hj)) Fj wG hx jo ho B6 hlen Fp uh h
theorem a_.Bz {x:Operand} {ys:List Operand} {tys:Array TypeId} {i l n0:Nat} {tm:Array Value} {ps:List Tmp} {iQ body:Code} {ps':Array Tmp} {asg' body':Code} (tp:uX ps' asg' body' ps iQ body) (jz:g.wt=none) (oE:∀j,j<HS→g.held (j+HS+2*HS)=tm.getD j undef) (Fj:tm.size=n0)
  (wG:Nat.ble n0 HS=true) (hx:δ.ev x=.kS i) (jo:δ.ob i=some (.loop l tm ps' asg' body' .ready)) (ho:fk x=true) (B6:ys.all fk=true) (hlen:Nat.beq ys.length ps.length=true) (Fp:ps.all (fun t=>Nat.blt t n0)=true) (uh:gb δ.n dst=true)
  (h:∀g':eY,g'.ro=some l→g'.wt=none→(∀j,g'.held (j+HS+HS)=g.held (j+HS))→AW P g' iQ (fT (fun δ1=>jw δ1 i l .ready∧AW P g' body (e6 P g ops rest Q dst δ.n i l) (JB δ1 i .busy)) (fun _ _=>False)) {n:=n0,env:=sJ ps (ys.map δ.ev) (fR (gq (gq (δ.env)))++gn δ.env),fY:=δ.fY,nx:=δ.nx}):
  a_ .plain P g ops (⟨dst,.call {callee:=.value x,args:=ys.toArray,argTypes:=tys},ty,pos,af,none⟩::rest) Q δ:=by
 exact a_.wF 2 tp jz (fun j hj=>oE j hj) Fj wG hx jo ho B6 hlen Fp uh h
theorem a_.GH {x:Operand} {ys:List Operand} {tys:Array TypeId} {i l n0:Nat} {tm:Array Value} {ps:List Tmp} {iQ body:Code} {ps':Array Tmp} {asg' body':Code} (tp:uX ps' asg' body' ps iQ body) (jz:g.wt=none) (oE:∀j,j<HS→g.held (j+HS+4*HS)=tm.getD j undef) (Fj:tm.size=n0)
  (wG:Nat.ble n0 HS=true) (hx:δ.ev x=.kS i) (jo:δ.ob i=some (.loop l tm ps' asg' body' .ready)) (ho:fk x=true) (B6:ys.all fk=true) (hlen:Nat.beq ys.length ps.length=true) (Fp:ps.all (fun t=>Nat.blt t n0)=true) (uh:gb δ.n dst=true)
  (h:∀g':eY,g'.ro=some l→g'.wt=none→(∀j,g'.held (j+HS+HS)=g.held (j+HS))→AW P g' iQ (fT (fun δ1=>jw δ1 i l .ready∧AW P g' body (e6 P g ops rest Q dst δ.n i l) (JB δ1 i .busy)) (fun _ _=>False)) {n:=n0,env:=sJ ps (ys.map δ.ev) (fR (gq (gq (gq (gq (δ.env)))))++gn δ.env),fY:=δ.fY,nx:=δ.nx}):
  a_ .plain P g ops (⟨dst,.call {callee:=.value x,args:=ys.toArray,argTypes:=tys},ty,pos,af,none⟩::rest) Q δ:=by
 exact a_.wF 4 tp jz (fun j hj=>oE j hj) Fj wG hx jo ho B6 hlen Fp uh h
theorem a_.O2 {x:Operand} {ys:List Operand} {tys:Array TypeId} {i l n0:Nat} {tm:Array Value} {ps:List Tmp} {iQ body:Code} {ps':Array Tmp} {asg' body':Code} (tp:uX ps' asg' body' ps iQ body) (jz:g.wt=none) (oE:∀j,j<HS→g.held (j+HS+6*HS)=tm.getD j undef) (Fj:tm.size=n0)
  (wG:Nat.ble n0 HS=true) (hx:δ.ev x=.kS i) (jo:δ.ob i=some (.loop l tm ps' asg' body' .ready)) (ho:fk x=true) (B6:ys.all fk=true) (hlen:Nat.beq ys.length ps.length=true) (Fp:ps.all (fun t=>Nat.blt t n0)=true) (uh:gb δ.n dst=true)
  (h:∀g':eY,g'.ro=some l→g'.wt=none→(∀j,g'.held (j+HS+HS)=g.held (j+HS))→AW P g' iQ (fT (fun δ1=>jw δ1 i l .ready∧AW P g' body (e6 P g ops rest Q dst δ.n i l) (JB δ1 i .busy)) (fun _ _=>False)) {n:=n0,env:=sJ ps (ys.map δ.ev) (fR (gq (gq (gq (gq (gq (gq (δ.env)))))))++gn δ.env),fY:=δ.fY,nx:=δ.nx}):
  a_ .plain P g ops (⟨dst,.call {callee:=.value x,args:=ys.toArray,argTypes:=tys},ty,pos,af,none⟩::rest) Q δ:=by
 exact a_.wF 6 tp jz (fun j hj=>oE j hj) Fj wG hx jo ho B6 hlen Fp uh h
end Go.Ab
/- Maps from numbers to numbers;the address of a field,taken first. -/
namespace Go.Ab
open Go Go.RowKit
def oI (l:List (Int×Int)):List (Int×AV):=l.map fun p=>(p.1,eU p.2)
def nX:List (Int×Int)→Int→Int
 |[],_=>0
 |(k,v)::l,m=>if m=k then v else nX l m
def sg:List (Int×Int)→Int→Int→List (Int×Int)
 |[],m,n=>[(m,n)]
 |(k,v)::l,m,n=>if m=k then (k,n)::l else (k,v)::sg l m n
theorem Ao:∀(l:List (Int×Int)) (m:Int),(oG (oI l) m).getD (.pv (.lit (.int .i64 0)))=eU (nX l m)
 |[],_=>rfl
 |(k,v)::l,m=>by
  show(if m=k then some (eU v) else oG (oI l) m).getD _=eU (if m=k then v else nX l m)
  by_cases h:m=k
  ·rw[if_pos h,if_pos h];rfl
  ·rw[if_neg h,if_neg h];exact Ao l m
theorem CZ:∀(l:List (Int×Int)) (m n:Int),wR (oI l) m (eU n)=oI (sg l m n)
 |[],_,_=>rfl
 |(k,v)::l,m,n=>by
  show(if m=k then (k,eU n)::oI l else (k,eU v)::wR (oI l) m (eU n))=oI (if m=k then (k,n)::l else (k,v)::sg l m n)
  by_cases h:m=k
  ·rw[if_pos h,if_pos h];rfl
  ·rw[if_neg h,if_neg h,CZ l m n];rfl
theorem Cd:∀(l:List (Int×Int)) (m n x:Int),nX (sg l m n) x=if x=m then n else nX l x
 |[],m,n,x=>rfl
 |(k,v)::l,m,n,x=>by
  unfold sg
  by_cases h:m=k
  ·rw[if_pos h]
   show(if x=k then n else nX l x)=if x=m then n else (if x=k then v else nX l x)
   by_cases hx:x=m
   ·rw[if_pos hx,if_pos (hx.trans h)]
   ·rw[if_neg hx,if_neg (fun e=>hx (e.trans h.symm)),if_neg (fun e=>hx (e.trans h.symm))]
  ·rw[if_neg h]
   show(if x=k then v else nX (sg l m n) x)=if x=m then n else (if x=k then v else nX l x)
   rw[Cd l m n x]
   by_cases hx:x=k
   ·rw[if_pos hx,if_pos hx,if_neg (fun e=>h (e.symm.trans hx))]
   ·rw[if_neg hx,if_neg hx]
section
variable {P:Program} {g:eY} {δ δ':DS} {q:Md}
variable {ops:Array Oper} {rest:List Oper} {Q:Exit→DS→Prop} {dst:Option Nat} {ty:TypeId} {pos:String} {af:Array Edge}
theorem a_.xP {x y:Operand} {t kt et:TypeId} {i:Nat} {l:List (Int×Int)} {m:Int} (hx:δ.ev x=.gH i) (jo:δ.ob i=some (.mp (mx (oI l)))) (hy:δ.ev y=eU m) (ht:P.underlying t=some (.map kt et)) (hk:P.underlying kt=some (.int .i64)) (hz:(P.info? et).bind (·.zero)=some (.int .i64 0))
  (ho:fk x=true) (gi:fk y=true) (hd:gb δ.n dst=true) (hK:a_ q P g ops rest Q (δ.eZ dst (eU (nX l m)))):a_ q P g ops (⟨dst,.lookup t x y false,ty,pos,af,none⟩::rest) Q δ:=
 a_.lookup hx jo hy ht hk hz (Ao l m) ho gi hd hK
theorem a_.yX {x y z:Operand} {t kt et:TypeId} {i:Nat} {l:List (Int×Int)} {m n:Int} (hx:δ.ev x=.gH i) (jo:δ.ob i=some (.mp (mx (oI l)))) (hy:δ.ev y=eU m) (hz:δ.ev z=eU n) (ht:P.underlying t=some (.map kt et)) (hk:P.underlying kt=some (.int .i64))
  (ho:fk x=true) (gi:fk y=true) (s8:fk z=true) (hd:gb δ.n dst=true) (jz:g.wt=none)
  (hK:a_ .plain P g ops rest Q ((δ.gl i (some (.mp (mx (oI (sg l m n)))))).eZ dst .any)):a_ .plain P g ops (⟨dst,.mapUpdate t x y z,ty,pos,af,none⟩::rest) Q δ:=
 a_.vA rfl rfl (je.mapUpdate hx jo hy hz rfl ht hk ho gi s8 hd (lZ jz i)) (by rw[CZ];exact hK)
theorem a_.Gu {t:TypeId} (hd:gb δ.n dst=true) (hK:a_ .plain P g ops rest Q ((δ.fM (.mp (mx (oI [])))).eZ dst (.gH δ.nx))):a_ .plain P g ops (⟨dst,.makeMap t none,ty,pos,af,none⟩::rest) Q δ:=a_.makeMap hd hK
theorem Oc (l:List (Int×Int)) (f h:Nat→Bool):∀p∈mx (oI l),p.2.ids f h=true:=by
 intro p hp
 simp only[mx,oI,List.map_map,List.mem_map] at hp
 obtain⟨x,_,rfl⟩:=hp
 rfl
theorem WO.cnt {i:Nat} {l:List (Int×Int)} (h:δ.ob i=some (.mp (mx (oI l)))):WO δ δ' i (.mp (mx (oI l))):=.mp h (Oc l _ _)
theorem WO.Ch {i:Nat} {l l':List (Int×Int)} (h:δ.ob i=some (.mp (mx (oI l)))) (e:l=l'):WO δ δ' i (.mp (mx (oI l'))):=e▸ .cnt h
variable {t n:Nat} {K:DS→Prop}
theorem zg {i:Nat} (ht:Nat.blt t HS=true) (h:δ.get t=.gH i) (hK:K ((fK n δ).eZ dst (.gH i))):fp P [.tmp t] n dst K .ret δ:=oJ (.one (.tmp ht h)) hK
theorem pV {f:Go.Fn} {a b:List AV} (ht:Nat.blt t HS=true) (h:δ.get t=.jd f a b) (hK:K ((fK n δ).eZ dst (.jd f a b))):fp P [.tmp t] n dst K .ret δ:=oJ (.one (.tmp ht h)) hK
end
theorem jx.fieldAddr {P:Program} {δ:DS} {dst:Option Nat} {ty:TypeId} {pos:String} {af:Array Edge} {gd:Option (Tmp×Bool)} (s:TypeId) (f k:Nat) {x:Operand} {i off:Nat} (hx:δ.ev x=.ptr i off) (hB:Ex P s f k=true) (ho:fk x=true):
  jx P ⟨dst,.fieldAddr s x f,ty,pos,af,gd⟩ δ (.ptr i (off+k)):=by
 intro g κ a w r
 unfold Ex at hB
 split at hB
 ·rename_i fs hs
  split at hB
  ·rename_i pD hf
   simp only[Bool.and_eq_true,beq_iff_eq] at hB
   have hk:=Nat.eq_of_beq_eq_true hB.1
   subst hk
   have oz:=r.ra hx ho
   generalize hu:a.eval x=u at oz
   cases oz with
   |ptr hl hκ=>exact⟨_,fun w'=>by have:=kK (dst:=dst) (ty:=ty) (pos:=pos) (af:=af) hs hf hB.2 hu w';simpa [execOp] using this,.ptr hl hκ⟩
  ·cases hB
 ·cases hB
section
variable {P:Program} {g:eY} {δ:DS} {l:List Oper} {late dn:List Nat} {k:Wt} {QD:Exit→DS→Prop}
theorem AR.qM {i j:Nat} {o p:Oper} (hl:Nat.blt dn.length l.length=true) (hr:mn l dn [i,j]=true) (ho:l[i]? =some o) (hp:l[j]? =some p) (ft:iq late (gN l.length (j::dn))=true)
  (h:∀g':eY,Gs g' g→(∀j,k.2.2≤j→g'.nP j)→a_ .plain P g' l.toArray [o] (ji (AR P g k late l QD (i::dn))) δ)
  (h':∀g':eY,Gs g' g→g'.wt=none→a_ .plain P g' l.toArray [p] (ji (AR P g k late l QD (j::dn))) δ):AR P g k late l QD dn δ:=
 AR.all hl hr (by simp) fun i' jS=>by
  have hw:∀i',∀j,k.2.2≤j→(A9 g k late (gN l.length (i'::dn))).nP j:=by
   intro i' j hj k' jN
   have:(if iq late (gN l.length (i'::dn))=true then none else some k)=some k':=jN
   split at this
   ·cases this
   ·cases this;exact hj
  simp only[List.mem_cons,List.not_mem_nil,or_false] at jS
  rcases jS with rfl|rfl
  ·exact⟨o,ho,h _ ⟨rfl,rfl,rfl⟩ (hw _)⟩
  ·exact⟨p,hp,h' _ ⟨rfl,rfl,rfl⟩ (if_pos ft)⟩
end
end Go.Ab
/- In the midst of a region that draws its order:operations that only read are taken in one order;the watch over memory begins anew. -/
namespace Go.Ab
open Go Go.RowKit
variable {P:Program} {g:eY} {δ:DS} {k:Wt} {late:List Nat} {l:List Oper} {dn:List Nat} {QD:Exit→DS→Prop} {ro:Option Nat}
def tR (ops:Array Oper) (i j:Nat):Bool:=match ops[j]? with
 |some o=>o.after.any fun e=>Region.binds .any e && e.on==i
 |none=>false
theorem yQ {ops:Array Oper} {i j n:Nat} (h:tR ops i j=true):pJ ops i (n+1) j=true:=by
 unfold tR at h
 unfold pJ
 cases ho:ops[j]? with
 |none=>rw[ho] at h;cases h
 |some o=>
  rw[ho] at h
  simp only at h ⊢
  obtain⟨e,he,hb⟩:=Array.any_eq_true'.1 h
  refine Array.any_eq_true'.2 ⟨e,he,?_⟩
  simp only[Bool.and_eq_true,Bool.or_eq_true] at hb ⊢
  exact⟨hb.1,.inl hb.2⟩
def uE (l:List Oper) (late:List Nat):List Nat→List Nat→Bool
 |[],_=>true
 |i::r,dn=>wT l late dn i && late.all (fun j=>tR l.toArray i j||pJ l.toArray i l.length j) && uE l late r (i::dn)
theorem pK:∀(l2 dn:List Nat),uE l late l2 dn=true→uW l late l2 dn=true
 |[],_,_=>rfl
 |i::r,dn,h=>by
  unfold uE at h
  unfold uW
  simp only[Bool.and_eq_true] at h ⊢
  refine⟨⟨h.1.1,List.all_eq_true.2 fun j hj=>?_⟩,pK r _ h.2⟩
  have h1:=(List.all_eq_true.1 h.1.2) j hj
  rcases Bool.or_eq_true _ _▸h1 with h2|h2
  ·cases hl:l.length with
   |zero=>simp only[List.length_eq_zero_iff] at hl;subst hl;simp [tR] at h2
   |succ n=>exact yQ h2
  ·exact h2
theorem AR.reads (l2:List Nat) (hB:uE l late l2 dn=true) (hL:iq late (gN l.length dn)=false) (hle:Nat.ble (l2.length+dn.length) l.length=true)
  (h:∀g':eY,Gs g' g→a_ .held P g' l.toArray (pick l l2) (ji fun δ'=>∀k':Wt,k'.2.2=δ.nx→AR P g k' late l QD (l2.reverse++dn) δ') δ):AR P g k late l QD dn δ:=by
 intro yz κ a w r
 have IC:l2.length+dn.length≤l.length:=by simpa using hle
 have h1:=h (A9 g k late (gN l.length dn)) ⟨rfl,rfl,rfl⟩ κ a w r
 have jz:=r.wt k (show(if iq late (gN l.length dn)=true then none else some k)=some k by rw[hL];rfl)
 obtain⟨k',hk⟩:∃k':Wt,k'=(w,(fun b=>b<w.heap.size∧((∀i,δ.lr i→κ i≠some b)∧¬κ.Fs b)),δ.nx):=⟨_,rfl⟩
 have pt:∀fi w',B8 k' late fi w'→B8 k late fi w':=by
  intro fi w' h3 hl b hb
  obtain⟨h4,h5⟩:=jz.1 b hb
  have h6:b<w.heap.size:=by
   rw[Array.getElem?_eq_getElem h4] at h5
   exact(Array.getElem?_eq_some_iff.1 h5).1
  have h7:k'.2.1 b:=by
   rw[hk]
   exact⟨h6,fun i hi hκ=>jz.2 i b ⟨_,hi⟩ (.inl hi) hκ hb,fun⟨j,hj⟩=>(r.fr.2 j b hj).1.2 k (show(if iq late (gN l.length dn)=true then none else some k)=some k by rw[hL];rfl) hb⟩
  have h8:=(h3 hl b h7).2
  rw[hk] at h8
  exact⟨h4,h8.trans h5⟩
 have WD:∀(fuel:Nat) (fi:Array Bool) (a:Act) (w':World),ox g.ro P l.toArray (rZ g QD) (B8 k' late) fuel fi a w'→ox g.ro P l.toArray (rZ g QD) (B8 k late) fuel fi a w':=by
  intro fuel
  induction fuel with
  |zero=>intro _ _ _ h;exact h
  |succ fuel ih=>intro fi a w' h;exact⟨h.1,fun i hi=>wpOpIn_mono (fun a' w'' h'=>⟨pt _ _ h'.1,ih _ _ _ h'.2⟩) (h.2 i hi)⟩
 have F4:l.length - dn.length=l2.length+(l.length - (l2.reverse++dn).length):=by simp;omega
 rw[F4]
 have nh:B8 k' late (gN l.length dn) w:=fun _ b hb=>by subst hk;exact⟨hb.1,rfl⟩
 refine WD _ _ _ _ (K0 (ro:=g.ro) (g:=g) (QD:=QD) (late:=late) (l:=l) (P:=P) (δ0:=δ) (κ1:=κ) (w1:=w) (k:=k') (by rw[hk]) (by rw[hk]) (N:=l.length - (l2.reverse++dn).length) l2 dn a (pK _ _ hB) yz nh h1 (fun a' F3 uh=>?_))
 obtain⟨δ',hq,HN,r2⟩:=F3
 refine hq k' (by rw[hk]) uh κ a' w ?_
 have jo:∀i,δ'.ob i=δ.ob i:=fun i=>by unfold DS.ob;rw[HN]
 refine Rel.NG (g:=A9 g k late (gN l.length dn)) r2 (wt':=if iq late (gN l.length (l2.reverse++dn))=true then none else some k') (fun k'' jN=>?_) (fun k'' jN b hb yO=>?_)
 rotate_left
 ·split at jN
  ·cases jN
  ·cases jN
   subst hk
   exact yO.2.2 hb
 split at jN
 ·cases jN
 ·cases jN
  subst hk
  refine⟨fun b hb=>⟨hb.1,rfl⟩,fun i b B7 uR hκ hb=>?_⟩
  rcases uR with uR|uR
  ·exact hb.2.1 i (by have:δ'.ob i=some .row:=uR;rw[jo] at this;exact this) hκ
  ·obtain⟨o,B7⟩:=B7
   rw[jo] at B7
   exact absurd (r.nx i ⟨o,B7⟩) (Nat.not_lt.2 uR)
end Go.Ab
/- A part of a box,loaded as a whole. -/
namespace Go.Ab
open Go Go.RowKit
inductive Sub:Nat→Nat→List AV→List AV→Prop where
 |nil {l}:Sub 0 0 l []
 |take {n a l vs}:Sub 0 n l vs→Sub 0 (n+1) (a::l) (a::vs)
 |skip {k n a l vs}:Sub k n l vs→Sub (k+1) n (a::l) vs
theorem Sub.spec {k n:Nat} {l vs:List AV} (h:Sub k n l vs):(l.drop k).take n=vs∧k+n≤l.length:=by
 induction h with
 |nil=>simp
 |take _ ih=>simp at ih ⊢;exact⟨ih.1,ih.2⟩
 |skip _ ih=>simp at ih ⊢;exact⟨ih.1,by omega⟩
variable {q:Md} {P:Program} {g:eY} {δ:DS} {ops:Array Oper} {rest:List Oper} {Q:Exit→DS→Prop} {dst:Option Nat} {ty:TypeId} {pos:String} {af:Array Edge}
theorem a_.fU {x:Operand} {t:TypeId} {i off n:Nat} {cells vs:List AV} (hx:δ.ev x=.ptr i off) (hb:δ.ob i=some (.box cells)) (hn:(P.info? t).map (·.size)=some n) (hs:Sub off n cells vs) (ht:yT P t n=true) (ho:fk x=true) (hd:gb δ.n dst=true)
  (hK:a_ q P g ops rest Q (δ.eZ dst (.agg vs))):a_ q P g ops (⟨dst,.load t x,ty,pos,af,none⟩::rest) Q δ:=
 a_.FX (n:=n) hx hb ht (by simpa using hs.spec.2) ho hd (by rw[hs.spec.1];exact hK)
theorem a_.E8 {x y z:Operand} {b:Bool} {v:PV} (hx:δ.ev x=fe b) (hy:δ.ev y=.pv v) (hb:b=true) (ho:fk x=true) (np:fk y=true) (s8:fk z=true) (hd:gb δ.n dst=true)
  (hK:a_ q P g ops rest Q (δ.eZ dst (.pv v))):a_ q P g ops (⟨dst,.pick x y z,ty,pos,af,none⟩::rest) Q δ:=a_.kv (hb▸hx) hy ho np s8 hd hK
theorem a_.Qz {x y z:Operand} {b:Bool} {v:PV} (hx:δ.ev x=fe b) (hz:δ.ev z=.pv v) (hb:b=false) (ho:fk x=true) (np:fk y=true) (s8:fk z=true) (hd:gb δ.n dst=true)
  (hK:a_ q P g ops rest Q (δ.eZ dst (.pv v))):a_ q P g ops (⟨dst,.pick x y z,ty,pos,af,none⟩::rest) Q δ:=a_.jk (hb▸hx) hz ho np s8 hd hK
variable {gd:Option (Tmp×Bool)}
theorem je.LY {t e:TypeId} {x0:Operand} {p0 p1 p2:PV} {z:Value} (ht:P.underlying t=some (.slice e)) (h0:δ.ev x0=.agg [.pv p0,.pv p1,.pv p2]) (hi:(P.info? e).map (fun i=>(i.size,i.zero))=some (3,some z)) (hz:z.cells.toList.all (·.oneCell')=true) (mK:Nat.beq z.cells.size 3=true)
  (k0:AV.one (.pv p0)=true) (k1:AV.one (.pv p1)=true) (k2:AV.one (.pv p2)=true) (o0:fk x0=true) (hd:gb δ.n dst=true):je P g ⟨dst,.buildSlice t 1 [(0,x0)].toArray,ty,pos,af,gd⟩ δ ((δ.fM .row).eZ dst (.own δ.nx e 3 [[p0,p1,p2]])):=by
 have hf:iN (fun i=>some (i*3,3)) (jb z (1*3)) (([(0,x0)]:List (Nat×Operand)).map fun p=>(p.1,δ.ev p.2))=some [.pv p0,.pv p1,.pv p2]:=by
  simp [iN,lk,AV.cellsOf,AV.mE,jb,h0,k0,k1,k2]<;>rfl
 exact je.buildSlice (len:=1) (k:=3) (parts:=[(0,x0)]) (cells:=[.pv p0,.pv p1,.pv p2]) ht hi mK rfl rfl hz (by simp [o0]) hf (by simp [AV.xw]) hd
theorem a_.LY {t e:TypeId} {x0:Operand} {p0 p1 p2:PV} {z:Value} (ht:P.underlying t=some (.slice e)) (h0:δ.ev x0=.agg [.pv p0,.pv p1,.pv p2]) (hi:(P.info? e).map (fun i=>(i.size,i.zero))=some (3,some z)) (hz:z.cells.toList.all (·.oneCell')=true) (mK:Nat.beq z.cells.size 3=true)
  (k0:AV.one (.pv p0)=true) (k1:AV.one (.pv p1)=true) (k2:AV.one (.pv p2)=true) (o0:fk x0=true) (hd:gb δ.n dst=true) (hK:a_ .plain P g ops rest Q ((δ.fM .row).eZ dst (.own δ.nx e 3 [[p0,p1,p2]]))):
  a_ .plain P g ops (⟨dst,.buildSlice t 1 [(0,x0)].toArray,ty,pos,af,none⟩::rest) Q δ:=a_.vA rfl rfl (je.LY ht h0 hi hz mK k0 k1 k2 o0 hd) hK
end Go.Ab
/- The checks over a region's orders,quick for the kernel:what is listed lies as the bits of one number. -/
namespace Go.Ab
open Go Go.RowKit
variable {P:Program} {g:eY} {δ:DS} {k:Wt} {late:List Nat} {l:List Oper} {dn:List Nat} {QD:Exit→DS→Prop}
def ja (n:Nat):List Nat→Nat
 |[]=>0
 |i::d=>bif Nat.blt i n then ja n d|||(1<<<i) else ja n d
theorem j9 {n:Nat}:∀{d:List Nat} {j:Nat},(ja n d).testBit j=(gN n d).getD j false
 |[],j=>by
  show Nat.testBit 0 j=(Array.replicate n false).getD j false
  rw[Nat.zero_testBit]
  simp [Array.getD_eq_getD_getElem?,Array.getElem?_replicate]
  split<;>rfl
 |i::d,j=>by
  show(bif Nat.blt i n then ja n d|||(1<<<i) else ja n d).testBit j=((gN n d).setIfInBounds i true).getD j false
  rw[LV]
  have mX:(gN n d).size=n:=by
   clear j
   induction d with
   |nil=>simp [gN]
   |cons i d ih=>simp [gN,ih]
  by_cases hi:i<n
  ·have hb:Nat.blt i n=true:=by simpa using hi
   rw[hb,cond_true,Nat.testBit_or,j9,Nat.one_shiftLeft,Nat.testBit_two_pow]
   by_cases Ad:i=j
   ·subst Ad;simp [mX,hi]
   ·simp [Ad]
  ·have hb:Nat.blt i n=false:=by
    cases h:Nat.blt i n with
    |false=>rfl
    |true=>exact absurd (by simpa using h) hi
   rw[hb,cond_false,j9]
   by_cases Ad:i=j
   ·subst Ad
    rw[if_pos rfl,if_neg aG]
    simp [Array.getD_eq_getD_getElem?,Array.getElem?_eq_none (by omega:(gN n d).size≤i)]
   ·rw[if_neg Ad]
def qO (m:Nat) (o:Oper):Bool:=o.after.toList.all fun e=>!Region.binds .any e||m.testBit e.on
def lA (m:Nat):Nat→List Oper→List Nat
 |_,[]=>[]
 |j,o::r=>bif !m.testBit j && qO m o then j::lA m (j+1) r else lA m (j+1) r
theorem r8 (m:Nat):∀(l:List Oper) (j:Nat),lA m j l=((List.range l.length).filter fun i=>!m.testBit (j+i) && ((l[i]?).map (qO m)).getD false).map (j+·)
 |[],_=>rfl
 |o::r,j=>by
  rw[List.length_cons,List.range_succ_eq_map,List.filter_cons,lA,r8 m r (j+1)]
  simp only[Nat.add_zero,List.getElem?_cons_zero,Option.map_some,Option.getD_some,List.filter_map]
  have e:(List.map (fun x=>j+x) (List.map Nat.succ (List.filter ((fun i=>!m.testBit (j+i) && (Option.map (qO m) (o::r)[i]?).getD false)∘Nat.succ) (List.range r.length))))=List.map (fun x=>j+1+x) (List.filter (fun i=>!m.testBit (j+1+i) && (Option.map (qO m) r[i]?).getD false) (List.range r.length)):=by
   rw[List.map_map]
   have e2:((fun i=>!m.testBit (j+i) && (Option.map (qO m) (o::r)[i]?).getD false)∘Nat.succ)=(fun i=>!m.testBit (j+1+i) && (Option.map (qO m) r[i]?).getD false):=by
    funext i
    simp only[Function.comp,Nat.succ_eq_add_one,List.getElem?_cons_succ]
    rw[show j+(i+1)=j+1+i by omega]
   rw[e2]
   apply List.map_congr_left
   intro i _
   simp only[Function.comp,Nat.succ_eq_add_one]
   omega
  cases (!m.testBit j && qO m o) with
  |true=>simp only[cond_true,if_true,List.map_cons,Nat.add_zero];rw[e]
  |false=>simp only[cond_false,Bool.false_eq_true,if_false];rw[e]
theorem zQ:Region.ready .any l.toArray (gN l.length dn)=lA (ja l.length dn) 0 l:=by
 rw[r8]
 unfold Region.ready
 simp only[Nat.zero_add,List.size_toArray]
 rw[show(fun x:Nat=>x)=id from rfl,List.map_id]
 apply List.filter_congr
 intro i hi
 have zV:i<l.length:=List.mem_range.1 hi
 have e1:(gN l.length dn).getD i true=(ja l.length dn).testBit i:=by
  rw[j9]
  have mX:(gN l.length dn).size=l.length:=by
   clear hi zV
   generalize l.length=n
   induction dn with
   |nil=>simp [gN]
   |cons i d ih=>simp [gN,ih]
  rw[Array.getD_eq_getD_getElem?,Array.getD_eq_getD_getElem?,Array.getElem?_eq_getElem aG];rfl
 rw[e1]
 congr 1
 rw[List.getElem?_toArray]
 congr 2
 funext o
 unfold qO
 rw[← Array.all_toList]
 congr 1
 funext e
 rw[j9]
theorem mf {rs:List Nat} (h:(lA (ja l.length dn) 0 l==rs)=true):mn l dn rs=true:=by
 unfold mn;rw[zQ];exact h
def Az (late:List Nat) (m:Nat):Bool:=late.any m.testBit
theorem tx:iq late (gN l.length dn)=Az late (ja l.length dn):=by
 unfold iq Az
 congr 1
 funext j
 rw[j9]
def F7 (ops:Array Oper) (m i:Nat) (oi:Oper):Nat→List Oper→Bool
 |_,[]=>true
 |j,o::r=>(Nat.beq j i||m.testBit j||o.after.toList.any (fun e=>Region.binds .any e && Nat.beq e.on i)||oi.apart ops o) && F7 ops m i oi (j+1) r
theorem xy {ops:Array Oper} {m i:Nat} {oi:Oper}:∀{l:List Oper} {j:Nat},F7 ops m i oi j l=true→∀(x:Nat) (o:Oper),l[x]? =some o→(j+x==i||m.testBit (j+x)||(o.after.any (fun e=>Region.binds .any e && e.on==i)||oi.apart ops o))=true
 |[],_,_,x,o,h=>by simp at h
 |o'::r,j,h,x,o,hx=>by
  unfold F7 at h
  rw[Bool.and_eq_true] at h
  cases x with
  |zero=>
   simp only[List.getElem?_cons_zero,Option.some.injEq] at hx
   subst hx
   have h1:=h.1
   simp only[Nat.add_zero]
   rw[← Array.any_toList]
   simpa [Bool.or_assoc] using h1
  |succ x=>
   rw[List.getElem?_cons_succ] at hx
   have:=xy h.2 x o hx
   rwa [show j+1+x=j+(x+1) by omega] at this
def MD (l:List Oper) (late:List Nat) (m:Nat) (i:Nat):Bool:=
 (lA m 0 l).contains i && (match l[i]? with|some oi=>F7 l.toArray m i oi 0 l|none=>false) && !late.contains i
def firstM (l:List Oper) (late:List Nat):List Nat→List Nat→Bool
 |[],_=>true
 |i::r,dn=>MD l late (ja l.length dn) i && late.all (fun j=>tR l.toArray i j||pJ l.toArray i l.length j) && firstM l late r (i::dn)
def Cm (l:List Oper):Bool:=Region.noSelect l.toArray && l.all kz
theorem Fm {i:Nat} (hf:Cm l=true) (hl:Nat.blt dn.length l.length=true) (h:MD l late (ja l.length dn) i=true):wT l late dn i=true:=by
 unfold Cm at hf
 unfold MD at h
 unfold wT
 simp only[Bool.and_eq_true] at hf h ⊢
 refine⟨⟨⟨⟨hf,by rw[zQ];exact h.1.1⟩,?_⟩,h.2⟩,hl⟩
 have h2:=h.1.2
 unfold Region.free
 rw[List.getElem?_toArray]
 cases ho:l[i]? with
 |none=>rw[ho] at h2;cases h2
 |some oi=>
  rw[ho] at h2
  simp only at h2 ⊢
  rw[List.all_eq_true]
  intro j hj
  have ql:j<l.length:=by simpa using hj
  have h3:=xy h2 j _ (List.getElem?_eq_getElem ql)
  rw[Nat.zero_add,j9] at h3
  have mX:(gN l.length dn).size=l.length:=by
   clear hf h h2 h3 hl
   generalize l.length=n
   induction dn with
   |nil=>simp [gN]
   |cons i d ih=>simp [gN,ih]
  have e1:(gN l.length dn).getD j true=(gN l.length dn).getD j false:=by
   rw[Array.getD_eq_getD_getElem?,Array.getD_eq_getD_getElem?,Array.getElem?_eq_getElem aG];rfl
  rw[e1,List.getElem?_toArray,List.getElem?_eq_getElem ql]
  exact h3
theorem pM (hf:Cm l=true):∀(l2 dn:List Nat),Nat.ble (l2.length+dn.length) l.length=true→firstM l late l2 dn=true→uE l late l2 dn=true
 |[],_,_,_=>rfl
 |i::r,dn,hle,h=>by
  unfold firstM at h
  unfold uE
  simp only[Bool.and_eq_true] at h ⊢
  have IC:(i::r).length+dn.length≤l.length:=by simpa using hle
  simp only[List.length_cons] at IC
  exact⟨⟨Fm hf (by simp;omega) h.1.1,h.1.2⟩,pM hf r _ (by simp;omega) h.2⟩
theorem AR.lW (l2:List Nat) (hf:Cm l=true) (hB:firstM l late l2 dn=true) (hL:Az late (ja l.length dn)=false) (hle:Nat.ble (l2.length+dn.length) l.length=true)
  (h:∀g':eY,Gs g' g→a_ .held P g' l.toArray (pick l l2) (ji fun δ'=>∀k':Wt,k'.2.2=δ.nx→AR P g k' late l QD (l2.reverse++dn) δ') δ):AR P g k late l QD dn δ:=
 AR.reads l2 (pM hf _ _ hle hB) (by rw[tx];exact hL) hle h
theorem AR.K4 (jz:g.wt=none) (hr:(lA (ja l.length dn) 0 l==[])=true) (h:QD .normal δ):AR P g k late l QD dn δ:=AR.done jz (mf hr) h
theorem AR.fI {i:Nat} {o:Oper} (hl:Nat.blt dn.length l.length=true) (hr:(lA (ja l.length dn) 0 l==[i])=true) (ho:l[i]? =some o)
  (h:∀g':eY,Gs g' g→(∀j,k.2.2≤j→g'.nP j)→a_ .plain P g' l.toArray [o] (ji (AR P g k late l QD (i::dn))) δ):AR P g k late l QD dn δ:=AR.mG hl (mf hr) ho h
theorem AR.iz {i:Nat} {o:Oper} (hl:Nat.blt dn.length l.length=true) (hr:(lA (ja l.length dn) 0 l==[i])=true) (ho:l[i]? =some o) (ft:Az late (ja l.length (i::dn))=true)
  (h:∀g':eY,Gs g' g→g'.wt=none→a_ .plain P g' l.toArray [o] (ji (AR P g k late l QD (i::dn))) δ):AR P g k late l QD dn δ:=AR.nC hl (mf hr) ho (by rw[tx];exact ft) h
theorem AR.iI {i j:Nat} {o p:Oper} (hl:Nat.blt dn.length l.length=true) (hr:(lA (ja l.length dn) 0 l==[i,j])=true) (ho:l[i]? =some o) (hp:l[j]? =some p)
  (h:∀g':eY,Gs g' g→(∀j,k.2.2≤j→g'.nP j)→a_ .plain P g' l.toArray [o] (ji (AR P g k late l QD (i::dn))) δ)
  (h':∀g':eY,Gs g' g→(∀j,k.2.2≤j→g'.nP j)→a_ .plain P g' l.toArray [p] (ji (AR P g k late l QD (j::dn))) δ):AR P g k late l QD dn δ:=AR.Wn hl (mf hr) ho hp h h'
theorem AW.ie {id:Nat} (l1:List Nat) (late:List Nat) {l:List Oper} (hm:P.follows .mixedOrders=true) (jz:g.wt=none) (hf:Cm l=true) (hB:firstM l late l1 []=true) (hle:Nat.ble l1.length l.length=true)
  (h:a_ .held P g l.toArray (pick l l1) (ji fun δ'=>∀k:Wt,k.2.2=δ.nx→AR P g k late l QD l1.reverse δ') δ):AW P g (.region id l.toArray true) QD δ:=
 AW.tY l1 late hm jz (pK _ _ (pM hf _ _ (by simpa using hle) hB)) hle h
end Go.Ab
/- A loop's state told by what stays of the state before it and what changes. -/
namespace Go.Ab
open Go Go.RowKit
variable {P:Program} {g:eY} {δ:DS}
def J6 (e:List (Nat×AV)):List Nat→List (Nat×AV)
 |[]=>[]
 |k::ks=>(k,look e k)::J6 e ks
def Ks (o:List (Nat×Option Ob)):List Nat→List (Nat×Option Ob)
 |[]=>[]
 |k::ks=>(k,fc o k)::Ks o ks
def KP:List (Nat×Option Ob)→Nat→Nat
 |[],n=>n
 |(k,_)::r,n=>KP r (bif Nat.ble n k then k+1 else n)
namespace Nf
theorem nx0 (n:Nat):KP [] n=n:=rfl
theorem nx1 (k n:Nat) (v:Option Ob) (r:List (Nat×Option Ob)):KP ((k,v)::r) n=KP r (bif Nat.ble n k then k+1 else n):=rfl
def ao:List (Nat×Option Ob)→List (Nat×Option Ob)→List (Nat×Option Ob)
 |[],m=>m
 |v::r,m=>v::ao r m
theorem ao0 (m:List (Nat×Option Ob)):ao [] m=m:=rfl
theorem ao1 (v:Nat×Option Ob) (r m:List (Nat×Option Ob)):ao (v::r) m=v::ao r m:=rfl
theorem se0 (e:List (Nat×AV)):J6 e []=[]:=rfl
theorem se1 (e:List (Nat×AV)) (k:Nat) (ks:List Nat):J6 e (k::ks)=(k,look e k)::J6 e ks:=rfl
theorem so0 (e:List (Nat×Option Ob)):Ks e []=[]:=rfl
theorem so1 (e:List (Nat×Option Ob)) (k:Nat) (ks:List Nat):Ks e (k::ks)=(k,fc e k)::Ks e ks:=rfl
set_option linter.defProp false in
def jI:=And.intro @nx0 (And.intro @nx1 (And.intro @ao0 (And.intro @ao1 (And.intro @se0 (And.intro @se1 (And.intro @so0 @so1))))))
end Nf
theorem AW.fO {S:Type} {c:Code} {Q:Exit→DS→Prop} (ks os:List Nat) (u:S→List (Nat×AV)) (ou:S→List (Nat×Option Ob)) (I:S→Prop) (μ:S→Nat) (s0:S) {D:S→DS}
  (hD:(fun s=>(⟨δ.n,Nf.ae (u s) (J6 δ.env ks),Nf.ao (ou s) (Ks δ.fY os),KP (ou s) δ.nx⟩:DS))=D) (hs:I s0) (hw:lD g δ (D s0))
  (round:∀s,I s→AW P g c (fT (fun δ'=>∃s',I s'∧μ s'<μ s∧lD g δ' (D s')) Q) (D s)):AW P g (.loop c) Q δ:=AW.loop D I μ s0 hs hw round
theorem Rd.raw {P:Program} {t e:TypeId} (ht:P.underlying t=some (.slice e)):Rd P t (fun s:Option Addr×Nat×Nat=>[.lit (.slice s.1 s.2.1 s.2.2)]) (fun _=>True):=by
 intro H en w sp fuel cs x hx _
 rcases DataW.trod_slice ht hx with ⟨rfl,rfl⟩|⟨a,len,cap,elems,rest,n,rfl,rfl,rfl,_⟩
 ·exact⟨(_,_,_),.one (.lit _) rfl,trivial⟩
 ·exact⟨(_,_,_),.one (.lit _) rfl,trivial⟩
end Go.Ab
/- Quotient and remainder of numbers that are not below zero. -/
namespace Go.Ab
open Go Go.RowKit
variable {q:Md} {P:Program} {g:eY} {δ:DS} {ops:Array Oper} {rest:List Oper} {Q:Exit→DS→Prop} {dst:Option Nat} {ty:TypeId} {pos:String} {af:Array Edge} {x y:Operand} {m n:Int} {t t':TypeId}
theorem a_.Ef (hx:δ.ev x=eU m) (hy:δ.ev y=eU n) (ho:fk x=true) (gi:fk y=true) (hd:gb δ.n dst=true) (h0:0≤m∧0<n) (hK:a_ q P g ops rest Q (δ.eZ dst (eU (m % n)))):a_ q P g ops (⟨dst,.binOp .rem t x y t',ty,pos,af,none⟩::rest) Q δ:=
 a_.rem hx hy ho gi hd aG (by rw[Int.tmod_eq_emod_of_nonneg h0.1];exact hK)
theorem a_.J7 (hx:δ.ev x=eU m) (hy:δ.ev y=eU n) (ho:fk x=true) (gi:fk y=true) (hd:gb δ.n dst=true) (h0:0≤m∧m≤9223372036854775807∧0<n) (hK:a_ q P g ops rest Q (δ.eZ dst (eU (m / n)))):a_ q P g ops (⟨dst,.binOp .quo t x y t',ty,pos,af,none⟩::rest) Q δ:=
 a_.quo hx hy ho gi hd aG (by
  have h1:m.tdiv n=m / n:=Int.tdiv_eq_ediv_of_nonneg h0.1
  have h2:0≤m / n:=Int.ediv_nonneg h0.1 (by omega)
  have h3:m / n≤m:=Int.ediv_le_self _ h0.1
  rw[h1,IntWalk.i64_in _ aG]
  exact hK)
end Go.Ab
/- Two objects' names exchanged;the orders of a drawn region brought together again. -/
namespace Go.Ab
open Go Go.RowKit
variable {P:Program} {g:eY} {δ:DS} {κ:Kp} {a:Act} {w:World}
def lL (i j x:Nat):Nat:=bif Nat.beq i x then j else bif Nat.beq j x then i else x
theorem Eu (i j x:Nat):lL i j x=if i=x then j else if j=x then i else x:=by
 unfold lL
 by_cases h1:i=x
 ·subst h1;simp
 ·rw[mO h1,if_neg h1]
  by_cases h2:j=x
  ·subst h2;simp
  ·rw[mO h2,if_neg h2];rfl
theorem jr (i j x:Nat):lL i j (lL i j x)=x:=by
 simp only[Eu]
 split<;>split<;>(try split)<;>omega
mutual
def AV.sw (i j:Nat):AV→AV
 |.any=> .any
 |.pv p=> .pv p
 |.own x e k e7=> .own (lL i j x) e k e7
 |.ptr x o=> .ptr (lL i j x) o
 |.gy c=> .gy c
 |.gY x e k e7 n=> .gY (lL i j x) e k e7 n
 |.agg cs=> .agg (AV.y8 i j cs)
 |.iR cs=> .iR (AV.y8 i j cs)
 |.jd fn cs ds=> .jd fn (AV.y8 i j cs) (AV.y8 i j ds)
 |.gH x=> .gH (lL i j x)
 |.kS x=> .kS (lL i j x)
def AV.y8 (i j:Nat):List AV→List AV
 |[]=>[]
 |c::cs=>AV.sw i j c::AV.y8 i j cs
end
theorem AV.uv (i j:Nat):∀l,AV.y8 i j l=l.map (AV.sw i j)
 |[]=>rfl
 |c::cs=>by simp [AV.y8,AV.uv i j cs]
def Ob.sw (i j:Nat):Ob→Ob
 |.row=> .row
 |.box cs=> .box (AV.y8 i j cs)
 |.mp l=> .mp (l.map fun p=>(p.1,p.2.sw i j))
 |.mpl l k v=> .mpl (l.map fun p=>(p.1,p.2.sw i j)) k (v.sw i j)
 |.it l seen=> .it l seen
 |.lit T vals=> .lit T vals
 |.fm e rows=> .fm e rows
 |.loop l tm ps iQ body st=> .loop l tm ps iQ body st
theorem Ob.Rh (i j:Nat) (o:Ob):(o.sw i j).ld=o.ld:=by cases o<;>rfl
def Qo (i j:Nat):List (Nat×AV)→List (Nat×AV)
 |[]=>[]
 |(x,v)::r=>(x,v.sw i j)::Qo i j r
def AH (i j:Nat):List (Nat×Option Ob)→List (Nat×Option Ob)
 |[]=>[]
 |(x,none)::r=>(lL i j x,none)::AH i j r
 |(x,some o)::r=>(lL i j x,some (o.sw i j))::AH i j r
def DS.sw (δ:DS) (i j:Nat):DS:=⟨δ.n,Qo i j δ.env,AH i j δ.fY,δ.nx⟩
theorem GZ (i j:Nat) (k:Nat):∀e,look (Qo i j e) k=(look e k).sw i j
 |[]=>rfl
 |(x,v)::r=>by
  unfold Qo
  simp only[fC,GZ i j k r]
  split<;>rfl
theorem uZ (i j:Nat) (k:Nat):∀e,fc (AH i j e) (lL i j k)=(fc e k).map (Ob.sw i j)
 |[]=>rfl
 |(x,o)::r=>by
  have hx:(lL i j x=lL i j k)=(x=k):=by
   apply propext
   constructor
   ·intro h;rw[← jr i j x,h,jr]
   ·intro h;rw[h]
  cases o with
  |none=>
   unfold AH
   simp only[fj,uZ i j k r,hx]
   split<;>rfl
  |some o=>
   unfold AH
   simp only[fj,uZ i j k r,hx]
   split<;>rfl
theorem GL (i j k:Nat):(δ.sw i j).ob k=(δ.ob (lL i j k)).map (Ob.sw i j):=by
 have:=uZ i j (lL i j k) δ.fY
 rw[jr] at this
 exact this
theorem mZ (i j k:Nat):(δ.sw i j).live k↔δ.live (lL i j k):=by
 unfold DS.live
 rw[GL]
 cases δ.ob (lL i j k)<;>simp
theorem Qf (i j k:Nat):(δ.sw i j).lr k↔δ.lr (lL i j k):=by
 unfold DS.lr
 rw[GL]
 cases h:δ.ob (lL i j k) with
 |none=>simp
 |some o=>cases o<;>simp [Ob.sw]
theorem J2 (i j k:Nat):(δ.sw i j).lb k↔δ.lb (lL i j k):=by
 unfold DS.lb
 rw[GL]
 cases h:δ.ob (lL i j k) with
 |none=>simp
 |some o=>simp [Ob.Rh]
def Qe (i j:Nat) (κ:Kp):Kp:=⟨fun x=>κ (lL i j x),fun x b=>κ.F (lL i j x) b⟩
theorem PN (i j b:Nat):(Qe i j κ).Fs b↔κ.Fs b:=by
 constructor
 ·rintro⟨x,h⟩;exact⟨_,h⟩
 ·rintro⟨x,h⟩;exact⟨lL i j x,by show κ.F (lL i j (lL i j x)) b;rw[jr];exact h⟩
theorem Tf (i j b:Nat):((δ.sw i j).cx g (Qe i j κ)).N b↔(δ.cx g κ).N b:=by
 show((g.N0 b∧_)∧_)↔((g.N0 b∧_)∧_)
 constructor
 ·rintro⟨h1,h2⟩
  refine⟨⟨h1.1,fun h=>h1.2 ((PN i j b).2 h)⟩,fun x hx=>?_⟩
  have:=h2 (lL i j x) ((mZ i j _).2 (by rw[jr];exact hx))
  have this:κ (lL i j (lL i j x))≠some b:=this
  rwa [jr] at this
 ·rintro⟨h1,h2⟩
  exact⟨⟨h1.1,fun h=>h1.2 ((PN i j b).1 h)⟩,fun x hx=>h2 _ ((mZ i j _).1 hx)⟩
theorem JZ (i j:Nat) {v:Value} {p:PV} (h:RP (δ.cx g κ).N w v p):RP ((δ.sw i j).cx g (Qe i j κ)).N w v p:=
 h.mono (Nat.le_refl _) fun b _ hb=>⟨(Tf i j b).2 hb,rfl⟩
theorem Mf (i j:Nat) {v:Value} {x:Nat} {e:TypeId} {k:Nat} {e7:List (List PV)} (h:jB (δ.cx g κ) w v x e k e7):jB ((δ.sw i j).cx g (Qe i j κ)) w v (lL i j x) e k e7:=by
 obtain⟨hl,mP,hk,hb,xs,ho,h1,hx⟩:=h
 refine⟨(Qf i j _).2 (by rw[jr];exact hl),mP,hk,fun b hv=>?_,xs,ho,h1,fun i' j' p hp=>let ⟨u,h1,h2⟩:=hx i' j' p hp;⟨u,h1,JZ i j h2⟩⟩
 show κ (lL i j (lL i j x))=some b
 rw[jr];exact hb b hv
theorem G2 (i j:Nat) {v:Value} {av:AV} (h:RA (δ.cx g κ) w v av):RA ((δ.sw i j).cx g (Qe i j κ)) w v (av.sw i j):=by
 induction h with
 |any v=>exact .any v
 |pv h=>exact .pv (JZ i j h)
 |own h=>exact .own (Mf i j h)
 |ptr hl hκ=>exact .ptr ((J2 i j _).2 (by rw[jr];exact hl)) (by show κ (lL i j (lL i j _))=_;rw[jr];exact hκ)
 |gy b off vs hN hb hc hr=>exact .gy b off vs ((Tf i j b).2 hN) hb hc fun k p hp=>JZ i j (hr k p hp)
 |gY hi h=>exact .gY hi (Mf i j h)
 |agg hs h ih=>
  show RA _ _ _ (.agg (AV.y8 i j _))
  rw[AV.uv]
  refine .agg (by simp [hs]) fun k u c hu hc=>?_
  rw[List.getElem?_map] at hc
  obtain⟨c',AI,rfl⟩:=Option.map_eq_some_iff.1 hc
  exact ih k u c' hu AI
 |iR hs h ih=>
  show RA _ _ _ (.iR (AV.y8 i j _))
  rw[AV.uv]
  refine .iR (by simp [hs]) fun k u c hu hc=>?_
  rw[List.getElem?_map] at hc
  obtain⟨c',AI,rfl⟩:=Option.map_eq_some_iff.1 hc
  exact ih k u c' hu AI
 |jd hs h ht h' ih ih'=>
  show RA _ _ _ (.jd _ (AV.y8 i j _) (AV.y8 i j _))
  rw[AV.uv,AV.uv]
  refine .jd (by simp [hs]) (fun k u c hu hc=>?_) (by simp [ht]) (fun k u c hu hc=>?_)
  ·rw[List.getElem?_map] at hc
   obtain⟨c',AI,rfl⟩:=Option.map_eq_some_iff.1 hc
   exact ih k u c' hu AI
  ·rw[List.getElem?_map] at hc
   obtain⟨c',AI,rfl⟩:=Option.map_eq_some_iff.1 hc
   exact ih' k u c' hu AI
 |gH hl hκ=>exact .gH ((J2 i j _).2 (by rw[jr];exact hl)) (by show κ (lL i j (lL i j _))=_;rw[jr];exact hκ)
 |kS hl hκ=>exact .kS ((J2 i j _).2 (by rw[jr];exact hl)) (by show κ (lL i j (lL i j _))=_;rw[jr];exact hκ)
theorem CS (i j:Nat) (v:AV):(v.sw i j).kM=v.kM:=by cases v<;>rfl
theorem oo.sw (i j:Nat) {x:Nat} {o:Ob} (h:oo (δ.cx g κ) w x o):oo ((δ.sw i j).cx g (Qe i j κ)) w (lL i j x) (o.sw i j):=by
 have hκ:∀y,((δ.sw i j).cx g (Qe i j κ)).κ (lL i j y)=κ y:=fun y=>by show κ (lL i j (lL i j y))=_;rw[jr]
 cases o with
 |row=>
  intro b hb
  rw[hκ] at hb
  exact h b hb
 |box cs=>
  obtain⟨b,c,e,h1,h2,h3,h4⟩:=h
  show oo _ _ _ (.box (AV.y8 i j cs))
  rw[AV.uv]
  refine⟨b,c,e,(hκ x).trans h1,h2,by simp [h3],fun k u av h5 h6=>?_⟩
  rw[List.getElem?_map] at h6
  obtain⟨c',AI,rfl⟩:=Option.map_eq_some_iff.1 h6
  exact⟨G2 i j (h4 k u c' h5 AI).1,(h4 k u c' h5 AI).2⟩
 |mp l=>
  obtain⟨b,es,clock,h1,h2,h3,h4,h5⟩:=h
  refine⟨b,es,clock,(hκ x).trans h1,h2,⟨by simp [h3.1],fun k e p h6 h7=>?_⟩,h4,fun p hp=>?_⟩
  ·rw[List.getElem?_map] at h7
   obtain⟨p',n9,rfl⟩:=Option.map_eq_some_iff.1 h7
   exact⟨(h3.2 k e p' h6 n9).1,G2 i j (h3.2 k e p' h6 n9).2⟩
  ·obtain⟨p',n9,rfl⟩:=List.mem_map.1 hp
   show(p'.2.sw i j).kM=true
   rw[CS];exact h5 p' n9
 |mpl l kk v=>
  obtain⟨b,es,clock,h1,h2,h3,h4,h5⟩:=h
  refine⟨b,es,clock,(hκ x).trans h1,h2,⟨by simpa using h3.1,fun k e p h6 h7=>?_⟩,h4,fun p hp=>?_⟩
  ·have h8:((l++ [(kk,v)]).map fun p=>(p.1,p.2.sw i j))[k]? =some p:=by simpa using h7
   rw[List.getElem?_map] at h8
   obtain⟨p',n9,rfl⟩:=Option.map_eq_some_iff.1 h8
   exact⟨(h3.2 k e p' h6 n9).1,G2 i j (h3.2 k e p' h6 n9).2⟩
  ·obtain⟨p',n9,rfl⟩:=List.mem_map.1 hp
   show(p'.2.sw i j).kM=true
   rw[CS];exact h5 p' n9
 |it l seen=>
  obtain⟨b,h1,h2⟩:=h
  exact⟨b,(hκ x).trans h1,h2.mono (Nat.le_refl _) (fun b _ hb=>⟨(Tf i j b).2 hb,rfl⟩) rfl⟩
 |lit T vals=>obtain⟨b,h1,h2⟩:=h;exact⟨b,(hκ x).trans h1,h2⟩
 |fm e rows=>exact⟨(hκ x).trans h.1,fun k=>let ⟨h1,h2,h3,h4⟩:=h.2.1 k;⟨h1,h2,fun b hb=>(by show κ.F (lL i j (lL i j x)) b;rw[jr];exact h3 b hb),h4⟩,h.2.2⟩
 |loop l tm ps iQ body st=>
  obtain⟨b,r,h1,h2⟩:=h
  exact⟨b,r,(hκ x).trans h1,h2⟩
theorem Rel.sw (i j:Nat) (hi:i<δ.nx) (hj:j<δ.nx) (hw:∀k,g.wt=some k→k.2.2≤i∧k.2.2≤j) (r:Rel g δ κ a w):Rel g (δ.sw i j) (Qe i j κ) a w where
 n:=r.n
 dfr:=r.dfr
 env:=fun k=>by
  have e:(δ.sw i j).get k=(δ.get k).sw i j:=GZ i j k δ.env
  rw[e];exact G2 i j (r.env k)
 obj:=fun x o h=>by
  rw[GL] at h
  obtain⟨o',gi,rfl⟩:=Option.map_eq_some_iff.1 h
  have:=(r.obj _ o' gi).sw i j
  rwa [jr] at this
 inj:=fun x y b hx hy h1 h2=>by
  have:=r.inj _ _ b ((mZ i j x).1 hx) ((mZ i j y).1 hy) h1 h2
  rw[← jr i j x,this,jr]
 lo:=fun x b hx h1=>r.lo _ b ((mZ i j x).1 hx) h1
 nx:=fun x hx=>by
  have:=r.nx _ ((mZ i j x).1 hx)
  show x<δ.nx
  rw[Eu] at this
  split at this
  ·omega
  ·split at this<;>omega
 wt:=fun k hk=>by
  obtain⟨h1,h2⟩:=hw k hk
  refine⟨(r.wt k hk).1,fun x b hx uR hκ=>(r.wt k hk).2 (lL i j x) b ((mZ i j x).1 hx) ?_ hκ⟩
  rcases uR with uR|uR
  ·exact .inl ((Qf i j x).1 uR)
  ·right
   rw[Eu]
   split
   ·exact h2
   ·split
    ·exact h1
    ·exact uR
 below:=r.below
 hB:=r.hB
 N0:=r.N0
 kI:=r.kI
 fr:=by
  refine⟨fun b hb=>?_,fun x b hb=>?_⟩
  ·obtain⟨h1,h2,h3⟩:=r.fr.1 b hb
   exact⟨h1,h2,fun x hx=>h3 _ ((mZ i j x).1 hx)⟩
  ·obtain⟨h1,h2,h3,h4,h5⟩:=r.fr.2 _ b hb
   refine⟨h1,h2,h3,fun y hy=>h4 _ ((mZ i j y).1 hy),fun y hy=>?_⟩
   rw[← jr i j y,h5 _ hy,jr]
namespace Nf
variable {n x:Nat} {e:List (Nat×AV)} {o:List (Nat×Option Ob)} {i j k:Nat}
theorem sw:DS.sw ⟨n,e,o,x⟩ i j=⟨n,Qo i j e,AH i j o,x⟩:=rfl
theorem X9:Qo i j []=[]:=rfl
theorem Yn (v:AV) (r:List (Nat×AV)):Qo i j ((k,v)::r)=(k,v.sw i j)::Qo i j r:=rfl
theorem Z0:AH i j []=[]:=rfl
theorem YK (r:List (Nat×Option Ob)):AH i j ((k,none)::r)=(lL i j k,none)::AH i j r:=rfl
theorem Xm (r:List (Nat×Option Ob)):AH i j ((k,some .row)::r)=(lL i j k,some .row)::AH i j r:=rfl
theorem V7 (e:PT) (p:Nat→Value×List Value) (r:List (Nat×Option Ob)):AH i j ((k,some (.fm e p))::r)=(lL i j k,some (.fm e p))::AH i j r:=rfl
theorem YS (cs:List AV) (r:List (Nat×Option Ob)):AH i j ((k,some (.box cs))::r)=(lL i j k,some (.box (AV.y8 i j cs)))::AH i j r:=rfl
theorem YO (l:List (Value×PV)) (s:List Nat) (r:List (Nat×Option Ob)):AH i j ((k,some (.it l s))::r)=(lL i j k,some (.it l s))::AH i j r:=rfl
theorem Yh (l tm ps iQ body st) (r:List (Nat×Option Ob)):AH i j ((k,some (.loop l tm ps iQ body st))::r)=(lL i j k,some (.loop l tm ps iQ body st))::AH i j r:=rfl
theorem Yo:AV.y8 i j []=[]:=rfl
theorem YG (v:AV) (r:List AV):AV.y8 i j (v::r)=v.sw i j::AV.y8 i j r:=rfl
theorem Zo:AV.sw i j .any=.any:=rfl
theorem Zm (p:PV):AV.sw i j (.pv p)=.pv p:=rfl
theorem ZW (e m e7):AV.sw i j (.own k e m e7)=.own (lL i j k) e m e7:=rfl
theorem Zi (m:Nat):AV.sw i j (.ptr k m)=.ptr (lL i j k) m:=rfl
theorem Zy (c:List PV):AV.sw i j (.gy c)=.gy c:=rfl
theorem XE (e m e7 m'):AV.sw i j (.gY k e m e7 m')=.gY (lL i j k) e m e7 m':=rfl
theorem Xx (c:List AV):AV.sw i j (.agg c)=.agg (AV.y8 i j c):=rfl
theorem Xk (c:List AV):AV.sw i j (.iR c)=.iR (AV.y8 i j c):=rfl
theorem YT (f) (c d:List AV):AV.sw i j (.jd f c d)=.jd f (AV.y8 i j c) (AV.y8 i j d):=rfl
theorem ZV:AV.sw i j (.gH k)=.gH (lL i j k):=rfl
theorem Zr:AV.sw i j (.kS k)=.kS (lL i j k):=rfl
theorem Zs:lL i j k=bif Nat.beq i k then j else bif Nat.beq j k then i else k:=rfl
set_option linter.defProp false in
def ZR:=And.intro @sw (And.intro @X9 (And.intro @Yn (And.intro @Z0 (And.intro @YK (And.intro @Xm (And.intro @V7 (And.intro @YS (And.intro @YO (And.intro @Yh (And.intro @Yo (And.intro @YG (And.intro @Zo (And.intro @Zm (And.intro @ZW (And.intro @Zi (And.intro @Zy (And.intro @XE (And.intro @Xx (And.intro @Xk (And.intro @YT (And.intro @ZV (And.intro @Zr @Zs))))))))))))))))))))))
end Nf
variable {k:Wt} {late:List Nat} {l:List Oper} {dn:List Nat} {QD:Exit→DS→Prop}
theorem AR.GF {δ':DS} (hw:∀g':eY,(∀k',g'.wt=some k'→k'=k)→lD g' δ δ') (h:AR P g k late l QD dn δ'):AR P g k late l QD dn δ:=by
 intro yz κ a w r
 obtain⟨κ',r'⟩:=hw _ (fun k' jN=>by
  have:(if iq late (gN l.length dn)=true then none else some k)=some k':=jN
  split at this
  ·cases this
  ·cases this;rfl) κ a w r
 exact h yz κ' a w r'
theorem AR.sw (i j:Nat) {m:Nat} (hk:k.2.2=m) (hi:(Nat.ble m i && Nat.blt i δ.nx)=true) (hj:(Nat.ble m j && Nat.blt j δ.nx)=true) (h:AR P g k late l QD dn (δ.sw i j)):AR P g k late l QD dn δ:=by
 simp only[Bool.and_eq_true,Nat.ble_eq,Nat.blt_eq] at hi hj
 exact AR.GF (fun g' hg κ a w r=>⟨_,r.sw i j hi.2 hj.2 fun k' jN=>by rw[hg k' jN,hk];exact⟨hi.1,hj.1⟩⟩) h
theorem AE (n:Nat) (d:List Nat):(gN n d).size=n:=by
 induction d with
 |nil=>simp [gN]
 |cons i d ih=>simp [gN,ih]
theorem IF {n:Nat} {d d':List Nat} (h:ja n d=ja n d'):gN n d=gN n d':=by
 apply Array.ext
 ·rw[AE,AE]
 ·intro i h1 h2
  have e1:=j9 (n:=n) (d:=d) (j:=i)
  have e2:=j9 (n:=n) (d:=d') (j:=i)
  rw[h] at e1
  rw[e1] at e2
  rw[Array.getD_eq_getD_getElem?,Array.getD_eq_getD_getElem?,Array.getElem?_eq_getElem h1,Array.getElem?_eq_getElem h2] at e2
  exact e2
theorem AR.perm {J:List Nat} (hm:(ja l.length dn==ja l.length J && Nat.beq dn.length J.length)=true) (h:AR P g k late l QD J δ):AR P g k late l QD dn δ:=by
 simp only[Bool.and_eq_true,beq_iff_eq] at hm
 have hm:ja l.length dn=ja l.length J∧dn.length=J.length:=⟨hm.1,Nat.eq_of_beq_eq_true hm.2⟩
 have e:=IF hm.1
 intro yz κ a w r
 rw[hm.2]
 have h1:=h (by rw[← e];exact yz) κ a w (by rw[← e];exact r)
 rw[e];exact h1
theorem AR.cut (J:List Nat) {δc:DS} (h1:AR P g k late l QD J δc→AR P g k late l QD dn δ) (h2:AR P g k late l QD J δc):AR P g k late l QD dn δ:=h1 h2
theorem AR.meet {J:List Nat} {δc:DS} (hJ:AR P g k late l QD J δc) (hm:(ja l.length dn==ja l.length J && Nat.beq dn.length J.length)=true) (hw:∀g':eY,lD g' δ δc):AR P g k late l QD dn δ:=
 AR.GF (fun g' _=>hw g') (AR.perm hm hJ)
theorem AR.Bk {i j m:Nat} {o p q:Oper} (hl:Nat.blt dn.length l.length=true) (hr:(lA (ja l.length dn) 0 l==[i,j,m])=true) (ho:l[i]? =some o) (hp:l[j]? =some p) (hq:l[m]? =some q)
  (h:∀g':eY,Gs g' g→(∀j,k.2.2≤j→g'.nP j)→a_ .plain P g' l.toArray [o] (ji (AR P g k late l QD (i::dn))) δ)
  (h':∀g':eY,Gs g' g→(∀j,k.2.2≤j→g'.nP j)→a_ .plain P g' l.toArray [p] (ji (AR P g k late l QD (j::dn))) δ)
  (h'':∀g':eY,Gs g' g→(∀j,k.2.2≤j→g'.nP j)→a_ .plain P g' l.toArray [q] (ji (AR P g k late l QD (m::dn))) δ):AR P g k late l QD dn δ:=
 AR.all hl (mf hr) (by simp) fun i' jS=>by
  have hw:∀i',∀j,k.2.2≤j→(A9 g k late (gN l.length (i'::dn))).nP j:=by
   intro i' j hj k' jN
   have:(if iq late (gN l.length (i'::dn))=true then none else some k)=some k':=jN
   split at this
   ·cases this
   ·cases this;exact hj
  simp only[List.mem_cons,List.not_mem_nil,or_false] at jS
  rcases jS with rfl|rfl|rfl
  ·exact⟨o,ho,h _ ⟨rfl,rfl,rfl⟩ (hw _)⟩
  ·exact⟨p,hp,h' _ ⟨rfl,rfl,rfl⟩ (hw _)⟩
  ·exact⟨q,hq,h'' _ ⟨rfl,rfl,rfl⟩ (hw _)⟩
theorem AR.ua {i j:Nat} {o p:Oper} (hl:Nat.blt dn.length l.length=true) (hr:(lA (ja l.length dn) 0 l==[i,j])=true) (ho:l[i]? =some o) (hp:l[j]? =some p) (ft:Az late (ja l.length dn)=true)
  (h:∀g':eY,Gs g' g→g'.wt=none→a_ .plain P g' l.toArray [o] (ji (AR P g k late l QD (i::dn))) δ)
  (h':∀g':eY,Gs g' g→g'.wt=none→a_ .plain P g' l.toArray [p] (ji (AR P g k late l QD (j::dn))) δ):AR P g k late l QD dn δ:=
 AR.all hl (mf hr) (by simp) fun i' jS=>by
  have EO:iq late (gN l.length dn)=true:=by rw[tx];exact ft
  have hw:∀i',(A9 g k late (gN l.length (i'::dn))).wt=none:=fun i'=>if_pos (vH EO)
  simp only[List.mem_cons,List.not_mem_nil,or_false] at jS
  rcases jS with rfl|rfl
  ·exact⟨o,ho,h _ ⟨rfl,rfl,rfl⟩ (hw _)⟩
  ·exact⟨p,hp,h' _ ⟨rfl,rfl,rfl⟩ (hw _)⟩
def ur (k:Nat):List Nat→Bool
 |[]=>false
 |x::r=>bif Nat.beq x k then true else ur k r
def Js (s:List Nat):List (Nat×AV)→List (Nat×AV)
 |[]=>[]
 |(k,v)::r=>bif ur k s then Js s r else (k,v)::Js (k::s) r
def Jy (s:List Nat):List (Nat×Option Ob)→List (Nat×Option Ob)
 |[]=>[]
 |(k,v)::r=>bif ur k s then Jy s r else (k,v)::Jy (k::s) r
theorem w8 {k:Nat}:∀{s:List Nat},ur k s=true↔k∈s
 |[]=>by simp [ur]
 |x::r=>by
  unfold ur
  by_cases h:x=k
  ·subst h;simp
  ·rw[mO h,cond_false,w8,List.mem_cons]
   constructor
   ·exact .inr
   ·rintro(h'|h')
    ·exact absurd h'.symm h
    ·exact h'
theorem wX {j:Nat}:∀{e:List (Nat×AV)} {s:List Nat},j∉s→look (Js s e) j=look e j
 |[],_,_=>rfl
 |(k,v)::r,s,h=>by
  unfold Js
  cases hm:ur k s with
  |true=>
   have:k≠j:=by rintro rfl;exact h (w8.1 hm)
   rw[cond_true,fC,if_neg this,wX h]
  |false=>
   rw[cond_false,fC,fC]
   by_cases e:k=j
   ·rw[if_pos e,if_pos e]
   ·rw[if_neg e,if_neg e,wX (by simp only[List.mem_cons,not_or];exact⟨fun h'=>e h'.symm,h⟩)]
theorem sL {j:Nat}:∀{e:List (Nat×Option Ob)} {s:List Nat},j∉s→fc (Jy s e) j=fc e j
 |[],_,_=>rfl
 |(k,v)::r,s,h=>by
  unfold Jy
  cases hm:ur k s with
  |true=>
   have:k≠j:=by rintro rfl;exact h (w8.1 hm)
   rw[cond_true,fj,if_neg this,sL h]
  |false=>
   rw[cond_false,fj,fj]
   by_cases e:k=j
   ·rw[if_pos e,if_pos e]
   ·rw[if_neg e,if_neg e,sL (by simp only[List.mem_cons,not_or];exact⟨fun h'=>e h'.symm,h⟩)]
def DS.dd (δ:DS):DS:=⟨δ.n,Js [] δ.env,Jy [] δ.fY,δ.nx⟩
theorem Rel.congr {δ':DS} (hn:δ'.n=δ.n) (hx:δ'.nx=δ.nx) (he:∀j,δ'.get j=δ.get j) (ho:∀j,δ'.ob j=δ.ob j) (r:Rel g δ κ a w):Rel g δ' κ a w:=by
 have jo:δ'.ob=δ.ob:=funext ho
 have hl:δ'.live=δ.live:=by unfold DS.live;rw[jo]
 have oy:δ'.lr=δ.lr:=by unfold DS.lr;rw[jo]
 have uu:δ'.lb=δ.lb:=by unfold DS.lb;rw[jo]
 have M3:δ'.cx g κ=δ.cx g κ:=by unfold DS.cx;rw[hl,oy,uu]
 exact
  {n:=r.n.trans hn.symm,dfr:=r.dfr
   env:=fun j=>by rw[M3,he];exact r.env j
   obj:=fun i o h=>by rw[M3];rw[ho] at h;exact r.obj i o h
   inj:=by rw[hl];exact r.inj
   lo:=by rw[hl];exact r.lo
   nx:=by rw[hl,hx];exact r.nx
   wt:=by rw[hl,oy];exact r.wt
   below:=r.below,hB:=r.hB,N0:=r.N0,kI:=r.kI,fr:=by rw[hl];exact r.fr}
theorem lD.dd:lD g δ δ.dd:=fun κ _ _ r=>⟨κ,Rel.congr (δ:=δ) (δ':=δ.dd) rfl rfl (fun j=>wX (s:=[]) (by simp)) (fun j=>sL (s:=[]) (by simp)) r⟩
theorem AR.dd (h:AR P g k late l QD dn δ.dd):AR P g k late l QD dn δ:=AR.GF (fun _ _=>lD.dd) h
def QS (b:Bool) (s:List Nat) (k:Nat) (v:AV) (r:List (Nat×AV)):List (Nat×AV):=bif b then Js s r else (k,v)::Js (k::s) r
def Sc (b:Bool) (s:List Nat) (k:Nat) (v:Option Ob) (r:List (Nat×Option Ob)):List (Nat×Option Ob):=bif b then Jy s r else (k,v)::Jy (k::s) r
namespace Nf
variable {n x:Nat} {e:List (Nat×AV)} {o:List (Nat×Option Ob)} {i j m:Nat}
theorem dd:DS.dd ⟨n,e,o,x⟩=⟨n,Js [] e,Jy [] o,x⟩:=rfl
theorem XW (s:List Nat):Js s []=[]:=rfl
theorem Yt (s:List Nat) (v:AV) (r:List (Nat×AV)):Js s ((m,v)::r)=QS (ur m s) s m v r:=rfl
theorem Ys (s:List Nat) (v:AV) (r:List (Nat×AV)):QS true s m v r=Js s r:=rfl
theorem YH (s:List Nat) (v:AV) (r:List (Nat×AV)):QS false s m v r=(m,v)::Js (m::s) r:=rfl
theorem ZS (s:List Nat):Jy s []=[]:=rfl
theorem YC (s:List Nat) (v:Option Ob) (r:List (Nat×Option Ob)):Jy s ((m,v)::r)=Sc (ur m s) s m v r:=rfl
theorem Zb (s:List Nat) (v:Option Ob) (r:List (Nat×Option Ob)):Sc true s m v r=Jy s r:=rfl
theorem ZE (s:List Nat) (v:Option Ob) (r:List (Nat×Option Ob)):Sc false s m v r=(m,v)::Jy (m::s) r:=rfl
theorem me0:ur m []=false:=rfl
theorem me1 (y:Nat) (r:List Nat):ur m (y::r)=bif Nat.beq y m then true else ur m r:=rfl
set_option linter.defProp false in
def ddR:=And.intro @dd (And.intro @XW (And.intro @Yt (And.intro @Ys (And.intro @YH (And.intro @ZS (And.intro @YC (And.intro @Zb (And.intro @ZE (And.intro @me0 @me1)))))))))
end Nf
end Go.Ab
/- Contracts under a premise on the world at the call that no own memory touches (a table laid,a function value's ways);calls of told closures;functions that take functions. -/
namespace Go.Ab
open Go Go.RowKit
variable {P:Program} {g:eY} {δ:DS} {κ:Kp} {a:Act} {w:World}
variable {ops:Array Oper} {rest:List Oper} {Q:Exit→DS→Prop} {dst:Option Nat} {ty:TypeId} {pos:String} {af:Array Edge}
structure FnW (T:World→Prop) (P:Program) (f:FuncId) (args:List AV) (r:AV):Prop where
 enters:∀vals w,(callFunc f vals).run P w=.ok (.enter f vals) w
 calls:∀(N:Nat→Prop) (w:World) (vals:Array Value),T w→(∀b,w.heap.size≤b→N b)→vals.size=args.length→
  (∀(j:Nat) (v:Value) (av:AV),vals[j]? =some v→args[j]? =some av→RA (yA N) w v av)→
  Calls P f vals w fun e w'=>∃v,e=.returned v∧RA (yA N) w' v r∧Below w.heap.size w w'
theorem Fn.toW {T:World→Prop} {f:FuncId} {args:List AV} {r:AV} (h:Fn P f args r):FnW T P f args r:=⟨h.enters,fun N w vals _=>h.calls N w vals⟩
def TB (T:World→Prop) (g:eY):Prop:=∀w',Below g.B g.w0 w'→T w'
theorem TB.gs {T:World→Prop} {g g':eY} (h:TB T g) (hg:Gs g' g):TB T g':=fun w' hb=>h w' (by rw[← hg.2.1,← hg.2.2];exact hb)
theorem TB.at {T:World→Prop} (h:TB T g) (r:Rel g δ κ a w) {w':World} (hb:Below w.heap.size w w'):T w':=h w' (r.below.trans (hb.mono r.hB))
def AV.seen:AV→PV
 |.pv p=>p
 |.own _ _ k e7=> .slice k e7
 |_=> .any
inductive QJ (δ:DS):AV→AV→Prop
 |le {v r:AV} (h:Le true v r):QJ δ v r
 |box {i off:Nat} {cells:List AV} {ps:List PV} (h:δ.ob i=some (.box cells)) (hc:(cells.drop off).map AV.seen=ps):QJ δ (.ptr i off) (.gy ps)
inductive xR (δ:DS):List AV→List AV→Prop
 |nil:xR δ [] []
 |cons {c d:AV} {cs ds:List AV} (h:QJ δ c d) (hs:xR δ cs ds):xR δ (c::cs) (d::ds)
theorem xR.len {cs ds:List AV} (h:xR δ cs ds):cs.length=ds.length:=by induction h with|nil=>rfl|cons h hs ih=>simp [ih]
theorem xR.at {cs ds:List AV} (h:xR δ cs ds):∀(j:Nat) (c d:AV),cs[j]? =some c→ds[j]? =some d→QJ δ c d:=by
 induction h with
 |nil=>intro j c d h1;simp at h1
 |cons h hs ih=>
  intro j c d h1 h2
  cases j with
  |zero=>simp at h1 h2;subst h1;subst h2;exact h
  |succ j=>exact ih j c d (by simpa using h1) (by simpa using h2)
theorem RA.seen {C:Cx} {u:Value} {av:AV} (h:RA C w u av):RP (fun _=>True) w u av.seen:=by
 cases h with
 |pv h=>exact h.mono (Nat.le_refl _) fun _ _ _=>⟨trivial,rfl⟩
 |own h=>exact h.pv (fun _ _ _=>trivial) (fun _ _ _ _=>trivial)
 |_=>exact .any _
theorem QJ.ra {v r:AV} (h:QJ δ v r) (rl:Rel g δ κ a w) {u:Value} (hu:RA (δ.cx g κ) w u v):RA (yA fun _=>True) w u r:=by
 cases h with
 |le h=>exact hu.le h (fun _ _ _=>trivial) (fun _ _ _ _ _=>trivial)
 | @box i off cells ps hb hc=>
  obtain⟨b,c,e,rfl,hκ,h3,h4,h5⟩:=rl.box hu hb
  have jZ:∀j,w.cell? ⟨b,off+j,none⟩=c[off+j]?:=fun j=>cell_of h3 _
  have BK:∀(j:Nat) (p:PV),ps[j]? =some p→∃av,cells[off+j]? =some av∧p=av.seen:=by
   intro j p hp
   rw[← hc,List.getElem?_map,List.getElem?_drop] at hp
   obtain⟨av,h1,h2⟩:=Option.map_eq_some_iff.1 hp
   exact⟨av,h1,h2.symm⟩
  refine .gy b off (fun j=>(c[off+j]?).getD undef) trivial (iM h3) (fun j p hp=>?_) (fun j p hp=>?_)
  ·obtain⟨av,h1,rfl⟩:=BK j p hp
   have ft:=(List.getElem?_eq_some_iff.1 h1).1
   have V9:c[off+j]? =some c[off+j]:=Array.getElem?_eq_getElem (by omega)
   rw[jZ,V9]
   exact⟨rfl,(h5 _ _ _ V9 h1).2⟩
  ·obtain⟨av,h1,rfl⟩:=BK j p hp
   have ft:=(List.getElem?_eq_some_iff.1 h1).1
   have V9:c[off+j]? =some c[off+j]:=Array.getElem?_eq_getElem (by omega)
   simp only[V9,Option.getD_some]
   exact(h5 _ _ _ V9 h1).1.seen
theorem RA.keep {u:Value} {r:AV} (h:RA (yA fun _=>True) w u r) {w':World} (hb:Below w.heap.size w w'):RA (yA fun _=>True) w' u r:=
 (show j6 (yA fun _=>True) w (yA fun _=>True) w' from {B:=rfl,size:=hb.size,N:=fun b h1 h2=>⟨h2,hb.block b h1⟩,Lr:=fun i hi=>hi.elim,Lb:=fun i hi=>hi.elim}).ra h
theorem K5 {r:Rel g δ κ a w} {xs:List Operand} (lK:xs.all fk=true) {first cap args:List AV} {vs us:Array Value} (hs:vs.size=first.length) (zN:∀(j:Nat) (u:Value) (c:AV),vs[j]? =some u→first[j]? =some c→RA (δ.cx g κ) w u c)
  (ht:us.size=cap.length) (Jt:∀(j:Nat) (u:Value) (c:AV),us[j]? =some u→cap[j]? =some c→RA (δ.cx g κ) w u c) (gp:xR δ (first++xs.map δ.ev++cap) args):
  (vs++xs.toArray.map a.eval++us).size=args.length∧∀(j:Nat) (v:Value) (av:AV),(vs++xs.toArray.map a.eval++us)[j]? =some v→args[j]? =some av→RA (yA fun _=>True) w v av:=by
 have hl:=gp.len
 simp only[List.length_append,List.length_map] at hl
 refine⟨by simp;omega,fun j v av h1 h2=>?_⟩
 have SS:j<(first++xs.map δ.ev++cap).length:=by rw[gp.len];exact(List.getElem?_eq_some_iff.1 h2).1
 have h3:=List.getElem?_eq_getElem SS
 refine(gp.at j _ av h3 h2).ra r ?_
 generalize (first++xs.map δ.ev++cap)[j]=c at h3
 by_cases hj:j<first.length+xs.length
 ·rw[List.getElem?_append_left (by simp;omega)] at h3
  rw[Array.getElem?_append_left (by simp;omega)] at h1
  by_cases OB:j<first.length
  ·rw[List.getElem?_append_left OB] at h3
   rw[Array.getElem?_append_left aG] at h1
   exact zN j v c h1 h3
  ·rw[List.getElem?_append_right aG] at h3
   rw[Array.getElem?_append_right aG,hs] at h1
   simp only[List.map_toArray,List.getElem?_toArray,List.getElem?_map,Option.map_eq_some_iff] at h1 h3
   obtain⟨y,h5,rfl⟩:=h1
   obtain⟨y',h4,rfl⟩:=h3
   rw[h5] at h4;cases h4
   exact r.C5 y (iK ((List.all_eq_true.1 lK) y (List.mem_of_getElem? h5)))
 ·rw[List.getElem?_append_right (by simp;omega)] at h3
  rw[Array.getElem?_append_right (by simp;omega)] at h1
  have e1:(vs++xs.toArray.map a.eval).size=(first++xs.map δ.ev).length:=by simp;omega
  rw[e1] at h1
  exact Jt _ v c h1 h3
theorem a_.VZ {q:Md} {T:World→Prop} {y:Operand} {f:FuncId} {xs:List Operand} {tys:Array TypeId} {first cap args:List AV} {r:AV} (hT:TB T g) (hf:FnW T P f args r) (hy:δ.ev y=.jd (.func f) first cap) (np:fk y=true) (lK:xs.all fk=true) (gp:xR δ (first++xs.map δ.ev++cap) args) (oY:r.wz=true) (hd:gb δ.n dst=true) (hq:q≠ .held)
  (hK:a_ q P g ops rest Q (δ.eZ dst r)):a_ q P g ops (⟨dst,.call {callee:=.value y,args:=xs.toArray,argTypes:=tys},ty,pos,af,none⟩::rest) Q δ:=by
 intro κ a w r0
 have oz:=r0.ra hy np
 generalize hv:a.eval y=v at oz
 cases oz with
 | @jd _ vs us _ _ hs zN ht Jt=>
  obtain⟨mX,nt⟩:=K5 (r:=r0) lK hs zN ht Jt gp
  have hc:∀w',Below w.heap.size w w'→Calls P f (vs++xs.toArray.map a.eval++us) w' fun e w''=>e=.returned r.out∧Below w'.heap.size w' w'':=fun w' ly=>
   (hf.calls (fun _=>True) w' _ (hT.at r0 ly) (fun _ _=>trivial) mX (fun j v av h1 h2=>(nt j v av h1 h2).keep ly)).mono (by
    rintro e w'' ⟨v,rfl,hv,hb⟩
    exact⟨by rw[hv.wz (AV.nB (C:=yA (fun _=>True)) (w:=w) oY) oY],hb⟩)
  have zI:=hK κ _ _ (r0.eZ (fE hd) (AV.nB oY))
  cases q with
  |quiet=>
   show wpQuiet P ops _ _ (_::rest) a
   unfold wpQuiet
   rw[if_pos (by simp [Region.wanted])]
   refine⟨r.out,fun w' ly=>?_,zI⟩
   unfold Oper.quietAt
   rw[rI hv hf.enters]
   exact⟨rfl,(hc w' ly).mono fun e w'' ⟨h1,h2⟩=>⟨h1,ly.trans (h2.mono ly.size)⟩⟩
  |held=>exact absurd rfl hq
  |plain=>
   show wpListIn _ _ P ops _ (_::rest) a w
   refine iu rfl rfl fun K rf=>?_
   unfold Oper.AL
   rw[rI hv hf.enters,Oper.uponIn_enter]
   refine⟨fun h=>by simp at h,(kb (hc w (Below.refl _ _))).mono ?_⟩
   rintro e w' ⟨rfl,hb⟩
   exact rf _ _ (hK κ _ _ ((r0.ext hb).eZ (fE hd) (AV.nB oY)))
theorem TB.none (g:eY):TB (fun _=>True) g:=fun _ _=>trivial
theorem a_.QG {q:Md} {y:Operand} {f:FuncId} {xs:List Operand} {tys:Array TypeId} {first cap args:List AV} {r:AV} (hf:Fn P f args r) (hy:δ.ev y=.jd (.func f) first cap) (np:fk y=true) (lK:xs.all fk=true) (gp:xR δ (first++xs.map δ.ev++cap) args) (oY:r.wz=true) (hd:gb δ.n dst=true) (hq:q≠ .held)
  (hK:a_ q P g ops rest Q (δ.eZ dst r)):a_ q P g ops (⟨dst,.call {callee:=.value y,args:=xs.toArray,argTypes:=tys},ty,pos,af,none⟩::rest) Q δ:=a_.VZ (TB.none g) hf.toW hy np lK gp oY hd hq hK
inductive xv (δ:DS) (z:Operand) (v:Value):List Operand→List AV→Prop
 |nil:xv δ z v [] []
 |here {xs:List Operand} {vs:List AV} (hs:xv δ z v xs vs):xv δ z v (z::xs) (.pv (.lit v)::vs)
 |cons {x:Operand} {u:AV} {xs:List Operand} {vs:List AV} (ho:fk x=true) (h:QJ δ (δ.ev x) u) (hs:xv δ z v xs vs):xv δ z v (x::xs) (u::vs)
theorem xv.len {z:Operand} {v:Value} {xs:List Operand} {vs:List AV} (h:xv δ z v xs vs):xs.length=vs.length:=by induction h with|nil=>rfl|here hs ih=>simp [ih]|cons ho h hs ih=>simp [ih]
end Go.Ab
/- Objects that nothing names any more are given up. -/
namespace Go.Ab
open Go Go.RowKit
variable {P:Program} {g:eY} {δ:DS} {κ:Kp} {a:Act} {w:World}
def sk (ks:List Nat):List (Nat×Option Ob)→List (Nat×Option Ob)
 |[]=>[]
 |(i,o)::r=>bif mM i ks then (i,o)::sk ks r else sk ks r
theorem kO0 (ks:List Nat):sk ks []=[]:=rfl
theorem kO1 (ks:List Nat) (i:Nat) (o:Option Ob) (r:List (Nat×Option Ob)):sk ks ((i,o)::r)=bif mM i ks then (i,o)::sk ks r else sk ks r:=rfl
def DS.gc (δ:DS) (ks:List Nat):DS:={δ with fY:=sk ks δ.fY}
theorem gcE (ks:List Nat) (n x:Nat) (e:List (Nat×AV)) (o:List (Nat×Option Ob)):DS.gc ⟨n,e,o,x⟩ ks=⟨n,e,sk ks o,x⟩:=rfl
theorem Qq {ks:List Nat} {i:Nat}:(δ.gc ks).ob i=if mM i ks=true then δ.ob i else none:=by
 show fc (sk ks δ.fY) i=if mM i ks=true then fc δ.fY i else none
 generalize δ.fY=l
 induction l with
 |nil=>simp [sk,fc]
 |cons p r ih=>
  obtain⟨j,o⟩:=p
  rw[kO1]
  cases hm:mM j ks with
  |true=>
   rw[cond_true,fj,fj,ih]
   by_cases e:j=i
   ·subst e;rw[if_pos rfl,if_pos rfl,if_pos hm]
   ·rw[if_neg e,if_neg e]
  |false=>
   rw[cond_false,ih,fj]
   by_cases e:j=i
   ·subst e;rw[hm];simp
   ·rw[if_neg e]
def sj (lr lb:Nat→Bool):Ob→Bool
 |.row|.it _ _|.loop _ _ _ _ _ _|.lit _ _|.fm _ _=>true
 |.box cs=>AV.zp lr lb cs
 |.mp l=>l.all fun p=>p.2.ids lr lb
 |.mpl l _ v=>(l.all fun p=>p.2.ids lr lb) && v.ids lr lb
def Yi (ks:List Nat) (δ:DS):Bool:=
 (δ.env.all fun p=>p.2.ids (δ.gc ks).qR (δ.gc ks).qq) && ((δ.gc ks).fY.all fun p=>match p.2 with|some o=>sj (δ.gc ks).qR (δ.gc ks).qq o|none=>true)
theorem Cv {lr lb:Nat→Bool}:∀{l:List (Nat×AV)},(l.all fun p=>p.2.ids lr lb)=true→∀j,(look l j).ids lr lb=true
 |[],_,j=>rfl
 |(i,v)::r,h,j=>by
  simp only[List.all_cons,Bool.and_eq_true] at h
  rw[fC]
  by_cases e:i=j
  ·rw[if_pos e];exact h.1
  ·rw[if_neg e];exact Cv h.2 j
theorem yk {lr lb:Nat→Bool}:∀{l:List (Nat×Option Ob)},(l.all fun p=>match p.2 with|some o=>sj lr lb o|none=>true)=true→∀i o,fc l i=some o→sj lr lb o=true
 |[],_,i,o,h=>by simp [fc] at h
 |(j,x)::r,h,i,o,ho=>by
  simp only[List.all_cons,Bool.and_eq_true] at h
  rw[fj] at ho
  by_cases e:j=i
  ·rw[if_pos e] at ho;subst ho;exact h.1
  ·rw[if_neg e] at ho;exact yk h.2 i o ho
theorem Jm.refl {δ δ':DS}:∀{cs:List AV},AV.zp δ'.qR δ'.qq cs=true→Jm δ δ' cs cs
 |[],_=>trivial
 |c::cs,h=>by
  simp only[AV.zp,Bool.and_eq_true] at h
  exact⟨.eq rfl h.1,Jm.refl h.2⟩
theorem lD.gc (ks:List Nat) (hb:Yi ks δ=true):lD g δ (δ.gc ks):=by
 intro κ a w r
 unfold Yi at hb
 rw[Bool.and_eq_true] at hb
 refine Qh (g:=g) (δ:=δ) (δ':=δ.gc ks) rfl (fun j=> .eq rfl (Cv hb.1 j)) (fun i o h=>?_) (fun i o h=>?_) κ a w r
 ·have h1:=yk hb.2 i o h
  have h2:δ.ob i=some o:=by
   rw[Qq] at h
   split at h
   ·exact h
   ·cases h
  cases o with
  |row=>exact .row h2
  |box cs=>exact .box cs h2 (Jm.refl h1)
  |mp l=>exact .mp h2 fun p hp=>List.all_eq_true.1 h1 p hp
  |mpl l k v=>
   simp only[sj,Bool.and_eq_true] at h1
   exact .mpl h2 rfl rfl (fun p hp=>List.all_eq_true.1 h1.1 p hp) (.eq rfl h1.2)
  |it l seen=>exact .it h2
  |lit T vals=>exact .lit h2
  |fm e rows=>exact .fm h2 rfl
  |loop=>exact .loop h2
 ·rw[Qq] at h
  split at h
  ·exact r.nx i ⟨o,h⟩
  ·cases h
variable {k:Wt} {late:List Nat} {l:List Oper} {dn:List Nat} {QD:Exit→DS→Prop}
theorem AR.gc (ks:List Nat) (hb:Yi ks δ=true) (h:AR P g k late l QD dn (δ.gc ks)):AR P g k late l QD dn δ:=AR.GF (fun _ _=>lD.gc ks hb) h
end Go.Ab
/- Contracts of functions that change objects of their caller's. -/
namespace Go.Ab
open Go Go.RowKit
variable {P:Program} {g:eY} {δ:DS} {κ:Kp} {a:Act} {w:World}
variable {ops:Array Oper} {rest:List Oper} {Q:Exit→DS→Prop} {dst:Option Nat} {ty:TypeId} {pos:String} {af:Array Edge}
abbrev XS (fY:List (Nat×Option Ob)) (n:Nat):DS:=⟨0,[],fY,n⟩
abbrev OH:Act:={tmps:= #[],defers:=[]}
def ir:List (Nat×Option Ob)→List AV
 |[]=>[]
 |(i,some (.box _))::r=> .ptr i 0::ir r
 |(i,some (.lit _ _))::r=> .ptr i 0::ir r
 |(i,some (.mp _))::r=> .gH i::ir r
 |_::r=>ir r
structure DJ {α:Type} (T:World→Prop) (P:Program) (E:α→Cx→World→Ending→Prop) (f:FuncId) (n0:Nat) (eW:List (Nat×Option Ob)) (args:List AV) (e9:α→List (Nat×Option Ob)):Prop where
 enters:∀vals w,(callFunc f vals).run P w=.ok (.enter f vals) w
 calls:∀(g:eY) (κ:Kp) (w:World) (vals:Array Value),g.ro=none→g.wt=none→TB T g→Rel g (XS eW n0) κ OH w→vals.size=args.length→
  (∀(j:Nat) (v:Value) (av:AV),vals[j]? =some v→args[j]? =some av→RA ((XS eW n0).cx g κ) w v av)→
  Calls P f vals w fun e w'=>∃x κ',E x ((XS (e9 x) n0).cx g κ') w' e∧Rel g (XS (e9 x) n0) κ' OH w'∧∀i b,(AV.ptr i 0∈ir eW∨AV.gH i∈ir eW)→κ i=some b→κ' i=some b
def PG (r:AV) (C:Cx) (w:World) (e:Ending):Prop:=∃v,e=.returned v∧RA C w v r
abbrev Nj (T:World→Prop) (P:Program) (f:FuncId) (n0:Nat) (eW:List (Nat×Option Ob)) (args:List AV) (e9:List (Nat×Option Ob)) (r:AV):Prop:=DJ (α:=Unit) T P (fun _=>PG r) f n0 eW args (fun _=>e9)
abbrev vW (P:Program) (f:FuncId) (n0:Nat) (eW:List (Nat×Option Ob)) (args:List AV) (e9:List (Nat×Option Ob)) (r:AV):Prop:=DJ (α:=Unit) (fun _=>True) P (fun _=>PG r) f n0 eW args (fun _=>e9)
def v8 (fY:List (Nat×Option Ob)):List (Nat×Option Ob)→Bool
 |[]=>true
 |(i,some (.box _))::r=>(XS fY 0).qq i && v8 fY r
 |(i,some (.lit _ _))::r=>(XS fY 0).qq i && v8 fY r
 |(i,some (.mp _))::r=>(XS fY 0).qq i && v8 fY r
 |_::r=>v8 fY r
theorem Fl {δ:DS} {i:Nat} (h:δ.qq i=true) {C:Cx} {w:World} (ho:∀i o,δ.ob i=some o→oo C w i o):∃b,C.κ i=some b:=by
 obtain⟨o,h1,h2⟩:=lG h
 have h3:=ho i o h1
 cases o with
 |row=>simp [Ob.ld] at h2
 |box cs=>obtain⟨b,_,_,h4,_⟩:=h3;exact⟨b,h4⟩
 |lit T vals=>obtain⟨b,h4,_⟩:=h3;exact⟨b,h4⟩
 |fm e rows=>unfold DS.qq at h;rw[h1] at h;cases h
 |mp l=>obtain⟨b,_,_,h4,_⟩:=h3;exact⟨b,h4⟩
 |mpl l k v=>obtain⟨b,_,_,h4,_⟩:=h3;exact⟨b,h4⟩
 |it l seen=>obtain⟨b,h4,_⟩:=h3;exact⟨b,h4⟩
 |loop l tm ps iQ body st=>obtain⟨b,_,h4,_⟩:=h3;exact⟨b,h4⟩
theorem kL {fY:List (Nat×Option Ob)} {n:Nat} (ho:∀i o,(XS fY n).ob i=some o→oo ((XS fY n).cx g κ) w i o):∀{l:List (Nat×Option Ob)},v8 fY l=true→∃vs:List Value,vs.length=(ir l).length∧∀(j:Nat) (u:Value) (c:AV),vs[j]? =some u→(ir l)[j]? =some c→RA ((XS fY n).cx g κ) w u c
 |[],_=>⟨[],rfl,fun j u c h=>by simp at h⟩
 |(i,none)::r,h=>kL ho (l:=r) h
 |(i,some .row)::r,h=>kL ho (l:=r) h
 |(i,some (.mpl _ _ _))::r,h=>kL ho (l:=r) h
 |(i,some (.it _ _))::r,h=>kL ho (l:=r) h
 |(i,some (.fm _ _))::r,h=>kL ho (l:=r) h
 |(i,some (.loop _ _ _ _ _ _))::r,h=>kL ho (l:=r) h
 |(i,some (.box cs))::r,h=>by
  simp only[v8,Bool.and_eq_true] at h
  obtain⟨vs,h1,h2⟩:=kL ho h.2
  obtain⟨b,hb⟩:=Fl (δ:=XS fY n) h.1 ho
  refine⟨.pointer (some ⟨b,0,none⟩)::vs,by simp [ir,h1],fun j u c h3 h4=>?_⟩
  cases j with
  |zero=>simp [ir] at h3 h4;subst h3;subst h4;exact .ptr (lG (δ:=XS fY n) h.1) hb
  |succ j=>exact h2 j u c (by simpa using h3) (by simpa [ir] using h4)
 |(i,some (.lit _ _))::r,h=>by
  simp only[v8,Bool.and_eq_true] at h
  obtain⟨vs,h1,h2⟩:=kL ho h.2
  obtain⟨b,hb⟩:=Fl (δ:=XS fY n) h.1 ho
  refine⟨.pointer (some ⟨b,0,none⟩)::vs,by simp [ir,h1],fun j u c h3 h4=>?_⟩
  cases j with
  |zero=>simp [ir] at h3 h4;subst h3;subst h4;exact .ptr (lG (δ:=XS fY n) h.1) hb
  |succ j=>exact h2 j u c (by simpa using h3) (by simpa [ir] using h4)
 |(i,some (.mp m))::r,h=>by
  simp only[v8,Bool.and_eq_true] at h
  obtain⟨vs,h1,h2⟩:=kL ho h.2
  obtain⟨b,hb⟩:=Fl (δ:=XS fY n) h.1 ho
  refine⟨.map (some b)::vs,by simp [ir,h1],fun j u c h3 h4=>?_⟩
  cases j with
  |zero=>simp [ir] at h3 h4;subst h3;subst h4;exact .gH (lG (δ:=XS fY n) h.1) hb
  |succ j=>exact h2 j u c (by simpa using h3) (by simpa [ir] using h4)
abbrev XF (δ:DS) (eW e9:List (Nat×Option Ob)):DS:=⟨δ.n,[(1000,.agg (ir eW))],e9,δ.nx⟩
def n_ (P:Program) (rs:List ResultVar) (eW e9:List (Nat×Option Ob)) (r:AV):Exit→DS→Prop
 |.normal,δ|.ret,δ=>∃v,fZ P δ rs v∧WV δ (XF δ eW e9) v r∧WV δ (XF δ eW e9) (δ.get 1000) (.agg (ir eW))∧th δ (XF δ eW e9) e9∧wA δ.nx e9=true
 |_,_=>False
theorem RA.GI {C:Cx} {w:World} {u:Value} {i off:Nat} (h:RA C w u (.ptr i off)):∃b,u=.pointer (some ⟨b,off,none⟩)∧C.κ i=some b:=by
 cases h with
 |ptr hl hκ=>exact⟨_,rfl,hκ⟩
theorem RA.C8 {C:Cx} {w:World} {u:Value} {i:Nat} (h:RA C w u (.gH i)):∃b,u=.map (some b)∧C.κ i=some b:=by
 cases h with
 |gH hl hκ=>exact⟨_,rfl,hκ⟩
theorem JL {C C':Cx} {w w':World} {vs:Array Value} {ps:List AV} (h:RA C w (.agg vs) (.agg ps)) (h':RA C' w' (.agg vs) (.agg ps)) {i b:Nat} (hp:AV.ptr i 0∈ps∨AV.gH i∈ps) (hb:C.κ i=some b):C'.κ i=some b:=by
 cases h with
 |agg hs h=>
  cases h' with
  |agg Is h'=>
   rcases hp with hp|hp
   ·obtain⟨j,hj⟩:=List.getElem?_of_mem hp
    have ft:j<vs.size:=by rw[hs];exact(List.getElem?_eq_some_iff.1 hj).1
    have h1:=h j _ _ (Array.getElem?_eq_getElem ft) hj
    have h2:=h' j _ _ (Array.getElem?_eq_getElem ft) hj
    obtain⟨b1,e1,k1⟩:=h1.GI
    obtain⟨b2,e2,k2⟩:=h2.GI
    rw[e1] at e2
    cases e2
    rw[k1] at hb
    cases hb
    exact k2
   ·obtain⟨j,hj⟩:=List.getElem?_of_mem hp
    have ft:j<vs.size:=by rw[hs];exact(List.getElem?_eq_some_iff.1 hj).1
    have h1:=h j _ _ (Array.getElem?_eq_getElem ft) hj
    have h2:=h' j _ _ (Array.getElem?_eq_getElem ft) hj
    obtain⟨b1,e1,k1⟩:=h1.C8
    obtain⟨b2,e2,k2⟩:=h2.C8
    rw[e1] at e2
    cases e2
    rw[k1] at hb
    cases hb
    exact k2
theorem DJ.enter {α:Type} {T:World→Prop} {E:α→Cx→World→Ending→Prop} {Q:Exit→DS→Prop} {f:FuncId} {fn:Func} {c:Code} {n n0:Nat} {eW:List (Nat×Option Ob)} {e9:α→List (Nat×Option Ob)} {args:List AV} (hf:P.funcs[f]? =some fn) (hb:fn.body=some c) (hn:fn.ntmps=n) (F2:Nat.ble args.length n=true)
  (xx:Nat.ble n HS=true) (he:(fn.name== "runtime.NumGoroutine")=false) (BV:v8 eW eW=true) (GC:∀x,wA n0 (e9 x)=true)
  (h:∀g:eY,g.ro=none→g.wt=none→TB T g→AW P g c Q ⟨n,enum 0 args++ [(1000,.agg (ir eW))],eW,n0⟩)
  (hQ:∀(g:eY) (e:Exit) (δ':DS) (κ':Kp) (a':Act) (w':World) (R:Ending→World→Prop),g.wt=none→g.base=[]→Q e δ'→Rel g δ' κ' a' w'→
   (∀x,WV δ' (XF δ' eW (e9 x)) (δ'.get 1000) (.agg (ir eW))→th δ' (XF δ' eW (e9 x)) (e9 x)→wA δ'.nx (e9 x)=true→
    ∀en w2,Rel g δ' κ' {a' with defers:=[]} w2→E x ((XF δ' eW (e9 x)).cx g (vN δ' κ')) w2 en→R en w2)→bodyPostM Fence.wide 0 P fn R e a' w'):DJ T P E f n0 eW args e9:=by
 refine⟨fun vals w=>by simp [callFunc,hf,hb];simpa using he,fun g κ w vals Gx jz Tb mS hs gp=>?_⟩
 have hle:args.length≤n:=by simpa using F2
 have P3:n≤HS:=by simpa using xx
 have hHS:HS=1000:=rfl
 obtain⟨ps,Fp,hpv⟩:=kL mS.obj BV
 have FP:g.base=[]:=by
  obtain⟨rs,e,_,_⟩:=mS.dfr
  exact(List.append_eq_nil_iff.1 e.symm).2
 have WQ:RA ((XS eW n0).cx g κ) w (.agg ps.toArray) (.agg (ir eW)):=.agg (by simpa using Fp) fun j u c h1 h2=>hpv j u c (by simpa using h1) h2
 let g':eY:={g with held:=fun _=> .agg ps.toArray}
 let δ0:DS:=⟨n,enum 0 args++ [(1000,.agg (ir eW))],eW,n0⟩
 have IT:∀(l:List AV) (i j:Nat),look (enum i l++ [(1000,AV.agg (ir eW))]) j=if i≤j∧j<i+l.length then look (enum i l) j else look [(1000,AV.agg (ir eW))] j:=by
  intro l
  induction l with
  |nil=>intro i j;rw[if_neg (by simp)];rfl
  |cons x l ih=>
   intro i j
   show look ((i,x)::(enum (i+1) l++_)) j=_
   rw[fC]
   by_cases e:i=j
   ·subst e
    rw[if_pos rfl,if_pos (by simp)]
    show x=look ((i,x)::enum (i+1) l) i
    rw[fC,if_pos rfl]
   ·rw[if_neg e,ih]
    simp only[List.length_cons]
    by_cases hj:i+1≤j∧j<i+1+l.length
    ·rw[if_pos hj,if_pos aG]
     show _=look ((i,x)::enum (i+1) l) j
     rw[fC,if_neg e]
    ·rw[if_neg hj,if_neg aG]
 have hR:Rel g' δ0 κ {tmps:=vals++Array.replicate (fn.ntmps - vals.size) undef,defers:=[]} w:=
  {n:=by show _=n;simp [hn];omega
   dfr:=by
    obtain⟨rs,e,h1,h2⟩:=mS.dfr
    have e0:=(List.append_eq_nil_iff.1 e.symm).1
    have e0:rs=[]:=by simpa using e0
    subst e0
    exact⟨[],by show []=_++g.base;rw[FP];rfl,h1,h2⟩
   env:=fun j=>by
    show RA ((XS eW n0).cx g κ) w _ (look (enum 0 args++ [(1000,AV.agg (ir eW))]) j)
    rw[IT]
    by_cases hj:j<args.length
    ·rw[if_pos aG]
     have h1:look (enum 0 args) j=args[j]:=oU args 0 j _ (Nat.zero_le _) (by simp [hj])
     have h2:g'.val {tmps:=vals++Array.replicate (fn.ntmps - vals.size) undef,defers:=[]} j=vals[j]'(by omega):=by
      unfold eY.val
      rw[if_pos aG]
      simp [Array.getD_eq_getD_getElem?,Array.getElem?_append,hs,hj]
     rw[h1,h2]
     exact gp j _ _ (Array.getElem?_eq_getElem aG) (List.getElem?_eq_getElem hj)
    ·rw[if_neg aG,fC]
     by_cases e:1000=j
     ·rw[if_pos e]
      have h2:g'.val {tmps:=vals++Array.replicate (fn.ntmps - vals.size) undef,defers:=[]} j=.agg ps.toArray:=by
       unfold eY.val
       rw[if_neg aG]
      rw[h2];exact WQ
     ·rw[if_neg e];exact .any _
   obj:=mS.obj,inj:=mS.inj,lo:=mS.lo,nx:=mS.nx,wt:=mS.wt,below:=mS.below,hB:=mS.hB,N0:=mS.N0,fr:=mS.fr
   kI:=fun d hd=>by cases hd}
 have hw:=h g' Gx jz Tb κ _ w hR
 rw[show g'.ro=none from Gx] at hw
 refine callsIn_wide.1 (callsIn_of_wp_marks (n:=0) hf hb trivial (wpIn_mono hw ?_))
 rintro e a' w' ⟨δ',κ',hq,r'⟩
 refine hQ g' e δ' κ' a' w' _ jz FP hq r' fun x hp ho hx en w2 r2 hE=>?_
 have hg:∀j,(XF δ' eW (e9 x)).get j=if 1000=j then .agg (ir eW) else .any:=fun j=>fC _ _ _ _
 have r3:Rel g' (XF δ' eW (e9 x)) (vN δ' κ') {a' with defers:=[]} w2:=Qm (g:=g') (δ:=δ') (δ':=XF δ' eW (e9 x)) rfl (fun j=>by
   rw[hg]
   by_cases e:1000=j
   ·subst e;rw[if_pos rfl];exact hp
   ·rw[if_neg e];exact .any _) (fun i o h=>ho.at i o h) (fun i o h=>qw hx i o h) r2
 refine⟨x,vN δ' κ',hE,?_,fun i b WS hb=>?_⟩
 ·exact
   {n:=rfl
    dfr:=by
     obtain⟨rs,e,h1,h2⟩:=r3.dfr
     have e0:=(List.append_eq_nil_iff.1 e.symm).1
     have e0:rs=[]:=by simpa using e0
     subst e0
     exact⟨[],by show []=_++g.base;rw[FP];rfl,h1,h2⟩
    env:=fun j=> .any _
    obj:=r3.obj,inj:=r3.inj,lo:=r3.lo,nx:=fun i ⟨o,h⟩=>qw (GC x) i o h,wt:=fun k hk=>by rw[jz] at hk;cases hk
    below:=r3.below,hB:=r3.hB,N0:=r3.N0,fr:=r3.fr,kI:=fun d hd=>by cases hd}
 ·have h3:=r3.env 1000
  rw[hg,if_pos rfl] at h3
  have h4:g'.val {a' with defers:=[]} 1000=.agg ps.toArray:=by
   unfold eY.val
   rw[if_neg aG]
  rw[h4] at h3
  exact JL (C:=(XS eW n0).cx g κ) (w:=w) WQ h3 WS hb
theorem Nj.enter {T:World→Prop} {f:FuncId} {fn:Func} {c:Code} {rs:List ResultVar} {n n0:Nat} {eW e9:List (Nat×Option Ob)} {args:List AV} {r:AV} (hf:P.funcs[f]? =some fn) (hb:fn.body=some c) (oh:fn.results=rs.toArray) (hn:fn.ntmps=n) (F2:Nat.ble args.length n=true)
  (xx:Nat.ble n HS=true) (he:(fn.name== "runtime.NumGoroutine")=false) (BV:v8 eW eW=true) (GC:wA n0 e9=true)
  (h:∀g:eY,g.ro=none→g.wt=none→TB T g→AW P g c (n_ P rs eW e9 r) ⟨n,enum 0 args++ [(1000,.agg (ir eW))],eW,n0⟩):Nj T P f n0 eW args e9 r:=by
 refine DJ.enter (Q:=n_ P rs eW e9 r) hf hb hn F2 xx he BV (fun _=>GC) h fun g e δ' κ' a' w' R jz FP hq r' hR=>?_
 have fin:∀v,fZ P δ' rs v→WV δ' (XF δ' eW e9) v r→WV δ' (XF δ' eW e9) (δ'.get 1000) (.agg (ir eW))→th δ' (XF δ' eW e9) e9→wA δ'.nx e9=true→
   LeavesInM Fence.wide 0 P fn a'.tmps R a'.defers .returning w':=fun v h1 hv hp ho hx=>
  leaves (g:=g) jz FP oh h1 r' fun w2 r2 u hu=>hR () hp ho hx _ _ r2 ⟨u,rfl,hu.wv (δ:=δ') (δ':=XF δ' eW e9) r2.mF r2.obj hv⟩
 cases e with
 |normal=>obtain⟨v,h1,h2,h3,h4,h5⟩:=hq;exact fin v h1 h2 h3 h4 h5
 |ret=>obtain⟨v,h1,h2,h3,h4,h5⟩:=hq;exact fin v h1 h2 h3 h4 h5
 |_=>exact hq.elim
theorem vW.enter {f:FuncId} {fn:Func} {c:Code} {rs:List ResultVar} {n n0:Nat} {eW e9:List (Nat×Option Ob)} {args:List AV} {r:AV} (hf:P.funcs[f]? =some fn) (hb:fn.body=some c) (oh:fn.results=rs.toArray) (hn:fn.ntmps=n) (F2:Nat.ble args.length n=true)
  (xx:Nat.ble n HS=true) (he:(fn.name== "runtime.NumGoroutine")=false) (BV:v8 eW eW=true) (GC:wA n0 e9=true)
  (h:∀g:eY,g.ro=none→g.wt=none→AW P g c (n_ P rs eW e9 r) ⟨n,enum 0 args++ [(1000,.agg (ir eW))],eW,n0⟩):vW P f n0 eW args e9 r:=Nj.enter hf hb oh hn F2 xx he BV GC fun g h1 h2 _=>h g h1 h2
end Go.Ab
namespace Go.Ab
open Go Go.RowKit
variable {P:Program} {g:eY} {δ:DS} {κ:Kp} {a:Act} {w:World}
variable {ops:Array Oper} {rest:List Oper} {Q:Exit→DS→Prop} {dst:Option Nat} {ty:TypeId} {pos:String} {af:Array Edge}
theorem RA.to {C C':Cx} (hB:C'.B=C.B) (hN:∀b,C.N b→C'.N b) {lr lb:Nat→Bool} (oy:∀i,lr i=true→C'.Lr i∧C'.κ i=C.κ i) (uu:∀i,lb i=true→C'.Lb i∧C'.κ i=C.κ i) {v:Value} {av:AV} (h:RA C w v av) (hi:av.ids lr lb=true):RA C' w v av:=by
 have hp:∀{v:Value} {p:PV},RP C.N w v p→RP C'.N w v p:=fun h=>h.mono (Nat.le_refl _) fun b _ h2=>⟨hN b h2,rfl⟩
 have ho:∀{v:Value} {i e k e7},jB C w v i e k e7→lr i=true→jB C' w v i e k e7:=by
  intro v i e k e7 h hl
  obtain⟨h1,h2,h3,h4,xs,h5,h6,h7⟩:=h
  refine⟨(oy i hl).1,h2,h3,fun b hb=>(oy i hl).2.trans (h4 b hb),xs,?_,h6,fun i' j p n9=>let ⟨u,h8,h9⟩:=h7 i' j p n9;⟨u,h8,hp h9⟩⟩
  rw[hB];exact h5
 induction h with
 |any v=>exact .any v
 |pv h=>exact .pv (hp h)
 |own h=>exact .own (ho h hi)
 |ptr hl hκ=>exact .ptr (uu _ hi).1 ((uu _ hi).2.trans hκ)
 |gy b off vs JE hb hc hr=>exact .gy b off vs (hN _ JE) hb hc (fun j p h=>hp (hr j p h))
 |gY ft h=>exact .gY ft (ho h hi)
 |agg hs h ih=>exact .agg hs fun j u c h1 h2=>ih j u c h1 h2 (AV.mi _ hi j c h2)
 |iR hs h ih=>exact .iR hs fun j u c h1 h2=>ih j u c h1 h2 (AV.mi _ hi j c h2)
 |jd hs h ht h' ih ih'=>
  simp only[AV.ids,Bool.and_eq_true] at hi
  exact .jd hs (fun j u c h1 h2=>ih j u c h1 h2 (AV.mi _ hi.1 j c h2)) ht (fun j u c h1 h2=>ih' j u c h1 h2 (AV.mi _ hi.2 j c h2))
 |gH hl hκ=>exact .gH (uu _ hi).1 ((uu _ hi).2.trans hκ)
 |kS hl hκ=>exact .kS (uu _ hi).1 ((uu _ hi).2.trans hκ)
theorem oo.to {C C':Cx} (hB:C'.B=C.B) (hN:∀b,C.N b→C'.N b) {lr lb:Nat→Bool} (oy:∀i,lr i=true→C'.Lr i∧C'.κ i=C.κ i) (uu:∀i,lb i=true→C'.Lb i∧C'.κ i=C.κ i) {i:Nat} {o:Ob} (hκ:C'.κ i=C.κ i) (hF:∀b,C.κ.F i b→C'.κ.F i b) (h:oo C w i o) (hi:sj lr lb o=true):oo C' w i o:=by
 cases o with
 |row=>intro b hb;rw[hκ] at hb;exact h b hb
 |lit T vals=>obtain⟨b,h1,h2⟩:=h;exact⟨b,hκ.trans h1,h2⟩
 |fm e rows=>exact⟨hκ.trans h.1,fun k=>(h.2.1 k).kY hB fun b _ h2 _=>⟨hF b h2,rfl⟩,h.2.2⟩
 |box cs=>
  obtain⟨b,c,e,h1,h2,h3,h4⟩:=h
  exact⟨b,c,e,hκ.trans h1,h2,h3,fun j u av h5 h6=>⟨(h4 j u av h5 h6).1.to hB hN oy uu (AV.mi _ hi j av h6),(h4 j u av h5 h6).2⟩⟩
 |mp l=>
  obtain⟨b,es,clock,h1,h2,h3,h4⟩:=h
  exact⟨b,es,clock,hκ.trans h1,h2,⟨h3.1,fun j e p h5 h6=>⟨(h3.2 j e p h5 h6).1,(h3.2 j e p h5 h6).2.to hB hN oy uu (List.all_eq_true.1 hi p (List.mem_of_getElem? h6))⟩⟩,h4⟩
 |mpl l k v=>
  obtain⟨b,es,clock,h1,h2,h3,h4⟩:=h
  simp only[sj,Bool.and_eq_true] at hi
  exact⟨b,es,clock,hκ.trans h1,h2,h3.last (fun u p hp h=>h.to hB hN oy uu (List.all_eq_true.1 hi.1 p hp)) (fun u h=>h.to hB hN oy uu hi.2),h4⟩
 |it l seen=>
  obtain⟨b,h1,h2⟩:=h
  exact⟨b,hκ.trans h1,h2.mono (Nat.le_refl _) (fun b _ h=>⟨hN b h,rfl⟩) rfl⟩
 |loop l tm ps iQ body st=>
  obtain⟨b,lr',h1,h2⟩:=h
  exact⟨b,lr',hκ.trans h1,h2⟩
def j8:List (Nat×Option Ob)→List (Nat×Option Ob)→Bool
 |[],[]=>true
 |(i,some .row)::r,(j,some .row)::r'=>Nat.beq i j && j8 r r'
 |(i,some (.box _))::r,(j,some (.box _))::r'=>Nat.beq i j && j8 r r'
 |(i,some (.lit _ _))::r,(j,some (.box _))::r'=>Nat.beq i j && j8 r r'
 |(i,some (.mp _))::r,(j,some (.mp _))::r'=>Nat.beq i j && j8 r r'
 |(i,some (.fm _ _))::r,(j,some (.fm _ _))::r'=>Nat.beq i j && j8 r r'
 |_,_=>false
inductive Kind (l0 l1:List (Nat×Option Ob)) (i:Nat):Prop
 |none (h0:fc l0 i=.none) (h1:fc l1 i=.none)
 |row (h0:fc l0 i=some .row) (h1:fc l1 i=some .row)
 |box (c d:List AV) (h0:fc l0 i=some (.box c)) (h1:fc l1 i=some (.box d)) (hp:AV.ptr i 0∈ir l0)
 |lit (T:TypeId) (vals:Array Value) (d:List AV) (h0:fc l0 i=some (.lit T vals)) (h1:fc l1 i=some (.box d)) (hp:AV.ptr i 0∈ir l0)
 |mp (c d:List (Value×AV)) (h0:fc l0 i=some (.mp c)) (h1:fc l1 i=some (.mp d)) (hp:AV.gH i∈ir l0)
 |fm (e e':PT) (c d:Nat→Value×List Value) (h0:fc l0 i=some (.fm e c)) (h1:fc l1 i=some (.fm e' d))
theorem Kind.skip {j:Nat} {o o':Option Ob} {r r':List (Nat×Option Ob)} {i:Nat} (h:Kind r r' i) (gz:¬j=i):Kind ((j,o)::r) ((j,o')::r') i:=by
 have e0:∀(o:Option Ob) (r:List (Nat×Option Ob)),fc ((j,o)::r) i=fc r i:=fun o r=>by rw[fj,if_neg gz]
 have hp:∀{c:AV},c∈ir r→c∈ir ((j,o)::r):=fun {c} h=>by
  rcases o with _|o
  ·exact h
  ·cases o<;>simp only[ir]<;>first|exact h|exact List.mem_cons_of_mem _ h
 cases h with
 |none h0 h1=>exact .none ((e0 _ _).trans h0) ((e0 _ _).trans h1)
 |row h0 h1=>exact .row ((e0 _ _).trans h0) ((e0 _ _).trans h1)
 |box c d h0 h1 h2=>exact .box c d ((e0 _ _).trans h0) ((e0 _ _).trans h1) (hp h2)
 |lit T vals d h0 h1 h2=>exact .lit T vals d ((e0 _ _).trans h0) ((e0 _ _).trans h1) (hp h2)
 |mp c d h0 h1 h2=>exact .mp c d ((e0 _ _).trans h0) ((e0 _ _).trans h1) (hp h2)
 |fm e e' c d h0 h1=>exact .fm e e' c d ((e0 _ _).trans h0) ((e0 _ _).trans h1)
theorem oR:∀{l0 l1:List (Nat×Option Ob)},j8 l0 l1=true→∀i,Kind l0 l1 i
 |[],[],_,i=> .none rfl rfl
 |(j,some .row)::r,(j',some .row)::r',h,i=>by
  simp only[j8,Bool.and_eq_true] at h
  obtain rfl:=Nat.eq_of_beq_eq_true h.1
  by_cases e:j=i
  ·subst e;exact .row (by rw[fj,if_pos rfl]) (by rw[fj,if_pos rfl])
  ·exact(oR h.2 i).skip e
 |(j,some (.box c))::r,(j',some (.box d))::r',h,i=>by
  simp only[j8,Bool.and_eq_true] at h
  obtain rfl:=Nat.eq_of_beq_eq_true h.1
  by_cases e:j=i
  ·subst e;exact .box c d (by rw[fj,if_pos rfl]) (by rw[fj,if_pos rfl]) (by simp [ir])
  ·exact(oR h.2 i).skip e
 |(j,some (.lit T c))::r,(j',some (.box d))::r',h,i=>by
  simp only[j8,Bool.and_eq_true] at h
  obtain rfl:=Nat.eq_of_beq_eq_true h.1
  by_cases e:j=i
  ·subst e;exact .lit T c d (by rw[fj,if_pos rfl]) (by rw[fj,if_pos rfl]) (by simp [ir])
  ·exact(oR h.2 i).skip e
 |(j,some (.mp c))::r,(j',some (.mp d))::r',h,i=>by
  simp only[j8,Bool.and_eq_true] at h
  obtain rfl:=Nat.eq_of_beq_eq_true h.1
  by_cases e:j=i
  ·subst e;exact .mp c d (by rw[fj,if_pos rfl]) (by rw[fj,if_pos rfl]) (by simp [ir])
  ·exact(oR h.2 i).skip e
 |(j,some (.fm e c))::r,(j',some (.fm e' d))::r',h,i=>by
  simp only[j8,Bool.and_eq_true] at h
  obtain rfl:=Nat.eq_of_beq_eq_true h.1
  by_cases e0:j=i
  ·subst e0;exact .fm e e' c d (by rw[fj,if_pos rfl]) (by rw[fj,if_pos rfl])
  ·exact(oR h.2 i).skip e0
def jn:List (Nat×Option Ob)→List Nat
 |[]=>[]
 |(i,some .row)::r=>i::jn r
 |_::r=>jn r
theorem zD:∀{l:List (Nat×Option Ob)} {i:Nat},fc l i=some .row→mM i (jn l)=true
 |[],i,h=>by simp [fc] at h
 |(j,o)::r,i,h=>by
  rw[fj] at h
  have hm:∀(b:Bool),(bif b then true else mM i (jn r))=true∨mM i (jn r)=false:=fun b=>by cases b<;>cases mM i (jn r)<;>simp
  by_cases e:j=i
  ·rw[if_pos e] at h
   subst h
   subst e
   simp only[jn,w7,beq_self_eq_true,cond_true]
  ·rw[if_neg e] at h
   have:=zD h
   rcases o with _|o
   ·exact this
   ·cases o<;>simp only[jn,w7]<;>first|exact this|(rw[this];cases (i==j)<;>rfl)
def qX (rs:List Nat):AV→AV
 |.own j e k e7=>bif mM j rs then .any else .own j e k e7
 |.gY j e k e7 n=>bif mM j rs then .any else .gY j e k e7 n
 |v=>v
def AV.iO (rs:List Nat):AV→AV:=AV.mp (qX rs)
def Cx.vF (C:Cx) (rs:List Nat):Cx:={C with Lr:=fun j=>C.Lr j∧mM j rs=false,κ:=⟨C.κ.f,fun _ _=>False⟩}
theorem RA.iO {C C':Cx} {rs:List Nat} {w w':World} (G:j6 (C.vF rs) w C' w') {v:Value} {av:AV} (h:RA C w v av):RA C' w' v (av.iO rs):=by
 have Dc:∀{v j e k e7},jB C w v j e k e7→mM j rs=false→jB (C.vF rs) w v j e k e7:=fun h hj=>⟨⟨h.live,hj⟩,h.lim,h.hk,h.yD,h.row⟩
 unfold AV.iO
 induction h with
 |any v=>exact .any v
 |pv h=>exact .pv (G.rp h)
 | @own v j e k e7 h=>
  simp only[AV.mp,qX]
  cases hj:mM j rs with
  |true=>exact .any _
  |false=>exact .own (G.Iy (Dc h hj))
 |ptr hl hκ=>exact .ptr (G.Lb _ hl).1 ((G.Lb _ hl).2.trans hκ)
 |gy b off vs hN hb hc hr=>exact G.ra (C:=C.vF rs) (.gy b off vs hN hb hc hr)
 | @gY j e k e7 n b cap hn h=>
  simp only[AV.mp,qX]
  cases hj:mM j rs with
  |true=>exact .any _
  |false=>exact .gY hn (G.Iy (Dc h hj))
 | @agg vs cs hs h ih=>
  simp only[AV.mp,AV.kW]
  refine .agg (by simpa using hs) fun j u c h1 h2=>?_
  simp only[List.getElem?_map,Option.map_eq_some_iff] at h2
  obtain⟨c',h2,rfl⟩:=h2
  exact ih j u c' h1 h2
 | @iR vs cs hs h ih=>
  simp only[AV.mp,AV.kW]
  refine .iR (by simpa using hs) fun j u c h1 h2=>?_
  simp only[List.getElem?_map,Option.map_eq_some_iff] at h2
  obtain⟨c',h2,rfl⟩:=h2
  exact ih j u c' h1 h2
 | @jd fn vs us cs ds hs h ht h' ih ih'=>
  simp only[AV.mp,AV.kW]
  refine .jd (by simpa using hs) (fun j u c h1 h2=>?_) (by simpa using ht) (fun j u c h1 h2=>?_)
  ·simp only[List.getElem?_map,Option.map_eq_some_iff] at h2
   obtain⟨c',h2,rfl⟩:=h2
   exact ih j u c' h1 h2
  ·simp only[List.getElem?_map,Option.map_eq_some_iff] at h2
   obtain⟨c',h2,rfl⟩:=h2
   exact ih' j u c' h1 h2
 |gH hl hκ=>exact .gH (G.Lb _ hl).1 ((G.Lb _ hl).2.trans hκ)
 |kS hl hκ=>exact .kS (G.Lb _ hl).1 ((G.Lb _ hl).2.trans hκ)
theorem RA.vF {C:Cx} {rs:List Nat} {w:World} {v:Value} {av:AV} (h:RA C w v av) (hn:av.kM=true):RA (C.vF rs) w v av:=by
 cases h with
 |any v=>exact .any v
 |pv h=>exact .pv h
 |own h=>simp [AV.kM] at hn
 |ptr hl hκ=>exact .ptr hl hκ
 |gy b off vs hN hb hc hr=>exact .gy b off vs hN hb hc hr
 |gY hi h=>simp [AV.kM] at hn
 |agg hs h=>simp [AV.kM] at hn
 |iR hs h=>simp [AV.kM] at hn
 |jd hs h ht h'=>simp [AV.kM] at hn
 |gH hl hκ=>exact .gH hl hκ
 |kS hl hκ=>exact .kS hl hκ
def Cq (δ:DS):List (Nat×Option Ob)→Prop
 |[]=>True
 |(i,o)::r=>δ.ob i=o∧Cq δ r
theorem Cq.at {δ:DS}:∀{l:List (Nat×Option Ob)},Cq δ l→∀i o,fc l i=some o→δ.ob i=some o
 |[],_,i,o,h=>by simp [fc] at h
 |(j,x)::r,hs,i,o,h=>by
  rw[fj] at h
  by_cases e:j=i
  ·rw[if_pos e] at h;subst e;rw[hs.1];exact h
  ·rw[if_neg e] at h;exact hs.2.at i o h
inductive Vh (lr lb:Nat→Bool):AV→AV→Prop
 |any (c:AV):Vh lr lb c .any
 |eq {c d:AV} (h:c=d) (hi:d.ids lr lb=true):Vh lr lb c d
 |nil (k:Nat):Vh lr lb (.pv (.lit (.slice none 0 0))) (.pv (.slice k []))
inductive wa (lr lb:Nat→Bool):List AV→List AV→Prop
 |nil:wa lr lb [] []
 |cons {c d:AV} {cs ds:List AV} (h:Vh lr lb c d) (hs:wa lr lb cs ds):wa lr lb (c::cs) (d::ds)
theorem wa.len {lr lb:Nat→Bool} {cs ds:List AV} (h:wa lr lb cs ds):cs.length=ds.length:=by induction h with|nil=>rfl|cons h hs ih=>simp [ih]
theorem wa.at {lr lb:Nat→Bool} {cs ds:List AV} (h:wa lr lb cs ds):∀(j:Nat) (c d:AV),cs[j]? =some c→ds[j]? =some d→Vh lr lb c d:=by
 induction h with
 |nil=>intro j c d h1;simp at h1
 |cons h hs ih=>
  intro j c d h1 h2
  cases j with
  |zero=>simp at h1 h2;subst h1;subst h2;exact h
  |succ j=>exact ih j c d (by simpa using h1) (by simpa using h2)
def DS.iJ (δ:DS) (eW e9:List (Nat×Option Ob)):DS:={(δ.ib (AV.iO (jn eW))) with fY:=e9++(δ.ib (AV.iO (jn eW))).fY}
theorem CM:∀{l l':List (Nat×Option Ob)} {i:Nat},(∀p∈l,p.2.isSome=true)→fc (l++l') i=match fc l i with|some o=>some o|none=>fc l' i
 |[],l',i,_=>rfl
 |(j,o)::r,l',i,h=>by
  rw[List.cons_append,fj,fj]
  by_cases e:j=i
  ·rw[if_pos e,if_pos e]
   have:=h (j,o) (by simp)
   cases o with
   |none=>simp at this
   |some o=>rfl
  ·rw[if_neg e,if_neg e];exact CM fun p hp=>h p (by simp [hp])
theorem lX:∀{l0 l1:List (Nat×Option Ob)},j8 l0 l1=true→∀p∈l1,p.2.isSome=true
 |[],[],_,p,hp=>by simp at hp
 |(j,some .row)::r,(j',some .row)::r',h,p,hp=>by
  simp only[j8,Bool.and_eq_true] at h
  rcases List.mem_cons.1 hp with rfl|hp
  ·rfl
  ·exact lX h.2 p hp
 |(j,some (.box c))::r,(j',some (.box d))::r',h,p,hp=>by
  simp only[j8,Bool.and_eq_true] at h
  rcases List.mem_cons.1 hp with rfl|hp
  ·rfl
  ·exact lX h.2 p hp
 |(j,some (.lit T c))::r,(j',some (.box d))::r',h,p,hp=>by
  simp only[j8,Bool.and_eq_true] at h
  rcases List.mem_cons.1 hp with rfl|hp
  ·rfl
  ·exact lX h.2 p hp
 |(j,some (.mp c))::r,(j',some (.mp d))::r',h,p,hp=>by
  simp only[j8,Bool.and_eq_true] at h
  rcases List.mem_cons.1 hp with rfl|hp
  ·rfl
  ·exact lX h.2 p hp
 |(j,some (.fm e c))::r,(j',some (.fm e' d))::r',h,p,hp=>by
  simp only[j8,Bool.and_eq_true] at h
  rcases List.mem_cons.1 hp with rfl|hp
  ·rfl
  ·exact lX h.2 p hp
theorem Ij (rs:List Nat):AV.iO rs .any=.any:=rfl
end Go.Ab
/- Callees that rewrite a row of numbers in place:Go's slices.Sort,slices.Compact. -/
namespace Go.Ab
open Go Go.RowKit
variable {P:Program} {g:eY} {δ:DS} {κ:Kp} {a:Act} {w:World}
def nI (z:Int):List PV:=[.lit (.int .i64 z)]
structure SM (P:Program) (f:FuncId) (out:List Int→List Int) (ret:Option (List Int→Nat)):Prop where
 enters:∀vals w,(callFunc f vals).run P w=.ok (.enter f vals) w
 len:∀zs,(out zs).length=zs.length
 retle:∀r,ret=some r→∀zs,r zs≤zs.length
 calls:∀(b cap:Nat) (zs:List Int) (w:World),Sort.Holds (Value.int .i64) w b 0 zs.toArray→b<w.heap.size→zs.length≤140737488355328→zs.length≤cap→
  Calls P f #[.slice (some ⟨b,0,none⟩) zs.length cap] w fun e w'=>e=.returned (match ret with|none=> .tuple #[]|some r=> .slice (some ⟨b,0,none⟩) (r zs) cap)∧
   ∃n os,w'=Sort.grow (Sort.putRow (Value.int .i64) (Sort.ahead w n) b 0 (out zs).toArray) os
 nil:∀w,Calls P f #[.slice none 0 0] w fun e w'=>e=.returned (match ret with|none=> .tuple #[]|some _=> .slice none 0 0)∧Below w.heap.size w w'
theorem Db {w:World} {b n:Nat} {c:Array Value} {e:TypeId} {d:Array Int} {os:Array Obj} (h:w.heap[b]? =some (.cells c e (0,0))):
  (Sort.grow (Sort.putRow (Value.int .i64) (Sort.ahead w n) b 0 d) os).heap[b]? =some (.cells (Sort.putCells (Value.int .i64) 0 d c) e (0,0)):=by
 have hb:b<w.heap.size:=(Array.getElem?_eq_some_iff.1 h).1
 unfold Sort.grow Sort.putRow Sort.mapBlock Sort.ahead
 simp only
 rw[Array.getElem?_append_left (by simpa using hb),Array.getElem?_modify,if_pos rfl,h]
 rfl
theorem AX {w:World} {b n k:Nat} {d:Array Int} {os:Array Obj} (hk:k<w.heap.size) (gz:b≠k):
  (Sort.grow (Sort.putRow (Value.int .i64) (Sort.ahead w n) b 0 d) os).heap[k]? =w.heap[k]?:=by
 unfold Sort.grow Sort.putRow Sort.mapBlock Sort.ahead
 simp only
 rw[Array.getElem?_append_left (by simpa using hk),Array.getElem?_modify,if_neg gz]
theorem A4 (w:World) (b n:Nat) (d:Array Int) (os:Array Obj):gm w (Sort.grow (Sort.putRow (Value.int .i64) (Sort.ahead w n) b 0 d) os) (some b):=
 ⟨rfl,rfl,rfl,by simp [Sort.grow,Sort.putRow,Sort.mapBlock,Sort.ahead],fun k hk gz=>AX hk (fun e=>gz (by rw[e]))⟩
theorem yP {c:Array Value} {d:List Int} (hc:d.length≤c.size):(Sort.putCells (Value.int .i64) 0 d.toArray c).toList.take d.length=d.map (Value.int .i64):=by
 apply List.ext_getElem
 ·simp [Sort.putCells];omega
 ·intro j h1 h2
  have hj:j<d.length:=by simpa using h2
  simp [Sort.putCells,hj]
theorem OV {w:World} {N:Nat→Prop} {xs:List Value} {zs:List Int} (hl:xs.length=zs.length*1) (hx:∀i' j p,cellAt (zs.map nI) i' j=some p→∃u,xs[i'*1+j]? =some u∧RP N w u p):xs=zs.map (Value.int .i64):=by
 apply List.ext_getElem
 ·simp [hl]
 ·intro j h1 h2
  have hj:j<zs.length:=by simpa using h2
  obtain⟨u,hu,hr⟩:=hx j 0 (.lit (.int .i64 zs[j])) (by simp [cellAt,hj,nI])
  cases hr
  rw[Nat.mul_one,Nat.add_zero,List.getElem?_eq_getElem h1] at hu
  simpa using hu
def jJ (δ:DS) (v:AV):List Nat→DS
 |[]=>δ
 |t::ts=>(jJ δ v ts).put t v
theorem CC (δ:DS) (v:AV) (ts:List Nat):(jJ δ v ts).n=δ.n:=by induction ts with|nil=>rfl|cons t ts ih=>exact ih
def Al (δ:DS) (v:AV):List Nat→Prop
 |[]=>True
 |t::ts=>δ.get t=v∧Al δ v ts
theorem SL (δ:DS) (t:Nat) (v:AV):(δ.put t v).cx g κ=δ.cx g κ:=rfl
theorem ny (δ:DS) (v:AV):∀ts,(jJ δ v ts).cx g κ=δ.cx g κ
 |[]=>rfl
 |t::ts=>by show((jJ δ v ts).put t v).cx g κ=_;rw[SL,ny δ v ts]
theorem Rel.KE (r:Rel g δ κ a w) {t:Nat} {v:AV} (h:RA (δ.cx g κ) w (g.val a t) v):Rel g (δ.put t v) κ a w where
 n:=r.n
 dfr:=r.dfr
 env:=fun j=>by
  rw[GR]
  by_cases e:t=j
  ·subst e;rw[if_pos rfl];exact h
  ·rw[if_neg e];exact r.env j
 obj:=r.obj
 inj:=r.inj
 lo:=r.lo
 nx:=r.nx
 wt:=r.wt
 below:=r.below
 hB:=r.hB
 N0:=r.N0
 fr:=r.fr
 kI:=r.kI
theorem Rel.qI (r:Rel g δ κ a w) {v:AV}:∀ts:List Nat,(∀t∈ts,RA (δ.cx g κ) w (g.val a t) v)→Rel g (jJ δ v ts) κ a w
 |[],_=>r
 |t::ts,h=>(Rel.qI r ts fun t ht=>h t (by simp [ht])).KE (by rw[ny];exact h t (by simp))
theorem rD {δ:DS} {v:AV}:∀{ts:List Nat},Al δ v ts→∀t∈ts,δ.get t=v
 |[],_,t,h=>by simp at h
 |x::ts,h,t,ht=>by
  rcases List.mem_cons.1 ht with rfl|ht
  ·exact h.1
  ·exact rD h.2 t ht
variable {ops:Array Oper} {rest:List Oper} {Q:Exit→DS→Prop} {dst:Option Nat} {ty:TypeId} {pos:String} {af:Array Edge} {gd:Option (Tmp×Bool)}
def Bq (i:Nat) (e:TypeId) (zs os:List Int):Option (List Int→Nat)→AV
 |none=> .iR []
 |some r=> .own i e 1 ((os.take (r zs)).map nI)
theorem jB.nums {C:Cx} {w:World} {v:Value} {i:Nat} {e:TypeId} {zs:List Int} (h:jB C w v i e 1 (zs.map nI)):
  (v=.slice none 0 0∧zs=[])∨∃b cap c,v=.slice (some ⟨b,0,none⟩) zs.length cap∧C.κ i=some b∧C.B≤b∧w.heap[b]? =some (.cells c e (0,0))∧zs.length≤cap∧cap≤maxLen∧c.size=cap∧c.toList.take zs.length=zs.map (Value.int .i64):=by
 obtain⟨xs,⟨hl,hX⟩,_,hx⟩:=h.row
 rw[List.length_map] at hl hX
 have Gy:=OV hl hx
 rcases hX with ⟨rfl,h0⟩|⟨b,cap,c,rfl,h1,h2,h3,h4,h5,h6⟩
 ·exact .inl ⟨rfl,List.eq_nil_of_length_eq_zero h0⟩
 ·refine .inr ⟨b,cap,c,rfl,h.yD b rfl,h1,h2,h3,h4,by omega,?_⟩
  rw[← Gy,← h6,Nat.mul_one]
theorem jB.Fu {C:Cx} {w:World} {i b cap:Nat} {e:TypeId} {zs:List Int} {c:Array Value} (hl:C.Lr i) (hκ:C.κ i=some b) (hB:C.B≤b) (h2:w.heap[b]? =some (.cells c e (0,0))) (h3:zs.length≤cap) (h4:cap≤maxLen) (h5:c.size=cap)
  (h6:c.toList.take zs.length=zs.map (Value.int .i64)) (mP:zs.length≤140737488355328):jB C w (.slice (some ⟨b,0,none⟩) zs.length cap) i e 1 (zs.map nI):=by
 refine⟨hl,by simpa using mP,fun c hc=>?_,fun b' js=>?_,zs.map (Value.int .i64),⟨by simp,.inr ⟨b,cap,c,by simp,hB,h2,by simpa using h3,h4,by omega,by simpa using h6⟩⟩,fun u hu=>?_,fun i' j p hp=>?_⟩
 ·obtain⟨z,_,rfl⟩:=List.mem_map.1 hc;rfl
 ·cases js;exact hκ
 ·obtain⟨z,_,rfl⟩:=List.mem_map.1 hu;rfl
 ·unfold cellAt at hp
  rw[List.getElem?_map] at hp
  cases hz:zs[i']? with
  |none=>rw[hz] at hp;simp at hp
  |some z=>
   rw[hz] at hp
   cases j with
   |zero=>
    simp [nI] at hp
    subst hp
    exact⟨.int .i64 z,by rw[Nat.mul_one,Nat.add_zero,List.getElem?_map,hz];rfl,.lit _⟩
   |succ j=>simp [nI] at hp
theorem je.Ow {f:FuncId} {x:Operand} {tys:Array TypeId} {out:List Int→List Int} {ret:Option (List Int→Nat)} (hf:SM P f out ret) (ts:List Nat) {i:Nat} {e:TypeId} {zs:List Int} (hx:δ.ev x=.own i e 1 (zs.map nI)) (M5:Al δ (.own i e 1 (zs.map nI)) ts) (hr:δ.ob i=some .row)
  (ho:fk x=true) (hd:gb δ.n dst=true):
  je P g ⟨dst,.call {callee:=.value (.func f),args:= #[x],argTypes:=tys},ty,pos,af,none⟩ δ ((jJ (δ.ib (AV.kill i)) (.own i e 1 ((out zs).map nI)) ts).eZ dst (Bq i e zs (out zs) ret)):=by
 intro κ a w r
 right
 have M6:=(r.ra hx ho).jt
 have gQ:=mD (dst:=dst) (ty:=ty) (pos:=pos) (af:=af) (xs:= #[x]) (tys:=tys) (ρ:=a.eval) (x:=.func f) (f:=f) rfl hf.enters w
 have mP:zs.length≤140737488355328:=by simpa using M6.lim
 refine⟨f, #[a.eval x],by simpa using gQ,?_⟩
 have Fy:∀ts,gb (jJ (δ.ib (AV.kill i)) (.own i e 1 ((out zs).map nI)) ts).n dst=true:=fun ts=>by rw[CC];exact hd
 have oy:∀κ',((δ.ib (AV.kill i)).cx g κ').Lr i:=fun κ'=>by
  show(δ.ib (AV.kill i)).ob i=some .row
  rw[kj,hr];rfl
 have nF:∀t∈ts,jB (δ.cx g κ) w (g.val a t) i e 1 (zs.map nI):=fun t ht=>by
  have:=r.env t
  rw[rD M5 t ht] at this
  exact this.jt
 have yW:∀{w':World},jB ((δ.ib (AV.kill i)).cx g κ) w' (.slice none 0 0) i e 1 (([]:List Int).map nI):=fun {w'}=>
  ⟨oy κ,(by simp),(fun c hc=>by simp at hc),(fun b hb=>by cases hb),⟨[],⟨by simp,.inl ⟨rfl,rfl⟩⟩,(fun u hu=>by simp at hu),(fun i' j p hp=>by simp [cellAt] at hp)⟩⟩
 rcases M6.nums with ⟨hv,rfl⟩|⟨b,cap,c,hv,hκ,hB,hb,p_,yS,sE,yH⟩
 ·
  rw[hv]
  refine(hf.nil w).mono fun e' w' ⟨he,LQ⟩=>?_
  have r1:=r.ext LQ
  have e0:out []=[]:=List.eq_nil_of_length_eq_zero (by rw[hf.len];rfl)
  have rk:Rel g (δ.ib (AV.kill i)) κ a w':=by
   refine(r1.row hr (κ':=κ) (fun _ _=>rfl) ⟨rfl,rfl,rfl,Nat.le_refl _,fun _ _ _=>rfl⟩ (fun b js=>?_) (AV.kill i) rfl (fun G v av h=>h.kill G)).1
   obtain⟨c,e',h1⟩:=r1.obj i .row hr b js
   exact⟨.inl js,(Array.getElem?_eq_some_iff.1 h1).1,c,e',h1⟩
  have ra:Rel g (jJ (δ.ib (AV.kill i)) (.own i e 1 ((out []).map nI)) ts) κ a w':=by
   refine rk.qI ts fun t ht=> .own ?_
   have h1:=r1.env t
   rw[rD M5 t ht] at h1
   rw[e0]
   rcases h1.jt.nums with ⟨h2,_⟩|⟨b,cap,c,h2,hκ,hB,hb,p_,yS,sE,yH⟩
   ·rw[h2];exact yW
   ·rw[h2];exact jB.Fu (oy κ) hκ hB hb p_ yS sE yH (by simp)
  refine⟨_,κ,he,ra.eZ (fE (Fy ts)) ?_⟩
  cases ret with
  |none=>exact .iR rfl (fun j u c h=>by simp at h)
  |some rr=>
   show RA _ _ _ (.own i e 1 (((out []).take (rr [])).map nI))
   rw[e0,ny]
   exact .own (by simpa using yW)
 ·rw[hv]
  have hκ0:κ i=some b:=hκ
  have Yl:b<w.heap.size:=(Array.getElem?_eq_some_iff.1 hb).1
  have hold:Sort.Holds (Value.int .i64) w b 0 zs.toArray:=by
   intro j hj
   have ql:j<zs.length:=by simpa using hj
   refine⟨?_,by rw[Nat.zero_add];exact lq hb _⟩
   rw[Nat.zero_add,cell_of hb]
   have h1:(c.toList.take zs.length)[j]? =(zs.map (Value.int .i64))[j]?:=by rw[yH]
   rw[List.getElem?_take,if_pos ql,Array.getElem?_toList,List.getElem?_map,List.getElem?_eq_getElem ql] at h1
   rw[h1]
   simp [ql]
  refine(hf.calls b cap zs w hold Yl mP p_).mono fun e' w' ⟨he,n,os,ly⟩=>?_
  have hh:w'.heap[b]? =some (.cells (Sort.putCells (Value.int .i64) 0 (out zs).toArray c) e (0,0)):=by rw[ly];exact Db hb
  have mX:(Sort.putCells (Value.int .i64) 0 (out zs).toArray c).size=c.size:=by simp [Sort.putCells]
  have UY:=yP (c:=c) (d:=out zs) (by rw[hf.len];omega)
  have rk:Rel g (δ.ib (AV.kill i)) κ a w':=by
   refine(r.row hr (κ':=κ) (fun _ _=>rfl) (by rw[hκ0,ly];exact A4 _ _ _ _ _) (fun b' js=>?_) (AV.kill i) rfl (fun G v av h=>h.kill G)).1
   obtain rfl:b=b':=Option.some.inj (hκ.symm.trans js)
   exact⟨.inl hκ,(Array.getElem?_eq_some_iff.1 hh).1,_,_,hh⟩
  have ra:Rel g (jJ (δ.ib (AV.kill i)) (.own i e 1 ((out zs).map nI)) ts) κ a w':=by
   refine rk.qI ts fun t ht=> .own ?_
   rcases(nF t ht).nums with ⟨h2,h0⟩|⟨b',cap',c',h2,Em,hB',js,Ve,L5,S7,YD⟩
   ·have e0:out zs=[]:=List.eq_nil_of_length_eq_zero (by rw[hf.len,h0];rfl)
    rw[h2,e0];exact yW
   ·obtain rfl:b=b':=Option.some.inj (hκ.symm.trans Em)
    rw[hb] at js
    simp only[Option.some.injEq,Obj.cells.injEq] at js
    obtain⟨rfl,_⟩:=js
    rw[h2,← hf.len zs]
    exact jB.Fu (oy κ) hκ hB hh (by rw[hf.len];exact Ve) L5 aG UY (by rw[hf.len];exact mP)
  refine⟨_,κ,he,ra.eZ (fE (Fy ts)) ?_⟩
  rw[ny]
  cases ret with
  |none=>exact .iR rfl (fun j u c h=>by simp at h)
  |some rr=>
   have hle:=hf.retle rr rfl zs
   have pB:((out zs).take (rr zs)).length=rr zs:=by rw[List.length_take,hf.len];omega
   show RA _ _ (.slice (some ⟨b,0,none⟩) (rr zs) cap) (.own i e 1 (((out zs).take (rr zs)).map nI))
   refine .own ?_
   have:=jB.Fu (C:=(δ.ib (AV.kill i)).cx g κ) (w:=w') (i:=i) (b:=b) (cap:=cap) (e:=e) (zs:=(out zs).take (rr zs)) (oy κ) hκ hB hh aG yS (by omega)
    (by rw[pB,List.map_take,← UY,List.take_take,hf.len,Nat.min_eq_left aG]) (by omega)
   rwa [pB] at this
theorem a_.Ow {f:FuncId} {x:Operand} {tys:Array TypeId} {out:List Int→List Int} {ret:Option (List Int→Nat)} (hf:SM P f out ret) (ts:List Nat) {i:Nat} {e:TypeId} {zs:List Int} (hx:δ.ev x=.own i e 1 (zs.map nI)) (M5:Al δ (.own i e 1 (zs.map nI)) ts) (hr:δ.ob i=some .row)
  (ho:fk x=true) (hd:gb δ.n dst=true) (hK:a_ .plain P g ops rest Q ((jJ (δ.ib (AV.kill i)) (.own i e 1 ((out zs).map nI)) ts).eZ dst (Bq i e zs (out zs) ret))):
  a_ .plain P g ops (⟨dst,.call {callee:=.value (.func f),args:= #[x],argTypes:=tys},ty,pos,af,none⟩::rest) Q δ:=
 a_.vA rfl rfl (je.Ow hf ts hx M5 hr ho hd) hK
theorem enters_of {f:FuncId} {fn:Func} {c:Code} (hf:P.funcs[f]? =some fn) (hb:fn.body=some c) (he:(fn.name== "runtime.NumGoroutine")=false):∀vals w,(callFunc f vals).run P w=.ok (.enter f vals) w:=fun vals w=>by
 simp [callFunc,hf,hb];simpa using he
end Go.Ab
/- A call by a contract over objects. -/
namespace Go.Ab
open Go Go.RowKit
variable {P:Program} {g:eY} {δ:DS} {κ:Kp} {a:Act} {w:World}
variable {ops:Array Oper} {rest:List Oper} {Q:Exit→DS→Prop} {dst:Option Nat} {ty:TypeId} {pos:String} {af:Array Edge}
def JD:List (Nat×AV)→List (Nat×AV)
 |[]=>[]
 |(i,v)::r=>bif Nat.ble HS i then (i,v)::JD r else JD r
abbrev DS.hi (δ:DS):DS:=⟨δ.n,JD δ.env,δ.fY,δ.nx⟩
theorem DP:∀(e:List (Nat×AV)) (j:Nat),look (JD e) j=if j<HS then .any else look e j
 |[],j=>by simp [JD,look]
 |(i,v)::r,j=>by
  have ih:=DP r j
  rw[fC]
  unfold JD
  cases hb:Nat.ble HS i with
  |true=>
   have js:HS≤i:=by simpa using hb
   rw[cond_true,fC,ih]
   by_cases e:i=j
   ·subst e;rw[if_pos rfl,if_pos rfl,if_neg aG]
   ·rw[if_neg e,if_neg e]
  |false=>
   have js:¬HS≤i:=by
    intro h
    have h':Nat.ble HS i=true:=by simpa using h
    rw[hb] at h'
    cases h'
   rw[cond_false,ih]
   by_cases e:i=j
   ·subst e;rw[if_pos aG,if_pos aG]
   ·rw[if_neg e]
theorem Rel.hi (r:Rel g δ κ a w):Rel g δ.hi κ a w:=
 {n:=r.n,dfr:=r.dfr
  env:=fun j=>by
   have:=r.env j
   show RA (δ.cx g κ) w _ (look (JD δ.env) j)
   rw[DP]
   by_cases h:j<HS
   ·rw[if_pos h];exact .any _
   ·rw[if_neg h];exact this
  obj:=r.obj,inj:=r.inj,lo:=r.lo,nx:=r.nx,wt:=r.wt,below:=r.below,hB:=r.hB,N0:=r.N0,fr:=r.fr,kI:=r.kI}
theorem NR {e:Exit} (h:Q e δ.hi) (r:Rel g δ κ a w):lift g Q e a w:=⟨δ.hi,κ,h,r.hi⟩
namespace Nf
theorem hi (n:Nat) (e:List (Nat×AV)) (o:List (Nat×Option Ob)) (x:Nat):DS.hi ⟨n,e,o,x⟩=⟨n,JD e,o,x⟩:=rfl
theorem mB:JD []=[]:=rfl
theorem Ww (i:Nat) (v:AV) (r:List (Nat×AV)):JD ((i,v)::r)=bif Nat.ble 1000 i then (i,v)::JD r else JD r:=rfl
end Nf
def mU (lr lb:Nat→Bool):List (Nat×Option Ob)→Prop
 |[]=>True
 |(_,none)::r=>mU lr lb r
 |(_,some o)::r=>sj lr lb o=true∧mU lr lb r
theorem mU.at {lr lb:Nat→Bool}:∀{l:List (Nat×Option Ob)},mU lr lb l→∀i o,fc l i=some o→sj lr lb o=true
 |[],_,i,o,h=>by simp [fc] at h
 |(j,none)::r,hs,i,o,h=>by
  rw[fj] at h
  by_cases e:j=i
  ·rw[if_pos e] at h;cases h
  ·rw[if_neg e] at h;exact mU.at (l:=r) hs i o h
 |(j,some x)::r,hs,i,o,h=>by
  rw[fj] at h
  by_cases e:j=i
  ·rw[if_pos e] at h;cases h;exact hs.1
  ·rw[if_neg e] at h;exact mU.at (l:=r) hs.2 i o h
theorem uS {lr lb:Nat→Bool} {l:List Int}:sj lr lb (.mp (mx (HO l)))=true:=by
 unfold sj
 rw[List.all_eq_true]
 intro p hp
 unfold mx HO at hp
 obtain⟨q,hq,rfl⟩:=List.mem_map.1 hp
 obtain⟨x,_,rfl⟩:=List.mem_map.1 hq
 rfl
open Classical in
noncomputable def κX (eW:List (Nat×Option Ob)) (κ κ':Kp):Kp:=⟨fun i=>if (fc eW i).isSome=true then κ' i else κ i,fun i b=>if (fc eW i).isSome=true then κ'.F i b else κ.F i b⟩
theorem IP {eW e9:List (Nat×Option Ob)} (hk:j8 eW e9=true) (i:Nat):(δ.iJ eW e9).ob i=match fc e9 i with|some o=>some o|none=>(δ.ob i).map (Ob.xq (AV.iO (jn eW))):=by
 show fc (e9++(δ.ib (AV.iO (jn eW))).fY) i=_
 rw[CM (lX hk)]
 cases h:fc e9 i with
 |some o=>rfl
 |none=>exact kj _ _ _
theorem xm {α:Type} {T:World→Prop} {E:α→Cx→World→Ending→Prop} {y:Operand} {f:FuncId} {xs:List Operand} {tys:Array TypeId} {first cap args:List AV} {n0:Nat} {eW:List (Nat×Option Ob)} {qe:α→List (Nat×Option Ob)} (jz:g.wt=none) (Tb:TB T g) (hf:DJ T P E f n0 eW args qe) (hy:δ.ev y=.jd (.func f) first cap) (np:fk y=true) (lK:xs.all fk=true)
  (pt:Cq δ eW) (gp:wa (XS eW n0).qR (XS eW n0).qq (first++xs.map δ.ev++cap) args) (hkA:∀x,j8 eW (qe x)=true) (wG:wA n0 eW=true) (tE:mU (XS eW n0).qR (XS eW n0).qq eW)
  (RK:∀x,mU (XS (qe x) n0).qR (XS (qe x) n0).qq (qe x))
  (XM:∀(x:α) (κ:Kp) (a:Act) (w':World) (C:Cx) (v:Value),Rel g (δ.iJ eW (qe x)) κ a w'→E x C w' (.returned v)→(∀r,RA C w' v r→r.ids (XS (qe x) n0).qR (XS (qe x) n0).qq=true→RA ((δ.iJ eW (qe x)).cx g κ) w' v r)→wpListIn (Fw g.ro) 0 P ops (lift g Q) rest (a.put dst v) w')
  (XA:∀(x:α) (C:Cx) (w':World) (ch:List PanicEntry),E x C w' (.panicked ch)→Q (.panic ch) (δ.iJ eW (qe x)).hi∨Q (.panic ch) (δ.iJ eW (qe x))) (lz:∀(x:α) (C:Cx) (w':World),¬E x C w' .outgrown):
  a_ .plain P g ops (⟨dst,.call {callee:=.value y,args:=xs.toArray,argTypes:=tys},ty,pos,af,none⟩::rest) Q δ:=by
 intro κ a w r0
 have oz:=r0.ra hy np
 generalize hv:a.eval y=v at oz
 cases oz with
 | @jd _ vs us _ _ hs zN ht Jt=>
  obtain⟨ms,G9,BZ,M4⟩:=r0.dfr
  have mQ:∀i,(XS eW n0).live i→δ.live i:=fun i ⟨o,h⟩=>⟨o,pt.at i o h⟩
  let g':eY:={B:=g.B,w0:=w,N0:=fun b=>(δ.cx g κ).N b∨(∃i,(XS eW n0).live i∧(κ i=some b∨κ.F i b))∨w.heap.size≤b,held:=fun _=>undef,ro:=none,mks:=ms++g.mks,wt:=none,fr:=fun b=>b<w.heap.size∧∀i,(XS eW n0).live i→κ i≠some b∧¬κ.F i b,w1:=w}
  let κc:Kp:=⟨κ.f,fun i b=>(fc eW i).isSome=true∧κ.F i b⟩
  have WE:∀b,(δ.cx g κ).N b→((XS eW n0).cx g' κc).N b:=fun b h=>⟨⟨.inl h,fun⟨i,hi⟩=>h.1.2 ⟨i,hi.2⟩⟩,fun i hi=>h.2 i (mQ i hi)⟩
  have UT:∀i,(XS eW n0).qR i=true→((XS eW n0).cx g' κc).Lr i∧((XS eW n0).cx g' κc).κ i=(δ.cx g κ).κ i:=fun i h=>⟨pc (δ:=XS eW n0) h,rfl⟩
  have U7:∀i,(XS eW n0).qq i=true→((XS eW n0).cx g' κc).Lb i∧((XS eW n0).cx g' κc).κ i=(δ.cx g κ).κ i:=fun i h=>⟨lG (δ:=XS eW n0) h,rfl⟩
  have mS:Rel g' (XS eW n0) κc OH w:=
   {n:=rfl,dfr:=⟨[],rfl,BZ,M4⟩,env:=fun j=> .any _
    obj:=fun i o h=>oo.to (C:=δ.cx g κ) (C':=(XS eW n0).cx g' κc) rfl WE UT U7 rfl (fun b hb=>⟨by rw[show fc eW i=some o from h];rfl,hb⟩) (r0.obj i o (pt.at i o h)) (tE.at i o h)
    inj:=fun i j b h1 h2=>r0.inj i j b (mQ i h1) (mQ j h2)
    lo:=fun i b h1=>r0.lo i b (mQ i h1)
    nx:=fun i ⟨o,h⟩=>qw wG i o h
    wt:=fun k hk=>by cases hk
    below:=Below.refl _ _,hB:=r0.hB
    N0:=fun b hb hf=>by
     by_cases h1:w.heap.size≤b
     ·exact .inr (.inr h1)
     ·by_cases h2:∃i,(XS eW n0).live i∧(κ i=some b∨κ.F i b)
      ·exact .inr (.inl h2)
      ·exact absurd ⟨by omega,fun i hi=>⟨fun e=>h2 ⟨i,hi,.inl e⟩,fun e=>h2 ⟨i,hi,.inr e⟩⟩⟩ hf
    fr:=⟨fun b hb=>⟨hb.1,rfl,fun i hi=>(hb.2 i hi).1⟩,fun i b hb=>by
     obtain⟨h1,h2,h3,h4,h5⟩:=r0.fr.2 i b hb.2
     exact⟨⟨h1.1,fun k hk=>by cases hk⟩,h2,fun hf=>(hf.2 i (Option.isSome_iff_exists.1 hb.1)).2 hb.2,fun j hj=>h4 j (mQ j hj),fun j hj=>h5 j hj.2⟩⟩
    kI:=fun d hd=>by cases hd}
  have hl:=gp.len
  simp only[List.length_append,List.length_map] at hl
  have Ub:∀(j:Nat) (v:Value) (av:AV),(vs++xs.toArray.map a.eval++us)[j]? =some v→args[j]? =some av→RA ((XS eW n0).cx g' κc) w v av:=by
   intro j v av h1 h2
   have SS:j<(first++xs.map δ.ev++cap).length:=by rw[gp.len];exact(List.getElem?_eq_some_iff.1 h2).1
   have h3:=List.getElem?_eq_getElem SS
   have hle:=gp.at j _ av h3 h2
   generalize (first++xs.map δ.ev++cap)[j]=c at h3 hle
   have hc:RA (δ.cx g κ) w v c:=by
    by_cases hj:j<first.length+xs.length
    ·rw[List.getElem?_append_left (by simp;omega)] at h3
     rw[Array.getElem?_append_left (by simp;omega)] at h1
     by_cases OB:j<first.length
     ·rw[List.getElem?_append_left OB] at h3
      rw[Array.getElem?_append_left aG] at h1
      exact zN j v c h1 h3
     ·rw[List.getElem?_append_right aG] at h3
      rw[Array.getElem?_append_right aG,hs] at h1
      simp only[List.map_toArray,List.getElem?_toArray,List.getElem?_map,Option.map_eq_some_iff] at h1 h3
      obtain⟨y,h5,rfl⟩:=h1
      obtain⟨y',h4,rfl⟩:=h3
      rw[h5] at h4;cases h4
      exact r0.C5 y (iK ((List.all_eq_true.1 lK) y (List.mem_of_getElem? h5)))
    ·rw[List.getElem?_append_right (by simp;omega)] at h3
     rw[Array.getElem?_append_right (by simp;omega)] at h1
     have e1:(vs++xs.toArray.map a.eval).size=(first++xs.map δ.ev).length:=by simp;omega
     rw[e1] at h1
     exact Jt _ v c h1 h3
   cases hle with
   |any=>exact .any _
   |eq e hi=>subst e;exact RA.to (C:=δ.cx g κ) (C':=(XS eW n0).cx g' κc) rfl WE UT U7 hc hi
   |nil k=>rw[hc.lit];exact .pv (vd k)
  show wpListIn _ _ P ops _ (_::rest) a w
  refine iu rfl rfl fun K rf=>?_
  unfold Oper.AL
  rw[rI hv hf.enters,Oper.uponIn_enter]
  refine⟨fun h=>by simp at h,(kb (hf.calls g' κc w _ rfl rfl (fun w' hb=>Tb w' (r0.below.trans hb)) mS (by simp;omega) Ub)).mono ?_⟩
  rintro e w' ⟨xA,κ',hE,r1,BV⟩
  have hk:=hkA xA
  have pU:=RK xA
  have XM:=XM xA
  have XA:=XA xA
  have lz:=lz xA
  generalize Ze:qe xA=e9 at*
  obtain⟨F,hF⟩:∃F,F=AV.iO (jn eW):=⟨_,rfl⟩
  have jo:=fun i=>IP (δ:=δ) hk i
  have Cb:=oR hk
  have mX:w.heap.size≤w'.heap.size:=r1.below.size
  have D7:∀b,b<w.heap.size→(∀i,(XS eW n0).live i→κ i≠some b∧¬κ.F i b)→w'.heap[b]? =w.heap[b]?∧∀i,(XS e9 n0).live i→κ' i≠some b:=fun b h1 h2=>(r1.fr.1 b ⟨h1,h2⟩).2
  have hfF:∀b,b<w.heap.size→(∀i,(XS eW n0).live i→κ i≠some b∧¬κ.F i b)→∀i,¬κ'.F i b:=fun b h1 h2 i hi=>(r1.fr.2 i b hi).2.2.1 ⟨h1,h2⟩
  -- in and out
  have nf:∀i,(fc eW i).isSome=true→(XS eW n0).live i∧(XS e9 n0).live i∧κX eW κ κ' i=κ' i:=fun i h=>by
   refine⟨Option.isSome_iff_exists.1 h,?_,if_pos h⟩
   cases Cb i with
   |none h0 _=>rw[h0] at h;cases h
   |row _ h1=>exact⟨_,h1⟩
   |box c d _ h1 _=>exact⟨_,h1⟩
   |lit T c d _ h1 _=>exact⟨_,h1⟩
   |mp c d _ h1 _=>exact⟨_,h1⟩
   |fm _ _ c d _ h1=>exact⟨_,h1⟩
  have tj:∀i,¬(fc eW i).isSome=true→fc e9 i=.none∧κX eW κ κ' i=κ i:=fun i h=>by
   refine⟨?_,if_neg h⟩
   cases Cb i with
   |none _ h1=>exact h1
   |row h0 _=>rw[h0] at h;exact absurd rfl h
   |box c d h0 _ _=>rw[h0] at h;exact absurd rfl h
   |lit T c d h0 _ _=>rw[h0] at h;exact absurd rfl h
   |mp c d h0 _ _=>rw[h0] at h;exact absurd rfl h
   |fm _ _ c d h0 _=>rw[h0] at h;exact absurd rfl h
  have PA:∀i,(fc eW i).isSome=true→(δ.iJ eW e9).ob i=fc e9 i:=fun i h=>by
   obtain⟨_,⟨o,h1⟩,_⟩:=nf i h
   rw[jo i]
   have h1:fc e9 i=some o:=h1
   rw[h1]
  have Pg:∀i,¬(fc eW i).isSome=true→(δ.iJ eW e9).ob i=(δ.ob i).map (Ob.xq F):=fun i h=>by rw[jo i,(tj i h).1,hF]
  have RJ:∀i,(fc eW i).isSome=true→δ.live i:=fun i h=>mQ i (nf i h).1
  have nH:∀i,¬(fc eW i).isSome=true→(δ.iJ eW e9).live i→δ.live i:=fun i h ⟨o,ho⟩=>by
   rw[Pg i h] at ho
   obtain⟨o',h1,_⟩:=Option.map_eq_some_iff.1 ho
   exact⟨o',h1⟩
  have qc:∀i,¬(fc eW i).isSome=true→∀j,(XS eW n0).live j→j≠i:=fun i h j ⟨o,ho⟩ e=>by
   subst e
   have ho:fc eW j=some o:=ho
   rw[ho] at h
   exact h rfl
  have hold:∀i b,¬(fc eW i).isSome=true→δ.live i→κ i=some b→b<w.heap.size∧∀j,(XS eW n0).live j→κ j≠some b∧¬κ.F j b:=fun i b h hl hb=>
   ⟨(r0.lo i b hl hb).2,fun j hj=>⟨fun e=>qc i h j hj (r0.inj j i b (mQ j hj) hl e hb),fun e=>r0.fr.kZ hl hb ⟨j,e⟩⟩⟩
  have ZT:∀b,(δ.cx g κ).N b→∀j,(XS eW n0).live j→κ j≠some b∧¬κ.F j b:=fun b h j hj=>⟨h.2 j (mQ j hj),fun e=>h.1.2 ⟨j,e⟩⟩
  -- a pool's blocks behind the call
  have Vt:∀i b,(κX eW κ κ').F i b→((fc eW i).isSome=true∧κ'.F i b)∨(¬(fc eW i).isSome=true∧κ.F i b):=fun i b h=>by
   have h:(if (fc eW i).isSome=true then κ'.F i b else κ.F i b):=h
   by_cases hi:(fc eW i).isSome=true
   ·rw[if_pos hi] at h;exact .inl ⟨hi,h⟩
   ·rw[if_neg hi] at h;exact .inr ⟨hi,h⟩
  have Ng:∀i b,¬(fc eW i).isSome=true→κ.F i b→b<w.heap.size∧∀j,(XS eW n0).live j→κ j≠some b∧¬κ.F j b:=fun i b hi hF=>
   ⟨(r0.fr.2 i b hF).2.1,fun j hj=>⟨(r0.fr.2 i b hF).2.2.2.1 j (mQ j hj),fun e=>qc i hi j hj ((r0.fr.2 i b hF).2.2.2.2 j e)⟩⟩
  have hNN:∀b,b<w.heap.size→(δ.cx g κ).N b→((δ.iJ eW e9).cx g (κX eW κ κ')).N b:=fun b h1 h2=>by
   refine⟨⟨h2.1.1,fun⟨i,hi⟩=>?_⟩,fun i hi e=>?_⟩
   ·rcases Vt i b hi with h|h
    ·exact hfF b h1 (ZT b h2) i h.2
    ·exact h2.1.2 ⟨i,h.2⟩
   by_cases h:(fc eW i).isSome=true
   ·rw[(nf i h).2.2] at e
    exact(D7 b h1 (ZT b h2)).2 i (nf i h).2.1 e
   ·rw[(tj i h).2] at e
    exact h2.2 i (nH i h hi) e
  have KD:∀i b,(AV.ptr i 0∈ir eW∨AV.gH i∈ir eW)→κ i=some b→κX eW κ κ' i=κ i:=fun i b hp hb=>by
   by_cases h:(fc eW i).isSome=true
   ·rw[(nf i h).2.2,BV i b hp hb,hb]
   ·exact(tj i h).2
  have G:j6 ((δ.cx g κ).vF (jn eW)) w ((δ.iJ eW e9).cx g (κX eW κ κ')) w':=
   {B:=rfl,size:=mX
    N:=fun b h1 h2=>⟨hNN b h1 h2,(D7 b h1 (ZT b h2)).1⟩
    Lr:=fun i hi=>by
     have hl:δ.ob i=some .row:=hi.1
     have h:¬(fc eW i).isSome=true:=fun h=>by
      obtain⟨⟨o,ho⟩,_,_⟩:=nf i h
      have h1:=pt.at i o ho
      rw[hl] at h1
      cases h1
      have:=zD (l:=eW) ho
      rw[hi.2] at this
      cases this
     refine⟨?_,(tj i h).2,fun b hb=>?_⟩
     ·show(δ.iJ eW e9).ob i=_
      rw[Pg i h,hl];rfl
     ·obtain⟨h1,h2⟩:=hold i b h ⟨_,hl⟩ hb
      exact(D7 b h1 h2).1
    Lb:=fun i hi=>by
     obtain⟨o,h1,h2⟩:=hi
     by_cases h:(fc eW i).isSome=true
     ·have h3:=PA i h
      cases Cb i with
      |none h0 _=>rw[h0] at h;cases h
      |row h0 _=>
       have:=pt.at i _ h0
       rw[h1] at this
       cases this
       simp [Ob.ld] at h2
      |box c d h0 h4 hp=>
       obtain⟨b,_,_,h5,_⟩:=r0.obj i _ (pt.at i _ h0)
       exact⟨⟨_,h3.trans h4,rfl⟩,KD i b (.inl hp) h5⟩
      |lit T c d h0 h4 hp=>
       obtain⟨b,h5,_⟩:=r0.obj i _ (pt.at i _ h0)
       exact⟨⟨_,h3.trans h4,rfl⟩,KD i b (.inl hp) h5⟩
      |mp c d h0 h4 hp=>
       obtain⟨b,_,_,h5,_⟩:=r0.obj i _ (pt.at i _ h0)
       exact⟨⟨_,h3.trans h4,rfl⟩,KD i b (.inr hp) h5⟩
      |fm e e' c d h0 h4=>
       have h5:=(r0.obj i _ (pt.at i _ h0)).1
       have h6:=(r1.obj i _ h4).1
       exact⟨⟨_,h3.trans h4,rfl⟩,(nf i h).2.2.trans (h6.trans h5.symm)⟩
     ·refine⟨⟨_,by rw[Pg i h,h1];rfl,?_⟩,(tj i h).2⟩
      cases o<;>first|rfl|(simp [Ob.ld] at h2)}
  have HF:∀{u:Value} {av:AV},RA (δ.cx g κ) w u av→RA ((δ.iJ eW e9).cx g (κX eW κ κ')) w' u (F av):=fun h=>by rw[hF];exact h.iO G
  have hN2:∀b,((XS e9 n0).cx g' κ').N b→((δ.iJ eW e9).cx g (κX eW κ κ')).N b:=fun b h=>by
   obtain⟨h1,h2⟩:=h
   have A7:∀i,(δ.iJ eW e9).live i→κX eW κ κ' i=some b→¬(fc eW i).isSome=true∧δ.live i∧κ i=some b:=fun i hi e=>by
    by_cases h:(fc eW i).isSome=true
    ·rw[(nf i h).2.2] at e
     exact absurd e (h2 i (nf i h).2.1)
    ·rw[(tj i h).2] at e
     exact⟨h,nH i h hi,e⟩
   have WI:∀i,(κX eW κ κ').F i b→¬(fc eW i).isSome=true∧κ.F i b:=fun i hi=>by
    rcases Vt i b hi with h|h
    ·exact absurd ⟨i,h.2⟩ h1.2
    ·exact h
   rcases h1.1 with h1|⟨j,hj,D_⟩|h1
   ·exact⟨⟨h1.1.1,fun⟨i,hi⟩=>h1.1.2 ⟨i,(WI i hi).2⟩⟩,fun i hi e=>let ⟨_,h3,h4⟩:=A7 i hi e;h1.2 i h3 h4⟩
   ·have hN0:g.N0 b:=by
     rcases D_ with D_|D_
     ·exact(r0.F5 (mQ j hj) D_).1
     ·obtain⟨k1,k2,k3,_⟩:=r0.fr.2 j b D_;exact r0.N0 b k1.1 k3
    refine⟨⟨hN0,fun⟨i,hi⟩=>?_⟩,fun i hi e=>?_⟩
    ·obtain⟨h3,h4⟩:=WI i hi
     rcases D_ with D_|D_
     ·exact(Ng i b h3 h4).2 j hj|>.1 D_
     ·exact(Ng i b h3 h4).2 j hj|>.2 D_
    ·obtain⟨h3,h4,h5⟩:=A7 i hi e
     have:=(hold i b h3 h4 h5).2 j hj
     rcases D_ with D_|D_
     ·exact this.1 D_
     ·exact this.2 D_
   ·refine⟨⟨(r0.Ly h1).1,fun⟨i,hi⟩=>?_⟩,fun i hi e=>?_⟩
    ·have:=(Ng i b (WI i hi).1 (WI i hi).2).1
     omega
    ·obtain⟨_,h4,h5⟩:=A7 i hi e
     have:=(r0.lo i b h4 h5).2
     omega
  have Wo:∀i,(XS e9 n0).qR i=true→((δ.iJ eW e9).cx g (κX eW κ κ')).Lr i∧((δ.iJ eW e9).cx g (κX eW κ κ')).κ i=((XS e9 n0).cx g' κ').κ i:=fun i h=>by
   have h1:fc e9 i=some .row:=pc (δ:=XS e9 n0) h
   have h2:(fc eW i).isSome=true:=by
    cases Cb i with
    |none _ h0=>rw[h0] at h1;cases h1
    |row h0 _=>rw[h0];rfl
    |box c d h0 _ _=>rw[h0];rfl
    |lit T c d h0 _ _=>rw[h0];rfl
    |mp c d h0 _ _=>rw[h0];rfl
    |fm _ _ c d h0 _=>rw[h0];rfl
   exact⟨(PA i h2).trans h1,(nf i h2).2.2⟩
  have Uq:∀i,(XS e9 n0).qq i=true→((δ.iJ eW e9).cx g (κX eW κ κ')).Lb i∧((δ.iJ eW e9).cx g (κX eW κ κ')).κ i=((XS e9 n0).cx g' κ').κ i:=fun i h=>by
   obtain⟨o,h1,h3⟩:=lG (δ:=XS e9 n0) h
   have h1:fc e9 i=some o:=h1
   have h2:(fc eW i).isSome=true:=by
    cases Cb i with
    |none _ h0=>rw[h0] at h1;cases h1
    |row h0 _=>rw[h0];rfl
    |box c d h0 _ _=>rw[h0];rfl
    |lit T c d h0 _ _=>rw[h0];rfl
    |mp c d h0 _ _=>rw[h0];rfl
    |fm _ _ c d h0 _=>rw[h0];rfl
   exact⟨⟨o,(PA i h2).trans h1,h3⟩,(nf i h2).2.2⟩
  have hR:Rel g (δ.iJ eW e9) (κX eW κ κ') a w':=
   {n:=r0.n
    dfr:=by
     obtain⟨rs,_,_,k3⟩:=r1.dfr
     exact⟨ms,G9,BZ,fun k hk=>k3 k (List.mem_append.2 (.inr hk))⟩
    env:=fun j=>by
     have:(δ.iJ eW e9).get j=F (δ.get j):=by rw[hF];exact qT _ (Ij _) δ j
     rw[this];exact HF (r0.env j)
    obj:=fun i o h=>by
     by_cases hi:(fc eW i).isSome=true
     ·rw[PA i hi] at h
      exact oo.to (C:=(XS e9 n0).cx g' κ') (C':=(δ.iJ eW e9).cx g (κX eW κ κ')) rfl hN2 Wo Uq (nf i hi).2.2 (fun b hb=>(by show(if (fc eW i).isSome=true then κ'.F i b else κ.F i b);rw[if_pos hi];exact hb)) (r1.obj i o h) (pU.at i o h)
     ·rw[Pg i hi] at h
      obtain⟨o',gi,rfl⟩:=Option.map_eq_some_iff.1 h
      have h0:=r0.obj i o' gi
      have CX:=(tj i hi).2
      have yV:∀b,κ i=some b→w'.heap[b]? =w.heap[b]?:=fun b hb=>let ⟨h1,h2⟩:=hold i b hi ⟨_,gi⟩ hb;(D7 b h1 h2).1
      cases o' with
      |row=>
       intro b hb
       have js:κ i=some b:=by rw[← CX];exact hb
       obtain⟨c,e,h1⟩:=h0 b js
       exact⟨c,e,(yV b js).trans h1⟩
      |lit T vals=>obtain⟨b,h1,h2⟩:=h0;exact⟨b,CX.trans h1,(yV b h1).trans h2⟩
      |fm e rows=>exact⟨CX.trans h0.1,fun k=>(h0.2.1 k).kY rfl fun b _ h2 _=>⟨(by show(if (fc eW i).isSome=true then κ'.F i b else κ.F i b);rw[if_neg hi];exact h2),(D7 b (Ng i b hi h2).1 (Ng i b hi h2).2).1⟩,h0.2.2⟩
      |box cs=>
       obtain⟨b,c,e,h1,h2,h3,h4⟩:=h0
       refine⟨b,c,e,CX.trans h1,(yV b h1).trans h2,by simpa using h3,fun k u av h5 h6=>?_⟩
       simp only[List.getElem?_map,Option.map_eq_some_iff] at h6
       obtain⟨av',h6,rfl⟩:=h6
       exact⟨HF (h4 k u av' h5 h6).1,(h4 k u av' h5 h6).2⟩
      |mp l=>
       obtain⟨b,es,clock,h1,h2,h3,h4⟩:=h0
       exact⟨b,es,clock,CX.trans h1,(yV b h1).trans h2,⟨h3.1,fun k e p h5 h6=>⟨(h3.2 k e p h5 h6).1,G.ra ((h3.2 k e p h5 h6).2.vF (h4.2 p (List.mem_of_getElem? h6)))⟩⟩,h4⟩
      |mpl l kk v=>
       obtain⟨b,es,clock,h1,h2,h3,h4⟩:=h0
       exact⟨b,es,clock,CX.trans h1,(yV b h1).trans h2,h3.last (fun u p hp h=>G.ra (h.vF (h4.2 p hp))) (fun u h=>HF h),h4⟩
      |it l seen=>
       obtain⟨b,h1,h2⟩:=h0
       exact⟨b,CX.trans h1,h2.mono G.size G.N (yV b h1)⟩
      |loop l tm ps iQ body st=>
       obtain⟨b,lr,h1,h2,h3⟩:=h0
       exact⟨b,lr,CX.trans h1,(yV b h1).trans h2,h3⟩
    inj:=fun i j b h1 h2 h3 h4=>by
     by_cases hi:(fc eW i).isSome=true
     ·rw[(nf i hi).2.2] at h3
      by_cases hj:(fc eW j).isSome=true
      ·rw[(nf j hj).2.2] at h4
       exact r1.inj i j b (nf i hi).2.1 (nf j hj).2.1 h3 h4
      ·rw[(tj j hj).2] at h4
       obtain⟨k1,k2⟩:=hold j b hj (nH j hj h2) h4
       exact absurd h3 ((D7 b k1 k2).2 i (nf i hi).2.1)
     ·rw[(tj i hi).2] at h3
      by_cases hj:(fc eW j).isSome=true
      ·rw[(nf j hj).2.2] at h4
       obtain⟨k1,k2⟩:=hold i b hi (nH i hi h1) h3
       exact absurd h4 ((D7 b k1 k2).2 j (nf j hj).2.1)
      ·rw[(tj j hj).2] at h4
       exact r0.inj i j b (nH i hi h1) (nH j hj h2) h3 h4
    lo:=fun i b h1 h2=>by
     by_cases hi:(fc eW i).isSome=true
     ·rw[(nf i hi).2.2] at h2
      exact r1.lo i b (nf i hi).2.1 h2
     ·rw[(tj i hi).2] at h2
      have:=r0.lo i b (nH i hi h1) h2
      exact⟨this.1,Nat.lt_of_lt_of_le this.2 mX⟩
    nx:=fun i h=>by
     by_cases hi:(fc eW i).isSome=true
     ·exact r0.nx i (RJ i hi)
     ·exact r0.nx i (nH i hi h)
    wt:=fun k hk=>by rw[jz] at hk;cases hk
    below:=r0.below.trans r1.below
    hB:=r1.hB
    N0:=r0.N0
    fr:=by
     refine⟨fun b hb=>?_,fun i b hb=>?_⟩
     ·obtain⟨h1,h2,h3⟩:=r0.fr.1 b hb
      have ft:=r0.fr.NZ hb
      have h4:=D7 b ft fun i hi=>⟨h3 i (mQ i hi),fun e=>(r0.fr.2 i b e).2.2.1 hb⟩
      refine⟨h1,h4.1.trans h2,fun i hi e=>?_⟩
      by_cases Kn:(fc eW i).isSome=true
      ·rw[(nf i Kn).2.2] at e
       exact h4.2 i (nf i Kn).2.1 e
      ·rw[(tj i Kn).2] at e
       exact h3 i (nH i Kn hi) e
     ·rcases Vt i b hb with ⟨hi,hF⟩|⟨hi,hF⟩
      ·obtain⟨k1,k2,k3,k4,k5⟩:=r1.fr.2 i b hF
       refine⟨⟨k1.1,fun k hk=>by rw[jz] at hk;cases hk⟩,k2,fun hf=>?_,fun j hj e=>?_,fun j hj=>?_⟩
       ·exact k3 ⟨r0.fr.NZ hf,fun j hj=>⟨(r0.fr.1 b hf).2.2 j (mQ j hj),fun e=>(r0.fr.2 j b e).2.2.1 hf⟩⟩
       ·by_cases Jz:(fc eW j).isSome=true
        ·rw[(nf j Jz).2.2] at e
         exact k4 j (nf j Jz).2.1 e
        ·rw[(tj j Jz).2] at e
         exact k3 (hold j b Jz (nH j Jz hj) e)
       ·rcases Vt j b hj with ⟨_,hj⟩|⟨Jz,hj⟩
        ·exact k5 j hj
        ·exact absurd (Ng j b Jz hj) k3
      ·obtain⟨k1,k2,k3,k4,k5⟩:=r0.fr.2 i b hF
       refine⟨k1,Nat.lt_of_lt_of_le k2 mX,k3,fun j hj e=>?_,fun j hj=>?_⟩
       ·by_cases Jz:(fc eW j).isSome=true
        ·rw[(nf j Jz).2.2] at e
         exact(D7 b (Ng i b hi hF).1 (Ng i b hi hF).2).2 j (nf j Jz).2.1 e
        ·rw[(tj j Jz).2] at e
         exact k4 j (nH j Jz hj) e
       ·rcases Vt j b hj with ⟨_,hj⟩|⟨_,hj⟩
        ·exact absurd hj (hfF b (Ng i b hi hF).1 (Ng i b hi hF).2 j)
        ·exact k5 j hj
    kI:=r0.kI}
  cases e with
  |returned v=>exact rf _ _ (XM _ _ _ _ v hR hE fun r SB hr=>RA.to (C:=(XS e9 n0).cx g' κ') (C':=(δ.iJ eW e9).cx g (κX eW κ κ')) rfl hN2 Wo Uq SB hr)
  |panicked ch=>
           rcases XA _ _ ch hE with h|h;·exact NR h hR
           ·exact⟨_,_,h,hR⟩
  |outgrown=>exact absurd hE (lz _ _)
theorem a_.Qw {T:World→Prop} {y:Operand} {f:FuncId} {xs:List Operand} {tys:Array TypeId} {first cap args:List AV} {r:AV} {n0:Nat} {eW e9:List (Nat×Option Ob)} (jz:g.wt=none) (Tb:TB T g) (hf:Nj T P f n0 eW args e9 r) (hy:δ.ev y=.jd (.func f) first cap) (np:fk y=true) (lK:xs.all fk=true)
  (pt:Cq δ eW) (gp:wa (XS eW n0).qR (XS eW n0).qq (first++xs.map δ.ev++cap) args) (hk:j8 eW e9=true) (wG:wA n0 eW=true) (tE:mU (XS eW n0).qR (XS eW n0).qq eW)
  (pU:mU (XS e9 n0).qR (XS e9 n0).qq e9) (hr:r.ids (XS e9 n0).qR (XS e9 n0).qq=true) (hd:gb δ.n dst=true)
  (hK:a_ .plain P g ops rest Q ((δ.iJ eW e9).eZ dst r)):
  a_ .plain P g ops (⟨dst,.call {callee:=.value y,args:=xs.toArray,argTypes:=tys},ty,pos,af,none⟩::rest) Q δ:=
 xm jz Tb hf hy np lK pt gp (fun _=>hk) wG tE (fun _=>pU) (fun _ κ a w' C v hR hE oz=>by
  obtain⟨u,he,hu⟩:=hE
  cases he
  exact hK _ _ _ (hR.eZ (fE hd) (oz r hu hr))) (fun _ C w' ch hE=>by obtain⟨u,he,_⟩:=hE;cases he) (fun _ C w' hE=>by obtain⟨u,he,_⟩:=hE;cases he)
theorem a_.VO {y:Operand} {f:FuncId} {xs:List Operand} {tys:Array TypeId} {first cap args:List AV} {r:AV} {n0:Nat} {eW e9:List (Nat×Option Ob)} (jz:g.wt=none) (hf:vW P f n0 eW args e9 r) (hy:δ.ev y=.jd (.func f) first cap) (np:fk y=true) (lK:xs.all fk=true)
  (pt:Cq δ eW) (gp:wa (XS eW n0).qR (XS eW n0).qq (first++xs.map δ.ev++cap) args) (hk:j8 eW e9=true) (wG:wA n0 eW=true) (tE:mU (XS eW n0).qR (XS eW n0).qq eW)
  (pU:mU (XS e9 n0).qR (XS e9 n0).qq e9) (hr:r.ids (XS e9 n0).qR (XS e9 n0).qq=true) (hd:gb δ.n dst=true)
  (hK:a_ .plain P g ops rest Q ((δ.iJ eW e9).eZ dst r)):
  a_ .plain P g ops (⟨dst,.call {callee:=.value y,args:=xs.toArray,argTypes:=tys},ty,pos,af,none⟩::rest) Q δ:=a_.Qw jz (fun _ _=>trivial) hf hy np lK pt gp hk wG tE pU hr hd hK
end Go.Ab
namespace Go.Ab
open Go Go.RowKit
variable {P:Program} {g:eY} {δ:DS}
theorem jf {rs:List ResultVar} {eW e9:List (Nat×Option Ob)} {r v:AV} (h:fZ P δ rs v) (hw:Jm δ (XF δ eW e9) [v,δ.get 1000] [r,.agg (ir eW)]) (ho:th δ (XF δ eW e9) e9) (hx:wA δ.nx e9=true):n_ P rs eW e9 r .ret δ:=⟨v,h,hw.1,hw.2.1,ho,hx⟩
namespace Nf
variable {n x i:Nat} {e:List (Nat×AV)} {o l0 l1 l:List (Nat×Option Ob)} {rs:List Nat}
def Tj (rs:List Nat):List (Nat×AV)→List (Nat×AV)
 |[]=>[]
 |(i,v)::r=>(i,v.iO rs)::Tj rs r
def xC (rs:List Nat):List (Nat×Option Ob)→List (Nat×Option Ob)
 |[]=>[]
 |(i,o)::r=>(i,o.map (Ob.xq (AV.iO rs)))::xC rs r
def MB (rs:List Nat):List AV→List AV
 |[]=>[]
 |v::r=>v.iO rs::MB rs r
theorem Lu:∀e:List (Nat×AV),e.map (fun p=>(p.1,p.2.iO rs))=Tj rs e
 |[]=>rfl
 |(i,v)::r=>by rw[List.map_cons,Lu r];rfl
theorem MS:∀o:List (Nat×Option Ob),o.map (fun p=>(p.1,p.2.map (Ob.xq (AV.iO rs))))=xC rs o
 |[]=>rfl
 |(i,v)::r=>by rw[List.map_cons,MS r];rfl
theorem wS:∀l:List AV,AV.IK (qX rs) l=MB rs l
 |[]=>rfl
 |v::r=>by rw[AV.IK,wS r];rfl
theorem OL (l:List AV):l.map (AV.iO rs)=MB rs l:=by
 induction l with
 |nil=>rfl
 |cons v r ih=>rw[List.map_cons,ih];rfl
theorem af:DS.iJ ⟨n,e,o,x⟩ l0 l1=⟨n,Tj (jn l0) e,l1++xC (jn l0) o,x⟩:=by
 show(⟨n,e.map (fun p=>(p.1,p.2.iO (jn l0))),l1++o.map (fun p=>(p.1,p.2.map (Ob.xq (AV.iO (jn l0))))),x⟩:DS)=_
 rw[Lu,MS]
theorem ZU:Tj rs []=[]:=rfl
theorem Xi (i:Nat) (v:AV) (r:List (Nat×AV)):Tj rs ((i,v)::r)=(i,v.iO rs)::Tj rs r:=rfl
theorem XO:xC rs []=[]:=rfl
theorem ZQ (i:Nat) (r:List (Nat×Option Ob)):xC rs ((i,none)::r)=(i,none)::xC rs r:=rfl
theorem xor (i:Nat) (r:List (Nat×Option Ob)):xC rs ((i,some .row)::r)=(i,some .row)::xC rs r:=rfl
theorem Xj (i:Nat) (cs:List AV) (r:List (Nat×Option Ob)):xC rs ((i,some (.box cs))::r)=(i,some (.box (MB rs cs)))::xC rs r:=by
 show(i,some (Ob.box (cs.map (AV.iO rs))))::xC rs r=_
 rw[OL]
theorem Z7 (i:Nat) (T:TypeId) (vs:Array Value) (r:List (Nat×Option Ob)):xC rs ((i,some (.lit T vs))::r)=(i,some (.lit T vs))::xC rs r:=rfl
theorem ZJ (i:Nat) (l:List (Value×AV)) (r:List (Nat×Option Ob)):xC rs ((i,some (.mp l))::r)=(i,some (.mp l))::xC rs r:=rfl
theorem ZG (i:Nat) (l:List (Value×PV)) (s:List Nat) (r:List (Nat×Option Ob)):xC rs ((i,some (.it l s))::r)=(i,some (.it l s))::xC rs r:=rfl
theorem Y8 (i:Nat) (l:List (Value×AV)) (k:Value) (v:AV) (r:List (Nat×Option Ob)):xC rs ((i,some (.mpl l k v))::r)=(i,some (.mpl l k (v.iO rs)))::xC rs r:=rfl
theorem xoP (i:Nat) (e:PT) (p:Nat→Value×List Value) (r:List (Nat×Option Ob)):xC rs ((i,some (.fm e p))::r)=(i,some (.fm e p))::xC rs r:=rfl
theorem Xh (i m:Nat) (tm:Array Value) (ps:Array Tmp) (a b:Code) (st:u9) (r:List (Nat×Option Ob)):xC rs ((i,some (.loop m tm ps a b st))::r)=(i,some (.loop m tm ps a b st))::xC rs r:=rfl
theorem ZP:MB rs []=[]:=rfl
theorem YY (v:AV) (r:List AV):MB rs (v::r)=v.iO rs::MB rs r:=rfl
theorem EX:AV.iO rs .any=.any:=rfl
theorem KC (p:PV):AV.iO rs (.pv p)=.pv p:=rfl
theorem E5 (j k:Nat):AV.iO rs (.ptr j k)=.ptr j k:=rfl
theorem BC (c:List PV):AV.iO rs (.gy c)=.gy c:=rfl
theorem Bd (j:Nat):AV.iO rs (.gH j)=.gH j:=rfl
theorem Ep (j:Nat):AV.iO rs (.kS j)=.kS j:=rfl
theorem E1 (j:Nat) (t:TypeId) (k:Nat) (e7:List (List PV)):AV.iO rs (.own j t k e7)=bif mM j rs then .any else .own j t k e7:=rfl
theorem A_ (j:Nat) (t:TypeId) (k:Nat) (e7:List (List PV)) (m:Nat):AV.iO rs (.gY j t k e7 m)=bif mM j rs then .any else .gY j t k e7 m:=rfl
theorem D9 (cs:List AV):AV.iO rs (.agg cs)=.agg (MB rs cs):=by show AV.agg (AV.IK (qX rs) cs)=_;rw[wS]
theorem FR (cs:List AV):AV.iO rs (.iR cs)=.iR (MB rs cs):=by show AV.iR (AV.IK (qX rs) cs)=_;rw[wS]
theorem FI (fn:Go.Fn) (cs ds:List AV):AV.iO rs (.jd fn cs ds)=.jd fn (MB rs cs) (MB rs ds):=by show AV.jd fn (AV.IK (qX rs) cs) (AV.IK (qX rs) ds)=_;rw[wS,wS]
theorem UW:jn []=[]:=rfl
theorem XI (i:Nat) (r:List (Nat×Option Ob)):jn ((i,some .row)::r)=i::jn r:=rfl
theorem YJ (i:Nat) (c:List AV) (r:List (Nat×Option Ob)):jn ((i,some (.box c))::r)=jn r:=rfl
theorem rwt (i:Nat) (T:TypeId) (vs:Array Value) (r:List (Nat×Option Ob)):jn ((i,some (.lit T vs))::r)=jn r:=rfl
theorem rwP (i:Nat) (e:PT) (p:Nat→Value×List Value) (r:List (Nat×Option Ob)):jn ((i,some (.fm e p))::r)=jn r:=rfl
theorem Zv (i:Nat) (c:List (Value×AV)) (r:List (Nat×Option Ob)):jn ((i,some (.mp c))::r)=jn r:=rfl
theorem pi0:ir []=[]:=rfl
theorem pir (i:Nat) (r:List (Nat×Option Ob)):ir ((i,some .row)::r)=ir r:=rfl
theorem pib (i:Nat) (c:List AV) (r:List (Nat×Option Ob)):ir ((i,some (.box c))::r)=.ptr i 0::ir r:=rfl
theorem pit (i:Nat) (T:TypeId) (vs:Array Value) (r:List (Nat×Option Ob)):ir ((i,some (.lit T vs))::r)=.ptr i 0::ir r:=rfl
theorem piP (i:Nat) (e:PT) (p:Nat→Value×List Value) (r:List (Nat×Option Ob)):ir ((i,some (.fm e p))::r)=ir r:=rfl
theorem pim (i:Nat) (c:List (Value×AV)) (r:List (Nat×Option Ob)):ir ((i,some (.mp c))::r)=.gH i::ir r:=rfl
theorem cn {α:Type} (a:α) (r s:List α):(a::r)++s=a::(r++s):=rfl
theorem nn {α:Type} (s:List α):[]++s=s:=rfl
end Nf
end Go.Ab
/- Short names of the rules that a walk takes most often;what is plain is filled in. -/
namespace Go.Ab
open Go Go.RowKit
variable {P:Program} {g:eY} {δ:DS} {q:Md} {ops:Array Oper} {rest:List Oper} {Q:Exit→DS→Prop} {dst:Option Nat} {ty:TypeId} {pos:String} {af:Array Edge}
theorem nz {A:DS→Prop} {δ δ':DS} (h:A δ') (e:δ=δ':=by conv=>lhs;simp only[Nf.all,Nat.reduceBEq,Nat.reduceAdd,Nat.reduceSub]):A δ:=e▸h
theorem zm {x:Operand} {p:PV} (hK:a_ q P g ops rest Q (δ.eZ dst (.pv p))) (hx:δ.ev x=.pv p:=by exact rfl) (ho:fk x=true:=by exact rfl) (hd:gb δ.n dst=true:=by exact rfl):a_ q P g ops (⟨dst,.move x,ty,pos,af,none⟩::rest) Q δ:=a_.Ba hx ho hd hK
theorem za {x:Operand} {p:PV} (hK:a_ q P g ops rest Q (δ.eZ dst (.pv p))) (hx:δ.ev x=.pv p:=by exact rfl) (ho:fk x=true:=by exact rfl) (hd:gb δ.n dst=true:=by exact rfl):a_ q P g ops (⟨dst,.assign x,ty,pos,af,none⟩::rest) Q δ:=a_.Ji hx ho hd hK
theorem zl {op:Op} {gj d:Nat} {want b:Bool} {o':Oper} (hy:a_ q P g ops (⟨dst,op,ty,pos,af,none⟩::rest) Q δ) (ho:ops[gj]? =some o':=by exact rfl) (hd:o'.dst=some d:=by exact rfl) (yt:Nat.blt d HS=true:=by exact rfl) (yU:Nat.blt d δ.n=true:=by exact rfl) (hb:δ.get d=fe b:=by exact rfl) (AB:b=want:=by exact rfl) (xK:gb δ.n dst=true:=by exact rfl):
  a_ q P g ops (⟨dst,op,ty,pos,af,some (gj,want)⟩::rest) Q δ:=a_.Dj ho hd yt yU hb AB xK hy
theorem zy {op:Op} {gj d:Nat} {o':Oper} {p:Prop} {_:Decidable p} (hy:a_ q P g ops (⟨dst,op,ty,pos,af,none⟩::rest) Q δ) (ho:ops[gj]? =some o':=by exact rfl) (hd:o'.dst=some d:=by exact rfl) (yt:Nat.blt d HS=true:=by exact rfl) (yU:Nat.blt d δ.n=true:=by exact rfl) (hb:δ.get d=fe (decide p):=by exact rfl) (xK:gb δ.n dst=true:=by exact rfl) (hp:¬p:=by first|(with_reducible assumption)|omega|decide):
  a_ q P g ops (⟨dst,op,ty,pos,af,some (gj,false)⟩::rest) Q δ:=a_.Pk ho hd hb yt yU xK hp hy
theorem zt {op:Op} {gj d:Nat} {o':Oper} {p:Prop} {_:Decidable p} (hy:a_ q P g ops (⟨dst,op,ty,pos,af,none⟩::rest) Q δ) (ho:ops[gj]? =some o':=by exact rfl) (hd:o'.dst=some d:=by exact rfl) (yt:Nat.blt d HS=true:=by exact rfl) (yU:Nat.blt d δ.n=true:=by exact rfl) (hb:δ.get d=fe (decide p):=by exact rfl) (xK:gb δ.n dst=true:=by exact rfl) (hp:p:=by first|(with_reducible assumption)|omega|decide):
  a_ q P g ops (⟨dst,op,ty,pos,af,some (gj,true)⟩::rest) Q δ:=a_.OO ho hd hb yt yU xK hp hy
theorem zb {x:Operand} {t:TypeId} {i off:Nat} {cells:List AV} {v:AV} (hK:a_ q P g ops rest Q (δ.eZ dst v)) (hx:δ.ev x=.ptr i off:=by exact rfl) (hb:δ.ob i=some (.box cells):=by exact rfl) (hv:cells[off]? =some v:=by exact rfl) (ht:iS P t=true:=by exact rfl) (ho:fk x=true:=by exact rfl) (hd:gb δ.n dst=true:=by exact rfl):
  a_ q P g ops (⟨dst,.load t x,ty,pos,af,none⟩::rest) Q δ:=a_.Pj hx hb hv ht ho hd hK
theorem zn {α:Type} {x:Operand} {t e:TypeId} {k:Nat} {f:α→List PV} {l:List α} (hK:a_ q P g ops rest Q (δ.eZ dst (eU (l.length:Nat)))) (hx:δ.ev x=.pv (.slice k (l.map f)):=by exact rfl) (ht:P.underlying t=some (.slice e):=by exact rfl) (ho:fk x=true:=by exact rfl) (hd:gb δ.n dst=true:=by exact rfl):
  a_ q P g ops (⟨dst,.call {callee:=.builtin .len,args:= #[x],argTypes:= #[t]},ty,pos,af,none⟩::rest) Q δ:=a_.ub hx ht ho hd hK
theorem zs {x y:Operand} {t t':TypeId} {m n:Int} (hK:a_ q P g ops rest Q (δ.eZ dst (fe (decide (m<n))))) (hx:δ.ev x=eU m:=by exact rfl) (hy:δ.ev y=eU n:=by exact rfl) (ho:fk x=true:=by exact rfl) (gi:fk y=true:=by exact rfl) (hd:gb δ.n dst=true:=by exact rfl):
  a_ q P g ops (⟨dst,.binOp .lss t x y t',ty,pos,af,none⟩::rest) Q δ:=a_.lss hx hy ho gi hd hK
set_option linter.defProp false in
abbrev zd:= @a_.XQ
set_option linter.defProp false in
abbrev zq:= @AW.YU
set_option linter.defProp false in
abbrev zo:= @AW.seq
theorem zc {c:Operand} {x y:Code} {p:Prop} {_:Decidable p} (h1:AW P g x Q δ) (ho:fk c=true:=by exact rfl) (hc:δ.ev c=fe (decide p):=by exact rfl) (hp:p:=by first|(with_reducible assumption)|omega|decide):AW P g (.cond c x y) Q δ:=AW.Wl ho hc hp h1
theorem zk {c:Operand} {x y:Code} {p:Prop} {_:Decidable p} (h1:AW P g y Q δ) (ho:fk c=true:=by exact rfl) (hc:δ.ev c=fe (decide p):=by exact rfl) (hp:¬p:=by first|(with_reducible assumption)|omega|decide):AW P g (.cond c x y) Q δ:=AW.U3 ho hc hp h1
theorem zr {x:Operand} {t:TypeId} {p:PV} (hK:a_ q P g ops rest Q (δ.eZ dst (.pv p))) (hx:δ.ev x=.gy [p]:=by exact rfl) (ht:iS P t=true:=by exact rfl) (ho:fk x=true:=by exact rfl) (hd:gb δ.n dst=true:=by exact rfl):a_ q P g ops (⟨dst,.load t x,ty,pos,af,none⟩::rest) Q δ:=a_.Om hx ht ho hd hK
theorem zA {f:FuncId} {xs:List Operand} {tys:Array TypeId} {args:List AV} {r:AV} (hf:Fn P f args r) (hK:a_ q P g ops rest Q (δ.eZ dst r)) (gp:rV true δ xs args:=by repeat (first|exact .nil|(refine .cons rfl ?_ ?_;(first|exact .pv _|exact .own _ _ _ _ rfl|exact .nil _|exact .any _|exact .gy _|(refine .ia ?_;repeat (first|exact .nil|(refine .cons ?_ ?_;(first|exact .pv _|exact .own _ _ _ _ rfl|exact .nil _)))))))) (oY:r.wz=true:=by exact rfl) (hd:gb δ.n dst=true:=by exact rfl) (hq:q≠ .held:=by exact(fun h_=>by cases h_)):
  a_ q P g ops (⟨dst,.call {callee:=.value (.func f),args:=xs.toArray,argTypes:=tys},ty,pos,af,none⟩::rest) Q δ:=a_.call hf gp oY hd hq hK
theorem zP {f:FuncId} {xs:List Operand} {tys:Array TypeId} {args:List AV} {r:AV} (hf:Fn P f args r) (hK:a_ .plain P g ops rest Q (δ.eZ dst r)) (gp:rV false δ xs args:=by repeat (first|exact .nil|(refine .cons rfl ?_ ?_;(first|exact .pv _|exact .own _ _ _ _ rfl|exact .nil _|exact .any _|exact .gy _|(refine .ia ?_;repeat (first|exact .nil|(refine .cons ?_ ?_;(first|exact .pv _|exact .own _ _ _ _ rfl|exact .nil _)))))))) (hd:gb δ.n dst=true:=by exact rfl):
  a_ .plain P g ops (⟨dst,.call {callee:=.value (.func f),args:=xs.toArray,argTypes:=tys},ty,pos,af,none⟩::rest) Q δ:=a_.F1 hf gp hd hK
theorem zC {y:Operand} {f:FuncId} {xs:List Operand} {tys:Array TypeId} {first cap args:List AV} {r:AV} (hf:Fn P f args r) (hK:a_ q P g ops rest Q (δ.eZ dst r)) (hy:δ.ev y=.jd (.func f) first cap:=by exact rfl) (np:fk y=true:=by exact rfl) (lK:xs.all fk=true:=by exact rfl) (gp:xR δ (first++xs.map δ.ev++cap) args:=by repeat (first|exact .nil|(refine .cons ?_ ?_;(first|exact .le (.pv _)|exact .box rfl rfl|exact .le (.own _ _ _ _ rfl)|exact .le (.nil _)|exact .le (.any _)|exact .le (.gy _)|(refine .le (.ia ?_);repeat (first|exact .nil|(refine .cons ?_ ?_;(first|exact .pv _|exact .own _ _ _ _ rfl|exact .nil _)))))))) (oY:r.wz=true:=by exact rfl) (hd:gb δ.n dst=true:=by exact rfl) (hq:q≠ .held:=by exact(fun h_=>by cases h_)):
  a_ q P g ops (⟨dst,.call {callee:=.value y,args:=xs.toArray,argTypes:=tys},ty,pos,af,none⟩::rest) Q δ:=a_.QG hf hy np lK gp oY hd hq hK
theorem zX {y:Operand} {f:FuncId} {xs:List Operand} {tys:Array TypeId} {first cap args:List AV} {r:AV} {n0:Nat} {eW e9:List (Nat×Option Ob)} (hf:vW P f n0 eW args e9 r) (hK:a_ .plain P g ops rest Q ((δ.iJ eW e9).eZ dst r)) (jz:g.wt=none:=by with_reducible assumption) (hy:δ.ev y=.jd (.func f) first cap:=by exact rfl) (np:fk y=true:=by exact rfl) (lK:xs.all fk=true:=by exact rfl)
  (pt:Cq δ eW:=by repeat (first|exact trivial|refine⟨rfl,?_⟩)) (gp:wa (XS eW n0).qR (XS eW n0).qq (first++xs.map δ.ev++cap) args:=by repeat (first|exact .nil|(refine .cons ?_ ?_;(first|exact .eq rfl rfl|exact .nil _|exact .any _)))) (hk:j8 eW e9=true:=by exact rfl) (wG:wA n0 eW=true:=by exact rfl) (tE:mU (XS eW n0).qR (XS eW n0).qq eW:=by repeat (first|exact trivial|refine⟨rfl,?_⟩|refine⟨uS,?_⟩))
  (pU:mU (XS e9 n0).qR (XS e9 n0).qq e9:=by repeat (first|exact trivial|refine⟨rfl,?_⟩|refine⟨uS,?_⟩)) (hr:r.ids (XS e9 n0).qR (XS e9 n0).qq=true:=by exact rfl) (hd:gb δ.n dst=true:=by exact rfl):
  a_ .plain P g ops (⟨dst,.call {callee:=.value y,args:=xs.toArray,argTypes:=tys},ty,pos,af,none⟩::rest) Q δ:=a_.VO jz hf hy np lK pt gp hk wG tE pU hr hd hK
theorem nx {A:DS→Prop} {δ δ':DS} (h:A δ') (e:δ=δ':=by conv=>lhs;simp only[Nf.af,Nf.ZU,Nf.Xi,Nf.XO,Nf.ZQ,Nf.xor,Nf.Xj,Nf.ZJ,Nf.ZG,Nf.Y8,Nf.Xh,Nf.ZP,Nf.YY,Nf.EX,Nf.KC,Nf.E5,Nf.BC,Nf.Bd,Nf.Ep,Nf.E1,Nf.A_,Nf.D9,Nf.FR,Nf.FI,Nf.UW,Nf.XI,Nf.YJ,Nf.Zv,Nf.cn,Nf.nn,DX,w7,Nat.reduceBEq,cond_true,cond_false]):A δ:=e▸h
theorem zB {x y:Operand} {t:TypeId} {i:Nat} {cells cs:List AV} (hK:a_ .plain P g ops rest Q ((δ.gl i (some (.box cs))).eZ dst .any)) (hx:δ.ev x=.ptr i 0:=by exact rfl) (hy:δ.ev y=.agg cs:=by exact rfl) (hb:δ.ob i=some (.box cells):=by exact rfl) (hlen:cells.length=cs.length:=by exact rfl) (ht:(P.info? t).map (·.size)=some cs.length:=by exact rfl) (h1:AV.mE cs=true:=by exact rfl) (ho:fk x=true:=by exact rfl) (gi:fk y=true:=by exact rfl) (hd:gb δ.n dst=true:=by exact rfl) (jz:g.wt=none:=by with_reducible assumption):
  a_ .plain P g ops (⟨dst,.store t x y,ty,pos,af,none⟩::rest) Q δ:=a_.xr hx hy hb hlen ht h1 ho gi hd jz hK
theorem zL {x:Operand} {t:TypeId} {i:Nat} {cells:List AV} (hK:a_ q P g ops rest Q (δ.eZ dst (.agg cells))) (hx:δ.ev x=.ptr i 0:=by exact rfl) (hb:δ.ob i=some (.box cells):=by exact rfl) (ht:yT P t cells.length=true:=by exact rfl) (ho:fk x=true:=by exact rfl) (hd:gb δ.n dst=true:=by exact rfl):
  a_ q P g ops (⟨dst,.load t x,ty,pos,af,none⟩::rest) Q δ:=a_.HJ hx hb ht ho hd hK
theorem zj {x y:Operand} {t t':TypeId} {m n:Int} (hK:a_ q P g ops rest Q (δ.eZ dst (eU (m+n)))) (hx:δ.ev x=eU m:=by exact rfl) (hy:δ.ev y=eU n:=by exact rfl) (ho:fk x=true:=by exact rfl) (gi:fk y=true:=by exact rfl) (hd:gb δ.n dst=true:=by exact rfl) (hb: -9223372036854775808≤m+n∧m+n≤9223372036854775807:=by omega):
  a_ q P g ops (⟨dst,.binOp .add t x y t',ty,pos,af,none⟩::rest) Q δ:=a_.add hx hy ho gi hd hb hK
theorem zF {x y z:Operand} {p:Prop} {_:Decidable p} {v:PV} (hK:a_ q P g ops rest Q (δ.eZ dst (.pv v))) (hx:δ.ev x=fe (decide p):=by exact rfl) (hz:δ.ev z=.pv v:=by exact rfl) (hp:¬p:=by first|(with_reducible assumption)|omega|decide) (ho:fk x=true:=by exact rfl) (np:fk y=true:=by exact rfl) (s8:fk z=true:=by exact rfl) (hd:gb δ.n dst=true:=by exact rfl):
  a_ q P g ops (⟨dst,.pick x y z,ty,pos,af,none⟩::rest) Q δ:=a_.Ku hx hz hp ho np s8 hd hK
theorem zT {x y z:Operand} {p:Prop} {_:Decidable p} {v:PV} (hK:a_ q P g ops rest Q (δ.eZ dst (.pv v))) (hx:δ.ev x=fe (decide p):=by exact rfl) (hy:δ.ev y=.pv v:=by exact rfl) (hp:p:=by first|(with_reducible assumption)|omega|decide) (ho:fk x=true:=by exact rfl) (np:fk y=true:=by exact rfl) (s8:fk z=true:=by exact rfl) (hd:gb δ.n dst=true:=by exact rfl):
  a_ q P g ops (⟨dst,.pick x y z,ty,pos,af,none⟩::rest) Q δ:=a_.JX hx hy hp ho np s8 hd hK
end Go.Ab
/- A callee that takes one value out of a row of one-cell values in place:Go's slices.Delete. -/
namespace Go.Ab
open Go Go.RowKit
variable {P:Program} {g:eY} {δ:DS} {κ:Kp} {a:Act} {w:World}
variable {ops:Array Oper} {rest:List Oper} {Q:Exit→DS→Prop} {dst:Option Nat} {ty:TypeId} {pos:String} {af:Array Edge} {gd:Option (Tmp×Bool)}
end Go.Ab
/- A row's first part;append of made zeros to nothing;a capacity. -/
namespace Go.Ab
open Go Go.RowKit
variable {q:Md} {P:Program} {g:eY} {δ:DS} {κ:Kp} {a:Act} {w:World}
variable {ops:Array Oper} {rest:List Oper} {Q:Exit→DS→Prop} {dst:Option Nat} {ty:TypeId} {pos:String} {af:Array Edge} {gd:Option (Tmp×Bool)}
theorem a_.IZ {t e e':TypeId} {x y:Operand} {i k:Nat} {m:Int} {e7:List (List PV)} (hx:δ.ev x=.own i e' k e7) (hy:δ.ev y=eU m) (ht:P.underlying t=some (.slice e)) (hk:(P.info? e).map (·.size)=some k)
  (ho:fk x=true) (gi:fk y=true) (hd:gb δ.n dst=true) (h0:0≤m) (hm:m.toNat≤e7.length) (hK:a_ q P g ops rest Q (δ.eZ dst (.own i e' k (e7.take m.toNat)))):a_ q P g ops (⟨dst,.slice t x none (some y) none,ty,pos,af,none⟩::rest) Q δ:=
 a_.jK _ hd (fun κ a w r=>by
  have h1:=(r.ra hx ho).jt
  obtain⟨i0,mB,nh⟩:∃i0,P.info? e=some i0∧i0.size=k:=by
   cases h:P.info? e with
   |none=>rw[h] at hk;simp at hk
   |some i0=>rw[h] at hk;exact⟨i0,rfl,by simpa using hk⟩
  have FN:a.eval y=.int .i64 m:=r.lit hy gi
  obtain⟨h,rfl⟩:∃h:Nat,m=(h:Int):=⟨m.toNat,by omega⟩
  rw[Int.toNat_natCast] at hm ⊢
  obtain⟨a0,cap,hv,p_,hb⟩:∃a0 cap,a.eval x=.slice a0 e7.length cap∧e7.length≤cap∧jB (δ.cx g κ) w (.slice a0 h cap) i e' k (e7.take h):=by
   obtain⟨hl,mP,A7,pz,xs,⟨F9,hX⟩,h1x,hxx⟩:=h1
   have mk:∀a0 cap,(∀b,(Value.slice a0 h cap).ownBlock=some b→(δ.cx g κ).κ i=some b)→((Value.slice a0 h cap=.slice none 0 0∧h=0)∨∃g0 cap' cur,Value.slice a0 h cap=.slice (some ⟨g0,0,none⟩) h cap'∧(δ.cx g κ).B≤g0∧w.heap[g0]? =some (.cells cur e' (0,0))∧h≤cap'∧cap'≤maxLen∧cur.size=cap'*k∧cur.toList.take (h*k)=xs.take (h*k))→jB (δ.cx g κ) w (.slice a0 h cap) i e' k (e7.take h):=by
    intro a0 cap QO uR
    have hlen:(e7.take h).length=h:=by rw[List.length_take];omega
    have hmul:h*k≤e7.length*k:=Nat.mul_le_mul_right k hm
    refine⟨hl,by omega,fun c hc=>A7 c (List.mem_of_mem_take hc),QO,xs.take (h*k),⟨by rw[hlen,List.length_take];omega,by rw[hlen];exact uR⟩,fun u hu=>h1x u (List.mem_of_mem_take hu),fun i' j p hp=>?_⟩
    unfold cellAt at hp
    rw[List.getElem?_take] at hp
    by_cases YN:i'<h
    ·rw[if_pos YN] at hp
     obtain⟨u,hu,VF⟩:=hxx i' j p (by unfold cellAt;exact hp)
     refine⟨u,?_,VF⟩
     have NP:j<k:=by
      rw[Option.bind_eq_some_iff] at hp
      obtain⟨c,P0,SD⟩:=hp
      have:=A7 c (List.mem_of_getElem? P0)
      have:=(List.getElem?_eq_some_iff.1 SD).1
      omega
     have:(i'+1)*k≤h*k:=Nat.mul_le_mul_right k YN
     rw[Nat.add_mul,Nat.one_mul] at this
     rw[List.getElem?_take,if_pos aG];exact hu
    ·rw[if_neg YN] at hp;simp at hp
   rcases hX with ⟨hn,hz⟩|⟨g0,cap,cur,hv,hg,h3,hle,Lx,sE,yH⟩
   ·refine⟨none,0,by rw[hn,hz],by omega,mk none 0 (fun b hb=>by cases hb) (.inl ⟨?_,by omega⟩)⟩
    rw[show h=0 by omega]
   ·refine⟨_,cap,hv,hle,mk _ cap (fun b hb=>pz b (by rw[hv];exact hb)) (.inr ⟨g0,cap,cur,rfl,hg,h3,by omega,Lx,sE,?_⟩)⟩
    rw[← yH,List.take_take,Nat.min_eq_left (Nat.mul_le_mul_right k hm)]
  have gQ:∀w,(execOp a.eval ⟨dst,.slice t x none (some y) none,ty,pos,af,none⟩).run P w=.ok (.value (.slice a0 h cap)) w:=by
   intro w
   have MV:∀w,(Instr.sliceBounds true e7.length cap none (some (.int .i64 (h:Int))) none).run P w=.ok (0,h,cap) w:=by
    intro w
    have e1:(0:Int)≤(h:Int)∧(h:Int)≤(cap:Int):=by omega
    simp [Instr.sliceBounds,Instr.sliceBound,asIntOf,e1]
    intro h0;exfalso;omega
   simp only[execOp,Instr.sliceAt,Instr.slice,run_underlying ht,hv,FN,Sem.run_bind,Result.andThen_ok,Option.map_none,Option.map_some,MV,sizeOf,typeInfo,Sem.run_pure]
   cases a0 with
   |none=>simp [mB,nh]
   |some ad=>
    simp [mB,nh]
    intro _
    cases ad;simp [Addr.add]
  exact⟨_,fun w' _=>gQ w',.own hb⟩) hK
namespace Nf
variable {n x:Nat} {e:List (Nat×AV)} {o:List (Nat×Option Ob)}
theorem pum (d:Nat) (v:AV):DS.put ⟨n,e,o,x⟩ d v=⟨n,(d,v)::e,o,x⟩:=rfl
theorem pu0 (δ:DS) (v:AV):jJ δ v []=δ:=rfl
theorem pu1 (δ:DS) (v:AV) (t:Nat) (ts:List Nat):jJ δ v (t::ts)=(jJ δ v ts).put t v:=rfl
theorem rr0 (i:Nat) (e:TypeId) (zs os:List Int):Bq i e zs os none=.iR []:=rfl
theorem rr1 (i:Nat) (e:TypeId) (zs os:List Int) (r:List Int→Nat):Bq i e zs os (some r)=.own i e 1 ((os.take (r zs)).map nI):=rfl
set_option linter.defProp false in
def rwR:=And.intro @pum (And.intro @pu0 (And.intro @pu1 (And.intro @rr0 @rr1)))
end Nf
end Go.Ab
/- Contracts of callees that return a row of their own making;the caller owns it from then on. -/
namespace Go.Ab
open Go Go.RowKit
variable {P:Program} {g:eY} {δ:DS} {κ:Kp} {a:Act} {w:World}
variable {ops:Array Oper} {rest:List Oper} {Q:Exit→DS→Prop} {dst:Option Nat} {ty:TypeId} {pos:String} {af:Array Edge}
theorem Rel.FH (r:Rel g δ κ a w) {w':World} (hb:Below w.heap.size w w') (bo:Option Nat) (Hu:∀b,bo=some b→w.heap.size≤b∧b<w'.heap.size∧∃c e,w'.heap[b]? =some (.cells c e (0,0))):
  Rel g (δ.fM .row) (ix κ δ.nx bo) a w'∧j6 (δ.cx g κ) w ((δ.fM .row).cx g (ix κ δ.nx bo)) w':=by
 have hold:∀k,k<w.heap.size→w'.heap[k]? =w.heap[k]?:=hb.block
 have rU:¬δ.live δ.nx:=fun h=>Nat.lt_irrefl _ (r.nx _ h)
 have gz:∀i,δ.live i→δ.nx≠i:=fun i h e=>rU (e▸h)
 have fH:∀i,(δ.fM .row).live i→i=δ.nx∨δ.live i:=by
  intro i ⟨o',h⟩
  rw[gh] at h
  by_cases e:δ.nx=i
  ·exact .inl e.symm
  ·rw[if_neg e] at h;exact .inr ⟨o',h⟩
 have G:j6 (δ.cx g κ) w ((δ.fM .row).cx g (ix κ δ.nx bo)) w':=
  {B:=rfl,size:=hb.size
   N:=fun b h1 h2=>⟨⟨h2.1,fun i hi=>by
    show ix κ δ.nx bo i≠some b
    rcases fH i hi with rfl|hi
    ·simp only[ix,if_true];intro e;have:=(Hu b e).1;omega
    ·simp only[ix,gz i hi,if_false];exact h2.2 i hi⟩,hold b h1⟩
   Lr:=fun i hi=>by
    have jS:=gz i (DS.iw hi)
    refine⟨?_,by show ix _ _ _ i=κ i;simp [ix,jS],fun b hκ=>hold b (r.lo i b (DS.iw hi) hκ).2⟩
    show(δ.fM .row).ob i=_
    rw[gh,if_neg jS];exact hi
   Lb:=fun i hi=>by
    have jS:=gz i (DS.mm hi)
    refine⟨?_,by show ix _ _ _ i=κ i;simp [ix,jS]⟩
    obtain⟨o',h1,h2⟩:=hi
    exact⟨o',by rw[gh,if_neg jS];exact h1,h2⟩}
 refine⟨?_,G⟩
 exact
  {n:=r.n,dfr:=r.dfr.kY fun k _ hk=>hold k (iM hk),env:=fun j=>G.ra (r.env j)
   obj:=fun i o' h=>by
    rw[gh] at h
    by_cases e:δ.nx=i
    ·rw[if_pos e] at h;cases h;subst e
     intro b hκ
     have Em:bo=some b:=by
      have:ix κ δ.nx bo δ.nx=some b:=hκ
      simpa [ix] using this
     exact(Hu b Em).2.2
    ·rw[if_neg e] at h
     exact(r.obj i o' h).kY G (by show ix _ _ _ i=κ i;simp [ix,e]) (fun b hκ=>hold b (r.lo i b ⟨o',h⟩ hκ).2) (fun b hF ft=>⟨hF,hold b ft⟩)
   inj:=fun i j b h1 h2 h3 h4=>by
    rcases fH i h1 with rfl|h1
    ·rcases fH j h2 with rfl|h2
     ·rfl
     ·simp only[ix,if_true] at h3
      simp only[ix,gz j h2,if_false] at h4
      exact absurd (r.lo j _ h2 h4).2 (by have:=(Hu b h3).1;omega)
    ·rcases fH j h2 with rfl|h2
     ·simp only[ix,if_true] at h4
      simp only[ix,gz i h1,if_false] at h3
      exact absurd (r.lo i _ h1 h3).2 (by have:=(Hu b h4).1;omega)
     ·simp only[ix,gz i h1,gz j h2,if_false] at h3 h4
      exact r.inj i j b h1 h2 h3 h4
   lo:=fun i b h1 h2=>by
    rcases fH i h1 with rfl|h1
    ·simp only[ix,if_true] at h2
     have:=Hu b h2
     have:=r.hB
     omega
    ·simp only[ix,gz i h1,if_false] at h2
     have:=r.lo i b h1 h2
     have:=hb.size
     omega
   nx:=fun i h=>by
    show i<δ.nx+1
    rcases fH i h with rfl|h
    ·omega
    ·have:=r.nx i h;omega
   wt:=fun k hk=>⟨fun b yO=>⟨((r.wt k hk).1 b yO).1,(hold b (r9 ((r.wt k hk).1 b yO))).trans ((r.wt k hk).1 b yO).2⟩,fun i b hl hi hκ yO=>by
    rcases fH i hl with rfl|jS
    ·simp only[ix,if_true] at hκ
     have:=(Hu b hκ).1
     exact absurd (r9 ((r.wt k hk).1 _ yO)) (by omega)
    ·simp only[ix,gz i jS,if_false] at hκ
     refine(r.wt k hk).2 i b jS ?_ hκ yO
     refine hi.imp (fun hi=>?_) id
     have D6:(δ.fM .row).ob i=some .row:=hi
     rw[gh,if_neg (gz i jS)] at D6
     exact D6⟩
   below:=r.below.trans (hb.mono r.hB)
   hB:=Nat.le_trans r.hB hb.size
   N0:=r.N0
   kI:=r.kI
   fr:=r.fr.of hb.size (fun b _ h1 _=>hold b h1) fun i b h1 h2=>by
    rcases fH i h1 with rfl|h1
    ·simp only[ix,if_true] at h2;exact .inr (Hu b h2).1
    ·simp only[ix,gz i h1,if_false] at h2;exact .inl ⟨i,h1,h2⟩}
structure Ma (N:Nat→Prop) (w:World) (B:Nat) (v:Value) (e:TypeId) (k:Nat) (e7:List (List PV)):Prop where
 lim:e7.length≤140737488355328
 hk:∀c∈e7,c.length=k
 row:∃xs,w.ownsRow B e k v e7.length xs∧(∀u∈xs,u.oneCell'=true)∧∀i' j p,cellAt e7 i' j=some p→∃u,xs[i'*k+j]? =some u∧RP (fun b=>N b∧v.ownBlock≠some b) w u p
structure Qb (P:Program) (f:FuncId) (args:List AV) (e:TypeId) (k:Nat) (e7:List (List PV)):Prop where
 enters:∀vals w,(callFunc f vals).run P w=.ok (.enter f vals) w
 calls:∀(N:Nat→Prop) (w:World) (vals:Array Value),(∀b,w.heap.size≤b→N b)→vals.size=args.length→
  (∀(j:Nat) (v:Value) (av:AV),vals[j]? =some v→args[j]? =some av→RA (yA N) w v av)→
  Calls P f vals w fun en w'=>∃v,en=.returned v∧Below w.heap.size w w'∧Ma N w' w.heap.size v e k e7
theorem a_.Qd {f:FuncId} {xs:List Operand} {tys:Array TypeId} {args:List AV} {e:TypeId} {k:Nat} {e7:List (List PV)} (hf:Qb P f args e k e7) (gp:rV false δ xs args) (hd:gb δ.n dst=true)
  (hK:a_ .plain P g ops rest Q ((δ.fM .row).eZ dst (.own δ.nx e k e7))):a_ .plain P g ops (⟨dst,.call {callee:=.value (.func f),args:=xs.toArray,argTypes:=tys},ty,pos,af,none⟩::rest) Q δ:=by
 intro κ a w r0
 show wpListIn _ _ P ops _ (_::rest) a w
 refine iu rfl rfl fun K rf=>?_
 unfold Oper.AL
 rw[mD (f:=f) rfl hf.enters,Oper.uponIn_enter]
 refine⟨fun h=>by simp at h,(kb (hf.calls (fun b=>(δ.cx g κ).N b∨w.heap.size≤b) w _ (fun _ h=> .inr h) (by simp [gp.len]) (gp.Vf r0 (fun _ _ h=> .inl h) (fun h=>by simp at h)))).mono ?_⟩
 rintro en w' ⟨v,rfl,hb,hv⟩
 have Hu:∀b,v.ownBlock=some b→w.heap.size≤b∧b<w'.heap.size∧∃c e,w'.heap[b]? =some (.cells c e (0,0)):=by
  intro b D0
  obtain⟨xs,⟨_,hX⟩,_⟩:=hv.row
  rcases hX with ⟨rfl,_⟩|⟨b0,cap,cur,rfl,h1,h2,_⟩
  ·cases D0
  ·cases D0
   exact⟨h1,(Array.getElem?_eq_some_iff.1 h2).1,cur,e,h2⟩
 obtain⟨r1,G⟩:=r0.FH hb v.ownBlock Hu
 refine rf _ _ (hK _ _ _ (r1.eZ (fE hd) (.own ?_)))
 obtain⟨xs,⟨F9,hX⟩,h1,hx⟩:=hv.row
 refine⟨by show(δ.fM .row).ob _=_;rw[gh,if_pos rfl],hv.lim,hv.hk,fun b D0=>by show ix _ _ _ _=_;simp [ix,D0],xs,⟨F9,?_⟩,h1,fun i' j p hp=>?_⟩
 ·rcases hX with h|⟨b0,cap,cur,h2,h3,h4⟩
  ·exact .inl h
  ·exact .inr ⟨b0,cap,cur,h2,Nat.le_trans r0.hB h3,h4⟩
 ·obtain⟨u,hu,hr⟩:=hx i' j p hp
  refine⟨u,hu,hr.mono (Nat.le_refl _) fun b _ hN=>⟨?_,rfl⟩⟩
  have fH:∀i,(δ.fM .row).live i→i=δ.nx∨δ.live i:=by
   intro i ⟨o',h⟩
   rw[gh] at h
   by_cases e:δ.nx=i
   ·exact .inl e.symm
   ·rw[if_neg e] at h;exact .inr ⟨o',h⟩
  have rU:∀i,δ.live i→δ.nx≠i:=fun i h e=>Nat.lt_irrefl _ (r0.nx _ (e▸h))
  refine⟨?_,fun i hi=>?_⟩
  ·rcases hN.1 with h|h
   ·exact h.1
   ·exact r0.Ly h
  ·show ix κ δ.nx v.ownBlock i≠some b
   rcases fH i hi with rfl|hi
   ·simp only[ix,if_true];exact hN.2
   ·simp only[ix,rU i hi,if_false]
    rcases hN.1 with h|h
    ·exact h.2 i hi
    ·intro e
     have:=(r0.lo i b hi e).2
     omega
def Mi (P:Program) (rs:List ResultVar) (e:TypeId) (k:Nat) (e7:List (List PV)):Exit→DS→Prop
 |.normal,δ|.ret,δ=>(∃i,fZ P δ rs (.own i e k e7))∨(e7=[]∧fZ P δ rs (.pv (.lit (.slice none 0 0))))
 |_,_=>False
theorem Qb.enter {f:FuncId} {fn:Func} {c:Code} {rs:List ResultVar} {n:Nat} {args:List AV} {e:TypeId} {k:Nat} {e7:List (List PV)} (hf:P.funcs[f]? =some fn) (hb:fn.body=some c) (oh:fn.results=rs.toArray) (hn:fn.ntmps=n) (F2:Nat.ble args.length n=true)
  (xx:Nat.ble n HS=true) (he:(fn.name== "runtime.NumGoroutine")=false) (h:∀g:eY,g.ro=none→g.wt=none→AW P g c (Mi P rs e k e7) (start n args)):Qb P f args e k e7:=by
 refine⟨fun vals w=>by simp [callFunc,hf,hb];simpa using he,fun N w vals hN hs gp=>?_⟩
 have hle:args.length≤n:=by simpa using F2
 have P3:n≤HS:=by simpa using xx
 let g:eY:={B:=w.heap.size,w0:=w,N0:=N,held:=fun _=>undef,ro:=none,mks:=[],wt:=none,fr:=fun _=>False,w1:=w}
 have rU:∀i,¬(start n args).live i:=fun i ⟨o,h⟩=>by cases h
 refine callsIn_wide.1 (callsIn_of_wp_marks (n:=0) hf hb trivial (wpIn_mono (h g rfl rfl ⟨fun _=>none,fun _ _=>False⟩ _ w ?_) ?_))
 ·exact
  {n:=by simp [hn,start];omega
   dfr:=⟨[],rfl,by simp [g],by simp [g]⟩
   env:=fun j=>by
    by_cases hj:j<args.length
    ·have h1:(start n args).get j=args[j]:=oU args 0 j _ (Nat.zero_le _) (by simp [hj])
     have h2:g.val {tmps:=vals++Array.replicate (fn.ntmps - vals.size) undef,defers:=[]} j=vals[j]'(by omega):=by
      unfold eY.val
      rw[if_pos aG]
      simp [Array.getD_eq_getD_getElem?,Array.getElem?_append,hs,hj]
     rw[h1,h2]
     exact(gp j _ _ (Array.getElem?_eq_getElem aG) (List.getElem?_eq_getElem hj)).Fv _ fun b _ h=>⟨⟨h,fun⟨_,h⟩=>h⟩,fun i hi=>absurd hi (rU i)⟩
    ·have h1:(start n args).get j=.any:=jV args 0 j (by omega)
     rw[h1];exact .any _
   obj:=fun i o h=>by cases h
   inj:=fun i j b h=>absurd h (rU i)
   lo:=fun i b h=>absurd h (rU i)
   nx:=fun i h=>absurd h (rU i)
   wt:=fun k hk=>by cases hk
   below:=Below.refl _ _
   hB:=Nat.le_refl _
   N0:=fun b h _=>hN b h
   fr:=⟨fun b hb=>hb.elim,fun i b hb=>hb.elim⟩
   kI:=fun d hd=>by cases hd}
 ·rintro ex a' w' ⟨δ',κ',hq,r'⟩
  have fin:∀i,fZ P δ' rs (.own i e k e7)→LeavesInM Fence.wide 0 P fn a'.tmps (fun en w'=>∃v,en=.returned v∧Below w.heap.size w w'∧Ma N w' w.heap.size v e k e7) a'.defers .returning w':=by
   intro i h1
   exact leaves (g:=g) rfl rfl oh h1 r' (fun w2 r2 u hu=>by
    have ho:=hu.jt
    refine⟨u,rfl,r2.below,ho.lim,ho.hk,?_⟩
    obtain⟨xs,h3,h4,h5⟩:=ho.row
    refine⟨xs,h3,h4,fun i' j p hp=>?_⟩
    obtain⟨v,hv,hr⟩:=h5 i' j p hp
    refine⟨v,hv,hr.mono (Nat.le_refl _) fun b _ hN=>⟨⟨hN.1.1,fun hb=>?_⟩,rfl⟩⟩
    exact hN.2 i (DS.iw ho.live) (ho.yD b hb))
  have finN:e7=[]→fZ P δ' rs (.pv (.lit (.slice none 0 0)))→LeavesInM Fence.wide 0 P fn a'.tmps (fun en w'=>∃v,en=.returned v∧Below w.heap.size w w'∧Ma N w' w.heap.size v e k e7) a'.defers .returning w':=by
   intro h0 h1
   exact leaves (g:=g) rfl rfl oh h1 r' (fun w2 r2 u hu=>by
    have hu:=hu.lit
    subst hu
    subst h0
    exact⟨_,rfl,r2.below,by simp,fun c hc=>by simp at hc,[],World.ownsRow_nil _ _ _ _,fun u hu=>by simp at hu,fun i' j p hp=>by simp [cellAt] at hp⟩)
  cases ex with
  |normal=>
   rcases hq with ⟨i,h1⟩|⟨h0,h1⟩
   ·exact fin i h1
   ·exact finN h0 h1
  |ret=>
   rcases hq with ⟨i,h1⟩|⟨h0,h1⟩
   ·exact fin i h1
   ·exact finN h0 h1
  |_=>exact hq.elim
theorem nu {rs:List ResultVar} {i:Nat} {e:TypeId} {k:Nat} {e7 els':List (List PV)} (h:fZ P δ rs (.own i e k els')) (he:els'=e7):Mi P rs e k e7 .ret δ:=.inl ⟨i,he▸h⟩
theorem vp {rs:List ResultVar} {e:TypeId} {k:Nat} {e7:List (List PV)} (h:fZ P δ rs (.pv (.lit (.slice none 0 0)))) (he:e7=[]):Mi P rs e k e7 .ret δ:=.inr ⟨he,h⟩
theorem WV.QF {δ δ':DS} {k:Nat} {e7:List (List PV)} (h:e7=[]):WV δ δ' (.pv (.lit (.slice none 0 0))) (.pv (.slice k e7)):=by rw[h];exact .nilpv k
end Go.Ab
/- Strings:joined,compared,measured,indexed,cut;numbers of any kind compared. -/
namespace Go.Ab
open Go Go.RowKit
variable {q:Md} {P:Program} {g:eY} {δ:DS} {κ:Kp} {a:Act} {w:World}
variable {ops:Array Oper} {rest:List Oper} {Q:Exit→DS→Prop} {dst:Option Nat} {ty:TypeId} {pos:String} {af:Array Edge}
abbrev Um (s:ByteArray):AV:=.pv (.lit (.string s))
section strs
variable {x y:Operand} {t t':TypeId} {s u:ByteArray} (hx:δ.ev x=Um s) (hy:δ.ev y=Um u) (ho:fk x=true) (gi:fk y=true) (hd:gb δ.n dst=true)
include hx hy ho gi hd
end strs
end Go.Ab
/- Sets of strings:maps from strings to true. -/
namespace Go.Ab
open Go Go.RowKit
variable {q:Md} {P:Program} {g:eY} {δ:DS} {κ:Kp} {a:Act} {w:World}
variable {gd:Option (Tmp×Bool)} {ops:Array Oper} {rest:List Oper} {Q:Exit→DS→Prop} {dst:Option Nat} {ty:TypeId} {pos:String} {af:Array Edge}
def mpS (l:List ByteArray):List (Value×AV):=l.map fun s=>(.string s,fe true)
theorem WO.strs {δ δ':DS} {i:Nat} {l:List ByteArray} (h:δ.ob i=some (.mp (mpS l))):WO δ δ' i (.mp (mpS l)):=.mp h fun p hp=>by
 obtain⟨x,_,rfl⟩:=List.mem_map.1 hp
 rfl
end Go.Ab
/- Equality of structs of three whole numbers. -/
namespace Go.Ab
open Go Go.RowKit
variable {q:Md} {P:Program} {g:eY} {δ:DS} {κ:Kp} {a:Act} {w:World}
variable {ops:Array Oper} {rest:List Oper} {Q:Exit→DS→Prop} {dst:Option Nat} {ty:TypeId} {pos:String} {af:Array Edge}
def CA (P:Program) (f:Field) (o:Nat):Bool:=decide (f.name≠ "_") && Nat.beq f.offset o && iS P f.type && (match P.underlying f.type with|some (.int .i64)=>true|_=>false)
def D2 (P:Program) (t:TypeId):Bool:=(match P.underlying t with|some (.struct fs)=>(match fs.toList with|[f0,f1,f2]=>CA P f0 0 && CA P f1 1 && CA P f2 2|_=>false)|_=>false) && !(P.stoodInHeld t) && !(P.eqGuardType P.depth t)
theorem km {f:Field} {o:Nat} (h:CA P f o=true):f.name≠ "_" ∧f.offset=o∧iS P f.type=true∧P.underlying f.type=some (.int .i64):=by
 unfold CA at h
 simp only[Bool.and_eq_true] at h
 obtain⟨⟨⟨h1,h2⟩,h3⟩,h4⟩:=h
 refine⟨of_decide_eq_true h1,Nat.eq_of_beq_eq_true h2,h3,?_⟩
 revert h4
 cases P.underlying f.type with
 |none=>intro h;cases h
 |some u=>
  cases u with
  |int k=>cases k<;>intro h<;>first|rfl|cases h
  |_=>intro h;cases h
theorem I8 {t:TypeId} (h:D2 P t=true) {op:BinOp} (Ws:op=.eql∨op=.neq) {x y:Operand} {m n k m' n' k':Int} (w:World):
  (do eqGuard op t x y (.agg #[.int .i64 m,.int .i64 n,.int .i64 k]) (.agg #[.int .i64 m',.int .i64 n',.int .i64 k']);Go.binOp op t (.agg #[.int .i64 m,.int .i64 n,.int .i64 k]) (.agg #[.int .i64 m',.int .i64 n',.int .i64 k']):Sem Value).run P w
   =.ok (.bool (if op=.eql then decide (m=m'∧n=n'∧k=k') else decide (¬(m=m'∧n=n'∧k=k')))) w:=by
 unfold D2 at h
 simp only[Bool.and_eq_true,Bool.not_eq_true'] at h
 obtain⟨⟨h,hs⟩,hg⟩:=h
 have h1:∀w,(Op.equalIn 10000 t (.agg #[.int .i64 m,.int .i64 n,.int .i64 k]) (.agg #[.int .i64 m',.int .i64 n',.int .i64 k'])).run P w=.ok (decide (m=m'∧n=n'∧k=k')) w:=by
  intro w
  cases hu:P.underlying t with
  |none=>rw[hu] at h;cases h
  |some u=>
   rw[hu] at h
   cases u with
   |struct fs=>
    have Dp:P.fieldsOf t=fs:=by unfold Program.fieldsOf;rw[hu]
    rw[run_equalIn_struct w 9999 t _ _ (by rw[Dp];exact hu) hs,Dp]
    simp only at h
    match hl:fs.toList,h with
    |[f0,f1,f2],h=>
     simp only[Bool.and_eq_true] at h
     obtain⟨⟨h0,h1⟩,h2⟩:=h
     obtain⟨a1,a2,a3,a4⟩:=km h0
     obtain⟨b1,b2,b3,b4⟩:=km h1
     obtain⟨c1,c2,c3,c4⟩:=km h2
     have p0:∀m n k w,(part f0.type #[.int .i64 m,.int .i64 n,.int .i64 k] f0.offset).run P w=.ok (.int .i64 m) w:=fun m n k w=>kD a3 (by rw[a2];rfl) w
     have p1:∀m n k w,(part f1.type #[.int .i64 m,.int .i64 n,.int .i64 k] f1.offset).run P w=.ok (.int .i64 n) w:=fun m n k w=>kD b3 (by rw[b2];rfl) w
     have p2:∀m n k w,(part f2.type #[.int .i64 m,.int .i64 n,.int .i64 k] f2.offset).run P w=.ok (.int .i64 k) w:=fun m n k w=>kD c3 (by rw[c2];rfl) w
     have q0:=fun(a b:Int) w=>run_equalIn_int (P:=P) w 9998 f0.type .i64 .i64 a b a4
     have q1:=fun(a b:Int) w=>run_equalIn_int (P:=P) w 9998 f1.type .i64 .i64 a b b4
     have q2:=fun(a b:Int) w=>run_equalIn_int (P:=P) w 9998 f2.type .i64 .i64 a b c4
     simp only[Op.eqFields,a1,b1,c1,ne_eq,not_false_eq_true,if_true,Sem.run_bind,p0,p1,p2,q0,q1,q2,Result.andThen_ok]
     by_cases e0:m=m'
     ·by_cases e1:n=n'
      ·by_cases e2:k=k'
       ·simp [e0,e1,e2,p0,p1,p2,q0,q1,q2]
       ·simp [e0,e1,e2,p0,p1,p2,q0,q1,q2]
      ·simp [e0,e1,p0,p1,p2,q0,q1,q2]
     ·simp [e0]
    |[],h=>cases h
    |[_],h=>cases h
    |[_,_],h=>cases h
    |_::_::_::_::_,h=>cases h
   |_=>cases h
 rw[Sem.run_bind,run_eqGuard_agg w op t x y _ _ hg,Result.andThen_ok]
 rcases Ws with rfl|rfl
 ·rw[run_eql_struct,h1];rfl
 ·rw[run_neq_struct,h1,Result.andThen_ok];simp
theorem Rel.OZ (r:Rel g δ κ a w) {z:Operand} {m n k:Int} (hz:δ.ev z=.agg [eU m,eU n,eU k]) (s8:fk z=true):a.eval z=.agg #[.int .i64 m,.int .i64 n,.int .i64 k]:=by
 have h:=r.ra hz s8
 generalize a.eval z=u at h
 cases h with
 | @agg vs _ hs h=>
  have e0:=(h 0 _ _ (Array.getElem?_eq_getElem (by simp [hs])) rfl).lit
  have e1:=(h 1 _ _ (Array.getElem?_eq_getElem (by simp [hs])) rfl).lit
  have e2:=(h 2 _ _ (Array.getElem?_eq_getElem (by simp [hs])) rfl).lit
  congr 1
  apply Array.ext (by simp [hs])
  intro j h2 h3
  match j,h3 with
  |0,_=>exact e0
  |1,_=>exact e1
  |2,_=>exact e2
theorem a_.Yj {op:BinOp} {x y:Operand} {t t':TypeId} {m n k m' n' k':Int} (Ws:op=.eql∨op=.neq) (hx:δ.ev x=.agg [eU m,eU n,eU k]) (hy:δ.ev y=.agg [eU m',eU n',eU k']) (h3:D2 P t=true) (ho:fk x=true) (gi:fk y=true)
  (hd:gb δ.n dst=true) (hK:a_ q P g ops rest Q (δ.eZ dst (fe (if op=.eql then decide (m=m'∧n=n'∧k=k') else decide (¬(m=m'∧n=n'∧k=k')))))):a_ q P g ops (⟨dst,.binOp op t x y t',ty,pos,af,none⟩::rest) Q δ:=
 a_.jK _ hd (fun κ a w r=>⟨_,fun w' _=>by
  have h1:=r.OZ hx ho
  have h2:=r.OZ hy gi
  have:=I8 h3 Ws (x:=x) (y:=y) (m:=m) (n:=n) (k:=k) (m':=m') (n':=n') (k':=k') w'
  simp only[execOp,h1,h2]
  simp only[Sem.run_bind,Result.andThen_ok] at*
  first|rfl|simp [this],.pv (.lit _)⟩) hK
theorem a_.VY {x y:Operand} {t t':TypeId} {m n k m' n' k':Int} (hx:δ.ev x=.agg [eU m,eU n,eU k]) (hy:δ.ev y=.agg [eU m',eU n',eU k']) (h3:D2 P t=true) (ho:fk x=true) (gi:fk y=true)
  (hd:gb δ.n dst=true) (hK:a_ q P g ops rest Q (δ.eZ dst (fe (decide (m=m'∧n=n'∧k=k'))))):a_ q P g ops (⟨dst,.binOp .eql t x y t',ty,pos,af,none⟩::rest) Q δ:=a_.Yj (.inl rfl) hx hy h3 ho gi hd (by simpa using hK)
end Go.Ab
