/- Contracts of functions that panic; an own panic. -/
import Derived.Test.YtijkecidjjicbaaGreatDoorAbL3
import Derived.LoopNIn
import Derived.WalkSmall
import Derived.Shelf.Strings.Builder1
import Derived.RecoverIn
import Derived.Test.YtijkecidjjicbaaGreatDoorAbL2
import Derived.Laws.CopyRow
import Derived.Laws.IdiomCopy
import Derived.WideKeyRuns
set_option linter.unusedSimpArgs false
set_option linter.unusedVariables false
namespace Go.Ab
open Go Go.RowKit
variable {q:Md} {P:Program} {g:Ghost} {δ:DS} {κ:Nat→Option Nat} {a:Act} {w:World}
variable {ops:Array Oper} {rest:List Oper} {Q:Exit→DS→Prop} {dst:Option Nat} {ty:TypeId} {pos:String} {af:Array Edge}
theorem thenD_pan {next:DS→Prop} {ch:List PanicEntry} (h:Q (.panic ch) δ):thenD next Q (.panic ch) δ:=h
theorem inBlockD_pan {id:Nat} {ch:List PanicEntry} (h:Q (.panic ch) δ):inBlockD id Q (.panic ch) δ:=h
theorem leavesP (hwt:g.wt=none) (hbs:g.base=[]) {fn:Func} {ch:List PanicEntry} {R:Ending→World→Prop}:∀{a:Act} {w:World},Rel g δ κ a w→
  (∀w2,Rel g δ κ {a with defers:=[]} w2→R (.panicked ch) w2)→LeavesInM Fence.wide 0 P fn a.tmps R a.defers (.panicking ch) w:=by
 intro a w r hR
 obtain⟨ms,h1,h2,h3⟩:=r.dfr
 rw[hbs,List.append_nil] at h1
 rw[h1]
 induction ms generalizing a w with
 |nil=>
  have ra:Rel g δ κ {a with defers:=[]} w:={r with dfr:=⟨[],by rw[hbs];rfl,h2,h3⟩,mkf:=fun d hd=>by cases hd}
  exact hR w ra
 |cons m ms ih=>
  refine⟨by simp,.inl ⟨m,_,rfl,run_takeDeferred (h3 m (by simp)).2,?_⟩⟩
  have hm:=h3 m (by simp)
  rw[List.cons_append] at h2
  have hnd:=List.nodup_cons.1 h2
  have hkeep:∀k∈ms++g.mks,g.B≤k∧(w.putObj m (.deferred none)).heap[k]? =some (.deferred (some [])):=fun k hk=>
   ⟨(h3 k (by simp only[List.cons_append,List.mem_cons];exact .inr hk)).1,by rw[World.putObj_heap_other (by intro e;subst e;exact hnd.1 hk)];exact(h3 k (by simp only[List.cons_append,List.mem_cons];exact .inr hk)).2⟩
  have hd:Dfr g {a with defers:=ms.map fun r=>({target:=.collected r,args:= #[]}:Deferred)} (w.putObj m (.deferred none)):=⟨ms,by rw[hbs,List.append_nil],hnd.2,hkeep⟩
  have r2:=r.shut hwt hm.1 hm.2 (a':={a with defers:=ms.map fun r=>({target:=.collected r,args:= #[]}:Deferred)}) rfl (fun d hd=>by rw[h1];exact List.mem_map.2 (let ⟨x,hx,e⟩:=List.mem_map.1 hd;⟨x,by simp [hx],e⟩)) (r.mkf {target:=.collected m,args:= #[]} (by rw[h1];exact List.mem_map.2 ⟨m,by simp,rfl⟩) m rfl) hd
  exact ih (a:={a with defers:=ms.map fun r=>({target:=.collected r,args:= #[]}:Deferred)}) r2 (fun w2 r3=>hR w2 r3) rfl hnd.2 hkeep
theorem FnD.enter {T:World→Prop} {t:TypeId} {f:FuncId} {fn:Func} {c:Code} {n n0:Nat} {objs0 objs1:List (Nat×Option Ob)} {args:List AV} (hf:P.funcs[f]? =some fn) (hb:fn.body=some c) (hn:fn.ntmps=n) (hna:Nat.ble args.length n=true)
  (hna':Nat.ble n HS=true) (he:(fn.name== "runtime.NumGoroutine")=false) (hpin:pinB objs0 objs0=true) (hn1:nxB n0 objs1=true)
  (h:∀g:Ghost,g.ro=none→g.wt=none→TB T g→AW P g c (EndsP t objs0 objs1) ⟨n,enum 0 args++ [(1000,.agg (pinL objs0))],objs0,n0⟩):FnD T P t f n0 objs0 args objs1:=by
 refine FnXG.enter (Q:=EndsP t objs0 objs1) hf hb hn hna hna' he hpin hn1 h fun g e δ' κ' a' w' R hwt hbs hq r' hR=>?_
 cases e with
 |panic ch=>
  obtain⟨h1,h2,h3,h4⟩:=hq
  exact leavesP (g:=g) hwt hbs r' fun w2 r2=>hR h2 h3 h4 _ _ r2 ⟨ch,rfl,h1⟩
 |_=>exact hq.elim
theorem endsP {t:TypeId} {objs0 objs1:List (Nat×Option Ob)} {ch:List PanicEntry} (h:Pan t ch) (hw:WVs δ (XF δ objs0 objs1) [δ.get 1000] [.agg (pinL objs0)]) (ho:WObs δ (XF δ objs0 objs1) objs1) (hx:nxB δ.nx objs1=true):EndsP t objs0 objs1 (.panic ch) δ:=⟨h,hw.1,ho,hx⟩
def onlyP (Q:Exit→DS→Prop):Exit→DS→Prop
 |.panic c,δ=>Q (.panic c) δ∧∀j,j<HS→δ.get j=.any
 |_,_=>False
theorem onlyP_1 {Q:Exit→DS→Prop} {ch:List PanicEntry} {n x:Nat} {v:AV} {o:List (Nat×Option Ob)} (h:Q (.panic ch) ⟨n,[(1000,v)],o,x⟩):onlyP Q (.panic ch) ⟨n,[(1000,v)],o,x⟩:=by
 refine⟨h,fun j hj=>?_⟩
 show look _ j=_
 have hj:j<1000:=hj
 rw[look_cons,if_neg (by omega)]
 rfl
theorem WV.aggL {δ δ':DS} {cs ds:List AV} (h:WVs δ δ' cs ds):WV δ δ' (.agg cs) (.agg ds):=by
 have key:∀{cs ds:List AV},WVs δ δ' cs ds→cs.length=ds.length∧∀(j:Nat) (c d:AV),cs[j]? =some c→ds[j]? =some d→WV δ δ' c d:=by
  intro cs
  induction cs with
  |nil=>
   intro ds h
   cases ds with
   |nil=>exact⟨rfl,fun j c d h1=>by simp at h1⟩
   |cons d ds=>exact h.elim
  |cons c cs ih=>
   intro ds h
   cases ds with
   |nil=>exact h.elim
   |cons d ds=>
    obtain⟨h1,h2⟩:=h
    obtain⟨h3,h4⟩:=ih h2
    refine⟨by simp [h3],fun j c' d' h5 h6=>?_⟩
    cases j with
    |zero=>simp at h5 h6;subst h5;subst h6;exact h1
    |succ j=>exact h4 j c' d' (by simpa using h5) (by simpa using h6)
 exact .agg (key h).1 (key h).2
variable {k:Wt} {late:List Nat} {l:List Oper} {dn:List Nat} {QD:Exit→DS→Prop}
theorem AR.stepD {i:Nat} {o:Oper} (hl:Nat.blt dn.length l.length=true) (hr:readyIs l dn [i]=true) (ho:l[i]? =some o)
  (h:∀g':Ghost,Gs g' g→g'.wt=none→AOps .plain P g' l.toArray [o] (onlyP QD) δ):AR P g k late l QD dn δ:=by
 intro hdc κ a w r
 have hr':Region.ready .any l.toArray (setL l.length dn)=[i]:=by simpa [readyIs] using hr
 have hl':dn.length<l.length:=by simpa using hl
 obtain⟨n,hn⟩:∃n,l.length - dn.length=n+1:=⟨l.length - dn.length - 1,by omega⟩
 rw[hn]
 refine⟨fun h0=>absurd (hr'▸h0) (by simp),fun i' hi=>?_⟩
 rw[hr'] at hi
 simp only[List.mem_singleton] at hi
 subst hi
 have ho':l.toArray[i']? =some o:=by simpa using ho
 have r1:Rel {g with wt:=none} δ κ a w:=by
  have:=Rel.rewt r (wt':=none) (fun k hk=>by cases hk)
  exact this
 have hA':wpListIn (Fw g.ro) 0 P l.toArray (lift {g with wt:=none} (onlyP QD)) [o] a w:=h {g with wt:=none} ⟨rfl,rfl,rfl⟩ rfl κ a w r1
 unfold wpListIn at hA'
 unfold wpOpIn
 simp only[ho']
 have hno:∀a w,¬lift {g with wt:=none} (onlyP QD) .normal a w:=by
  rintro a w ⟨δ',κ',h2,_⟩
  exact h2
 have hpa:∀c a w,lift {g with wt:=none} (onlyP QD) (.panic c) a w→postN g QD (.panic c) a w:=by
  rintro c a w ⟨δ',κ',⟨h2,h3⟩,r2⟩
  exact⟨δ',κ',h2,h3,r2⟩
 split
 ·rename_i hw
  rw[if_pos hw] at hA'
  obtain⟨h2,h3⟩:=hA'
  refine⟨h2,?_⟩
  revert h3
  generalize (o.semAt (Fw g.ro).round a.eval).run P w=res
  intro h3
  cases res with
  |ok x w'=>
   cases x<;>simp only[Oper.uponIn] at h3 ⊢
   case value u=>exact absurd h3 (hno _ _)
   case skip=>exact absurd h3 (hno _ _)
   case defer d=>exact absurd h3 (hno _ _)
   case enter f args=>
    refine⟨h3.1,CallsIn.mono h3.2 fun e w'' he=>?_⟩
    cases e with
    |returned u=>exact absurd he (hno _ _)
    |panicked c=>exact hpa _ _ _ he
    |outgrown=>
     exfalso
     obtain⟨a2,w2,δ',κ',he,_⟩:=he
     exact he
   case row row args=>exact⟨h3.1,RowsIn.mono h3.2 fun u w'' he=>absurd he (hno _ _)⟩
   case round l' f tmps assign body=>
    refine⟨h3.1,RoundIn.mono h3.2 fun e w'' he=>?_⟩
    cases e with
    |returned u=>exact absurd he (hno _ _)
    |panicked c=>exact hpa _ _ _ he
    |outgrown=>
     exfalso
     obtain⟨a2,w2,δ',κ',he,_⟩:=he
     exact he
  |halt x w'=>
   cases x<;>simp only[Oper.uponIn] at h3 ⊢
   case panic u=>exact hpa _ _ _ h3
 ·rename_i hw
  rw[if_neg hw] at hA'
  exact absurd hA'.2 (hno _ _)
theorem AOps.mkPanic {t:TypeId} {d:Nat} {x:Operand} {ty':TypeId} {pos':String} {af':Array Edge} {c:AV} (hx:δ.ev x=.agg [c]) (ho:okT x=true) (h1:c.one=true) (hc:P.concrete t=true) (hd:okD δ.n (some d)=true)
  (hK:∀ch,Pan t ch→Q (.panic ch) δ.hi):AOps .plain P g ops (⟨some d,.makeInterface t x,ty,pos,af,none⟩::⟨dst,.panic (.tmp d),ty',pos',af',none⟩::rest) Q δ:=by
 intro κ a w r
 show wpListIn _ _ P ops _ (_::_::rest) a w
 refine wpl_plain rfl rfl fun K hK'=>?_
 have hr:(execOp a.eval ⟨some d,.makeInterface t x,ty,pos,af,none⟩).run P w=.ok (.value (.iface t (a.eval x))) w:=by
  simp only[execOp,Sem.run_bind,run_makeInterface w t _ hc,Result.andThen_ok]
  rfl
 unfold Oper.wpF
 rw[hr]
 simp only[Oper.uponIn]
 refine hK' _ _ ?_
 have r1:Rel g (δ.putd (some d) .any) κ (a.put (some d) (.iface t (a.eval x))) w:=r.putd (okD_spec hd) (.any _)
 refine wpl_plain rfl rfl fun K hK'=>?_
 have hlt:d<a.tmps.size:=by rw[r.n];exact(okD_spec hd d rfl).1
 have hev:(a.put (some d) (.iface t (a.eval x))).eval (.tmp d)=.iface t (a.eval x):=by
  simp [Act.put,Act.eval,hlt]
 have hr2:(execOp (a.put (some d) (.iface t (a.eval x))).eval ⟨dst,.panic (.tmp d),ty',pos',af',none⟩).run P w=.halt (.panic (.iface t (a.eval x))) w:=by
  simp only[execOp,hev,Sem.run_bind,run_panic_iface]
  rfl
 unfold Oper.wpF
 rw[hr2]
 simp only[Oper.uponIn]
 refine lift_hi (δ:=δ.putd (some d) .any) ?_ r1
 have e:(δ.putd (some d) .any).hi=δ.hi:=by
  show(⟨δ.n,hiE ((d,.any)::δ.env),δ.objs,δ.nx⟩:DS)=_
  have:Nat.ble HS d=false:=by
   have:=(okD_spec hd d rfl).2
   cases hb:Nat.ble HS d with
   |false=>rfl
   |true=>
    have h':HS≤d:=by simpa using hb
    omega
  unfold hiE
  rw[this]
  rfl
 rw[e]
 have hv:=r.ra hx ho
 generalize a.eval x=v at hv
 cases hv with
 | @agg vs _ hs h=>
  have hs:vs.size=1:=hs
  obtain⟨u,rfl⟩:∃u,vs= #[u]:=by
   rcases vs with ⟨_|⟨u,_|_⟩⟩<;>simp at hs
   exact⟨u,rfl⟩
  exact hK _ ⟨u,rfl,(h 0 u c rfl rfl).one h1⟩
theorem AW.rounds2 {c:Code} (h:AW P g c (thenD (fun δ1=>AW P g c (thenD (fun _=>False) Q) δ1) Q) δ):AW P g (.loop c) Q δ:=by
 intro κ a w r
 refine wpIn_loop_rounds 2 ?_
 have key:∀(Q1 Q2:Exit→Act→World→Prop) (c:Code) a w,c.wpIn (Fw g.ro) 0 P Q1 a w→(∀e a w,Q1 e a w→Q2 e a w)→c.wpIn (Fw g.ro) 0 P Q2 a w:=fun Q1 Q2 c a w h h'=>wpIn_mono h h'
 refine key _ _ _ _ _ (h κ a w r) fun e a' w'=>?_
 rintro⟨δ1,κ1,h1,r1⟩
 cases e with
 |normal=>
  refine key _ _ _ _ _ (h1 κ1 a' w' r1) fun e a2 w2=>?_
  rintro⟨δ2,κ2,h2,r2⟩
  cases e with
  |normal=>exact h2.elim
  |_=>exact⟨δ2,κ2,h2,r2⟩
 |_=>exact⟨δ1,κ1,h1,r1⟩
end Go.Ab
/- A strings.Builder's own steps:a variable told by its very cells and its type,pointers through unsafe.Pointer,pointers held against nil and themselves;String. -/
namespace Go.Ab
open Go Go.RowKit
variable {q:Md} {P:Program} {g:Ghost} {δ:DS} {κ:Nat→Option Nat} {a:Act} {w:World}
variable {ops:Array Oper} {rest:List Oper} {Q:Exit→DS→Prop} {dst:Option Nat} {ty:TypeId} {pos:String} {af:Array Edge} {gd:Option (Tmp×Bool)}
theorem Rel.litb (r:Rel g δ κ a w) {u:Value} {i off:Nat} {T:TypeId} {vals:Array Value} (h:RA (δ.cx g κ) w u (.ptr i off)) (ho:δ.ob i=some (.lit T vals)):
  ∃b,u=.pointer (some ⟨b,off,none⟩)∧κ i=some b∧w.heap[b]? =some (.cells vals T (0,0)):=by
 cases h with
 | @ptr _ _ b hl hκ=>
  obtain⟨b',h1,h2⟩:=r.obj i _ ho
  have:b'=b:=by have:=h1.symm.trans hκ;simpa using this
  subst this
  exact⟨b',rfl,h1,h2⟩
theorem AOps.load_lit {x:Operand} {t T:TypeId} {i off:Nat} {vals:Array Value} {v:Value} (hx:δ.ev x=.ptr i off) (hb:δ.ob i=some (.lit T vals)) (hv:vals.toList[off]? =some v) (ht:scalarT P t=true) (ho:okT x=true) (hd:okD δ.n dst=true)
  (hK:AOps q P g ops rest Q (δ.putd dst (.pv (.lit v)))):AOps q P g ops (⟨dst,.load t x,ty,pos,af,none⟩::rest) Q δ:=
 AOps.valw _ hd (fun κ a w r=>by
  obtain⟨b,h1,h2,h3⟩:=r.litb (r.ra hx ho) hb
  exact⟨v,fun w' hw'=>run_load_scalar ht h1 ((hw'.cell (ad:=⟨b,off,none⟩) (Array.getElem?_eq_some_iff.1 h3).1 (r.notrow ⟨_,hb,rfl⟩ h2)).trans (by rw[cell_of h3,← Array.getElem?_toList,hv])),.pv (.lit _)⟩) hK
theorem Eff.allocL {e:TypeId} {z:Value} {vals:Array Value} (hz:(P.info? e).bind (·.zero)=some z) (hl:z.cells=vals) (hd:okD δ.n dst=true):
  Eff P g ⟨dst,.alloc e,ty,pos,af,gd⟩ δ ((δ.addOb (.lit e vals)).putd dst (.ptr δ.nx 0)):=by
 intro κ a w r
 have hrun:(execOp a.eval ⟨dst,.alloc e,ty,pos,af,gd⟩).run P w=.ok (.value (.pointer (some ⟨w.heap.size,0,none⟩))) (w.alloc (.cells vals e)):=by
  cases hi:P.info? e with
  |none=>rw[hi] at hz;simp at hz
  |some i=>rw[hi] at hz;simp at hz;simp [execOp,Instr.alloc,zeroValue,typeInfo,hi,hz,newVar,newRow,hl]
 obtain⟨r',G⟩:=r.grow (.lit e vals) (.cells vals e) (fun C G hκ=>⟨w.heap.size,hκ,heap_alloc_new w _⟩)
 refine .inl ⟨_,_,_,_,hrun,.inl rfl,r'.putd (okD_spec hd) ?_⟩
 exact .ptr ⟨_,by show(δ.addOb _).ob _=_;rw[ob_addOb,if_pos rfl],rfl⟩ (by show upd _ _ _ _=_;simp [upd])
theorem AOps.allocL {e:TypeId} {z:Value} {vals:Array Value} (hz:(P.info? e).bind (·.zero)=some z) (hl:z.cells=vals) (hd:okD δ.n dst=true)
  (hK:AOps .plain P g ops rest Q ((δ.addOb (.lit e vals)).putd dst (.ptr δ.nx 0))):AOps .plain P g ops (⟨dst,.alloc e,ty,pos,af,none⟩::rest) Q δ:=AOps.eff rfl rfl (Eff.allocL hz hl hd) hK
theorem AOps.adopt {l:List Oper} (h:AOps .plain P g ops l Q (δ.addOb .row)):AOps .plain P g ops l Q δ:=fun κ a w r=>by
 obtain⟨r1,_⟩:=r.adopt
 exact h _ _ _ r1
theorem eqG_ptr (op:BinOp) (t:TypeId) (x y:Operand) (u v:Option Addr) (w:World):(eqGuard op t x y (.pointer u) (.pointer v)).run P w=.ok () w:=by
 unfold eqGuard
 cases op<;>simp [Sem.run,pure,Sem.bind,bind]
theorem run_eq_ptr_nil {tp te:TypeId} (u:Option Addr) (hp:P.underlying tp=some (.pointer te)) (hte:(P.info? te).isSome=true) (w:World):(Go.binOp .eql tp (.pointer u) (.pointer none)).run P w=.ok (.bool u.isNone) w:=by
 obtain⟨j,hj⟩:=Option.isSome_iff_exists.1 hte
 have h:∀d:Nat,(Op.equalIn (d+1) tp (.pointer u) (.pointer none)).run P w=.ok u.isNone w:=fun d=>by
  cases u<;>simp [Op.equalIn,run_underlying hp,sizeOf,typeInfo,hj]
 simp only[Go.binOp]
 simp [Op.equal,Op.maxDepth,h 9999]
theorem AOps.eqlPN {x y:Operand} {t te t':TypeId} (hx:δ.ev x=.pv (.lit (.pointer none))) (hy:δ.ev y=.pv (.lit (.pointer none))) (hp:P.underlying t=some (.pointer te)) (hte:(P.info? te).isSome=true) (ho:okT x=true) (ho':okT y=true) (hd:okD δ.n dst=true)
  (hK:AOps q P g ops rest Q (δ.putd dst (litB true))):AOps q P g ops (⟨dst,.binOp .eql t x y t',ty,pos,af,none⟩::rest) Q δ:=
 AOps.bin hx hy ho ho' (fun w=>by rw[Sem.run_bind,eqG_ptr,Result.andThen_ok,run_eq_ptr_nil none hp hte];rfl) hd hK
theorem AOps.eqlPS {x y:Operand} {t te t':TypeId} {i off:Nat} (hx:δ.ev x=.ptr i off) (hy:δ.ev y=.pv (.lit (.pointer none))) (hp:P.underlying t=some (.pointer te)) (hte:(P.info? te).isSome=true) (ho:okT x=true) (ho':okT y=true) (hd:okD δ.n dst=true)
  (hK:AOps q P g ops rest Q (δ.putd dst (litB false))):AOps q P g ops (⟨dst,.binOp .eql t x y t',ty,pos,af,none⟩::rest) Q δ:=
 AOps.valw _ hd (fun κ a w r=>⟨.bool false,fun w' _=>by
  have h1:=r.ra hx ho
  have h2:=r.lit hy ho'
  generalize hv:a.eval x=v at h1
  cases h1 with
  | @ptr _ _ b hl hκ=>
   have:=run_eq_ptr_nil (P:=P) (some ⟨b,off,none⟩) hp hte w'
   simp only[execOp,hv,h2,Sem.run_bind,eqG_ptr,Result.andThen_ok,this]
   rfl,.pv (.lit _)⟩) hK
theorem AOps.neqPP {x y:Operand} {t te t':TypeId} {i off:Nat} (hx:δ.ev x=.ptr i off) (hy:δ.ev y=.ptr i off) (hp:P.underlying t=some (.pointer te)) (hte:(P.info? te).isSome=true) (ho:okT x=true) (ho':okT y=true) (hd:okD δ.n dst=true)
  (hK:AOps q P g ops rest Q (δ.putd dst (litB false))):AOps q P g ops (⟨dst,.binOp .neq t x y t',ty,pos,af,none⟩::rest) Q δ:=
 AOps.valw _ hd (fun κ a w r=>⟨.bool false,fun w' _=>by
  obtain⟨j,hj⟩:=Option.isSome_iff_exists.1 hte
  have h1:=r.ra hx ho
  have h2:=r.ra hy ho'
  generalize hv:a.eval x=v at h1
  generalize hu:a.eval y=u at h2
  cases h1 with
  | @ptr _ _ b hl hκ=>
   cases h2 with
   | @ptr _ _ b' hl' hκ'=>
    have e:b=b':=Option.some.inj (hκ.symm.trans hκ')
    subst e
    have:=Lib.run_neq_ptr_same (P:=P) w' ⟨b,off,none⟩ hp hj
    simp only[execOp,hv,hu,Sem.run_bind,eqG_ptr,Result.andThen_ok,this]
    rfl,.pv (.lit _)⟩) hK
theorem shape_of {b:Nat} {c:Array Value} {e:TypeId} (h:w.heap[b]? =some (.cells c e (0,0))):w.shape? b=some (e,c.size):=by simp [World.shape?,h]
theorem AOps.toUnsafe {x:Operand} {s d t T:TypeId} {i:Nat} {vals:Array Value} (hx:δ.ev x=.ptr i 0) (hb:δ.ob i=some (.lit T vals)) (hs:P.underlying s=some (.pointer t)) (hdd:P.underlying d=some .unsafePointer) (ht:((P.info? t).map fun i=>Nat.blt 0 i.size)=some true) (h0:Nat.blt 0 vals.size=true) (ho:okT x=true) (hd:okD δ.n dst=true)
  (hK:AOps .plain P g ops rest Q (δ.putd dst (.ptr i 0))):AOps .plain P g ops (⟨dst,.convert s d x,ty,pos,af,none⟩::rest) Q δ:=
 AOps.eff rfl rfl (fun κ a w r=>by
  obtain⟨j,hj,hjs⟩:∃j,P.info? t=some j∧j.size≠0:=by
   cases h:P.info? t with
   |none=>rw[h] at ht;simp at ht
   |some j=>rw[h] at ht;simp at ht;exact⟨j,rfl,by omega⟩
  obtain⟨b,h1,h2,h3⟩:=r.litb (r.ra hx ho) hb
  have hr:=Lib.run_to_unsafe (P:=P) w ⟨b,0,none⟩ hs hdd hj hjs (shape_of h3) (by simpa using h0)
  refine .inl ⟨.value (.pointer (some ⟨b,0,none⟩)),_,w,_,?_,.inl rfl,r.putd (okD_spec hd) (by rw[← h1];exact r.ra hx ho)⟩
  simp only[execOp,h1,Sem.run_bind,hr,Result.andThen_ok]
  rfl) hK
theorem AOps.fromUnsafe {x:Operand} {s d t T:TypeId} {i:Nat} {vals:Array Value} (hx:δ.ev x=.ptr i 0) (hb:δ.ob i=some (.lit T vals)) (hs:P.underlying s=some .unsafePointer) (hdd:P.underlying d=some (.pointer t)) (ht:(P.info? t).isSome=true) (hl:liesAt P P.depth T (vals.size / P.cellsOf T) 0 t 1=true) (ho:okT x=true) (hd:okD δ.n dst=true)
  (hK:AOps .plain P g ops rest Q (δ.putd dst (.ptr i 0))):AOps .plain P g ops (⟨dst,.convert s d x,ty,pos,af,none⟩::rest) Q δ:=
 AOps.eff rfl rfl (fun κ a w r=>by
  obtain⟨j,hj⟩:=Option.isSome_iff_exists.1 ht
  obtain⟨b,h1,h2,h3⟩:=r.litb (r.ra hx ho) hb
  have hr:=Lib.run_from_unsafe (P:=P) w ⟨b,0,none⟩ hs hdd hj (shape_of h3) hl
  refine .inl ⟨.value (.pointer (some ⟨b,0,none⟩)),_,w,_,?_,.inl rfl,r.putd (okD_spec hd) (by rw[← h1];exact r.ra hx ho)⟩
  simp only[execOp,h1,Sem.run_bind,hr,Result.andThen_ok]
  rfl) hK
theorem AOps.noEscape {f:FuncId} {fn:Func} {x:Operand} {tys:Array TypeId} {v:AV} (hf:P.funcs[f]? =some fn) (hname:(fn.name== "runtime.NumGoroutine")=false) (hbn:fn.body.isNone=true) (hn:Extern.findNext fn=none) (he:Extern.find fn=some Extern.AbiNoEscape.same) (hx:δ.ev x=v) (ho:okT x=true) (hd:okD δ.n dst=true)
  (hK:AOps .plain P g ops rest Q (δ.putd dst v)):AOps .plain P g ops (⟨dst,.call {callee:=.value (.func f),args:= #[x],argTypes:=tys},ty,pos,af,none⟩::rest) Q δ:=
 AOps.eff rfl rfl (fun κ a w r=>by
  have hr:=run_callFunc_extern hf hname hbn hn he #[a.eval x] w
  rw[Lib.run_noEscape,Result.andThen_ok] at hr
  have key:∀ρ:Operand→Value,ρ (.func f)=.func (.func f) #[] #[]→(callFunc f #[ρ x]).run P w=.ok (.value (ρ x)) w→(execOp ρ ⟨dst,.call {callee:=.value (.func f),args:= #[x],argTypes:=tys},ty,pos,af,none⟩).run P w=.ok (.value (ρ x)) w:=by
   intro ρ h1 h2
   simp [execOp,resolve,Deferred.ofValue,invoke,h1,h2]
  exact .inl ⟨.value (a.eval x),_,w,_,key _ rfl hr,.inl rfl,r.putd (okD_spec hd) (r.ra hx ho)⟩) hK
inductive LitL:List Value→List AV→Prop
 |nil:LitL [] []
 |cons {v:Value} {vs:List Value} {l:List AV} (h:LitL vs l):LitL (v::vs) (.pv (.lit v)::l)
theorem LitL.eq {vs:List Value} {l:List AV} (h:LitL vs l):vs.map (fun u=> .pv (.lit u))=l:=by
 induction h with
 |nil=>rfl
 |cons h ih=>rw[List.map_cons,ih]
theorem Eff.store_lit {x y:Operand} {t T:TypeId} {i off:Nat} {vals:Array Value} {v:AV} (hx:δ.ev x=.ptr i off) (hy:δ.ev y=v) (hb:δ.ob i=some (.lit T vals)) (hlt:Nat.blt off vals.size=true) (hall:vals.toList.all (·.oneCell')=true) (ht:(P.info? t).map (·.size)=some 1) (h1:v.one=true) (ho:okT x=true) (ho':okT y=true) (hd:okD δ.n dst=true) (hwk:g.wtOk i):
  Eff P g ⟨dst,.store t x y,ty,pos,af,gd⟩ δ ((δ.setOb i (some (.box ((vals.toList.map fun u=> .pv (.lit u)).set off v)))).putd dst .any):=by
 intro κ a w r
 obtain⟨b,hv,hκ,h3⟩:=r.litb (r.ra hx ho) hb
 have hlt':off<vals.size:=by simpa using hlt
 have hyv:=r.ra hy ho'
 have hone:=hyv.one h1
 have hrun:(execOp a.eval ⟨dst,.store t x y,ty,pos,af,gd⟩).run P w=.ok .skip (w.setCell ⟨b,off,none⟩ (a.eval y)):=by
  obtain⟨i0,hi0,hs0⟩:∃i0,P.info? t=some i0∧i0.size=1:=by
   cases h:P.info? t with
   |none=>rw[h] at ht;simp at ht
   |some i0=>rw[h] at ht;exact⟨i0,rfl,by simpa using ht⟩
  have hc:w.cell? ⟨b,off,none⟩=some vals[off]:=by rw[cell_of h3,Array.getElem?_eq_getElem (by omega)]
  have hst:(store ⟨b,off,none⟩ (a.eval y)).run P w=.ok () (w.setCell ⟨b,off,none⟩ (a.eval y)):=by
   rw[run_store P w _ _ _ hone,hc];simp [frozen_of h3]
  simp [execOp,Instr.storeAt,Instr.sureAddr,storeVar,hv,cells_one hone,sizeOf,typeInfo,hi0,hs0,storeCells,addr_add,hst]
 obtain⟨r',G⟩:=r.modify (o':=.box ((vals.toList.map fun u=> .pv (.lit u)).set off v)) hb rfl rfl hκ hwk (Turns.setCell w ⟨b,off,none⟩ (a.eval y)) (by simp [World.setCell]) (fun C hCκ G=>⟨b,_,T,by rw[hCκ];exact hκ,setCell_heap h3 _,by simp,fun j u av h6 h7=>by
  rw[Array.getElem?_setIfInBounds] at h6
  rw[List.getElem?_set] at h7
  by_cases ej:off=j
  ·rw[if_pos ej] at h6 h7
   rw[if_pos (by omega)] at h6
   rw[if_pos (by simp;omega)] at h7
   cases h6;cases h7
   exact⟨G.ra hyv,hone⟩
  ·rw[if_neg ej] at h6 h7
   simp only[List.getElem?_map,Option.map_eq_some_iff] at h7
   obtain⟨z,h8,rfl⟩:=h7
   rw[Array.getElem?_toList] at h8
   rw[h6] at h8
   cases h8
   exact⟨.pv (.lit _),(List.all_eq_true.1 hall) _ (List.mem_of_getElem? (by rw[Array.getElem?_toList];exact h6))⟩⟩)
 exact .inl ⟨_,_,_,_,hrun,.inr ⟨rfl,rfl⟩,r'.putd (okD_spec hd) (.any _)⟩
theorem AOps.store_lit {x y:Operand} {t T:TypeId} {i off:Nat} {vals:Array Value} {v:AV} {cs:List AV} (hx:δ.ev x=.ptr i off) (hy:δ.ev y=v) (hb:δ.ob i=some (.lit T vals)) (hcs:LitL vals.toList cs) (hlt:Nat.blt off vals.size=true) (hall:vals.toList.all (·.oneCell')=true) (ht:(P.info? t).map (·.size)=some 1) (h1:v.one=true) (ho:okT x=true) (ho':okT y=true) (hd:okD δ.n dst=true) (hwt:g.wt=none)
  (hK:AOps .plain P g ops rest Q ((δ.setOb i (some (.box (cs.set off v)))).putd dst .any)):AOps .plain P g ops (⟨dst,.store t x y,ty,pos,af,none⟩::rest) Q δ:=AOps.eff rfl rfl (Eff.store_lit hx hy hb hlt hall ht h1 ho ho' hd (wtOk_none hwt i)) (by rw[hcs.eq];exact hK)
end Go.Ab
/- strings.Builder's String over objects. -/
set_option maxHeartbeats 1000000
set_option maxRecDepth 100000
namespace Go.Ab
open Go Go.RowKit Go.Proofs Go.Shelf
variable {P:Program} {ρ:Ren}
theorem freeze_other (w:World) (p:Addr) (n k:Nat) (h:p.block≠k):(w.freeze p n).heap[k]? =w.heap[k]?:=by
 unfold World.freeze
 split
 ·rfl
 ·simp only[Array.getElem?_modify]
  rw[if_neg h]
theorem freeze_size (w:World) (p:Addr) (n:Nat):(w.freeze p n).heap.size=w.heap.size:=by
 unfold World.freeze
 split
 ·rfl
 ·simp
theorem string_at (L:Lays.n169 P ρ) (X:Builder.Extra P ρ) {T:TypeId} {B b:Nat} {p v:Value} (l:List UInt8) (w:World) (hbk:w.heap[b]? =some (.cells #[p,v] T (0,0))) (hown:w.ownsRow B (ρ.t 5) 1 v l.length (Lib.byteCells l)) (h0:l≠ []):
  Calls P (ρ.f 169) #[.pointer (some ⟨b,0,none⟩)] w fun e w'=>e=.returned (.string ⟨l.toArray⟩)∧∃g,v.ownBlock=some g∧w'=w.drew.freeze ⟨g,0,none⟩ l.length:=by
 have hl0:l.length≠0:=by simpa using h0
 obtain⟨g,cap,cur,rfl,hbg,hg,hnc,hcm,hcs,htake⟩:∃g cap cur,v=.slice (some ⟨g,0,none⟩) l.length cap∧B≤g∧w.heap[g]? =some (.cells cur (ρ.t 5) (0,0))∧l.length≤cap∧cap≤maxLen∧cur.size=cap*1∧cur.toList.take (l.length*1)=Lib.byteCells l:=by
  rcases hown.2 with ⟨_,hz⟩|⟨g,cap,cur,hv,r⟩
  ·exact absurd hz hl0
  ·exact⟨g,cap,cur,hv,r⟩
 have c1:w.drew.cell? ⟨b,1,none⟩=some (.slice (some ⟨g,0,none⟩) l.length cap):=by
  have:w.drew.heap[b]? =some (.cells #[p,.slice (some ⟨g,0,none⟩) l.length cap] T (0,0)):=hbk
  rw[Lib.cell_of_heap this];rfl
 have hSD:(Builtin.unsafeSliceData_ #[(ρ.t 37)] (ρ.t 127) #[.slice (some ⟨g,0,none⟩) l.length cap]).run P w.drew=.ok (.pointer (some ⟨g,0,none⟩)) w.drew:=
  Lib.run_unsafeSliceData_row _ _ _ _ _ _ (by omega)
 have hUS:(Builtin.unsafeString_ #[(ρ.t 127),(ρ.t 3)] (ρ.t 9) #[.pointer (some ⟨g,0,none⟩),.int .i64 l.length]).run P w.drew=.ok (.string ⟨l.toArray⟩) (w.drew.freeze ⟨g,0,none⟩ l.length):=by
  refine Lib.run_unsafeString_row w.drew (ρ.t 127) (ρ.t 3) (ρ.t 9) (ρ.t 5) L.t127 X.cellsByte g cur.size (by have hg':w.drew.heap[g]? =some (.cells cur (ρ.t 5) (0,0)):=hg;simp [World.shape?,hg']) l h0 (by omega) (by unfold maxLen at hcm;omega) ?_
  intro j x hx
  exact hown.cells (g:=g) rfl j (.int .u8 x.toNat) (by simp [Lib.byteCells,hx])
 have mixed:=L.mixed
 have t72:=L.t72;have a72:=L.a72;have z72:=L.z72;have v72:=L.v72;have u72:=run_underlying L.t72
 have t70:=L.t70;have a70:=L.a70;have z70:=L.z70;have v70:=L.v70;have u70:=run_underlying L.t70
 have t37:=L.t37;have a37:=L.a37;have z37:=L.z37;have v37:=L.v37;have u37:=run_underlying L.t37
 have t127:=L.t127;have a127:=L.a127;have z127:=L.z127;have v127:=L.v127;have u127:=run_underlying L.t127
 have t3:=L.t3;have a3:=L.a3;have z3:=L.z3;have v3:=L.v3;have u3:=run_underlying L.t3
 have t9:=L.t9;have a9:=L.a9;have z9:=L.z9;have v9:=L.v9;have u9:=run_underlying L.t9
 have t5:=X.t5;have a5:=X.a5;have z5:=X.z5;have v5:=X.v5;have u5:=run_underlying X.t5
 go_enter L.f169,Body.n169_ntmps ρ
 go_wp2
 go_region_o
 all_goals (go_wp2;go_ret;exact⟨rfl,g,rfl,rfl⟩)
theorem bytesE_cells {C:Cx} {w:World} {v:Value} {i:Nat} {e:TypeId} {l:List UInt8} (h:OwnV C w v i e 1 (bytesE l)):w.ownsRow C.B e 1 v l.length (Lib.byteCells l):=by
 obtain⟨xs,h1,h2,h3⟩:=h.row
 rw[bytesE_len] at h1
 have:xs=Lib.byteCells l:=by
  have hl:xs.length=l.length:=by simpa using h1.1
  apply List.ext_getElem?
  intro j
  unfold Lib.byteCells
  rw[List.getElem?_map]
  cases hb:l[j]? with
  |none=>rw[List.getElem?_eq_none];rfl;rw[List.getElem?_eq_none_iff] at hb;omega
  |some b=>
   obtain⟨u,h4,h5⟩:=h3 j 0 (.lit (.int .u8 b.toNat)) (by unfold cellAt bytesE;rw[List.getElem?_map,hb];rfl)
   simp only[Nat.mul_one,Nat.add_zero] at h4
   rw[h4]
   cases h5
   rfl
 rw[← this]
 exact h1
theorem string_fnX (L:Lays.n169 P ρ) (X:Builder.Extra P ρ) (i j n0:Nat) (hij:i≠j) (hi:i<n0) (hj:j<n0) (l:List UInt8) (h0:l≠ []) (hen:∀vals w,(callFunc (ρ.f 169) vals).run P w=.ok (.enter (ρ.f 169) vals) w):
  FnX P (ρ.f 169) n0 [(i,some (.box [.ptr i 0,.own j (ρ.t 5) 1 (bytesE l)])),(j,some .row)] [.ptr i 0] [(i,some (.box [.any,.any])),(j,some .row)] (litS ⟨l.toArray⟩):=by
 refine⟨hen,fun g κ w vals hro hwt _ r hs hargs=>?_⟩
 have hs:vals.size=1:=hs
 obtain⟨v0,rfl⟩:∃v0,vals= #[v0]:=by
  rcases vals with ⟨_|⟨v0,_|_⟩⟩<;>simp at hs
  exact⟨v0,rfl⟩
 have hoi:(XS [(i,some (.box [.ptr i 0,.own j (ρ.t 5) 1 (bytesE l)])),(j,some .row)] n0).ob i=some (.box [.ptr i 0,.own j (ρ.t 5) 1 (bytesE l)]):=by
  show lookOb _ _=_
  rw[lookOb_cons,if_pos rfl]
 have hoj:(XS [(i,some (.box [.ptr i 0,.own j (ρ.t 5) 1 (bytesE l)])),(j,some .row)] n0).ob j=some .row:=by
  show lookOb _ _=_
  rw[lookOb_cons,if_neg hij,lookOb_cons,if_pos rfl]
 obtain⟨b,c,e,rfl,hκ,h3,h4,h5⟩:=r.box (hargs 0 v0 _ rfl rfl) hoi
 have h4:c.size=2:=h4
 obtain⟨p,v,rfl⟩:∃p v,c= #[p,v]:=by
  rcases c with ⟨_|⟨p,_|⟨v,_|_⟩⟩⟩<;>simp at h4
  exact⟨p,v,rfl⟩
 have hv:=(h5 1 v _ rfl rfl).1.own_inv
 have h51:=(h5 0 p _ rfl rfl).2
 have h52:=(h5 1 v _ rfl rfl).2
 refine(string_at L X l w h3 (bytesE_cells hv) h0).mono ?_
 rintro en w' ⟨rfl,gb,hgb,rfl⟩
 have hκj:κ j=some gb:=hv.blk gb hgb
 have hlj:(XS [(i,some (.box [.ptr i 0,.own j (ρ.t 5) 1 (bytesE l)])),(j,some .row)] n0).live j:=⟨_,hoj⟩
 have hli:(XS [(i,some (.box [.ptr i 0,.own j (ρ.t 5) 1 (bytesE l)])),(j,some .row)] n0).live i:=⟨_,hoi⟩
 have hne:gb≠b:=fun e=>hij (r.inj i j b hli hlj hκ (e▸hκj))
 have hgB:=r.lo j gb hlj hκj
 have hoth:∀k,gb≠k→(w.drew.freeze ⟨gb,0,none⟩ l.length).heap[k]? =w.heap[k]?:=fun k hk=>freeze_other _ _ _ _ hk
 have hrow:∃cur,w.heap[gb]? =some (.cells cur (ρ.t 5) (0,0)):=by
  rcases(bytesE_cells hv).2 with ⟨rfl,_⟩|⟨g',cap,cur,rfl,_,hg,_⟩
  ·simp [Value.ownBlock] at hgb
  ·simp only[Value.ownBlock,Option.some.injEq] at hgb
   subst hgb
   exact⟨cur,hg⟩
 obtain⟨cur,hcur⟩:=hrow
 let objs1:List (Nat×Option Ob):=[(i,some (.box [.any,.any])),(j,some .row)]
 have ho1:∀k o,(XS objs1 n0).ob k=some o→(k=i∧o=.box [.any,.any])∨(k=j∧o=.row):=by
  intro k o h
  have h:lookOb objs1 k=some o:=h
  rw[lookOb_cons] at h
  by_cases e1:i=k
  ·rw[if_pos e1] at h;cases h;exact .inl ⟨e1.symm,rfl⟩
  ·rw[if_neg e1,lookOb_cons] at h
   by_cases e2:j=k
   ·rw[if_pos e2] at h;cases h;exact .inr ⟨e2.symm,rfl⟩
   ·rw[if_neg e2] at h;cases h
 have hκ':∀k,upd κ j none k=if j=k then none else κ k:=fun k=>rfl
 have hlive1:∀k bb,(XS objs1 n0).live k→upd κ j none k=some bb→k=i∧κ i=some bb:=by
  rintro k bb ⟨o,h⟩ e
  rw[hκ'] at e
  rcases ho1 k o h with ⟨rfl,_⟩|⟨rfl,_⟩
  ·rw[if_neg (Ne.symm hij)] at e;exact⟨rfl,e⟩
  ·rw[if_pos rfl] at e;cases e
 refine⟨upd κ j none,⟨_,rfl,.pv (.lit _)⟩,?_,fun k bb hp hk=>?_⟩
 ·exact
   {n:=rfl
    dfr:=by
     obtain⟨rs,e1,e2,e3⟩:=r.dfr
     refine⟨rs,e1,e2,fun k hk=>⟨(e3 k hk).1,?_⟩⟩
     rw[hoth k (by rintro rfl;have:=(e3 _ hk).2;rw[hcur] at this;cases this)]
     exact(e3 k hk).2
    env:=fun k=> .any _
    obj:=fun k o h=>by
     rcases ho1 k o h with ⟨rfl,rfl⟩|⟨rfl,rfl⟩
     ·refine⟨b, #[p,v],e,by show upd κ j none k=_;rw[hκ',if_neg (Ne.symm hij)];exact hκ,(hoth b hne).trans h3,rfl,fun m u av h6 h7=>?_⟩
      match m,h6,h7 with
      |0,h6,h7=>simp at h6 h7;subst h6;subst h7;exact⟨.any _,h51⟩
      |1,h6,h7=>simp at h6 h7;subst h6;subst h7;exact⟨.any _,h52⟩
      |m+2,h6,h7=>simp at h7
     ·intro bb hbb
      have hbb:upd κ k none k=some bb:=hbb
      rw[hκ',if_pos rfl] at hbb
      cases hbb
    inj:=fun k k' bb h1 h2 h3 h4=>by rw[(hlive1 k bb h1 h3).1,(hlive1 k' bb h2 h4).1]
    lo:=fun k bb h1 h2=>by
     obtain⟨rfl,h6⟩:=hlive1 k bb h1 h2
     have:=r.lo k bb hli h6
     exact⟨this.1,by rw[freeze_size];exact this.2⟩
    nx:=fun k ⟨o,h⟩=>by rcases ho1 k o h with ⟨rfl,_⟩|⟨rfl,_⟩<;>assumption
    wt:=fun k hk=>by rw[hwt] at hk;cases hk
    below:=Lib.below_freeze (Below.drew r.below) (p:=⟨gb,0,none⟩) hgB.1 _
    hB:=by rw[freeze_size];exact r.hB
    N0:=r.N0
    fr:=fun bb hbb=>by
     obtain⟨h1,h2,h3⟩:=r.fr bb hbb
     refine⟨h1,(hoth bb fun e=>h3 j hlj (e▸hκj)).trans h2,fun k hk e=>?_⟩
     obtain⟨rfl,h6⟩:=hlive1 k bb hk e
     exact h3 k hli h6
    mkf:=fun d hd=>by cases hd}
 ·have:k=i:=by
   rcases hp with hp|hp
   ·simp only[pinL,List.mem_cons,AV.ptr.injEq,List.not_mem_nil,or_false] at hp
    exact hp.1
   ·simp [pinL] at hp
  subst this
  rw[hκ',if_neg (Ne.symm hij)]
  exact hk
end Go.Ab
/- A function that defers a closure over two of its variables,which recovers. -/
namespace Go.Ab
open Go Go.RowKit
variable {P:Program} {g:Ghost} {δ:DS} {κ:Nat→Option Nat} {a:Act} {w:World} {Q:Exit→DS→Prop}
def AWr (P:Program) (g:Ghost) (c:Code) (R:Exit→Act→World→Prop) (δ:DS):Prop:=∀κ a w,Rel g δ κ a w→c.wpIn (Fw g.ro) 0 P R a w
theorem AWr.of {c:Code} {R:Exit→Act→World→Prop} (h:AW P g c Q δ) (hR:∀e a w,lift g Q e a w→R e a w):AWr P g c R δ:=fun κ a w r=>wpIn_mono (h κ a w r) hR
def AW0 (P:Program) (g:Ghost) (c:Code) (R:Exit→Act→World→Prop) (δ:DS):Prop:=∀κ a w,a.defers=[]→Rel g δ κ a w→c.wpIn (Fw g.ro) 0 P R a w
def AO0 (P:Program) (g:Ghost) (ops:Array Oper) (l:List Oper) (c:Code) (R:Exit→Act→World→Prop) (δ:DS):Prop:=∀κ a w,a.defers=[]→Rel g δ κ a w→wpListIn (Fw g.ro) 0 P ops (Exit.then (c.wpIn (Fw g.ro) 0 P R) R) l a w
theorem AW0.region {id:Nat} {l:List Oper} {c:Code} {R:Exit→Act→World→Prop} (h:AO0 P g l.toArray l c R δ):AW0 P g (.seq (.region id l.toArray false) c) R δ:=
 fun κ a w ha r=>wpIn_seq (wpIn_region_lit (h κ a w ha r))
theorem AO0.nil {ops:Array Oper} {c:Code} {R:Exit→Act→World→Prop} (h:AW0 P g c R δ):AO0 P g ops [] c R δ:=fun κ a w ha r=>by
 unfold wpListIn
 exact h κ a w ha r
theorem AO0.eff {ops:Array Oper} {o:Oper} {rest:List Oper} {c:Code} {R:Exit→Act→World→Prop} {δ':DS} (hg:o.guard=none) (hnd:noDefer o=true) (h:Eff P g o δ δ') (hc:∀(a:Act) (w:World) f vals,(execOp a.eval o).run P w≠ .ok (.enter f vals) w) (hK:AO0 P g ops rest c R δ'):AO0 P g ops (o::rest) c R δ:=by
 intro κ a w ha r
 refine wpl_plain hg hnd fun K hK'=>?_
 unfold Oper.wpF
 rcases h κ a w r with ⟨x,v,w',κ',hrun,hx,r'⟩|⟨f,vals,hrun,_⟩
 ·rw[hrun]
  rcases hx with rfl|⟨rfl,rfl⟩
  ·simp only[Oper.uponIn]
   exact hK' _ _ (hK κ' _ _ (by cases o.dst<;>exact ha) r')
  ·simp only[Oper.uponIn]
   exact hK' _ _ (hK κ' _ _ (by cases o.dst<;>exact ha) r')
 ·exact absurd hrun (hc _ _ _ _)
theorem AW0.defer {id d p1 p2 i1 i2:Nat} {fc:FuncId} {ty1 ty2:TypeId} {pos1 pos2:String} {af1 af2:Array Edge} {tys:Array TypeId} {c:Code} {R:Exit→Act→World→Prop}
  (hro:g.ro=none) (hwt:g.wt=none) (h1:δ.get p1=.ptr i1 0) (h2:δ.get p2=.ptr i2 0) (hp1:Nat.blt p1 HS=true) (hp2:Nat.blt p2 HS=true) (hd:okD δ.n (some d)=true) (hhi:hiE δ.env=[]) (hmk:g.mks=[])
  (h:∀(g':Ghost) (v1 v2:Value),g'.ro=none→g'.wt=none→Gi g' g→g'.N0=g.N0→g'.base=[{target:=.fn (.func fc) #[v1,v2],args:= #[]}]→g'.held 1000=.agg #[v1,v2]→AWr P g' c R ⟨δ.n,(d,.any)::(1000,.agg [.ptr i1 0,.ptr i2 0])::δ.env,δ.objs,δ.nx⟩):
  AW0 P g (.seq (.region id #[⟨some d,.makeFunc (.func fc) #[] #[.tmp p1,.tmp p2],ty1,pos1,af1,none⟩,⟨none,.defer {callee:=.value (.tmp d),args:= #[],argTypes:=tys},ty2,pos2,af2,none⟩] false) c) R δ:=by
 intro κ a w ha r
 have hv1:=r.env p1
 have hv2:=r.env p2
 rw[h1] at hv1
 rw[h2] at hv2
 have e1:∀q,Nat.blt q HS=true→g.val a q=a.eval (.tmp q):=fun q hq=>by
  have hq:q<HS:=by simpa using hq
  unfold Ghost.val
  rw[if_pos hq]
  rfl
 rw[e1 p1 hp1] at hv1
 rw[e1 p2 hp2] at hv2
 generalize hev1:a.eval (.tmp p1)=v1 at hv1
 generalize hev2:a.eval (.tmp p2)=v2 at hv2
 have hdl:=okD_spec hd d rfl
 have hlt:d<a.tmps.size:=by rw[r.n];exact hdl.1
 refine wpIn_seq ?_
 refine wpIn_region_lit (l:=[_,_]) ?_
 refine wpl_plain (ro:=g.ro) rfl rfl fun K hK=>?_
 have hr1:(execOp a.eval ⟨some d,.makeFunc (.func fc) #[] #[.tmp p1,.tmp p2],ty1,pos1,af1,none⟩).run P w=.ok (.value (.func (.func fc) #[] #[v1,v2])) w:=by
  have e:(#[Operand.tmp p1,Operand.tmp p2]:Array Operand).map a.eval= #[v1,v2]:=by
   rw[List.map_toArray,List.map_cons,List.map_cons,List.map_nil,hev1,hev2]
  have e':(#[]:Array Operand).map a.eval= #[]:=by simp
  simp only[execOp,e,e']
  rfl
 unfold Oper.wpF
 rw[hr1]
 simp only[Oper.uponIn]
 refine hK _ _ ?_
 have hev:(a.put (some d) (.func (.func fc) #[] #[v1,v2])).eval (.tmp d)=.func (.func fc) #[] #[v1,v2]:=by
  simp [Act.put,Act.eval,hlt]
 refine wpListIn_plain rfl fun K hK=>⟨fun _ _=>trivial,?_⟩
 have hr2:((⟨none,.defer {callee:=.value (.tmp d),args:= #[],argTypes:=tys},ty2,pos2,af2,none⟩:Oper).semAt (Fw g.ro).round (a.put (some d) (.func (.func fc) #[] #[v1,v2])).eval).run P w=.ok (.defer {target:=.fn (.func fc) #[v1,v2],args:= #[]}) w:=by
  rw[show(Fw g.ro).round=none from hro]
  simp [Oper.semAt,execOp,resolve,Deferred.ofValue,hev]
 rw[hr2]
 rw[Oper.uponIn_defer]
 refine hK _ _ ?_
 unfold wpListIn
 show c.wpIn (Fw g.ro) 0 P R {a.put (some d) (.func (.func fc) #[] #[v1,v2]) with defers:=[{target:=.fn (.func fc) #[v1,v2],args:= #[]}]++a.defers} w
 rw[ha,List.append_nil]
 let g':Ghost:={g with base:=[{target:=.fn (.func fc) #[v1,v2],args:= #[]}],held:=fun _=> .agg #[v1,v2]}
 have r':Rel g' ⟨δ.n,(d,.any)::(1000,.agg [.ptr i1 0,.ptr i2 0])::δ.env,δ.objs,δ.nx⟩ κ {a.put (some d) (.func (.func fc) #[] #[v1,v2]) with defers:=[{target:=.fn (.func fc) #[v1,v2],args:= #[]}]} w:=
  {n:=by show(a.put (some d) (.func (.func fc) #[] #[v1,v2])).tmps.size=_;simpa [Act.put] using r.n
   dfr:=⟨[],rfl,by rw[show g'.mks=[] from hmk];simp,by rw[show g'.mks=[] from hmk];simp⟩
   env:=fun j=>by
    show RA (δ.cx g κ) w (g'.val {a.put (some d) (.func (.func fc) #[] #[v1,v2]) with defers:=[{target:=.fn (.func fc) #[v1,v2],args:= #[]}]} j) (look ((d,.any)::(1000,.agg [.ptr i1 0,.ptr i2 0])::δ.env) j)
    rw[look_cons]
    by_cases e:d=j
    ·rw[if_pos e];exact .any _
    ·rw[if_neg e,look_cons]
     by_cases e':1000=j
     ·subst e'
      rw[if_pos rfl]
      have:g'.val {a.put (some d) (.func (.func fc) #[] #[v1,v2]) with defers:=[{target:=.fn (.func fc) #[v1,v2],args:= #[]}]} 1000=.agg #[v1,v2]:=by unfold Ghost.val;rw[if_neg (by show ¬1000<1000;omega)]
      rw[this]
      refine .agg rfl fun j u c h5 h6=>?_
      match j,h5,h6 with
      |0,h5,h6=>simp at h5 h6;subst h5;subst h6;exact hv1
      |1,h5,h6=>simp at h5 h6;subst h5;subst h6;exact hv2
      |j+2,h5,h6=>simp at h6
     ·rw[if_neg e']
      by_cases hj:j<HS
      ·have h5:=r.env j
       have e5:g'.val {a.put (some d) (.func (.func fc) #[] #[v1,v2]) with defers:=[{target:=.fn (.func fc) #[v1,v2],args:= #[]}]} j=g.val a j:=by
        unfold Ghost.val
        rw[if_pos hj,if_pos hj]
        simp [Act.put,Array.getD_eq_getD_getElem?,Array.getElem?_setIfInBounds,e]
       rw[e5]
       exact h5
      ·have h6:=look_hiE δ.env j
       rw[hhi,if_neg hj] at h6
       rw[← h6]
       exact .any _
   obj:=r.obj,inj:=r.inj,lo:=r.lo,nx:=r.nx,wt:=r.wt,below:=r.below,hB:=r.hB,N0:=r.N0,fr:=r.fr
   mkf:=fun d' hd'=>by
    have hd':d'∈ [({target:=.fn (.func fc) #[v1,v2],args:= #[]}:Deferred)]:=hd'
    simp only[List.mem_singleton] at hd'
    subst hd'
    intro k hk
    cases hk}
 exact h g' v1 v2 hro hwt ⟨rfl,rfl⟩ rfl rfl rfl κ _ w r'
theorem leavesBase (hwt:g.wt=none) {fn:Func} {u:FrameMode} (hu:u≠ .run) {R:Ending→World→Prop}:∀{a:Act} {w:World},Rel g δ κ a w→
  (∀w2,Rel g δ κ {a with defers:=g.base} w2→LeavesInM Fence.wide 0 P fn a.tmps R g.base u w2)→LeavesInM Fence.wide 0 P fn a.tmps R a.defers u w:=by
 intro a w r hR
 obtain⟨ms,h1,h2,h3⟩:=r.dfr
 rw[h1]
 induction ms generalizing a w with
 |nil=>
  have ra:Rel g δ κ {a with defers:=g.base} w:={r with dfr:=⟨[],rfl,h2,h3⟩,mkf:=fun d hd=>r.mkf d (by rw[h1];exact hd)}
  exact hR w ra
 |cons m ms ih=>
  refine⟨hu,.inl ⟨m,_,rfl,run_takeDeferred (h3 m (by simp)).2,?_⟩⟩
  have hm:=h3 m (by simp)
  rw[List.cons_append] at h2
  have hnd:=List.nodup_cons.1 h2
  have hkeep:∀k∈ms++g.mks,g.B≤k∧(w.putObj m (.deferred none)).heap[k]? =some (.deferred (some [])):=fun k hk=>
   ⟨(h3 k (by simp only[List.cons_append,List.mem_cons];exact .inr hk)).1,by rw[World.putObj_heap_other (by intro e;subst e;exact hnd.1 hk)];exact(h3 k (by simp only[List.cons_append,List.mem_cons];exact .inr hk)).2⟩
  have hd:Dfr g {a with defers:=(ms.map fun r=>({target:=.collected r,args:= #[]}:Deferred))++g.base} (w.putObj m (.deferred none)):=⟨ms,rfl,hnd.2,hkeep⟩
  have r2:=r.shut hwt hm.1 hm.2 (a':={a with defers:=(ms.map fun r=>({target:=.collected r,args:= #[]}:Deferred))++g.base}) rfl (fun d hd=>by rw[h1,List.map_cons,List.cons_append];exact List.mem_cons_of_mem _ hd) (r.mkf {target:=.collected m,args:= #[]} (by rw[h1];simp) m rfl) hd
  exact ih (a:={a with defers:=(ms.map fun r=>({target:=.collected r,args:= #[]}:Deferred))++g.base}) r2 (fun w2 r3=>hR w2 r3) rfl hnd.2 hkeep
def EndsR (P:Program) (rs:List ResultVar) (r:AV) (t:TypeId) (i1 i2 n1 n2 q1 q2:Nat):Exit→DS→Prop
 |.normal,δ|.ret,δ=>∃v,Res P δ rs v∧Le true v r
 |.panic ch,δ=>Pan t ch∧δ.get 1000=.agg [.ptr i1 0,.ptr i2 0]∧δ.get q1=.ptr i1 0∧δ.get q2=.ptr i2 0∧(∃c1,δ.ob i1=some (.box c1)∧c1.length=n1)∧(∃c2,δ.ob i2=some (.box c2)∧c2.length=n2)
 |_,_=>False
theorem endsR_ret {rs:List ResultVar} {r v:AV} {t:TypeId} {i1 i2 n1 n2 q1 q2:Nat} (h:Res P δ rs v) (hl:Le true v r):EndsR P rs r t i1 i2 n1 n2 q1 q2 .ret δ:=⟨v,h,hl⟩
theorem endsR_pan {rs:List ResultVar} {r:AV} {t:TypeId} {i1 i2 n1 n2 q1 q2:Nat} {ch:List PanicEntry} (h:Pan t ch) (h1:δ.get 1000=.agg [.ptr i1 0,.ptr i2 0]) (h2:δ.get q1=.ptr i1 0) (h3:δ.get q2=.ptr i2 0) (h4:∃c1,δ.ob i1=some (.box c1)∧c1.length=n1) (h5:∃c2,δ.ob i2=some (.box c2)∧c2.length=n2):EndsR P rs r t i1 i2 n1 n2 q1 q2 (.panic ch) δ:=⟨h,h1,h2,h3,h4,h5⟩
theorem run_store_whole {dst:Option Nat} {ty t:TypeId} {pos:String} {af:Array Edge} {x y:Operand} {ρ:Operand→Value} {b:Nat} {c:Array Value} {e:TypeId} (hx:ρ x=.pointer (some ⟨b,0,none⟩)) (h3:w.heap[b]? =some (.cells c e (0,0))) (hs:(ρ y).cells.size=c.size) (ht:(P.info? t).map (·.size)=some c.size) (hall:∀u∈(ρ y).cells.toList,u.oneCell'=true):
  (execOp ρ ⟨dst,.store t x y,ty,pos,af,none⟩).run P w=.ok .skip (w.setRow b (ρ y).cells):=by
 have hst:=run_storeCells_at P b 0 e (ρ y).cells.toList 0 c w h3 (by simp;omega) hall
 have hrow:(c.toList.take (0+0)++(ρ y).cells.toList++c.toList.drop (0+0+(ρ y).cells.toList.length)).toArray=(ρ y).cells:=by
  have:c.toList.drop (0+0+(ρ y).cells.toList.length)=[]:=List.drop_eq_nil_of_le (by simp;omega)
  rw[this];simp
 rw[hrow] at hst
 obtain⟨i0,hi0,hs0⟩:∃i0,P.info? t=some i0∧i0.size=c.size:=by
  cases h:P.info? t with
  |none=>rw[h] at ht;simp at ht
  |some i0=>rw[h] at ht;exact⟨i0,rfl,by simpa using ht⟩
 simp [execOp,Instr.storeAt,Instr.sureAddr,storeVar,hx,hs,sizeOf,typeInfo,hi0,hs0,hst]
theorem endsR_post {T:World→Prop} {fn:Func} {rs:List ResultVar} {r:AV} {t:TypeId} {i1 i2 n1 n2 q1 q2:Nat} {fc:FuncId} {Z1 Z2:Array Value} {v1 v2:Value} {N:Nat→Prop} {w0:World} (hrs:fn.results=rs.toArray) (hwt:g.wt=none) (hB:g.B=w0.heap.size) (hw0:g.w0=w0) (hN0:g.N0=N) (hN:∀b,w0.heap.size≤b→N b)
  (hbase:g.base=[{target:=.fn (.func fc) #[v1,v2],args:= #[]}]) (hheld:g.held 1000=.agg #[v1,v2]) (hen:∀vals w,(callFunc fc vals).run P w=.ok (.enter fc vals) w) (hne:i1≠i2) (hq1:Nat.blt q1 HS=true) (hq2:Nat.blt q2 HS=true)
  (hidle:∀w,CallsDIn Fence.wide 0 P fc #[v1,v2] .returning w fun e u' w'=>e=.returned (.tuple #[])∧u'=.returning∧w'=w)
  (hpan:∀(b1 b2:Nat) (c1 c2:Array Value) (e1 e2:TypeId) (w:World) (u:Value),v1=.pointer (some ⟨b1,0,none⟩)→v2=.pointer (some ⟨b2,0,none⟩)→u.oneCell'=true→b1≠b2→w.heap[b1]? =some (.cells c1 e1 (0,0))→c1.size=n1→w.heap[b2]? =some (.cells c2 e2 (0,0))→c2.size=n2→
   CallsDIn Fence.wide 0 P fc #[v1,v2] (.panicking [{v:=.iface t (.agg #[u]),recovered:=false}]) w fun e u' w'=>e=.returned (.tuple #[])∧u'=.panicking [{v:=.iface t (.agg #[u]),recovered:=true}]∧∃o,w'=((w.alloc o).setRow b1 Z1).setRow b2 Z2)
  (hz1:Z1.toList.all (·.oneCell')=true) (hz2:Z2.toList.all (·.oneCell')=true)
  (hres:∀δ':DS,δ'.get q1=.ptr i1 0→δ'.get q2=.ptr i2 0→δ'.ob i1=some (.box (Z1.toList.map fun u=> .pv (.lit u)))→δ'.ob i2=some (.box (Z2.toList.map fun u=> .pv (.lit u)))→∃v,Res P δ' rs v∧Le true v r):
  ∀e a w,lift g (EndsR P rs r t i1 i2 n1 n2 q1 q2) e a w→bodyPostM Fence.wide 0 P fn (fun e w'=>∃v,e=.returned v∧RA (pcx N) w' v r∧Below w0.heap.size w0 w') e a w:=by
 have htake:∀{a:Act} {w3:World} {δ3:DS} {κ3:Nat→Option Nat} {v:AV},Rel g δ3 κ3 {a with defers:=g.base} w3→Res P δ3 rs v→Le true v r→LeavesInM Fence.wide 0 P fn a.tmps (fun e w'=>∃v,e=.returned v∧RA (pcx N) w' v r∧Below w0.heap.size w0 w') [] .returning w3:=by
  intro a w3 δ3 κ3 v r3 h1 h2
  obtain⟨u,h4,h5⟩:=h1.run hrs r3
  refine⟨u,h4,u,rfl,h5.le h2 (fun b _ h=>hN0▸h.1) (fun _ i b hi hκ=>hN b (hB▸(r3.lo i b (DS.lr_live hi) hκ).1)),?_⟩
  have:=r3.below
  rw[hB,hw0] at this
  exact this
 rintro e a w ⟨δ,κ,hq,r'⟩
 have hret:(∃v,Res P δ rs v∧Le true v r)→LeavesInM Fence.wide 0 P fn a.tmps (fun e w'=>∃v,e=.returned v∧RA (pcx N) w' v r∧Below w0.heap.size w0 w') a.defers .returning w:=by
  rintro⟨v,h1,h2⟩
  refine leavesBase hwt (by simp) r' fun w2 r2=>?_
  have hb2:=hbase
  rw[hbase]
  refine⟨by simp,.inr ⟨by simp [Fence.wide],_,_,fc, #[v1,v2],rfl,by simp [invoke,hen],fun _ _=>trivial,?_⟩⟩
  refine(hidle w2).mono ?_
  rintro e u' w' ⟨rfl,rfl,rfl⟩
  exact htake r2 h1 h2
 cases e with
 |normal=>exact hret hq
 |ret=>exact hret hq
 |panic ch=>
  obtain⟨⟨u,rfl,hu⟩,h1000,hg1,hg2,⟨c1,ho1,hc1⟩,⟨c2,ho2,hc2⟩⟩:=hq
  refine leavesBase hwt (by simp) r' fun w2 r2=>?_
  rw[hbase]
  have h5:=r2.env 1000
  rw[h1000] at h5
  have h6:g.val {a with defers:=g.base} 1000=.agg #[v1,v2]:=by unfold Ghost.val;rw[if_neg (by show ¬1000<1000;omega)];exact hheld
  rw[h6] at h5
  cases h5 with
  |agg hs h=>
   have hp1:=h 0 v1 _ rfl rfl
   have hp2:=h 1 v2 _ rfl rfl
   obtain⟨b1,d1,e1,hv1,hκ1,hh1,hd1,_⟩:=r2.box hp1 ho1
   obtain⟨b2,d2,e2,hv2,hκ2,hh2,hd2,_⟩:=r2.box hp2 ho2
   have hbne:b1≠b2:=fun e=>hne (r2.inj i1 i2 b1 ⟨_,ho1⟩ ⟨_,ho2⟩ hκ1 (e▸hκ2))
   refine⟨by simp,.inr ⟨by simp [Fence.wide],_,_,fc, #[v1,v2],rfl,by simp [invoke,hen],fun _ _=>trivial,?_⟩⟩
   refine(hpan b1 b2 d1 d2 e1 e2 w2 u hv1 hv2 hu hbne hh1 (hd1.trans hc1) hh2 (hd2.trans hc2)).mono ?_
   rintro e u' w' ⟨rfl,rfl,o,rfl⟩
   have r3:Rel g δ κ {a with defers:=g.base} (w2.alloc o):=r2.ext ((Below.refl _ _).alloc (Nat.le_refl _) _)
   have hh1':(w2.alloc o).heap[b1]? =some (.cells d1 e1 (0,0)):=(Lib.alloc_old w2 o b1 (heap_lt hh1)).trans hh1
   have hh2':(w2.alloc o).heap[b2]? =some (.cells d2 e2 (0,0)):=(Lib.alloc_old w2 o b2 (heap_lt hh2)).trans hh2
   have hlit:∀{Z:Array Value} {C:Cx} {w:World},Z.toList.all (·.oneCell')=true→∀(j:Nat) (u:Value) (av:AV),Z[j]? =some u→(Z.toList.map fun u=>AV.pv (.lit u))[j]? =some av→RA C w u av∧u.oneCell'=true:=by
    intro Z C w hz j u av h1 h2
    simp only[List.getElem?_map,Option.map_eq_some_iff] at h2
    obtain⟨x,h3,rfl⟩:=h2
    rw[Array.getElem?_toList,h1] at h3
    cases h3
    exact⟨.pv (.lit _),(List.all_eq_true.1 hz) _ (List.mem_of_getElem? (by rw[Array.getElem?_toList];exact h1))⟩
   obtain⟨r4,_⟩:=r3.modify (o':=.box (Z1.toList.map fun u=> .pv (.lit u))) ho1 rfl rfl hκ1 (wtOk_none hwt i1) (Turns.setRow _ b1 Z1) (by simp) (fun C hCκ G=>⟨b1,_,e1,by rw[hCκ];exact hκ1,setRow_heap _ b1 d1 _ e1 _ hh1',by simp,hlit hz1⟩)
   have hh2'':((w2.alloc o).setRow b1 Z1).heap[b2]? =some (.cells d2 e2 (0,0)):=(setRow_other _ b1 b2 _ (Ne.symm hbne)).trans hh2'
   have ho2':(δ.setOb i1 (some (.box (Z1.toList.map fun u=> .pv (.lit u))))).ob i2=some (.box c2):=by rw[ob_setOb,if_neg hne];exact ho2
   obtain⟨r5,_⟩:=r4.modify (o':=.box (Z2.toList.map fun u=> .pv (.lit u))) ho2' rfl rfl hκ2 (wtOk_none hwt i2) (Turns.setRow _ b2 Z2) (by simp) (fun C hCκ G=>⟨b2,_,e2,by rw[hCκ];exact hκ2,setRow_heap _ b2 d2 _ e2 _ hh2'',by simp,hlit hz2⟩)
   obtain⟨v,hv,hle⟩:=hres ((δ.setOb i1 (some (.box (Z1.toList.map fun u=> .pv (.lit u))))).setOb i2 (some (.box (Z2.toList.map fun u=> .pv (.lit u))))) (by exact hg1) (by exact hg2) (by rw[ob_setOb,if_neg (Ne.symm hne),ob_setOb,if_pos rfl]) (by rw[ob_setOb,if_pos rfl])
   exact htake r5 hv hle
 |_=>exact hq.elim
theorem FnW.enterR {T:World→Prop} (hst:Stay T) {f:FuncId} {fn:Func} {c:Code} {n:Nat} {args:List AV} {r:AV} (hf:P.funcs[f]? =some fn) (hb:fn.body=some c) (hn:fn.ntmps=n) (hna:Nat.ble args.length n=true)
  (hna':Nat.ble n HS=true) (he:(fn.name== "runtime.NumGoroutine")=false)
  (h:∀(g:Ghost) (N:Nat→Prop) (w0:World),g.ro=none→g.wt=none→g.mks=[]→g.B=w0.heap.size→g.w0=w0→g.N0=N→(∀b,w0.heap.size≤b→N b)→TB T g→AW0 P g c (bodyPostM Fence.wide 0 P fn (fun e w'=>∃v,e=.returned v∧RA (pcx N) w' v r∧Below w0.heap.size w0 w')) (start n args)):FnW T P f args r:=by
 refine⟨fun vals w=>by simp [callFunc,hf,hb];simpa using he,fun N w vals hTw hN hs hargs=>?_⟩
 have hle:args.length≤n:=by simpa using hna
 have hnH:n≤HS:=by simpa using hna'
 let g:Ghost:={B:=w.heap.size,w0:=w,N0:=N,held:=fun _=>undef,ro:=none,mks:=[],wt:=none,fr:=fun _=>False,w1:=w}
 have hnl:∀i,¬(start n args).live i:=fun i ⟨o,h⟩=>by cases h
 refine callsIn_wide.1 (callsIn_of_wp_marks (n:=0) hf hb trivial (h g N w rfl rfl rfl rfl rfl rfl hN (fun w' hb=>hst w w' hTw hb) (fun _=>none) _ w rfl ?_))
 exact
  {n:=by simp [hn,start];omega
   dfr:=⟨[],rfl,by simp [g],by simp [g]⟩
   env:=fun j=>by
    by_cases hj:j<args.length
    ·have h1:(start n args).get j=args[j]:=look_enum args 0 j _ (Nat.zero_le _) (by simp [hj])
     have h2:g.val {tmps:=vals++Array.replicate (fn.ntmps - vals.size) undef,defers:=[]} j=vals[j]'(by omega):=by
      unfold Ghost.val
      rw[if_pos (by omega)]
      simp [Array.getD_eq_getD_getElem?,Array.getElem?_append,hs,hj]
     rw[h1,h2]
     exact(hargs j _ _ (Array.getElem?_eq_getElem (by omega)) (List.getElem?_eq_getElem hj)).of_pcx _ fun b _ h=>⟨h,fun i hi=>absurd hi (hnl i)⟩
    ·have h1:(start n args).get j=.any:=look_enum_out args 0 j (by omega)
     rw[h1];exact .any _
   obj:=fun i o h=>by cases h
   inj:=fun i j b h=>absurd h (hnl i)
   lo:=fun i b h=>absurd h (hnl i)
   nx:=fun i h=>absurd h (hnl i)
   wt:=fun k hk=>by cases hk
   below:=Below.refl _ _
   hB:=Nat.le_refl _
   N0:=fun b h _=>hN b h
   fr:=fun b hb=>hb.elim
   mkf:=fun d hd=>by cases hd}
end Go.Ab
/- Eight values laid out. -/
namespace Go.Ab
open Go Go.RowKit
variable {q:Md} {P:Program} {g:Ghost} {δ:DS} {κ:Nat→Option Nat} {a:Act} {w:World}
variable {ops:Array Oper} {rest:List Oper} {Q:Exit→DS→Prop} {dst:Option Nat} {ty:TypeId} {pos:String} {af:Array Edge}
end Go.Ab
/- Maps from whole numbers to slices:elder entries told whole,the last one over a row of the walk's own. -/
namespace Go.Ab
open Go Go.RowKit
variable {q:Md} {P:Program} {g:Ghost} {δ:DS} {κ:Nat→Option Nat} {a:Act} {w:World}
variable {gd:Option (Tmp×Bool)} {ops:Array Oper} {rest:List Oper} {Q:Exit→DS→Prop} {dst:Option Nat} {ty:TypeId} {pos:String} {af:Array Edge}
def rowsM (D:List (Int×List Int)):List (Int×AV):=D.map fun p=>(p.1,.pv (ints p.2))
theorem rows_ids (D:List (Int×List Int)) (A B:Nat→Bool):∀p∈mpI (rowsM D),p.2.ids A B=true:=by
 intro p hp
 simp only[mpI,rowsM,List.map_map,List.mem_map] at hp
 obtain⟨x,_,rfl⟩:=hp
 rfl
theorem WO.rows {δ δ':DS} {i:Nat} {D:List (Int×List Int)} (h:δ.ob i=some (.mp (mpI (rowsM D)))):WO δ δ' i (.mp (mpI (rowsM D))):=.mp h (rows_ids D _ _)
theorem Weak.sw (i j:Nat) {δ δ':DS} (hwt:g.wt=none) (hi:Nat.blt i δ.nx=true) (hj:Nat.blt j δ.nx=true) (h:Weak g (δ.sw i j) δ'):Weak g δ δ':=
 fun _ a w r=>h _ a w (r.sw i j (by simpa using hi) (by simpa using hj) (fun k hk=>by rw[hwt] at hk;cases hk))
section
variable {k:Wt} {late:List Nat} {l:List Oper} {dn:List Nat} {QD:Exit→DS→Prop}
end
end Go.Ab
/- The last bit of a number turned;objects renumbered ahead of a region. -/
namespace Go.Ab
open Go Go.RowKit
variable {P:Program} {g:Ghost} {δ:DS} {q:Md}
variable {ops:Array Oper} {rest:List Oper} {Q:Exit→DS→Prop} {dst:Option Nat} {ty:TypeId} {pos:String} {af:Array Edge}
theorem AOps.makeFunc_f1 {fn:Go.Fn} {x:Operand} {u1:AV} (hx:δ.ev x=u1) (ho:okT x=true) (hd:okD δ.n dst=true) (hK:AOps q P g ops rest Q (δ.putd dst (.clo fn [u1] []))):AOps q P g ops (⟨dst,.makeFunc fn #[x] #[],ty,pos,af,none⟩::rest) Q δ:=
 AOps.valw _ hd (fun κ a w r=>⟨.func fn #[a.eval x] #[],fun w' _=>by simp [execOp,Instr.makeFunc],.clo rfl (fun j u c h1 h2=>by
  match j with
  |0=>simp at h1 h2;subst h1;subst h2;exact r.ra hx ho
  |j+1=>simp at h2) rfl (fun j u c h=>by simp at h)⟩) hK
end Go.Ab
/- Any number of values of one cell laid out. -/
namespace Go.Ab
open Go Go.RowKit
variable {q:Md} {P:Program} {g:Ghost} {δ:DS} {κ:Nat→Option Nat} {a:Act} {w:World}
variable {ops:Array Oper} {rest:List Oper} {Q:Exit→DS→Prop} {dst:Option Nat} {ty:TypeId} {pos:String} {af:Array Edge}
inductive PvS (δ:DS):Nat→List (Nat×Operand)→List PV→Prop
 |nil {i:Nat}:PvS δ i [] []
 |cons {i:Nat} {x:Operand} {p:PV} {ps:List PV} {r:List (Nat×Operand)} (h:δ.ev x=.pv p) (h1:AV.one (.pv p)=true) (ho:okT x=true) (hr:PvS δ (i+1) r ps):PvS δ i ((i,x)::r) (p::ps)
theorem PvS.fill {δ:DS} {i:Nat} {parts:List (Nat×Operand)} {ps:List PV} (h:PvS δ i parts ps):∀cells:List AV,cells.length=i+ps.length→fillA (fun i=>some (i*1,1)) cells (parts.map fun p=>(p.1,δ.ev p.2))=some (cells.take i++ps.map .pv):=by
 induction h with
 |nil=>
  intro cells hc
  simp [fillA]
  rw[List.take_of_length_le]
  simp at hc;omega
 | @cons i x p ps r h h1 ho hr ih=>
  intro cells hc
  simp only[List.length_cons] at hc
  have hle:i<cells.length:=by omega
  show(match some (i*1,1) with
   |none=>none
   |some (off,size)=>bif Nat.beq (δ.ev x).cellsOf.length size && Nat.ble (off+(δ.ev x).cellsOf.length) cells.length && AV.ones (δ.ev x).cellsOf then fillA _ (setsA cells off (δ.ev x).cellsOf) _ else none)=_
  rw[h]
  have hb2:Nat.ble (i*1+1) cells.length=true:=by rw[Nat.ble_eq];omega
  have hb3:AV.ones [.pv p]=true:=by simp [AV.ones];exact h1
  simp only[AV.cellsOf,List.length_cons,List.length_nil,Nat.zero_add,show Nat.beq 1 1=true from rfl,hb2,hb3,Bool.and_self,cond_true]
  rw[show setsA cells (i*1) [.pv p]=cells.set i (.pv p) by rw[Nat.mul_one];rfl,ih _ (by rw[List.length_set];omega)]
  have e1:(cells.set i (.pv p)).take (i+1)=cells.take i++ [.pv p]:=by
   rw[List.take_succ_eq_append_getElem (by rw[List.length_set];omega),List.getElem_set_self]
   congr 1
   rw[List.take_set,List.set_eq_of_length_le (by rw[List.length_take];omega)]
  rw[e1];simp
theorem PvS.ok {δ:DS} {i:Nat} {parts:List (Nat×Operand)} {ps:List PV} (h:PvS δ i parts ps):parts.all (fun p=>okT p.2)=true:=by
 induction h with
 |nil=>rfl
 |cons h h1 ho hr ih=>simp [ho,ih]
theorem flat1:∀ps:List PV,ps=(ps.map fun p=>[p]).flatten
 |[]=>rfl
 |p::ps=>by rw[List.map_cons,List.flatten_cons,← flat1 ps];rfl
theorem AOps.bsS {t e:TypeId} {len:Nat} {parts:List (Nat×Operand)} {ps:List PV} {z:Value} (ht:P.underlying t=some (.slice e)) (hi:(P.info? e).map (fun i=>(i.size,i.zero))=some (1,some z)) (hzk:Nat.beq z.cells.size 1=true)
  (hlen:Nat.ble (len*1) 16777216=true) (h1:z.cells.toList.all (·.oneCell')=true) (hR:PvS δ 0 parts ps) (hn:ps.length=len) (hd:okD δ.n dst=true) (hK:AOps .plain P g ops rest Q ((δ.addOb .row).putd dst (.own δ.nx e 1 (ps.map fun p=>[p])))):
  AOps .plain P g ops (⟨dst,.buildSlice t len parts.toArray,ty,pos,af,none⟩::rest) Q δ:=by
 have hf:=hR.fill (zerosA z (len*1)) (by simp [zerosA,hn])
 rw[List.take_zero,List.nil_append] at hf
 have:=Eff.buildSlice (P:=P) (g:=g) (δ:=δ) (gd:=none) (dst:=dst) (ty:=ty) (pos:=pos) (af:=af) ht hi hzk rfl hlen h1 hR.ok hf (by simp [AV.isPv]) hd
 have e2:(ps.map AV.pv)=((ps.map fun p=>[p]).flatten.map .pv):=by
  congr 1
  exact flat1 ps
 rw[e2,show len=(ps.map fun p=>[p]).length by rw[List.length_map,hn],chunk_flat 1 _ (by simp)] at this
 rw[show len=(ps.map fun p=>[p]).length by rw[List.length_map,hn]]
 exact AOps.eff rfl rfl this hK
theorem AOps.neqU {x y:Operand} {t t':TypeId} {m n:Int} {k:IntKind} (hx:δ.ev x=.pv (.lit (.int k m))) (hy:δ.ev y=.pv (.lit (.int k n))) (ho:okT x=true) (ho':okT y=true) (hd:okD δ.n dst=true)
  (hK:AOps q P g ops rest Q (δ.putd dst (litB (decide (¬m=n))))):AOps q P g ops (⟨dst,.binOp .neq t x y t',ty,pos,af,none⟩::rest) Q δ:=
 AOps.bin hx hy ho ho' (run_int _ _ _ _ _ _ _ _ (by simp) (by simp only[Op.intCmp,bne_dec];rfl)) hd hK
theorem WV.strE {δ':DS} {s s':ByteArray} (h:s=s'):WV δ δ' (.pv (.lit (.string s))) (.pv (.lit (.string s'))):=.eq (by rw[h]) rfl
theorem AW.swO (id t j i:Nat) {b:Bool} {l:Array Oper} {cc:Code} {e:TypeId} {k:Nat} {els:List (List PV)} (hwt:g.wt=none) (_h:δ.ev (.tmp t)=.own j e k els) (hi:Nat.blt i δ.nx=true) (hj:Nat.blt j δ.nx=true) (hK:AW P g ((Code.region id l b).seq cc) Q (δ.sw i j)):AW P g ((Code.region id l b).seq cc) Q δ:=
 AW.weak (Weak.sw i j hwt hi hj (fun κ a w r=>⟨κ,r⟩)) hK
end Go.Ab
/- A callee that takes one value out of a row of one-cell values in place:Go's slices.Delete. -/
namespace Go.Ab
open Go Go.RowKit
variable {P:Program} {g:Ghost} {δ:DS} {κ:Nat→Option Nat} {a:Act} {w:World}
variable {ops:Array Oper} {rest:List Oper} {Q:Exit→DS→Prop} {dst:Option Nat} {ty:TypeId} {pos:String} {af:Array Edge} {gd:Option (Tmp×Bool)}
end Go.Ab
/- Equality of structs of three whole numbers. -/
namespace Go.Ab
open Go Go.RowKit
variable {q:Md} {P:Program} {g:Ghost} {δ:DS} {κ:Nat→Option Nat} {a:Act} {w:World}
variable {ops:Array Oper} {rest:List Oper} {Q:Exit→DS→Prop} {dst:Option Nat} {ty:TypeId} {pos:String} {af:Array Edge}
end Go.Ab
/- The builtin copy into a row of the walk's own,of one-cell elements. -/
namespace Go.Ab
open Go Go.RowKit
variable {P:Program} {g:Ghost} {δ:DS} {κ:Nat→Option Nat} {a:Act} {w:World}
variable {ops:Array Oper} {rest:List Oper} {Q:Exit→DS→Prop} {dst:Option Nat} {ty:TypeId} {pos:String} {af:Array Edge} {gd:Option (Tmp×Bool)}
def copied {α:Type} (src els:List α):List α:=src.take (min src.length els.length)++els.drop (min src.length els.length)
theorem copied_len {α:Type} (src els:List α):(copied src els).length=els.length:=by unfold copied;simp;omega
theorem copied_get {α:Type} {src els:List α} {i:Nat} (h:i<els.length):(copied src els)[i]? =if i<src.length then src[i]? else els[i]?:=by
 unfold copied
 by_cases hi:i<src.length
 ·rw[if_pos hi,List.getElem?_append_left (by simp;omega),List.getElem?_take,if_pos (by omega)]
 ·rw[if_neg hi,List.getElem?_append_right (by simp;omega),List.getElem?_drop]
  congr 1
  simp;omega
theorem Eff.copy {dT sT elem:TypeId} (ts:List Nat) {x y:Operand} {i:Nat} {e:TypeId} {els src:List (List PV)} (hx:δ.ev x=.own i e 1 els) (hy:δ.ev y=.pv (.slice 1 src)) (hts:allAt δ (.own i e 1 els) ts) (hr:δ.ob i=some .row)
  (hu:P.underlying dT=some (.slice elem)) (hsz:(P.info? elem).map (·.size)=some 1) (ho:okT x=true) (ho':okT y=true) (hd:okD δ.n dst=true):
  Eff P g ⟨dst,.call {callee:=.builtin .copy,args:= #[x,y],argTypes:= #[dT,sT]},ty,pos,af,none⟩ δ ((putAll (δ.mapV (AV.kill i)) (.own i e 1 (copied src els)) ts).putd dst (litI (min src.length els.length:Nat))):=by
 intro κ a w r
 left
 have hxv:=(r.ra hx ho).own_inv
 have hyv:=(r.ra hy ho').pv_inv
 have hnn:okD (putAll (δ.mapV (AV.kill i)) (.own i e 1 (copied src els)) ts).n dst=true:=by rw[putAll_n];exact hd
 have hoth:∀t∈ts,OwnV (δ.cx g κ) w (g.val a t) i e 1 els:=fun t ht=>by
  have:=r.env t
  rw[allAt_mem hts t ht] at this
  exact this.own_inv
 have hlr:((δ.mapV (AV.kill i)).cx g κ).Lr i:=by
  show(δ.mapV (AV.kill i)).ob i=some .row
  rw[ob_mapV,hr];rfl
 obtain⟨n,hn⟩:∃n,n=min src.length els.length:=⟨_,rfl⟩
 generalize hev:a.eval y=yv at hyv
 cases hyv with
 | @slice sa len scap _ _ sb soff vs hl hcap hb ha hk hc hrp=>
  subst hl
  have hnone:n=0→(∃v w',(execOp a.eval ⟨dst,.call {callee:=.builtin .copy,args:= #[x,y],argTypes:= #[dT,sT]},ty,pos,af,none⟩).run P w=.ok (.value v) w'∧Rel g ((putAll (δ.mapV (AV.kill i)) (.own i e 1 (copied src els)) ts).putd dst (litI (n:Nat))) κ (a.put dst v) w'):=by
   intro h0
   obtain⟨xs0,hown0⟩:=hxv.row
   obtain⟨sa',sc',hxe⟩:=hxv.inv
   have hrun:=run_copy_none (P:=P) w dT sT ty elem sa' sa els.length sc' src.length scap hu hsz (show Nat.min src.length els.length=0 by show min src.length els.length=0;omega)
   refine⟨goInt 0,w,?_,?_⟩
   ·simp [execOp,resolve,invoke,builtin,hxe,hev,hrun,Result.andThen]
   ·obtain⟨rk,G⟩:=r.row hr (κ':=κ) (w':=w) (fun _ _=>rfl) ⟨rfl,rfl,rfl,Nat.le_refl _,fun _ _ _=>rfl⟩ (fun b hb'=>by
     obtain⟨c,e',h1⟩:=r.obj i .row hr b hb'
     exact⟨.inl hb',(Array.getElem?_eq_some_iff.1 h1).1,c,e',h1⟩) (AV.kill i) rfl (fun G v av h=>h.kill G)
    have hce:copied src els=els:=by unfold copied;rw[← hn,h0];simp
    have ra:Rel g (putAll (δ.mapV (AV.kill i)) (.own i e 1 (copied src els)) ts) κ a w:=rk.learnAll ts fun t ht=>by
     have h1:=hoth t ht
     rw[hce]
     obtain⟨xs,h3,h4,h5⟩:=h1.row
     exact .own ⟨hlr,h1.lim,h1.hk,h1.blk,xs,h3,h4,fun i' j p hp=>let ⟨u,h6,h7⟩:=h5 i' j p hp;⟨u,h6,G.rp (C:=(δ.cx g κ).less i) h7⟩⟩
    rw[h0]
    exact ra.putd (okD_spec hnn) (by rw[cx_putAll];exact .pv (.lit _))
  rw[← hn]
  by_cases h0:n=0
  ·obtain⟨v,w',h1,h2⟩:=hnone h0
   exact⟨_,v,w',κ,h1,.inl rfl,h2⟩
  ·obtain⟨xs,⟨hxl,hown⟩,hone,hcell⟩:=hxv.row
   rw[Nat.mul_one] at hxl
   rcases hown with ⟨_,hz⟩|⟨b,cap,c,hv,hB,hbk,hcp,hmax,hcs,htk⟩
   ·omega
   ·have hκ:κ i=some b:=hxv.blk b (by rw[hv];rfl)
    rw[Nat.mul_one] at hcs htk
    obtain⟨hsa,hNb,hsb⟩:=ha (by rintro rfl;simp at hn;omega)
    subst hsa
    obtain⟨cs,hcsd⟩:∃cs,cs=(List.range n).map fun j=>vs j 0:=⟨_,rfl⟩
    have hcl:cs.length=n:=by rw[hcsd];simp
    have hcg:∀j,j<n→cs[j]? =some (vs j 0):=fun j hj=>by rw[hcsd,List.getElem?_map,List.getElem?_range hj];rfl
    have hsp:∀j,j<n→∃p,cellAt src j 0=some p:=fun j hj=>by
     have hj':j<src.length:=by omega
     have:=hk _ (List.getElem_mem hj')
     have h1:0<src[j].length:=by omega
     exact⟨src[j][0],by simp [cellAt,List.getElem?_eq_getElem hj',List.getElem?_eq_getElem h1]⟩
    have hrun:=run_copy_row (P:=P) w dT sT ty elem b 0 els.length cap ⟨sb,soff,none⟩ src.length scap c e cs hu hsz hbk (by rw[hcl];exact hn) (fun j v hj=>by
      have hjn:j<n:=by have:=(List.getElem?_eq_some_iff.1 hj).1;omega
      rw[hcg j hjn] at hj
      cases hj
      obtain⟨p,hp⟩:=hsp j hjn
      have:=(hc j 0 p hp).1
      rw[addr_add]
      simpa using this) (by omega) (fun v hv'=>by
      obtain⟨j,hj⟩:=List.getElem?_of_mem hv'
      have hjn:j<n:=by have:=(List.getElem?_eq_some_iff.1 hj).1;omega
      rw[hcg j hjn] at hj
      cases hj
      obtain⟨p,hp⟩:=hsp j hjn
      exact(hc j 0 p hp).2)
    obtain⟨nw,hnw⟩:∃nw:List Value,nw=c.toList.take 0++cs++c.toList.drop (0+cs.length):=⟨_,rfl⟩
    have hnw2:nw=cs++c.toList.drop n:=by rw[hnw,hcl];simp
    rw[← hnw] at hrun
    have hh:(w.setRow b nw.toArray).heap[b]? =some (.cells nw.toArray e (0,0)):=setRow_heap w b c nw.toArray e (0,0) hbk
    have hT:Turns w (w.setRow b nw.toArray) (κ i):=by
     rw[hκ]
     exact⟨rfl,rfl,rfl,by simp [World.setRow],fun k _ hne=>setRow_other w b k _ (fun e'=>hne (by rw[e']))⟩
    obtain⟨rk,G⟩:=r.row hr (κ':=κ) (fun _ _=>rfl) hT (fun b' hb'=>by
     obtain rfl:b=b':=Option.some.inj (hκ.symm.trans hb')
     exact⟨.inl hκ,(Array.getElem?_eq_some_iff.1 hh).1,_,_,hh⟩) (AV.kill i) rfl (fun G v av h=>h.kill G)
    have hxn:nw.take els.length=cs++xs.drop n:=by
     rw[hnw2,List.take_append,hcl]
     congr 1
     ·exact List.take_of_length_le (by omega)
     ·rw[← htk,List.drop_take]
    have ra:Rel g (putAll (δ.mapV (AV.kill i)) (.own i e 1 (copied src els)) ts) κ a (w.setRow b nw.toArray):=rk.learnAll ts fun t ht=>by
     obtain⟨h1,h2,h3,h4,xs',⟨hxl',hown'⟩,_,_⟩:=hoth t ht
     refine .own ⟨hlr,by rw[copied_len];exact h2,fun d hd'=>?_,h4,cs++xs.drop n,⟨?_,?_⟩,fun u hu'=>?_,fun i' j p hp=>?_⟩
     ·unfold copied at hd'
      rcases List.mem_append.1 hd' with hd'|hd'
      ·exact hk d (List.mem_of_mem_take hd')
      ·exact h3 d (List.mem_of_mem_drop hd')
     ·rw[copied_len,Nat.mul_one];simp;omega
     ·rw[copied_len]
      rcases hown' with ⟨hn',hz⟩|⟨b',cap',c',hv',hB',hbk',hcp',hmax',hcs',htk'⟩
      ·omega
      ·have hκ':κ i=some b':=h4 b' (by rw[hv'];rfl)
       obtain rfl:b=b':=Option.some.inj (hκ.symm.trans hκ')
       rw[hbk] at hbk'
       simp only[Option.some.injEq,Obj.cells.injEq] at hbk'
       obtain⟨rfl,_⟩:=hbk'
       have hns:nw.length=c.size:=by rw[hnw2];simp;omega
       refine .inr ⟨b,cap',nw.toArray,hv',hB',hh,hcp',hmax',by simp;omega,?_⟩
       rw[Nat.mul_one,List.toList_toArray];exact hxn
     ·rcases List.mem_append.1 hu' with hu'|hu'
      ·obtain⟨j,hj⟩:=List.getElem?_of_mem hu'
       have hjn:j<n:=by have:=(List.getElem?_eq_some_iff.1 hj).1;omega
       rw[hcg j hjn] at hj
       cases hj
       obtain⟨p,hp⟩:=hsp j hjn
       exact(hc j 0 p hp).2
      ·exact hone u (List.mem_of_mem_drop hu')
     ·have hil:i'<els.length:=by
       unfold cellAt at hp
       cases hq:(copied src els)[i']? with
       |none=>rw[hq] at hp;simp at hp
       |some q=>have:=(List.getElem?_eq_some_iff.1 hq).1;rw[copied_len] at this;exact this
      have hp':cellAt (if i'<src.length then src else els) i' j=some p:=by
       unfold cellAt at hp ⊢
       rw[copied_get hil] at hp
       split at hp
       ·rename_i h;rw[if_pos h];exact hp
       ·rename_i h;rw[if_neg h];exact hp
      by_cases his:i'<src.length
      ·rw[if_pos his] at hp'
       have hj0:j=0:=by
        unfold cellAt at hp'
        rw[List.getElem?_eq_getElem his] at hp'
        have h6:=hk _ (List.getElem_mem his)
        have:=(List.getElem?_eq_some_iff.1 hp').1
        omega
       subst hj0
       have hin:i'<n:=by omega
       refine⟨vs i' 0,?_,G.rp (C:=(δ.cx g κ).less i) (hrp i' 0 p hp')⟩
       rw[Nat.mul_one,Nat.add_zero,List.getElem?_append_left (by omega),hcg i' hin]
      ·rw[if_neg his] at hp'
       obtain⟨u,h6,h7⟩:=hcell i' j p hp'
       have hj0:j=0:=by
        unfold cellAt at hp'
        rw[List.getElem?_eq_getElem hil] at hp'
        have h8:=hxv.hk _ (List.getElem_mem hil)
        have:=(List.getElem?_eq_some_iff.1 hp').1
        omega
       subst hj0
       refine⟨u,?_,G.rp (C:=(δ.cx g κ).less i) h7⟩
       rw[Nat.mul_one,Nat.add_zero] at h6 ⊢
       rw[List.getElem?_append_right (by omega),List.getElem?_drop,hcl,← h6]
       congr 1;omega
    refine⟨.value (goInt n),goInt n,w.setRow b nw.toArray,κ,?_,.inl rfl,ra.putd (okD_spec hnn) (by rw[cx_putAll];exact .pv (.lit _))⟩
    rw[hcl] at hrun
    simp [execOp,resolve,invoke,builtin,hv,hev,hrun,Result.andThen]
theorem AOps.copy {dT sT elem:TypeId} (ts:List Nat) {x y:Operand} {i:Nat} {e:TypeId} {els src:List (List PV)} (hx:δ.ev x=.own i e 1 els) (hy:δ.ev y=.pv (.slice 1 src)) (hts:allAt δ (.own i e 1 els) ts) (hr:δ.ob i=some .row)
  (hu:P.underlying dT=some (.slice elem)) (hsz:(P.info? elem).map (·.size)=some 1) (ho:okT x=true) (ho':okT y=true) (hd:okD δ.n dst=true)
  (hK:AOps .plain P g ops rest Q ((putAll (δ.mapV (AV.kill i)) (.own i e 1 (copied src els)) ts).putd dst (litI (min src.length els.length:Nat)))):
  AOps .plain P g ops (⟨dst,.call {callee:=.builtin .copy,args:= #[x,y],argTypes:= #[dT,sT]},ty,pos,af,none⟩::rest) Q δ:=AOps.eff rfl rfl (Eff.copy ts hx hy hts hr hu hsz ho ho' hd) hK
end Go.Ab
/- An index into an own row of any form. -/
namespace Go.Ab
open Go Go.RowKit
variable {q:Md} {P:Program} {g:Ghost} {δ:DS} {ops:Array Oper} {rest:List Oper} {Q:Exit→DS→Prop} {dst:Option Nat} {ty:TypeId} {pos:String} {af:Array Edge}
end Go.Ab
/- Sets of strings:maps from strings to true. -/
namespace Go.Ab
open Go Go.RowKit
variable {q:Md} {P:Program} {g:Ghost} {δ:DS} {κ:Nat→Option Nat} {a:Act} {w:World}
variable {gd:Option (Tmp×Bool)} {ops:Array Oper} {rest:List Oper} {Q:Exit→DS→Prop} {dst:Option Nat} {ty:TypeId} {pos:String} {af:Array Edge}
def mpS (l:List ByteArray):List (Value×AV):=l.map fun s=>(.string s,litB true)
theorem WO.strs {δ δ':DS} {i:Nat} {l:List ByteArray} (h:δ.ob i=some (.mp (mpS l))):WO δ δ' i (.mp (mpS l)):=.mp h fun p hp=>by
 obtain⟨x,_,rfl⟩:=List.mem_map.1 hp
 rfl
end Go.Ab
/- Maps from structs of three whole numbers to whole numbers. -/
namespace Go.Ab
open Go Go.RowKit
variable {q:Md} {P:Program} {g:Ghost} {δ:DS} {κ:Nat→Option Nat} {a:Act} {w:World}
variable {gd:Option (Tmp×Bool)} {ops:Array Oper} {rest:List Oper} {Q:Exit→DS→Prop} {dst:Option Nat} {ty:TypeId} {pos:String} {af:Array Edge}
abbrev Key3:=Int×Int×Int
def keyV (k:Key3):Value:=.agg #[.int .i64 k.1,.int .i64 k.2.1,.int .i64 k.2.2]
def mpV (l:List (Key3×Int)):List (Value×AV):=l.map fun p=>(keyV p.1,litI p.2)
theorem WO.vals {δ δ':DS} {i:Nat} {l:List (Key3×Int)} (h:δ.ob i=some (.mp (mpV l))):WO δ δ' i (.mp (mpV l)):=.mp h fun p hp=>by
 obtain⟨x,_,rfl⟩:=List.mem_map.1 hp
 rfl
end Go.Ab
