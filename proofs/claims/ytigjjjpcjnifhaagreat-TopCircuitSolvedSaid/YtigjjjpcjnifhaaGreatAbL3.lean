/- A slice held against nil; a slice made with room and no element. -/
import Derived.Test.YtigjjjpcjnifhaaGreatAbL2
import Derived.WalkSpells
import Derived.Lib.SliceRun
import Derived.Laws.Small
import Derived.Scope
import Derived.Sort.Row
import Derived.Sort.Grow
import Derived.Lib.AppendZeros
set_option linter.unusedSimpArgs false
set_option linter.unusedVariables false
namespace Go.Ab
open Go Go.RowKit
variable {P:Program} {g:eZ} {δ:DS} {q:Md}
theorem a_.ZR {ι:Type} {ops:Array Oper} {o:Oper} {rest:List Oper} {Q:Exit→DS→Prop} (v:ι→AV) (φ:ι→Prop) (hg:o.guard=none) (jg:ka o=true) (hd:fT δ.n o.dst=true)
  (h:∀κ a w,Rel g δ κ a w→∃i,φ i∧∃u,(∀w',lR δ κ w w'→(execOp a.eval o).run P w'=.ok (.value u) w')∧RA (δ.cx g κ) w u (v i)) (hK:∀i,φ i→a_ q P g ops rest Q (δ.eW o.dst (v i))):a_ q P g ops (o::rest) Q δ:=by
 intro κ a w r
 obtain⟨i,hi,u,h1,h2⟩:=h κ a w r
 have uE:=hK i hi κ _ _ (r.eW (ft hd) h2)
 cases q with
 |quiet=>
  show wpQuiet P ops _ _ (o::rest) a
  unfold wpQuiet
  rw[if_pos (by simp [Region.wanted,hg])]
  refine⟨u,fun w' jf=>?_,uE⟩
  unfold Oper.quietAt
  rw[h1 w' (lR.CK jf)]
  exact⟨rfl,rfl⟩
 |held=>
  show yc P ops _ _ (o::rest) a
  refine⟨u,.inl ⟨by simp [Region.wanted,hg],fun w' jf=>h1 w' jf⟩,?_⟩
  ·have hH:lR (δ.eW o.dst (v i)) κ w=lR δ κ w:=by unfold lR;rw[xl]
   simp only[hH,rY] at uE
   exact uE
 |plain=>
  show wpListIn _ _ P ops _ (o::rest) a w
  refine gF hg jg fun K oA=>?_
  unfold Oper.y9
  rw[h1 w (lR.refl _ _ _),Oper.uponIn_value]
  exact oA _ _ uE
variable {ops:Array Oper} {rest:List Oper} {Q:Exit→DS→Prop} {dst:Option Nat} {ty:TypeId} {pos:String} {af:Array Edge}
theorem tg {t e:TypeId} (ht:P.underlying t=some (.slice e)) (x y:Operand) (b:Option Addr) (n c:Nat) (w:World):
  (do eqGuard .eql t x y (.slice b n c) (.slice none 0 0);Go.binOp .eql t (.slice b n c) (.slice none 0 0):Sem Value).run P w=.ok (.bool b.isNone) w:=by
 have h1:(eqGuard .eql t x y (.slice b n c) (.slice none 0 0)).run P w=.ok () w:=by
  unfold eqGuard
  simp [Sem.run,pure,Sem.bind,bind]
 rw[Sem.run_bind,h1,Result.andThen_ok]
 exact Lib.run_eql_slice_nil w t e b n c 0 0 ht
theorem a_.tv {x y:Operand} {t e t':TypeId} {k:Nat} {fa:List (List PV)} (hx:δ.ev x=.pv (.slice k fa)) (hy:δ.ev y=.pv (.lit (.slice none 0 0))) (ht:P.underlying t=some (.slice e)) (ho:fj x=true) (ga:fj y=true) (hd:fT δ.n dst=true)
  (hT:fa=[]→a_ q P g ops rest Q (δ.eW dst (fq true))) (hF:True→a_ q P g ops rest Q (δ.eW dst (fq false))):a_ q P g ops (⟨dst,.binOp .eql t x y t',ty,pos,af,none⟩::rest) Q δ:=by
 refine a_.ZR (ι:=Bool) (fun b=>fq b) (fun b=>b=true→fa=[]) rfl rfl hd (fun κ a w r=>?_) (fun b hb=>?_)
 ·have h1:=(r.ra hx ho).lV
  have h2:=r.lit hy ga
  generalize hv:a.eval x=v at h1
  cases h1 with
  | @slice ad len cap k fa bl off vs hl oX hb ha GZ hc hr=>
   refine⟨ad.isNone,fun hn=>?_,.bool ad.isNone,fun w' _=>?_,.pv (.lit _)⟩
   ·rcases fa with _|⟨c,fa⟩
    ·rfl
    ·have:=(ha (by simp)).1
     rw[this] at hn;simp at hn
   ·have:=tg ht x y ad len cap w'
    simp only[execOp,hv,h2]
    simp only[Sem.run_bind,this,Result.andThen_ok] at*
    first|rfl|simp [this]
 ·cases b with
  |true=>exact hT (hb rfl)
  |false=>exact hF trivial
theorem iV.tn {gd:Option (Tmp×Bool)} {t e:TypeId} {x y:Operand} {m:Int} {z:Value} {k by':Nat} (hx:δ.ev x=eU 0) (hy:δ.ev y=eU m) (ht:P.underlying t=some (.slice e)) (hi:(P.info? e).map (fun i=>(i.size,i.zero,i.bytes))=some (k,some z,by')) (hb:Nat.ble by' 64=true)
  (ho:fj x=true) (ga:fj y=true) (hd:fT δ.n dst=true) (hm:0≤m∧m≤100000):
  iV P g ⟨dst,.makeSlice t x y,ty,pos,af,gd⟩ δ ((δ.fQ .row).eW dst (.own δ.nx e k [])):=by
 intro κ a w r
 have jn:by'≤64:=by simpa using hb
 obtain⟨i0,jM,mW,oH,CG⟩:∃i0,P.info? e=some i0∧i0.size=k∧i0.zero=some z∧i0.bytes=by':=by
  cases h:P.info? e with
  |none=>rw[h] at hi;simp at hi
  |some i0=>rw[h] at hi;simp at hi;exact⟨i0,rfl,hi.1,hi.2.1,hi.2.2⟩
 have MN:=r.lit hx ho
 have Xt:=r.lit hy ga
 have X_:IntKind.i64.wrap m=m:=IntWalk.i64_in _ (by omega)
 have Z6:IntKind.i64.wrap 0=0:=IntWalk.i64_in _ (by omega)
 generalize Ao:((Array.range (m.toNat*k)).map (fun j=>z.cells[j % z.cells.size]!))=c'
 have pI:c'.size=m.toNat*k:=by rw[← Ao];simp
 have hmul:by'*m.toNat≤6400000:=by
  have h1:by'*m.toNat≤64*m.toNat:=Nat.mul_le_mul_right _ jn
  omega
 have UQ:(by':Int)*m≤6400000:=by
  have:((by'*m.toNat:Nat):Int)≤6400000:=by omega
  rw[Int.natCast_mul,Int.toNat_of_nonneg hm.1] at this
  exact this
 have fF:(execOp a.eval ⟨dst,.makeSlice t x y,ty,pos,af,gd⟩).run P w=.ok (.value (.slice (some ⟨w.heap.size,0,none⟩) 0 m.toNat)) (w.alloc (.cells c' e)):=by
  have mY:∀w,(typeInfo e).run P w=.ok i0 w:=fun w=>by simp [typeInfo,jM]
  have Ey:∀w,(zeroValue e).run P w=.ok z w:=fun w=>by simp [zeroValue,typeInfo,jM,oH]
  have Ty:∀w,(sizeOf e).run P w=.ok k w:=fun w=>by simp [sizeOf,typeInfo,jM,mW]
  have has:∀(m:Int) w,(asInt (.int .i64 m)).run P w=.ok m w:=fun m w=>by simp [asInt,asIntOf,Sem.run_bind,Sem.run_pure,Result.andThen_ok]
  have LC:¬(by':Int)*m>2 ^ 48:=by
   have:(2:Int) ^ 48=281474976710656:=by decide
   omega
  have T3:¬(by':Int)*0>2 ^ 48:=by rw[Int.mul_zero];decide
  have BH:¬m<0:=by omega
  have hneg0:¬m<0:=by omega
  have lQ:¬m.toNat*by'>roomBytes:=by
   have:(6400000:Nat)≤roomBytes:=by decide
   have h2:m.toNat*by'=by'*m.toNat:=Nat.mul_comm _ _
   omega
  simp only[execOp,Instr.makeSlice,Sem.run_bind,Result.andThen_ok,run_underlying ht,MN,Xt,has,mY,CG,X_,Z6]
  simp only[decide_eq_false LC,decide_eq_false T3,decide_eq_false BH,Bool.or_false,Bool.false_or,Int.lt_irrefl,decide_false,gt_iff_lt,Bool.false_eq_true,if_false,askRoom,Sem.run_pure,Result.andThen_ok,Sem.run_bind]
  have Fa:¬roomBytes<m.toNat*by':=lQ
  simp only[if_neg Fa,Sem.run_pure,Result.andThen_ok,Ty]
  by_cases h0:m.toNat*k=0
  ·have Tf:(Array.range (m.toNat*k)).map (fun j=>(#[]:Array Value)[j % (#[]:Array Value).size]!)=c':=by
    rw[← Ao,h0];simp [Array.range_zero']
   simp only[if_pos h0,Sem.run_bind,Sem.run_pure,Result.andThen_ok,newRow]
   simp only[pure_bind,Tf]
   rfl
  ·simp only[if_neg h0,Sem.run_bind,Sem.run_pure,Result.andThen_ok,Ey,newRow,Ao]
   rfl
 have oC:m.toNat≤maxLen:=by simp only[maxLen];omega
 obtain⟨r',G⟩:=r.grow .row (.cells c' e) (fun C G hκ b hb=>by
  have:w.heap.size=b:=Option.some.inj (hκ.symm.trans hb)
  subst this
  exact⟨c',e,heap_alloc_new w _⟩)
 refine .inl ⟨_,_,_,_,fF,.inl rfl,r'.eW (ft hd) (.own ?_)⟩
 refine⟨by show(δ.fQ .row).ob _=_;rw[f_,if_pos rfl],by simp,fun c hc=>by simp at hc,fun b hb=>?_,[],⟨by simp,.inr ⟨w.heap.size,m.toNat,c',rfl,r.hB,heap_alloc_new w _,Nat.zero_le _,oC,pI,by simp⟩⟩,by simp,fun i' j p mZ=>by simp [cellAt] at mZ⟩
 simp only[Value.ownBlock,Option.some.injEq] at hb
 subst hb
 show ig _ _ _ _=_
 simp [ig]
theorem a_.tn {t e:TypeId} {x y:Operand} {m:Int} {z:Value} {k by':Nat} (hx:δ.ev x=eU 0) (hy:δ.ev y=eU m) (ht:P.underlying t=some (.slice e)) (hi:(P.info? e).map (fun i=>(i.size,i.zero,i.bytes))=some (k,some z,by')) (hb:Nat.ble by' 64=true)
  (ho:fj x=true) (ga:fj y=true) (hd:fT δ.n dst=true) (hm:0≤m∧m≤100000) (hK:a_ .plain P g ops rest Q ((δ.fQ .row).eW dst (.own δ.nx e k []))):
  a_ .plain P g ops (⟨dst,.makeSlice t x y,ty,pos,af,none⟩::rest) Q δ:=a_.s6 rfl rfl (iV.tn hx hy ht hi hb ho ga hd hm) hK
end Go.Ab
/- A call of a function value that is told:a function of the program's,nothing captured. -/
namespace Go.Ab
open Go Go.RowKit
variable {P:Program} {g:eZ} {δ:DS} {κ:Kp} {a:Act} {w:World}
variable {ops:Array Oper} {rest:List Oper} {Q:Exit→DS→Prop} {dst:Option Nat} {ty:TypeId} {pos:String} {af:Array Edge}
theorem Zb {C:Cx} {w:World} {v:Value} {f:Go.Fn} (h:RA C w v (.jx f [] [])):v=.func f #[] #[]:=by
 cases h with
 |jx hs h ht h'=>
  rename_i vs us
  have e1:vs= #[]:=Array.eq_empty_of_size_eq_zero (by simpa using hs)
  have e2:us= #[]:=Array.eq_empty_of_size_eq_zero (by simpa using ht)
  rw[e1,e2]
theorem a_.Tb {f:FuncId} {xs:List Operand} {tys:Array TypeId} {args:List AV} {r:AV} {y:Operand} (hy:δ.ev y=.jx (.func f) [] []) (kS:fj y=true) (hf:Fn P f args r) (gp:qC false δ xs args) (hd:fT δ.n dst=true)
  (hK:a_ .plain P g ops rest Q (δ.eW dst r)):a_ .plain P g ops (⟨dst,.call {callee:=.value y,args:=xs.toArray,argTypes:=tys},ty,pos,af,none⟩::rest) Q δ:=by
 intro κ a w r0
 have yN:a.eval y=.func (.func f) #[] #[]:=Zb (hy▸r0.Ez y (iQ kS))
 show wpListIn _ _ P ops _ (_::rest) a w
 refine gF rfl rfl fun K oA=>?_
 unfold Oper.y9
 rw[jt (f:=f) yN hf.enters,Oper.uponIn_enter]
 refine⟨fun h=>by simp at h,(iF (hf.calls (fun b=>(δ.cx g κ).N b∨w.heap.size≤b) w _ (fun _ h=> .inr h) (by simp [gp.len]) (gp.NS r0 (fun _ _ h=> .inl h) (fun h=>by simp at h)))).mono ?_⟩
 rintro e w' ⟨v,rfl,hv,hb⟩
 have r1:=r0.ext hb
 refine oA _ _ (hK κ _ _ (r1.eW (ft hd) (hv.xF _ fun b _ h=>?_)))
 rcases h with h|h
 ·exact h
 ·refine⟨r0.Hb h,fun i hi e=>?_⟩
  have:=(r0.lo i b hi e).2
  omega
end Go.Ab
/- min and max of two numbers. -/
namespace Go.Ab
open Go Go.RowKit
variable {P:Program} {g:eZ} {δ:DS} {q:Md}
variable {ops:Array Oper} {rest:List Oper} {Q:Exit→DS→Prop} {dst:Option Nat} {ty:TypeId} {pos:String} {af:Array Edge}
theorem a_.max2 {x y:Operand} {tys:Array TypeId} {m n:Int} (hx:δ.ev x=eU m) (hy:δ.ev y=eU n) (ho:fj x=true) (ga:fj y=true) (hd:fT δ.n dst=true)
  (hK:a_ q P g ops rest Q (δ.eW dst (eU (max m n)))):a_ q P g ops (⟨dst,.call {callee:=.builtin .max,args:= #[x,y],argTypes:=tys},ty,pos,af,none⟩::rest) Q δ:=
 a_.jG _ hd (fun κ a w r=>⟨.int .i64 (max m n),fun w' _=>by
  have h1:=r.lit hx ho
  have h2:=r.lit hy ga
  have h3:(if n>m then n else m)=max m n:=by split<;>omega
  simp [execOp,resolve,invoke,builtin,h1,h2,run_max_int2,h3],.pv (.lit _)⟩) hK
theorem a_.min2 {x y:Operand} {tys:Array TypeId} {m n:Int} (hx:δ.ev x=eU m) (hy:δ.ev y=eU n) (ho:fj x=true) (ga:fj y=true) (hd:fT δ.n dst=true)
  (hK:a_ q P g ops rest Q (δ.eW dst (eU (min m n)))):a_ q P g ops (⟨dst,.call {callee:=.builtin .min,args:= #[x,y],argTypes:=tys},ty,pos,af,none⟩::rest) Q δ:=
 a_.jG _ hd (fun κ a w r=>⟨.int .i64 (min m n),fun w' _=>by
  have h1:=r.lit hx ho
  have h2:=r.lit hy ga
  have h3:(if n<m then n else m)=min m n:=by split<;>omega
  simp [execOp,resolve,invoke,builtin,h1,h2,run_min_int2,h3],.pv (.lit _)⟩) hK
theorem a_.s_ {fn:Go.Fn} {x y z:Operand} {u1 u2 u3:AV} (hx:δ.ev x=u1) (hy:δ.ev y=u2) (hz:δ.ev z=u3) (ho:fj x=true) (ga:fj y=true) (RU:fj z=true) (hd:fT δ.n dst=true) (hK:a_ q P g ops rest Q (δ.eW dst (.jx fn [] [u1,u2,u3]))):a_ q P g ops (⟨dst,.makeFunc fn #[] #[x,y,z],ty,pos,af,none⟩::rest) Q δ:=
 a_.jG _ hd (fun κ a w r=>⟨.func fn #[] #[a.eval x,a.eval y,a.eval z],fun w' _=>by simp [execOp,Instr.makeFunc],.jx rfl (fun j u c h=>by simp at h) rfl (fun j u c h1 h2=>by
  match j with
  |0=>simp at h1 h2;subst h1;subst h2;exact r.ra hx ho
  |1=>simp at h1 h2;subst h1;subst h2;exact r.ra hy ga
  |2=>simp at h1 h2;subst h1;subst h2;exact r.ra hz RU
  |j+3=>simp at h2)⟩) hK
end Go.Ab
/- Labelled statements whose labels are left by break and continue alone. -/
namespace Go.Ab
open Go Go.RowKit
section
variable {P:Program} {F:Fence} {n:Nat} {a:Act} {w:World} {b:Frame} {k:List Item} {cs:List Frame}
theorem lO {c:Code}:step P (lone (b.atR a (.code (.scope c)::k)) cs w)=.next (lone (b.atR a (.code c::.inScope c::k)) cs w):=
 step_lone_go (by simp [stepG,stepG.exec,Frame.atR])
theorem zO {c:Code}:step P (lone (b.atR a (.inScope c::k)) cs w)=.next (lone (b.atR a k) cs w):=
 step_lone_go (by simp [stepG,stepG.exec,Frame.atR])
theorem Ge {c:Code} {Q:Exit→Act→World→Prop} (h:c.wpIn F n P (Exit.noGoto Q) a w):(Code.scope c).wpIn F n P Q a w:=by
 intro b k cs Cv hb hr
 have h0:(lone (b.atR a (.code (.scope c)::k)) cs w).fenced P F:=fenced_calm hb hr rfl
 obtain⟨e,a₁,w₁,hq,tt⟩:=h b (.inScope c::k) cs Cv hb hr
 cases e with
 |normal=>exact⟨.normal,a₁,w₁,hq,.head h0 lO (StepsIn.trans tt (.one (fenced_calm hb hr rfl) zO))⟩
 |exit id=>
  exact⟨.exit id,a₁,w₁,hq,fun k' hk=> .head h0 lO (tt.1 k' (by simp [exitTo,hk])),
   fun xn hk=>let ⟨k₁,h1,h2⟩:=tt.2 xn (by simp [exitTo,hk]);⟨k₁,h1,.head h0 lO h2⟩⟩
 |goto l=>exact hq.elim
 |ret=>exact⟨_,a₁,w₁,hq,.of_steps (.one h0 lO) tt⟩
 |panic ch=>exact⟨_,a₁,w₁,hq,.of_steps (.one h0 lO) tt⟩
 |outgrown=>exact⟨_,a₁,w₁,hq,.of_steps (.one h0 lO) tt⟩
end
variable {P:Program} {g:eZ} {δ:DS}
def gk (Q:Exit→DS→Prop):Exit→DS→Prop
 |.goto _,_=>False
 |e,δ=>Q e δ
theorem oJ {Q:Exit→DS→Prop} (h:Q .ret δ):gk Q .ret δ:=h
theorem AW.scope {c:Code} {Q:Exit→DS→Prop} (h:AW P g c (gk Q) δ):AW P g (.scope c) Q δ:=by
 intro κ a w r
 refine Ge (wpIn_mono (h κ a w r) fun e a' w'=>?_)
 rintro⟨δ',κ',h1,h2⟩
 cases e with
 |goto l=>exact h1.elim
 |_=>exact⟨δ',κ',h1,h2⟩
theorem AW.label {l:Nat} {Q:Exit→DS→Prop} (h:Q .normal δ):AW P g (.label l) Q δ:=fun κ _ _ r=>wpIn_label ⟨δ,κ,h,r⟩
end Go.Ab
/- Loops over functions within loops over functions:a yield from a round,to a loop some frames above. -/
namespace Go.Ab
open Go Go.RowKit
attribute [local irreducible] HS
variable {P:Program} {g:eZ} {δ:DS} {κ:Kp} {a:Act} {w:World}
variable {ops:Array Oper} {rest:List Oper} {Q:Exit→DS→Prop} {dst:Option Nat} {ty:TypeId} {pos:String} {af:Array Edge}
end Go.Ab
/- Maps from numbers to numbers;the address of a field,taken first. -/
namespace Go.Ab
open Go Go.RowKit
section
variable {P:Program} {g:eZ} {δ δ':DS} {q:Md}
variable {ops:Array Oper} {rest:List Oper} {Q:Exit→DS→Prop} {dst:Option Nat} {ty:TypeId} {pos:String} {af:Array Edge}
variable {t n:Nat} {K:DS→Prop}
end
theorem fS.fieldAddr {P:Program} {δ:DS} {dst:Option Nat} {ty:TypeId} {pos:String} {af:Array Edge} {gd:Option (Tmp×Bool)} (s:TypeId) (f k:Nat) {x:Operand} {i off:Nat} (hx:δ.ev x=.ptr i off) (hB:Nv P s f k=true) (ho:fj x=true):
  fS P ⟨dst,.fieldAddr s x f,ty,pos,af,gd⟩ δ (.ptr i (off+k)):=by
 intro g κ a w r
 unfold Nv at hB
 split at hB
 ·rename_i fs hs
  split at hB
  ·rename_i fld hf
   simp only[Bool.and_eq_true,beq_iff_eq] at hB
   have hk:=Nat.eq_of_beq_eq_true hB.1
   subst hk
   have tB:=r.ra hx ho
   generalize hu:a.eval x=u at tB
   cases tB with
   |ptr hl hκ=>exact⟨_,fun w'=>by have:=oV (dst:=dst) (ty:=ty) (pos:=pos) (af:=af) hs hf hB.2 hu w';simpa [execOp] using this,.ptr hl hκ⟩
  ·cases hB
 ·cases hB
section
variable {P:Program} {g:eZ} {δ:DS} {l:List Oper} {late dn:List Nat} {k:Wt} {QD:Exit→DS→Prop}
theorem AR.m_ {i j:Nat} {o p:Oper} (hl:Nat.blt dn.length l.length=true) (hr:mB l dn [i,j]=true) (ho:l[i]? =some o) (hp:l[j]? =some p) (fy:gS late (gB l.length (j::dn))=true)
  (h:∀g':eZ,Gs g' g→(∀j,k.2.2≤j→g'.nF j)→a_ .plain P g' l.toArray [o] (jb (AR P g k late l QD (i::dn))) δ)
  (h':∀g':eZ,Gs g' g→g'.wt=none→a_ .plain P g' l.toArray [p] (jb (AR P g k late l QD (j::dn))) δ):AR P g k late l QD dn δ:=
 AR.all hl hr (by simp) fun i' jJ=>by
  have hw:∀i',∀j,k.2.2≤j→(y7 g k late (gB l.length (i'::dn))).nF j:=by
   intro i' j hj k' mo
   have:(if gS late (gB l.length (i'::dn))=true then none else some k)=some k':=mo
   split at this
   ·cases this
   ·cases this;exact hj
  simp only[List.mem_cons,List.not_mem_nil,or_false] at jJ
  rcases jJ with rfl|rfl
  ·exact⟨o,ho,h _ ⟨rfl,rfl,rfl⟩ (hw _)⟩
  ·exact⟨p,hp,h' _ ⟨rfl,rfl,rfl⟩ (if_pos fy)⟩
end
end Go.Ab
/- In the midst of a region that draws its order:operations that only read are taken in one order;the watch over memory begins anew. -/
namespace Go.Ab
open Go Go.RowKit
variable {P:Program} {g:eZ} {δ:DS} {k:Wt} {late:List Nat} {l:List Oper} {dn:List Nat} {QD:Exit→DS→Prop} {ro:Option Nat}
def uv (ops:Array Oper) (i j:Nat):Bool:=match ops[j]? with
 |some o=>o.after.any fun e=>Region.binds .any e && e.on==i
 |none=>false
theorem z7 {ops:Array Oper} {i j n:Nat} (h:uv ops i j=true):p8 ops i (n+1) j=true:=by
 unfold uv at h
 unfold p8
 cases ho:ops[j]? with
 |none=>rw[ho] at h;cases h
 |some o=>
  rw[ho] at h
  simp only at h ⊢
  obtain⟨e,he,hb⟩:=Array.any_eq_true'.1 h
  refine Array.any_eq_true'.2 ⟨e,he,?_⟩
  simp only[Bool.and_eq_true,Bool.or_eq_true] at hb ⊢
  exact⟨hb.1,.inl hb.2⟩
def uP (l:List Oper) (late:List Nat):List Nat→List Nat→Bool
 |[],_=>true
 |i::r,dn=>xI l late dn i && late.all (fun j=>uv l.toArray i j||p8 l.toArray i l.length j) && uP l late r (i::dn)
theorem pU:∀(l2 dn:List Nat),uP l late l2 dn=true→uJ l late l2 dn=true
 |[],_,_=>rfl
 |i::r,dn,h=>by
  unfold uP at h
  unfold uJ
  simp only[Bool.and_eq_true] at h ⊢
  refine⟨⟨h.1.1,List.all_eq_true.2 fun j hj=>?_⟩,pU r _ h.2⟩
  have h1:=(List.all_eq_true.1 h.1.2) j hj
  rcases Bool.or_eq_true _ _▸h1 with h2|h2
  ·cases hl:l.length with
   |zero=>simp only[List.length_eq_zero_iff] at hl;subst hl;simp [uv] at h2
   |succ n=>exact z7 h2
  ·exact h2
theorem AR.reads (l2:List Nat) (hB:uP l late l2 dn=true) (hL:gS late (gB l.length dn)=false) (hle:Nat.ble (l2.length+dn.length) l.length=true)
  (h:∀g':eZ,Gs g' g→a_ .held P g' l.toArray (pick l l2) (jb fun δ'=>∀k':Wt,k'.2.2=δ.nx→AR P g k' late l QD (l2.reverse++dn) δ') δ):AR P g k late l QD dn δ:=by
 intro w8 κ a w r
 have Ji:l2.length+dn.length≤l.length:=by simpa using hle
 have h1:=h (y7 g k late (gB l.length dn)) ⟨rfl,rfl,rfl⟩ κ a w r
 have jk:=r.wt k (show(if gS late (gB l.length dn)=true then none else some k)=some k by rw[hL];rfl)
 obtain⟨k',hk⟩:∃k':Wt,k'=(w,(fun b=>b<w.heap.size∧((∀i,δ.lr i→κ i≠some b)∧¬κ.Fs b)),δ.nx):=⟨_,rfl⟩
 have lz:∀fu w',Ch k' late fu w'→Ch k late fu w':=by
  intro fu w' h3 hl b hb
  obtain⟨h4,h5⟩:=jk.1 b hb
  have h6:b<w.heap.size:=by
   rw[Array.getElem?_eq_getElem h4] at h5
   exact(Array.getElem?_eq_some_iff.1 h5).1
  have h7:k'.2.1 b:=by
   rw[hk]
   exact⟨h6,fun i hi hκ=>jk.2 i b ⟨_,hi⟩ (.inl hi) hκ hb,fun⟨j,hj⟩=>(r.fr.2 j b hj).1.2 k (show(if gS late (gB l.length dn)=true then none else some k)=some k by rw[hL];rfl) hb⟩
  have h8:=(h3 hl b h7).2
  rw[hk] at h8
  exact⟨h4,h8.trans h5⟩
 have WA:∀(fuel:Nat) (fu:Array Bool) (a:Act) (w':World),oS g.ro P l.toArray (sN g QD) (Ch k' late) fuel fu a w'→oS g.ro P l.toArray (sN g QD) (Ch k late) fuel fu a w':=by
  intro fuel
  induction fuel with
  |zero=>intro _ _ _ h;exact h
  |succ fuel ih=>intro fu a w' h;exact⟨h.1,fun i hi=>wpOpIn_mono (fun a' w'' h'=>⟨lz _ _ h'.1,ih _ _ _ h'.2⟩) (h.2 i hi)⟩
 have ZJ:l.length - dn.length=l2.length+(l.length - (l2.reverse++dn).length):=by simp;omega
 rw[ZJ]
 have og:Ch k' late (gB l.length dn) w:=fun _ b hb=>by subst hk;exact⟨hb.1,rfl⟩
 refine WA _ _ _ _ (Ln (ro:=g.ro) (g:=g) (QD:=QD) (late:=late) (l:=l) (P:=P) (δ0:=δ) (κ1:=κ) (w1:=w) (k:=k') (by rw[hk]) (by rw[hk]) (N:=l.length - (l2.reverse++dn).length) l2 dn a (pU _ _ hB) w8 og h1 (fun a' Lo wR=>?_))
 obtain⟨δ',hq,Jl,r2⟩:=Lo
 refine hq k' (by rw[hk]) wR κ a' w ?_
 have jh:∀i,δ'.ob i=δ.ob i:=fun i=>by unfold DS.ob;rw[Jl]
 refine Rel.Pt (g:=y7 g k late (gB l.length dn)) r2 (wt':=if gS late (gB l.length (l2.reverse++dn))=true then none else some k') (fun k'' mo=>?_) (fun k'' mo b hb zR=>?_)
 rotate_left
 ·split at mo
  ·cases mo
  ·cases mo
   subst hk
   exact zR.2.2 hb
 split at mo
 ·cases mo
 ·cases mo
  subst hk
  refine⟨fun b hb=>⟨hb.1,rfl⟩,fun i b EG uI hκ hb=>?_⟩
  rcases uI with uI|uI
  ·exact hb.2.1 i (by have:δ'.ob i=some .row:=uI;rw[jh] at this;exact this) hκ
  ·obtain⟨o,EG⟩:=EG
   rw[jh] at EG
   exact absurd (r.nx i ⟨o,EG⟩) (Nat.not_lt.2 uI)
end Go.Ab
/- A part of a box,loaded as a whole. -/
namespace Go.Ab
open Go Go.RowKit
inductive Sub:Nat→Nat→List AV→List AV→Prop where
 |nil {l}:Sub 0 0 l []
 |take {n a l vs}:Sub 0 n l vs→Sub 0 (n+1) (a::l) (a::vs)
 |skip {k n a l vs}:Sub k n l vs→Sub (k+1) n (a::l) vs
theorem Sub.spec {k n:Nat} {l vs:List AV} (h:Sub k n l vs):(l.drop k).take n=vs∧k+n≤l.length:=by
 induction h with
 |nil=>simp
 |take _ ih=>simp at ih ⊢;exact⟨ih.1,ih.2⟩
 |skip _ ih=>simp at ih ⊢;exact⟨ih.1,by omega⟩
variable {q:Md} {P:Program} {g:eZ} {δ:DS} {ops:Array Oper} {rest:List Oper} {Q:Exit→DS→Prop} {dst:Option Nat} {ty:TypeId} {pos:String} {af:Array Edge}
theorem a_.BF {x:Operand} {t:TypeId} {i off n:Nat} {cells vs:List AV} (hx:δ.ev x=.ptr i off) (hb:δ.ob i=some (.box cells)) (hn:(P.info? t).map (·.size)=some n) (hs:Sub off n cells vs) (ht:z_ P t n=true) (ho:fj x=true) (hd:fT δ.n dst=true)
  (hK:a_ q P g ops rest Q (δ.eW dst (.agg vs))):a_ q P g ops (⟨dst,.load t x,ty,pos,af,none⟩::rest) Q δ:=
 a_.Hw (n:=n) hx hb ht (by simpa using hs.spec.2) ho hd (by rw[hs.spec.1];exact hK)
theorem a_.QU {x y z:Operand} {b:Bool} {v:PV} (hx:δ.ev x=fq b) (hy:δ.ev y=.pv v) (hb:b=true) (ho:fj x=true) (kS:fj y=true) (o_:fj z=true) (hd:fT δ.n dst=true)
  (hK:a_ q P g ops rest Q (δ.eW dst (.pv v))):a_ q P g ops (⟨dst,.pick x y z,ty,pos,af,none⟩::rest) Q δ:=a_.jL (hb▸hx) hy ho kS o_ hd hK
theorem a_.F1 {x y z:Operand} {b:Bool} {v:PV} (hx:δ.ev x=fq b) (hz:δ.ev z=.pv v) (hb:b=false) (ho:fj x=true) (kS:fj y=true) (o_:fj z=true) (hd:fT δ.n dst=true)
  (hK:a_ q P g ops rest Q (δ.eW dst (.pv v))):a_ q P g ops (⟨dst,.pick x y z,ty,pos,af,none⟩::rest) Q δ:=a_.kr (hb▸hx) hz ho kS o_ hd hK
variable {gd:Option (Tmp×Bool)}
theorem iV.AJ {t e:TypeId} {x0:Operand} {p0 p1 p2:PV} {z:Value} (ht:P.underlying t=some (.slice e)) (h0:δ.ev x0=.agg [.pv p0,.pv p1,.pv p2]) (hi:(P.info? e).map (fun i=>(i.size,i.zero))=some (3,some z)) (hz:z.cells.toList.all (·.oneCell')=true) (mA:Nat.beq z.cells.size 3=true)
  (k0:AV.one (.pv p0)=true) (k1:AV.one (.pv p1)=true) (k2:AV.one (.pv p2)=true) (o0:fj x0=true) (hd:fT δ.n dst=true):iV P g ⟨dst,.buildSlice t 1 [(0,x0)].toArray,ty,pos,af,gd⟩ δ ((δ.fQ .row).eW dst (.own δ.nx e 3 [[p0,p1,p2]])):=by
 have hf:jT (fun i=>some (i*3,3)) (kl z (1*3)) (([(0,x0)]:List (Nat×Operand)).map fun p=>(p.1,δ.ev p.2))=some [.pv p0,.pv p1,.pv p2]:=by
  simp [jT,oR,AV.cellsOf,AV.ov,kl,h0,k0,k1,k2]<;>rfl
 exact iV.buildSlice (len:=1) (k:=3) (parts:=[(0,x0)]) (cells:=[.pv p0,.pv p1,.pv p2]) ht hi mA rfl rfl hz (by simp [o0]) hf (by simp [AV.B6]) hd
theorem a_.AJ {t e:TypeId} {x0:Operand} {p0 p1 p2:PV} {z:Value} (ht:P.underlying t=some (.slice e)) (h0:δ.ev x0=.agg [.pv p0,.pv p1,.pv p2]) (hi:(P.info? e).map (fun i=>(i.size,i.zero))=some (3,some z)) (hz:z.cells.toList.all (·.oneCell')=true) (mA:Nat.beq z.cells.size 3=true)
  (k0:AV.one (.pv p0)=true) (k1:AV.one (.pv p1)=true) (k2:AV.one (.pv p2)=true) (o0:fj x0=true) (hd:fT δ.n dst=true) (hK:a_ .plain P g ops rest Q ((δ.fQ .row).eW dst (.own δ.nx e 3 [[p0,p1,p2]]))):
  a_ .plain P g ops (⟨dst,.buildSlice t 1 [(0,x0)].toArray,ty,pos,af,none⟩::rest) Q δ:=a_.s6 rfl rfl (iV.AJ ht h0 hi hz mA k0 k1 k2 o0 hd) hK
end Go.Ab
/- The checks over a region's orders,quick for the kernel:what is listed lies as the bits of one number. -/
namespace Go.Ab
open Go Go.RowKit
variable {P:Program} {g:eZ} {δ:DS} {k:Wt} {late:List Nat} {l:List Oper} {dn:List Nat} {QD:Exit→DS→Prop}
def iH (n:Nat):List Nat→Nat
 |[]=>0
 |i::d=>bif Nat.blt i n then iH n d|||(1<<<i) else iH n d
theorem kA {n:Nat}:∀{d:List Nat} {j:Nat},(iH n d).testBit j=(gB n d).getD j false
 |[],j=>by
  show Nat.testBit 0 j=(Array.replicate n false).getD j false
  rw[Nat.zero_testBit]
  simp [Array.getD_eq_getD_getElem?,Array.getElem?_replicate]
  split<;>rfl
 |i::d,j=>by
  show(bif Nat.blt i n then iH n d|||(1<<<i) else iH n d).testBit j=((gB n d).setIfInBounds i true).getD j false
  rw[Lz]
  have nQ:(gB n d).size=n:=by
   clear j
   induction d with
   |nil=>simp [gB]
   |cons i d ih=>simp [gB,ih]
  by_cases hi:i<n
  ·have hb:Nat.blt i n=true:=by simpa using hi
   rw[hb,cond_true,Nat.testBit_or,kA,Nat.one_shiftLeft,Nat.testBit_two_pow]
   by_cases v7:i=j
   ·subst v7;simp [nQ,hi]
   ·simp [v7]
  ·have hb:Nat.blt i n=false:=by
    cases h:Nat.blt i n with
    |false=>rfl
    |true=>exact absurd (by simpa using h) hi
   rw[hb,cond_false,kA]
   by_cases v7:i=j
   ·subst v7
    rw[if_pos rfl,if_neg aJ]
    simp [Array.getD_eq_getD_getElem?,Array.getElem?_eq_none (by omega:(gB n d).size≤i)]
   ·rw[if_neg v7]
def qQ (m:Nat) (o:Oper):Bool:=o.after.toList.all fun e=>!Region.binds .any e||m.testBit e.on
def k8 (m:Nat):Nat→List Oper→List Nat
 |_,[]=>[]
 |j,o::r=>bif !m.testBit j && qQ m o then j::k8 m (j+1) r else k8 m (j+1) r
theorem sL (m:Nat):∀(l:List Oper) (j:Nat),k8 m j l=((List.range l.length).filter fun i=>!m.testBit (j+i) && ((l[i]?).map (qQ m)).getD false).map (j+·)
 |[],_=>rfl
 |o::r,j=>by
  rw[List.length_cons,List.range_succ_eq_map,List.filter_cons,k8,sL m r (j+1)]
  simp only[Nat.add_zero,List.getElem?_cons_zero,Option.map_some,Option.getD_some,List.filter_map]
  have e:(List.map (fun x=>j+x) (List.map Nat.succ (List.filter ((fun i=>!m.testBit (j+i) && (Option.map (qQ m) (o::r)[i]?).getD false)∘Nat.succ) (List.range r.length))))=List.map (fun x=>j+1+x) (List.filter (fun i=>!m.testBit (j+1+i) && (Option.map (qQ m) r[i]?).getD false) (List.range r.length)):=by
   rw[List.map_map]
   have e2:((fun i=>!m.testBit (j+i) && (Option.map (qQ m) (o::r)[i]?).getD false)∘Nat.succ)=(fun i=>!m.testBit (j+1+i) && (Option.map (qQ m) r[i]?).getD false):=by
    funext i
    simp only[Function.comp,Nat.succ_eq_add_one,List.getElem?_cons_succ]
    rw[show j+(i+1)=j+1+i by omega]
   rw[e2]
   apply List.map_congr_left
   intro i _
   simp only[Function.comp,Nat.succ_eq_add_one]
   omega
  cases (!m.testBit j && qQ m o) with
  |true=>simp only[cond_true,if_true,List.map_cons,Nat.add_zero];rw[e]
  |false=>simp only[cond_false,Bool.false_eq_true,if_false];rw[e]
theorem AD:Region.ready .any l.toArray (gB l.length dn)=k8 (iH l.length dn) 0 l:=by
 rw[sL]
 unfold Region.ready
 simp only[Nat.zero_add,List.size_toArray]
 rw[show(fun x:Nat=>x)=id from rfl,List.map_id]
 apply List.filter_congr
 intro i hi
 have vT:i<l.length:=List.mem_range.1 hi
 have e1:(gB l.length dn).getD i true=(iH l.length dn).testBit i:=by
  rw[kA]
  have nQ:(gB l.length dn).size=l.length:=by
   clear hi vT
   generalize l.length=n
   induction dn with
   |nil=>simp [gB]
   |cons i d ih=>simp [gB,ih]
  rw[Array.getD_eq_getD_getElem?,Array.getD_eq_getD_getElem?,Array.getElem?_eq_getElem aJ];rfl
 rw[e1]
 congr 1
 rw[List.getElem?_toArray]
 congr 2
 funext o
 unfold qQ
 rw[← Array.all_toList]
 congr 1
 funext e
 rw[kA]
theorem kP {rs:List Nat} (h:(k8 (iH l.length dn) 0 l==rs)=true):mB l dn rs=true:=by
 unfold mB;rw[AD];exact h
def wc (late:List Nat) (m:Nat):Bool:=late.any m.testBit
theorem pf:gS late (gB l.length dn)=wc late (iH l.length dn):=by
 unfold gS wc
 congr 1
 funext j
 rw[kA]
def Hg (ops:Array Oper) (m i:Nat) (oi:Oper):Nat→List Oper→Bool
 |_,[]=>true
 |j,o::r=>(Nat.beq j i||m.testBit j||o.after.toList.any (fun e=>Region.binds .any e && Nat.beq e.on i)||oi.apart ops o) && Hg ops m i oi (j+1) r
theorem yV {ops:Array Oper} {m i:Nat} {oi:Oper}:∀{l:List Oper} {j:Nat},Hg ops m i oi j l=true→∀(x:Nat) (o:Oper),l[x]? =some o→(j+x==i||m.testBit (j+x)||(o.after.any (fun e=>Region.binds .any e && e.on==i)||oi.apart ops o))=true
 |[],_,_,x,o,h=>by simp at h
 |o'::r,j,h,x,o,hx=>by
  unfold Hg at h
  rw[Bool.and_eq_true] at h
  cases x with
  |zero=>
   simp only[List.getElem?_cons_zero,Option.some.injEq] at hx
   subst hx
   have h1:=h.1
   simp only[Nat.add_zero]
   rw[← Array.any_toList]
   simpa [Bool.or_assoc] using h1
  |succ x=>
   rw[List.getElem?_cons_succ] at hx
   have:=yV h.2 x o hx
   rwa [show j+1+x=j+(x+1) by omega] at this
def LX (l:List Oper) (late:List Nat) (m:Nat) (i:Nat):Bool:=
 (k8 m 0 l).contains i && (match l[i]? with|some oi=>Hg l.toArray m i oi 0 l|none=>false) && !late.contains i
def firstM (l:List Oper) (late:List Nat):List Nat→List Nat→Bool
 |[],_=>true
 |i::r,dn=>LX l late (iH l.length dn) i && late.all (fun j=>uv l.toArray i j||p8 l.toArray i l.length j) && firstM l late r (i::dn)
def Eg (l:List Oper):Bool:=Region.noSelect l.toArray && l.all ka
theorem Gh {i:Nat} (hf:Eg l=true) (hl:Nat.blt dn.length l.length=true) (h:LX l late (iH l.length dn) i=true):xI l late dn i=true:=by
 unfold Eg at hf
 unfold LX at h
 unfold xI
 simp only[Bool.and_eq_true] at hf h ⊢
 refine⟨⟨⟨⟨hf,by rw[AD];exact h.1.1⟩,?_⟩,h.2⟩,hl⟩
 have h2:=h.1.2
 unfold Region.free
 rw[List.getElem?_toArray]
 cases ho:l[i]? with
 |none=>rw[ho] at h2;cases h2
 |some oi=>
  rw[ho] at h2
  simp only at h2 ⊢
  rw[List.all_eq_true]
  intro j hj
  have oB:j<l.length:=by simpa using hj
  have h3:=yV h2 j _ (List.getElem?_eq_getElem oB)
  rw[Nat.zero_add,kA] at h3
  have nQ:(gB l.length dn).size=l.length:=by
   clear hf h h2 h3 hl
   generalize l.length=n
   induction dn with
   |nil=>simp [gB]
   |cons i d ih=>simp [gB,ih]
  have e1:(gB l.length dn).getD j true=(gB l.length dn).getD j false:=by
   rw[Array.getD_eq_getD_getElem?,Array.getD_eq_getD_getElem?,Array.getElem?_eq_getElem aJ];rfl
  rw[e1,List.getElem?_toArray,List.getElem?_eq_getElem oB]
  exact h3
theorem qc (hf:Eg l=true):∀(l2 dn:List Nat),Nat.ble (l2.length+dn.length) l.length=true→firstM l late l2 dn=true→uP l late l2 dn=true
 |[],_,_,_=>rfl
 |i::r,dn,hle,h=>by
  unfold firstM at h
  unfold uP
  simp only[Bool.and_eq_true] at h ⊢
  have Ji:(i::r).length+dn.length≤l.length:=by simpa using hle
  simp only[List.length_cons] at Ji
  exact⟨⟨Gh hf (by simp;omega) h.1.1,h.1.2⟩,qc hf r _ (by simp;omega) h.2⟩
theorem AR.iP (l2:List Nat) (hf:Eg l=true) (hB:firstM l late l2 dn=true) (hL:wc late (iH l.length dn)=false) (hle:Nat.ble (l2.length+dn.length) l.length=true)
  (h:∀g':eZ,Gs g' g→a_ .held P g' l.toArray (pick l l2) (jb fun δ'=>∀k':Wt,k'.2.2=δ.nx→AR P g k' late l QD (l2.reverse++dn) δ') δ):AR P g k late l QD dn δ:=
 AR.reads l2 (qc hf _ _ hle hB) (by rw[pf];exact hL) hle h
theorem AR.Gt (jk:g.wt=none) (hr:(k8 (iH l.length dn) 0 l==[])=true) (h:QD .normal δ):AR P g k late l QD dn δ:=AR.done jk (kP hr) h
theorem AR.fA {i:Nat} {o:Oper} (hl:Nat.blt dn.length l.length=true) (hr:(k8 (iH l.length dn) 0 l==[i])=true) (ho:l[i]? =some o)
  (h:∀g':eZ,Gs g' g→(∀j,k.2.2≤j→g'.nF j)→a_ .plain P g' l.toArray [o] (jb (AR P g k late l QD (i::dn))) δ):AR P g k late l QD dn δ:=AR.gL hl (kP hr) ho h
theorem AR.im {i:Nat} {o:Oper} (hl:Nat.blt dn.length l.length=true) (hr:(k8 (iH l.length dn) 0 l==[i])=true) (ho:l[i]? =some o) (fy:wc late (iH l.length (i::dn))=true)
  (h:∀g':eZ,Gs g' g→g'.wt=none→a_ .plain P g' l.toArray [o] (jb (AR P g k late l QD (i::dn))) δ):AR P g k late l QD dn δ:=AR.yG hl (kP hr) ho (by rw[pf];exact fy) h
theorem AR.gh {i j:Nat} {o p:Oper} (hl:Nat.blt dn.length l.length=true) (hr:(k8 (iH l.length dn) 0 l==[i,j])=true) (ho:l[i]? =some o) (hp:l[j]? =some p)
  (h:∀g':eZ,Gs g' g→(∀j,k.2.2≤j→g'.nF j)→a_ .plain P g' l.toArray [o] (jb (AR P g k late l QD (i::dn))) δ)
  (h':∀g':eZ,Gs g' g→(∀j,k.2.2≤j→g'.nF j)→a_ .plain P g' l.toArray [p] (jb (AR P g k late l QD (j::dn))) δ):AR P g k late l QD dn δ:=AR.sE hl (kP hr) ho hp h h'
theorem AW.gg {id:Nat} (l1:List Nat) (late:List Nat) {l:List Oper} (hm:P.follows .mixedOrders=true) (jk:g.wt=none) (hf:Eg l=true) (hB:firstM l late l1 []=true) (hle:Nat.ble l1.length l.length=true)
  (h:a_ .held P g l.toArray (pick l l1) (jb fun δ'=>∀k:Wt,k.2.2=δ.nx→AR P g k late l QD l1.reverse δ') δ):AW P g (.region id l.toArray true) QD δ:=
 AW.Ce l1 late hm jk (pU _ _ (qc hf _ _ (by simpa using hle) hB)) hle h
end Go.Ab
/- A loop's state told by what stays of the state before it and what changes. -/
namespace Go.Ab
open Go Go.RowKit
variable {P:Program} {g:eZ} {δ:DS}
def Kd (e:List (Nat×AV)):List Nat→List (Nat×AV)
 |[]=>[]
 |k::ks=>(k,look e k)::Kd e ks
def K4 (o:List (Nat×Option Ob)):List Nat→List (Nat×Option Ob)
 |[]=>[]
 |k::ks=>(k,fi o k)::K4 o ks
def Fm:List (Nat×Option Ob)→Nat→Nat
 |[],n=>n
 |(k,_)::r,n=>Fm r (bif Nat.ble n k then k+1 else n)
namespace Nf
theorem nx0 (n:Nat):Fm [] n=n:=rfl
theorem nx1 (k n:Nat) (v:Option Ob) (r:List (Nat×Option Ob)):Fm ((k,v)::r) n=Fm r (bif Nat.ble n k then k+1 else n):=rfl
def ao:List (Nat×Option Ob)→List (Nat×Option Ob)→List (Nat×Option Ob)
 |[],m=>m
 |v::r,m=>v::ao r m
theorem ao0 (m:List (Nat×Option Ob)):ao [] m=m:=rfl
theorem ao1 (v:Nat×Option Ob) (r m:List (Nat×Option Ob)):ao (v::r) m=v::ao r m:=rfl
theorem se0 (e:List (Nat×AV)):Kd e []=[]:=rfl
theorem se1 (e:List (Nat×AV)) (k:Nat) (ks:List Nat):Kd e (k::ks)=(k,look e k)::Kd e ks:=rfl
theorem so0 (e:List (Nat×Option Ob)):K4 e []=[]:=rfl
theorem so1 (e:List (Nat×Option Ob)) (k:Nat) (ks:List Nat):K4 e (k::ks)=(k,fi e k)::K4 e ks:=rfl
set_option linter.defProp false in
def ot:=And.intro @nx0 (And.intro @nx1 (And.intro @ao0 (And.intro @ao1 (And.intro @se0 (And.intro @se1 (And.intro @so0 @so1))))))
end Nf
theorem AW.gJ {S:Type} {c:Code} {Q:Exit→DS→Prop} (ks os:List Nat) (u:S→List (Nat×AV)) (ou:S→List (Nat×Option Ob)) (I:S→Prop) (μ:S→Nat) (s0:S) {D:S→DS}
  (hD:(fun s=>(⟨δ.n,Nf.ae (u s) (Kd δ.env ks),Nf.ao (ou s) (K4 δ.gv os),Fm (ou s) δ.nx⟩:DS))=D) (hs:I s0) (hw:o6 g δ (D s0))
  (round:∀s,I s→AW P g c (gr (fun δ'=>∃s',I s'∧μ s'<μ s∧o6 g δ' (D s')) Q) (D s)):AW P g (.loop c) Q δ:=AW.loop D I μ s0 hs hw round
end Go.Ab
/- Quotient and remainder of numbers that are not below zero. -/
namespace Go.Ab
open Go Go.RowKit
variable {q:Md} {P:Program} {g:eZ} {δ:DS} {ops:Array Oper} {rest:List Oper} {Q:Exit→DS→Prop} {dst:Option Nat} {ty:TypeId} {pos:String} {af:Array Edge} {x y:Operand} {m n:Int} {t t':TypeId}
theorem a_.SC (hx:δ.ev x=eU m) (hy:δ.ev y=eU n) (ho:fj x=true) (ga:fj y=true) (hd:fT δ.n dst=true) (h0:0≤m∧0<n) (hK:a_ q P g ops rest Q (δ.eW dst (eU (m % n)))):a_ q P g ops (⟨dst,.binOp .rem t x y t',ty,pos,af,none⟩::rest) Q δ:=
 a_.rem hx hy ho ga hd aJ (by rw[Int.tmod_eq_emod_of_nonneg h0.1];exact hK)
theorem a_.BJ (hx:δ.ev x=eU m) (hy:δ.ev y=eU n) (ho:fj x=true) (ga:fj y=true) (hd:fT δ.n dst=true) (h0:0≤m∧m≤9223372036854775807∧0<n) (hK:a_ q P g ops rest Q (δ.eW dst (eU (m / n)))):a_ q P g ops (⟨dst,.binOp .quo t x y t',ty,pos,af,none⟩::rest) Q δ:=
 a_.quo hx hy ho ga hd aJ (by
  have h1:m.tdiv n=m / n:=Int.tdiv_eq_ediv_of_nonneg h0.1
  have h2:0≤m / n:=Int.ediv_nonneg h0.1 (by omega)
  have h3:m / n≤m:=Int.ediv_le_self _ h0.1
  rw[h1,IntWalk.i64_in _ aJ]
  exact hK)
end Go.Ab
/- Two objects' names exchanged;the orders of a drawn region brought together again. -/
namespace Go.Ab
open Go Go.RowKit
variable {P:Program} {g:eZ} {δ:DS} {κ:Kp} {a:Act} {w:World}
def l9 (i j x:Nat):Nat:=bif Nat.beq i x then j else bif Nat.beq j x then i else x
theorem FZ (i j x:Nat):l9 i j x=if i=x then j else if j=x then i else x:=by
 unfold l9
 by_cases h1:i=x
 ·subst h1;simp
 ·rw[nm h1,if_neg h1]
  by_cases h2:j=x
  ·subst h2;simp
  ·rw[nm h2,if_neg h2];rfl
theorem jA (i j x:Nat):l9 i j (l9 i j x)=x:=by
 simp only[FZ]
 split<;>split<;>(try split)<;>omega
mutual
def AV.sw (i j:Nat):AV→AV
 |.any=> .any
 |.pv p=> .pv p
 |.own x e k fa=> .own (l9 i j x) e k fa
 |.ptr x o=> .ptr (l9 i j x) o
 |.gf c=> .gf c
 |.gX x e k fa n=> .gX (l9 i j x) e k fa n
 |.agg cs=> .agg (AV.zh i j cs)
 |.gY cs=> .gY (AV.zh i j cs)
 |.jx fn cs ds=> .jx fn (AV.zh i j cs) (AV.zh i j ds)
 |.gx x=> .gx (l9 i j x)
 |.lT x=> .lT (l9 i j x)
def AV.zh (i j:Nat):List AV→List AV
 |[]=>[]
 |c::cs=>AV.sw i j c::AV.zh i j cs
end
theorem AV.vj (i j:Nat):∀l,AV.zh i j l=l.map (AV.sw i j)
 |[]=>rfl
 |c::cs=>by simp [AV.zh,AV.vj i j cs]
def Ob.sw (i j:Nat):Ob→Ob
 |.row=> .row
 |.box cs=> .box (AV.zh i j cs)
 |.mp l=> .mp (l.map fun p=>(p.1,p.2.sw i j))
 |.mpl l k v=> .mpl (l.map fun p=>(p.1,p.2.sw i j)) k (v.sw i j)
 |.it l seen=> .it l seen
 |.lit T vals=> .lit T vals
 |.fb e rows=> .fb e rows
 |.loop l tm ps ji body st=> .loop l tm ps ji body st
theorem Ob.RW (i j:Nat) (o:Ob):(o.sw i j).mc=o.mc:=by cases o<;>rfl
def Qv (i j:Nat):List (Nat×AV)→List (Nat×AV)
 |[]=>[]
 |(x,v)::r=>(x,v.sw i j)::Qv i j r
def Ae (i j:Nat):List (Nat×Option Ob)→List (Nat×Option Ob)
 |[]=>[]
 |(x,none)::r=>(l9 i j x,none)::Ae i j r
 |(x,some o)::r=>(l9 i j x,some (o.sw i j))::Ae i j r
def DS.sw (δ:DS) (i j:Nat):DS:=⟨δ.n,Qv i j δ.env,Ae i j δ.gv,δ.nx⟩
theorem Hu (i j:Nat) (k:Nat):∀e,look (Qv i j e) k=(look e k).sw i j
 |[]=>rfl
 |(x,v)::r=>by
  unfold Qv
  simp only[fL,Hu i j k r]
  split<;>rfl
theorem uK (i j:Nat) (k:Nat):∀e,fi (Ae i j e) (l9 i j k)=(fi e k).map (Ob.sw i j)
 |[]=>rfl
 |(x,o)::r=>by
  have hx:(l9 i j x=l9 i j k)=(x=k):=by
   apply propext
   constructor
   ·intro h;rw[← jA i j x,h,jA]
   ·intro h;rw[h]
  cases o with
  |none=>
   unfold Ae
   simp only[fE,uK i j k r,hx]
   split<;>rfl
  |some o=>
   unfold Ae
   simp only[fE,uK i j k r,hx]
   split<;>rfl
theorem HA (i j k:Nat):(δ.sw i j).ob k=(δ.ob (l9 i j k)).map (Ob.sw i j):=by
 have:=uK i j (l9 i j k) δ.gv
 rw[jA] at this
 exact this
theorem nJ (i j k:Nat):(δ.sw i j).live k↔δ.live (l9 i j k):=by
 unfold DS.live
 rw[HA]
 cases δ.ob (l9 i j k)<;>simp
theorem Qm (i j k:Nat):(δ.sw i j).lr k↔δ.lr (l9 i j k):=by
 unfold DS.lr
 rw[HA]
 cases h:δ.ob (l9 i j k) with
 |none=>simp
 |some o=>cases o<;>simp [Ob.sw]
theorem Lf (i j k:Nat):(δ.sw i j).lb k↔δ.lb (l9 i j k):=by
 unfold DS.lb
 rw[HA]
 cases h:δ.ob (l9 i j k) with
 |none=>simp
 |some o=>simp [Ob.RW]
def Qo (i j:Nat) (κ:Kp):Kp:=⟨fun x=>κ (l9 i j x),fun x b=>κ.F (l9 i j x) b⟩
theorem Qi (i j b:Nat):(Qo i j κ).Fs b↔κ.Fs b:=by
 constructor
 ·rintro⟨x,h⟩;exact⟨_,h⟩
 ·rintro⟨x,h⟩;exact⟨l9 i j x,by show κ.F (l9 i j (l9 i j x)) b;rw[jA];exact h⟩
theorem QV (i j b:Nat):((δ.sw i j).cx g (Qo i j κ)).N b↔(δ.cx g κ).N b:=by
 show((g.N0 b∧_)∧_)↔((g.N0 b∧_)∧_)
 constructor
 ·rintro⟨h1,h2⟩
  refine⟨⟨h1.1,fun h=>h1.2 ((Qi i j b).2 h)⟩,fun x hx=>?_⟩
  have:=h2 (l9 i j x) ((nJ i j _).2 (by rw[jA];exact hx))
  have this:κ (l9 i j (l9 i j x))≠some b:=this
  rwa [jA] at this
 ·rintro⟨h1,h2⟩
  exact⟨⟨h1.1,fun h=>h1.2 ((Qi i j b).1 h)⟩,fun x hx=>h2 _ ((nJ i j _).1 hx)⟩
theorem J3 (i j:Nat) {v:Value} {p:PV} (h:RP (δ.cx g κ).N w v p):RP ((δ.sw i j).cx g (Qo i j κ)).N w v p:=
 h.mono (Nat.le_refl _) fun b _ hb=>⟨(QV i j b).2 hb,rfl⟩
theorem Mm (i j:Nat) {v:Value} {x:Nat} {e:TypeId} {k:Nat} {fa:List (List PV)} (h:j1 (δ.cx g κ) w v x e k fa):j1 ((δ.sw i j).cx g (Qo i j κ)) w v (l9 i j x) e k fa:=by
 obtain⟨hl,nk,hk,hb,xs,ho,h1,hx⟩:=h
 refine⟨(Qm i j _).2 (by rw[jA];exact hl),nk,hk,fun b hv=>?_,xs,ho,h1,fun i' j' p hp=>let ⟨u,h1,h2⟩:=hx i' j' p hp;⟨u,h1,J3 i j h2⟩⟩
 show κ (l9 i j (l9 i j x))=some b
 rw[jA];exact hb b hv
theorem G9 (i j:Nat) {v:Value} {av:AV} (h:RA (δ.cx g κ) w v av):RA ((δ.sw i j).cx g (Qo i j κ)) w v (av.sw i j):=by
 induction h with
 |any v=>exact .any v
 |pv h=>exact .pv (J3 i j h)
 |own h=>exact .own (Mm i j h)
 |ptr hl hκ=>exact .ptr ((Lf i j _).2 (by rw[jA];exact hl)) (by show κ (l9 i j (l9 i j _))=_;rw[jA];exact hκ)
 |gf b off vs hN hb hc hr=>exact .gf b off vs ((QV i j b).2 hN) hb hc fun k p hp=>J3 i j (hr k p hp)
 |gX hi h=>exact .gX hi (Mm i j h)
 |agg hs h ih=>
  show RA _ _ _ (.agg (AV.zh i j _))
  rw[AV.vj]
  refine .agg (by simp [hs]) fun k u c hu hc=>?_
  rw[List.getElem?_map] at hc
  obtain⟨c',Ao,rfl⟩:=Option.map_eq_some_iff.1 hc
  exact ih k u c' hu Ao
 |gY hs h ih=>
  show RA _ _ _ (.gY (AV.zh i j _))
  rw[AV.vj]
  refine .gY (by simp [hs]) fun k u c hu hc=>?_
  rw[List.getElem?_map] at hc
  obtain⟨c',Ao,rfl⟩:=Option.map_eq_some_iff.1 hc
  exact ih k u c' hu Ao
 |jx hs h ht h' ih ih'=>
  show RA _ _ _ (.jx _ (AV.zh i j _) (AV.zh i j _))
  rw[AV.vj,AV.vj]
  refine .jx (by simp [hs]) (fun k u c hu hc=>?_) (by simp [ht]) (fun k u c hu hc=>?_)
  ·rw[List.getElem?_map] at hc
   obtain⟨c',Ao,rfl⟩:=Option.map_eq_some_iff.1 hc
   exact ih k u c' hu Ao
  ·rw[List.getElem?_map] at hc
   obtain⟨c',Ao,rfl⟩:=Option.map_eq_some_iff.1 hc
   exact ih' k u c' hu Ao
 |gx hl hκ=>exact .gx ((Lf i j _).2 (by rw[jA];exact hl)) (by show κ (l9 i j (l9 i j _))=_;rw[jA];exact hκ)
 |lT hl hκ=>exact .lT ((Lf i j _).2 (by rw[jA];exact hl)) (by show κ (l9 i j (l9 i j _))=_;rw[jA];exact hκ)
theorem Dx (i j:Nat) (v:AV):(v.sw i j).kT=v.kT:=by cases v<;>rfl
theorem oT.sw (i j:Nat) {x:Nat} {o:Ob} (h:oT (δ.cx g κ) w x o):oT ((δ.sw i j).cx g (Qo i j κ)) w (l9 i j x) (o.sw i j):=by
 have hκ:∀y,((δ.sw i j).cx g (Qo i j κ)).κ (l9 i j y)=κ y:=fun y=>by show κ (l9 i j (l9 i j y))=_;rw[jA]
 cases o with
 |row=>
  intro b hb
  rw[hκ] at hb
  exact h b hb
 |box cs=>
  obtain⟨b,c,e,h1,h2,h3,h4⟩:=h
  show oT _ _ _ (.box (AV.zh i j cs))
  rw[AV.vj]
  refine⟨b,c,e,(hκ x).trans h1,h2,by simp [h3],fun k u av h5 h6=>?_⟩
  rw[List.getElem?_map] at h6
  obtain⟨c',Ao,rfl⟩:=Option.map_eq_some_iff.1 h6
  exact⟨G9 i j (h4 k u c' h5 Ao).1,(h4 k u c' h5 Ao).2⟩
 |mp l=>
  obtain⟨b,es,clock,h1,h2,h3,h4,h5⟩:=h
  refine⟨b,es,clock,(hκ x).trans h1,h2,⟨by simp [h3.1],fun k e p h6 h7=>?_⟩,h4,fun p hp=>?_⟩
  ·rw[List.getElem?_map] at h7
   obtain⟨p',mZ,rfl⟩:=Option.map_eq_some_iff.1 h7
   exact⟨(h3.2 k e p' h6 mZ).1,G9 i j (h3.2 k e p' h6 mZ).2⟩
  ·obtain⟨p',mZ,rfl⟩:=List.mem_map.1 hp
   show(p'.2.sw i j).kT=true
   rw[Dx];exact h5 p' mZ
 |mpl l kk v=>
  obtain⟨b,es,clock,h1,h2,h3,h4,h5⟩:=h
  refine⟨b,es,clock,(hκ x).trans h1,h2,⟨by simpa using h3.1,fun k e p h6 h7=>?_⟩,h4,fun p hp=>?_⟩
  ·have h8:((l++ [(kk,v)]).map fun p=>(p.1,p.2.sw i j))[k]? =some p:=by simpa using h7
   rw[List.getElem?_map] at h8
   obtain⟨p',mZ,rfl⟩:=Option.map_eq_some_iff.1 h8
   exact⟨(h3.2 k e p' h6 mZ).1,G9 i j (h3.2 k e p' h6 mZ).2⟩
  ·obtain⟨p',mZ,rfl⟩:=List.mem_map.1 hp
   show(p'.2.sw i j).kT=true
   rw[Dx];exact h5 p' mZ
 |it l seen=>
  obtain⟨b,h1,h2⟩:=h
  exact⟨b,(hκ x).trans h1,h2.mono (Nat.le_refl _) (fun b _ hb=>⟨(QV i j b).2 hb,rfl⟩) rfl⟩
 |lit T vals=>obtain⟨b,h1,h2⟩:=h;exact⟨b,(hκ x).trans h1,h2⟩
 |fb e rows=>exact⟨(hκ x).trans h.1,fun k=>let ⟨h1,h2,h3,h4⟩:=h.2.1 k;⟨h1,h2,fun b hb=>(by show κ.F (l9 i j (l9 i j x)) b;rw[jA];exact h3 b hb),h4⟩,h.2.2⟩
 |loop l tm ps ji body st=>
  obtain⟨b,r,h1,h2⟩:=h
  exact⟨b,r,(hκ x).trans h1,h2⟩
theorem Rel.sw (i j:Nat) (hi:i<δ.nx) (hj:j<δ.nx) (hw:∀k,g.wt=some k→k.2.2≤i∧k.2.2≤j) (r:Rel g δ κ a w):Rel g (δ.sw i j) (Qo i j κ) a w where
 n:=r.n
 dfr:=r.dfr
 env:=fun k=>by
  have e:(δ.sw i j).get k=(δ.get k).sw i j:=Hu i j k δ.env
  rw[e];exact G9 i j (r.env k)
 obj:=fun x o h=>by
  rw[HA] at h
  obtain⟨o',ga,rfl⟩:=Option.map_eq_some_iff.1 h
  have:=(r.obj _ o' ga).sw i j
  rwa [jA] at this
 inj:=fun x y b hx hy h1 h2=>by
  have:=r.inj _ _ b ((nJ i j x).1 hx) ((nJ i j y).1 hy) h1 h2
  rw[← jA i j x,this,jA]
 lo:=fun x b hx h1=>r.lo _ b ((nJ i j x).1 hx) h1
 nx:=fun x hx=>by
  have:=r.nx _ ((nJ i j x).1 hx)
  show x<δ.nx
  rw[FZ] at this
  split at this
  ·omega
  ·split at this<;>omega
 wt:=fun k hk=>by
  obtain⟨h1,h2⟩:=hw k hk
  refine⟨(r.wt k hk).1,fun x b hx uI hκ=>(r.wt k hk).2 (l9 i j x) b ((nJ i j x).1 hx) ?_ hκ⟩
  rcases uI with uI|uI
  ·exact .inl ((Qm i j x).1 uI)
  ·right
   rw[FZ]
   split
   ·exact h2
   ·split
    ·exact h1
    ·exact uI
 below:=r.below
 hB:=r.hB
 N0:=r.N0
 kZ:=r.kZ
 fr:=by
  refine⟨fun b hb=>?_,fun x b hb=>?_⟩
  ·obtain⟨h1,h2,h3⟩:=r.fr.1 b hb
   exact⟨h1,h2,fun x hx=>h3 _ ((nJ i j x).1 hx)⟩
  ·obtain⟨h1,h2,h3,h4,h5⟩:=r.fr.2 _ b hb
   refine⟨h1,h2,h3,fun y hy=>h4 _ ((nJ i j y).1 hy),fun y hy=>?_⟩
   rw[← jA i j y,h5 _ hy,jA]
namespace Nf
variable {n x:Nat} {e:List (Nat×AV)} {o:List (Nat×Option Ob)} {i j k:Nat}
theorem sw:DS.sw ⟨n,e,o,x⟩ i j=⟨n,Qv i j e,Ae i j o,x⟩:=rfl
theorem Y2:Qv i j []=[]:=rfl
theorem Yf (v:AV) (r:List (Nat×AV)):Qv i j ((k,v)::r)=(k,v.sw i j)::Qv i j r:=rfl
theorem swO0:Ae i j []=[]:=rfl
theorem XD (r:List (Nat×Option Ob)):Ae i j ((k,none)::r)=(l9 i j k,none)::Ae i j r:=rfl
theorem XT (r:List (Nat×Option Ob)):Ae i j ((k,some .row)::r)=(l9 i j k,some .row)::Ae i j r:=rfl
theorem T1 (e:TypeId) (p:Nat→Value×List Value) (r:List (Nat×Option Ob)):Ae i j ((k,some (.fb e p))::r)=(l9 i j k,some (.fb e p))::Ae i j r:=rfl
theorem YF (cs:List AV) (r:List (Nat×Option Ob)):Ae i j ((k,some (.box cs))::r)=(l9 i j k,some (.box (AV.zh i j cs)))::Ae i j r:=rfl
theorem Z_ (l:List (Value×PV)) (s:List Nat) (r:List (Nat×Option Ob)):Ae i j ((k,some (.it l s))::r)=(l9 i j k,some (.it l s))::Ae i j r:=rfl
theorem YY (l tm ps ji body st) (r:List (Nat×Option Ob)):Ae i j ((k,some (.loop l tm ps ji body st))::r)=(l9 i j k,some (.loop l tm ps ji body st))::Ae i j r:=rfl
theorem YB:AV.zh i j []=[]:=rfl
theorem YN (v:AV) (r:List AV):AV.zh i j (v::r)=v.sw i j::AV.zh i j r:=rfl
theorem Xr:AV.sw i j .any=.any:=rfl
theorem Y1 (p:PV):AV.sw i j (.pv p)=.pv p:=rfl
theorem XL (e m fa):AV.sw i j (.own k e m fa)=.own (l9 i j k) e m fa:=rfl
theorem XQ (m:Nat):AV.sw i j (.ptr k m)=.ptr (l9 i j k) m:=rfl
theorem Xs (c:List PV):AV.sw i j (.gf c)=.gf c:=rfl
theorem Zj (e m fa m'):AV.sw i j (.gX k e m fa m')=.gX (l9 i j k) e m fa m':=rfl
theorem Yj (c:List AV):AV.sw i j (.agg c)=.agg (AV.zh i j c):=rfl
theorem YS (c:List AV):AV.sw i j (.gY c)=.gY (AV.zh i j c):=rfl
theorem Zv (f) (c d:List AV):AV.sw i j (.jx f c d)=.jx f (AV.zh i j c) (AV.zh i j d):=rfl
theorem XK:AV.sw i j (.gx k)=.gx (l9 i j k):=rfl
theorem XM:AV.sw i j (.lT k)=.lT (l9 i j k):=rfl
theorem Yu:l9 i j k=bif Nat.beq i k then j else bif Nat.beq j k then i else k:=rfl
set_option linter.defProp false in
def swR:=And.intro @sw (And.intro @Y2 (And.intro @Yf (And.intro @swO0 (And.intro @XD (And.intro @XT (And.intro @T1 (And.intro @YF (And.intro @Z_ (And.intro @YY (And.intro @YB (And.intro @YN (And.intro @Xr (And.intro @Y1 (And.intro @XL (And.intro @XQ (And.intro @Xs (And.intro @Zj (And.intro @Yj (And.intro @YS (And.intro @Zv (And.intro @XK (And.intro @XM @Yu))))))))))))))))))))))
end Nf
variable {k:Wt} {late:List Nat} {l:List Oper} {dn:List Nat} {QD:Exit→DS→Prop}
theorem AR.Hk {δ':DS} (hw:∀g':eZ,(∀k',g'.wt=some k'→k'=k)→o6 g' δ δ') (h:AR P g k late l QD dn δ'):AR P g k late l QD dn δ:=by
 intro w8 κ a w r
 obtain⟨κ',r'⟩:=hw _ (fun k' mo=>by
  have:(if gS late (gB l.length dn)=true then none else some k)=some k':=mo
  split at this
  ·cases this
  ·cases this;rfl) κ a w r
 exact h w8 κ' a w r'
theorem AR.sw (i j:Nat) {m:Nat} (hk:k.2.2=m) (hi:(Nat.ble m i && Nat.blt i δ.nx)=true) (hj:(Nat.ble m j && Nat.blt j δ.nx)=true) (h:AR P g k late l QD dn (δ.sw i j)):AR P g k late l QD dn δ:=by
 simp only[Bool.and_eq_true,Nat.ble_eq,Nat.blt_eq] at hi hj
 exact AR.Hk (fun g' hg κ a w r=>⟨_,r.sw i j hi.2 hj.2 fun k' mo=>by rw[hg k' mo,hk];exact⟨hi.1,hj.1⟩⟩) h
theorem Aq (n:Nat) (d:List Nat):(gB n d).size=n:=by
 induction d with
 |nil=>simp [gB]
 |cons i d ih=>simp [gB,ih]
theorem HO {n:Nat} {d d':List Nat} (h:iH n d=iH n d'):gB n d=gB n d':=by
 apply Array.ext
 ·rw[Aq,Aq]
 ·intro i h1 h2
  have e1:=kA (n:=n) (d:=d) (j:=i)
  have e2:=kA (n:=n) (d:=d') (j:=i)
  rw[h] at e1
  rw[e1] at e2
  rw[Array.getD_eq_getD_getElem?,Array.getD_eq_getD_getElem?,Array.getElem?_eq_getElem h1,Array.getElem?_eq_getElem h2] at e2
  exact e2
theorem AR.perm {J:List Nat} (hm:(iH l.length dn==iH l.length J && Nat.beq dn.length J.length)=true) (h:AR P g k late l QD J δ):AR P g k late l QD dn δ:=by
 simp only[Bool.and_eq_true,beq_iff_eq] at hm
 have hm:iH l.length dn=iH l.length J∧dn.length=J.length:=⟨hm.1,Nat.eq_of_beq_eq_true hm.2⟩
 have e:=HO hm.1
 intro w8 κ a w r
 rw[hm.2]
 have h1:=h (by rw[← e];exact w8) κ a w (by rw[← e];exact r)
 rw[e];exact h1
theorem AR.cut (J:List Nat) {δc:DS} (h1:AR P g k late l QD J δc→AR P g k late l QD dn δ) (h2:AR P g k late l QD J δc):AR P g k late l QD dn δ:=h1 h2
theorem AR.meet {J:List Nat} {δc:DS} (hJ:AR P g k late l QD J δc) (hm:(iH l.length dn==iH l.length J && Nat.beq dn.length J.length)=true) (hw:∀g':eZ,o6 g' δ δc):AR P g k late l QD dn δ:=
 AR.Hk (fun g' _=>hw g') (AR.perm hm hJ)
theorem AR.pS {i j m:Nat} {o p q:Oper} (hl:Nat.blt dn.length l.length=true) (hr:(k8 (iH l.length dn) 0 l==[i,j,m])=true) (ho:l[i]? =some o) (hp:l[j]? =some p) (hq:l[m]? =some q)
  (h:∀g':eZ,Gs g' g→(∀j,k.2.2≤j→g'.nF j)→a_ .plain P g' l.toArray [o] (jb (AR P g k late l QD (i::dn))) δ)
  (h':∀g':eZ,Gs g' g→(∀j,k.2.2≤j→g'.nF j)→a_ .plain P g' l.toArray [p] (jb (AR P g k late l QD (j::dn))) δ)
  (h'':∀g':eZ,Gs g' g→(∀j,k.2.2≤j→g'.nF j)→a_ .plain P g' l.toArray [q] (jb (AR P g k late l QD (m::dn))) δ):AR P g k late l QD dn δ:=
 AR.all hl (kP hr) (by simp) fun i' jJ=>by
  have hw:∀i',∀j,k.2.2≤j→(y7 g k late (gB l.length (i'::dn))).nF j:=by
   intro i' j hj k' mo
   have:(if gS late (gB l.length (i'::dn))=true then none else some k)=some k':=mo
   split at this
   ·cases this
   ·cases this;exact hj
  simp only[List.mem_cons,List.not_mem_nil,or_false] at jJ
  rcases jJ with rfl|rfl|rfl
  ·exact⟨o,ho,h _ ⟨rfl,rfl,rfl⟩ (hw _)⟩
  ·exact⟨p,hp,h' _ ⟨rfl,rfl,rfl⟩ (hw _)⟩
  ·exact⟨q,hq,h'' _ ⟨rfl,rfl,rfl⟩ (hw _)⟩
theorem AR.Bi {i j:Nat} {o p:Oper} (hl:Nat.blt dn.length l.length=true) (hr:(k8 (iH l.length dn) 0 l==[i,j])=true) (ho:l[i]? =some o) (hp:l[j]? =some p) (fy:wc late (iH l.length (i::dn))=true)
  (h:∀g':eZ,Gs g' g→g'.wt=none→a_ .plain P g' l.toArray [o] (jb (AR P g k late l QD (i::dn))) δ)
  (h':∀g':eZ,Gs g' g→(∀j,k.2.2≤j→g'.nF j)→a_ .plain P g' l.toArray [p] (jb (AR P g k late l QD (j::dn))) δ):AR P g k late l QD dn δ:=
 AR.all hl (kP hr) (by simp) fun i' jJ=>by
  have hw:∀i',∀j,k.2.2≤j→(y7 g k late (gB l.length (i'::dn))).nF j:=by
   intro i' j hj k' mo
   have:(if gS late (gB l.length (i'::dn))=true then none else some k)=some k':=mo
   split at this
   ·cases this
   ·cases this;exact hj
  simp only[List.mem_cons,List.not_mem_nil,or_false] at jJ
  rcases jJ with rfl|rfl
  ·exact⟨o,ho,h _ ⟨rfl,rfl,rfl⟩ (if_pos (by rw[pf];exact fy))⟩
  ·exact⟨p,hp,h' _ ⟨rfl,rfl,rfl⟩ (hw _)⟩
theorem AR.rC {i j m:Nat} {o p q:Oper} (hl:Nat.blt dn.length l.length=true) (hr:(k8 (iH l.length dn) 0 l==[i,j,m])=true) (ho:l[i]? =some o) (hp:l[j]? =some p) (hq:l[m]? =some q) (fy:wc late (iH l.length dn)=true)
  (h:∀g':eZ,Gs g' g→g'.wt=none→a_ .plain P g' l.toArray [o] (jb (AR P g k late l QD (i::dn))) δ)
  (h':∀g':eZ,Gs g' g→g'.wt=none→a_ .plain P g' l.toArray [p] (jb (AR P g k late l QD (j::dn))) δ)
  (h'':∀g':eZ,Gs g' g→g'.wt=none→a_ .plain P g' l.toArray [q] (jb (AR P g k late l QD (m::dn))) δ):AR P g k late l QD dn δ:=
 AR.all hl (kP hr) (by simp) fun i' jJ=>by
  have K3:gS late (gB l.length dn)=true:=by rw[pf];exact fy
  have hw:∀i',(y7 g k late (gB l.length (i'::dn))).wt=none:=fun i'=>if_pos (rF K3)
  simp only[List.mem_cons,List.not_mem_nil,or_false] at jJ
  rcases jJ with rfl|rfl|rfl
  ·exact⟨o,ho,h _ ⟨rfl,rfl,rfl⟩ (hw _)⟩
  ·exact⟨p,hp,h' _ ⟨rfl,rfl,rfl⟩ (hw _)⟩
  ·exact⟨q,hq,h'' _ ⟨rfl,rfl,rfl⟩ (hw _)⟩
theorem AR.fG {i j:Nat} {o p:Oper} (hl:Nat.blt dn.length l.length=true) (hr:(k8 (iH l.length dn) 0 l==[i,j])=true) (ho:l[i]? =some o) (hp:l[j]? =some p) (fy:wc late (iH l.length dn)=true)
  (h:∀g':eZ,Gs g' g→g'.wt=none→a_ .plain P g' l.toArray [o] (jb (AR P g k late l QD (i::dn))) δ)
  (h':∀g':eZ,Gs g' g→g'.wt=none→a_ .plain P g' l.toArray [p] (jb (AR P g k late l QD (j::dn))) δ):AR P g k late l QD dn δ:=
 AR.all hl (kP hr) (by simp) fun i' jJ=>by
  have K3:gS late (gB l.length dn)=true:=by rw[pf];exact fy
  have hw:∀i',(y7 g k late (gB l.length (i'::dn))).wt=none:=fun i'=>if_pos (rF K3)
  simp only[List.mem_cons,List.not_mem_nil,or_false] at jJ
  rcases jJ with rfl|rfl
  ·exact⟨o,ho,h _ ⟨rfl,rfl,rfl⟩ (hw _)⟩
  ·exact⟨p,hp,h' _ ⟨rfl,rfl,rfl⟩ (hw _)⟩
def uL (k:Nat):List Nat→Bool
 |[]=>false
 |x::r=>bif Nat.beq x k then true else uL k r
def Jx (s:List Nat):List (Nat×AV)→List (Nat×AV)
 |[]=>[]
 |(k,v)::r=>bif uL k s then Jx s r else (k,v)::Jx (k::s) r
def Jr (s:List Nat):List (Nat×Option Ob)→List (Nat×Option Ob)
 |[]=>[]
 |(k,v)::r=>bif uL k s then Jr s r else (k,v)::Jr (k::s) r
theorem yI {k:Nat}:∀{s:List Nat},uL k s=true↔k∈s
 |[]=>by simp [uL]
 |x::r=>by
  unfold uL
  by_cases h:x=k
  ·subst h;simp
  ·rw[nm h,cond_false,yI,List.mem_cons]
   constructor
   ·exact .inr
   ·rintro(h'|h')
    ·exact absurd h'.symm h
    ·exact h'
theorem yg {j:Nat}:∀{e:List (Nat×AV)} {s:List Nat},j∉s→look (Jx s e) j=look e j
 |[],_,_=>rfl
 |(k,v)::r,s,h=>by
  unfold Jx
  cases hm:uL k s with
  |true=>
   have:k≠j:=by rintro rfl;exact h (yI.1 hm)
   rw[cond_true,fL,if_neg this,yg h]
  |false=>
   rw[cond_false,fL,fL]
   by_cases e:k=j
   ·rw[if_pos e,if_pos e]
   ·rw[if_neg e,if_neg e,yg (by simp only[List.mem_cons,not_or];exact⟨fun h'=>e h'.symm,h⟩)]
theorem tH {j:Nat}:∀{e:List (Nat×Option Ob)} {s:List Nat},j∉s→fi (Jr s e) j=fi e j
 |[],_,_=>rfl
 |(k,v)::r,s,h=>by
  unfold Jr
  cases hm:uL k s with
  |true=>
   have:k≠j:=by rintro rfl;exact h (yI.1 hm)
   rw[cond_true,fE,if_neg this,tH h]
  |false=>
   rw[cond_false,fE,fE]
   by_cases e:k=j
   ·rw[if_pos e,if_pos e]
   ·rw[if_neg e,if_neg e,tH (by simp only[List.mem_cons,not_or];exact⟨fun h'=>e h'.symm,h⟩)]
def DS.dd (δ:DS):DS:=⟨δ.n,Jx [] δ.env,Jr [] δ.gv,δ.nx⟩
theorem Rel.congr {δ':DS} (hn:δ'.n=δ.n) (hx:δ'.nx=δ.nx) (he:∀j,δ'.get j=δ.get j) (ho:∀j,δ'.ob j=δ.ob j) (r:Rel g δ κ a w):Rel g δ' κ a w:=by
 have jh:δ'.ob=δ.ob:=funext ho
 have hl:δ'.live=δ.live:=by unfold DS.live;rw[jh]
 have ox:δ'.lr=δ.lr:=by unfold DS.lr;rw[jh]
 have xf:δ'.lb=δ.lb:=by unfold DS.lb;rw[jh]
 have Eu:δ'.cx g κ=δ.cx g κ:=by unfold DS.cx;rw[hl,ox,xf]
 exact
  {n:=r.n.trans hn.symm,dfr:=r.dfr
   env:=fun j=>by rw[Eu,he];exact r.env j
   obj:=fun i o h=>by rw[Eu];rw[ho] at h;exact r.obj i o h
   inj:=by rw[hl];exact r.inj
   lo:=by rw[hl];exact r.lo
   nx:=by rw[hl,hx];exact r.nx
   wt:=by rw[hl,ox];exact r.wt
   below:=r.below,hB:=r.hB,N0:=r.N0,kZ:=r.kZ,fr:=by rw[hl];exact r.fr}
theorem o6.dd:o6 g δ δ.dd:=fun κ _ _ r=>⟨κ,Rel.congr (δ:=δ) (δ':=δ.dd) rfl rfl (fun j=>yg (s:=[]) (by simp)) (fun j=>tH (s:=[]) (by simp)) r⟩
theorem AR.dd (h:AR P g k late l QD dn δ.dd):AR P g k late l QD dn δ:=AR.Hk (fun _ _=>o6.dd) h
def Sd (b:Bool) (s:List Nat) (k:Nat) (v:AV) (r:List (Nat×AV)):List (Nat×AV):=bif b then Jx s r else (k,v)::Jx (k::s) r
def Rb (b:Bool) (s:List Nat) (k:Nat) (v:Option Ob) (r:List (Nat×Option Ob)):List (Nat×Option Ob):=bif b then Jr s r else (k,v)::Jr (k::s) r
namespace Nf
variable {n x:Nat} {e:List (Nat×AV)} {o:List (Nat×Option Ob)} {i j m:Nat}
theorem dd:DS.dd ⟨n,e,o,x⟩=⟨n,Jx [] e,Jr [] o,x⟩:=rfl
theorem Z3 (s:List Nat):Jx s []=[]:=rfl
theorem XE (s:List Nat) (v:AV) (r:List (Nat×AV)):Jx s ((m,v)::r)=Sd (uL m s) s m v r:=rfl
theorem ZP (s:List Nat) (v:AV) (r:List (Nat×AV)):Sd true s m v r=Jx s r:=rfl
theorem ZY (s:List Nat) (v:AV) (r:List (Nat×AV)):Sd false s m v r=(m,v)::Jx (m::s) r:=rfl
theorem Z2 (s:List Nat):Jr s []=[]:=rfl
theorem Yl (s:List Nat) (v:Option Ob) (r:List (Nat×Option Ob)):Jr s ((m,v)::r)=Rb (uL m s) s m v r:=rfl
theorem ddOt (s:List Nat) (v:Option Ob) (r:List (Nat×Option Ob)):Rb true s m v r=Jr s r:=rfl
theorem YR (s:List Nat) (v:Option Ob) (r:List (Nat×Option Ob)):Rb false s m v r=(m,v)::Jr (m::s) r:=rfl
theorem me0:uL m []=false:=rfl
theorem me1 (y:Nat) (r:List Nat):uL m (y::r)=bif Nat.beq y m then true else uL m r:=rfl
set_option linter.defProp false in
def ddR:=And.intro @dd (And.intro @Z3 (And.intro @XE (And.intro @ZP (And.intro @ZY (And.intro @Z2 (And.intro @Yl (And.intro @ddOt (And.intro @YR (And.intro @me0 @me1)))))))))
end Nf
end Go.Ab
/- Contracts under a premise on the world at the call that no own memory touches (a table laid,a function value's ways);calls of told closures;functions that take functions. -/
namespace Go.Ab
open Go Go.RowKit
variable {P:Program} {g:eZ} {δ:DS} {κ:Kp} {a:Act} {w:World}
variable {ops:Array Oper} {rest:List Oper} {Q:Exit→DS→Prop} {dst:Option Nat} {ty:TypeId} {pos:String} {af:Array Edge}
def UO (T:World→Prop):Prop:=∀w w',T w→Below w.heap.size w w'→T w'
structure Hj (T:World→Prop) (P:Program) (f:FuncId) (args:List AV) (r:AV):Prop where
 enters:∀vals w,(callFunc f vals).run P w=.ok (.enter f vals) w
 calls:∀(N:Nat→Prop) (w:World) (vals:Array Value),T w→(∀b,w.heap.size≤b→N b)→vals.size=args.length→
  (∀(j:Nat) (v:Value) (av:AV),vals[j]? =some v→args[j]? =some av→RA (vx N) w v av)→
  Calls P f vals w fun e w'=>∃v,e=.returned v∧RA (vx N) w' v r∧Below w.heap.size w w'
theorem Fn.toW {T:World→Prop} {f:FuncId} {args:List AV} {r:AV} (h:Fn P f args r):Hj T P f args r:=⟨h.enters,fun N w vals _=>h.calls N w vals⟩
def TB (T:World→Prop) (g:eZ):Prop:=∀w',Below g.B g.w0 w'→T w'
theorem TB.gs {T:World→Prop} {g g':eZ} (h:TB T g) (hg:Gs g' g):TB T g':=fun w' hb=>h w' (by rw[← hg.2.1,← hg.2.2];exact hb)
theorem TB.sub {T T':World→Prop} {g:eZ} (h:TB T g) (hT:∀w,T w→T' w):TB T' g:=fun w' hb=>hT w' (h w' hb)
theorem Hj.enter {T:World→Prop} (i_:UO T) {f:FuncId} {fn:Func} {c:Code} {rs:List ResultVar} {n:Nat} {args:List AV} {r:AV} (hf:P.funcs[f]? =some fn) (hb:fn.body=some c) (uG:fn.results=rs.toArray) (hn:fn.ntmps=n) (Er:Nat.ble args.length n=true)
  (rh:Nat.ble n HS=true) (he:(fn.name== "runtime.NumGoroutine")=false) (h:∀g:eZ,g.ro=none→g.wt=none→TB T g→AW P g c (Ends P rs r) (start n args)):Hj T P f args r:=by
 refine⟨fun vals w=>by simp [callFunc,hf,hb];simpa using he,fun N w vals hTw hN hs gp=>?_⟩
 have hle:args.length≤n:=by simpa using Er
 have OX:n≤HS:=by simpa using rh
 let g:eZ:={B:=w.heap.size,w0:=w,N0:=N,held:=fun _=>undef,ro:=none,mks:=[],wt:=none,fr:=fun _=>False,w1:=w}
 have nG:∀i,¬(start n args).live i:=fun i ⟨o,h⟩=>by cases h
 refine callsIn_wide.1 (callsIn_of_wp_marks (n:=0) hf hb trivial (wpIn_mono (h g rfl rfl (fun w' hb=>i_ w w' hTw hb) ⟨fun _=>none,fun _ _=>False⟩ _ w ?_) ?_))
 ·exact
  {n:=by simp [hn,start];omega
   dfr:=⟨[],rfl,by simp [g],by simp [g]⟩
   env:=fun j=>by
    by_cases hj:j<args.length
    ·have h1:(start n args).get j=args[j]:=nS args 0 j _ (Nat.zero_le _) (by simp [hj])
     have h2:g.val {tmps:=vals++Array.replicate (fn.ntmps - vals.size) undef,defers:=[]} j=vals[j]'(by omega):=by
      unfold eZ.val
      rw[if_pos aJ]
      simp [Array.getD_eq_getD_getElem?,Array.getElem?_append,hs,hj]
     rw[h1,h2]
     exact(gp j _ _ (Array.getElem?_eq_getElem aJ) (List.getElem?_eq_getElem hj)).xF _ fun b _ h=>⟨⟨h,fun⟨_,h⟩=>h⟩,fun i hi=>absurd hi (nG i)⟩
    ·have h1:(start n args).get j=.any:=jC args 0 j (by omega)
     rw[h1];exact .any _
   obj:=fun i o h=>by cases h
   inj:=fun i j b h=>absurd h (nG i)
   lo:=fun i b h=>absurd h (nG i)
   nx:=fun i h=>absurd h (nG i)
   wt:=fun k hk=>by cases hk
   below:=Below.refl _ _
   hB:=Nat.le_refl _
   N0:=fun b h _=>hN b h
   fr:=⟨fun b hb=>hb.elim,fun i b hb=>hb.elim⟩
   kZ:=fun d hd=>by cases hd}
 ·rintro e a' w' ⟨δ',κ',hq,r'⟩
  have fin:∀v,gm P δ' rs v→Le true v r→LeavesInM Fence.wide 0 P fn a'.tmps (fun e w'=>∃v,e=.returned v∧RA (vx N) w' v r∧Below w.heap.size w w') a'.defers .returning w':=by
   intro v h1 h2
   exact leaves (g:=g) rfl rfl uG h1 r' (fun w2 r2 u hu=>by
    exact⟨u,rfl,hu.le h2 (fun b _ h=>h.1.1) (fun _ i b hi hκ=>hN b (r2.lo i b (DS.gK hi) hκ).1),r2.below⟩)
  cases e with
  |normal=>obtain⟨v,h1,h2⟩:=hq;exact fin v h1 h2
  |ret=>obtain⟨v,h1,h2⟩:=hq;exact fin v h1 h2
  |_=>exact hq.elim
theorem TB.at {T:World→Prop} (h:TB T g) (r:Rel g δ κ a w) {w':World} (hb:Below w.heap.size w w'):T w':=h w' (r.below.trans (hb.mono r.hB))
theorem a_.Wp {q:Md} {T:World→Prop} {f:FuncId} {xs:List Operand} {tys:Array TypeId} {args:List AV} {r:AV} (hT:TB T g) (hf:Hj T P f args r) (gp:qC true δ xs args) (kz:r.sk=true) (hd:fT δ.n dst=true) (hq:q≠ .held)
  (hK:a_ q P g ops rest Q (δ.eW dst r)):a_ q P g ops (⟨dst,.call {callee:=.value (.func f),args:=xs.toArray,argTypes:=tys},ty,pos,af,none⟩::rest) Q δ:=by
 intro κ a w r0
 have hc:∀w',Below w.heap.size w w'→Calls P f (xs.toArray.map a.eval) w' fun e w''=>e=.returned r.out∧Below w'.heap.size w' w'':=fun w' jf=>
  (hf.calls (fun _=>True) w' _ (hT.at r0 jf) (fun _ _=>trivial) (by simp [gp.len]) (gp.NS (r0.ext jf) (fun _ _ _=>trivial) (fun _ _ _ _ _=>trivial))).mono (by
   rintro e w'' ⟨v,rfl,hv,hb⟩
   exact⟨by rw[hv.sk (AV.jU (C:=vx (fun _=>True)) (w:=w) kz) kz],hb⟩)
 have uE:=hK κ _ _ (r0.eW (ft hd) (AV.jU kz))
 cases q with
 |quiet=>
  show wpQuiet P ops _ _ (_::rest) a
  unfold wpQuiet
  rw[if_pos (by simp [Region.wanted])]
  refine⟨r.out,fun w' jf=>?_,uE⟩
  unfold Oper.quietAt
  rw[jt (f:=f) rfl hf.enters]
  exact⟨rfl,(hc w' jf).mono fun e w'' ⟨h1,h2⟩=>⟨h1,jf.trans (h2.mono jf.size)⟩⟩
 |held=>exact absurd rfl hq
 |plain=>
  show wpListIn _ _ P ops _ (_::rest) a w
  refine gF rfl rfl fun K oA=>?_
  unfold Oper.y9
  rw[jt (f:=f) rfl hf.enters,Oper.uponIn_enter]
  refine⟨fun h=>by simp at h,(iF (hc w (Below.refl _ _))).mono ?_⟩
  rintro e w' ⟨rfl,hb⟩
  exact oA _ _ (hK κ _ _ ((r0.ext hb).eW (ft hd) (AV.jU kz)))
def AV.seen:AV→PV
 |.pv p=>p
 |.own _ _ k fa=> .slice k fa
 |_=> .any
inductive Qn (δ:DS):AV→AV→Prop
 |le {v r:AV} (h:Le true v r):Qn δ v r
 |box {i off:Nat} {cells:List AV} {ps:List PV} (h:δ.ob i=some (.box cells)) (hc:(cells.drop off).map AV.seen=ps):Qn δ (.ptr i off) (.gf ps)
inductive uu (δ:DS):List AV→List AV→Prop
 |nil:uu δ [] []
 |cons {c d:AV} {cs ds:List AV} (h:Qn δ c d) (hs:uu δ cs ds):uu δ (c::cs) (d::ds)
theorem uu.len {cs ds:List AV} (h:uu δ cs ds):cs.length=ds.length:=by induction h with|nil=>rfl|cons h hs ih=>simp [ih]
theorem uu.at {cs ds:List AV} (h:uu δ cs ds):∀(j:Nat) (c d:AV),cs[j]? =some c→ds[j]? =some d→Qn δ c d:=by
 induction h with
 |nil=>intro j c d h1;simp at h1
 |cons h hs ih=>
  intro j c d h1 h2
  cases j with
  |zero=>simp at h1 h2;subst h1;subst h2;exact h
  |succ j=>exact ih j c d (by simpa using h1) (by simpa using h2)
theorem RA.seen {C:Cx} {u:Value} {av:AV} (h:RA C w u av):RP (fun _=>True) w u av.seen:=by
 cases h with
 |pv h=>exact h.mono (Nat.le_refl _) fun _ _ _=>⟨trivial,rfl⟩
 |own h=>exact h.pv (fun _ _ _=>trivial) (fun _ _ _ _=>trivial)
 |_=>exact .any _
theorem Qn.ra {v r:AV} (h:Qn δ v r) (rl:Rel g δ κ a w) {u:Value} (hu:RA (δ.cx g κ) w u v):RA (vx fun _=>True) w u r:=by
 cases h with
 |le h=>exact hu.le h (fun _ _ _=>trivial) (fun _ _ _ _ _=>trivial)
 | @box i off cells ps hb hc=>
  obtain⟨b,c,e,rfl,hκ,h3,h4,h5⟩:=rl.box hu hb
  have mj:∀j,w.cell? ⟨b,off+j,none⟩=c[off+j]?:=fun j=>cell_of h3 _
  have r8:∀(j:Nat) (p:PV),ps[j]? =some p→∃av,cells[off+j]? =some av∧p=av.seen:=by
   intro j p hp
   rw[← hc,List.getElem?_map,List.getElem?_drop] at hp
   obtain⟨av,h1,h2⟩:=Option.map_eq_some_iff.1 hp
   exact⟨av,h1,h2.symm⟩
  refine .gf b off (fun j=>(c[off+j]?).getD undef) trivial (je h3) (fun j p hp=>?_) (fun j p hp=>?_)
  ·obtain⟨av,h1,rfl⟩:=r8 j p hp
   have fy:=(List.getElem?_eq_some_iff.1 h1).1
   have Qg:c[off+j]? =some c[off+j]:=Array.getElem?_eq_getElem (by omega)
   rw[mj,Qg]
   exact⟨rfl,(h5 _ _ _ Qg h1).2⟩
  ·obtain⟨av,h1,rfl⟩:=r8 j p hp
   have fy:=(List.getElem?_eq_some_iff.1 h1).1
   have Qg:c[off+j]? =some c[off+j]:=Array.getElem?_eq_getElem (by omega)
   simp only[Qg,Option.getD_some]
   exact(h5 _ _ _ Qg h1).1.seen
theorem RA.keep {u:Value} {r:AV} (h:RA (vx fun _=>True) w u r) {w':World} (hb:Below w.heap.size w w'):RA (vx fun _=>True) w' u r:=
 (show kC (vx fun _=>True) w (vx fun _=>True) w' from {B:=rfl,size:=hb.size,N:=fun b h1 h2=>⟨h2,hb.block b h1⟩,Lr:=fun i hi=>hi.elim,Lb:=fun i hi=>hi.elim}).ra h
theorem J8 {r:Rel g δ κ a w} {xs:List Operand} (qt:xs.all fj=true) {first cap args:List AV} {vs us:Array Value} (hs:vs.size=first.length) (HP:∀(j:Nat) (u:Value) (c:AV),vs[j]? =some u→first[j]? =some c→RA (δ.cx g κ) w u c)
  (ht:us.size=cap.length) (H6:∀(j:Nat) (u:Value) (c:AV),us[j]? =some u→cap[j]? =some c→RA (δ.cx g κ) w u c) (gp:uu δ (first++xs.map δ.ev++cap) args):
  (vs++xs.toArray.map a.eval++us).size=args.length∧∀(j:Nat) (v:Value) (av:AV),(vs++xs.toArray.map a.eval++us)[j]? =some v→args[j]? =some av→RA (vx fun _=>True) w v av:=by
 have hl:=gp.len
 simp only[List.length_append,List.length_map] at hl
 refine⟨by simp;omega,fun j v av h1 h2=>?_⟩
 have JB:j<(first++xs.map δ.ev++cap).length:=by rw[gp.len];exact(List.getElem?_eq_some_iff.1 h2).1
 have h3:=List.getElem?_eq_getElem JB
 refine(gp.at j _ av h3 h2).ra r ?_
 generalize (first++xs.map δ.ev++cap)[j]=c at h3
 by_cases hj:j<first.length+xs.length
 ·rw[List.getElem?_append_left (by simp;omega)] at h3
  rw[Array.getElem?_append_left (by simp;omega)] at h1
  by_cases Ny:j<first.length
  ·rw[List.getElem?_append_left Ny] at h3
   rw[Array.getElem?_append_left aJ] at h1
   exact HP j v c h1 h3
  ·rw[List.getElem?_append_right aJ] at h3
   rw[Array.getElem?_append_right aJ,hs] at h1
   simp only[List.map_toArray,List.getElem?_toArray,List.getElem?_map,Option.map_eq_some_iff] at h1 h3
   obtain⟨y,h5,rfl⟩:=h1
   obtain⟨y',h4,rfl⟩:=h3
   rw[h5] at h4;cases h4
   exact r.Ez y (iQ ((List.all_eq_true.1 qt) y (List.mem_of_getElem? h5)))
 ·rw[List.getElem?_append_right (by simp;omega)] at h3
  rw[Array.getElem?_append_right (by simp;omega)] at h1
  have e1:(vs++xs.toArray.map a.eval).size=(first++xs.map δ.ev).length:=by simp;omega
  rw[e1] at h1
  exact H6 _ v c h1 h3
theorem a_.VQ {q:Md} {T:World→Prop} {y:Operand} {f:FuncId} {xs:List Operand} {tys:Array TypeId} {first cap args:List AV} {r:AV} (hT:TB T g) (hf:Hj T P f args r) (hy:δ.ev y=.jx (.func f) first cap) (kS:fj y=true) (qt:xs.all fj=true) (gp:uu δ (first++xs.map δ.ev++cap) args) (kz:r.sk=true) (hd:fT δ.n dst=true) (hq:q≠ .held)
  (hK:a_ q P g ops rest Q (δ.eW dst r)):a_ q P g ops (⟨dst,.call {callee:=.value y,args:=xs.toArray,argTypes:=tys},ty,pos,af,none⟩::rest) Q δ:=by
 intro κ a w r0
 have tB:=r0.ra hy kS
 generalize hv:a.eval y=v at tB
 cases tB with
 | @jx _ vs us _ _ hs HP ht H6=>
  obtain⟨nQ,iX⟩:=J8 (r:=r0) qt hs HP ht H6 gp
  have hc:∀w',Below w.heap.size w w'→Calls P f (vs++xs.toArray.map a.eval++us) w' fun e w''=>e=.returned r.out∧Below w'.heap.size w' w'':=fun w' jf=>
   (hf.calls (fun _=>True) w' _ (hT.at r0 jf) (fun _ _=>trivial) nQ (fun j v av h1 h2=>(iX j v av h1 h2).keep jf)).mono (by
    rintro e w'' ⟨v,rfl,hv,hb⟩
    exact⟨by rw[hv.sk (AV.jU (C:=vx (fun _=>True)) (w:=w) kz) kz],hb⟩)
  have uE:=hK κ _ _ (r0.eW (ft hd) (AV.jU kz))
  cases q with
  |quiet=>
   show wpQuiet P ops _ _ (_::rest) a
   unfold wpQuiet
   rw[if_pos (by simp [Region.wanted])]
   refine⟨r.out,fun w' jf=>?_,uE⟩
   unfold Oper.quietAt
   rw[o9 hv hf.enters]
   exact⟨rfl,(hc w' jf).mono fun e w'' ⟨h1,h2⟩=>⟨h1,jf.trans (h2.mono jf.size)⟩⟩
  |held=>exact absurd rfl hq
  |plain=>
   show wpListIn _ _ P ops _ (_::rest) a w
   refine gF rfl rfl fun K oA=>?_
   unfold Oper.y9
   rw[o9 hv hf.enters,Oper.uponIn_enter]
   refine⟨fun h=>by simp at h,(iF (hc w (Below.refl _ _))).mono ?_⟩
   rintro e w' ⟨rfl,hb⟩
   exact oA _ _ (hK κ _ _ ((r0.ext hb).eW (ft hd) (AV.jU kz)))
theorem TB.none (g:eZ):TB (fun _=>True) g:=fun _ _=>trivial
theorem a_.Tm {q:Md} {y:Operand} {f:FuncId} {xs:List Operand} {tys:Array TypeId} {first cap args:List AV} {r:AV} (hf:Fn P f args r) (hy:δ.ev y=.jx (.func f) first cap) (kS:fj y=true) (qt:xs.all fj=true) (gp:uu δ (first++xs.map δ.ev++cap) args) (kz:r.sk=true) (hd:fT δ.n dst=true) (hq:q≠ .held)
  (hK:a_ q P g ops rest Q (δ.eW dst r)):a_ q P g ops (⟨dst,.call {callee:=.value y,args:=xs.toArray,argTypes:=tys},ty,pos,af,none⟩::rest) Q δ:=a_.VQ (TB.none g) hf.toW hy kS qt gp kz hd hq hK
def DZ (P:Program) (v:Value) (w:World) (arg r:AV):Prop:=∃(f:FuncId) (vs us:Array Value),v=.func (.func f) vs us∧(∀vals w,(callFunc f vals).run P w=.ok (.enter f vals) w)∧
 ∀w',Below w.heap.size w w'→∀u,RA (vx fun _=>True) w' u arg→Calls P f (vs++ #[u]++us) w' fun e w''=>e=.returned r.out∧Below w'.heap.size w' w''
theorem DZ.stay {v:Value} {arg r:AV} {w w':World} (h:DZ P v w arg r) (hb:Below w.heap.size w w'):DZ P v w' arg r:=by
 obtain⟨f,vs,us,h1,h2,h3⟩:=h
 exact⟨f,vs,us,h1,h2,fun w'' hw u hu=>h3 w'' (hb.trans (hw.mono hb.size)) u hu⟩
def ye (P:Program) {α:Type} (v:Value) (A R:α→AV) (l:List α) (w:World):Prop:=∀x∈l,DZ P v w (A x) (R x)
theorem ye.stay {α:Type} (v:Value) (A R:α→AV) (l:List α):UO (ye P v A R l):=fun _ _ h hb x hx=>(h x hx).stay hb
theorem a_.PM {q:Md} {y x:Operand} {v:Value} {tys:Array TypeId} {arg r:AV} (hT:TB (fun w=>DZ P v w arg r) g) (hy:δ.ev y=.pv (.lit v)) (kS:fj y=true) (lL:fj x=true) (hx:Qn δ (δ.ev x) arg) (hd:fT δ.n dst=true) (kz:r.sk=true) (hq:q≠ .held)
  (hK:a_ q P g ops rest Q (δ.eW dst r)):a_ q P g ops (⟨dst,.call {callee:=.value y,args:= #[x],argTypes:=tys},ty,pos,af,none⟩::rest) Q δ:=by
 intro κ a w r0
 have hv:=r0.lit hy kS
 obtain⟨f,vs,us,he,hen,QR⟩:=hT.at r0 (Below.refl _ _)
 have PY:=hx.ra r0 (r0.ra rfl lL)
 have hc:∀w',Below w.heap.size w w'→Calls P f (vs++(#[x]:Array Operand).map a.eval++us) w' fun e w''=>e=.returned r.out∧Below w'.heap.size w' w'':=fun w' jf=>by
  have h:=QR w' jf _ (PY.keep jf)
  have ex:(#[x]:Array Operand).map a.eval= #[a.eval x]:=by simp
  rw[ex];exact h
 have uE:=hK κ _ _ (r0.eW (ft hd) (AV.jU kz))
 have fF:=fun w'=>o9 (dst:=dst) (ty:=ty) (pos:=pos) (af:=af) (gd:=none) (x:=y) (xs:= #[x]) (tys:=tys) (ρ:=a.eval) (hv.trans he) hen w'
 cases q with
 |quiet=>
  show wpQuiet P ops _ _ (_::rest) a
  unfold wpQuiet
  rw[if_pos (by simp [Region.wanted])]
  refine⟨r.out,fun w' jf=>?_,uE⟩
  unfold Oper.quietAt
  rw[fF]
  exact⟨rfl,(hc w' jf).mono fun e w'' ⟨h1,h2⟩=>⟨h1,jf.trans (h2.mono jf.size)⟩⟩
 |held=>exact absurd rfl hq
 |plain=>
  show wpListIn _ _ P ops _ (_::rest) a w
  refine gF rfl rfl fun K oA=>?_
  unfold Oper.y9
  rw[fF,Oper.uponIn_enter]
  refine⟨fun h=>by simp at h,(iF (hc w (Below.refl _ _))).mono ?_⟩
  rintro e w' ⟨rfl,hb⟩
  exact oA _ _ (hK κ _ _ ((r0.ext hb).eW (ft hd) (AV.jU kz)))
theorem TB.way {α:Type} {v:Value} {A R:α→AV} {l:List α} (h:TB (ye P v A R l) g) {x:α} (hx:x∈l):TB (fun w=>DZ P v w (A x) (R x)) g:=h.sub fun w hw=>hw x hx
inductive oe (δ:DS) (z:Operand) (v:Value):List Operand→List AV→Prop
 |nil:oe δ z v [] []
 |here {xs:List Operand} {vs:List AV} (hs:oe δ z v xs vs):oe δ z v (z::xs) (.pv (.lit v)::vs)
 |cons {x:Operand} {u:AV} {xs:List Operand} {vs:List AV} (ho:fj x=true) (h:Qn δ (δ.ev x) u) (hs:oe δ z v xs vs):oe δ z v (x::xs) (u::vs)
theorem oe.len {z:Operand} {v:Value} {xs:List Operand} {vs:List AV} (h:oe δ z v xs vs):xs.length=vs.length:=by induction h with|nil=>rfl|here hs ih=>simp [ih]|cons ho h hs ih=>simp [ih]
theorem oe.NS {z:Operand} {xs:List Operand} {args:List AV} (r:Rel g δ κ a w) (h:oe δ z (a.eval z) xs args):∀(j:Nat) (v:Value) (av:AV),(xs.toArray.map a.eval)[j]? =some v→args[j]? =some av→RA (vx fun _=>True) w v av:=by
 intro j v av h1 h2
 simp only[List.map_toArray,List.getElem?_toArray,List.getElem?_map,Option.map_eq_some_iff] at h1
 obtain⟨x,hx,rfl⟩:=h1
 induction h generalizing j with
 |nil=>simp at hx
 |here hs ih=>
  cases j with
  |zero=>simp at hx h2;subst hx;subst h2;exact .pv (.lit _)
  |succ j=>exact ih j (by simpa using h2) (by simpa using hx)
 |cons ho hle hs ih=>
  cases j with
  |zero=>simp at hx h2;subst hx;subst h2;exact hle.ra r (r.ra rfl ho)
  |succ j=>exact ih j (by simpa using h2) (by simpa using hx)
theorem a_.Vq {q:Md} {α:Type} {T:World→Prop} {A R:α→AV} {l:List α} {z:Operand} {fc f:FuncId} {xs:List Operand} {tys:Array TypeId} {first cap:List AV} {first' cap':List AV} {args:FuncId→Array Value→Array Value→List AV} {r:AV}
  (hf:∀fx vs us,Hj (ye P (.func (.func fx) vs us) A R l) P f (args fx vs us) r) (hT:TB T g) (hc:∀x∈l,Hj T P fc (first'++ [A x]++cap') (R x)) (hz:δ.ev z=.jx (.func fc) first cap) (o_:fj z=true) (h1:uu δ first first') (h2:uu δ cap cap') (hR:∀x,(R x).sk=true) (gp:∀fx vs us,oe δ z (.func (.func fx) vs us) xs (args fx vs us)) (kz:r.sk=true) (hd:fT δ.n dst=true) (hq:q≠ .held)
  (hen:∀vals w,(callFunc fc vals).run P w=.ok (.enter fc vals) w)
  (hK:a_ q P g ops rest Q (δ.eW dst r)):a_ q P g ops (⟨dst,.call {callee:=.value (.func f),args:=xs.toArray,argTypes:=tys},ty,pos,af,none⟩::rest) Q δ:=by
 intro κ a w r0
 have tB:=r0.ra hz o_
 obtain⟨vs,us,hv,hs,HP,ht,H6⟩:∃vs us:Array Value,a.eval z=.func (.func fc) vs us∧vs.size=first.length∧(∀(j:Nat) (u:Value) (c:AV),vs[j]? =some u→first[j]? =some c→RA (δ.cx g κ) w u c)∧us.size=cap.length∧∀(j:Nat) (u:Value) (c:AV),us[j]? =some u→cap[j]? =some c→RA (δ.cx g κ) w u c:=by
  generalize a.eval z=v at tB
  cases tB with
  | @jx _ vs us _ _ hs HP ht H6=>exact⟨vs,us,rfl,hs,HP,ht,H6⟩
 have Wv:ye P (.func (.func fc) vs us) A R l w:=by
  intro x hx
  ·skip
   refine⟨fc,vs,us,rfl,hen,fun w' hb u hu=>?_⟩
   refine((hc x hx).calls (fun _=>True) w' _ (hT.at r0 hb) (fun _ _=>trivial) (by have:=h1.len;have:=h2.len;simp;omega) (fun j v av h3 h4=>?_)).mono (by
    rintro e w'' ⟨v,rfl,hv,hb⟩
    exact⟨by rw[hv.sk (AV.jU (C:=vx (fun _=>True)) (w:=w) (hR x)) (hR x)],hb⟩)
   have l1:=h1.len
   have l2:=h2.len
   by_cases hj:j<first.length
   ·rw[Array.getElem?_append_left (by simp;omega),Array.getElem?_append_left aJ] at h3
    rw[List.getElem?_append_left (by simp;omega),List.getElem?_append_left aJ] at h4
    have h5:=List.getElem?_eq_getElem hj
    exact((h1.at j _ av h5 h4).ra r0 (HP j v _ h3 h5)).keep hb
   ·by_cases qN:j=first.length
    ·rw[Array.getElem?_append_left (by simp;omega),Array.getElem?_append_right aJ,show j - vs.size=0 by omega] at h3
     rw[List.getElem?_append_left (by simp;omega),List.getElem?_append_right aJ,show j - first'.length=0 by omega] at h4
     simp at h3 h4;subst h3;subst h4;exact hu
    ·rw[Array.getElem?_append_right (by simp;omega)] at h3
     rw[List.getElem?_append_right (by simp;omega)] at h4
     have e1:(vs++ #[u]).size=first.length+1:=by simp;omega
     have e2:(first'++ [A x]).length=first.length+1:=by simp;omega
     rw[e1] at h3
     rw[e2] at h4
     have fy:j - (first.length+1)<cap.length:=by rw[l2];exact(List.getElem?_eq_some_iff.1 h4).1
     have h5:=List.getElem?_eq_getElem fy
     exact((h2.at _ _ av h5 h4).ra r0 (H6 _ v _ h3 h5)).keep hb
 have Yp:=hf fc vs us
 have Ck:=gp fc vs us
 rw[← hv] at Ck
 have hcc:∀w',Below w.heap.size w w'→Calls P f (xs.toArray.map a.eval) w' fun e w''=>e=.returned r.out∧Below w'.heap.size w' w'':=fun w' jf=>
  (Yp.calls (fun _=>True) w' _ (ye.stay _ _ _ _ w w' Wv jf) (fun _ _=>trivial) (by simp [Ck.len]) (fun j v av h3 h4=>(Ck.NS r0 j v av h3 h4).keep jf)).mono (by
   rintro e w'' ⟨v,rfl,hv,hb⟩
   exact⟨by rw[hv.sk (AV.jU (C:=vx (fun _=>True)) (w:=w) kz) kz],hb⟩)
 have uE:=hK κ _ _ (r0.eW (ft hd) (AV.jU kz))
 cases q with
 |quiet=>
  show wpQuiet P ops _ _ (_::rest) a
  unfold wpQuiet
  rw[if_pos (by simp [Region.wanted])]
  refine⟨r.out,fun w' jf=>?_,uE⟩
  unfold Oper.quietAt
  rw[jt (f:=f) rfl Yp.enters]
  exact⟨rfl,(hcc w' jf).mono fun e w'' ⟨h1,h2⟩=>⟨h1,jf.trans (h2.mono jf.size)⟩⟩
 |held=>exact absurd rfl hq
 |plain=>
  show wpListIn _ _ P ops _ (_::rest) a w
  refine gF rfl rfl fun K oA=>?_
  unfold Oper.y9
  rw[jt (f:=f) rfl Yp.enters,Oper.uponIn_enter]
  refine⟨fun h=>by simp at h,(iF (hcc w (Below.refl _ _))).mono ?_⟩
  rintro e w' ⟨rfl,hb⟩
  exact oA _ _ (hK κ _ _ ((r0.ext hb).eW (ft hd) (AV.jU kz)))
theorem a_.Mp {q:Md} {α:Type} {T:World→Prop} {A R:α→AV} {l:List α} {z:Operand} {fc f:FuncId} {xs:List Operand} {tys:Array TypeId} {cap cap':List AV} {args:FuncId→Array Value→Array Value→List AV} {r:AV}
  (hf:∀fx vs us,Hj (ye P (.func (.func fx) vs us) A R l) P f (args fx vs us) r) (hc:∀x∈l,Hj T P fc (A x::cap') (R x)) (hen:∀vals w,(callFunc fc vals).run P w=.ok (.enter fc vals) w) (hT:TB T g) (gp:∀fx vs us,oe δ z (.func (.func fx) vs us) xs (args fx vs us)) (hz:δ.ev z=.jx (.func fc) [] cap) (o_:fj z=true) (h2:uu δ cap cap') (hR:∀x,(R x).sk=true) (kz:r.sk=true) (hd:fT δ.n dst=true) (hq:q≠ .held)
  (hK:a_ q P g ops rest Q (δ.eW dst r)):a_ q P g ops (⟨dst,.call {callee:=.value (.func f),args:=xs.toArray,argTypes:=tys},ty,pos,af,none⟩::rest) Q δ:=
 a_.Vq (first:=[]) (first':=[]) hf hT hc hz o_ .nil h2 hR gp kz hd hq hen hK
end Go.Ab
/- Objects that nothing names any more are given up. -/
namespace Go.Ab
open Go Go.RowKit
variable {P:Program} {g:eZ} {δ:DS} {κ:Kp} {a:Act} {w:World}
def sK (ks:List Nat):List (Nat×Option Ob)→List (Nat×Option Ob)
 |[]=>[]
 |(i,o)::r=>bif ng i ks then (i,o)::sK ks r else sK ks r
theorem kO0 (ks:List Nat):sK ks []=[]:=rfl
theorem Zd (ks:List Nat) (i:Nat) (o:Option Ob) (r:List (Nat×Option Ob)):sK ks ((i,o)::r)=bif ng i ks then (i,o)::sK ks r else sK ks r:=rfl
def DS.gc (δ:DS) (ks:List Nat):DS:={δ with gv:=sK ks δ.gv}
theorem gcE (ks:List Nat) (n x:Nat) (e:List (Nat×AV)) (o:List (Nat×Option Ob)):DS.gc ⟨n,e,o,x⟩ ks=⟨n,e,sK ks o,x⟩:=rfl
theorem PS {ks:List Nat} {i:Nat}:(δ.gc ks).ob i=if ng i ks=true then δ.ob i else none:=by
 show fi (sK ks δ.gv) i=if ng i ks=true then fi δ.gv i else none
 generalize δ.gv=l
 induction l with
 |nil=>simp [sK,fi]
 |cons p r ih=>
  obtain⟨j,o⟩:=p
  rw[Zd]
  cases hm:ng j ks with
  |true=>
   rw[cond_true,fE,fE,ih]
   by_cases e:j=i
   ·subst e;rw[if_pos rfl,if_pos rfl,if_pos hm]
   ·rw[if_neg e,if_neg e]
  |false=>
   rw[cond_false,ih,fE]
   by_cases e:j=i
   ·subst e;rw[hm];simp
   ·rw[if_neg e]
def sz (lr lb:Nat→Bool):Ob→Bool
 |.row|.it _ _|.loop _ _ _ _ _ _|.lit _ _|.fb _ _=>true
 |.box cs=>AV.zW lr lb cs
 |.mp l=>l.all fun p=>p.2.ids lr lb
 |.mpl l _ v=>(l.all fun p=>p.2.ids lr lb) && v.ids lr lb
def YA (ks:List Nat) (δ:DS):Bool:=
 (δ.env.all fun p=>p.2.ids (δ.gc ks).q6 (δ.gc ks).qd) && ((δ.gc ks).gv.all fun p=>match p.2 with|some o=>sz (δ.gc ks).q6 (δ.gc ks).qd o|none=>true)
theorem D6 {lr lb:Nat→Bool}:∀{l:List (Nat×AV)},(l.all fun p=>p.2.ids lr lb)=true→∀j,(look l j).ids lr lb=true
 |[],_,j=>rfl
 |(i,v)::r,h,j=>by
  simp only[List.all_cons,Bool.and_eq_true] at h
  rw[fL]
  by_cases e:i=j
  ·rw[if_pos e];exact h.1
  ·rw[if_neg e];exact D6 h.2 j
theorem xK {lr lb:Nat→Bool}:∀{l:List (Nat×Option Ob)},(l.all fun p=>match p.2 with|some o=>sz lr lb o|none=>true)=true→∀i o,fi l i=some o→sz lr lb o=true
 |[],_,i,o,h=>by simp [fi] at h
 |(j,x)::r,h,i,o,ho=>by
  simp only[List.all_cons,Bool.and_eq_true] at h
  rw[fE] at ho
  by_cases e:j=i
  ·rw[if_pos e] at ho;subst ho;exact h.1
  ·rw[if_neg e] at ho;exact xK h.2 i o ho
theorem EC.refl {δ δ':DS}:∀{cs:List AV},AV.zW δ'.q6 δ'.qd cs=true→EC δ δ' cs cs
 |[],_=>trivial
 |c::cs,h=>by
  simp only[AV.zW,Bool.and_eq_true] at h
  exact⟨.eq rfl h.1,EC.refl h.2⟩
theorem o6.gc (ks:List Nat) (hb:YA ks δ=true):o6 g δ (δ.gc ks):=by
 intro κ a w r
 unfold YA at hb
 rw[Bool.and_eq_true] at hb
 refine PD (g:=g) (δ:=δ) (δ':=δ.gc ks) rfl (fun j=> .eq rfl (D6 hb.1 j)) (fun i o h=>?_) (fun i o h=>?_) κ a w r
 ·have h1:=xK hb.2 i o h
  have h2:δ.ob i=some o:=by
   rw[PS] at h
   split at h
   ·exact h
   ·cases h
  cases o with
  |row=>exact .row h2
  |box cs=>exact .box cs h2 (EC.refl h1)
  |mp l=>exact .mp h2 fun p hp=>List.all_eq_true.1 h1 p hp
  |mpl l k v=>
   simp only[sz,Bool.and_eq_true] at h1
   exact .mpl h2 rfl rfl (fun p hp=>List.all_eq_true.1 h1.1 p hp) (.eq rfl h1.2)
  |it l seen=>exact .it h2
  |lit T vals=>exact .lit h2
  |fb e rows=>exact .fb h2 rfl
  |loop=>exact .loop h2
 ·rw[PS] at h
  split at h
  ·exact r.nx i ⟨o,h⟩
  ·cases h
variable {k:Wt} {late:List Nat} {l:List Oper} {dn:List Nat} {QD:Exit→DS→Prop}
theorem AR.gc (ks:List Nat) (hb:YA ks δ=true) (h:AR P g k late l QD dn (δ.gc ks)):AR P g k late l QD dn δ:=AR.Hk (fun _ _=>o6.gc ks hb) h
end Go.Ab
/- Contracts of functions that change objects of their caller's. -/
namespace Go.Ab
open Go Go.RowKit
variable {P:Program} {g:eZ} {δ:DS} {κ:Kp} {a:Act} {w:World}
variable {ops:Array Oper} {rest:List Oper} {Q:Exit→DS→Prop} {dst:Option Nat} {ty:TypeId} {pos:String} {af:Array Edge}
abbrev XS (gv:List (Nat×Option Ob)) (n:Nat):DS:=⟨0,[],gv,n⟩
abbrev Sa:Act:={tmps:= #[],defers:=[]}
def gW:List (Nat×Option Ob)→List AV
 |[]=>[]
 |(i,some (.box _))::r=> .ptr i 0::gW r
 |(i,some (.lit _ _))::r=> .ptr i 0::gW r
 |(i,some (.mp _))::r=> .gx i::gW r
 |_::r=>gW r
structure xz {α:Type} (T:World→Prop) (P:Program) (E:α→Cx→World→Ending→Prop) (f:FuncId) (n0:Nat) (d_:List (Nat×Option Ob)) (args:List AV) (e6:α→List (Nat×Option Ob)):Prop where
 enters:∀vals w,(callFunc f vals).run P w=.ok (.enter f vals) w
 calls:∀(g:eZ) (κ:Kp) (w:World) (vals:Array Value),g.ro=none→g.wt=none→TB T g→Rel g (XS d_ n0) κ Sa w→vals.size=args.length→
  (∀(j:Nat) (v:Value) (av:AV),vals[j]? =some v→args[j]? =some av→RA ((XS d_ n0).cx g κ) w v av)→
  Calls P f vals w fun e w'=>∃x κ',E x ((XS (e6 x) n0).cx g κ') w' e∧Rel g (XS (e6 x) n0) κ' Sa w'∧∀i b,(AV.ptr i 0∈gW d_∨AV.gx i∈gW d_)→κ i=some b→κ' i=some b
def Sn (r:AV) (C:Cx) (w:World) (e:Ending):Prop:=∃v,e=.returned v∧RA C w v r
def Pan (t:TypeId) (ch:List PanicEntry):Prop:=∃u:Value,ch=[{v:=.iface t (.agg #[u]),recovered:=false}]∧u.oneCell'=true
def Yz (t:TypeId) (_:Cx) (_:World) (e:Ending):Prop:=∃ch,e=.panicked ch∧Pan t ch
abbrev Oa (T:World→Prop) (P:Program) (f:FuncId) (n0:Nat) (d_:List (Nat×Option Ob)) (args:List AV) (e6:List (Nat×Option Ob)) (r:AV):Prop:=xz (α:=Unit) T P (fun _=>Sn r) f n0 d_ args (fun _=>e6)
abbrev oP (P:Program) (f:FuncId) (n0:Nat) (d_:List (Nat×Option Ob)) (args:List AV) (e6:List (Nat×Option Ob)) (r:AV):Prop:=xz (α:=Unit) (fun _=>True) P (fun _=>Sn r) f n0 d_ args (fun _=>e6)
abbrev FnD (T:World→Prop) (P:Program) (t:TypeId) (f:FuncId) (n0:Nat) (d_:List (Nat×Option Ob)) (args:List AV) (e6:List (Nat×Option Ob)):Prop:=xz (α:=Unit) T P (fun _=>Yz t) f n0 d_ args (fun _=>e6)
def uh (gv:List (Nat×Option Ob)):List (Nat×Option Ob)→Bool
 |[]=>true
 |(i,some (.box _))::r=>(XS gv 0).qd i && uh gv r
 |(i,some (.lit _ _))::r=>(XS gv 0).qd i && uh gv r
 |(i,some (.mp _))::r=>(XS gv 0).qd i && uh gv r
 |_::r=>uh gv r
theorem EW {δ:DS} {i:Nat} (h:δ.qd i=true) {C:Cx} {w:World} (ho:∀i o,δ.ob i=some o→oT C w i o):∃b,C.κ i=some b:=by
 obtain⟨o,h1,h2⟩:=lW h
 have h3:=ho i o h1
 cases o with
 |row=>simp [Ob.mc] at h2
 |box cs=>obtain⟨b,_,_,h4,_⟩:=h3;exact⟨b,h4⟩
 |lit T vals=>obtain⟨b,h4,_⟩:=h3;exact⟨b,h4⟩
 |fb e rows=>unfold DS.qd at h;rw[h1] at h;cases h
 |mp l=>obtain⟨b,_,_,h4,_⟩:=h3;exact⟨b,h4⟩
 |mpl l k v=>obtain⟨b,_,_,h4,_⟩:=h3;exact⟨b,h4⟩
 |it l seen=>obtain⟨b,h4,_⟩:=h3;exact⟨b,h4⟩
 |loop l tm ps ji body st=>obtain⟨b,_,h4,_⟩:=h3;exact⟨b,h4⟩
theorem ln {gv:List (Nat×Option Ob)} {n:Nat} (ho:∀i o,(XS gv n).ob i=some o→oT ((XS gv n).cx g κ) w i o):∀{l:List (Nat×Option Ob)},uh gv l=true→∃vs:List Value,vs.length=(gW l).length∧∀(j:Nat) (u:Value) (c:AV),vs[j]? =some u→(gW l)[j]? =some c→RA ((XS gv n).cx g κ) w u c
 |[],_=>⟨[],rfl,fun j u c h=>by simp at h⟩
 |(i,none)::r,h=>ln ho (l:=r) h
 |(i,some .row)::r,h=>ln ho (l:=r) h
 |(i,some (.mpl _ _ _))::r,h=>ln ho (l:=r) h
 |(i,some (.it _ _))::r,h=>ln ho (l:=r) h
 |(i,some (.fb _ _))::r,h=>ln ho (l:=r) h
 |(i,some (.loop _ _ _ _ _ _))::r,h=>ln ho (l:=r) h
 |(i,some (.box cs))::r,h=>by
  simp only[uh,Bool.and_eq_true] at h
  obtain⟨vs,h1,h2⟩:=ln ho h.2
  obtain⟨b,hb⟩:=EW (δ:=XS gv n) h.1 ho
  refine⟨.pointer (some ⟨b,0,none⟩)::vs,by simp [gW,h1],fun j u c h3 h4=>?_⟩
  cases j with
  |zero=>simp [gW] at h3 h4;subst h3;subst h4;exact .ptr (lW (δ:=XS gv n) h.1) hb
  |succ j=>exact h2 j u c (by simpa using h3) (by simpa [gW] using h4)
 |(i,some (.lit _ _))::r,h=>by
  simp only[uh,Bool.and_eq_true] at h
  obtain⟨vs,h1,h2⟩:=ln ho h.2
  obtain⟨b,hb⟩:=EW (δ:=XS gv n) h.1 ho
  refine⟨.pointer (some ⟨b,0,none⟩)::vs,by simp [gW,h1],fun j u c h3 h4=>?_⟩
  cases j with
  |zero=>simp [gW] at h3 h4;subst h3;subst h4;exact .ptr (lW (δ:=XS gv n) h.1) hb
  |succ j=>exact h2 j u c (by simpa using h3) (by simpa [gW] using h4)
 |(i,some (.mp m))::r,h=>by
  simp only[uh,Bool.and_eq_true] at h
  obtain⟨vs,h1,h2⟩:=ln ho h.2
  obtain⟨b,hb⟩:=EW (δ:=XS gv n) h.1 ho
  refine⟨.map (some b)::vs,by simp [gW,h1],fun j u c h3 h4=>?_⟩
  cases j with
  |zero=>simp [gW] at h3 h4;subst h3;subst h4;exact .gx (lW (δ:=XS gv n) h.1) hb
  |succ j=>exact h2 j u c (by simpa using h3) (by simpa [gW] using h4)
abbrev XF (δ:DS) (d_ e6:List (Nat×Option Ob)):DS:=⟨δ.n,[(1000,.agg (gW d_))],e6,δ.nx⟩
def lk (P:Program) (rs:List ResultVar) (d_ e6:List (Nat×Option Ob)) (r:AV):Exit→DS→Prop
 |.normal,δ|.ret,δ=>∃v,gm P δ rs v∧WV δ (XF δ d_ e6) v r∧WV δ (XF δ d_ e6) (δ.get 1000) (.agg (gW d_))∧pt δ (XF δ d_ e6) e6∧tL δ.nx e6=true
 |_,_=>False
def P8 (t:TypeId) (d_ e6:List (Nat×Option Ob)):Exit→DS→Prop
 |.panic ch,δ=>Pan t ch∧WV δ (XF δ d_ e6) (δ.get 1000) (.agg (gW d_))∧pt δ (XF δ d_ e6) e6∧tL δ.nx e6=true
 |_,_=>False
theorem RA.Hy {C:Cx} {w:World} {u:Value} {i off:Nat} (h:RA C w u (.ptr i off)):∃b,u=.pointer (some ⟨b,off,none⟩)∧C.κ i=some b:=by
 cases h with
 |ptr hl hκ=>exact⟨_,rfl,hκ⟩
theorem RA.Dh {C:Cx} {w:World} {u:Value} {i:Nat} (h:RA C w u (.gx i)):∃b,u=.map (some b)∧C.κ i=some b:=by
 cases h with
 |gx hl hκ=>exact⟨_,rfl,hκ⟩
theorem Ma {C C':Cx} {w w':World} {vs:Array Value} {ps:List AV} (h:RA C w (.agg vs) (.agg ps)) (h':RA C' w' (.agg vs) (.agg ps)) {i b:Nat} (hp:AV.ptr i 0∈ps∨AV.gx i∈ps) (hb:C.κ i=some b):C'.κ i=some b:=by
 cases h with
 |agg hs h=>
  cases h' with
  |agg WZ h'=>
   rcases hp with hp|hp
   ·obtain⟨j,hj⟩:=List.getElem?_of_mem hp
    have fy:j<vs.size:=by rw[hs];exact(List.getElem?_eq_some_iff.1 hj).1
    have h1:=h j _ _ (Array.getElem?_eq_getElem fy) hj
    have h2:=h' j _ _ (Array.getElem?_eq_getElem fy) hj
    obtain⟨b1,e1,k1⟩:=h1.Hy
    obtain⟨b2,e2,k2⟩:=h2.Hy
    rw[e1] at e2
    cases e2
    rw[k1] at hb
    cases hb
    exact k2
   ·obtain⟨j,hj⟩:=List.getElem?_of_mem hp
    have fy:j<vs.size:=by rw[hs];exact(List.getElem?_eq_some_iff.1 hj).1
    have h1:=h j _ _ (Array.getElem?_eq_getElem fy) hj
    have h2:=h' j _ _ (Array.getElem?_eq_getElem fy) hj
    obtain⟨b1,e1,k1⟩:=h1.Dh
    obtain⟨b2,e2,k2⟩:=h2.Dh
    rw[e1] at e2
    cases e2
    rw[k1] at hb
    cases hb
    exact k2
theorem xz.enter {α:Type} {T:World→Prop} {E:α→Cx→World→Ending→Prop} {Q:Exit→DS→Prop} {f:FuncId} {fn:Func} {c:Code} {n n0:Nat} {d_:List (Nat×Option Ob)} {e6:α→List (Nat×Option Ob)} {args:List AV} (hf:P.funcs[f]? =some fn) (hb:fn.body=some c) (hn:fn.ntmps=n) (Er:Nat.ble args.length n=true)
  (rh:Nat.ble n HS=true) (he:(fn.name== "runtime.NumGoroutine")=false) (u9:uh d_ d_=true) (ux:∀x,tL n0 (e6 x)=true)
  (h:∀g:eZ,g.ro=none→g.wt=none→TB T g→AW P g c Q ⟨n,enum 0 args++ [(1000,.agg (gW d_))],d_,n0⟩)
  (hQ:∀(g:eZ) (e:Exit) (δ':DS) (κ':Kp) (a':Act) (w':World) (R:Ending→World→Prop),g.wt=none→g.base=[]→Q e δ'→Rel g δ' κ' a' w'→
   (∀x,WV δ' (XF δ' d_ (e6 x)) (δ'.get 1000) (.agg (gW d_))→pt δ' (XF δ' d_ (e6 x)) (e6 x)→tL δ'.nx (e6 x)=true→
    ∀en w2,Rel g δ' κ' {a' with defers:=[]} w2→E x ((XF δ' d_ (e6 x)).cx g (wj δ' κ')) w2 en→R en w2)→bodyPostM Fence.wide 0 P fn R e a' w'):xz T P E f n0 d_ args e6:=by
 refine⟨fun vals w=>by simp [callFunc,hf,hb];simpa using he,fun g κ w vals Cv jk Ug pj hs gp=>?_⟩
 have hle:args.length≤n:=by simpa using Er
 have OX:n≤HS:=by simpa using rh
 have hHS:HS=1000:=rfl
 obtain⟨ps,Re,hpv⟩:=ln pj.obj u9
 have u0:g.base=[]:=by
  obtain⟨rs,e,_,_⟩:=pj.dfr
  exact(List.append_eq_nil_iff.1 e.symm).2
 have hpa:RA ((XS d_ n0).cx g κ) w (.agg ps.toArray) (.agg (gW d_)):=.agg (by simpa using Re) fun j u c h1 h2=>hpv j u c (by simpa using h1) h2
 let g':eZ:={g with held:=fun _=> .agg ps.toArray}
 let δ0:DS:=⟨n,enum 0 args++ [(1000,.agg (gW d_))],d_,n0⟩
 have H3:∀(l:List AV) (i j:Nat),look (enum i l++ [(1000,AV.agg (gW d_))]) j=if i≤j∧j<i+l.length then look (enum i l) j else look [(1000,AV.agg (gW d_))] j:=by
  intro l
  induction l with
  |nil=>intro i j;rw[if_neg (by simp)];rfl
  |cons x l ih=>
   intro i j
   show look ((i,x)::(enum (i+1) l++_)) j=_
   rw[fL]
   by_cases e:i=j
   ·subst e
    rw[if_pos rfl,if_pos (by simp)]
    show x=look ((i,x)::enum (i+1) l) i
    rw[fL,if_pos rfl]
   ·rw[if_neg e,ih]
    simp only[List.length_cons]
    by_cases hj:i+1≤j∧j<i+1+l.length
    ·rw[if_pos hj,if_pos aJ]
     show _=look ((i,x)::enum (i+1) l) j
     rw[fL,if_neg e]
    ·rw[if_neg hj,if_neg aJ]
 have hR:Rel g' δ0 κ {tmps:=vals++Array.replicate (fn.ntmps - vals.size) undef,defers:=[]} w:=
  {n:=by show _=n;simp [hn];omega
   dfr:=by
    obtain⟨rs,e,h1,h2⟩:=pj.dfr
    have e0:=(List.append_eq_nil_iff.1 e.symm).1
    have e0:rs=[]:=by simpa using e0
    subst e0
    exact⟨[],by show []=_++g.base;rw[u0];rfl,h1,h2⟩
   env:=fun j=>by
    show RA ((XS d_ n0).cx g κ) w _ (look (enum 0 args++ [(1000,AV.agg (gW d_))]) j)
    rw[H3]
    by_cases hj:j<args.length
    ·rw[if_pos aJ]
     have h1:look (enum 0 args) j=args[j]:=nS args 0 j _ (Nat.zero_le _) (by simp [hj])
     have h2:g'.val {tmps:=vals++Array.replicate (fn.ntmps - vals.size) undef,defers:=[]} j=vals[j]'(by omega):=by
      unfold eZ.val
      rw[if_pos aJ]
      simp [Array.getD_eq_getD_getElem?,Array.getElem?_append,hs,hj]
     rw[h1,h2]
     exact gp j _ _ (Array.getElem?_eq_getElem aJ) (List.getElem?_eq_getElem hj)
    ·rw[if_neg aJ,fL]
     by_cases e:1000=j
     ·rw[if_pos e]
      have h2:g'.val {tmps:=vals++Array.replicate (fn.ntmps - vals.size) undef,defers:=[]} j=.agg ps.toArray:=by
       unfold eZ.val
       rw[if_neg aJ]
      rw[h2];exact hpa
     ·rw[if_neg e];exact .any _
   obj:=pj.obj,inj:=pj.inj,lo:=pj.lo,nx:=pj.nx,wt:=pj.wt,below:=pj.below,hB:=pj.hB,N0:=pj.N0,fr:=pj.fr
   kZ:=fun d hd=>by cases hd}
 have hw:=h g' Cv jk Ug κ _ w hR
 rw[show g'.ro=none from Cv] at hw
 refine callsIn_wide.1 (callsIn_of_wp_marks (n:=0) hf hb trivial (wpIn_mono hw ?_))
 rintro e a' w' ⟨δ',κ',hq,r'⟩
 refine hQ g' e δ' κ' a' w' _ jk u0 hq r' fun x hp ho hx en w2 r2 hE=>?_
 have hg:∀j,(XF δ' d_ (e6 x)).get j=if 1000=j then .agg (gW d_) else .any:=fun j=>fL _ _ _ _
 have r3:Rel g' (XF δ' d_ (e6 x)) (wj δ' κ') {a' with defers:=[]} w2:=P3 (g:=g') (δ:=δ') (δ':=XF δ' d_ (e6 x)) rfl (fun j=>by
   rw[hg]
   by_cases e:1000=j
   ·subst e;rw[if_pos rfl];exact hp
   ·rw[if_neg e];exact .any _) (fun i o h=>ho.at i o h) (fun i o h=>rI hx i o h) r2
 refine⟨x,wj δ' κ',hE,?_,fun i b hpi hb=>?_⟩
 ·exact
   {n:=rfl
    dfr:=by
     obtain⟨rs,e,h1,h2⟩:=r3.dfr
     have e0:=(List.append_eq_nil_iff.1 e.symm).1
     have e0:rs=[]:=by simpa using e0
     subst e0
     exact⟨[],by show []=_++g.base;rw[u0];rfl,h1,h2⟩
    env:=fun j=> .any _
    obj:=r3.obj,inj:=r3.inj,lo:=r3.lo,nx:=fun i ⟨o,h⟩=>rI (ux x) i o h,wt:=fun k hk=>by rw[jk] at hk;cases hk
    below:=r3.below,hB:=r3.hB,N0:=r3.N0,fr:=r3.fr,kZ:=fun d hd=>by cases hd}
 ·have h3:=r3.env 1000
  rw[hg,if_pos rfl] at h3
  have h4:g'.val {a' with defers:=[]} 1000=.agg ps.toArray:=by
   unfold eZ.val
   rw[if_neg aJ]
  rw[h4] at h3
  exact Ma (C:=(XS d_ n0).cx g κ) (w:=w) hpa h3 hpi hb
theorem Oa.enter {T:World→Prop} {f:FuncId} {fn:Func} {c:Code} {rs:List ResultVar} {n n0:Nat} {d_ e6:List (Nat×Option Ob)} {args:List AV} {r:AV} (hf:P.funcs[f]? =some fn) (hb:fn.body=some c) (uG:fn.results=rs.toArray) (hn:fn.ntmps=n) (Er:Nat.ble args.length n=true)
  (rh:Nat.ble n HS=true) (he:(fn.name== "runtime.NumGoroutine")=false) (u9:uh d_ d_=true) (ux:tL n0 e6=true)
  (h:∀g:eZ,g.ro=none→g.wt=none→TB T g→AW P g c (lk P rs d_ e6 r) ⟨n,enum 0 args++ [(1000,.agg (gW d_))],d_,n0⟩):Oa T P f n0 d_ args e6 r:=by
 refine xz.enter (Q:=lk P rs d_ e6 r) hf hb hn Er rh he u9 (fun _=>ux) h fun g e δ' κ' a' w' R jk u0 hq r' hR=>?_
 have fin:∀v,gm P δ' rs v→WV δ' (XF δ' d_ e6) v r→WV δ' (XF δ' d_ e6) (δ'.get 1000) (.agg (gW d_))→pt δ' (XF δ' d_ e6) e6→tL δ'.nx e6=true→
   LeavesInM Fence.wide 0 P fn a'.tmps R a'.defers .returning w':=fun v h1 hv hp ho hx=>
  leaves (g:=g) jk u0 uG h1 r' fun w2 r2 u hu=>hR () hp ho hx _ _ r2 ⟨u,rfl,hu.wv (δ:=δ') (δ':=XF δ' d_ e6) r2.mg r2.obj hv⟩
 cases e with
 |normal=>obtain⟨v,h1,h2,h3,h4,h5⟩:=hq;exact fin v h1 h2 h3 h4 h5
 |ret=>obtain⟨v,h1,h2,h3,h4,h5⟩:=hq;exact fin v h1 h2 h3 h4 h5
 |_=>exact hq.elim
theorem oP.enter {f:FuncId} {fn:Func} {c:Code} {rs:List ResultVar} {n n0:Nat} {d_ e6:List (Nat×Option Ob)} {args:List AV} {r:AV} (hf:P.funcs[f]? =some fn) (hb:fn.body=some c) (uG:fn.results=rs.toArray) (hn:fn.ntmps=n) (Er:Nat.ble args.length n=true)
  (rh:Nat.ble n HS=true) (he:(fn.name== "runtime.NumGoroutine")=false) (u9:uh d_ d_=true) (ux:tL n0 e6=true)
  (h:∀g:eZ,g.ro=none→g.wt=none→AW P g c (lk P rs d_ e6 r) ⟨n,enum 0 args++ [(1000,.agg (gW d_))],d_,n0⟩):oP P f n0 d_ args e6 r:=Oa.enter hf hb uG hn Er rh he u9 ux fun g h1 h2 _=>h g h1 h2
end Go.Ab
namespace Go.Ab
open Go Go.RowKit
variable {P:Program} {g:eZ} {δ:DS} {κ:Kp} {a:Act} {w:World}
variable {ops:Array Oper} {rest:List Oper} {Q:Exit→DS→Prop} {dst:Option Nat} {ty:TypeId} {pos:String} {af:Array Edge}
theorem RA.to {C C':Cx} (hB:C'.B=C.B) (hN:∀b,C.N b→C'.N b) {lr lb:Nat→Bool} (ox:∀i,lr i=true→C'.Lr i∧C'.κ i=C.κ i) (xf:∀i,lb i=true→C'.Lb i∧C'.κ i=C.κ i) {v:Value} {av:AV} (h:RA C w v av) (hi:av.ids lr lb=true):RA C' w v av:=by
 have hp:∀{v:Value} {p:PV},RP C.N w v p→RP C'.N w v p:=fun h=>h.mono (Nat.le_refl _) fun b _ h2=>⟨hN b h2,rfl⟩
 have ho:∀{v:Value} {i e k fa},j1 C w v i e k fa→lr i=true→j1 C' w v i e k fa:=by
  intro v i e k fa h hl
  obtain⟨h1,h2,h3,h4,xs,h5,h6,h7⟩:=h
  refine⟨(ox i hl).1,h2,h3,fun b hb=>(ox i hl).2.trans (h4 b hb),xs,?_,h6,fun i' j p mZ=>let ⟨u,h8,h9⟩:=h7 i' j p mZ;⟨u,h8,hp h9⟩⟩
  rw[hB];exact h5
 induction h with
 |any v=>exact .any v
 |pv h=>exact .pv (hp h)
 |own h=>exact .own (ho h hi)
 |ptr hl hκ=>exact .ptr (xf _ hi).1 ((xf _ hi).2.trans hκ)
 |gf b off vs Jw hb hc hr=>exact .gf b off vs (hN _ Jw) hb hc (fun j p h=>hp (hr j p h))
 |gX fy h=>exact .gX fy (ho h hi)
 |agg hs h ih=>exact .agg hs fun j u c h1 h2=>ih j u c h1 h2 (AV.mH _ hi j c h2)
 |gY hs h ih=>exact .gY hs fun j u c h1 h2=>ih j u c h1 h2 (AV.mH _ hi j c h2)
 |jx hs h ht h' ih ih'=>
  simp only[AV.ids,Bool.and_eq_true] at hi
  exact .jx hs (fun j u c h1 h2=>ih j u c h1 h2 (AV.mH _ hi.1 j c h2)) ht (fun j u c h1 h2=>ih' j u c h1 h2 (AV.mH _ hi.2 j c h2))
 |gx hl hκ=>exact .gx (xf _ hi).1 ((xf _ hi).2.trans hκ)
 |lT hl hκ=>exact .lT (xf _ hi).1 ((xf _ hi).2.trans hκ)
theorem oT.to {C C':Cx} (hB:C'.B=C.B) (hN:∀b,C.N b→C'.N b) {lr lb:Nat→Bool} (ox:∀i,lr i=true→C'.Lr i∧C'.κ i=C.κ i) (xf:∀i,lb i=true→C'.Lb i∧C'.κ i=C.κ i) {i:Nat} {o:Ob} (hκ:C'.κ i=C.κ i) (hF:∀b,C.κ.F i b→C'.κ.F i b) (h:oT C w i o) (hi:sz lr lb o=true):oT C' w i o:=by
 cases o with
 |row=>intro b hb;rw[hκ] at hb;exact h b hb
 |lit T vals=>obtain⟨b,h1,h2⟩:=h;exact⟨b,hκ.trans h1,h2⟩
 |fb e rows=>exact⟨hκ.trans h.1,fun k=>(h.2.1 k).lJ hB fun b _ h2 _=>⟨hF b h2,rfl⟩,h.2.2⟩
 |box cs=>
  obtain⟨b,c,e,h1,h2,h3,h4⟩:=h
  exact⟨b,c,e,hκ.trans h1,h2,h3,fun j u av h5 h6=>⟨(h4 j u av h5 h6).1.to hB hN ox xf (AV.mH _ hi j av h6),(h4 j u av h5 h6).2⟩⟩
 |mp l=>
  obtain⟨b,es,clock,h1,h2,h3,h4⟩:=h
  exact⟨b,es,clock,hκ.trans h1,h2,⟨h3.1,fun j e p h5 h6=>⟨(h3.2 j e p h5 h6).1,(h3.2 j e p h5 h6).2.to hB hN ox xf (List.all_eq_true.1 hi p (List.mem_of_getElem? h6))⟩⟩,h4⟩
 |mpl l k v=>
  obtain⟨b,es,clock,h1,h2,h3,h4⟩:=h
  simp only[sz,Bool.and_eq_true] at hi
  exact⟨b,es,clock,hκ.trans h1,h2,h3.last (fun u p hp h=>h.to hB hN ox xf (List.all_eq_true.1 hi.1 p hp)) (fun u h=>h.to hB hN ox xf hi.2),h4⟩
 |it l seen=>
  obtain⟨b,h1,h2⟩:=h
  exact⟨b,hκ.trans h1,h2.mono (Nat.le_refl _) (fun b _ h=>⟨hN b h,rfl⟩) rfl⟩
 |loop l tm ps ji body st=>
  obtain⟨b,lr',h1,h2⟩:=h
  exact⟨b,lr',hκ.trans h1,h2⟩
def kH:List (Nat×Option Ob)→List (Nat×Option Ob)→Bool
 |[],[]=>true
 |(i,some .row)::r,(j,some .row)::r'=>Nat.beq i j && kH r r'
 |(i,some (.box _))::r,(j,some (.box _))::r'=>Nat.beq i j && kH r r'
 |(i,some (.lit _ _))::r,(j,some (.box _))::r'=>Nat.beq i j && kH r r'
 |(i,some (.mp _))::r,(j,some (.mp _))::r'=>Nat.beq i j && kH r r'
 |(i,some (.fb _ _))::r,(j,some (.fb _ _))::r'=>Nat.beq i j && kH r r'
 |_,_=>false
inductive Kind (l0 l1:List (Nat×Option Ob)) (i:Nat):Prop
 |none (h0:fi l0 i=.none) (h1:fi l1 i=.none)
 |row (h0:fi l0 i=some .row) (h1:fi l1 i=some .row)
 |box (c d:List AV) (h0:fi l0 i=some (.box c)) (h1:fi l1 i=some (.box d)) (hp:AV.ptr i 0∈gW l0)
 |lit (T:TypeId) (vals:Array Value) (d:List AV) (h0:fi l0 i=some (.lit T vals)) (h1:fi l1 i=some (.box d)) (hp:AV.ptr i 0∈gW l0)
 |mp (c d:List (Value×AV)) (h0:fi l0 i=some (.mp c)) (h1:fi l1 i=some (.mp d)) (hp:AV.gx i∈gW l0)
 |fb (e e':TypeId) (c d:Nat→Value×List Value) (h0:fi l0 i=some (.fb e c)) (h1:fi l1 i=some (.fb e' d))
theorem Kind.skip {j:Nat} {o o':Option Ob} {r r':List (Nat×Option Ob)} {i:Nat} (h:Kind r r' i) (gn:¬j=i):Kind ((j,o)::r) ((j,o')::r') i:=by
 have e0:∀(o:Option Ob) (r:List (Nat×Option Ob)),fi ((j,o)::r) i=fi r i:=fun o r=>by rw[fE,if_neg gn]
 have hp:∀{c:AV},c∈gW r→c∈gW ((j,o)::r):=fun {c} h=>by
  rcases o with _|o
  ·exact h
  ·cases o<;>simp only[gW]<;>first|exact h|exact List.mem_cons_of_mem _ h
 cases h with
 |none h0 h1=>exact .none ((e0 _ _).trans h0) ((e0 _ _).trans h1)
 |row h0 h1=>exact .row ((e0 _ _).trans h0) ((e0 _ _).trans h1)
 |box c d h0 h1 h2=>exact .box c d ((e0 _ _).trans h0) ((e0 _ _).trans h1) (hp h2)
 |lit T vals d h0 h1 h2=>exact .lit T vals d ((e0 _ _).trans h0) ((e0 _ _).trans h1) (hp h2)
 |mp c d h0 h1 h2=>exact .mp c d ((e0 _ _).trans h0) ((e0 _ _).trans h1) (hp h2)
 |fb e e' c d h0 h1=>exact .fb e e' c d ((e0 _ _).trans h0) ((e0 _ _).trans h1)
theorem pq:∀{l0 l1:List (Nat×Option Ob)},kH l0 l1=true→∀i,Kind l0 l1 i
 |[],[],_,i=> .none rfl rfl
 |(j,some .row)::r,(j',some .row)::r',h,i=>by
  simp only[kH,Bool.and_eq_true] at h
  obtain rfl:=Nat.eq_of_beq_eq_true h.1
  by_cases e:j=i
  ·subst e;exact .row (by rw[fE,if_pos rfl]) (by rw[fE,if_pos rfl])
  ·exact(pq h.2 i).skip e
 |(j,some (.box c))::r,(j',some (.box d))::r',h,i=>by
  simp only[kH,Bool.and_eq_true] at h
  obtain rfl:=Nat.eq_of_beq_eq_true h.1
  by_cases e:j=i
  ·subst e;exact .box c d (by rw[fE,if_pos rfl]) (by rw[fE,if_pos rfl]) (by simp [gW])
  ·exact(pq h.2 i).skip e
 |(j,some (.lit T c))::r,(j',some (.box d))::r',h,i=>by
  simp only[kH,Bool.and_eq_true] at h
  obtain rfl:=Nat.eq_of_beq_eq_true h.1
  by_cases e:j=i
  ·subst e;exact .lit T c d (by rw[fE,if_pos rfl]) (by rw[fE,if_pos rfl]) (by simp [gW])
  ·exact(pq h.2 i).skip e
 |(j,some (.mp c))::r,(j',some (.mp d))::r',h,i=>by
  simp only[kH,Bool.and_eq_true] at h
  obtain rfl:=Nat.eq_of_beq_eq_true h.1
  by_cases e:j=i
  ·subst e;exact .mp c d (by rw[fE,if_pos rfl]) (by rw[fE,if_pos rfl]) (by simp [gW])
  ·exact(pq h.2 i).skip e
 |(j,some (.fb e c))::r,(j',some (.fb e' d))::r',h,i=>by
  simp only[kH,Bool.and_eq_true] at h
  obtain rfl:=Nat.eq_of_beq_eq_true h.1
  by_cases e0:j=i
  ·subst e0;exact .fb e e' c d (by rw[fE,if_pos rfl]) (by rw[fE,if_pos rfl])
  ·exact(pq h.2 i).skip e0
def js:List (Nat×Option Ob)→List Nat
 |[]=>[]
 |(i,some .row)::r=>i::js r
 |_::r=>js r
theorem AO:∀{l:List (Nat×Option Ob)} {i:Nat},fi l i=some .row→ng i (js l)=true
 |[],i,h=>by simp [fi] at h
 |(j,o)::r,i,h=>by
  rw[fE] at h
  have hm:∀(b:Bool),(bif b then true else ng i (js r))=true∨ng i (js r)=false:=fun b=>by cases b<;>cases ng i (js r)<;>simp
  by_cases e:j=i
  ·rw[if_pos e] at h
   subst h
   subst e
   simp only[js,xu,beq_self_eq_true,cond_true]
  ·rw[if_neg e] at h
   have:=AO h
   rcases o with _|o
   ·exact this
   ·cases o<;>simp only[js,xu]<;>first|exact this|(rw[this];cases (i==j)<;>rfl)
def rJ (rs:List Nat):AV→AV
 |.own j e k fa=>bif ng j rs then .any else .own j e k fa
 |.gX j e k fa n=>bif ng j rs then .any else .gX j e k fa n
 |v=>v
def AV.iS (rs:List Nat):AV→AV:=AV.mp (rJ rs)
def Cx.wA (C:Cx) (rs:List Nat):Cx:={C with Lr:=fun j=>C.Lr j∧ng j rs=false,κ:=⟨C.κ.f,fun _ _=>False⟩}
theorem RA.iS {C C':Cx} {rs:List Nat} {w w':World} (G:kC (C.wA rs) w C' w') {v:Value} {av:AV} (h:RA C w v av):RA C' w' v (av.iS rs):=by
 have CP:∀{v j e k fa},j1 C w v j e k fa→ng j rs=false→j1 (C.wA rs) w v j e k fa:=fun h hj=>⟨⟨h.live,hj⟩,h.lim,h.hk,h.x8,h.row⟩
 unfold AV.iS
 induction h with
 |any v=>exact .any v
 |pv h=>exact .pv (G.rp h)
 | @own v j e k fa h=>
  simp only[AV.mp,rJ]
  cases hj:ng j rs with
  |true=>exact .any _
  |false=>exact .own (G.Ig (CP h hj))
 |ptr hl hκ=>exact .ptr (G.Lb _ hl).1 ((G.Lb _ hl).2.trans hκ)
 |gf b off vs hN hb hc hr=>exact G.ra (C:=C.wA rs) (.gf b off vs hN hb hc hr)
 | @gX j e k fa n b cap hn h=>
  simp only[AV.mp,rJ]
  cases hj:ng j rs with
  |true=>exact .any _
  |false=>exact .gX hn (G.Ig (CP h hj))
 | @agg vs cs hs h ih=>
  simp only[AV.mp,AV.jX]
  refine .agg (by simpa using hs) fun j u c h1 h2=>?_
  simp only[List.getElem?_map,Option.map_eq_some_iff] at h2
  obtain⟨c',h2,rfl⟩:=h2
  exact ih j u c' h1 h2
 | @gY vs cs hs h ih=>
  simp only[AV.mp,AV.jX]
  refine .gY (by simpa using hs) fun j u c h1 h2=>?_
  simp only[List.getElem?_map,Option.map_eq_some_iff] at h2
  obtain⟨c',h2,rfl⟩:=h2
  exact ih j u c' h1 h2
 | @jx fn vs us cs ds hs h ht h' ih ih'=>
  simp only[AV.mp,AV.jX]
  refine .jx (by simpa using hs) (fun j u c h1 h2=>?_) (by simpa using ht) (fun j u c h1 h2=>?_)
  ·simp only[List.getElem?_map,Option.map_eq_some_iff] at h2
   obtain⟨c',h2,rfl⟩:=h2
   exact ih j u c' h1 h2
  ·simp only[List.getElem?_map,Option.map_eq_some_iff] at h2
   obtain⟨c',h2,rfl⟩:=h2
   exact ih' j u c' h1 h2
 |gx hl hκ=>exact .gx (G.Lb _ hl).1 ((G.Lb _ hl).2.trans hκ)
 |lT hl hκ=>exact .lT (G.Lb _ hl).1 ((G.Lb _ hl).2.trans hκ)
theorem RA.wA {C:Cx} {rs:List Nat} {w:World} {v:Value} {av:AV} (h:RA C w v av) (hn:av.kT=true):RA (C.wA rs) w v av:=by
 cases h with
 |any v=>exact .any v
 |pv h=>exact .pv h
 |own h=>simp [AV.kT] at hn
 |ptr hl hκ=>exact .ptr hl hκ
 |gf b off vs hN hb hc hr=>exact .gf b off vs hN hb hc hr
 |gX hi h=>simp [AV.kT] at hn
 |agg hs h=>simp [AV.kT] at hn
 |gY hs h=>simp [AV.kT] at hn
 |jx hs h ht h'=>simp [AV.kT] at hn
 |gx hl hκ=>exact .gx hl hκ
 |lT hl hκ=>exact .lT hl hκ
def Dv (δ:DS):List (Nat×Option Ob)→Prop
 |[]=>True
 |(i,o)::r=>δ.ob i=o∧Dv δ r
theorem Dv.at {δ:DS}:∀{l:List (Nat×Option Ob)},Dv δ l→∀i o,fi l i=some o→δ.ob i=some o
 |[],_,i,o,h=>by simp [fi] at h
 |(j,x)::r,hs,i,o,h=>by
  rw[fE] at h
  by_cases e:j=i
  ·rw[if_pos e] at h;subst e;rw[hs.1];exact h
  ·rw[if_neg e] at h;exact hs.2.at i o h
inductive Wy (lr lb:Nat→Bool):AV→AV→Prop
 |any (c:AV):Wy lr lb c .any
 |eq {c d:AV} (h:c=d) (hi:d.ids lr lb=true):Wy lr lb c d
 |nil (k:Nat):Wy lr lb (.pv (.lit (.slice none 0 0))) (.pv (.slice k []))
inductive wD (lr lb:Nat→Bool):List AV→List AV→Prop
 |nil:wD lr lb [] []
 |cons {c d:AV} {cs ds:List AV} (h:Wy lr lb c d) (hs:wD lr lb cs ds):wD lr lb (c::cs) (d::ds)
theorem wD.len {lr lb:Nat→Bool} {cs ds:List AV} (h:wD lr lb cs ds):cs.length=ds.length:=by induction h with|nil=>rfl|cons h hs ih=>simp [ih]
theorem wD.at {lr lb:Nat→Bool} {cs ds:List AV} (h:wD lr lb cs ds):∀(j:Nat) (c d:AV),cs[j]? =some c→ds[j]? =some d→Wy lr lb c d:=by
 induction h with
 |nil=>intro j c d h1;simp at h1
 |cons h hs ih=>
  intro j c d h1 h2
  cases j with
  |zero=>simp at h1 h2;subst h1;subst h2;exact h
  |succ j=>exact ih j c d (by simpa using h1) (by simpa using h2)
def DS.iy (δ:DS) (d_ e6:List (Nat×Option Ob)):DS:={(δ.gU (AV.iS (js d_))) with gv:=e6++(δ.gU (AV.iS (js d_))).gv}
theorem CW:∀{l l':List (Nat×Option Ob)} {i:Nat},(∀p∈l,p.2.isSome=true)→fi (l++l') i=match fi l i with|some o=>some o|none=>fi l' i
 |[],l',i,_=>rfl
 |(j,o)::r,l',i,h=>by
  rw[List.cons_append,fE,fE]
  by_cases e:j=i
  ·rw[if_pos e,if_pos e]
   have:=h (j,o) (by simp)
   cases o with
   |none=>simp at this
   |some o=>rfl
  ·rw[if_neg e,if_neg e];exact CW fun p hp=>h p (by simp [hp])
theorem mz:∀{l0 l1:List (Nat×Option Ob)},kH l0 l1=true→∀p∈l1,p.2.isSome=true
 |[],[],_,p,hp=>by simp at hp
 |(j,some .row)::r,(j',some .row)::r',h,p,hp=>by
  simp only[kH,Bool.and_eq_true] at h
  rcases List.mem_cons.1 hp with rfl|hp
  ·rfl
  ·exact mz h.2 p hp
 |(j,some (.box c))::r,(j',some (.box d))::r',h,p,hp=>by
  simp only[kH,Bool.and_eq_true] at h
  rcases List.mem_cons.1 hp with rfl|hp
  ·rfl
  ·exact mz h.2 p hp
 |(j,some (.lit T c))::r,(j',some (.box d))::r',h,p,hp=>by
  simp only[kH,Bool.and_eq_true] at h
  rcases List.mem_cons.1 hp with rfl|hp
  ·rfl
  ·exact mz h.2 p hp
 |(j,some (.mp c))::r,(j',some (.mp d))::r',h,p,hp=>by
  simp only[kH,Bool.and_eq_true] at h
  rcases List.mem_cons.1 hp with rfl|hp
  ·rfl
  ·exact mz h.2 p hp
 |(j,some (.fb e c))::r,(j',some (.fb e' d))::r',h,p,hp=>by
  simp only[kH,Bool.and_eq_true] at h
  rcases List.mem_cons.1 hp with rfl|hp
  ·rfl
  ·exact mz h.2 p hp
theorem Iq (rs:List Nat):AV.iS rs .any=.any:=rfl
end Go.Ab
/- Callees that rewrite a row of numbers in place:Go's slices.Sort,slices.Compact. -/
namespace Go.Ab
open Go Go.RowKit
variable {P:Program} {g:eZ} {δ:DS} {κ:Kp} {a:Act} {w:World}
def nI (z:Int):List PV:=[.lit (.int .i64 z)]
structure NK (P:Program) (f:FuncId) (out:List Int→List Int) (ret:Option (List Int→Nat)):Prop where
 enters:∀vals w,(callFunc f vals).run P w=.ok (.enter f vals) w
 len:∀zs,(out zs).length=zs.length
 retle:∀r,ret=some r→∀zs,r zs≤zs.length
 calls:∀(b cap:Nat) (zs:List Int) (w:World),Sort.Holds (Value.int .i64) w b 0 zs.toArray→b<w.heap.size→zs.length≤140737488355328→zs.length≤cap→
  Calls P f #[.slice (some ⟨b,0,none⟩) zs.length cap] w fun e w'=>e=.returned (match ret with|none=> .tuple #[]|some r=> .slice (some ⟨b,0,none⟩) (r zs) cap)∧
   ∃n os,w'=Sort.grow (Sort.putRow (Value.int .i64) (Sort.ahead w n) b 0 (out zs).toArray) os
 nil:∀w,Calls P f #[.slice none 0 0] w fun e w'=>e=.returned (match ret with|none=> .tuple #[]|some _=> .slice none 0 0)∧Below w.heap.size w w'
theorem Cy {w:World} {b n:Nat} {c:Array Value} {e:TypeId} {d:Array Int} {os:Array Obj} (h:w.heap[b]? =some (.cells c e (0,0))):
  (Sort.grow (Sort.putRow (Value.int .i64) (Sort.ahead w n) b 0 d) os).heap[b]? =some (.cells (Sort.putCells (Value.int .i64) 0 d c) e (0,0)):=by
 have hb:b<w.heap.size:=(Array.getElem?_eq_some_iff.1 h).1
 unfold Sort.grow Sort.putRow Sort.mapBlock Sort.ahead
 simp only
 rw[Array.getElem?_append_left (by simpa using hb),Array.getElem?_modify,if_pos rfl,h]
 rfl
theorem BU {w:World} {b n k:Nat} {d:Array Int} {os:Array Obj} (hk:k<w.heap.size) (gn:b≠k):
  (Sort.grow (Sort.putRow (Value.int .i64) (Sort.ahead w n) b 0 d) os).heap[k]? =w.heap[k]?:=by
 unfold Sort.grow Sort.putRow Sort.mapBlock Sort.ahead
 simp only
 rw[Array.getElem?_append_left (by simpa using hk),Array.getElem?_modify,if_neg gn]
theorem Bx (w:World) (b n:Nat) (d:Array Int) (os:Array Obj):iL w (Sort.grow (Sort.putRow (Value.int .i64) (Sort.ahead w n) b 0 d) os) (some b):=
 ⟨rfl,rfl,rfl,by simp [Sort.grow,Sort.putRow,Sort.mapBlock,Sort.ahead],fun k hk gn=>BU hk (fun e=>gn (by rw[e]))⟩
theorem z8 {c:Array Value} {d:List Int} (hc:d.length≤c.size):(Sort.putCells (Value.int .i64) 0 d.toArray c).toList.take d.length=d.map (Value.int .i64):=by
 apply List.ext_getElem
 ·simp [Sort.putCells];omega
 ·intro j h1 h2
  have hj:j<d.length:=by simpa using h2
  simp [Sort.putCells,hj]
theorem OV {w:World} {N:Nat→Prop} {xs:List Value} {zs:List Int} (hl:xs.length=zs.length*1) (hx:∀i' j p,cellAt (zs.map nI) i' j=some p→∃u,xs[i'*1+j]? =some u∧RP N w u p):xs=zs.map (Value.int .i64):=by
 apply List.ext_getElem
 ·simp [hl]
 ·intro j h1 h2
  have hj:j<zs.length:=by simpa using h2
  obtain⟨u,hu,hr⟩:=hx j 0 (.lit (.int .i64 zs[j])) (by simp [cellAt,hj,nI])
  cases hr
  rw[Nat.mul_one,Nat.add_zero,List.getElem?_eq_getElem h1] at hu
  simpa using hu
def j_ (δ:DS) (v:AV):List Nat→DS
 |[]=>δ
 |t::ts=>(j_ δ v ts).put t v
theorem Da (δ:DS) (v:AV) (ts:List Nat):(j_ δ v ts).n=δ.n:=by induction ts with|nil=>rfl|cons t ts ih=>exact ih
def AZ (δ:DS) (v:AV):List Nat→Prop
 |[]=>True
 |t::ts=>δ.get t=v∧AZ δ v ts
theorem Tc (δ:DS) (t:Nat) (v:AV):(δ.put t v).cx g κ=δ.cx g κ:=rfl
theorem nT (δ:DS) (v:AV):∀ts,(j_ δ v ts).cx g κ=δ.cx g κ
 |[]=>rfl
 |t::ts=>by show((j_ δ v ts).put t v).cx g κ=_;rw[Tc,nT δ v ts]
theorem Rel.sB (r:Rel g δ κ a w) {t:Nat} {v:AV} (h:RA (δ.cx g κ) w (g.val a t) v):Rel g (δ.put t v) κ a w where
 n:=r.n
 dfr:=r.dfr
 env:=fun j=>by
  rw[Ht]
  by_cases e:t=j
  ·subst e;rw[if_pos rfl];exact h
  ·rw[if_neg e];exact r.env j
 obj:=r.obj
 inj:=r.inj
 lo:=r.lo
 nx:=r.nx
 wt:=r.wt
 below:=r.below
 hB:=r.hB
 N0:=r.N0
 fr:=r.fr
 kZ:=r.kZ
theorem Rel.qT (r:Rel g δ κ a w) {v:AV}:∀ts:List Nat,(∀t∈ts,RA (δ.cx g κ) w (g.val a t) v)→Rel g (j_ δ v ts) κ a w
 |[],_=>r
 |t::ts,h=>(Rel.qT r ts fun t ht=>h t (by simp [ht])).sB (by rw[nT];exact h t (by simp))
theorem rT {δ:DS} {v:AV}:∀{ts:List Nat},AZ δ v ts→∀t∈ts,δ.get t=v
 |[],_,t,h=>by simp at h
 |x::ts,h,t,ht=>by
  rcases List.mem_cons.1 ht with rfl|ht
  ·exact h.1
  ·exact rT h.2 t ht
variable {ops:Array Oper} {rest:List Oper} {Q:Exit→DS→Prop} {dst:Option Nat} {ty:TypeId} {pos:String} {af:Array Edge} {gd:Option (Tmp×Bool)}
def A7 (i:Nat) (e:TypeId) (zs os:List Int):Option (List Int→Nat)→AV
 |none=> .gY []
 |some r=> .own i e 1 ((os.take (r zs)).map nI)
theorem j1.ke {C:Cx} {w:World} {v:Value} {i:Nat} {e:TypeId} {zs:List Int} (h:j1 C w v i e 1 (zs.map nI)):
  (v=.slice none 0 0∧zs=[])∨∃b cap c,v=.slice (some ⟨b,0,none⟩) zs.length cap∧C.κ i=some b∧C.B≤b∧w.heap[b]? =some (.cells c e (0,0))∧zs.length≤cap∧cap≤maxLen∧c.size=cap∧c.toList.take zs.length=zs.map (Value.int .i64):=by
 obtain⟨xs,⟨hl,gR⟩,_,hx⟩:=h.row
 rw[List.length_map] at hl gR
 have R2:=OV hl hx
 rcases gR with ⟨rfl,h0⟩|⟨b,cap,c,rfl,h1,h2,h3,h4,h5,h6⟩
 ·exact .inl ⟨rfl,List.eq_nil_of_length_eq_zero h0⟩
 ·refine .inr ⟨b,cap,c,rfl,h.x8 b rfl,h1,h2,h3,h4,by omega,?_⟩
  rw[← R2,← h6,Nat.mul_one]
theorem j1.EH {C:Cx} {w:World} {i b cap:Nat} {e:TypeId} {zs:List Int} {c:Array Value} (hl:C.Lr i) (hκ:C.κ i=some b) (hB:C.B≤b) (h2:w.heap[b]? =some (.cells c e (0,0))) (h3:zs.length≤cap) (h4:cap≤maxLen) (h5:c.size=cap)
  (h6:c.toList.take zs.length=zs.map (Value.int .i64)) (nk:zs.length≤140737488355328):j1 C w (.slice (some ⟨b,0,none⟩) zs.length cap) i e 1 (zs.map nI):=by
 refine⟨hl,by simpa using nk,fun c hc=>?_,fun b' jn=>?_,zs.map (Value.int .i64),⟨by simp,.inr ⟨b,cap,c,by simp,hB,h2,by simpa using h3,h4,by omega,by simpa using h6⟩⟩,fun u hu=>?_,fun i' j p hp=>?_⟩
 ·obtain⟨z,_,rfl⟩:=List.mem_map.1 hc;rfl
 ·cases jn;exact hκ
 ·obtain⟨z,_,rfl⟩:=List.mem_map.1 hu;rfl
 ·unfold cellAt at hp
  rw[List.getElem?_map] at hp
  cases hz:zs[i']? with
  |none=>rw[hz] at hp;simp at hp
  |some z=>
   rw[hz] at hp
   cases j with
   |zero=>
    simp [nI] at hp
    subst hp
    exact⟨.int .i64 z,by rw[Nat.mul_one,Nat.add_zero,List.getElem?_map,hz];rfl,.lit _⟩
   |succ j=>simp [nI] at hp
theorem iV.KL {f:FuncId} {x:Operand} {tys:Array TypeId} {out:List Int→List Int} {ret:Option (List Int→Nat)} (hf:NK P f out ret) (ts:List Nat) {i:Nat} {e:TypeId} {zs:List Int} (hx:δ.ev x=.own i e 1 (zs.map nI)) (sM:AZ δ (.own i e 1 (zs.map nI)) ts) (hr:δ.ob i=some .row)
  (ho:fj x=true) (hd:fT δ.n dst=true):
  iV P g ⟨dst,.call {callee:=.value (.func f),args:= #[x],argTypes:=tys},ty,pos,af,none⟩ δ ((j_ (δ.gU (AV.kill i)) (.own i e 1 ((out zs).map nI)) ts).eW dst (A7 i e zs (out zs) ret)):=by
 intro κ a w r
 right
 have zY:=(r.ra hx ho).jv
 have fF:=jt (dst:=dst) (ty:=ty) (pos:=pos) (af:=af) (xs:= #[x]) (tys:=tys) (ρ:=a.eval) (x:=.func f) (f:=f) rfl hf.enters w
 have nk:zs.length≤140737488355328:=by simpa using zY.lim
 refine⟨f, #[a.eval x],by simpa using fF,?_⟩
 have sA:∀ts,fT (j_ (δ.gU (AV.kill i)) (.own i e 1 ((out zs).map nI)) ts).n dst=true:=fun ts=>by rw[Da];exact hd
 have ox:∀κ',((δ.gU (AV.kill i)).cx g κ').Lr i:=fun κ'=>by
  show(δ.gU (AV.kill i)).ob i=some .row
  rw[kR,hr];rfl
 have n3:∀t∈ts,j1 (δ.cx g κ) w (g.val a t) i e 1 (zs.map nI):=fun t ht=>by
  have:=r.env t
  rw[rT sM t ht] at this
  exact this.jv
 have H_:∀{w':World},j1 ((δ.gU (AV.kill i)).cx g κ) w' (.slice none 0 0) i e 1 (([]:List Int).map nI):=fun {w'}=>
  ⟨ox κ,(by simp),(fun c hc=>by simp at hc),(fun b hb=>by cases hb),⟨[],⟨by simp,.inl ⟨rfl,rfl⟩⟩,(fun u hu=>by simp at hu),(fun i' j p hp=>by simp [cellAt] at hp)⟩⟩
 rcases zY.ke with ⟨hv,rfl⟩|⟨b,cap,c,hv,hκ,hB,hb,oX,oC,pI,tA⟩
 ·
  rw[hv]
  refine(hf.nil w).mono fun e' w' ⟨he,SL⟩=>?_
  have r1:=r.ext SL
  have e0:out []=[]:=List.eq_nil_of_length_eq_zero (by rw[hf.len];rfl)
  have rk:Rel g (δ.gU (AV.kill i)) κ a w':=by
   refine(r1.row hr (κ':=κ) (fun _ _=>rfl) ⟨rfl,rfl,rfl,Nat.le_refl _,fun _ _ _=>rfl⟩ (fun b jn=>?_) (AV.kill i) rfl (fun G v av h=>h.kill G)).1
   obtain⟨c,e',h1⟩:=r1.obj i .row hr b jn
   exact⟨.inl jn,(Array.getElem?_eq_some_iff.1 h1).1,c,e',h1⟩
  have ra:Rel g (j_ (δ.gU (AV.kill i)) (.own i e 1 ((out []).map nI)) ts) κ a w':=by
   refine rk.qT ts fun t ht=> .own ?_
   have h1:=r1.env t
   rw[rT sM t ht] at h1
   rw[e0]
   rcases h1.jv.ke with ⟨h2,_⟩|⟨b,cap,c,h2,hκ,hB,hb,oX,oC,pI,tA⟩
   ·rw[h2];exact H_
   ·rw[h2];exact j1.EH (ox κ) hκ hB hb oX oC pI tA (by simp)
  refine⟨_,κ,he,ra.eW (ft (sA ts)) ?_⟩
  cases ret with
  |none=>exact .gY rfl (fun j u c h=>by simp at h)
  |some rr=>
   show RA _ _ _ (.own i e 1 (((out []).take (rr [])).map nI))
   rw[e0,nT]
   exact .own (by simpa using H_)
 ·rw[hv]
  have hκ0:κ i=some b:=hκ
  have V1:b<w.heap.size:=(Array.getElem?_eq_some_iff.1 hb).1
  have hold:Sort.Holds (Value.int .i64) w b 0 zs.toArray:=by
   intro j hj
   have oB:j<zs.length:=by simpa using hj
   refine⟨?_,by rw[Nat.zero_add];exact py hb _⟩
   rw[Nat.zero_add,cell_of hb]
   have h1:(c.toList.take zs.length)[j]? =(zs.map (Value.int .i64))[j]?:=by rw[tA]
   rw[List.getElem?_take,if_pos oB,Array.getElem?_toList,List.getElem?_map,List.getElem?_eq_getElem oB] at h1
   rw[h1]
   simp [oB]
  refine(hf.calls b cap zs w hold V1 nk oX).mono fun e' w' ⟨he,n,os,jf⟩=>?_
  have hh:w'.heap[b]? =some (.cells (Sort.putCells (Value.int .i64) 0 (out zs).toArray c) e (0,0)):=by rw[jf];exact Cy hb
  have nQ:(Sort.putCells (Value.int .i64) 0 (out zs).toArray c).size=c.size:=by simp [Sort.putCells]
  have KP:=z8 (c:=c) (d:=out zs) (by rw[hf.len];omega)
  have rk:Rel g (δ.gU (AV.kill i)) κ a w':=by
   refine(r.row hr (κ':=κ) (fun _ _=>rfl) (by rw[hκ0,jf];exact Bx _ _ _ _ _) (fun b' jn=>?_) (AV.kill i) rfl (fun G v av h=>h.kill G)).1
   obtain rfl:b=b':=Option.some.inj (hκ.symm.trans jn)
   exact⟨.inl hκ,(Array.getElem?_eq_some_iff.1 hh).1,_,_,hh⟩
  have ra:Rel g (j_ (δ.gU (AV.kill i)) (.own i e 1 ((out zs).map nI)) ts) κ a w':=by
   refine rk.qT ts fun t ht=> .own ?_
   rcases(n3 t ht).ke with ⟨h2,h0⟩|⟨b',cap',c',h2,Gb,hB',jn,U4,KC,Zw,Ym⟩
   ·have e0:out zs=[]:=List.eq_nil_of_length_eq_zero (by rw[hf.len,h0];rfl)
    rw[h2,e0];exact H_
   ·obtain rfl:b=b':=Option.some.inj (hκ.symm.trans Gb)
    rw[hb] at jn
    simp only[Option.some.injEq,Obj.cells.injEq] at jn
    obtain⟨rfl,_⟩:=jn
    rw[h2,← hf.len zs]
    exact j1.EH (ox κ) hκ hB hh (by rw[hf.len];exact U4) KC aJ KP (by rw[hf.len];exact nk)
  refine⟨_,κ,he,ra.eW (ft (sA ts)) ?_⟩
  rw[nT]
  cases ret with
  |none=>exact .gY rfl (fun j u c h=>by simp at h)
  |some rr=>
   have hle:=hf.retle rr rfl zs
   have DW:((out zs).take (rr zs)).length=rr zs:=by rw[List.length_take,hf.len];omega
   show RA _ _ (.slice (some ⟨b,0,none⟩) (rr zs) cap) (.own i e 1 (((out zs).take (rr zs)).map nI))
   refine .own ?_
   have:=j1.EH (C:=(δ.gU (AV.kill i)).cx g κ) (w:=w') (i:=i) (b:=b) (cap:=cap) (e:=e) (zs:=(out zs).take (rr zs)) (ox κ) hκ hB hh aJ oC (by omega)
    (by rw[DW,List.map_take,← KP,List.take_take,hf.len,Nat.min_eq_left aJ]) (by omega)
   rwa [DW] at this
theorem a_.KL {f:FuncId} {x:Operand} {tys:Array TypeId} {out:List Int→List Int} {ret:Option (List Int→Nat)} (hf:NK P f out ret) (ts:List Nat) {i:Nat} {e:TypeId} {zs:List Int} (hx:δ.ev x=.own i e 1 (zs.map nI)) (sM:AZ δ (.own i e 1 (zs.map nI)) ts) (hr:δ.ob i=some .row)
  (ho:fj x=true) (hd:fT δ.n dst=true) (hK:a_ .plain P g ops rest Q ((j_ (δ.gU (AV.kill i)) (.own i e 1 ((out zs).map nI)) ts).eW dst (A7 i e zs (out zs) ret))):
  a_ .plain P g ops (⟨dst,.call {callee:=.value (.func f),args:= #[x],argTypes:=tys},ty,pos,af,none⟩::rest) Q δ:=
 a_.s6 rfl rfl (iV.KL hf ts hx sM hr ho hd) hK
theorem enters_of {f:FuncId} {fn:Func} {c:Code} (hf:P.funcs[f]? =some fn) (hb:fn.body=some c) (he:(fn.name== "runtime.NumGoroutine")=false):∀vals w,(callFunc f vals).run P w=.ok (.enter f vals) w:=fun vals w=>by
 simp [callFunc,hf,hb];simpa using he
end Go.Ab
/- A call by a contract over objects. -/
namespace Go.Ab
open Go Go.RowKit
variable {P:Program} {g:eZ} {δ:DS} {κ:Kp} {a:Act} {w:World}
variable {ops:Array Oper} {rest:List Oper} {Q:Exit→DS→Prop} {dst:Option Nat} {ty:TypeId} {pos:String} {af:Array Edge}
def JH:List (Nat×AV)→List (Nat×AV)
 |[]=>[]
 |(i,v)::r=>bif Nat.ble HS i then (i,v)::JH r else JH r
abbrev DS.hi (δ:DS):DS:=⟨δ.n,JH δ.env,δ.gv,δ.nx⟩
theorem Dp:∀(e:List (Nat×AV)) (j:Nat),look (JH e) j=if j<HS then .any else look e j
 |[],j=>by simp [JH,look]
 |(i,v)::r,j=>by
  have ih:=Dp r j
  rw[fL]
  unfold JH
  cases hb:Nat.ble HS i with
  |true=>
   have jn:HS≤i:=by simpa using hb
   rw[cond_true,fL,ih]
   by_cases e:i=j
   ·subst e;rw[if_pos rfl,if_pos rfl,if_neg aJ]
   ·rw[if_neg e,if_neg e]
  |false=>
   have jn:¬HS≤i:=by
    intro h
    have h':Nat.ble HS i=true:=by simpa using h
    rw[hb] at h'
    cases h'
   rw[cond_false,ih]
   by_cases e:i=j
   ·subst e;rw[if_pos aJ,if_pos aJ]
   ·rw[if_neg e]
theorem Rel.hi (r:Rel g δ κ a w):Rel g δ.hi κ a w:=
 {n:=r.n,dfr:=r.dfr
  env:=fun j=>by
   have:=r.env j
   show RA (δ.cx g κ) w _ (look (JH δ.env) j)
   rw[Dp]
   by_cases h:j<HS
   ·rw[if_pos h];exact .any _
   ·rw[if_neg h];exact this
  obj:=r.obj,inj:=r.inj,lo:=r.lo,nx:=r.nx,wt:=r.wt,below:=r.below,hB:=r.hB,N0:=r.N0,fr:=r.fr,kZ:=r.kZ}
theorem OC {e:Exit} (h:Q e δ.hi) (r:Rel g δ κ a w):lift g Q e a w:=⟨δ.hi,κ,h,r.hi⟩
namespace Nf
theorem hi (n:Nat) (e:List (Nat×AV)) (o:List (Nat×Option Ob)) (x:Nat):DS.hi ⟨n,e,o,x⟩=⟨n,JH e,o,x⟩:=rfl
theorem jM:JH []=[]:=rfl
theorem Pu (i:Nat) (v:AV) (r:List (Nat×AV)):JH ((i,v)::r)=bif Nat.ble 1000 i then (i,v)::JH r else JH r:=rfl
end Nf
def nu (lr lb:Nat→Bool):List (Nat×Option Ob)→Prop
 |[]=>True
 |(_,none)::r=>nu lr lb r
 |(_,some o)::r=>sz lr lb o=true∧nu lr lb r
theorem nu.at {lr lb:Nat→Bool}:∀{l:List (Nat×Option Ob)},nu lr lb l→∀i o,fi l i=some o→sz lr lb o=true
 |[],_,i,o,h=>by simp [fi] at h
 |(j,none)::r,hs,i,o,h=>by
  rw[fE] at h
  by_cases e:j=i
  ·rw[if_pos e] at h;cases h
  ·rw[if_neg e] at h;exact nu.at (l:=r) hs i o h
 |(j,some x)::r,hs,i,o,h=>by
  rw[fE] at h
  by_cases e:j=i
  ·rw[if_pos e] at h;cases h;exact hs.1
  ·rw[if_neg e] at h;exact nu.at (l:=r) hs.2 i o h
theorem vP {lr lb:Nat→Bool} {l:List Int}:sz lr lb (.mp (jl (j7 l)))=true:=by
 unfold sz
 rw[List.all_eq_true]
 intro p hp
 unfold jl j7 at hp
 obtain⟨q,hq,rfl⟩:=List.mem_map.1 hp
 obtain⟨x,_,rfl⟩:=List.mem_map.1 hq
 rfl
open Classical in
noncomputable def κX (d_:List (Nat×Option Ob)) (κ κ':Kp):Kp:=⟨fun i=>if (fi d_ i).isSome=true then κ' i else κ i,fun i b=>if (fi d_ i).isSome=true then κ'.F i b else κ.F i b⟩
theorem Iw {d_ e6:List (Nat×Option Ob)} (hk:kH d_ e6=true) (i:Nat):(δ.iy d_ e6).ob i=match fi e6 i with|some o=>some o|none=>(δ.ob i).map (Ob.xS (AV.iS (js d_))):=by
 show fi (e6++(δ.gU (AV.iS (js d_))).gv) i=_
 rw[CW (mz hk)]
 cases h:fi e6 i with
 |some o=>rfl
 |none=>exact kR _ _ _
theorem x9 {α:Type} {T:World→Prop} {E:α→Cx→World→Ending→Prop} {y:Operand} {f:FuncId} {xs:List Operand} {tys:Array TypeId} {first cap args:List AV} {n0:Nat} {d_:List (Nat×Option Ob)} {ql:α→List (Nat×Option Ob)} (jk:g.wt=none) (Ug:TB T g) (hf:xz T P E f n0 d_ args ql) (hy:δ.ev y=.jx (.func f) first cap) (kS:fj y=true) (qt:xs.all fj=true)
  (lz:Dv δ d_) (gp:wD (XS d_ n0).q6 (XS d_ n0).qd (first++xs.map δ.ev++cap) args) (hkA:∀x,kH d_ (ql x)=true) (CC:tL n0 d_=true) (tS:nu (XS d_ n0).q6 (XS d_ n0).qd d_)
  (QK:∀x,nu (XS (ql x) n0).q6 (XS (ql x) n0).qd (ql x))
  (Ys:∀(x:α) (κ:Kp) (a:Act) (w':World) (C:Cx) (v:Value),Rel g (δ.iy d_ (ql x)) κ a w'→E x C w' (.returned v)→(∀r,RA C w' v r→r.ids (XS (ql x) n0).q6 (XS (ql x) n0).qd=true→RA ((δ.iy d_ (ql x)).cx g κ) w' v r)→wpListIn (Fw g.ro) 0 P ops (lift g Q) rest (a.put dst v) w')
  (ZT:∀(x:α) (C:Cx) (w':World) (ch:List PanicEntry),E x C w' (.panicked ch)→Q (.panic ch) (δ.iy d_ (ql x)).hi∨Q (.panic ch) (δ.iy d_ (ql x))) (jI:∀(x:α) (C:Cx) (w':World),¬E x C w' .outgrown):
  a_ .plain P g ops (⟨dst,.call {callee:=.value y,args:=xs.toArray,argTypes:=tys},ty,pos,af,none⟩::rest) Q δ:=by
 intro κ a w r0
 have tB:=r0.ra hy kS
 generalize hv:a.eval y=v at tB
 cases tB with
 | @jx _ vs us _ _ hs HP ht H6=>
  obtain⟨ms,F9,qM,MS⟩:=r0.dfr
  have np:∀i,(XS d_ n0).live i→δ.live i:=fun i ⟨o,h⟩=>⟨o,lz.at i o h⟩
  let g':eZ:={B:=g.B,w0:=w,N0:=fun b=>(δ.cx g κ).N b∨(∃i,(XS d_ n0).live i∧(κ i=some b∨κ.F i b))∨w.heap.size≤b,held:=fun _=>undef,ro:=none,mks:=ms++g.mks,wt:=none,fr:=fun b=>b<w.heap.size∧∀i,(XS d_ n0).live i→κ i≠some b∧¬κ.F i b,w1:=w}
  let κc:Kp:=⟨κ.f,fun i b=>(fi d_ i).isSome=true∧κ.F i b⟩
  have TZ:∀b,(δ.cx g κ).N b→((XS d_ n0).cx g' κc).N b:=fun b h=>⟨⟨.inl h,fun⟨i,hi⟩=>h.1.2 ⟨i,hi.2⟩⟩,fun i hi=>h.2 i (np i hi)⟩
  have U6:∀i,(XS d_ n0).q6 i=true→((XS d_ n0).cx g' κc).Lr i∧((XS d_ n0).cx g' κc).κ i=(δ.cx g κ).κ i:=fun i h=>⟨pF (δ:=XS d_ n0) h,rfl⟩
  have VJ:∀i,(XS d_ n0).qd i=true→((XS d_ n0).cx g' κc).Lb i∧((XS d_ n0).cx g' κc).κ i=(δ.cx g κ).κ i:=fun i h=>⟨lW (δ:=XS d_ n0) h,rfl⟩
  have pj:Rel g' (XS d_ n0) κc Sa w:=
   {n:=rfl,dfr:=⟨[],rfl,qM,MS⟩,env:=fun j=> .any _
    obj:=fun i o h=>oT.to (C:=δ.cx g κ) (C':=(XS d_ n0).cx g' κc) rfl TZ U6 VJ rfl (fun b hb=>⟨by rw[show fi d_ i=some o from h];rfl,hb⟩) (r0.obj i o (lz.at i o h)) (tS.at i o h)
    inj:=fun i j b h1 h2=>r0.inj i j b (np i h1) (np j h2)
    lo:=fun i b h1=>r0.lo i b (np i h1)
    nx:=fun i ⟨o,h⟩=>rI CC i o h
    wt:=fun k hk=>by cases hk
    below:=Below.refl _ _,hB:=r0.hB
    N0:=fun b hb hf=>by
     by_cases h1:w.heap.size≤b
     ·exact .inr (.inr h1)
     ·by_cases h2:∃i,(XS d_ n0).live i∧(κ i=some b∨κ.F i b)
      ·exact .inr (.inl h2)
      ·exact absurd ⟨by omega,fun i hi=>⟨fun e=>h2 ⟨i,hi,.inl e⟩,fun e=>h2 ⟨i,hi,.inr e⟩⟩⟩ hf
    fr:=⟨fun b hb=>⟨hb.1,rfl,fun i hi=>(hb.2 i hi).1⟩,fun i b hb=>by
     obtain⟨h1,h2,h3,h4,h5⟩:=r0.fr.2 i b hb.2
     exact⟨⟨h1.1,fun k hk=>by cases hk⟩,h2,fun hf=>(hf.2 i (Option.isSome_iff_exists.1 hb.1)).2 hb.2,fun j hj=>h4 j (np j hj),fun j hj=>h5 j hj.2⟩⟩
    kZ:=fun d hd=>by cases hd}
  have hl:=gp.len
  simp only[List.length_append,List.length_map] at hl
  have UN:∀(j:Nat) (v:Value) (av:AV),(vs++xs.toArray.map a.eval++us)[j]? =some v→args[j]? =some av→RA ((XS d_ n0).cx g' κc) w v av:=by
   intro j v av h1 h2
   have JB:j<(first++xs.map δ.ev++cap).length:=by rw[gp.len];exact(List.getElem?_eq_some_iff.1 h2).1
   have h3:=List.getElem?_eq_getElem JB
   have hle:=gp.at j _ av h3 h2
   generalize (first++xs.map δ.ev++cap)[j]=c at h3 hle
   have hc:RA (δ.cx g κ) w v c:=by
    by_cases hj:j<first.length+xs.length
    ·rw[List.getElem?_append_left (by simp;omega)] at h3
     rw[Array.getElem?_append_left (by simp;omega)] at h1
     by_cases Ny:j<first.length
     ·rw[List.getElem?_append_left Ny] at h3
      rw[Array.getElem?_append_left aJ] at h1
      exact HP j v c h1 h3
     ·rw[List.getElem?_append_right aJ] at h3
      rw[Array.getElem?_append_right aJ,hs] at h1
      simp only[List.map_toArray,List.getElem?_toArray,List.getElem?_map,Option.map_eq_some_iff] at h1 h3
      obtain⟨y,h5,rfl⟩:=h1
      obtain⟨y',h4,rfl⟩:=h3
      rw[h5] at h4;cases h4
      exact r0.Ez y (iQ ((List.all_eq_true.1 qt) y (List.mem_of_getElem? h5)))
    ·rw[List.getElem?_append_right (by simp;omega)] at h3
     rw[Array.getElem?_append_right (by simp;omega)] at h1
     have e1:(vs++xs.toArray.map a.eval).size=(first++xs.map δ.ev).length:=by simp;omega
     rw[e1] at h1
     exact H6 _ v c h1 h3
   cases hle with
   |any=>exact .any _
   |eq e hi=>subst e;exact RA.to (C:=δ.cx g κ) (C':=(XS d_ n0).cx g' κc) rfl TZ U6 VJ hc hi
   |nil k=>rw[hc.lit];exact .pv (sY k)
  show wpListIn _ _ P ops _ (_::rest) a w
  refine gF rfl rfl fun K oA=>?_
  unfold Oper.y9
  rw[o9 hv hf.enters,Oper.uponIn_enter]
  refine⟨fun h=>by simp at h,(iF (hf.calls g' κc w _ rfl rfl (fun w' hb=>Ug w' (r0.below.trans hb)) pj (by simp;omega) UN)).mono ?_⟩
  rintro e w' ⟨xA,κ',hE,r1,u9⟩
  have hk:=hkA xA
  have pW:=QK xA
  have Ys:=Ys xA
  have ZT:=ZT xA
  have jI:=jI xA
  generalize ZW:ql xA=e6 at*
  obtain⟨F,hF⟩:∃F,F=AV.iS (js d_):=⟨_,rfl⟩
  have jh:=fun i=>Iw (δ:=δ) hk i
  have DK:=pq hk
  have nQ:w.heap.size≤w'.heap.size:=r1.below.size
  have D9:∀b,b<w.heap.size→(∀i,(XS d_ n0).live i→κ i≠some b∧¬κ.F i b)→w'.heap[b]? =w.heap[b]?∧∀i,(XS e6 n0).live i→κ' i≠some b:=fun b h1 h2=>(r1.fr.1 b ⟨h1,h2⟩).2
  have hfF:∀b,b<w.heap.size→(∀i,(XS d_ n0).live i→κ i≠some b∧¬κ.F i b)→∀i,¬κ'.F i b:=fun b h1 h2 i hi=>(r1.fr.2 i b hi).2.2.1 ⟨h1,h2⟩
  -- in and out
  have iT:∀i,(fi d_ i).isSome=true→(XS d_ n0).live i∧(XS e6 n0).live i∧κX d_ κ κ' i=κ' i:=fun i h=>by
   refine⟨Option.isSome_iff_exists.1 h,?_,if_pos h⟩
   cases DK i with
   |none h0 _=>rw[h0] at h;cases h
   |row _ h1=>exact⟨_,h1⟩
   |box c d _ h1 _=>exact⟨_,h1⟩
   |lit T c d _ h1 _=>exact⟨_,h1⟩
   |mp c d _ h1 _=>exact⟨_,h1⟩
   |fb _ _ c d _ h1=>exact⟨_,h1⟩
  have mq:∀i,¬(fi d_ i).isSome=true→fi e6 i=.none∧κX d_ κ κ' i=κ i:=fun i h=>by
   refine⟨?_,if_neg h⟩
   cases DK i with
   |none _ h1=>exact h1
   |row h0 _=>rw[h0] at h;exact absurd rfl h
   |box c d h0 _ _=>rw[h0] at h;exact absurd rfl h
   |lit T c d h0 _ _=>rw[h0] at h;exact absurd rfl h
   |mp c d h0 _ _=>rw[h0] at h;exact absurd rfl h
   |fb _ _ c d h0 _=>rw[h0] at h;exact absurd rfl h
  have Pr:∀i,(fi d_ i).isSome=true→(δ.iy d_ e6).ob i=fi e6 i:=fun i h=>by
   obtain⟨_,⟨o,h1⟩,_⟩:=iT i h
   rw[jh i]
   have h1:fi e6 i=some o:=h1
   rw[h1]
  have Of:∀i,¬(fi d_ i).isSome=true→(δ.iy d_ e6).ob i=(δ.ob i).map (Ob.xS F):=fun i h=>by rw[jh i,(mq i h).1,hF]
  have RG:∀i,(fi d_ i).isSome=true→δ.live i:=fun i h=>np i (iT i h).1
  have oq:∀i,¬(fi d_ i).isSome=true→(δ.iy d_ e6).live i→δ.live i:=fun i h ⟨o,ho⟩=>by
   rw[Of i h] at ho
   obtain⟨o',h1,_⟩:=Option.map_eq_some_iff.1 ho
   exact⟨o',h1⟩
  have jg:∀i,¬(fi d_ i).isSome=true→∀j,(XS d_ n0).live j→j≠i:=fun i h j ⟨o,ho⟩ e=>by
   subst e
   have ho:fi d_ j=some o:=ho
   rw[ho] at h
   exact h rfl
  have hold:∀i b,¬(fi d_ i).isSome=true→δ.live i→κ i=some b→b<w.heap.size∧∀j,(XS d_ n0).live j→κ j≠some b∧¬κ.F j b:=fun i b h hl hb=>
   ⟨(r0.lo i b hl hb).2,fun j hj=>⟨fun e=>jg i h j hj (r0.inj j i b (np j hj) hl e hb),fun e=>r0.fr.oh hl hb ⟨j,e⟩⟩⟩
  have Zm:∀b,(δ.cx g κ).N b→∀j,(XS d_ n0).live j→κ j≠some b∧¬κ.F j b:=fun b h j hj=>⟨h.2 j (np j hj),fun e=>h.1.2 ⟨j,e⟩⟩
  -- a pool's blocks behind the call
  have WJ:∀i b,(κX d_ κ κ').F i b→((fi d_ i).isSome=true∧κ'.F i b)∨(¬(fi d_ i).isSome=true∧κ.F i b):=fun i b h=>by
   have h:(if (fi d_ i).isSome=true then κ'.F i b else κ.F i b):=h
   by_cases hi:(fi d_ i).isSome=true
   ·rw[if_pos hi] at h;exact .inl ⟨hi,h⟩
   ·rw[if_neg hi] at h;exact .inr ⟨hi,h⟩
  have MV:∀i b,¬(fi d_ i).isSome=true→κ.F i b→b<w.heap.size∧∀j,(XS d_ n0).live j→κ j≠some b∧¬κ.F j b:=fun i b hi hF=>
   ⟨(r0.fr.2 i b hF).2.1,fun j hj=>⟨(r0.fr.2 i b hF).2.2.2.1 j (np j hj),fun e=>jg i hi j hj ((r0.fr.2 i b hF).2.2.2.2 j e)⟩⟩
  have hNN:∀b,b<w.heap.size→(δ.cx g κ).N b→((δ.iy d_ e6).cx g (κX d_ κ κ')).N b:=fun b h1 h2=>by
   refine⟨⟨h2.1.1,fun⟨i,hi⟩=>?_⟩,fun i hi e=>?_⟩
   ·rcases WJ i b hi with h|h
    ·exact hfF b h1 (Zm b h2) i h.2
    ·exact h2.1.2 ⟨i,h.2⟩
   by_cases h:(fi d_ i).isSome=true
   ·rw[(iT i h).2.2] at e
    exact(D9 b h1 (Zm b h2)).2 i (iT i h).2.1 e
   ·rw[(mq i h).2] at e
    exact h2.2 i (oq i h hi) e
  have tU:∀i b,(AV.ptr i 0∈gW d_∨AV.gx i∈gW d_)→κ i=some b→κX d_ κ κ' i=κ i:=fun i b hp hb=>by
   by_cases h:(fi d_ i).isSome=true
   ·rw[(iT i h).2.2,u9 i b hp hb,hb]
   ·exact(mq i h).2
  have G:kC ((δ.cx g κ).wA (js d_)) w ((δ.iy d_ e6).cx g (κX d_ κ κ')) w':=
   {B:=rfl,size:=nQ
    N:=fun b h1 h2=>⟨hNN b h1 h2,(D9 b h1 (Zm b h2)).1⟩
    Lr:=fun i hi=>by
     have hl:δ.ob i=some .row:=hi.1
     have h:¬(fi d_ i).isSome=true:=fun h=>by
      obtain⟨⟨o,ho⟩,_,_⟩:=iT i h
      have h1:=lz.at i o ho
      rw[hl] at h1
      cases h1
      have:=AO (l:=d_) ho
      rw[hi.2] at this
      cases this
     refine⟨?_,(mq i h).2,fun b hb=>?_⟩
     ·show(δ.iy d_ e6).ob i=_
      rw[Of i h,hl];rfl
     ·obtain⟨h1,h2⟩:=hold i b h ⟨_,hl⟩ hb
      exact(D9 b h1 h2).1
    Lb:=fun i hi=>by
     obtain⟨o,h1,h2⟩:=hi
     by_cases h:(fi d_ i).isSome=true
     ·have h3:=Pr i h
      cases DK i with
      |none h0 _=>rw[h0] at h;cases h
      |row h0 _=>
       have:=lz.at i _ h0
       rw[h1] at this
       cases this
       simp [Ob.mc] at h2
      |box c d h0 h4 hp=>
       obtain⟨b,_,_,h5,_⟩:=r0.obj i _ (lz.at i _ h0)
       exact⟨⟨_,h3.trans h4,rfl⟩,tU i b (.inl hp) h5⟩
      |lit T c d h0 h4 hp=>
       obtain⟨b,h5,_⟩:=r0.obj i _ (lz.at i _ h0)
       exact⟨⟨_,h3.trans h4,rfl⟩,tU i b (.inl hp) h5⟩
      |mp c d h0 h4 hp=>
       obtain⟨b,_,_,h5,_⟩:=r0.obj i _ (lz.at i _ h0)
       exact⟨⟨_,h3.trans h4,rfl⟩,tU i b (.inr hp) h5⟩
      |fb e e' c d h0 h4=>
       have h5:=(r0.obj i _ (lz.at i _ h0)).1
       have h6:=(r1.obj i _ h4).1
       exact⟨⟨_,h3.trans h4,rfl⟩,(iT i h).2.2.trans (h6.trans h5.symm)⟩
     ·refine⟨⟨_,by rw[Of i h,h1];rfl,?_⟩,(mq i h).2⟩
      cases o<;>first|rfl|(simp [Ob.mc] at h2)}
  have HF:∀{u:Value} {av:AV},RA (δ.cx g κ) w u av→RA ((δ.iy d_ e6).cx g (κX d_ κ κ')) w' u (F av):=fun h=>by rw[hF];exact h.iS G
  have hN2:∀b,((XS e6 n0).cx g' κ').N b→((δ.iy d_ e6).cx g (κX d_ κ κ')).N b:=fun b h=>by
   obtain⟨h1,h2⟩:=h
   have GZ:∀i,(δ.iy d_ e6).live i→κX d_ κ κ' i=some b→¬(fi d_ i).isSome=true∧δ.live i∧κ i=some b:=fun i hi e=>by
    by_cases h:(fi d_ i).isSome=true
    ·rw[(iT i h).2.2] at e
     exact absurd e (h2 i (iT i h).2.1)
    ·rw[(mq i h).2] at e
     exact⟨h,oq i h hi,e⟩
   have W6:∀i,(κX d_ κ κ').F i b→¬(fi d_ i).isSome=true∧κ.F i b:=fun i hi=>by
    rcases WJ i b hi with h|h
    ·exact absurd ⟨i,h.2⟩ h1.2
    ·exact h
   rcases h1.1 with h1|⟨j,hj,FE⟩|h1
   ·exact⟨⟨h1.1.1,fun⟨i,hi⟩=>h1.1.2 ⟨i,(W6 i hi).2⟩⟩,fun i hi e=>let ⟨_,h3,h4⟩:=GZ i hi e;h1.2 i h3 h4⟩
   ·have hN0:g.N0 b:=by
     rcases FE with FE|FE
     ·exact(r0.G_ (np j hj) FE).1
     ·obtain⟨k1,k2,k3,_⟩:=r0.fr.2 j b FE;exact r0.N0 b k1.1 k3
    refine⟨⟨hN0,fun⟨i,hi⟩=>?_⟩,fun i hi e=>?_⟩
    ·obtain⟨h3,h4⟩:=W6 i hi
     rcases FE with FE|FE
     ·exact(MV i b h3 h4).2 j hj|>.1 FE
     ·exact(MV i b h3 h4).2 j hj|>.2 FE
    ·obtain⟨h3,h4,h5⟩:=GZ i hi e
     have:=(hold i b h3 h4 h5).2 j hj
     rcases FE with FE|FE
     ·exact this.1 FE
     ·exact this.2 FE
   ·refine⟨⟨(r0.Hb h1).1,fun⟨i,hi⟩=>?_⟩,fun i hi e=>?_⟩
    ·have:=(MV i b (W6 i hi).1 (W6 i hi).2).1
     omega
    ·obtain⟨_,h4,h5⟩:=GZ i hi e
     have:=(r0.lo i b h4 h5).2
     omega
  have Vl:∀i,(XS e6 n0).q6 i=true→((δ.iy d_ e6).cx g (κX d_ κ κ')).Lr i∧((δ.iy d_ e6).cx g (κX d_ κ κ')).κ i=((XS e6 n0).cx g' κ').κ i:=fun i h=>by
   have h1:fi e6 i=some .row:=pF (δ:=XS e6 n0) h
   have h2:(fi d_ i).isSome=true:=by
    cases DK i with
    |none _ h0=>rw[h0] at h1;cases h1
    |row h0 _=>rw[h0];rfl
    |box c d h0 _ _=>rw[h0];rfl
    |lit T c d h0 _ _=>rw[h0];rfl
    |mp c d h0 _ _=>rw[h0];rfl
    |fb _ _ c d h0 _=>rw[h0];rfl
   exact⟨(Pr i h2).trans h1,(iT i h2).2.2⟩
  have Wn:∀i,(XS e6 n0).qd i=true→((δ.iy d_ e6).cx g (κX d_ κ κ')).Lb i∧((δ.iy d_ e6).cx g (κX d_ κ κ')).κ i=((XS e6 n0).cx g' κ').κ i:=fun i h=>by
   obtain⟨o,h1,h3⟩:=lW (δ:=XS e6 n0) h
   have h1:fi e6 i=some o:=h1
   have h2:(fi d_ i).isSome=true:=by
    cases DK i with
    |none _ h0=>rw[h0] at h1;cases h1
    |row h0 _=>rw[h0];rfl
    |box c d h0 _ _=>rw[h0];rfl
    |lit T c d h0 _ _=>rw[h0];rfl
    |mp c d h0 _ _=>rw[h0];rfl
    |fb _ _ c d h0 _=>rw[h0];rfl
   exact⟨⟨o,(Pr i h2).trans h1,h3⟩,(iT i h2).2.2⟩
  have hR:Rel g (δ.iy d_ e6) (κX d_ κ κ') a w':=
   {n:=r0.n
    dfr:=by
     obtain⟨rs,_,_,k3⟩:=r1.dfr
     exact⟨ms,F9,qM,fun k hk=>k3 k (List.mem_append.2 (.inr hk))⟩
    env:=fun j=>by
     have:(δ.iy d_ e6).get j=F (δ.get j):=by rw[hF];exact rm _ (Iq _) δ j
     rw[this];exact HF (r0.env j)
    obj:=fun i o h=>by
     by_cases hi:(fi d_ i).isSome=true
     ·rw[Pr i hi] at h
      exact oT.to (C:=(XS e6 n0).cx g' κ') (C':=(δ.iy d_ e6).cx g (κX d_ κ κ')) rfl hN2 Vl Wn (iT i hi).2.2 (fun b hb=>(by show(if (fi d_ i).isSome=true then κ'.F i b else κ.F i b);rw[if_pos hi];exact hb)) (r1.obj i o h) (pW.at i o h)
     ·rw[Of i hi] at h
      obtain⟨o',ga,rfl⟩:=Option.map_eq_some_iff.1 h
      have h0:=r0.obj i o' ga
      have EO:=(mq i hi).2
      have zH:∀b,κ i=some b→w'.heap[b]? =w.heap[b]?:=fun b hb=>let ⟨h1,h2⟩:=hold i b hi ⟨_,ga⟩ hb;(D9 b h1 h2).1
      cases o' with
      |row=>
       intro b hb
       have jn:κ i=some b:=by rw[← EO];exact hb
       obtain⟨c,e,h1⟩:=h0 b jn
       exact⟨c,e,(zH b jn).trans h1⟩
      |lit T vals=>obtain⟨b,h1,h2⟩:=h0;exact⟨b,EO.trans h1,(zH b h1).trans h2⟩
      |fb e rows=>exact⟨EO.trans h0.1,fun k=>(h0.2.1 k).lJ rfl fun b _ h2 _=>⟨(by show(if (fi d_ i).isSome=true then κ'.F i b else κ.F i b);rw[if_neg hi];exact h2),(D9 b (MV i b hi h2).1 (MV i b hi h2).2).1⟩,h0.2.2⟩
      |box cs=>
       obtain⟨b,c,e,h1,h2,h3,h4⟩:=h0
       refine⟨b,c,e,EO.trans h1,(zH b h1).trans h2,by simpa using h3,fun k u av h5 h6=>?_⟩
       simp only[List.getElem?_map,Option.map_eq_some_iff] at h6
       obtain⟨av',h6,rfl⟩:=h6
       exact⟨HF (h4 k u av' h5 h6).1,(h4 k u av' h5 h6).2⟩
      |mp l=>
       obtain⟨b,es,clock,h1,h2,h3,h4⟩:=h0
       exact⟨b,es,clock,EO.trans h1,(zH b h1).trans h2,⟨h3.1,fun k e p h5 h6=>⟨(h3.2 k e p h5 h6).1,G.ra ((h3.2 k e p h5 h6).2.wA (h4.2 p (List.mem_of_getElem? h6)))⟩⟩,h4⟩
      |mpl l kk v=>
       obtain⟨b,es,clock,h1,h2,h3,h4⟩:=h0
       exact⟨b,es,clock,EO.trans h1,(zH b h1).trans h2,h3.last (fun u p hp h=>G.ra (h.wA (h4.2 p hp))) (fun u h=>HF h),h4⟩
      |it l seen=>
       obtain⟨b,h1,h2⟩:=h0
       exact⟨b,EO.trans h1,h2.mono G.size G.N (zH b h1)⟩
      |loop l tm ps ji body st=>
       obtain⟨b,lr,h1,h2,h3⟩:=h0
       exact⟨b,lr,EO.trans h1,(zH b h1).trans h2,h3⟩
    inj:=fun i j b h1 h2 h3 h4=>by
     by_cases hi:(fi d_ i).isSome=true
     ·rw[(iT i hi).2.2] at h3
      by_cases hj:(fi d_ j).isSome=true
      ·rw[(iT j hj).2.2] at h4
       exact r1.inj i j b (iT i hi).2.1 (iT j hj).2.1 h3 h4
      ·rw[(mq j hj).2] at h4
       obtain⟨k1,k2⟩:=hold j b hj (oq j hj h2) h4
       exact absurd h3 ((D9 b k1 k2).2 i (iT i hi).2.1)
     ·rw[(mq i hi).2] at h3
      by_cases hj:(fi d_ j).isSome=true
      ·rw[(iT j hj).2.2] at h4
       obtain⟨k1,k2⟩:=hold i b hi (oq i hi h1) h3
       exact absurd h4 ((D9 b k1 k2).2 j (iT j hj).2.1)
      ·rw[(mq j hj).2] at h4
       exact r0.inj i j b (oq i hi h1) (oq j hj h2) h3 h4
    lo:=fun i b h1 h2=>by
     by_cases hi:(fi d_ i).isSome=true
     ·rw[(iT i hi).2.2] at h2
      exact r1.lo i b (iT i hi).2.1 h2
     ·rw[(mq i hi).2] at h2
      have:=r0.lo i b (oq i hi h1) h2
      exact⟨this.1,Nat.lt_of_lt_of_le this.2 nQ⟩
    nx:=fun i h=>by
     by_cases hi:(fi d_ i).isSome=true
     ·exact r0.nx i (RG i hi)
     ·exact r0.nx i (oq i hi h)
    wt:=fun k hk=>by rw[jk] at hk;cases hk
    below:=r0.below.trans r1.below
    hB:=r1.hB
    N0:=r0.N0
    fr:=by
     refine⟨fun b hb=>?_,fun i b hb=>?_⟩
     ·obtain⟨h1,h2,h3⟩:=r0.fr.1 b hb
      have fy:=r0.fr.Cr hb
      have h4:=D9 b fy fun i hi=>⟨h3 i (np i hi),fun e=>(r0.fr.2 i b e).2.2.1 hb⟩
      refine⟨h1,h4.1.trans h2,fun i hi e=>?_⟩
      by_cases R4:(fi d_ i).isSome=true
      ·rw[(iT i R4).2.2] at e
       exact h4.2 i (iT i R4).2.1 e
      ·rw[(mq i R4).2] at e
       exact h3 i (oq i R4 hi) e
     ·rcases WJ i b hb with ⟨hi,hF⟩|⟨hi,hF⟩
      ·obtain⟨k1,k2,k3,k4,k5⟩:=r1.fr.2 i b hF
       refine⟨⟨k1.1,fun k hk=>by rw[jk] at hk;cases hk⟩,k2,fun hf=>?_,fun j hj e=>?_,fun j hj=>?_⟩
       ·exact k3 ⟨r0.fr.Cr hf,fun j hj=>⟨(r0.fr.1 b hf).2.2 j (np j hj),fun e=>(r0.fr.2 j b e).2.2.1 hf⟩⟩
       ·by_cases JE:(fi d_ j).isSome=true
        ·rw[(iT j JE).2.2] at e
         exact k4 j (iT j JE).2.1 e
        ·rw[(mq j JE).2] at e
         exact k3 (hold j b JE (oq j JE hj) e)
       ·rcases WJ j b hj with ⟨_,hj⟩|⟨JE,hj⟩
        ·exact k5 j hj
        ·exact absurd (MV j b JE hj) k3
      ·obtain⟨k1,k2,k3,k4,k5⟩:=r0.fr.2 i b hF
       refine⟨k1,Nat.lt_of_lt_of_le k2 nQ,k3,fun j hj e=>?_,fun j hj=>?_⟩
       ·by_cases JE:(fi d_ j).isSome=true
        ·rw[(iT j JE).2.2] at e
         exact(D9 b (MV i b hi hF).1 (MV i b hi hF).2).2 j (iT j JE).2.1 e
        ·rw[(mq j JE).2] at e
         exact k4 j (oq j JE hj) e
       ·rcases WJ j b hj with ⟨_,hj⟩|⟨_,hj⟩
        ·exact absurd hj (hfF b (MV i b hi hF).1 (MV i b hi hF).2 j)
        ·exact k5 j hj
    kZ:=r0.kZ}
  cases e with
  |returned v=>exact oA _ _ (Ys _ _ _ _ v hR hE fun r W4 hr=>RA.to (C:=(XS e6 n0).cx g' κ') (C':=(δ.iy d_ e6).cx g (κX d_ κ κ')) rfl hN2 Vl Wn W4 hr)
  |panicked ch=>
           rcases ZT _ _ ch hE with h|h;·exact OC h hR
           ·exact⟨_,_,h,hR⟩
  |outgrown=>exact absurd hE (jI _ _)
theorem a_.Ri {T:World→Prop} {y:Operand} {f:FuncId} {xs:List Operand} {tys:Array TypeId} {first cap args:List AV} {r:AV} {n0:Nat} {d_ e6:List (Nat×Option Ob)} (jk:g.wt=none) (Ug:TB T g) (hf:Oa T P f n0 d_ args e6 r) (hy:δ.ev y=.jx (.func f) first cap) (kS:fj y=true) (qt:xs.all fj=true)
  (lz:Dv δ d_) (gp:wD (XS d_ n0).q6 (XS d_ n0).qd (first++xs.map δ.ev++cap) args) (hk:kH d_ e6=true) (CC:tL n0 d_=true) (tS:nu (XS d_ n0).q6 (XS d_ n0).qd d_)
  (pW:nu (XS e6 n0).q6 (XS e6 n0).qd e6) (hr:r.ids (XS e6 n0).q6 (XS e6 n0).qd=true) (hd:fT δ.n dst=true)
  (hK:a_ .plain P g ops rest Q ((δ.iy d_ e6).eW dst r)):
  a_ .plain P g ops (⟨dst,.call {callee:=.value y,args:=xs.toArray,argTypes:=tys},ty,pos,af,none⟩::rest) Q δ:=
 x9 jk Ug hf hy kS qt lz gp (fun _=>hk) CC tS (fun _=>pW) (fun _ κ a w' C v hR hE tB=>by
  obtain⟨u,he,hu⟩:=hE
  cases he
  exact hK _ _ _ (hR.eW (ft hd) (tB r hu hr))) (fun _ C w' ch hE=>by obtain⟨u,he,_⟩:=hE;cases he) (fun _ C w' hE=>by obtain⟨u,he,_⟩:=hE;cases he)
theorem a_.UX {y:Operand} {f:FuncId} {xs:List Operand} {tys:Array TypeId} {first cap args:List AV} {r:AV} {n0:Nat} {d_ e6:List (Nat×Option Ob)} (jk:g.wt=none) (hf:oP P f n0 d_ args e6 r) (hy:δ.ev y=.jx (.func f) first cap) (kS:fj y=true) (qt:xs.all fj=true)
  (lz:Dv δ d_) (gp:wD (XS d_ n0).q6 (XS d_ n0).qd (first++xs.map δ.ev++cap) args) (hk:kH d_ e6=true) (CC:tL n0 d_=true) (tS:nu (XS d_ n0).q6 (XS d_ n0).qd d_)
  (pW:nu (XS e6 n0).q6 (XS e6 n0).qd e6) (hr:r.ids (XS e6 n0).q6 (XS e6 n0).qd=true) (hd:fT δ.n dst=true)
  (hK:a_ .plain P g ops rest Q ((δ.iy d_ e6).eW dst r)):
  a_ .plain P g ops (⟨dst,.call {callee:=.value y,args:=xs.toArray,argTypes:=tys},ty,pos,af,none⟩::rest) Q δ:=a_.Ri jk (fun _ _=>trivial) hf hy kS qt lz gp hk CC tS pW hr hd hK
end Go.Ab
namespace Go.Ab
open Go Go.RowKit
variable {P:Program} {g:eZ} {δ:DS}
theorem iJ {rs:List ResultVar} {d_ e6:List (Nat×Option Ob)} {r v:AV} (h:gm P δ rs v) (hw:EC δ (XF δ d_ e6) [v,δ.get 1000] [r,.agg (gW d_)]) (ho:pt δ (XF δ d_ e6) e6) (hx:tL δ.nx e6=true):lk P rs d_ e6 r .ret δ:=⟨v,h,hw.1,hw.2.1,ho,hx⟩
theorem nR {rs:List ResultVar} {d_ e6:List (Nat×Option Ob)} {r v:AV} (h:gm P δ rs v) (hw:EC δ (XF δ d_ e6) [v,δ.get 1000] [r,.agg (gW d_)]) (ho:pt δ (XF δ d_ e6) e6) (hx:tL δ.nx e6=true):lk P rs d_ e6 r .normal δ:=⟨v,h,hw.1,hw.2.1,ho,hx⟩
namespace Nf
variable {n x i:Nat} {e:List (Nat×AV)} {o l0 l1 l:List (Nat×Option Ob)} {rs:List Nat}
def TL (rs:List Nat):List (Nat×AV)→List (Nat×AV)
 |[]=>[]
 |(i,v)::r=>(i,v.iS rs)::TL rs r
def yS (rs:List Nat):List (Nat×Option Ob)→List (Nat×Option Ob)
 |[]=>[]
 |(i,o)::r=>(i,o.map (Ob.xS (AV.iS rs)))::yS rs r
def Lj (rs:List Nat):List AV→List AV
 |[]=>[]
 |v::r=>v.iS rs::Lj rs r
theorem LY:∀e:List (Nat×AV),e.map (fun p=>(p.1,p.2.iS rs))=TL rs e
 |[]=>rfl
 |(i,v)::r=>by rw[List.map_cons,LY r];rfl
theorem Kt:∀o:List (Nat×Option Ob),o.map (fun p=>(p.1,p.2.map (Ob.xS (AV.iS rs))))=yS rs o
 |[]=>rfl
 |(i,v)::r=>by rw[List.map_cons,Kt r];rfl
theorem yE:∀l:List AV,AV.Fv (rJ rs) l=Lj rs l
 |[]=>rfl
 |v::r=>by rw[AV.Fv,yE r];rfl
theorem N4 (l:List AV):l.map (AV.iS rs)=Lj rs l:=by
 induction l with
 |nil=>rfl
 |cons v r ih=>rw[List.map_cons,ih];rfl
theorem af:DS.iy ⟨n,e,o,x⟩ l0 l1=⟨n,TL (js l0) e,l1++yS (js l0) o,x⟩:=by
 show(⟨n,e.map (fun p=>(p.1,p.2.iS (js l0))),l1++o.map (fun p=>(p.1,p.2.map (Ob.xS (AV.iS (js l0))))),x⟩:DS)=_
 rw[LY,Kt]
theorem xe0:TL rs []=[]:=rfl
theorem xe1 (i:Nat) (v:AV) (r:List (Nat×AV)):TL rs ((i,v)::r)=(i,v.iS rs)::TL rs r:=rfl
theorem xo0:yS rs []=[]:=rfl
theorem xon (i:Nat) (r:List (Nat×Option Ob)):yS rs ((i,none)::r)=(i,none)::yS rs r:=rfl
theorem xor (i:Nat) (r:List (Nat×Option Ob)):yS rs ((i,some .row)::r)=(i,some .row)::yS rs r:=rfl
theorem xob (i:Nat) (cs:List AV) (r:List (Nat×Option Ob)):yS rs ((i,some (.box cs))::r)=(i,some (.box (Lj rs cs)))::yS rs r:=by
 show(i,some (Ob.box (cs.map (AV.iS rs))))::yS rs r=_
 rw[N4]
theorem xot (i:Nat) (T:TypeId) (vs:Array Value) (r:List (Nat×Option Ob)):yS rs ((i,some (.lit T vs))::r)=(i,some (.lit T vs))::yS rs r:=rfl
theorem xom (i:Nat) (l:List (Value×AV)) (r:List (Nat×Option Ob)):yS rs ((i,some (.mp l))::r)=(i,some (.mp l))::yS rs r:=rfl
theorem xoi (i:Nat) (l:List (Value×PV)) (s:List Nat) (r:List (Nat×Option Ob)):yS rs ((i,some (.it l s))::r)=(i,some (.it l s))::yS rs r:=rfl
theorem xol (i:Nat) (l:List (Value×AV)) (k:Value) (v:AV) (r:List (Nat×Option Ob)):yS rs ((i,some (.mpl l k v))::r)=(i,some (.mpl l k (v.iS rs)))::yS rs r:=rfl
theorem xoP (i:Nat) (e:TypeId) (p:Nat→Value×List Value) (r:List (Nat×Option Ob)):yS rs ((i,some (.fb e p))::r)=(i,some (.fb e p))::yS rs r:=rfl
theorem xop (i m:Nat) (tm:Array Value) (ps:Array Tmp) (a b:Code) (st:wV) (r:List (Nat×Option Ob)):yS rs ((i,some (.loop m tm ps a b st))::r)=(i,some (.loop m tm ps a b st))::yS rs r:=rfl
theorem xl0:Lj rs []=[]:=rfl
theorem xl1 (v:AV) (r:List AV):Lj rs (v::r)=v.iS rs::Lj rs r:=rfl
theorem Lg:AV.iS rs .any=.any:=rfl
theorem Qd (p:PV):AV.iS rs (.pv p)=.pv p:=rfl
theorem K8 (j k:Nat):AV.iS rs (.ptr j k)=.ptr j k:=rfl
theorem Hr (c:List PV):AV.iS rs (.gf c)=.gf c:=rfl
theorem Ha (j:Nat):AV.iS rs (.gx j)=.gx j:=rfl
theorem Lx (j:Nat):AV.iS rs (.lT j)=.lT j:=rfl
theorem KB (j:Nat) (t:TypeId) (k:Nat) (fa:List (List PV)):AV.iS rs (.own j t k fa)=bif ng j rs then .any else .own j t k fa:=rfl
theorem GO (j:Nat) (t:TypeId) (k:Nat) (fa:List (List PV)) (m:Nat):AV.iS rs (.gX j t k fa m)=bif ng j rs then .any else .gX j t k fa m:=rfl
theorem Mz (cs:List AV):AV.iS rs (.agg cs)=.agg (Lj rs cs):=by show AV.agg (AV.Fv (rJ rs) cs)=_;rw[yE]
theorem LK (cs:List AV):AV.iS rs (.gY cs)=.gY (Lj rs cs):=by show AV.gY (AV.Fv (rJ rs) cs)=_;rw[yE]
theorem Kl (fn:Go.Fn) (cs ds:List AV):AV.iS rs (.jx fn cs ds)=.jx fn (Lj rs cs) (Lj rs ds):=by show AV.jx fn (AV.Fv (rJ rs) cs) (AV.Fv (rJ rs) ds)=_;rw[yE,yE]
theorem rw0:js []=[]:=rfl
theorem rwr (i:Nat) (r:List (Nat×Option Ob)):js ((i,some .row)::r)=i::js r:=rfl
theorem rwb (i:Nat) (c:List AV) (r:List (Nat×Option Ob)):js ((i,some (.box c))::r)=js r:=rfl
theorem rwt (i:Nat) (T:TypeId) (vs:Array Value) (r:List (Nat×Option Ob)):js ((i,some (.lit T vs))::r)=js r:=rfl
theorem rwP (i:Nat) (e:TypeId) (p:Nat→Value×List Value) (r:List (Nat×Option Ob)):js ((i,some (.fb e p))::r)=js r:=rfl
theorem rwm (i:Nat) (c:List (Value×AV)) (r:List (Nat×Option Ob)):js ((i,some (.mp c))::r)=js r:=rfl
theorem pi0:gW []=[]:=rfl
theorem pir (i:Nat) (r:List (Nat×Option Ob)):gW ((i,some .row)::r)=gW r:=rfl
theorem pib (i:Nat) (c:List AV) (r:List (Nat×Option Ob)):gW ((i,some (.box c))::r)=.ptr i 0::gW r:=rfl
theorem pit (i:Nat) (T:TypeId) (vs:Array Value) (r:List (Nat×Option Ob)):gW ((i,some (.lit T vs))::r)=.ptr i 0::gW r:=rfl
theorem piP (i:Nat) (e:TypeId) (p:Nat→Value×List Value) (r:List (Nat×Option Ob)):gW ((i,some (.fb e p))::r)=gW r:=rfl
theorem pim (i:Nat) (c:List (Value×AV)) (r:List (Nat×Option Ob)):gW ((i,some (.mp c))::r)=.gx i::gW r:=rfl
theorem cn {α:Type} (a:α) (r s:List α):(a::r)++s=a::(r++s):=rfl
theorem nn {α:Type} (s:List α):[]++s=s:=rfl
end Nf
theorem a_.Zp {q:Md} {ops:Array Oper} {l:List Oper} {Q:Exit→DS→Prop} (j k:Nat) (hj:δ.get j=.pv (.lit (.slice none 0 0))) (hK:a_ q P g ops l Q (δ.put j (.pv (.slice k [])))):a_ q P g ops l Q δ:=by
 intro κ a w r
 have h1:=r.env j
 rw[hj] at h1
 refine hK κ a w (r.sB (.pv ?_))
 rw[h1.lit]
 exact sY k
end Go.Ab
/- Short names of the rules that a walk takes most often;what is plain is filled in. -/
namespace Go.Ab
open Go Go.RowKit
variable {P:Program} {g:eZ} {δ:DS} {q:Md} {ops:Array Oper} {rest:List Oper} {Q:Exit→DS→Prop} {dst:Option Nat} {ty:TypeId} {pos:String} {af:Array Edge}
theorem nz {A:DS→Prop} {δ δ':DS} (h:A δ') (e:δ=δ':=by conv=>lhs;simp only[Nf.all,Nat.reduceBEq,Nat.reduceAdd,Nat.reduceSub]):A δ:=e▸h
theorem zm {x:Operand} {p:PV} (hK:a_ q P g ops rest Q (δ.eW dst (.pv p))) (hx:δ.ev x=.pv p:=by exact rfl) (ho:fj x=true:=by exact rfl) (hd:fT δ.n dst=true:=by exact rfl):a_ q P g ops (⟨dst,.move x,ty,pos,af,none⟩::rest) Q δ:=a_.iD hx ho hd hK
theorem za {x:Operand} {p:PV} (hK:a_ q P g ops rest Q (δ.eW dst (.pv p))) (hx:δ.ev x=.pv p:=by exact rfl) (ho:fj x=true:=by exact rfl) (hd:fT δ.n dst=true:=by exact rfl):a_ q P g ops (⟨dst,.assign x,ty,pos,af,none⟩::rest) Q δ:=a_.HR hx ho hd hK
theorem zl {op:Op} {gj d:Nat} {want b:Bool} {o':Oper} (hy:a_ q P g ops (⟨dst,op,ty,pos,af,none⟩::rest) Q δ) (ho:ops[gj]? =some o':=by exact rfl) (hd:o'.dst=some d:=by exact rfl) (wm:Nat.blt d HS=true:=by exact rfl) (w_:Nat.blt d δ.n=true:=by exact rfl) (hb:δ.get d=fq b:=by exact rfl) (CF:b=want:=by exact rfl) (wG:fT δ.n dst=true:=by exact rfl):
  a_ q P g ops (⟨dst,op,ty,pos,af,some (gj,want)⟩::rest) Q δ:=a_.D4 ho hd wm w_ hb CF wG hy
theorem zy {op:Op} {gj d:Nat} {o':Oper} {p:Prop} {_:Decidable p} (hy:a_ q P g ops (⟨dst,op,ty,pos,af,none⟩::rest) Q δ) (ho:ops[gj]? =some o':=by exact rfl) (hd:o'.dst=some d:=by exact rfl) (wm:Nat.blt d HS=true:=by exact rfl) (w_:Nat.blt d δ.n=true:=by exact rfl) (hb:δ.get d=fq (decide p):=by exact rfl) (wG:fT δ.n dst=true:=by exact rfl) (hp:¬p:=by first|(with_reducible assumption)|omega|decide):
  a_ q P g ops (⟨dst,op,ty,pos,af,some (gj,false)⟩::rest) Q δ:=a_.NZ ho hd hb wm w_ wG hp hy
theorem zt {op:Op} {gj d:Nat} {o':Oper} {p:Prop} {_:Decidable p} (hy:a_ q P g ops (⟨dst,op,ty,pos,af,none⟩::rest) Q δ) (ho:ops[gj]? =some o':=by exact rfl) (hd:o'.dst=some d:=by exact rfl) (wm:Nat.blt d HS=true:=by exact rfl) (w_:Nat.blt d δ.n=true:=by exact rfl) (hb:δ.get d=fq (decide p):=by exact rfl) (wG:fT δ.n dst=true:=by exact rfl) (hp:p:=by first|(with_reducible assumption)|omega|decide):
  a_ q P g ops (⟨dst,op,ty,pos,af,some (gj,true)⟩::rest) Q δ:=a_.Pk ho hd hb wm w_ wG hp hy
theorem zb {x:Operand} {t:TypeId} {i off:Nat} {cells:List AV} {v:AV} (hK:a_ q P g ops rest Q (δ.eW dst v)) (hx:δ.ev x=.ptr i off:=by exact rfl) (hb:δ.ob i=some (.box cells):=by exact rfl) (hv:cells[off]? =some v:=by exact rfl) (ht:ju P t=true:=by exact rfl) (ho:fj x=true:=by exact rfl) (hd:fT δ.n dst=true:=by exact rfl):
  a_ q P g ops (⟨dst,.load t x,ty,pos,af,none⟩::rest) Q δ:=a_.N1 hx hb hv ht ho hd hK
theorem zn {α:Type} {x:Operand} {t e:TypeId} {k:Nat} {f:α→List PV} {l:List α} (hK:a_ q P g ops rest Q (δ.eW dst (eU (l.length:Nat)))) (hx:δ.ev x=.pv (.slice k (l.map f)):=by exact rfl) (ht:P.underlying t=some (.slice e):=by exact rfl) (ho:fj x=true:=by exact rfl) (hd:fT δ.n dst=true:=by exact rfl):
  a_ q P g ops (⟨dst,.call {callee:=.builtin .len,args:= #[x],argTypes:= #[t]},ty,pos,af,none⟩::rest) Q δ:=a_.jK hx ht ho hd hK
theorem zs {x y:Operand} {t t':TypeId} {m n:Int} (hK:a_ q P g ops rest Q (δ.eW dst (fq (decide (m<n))))) (hx:δ.ev x=eU m:=by exact rfl) (hy:δ.ev y=eU n:=by exact rfl) (ho:fj x=true:=by exact rfl) (ga:fj y=true:=by exact rfl) (hd:fT δ.n dst=true:=by exact rfl):
  a_ q P g ops (⟨dst,.binOp .lss t x y t',ty,pos,af,none⟩::rest) Q δ:=a_.lss hx hy ho ga hd hK
set_option linter.defProp false in
abbrev zd:= @a_.ZF
set_option linter.defProp false in
abbrev zq:= @AW.Y7
set_option linter.defProp false in
abbrev zo:= @AW.seq
theorem zc {c:Operand} {x y:Code} {p:Prop} {_:Decidable p} (h1:AW P g x Q δ) (ho:fj c=true:=by exact rfl) (hc:δ.ev c=fq (decide p):=by exact rfl) (hp:p:=by first|(with_reducible assumption)|omega|decide):AW P g (.cond c x y) Q δ:=AW.WR ho hc hp h1
theorem zk {c:Operand} {x y:Code} {p:Prop} {_:Decidable p} (h1:AW P g y Q δ) (ho:fj c=true:=by exact rfl) (hc:δ.ev c=fq (decide p):=by exact rfl) (hp:¬p:=by first|(with_reducible assumption)|omega|decide):AW P g (.cond c x y) Q δ:=AW.WH ho hc hp h1
theorem zr {x:Operand} {t:TypeId} {p:PV} (hK:a_ q P g ops rest Q (δ.eW dst (.pv p))) (hx:δ.ev x=.gf [p]:=by exact rfl) (ht:ju P t=true:=by exact rfl) (ho:fj x=true:=by exact rfl) (hd:fT δ.n dst=true:=by exact rfl):a_ q P g ops (⟨dst,.load t x,ty,pos,af,none⟩::rest) Q δ:=a_.N5 hx ht ho hd hK
theorem zA {f:FuncId} {xs:List Operand} {tys:Array TypeId} {args:List AV} {r:AV} (hf:Fn P f args r) (hK:a_ q P g ops rest Q (δ.eW dst r)) (gp:qC true δ xs args:=by repeat (first|exact .nil|(refine .cons rfl ?_ ?_;(first|exact .pv _|exact .own _ _ _ _ rfl|exact .nil _|exact .any _|exact .gf _|(refine .lS ?_;repeat (first|exact .nil|(refine .cons ?_ ?_;(first|exact .pv _|exact .own _ _ _ _ rfl|exact .nil _)))))))) (kz:r.sk=true:=by exact rfl) (hd:fT δ.n dst=true:=by exact rfl) (hq:q≠ .held:=by exact(fun h_=>by cases h_)):
  a_ q P g ops (⟨dst,.call {callee:=.value (.func f),args:=xs.toArray,argTypes:=tys},ty,pos,af,none⟩::rest) Q δ:=a_.call hf gp kz hd hq hK
theorem zP {f:FuncId} {xs:List Operand} {tys:Array TypeId} {args:List AV} {r:AV} (hf:Fn P f args r) (hK:a_ .plain P g ops rest Q (δ.eW dst r)) (gp:qC false δ xs args:=by repeat (first|exact .nil|(refine .cons rfl ?_ ?_;(first|exact .pv _|exact .own _ _ _ _ rfl|exact .nil _|exact .any _|exact .gf _|(refine .lS ?_;repeat (first|exact .nil|(refine .cons ?_ ?_;(first|exact .pv _|exact .own _ _ _ _ rfl|exact .nil _)))))))) (hd:fT δ.n dst=true:=by exact rfl):
  a_ .plain P g ops (⟨dst,.call {callee:=.value (.func f),args:=xs.toArray,argTypes:=tys},ty,pos,af,none⟩::rest) Q δ:=a_.Qk hf gp hd hK
theorem zC {y:Operand} {f:FuncId} {xs:List Operand} {tys:Array TypeId} {first cap args:List AV} {r:AV} (hf:Fn P f args r) (hK:a_ q P g ops rest Q (δ.eW dst r)) (hy:δ.ev y=.jx (.func f) first cap:=by exact rfl) (kS:fj y=true:=by exact rfl) (qt:xs.all fj=true:=by exact rfl) (gp:uu δ (first++xs.map δ.ev++cap) args:=by repeat (first|exact .nil|(refine .cons ?_ ?_;(first|exact .le (.pv _)|exact .box rfl rfl|exact .le (.own _ _ _ _ rfl)|exact .le (.nil _)|exact .le (.any _)|exact .le (.gf _)|(refine .le (.lS ?_);repeat (first|exact .nil|(refine .cons ?_ ?_;(first|exact .pv _|exact .own _ _ _ _ rfl|exact .nil _)))))))) (kz:r.sk=true:=by exact rfl) (hd:fT δ.n dst=true:=by exact rfl) (hq:q≠ .held:=by exact(fun h_=>by cases h_)):
  a_ q P g ops (⟨dst,.call {callee:=.value y,args:=xs.toArray,argTypes:=tys},ty,pos,af,none⟩::rest) Q δ:=a_.Tm hf hy kS qt gp kz hd hq hK
theorem zX {y:Operand} {f:FuncId} {xs:List Operand} {tys:Array TypeId} {first cap args:List AV} {r:AV} {n0:Nat} {d_ e6:List (Nat×Option Ob)} (hf:oP P f n0 d_ args e6 r) (hK:a_ .plain P g ops rest Q ((δ.iy d_ e6).eW dst r)) (jk:g.wt=none:=by with_reducible assumption) (hy:δ.ev y=.jx (.func f) first cap:=by exact rfl) (kS:fj y=true:=by exact rfl) (qt:xs.all fj=true:=by exact rfl)
  (lz:Dv δ d_:=by repeat (first|exact trivial|refine⟨rfl,?_⟩)) (gp:wD (XS d_ n0).q6 (XS d_ n0).qd (first++xs.map δ.ev++cap) args:=by repeat (first|exact .nil|(refine .cons ?_ ?_;(first|exact .eq rfl rfl|exact .nil _|exact .any _)))) (hk:kH d_ e6=true:=by exact rfl) (CC:tL n0 d_=true:=by exact rfl) (tS:nu (XS d_ n0).q6 (XS d_ n0).qd d_:=by repeat (first|exact trivial|refine⟨rfl,?_⟩|refine⟨vP,?_⟩))
  (pW:nu (XS e6 n0).q6 (XS e6 n0).qd e6:=by repeat (first|exact trivial|refine⟨rfl,?_⟩|refine⟨vP,?_⟩)) (hr:r.ids (XS e6 n0).q6 (XS e6 n0).qd=true:=by exact rfl) (hd:fT δ.n dst=true:=by exact rfl):
  a_ .plain P g ops (⟨dst,.call {callee:=.value y,args:=xs.toArray,argTypes:=tys},ty,pos,af,none⟩::rest) Q δ:=a_.UX jk hf hy kS qt lz gp hk CC tS pW hr hd hK
theorem nx {A:DS→Prop} {δ δ':DS} (h:A δ') (e:δ=δ':=by conv=>lhs;simp only[Nf.af,Nf.xe0,Nf.xe1,Nf.xo0,Nf.xon,Nf.xor,Nf.xob,Nf.xom,Nf.xoi,Nf.xol,Nf.xop,Nf.xl0,Nf.xl1,Nf.Lg,Nf.Qd,Nf.K8,Nf.Hr,Nf.Ha,Nf.Lx,Nf.KB,Nf.GO,Nf.Mz,Nf.LK,Nf.Kl,Nf.rw0,Nf.rwr,Nf.rwb,Nf.rwm,Nf.cn,Nf.nn,Ek,xu,Nat.reduceBEq,cond_true,cond_false]):A δ:=e▸h
theorem zB {x y:Operand} {t:TypeId} {i:Nat} {cells cs:List AV} (hK:a_ .plain P g ops rest Q ((δ.gu i (some (.box cs))).eW dst .any)) (hx:δ.ev x=.ptr i 0:=by exact rfl) (hy:δ.ev y=.agg cs:=by exact rfl) (hb:δ.ob i=some (.box cells):=by exact rfl) (hlen:cells.length=cs.length:=by exact rfl) (ht:(P.info? t).map (·.size)=some cs.length:=by exact rfl) (h1:AV.ov cs=true:=by exact rfl) (ho:fj x=true:=by exact rfl) (ga:fj y=true:=by exact rfl) (hd:fT δ.n dst=true:=by exact rfl) (jk:g.wt=none:=by with_reducible assumption):
  a_ .plain P g ops (⟨dst,.store t x y,ty,pos,af,none⟩::rest) Q δ:=a_.xT hx hy hb hlen ht h1 ho ga hd jk hK
theorem zL {x:Operand} {t:TypeId} {i:Nat} {cells:List AV} (hK:a_ q P g ops rest Q (δ.eW dst (.agg cells))) (hx:δ.ev x=.ptr i 0:=by exact rfl) (hb:δ.ob i=some (.box cells):=by exact rfl) (ht:z_ P t cells.length=true:=by exact rfl) (ho:fj x=true:=by exact rfl) (hd:fT δ.n dst=true:=by exact rfl):
  a_ q P g ops (⟨dst,.load t x,ty,pos,af,none⟩::rest) Q δ:=a_.ID hx hb ht ho hd hK
theorem zj {x y:Operand} {t t':TypeId} {m n:Int} (hK:a_ q P g ops rest Q (δ.eW dst (eU (m+n)))) (hx:δ.ev x=eU m:=by exact rfl) (hy:δ.ev y=eU n:=by exact rfl) (ho:fj x=true:=by exact rfl) (ga:fj y=true:=by exact rfl) (hd:fT δ.n dst=true:=by exact rfl) (hb: -9223372036854775808≤m+n∧m+n≤9223372036854775807:=by omega):
  a_ q P g ops (⟨dst,.binOp .add t x y t',ty,pos,af,none⟩::rest) Q δ:=a_.add hx hy ho ga hd hb hK
theorem zF {x y z:Operand} {p:Prop} {_:Decidable p} {v:PV} (hK:a_ q P g ops rest Q (δ.eW dst (.pv v))) (hx:δ.ev x=fq (decide p):=by exact rfl) (hz:δ.ev z=.pv v:=by exact rfl) (hp:¬p:=by first|(with_reducible assumption)|omega|decide) (ho:fj x=true:=by exact rfl) (kS:fj y=true:=by exact rfl) (o_:fj z=true:=by exact rfl) (hd:fT δ.n dst=true:=by exact rfl):
  a_ q P g ops (⟨dst,.pick x y z,ty,pos,af,none⟩::rest) Q δ:=a_.J6 hx hz hp ho kS o_ hd hK
theorem zT {x y z:Operand} {p:Prop} {_:Decidable p} {v:PV} (hK:a_ q P g ops rest Q (δ.eW dst (.pv v))) (hx:δ.ev x=fq (decide p):=by exact rfl) (hy:δ.ev y=.pv v:=by exact rfl) (hp:p:=by first|(with_reducible assumption)|omega|decide) (ho:fj x=true:=by exact rfl) (kS:fj y=true:=by exact rfl) (o_:fj z=true:=by exact rfl) (hd:fT δ.n dst=true:=by exact rfl):
  a_ q P g ops (⟨dst,.pick x y z,ty,pos,af,none⟩::rest) Q δ:=a_.L_ hx hy hp ho kS o_ hd hK
end Go.Ab
/- Maps from whole numbers to slices:elder entries told whole,the last one over a row of the walk's own. -/
namespace Go.Ab
open Go Go.RowKit
variable {q:Md} {P:Program} {g:eZ} {δ:DS} {κ:Kp} {a:Act} {w:World}
variable {gd:Option (Tmp×Bool)} {ops:Array Oper} {rest:List Oper} {Q:Exit→DS→Prop} {dst:Option Nat} {ty:TypeId} {pos:String} {af:Array Edge}
def Ax (D:List (Int×List Int)):List (Int×AV):=D.map fun p=>(p.1,.pv (ints p.2))
theorem KN (D:List (Int×List Int)) (A B:Nat→Bool):∀p∈jl (Ax D),p.2.ids A B=true:=by
 intro p hp
 simp only[jl,Ax,List.map_map,List.mem_map] at hp
 obtain⟨x,_,rfl⟩:=hp
 rfl
theorem WO.UL {δ δ':DS} {i:Nat} (h:δ.ob i=some (.mp (jl []))):WO δ δ' i (.mp (jl (Ax []))):=.mp h (fun p hp=>by simp [jl,Ax] at hp)
theorem WO.rows {δ δ':DS} {i:Nat} {D:List (Int×List Int)} (h:δ.ob i=some (.mp (jl (Ax D)))):WO δ δ' i (.mp (jl (Ax D))):=.mp h (KN D _ _)
theorem o6.sw (i j:Nat) {δ δ':DS} (jk:g.wt=none) (hi:Nat.blt i δ.nx=true) (hj:Nat.blt j δ.nx=true) (h:o6 g (δ.sw i j) δ'):o6 g δ δ':=
 fun _ a w r=>h _ a w (r.sw i j (by simpa using hi) (by simpa using hj) (fun k hk=>by rw[jk] at hk;cases hk))
theorem AW.Su (i:Nat) {c:Code} (hi:δ.ob i=some .row) (hK:AW P g c Q (rH δ i)):AW P g c Q δ:=by
 intro κ a w r
 obtain⟨κ',r'⟩:=r.freeze hi
 exact hK κ' a w r'
section
variable {k:Wt} {late:List Nat} {l:List Oper} {dn:List Nat} {QD:Exit→DS→Prop}
theorem AR.xq {i:Nat} {o:Oper} (jk:g.wt=none) (hl:Nat.blt dn.length l.length=true) (hr:(k8 (iH l.length dn) 0 l==[i])=true) (ho:l[i]? =some o) (fy:wc late (iH l.length (i::dn))=true)
  (h:a_ .plain P g l.toArray [o] (jb (AR P g k late l QD (i::dn))) δ):AR P g k late l QD dn δ:=
 AR.all hl (kP hr) (by simp) fun i' jJ=>by
  simp only[List.mem_singleton] at jJ
  subst jJ
  refine⟨o,ho,?_⟩
  have hg:y7 g k late (gB l.length (i'::dn))=g:=by
   have h1:gS late (gB l.length (i'::dn))=true:=by rw[pf];exact fy
   unfold y7
   rw[if_pos h1,← jk]
  rw[hg]
  exact h
end
end Go.Ab
/- v,is:=m[k] over a map whose entries are told one by one. -/
namespace Go.Ab
open Go Go.RowKit
variable {q:Md} {P:Program} {g:eZ} {δ:DS} {ops:Array Oper} {rest:List Oper} {Q:Exit→DS→Prop} {dst:Option Nat} {ty:TypeId} {pos:String} {af:Array Edge}
abbrev Cn (f:Go.Fn):AV:=.pv (.lit (.func f #[] #[]))
theorem VY {C:Cx} {w:World} {u:Value} {f:Go.Fn} (h:RA C w u (.jx f [] [])):u=.func f #[] #[]:=by
 cases h with
 |jx hs h ht h'=>
  rename_i vs us
  have e1:vs= #[]:=Array.eq_empty_of_size_eq_zero (by simpa using hs)
  have e2:us= #[]:=Array.eq_empty_of_size_eq_zero (by simpa using ht)
  rw[e1,e2]
theorem we:∀{l:List (Int×AV)} {j:Nat} {m:Int} {v:AV},l[j]? =some (m,v)→jV l m≠none
 |[],j,m,v,h=>by simp at h
 |(k,u)::l,0,m,v,h=>by
  simp at h
  obtain⟨rfl,rfl⟩:=h
  simp [jV]
 |(k,u)::l,j+1,m,v,h=>by
  unfold jV
  split
  ·simp
  ·exact we (by simpa using h)
theorem Pb {C:Cx} {w:World} {u v:Value} (h:RA C w u (.pv (.lit v))):u=v:=by
 cases h with
 |pv h=>cases h;rfl
theorem iV.B7 {gd:Option (Tmp×Bool)} {x y z:Operand} {t kt et:TypeId} {i:Nat} {l:List (Int×AV)} {m:Int} {f:Go.Fn} (hx:δ.ev x=.gx i) (jh:δ.ob i=some (.mp (jl l))) (hy:δ.ev y=eU m) (hz:δ.ev z=.jx f [] []) (ht:P.underlying t=some (.map kt et)) (hk:P.underlying kt=some (.int .i64))
  (ho:fj x=true) (ga:fj y=true) (o_:fj z=true) (hd:fT δ.n dst=true) (Ex:g.nF i) (hn:jV l m=none):
  iV P g ⟨dst,.insert t x y z,ty,pos,af,gd⟩ δ ((δ.gu i (some (.mp (jl (l++ [(m,Cn f)]))))).eW dst .any):=by
 intro κ a w r
 obtain⟨b,es,clock,h1,h2,h3,h4,h5,Be⟩:=r.UF (r.ra hx ho) jh
 obtain⟨h6,h7⟩:=h4.jl
 have To:RA (δ.cx g κ) w (a.eval z) (Cn f):=by rw[VY (r.ra hz o_)];exact .pv (.lit _)
 have WL:MapKept.IsKey (.int .i64) (.int .i64 m):=by simp [MapKept.IsKey]
 have Ju:∀e,(Instr.checkKey e (9999+1) kt (.int .i64 m)).run P w=.ok () w:=fun e=>MapKept.run_checkKey hk WL e 9999
 rcases sV m es.toList l 0 h6 h7 with ⟨h8,h9⟩|⟨j,e,u,h9,xm,Hx,Qa,h13⟩
 ·have fF:(execOp a.eval ⟨dst,.insert t x y z,ty,pos,af,gd⟩).run P w=.ok .skip {w with heap:=w.heap.setIfInBounds b (.map (es.push {key:=.int .i64 m,val:=a.eval z,born:=clock}) (clock+1))}:=by
   simp [execOp,r.lit hy ga,h1,Instr.mapUpdate,run_underlying ht,MapKept.run_getObj_map h3,Ju,lM hk h9,MapKept.run_setObj_map _ h3]
  obtain⟨r',G⟩:=r.modify (o':=.mp (jl (l++ [(m,Cn f)]))) jh rfl rfl h2 Ex (iL.rM w b (.map (es.push {key:=.int .i64 m,val:=a.eval z,born:=clock}) (clock+1))) (by simp) (fun C hC G=>by
   have Co:mT C {w with heap:=w.heap.setIfInBounds b (.map (es.push {key:=.int .i64 m,val:=a.eval z,born:=clock}) (clock+1))} es (jl l):=h4.lJ G
   obtain⟨Jz,T9⟩:=Co.push h5 m (G.ra To)
   exact⟨b,_,_,by rw[hC];exact h2,kN h3,Jz,T9,fun p hp=>by
    rw[jz] at hp
    rcases List.mem_append.1 hp with hp|hp
    ·exact Be p hp
    ·simp [jl] at hp;subst hp;rfl⟩)
  exact .inl ⟨_,_,_,_,fF,.inr ⟨rfl,rfl⟩,r'.eW (ft hd) (.any _)⟩
 ·exfalso
  exact we Hx hn
theorem a_.B7 {x y z:Operand} {t kt et:TypeId} {i:Nat} {l:List (Int×AV)} {m:Int} {f:Go.Fn} (hx:δ.ev x=.gx i) (jh:δ.ob i=some (.mp (jl l))) (hy:δ.ev y=eU m) (hz:δ.ev z=.jx f [] []) (ht:P.underlying t=some (.map kt et)) (hk:P.underlying kt=some (.int .i64))
  (ho:fj x=true) (ga:fj y=true) (o_:fj z=true) (hd:fT δ.n dst=true) (jk:g.wt=none) (hn:jV l m=none)
  (hK:a_ .plain P g ops rest Q ((δ.gu i (some (.mp (jl (l++ [(m,Cn f)]))))).eW dst .any)):
  a_ .plain P g ops (⟨dst,.insert t x y z,ty,pos,af,none⟩::rest) Q δ:=
 a_.s6 rfl rfl (iV.B7 hx jh hy hz ht hk ho ga o_ hd (kg jk i) hn) hK
def A5 (l:List (Int×Go.Fn)):List (Int×AV):=l.map fun p=>(p.1,Cn p.2)
def LW (l:List (Int×Go.Fn)):List (Value×PV):=l.map fun p=>(.int .i64 p.1,.lit (.func p.2 #[] #[]))
theorem WV.fns {δ':DS} {i:Nat} {l:List (Int×Go.Fn)} (hb:δ.ob i=some (.mp (jl (A5 l)))) (hd:δ'.ob i=none):WV δ δ' (.gx i) (.pv (.mp (LW l))):=
 .fmap hb hd (by simp [jl,A5,LW]) (fun j p p' h1 h2=>by
  simp only[jl,A5,LW,List.getElem?_map,Option.map_eq_some_iff] at h1 h2
  obtain⟨a,⟨b,hb,rfl⟩,rfl⟩:=h1
  obtain⟨c,hc,rfl⟩:=h2
  obtain rfl:b=c:=Option.some.inj (hb.symm.trans hc)
  exact⟨rfl,.pv _⟩)
theorem Dk {κ:Kp} {w:World} {v:Value} {l:List (Int×Go.Fn)} (h1:RA (δ.cx g κ) w v (.pv (.mp (LW l)))):∃b es clock,v=.map (some b)∧(∀w',lR δ κ w w'→w'.heap[b]? =some (.map es clock))∧es.toList.length=(A5 l).length∧
  ∀(j:Nat) (e:MapEntry) (p:Int×AV),es.toList[j]? =some e→(A5 l)[j]? =some p→e.key=.int .i64 p.1∧RA (δ.cx g κ) w e.val p.2:=by
 cases h1 with
 |pv h=>
  cases h with
  |mp b clock es hN hb hh hs i_ hk hr=>
   refine⟨b,es,clock,rfl,fun w' jf=>(jf b hb ⟨fun i hi=>hN.2 i (DS.gK hi),hN.1.2⟩).trans hh,by simpa [A5,LW] using hs,fun j e p h1 h2=>?_⟩
   have MZ:es[j]? =some e:=by simpa using h1
   simp only[A5,List.getElem?_map,Option.map_eq_some_iff] at h2
   obtain⟨a,ha,rfl⟩:=h2
   have h3:(LW l)[j]? =some (.int .i64 a.1,.lit (.func a.2 #[] #[])):=by simp [LW,ha]
   exact⟨hk j e _ MZ h3,.pv (hr j e _ MZ h3)⟩
theorem a_.Ga {x y:Operand} {t kt et:TypeId} {l:List (Int×Go.Fn)} {m:Int} {z:Value} {f:Go.Fn} (hx:δ.ev x=.pv (.mp (LW l))) (hy:δ.ev y=eU m) (ht:P.underlying t=some (.map kt et)) (hk:P.underlying kt=some (.int .i64)) (hz:(P.info? et).bind (·.zero)=some z)
  (ho:fj x=true) (ga:fj y=true) (hd:fT δ.n dst=true) (hv:jV (A5 l) m=some (Cn f)) (hK:a_ q P g ops rest Q (δ.eW dst (.gY [.jx f [] [],fq true]))):a_ q P g ops (⟨dst,.lookup t x y true,ty,pos,af,none⟩::rest) Q δ:=
 a_.jG _ hd (fun κ a w r=>by
  obtain⟨b,es,clock,h1,hb,h6,h7⟩:=Dk (r.ra hx ho)
  rcases pV m es.toList (A5 l) 0 h6 h7 with ⟨h8,h9⟩|⟨j,e,v',h8,h9,xm,Hx,Qa⟩
  ·rw[hv] at h8;cases h8
  ·rw[hv] at h8;cases h8
   have he:e.val=.func f #[] #[]:=Pb Qa
   refine⟨.tuple #[e.val,.bool true],fun w' jf=>?_,.gY rfl (fun k u c h=>?_)⟩
   ·have:=pL ht hk hz (hb w' jf) h9 true
    simp [execOp,r.lit hy ga,h1,this]
   ·intro hc
    match k with
    |0=>simp at h hc;subst h;subst hc;rw[he];exact .jx rfl (fun j u c h=>by simp at h) rfl (fun j u c h=>by simp at h)
    |1=>simp at h hc;subst h;subst hc;exact .pv (.lit _)
    |k+2=>simp at hc) hK
theorem a_.Fb {x y:Operand} {t kt et:TypeId} {l:List (Int×Go.Fn)} {m:Int} {z:Value} (hx:δ.ev x=.pv (.mp (LW l))) (hy:δ.ev y=eU m) (ht:P.underlying t=some (.map kt et)) (hk:P.underlying kt=some (.int .i64)) (hz:(P.info? et).bind (·.zero)=some z)
  (ho:fj x=true) (ga:fj y=true) (hd:fT δ.n dst=true) (hv:jV (A5 l) m=none) (hK:a_ q P g ops rest Q (δ.eW dst (.gY [.pv (.lit z),fq false]))):a_ q P g ops (⟨dst,.lookup t x y true,ty,pos,af,none⟩::rest) Q δ:=
 a_.jG _ hd (fun κ a w r=>by
  obtain⟨b,es,clock,h1,hb,h6,h7⟩:=Dk (r.ra hx ho)
  rcases pV m es.toList (A5 l) 0 h6 h7 with ⟨h8,h9⟩|⟨j,e,v',h8,h9,xm,Hx,Qa⟩
  ·refine⟨.tuple #[z,.bool false],fun w' jf=>?_,.gY rfl (fun k u c h=>?_)⟩
   ·have:=pL ht hk hz (hb w' jf) h9 true
    simp [execOp,r.lit hy ga,h1,this]
   ·intro hc
    match k with
    |0=>simp at h hc;subst h;subst hc;exact .pv (.lit _)
    |1=>simp at h hc;subst h;subst hc;exact .pv (.lit _)
    |k+2=>simp at hc
  ·rw[hv] at h8;cases h8) hK
theorem AW.EZ {c:Operand} {x y:Code} {b:Bool} (ho:fj c=true) (hc:δ.ev c=fq b) (hb:b=true) (h1:AW P g x Q δ):AW P g (.cond c x y) Q δ:=AW.J4 hb ho hc h1
theorem AW.BC {c:Operand} {x y:Code} {b:Bool} (ho:fj c=true) (hc:δ.ev c=fq b) (hb:b=false) (h1:AW P g y Q δ):AW P g (.cond c x y) Q δ:=AW.Lc hb ho hc h1
theorem a_.Uo {f fn:FuncId} {x:Operand} {tys:Array TypeId} {v r:AV} (hf:Fn P f [v,.jx (.func fn) [] []] r) (gp:qC true δ [x] [v]) (kz:r.sk=true) (hd:fT δ.n dst=true) (hq:q≠ .held)
  (hK:a_ q P g ops rest Q (δ.eW dst r)):a_ q P g ops (⟨dst,.call {callee:=.value (.func f),args:=[x,.func fn].toArray,argTypes:=tys},ty,pos,af,none⟩::rest) Q δ:=by
 intro κ a w r0
 have hc:∀w',Below w.heap.size w w'→Calls P f ([x,.func fn].toArray.map a.eval) w' fun e w''=>e=.returned r.out∧Below w'.heap.size w' w'':=fun w' jf=>
  (hf.calls (fun _=>True) w' _ (fun _ _=>trivial) (by simp) (fun j u av h1 h2=>by
   match j with
   |0=>exact gp.NS (r0.ext jf) (fun _ _ _=>trivial) (fun _ _ _ _ _=>trivial) 0 u av (by simpa using h1) (by simpa using h2)
   |1=>
    simp at h1 h2
    subst h1;subst h2
    exact .jx rfl (fun j u c h=>by simp at h) rfl (fun j u c h=>by simp at h)
   |j+2=>simp at h2)).mono (by
   rintro e w'' ⟨v,rfl,hv,hb⟩
   exact⟨by rw[hv.sk (AV.jU (C:=vx (fun _=>True)) (w:=w) kz) kz],hb⟩)
 have uE:=hK κ _ _ (r0.eW (ft hd) (AV.jU kz))
 cases q with
 |quiet=>
  show wpQuiet P ops _ _ (_::rest) a
  unfold wpQuiet
  rw[if_pos (by simp [Region.wanted])]
  refine⟨r.out,fun w' jf=>?_,uE⟩
  unfold Oper.quietAt
  rw[jt (f:=f) rfl hf.enters]
  exact⟨rfl,(hc w' jf).mono fun e w'' ⟨h1,h2⟩=>⟨h1,jf.trans (h2.mono jf.size)⟩⟩
 |held=>exact absurd rfl hq
 |plain=>
  show wpListIn _ _ P ops _ (_::rest) a w
  refine gF rfl rfl fun K oA=>?_
  unfold Oper.y9
  rw[jt (f:=f) rfl hf.enters,Oper.uponIn_enter]
  refine⟨fun h=>by simp at h,(iF (hc w (Below.refl _ _))).mono ?_⟩
  rintro e w' ⟨rfl,hb⟩
  exact oA _ _ (hK κ _ _ ((r0.ext hb).eW (ft hd) (AV.jU kz)))
end Go.Ab
/- Strings:joined,compared,measured,indexed,cut;numbers of any kind compared. -/
namespace Go.Ab
open Go Go.RowKit
variable {q:Md} {P:Program} {g:eZ} {δ:DS} {κ:Kp} {a:Act} {w:World}
variable {ops:Array Oper} {rest:List Oper} {Q:Exit→DS→Prop} {dst:Option Nat} {ty:TypeId} {pos:String} {af:Array Edge}
abbrev V_ (s:ByteArray):AV:=.pv (.lit (.string s))
section strs
variable {x y:Operand} {t t':TypeId} {s u:ByteArray} (hx:δ.ev x=V_ s) (hy:δ.ev y=V_ u) (ho:fj x=true) (ga:fj y=true) (hd:fT δ.n dst=true)
include hx hy ho ga hd
end strs
theorem a_.Rp {x y:Operand} {t t':TypeId} {m n:Int} {k:IntKind} (hx:δ.ev x=.pv (.lit (.int k m))) (hy:δ.ev y=.pv (.lit (.int k n))) (ho:fj x=true) (ga:fj y=true) (hd:fT δ.n dst=true)
  (hK:a_ q P g ops rest Q (δ.eW dst (fq (decide (m=n))))):a_ q P g ops (⟨dst,.binOp .eql t x y t',ty,pos,af,none⟩::rest) Q δ:=
 a_.bin hx hy ho ga (kL _ _ _ _ _ _ _ _ (by simp) (by simp only[Op.intCmp,GI];rfl)) hd hK
end Go.Ab
/- A struct stored into a part of a box:an element of an array,a struct's field that is a struct. -/
namespace Go.Ab
open Go Go.RowKit
inductive wN:Nat→List AV→List AV→List AV→Prop where
 |nil {l}:wN 0 [] l l
 |take {a b cs l l'}:wN 0 cs l l'→wN 0 (b::cs) (a::l) (b::l')
 |skip {k a cs l l'}:wN k cs l l'→wN (k+1) cs (a::l) (a::l')
theorem wN.spec {k:Nat} {cs l l':List AV} (h:wN k cs l l'):k+cs.length≤l.length∧l'.length=l.length∧(∀j,j<k→l'[j]? =l[j]?)∧(∀j,k≤j→j<k+cs.length→l'[j]? =cs[j - k]?)∧(∀j,k+cs.length≤j→l'[j]? =l[j]?):=by
 induction h with
 |nil=>exact⟨by simp,rfl,fun j h=>rfl,fun j h1 h2=>by simp at h2,fun j h=>rfl⟩
 |take _ ih=>
  obtain⟨h1,h2,_,h4,h5⟩:=ih
  refine⟨by simp at h1 ⊢;omega,by simp [h2],fun j h=>by omega,fun j _ h=>?_,fun j h=>?_⟩
  ·cases j with
   |zero=>rfl
   |succ j=>exact h4 j aJ (by simp at h ⊢;omega)
  ·cases j with
   |zero=>simp at h
   |succ j=>exact h5 j (by simp at h ⊢;omega)
 |skip _ ih=>
  obtain⟨h1,h2,h3,h4,h5⟩:=ih
  refine⟨by simp at h1 ⊢;omega,by simp [h2],fun j h=>?_,fun j h0 h=>?_,fun j h=>?_⟩
  ·cases j with
   |zero=>rfl
   |succ j=>exact h3 j (by omega)
  ·cases j with
   |zero=>omega
   |succ j=>
    rw[Nat.add_sub_add_right]
    exact h4 j aJ (by omega)
  ·cases j with
   |zero=>omega
   |succ j=>exact h5 j (by omega)
variable {P:Program} {g:eZ} {δ:DS} {ops:Array Oper} {rest:List Oper} {Q:Exit→DS→Prop} {dst:Option Nat} {ty:TypeId} {pos:String} {af:Array Edge} {gd:Option (Tmp×Bool)}
theorem Nh {c u:List Value} {k j:Nat} (hk:k+u.length≤c.length):(c.take k++u++c.drop (k+u.length))[j]? =if j<k then c[j]? else if j<k+u.length then u[j - k]? else c[j]?:=by
 have hl:(c.take k++u).length=k+u.length:=by simp;omega
 by_cases h1:j<k
 ·rw[if_pos h1,List.getElem?_append_left aJ,List.getElem?_append_left (by simp;omega),List.getElem?_take,if_pos h1]
 ·rw[if_neg h1]
  by_cases h2:j<k+u.length
  ·rw[if_pos h2,List.getElem?_append_left aJ,List.getElem?_append_right (by simp;omega)]
   congr 1;simp;omega
  ·rw[if_neg h2,List.getElem?_append_right aJ,hl,List.getElem?_drop]
   congr 1;omega
theorem iV.yd {x y:Operand} {t:TypeId} {i off:Nat} {cells cs out:List AV} (hx:δ.ev x=.ptr i off) (hy:δ.ev y=.agg cs) (hb:δ.ob i=some (.box cells)) (hp:wN off cs cells out) (ht:(P.info? t).map (·.size)=some cs.length) (h1:AV.ov cs=true) (ho:fj x=true) (ga:fj y=true) (hd:fT δ.n dst=true) (Ex:g.nF i):
  iV P g ⟨dst,.store t x y,ty,pos,af,gd⟩ δ ((δ.gu i (some (.box out))).eW dst .any):=by
 intro κ a w r
 obtain⟨b,c,e,hv,hκ,h3,h4,h5⟩:=r.box (r.ra hx ho) hb
 obtain⟨nQ,pI⟩:=(r.ra hy ga).cells h1
 simp only[AV.cellsOf] at nQ pI
 obtain⟨p1,p2,p3,p4,p5⟩:=hp.spec
 have j4:∀u∈(a.eval y).cells.toList,u.oneCell'=true:=by
  intro u hu
  obtain⟨j,hj⟩:=List.getElem?_of_mem hu
  have fy:j<cs.length:=by rw[← nQ];have:=(List.getElem?_eq_some_iff.1 hj).1;simpa using this
  exact(pI j u _ (by simpa using hj) (List.getElem?_eq_getElem fy)).2
 have VH:(a.eval y).cells.toList.length=cs.length:=by simpa using nQ
 have i_:=run_storeCells_at P b off e (a.eval y).cells.toList 0 c w h3 (by rw[VH];omega) j4
 simp only[Nat.add_zero] at i_
 obtain⟨R,hR⟩:∃R,R=(c.toList.take off++(a.eval y).cells.toList++c.toList.drop (off+(a.eval y).cells.toList.length)).toArray:=⟨_,rfl⟩
 rw[← hR] at i_
 have hRs:R.size=c.size:=by rw[hR];simp [VH];omega
 have hRg:∀j,R[j]? =if j<off then c[j]? else if j<off+cs.length then (a.eval y).cells[j - off]? else c[j]?:=fun j=>by
  rw[hR,List.getElem?_toArray,Nh (by rw[VH];simp;omega),VH]
  simp only[Array.getElem?_toList]
 have fF:(execOp a.eval ⟨dst,.store t x y,ty,pos,af,gd⟩).run P w=.ok .skip (w.setRow b R):=by
  obtain⟨i0,jM,mW⟩:∃i0,P.info? t=some i0∧i0.size=cs.length:=by
   cases h:P.info? t with
   |none=>rw[h] at ht;simp at ht
   |some i0=>rw[h] at ht;exact⟨i0,rfl,by simpa using ht⟩
  simp [execOp,Instr.storeAt,Instr.sureAddr,storeVar,hv,nQ,sizeOf,typeInfo,jM,mW,i_]
 obtain⟨r',G⟩:=r.modify (o':=.box out) hb rfl rfl hκ Ex (iL.setRow w b R) (by simp) (fun C VC G=>⟨b,_,e,by rw[VC];exact hκ,setRow_heap w b c _ e _ h3,by rw[hRs,p2];exact h4,fun j u av h6 h7=>by
  rw[hRg] at h6
  by_cases e1:j<off
  ·rw[if_pos e1] at h6
   rw[p3 j e1] at h7
   exact⟨G.ra (h5 j u av h6 h7).1,(h5 j u av h6 h7).2⟩
  ·rw[if_neg e1] at h6
   by_cases e2:j<off+cs.length
   ·rw[if_pos e2] at h6
    rw[p4 j aJ e2] at h7
    exact⟨G.ra (pI (j - off) u av h6 h7).1,(pI (j - off) u av h6 h7).2⟩
   ·rw[if_neg e2] at h6
    rw[p5 j aJ] at h7
    exact⟨G.ra (h5 j u av h6 h7).1,(h5 j u av h6 h7).2⟩⟩)
 exact .inl ⟨_,_,_,_,fF,.inr ⟨rfl,rfl⟩,r'.eW (ft hd) (.any _)⟩
theorem a_.yd {x y:Operand} {t:TypeId} {i off:Nat} {cells cs out:List AV} (hx:δ.ev x=.ptr i off) (hy:δ.ev y=.agg cs) (hb:δ.ob i=some (.box cells)) (hp:wN off cs cells out) (ht:(P.info? t).map (·.size)=some cs.length) (h1:AV.ov cs=true) (ho:fj x=true) (ga:fj y=true) (hd:fT δ.n dst=true) (jk:g.wt=none)
  (hK:a_ .plain P g ops rest Q ((δ.gu i (some (.box out))).eW dst .any)):a_ .plain P g ops (⟨dst,.store t x y,ty,pos,af,none⟩::rest) Q δ:=a_.s6 rfl rfl (iV.yd hx hy hb hp ht h1 ho ga hd (kg jk i)) hK
end Go.Ab
/- A row's first part;append of made zeros to nothing;a capacity. -/
namespace Go.Ab
open Go Go.RowKit
variable {q:Md} {P:Program} {g:eZ} {δ:DS} {κ:Kp} {a:Act} {w:World}
variable {ops:Array Oper} {rest:List Oper} {Q:Exit→DS→Prop} {dst:Option Nat} {ty:TypeId} {pos:String} {af:Array Edge} {gd:Option (Tmp×Bool)}
theorem a_.IS {t e e':TypeId} {x y:Operand} {i k:Nat} {m:Int} {fa:List (List PV)} (hx:δ.ev x=.own i e' k fa) (hy:δ.ev y=eU m) (ht:P.underlying t=some (.slice e)) (hk:(P.info? e).map (·.size)=some k)
  (ho:fj x=true) (ga:fj y=true) (hd:fT δ.n dst=true) (h0:0≤m) (hm:m.toNat≤fa.length) (hK:a_ q P g ops rest Q (δ.eW dst (.own i e' k (fa.take m.toNat)))):a_ q P g ops (⟨dst,.slice t x none (some y) none,ty,pos,af,none⟩::rest) Q δ:=
 a_.jG _ hd (fun κ a w r=>by
  have h1:=(r.ra hx ho).jv
  obtain⟨i0,jM,og⟩:∃i0,P.info? e=some i0∧i0.size=k:=by
   cases h:P.info? e with
   |none=>rw[h] at hk;simp at hk
   |some i0=>rw[h] at hk;exact⟨i0,rfl,by simpa using hk⟩
  have yN:a.eval y=.int .i64 m:=r.lit hy ga
  obtain⟨h,rfl⟩:∃h:Nat,m=(h:Int):=⟨m.toNat,by omega⟩
  rw[Int.toNat_natCast] at hm ⊢
  obtain⟨a0,cap,hv,oX,hb⟩:∃a0 cap,a.eval x=.slice a0 fa.length cap∧fa.length≤cap∧j1 (δ.cx g κ) w (.slice a0 h cap) i e' k (fa.take h):=by
   obtain⟨hl,nk,GZ,pg,xs,⟨wk,gR⟩,h1x,hxx⟩:=h1
   have mk:∀a0 cap,(∀b,(Value.slice a0 h cap).ownBlock=some b→(δ.cx g κ).κ i=some b)→((Value.slice a0 h cap=.slice none 0 0∧h=0)∨∃g0 cap' cur,Value.slice a0 h cap=.slice (some ⟨g0,0,none⟩) h cap'∧(δ.cx g κ).B≤g0∧w.heap[g0]? =some (.cells cur e' (0,0))∧h≤cap'∧cap'≤maxLen∧cur.size=cap'*k∧cur.toList.take (h*k)=xs.take (h*k))→j1 (δ.cx g κ) w (.slice a0 h cap) i e' k (fa.take h):=by
    intro a0 cap MR uI
    have hlen:(fa.take h).length=h:=by rw[List.length_take];omega
    have hmul:h*k≤fa.length*k:=Nat.mul_le_mul_right k hm
    refine⟨hl,by omega,fun c hc=>GZ c (List.mem_of_mem_take hc),MR,xs.take (h*k),⟨by rw[hlen,List.length_take];omega,by rw[hlen];exact uI⟩,fun u hu=>h1x u (List.mem_of_mem_take hu),fun i' j p hp=>?_⟩
    unfold cellAt at hp
    rw[List.getElem?_take] at hp
    by_cases Xo:i'<h
    ·rw[if_pos Xo] at hp
     obtain⟨u,hu,Pz⟩:=hxx i' j p (by unfold cellAt;exact hp)
     refine⟨u,?_,Pz⟩
     have Py:j<k:=by
      rw[Option.bind_eq_some_iff] at hp
      obtain⟨c,FB,S_⟩:=hp
      have:=GZ c (List.mem_of_getElem? FB)
      have:=(List.getElem?_eq_some_iff.1 S_).1
      omega
     have:(i'+1)*k≤h*k:=Nat.mul_le_mul_right k Xo
     rw[Nat.add_mul,Nat.one_mul] at this
     rw[List.getElem?_take,if_pos aJ];exact hu
    ·rw[if_neg Xo] at hp;simp at hp
   rcases gR with ⟨hn,hz⟩|⟨g0,cap,cur,hv,hg,h3,hle,Jp,pI,tA⟩
   ·refine⟨none,0,by rw[hn,hz],by omega,mk none 0 (fun b hb=>by cases hb) (.inl ⟨?_,by omega⟩)⟩
    rw[show h=0 by omega]
   ·refine⟨_,cap,hv,hle,mk _ cap (fun b hb=>pg b (by rw[hv];exact hb)) (.inr ⟨g0,cap,cur,rfl,hg,h3,by omega,Jp,pI,?_⟩)⟩
    rw[← tA,List.take_take,Nat.min_eq_left (Nat.mul_le_mul_right k hm)]
  have fF:∀w,(execOp a.eval ⟨dst,.slice t x none (some y) none,ty,pos,af,none⟩).run P w=.ok (.value (.slice a0 h cap)) w:=by
   intro w
   have Hi:∀w,(Instr.sliceBounds true fa.length cap none (some (.int .i64 (h:Int))) none).run P w=.ok (0,h,cap) w:=by
    intro w
    have e1:(0:Int)≤(h:Int)∧(h:Int)≤(cap:Int):=by omega
    simp [Instr.sliceBounds,Instr.sliceBound,asIntOf,e1]
    intro h0;exfalso;omega
   simp only[execOp,Instr.sliceAt,Instr.slice,run_underlying ht,hv,yN,Sem.run_bind,Result.andThen_ok,Option.map_none,Option.map_some,Hi,sizeOf,typeInfo,Sem.run_pure]
   cases a0 with
   |none=>simp [jM,og]
   |some ad=>
    simp [jM,og]
    intro _
    cases ad;simp [Addr.add]
  exact⟨_,fun w' _=>fF w',.own hb⟩) hK
namespace Nf
variable {n x:Nat} {e:List (Nat×AV)} {o:List (Nat×Option Ob)}
theorem pum (d:Nat) (v:AV):DS.put ⟨n,e,o,x⟩ d v=⟨n,(d,v)::e,o,x⟩:=rfl
theorem pu0 (δ:DS) (v:AV):j_ δ v []=δ:=rfl
theorem pu1 (δ:DS) (v:AV) (t:Nat) (ts:List Nat):j_ δ v (t::ts)=(j_ δ v ts).put t v:=rfl
theorem rr0 (i:Nat) (e:TypeId) (zs os:List Int):A7 i e zs os none=.gY []:=rfl
theorem rr1 (i:Nat) (e:TypeId) (zs os:List Int) (r:List Int→Nat):A7 i e zs os (some r)=.own i e 1 ((os.take (r zs)).map nI):=rfl
set_option linter.defProp false in
def rwR:=And.intro @pum (And.intro @pu0 (And.intro @pu1 (And.intro @rr0 @rr1)))
end Nf
end Go.Ab
/- Contracts of callees that return a row of their own making;the caller owns it from then on. -/
namespace Go.Ab
open Go Go.RowKit
variable {P:Program} {g:eZ} {δ:DS} {κ:Kp} {a:Act} {w:World}
variable {ops:Array Oper} {rest:List Oper} {Q:Exit→DS→Prop} {dst:Option Nat} {ty:TypeId} {pos:String} {af:Array Edge}
theorem Rel.J2 (r:Rel g δ κ a w) {w':World} (hb:Below w.heap.size w w') (bo:Option Nat) (DB:∀b,bo=some b→w.heap.size≤b∧b<w'.heap.size∧∃c e,w'.heap[b]? =some (.cells c e (0,0))):
  Rel g (δ.fQ .row) (ig κ δ.nx bo) a w'∧kC (δ.cx g κ) w ((δ.fQ .row).cx g (ig κ δ.nx bo)) w':=by
 have hold:∀k,k<w.heap.size→w'.heap[k]? =w.heap[k]?:=hb.block
 have nG:¬δ.live δ.nx:=fun h=>Nat.lt_irrefl _ (r.nx _ h)
 have gn:∀i,δ.live i→δ.nx≠i:=fun i h e=>nG (e▸h)
 have fV:∀i,(δ.fQ .row).live i→i=δ.nx∨δ.live i:=by
  intro i ⟨o',h⟩
  rw[f_] at h
  by_cases e:δ.nx=i
  ·exact .inl e.symm
  ·rw[if_neg e] at h;exact .inr ⟨o',h⟩
 have G:kC (δ.cx g κ) w ((δ.fQ .row).cx g (ig κ δ.nx bo)) w':=
  {B:=rfl,size:=hb.size
   N:=fun b h1 h2=>⟨⟨h2.1,fun i hi=>by
    show ig κ δ.nx bo i≠some b
    rcases fV i hi with rfl|hi
    ·simp only[ig,if_true];intro e;have:=(DB b e).1;omega
    ·simp only[ig,gn i hi,if_false];exact h2.2 i hi⟩,hold b h1⟩
   Lr:=fun i hi=>by
    have jJ:=gn i (DS.gK hi)
    refine⟨?_,by show ig _ _ _ i=κ i;simp [ig,jJ],fun b hκ=>hold b (r.lo i b (DS.gK hi) hκ).2⟩
    show(δ.fQ .row).ob i=_
    rw[f_,if_neg jJ];exact hi
   Lb:=fun i hi=>by
    have jJ:=gn i (DS.mE hi)
    refine⟨?_,by show ig _ _ _ i=κ i;simp [ig,jJ]⟩
    obtain⟨o',h1,h2⟩:=hi
    exact⟨o',by rw[f_,if_neg jJ];exact h1,h2⟩}
 refine⟨?_,G⟩
 exact
  {n:=r.n,dfr:=r.dfr.lJ fun k _ hk=>hold k (je hk),env:=fun j=>G.ra (r.env j)
   obj:=fun i o' h=>by
    rw[f_] at h
    by_cases e:δ.nx=i
    ·rw[if_pos e] at h;cases h;subst e
     intro b hκ
     have Gb:bo=some b:=by
      have:ig κ δ.nx bo δ.nx=some b:=hκ
      simpa [ig] using this
     exact(DB b Gb).2.2
    ·rw[if_neg e] at h
     exact(r.obj i o' h).lJ G (by show ig _ _ _ i=κ i;simp [ig,e]) (fun b hκ=>hold b (r.lo i b ⟨o',h⟩ hκ).2) (fun b hF fy=>⟨hF,hold b fy⟩)
   inj:=fun i j b h1 h2 h3 h4=>by
    rcases fV i h1 with rfl|h1
    ·rcases fV j h2 with rfl|h2
     ·rfl
     ·simp only[ig,if_true] at h3
      simp only[ig,gn j h2,if_false] at h4
      exact absurd (r.lo j _ h2 h4).2 (by have:=(DB b h3).1;omega)
    ·rcases fV j h2 with rfl|h2
     ·simp only[ig,if_true] at h4
      simp only[ig,gn i h1,if_false] at h3
      exact absurd (r.lo i _ h1 h3).2 (by have:=(DB b h4).1;omega)
     ·simp only[ig,gn i h1,gn j h2,if_false] at h3 h4
      exact r.inj i j b h1 h2 h3 h4
   lo:=fun i b h1 h2=>by
    rcases fV i h1 with rfl|h1
    ·simp only[ig,if_true] at h2
     have:=DB b h2
     have:=r.hB
     omega
    ·simp only[ig,gn i h1,if_false] at h2
     have:=r.lo i b h1 h2
     have:=hb.size
     omega
   nx:=fun i h=>by
    show i<δ.nx+1
    rcases fV i h with rfl|h
    ·omega
    ·have:=r.nx i h;omega
   wt:=fun k hk=>⟨fun b zR=>⟨((r.wt k hk).1 b zR).1,(hold b (sG ((r.wt k hk).1 b zR))).trans ((r.wt k hk).1 b zR).2⟩,fun i b hl hi hκ zR=>by
    rcases fV i hl with rfl|jJ
    ·simp only[ig,if_true] at hκ
     have:=(DB b hκ).1
     exact absurd (sG ((r.wt k hk).1 _ zR)) (by omega)
    ·simp only[ig,gn i jJ,if_false] at hκ
     refine(r.wt k hk).2 i b jJ ?_ hκ zR
     refine hi.imp (fun hi=>?_) id
     have qU:(δ.fQ .row).ob i=some .row:=hi
     rw[f_,if_neg (gn i jJ)] at qU
     exact qU⟩
   below:=r.below.trans (hb.mono r.hB)
   hB:=Nat.le_trans r.hB hb.size
   N0:=r.N0
   kZ:=r.kZ
   fr:=r.fr.of hb.size (fun b _ h1 _=>hold b h1) fun i b h1 h2=>by
    rcases fV i h1 with rfl|h1
    ·simp only[ig,if_true] at h2;exact .inr (DB b h2).1
    ·simp only[ig,gn i h1,if_false] at h2;exact .inl ⟨i,h1,h2⟩}
structure MK (N:Nat→Prop) (w:World) (B:Nat) (v:Value) (e:TypeId) (k:Nat) (fa:List (List PV)):Prop where
 lim:fa.length≤140737488355328
 hk:∀c∈fa,c.length=k
 row:∃xs,w.ownsRow B e k v fa.length xs∧(∀u∈xs,u.oneCell'=true)∧∀i' j p,cellAt fa i' j=some p→∃u,xs[i'*k+j]? =some u∧RP (fun b=>N b∧v.ownBlock≠some b) w u p
structure MY (P:Program) (f:FuncId) (args:List AV) (e:TypeId) (k:Nat) (fa:List (List PV)):Prop where
 enters:∀vals w,(callFunc f vals).run P w=.ok (.enter f vals) w
 calls:∀(N:Nat→Prop) (w:World) (vals:Array Value),(∀b,w.heap.size≤b→N b)→vals.size=args.length→
  (∀(j:Nat) (v:Value) (av:AV),vals[j]? =some v→args[j]? =some av→RA (vx N) w v av)→
  Calls P f vals w fun en w'=>∃v,en=.returned v∧Below w.heap.size w w'∧MK N w' w.heap.size v e k fa
theorem a_.PG {f:FuncId} {xs:List Operand} {tys:Array TypeId} {args:List AV} {e:TypeId} {k:Nat} {fa:List (List PV)} (hf:MY P f args e k fa) (gp:qC false δ xs args) (hd:fT δ.n dst=true)
  (hK:a_ .plain P g ops rest Q ((δ.fQ .row).eW dst (.own δ.nx e k fa))):a_ .plain P g ops (⟨dst,.call {callee:=.value (.func f),args:=xs.toArray,argTypes:=tys},ty,pos,af,none⟩::rest) Q δ:=by
 intro κ a w r0
 show wpListIn _ _ P ops _ (_::rest) a w
 refine gF rfl rfl fun K oA=>?_
 unfold Oper.y9
 rw[jt (f:=f) rfl hf.enters,Oper.uponIn_enter]
 refine⟨fun h=>by simp at h,(iF (hf.calls (fun b=>(δ.cx g κ).N b∨w.heap.size≤b) w _ (fun _ h=> .inr h) (by simp [gp.len]) (gp.NS r0 (fun _ _ h=> .inl h) (fun h=>by simp at h)))).mono ?_⟩
 rintro en w' ⟨v,rfl,hb,hv⟩
 have DB:∀b,v.ownBlock=some b→w.heap.size≤b∧b<w'.heap.size∧∃c e,w'.heap[b]? =some (.cells c e (0,0)):=by
  intro b NF
  obtain⟨xs,⟨_,gR⟩,_⟩:=hv.row
  rcases gR with ⟨rfl,_⟩|⟨b0,cap,cur,rfl,h1,h2,_⟩
  ·cases NF
  ·cases NF
   exact⟨h1,(Array.getElem?_eq_some_iff.1 h2).1,cur,e,h2⟩
 obtain⟨r1,G⟩:=r0.J2 hb v.ownBlock DB
 refine oA _ _ (hK _ _ _ (r1.eW (ft hd) (.own ?_)))
 obtain⟨xs,⟨wk,gR⟩,h1,hx⟩:=hv.row
 refine⟨by show(δ.fQ .row).ob _=_;rw[f_,if_pos rfl],hv.lim,hv.hk,fun b NF=>by show ig _ _ _ _=_;simp [ig,NF],xs,⟨wk,?_⟩,h1,fun i' j p hp=>?_⟩
 ·rcases gR with h|⟨b0,cap,cur,h2,h3,h4⟩
  ·exact .inl h
  ·exact .inr ⟨b0,cap,cur,h2,Nat.le_trans r0.hB h3,h4⟩
 ·obtain⟨u,hu,hr⟩:=hx i' j p hp
  refine⟨u,hu,hr.mono (Nat.le_refl _) fun b _ hN=>⟨?_,rfl⟩⟩
  have fV:∀i,(δ.fQ .row).live i→i=δ.nx∨δ.live i:=by
   intro i ⟨o',h⟩
   rw[f_] at h
   by_cases e:δ.nx=i
   ·exact .inl e.symm
   ·rw[if_neg e] at h;exact .inr ⟨o',h⟩
  have nG:∀i,δ.live i→δ.nx≠i:=fun i h e=>Nat.lt_irrefl _ (r0.nx _ (e▸h))
  refine⟨?_,fun i hi=>?_⟩
  ·rcases hN.1 with h|h
   ·exact h.1
   ·exact r0.Hb h
  ·show ig κ δ.nx v.ownBlock i≠some b
   rcases fV i hi with rfl|hi
   ·simp only[ig,if_true];exact hN.2
   ·simp only[ig,nG i hi,if_false]
    rcases hN.1 with h|h
    ·exact h.2 i hi
    ·intro e
     have:=(r0.lo i b hi e).2
     omega
def LI (P:Program) (rs:List ResultVar) (e:TypeId) (k:Nat) (fa:List (List PV)):Exit→DS→Prop
 |.normal,δ|.ret,δ=>(∃i,gm P δ rs (.own i e k fa))∨(fa=[]∧gm P δ rs (.pv (.lit (.slice none 0 0))))
 |_,_=>False
theorem MY.enter {f:FuncId} {fn:Func} {c:Code} {rs:List ResultVar} {n:Nat} {args:List AV} {e:TypeId} {k:Nat} {fa:List (List PV)} (hf:P.funcs[f]? =some fn) (hb:fn.body=some c) (uG:fn.results=rs.toArray) (hn:fn.ntmps=n) (Er:Nat.ble args.length n=true)
  (rh:Nat.ble n HS=true) (he:(fn.name== "runtime.NumGoroutine")=false) (h:∀g:eZ,g.ro=none→g.wt=none→AW P g c (LI P rs e k fa) (start n args)):MY P f args e k fa:=by
 refine⟨fun vals w=>by simp [callFunc,hf,hb];simpa using he,fun N w vals hN hs gp=>?_⟩
 have hle:args.length≤n:=by simpa using Er
 have OX:n≤HS:=by simpa using rh
 let g:eZ:={B:=w.heap.size,w0:=w,N0:=N,held:=fun _=>undef,ro:=none,mks:=[],wt:=none,fr:=fun _=>False,w1:=w}
 have nG:∀i,¬(start n args).live i:=fun i ⟨o,h⟩=>by cases h
 refine callsIn_wide.1 (callsIn_of_wp_marks (n:=0) hf hb trivial (wpIn_mono (h g rfl rfl ⟨fun _=>none,fun _ _=>False⟩ _ w ?_) ?_))
 ·exact
  {n:=by simp [hn,start];omega
   dfr:=⟨[],rfl,by simp [g],by simp [g]⟩
   env:=fun j=>by
    by_cases hj:j<args.length
    ·have h1:(start n args).get j=args[j]:=nS args 0 j _ (Nat.zero_le _) (by simp [hj])
     have h2:g.val {tmps:=vals++Array.replicate (fn.ntmps - vals.size) undef,defers:=[]} j=vals[j]'(by omega):=by
      unfold eZ.val
      rw[if_pos aJ]
      simp [Array.getD_eq_getD_getElem?,Array.getElem?_append,hs,hj]
     rw[h1,h2]
     exact(gp j _ _ (Array.getElem?_eq_getElem aJ) (List.getElem?_eq_getElem hj)).xF _ fun b _ h=>⟨⟨h,fun⟨_,h⟩=>h⟩,fun i hi=>absurd hi (nG i)⟩
    ·have h1:(start n args).get j=.any:=jC args 0 j (by omega)
     rw[h1];exact .any _
   obj:=fun i o h=>by cases h
   inj:=fun i j b h=>absurd h (nG i)
   lo:=fun i b h=>absurd h (nG i)
   nx:=fun i h=>absurd h (nG i)
   wt:=fun k hk=>by cases hk
   below:=Below.refl _ _
   hB:=Nat.le_refl _
   N0:=fun b h _=>hN b h
   fr:=⟨fun b hb=>hb.elim,fun i b hb=>hb.elim⟩
   kZ:=fun d hd=>by cases hd}
 ·rintro ex a' w' ⟨δ',κ',hq,r'⟩
  have fin:∀i,gm P δ' rs (.own i e k fa)→LeavesInM Fence.wide 0 P fn a'.tmps (fun en w'=>∃v,en=.returned v∧Below w.heap.size w w'∧MK N w' w.heap.size v e k fa) a'.defers .returning w':=by
   intro i h1
   exact leaves (g:=g) rfl rfl uG h1 r' (fun w2 r2 u hu=>by
    have ho:=hu.jv
    refine⟨u,rfl,r2.below,ho.lim,ho.hk,?_⟩
    obtain⟨xs,h3,h4,h5⟩:=ho.row
    refine⟨xs,h3,h4,fun i' j p hp=>?_⟩
    obtain⟨v,hv,hr⟩:=h5 i' j p hp
    refine⟨v,hv,hr.mono (Nat.le_refl _) fun b _ hN=>⟨⟨hN.1.1,fun hb=>?_⟩,rfl⟩⟩
    exact hN.2 i (DS.gK ho.live) (ho.x8 b hb))
  have finN:fa=[]→gm P δ' rs (.pv (.lit (.slice none 0 0)))→LeavesInM Fence.wide 0 P fn a'.tmps (fun en w'=>∃v,en=.returned v∧Below w.heap.size w w'∧MK N w' w.heap.size v e k fa) a'.defers .returning w':=by
   intro h0 h1
   exact leaves (g:=g) rfl rfl uG h1 r' (fun w2 r2 u hu=>by
    have hu:=hu.lit
    subst hu
    subst h0
    exact⟨_,rfl,r2.below,by simp,fun c hc=>by simp at hc,[],World.ownsRow_nil _ _ _ _,fun u hu=>by simp at hu,fun i' j p hp=>by simp [cellAt] at hp⟩)
  cases ex with
  |normal=>
   rcases hq with ⟨i,h1⟩|⟨h0,h1⟩
   ·exact fin i h1
   ·exact finN h0 h1
  |ret=>
   rcases hq with ⟨i,h1⟩|⟨h0,h1⟩
   ·exact fin i h1
   ·exact finN h0 h1
  |_=>exact hq.elim
theorem jo {rs:List ResultVar} {i:Nat} {e:TypeId} {k:Nat} {fa els':List (List PV)} (h:gm P δ rs (.own i e k els')) (he:els'=fa):LI P rs e k fa .ret δ:=.inl ⟨i,he▸h⟩
theorem nX {rs:List ResultVar} {e:TypeId} {k:Nat} {fa:List (List PV)} (h:gm P δ rs (.pv (.lit (.slice none 0 0)))) (he:fa=[]):LI P rs e k fa .ret δ:=.inr ⟨he,h⟩
theorem WV.Ml {δ δ':DS} {k:Nat} {fa:List (List PV)} (h:fa=[]):WV δ δ' (.pv (.lit (.slice none 0 0))) (.pv (.slice k fa)):=by rw[h];exact .nilpv k
end Go.Ab
