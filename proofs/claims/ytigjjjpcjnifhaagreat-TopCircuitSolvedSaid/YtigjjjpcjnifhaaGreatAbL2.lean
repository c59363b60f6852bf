/- Laws in the forms that the walk's list of steps tries. -/
import Derived.Test.YtigjjjpcjnifhaaGreatAbL1
import Derived.OrdersIn
import Derived.MapKept
import Derived.Maps.RangeRun
import Derived.ProofKit
import Derived.OpenShut
import Derived.ChangeOld
import Derived.SizedLaws
import Derived.JoinedCond
import Derived.Deep.CondSized
import Derived.ChangeKeysEq
import Derived.Laws.StructEq
set_option linter.unusedSimpArgs false
set_option linter.unusedVariables false
open Nat renaming blt→aY,beq→aL,ble→bz,zero_le→bm,le_refl→aP,sub_zero→cg,add_sub_cancel→cm,eq_of_beq_eq_true→aM,lt_of_lt_of_le→aK,lt_or_ge→cv,mul_le_mul_right→bS,mul_one→cK
open List renaming map_cons→bB,map_nil→b8,getElem?_eq_some_iff→aW,cons_append→bu,mem_cons→bw,getElem?_eq_getElem→a8,getElem?_append_left→aT,getElem?_append_right→aV,nodup_append→cp,mem_append→bX,mem_singleton→cq,zip_cons_cons→cr,foldl_cons→ct,all_eq_true→bD,getElem?_map→a7,mem_of_getElem?→aU,map_toArray→bp,eq_nil_of_length_eq_zero→bk,map_map→cB,mem_map→bx,set_cons_succ→cC,drop_zero→cD,toList_toArray→cE,map_set→cF,getElem?_set→bH,mem_or_eq_of_mem_set→cG,getElem?_eq_none→cH,getElem?_of_mem→bA,exists_cons_of_ne_nil→cI,take_of_length_le→cJ,replicate→bZ,length_replicate→cL,length_set→cM
open Array renaming getElem?_eq_getElem→aN,replicate→ca,size_append→cb,size_replicate→cd,getD_eq_getD_getElem?→aR,getElem?_append_left→cj,getElem?_append_right→ck,getElem?_setIfInBounds→aS,getElem?_eq_none→cw,getElem?_push→cz,getElem?_eq_some_iff→aO,getElem?_modify→cA,getElem?_toList→bC,range→bM
open Int renaming toNat_of_nonneg→b9
open Bool renaming and_eq_true→aZ,false_eq_true→cu,not_eq_true'→cy
open Option renaming map_eq_some_iff→bh,map_some→br,bind_some→bI
namespace Go.Ab
open Go Go.RowKit
variable {q:Md} {P:Program} {g:eZ} {δ:DS} {κ:Kp} {a:Act} {w:World}
variable {ops:Array Oper} {rest:List Oper} {Q:Exit→DS→Prop} {dst:Option Nat} {ty:TypeId} {pos:String} {af:Array Edge}
theorem a_.R9 {op:Op} {gj d:Nat} {p:Prop} {_:Decidable p} {o':Oper} (ho:ops[gj]? =some o') (hd:o'.dst=some d) (wm:aY d HS=true) (w_:aY d δ.n=true) (hb:δ.get d=fq (decide p)) (wG:fT δ.n dst=true)
  (hy:p→a_ q P g ops (⟨dst,op,ty,pos,af,none⟩::rest) Q δ) (hn:¬p→a_ q P g ops rest Q (δ.eW dst (.pv (.lit undef)))):a_ q P g ops (⟨dst,op,ty,pos,af,some (gj,true)⟩::rest) Q δ:=
 a_.guard ho hd wm w_ hb wG (fun h=>hy (of_decide_eq_true h)) (fun h=>hn (of_decide_eq_false h))
theorem a_.tD {op:Op} {gj d:Nat} {p:Prop} {_:Decidable p} {o':Oper} (ho:ops[gj]? =some o') (hd:o'.dst=some d) (wm:aY d HS=true) (w_:aY d δ.n=true) (hb:δ.get d=fq (decide p)) (wG:fT δ.n dst=true)
  (hy:¬p→a_ q P g ops (⟨dst,op,ty,pos,af,none⟩::rest) Q δ) (hn:p→a_ q P g ops rest Q (δ.eW dst (.pv (.lit undef)))):a_ q P g ops (⟨dst,op,ty,pos,af,some (gj,false)⟩::rest) Q δ:=
 a_.guard ho hd wm w_ hb wG (fun h=>hy (of_decide_eq_false h)) (fun h=>hn (of_decide_eq_true h))
theorem a_.Ks {x:Operand} {t:TypeId} {p:Prop} {_:Decidable p} (hx:δ.ev x=fq (decide p)) (ho:fj x=true) (hd:fT δ.n dst=true) (hK:a_ q P g ops rest Q (δ.eW dst (fq (decide (¬p))))):
  a_ q P g ops (⟨dst,.unOp .not t x,ty,pos,af,none⟩::rest) Q δ:=a_.not hx ho hd (by
                                                  have:(!decide p)=decide (¬p):=by simp
                                                  rw[this];exact hK)
theorem a_.Vu {x y z:Operand} {p:Prop} {_:Decidable p} {v:AV} (hx:δ.ev x=fq (decide p)) (hy:δ.ev y=v) (hp:p) (ho:fj x=true) (kS:fj y=true) (o_:fj z=true) (hd:fT δ.n dst=true)
  (hK:a_ q P g ops rest Q (δ.eW dst v)):a_ q P g ops (⟨dst,.pick x y z,ty,pos,af,none⟩::rest) Q δ:=
 a_.pick hx ho kS o_ (fun _=>hy) (fun h=>absurd hp (of_decide_eq_false h)) hd hK
theorem a_.VA {x y z:Operand} {p:Prop} {_:Decidable p} {v:AV} (hx:δ.ev x=fq (decide p)) (hz:δ.ev z=v) (hp:¬p) (ho:fj x=true) (kS:fj y=true) (o_:fj z=true) (hd:fT δ.n dst=true)
  (hK:a_ q P g ops rest Q (δ.eW dst v)):a_ q P g ops (⟨dst,.pick x y z,ty,pos,af,none⟩::rest) Q δ:=
 a_.pick hx ho kS o_ (fun h=>absurd (of_decide_eq_true h) hp) (fun _=>hz) hd hK
theorem AW.oQ {c:Operand} {x y:Code} (ho:fj c=true) (hc:δ.ev c=fq true) (h1:AW P g x Q δ):AW P g (.cond c x y) Q δ:=AW.J4 rfl ho hc h1
theorem AW.j8 {c:Operand} {x y:Code} (ho:fj c=true) (hc:δ.ev c=fq false) (h1:AW P g y Q δ):AW P g (.cond c x y) Q δ:=AW.Lc rfl ho hc h1
theorem a_.D4 {op:Op} {gj d:Nat} {want b:Bool} {o':Oper} (ho:ops[gj]? =some o') (hd:o'.dst=some d) (wm:aY d HS=true) (w_:aY d δ.n=true) (hb:δ.get d=fq b) (CF:b=want) (wG:fT δ.n dst=true)
  (hy:a_ q P g ops (⟨dst,op,ty,pos,af,none⟩::rest) Q δ):a_ q P g ops (⟨dst,op,ty,pos,af,some (gj,want)⟩::rest) Q δ:=
 a_.guard ho hd wm w_ hb wG (fun _=>hy) (fun h=>by subst CF;cases b<;>simp at h)
theorem a_.gE {op:Op} {gj d:Nat} {want b:Bool} {o':Oper} (ho:ops[gj]? =some o') (hd:o'.dst=some d) (wm:aY d HS=true) (w_:aY d δ.n=true) (hb:δ.get d=fq b) (CF:b=!want) (wG:fT δ.n dst=true)
  (hn:a_ q P g ops rest Q (δ.eW dst (.pv (.lit undef)))):a_ q P g ops (⟨dst,op,ty,pos,af,some (gj,want)⟩::rest) Q δ:=
 a_.guard ho hd wm w_ hb wG (fun h=>by subst h;cases b<;>simp at CF) (fun _=>hn)
end Go.Ab
namespace Go.Ab
variable {P:Program} {g:eZ} {δ:DS} {Q:Exit→DS→Prop}
theorem AW.WR {c:Operand} {x y:Code} {p:Prop} {_:Decidable p} (ho:fj c=true) (hc:δ.ev c=fq (decide p)) (hp:p) (h1:AW P g x Q δ):AW P g (.cond c x y) Q δ:=AW.J4 (decide_eq_true hp) ho hc h1
theorem AW.WH {c:Operand} {x y:Code} {p:Prop} {_:Decidable p} (ho:fj c=true) (hc:δ.ev c=fq (decide p)) (hp:¬p) (h1:AW P g y Q δ):AW P g (.cond c x y) Q δ:=AW.Lc (decide_eq_false hp) ho hc h1
end Go.Ab
namespace Go.Ab
section
variable {q:Md} {P:Program} {g:eZ} {δ:DS} {ops:Array Oper} {rest:List Oper} {Q:Exit→DS→Prop} {dst:Option Nat} {ty:TypeId} {pos:String} {af:Array Edge}
variable {op:Op} {gj d:Nat} {p:Prop} {inst:Decidable p} {o':Oper} (ho:ops[gj]? =some o') (hd:o'.dst=some d) (hb:δ.get d=fq (@decide p inst)) (wm:aY d HS=true) (w_:aY d δ.n=true) (wG:fT δ.n dst=true)
include ho hd hb wm w_ wG
theorem a_.Pk (hp:p) (hy:a_ q P g ops (⟨dst,op,ty,pos,af,none⟩::rest) Q δ):a_ q P g ops (⟨dst,op,ty,pos,af,some (gj,true)⟩::rest) Q δ:=
 a_.guard ho hd wm w_ hb wG (fun _=>hy) (fun h=>absurd hp (of_decide_eq_false h))
theorem a_.mG (hp:¬p) (hn:a_ q P g ops rest Q (δ.eW dst (.pv (.lit undef)))):a_ q P g ops (⟨dst,op,ty,pos,af,some (gj,true)⟩::rest) Q δ:=
 a_.guard ho hd wm w_ hb wG (fun h=>absurd (of_decide_eq_true h) hp) (fun _=>hn)
theorem a_.NZ (hp:¬p) (hy:a_ q P g ops (⟨dst,op,ty,pos,af,none⟩::rest) Q δ):a_ q P g ops (⟨dst,op,ty,pos,af,some (gj,false)⟩::rest) Q δ:=
 a_.guard ho hd wm w_ hb wG (fun _=>hy) (fun h=>absurd (of_decide_eq_true h) hp)
theorem a_.kp (hp:p) (hn:a_ q P g ops rest Q (δ.eW dst (.pv (.lit undef)))):a_ q P g ops (⟨dst,op,ty,pos,af,some (gj,false)⟩::rest) Q δ:=
 a_.guard ho hd wm w_ hb wG (fun h=>absurd hp (of_decide_eq_false h)) (fun _=>hn)
end
end Go.Ab
namespace Go.Ab
section
variable {q:Md} {P:Program} {g:eZ} {δ:DS} {ops:Array Oper} {rest:List Oper} {Q:Exit→DS→Prop} {dst:Option Nat} {ty:TypeId} {pos:String} {af:Array Edge} {x:Operand}
theorem a_.iD {p:PV} (hx:δ.ev x=.pv p) (ho:fj x=true) (hd:fT δ.n dst=true) (hK:a_ q P g ops rest Q (δ.eW dst (.pv p))):a_ q P g ops (⟨dst,.move x,ty,pos,af,none⟩::rest) Q δ:=a_.move hx ho hd hK
theorem a_.HR {p:PV} (hx:δ.ev x=.pv p) (ho:fj x=true) (hd:fT δ.n dst=true) (hK:a_ q P g ops rest Q (δ.eW dst (.pv p))):a_ q P g ops (⟨dst,.assign x,ty,pos,af,none⟩::rest) Q δ:=a_.assign hx ho hd hK
theorem a_.fX {i e k fa} (hx:δ.ev x=.own i e k fa) (ho:fj x=true) (hd:fT δ.n dst=true) (hK:a_ q P g ops rest Q (δ.eW dst (.own i e k fa))):a_ q P g ops (⟨dst,.move x,ty,pos,af,none⟩::rest) Q δ:=a_.move hx ho hd hK
theorem a_.n6 {i e k fa} (hx:δ.ev x=.own i e k fa) (ho:fj x=true) (hd:fT δ.n dst=true) (hK:a_ q P g ops rest Q (δ.eW dst (.own i e k fa))):a_ q P g ops (⟨dst,.assign x,ty,pos,af,none⟩::rest) Q δ:=a_.assign hx ho hd hK
theorem a_.fN {i o} (hx:δ.ev x=.ptr i o) (ho:fj x=true) (hd:fT δ.n dst=true) (hK:a_ q P g ops rest Q (δ.eW dst (.ptr i o))):a_ q P g ops (⟨dst,.move x,ty,pos,af,none⟩::rest) Q δ:=a_.move hx ho hd hK
theorem a_.p7 {i o} (hx:δ.ev x=.ptr i o) (ho:fj x=true) (hd:fT δ.n dst=true) (hK:a_ q P g ops rest Q (δ.eW dst (.ptr i o))):a_ q P g ops (⟨dst,.assign x,ty,pos,af,none⟩::rest) Q δ:=a_.assign hx ho hd hK
theorem a_.n5 {l} (hx:δ.ev x=.gY l) (ho:fj x=true) (hd:fT δ.n dst=true) (hK:a_ q P g ops rest Q (δ.eW dst (.gY l))):a_ q P g ops (⟨dst,.move x,ty,pos,af,none⟩::rest) Q δ:=a_.move hx ho hd hK
end
end Go.Ab
namespace Go.Ab
section
variable {q:Md} {P:Program} {g:eZ} {δ:DS} {ops:Array Oper} {rest:List Oper} {Q:Exit→DS→Prop} {dst:Option Nat} {ty:TypeId} {pos:String} {af:Array Edge}
theorem a_.jL {x y z:Operand} {v:PV} (hx:δ.ev x=fq true) (hy:δ.ev y=.pv v) (ho:fj x=true) (kS:fj y=true) (o_:fj z=true) (hd:fT δ.n dst=true)
  (hK:a_ q P g ops rest Q (δ.eW dst (.pv v))):a_ q P g ops (⟨dst,.pick x y z,ty,pos,af,none⟩::rest) Q δ:=a_.pick hx ho kS o_ (fun _=>hy) (fun h=>by cases h) hd hK
theorem a_.kr {x y z:Operand} {v:PV} (hx:δ.ev x=fq false) (hz:δ.ev z=.pv v) (ho:fj x=true) (kS:fj y=true) (o_:fj z=true) (hd:fT δ.n dst=true)
  (hK:a_ q P g ops rest Q (δ.eW dst (.pv v))):a_ q P g ops (⟨dst,.pick x y z,ty,pos,af,none⟩::rest) Q δ:=a_.pick hx ho kS o_ (fun h=>by cases h) (fun _=>hz) hd hK
theorem a_.L_ {x y z:Operand} {p:Prop} {_:Decidable p} {v:PV} (hx:δ.ev x=fq (decide p)) (hy:δ.ev y=.pv v) (hp:p) (ho:fj x=true) (kS:fj y=true) (o_:fj z=true) (hd:fT δ.n dst=true)
  (hK:a_ q P g ops rest Q (δ.eW dst (.pv v))):a_ q P g ops (⟨dst,.pick x y z,ty,pos,af,none⟩::rest) Q δ:=a_.Vu hx hy hp ho kS o_ hd hK
theorem a_.J6 {x y z:Operand} {p:Prop} {_:Decidable p} {v:PV} (hx:δ.ev x=fq (decide p)) (hz:δ.ev z=.pv v) (hp:¬p) (ho:fj x=true) (kS:fj y=true) (o_:fj z=true) (hd:fT δ.n dst=true)
  (hK:a_ q P g ops rest Q (δ.eW dst (.pv v))):a_ q P g ops (⟨dst,.pick x y z,ty,pos,af,none⟩::rest) Q δ:=a_.VA hx hz hp ho kS o_ hd hK
end
end Go.Ab
namespace Go.Ab
section
variable {P:Program} {g:eZ} {δ:DS} {ops:Array Oper} {rest:List Oper} {Q:Exit→DS→Prop} {dst:Option Nat} {ty:TypeId} {pos:String} {af:Array Edge}
theorem iV.TE {gd:Option (Tmp×Bool)} {t e:TypeId} {z:Value} (ht:P.underlying t=some (.slice e)) (hi:(P.info? e).map (fun i=>(i.size,i.zero))=some (1,some z)) (hz:z.cells.toList.all (·.oneCell')=true) (mA:aL z.cells.size 1=true) (hd:fT δ.n dst=true):iV P g ⟨dst,.buildSlice t 0 [].toArray,ty,pos,af,gd⟩ δ ((δ.fQ .row).eW dst (.own δ.nx e 1 [])):=by
 have hf:jT (fun i=>some (i*1,1)) (kl z (0*1)) (([]:List (Nat×Operand)).map fun p=>(p.1,δ.ev p.2))=some []:=by
  simp [jT,oR,AV.cellsOf,AV.ov,kl,bB,b8]<;>rfl
 exact iV.buildSlice (len:=0) (k:=1) (parts:=[]) (cells:=[]) ht hi mA rfl rfl hz (by simp []) hf (by simp [AV.B6]) hd
theorem a_.TE {t e:TypeId} {z:Value} (ht:P.underlying t=some (.slice e)) (hi:(P.info? e).map (fun i=>(i.size,i.zero))=some (1,some z)) (hz:z.cells.toList.all (·.oneCell')=true) (mA:aL z.cells.size 1=true) (hd:fT δ.n dst=true) (hK:a_ .plain P g ops rest Q ((δ.fQ .row).eW dst (.own δ.nx e 1 []))):a_ .plain P g ops (⟨dst,.buildSlice t 0 [].toArray,ty,pos,af,none⟩::rest) Q δ:=a_.s6 rfl rfl (iV.TE ht hi hz mA hd) hK
theorem iV.oE {gd:Option (Tmp×Bool)} {t e:TypeId} {z:Value} {x0:Operand} {p0:PV} (ht:P.underlying t=some (.slice e)) (h0:δ.ev x0=.pv p0) (hi:(P.info? e).map (fun i=>(i.size,i.zero))=some (1,some z)) (hz:z.cells.toList.all (·.oneCell')=true) (mA:aL z.cells.size 1=true) (k0:AV.one (.pv p0)=true) (o0:fj x0=true) (hd:fT δ.n dst=true):iV P g ⟨dst,.buildSlice t 1 [(0,x0)].toArray,ty,pos,af,gd⟩ δ ((δ.fQ .row).eW dst (.own δ.nx e 1 [[p0]])):=by
 have hf:jT (fun i=>some (i*1,1)) (kl z (1*1)) (([(0,x0)]:List (Nat×Operand)).map fun p=>(p.1,δ.ev p.2))=some [.pv p0]:=by
  simp [jT,oR,AV.cellsOf,AV.ov,kl,h0,k0,bB,b8]<;>rfl
 exact iV.buildSlice (len:=1) (k:=1) (parts:=[(0,x0)]) (cells:=[.pv p0]) ht hi mA rfl rfl hz (by simp [o0]) hf (by simp [AV.B6]) hd
theorem a_.oE {t e:TypeId} {z:Value} {x0:Operand} {p0:PV} (ht:P.underlying t=some (.slice e)) (h0:δ.ev x0=.pv p0) (hi:(P.info? e).map (fun i=>(i.size,i.zero))=some (1,some z)) (hz:z.cells.toList.all (·.oneCell')=true) (mA:aL z.cells.size 1=true) (k0:AV.one (.pv p0)=true) (o0:fj x0=true) (hd:fT δ.n dst=true) (hK:a_ .plain P g ops rest Q ((δ.fQ .row).eW dst (.own δ.nx e 1 [[p0]]))):a_ .plain P g ops (⟨dst,.buildSlice t 1 [(0,x0)].toArray,ty,pos,af,none⟩::rest) Q δ:=a_.s6 rfl rfl (iV.oE ht h0 hi hz mA k0 o0 hd) hK
theorem iV.ZM {gd:Option (Tmp×Bool)} {t e:TypeId} {z:Value} {x0 x1:Operand} {p0 p1:PV} (ht:P.underlying t=some (.slice e)) (h0:δ.ev x0=.pv p0) (h1:δ.ev x1=.pv p1) (hi:(P.info? e).map (fun i=>(i.size,i.zero))=some (1,some z)) (hz:z.cells.toList.all (·.oneCell')=true) (mA:aL z.cells.size 1=true) (k0:AV.one (.pv p0)=true) (k1:AV.one (.pv p1)=true) (o0:fj x0=true) (o1:fj x1=true) (hd:fT δ.n dst=true):iV P g ⟨dst,.buildSlice t 2 [(0,x0),(1,x1)].toArray,ty,pos,af,gd⟩ δ ((δ.fQ .row).eW dst (.own δ.nx e 1 [[p0],[p1]])):=by
 have hf:jT (fun i=>some (i*1,1)) (kl z (2*1)) (([(0,x0),(1,x1)]:List (Nat×Operand)).map fun p=>(p.1,δ.ev p.2))=some [.pv p0,.pv p1]:=by
  simp [jT,oR,AV.cellsOf,AV.ov,kl,h0,h1,k0,k1,bB,b8]<;>rfl
 exact iV.buildSlice (len:=2) (k:=1) (parts:=[(0,x0),(1,x1)]) (cells:=[.pv p0,.pv p1]) ht hi mA rfl rfl hz (by simp [o0,o1]) hf (by simp [AV.B6]) hd
theorem a_.ZM {t e:TypeId} {z:Value} {x0 x1:Operand} {p0 p1:PV} (ht:P.underlying t=some (.slice e)) (h0:δ.ev x0=.pv p0) (h1:δ.ev x1=.pv p1) (hi:(P.info? e).map (fun i=>(i.size,i.zero))=some (1,some z)) (hz:z.cells.toList.all (·.oneCell')=true) (mA:aL z.cells.size 1=true) (k0:AV.one (.pv p0)=true) (k1:AV.one (.pv p1)=true) (o0:fj x0=true) (o1:fj x1=true) (hd:fT δ.n dst=true) (hK:a_ .plain P g ops rest Q ((δ.fQ .row).eW dst (.own δ.nx e 1 [[p0],[p1]]))):a_ .plain P g ops (⟨dst,.buildSlice t 2 [(0,x0),(1,x1)].toArray,ty,pos,af,none⟩::rest) Q δ:=a_.s6 rfl rfl (iV.ZM ht h0 h1 hi hz mA k0 k1 o0 o1 hd) hK
theorem iV.W5 {gd:Option (Tmp×Bool)} {t e:TypeId} {z:Value} {x0 x1 x2:Operand} {p0 p1 p2:PV} (ht:P.underlying t=some (.slice e)) (h0:δ.ev x0=.pv p0) (h1:δ.ev x1=.pv p1) (h2:δ.ev x2=.pv p2) (hi:(P.info? e).map (fun i=>(i.size,i.zero))=some (1,some z)) (hz:z.cells.toList.all (·.oneCell')=true) (mA:aL z.cells.size 1=true) (k0:AV.one (.pv p0)=true) (k1:AV.one (.pv p1)=true) (k2:AV.one (.pv p2)=true) (o0:fj x0=true) (o1:fj x1=true) (o2:fj x2=true) (hd:fT δ.n dst=true):iV P g ⟨dst,.buildSlice t 3 [(0,x0),(1,x1),(2,x2)].toArray,ty,pos,af,gd⟩ δ ((δ.fQ .row).eW dst (.own δ.nx e 1 [[p0],[p1],[p2]])):=by
 have hf:jT (fun i=>some (i*1,1)) (kl z (3*1)) (([(0,x0),(1,x1),(2,x2)]:List (Nat×Operand)).map fun p=>(p.1,δ.ev p.2))=some [.pv p0,.pv p1,.pv p2]:=by
  simp [jT,oR,AV.cellsOf,AV.ov,kl,h0,h1,h2,k0,k1,k2,bB,b8]<;>rfl
 exact iV.buildSlice (len:=3) (k:=1) (parts:=[(0,x0),(1,x1),(2,x2)]) (cells:=[.pv p0,.pv p1,.pv p2]) ht hi mA rfl rfl hz (by simp [o0,o1,o2]) hf (by simp [AV.B6]) hd
theorem a_.W5 {t e:TypeId} {z:Value} {x0 x1 x2:Operand} {p0 p1 p2:PV} (ht:P.underlying t=some (.slice e)) (h0:δ.ev x0=.pv p0) (h1:δ.ev x1=.pv p1) (h2:δ.ev x2=.pv p2) (hi:(P.info? e).map (fun i=>(i.size,i.zero))=some (1,some z)) (hz:z.cells.toList.all (·.oneCell')=true) (mA:aL z.cells.size 1=true) (k0:AV.one (.pv p0)=true) (k1:AV.one (.pv p1)=true) (k2:AV.one (.pv p2)=true) (o0:fj x0=true) (o1:fj x1=true) (o2:fj x2=true) (hd:fT δ.n dst=true) (hK:a_ .plain P g ops rest Q ((δ.fQ .row).eW dst (.own δ.nx e 1 [[p0],[p1],[p2]]))):a_ .plain P g ops (⟨dst,.buildSlice t 3 [(0,x0),(1,x1),(2,x2)].toArray,ty,pos,af,none⟩::rest) Q δ:=a_.s6 rfl rfl (iV.W5 ht h0 h1 h2 hi hz mA k0 k1 k2 o0 o1 o2 hd) hK
theorem iV.bs4 {gd:Option (Tmp×Bool)} {t e:TypeId} {z:Value} {x0 x1 x2 x3:Operand} {p0 p1 p2 p3:PV} (ht:P.underlying t=some (.slice e)) (h0:δ.ev x0=.pv p0) (h1:δ.ev x1=.pv p1) (h2:δ.ev x2=.pv p2) (h3:δ.ev x3=.pv p3) (hi:(P.info? e).map (fun i=>(i.size,i.zero))=some (1,some z)) (hz:z.cells.toList.all (·.oneCell')=true) (mA:aL z.cells.size 1=true) (k0:AV.one (.pv p0)=true) (k1:AV.one (.pv p1)=true) (k2:AV.one (.pv p2)=true) (k3:AV.one (.pv p3)=true) (o0:fj x0=true) (o1:fj x1=true) (o2:fj x2=true) (o3:fj x3=true) (hd:fT δ.n dst=true):iV P g ⟨dst,.buildSlice t 4 [(0,x0),(1,x1),(2,x2),(3,x3)].toArray,ty,pos,af,gd⟩ δ ((δ.fQ .row).eW dst (.own δ.nx e 1 [[p0],[p1],[p2],[p3]])):=by
 have hf:jT (fun i=>some (i*1,1)) (kl z (4*1)) (([(0,x0),(1,x1),(2,x2),(3,x3)]:List (Nat×Operand)).map fun p=>(p.1,δ.ev p.2))=some [.pv p0,.pv p1,.pv p2,.pv p3]:=by
  simp [jT,oR,AV.cellsOf,AV.ov,kl,h0,h1,h2,h3,k0,k1,k2,k3,bB,b8]<;>rfl
 exact iV.buildSlice (len:=4) (k:=1) (parts:=[(0,x0),(1,x1),(2,x2),(3,x3)]) (cells:=[.pv p0,.pv p1,.pv p2,.pv p3]) ht hi mA rfl rfl hz (by simp [o0,o1,o2,o3]) hf (by simp [AV.B6]) hd
theorem a_.bs4 {t e:TypeId} {z:Value} {x0 x1 x2 x3:Operand} {p0 p1 p2 p3:PV} (ht:P.underlying t=some (.slice e)) (h0:δ.ev x0=.pv p0) (h1:δ.ev x1=.pv p1) (h2:δ.ev x2=.pv p2) (h3:δ.ev x3=.pv p3) (hi:(P.info? e).map (fun i=>(i.size,i.zero))=some (1,some z)) (hz:z.cells.toList.all (·.oneCell')=true) (mA:aL z.cells.size 1=true) (k0:AV.one (.pv p0)=true) (k1:AV.one (.pv p1)=true) (k2:AV.one (.pv p2)=true) (k3:AV.one (.pv p3)=true) (o0:fj x0=true) (o1:fj x1=true) (o2:fj x2=true) (o3:fj x3=true) (hd:fT δ.n dst=true) (hK:a_ .plain P g ops rest Q ((δ.fQ .row).eW dst (.own δ.nx e 1 [[p0],[p1],[p2],[p3]]))):a_ .plain P g ops (⟨dst,.buildSlice t 4 [(0,x0),(1,x1),(2,x2),(3,x3)].toArray,ty,pos,af,none⟩::rest) Q δ:=a_.s6 rfl rfl (iV.bs4 ht h0 h1 h2 h3 hi hz mA k0 k1 k2 k3 o0 o1 o2 o3 hd) hK
theorem vw {n bytes:Nat} (h:bz bytes 64=true) (hl:n≤1000000000000):n*bytes≤140737488355328:=by
 have h':bytes≤64:=by simpa using h
 have:=Nat.mul_le_mul hl h'
 omega
theorem iV.fD {gd:Option (Tmp×Bool)} {s x:Operand} {t e:TypeId} {i k bytes:Nat} {z:Value} {fa news:List (List PV)} (hs:δ.ev s=.own i e k fa) (hx:qy δ x k news) (hr:δ.ob i=some .row) (ht:P.underlying t=some (.slice e))
  (hi:(P.info? e).map (fun i=>(i.size,i.zero,i.bytes))=some (k,some z,bytes)) (Ft:bz bytes 64=true) (mA:aL z.cells.size k=true) (og:aY 0 k=true) (ho:fj s=true) (ga:fj x=true) (hd:fT δ.n dst=true)
  (hl:fa.length+news.length≤1000000000000):iV P g ⟨dst,.call {callee:=.builtin .append,args:= #[s,x],argTypes:= #[t,t]},ty,pos,af,gd⟩ δ ((δ.gU (AV.kill i)).eW dst (.own i e k (fa++news))):=
 iV.append hs hx hr ht hi mA og ho ga hd (vw Ft hl) (by omega)
theorem a_.fD {s x:Operand} {t e:TypeId} {i k bytes:Nat} {z:Value} {fa news:List (List PV)} (hs:δ.ev s=.own i e k fa) (hx:qy δ x k news) (hr:δ.ob i=some .row) (ht:P.underlying t=some (.slice e))
  (hi:(P.info? e).map (fun i=>(i.size,i.zero,i.bytes))=some (k,some z,bytes)) (Ft:bz bytes 64=true) (mA:aL z.cells.size k=true) (og:aY 0 k=true) (ho:fj s=true) (ga:fj x=true) (hd:fT δ.n dst=true)
  (hl:fa.length+news.length≤1000000000000) (hK:a_ .plain P g ops rest Q ((δ.gU (AV.kill i)).eW dst (.own i e k (fa++news)))):
  a_ .plain P g ops (⟨dst,.call {callee:=.builtin .append,args:= #[s,x],argTypes:= #[t,t]},ty,pos,af,none⟩::rest) Q δ:=a_.s6 rfl rfl (iV.fD hs hx hr ht hi Ft mA og ho ga hd hl) hK
theorem iV.oN {gd:Option (Tmp×Bool)} {s x:Operand} {t e:TypeId} {k bytes:Nat} {z:Value} {news:List (List PV)} (hs:δ.ev s=.pv (.lit (.slice none 0 0))) (hx:qy δ x k news) (ht:P.underlying t=some (.slice e))
  (hi:(P.info? e).map (fun i=>(i.size,i.zero,i.bytes))=some (k,some z,bytes)) (Ft:bz bytes 64=true) (mA:aL z.cells.size k=true) (og:aY 0 k=true) (ho:fj s=true) (ga:fj x=true) (hd:fT δ.n dst=true)
  (hl:news.length≤1000000000000):iV P g ⟨dst,.call {callee:=.builtin .append,args:= #[s,x],argTypes:= #[t,t]},ty,pos,af,gd⟩ δ ((δ.fQ .row).eW dst (.own δ.nx e k news)):=
 iV.append_nil hs hx ht hi mA og ho ga hd (vw Ft hl) (by omega)
theorem a_.oN {s x:Operand} {t e:TypeId} {k bytes:Nat} {z:Value} {news:List (List PV)} (hs:δ.ev s=.pv (.lit (.slice none 0 0))) (hx:qy δ x k news) (ht:P.underlying t=some (.slice e))
  (hi:(P.info? e).map (fun i=>(i.size,i.zero,i.bytes))=some (k,some z,bytes)) (Ft:bz bytes 64=true) (mA:aL z.cells.size k=true) (og:aY 0 k=true) (ho:fj s=true) (ga:fj x=true) (hd:fT δ.n dst=true)
  (hl:news.length≤1000000000000) (hK:a_ .plain P g ops rest Q ((δ.fQ .row).eW dst (.own δ.nx e k news))):
  a_ .plain P g ops (⟨dst,.call {callee:=.builtin .append,args:= #[s,x],argTypes:= #[t,t]},ty,pos,af,none⟩::rest) Q δ:=a_.s6 rfl rfl (iV.oN hs hx ht hi Ft mA og ho ga hd hl) hK
end
end Go.Ab
namespace Go.Ab
theorem AW.uB {P:Program} {g:eZ} {δ:DS} {Q:Exit→DS→Prop} {α:Type} {c:Code} (j i:Nat) {k:Nat} {cs:List AV} {f:α→List PV} {l:List α} (h:δ.get j=.agg cs) (hc:cs[i]? =some (.pv (.slice k (l.map f)))) (hK:l.length≤140737488355328→AW P g c Q δ):AW P g c Q δ:=
 AW.fact (fun κ a w r=>by
  have h1:=r.env j
  rw[h] at h1
  generalize hu:g.val a j=u at h1
  cases h1 with
  | @agg vs _ hs hv=>
   have fy:i<vs.size:=by rw[hs];exact(aW.1 hc).1
   obtain⟨_,_,_,h2⟩:=(hv i _ _ (aN fy) hc).lV.vJ
   simpa using h2) hK
end Go.Ab
namespace Go.Ab
theorem a_.ID {q:Md} {P:Program} {g:eZ} {δ:DS} {ops:Array Oper} {rest:List Oper} {Q:Exit→DS→Prop} {dst:Option Nat} {ty:TypeId} {pos:String} {af:Array Edge} {x:Operand} {t:TypeId} {i:Nat} {cells:List AV} (hx:δ.ev x=.ptr i 0) (hb:δ.ob i=some (.box cells)) (ht:z_ P t cells.length=true) (ho:fj x=true) (hd:fT δ.n dst=true)
  (hK:a_ q P g ops rest Q (δ.eW dst (.agg cells))):a_ q P g ops (⟨dst,.load t x,ty,pos,af,none⟩::rest) Q δ:=
 a_.Hw (n:=cells.length) hx hb ht (by simp) ho hd (by simpa using hK)
end Go.Ab
namespace Go.Ab
section
variable {q:Md} {P:Program} {g:eZ} {δ:DS} {ops:Array Oper} {rest:List Oper} {Q:Exit→DS→Prop} {dst:Option Nat} {ty:TypeId} {pos:String} {af:Array Edge}
end
end Go.Ab
namespace Go.Ab
section
variable {q:Md} {P:Program} {g:eZ} {δ:DS} {ops:Array Oper} {rest:List Oper} {Q:Exit→DS→Prop} {dst:Option Nat} {ty:TypeId} {pos:String} {af:Array Edge}
theorem a_.ER {α:Type} {x y:Operand} {t e:TypeId} {k:Nat} {m:Int} {f:α→List PV} {l:List α} (hx:δ.ev x=.pv (.slice k (l.map f))) (hy:δ.ev y=eU m)
  (ht:P.underlying t=some (.slice e)) (hk:(P.info? e).map (·.size)=some k) (ho:fj x=true) (ga:fj y=true) (hd:fT δ.n dst=true) (h0:0≤m) (hn:m.toNat<l.length)
  (hK:a_ q P g ops rest Q (δ.eW dst (.gf (f l[m.toNat])))):a_ q P g ops (⟨dst,.indexAddr t x y,ty,pos,af,none⟩::rest) Q δ:=
 a_.A4 (n:=m.toNat) hx (by rw[hy,b9 h0]) hn ht hk ho ga hd hK
theorem a_.Kj {α:Type} {t e:TypeId} {x y:Operand} {k n:Nat} {f:α→List PV} {l:List α} (hx:δ.ev x=.pv (.slice k (l.map f))) (hy:δ.ev y=eU (n:Nat)) (ht:P.underlying t=some (.slice e)) (hk:(P.info? e).map (·.size)=some k)
  (ho:fj x=true) (ga:fj y=true) (hd:fT δ.n dst=true) (hn:n≤l.length) (hK:a_ q P g ops rest Q (δ.eW dst (.pv (.slice k ((l.take n).map f))))):a_ q P g ops (⟨dst,.slice t x none (some y) none,ty,pos,af,none⟩::rest) Q δ:=
 a_.slice (l:=0) (h:=n) (hi:=some y) (lo:=none) hx ht hk rfl ⟨ga,hy⟩ (bm _) (by simpa using hn) ho hd (by simpa [List.map_take] using hK)
end
end Go.Ab
/- Ranging over a function:the iterator is walked in place,each call of yield walks the loop's body. -/
namespace Go.Ab
open Go Go.RowKit
attribute [local irreducible] HS
variable {P:Program} {g:eZ} {δ:DS} {κ:Kp} {a:Act} {w:World}
variable {ops:Array Oper} {rest:List Oper} {Q:Exit→DS→Prop} {dst:Option Nat} {ty:TypeId} {pos:String} {af:Array Edge}
def gZ (e:List (Nat×AV)):List (Nat×AV):=e.map fun p=>(p.1+HS,p.2)
def jc:List (Nat×AV)→List (Nat×AV)
 |[]=>[]
 |(i,v)::r=>bif bz HS i then (i - HS,v)::jc r else jc r
def ff:List (Nat×AV)→List (Nat×AV)
 |[]=>[]
 |(i,v)::r=>bif bz HS i && aY i (HS+HS) then (i - HS,v)::ff r else ff r
theorem mI:∀(e:List (Nat×AV)) (j:Nat),j<HS→look (gZ e) j=.any
 |[],_,_=>rfl
 |(i,v)::r,j,h=>by
  show look ((i+HS,v)::gZ r) j=_
  rw[fL,if_neg aJ]
  exact mI r j h
theorem mx:∀(e:List (Nat×AV)) (j:Nat),look (gZ e) (j+HS)=look e j
 |[],_=>rfl
 |(i,v)::r,j=>by
  show look ((i+HS,v)::gZ r) (j+HS)=_
  rw[fL,fL,mx r j]
  by_cases e:i=j
  ·rw[if_pos aJ,if_pos e]
  ·rw[if_neg aJ,if_neg e]
theorem nv:∀(e:List (Nat×AV)) (j:Nat),look (jc e) j=look e (j+HS)
 |[],_=>rfl
 |(i,v)::r,j=>by
  rw[fL]
  simp only[jc]
  cases h:bz HS i with
  |true=>
   have h':HS≤i:=by simpa using h
   show look ((i - HS,v)::jc r) j=_
   rw[fL,nv r j]
   by_cases e:i=j+HS
   ·rw[if_pos aJ,if_pos e]
   ·rw[if_neg aJ,if_neg e]
  |false=>
   have h':¬HS≤i:=by
                intro hh;have:bz HS i=true:=by simpa using hh
                rw[this] at h;cases h
   show look (jc r) j=_
   rw[nv r j,if_neg aJ]
theorem ua:∀(e:List (Nat×AV)) (j:Nat),look (ff e) j=if j<HS then look e (j+HS) else .any
 |[],j=>by show AV.any=_;split<;>rfl
 |(i,v)::r,j=>by
  rw[fL]
  simp only[ff]
  cases h:(bz HS i && aY i (HS+HS)) with
  |true=>
   simp only[aZ] at h
   have h1:HS≤i:=by simpa using h.1
   have h2:i<HS+HS:=by simpa using h.2
   show look ((i - HS,v)::ff r) j=_
   rw[fL,ua r j]
   by_cases e:i=j+HS
   ·rw[if_pos aJ,if_pos aJ,if_pos e]
   ·rw[if_neg aJ,if_neg e]
  |false=>
   show look (ff r) j=_
   rw[ua r j]
   by_cases hj:j<HS
   ·rw[if_pos hj,if_pos hj]
    by_cases e:i=j+HS
    ·exfalso
     have:(bz HS i && aY i (HS+HS))=true:=by simp only[aZ];exact⟨by simpa using (by omega:HS≤i),by simpa using (by omega:i<HS+HS)⟩
     rw[this] at h;cases h
    ·rw[if_neg e]
   ·rw[if_neg hj,if_neg hj]
def G3 (l:Nat) (Q:Exit→DS→Prop) (δ:DS):Option Ob→Prop
 |some (.loop l' _ _ _ _ .ready)=>l'=l∧Q .normal δ
 |some (.loop l' _ _ _ _ (.done .ret))=>l'=l∧Q .ret δ
 |some (.loop l' _ _ _ _ (.done (.exit id)))=>l'=l∧Q (.exit id) δ
 |_=>False
def l6 (n i:Nat) (δ:DS):DS:={n,env:=jc δ.env,gv:=(match δ.ob i with|some (.loop l tm ps ji body _)=>(i,some (.loop l tm ps ji body .pT))|o=>(i,o))::δ.gv,nx:=δ.nx}
def fH (n i l:Nat) (Q:Exit→DS→Prop):Exit→DS→Prop
 |.normal,δ|.ret,δ=>G3 l Q (l6 n i δ) (δ.ob i)
 |_,_=>False
theorem iL.putObj (w:World) (b:Nat) (o:Obj):iL w (w.putObj b o) (some b):=⟨rfl,rfl,rfl,by simp,fun k _ h=>World.putObj_heap_other (fun e=>h (by rw[e]))⟩
theorem uC (g:eZ) (a:Act) (j:Nat):g.val a (j+HS)=g.held (j+HS):=by unfold eZ.val;rw[if_neg aJ]
theorem O4 {n i l:Nat} {tm ps ji body st} (h:δ.ob i=some (.loop l tm ps ji body st)):∀j,(l6 n i δ).ob j=if i=j then some (.loop l tm ps ji body .pT) else δ.ob j:=by
 intro j
 unfold l6
 rw[h]
 exact fE _ _ _ _
theorem Rel.back {g':eZ} {a2 a':Act} {w w':World} {n i b l:Nat} {tm ps ji body st} {r:Loop} (r2:Rel g' δ κ a2 w) (jk:g.wt=none) (VO:g'.wt=none) (hg:g'.B=g.B∧g'.w0=g.w0∧g'.N0=g.N0∧g'.fr=g.fr∧g'.w1=g.w1) (ld:∀j,g'.held (j+HS)=g.val a' j) (hn:a'.tmps.size=n)
  (ho:δ.ob i=some (.loop l tm ps ji body st)) (hκ:κ i=some b) (hr:w.heap[b]? =some (.loop r)) (r':Loop) (hk:r'.tmps=r.tmps∧r'.params=r.params∧r'.assign=r.assign∧r'.body=r.body) (hw:w'=w.putObj b (.loop r'))
  (hd:H2 g a' w') (P9:∀d∈a'.defers,∀r,d.target=.collected r→¬g.fr r):Rel g (l6 n i δ) κ a' w':=by
 subst hw
 have fy:b<w.heap.size:=je hr
 obtain⟨r3,G⟩:=r2.modify (o':=.loop l tm ps ji body .pT) ho rfl rfl hκ (kg VO i) (iL.putObj w b (.loop r')) (by simp) (fun C hC G=>by
  obtain⟨b',r0,h1,h2,zH,h3,h4,h5,h6,_⟩:=r2.obj i _ ho
  have:b'=b:=Option.some.inj (h1.symm.trans hκ)
  subst this
  rw[hr] at h2
  cases h2
  exact⟨b',r',by rw[hC];exact hκ,World.putObj_heap_same fy,zH,hk.1.trans h3,hk.2.1.trans h4,hk.2.2.1.trans h5,hk.2.2.2.trans h6,trivial⟩)
 have jh:∀j,(l6 n i δ).ob j=(δ.gu i (some (.loop l tm ps ji body .pT))).ob j:=by
  intro j;rw[O4 ho,jW]
 have Eu:(l6 n i δ).cx g κ=(δ.gu i (some (.loop l tm ps ji body .pT))).cx g' κ:=by
  have h1:(l6 n i δ).live=(δ.gu i (some (.loop l tm ps ji body .pT))).live:=funext fun j=>by unfold DS.live;rw[jh]
  have h2:(l6 n i δ).lr=(δ.gu i (some (.loop l tm ps ji body .pT))).lr:=funext fun j=>by unfold DS.lr;rw[jh]
  have h3:(l6 n i δ).lb=(δ.gu i (some (.loop l tm ps ji body .pT))).lb:=funext fun j=>by unfold DS.lb;rw[jh]
  unfold DS.cx
  rw[h1,h2,h3,hg.1,hg.2.2.1]
 have fV:∀j,(l6 n i δ).live j↔(δ.gu i (some (.loop l tm ps ji body .pT))).live j:=fun j=>by unfold DS.live;rw[jh]
 exact
  {n:=hn,dfr:=hd
   env:=fun j=>by
    have h1:=r3.env (j+HS)
    rw[uC,ld j] at h1
    have h2:(l6 n i δ).get j=(δ.gu i (some (.loop l tm ps ji body .pT))).get (j+HS):=nv δ.env j
    rw[h2,Eu];exact h1
   obj:=fun j o h=>by rw[jh] at h;rw[Eu];exact r3.obj j o h
   inj:=fun i j b h1 h2=>r3.inj i j b ((fV i).1 h1) ((fV j).1 h2)
   lo:=fun j b h1 h2=>by rw[← hg.1];exact r3.lo j b ((fV j).1 h1) h2
   nx:=fun j h=>r3.nx j ((fV j).1 h)
   wt:=fun k hk=>by rw[jk] at hk;cases hk
   below:=by rw[← hg.1,← hg.2.1];exact r3.below
   kZ:=P9
   fr:=by
    have h1:qG g' (l6 n i δ).live κ (w.putObj b (.loop r')):=r3.fr.sub fun j b h1 h2=>⟨j,(fV j).1 h1,h2⟩
    exact h1.re hg.1.symm hg.2.2.2.1.symm hg.2.2.2.2.symm jk
   hB:=by rw[← hg.1];exact r3.hB
   N0:=by rw[← hg.1,← hg.2.2.1,← hg.2.2.2.1];exact r3.N0}
theorem O5 {x:Operand} {f:FuncId} {vs us:Array Value} {a:Act} (hx:a.eval x=.func (.func f) vs us) (l:Nat) (w:World):
  (resolve a.eval (rangeCall x l) 0).run P w=.ok {target:=.fn (.func f) us,args:=vs++ #[.func (.yield l) #[] #[]]} w:=by
 have hc:a.eval (.const (.func (.yield l) #[] #[]))=.func (.yield l) #[] #[]:=rfl
 simp [resolve,rangeCall,Deferred.ofValue,hx,hc]
theorem AW.rangeFunc {x:Operand} {ps:Array Tmp} {ji body:Code} {f:FuncId} {first cap:List AV} {fn:Func} {c:Code} {n':Nat} (Cv:g.ro=none) (jk:g.wt=none) (hx:δ.ev x=.jx (.func f) first cap) (ho:fj x=true)
  (hf:P.funcs[f]? =some fn) (hb:fn.body=some c) (EY:fn.results= #[]) (hn:fn.ntmps=n') (hle:bz (first.length+1+cap.length) n'=true) (OX:bz n' HS=true) (gR:bz δ.n HS=true) (he:(fn.name== "runtime.NumGoroutine")=false)
  (h:∀(g':eZ) (tm:Array Value) (l:Nat),g'.ro=none→g'.wt=none→(∀j,j<HS→g'.held (j+HS)=tm.getD j undef)→tm.size=δ.n→
   AW P g' c (fH δ.n δ.nx l Q) {n:=n',env:=enum 0 (first++ .lT δ.nx::cap)++gZ δ.env,gv:=(δ.nx,some (.loop l tm ps ji body .ready))::δ.gv,nx:=δ.nx+1}):
  AW P g (.rangeFunc x ps ji body) Q δ:=by
 intro κ a w r
 have tB:=r.ra hx ho
 generalize hv:a.eval x=v at tB
 cases tB with
 | @jx _ vs us _ _ hs HP ht H6=>
  rw[Cv]
  have Ji:first.length+1+cap.length≤n':=by simpa using hle
  have Yx:n'≤HS:=by simpa using OX
  obtain⟨ms,F9,qM,MS⟩:=r.dfr
  refine wpIn_rangeFunc fun fnid _=>?_
  let w1:=w.alloc (.deferred (some []))
  let lp:Loop:={state:=.ready,pending:=none,fn:=fnid,tmps:=a.tmps,params:=ps,assign:=ji,body,defers:=w.heap.size}
  let w2:=w1.alloc (.loop lp)
  have NB:w1.heap.size=w.heap.size+1:=by show(w.heap.push _).size=_;simp
  refine⟨w.heap.size+1,[{target:=.collected w.heap.size,args:= #[]}],w2,_,w2,f,vs++ #[.func (.yield (w.heap.size+1)) #[] #[]]++us,w2,run_enterLoop_outer fnid a.tmps ps ji body,O5 hv _ _,fun _ _=>trivial,?_,fun h=>by simp at h,?_⟩
  ·have gn:(fn.name== "runtime.NumGoroutine")=false:=he
   simp [invoke,callFunc,hf,hb]
   simpa using gn
  let g':eZ:={B:=g.B,w0:=g.w0,N0:=g.N0,held:=fun j=>g.val a (j - HS),ro:=none,mks:=w.heap.size::(ms++g.mks),wt:=none,fr:=g.fr,w1:=g.w1}
  have Zs:Rel g δ κ a w1:=r.ext ((Below.refl _ _).alloc (aP _) _)
  obtain⟨r_,G⟩:=Zs.grow (.loop (w.heap.size+1) a.tmps ps ji body .ready) (.loop lp) (fun C G hκ=>⟨_,lp,hκ,heap_alloc_new w1 _,NB,rfl,rfl,rfl,rfl,rfl,rfl⟩)
  let κ2:=ig κ δ.nx (some w1.heap.size)
  have hκ2:κ2 δ.nx=some (w.heap.size+1):=by show ig _ _ _ _=_;simp [ig,NB]
  let δ2:DS:={n:=n',env:=enum 0 (first++ .lT δ.nx::cap)++gZ δ.env,gv:=(δ.nx,some (.loop (w.heap.size+1) a.tmps ps ji body .ready))::δ.gv,nx:=δ.nx+1}
  have Eu:δ2.cx g' κ2=(δ.fQ (.loop (w.heap.size+1) a.tmps ps ji body .ready)).cx g κ2:=rfl
  have H3:∀(e1 e2:List (Nat×AV)) (j:Nat),look (e1++e2) j=look e1 j∨(look e1 j=.any∧look (e1++e2) j=look e2 j):=by
   intro e1 e2 j
   induction e1 with
   |nil=>exact .inr ⟨rfl,rfl⟩
   |cons p e1 ih=>
    obtain⟨i,v⟩:=p
    rw[bu,fL,fL]
    by_cases e:i=j
    ·rw[if_pos e,if_pos e];exact .inl rfl
    ·rw[if_neg e,if_neg e];exact ih
  let args:Array Value:=vs++ #[.func (.yield (w.heap.size+1)) #[] #[]]++us
  have nQ:args.size=first.length+1+cap.length:=by simp [args];omega
  have pj:Rel g' δ2 κ2 {tmps:=args++ca (fn.ntmps - args.size) undef,defers:=[]} w2:=
   {n:=by show(args++ca (fn.ntmps - args.size) undef).size=n';rw[cb,cd,hn,nQ];omega
    dfr:=⟨[],rfl,by
      show(w.heap.size::(ms++g.mks)).Nodup
      refine List.nodup_cons.2 ⟨fun yH=>?_,qM⟩
      have:=je (MS _ yH).2
      omega,fun k hk=>by
      rw[List.nil_append] at hk
      rcases bw.1 hk with rfl|hk
      ·refine⟨r.hB,?_⟩
       rw[show w2.heap[w.heap.size]? =w1.heap[w.heap.size]? from Below.heap_alloc w1 _ _ aJ]
       exact heap_alloc_new w _
      ·have h3:=MS k hk
       have fy:=je h3.2
       refine⟨h3.1,?_⟩
       rw[show w2.heap[k]? =w1.heap[k]? from Below.heap_alloc w1 _ _ aJ,show w1.heap[k]? =w.heap[k]? from Below.heap_alloc w _ _ fy]
       exact h3.2⟩
    env:=fun j=>by
     rw[Eu]
     by_cases hj:j<HS
     ·have ld:g'.val {tmps:=args++ca (fn.ntmps - args.size) undef,defers:=[]} j=(args++ca (fn.ntmps - args.size) undef).getD j undef:=if_pos hj
      rw[ld]
      have Iz:δ2.get j=look (enum 0 (first++ .lT δ.nx::cap)) j:=by
       rcases H3 (enum 0 (first++ .lT δ.nx::cap)) (gZ δ.env) j with h1|⟨h1,h2⟩
       ·exact h1
       ·show look (_++_) j=_
        rw[h2,h1,mI _ _ hj]
      rw[Iz]
      by_cases TJ:j<args.size
      ·have hl:j<(first++ .lT δ.nx::cap).length:=by simp;omega
       rw[nS _ 0 j ((first++ .lT δ.nx::cap)[j]) (bm _) (by rw[cg];exact a8 hl)]
       have Ck:(args++ca (fn.ntmps - args.size) undef).getD j undef=args[j]:=by
        rw[aR,cj TJ,aN TJ];rfl
       rw[Ck]
       have hA:args[j]? =some args[j]:=aN TJ
       have hL:(first++ .lT δ.nx::cap)[j]? =some (first++ .lT δ.nx::cap)[j]:=a8 hl
       generalize args[j]=u at hA ⊢
       generalize (first++ .lT δ.nx::cap)[j]=d at hL ⊢
       simp only[args] at hA
       by_cases h1:j<first.length
       ·rw[aT h1] at hL
        rw[cj (by simp;omega),cj aJ] at hA
        exact G.ra ((kC.ra ⟨rfl,by rw[NB];omega,fun b hb hN=>⟨hN,Below.heap_alloc w _ _ hb⟩,fun i hi=>⟨hi,rfl,fun b hκ=>Below.heap_alloc w _ _ (r.lo i b (DS.gK hi) hκ).2⟩,fun i hi=>⟨hi,rfl⟩⟩ (HP j u d hA hL)))
       ·rw[aV aJ] at hL
        by_cases h2:j=first.length
        ·subst h2
         simp at hL
         subst hL
         rw[cj (by simp;omega),ck aJ] at hA
         simp [hs] at hA
         subst hA
         exact .lT ⟨_,by show(δ.fQ _).ob _=_;rw[f_,if_pos rfl],rfl⟩ hκ2
        ·obtain⟨m,hm⟩:∃m,j=first.length+1+m:=⟨j - first.length - 1,by omega⟩
         subst hm
         rw[show first.length+1+m - first.length=m+1 by omega,List.getElem?_cons_succ] at hL
         rw[ck (by simp;omega)] at hA
         have e0:first.length+1+m - (vs++ #[Value.func (.yield (w.heap.size+1)) #[] #[]]).size=m:=by simp;omega
         rw[e0] at hA
         exact G.ra ((kC.ra ⟨rfl,by rw[NB];omega,fun b hb hN=>⟨hN,Below.heap_alloc w _ _ hb⟩,fun i hi=>⟨hi,rfl,fun b hκ=>Below.heap_alloc w _ _ (r.lo i b (DS.gK hi) hκ).2⟩,fun i hi=>⟨hi,rfl⟩⟩ (H6 m u d hA hL)))
      ·rw[jC _ 0 j (.inr (by simp;omega))];exact .any _
     ·obtain⟨m,rfl⟩:∃m,j=m+HS:=⟨j - HS,by omega⟩
      have ld:g'.val {tmps:=args++ca (fn.ntmps - args.size) undef,defers:=[]} (m+HS)=g.val a m:=by
       rw[uC];exact congrArg (g.val a) (cm m HS)
      rw[ld]
      have Iz:δ2.get (m+HS)=δ.get m:=by
       have h0:look (enum 0 (first++ .lT δ.nx::cap)) (m+HS)=.any:=jC _ 0 _ (.inr (by simp;omega))
       rcases H3 (enum 0 (first++ .lT δ.nx::cap)) (gZ δ.env) (m+HS) with h1|⟨h1,h2⟩
       ·
        have:∀(e1:List (Nat×AV)),(∀p∈e1,p.1≠m+HS)→look (e1++gZ δ.env) (m+HS)=look (gZ δ.env) (m+HS):=by
         intro e1 gn
         induction e1 with
         |nil=>rfl
         |cons p e1 ih=>
          rw[bu]
          show look ((p.1,p.2)::(e1++gZ δ.env)) _=_
          rw[fL,if_neg (gn p (by simp))]
          exact ih (fun q hq=>gn q (by simp [hq]))
        have hk:∀(l:List AV) (i:Nat),∀p∈enum i l,p.1<i+l.length:=by
         intro l
         induction l with
         |nil=>intro i p hp;simp [enum] at hp
         |cons v l ih=>
          intro i p hp
          simp only[enum,bw] at hp
          rcases hp with rfl|hp
          ·simp
          ·have:=ih (i+1) p hp;simp;omega
        show look (_++_) _=_
        rw[this _ (fun p hp=>by have:=hk _ 0 p hp;simp at this;omega),mx];rfl
       ·show look (_++_) _=_
        rw[h2,mx];rfl
      rw[Iz]
      exact r_.env m
    obj:=r_.obj,inj:=r_.inj,lo:=r_.lo,nx:=r_.nx,wt:=fun k hk=>(by cases hk),below:=r_.below,hB:=r_.hB,N0:=r_.N0,fr:=r_.fr.re rfl rfl rfl rfl,kZ:=fun d hd=>by cases hd}
  have VU:=h g' a.tmps (w.heap.size+1) rfl rfl (fun j hj=>(congrArg (g.val a) (cm j HS)).trans (by unfold eZ.val;rw[if_pos hj])) r.n κ2 _ w2 pj
  refine callsIn_of_wp_marks (n:=0) hf hb trivial (wpIn_mono VU ?_)
  rintro e a2 w3 ⟨δ3,κ3,hq,r3⟩
  have fin:G3 (w.heap.size+1) Q (l6 δ.n δ.nx δ3) (δ3.ob δ.nx)→LeavesInM (Fw none) 0 P fn a2.tmps (rangePost (Fw none) 0 P (w.heap.size+1) (lift g Q) {a with defers:=[{target:=.collected w.heap.size,args:= #[]}]++a.defers}) a2.defers .returning w3:=by
   intro hj
   obtain⟨tm3,ps3,asg3,body3,Sf,jh⟩:∃tm ps ji body st,δ3.ob δ.nx=some (.loop (w.heap.size+1) tm ps ji body st):=by
    cases hoo:δ3.ob δ.nx with
    |none=>rw[hoo] at hj;exact hj.elim
    |some o=>
     rw[hoo] at hj
     cases o with
     |row=>exact hj.elim
     |box cs=>exact hj.elim
     |mp l=>exact hj.elim
     |mpl l k v=>exact hj.elim
     |it l seen=>exact hj.elim
     |lit T vals=>exact hj.elim
     |fb e rows=>exact hj.elim
     |loop l' tm ps ji body st=>
      cases st with
      |ready=>obtain⟨rfl,_⟩:=hj;exact⟨tm,ps,ji,body,_,rfl⟩
      |busy=>exact hj.elim
      |pT=>exact hj.elim
      |done c=>cases c<;>first|exact hj.elim|(obtain⟨rfl,_⟩:=hj;exact⟨tm,ps,ji,body,_,rfl⟩)
   refine leaves (g:=g') rfl rfl (rs:=[]) EY .none r3 (fun w4 r4 u hu=>?_)
   obtain⟨b,rl,h1,h2,zH,h3,h4,h5,h6,h7⟩:=r4.obj _ _ jh
   have MZ:κ3 δ.nx=some b:=h1
   subst zH
   have Xx:rl.state≠ .busy:=by
    rw[jh] at hj
    cases Sf with
    |ready=>rw[h7.1];simp
    |busy=>exact hj.elim
    |pT=>exact hj.elim
    |done c=>rw[h7.1];simp
   have Bh:=run_endLoop (P:=P) (w:=w4) h2 Xx
   have hd:H2 g {a with defers:=[{target:=.collected w.heap.size,args:= #[]}]++a.defers} (w4.putObj (w.heap.size+1) (.loop {rl with state:=.exhausted})):=by
    obtain⟨rs4,k1,k2,k3⟩:=r4.dfr
    refine⟨w.heap.size::ms,by simp [F9],?_,fun k hk=>?_⟩
    ·have:(rs4++g'.mks).Nodup:=k2
     exact(cp.1 this).2.1
    ·have mo:=k3 k (bX.2 (.inr hk))
     refine⟨mo.1,?_⟩
     rw[World.putObj_heap_other (by intro e;subst e;rw[h2] at mo;cases mo.2)]
     exact mo.2
   have rb:=r4.back (g:=g) (n:=δ.n) (a':={a with defers:=[{target:=.collected w.heap.size,args:= #[]}]++a.defers}) jk rfl ⟨rfl,rfl,rfl,rfl,rfl⟩ (fun j=>congrArg (g.val a) (cm j HS)) r.n jh MZ h2 {rl with state:=.exhausted} ⟨rfl,rfl,rfl,rfl⟩ rfl hd (fun d hd r0 e=>by
    rcases bX.1 hd with hd|hd
    ·rw[cq] at hd
     subst hd
     cases e
     exact fun hf=>Nat.lt_irrefl _ (r.fr.Cr hf)
    ·exact r.kZ d hd r0 e)
   refine⟨rl.pending,_,Bh,?_⟩
   rw[jh] at hj
   cases Sf with
   |ready=>rw[h7.2] at rb ⊢;exact⟨_,κ3,hj.2,rb⟩
   |busy=>exact hj.elim
   |pT=>exact hj.elim
   |done c=>
    rw[h7.2] at rb ⊢
    cases c with
    |ret=>exact wpIn_ret ⟨_,κ3,hj.2,rb⟩
    |exit id=>exact wpIn_exit ⟨_,κ3,hj.2,rb⟩
    |_=>exact hj.elim
  cases e with
  |normal=>exact fin hq
  |ret=>exact fin hq
  |_=>exact hq.elim
def Eh:List Tmp→List AV→List (Nat×AV)→List (Nat×AV)
 |t::ts,v::vs,e=>Eh ts vs ((t,v)::e)
 |_,_,e=>e
def uO (n:Nat) (ps:List Tmp) (vp:List AV) (δ:DS):DS:={n,env:=Eh ps vp (ff δ.env++gZ δ.env),gv:=δ.gv,nx:=δ.nx}
def fR (n:Nat) (δ:DS):DS:={n,env:=jc δ.env,gv:=δ.gv,nx:=δ.nx}
theorem q9:∀(e1 e2:List (Nat×AV)) (j:Nat),(look (e1++e2) j=look e1 j)∨((∀p∈e1,p.1≠j)∧look (e1++e2) j=look e2 j)
 |[],e2,j=> .inr ⟨by simp,rfl⟩
 |(i,v)::e1,e2,j=>by
  rw[bu,fL,fL]
  by_cases e:i=j
  ·rw[if_pos e,if_pos e];exact .inl rfl
  ·rw[if_neg e,if_neg e]
   rcases q9 e1 e2 j with h|⟨h1,h2⟩
   ·exact .inl h
   ·refine .inr ⟨fun p hp=>?_,h2⟩
    rcases bw.1 hp with rfl|hp
    ·exact e
    ·exact h1 p hp
theorem vn:∀(e:List (Nat×AV)) (j:Nat),(∀p∈e,p.1≠j)→look e j=.any
 |[],_,_=>rfl
 |(i,v)::e,j,h=>by rw[fL,if_neg (h (i,v) (by simp))];exact vn e j fun p hp=>h p (by simp [hp])
theorem x7:∀(e:List (Nat×AV)),∀p∈ff e,p.1<HS
 |[],p,h=>by simp [ff] at h
 |(i,v)::e,p,h=>by
  simp only[ff] at h
  cases hc:(bz HS i && aY i (HS+HS)) with
  |true=>
   rw[hc] at h
   simp only[aZ] at hc
   have h1:HS≤i:=by simpa using hc.1
   have h2:i<HS+HS:=by simpa using hc.2
   rcases bw.1 h with rfl|h
   ·show i - HS<HS;omega
   ·exact x7 e p h
  |false=>rw[hc] at h;exact x7 e p h
theorem FU (e:List (Nat×AV)) (j:Nat):look (ff e++gZ e) j=if j<HS then look e (j+HS) else look e (j - HS):=by
 by_cases hj:j<HS
 ·rw[if_pos hj]
  rcases q9 (ff e) (gZ e) j with h|⟨h1,h2⟩
  ·rw[h,ua,if_pos hj]
  ·have h3:=vn _ _ h1
   rw[ua,if_pos hj] at h3
   rw[h2,mI _ _ hj,h3]
 ·rw[if_neg hj]
  have h1:∀p∈ff e,p.1≠j:=fun p hp e'=>hj (e'▸x7 e p hp)
  rcases q9 (ff e) (gZ e) j with h|⟨_,h2⟩
  ·rw[vn _ _ h1] at h
   -- both are any or the other
   have:∀(e1:List (Nat×AV)),(∀p∈e1,p.1≠j)→look (e1++gZ e) j=look (gZ e) j:=by
    intro e1 gn
    induction e1 with
    |nil=>rfl
    |cons p e1 ih=>
     rw[bu]
     show look ((p.1,p.2)::(e1++gZ e)) j=_
     rw[fL,if_neg (gn p (by simp))]
     exact ih fun q hq=>gn q (by simp [hq])
   rw[this _ h1]
   obtain⟨m,rfl⟩:∃m,j=m+HS:=⟨j - HS,by omega⟩
   rw[mx,cm]
  ·rw[h2]
   obtain⟨m,rfl⟩:∃m,j=m+HS:=⟨j - HS,by omega⟩
   rw[mx,cm]
theorem LA {C:Cx} {w:World} {hv:Nat→Value}:∀(ps:List Tmp) (vals:List Value) (vp:List AV) (tm:Array Value) (e:List (Nat×AV)),vals.length=ps.length→vp.length=ps.length→
  (∀t∈ps,t<tm.size∧t<HS)→(∀(j:Nat) (u:Value) (v:AV),vals[j]? =some u→vp[j]? =some v→RA C w u v)→
  (∀j,RA C w (if j<HS then tm.getD j undef else hv j) (look e j))→
  ∀j,RA C w (if j<HS then ((ps.zip vals).foldl (fun tmps (t,a)=>tmps.setIfInBounds t a) tm).getD j undef else hv j) (look (Eh ps vp e) j)
 |[],[],[],tm,e,_,_,_,_,h=>h
 |t::ps,u::vals,v::vp,tm,e,h1,h2,h3,h4,h=>by
  simp only[cr,ct,Eh]
  refine LA ps vals vp _ _ (by simpa using h1) (by simpa using h2) (fun t' RB=>by simpa using h3 t' (by simp [RB])) (fun j x y hx hy=>h4 (j+1) x y (by simpa using hx) (by simpa using hy)) (fun j=>?_)
  rw[fL]
  by_cases e':t=j
  ·subst e'
   obtain⟨h5,h6⟩:=h3 t (by simp)
   rw[if_pos rfl,if_pos h6,aR,aS,if_pos rfl,if_pos h5]
   exact h4 0 u v rfl rfl
  ·rw[if_neg e']
   have:=h j
   by_cases hj:j<HS
   ·rw[if_pos hj] at this ⊢
    rw[aR,aS,if_neg e',← aR]
    exact this
   ·rw[if_neg hj] at this ⊢;exact this
 |[],_::_,_,_,_,h,_,_,_,_=>by simp at h
 |[],[],_::_,_,_,_,h,_,_,_=>by simp at h
 |_::_,[],_,_,_,h,_,_,_,_=>by simp at h
 |_::_,_::_,[],_,_,_,h,_,_,_=>by simp at h
theorem D3:∀(l:List (Tmp×Value)) (tm:Array Value),(l.foldl (fun tmps (t,a)=>tmps.setIfInBounds t a) tm).size=tm.size
 |[],_=>rfl
 |(t,a)::l,tm=>by simp only[ct];rw[D3 l];simp
def qD (δ:DS) (i l:Nat) (st:wV):Prop:=∃tm ps ji body,δ.ob i=some (.loop l tm ps ji body st)
def DS.pB (δ:DS) (i:Nat) (st:wV):DS:=match δ.ob i with|some (.loop l tm ps ji body _)=>δ.gu i (some (.loop l tm ps ji body st))|_=>δ
def vN (n i l:Nat) (K:Bool→wV→DS→Prop):Exit→DS→Prop
 |.normal,δ=>qD δ i l .busy∧K true .ready (fR n δ)
 |.ret,δ=>qD δ i l .busy∧K false (.done .ret) (fR n δ)
 |.exit id,δ=>qD δ i l .busy∧K false (.done (.exit id)) (fR n δ)
 |_,_=>False
theorem Rel.pB {i l:Nat} {st st':wV} {rl r':Loop} (jk:g.wt=none) (r:Rel g δ κ a w) (h:qD δ i l st) (hr:w.heap[l]? =some (.loop rl)) (hk:r'.tmps=rl.tmps∧r'.params=rl.params∧r'.assign=rl.assign∧r'.body=rl.body)
  (i_:match st' with|.ready=>r'.state=.ready∧r'.pending=none|.busy=>r'.state=.busy|.done c=>r'.state=.done∧r'.pending=some c|.pT=>True):Rel g (δ.pB i st') κ a (w.putObj l (.loop r')):=by
 obtain⟨tm,ps,ji,body,ho⟩:=h
 obtain⟨b,r0,h1,h2,zH,h3,h4,h5,h6,_⟩:=r.obj i _ ho
 have MZ:κ i=some b:=h1
 subst zH
 rw[hr] at h2
 cases h2
 obtain⟨r3,G⟩:=r.modify (o':=.loop b tm ps ji body st') ho rfl rfl MZ (kg jk i) (iL.putObj w b (.loop r')) (by simp) (fun C hC G=>
  ⟨b,r',by rw[hC];exact MZ,World.putObj_heap_same (je hr),rfl,hk.1.trans h3,hk.2.1.trans h4,hk.2.2.1.trans h5,hk.2.2.2.trans h6,i_⟩)
 unfold DS.pB
 rw[ho]
 exact r3
theorem Rel.frame {g':eZ} {a2 a':Act} {n:Nat} (r2:Rel g' δ κ a2 w) (jk:g.wt=none) (VO:g'.wt=none) (hg:g'.B=g.B∧g'.w0=g.w0∧g'.N0=g.N0∧g'.fr=g.fr∧g'.w1=g.w1) (ld:∀j,g'.held (j+HS)=g.val a' j) (hn:a'.tmps.size=n) (hd:H2 g a' w) (P9:∀d∈a'.defers,∀r,d.target=.collected r→¬g.fr r):Rel g (fR n δ) κ a' w:=by
 have Eu:(fR n δ).cx g κ=δ.cx g' κ:=by
  show(δ.cx g κ)=_
  unfold DS.cx
  rw[hg.1,hg.2.2.1]
 exact
  {n:=hn,dfr:=hd
   env:=fun j=>by
    have h1:=r2.env (j+HS)
    rw[uC,ld j] at h1
    have h2:(fR n δ).get j=δ.get (j+HS):=nv δ.env j
    rw[h2,Eu];exact h1
   obj:=fun j o h=>by rw[Eu];exact r2.obj j o h
   inj:=r2.inj
   lo:=fun j b h1 h2=>by rw[← hg.1];exact r2.lo j b h1 h2
   nx:=r2.nx
   wt:=fun k hk=>by rw[jk] at hk;cases hk
   below:=by rw[← hg.1,← hg.2.1];exact r2.below
   kZ:=P9
   fr:=by
    have h1:qG g' δ.live κ w:=r2.fr
    exact h1.re hg.1.symm hg.2.2.2.1.symm hg.2.2.2.2.symm jk
   hB:=by rw[← hg.1];exact r2.hB
   N0:=by rw[← hg.1,← hg.2.2.1,← hg.2.2.2.1];exact r2.N0}
theorem Eb {x:Operand} {ys:Array Operand} {tys:Array TypeId} {l:Nat} {r:Loop} {a:Act} (hx:a.eval x=.func (.yield l) #[] #[]) (h:w.heap[l]? =some (.loop r)) (hs:ys.size=r.params.size):
  (execOp a.eval ⟨dst,.call {callee:=.value x,args:=ys,argTypes:=tys},ty,pos,af,none⟩).run P w=
   .ok (.round l r.fn ((r.params.zip (ys.map a.eval)).foldl (fun tmps (t,a)=>tmps.setIfInBounds t a) r.tmps) r.assign r.body) w:=by
 have:=run_yield (P:=P) (w:=w) (args:=ys.map a.eval) h (by simpa using hs)
 simp only[execOp,resolve,Deferred.ofValue,hx,invoke,Sem.run_bind,Sem.run_pure,Result.andThen_ok,Array.empty_append]
 exact this
theorem a_.yield {x:Operand} {ys:List Operand} {tys:Array TypeId} {i l n0:Nat} {tm:Array Value} {ps:List Tmp} {ji body:Code} (Cv:g.ro=none) (jk:g.wt=none) (wz:∀j,j<HS→g.held (j+HS)=tm.getD j undef) (II:tm.size=n0) (CC:bz n0 HS=true)
  (hx:δ.ev x=.lT i) (jh:δ.ob i=some (.loop l tm ps.toArray ji body .ready)) (ho:fj x=true) (T4:ys.all fj=true) (hlen:aL ys.length ps.length=true) (Re:ps.all (fun t=>aY t n0)=true) (wR:fT δ.n dst=true)
  (h:∀g':eZ,g'.ro=some l→g'.wt=none→AW P g' ji (gr (fun δ1=>qD δ1 i l .ready∧AW P g' body (vN δ.n i l (fun b st δ2=>a_ .plain P g ops rest Q ((δ2.pB i st).eW dst (fq b)))) (δ1.pB i .busy)) (fun _ _=>False)) (uO n0 ps (ys.map δ.ev) δ)):
  a_ .plain P g ops (⟨dst,.call {callee:=.value x,args:=ys.toArray,argTypes:=tys},ty,pos,af,none⟩::rest) Q δ:=by
 intro κ a w r
 have tB:=r.ra hx ho
 generalize hv:a.eval x=v at tB
 cases tB with
 | @lT _ b hl hκ=>
  obtain⟨b',rl,h1,h2,zH,h3,h4,h5,h6,h7⟩:=r.obj _ _ jh
  have:b'=b:=Option.some.inj (h1.symm.trans hκ)
  subst this
  subst zH
  obtain⟨ms,F9,qM,MS⟩:=r.dfr
  have Hz:ys.length=ps.length:=aM hlen
  show wpListIn _ _ P ops _ (_::rest) a w
  refine gF rfl rfl fun K oA=>?_
  unfold Oper.y9
  rw[Eb hv h2 (by rw[h4];simpa using Hz),Oper.uponIn_round,Cv]
  refine⟨fun h=>by simp at h,?_⟩
  let tm':Array Value:=(rl.params.zip (ys.toArray.map a.eval)).foldl (fun tmps (t,a)=>tmps.setIfInBounds t a) rl.tmps
  have ME:tm'=(ps.zip (ys.map a.eval)).foldl (fun tmps (t,a)=>tmps.setIfInBounds t a) tm:=by
   show(rl.params.zip (ys.toArray.map a.eval)).foldl _ rl.tmps=_
   rw[h3,h4,← Array.foldl_toList,Array.toList_zip]
   simp
  let g':eZ:={B:=g.B,w0:=g.w0,N0:=g.N0,held:=fun j=>g.val a (j - HS),ro:=some b',mks:=ms++g.mks,wt:=none,fr:=g.fr,w1:=g.w1}
  have S3:∀j,g'.held (j+HS)=g.val a j:=fun j=>congrArg (g.val a) (cm j HS)
  have pj:Rel g' (uO n0 ps (ys.map δ.ev) δ) κ {tmps:=tm',defers:=[]} w:=
   {n:=by show tm'.size=n0;rw[ME,D3];exact II
    dfr:=⟨[],rfl,qM,MS⟩
    env:=fun j=>by
     have hp:=LA (C:=δ.cx g κ) (w:=w) (hv:=g'.held) ps (ys.map a.eval) (ys.map δ.ev) tm (ff δ.env++gZ δ.env) (by simpa using Hz) (by simpa using Hz)
      (fun t ht=>by
       have h8:=(bD.1 Re) t ht
       have h9:t<n0:=by simpa using h8
       have xm:n0≤HS:=by simpa using CC
       exact⟨II▸h9,aK h9 xm⟩)
      (fun j u v h8 h9=>by
       simp only[a7,bh] at h8 h9
       obtain⟨y,h8,rfl⟩:=h8
       obtain⟨y',h9,rfl⟩:=h9
       rw[h8] at h9;cases h9
       exact r.Ez y (iQ ((bD.1 T4) y (aU h8))))
      (fun j=>by
       rw[FU]
       by_cases hj:j<HS
       ·rw[if_pos hj,if_pos hj,← wz j hj,← uC]
        exact r.env (j+HS)
       ·rw[if_neg hj,if_neg hj]
        exact r.env (j - HS)) j
     rw[← ME] at hp
     exact hp
    obj:=r.obj,inj:=r.inj,lo:=r.lo,nx:=r.nx,wt:=fun k hk=>(by cases hk),below:=r.below,hB:=r.hB,N0:=r.N0,fr:=r.fr.re rfl rfl rfl rfl,kZ:=fun d hd=>by cases hd}
  rw[h5,h6]
  refine roundIn_of_wpIn (F:=Fw none) trivial (wpIn_mono (h g' rfl rfl κ _ w pj) ?_)
  rintro e a1 w1 ⟨δ1,κ1,hq,r1⟩
  cases e with
  |normal=>
   obtain⟨TQ,hq⟩:=hq
   have Ze:=TQ
   obtain⟨tm1,ps1,asg1,body1,ho1⟩:=TQ
   obtain⟨b1,rl1,k1,k2,kbl,k3,k4,k5,k6,k7⟩:=r1.obj _ _ ho1
   subst kbl
   have r1':=r1.pB rfl (st':=.busy) (r':={rl1 with state:=.busy}) Ze k2 ⟨rfl,rfl,rfl,rfl⟩ rfl
   refine⟨_,run_beginRound k2 k7.1,wpIn_mono (hq κ1 a1 _ r1') ?_⟩
   rintro e2 a2 w2 ⟨δ2,κ2,jF,r2⟩
   have fin:∀(jump:Option Code) (st:wV) (bb:Bool),bb=jump.isNone→qD δ2 i b1 .busy→a_ .plain P g ops rest Q (((fR δ.n δ2).pB i st).eW dst (fq bb))→
     (match st with|.ready=>jump=none|.done c=>jump=some c|_=>False)→
     ∃v w',(Instr.endRound b1 jump).run P w2=.ok v w'∧K (a.put dst v) w':=by
    intro jump st bb PH DW hA i_
    have Yk:=DW
    obtain⟨tm2,ps2,asg2,body2,KM⟩:=DW
    obtain⟨b2,rl2,m1,m2,mbl,m3,m4,m5,m6,m7⟩:=r2.obj _ _ KM
    subst mbl
    have r3:=r2.pB rfl (st':=st) (r':={rl2 with state:=if jump.isNone then .ready else .done,pending:=jump}) Yk m2 ⟨rfl,rfl,rfl,rfl⟩ (by
     cases st with
     |ready=>simp only at i_;subst i_;exact⟨rfl,rfl⟩
     |done c=>simp only at i_;subst i_;exact⟨rfl,rfl⟩
     |_=>exact i_.elim)
    refine⟨_,_,run_endRound jump m2,?_⟩
    have hd:H2 g a (w2.putObj b2 (.loop {rl2 with state:=if jump.isNone then .ready else .done,pending:=jump})):=by
     obtain⟨rs4,k1,k2,k3⟩:=r3.dfr
     exact⟨ms,F9,(cp.1 k2).2.1,fun k hk=>k3 k (bX.2 (.inr hk))⟩
    have r4:=r3.frame (g:=g) (a':=a) (n:=δ.n) jk rfl ⟨rfl,rfl,rfl,rfl,rfl⟩ S3 r.n hd r.kZ
    have he:fR δ.n (δ2.pB i st)=(fR δ.n δ2).pB i st:=by
     unfold DS.pB
     have:(fR δ.n δ2).ob i=δ2.ob i:=rfl
     rw[this,KM];rfl
    rw[he] at r4
    subst PH
    have sA:((fR δ.n δ2).pB i st).n=δ.n:=by
     unfold DS.pB
     have:(fR δ.n δ2).ob i=δ2.ob i:=rfl
     rw[this,KM];rfl
    exact oA _ _ (hA κ2 _ _ (r4.eW (v:=.bool jump.isNone) (ft (by rw[sA];exact wR)) (.pv (.lit _))))
   cases e2 with
   |normal=>exact fin none .ready true rfl jF.1 jF.2 rfl
   |ret=>exact fin (some .ret) (.done .ret) false rfl jF.1 jF.2 rfl
   |exit id=>exact fin (some (.exit id)) (.done (.exit id)) false rfl jF.1 jF.2 rfl
   |_=>exact jF.elim
  |_=>exact hq.elim
end Go.Ab
/- Calls walked in place:the callee's body over the caller's own objects. -/
namespace Go.Ab
open Go Go.RowKit
attribute [local irreducible] HS
variable {P:Program} {g:eZ} {δ:DS} {κ:Kp} {a:Act} {w:World}
variable {ops:Array Oper} {rest:List Oper} {Q:Exit→DS→Prop} {dst:Option Nat} {ty:TypeId} {pos:String} {af:Array Edge}
theorem wC (l:List AV) (e:List (Nat×AV)) (hl:l.length≤HS) (j:Nat):look (enum 0 l++gZ e) j=if j<HS then look (enum 0 l) j else look e (j - HS):=by
 have H3:∀(l:List AV) (i:Nat),(∀j,i+l.length≤j∨j<i→look (enum i l++gZ e) j=look (gZ e) j)∧(∀j,i≤j→j<i+l.length→look (enum i l++gZ e) j=look (enum i l) j):=by
  intro l
  induction l with
  |nil=>intro i;exact⟨fun j _=>rfl,fun j h1 h2=>by simp at h2;omega⟩
  |cons v l ih=>
   intro i
   obtain⟨h1,h2⟩:=ih (i+1)
   simp only[List.length_cons]
   refine⟨fun j hj=>?_,fun j h3 h4=>?_⟩
   ·show look ((i,v)::(enum (i+1) l++gZ e)) j=_
    rw[fL,if_neg aJ]
    exact h1 j (by omega)
   ·show look ((i,v)::(enum (i+1) l++gZ e)) j=look ((i,v)::enum (i+1) l) j
    rw[fL,fL]
    by_cases e:i=j
    ·rw[if_pos e,if_pos e]
    ·rw[if_neg e,if_neg e]
     exact h2 j aJ (by omega)
 obtain⟨h1,h2⟩:=H3 l 0
 by_cases hj:j<HS
 ·rw[if_pos hj]
  by_cases qN:j<l.length
  ·exact h2 j (bm _) (by omega)
  ·rw[h1 j aJ,mI _ _ hj,jC l 0 j aJ]
 ·rw[if_neg hj,h1 j aJ]
  obtain⟨m,rfl⟩:∃m,j=m+HS:=⟨j - HS,by omega⟩
  rw[mx,cm]
def fM (P:Program) (rs:List ResultVar) (n:Nat) (dst:Option Nat) (K:DS→Prop):Exit→DS→Prop
 |.normal,δ|.ret,δ=>∃v,gm P δ rs v∧K ((fR n δ).eW dst v)
 |_,_=>False
theorem nU {rs:List ResultVar} {n:Nat} {K:DS→Prop} {v:AV} (h:gm P δ rs v) (hK:K ((fR n δ).eW dst v)):fM P rs n dst K .ret δ:=⟨v,h,hK⟩
theorem Jd {rs:List ResultVar} {n:Nat} {K:DS→Prop} {v:AV} (h:gm P δ rs v) (hK:K ((fR n δ).eW dst v)):fM P rs n dst K .normal δ:=⟨v,h,hK⟩
theorem o9 {gd:Option (Tmp×Bool)} {x:Operand} {f:FuncId} {vs us:Array Value} {xs:Array Operand} {tys:Array TypeId} {ρ:Operand→Value} (hx:ρ x=.func (.func f) vs us) (he:∀vals w,(callFunc f vals).run P w=.ok (.enter f vals) w) (w:World):
  (execOp ρ ⟨dst,.call {callee:=.value x,args:=xs,argTypes:=tys},ty,pos,af,gd⟩).run P w=.ok (.enter f (vs++xs.map ρ++us)) w:=by
 simp [execOp,resolve,Deferred.ofValue,invoke,hx,he]
theorem a_.inline {x:Operand} {xs:List Operand} {tys:Array TypeId} {f:FuncId} {first cap:List AV} {fn:Func} {c:Code} {n':Nat} {rs:List ResultVar} (jk:g.wt=none) (hx:δ.ev x=.jx (.func f) first cap) (ho:fj x=true) (qt:xs.all fj=true)
  (hf:P.funcs[f]? =some fn) (hb:fn.body=some c) (uG:fn.results=rs.toArray) (hn:fn.ntmps=n') (hle:bz (first.length+xs.length+cap.length) n'=true) (OX:bz n' HS=true) (hd:fT δ.n dst=true) (he:(fn.name== "runtime.NumGoroutine")=false)
  (h:∀g':eZ,g'.ro=none→g'.wt=none→AW P g' c (fM P rs δ.n dst fun δ2=>a_ .plain P g ops rest Q δ2) {n:=n',env:=enum 0 (first++xs.map δ.ev++cap)++gZ δ.env,gv:=δ.gv,nx:=δ.nx}):
  a_ .plain P g ops (⟨dst,.call {callee:=.value x,args:=xs.toArray,argTypes:=tys},ty,pos,af,none⟩::rest) Q δ:=by
 intro κ a w r
 have tB:=r.ra hx ho
 generalize hv:a.eval x=v at tB
 cases tB with
 | @jx _ vs us _ _ hs HP ht H6=>
  have Ji:first.length+xs.length+cap.length≤n':=by simpa using hle
  have Yx:n'≤HS:=by simpa using OX
  obtain⟨ms,F9,qM,MS⟩:=r.dfr
  have ZE:∀vals w,(callFunc f vals).run P w=.ok (.enter f vals) w:=fun vals w=>by simp [callFunc,hf,hb];simpa using he
  show wpListIn _ _ P ops _ (_::rest) a w
  refine gF rfl rfl fun K oA=>?_
  unfold Oper.y9
  rw[o9 hv ZE,Oper.uponIn_enter]
  refine⟨fun h=>by simp at h,?_⟩
  let args:Array Value:=vs++xs.toArray.map a.eval++us
  let vp:List AV:=first++xs.map δ.ev++cap
  have nQ:args.size=vp.length:=by simp [args,vp];omega
  have EE:vp.length=first.length+xs.length+cap.length:=by simp [vp];omega
  let g':eZ:={B:=g.B,w0:=g.w0,N0:=g.N0,held:=fun j=>g.val a (j - HS),ro:=none,mks:=ms++g.mks,wt:=none,fr:=g.fr,w1:=g.w1}
  let δ2:DS:={n:=n',env:=enum 0 vp++gZ δ.env,gv:=δ.gv,nx:=δ.nx}
  have gp:∀(j:Nat) (u:Value) (av:AV),args[j]? =some u→vp[j]? =some av→RA (δ.cx g κ) w u av:=by
   intro j u av h1 h2
   simp only[args] at h1
   simp only[vp] at h2
   by_cases hj:j<first.length+xs.length
   ·rw[aT (by simp;omega)] at h2
    rw[cj (by simp;omega)] at h1
    by_cases Ny:j<first.length
    ·rw[aT Ny] at h2
     rw[cj aJ] at h1
     exact HP j u av h1 h2
    ·rw[aV aJ] at h2
     rw[ck aJ,hs] at h1
     simp only[bp,List.getElem?_toArray,a7,bh] at h1 h2
     obtain⟨y,h3,rfl⟩:=h1
     obtain⟨y',h4,rfl⟩:=h2
     rw[h3] at h4;cases h4
     exact r.Ez y (iQ ((bD.1 qt) y (aU h3)))
   ·rw[aV (by simp;omega)] at h2
    rw[ck (by simp;omega)] at h1
    have e1:(vs++xs.toArray.map a.eval).size=(first++xs.map δ.ev).length:=by simp;omega
    rw[e1] at h1
    exact H6 _ u av h1 h2
  have pj:Rel g' δ2 κ {tmps:=args++ca (fn.ntmps - args.size) undef,defers:=[]} w:=
   {n:=by show(args++ca (fn.ntmps - args.size) undef).size=n';rw[cb,cd,hn,nQ];omega
    dfr:=⟨[],rfl,qM,MS⟩
    env:=fun j=>by
     show RA (δ.cx g κ) w _ (look (enum 0 vp++gZ δ.env) j)
     rw[wC vp δ.env aJ]
     unfold eZ.val
     by_cases hj:j<HS
     ·rw[if_pos hj,if_pos hj]
      show RA (δ.cx g κ) w ((args++ca (fn.ntmps - args.size) undef).getD j undef) _
      by_cases TJ:j<vp.length
      ·have Ck:(args++ca (fn.ntmps - args.size) undef).getD j undef=args[j]:=by
        rw[aR,cj aJ,aN aJ];rfl
       rw[Ck,nS vp 0 j vp[j] (bm _) (by rw[cg];exact a8 TJ)]
       exact gp j _ _ (aN aJ) (a8 TJ)
      ·rw[jC vp 0 j aJ];exact .any _
     ·rw[if_neg hj,if_neg hj]
      exact r.env (j - HS)
    obj:=r.obj,inj:=r.inj,lo:=r.lo,nx:=r.nx,wt:=fun k hk=>(by cases hk),below:=r.below,hB:=r.hB,N0:=r.N0,fr:=r.fr.re rfl rfl rfl rfl,kZ:=fun d hd=>by cases hd}
  refine(show CallsIn (Fw none) (0 - 1) P f args w _ from callsIn_of_wp_marks (n:=0) hf hb trivial (wpIn_mono (h g' rfl rfl κ _ w pj) ?_))
  rintro e a2 w2 ⟨δ3,κ3,hq,r3⟩
  have fin:∀v,gm P δ3 rs v→a_ .plain P g ops rest Q ((fR δ.n δ3).eW dst v)→LeavesInM (Fw none) 0 P fn a2.tmps (fun
    |.returned v,w''=>K (a.put dst v) w''
    |.panicked chain,w''=>lift g Q (.panic chain) a w''
    |.outgrown,_=>LetsOut (lift g Q)) a2.defers .returning w2:=by
   intro v h1 h2
   refine leaves (g:=g') rfl rfl uG h1 r3 (fun w4 r4 u hu=>?_)
   have hd4:H2 g a w4:=by
    obtain⟨rs4,k1,k2,k3⟩:=r4.dfr
    exact⟨ms,F9,(cp.1 k2).2.1,fun k hk=>k3 k (bX.2 (.inr hk))⟩
   have r5:=r4.frame (g:=g) (a':=a) (n:=δ.n) jk rfl ⟨rfl,rfl,rfl,rfl,rfl⟩ (fun j=>congrArg (g.val a) (cm j HS)) r.n hd4 r.kZ
   exact oA _ _ (h2 κ3 _ _ (r5.eW (ft hd) hu))
  cases e with
  |normal=>obtain⟨v,h1,h2⟩:=hq;exact fin v h1 h2
  |ret=>obtain⟨v,h1,h2⟩:=hq;exact fin v h1 h2
  |_=>exact hq.elim
end Go.Ab
namespace Go.Ab
section
variable {P:Program} {δ:DS} {n:Nat} {dst:Option Nat} {K:DS→Prop} {t t':Tmp}
theorem oG {p:PV} (ht:aY t HS=true) (h:δ.get t=.pv p) (hK:K ((fR n δ).eW dst (.pv p))):fM P [.tmp t] n dst K .ret δ:=nU (.one (.tmp ht h)) hK
theorem Cb {i e k fa} (ht:aY t HS=true) (h:δ.get t=.own i e k fa) (hK:K ((fR n δ).eW dst (.own i e k fa))):fM P [.tmp t] n dst K .ret δ:=nU (.one (.tmp ht h)) hK
theorem Bk {i o} (ht:aY t HS=true) (h:δ.get t=.ptr i o) (hK:K ((fR n δ).eW dst (.ptr i o))):fM P [.tmp t] n dst K .ret δ:=nU (.one (.tmp ht h)) hK
theorem kF (hK:K ((fR n δ).eW dst (.gY []))):fM P [] n dst K .normal δ:=Jd .none hK
theorem C0 {p p':PV} (ht:aY t HS=true) (h:δ.get t=.pv p) (RB:aY t' HS=true) (h':δ.get t'=.pv p') (hK:K ((fR n δ).eW dst (.gY [.pv p,.pv p']))):fM P [.tmp t,.tmp t'] n dst K .ret δ:=nU (.two (.tmp ht h) (.tmp RB h')) hK
theorem Ed {i e k fa} {p':PV} (ht:aY t HS=true) (h:δ.get t=.own i e k fa) (RB:aY t' HS=true) (h':δ.get t'=.pv p') (hK:K ((fR n δ).eW dst (.gY [.own i e k fa,.pv p']))):fM P [.tmp t,.tmp t'] n dst K .ret δ:=nU (.two (.tmp ht h) (.tmp RB h')) hK
end
end Go.Ab
/- Regions that draw their order and hold operations with an effect:what only reads is taken first,the rest is walked in each order. -/
namespace Go.Ab
open Go Go.RowKit
variable {P:Program} {g:eZ} {δ:DS} {κ:Kp} {a:Act} {w:World}
variable {ops:Array Oper} {Q:Exit→Act→World→Prop} {ro:Option Nat}
theorem Dg {j:Nat} {oi oj:Oper} {v:Value} {I:Act→Prop} (hj:ops[j]? =some oj) (jg:ka oj=true) (WU:oi.apart ops oj=true)
  (hsj:∀cs b,oj.op≠ .select cs b) (hQ:∀c a w,Q (.panic c) (a.put oi.dst v) w→Q (.panic c) a w) (keep:∀a u,I a→I (a.put oj.dst u)) (keepD:∀(a:Act) d,I a→I {a with defers:=d::a.defers}) {K:Act→World→Prop} {a:Act} {w:World}
  (hy:I a) (h:wpOpIn (Fw ro) 0 P ops Q j K (a.put oi.dst v) w):wpOpIn (Fw ro) 0 P ops Q j (fun a' w'=>I a'∧K (a'.put oi.dst v) w') a w:=by
 obtain⟨h1,h2,h3⟩:=Oper.apart_spec WU
 unfold wpOpIn at*
 simp only[hj] at*
 rw[wanted_put oj a oi.dst v h1,about_put oj w a oi.dst v h1] at h
 have UG:∀ρ,oj.semAt (Fw ro).round ρ=execOp ρ oj:=fun ρ=>Oper.semAt_eq _ _ _ (by intro c e;simp [ka,e] at jg)
 split
 ·rename_i hw
  simp only[hw,if_true] at h
  unfold Oper.wpIn at*
  rw[about_put oj w a oi.dst v h1] at h
  refine⟨h.1,?_⟩
  have h:=h.2
  rw[UG,execOp_put oj hsj a oi.dst v h1] at h
  rw[UG]
  generalize (execOp a.eval oj).run P w=r at*
  cases r with
  |ok x w'=>
   cases x<;>simp only[Oper.uponIn] at h ⊢
   case value u=>exact⟨keep a u hy,by rw[← Act.put_comm a v u h2];exact h⟩
   case skip=>exact⟨keep a _ hy,by rw[← Act.put_comm a v undef h2];exact h⟩
   case defer d=>
    refine⟨keep _ _ (keepD _ _ hy),?_⟩
    rw[← Act.put_comm _ v undef h2,← Act.put_defers]
    exact h
   case enter f args=>
    refine⟨h.1,CallsIn.mono h.2 fun e w'' he=>?_⟩
    cases e with
    |returned u=>exact⟨keep a u hy,by rw[← Act.put_comm a v u h2];exact he⟩
    |panicked c=>exact hQ _ _ _ he
    |outgrown=>exact he
   case row row args=>exact⟨h.1,RowsIn.mono h.2 fun u w'' he=>⟨keep a u hy,by rw[← Act.put_comm a v u h2];exact he⟩⟩
   case round l f tmps assign body=>
    refine⟨h.1,RoundIn.mono h.2 fun e w'' he=>?_⟩
    cases e with
    |returned u=>exact⟨keep a u hy,by rw[← Act.put_comm a v u h2];exact he⟩
    |panicked c=>exact hQ _ _ _ he
    |outgrown=>exact he
  |halt x w'=>
   cases x<;>simp only[Oper.uponIn] at h ⊢
   case panic u=>exact hQ _ _ _ h
 ·rename_i hw
  simp only[hw] at h
  exact⟨h.1,keep a _ hy,by rw[← Act.put_comm a v undef h2];exact h.2⟩
def oS (ro:Option Nat) (P:Program) (ops:Array Oper) (Q:Exit→Act→World→Prop) (S:Array Bool→World→Prop):Nat→Array Bool→Act→World→Prop
 |0,fu,a,w=>Region.ready .any ops fu=[]∧Q .normal a w
 |fuel+1,fu,a,w=>
  (Region.ready .any ops fu=[]→Q .normal a w)∧
  ∀i∈Region.ready .any ops fu,wpOpIn (Fw ro) 0 P ops Q i (fun a' w'=>S (fu.setIfInBounds i true) w'∧oS ro P ops Q S fuel (fu.setIfInBounds i true) a' w') a w
theorem xG {S:Array Bool→World→Prop}:∀(fuel:Nat) (fu:Array Bool) (a:Act) (w:World),oS ro P ops Q S fuel fu a w→wpAnyIn (Fw ro) 0 P .any ops Q fuel fu a w
 |0,_,_,_,h=>h
 |fuel+1,_,_,_,h=>⟨h.1,fun i hi=>wpOpIn_mono (fun a' w' h'=>xG fuel _ a' w' h'.2) (h.2 i hi)⟩
def DC (ops:Array Oper) (fu:Array Bool):Prop:=∀j o,ops[j]? =some o→fu.getD j false=true→∀e∈o.after,Region.binds .any e=true→fu.getD e.on false=true
theorem Lz (fu:Array Bool) (i j:Nat) (d:Bool):(fu.setIfInBounds i true).getD j d=if i=j then (if i<fu.size then true else d) else fu.getD j d:=by
 by_cases h:i=j
 ·subst h
  rw[if_pos rfl]
  by_cases fy:i<fu.size
  ·simp [fy]
  ·simp [fy]
 ·rw[if_neg h];exact getD_set_ne d h
theorem DC.ready {fu:Array Bool} (h:DC ops fu) {i:Nat} (hi:i∈Region.ready .any ops fu):DC ops (fu.setIfInBounds i true):=by
 intro j o ho hj e he hb
 obtain⟨_,o',ga,j4⟩:=mem_ready.1 hi
 by_cases v7:i=j
 ·subst v7
  rw[ga] at ho;cases ho
  exact getD_set_true (j4 e he hb)
 ·rw[getD_set_ne false v7] at hj
  exact getD_set_true (h j o ho hj e he hb)
theorem tX {S:Array Bool→World→Prop} {C:World→Prop} {i:Nat} {oi:Oper} {v:Value} (hi:ops[i]? =some oi) (WD:∀(j:Nat) (o:Oper) cs b,ops[j]? =some o→o.op≠ .select cs b) (jg:∀(j:Nat) (o:Oper),ops[j]? =some o→ka o=true)
  (hQ:∀c a w,Q (.panic c) (a.put oi.dst v) w→Q (.panic c) a w)
  (hC:∀fu w,DC ops fu→fu.getD i true=false→S fu w→C w) (hS:∀fu w,S (fu.setIfInBounds i true) w↔S fu w):
  ∀(fuel:Nat) (fu:Array Bool) (a:Act) (w:World),DC ops fu→
   (∀j oj,ops[j]? =some oj→j≠i→fu.getD j true=false→(∀e∈oj.after,Region.binds .any e=true→e.on≠i)→oi.apart ops oj=true)→
   i∈Region.ready .any ops fu→YieldsIf P ops C oi v a→S fu w→
   oS ro P ops Q S fuel (fu.setIfInBounds i true) (a.put oi.dst v) w→oS ro P ops Q S (fuel+1) fu a w:=by
 have qp:∀{K:Act→World→Prop} {a:Act} {w:World},YieldsIf P ops C oi v a→C w→K (a.put oi.dst v) w→wpOpIn (Fw ro) 0 P ops Q i K a w:=by
  intro K a w hy hw hk
  unfold wpOpIn
  simp only[hi]
  rcases hy with ⟨Qt,hv⟩|⟨Qt,rfl⟩
  ·simp only[Qt,if_true,Oper.wpIn]
   refine⟨fun _ _=>trivial,?_⟩
   rw[Oper.semAt_eq _ _ _ (by intro c e;have:=jg i oi hi;simp [ka,e] at this),hv w hw]
   exact hk
  ·simp only[Qt,cu,if_false];exact⟨fun _ _=>trivial,hk⟩
 intro fuel
 induction fuel with
 |zero=>
  intro fu a w w8 _ hr hy U9 H
  refine⟨fun h=>(by rw[h] at hr;cases hr),fun j hj=>?_⟩
  by_cases qb:j=i
  ·subst qb;exact qp hy (hC fu w w8 (mem_ready.1 hr).1 U9) ⟨(hS _ _).2 U9,H⟩
  ·have:=ready_mono hj qb
   rw[H.1] at this
   cases this
 |succ fuel ih=>
  intro fu a w w8 PL hr hy U9 H
  refine⟨fun h=>(by rw[h] at hr;cases hr),fun j hj=>?_⟩
  by_cases qb:j=i
  ·subst qb;exact qp hy (hC fu w w8 (mem_ready.1 hr).1 U9) ⟨(hS _ _).2 U9,H⟩
  ·have h1:=H.2 j (ready_mono hj qb)
   obtain⟨VN,oj,Xh,j4⟩:=mem_ready.1 hj
   have Jk:∀e∈oj.after,Region.binds .any e=true→e.on≠i:=fun e he hb heq=>by
    have h1:=j4 e he hb
    have h0:=(mem_ready.1 hr).1
    rw[heq] at h1
    rcases cv i fu.size with h'|h'
    ·simp [h'] at h0 h1;rw[h0] at h1;cases h1
    ·simp [cw h'] at h1
   have WU:=PL j oj Xh qb VN Jk
   obtain⟨_,_,h3⟩:=Oper.apart_spec WU
   have h2:=Dg (I:=YieldsIf P ops C oi v) Xh (jg j oj Xh) WU (fun cs b=>WD j oj cs b Xh) hQ
    (fun a u hy=>hy.of_same (execOp_put oi (fun cs b=>WD i oi cs b hi) a oj.dst u h3) (wanted_put oi a oj.dst u h3)) (fun a d hy=>hy.of_same rfl rfl) hy h1
   have RT:∀k ok,ops[k]? =some ok→k≠i→(fu.setIfInBounds j true).getD k true=false→
     (∀e∈ok.after,Region.binds .any e=true→e.on≠i)→oi.apart ops ok=true:=fun k ok hk hki Tt jI=>by
    refine PL k ok hk hki ?_ jI
    by_cases Py:j=k
    ·subst Py;exact VN
    ·rw[getD_set_ne true Py] at Tt;exact Tt
   refine wpOpIn_mono (fun a' w' h3=>?_) h2
   obtain⟨h4,h5,h6⟩:=h3
   rw[Array.setIfInBounds_comm _ _ (Ne.symm qb)] at h5 h6
   have h7:=(hS _ _).1 h5
   exact⟨h7,ih (fu.setIfInBounds j true) a' w' (w8.ready hj) RT (ready_mono hr (Ne.symm qb)) h4 h7 h6⟩
abbrev Wt:=World×(Nat→Prop)×Nat
def gS (late:List Nat) (fu:Array Bool):Bool:=late.any fun j=>fu.getD j false
def Ch (k:Wt) (late:List Nat) (fu:Array Bool) (w:World):Prop:=gS late fu=false→∀b,k.2.1 b→b<k.1.heap.size∧w.heap[b]? =k.1.heap[b]?
def Gs (g' g:eZ):Prop:=g'.ro=g.ro∧g'.B=g.B∧g'.w0=g.w0
def y7 (g:eZ) (k:Wt) (late:List Nat) (fu:Array Bool):eZ:={g with wt:=if gS late fu=true then none else some k}
def gB (n:Nat):List Nat→Array Bool
 |[]=>ca n false
 |i::done=>(gB n done).setIfInBounds i true
theorem xP {late:List Nat} {i:Nat} (h:late.contains i=false) (fu:Array Bool):gS late (fu.setIfInBounds i true)=gS late fu:=by
 unfold gS
 induction late with
 |nil=>rfl
 |cons j late ih=>
  simp only[List.contains_cons,Bool.or_eq_false_iff] at h
  have v7:i≠j:=by simpa using h.1
  simp only[List.any_cons]
  rw[getD_set_ne false v7,ih h.2]
theorem rF {late:List Nat} {i:Nat} {fu:Array Bool} (h:gS late fu=true):gS late (fu.setIfInBounds i true)=true:=by
 unfold gS at*
 rw[List.any_eq_true] at*
 obtain⟨j,h1,h2⟩:=h
 exact⟨j,h1,getD_set_true h2⟩
theorem Rel.Pt (r:Rel g δ κ a w) {wt':Option Wt} (h:∀k,wt'=some k→(∀b,k.2.1 b→b<k.1.heap.size∧w.heap[b]? =k.1.heap[b]?)∧∀i b,δ.live i→(δ.lr i∨k.2.2≤i)→κ i=some b→¬k.2.1 b) (hF:∀k,wt'=some k→∀b,κ.Fs b→¬k.2.1 b):Rel {g with wt:=wt'} δ κ a w:=
 {n:=r.n,dfr:=r.dfr,env:=r.env,obj:=r.obj,inj:=r.inj,lo:=r.lo,nx:=r.nx,wt:=h,below:=r.below,hB:=r.hB,N0:=r.N0,kZ:=r.kZ
  fr:=⟨r.fr.1,fun i b hb=>let ⟨h1,h2⟩:=r.fr.2 i b hb;⟨⟨h1.1,fun k hk=>hF k hk b ⟨i,hb⟩⟩,h2⟩⟩}
theorem CS {k:Wt} {late:List Nat} {fu:Array Bool} (i:Nat) (r:Rel (y7 g k late fu) δ κ a w):Rel (y7 g k late (fu.setIfInBounds i true)) δ κ a w:=by
 have hk:∀k',(if gS late (fu.setIfInBounds i true)=true then none else some k)=some k'→(y7 g k late fu).wt=some k':=fun k' mo=>by
  by_cases h:gS late (fu.setIfInBounds i true)=true
  ·rw[if_pos h] at mo;cases mo
  ·rw[if_neg h] at mo
   cases mo
   show(if gS late fu=true then none else some k)=some k
   rw[if_neg (fun h'=>h (rF h'))]
 exact Rel.Pt (g:=y7 g k late fu) r (wt':=if gS late (fu.setIfInBounds i true)=true then none else some k) (fun k' mo=>r.wt k' (hk k' mo)) (fun k' mo b ⟨j,hj⟩=>(r.fr.2 j b hj).1.2 k' (hk k' mo))
theorem P7 {k:Wt} {late:List Nat} {fu:Array Bool} (r:Rel (y7 g k late fu) δ κ a w):Ch k late fu w:=by
 intro h
 refine(r.wt k ?_).1
 show(if gS late fu=true then none else some k)=some k
 rw[if_neg (by simp [h])]
theorem Mo {k:Wt} {late:List Nat} {fu:Array Bool} (jk:g.wt=none) (r:Rel (y7 g k late fu) δ κ a w):Rel g δ κ a w:=by
 have:=Rel.Pt r (wt':=none) (fun k hk=>by cases hk) (fun k hk=>by cases hk)
 cases g
 cases jk
 exact this
def jb (f:DS→Prop):Exit→DS→Prop
 |.normal,δ=>f δ
 |_,_=>False
theorem Nl {f:DS→Prop} (h:f δ):jb f .normal δ:=h
def sN (g:eZ) (Q:Exit→DS→Prop):Exit→Act→World→Prop
 |.normal,a,w=>lift g Q .normal a w
 |.panic c,a,w=>∃δ κ,Q (.panic c) δ∧(∀j,j<HS→δ.get j=.any)∧Rel {g with wt:=none} δ κ a w
 |_,_,_=>False
theorem Aw {g:eZ} {Q:Exit→DS→Prop} {c:List PanicEntry} {a:Act} {w:World} {d:Option Nat} {v:Value} (h:sN g Q (.panic c) (a.put d v) w):sN g Q (.panic c) a w:=by
 obtain⟨δ,κ,h1,h2,r⟩:=h
 refine⟨δ,κ,h1,h2,?_⟩
 exact
  {n:=by have:=r.n;cases d<;>simpa [Act.put] using this
   dfr:=by have:=r.dfr;cases d<;>exact this
   env:=fun j=>by
    by_cases hj:j<HS
    ·rw[h2 j hj];exact .any _
    ·have:=r.env j
     have e:∀b:Act,eZ.val {g with wt:=none} b j=g.held j:=fun b=>by unfold eZ.val;rw[if_neg hj]
     rw[e] at this
     rw[e]
     exact this
   obj:=r.obj,inj:=r.inj,lo:=r.lo,nx:=r.nx,wt:=r.wt,below:=r.below,hB:=r.hB,N0:=r.N0,fr:=r.fr
   kZ:=by have:=r.kZ;cases d<;>exact this}
def AR (P:Program) (g:eZ) (k:Wt) (late:List Nat) (l:List Oper) (Q:Exit→DS→Prop) (done:List Nat) (δ:DS):Prop:=
 DC l.toArray (gB l.length done)→∀κ a w,Rel (y7 g k late (gB l.length done)) δ κ a w→oS g.ro P l.toArray (sN g Q) (Ch k late) (l.length - done.length) (gB l.length done) a w
def mB (l:List Oper) (done rs:List Nat):Bool:=Region.ready .any l.toArray (gB l.length done)==rs
variable {k:Wt} {late:List Nat} {l:List Oper} {dn:List Nat} {QD:Exit→DS→Prop}
theorem AR.done (jk:g.wt=none) (hr:mB l dn []=true) (h:QD .normal δ):AR P g k late l QD dn δ:=by
 intro _ κ a w r
 have xn:Region.ready .any l.toArray (gB l.length dn)=[]:=by simpa [mB] using hr
 have hp:sN g QD .normal a w:=⟨δ,κ,h,Mo jk r⟩
 cases l.length - dn.length with
 |zero=>exact⟨xn,hp⟩
 |succ n=>exact⟨fun _=>hp,by rw[xn];simp⟩
theorem AR.all {rs:List Nat} (hl:aY dn.length l.length=true) (hr:mB l dn rs=true) (gn:rs≠ []) (h:∀i∈rs,∃o,l[i]? =some o∧
  a_ .plain P (y7 g k late (gB l.length (i::dn))) l.toArray [o] (jb (AR P g k late l QD (i::dn))) δ):AR P g k late l QD dn δ:=by
 intro w8 κ a w r
 have xn:Region.ready .any l.toArray (gB l.length dn)=rs:=by simpa [mB] using hr
 have hl':dn.length<l.length:=by simpa using hl
 obtain⟨n,hn⟩:∃n,l.length - dn.length=n+1:=⟨l.length - dn.length - 1,by omega⟩
 rw[hn]
 refine⟨fun h0=>absurd (xn▸h0) gn,fun i hi=>?_⟩
 have jJ:=hi
 rw[xn] at hi
 obtain⟨o,ho,hA⟩:=h i hi
 have ga:l.toArray[i]? =some o:=by simpa using ho
 have h1:=hA κ a w (CS i r)
 have Rz:DC l.toArray (gB l.length (i::dn)):=w8.ready jJ
 have yt:∀a' w',lift (y7 g k late (gB l.length (i::dn))) (jb (AR P g k late l QD (i::dn))) .normal a' w'→
   Ch k late ((gB l.length dn).setIfInBounds i true) w'∧oS g.ro P l.toArray (sN g QD) (Ch k late) n ((gB l.length dn).setIfInBounds i true) a' w':=by
  rintro a' w' ⟨δ',κ',h2,r2⟩
  refine⟨P7 r2,?_⟩
  have h3:=h2 Rz κ' a' w' r2
  have e1:l.length - (i::dn).length=n:=by simp;omega
  rw[e1] at h3
  exact h3
 have Tn:wpListIn (Fw g.ro) 0 P l.toArray (lift (y7 g k late (gB l.length (i::dn))) (jb (AR P g k late l QD (i::dn)))) [o] a w:=h1
 unfold wpListIn at Tn
 unfold wpOpIn
 simp only[ga]
 have jI:∀e a w,lift (y7 g k late (gB l.length (i::dn))) (jb (AR P g k late l QD (i::dn))) e a w→e=.normal:=by
  rintro e a w ⟨δ',κ',h2,_⟩
  cases e<;>first|rfl|exact h2.elim
 split
 ·rename_i hw
  rw[if_pos hw] at Tn
  obtain⟨h2,h3⟩:=Tn
  refine⟨h2,?_⟩
  revert h3
  generalize (o.semAt (Fw g.ro).round a.eval).run P w=res
  intro h3
  cases res with
  |ok x w'=>
   cases x<;>simp only[Oper.uponIn] at h3 ⊢
   case value u=>exact yt _ _ h3
   case skip=>exact yt _ _ h3
   case defer d=>exact yt _ _ h3
   case enter f args=>
    refine⟨h3.1,CallsIn.mono h3.2 fun e w'' he=>?_⟩
    cases e with
    |returned u=>exact yt _ _ he
    |panicked c=>exact absurd (jI _ _ _ he) (by simp)
    |outgrown=>
     exfalso
     obtain⟨a2,w2,he⟩:=he
     have:=jI _ _ _ he
     cases this
   case row row args=>exact⟨h3.1,RowsIn.mono h3.2 fun u w'' he=>yt _ _ he⟩
   case round l' f tmps assign body=>
    refine⟨h3.1,RoundIn.mono h3.2 fun e w'' he=>?_⟩
    cases e with
    |returned u=>exact yt _ _ he
    |panicked c=>exact absurd (jI _ _ _ he) (by simp)
    |outgrown=>
     exfalso
     obtain⟨a2,w2,he⟩:=he
     have:=jI _ _ _ he
     cases this
  |halt x w'=>
   cases x<;>simp only[Oper.uponIn] at h3 ⊢
   case panic u=>exact absurd (jI _ _ _ h3) (by simp)
 ·rename_i hw
  rw[if_neg hw] at Tn
  exact⟨Tn.1,yt _ _ Tn.2⟩
theorem AR.gL {i:Nat} {o:Oper} (hl:aY dn.length l.length=true) (hr:mB l dn [i]=true) (ho:l[i]? =some o)
  (h:∀g':eZ,Gs g' g→(∀j,k.2.2≤j→g'.nF j)→a_ .plain P g' l.toArray [o] (jb (AR P g k late l QD (i::dn))) δ):AR P g k late l QD dn δ:=
 AR.all hl hr (by simp) fun i' jJ=>by
  simp only[cq] at jJ
  subst jJ
  refine⟨o,ho,h _ ⟨rfl,rfl,rfl⟩ fun j hj k' mo=>?_⟩
  have:(if gS late (gB l.length (i'::dn))=true then none else some k)=some k':=mo
  split at this
  ·cases this
  ·cases this;exact hj
theorem AR.yG {i:Nat} {o:Oper} (hl:aY dn.length l.length=true) (hr:mB l dn [i]=true) (ho:l[i]? =some o) (fy:gS late (gB l.length (i::dn))=true)
  (h:∀g':eZ,Gs g' g→g'.wt=none→a_ .plain P g' l.toArray [o] (jb (AR P g k late l QD (i::dn))) δ):AR P g k late l QD dn δ:=
 AR.all hl hr (by simp) fun i' jJ=>by
  simp only[cq] at jJ
  subst jJ
  exact⟨o,ho,h _ ⟨rfl,rfl,rfl⟩ (if_pos fy)⟩
theorem AR.sE {i j:Nat} {o p:Oper} (hl:aY dn.length l.length=true) (hr:mB l dn [i,j]=true) (ho:l[i]? =some o) (hp:l[j]? =some p)
  (h:∀g':eZ,Gs g' g→(∀j,k.2.2≤j→g'.nF j)→a_ .plain P g' l.toArray [o] (jb (AR P g k late l QD (i::dn))) δ)
  (h':∀g':eZ,Gs g' g→(∀j,k.2.2≤j→g'.nF j)→a_ .plain P g' l.toArray [p] (jb (AR P g k late l QD (j::dn))) δ):AR P g k late l QD dn δ:=
 AR.all hl hr (by simp) fun i' jJ=>by
  have hw:∀i',∀j,k.2.2≤j→(y7 g k late (gB l.length (i'::dn))).nF j:=by
   intro i' j hj k' mo
   have:(if gS late (gB l.length (i'::dn))=true then none else some k)=some k':=mo
   split at this
   ·cases this
   ·cases this;exact hj
  simp only[bw,List.not_mem_nil,or_false] at jJ
  rcases jJ with rfl|rfl
  ·exact⟨o,ho,h _ ⟨rfl,rfl,rfl⟩ (hw _)⟩
  ·exact⟨p,hp,h' _ ⟨rfl,rfl,rfl⟩ (hw _)⟩
def fS (P:Program) (o:Oper) (δ:DS) (v:AV):Prop:=∀(g:eZ) κ a w,Rel g δ κ a w→∃u,(∀w',(execOp a.eval o).run P w'=.ok (.value u) w')∧RA (δ.cx g κ) w u v
def xI (l:List Oper) (late dn:List Nat) (i:Nat):Bool:=
 Region.noSelect l.toArray && l.all ka && (Region.ready .any l.toArray (gB l.length dn)).contains i && Region.free .any l.toArray (gB l.length dn) i && !late.contains i && aY dn.length l.length
theorem AR.free (i:Nat) {o:Oper} {v:AV} (hB:xI l late dn i=true) (ho:l[i]? =some o) (hg:o.guard=none) (hd:fT δ.n o.dst=true) (hF:fS P o δ v) (h:AR P g k late l QD (i::dn) (δ.eW o.dst v)):AR P g k late l QD dn δ:=by
 intro w8 κ a w r
 simp only[xI,aZ,cy] at hB
 obtain⟨⟨⟨⟨⟨hs,jg⟩,hr⟩,hf⟩,ZK⟩,hl⟩:=hB
 have hl':dn.length<l.length:=by simpa using hl
 obtain⟨n,hn⟩:∃n,l.length - dn.length=n+1:=⟨l.length - dn.length - 1,by omega⟩
 obtain⟨u,hu,tB⟩:=hF _ κ a w r
 have xn:i∈Region.ready .any l.toArray (gB l.length dn):=by simpa using hr
 have ga:l.toArray[i]? =some o:=by simpa using ho
 have Rz:DC l.toArray (gB l.length (i::dn)):=w8.ready xn
 have r2:Rel (y7 g k late (gB l.length (i::dn))) (δ.eW o.dst v) κ (a.put o.dst u) w:=(CS i r).eW (ft hd) tB
 have h2:=h Rz κ _ w r2
 have e1:l.length - (i::dn).length=n:=by simp;omega
 rw[e1] at h2
 rw[hn]
 refine tX (C:=fun _=>True) ga (Region.noSelect_spec hs) (fun j o hj=>?_) (fun c a w h=>Aw h) (fun _ _ _ _ _=>trivial) (fun fu w=>?_) n _ a w w8 (Region.free_spec ga hf) xn (.inl ⟨by simp [Region.wanted,hg],fun w' _=>hu w'⟩) (P7 r) h2
 ·exact(bD.1 jg) o (aU (by simpa using hj))
 ·unfold Ch;rw[xP ZK]
def p8 (ops:Array Oper) (i:Nat):Nat→Nat→Bool
 |0,_=>false
 |n+1,j=>match ops[j]? with
  |some o=>o.after.any fun e=>Region.binds .any e && (e.on==i||p8 ops i n e.on)
  |none=>false
theorem DI {ops:Array Oper} {i:Nat} {fu:Array Bool} (w8:DC ops fu):∀n j,p8 ops i n j=true→fu.getD j false=true→fu.getD i false=true:=by
 intro n
 induction n with
 |zero=>intro j h;simp [p8] at h
 |succ n ih=>
  intro j h hj
  unfold p8 at h
  cases ho:ops[j]? with
  |none=>rw[ho] at h;cases h
  |some o=>
   rw[ho] at h
   simp only at h
   obtain⟨e,he,hb⟩:=Array.any_eq_true'.1 h
   simp only[aZ,Bool.or_eq_true,beq_iff_eq] at hb
   have h1:=w8 j o ho hj e he hb.1
   rcases hb.2 with h2|h2
   ·rw[← h2];exact h1
   ·exact ih _ h2 h1
def uJ (l:List Oper) (late:List Nat):List Nat→List Nat→Bool
 |[],_=>true
 |i::r,dn=>xI l late dn i && late.all (p8 l.toArray i l.length) && uJ l late r (i::dn)
def pick (l:List Oper) (is:List Nat):List Oper:=is.filterMap (l[·]?)
theorem Ln {κ1:Kp} {w1:World} {k:Wt} {δ0:DS} (GN:k.1=w1) (qh:k.2.1=fun b=>b<w1.heap.size∧((∀i,δ0.lr i→κ1 i≠some b)∧¬κ1.Fs b)) {post:Act→Prop} {N:Nat}:
  ∀(l1 dn:List Nat) (a:Act),uJ l late l1 dn=true→DC l.toArray (gB l.length dn)→Ch k late (gB l.length dn) w1→yc P l.toArray (lR δ0 κ1 w1) post (pick l l1) a→
   (∀a',post a'→DC l.toArray (gB l.length (l1.reverse++dn))→oS ro P l.toArray (sN g QD) (Ch k late) N (gB l.length (l1.reverse++dn)) a' w1)→oS ro P l.toArray (sN g QD) (Ch k late) (l1.length+N) (gB l.length dn) a w1:=by
 intro l1
 induction l1 with
 |nil=>intro dn a _ w8 _ h hp;simpa using hp a h w8
 |cons i r ih=>
  intro dn a hB w8 hS h hp
  simp only[uJ,xI,aZ,cy] at hB
  obtain⟨⟨⟨⟨⟨⟨⟨hs,jg⟩,hr⟩,hf⟩,ZK⟩,hl⟩,Vm⟩,UH⟩:=hB
  have xn:i∈Region.ready .any l.toArray (gB l.length dn):=by simpa using hr
  obtain⟨_,o,ga,_⟩:=mem_ready.1 xn
  have ho:l[i]? =some o:=by simpa using ga
  have hpk:pick l (i::r)=o::pick l r:=by simp [pick,ho]
  rw[hpk] at h
  obtain⟨v,hy,h⟩:=h
  have nD:∀fu w,Ch k late (fu.setIfInBounds i true) w↔Ch k late fu w:=fun fu w=>by unfold Ch;rw[xP ZK]
  have ZJ:(i::r).length+N=(r.length+N)+1:=by simp;omega
  rw[ZJ]
  refine tX (C:=lR δ0 κ1 w1) ga (Region.noSelect_spec hs) (fun j o hj=>?_) (fun c a w h=>Aw h) (fun fu w hd hi hSl=>?_) nD _ _ a w1 w8 (Region.free_spec ga hf) xn hy hS ?_
  ·exact(bD.1 jg) o (aU (by simpa using hj))
  ·have jI:gS late fu=false:=by
    unfold gS
    rw[List.any_eq_false]
    intro j hj sc
    have h1:=DI hd _ _ ((bD.1 Vm) j hj) sc
    rcases cv i fu.size with h'|h'
    ·simp [h'] at hi h1;rw[hi] at h1;cases h1
    ·simp [cw h'] at h1
   have h2:=hSl jI
   rw[GN,qh] at h2
   exact fun b hb hn=>(h2 b ⟨hb,hn⟩).2
  ·have:=ih (i::dn) (a.put o.dst v) UH (w8.ready xn) ((nD _ _).2 hS) h
   refine this fun a' Lo wR=>?_
   have e:(i::r).reverse++dn=r.reverse++i::dn:=by simp
   rw[← e]
   exact hp a' Lo (by rw[e];exact wR)
theorem DC.start (l:List Oper):DC l.toArray (gB l.length []):=by
 intro j o _ hj
 have:(ca l.length false).getD j false=true:=hj
 simp [Array.getElem?_replicate] at this
 split at this<;>cases this
theorem AW.Ce {id:Nat} (l1:List Nat) (late:List Nat) {l:List Oper} (hm:P.follows .mixedOrders=true) (jk:g.wt=none) (hB:uJ l late l1 []=true) (hle:bz l1.length l.length=true)
  (h:a_ .held P g l.toArray (pick l l1) (jb fun δ'=>∀k:Wt,k.2.2=δ.nx→AR P g k late l QD l1.reverse δ') δ):AW P g (.region id l.toArray true) QD δ:=by
 intro κ a w r
 have Ji:l1.length≤l.length:=by simpa using hle
 have r1:Rel g δ κ a {w with drawn:=w.drawn+1}:=r.ext (Below.drew (Below.refl _ _))
 have h1:=h κ a _ r1
 obtain⟨k,hk⟩:∃k:Wt,k=({w with drawn:=w.drawn+1},(fun b=>b<w.heap.size∧((∀i,δ.lr i→κ i≠some b)∧¬κ.Fs b)),δ.nx):=⟨_,rfl⟩
 refine wpIn_mono (Q:=sN g QD) (wpIn_region_any hm (xG (S:=Ch k late) _ _ _ _ ?_)) (fun e a w h=>by
  cases e with
  |normal=>exact h
  |panic c=>
   obtain⟨δ',κ',h1,_,r'⟩:=h
   have e:({g with wt:=none}:eZ)=g:=by cases g;cases jk;rfl
   rw[e] at r'
   exact⟨δ',κ',h1,r'⟩
  |_=>exact h.elim)
 have og:Ch k late (gB l.length []) {w with drawn:=w.drawn+1}:=fun _ b hb=>by subst hk;exact⟨hb.1,rfl⟩
 have h2:=Ln (ro:=g.ro) (g:=g) (QD:=QD) (late:=late) (l:=l) (P:=P) (δ0:=δ) (κ1:=κ) (w1:={w with drawn:=w.drawn+1}) (k:=k) (by rw[hk]) (by rw[hk]) (N:=l.length - l1.length) l1 [] a hB (DC.start l) og h1 (fun a' Lo wR=>by
  obtain⟨δ',hq,Jl,r2⟩:=Lo
  have h3:=hq k (by rw[hk]) (by simpa using wR) κ a' {w with drawn:=w.drawn+1} (by
   have jh:∀i,δ'.ob i=δ.ob i:=fun i=>by unfold DS.ob;rw[Jl]
   refine Rel.Pt r2 (wt':=if gS late (gB l.length l1.reverse)=true then none else some k) (fun k' mo=>?_) (fun k' mo b hb zR=>?_)
   rotate_left
   ·split at mo
    ·cases mo
    ·cases mo
     subst hk
     exact zR.2.2 hb
   split at mo
   ·cases mo
   ·cases mo
    subst hk
    refine⟨fun b hb=>⟨hb.1,rfl⟩,fun i b EG uI hκ hb=>?_⟩
    rcases uI with uI|uI
    ·exact hb.2.1 i (by have:δ'.ob i=some .row:=uI;rw[jh] at this;exact this) hκ
    ·obtain⟨o,EG⟩:=EG
     rw[jh] at EG
     exact absurd (r.nx i ⟨o,EG⟩) (Nat.not_lt.2 uI))
  simpa using h3)
 have e:l1.length+(l.length - l1.length)=l.toArray.size:=by simp;omega
 rw[e] at h2
 have e2:gB l.length []=ca l.toArray.size false:=by simp [gB]
 rw[e2] at h2
 exact h2
end Go.Ab
/- Maps with whole numbers as keys:read,grown,written. -/
namespace Go.Ab
open Go Go.RowKit
variable {q:Md} {P:Program} {g:eZ} {δ:DS} {κ:Kp} {a:Act} {w:World}
variable {gd:Option (Tmp×Bool)} {ops:Array Oper} {rest:List Oper} {Q:Exit→DS→Prop} {dst:Option Nat} {ty:TypeId} {pos:String} {af:Array Edge}
def jV:List (Int×AV)→Int→Option AV
 |[],_=>none
 |(k,v)::l,m=>if m=k then some v else jV l m
def jl (l:List (Int×AV)):List (Value×AV):=l.map fun p=>(.int .i64 p.1,p.2)
def j7 (xs:List Int):List (Int×AV):=xs.map fun x=>(x,fq true)
theorem Ak (xs:List Int) (m:Int):jV (j7 xs) m=if m∈xs then some (fq true) else none:=by
 induction xs with
 |nil=>rfl
 |cons x xs ih=>
  show(if m=x then some (fq true) else jV (j7 xs) m)=_
  by_cases h:m=x
  ·simp [h]
  ·simp [h,ih]
theorem pV {C:Cx} {w:World} (m:Int):∀(es:List MapEntry) (l:List (Int×AV)) (i:Nat),es.length=l.length→
  (∀(j:Nat) (e:MapEntry) (p:Int×AV),es[j]? =some e→l[j]? =some p→e.key=.int .i64 p.1∧RA C w e.val p.2)→
  (jV l m=none∧Instr.findNow (.int .i64) (.int .i64 m) es i=some none)∨
  (∃(j:Nat) (e:MapEntry) (v:AV),jV l m=some v∧Instr.findNow (.int .i64) (.int .i64 m) es i=some (some (i+j,e.val))∧es[j]? =some e∧l[j]? =some (m,v)∧RA C w e.val v):=by
 intro es
 induction es with
 |nil=>intro l i hs _;have:l=[]:=bk hs.symm;subst this;exact .inl ⟨rfl,rfl⟩
 |cons e es ih=>
  intro l i hs h
  cases l with
  |nil=>simp at hs
  |cons p l=>
   obtain⟨k,v⟩:=p
   have h0:=h 0 e (k,v) rfl rfl
   by_cases hk:m=k
   ·subst hk
    refine .inr ⟨0,e,v,by simp [jV],?_,rfl,rfl,h0.2⟩
    simp [Instr.findNow,h0.1,Instr.sameNow]
   ·have hf:Instr.findNow (.int .i64) (.int .i64 m) (e::es) i=Instr.findNow (.int .i64) (.int .i64 m) es (i+1):=by
     have hb:(m==k)=false:=by simp [hk]
     simp [Instr.findNow,h0.1,Instr.sameNow,hb]
    rcases ih l (i+1) (by simpa using hs) (fun j e p h1 h2=>h (j+1) e p (by simpa using h1) (by simpa using h2)) with ⟨h1,h2⟩|⟨j,e',v',h1,h2,h3,h4,h5⟩
    ·exact .inl ⟨by simp [jV,hk,h1],hf.trans h2⟩
    ·exact .inr ⟨j+1,e',v',by simp [jV,hk,h1],by rw[hf,h2];simp;omega,by simpa using h3,by simpa using h4,h5⟩
theorem Rel.UF (r:Rel g δ κ a w) {u:Value} {i:Nat} {l:List (Value×AV)} (h:RA (δ.cx g κ) w u (.gx i)) (ho:δ.ob i=some (.mp l)):
  ∃b es clock,u=.map (some b)∧κ i=some b∧w.heap[b]? =some (.map es clock)∧mT (δ.cx g κ) w es l∧qZ es clock∧∀p∈l,p.2.kT=true:=by
 cases h with
 | @gx _ b hl hκ=>
  obtain⟨b',es,clock,h1,h2,h3,h4⟩:=r.obj i _ ho
  have:b'=b:=Option.some.inj (h1.symm.trans hκ)
  subst this
  exact⟨b',es,clock,rfl,h1,h2,h3,h4⟩
theorem mT.jl {C:Cx} {w:World} {es:Array MapEntry} {l:List (Int×AV)} (h:mT C w es (jl l)):
  es.toList.length=l.length∧∀(j:Nat) (e:MapEntry) (p:Int×AV),es.toList[j]? =some e→l[j]? =some p→e.key=.int .i64 p.1∧RA C w e.val p.2:=by
 refine⟨by simpa [Ab.jl] using h.1,fun j e p h1 h2=>?_⟩
 exact h.2 j e (.int .i64 p.1,p.2) (by simpa using h1) (by simp [Ab.jl,h2])
theorem lM {kt:TypeId} {es:Array MapEntry} {m:Int} {x:Option (Nat×Value)} (hk:P.underlying kt=some (.int .i64)) (h:Instr.findNow (.int .i64) (.int .i64 m) es.toList 0=some x) (w:World):(Instr.findKey kt (.int .i64 m) es.toList).run P w=.ok x w:=MapKept.run_findKey hk h
theorem pL {t kt et:TypeId} {b:Nat} {es:Array MapEntry} {clock:Nat} {m:Int} {z:Value} {x:Option (Nat×Value)} {w:World} (ht:P.underlying t=some (.map kt et)) (hk:P.underlying kt=some (.int .i64)) (hz:(P.info? et).bind (·.zero)=some z)
  (hb:w.heap[b]? =some (.map es clock)) (h:Instr.findNow (.int .i64) (.int .i64 m) es.toList 0=some x) (ok:Bool):
  (Instr.lookup t (.map (some b)) (.int .i64 m) ok).run P w=.ok (if ok then .tuple #[(x.map (·.2)).getD z,.bool x.isSome] else (x.map (·.2)).getD z) w:=by
 have Ey:∀w,(zeroValue et).run P w=.ok z w:=fun w=>by
  cases hi:P.info? et with
  |none=>rw[hi] at hz;simp at hz
  |some i=>rw[hi] at hz;simp at hz;simp [zeroValue,typeInfo,hi,hz]
 have Ju:∀e,(Instr.checkKey e (9999+1) kt (.int .i64 m)).run P w=.ok () w:=fun e=>MapKept.run_checkKey hk (by simp [MapKept.IsKey]) e 9999
 cases x with
 |none=>simp [Instr.lookup,run_underlying ht,MapKept.run_getObj_map hb,Ju,lM hk h,Ey]
 |some p=>simp [Instr.lookup,run_underlying ht,MapKept.run_getObj_map hb,Ju,lM hk h]
theorem a_.lookup {x y:Operand} {t kt et:TypeId} {i:Nat} {l:List (Int×AV)} {m:Int} {z:Value} {v:AV} (hx:δ.ev x=.gx i) (jh:δ.ob i=some (.mp (jl l))) (hy:δ.ev y=eU m) (ht:P.underlying t=some (.map kt et)) (hk:P.underlying kt=some (.int .i64)) (hz:(P.info? et).bind (·.zero)=some z)
  (hv:(jV l m).getD (.pv (.lit z))=v) (ho:fj x=true) (ga:fj y=true) (hd:fT δ.n dst=true) (hK:a_ q P g ops rest Q (δ.eW dst v)):a_ q P g ops (⟨dst,.lookup t x y false,ty,pos,af,none⟩::rest) Q δ:=
 a_.jG _ hd (fun κ a w r=>by
  obtain⟨b,es,clock,h1,h2,h3,h4,h5,Be⟩:=r.UF (r.ra hx ho) jh
  obtain⟨h6,h7⟩:=h4.jl
  have hb:∀w',lR δ κ w w'→w'.heap[b]? =some (.map es clock):=fun w' jf=>(jf b (je h3) (r.EJ ⟨_,jh,rfl⟩ h2)).trans h3
  subst hv
  rcases pV m es.toList l 0 h6 h7 with ⟨h8,h9⟩|⟨j,e,v',h8,h9,xm,Hx,Qa⟩
  ·refine⟨z,fun w' jf=>?_,by rw[h8];exact .pv (.lit _)⟩
   have:=pL ht hk hz (hb w' jf) h9 false
   simp [execOp,r.lit hy ga,h1,this]
  ·refine⟨e.val,fun w' jf=>?_,by rw[h8];exact Qa⟩
   have:=pL ht hk hz (hb w' jf) h9 false
   simp [execOp,r.lit hy ga,h1,this]) hK
theorem a_.Gl {x y:Operand} {t kt et:TypeId} {i:Nat} {xs:List Int} {m:Int} (hx:δ.ev x=.gx i) (jh:δ.ob i=some (.mp (jl (j7 xs)))) (hy:δ.ev y=eU m) (ht:P.underlying t=some (.map kt et)) (hk:P.underlying kt=some (.int .i64)) (hz:(P.info? et).bind (·.zero)=some (.bool false))
  (ho:fj x=true) (ga:fj y=true) (hd:fT δ.n dst=true) (hK:a_ q P g ops rest Q (δ.eW dst (fq (decide (m∈xs))))):a_ q P g ops (⟨dst,.lookup t x y false,ty,pos,af,none⟩::rest) Q δ:=
 a_.lookup hx jh hy ht hk hz (by rw[Ak];by_cases h:m∈xs<;>simp [h]) ho ga hd hK
theorem iV.makeMap {t:TypeId} (hd:fT δ.n dst=true):iV P g ⟨dst,.makeMap t none,ty,pos,af,gd⟩ δ ((δ.fQ (.mp (jl []))).eW dst (.gx δ.nx)):=by
 intro κ a w r
 have fF:(execOp a.eval ⟨dst,.makeMap t none,ty,pos,af,gd⟩).run P w=.ok (.value (.map (some w.heap.size))) (w.alloc (.map #[] 0)):=by
  have h0:(Instr.makeMap t none).run P w=.ok (.map (some w.heap.size)) (w.alloc (.map #[] 0)):=rfl
  simp [execOp,h0]
 obtain⟨r',G⟩:=r.grow (.mp (jl [])) (.map #[] 0) (fun C G hκ=>⟨w.heap.size, #[],0,hκ,heap_alloc_new w _,⟨rfl,fun j e p h=>by simp at h⟩,⟨rfl,fun j e h=>by simp at h⟩,fun p h=>by simp [jl] at h⟩)
 refine .inl ⟨_,_,_,_,fF,.inl rfl,r'.eW (ft hd) ?_⟩
 exact .gx ⟨_,by show(δ.fQ _).ob _=_;rw[f_,if_pos rfl],rfl⟩ (by show ig _ _ _ _=_;simp [ig])
theorem a_.makeMap {t:TypeId} (hd:fT δ.n dst=true) (hK:a_ .plain P g ops rest Q ((δ.fQ (.mp (jl []))).eW dst (.gx δ.nx))):a_ .plain P g ops (⟨dst,.makeMap t none,ty,pos,af,none⟩::rest) Q δ:=a_.s6 rfl rfl (iV.makeMap hd) hK
theorem iL.rM (w:World) (b:Nat) (o:Obj):iL w {w with heap:=w.heap.setIfInBounds b o} (some b):=
 ⟨rfl,rfl,rfl,by simp,fun k _ h=>by
  show(w.heap.setIfInBounds b o)[k]? =_
  rw[aS,if_neg (fun e=>h (by rw[e]))]⟩
theorem kN {w:World} {b:Nat} {o o':Obj} (h:w.heap[b]? =some o):({w with heap:=w.heap.setIfInBounds b o'}:World).heap[b]? =some o':=(MapKept.heap_set h).1
theorem jz (l l':List (Int×AV)):jl (l++l')=jl l++jl l':=by simp [jl]
theorem mT.push {C:Cx} {w:World} {es:Array MapEntry} {l:List (Int×AV)} {clock:Nat} (h:mT C w es (Ab.jl l)) (hs:qZ es clock) (m:Int) {u:Value} {v:AV} (hu:RA C w u v):
  mT C w (es.push {key:=.int .i64 m,val:=u,born:=clock}) (Ab.jl (l++ [(m,v)]))∧qZ (es.push {key:=.int .i64 m,val:=u,born:=clock}) (clock+1):=by
 have nQ:es.size=(Ab.jl l).length:=h.1
 refine⟨⟨by rw[jz];simp [nQ,Ab.jl],fun j e p h1 h2=>?_⟩,by simp [hs.1],fun j e h1=>?_⟩
 ·rw[jz] at h2
  rw[cz] at h1
  by_cases hj:j=es.size
  ·rw[if_pos hj] at h1
   cases h1
   rw[aV aJ,hj,nQ] at h2
   simp [Ab.jl] at h2
   subst h2
   exact⟨rfl,hu⟩
  ·rw[if_neg hj] at h1
   have fy:j<es.size:=(aO.1 h1).1
   rw[aT aJ] at h2
   exact h.2 j e p h1 h2
 ·rw[cz] at h1
  by_cases hj:j=es.size
  ·rw[if_pos hj] at h1;cases h1;rw[hs.1,hj]
  ·rw[if_neg hj] at h1;exact hs.2 j e h1
theorem iV.pP {x y:Operand} {t kt et:TypeId} {i:Nat} {l:List (Int×AV)} {m:Int} {z:Value} (hx:δ.ev x=.gx i) (jh:δ.ob i=some (.mp (jl l))) (hy:δ.ev y=eU m) (hn:jV l m=none) (ht:P.underlying t=some (.map kt et)) (hk:P.underlying kt=some (.int .i64)) (hz:(P.info? et).bind (·.zero)=some z)
  (ho:fj x=true) (ga:fj y=true) (hd:fT δ.n dst=true) (Ex:g.nF i):
  iV P g ⟨dst,.mapEntry t x y,ty,pos,af,gd⟩ δ ((δ.gu i (some (.mp (jl (l++ [(m,.pv (.lit z))]))))).eW dst (.gY [.pv (.lit z),eU l.length])):=by
 intro κ a w r
 obtain⟨b,es,clock,h1,h2,h3,h4,h5,Be⟩:=r.UF (r.ra hx ho) jh
 obtain⟨h6,h7⟩:=h4.jl
 have Ey:∀w,(zeroValue et).run P w=.ok z w:=fun w=>by
  cases hi:P.info? et with
  |none=>rw[hi] at hz;simp at hz
  |some i=>rw[hi] at hz;simp at hz;simp [zeroValue,typeInfo,hi,hz]
 have Ju:∀e,(Instr.checkKey e (9999+1) kt (.int .i64 m)).run P w=.ok () w:=fun e=>MapKept.run_checkKey hk (by simp [MapKept.IsKey]) e 9999
 have hf:Instr.findNow (.int .i64) (.int .i64 m) es.toList 0=some none:=by
  rcases pV m es.toList l 0 h6 h7 with ⟨h8,h9⟩|⟨j,e,v',h8,h9,xm,Hx,Qa⟩
  ·exact h9
  ·rw[hn] at h8;cases h8
 have fF:(execOp a.eval ⟨dst,.mapEntry t x y,ty,pos,af,gd⟩).run P w=.ok (.value (.tuple #[z,.int .i64 clock])) {w with heap:=w.heap.setIfInBounds b (.map (es.push {key:=.int .i64 m,val:=z,born:=clock}) (clock+1))}:=by
  simp [execOp,r.lit hy ga,h1,Instr.mapEntry,run_underlying ht,MapKept.run_getObj_map h3,Ju,lM hk hf,Ey,MapKept.run_setObj_map _ h3,goInt]
 have iX:(clock:Int)=(l.length:Int):=by
  have:es.size=l.length:=by simpa using h6
  rw[h5.1,this]
 obtain⟨r',G⟩:=r.modify (o':=.mp (jl (l++ [(m,.pv (.lit z))]))) jh rfl rfl h2 Ex (iL.rM w b (.map (es.push {key:=.int .i64 m,val:=z,born:=clock}) (clock+1))) (by simp) (fun C hC G=>by
  have h8:mT C {w with heap:=w.heap.setIfInBounds b (.map (es.push {key:=.int .i64 m,val:=z,born:=clock}) (clock+1))} es (jl l):=h4.lJ G
  obtain⟨h9,xm⟩:=h8.push h5 m (u:=z) (v:=.pv (.lit z)) (.pv (.lit _))
  exact⟨b,_,_,by rw[hC];exact h2,kN h3,h9,xm,fun p hp=>by
   rw[jz] at hp
   rcases bX.1 hp with hp|hp
   ·exact Be p hp
   ·simp [jl] at hp;subst hp;rfl⟩)
 refine .inl ⟨_,_,_,_,fF,.inl rfl,r'.eW (ft hd) ?_⟩
 exact E6 (.pv (.lit _)) (by rw[iX];exact .pv (.lit _))
theorem iV.wI {x y s:Operand} {t:TypeId} {i n:Nat} {l:List (Int×AV)} {m:Int} {v0 v:AV} (hx:δ.ev x=.gx i) (jh:δ.ob i=some (.mp (jl (l++ [(m,v0)])))) (hs:δ.ev s=eU n) (hn:n=l.length) (hy:δ.ev y=v) (Jq:v.kT=true)
  (ho:fj x=true) (qt:fj s=true) (ga:fj y=true) (hd:fT δ.n dst=true) (Ex:g.nF i):
  iV P g ⟨dst,.entryStore t x s y,ty,pos,af,gd⟩ δ ((δ.gu i (some (.mp (jl (l++ [(m,v)]))))).eW dst .any):=by
 intro κ a w r
 subst hn
 obtain⟨b,es,clock,h1,h2,h3,h4,h5,Be⟩:=r.UF (r.ra hx ho) jh
 have yN:=r.ra hy ga
 have nQ:es.size=l.length+1:=by have:=h4.1;simpa [jl] using this
 have Nc:es.findIdx? (fun e=>(e.born:Int)==(l.length:Int))=some l.length:=by
  rw[Array.findIdx?_eq_some_iff_getElem]
  refine⟨by omega,?_,fun j hj=>?_⟩
  ·have:=h5.2 l.length es[l.length] (aN aJ)
   simp [this]
  ·have:=h5.2 j es[j] (aN aJ)
   simp only[this]
   simp
   omega
 have fF:(execOp a.eval ⟨dst,.entryStore t x s y,ty,pos,af,gd⟩).run P w=.ok .skip {w with heap:=w.heap.setIfInBounds b (.map (es.modify l.length fun e=>{e with val:=a.eval y}) clock)}:=by
  have hai:∀w,(asInt (.int .i64 (l.length:Int))).run P w=.ok (l.length:Int) w:=fun _=>rfl
  simp only[execOp,r.lit hs qt,h1,Instr.entryStore,Sem.run_bind,MapKept.run_getObj_map h3,Result.andThen_ok,hai,Nc,MapKept.run_setObj_map _ h3,Sem.run_pure]
 obtain⟨r',G⟩:=r.modify (o':=.mp (jl (l++ [(m,v)]))) jh rfl rfl h2 Ex (iL.rM w b (.map (es.modify l.length fun e=>{e with val:=a.eval y}) clock)) (by simp) (fun C hC G=>by
  refine⟨b,_,_,by rw[hC];exact h2,kN h3,⟨by simp [jl,nQ],fun j e p h8 h9=>?_⟩,⟨by simp [h5.1],fun j e h8=>?_⟩,fun p hp=>?_⟩
  ·rw[cA] at h8
   rw[jz] at h9
   by_cases hj:l.length=j
   ·rw[if_pos hj] at h8
    subst hj
    rw[bh] at h8
    obtain⟨e0,h8,rfl⟩:=h8
    rw[aV (by simp [jl])] at h9
    simp [jl] at h9
    subst h9
    refine⟨?_,G.ra yN⟩
    exact(h4.2 l.length e0 (.int .i64 m,v0) h8 (by rw[jz,aV (by simp [jl])];simp [jl])).1
   ·rw[if_neg hj] at h8
    have fy:j<l.length:=by have:=(aO.1 h8).1;omega
    rw[aT (by simpa [jl] using fy)] at h9
    obtain⟨xm,Hx⟩:=h4.2 j e p h8 (by rw[jz,aT (by simpa [jl] using fy)];exact h9)
    exact⟨xm,G.ra Hx⟩
  ·rw[cA] at h8
   by_cases hj:l.length=j
   ·rw[if_pos hj] at h8
    rw[bh] at h8
    obtain⟨e0,h8,rfl⟩:=h8
    exact h5.2 j e0 h8
   ·rw[if_neg hj] at h8;exact h5.2 j e h8
  ·rw[jz] at hp
   rcases bX.1 hp with hp|hp
   ·exact Be p (by rw[jz];exact bX.2 (.inl hp))
   ·simp [jl] at hp;subst hp;exact Jq)
 exact .inl ⟨_,_,_,_,fF,.inr ⟨rfl,rfl⟩,r'.eW (ft hd) (.any _)⟩
theorem C5 (xs:List Int) (m:Int):j7 (xs++ [m])=j7 xs++ [(m,fq true)]:=by simp [j7]
end Go.Ab
namespace Go.Ab
section
variable {q:Md} {P:Program} {g:eZ} {δ:DS} {ops:Array Oper} {rest:List Oper} {Q:Exit→DS→Prop} {dst:Option Nat} {ty:TypeId} {pos:String} {af:Array Edge}
theorem a_.jB {fn:Go.Fn} {x:Operand} {i o:Nat} (hx:δ.ev x=.ptr i o) (ho:fj x=true) (hd:fT δ.n dst=true) (hK:a_ q P g ops rest Q (δ.eW dst (.jx fn [] [.ptr i o]))):a_ q P g ops (⟨dst,.makeFunc fn #[] #[x],ty,pos,af,none⟩::rest) Q δ:=
 a_.jG _ hd (fun κ a w r=>⟨.func fn #[] #[a.eval x],fun w' _=>by simp [execOp,Instr.makeFunc],.jx rfl (fun j u c h=>by simp at h) rfl (fun j u c h1 h2=>by
  match j with
  |0=>simp at h1 h2;subst h1;subst h2;exact r.ra hx ho
  |j+1=>simp at h2)⟩) hK
theorem a_.EK {fn:Go.Fn} {x:Operand} {i o:Nat} (hx:δ.ev x=.ptr i o) (ho:fj x=true) (hd:fT δ.n dst=true) (hK:a_ q P g ops rest Q (δ.eW dst (.jx fn [.ptr i o] []))):a_ q P g ops (⟨dst,.makeFunc fn #[x] #[],ty,pos,af,none⟩::rest) Q δ:=
 a_.jG _ hd (fun κ a w r=>⟨.func fn #[a.eval x] #[],fun w' _=>by simp [execOp,Instr.makeFunc],.jx rfl (fun j u c h1 h2=>by
  match j with
  |0=>simp at h1 h2;subst h1;subst h2;exact r.ra hx ho
  |j+1=>simp at h2) rfl (fun j u c h=>by simp at h)⟩) hK
theorem a_.iu {x:Operand} {fn:Go.Fn} {a b:List AV} (hx:δ.ev x=.jx fn a b) (ho:fj x=true) (hd:fT δ.n dst=true) (hK:a_ q P g ops rest Q (δ.eW dst (.jx fn a b))):a_ q P g ops (⟨dst,.move x,ty,pos,af,none⟩::rest) Q δ:=a_.move hx ho hd hK
end
end Go.Ab
namespace Go.Ab
section
variable {P:Program} {δ:DS} {dst:Option Nat} {ty:TypeId} {pos:String} {af:Array Edge} {gd:Option (Tmp×Bool)}
theorem fS.iD {x:Operand} {p:PV} (hx:δ.ev x=.pv p) (ho:fj x=true):fS P ⟨dst,.move x,ty,pos,af,gd⟩ δ (.pv p):=fun _ _ a _ r=>⟨a.eval x,fun _=>rfl,hx▸r.Ez x (iQ ho)⟩
theorem fS.fN {x:Operand} {i o:Nat} (hx:δ.ev x=.ptr i o) (ho:fj x=true):fS P ⟨dst,.move x,ty,pos,af,gd⟩ δ (.ptr i o):=fun _ _ a _ r=>⟨a.eval x,fun _=>rfl,hx▸r.Ez x (iQ ho)⟩
theorem fS.nilCheck {x:Operand} {i o:Nat} (hx:δ.ev x=.ptr i o) (ho:fj x=true):fS P ⟨dst,.nilCheck x,ty,pos,af,gd⟩ δ (.ptr i o):=fun _ _ a _ r=>by
 have h1:=r.ra hx ho
 generalize hu:a.eval x=u at h1
 cases h1 with
 |ptr hl hκ=>exact⟨_,fun w'=>by simp [execOp,hu],.ptr hl hκ⟩
end
section
variable {P:Program} {g:eZ} {δ:DS} {ops:Array Oper} {rest:List Oper} {Q:Exit→DS→Prop} {dst:Option Nat} {ty:TypeId} {pos:String} {af:Array Edge}
theorem a_.pP {x y:Operand} {t kt et:TypeId} {i:Nat} {xs:List Int} {m:Int} (hx:δ.ev x=.gx i) (jh:δ.ob i=some (.mp (jl (j7 xs)))) (hy:δ.ev y=eU m) (ht:P.underlying t=some (.map kt et)) (hk:P.underlying kt=some (.int .i64)) (hz:(P.info? et).bind (·.zero)=some (.bool false))
  (ho:fj x=true) (ga:fj y=true) (hd:fT δ.n dst=true) (jk:g.wt=none) (hn:m∉xs)
  (hK:a_ .plain P g ops rest Q ((δ.gu i (some (.mp (jl (j7 xs++ [(m,fq false)]))))).eW dst (.gY [fq false,eU xs.length]))):a_ .plain P g ops (⟨dst,.mapEntry t x y,ty,pos,af,none⟩::rest) Q δ:=
 a_.s6 rfl rfl (iV.pP hx jh hy (by rw[Ak,if_neg hn]) ht hk hz ho ga hd (kg jk i)) (by simpa [j7] using hK)
theorem a_.xN {x y s:Operand} {t:TypeId} {i:Nat} {xs:List Int} {m:Int} (hx:δ.ev x=.gx i) (jh:δ.ob i=some (.mp (jl (j7 xs++ [(m,fq false)])))) (hs:δ.ev s=eU xs.length) (hy:δ.ev y=fq true)
  (ho:fj x=true) (qt:fj s=true) (ga:fj y=true) (hd:fT δ.n dst=true) (jk:g.wt=none)
  (hK:a_ .plain P g ops rest Q ((δ.gu i (some (.mp (jl (j7 (xs++ [m])))))).eW dst .any)):a_ .plain P g ops (⟨dst,.entryStore t x s y,ty,pos,af,none⟩::rest) Q δ:=
 a_.s6 rfl rfl (iV.wI (l:=j7 xs) hx jh hs (by simp [j7]) hy rfl ho qt ga hd (kg jk i)) (by rw[C5] at hK;exact hK)
end
end Go.Ab
/- Ranging over a function:the loop's code behind names. -/
namespace Go.Ab
open Go Go.RowKit
attribute [local irreducible] HS
variable {P:Program} {g:eZ} {δ:DS} {κ:Kp} {a:Act} {w:World}
variable {ops:Array Oper} {rest:List Oper} {Q:Exit→DS→Prop} {dst:Option Nat} {ty:TypeId} {pos:String} {af:Array Edge}
def Fg (ps':Array Tmp) (asg' body':Code) (ps:List Tmp) (ji body:Code):Prop:=ps'=ps.toArray∧asg'=ji∧body'=body
theorem AW.F0 {x:Operand} {ps:List Tmp} {ji body:Code} {f:FuncId} {first cap:List AV} {fn:Func} {c:Code} {n':Nat} (Cv:g.ro=none) (jk:g.wt=none) (hx:δ.ev x=.jx (.func f) first cap) (ho:fj x=true)
  (hf:P.funcs[f]? =some fn) (hb:fn.body=some c) (EY:fn.results= #[]) (hn:fn.ntmps=n') (hle:bz (first.length+1+cap.length) n'=true) (OX:bz n' HS=true) (gR:bz δ.n HS=true) (he:(fn.name== "runtime.NumGoroutine")=false)
  (h:∀(g':eZ) (tm:Array Value) (l:Nat) (ps':Array Tmp) (asg' body':Code),Fg ps' asg' body' ps ji body→g'.ro=none→g'.wt=none→(∀j,j<HS→g'.held (j+HS)=tm.getD j undef)→tm.size=δ.n→
   AW P g' c (fH δ.n δ.nx l Q) {n:=n',env:=enum 0 (first++ .lT δ.nx::cap)++gZ δ.env,gv:=(δ.nx,some (.loop l tm ps' asg' body' .ready))::δ.gv,nx:=δ.nx+1}):
  AW P g (.rangeFunc x ps.toArray ji body) Q δ:=
 AW.rangeFunc Cv jk hx ho hf hb EY hn hle OX gR he fun g' tm l h1 h2 h3 h4=>h g' tm l _ _ _ ⟨rfl,rfl,rfl⟩ h1 h2 h3 h4
theorem a_.Ss {x:Operand} {ys:List Operand} {tys:Array TypeId} {i l n0:Nat} {tm:Array Value} {ps:List Tmp} {ji body:Code} {ps':Array Tmp} {asg' body':Code} (Au:Fg ps' asg' body' ps ji body) (Cv:g.ro=none) (jk:g.wt=none) (wz:∀j,j<HS→g.held (j+HS)=tm.getD j undef) (II:tm.size=n0)
  (CC:bz n0 HS=true)
  (hx:δ.ev x=.lT i) (jh:δ.ob i=some (.loop l tm ps' asg' body' .ready)) (ho:fj x=true) (T4:ys.all fj=true) (hlen:aL ys.length ps.length=true) (Re:ps.all (fun t=>aY t n0)=true) (wR:fT δ.n dst=true)
  (h:∀g':eZ,g'.ro=some l→g'.wt=none→AW P g' ji (gr (fun δ1=>qD δ1 i l .ready∧AW P g' body (vN δ.n i l (fun b st δ2=>a_ .plain P g ops rest Q ((δ2.pB i st).eW dst (fq b)))) (δ1.pB i .busy)) (fun _ _=>False)) (uO n0 ps (ys.map δ.ev) δ)):
  a_ .plain P g ops (⟨dst,.call {callee:=.value x,args:=ys.toArray,argTypes:=tys},ty,pos,af,none⟩::rest) Q δ:=by
 obtain⟨rfl,rfl,rfl⟩:=Au
 exact a_.yield Cv jk wz II CC hx jh ho T4 hlen Re wR h
theorem yZ {n i l:Nat} {tm ps ji body} {e:Exit} (he:e=.normal∨e=.ret) (ho:δ.ob i=some (.loop l tm ps ji body .ready)) (h:Q .normal (l6 n i δ)):fH n i l Q e δ:=by
 rcases he with rfl|rfl<;>(show G3 l Q (l6 n i δ) (δ.ob i);rw[ho];exact⟨rfl,h⟩)
theorem zf {n i l id:Nat} {tm ps ji body} {e:Exit} (he:e=.normal∨e=.ret) (ho:δ.ob i=some (.loop l tm ps ji body (.done (.exit id)))) (h:Q (.exit id) (l6 n i δ)):fH n i l Q e δ:=by
 rcases he with rfl|rfl<;>(show G3 l Q (l6 n i δ) (δ.ob i);rw[ho];exact⟨rfl,h⟩)
end Go.Ab
/- Weakening:maps told as sets,loops. -/
namespace Go.Ab
open Go Go.RowKit
variable {δ δ':DS} {i:Nat}
theorem L5 {lr lb:Nat→Bool} (xs:List Int):∀p∈jl (j7 xs),p.2.ids lr lb=true:=by
 intro p hp
 unfold jl j7 at hp
 simp only[cB,bx] at hp
 obtain⟨x,_,rfl⟩:=hp
 rfl
theorem WO.set {xs:List Int} (h:δ.ob i=some (.mp (jl (j7 xs)))):WO δ δ' i (.mp (jl (j7 xs))):=.mp h (L5 xs)
theorem WO.T8 {xs ys:List Int} (h:δ.ob i=some (.mp (jl (j7 xs)))) (e:xs=ys):WO δ δ' i (.mp (jl (j7 ys))):=e▸ .set h
end Go.Ab
namespace Go.Ab
open Go Go.RowKit
section
variable {q:Md} {P:Program} {g:eZ} {δ:DS} {ops:Array Oper} {rest:List Oper} {Q:Exit→DS→Prop} {dst:Option Nat} {ty:TypeId} {pos:String} {af:Array Edge}
theorem a_.xR {α:Type} {x y:Operand} {t e e':TypeId} {i k:Nat} {m:Int} {f:α→List PV} {l:List α} (hx:δ.ev x=.own i e' k (l.map f)) (hy:δ.ev y=eU m)
  (ht:P.underlying t=some (.slice e)) (hk:(P.info? e).map (·.size)=some k) (ho:fj x=true) (ga:fj y=true) (hd:fT δ.n dst=true) (h0:0≤m) (hn:m<l.length)
  (hK:a_ q P g ops rest Q (δ.eW dst (.gX i e' k (l.map f) m.toNat))):a_ q P g ops (⟨dst,.indexAddr t x y,ty,pos,af,none⟩::rest) Q δ:=
 a_.r6 (n:=m.toNat) hx (by rw[hy];show eU m=eU _;rw[b9 h0]) (by simp;omega) ht hk ho ga hd hK
theorem a_.Bj {α:Type} {x:Operand} {t e:TypeId} {i:Nat} {m:Nat} {f:α→PV} {l:List α} (hx:δ.ev x=.gX i e 1 (l.map fun z=>[f z]) m) (ht:ju P t=true) (ho:fj x=true) (hd:fT δ.n dst=true) (hq:q≠ .held) (hn:m<l.length)
  (hK:a_ q P g ops rest Q (δ.eW dst (.pv (f l[m])))):a_ q P g ops (⟨dst,.load t x,ty,pos,af,none⟩::rest) Q δ:=
 a_.DH hq hx hn ht ho hd hK
end
end Go.Ab
/- States written out:laws by which a state's term is brought to its plain form. -/
namespace Go.Ab
open Go Go.RowKit
namespace Nf
variable {n x:Nat} {e:List (Nat×AV)} {o:List (Nat×Option Ob)}
theorem beq (i j:Nat):aL i j=(i==j):=by
 by_cases h:i=j
 ·subst h;simp
 ·rw[nm h];exact(beq_eq_false_iff_ne.2 h).symm
theorem ble (i j:Nat):bz i j=(i - j==0):=by
 by_cases h:i≤j
 ·have h1:bz i j=true:=by simpa using h
  have h2:i - j=0:=by omega
  rw[h1,h2];rfl
 ·have h1:bz i j=false:=by
   cases hh:bz i j with
   |false=>rfl
   |true=>exact absurd (by simpa using hh) h
  rw[h1];exact(beq_eq_false_iff_ne.2 aJ).symm
theorem hs:HS=1000:=rfl
theorem c_t {α:Type} (a b:α):(bif true then a else b)=a:=rfl
theorem c_f {α:Type} (a b:α):(bif false then a else b)=b:=rfl
theorem put (d:Nat) (v:AV):DS.eW ⟨n,e,o,x⟩ (some d) v=⟨n,(d,v)::e,o,x⟩:=rfl
theorem XW (v:AV):DS.eW ⟨n,e,o,x⟩ none v=⟨n,e,o,x⟩:=rfl
theorem add (b:Ob):DS.fQ ⟨n,e,o,x⟩ b=⟨n,e,(x,some b)::o,x+1⟩:=rfl
theorem set (i:Nat) (b:Option Ob):DS.gu ⟨n,e,o,x⟩ i b=⟨n,e,(i,b)::o,x⟩:=rfl
theorem pn:(DS.mk n e o x).n=n:=rfl
theorem pe:(DS.mk n e o x).env=e:=rfl
theorem po:(DS.mk n e o x).gv=o:=rfl
theorem px:(DS.mk n e o x).nx=x:=rfl
theorem Z8 (t:Nat):DS.ev ⟨n,e,o,x⟩ (.tmp t)=look e t:=rfl
theorem Xp (v:Value):DS.ev ⟨n,e,o,x⟩ (.const v)=.pv (.lit v):=rfl
theorem Zg (f:Nat):DS.ev ⟨n,e,o,x⟩ (.func f)=.jx (.func f) [] []:=rfl
theorem TU (j:Nat):look [] j=.any:=rfl
theorem U2 (i j:Nat) (v:AV) (r:List (Nat×AV)):look ((i,v)::r) j=bif aL i j then v else look r j:=rfl
theorem start (args:List AV):start n args=⟨n,enum 0 args,[],0⟩:=rfl
theorem en0 (i:Nat):enum i []=[]:=rfl
theorem en1 (i:Nat) (v:AV) (r:List AV):enum i (v::r)=(i,v)::enum (i+1) r:=rfl
def BK (e:List (Nat×AV)):List Operand→List AV
 |[]=>[]
 |.tmp t::r=>look e t::BK e r
 |.const v::r=> .pv (.lit v)::BK e r
 |.global _::r=> .any::BK e r
 |.func f::r=> .jx (.func f) [] []::BK e r
theorem vr:∀xs:List Operand,xs.map (DS.ev ⟨n,e,o,x⟩)=BK e xs
 |[]=>rfl
 |.tmp t::r=>by simp only[bB,BK,vr r];rfl
 |.const v::r=>by simp only[bB,BK,vr r];rfl
 |.global v::r=>by simp only[bB,BK,vr r];rfl
 |.func f::r=>by simp only[bB,BK,vr r];rfl
theorem Ot (δ:DS) (xs:List Operand):xs.map δ.ev=BK δ.env xs:=vr (n:=δ.n) (o:=δ.gv) (x:=δ.nx) xs
theorem Yw:BK e []=[]:=rfl
theorem UM (t:Nat) (r:List Operand):BK e (.tmp t::r)=look e t::BK e r:=rfl
theorem Vw (v:Value) (r:List Operand):BK e (.const v::r)=.pv (.lit v)::BK e r:=rfl
theorem V2 (f:Nat) (r:List Operand):BK e (.func f::r)=.jx (.func f) [] []::BK e r:=rfl
def av:List AV→List AV→List AV
 |[],m=>m
 |v::r,m=>v::av r m
theorem Ql:∀l m:List AV,l++m=av l m
 |[],_=>rfl
 |v::r,m=>by rw[bu,Ql r m];rfl
theorem av0 (m:List AV):av [] m=m:=rfl
theorem av1 (v:AV) (r m:List AV):av (v::r) m=v::av r m:=rfl
def ae:List (Nat×AV)→List (Nat×AV)→List (Nat×AV)
 |[],m=>m
 |v::r,m=>v::ae r m
theorem JO:∀l m:List (Nat×AV),l++m=ae l m
 |[],_=>rfl
 |v::r,m=>by rw[bu,JO r m];rfl
theorem ae0 (m:List (Nat×AV)):ae [] m=m:=rfl
theorem ae1 (v:Nat×AV) (r m:List (Nat×AV)):ae (v::r) m=v::ae r m:=rfl
def sh:List (Nat×AV)→List (Nat×AV)
 |[]=>[]
 |(i,v)::r=>(i+HS,v)::sh r
theorem JJ:∀l,gZ l=sh l
 |[]=>rfl
 |(i,v)::r=>by show(i+HS,v)::gZ r=_;rw[JJ r];rfl
theorem sh0:sh []=[]:=rfl
theorem sh1 (i:Nat) (v:AV) (r:List (Nat×AV)):sh ((i,v)::r)=(i+1000,v)::sh r:=rfl
theorem un0:jc []=[]:=rfl
theorem un1 (i:Nat) (v:AV) (r:List (Nat×AV)):jc ((i,v)::r)=bif bz 1000 i then (i - 1000,v)::jc r else jc r:=rfl
theorem ow0:ff []=[]:=rfl
theorem ow1 (i:Nat) (v:AV) (r:List (Nat×AV)):ff ((i,v)::r)=bif bz 1000 i then (bif bz i 1999 then (i - 1000,v)::ff r else ff r) else ff r:=by
 have h:aY i (HS+HS)=bz i 1999:=by
  show bz (i+1) 2000=bz i 1999
  rfl
 show(bif bz HS i && aY i (HS+HS) then _ else _)=_
 rw[h]
 show(bif bz 1000 i && bz i 1999 then _ else _)=_
 cases bz 1000 i<;>rfl
theorem pa (t:Tmp) (ts:List Tmp) (v:AV) (vs:List AV):Eh (t::ts) (v::vs) e=Eh ts vs ((t,v)::e):=rfl
theorem pa0:Eh [] [] e=e:=rfl
theorem TT (m:Nat):fR m ⟨n,e,o,x⟩=⟨m,jc e,o,x⟩:=rfl
theorem round (m:Nat) (ps:List Tmp) (vs:List AV):uO m ps vs ⟨n,e,o,x⟩=⟨m,Eh ps vs (ae (ff e) (sh e)),o,x⟩:=by
 unfold uO
 rw[JO,JJ]
def Gd (f:AV→AV):List (Nat×AV)→List (Nat×AV)
 |[]=>[]
 |(i,v)::r=>(i,f v)::Gd f r
def mr (f:AV→AV):List AV→List AV
 |[]=>[]
 |v::r=>f v::mr f r
def nL (f:AV→AV):List (Nat×Option Ob)→List (Nat×Option Ob)
 |[]=>[]
 |(i,b)::r=>(i,b.map (Ob.xS f))::nL f r
theorem G8 (f:AV→AV):∀l:List (Nat×AV),(l.map fun p=>(p.1,f p.2))=Gd f l
 |[]=>rfl
 |(i,v)::r=>by rw[bB,G8 f r];rfl
theorem GD (f:AV→AV):∀l:List (Nat×Option Ob),(l.map fun p=>(p.1,p.2.map (Ob.xS f)))=nL f l
 |[]=>rfl
 |(i,v)::r=>by rw[bB,GD f r];rfl
theorem mF (f:AV→AV):∀l:List AV,l.map f=mr f l
 |[]=>rfl
 |v::r=>by rw[bB,mF f r];rfl
theorem mv (f:AV→AV):DS.gU ⟨n,e,o,x⟩ f=⟨n,Gd f e,nL f o,x⟩:=by
 unfold DS.gU
 rw[G8,GD]
theorem mE0 (f:AV→AV):Gd f []=[]:=rfl
theorem mE1 (f:AV→AV) (i:Nat) (v:AV) (r:List (Nat×AV)):Gd f ((i,v)::r)=(i,f v)::Gd f r:=rfl
theorem mC0 (f:AV→AV):mr f []=[]:=rfl
theorem mC1 (f:AV→AV) (v:AV) (r:List AV):mr f (v::r)=f v::mr f r:=rfl
theorem mO0 (f:AV→AV):nL f []=[]:=rfl
theorem mOn (f:AV→AV) (i:Nat) (r:List (Nat×Option Ob)):nL f ((i,none)::r)=(i,none)::nL f r:=rfl
theorem mOr (f:AV→AV) (i:Nat) (r:List (Nat×Option Ob)):nL f ((i,some .row)::r)=(i,some .row)::nL f r:=rfl
theorem mOb (f:AV→AV) (i:Nat) (cs:List AV) (r:List (Nat×Option Ob)):nL f ((i,some (.box cs))::r)=(i,some (.box (mr f cs)))::nL f r:=by
 show(i,some (Ob.box (cs.map f)))::nL f r=_
 rw[mF]
theorem mOm (f:AV→AV) (i:Nat) (l:List (Value×AV)) (r:List (Nat×Option Ob)):nL f ((i,some (.mp l))::r)=(i,some (.mp l))::nL f r:=rfl
theorem mOq (f:AV→AV) (i:Nat) (l:List (Value×AV)) (k:Value) (v:AV) (r:List (Nat×Option Ob)):nL f ((i,some (.mpl l k v))::r)=(i,some (.mpl l k (f v)))::nL f r:=rfl
theorem mOP (f:AV→AV) (i:Nat) (e:TypeId) (p:Nat→Value×List Value) (r:List (Nat×Option Ob)):nL f ((i,some (.fb e p))::r)=(i,some (.fb e p))::nL f r:=rfl
theorem mOt (f:AV→AV) (i:Nat) (T:TypeId) (vs:Array Value) (r:List (Nat×Option Ob)):nL f ((i,some (.lit T vs))::r)=(i,some (.lit T vs))::nL f r:=rfl
theorem mOl (f:AV→AV) (i l:Nat) (tm ps ji body st) (r:List (Nat×Option Ob)):nL f ((i,some (.loop l tm ps ji body st))::r)=(i,some (.loop l tm ps ji body st))::nL f r:=rfl
section
variable (i j:Nat)
theorem Vk:AV.kill i .any=.any:=rfl
theorem ZD (p:PV):AV.kill i (.pv p)=.pv p:=rfl
theorem VZ (a b:Nat):AV.kill i (.ptr a b)=.ptr a b:=rfl
theorem R6 (c:List PV):AV.kill i (.gf c)=.gf c:=rfl
theorem QT (a:Nat):AV.kill i (.gx a)=.gx a:=rfl
theorem Wq (a:Nat):AV.kill i (.lT a)=.lT a:=rfl
theorem Vh (e k fa):AV.kill i (.own j e k fa)=bif aL i j then .any else .own j e k fa:=rfl
theorem QW (e k fa m):AV.kill i (.gX j e k fa m)=bif aL i j then .any else .gX j e k fa m:=rfl
theorem Uu (cs:List AV):AV.kill i (.agg cs)=.agg (mr (AV.kill i) cs):=by
 show AV.mp _ _=_
 rw[AV.mp,AV.jX,mF];rfl
theorem VV (cs:List AV):AV.kill i (.gY cs)=.gY (mr (AV.kill i) cs):=by
 show AV.mp _ _=_
 rw[AV.mp,AV.jX,mF];rfl
theorem T6 (fn:Go.Fn) (cs ds:List AV):AV.kill i (.jx fn cs ds)=.jx fn (mr (AV.kill i) cs) (mr (AV.kill i) ds):=by
 show AV.mp _ _=_
 rw[AV.mp,AV.jX,AV.jX,mF,mF];rfl
end
theorem Rn (cs:List AV):AV.cellsOf (.agg cs)=cs:=rfl
theorem WE (p:PV):AV.cellsOf (.pv p)=[.pv p]:=rfl
theorem Rv (a b:Nat):AV.cellsOf (.ptr a b)=[.ptr a b]:=rfl
theorem SW (i e k fa):AV.cellsOf (.own i e k fa)=[.own i e k fa]:=rfl
theorem RM:AV.cellsOf .any=[.any]:=rfl
theorem Ni (i:Nat):AV.cellsOf (.gx i)=[.gx i]:=rfl
theorem QO (fn a b):AV.cellsOf (.jx fn a b)=[.jx fn a b]:=rfl
theorem Pg (c):AV.cellsOf (.gf c)=[.gf c]:=rfl
def Gm:List AV→Nat→AV→List AV
 |[],_,_=>[]
 |_::r,0,w=>w::r
 |v::r,n+1,w=>v::Gm r n w
theorem Bv:∀(l:List AV) (n:Nat) (w:AV),l.set n w=Gm l n w
 |[],_,_=>rfl
 |_::_,0,_=>rfl
 |v::r,n+1,w=>by rw[cC,Bv r n w];rfl
theorem lo1 (i j:Nat) (v:Option Ob) (r:List (Nat×Option Ob)):fi ((i,v)::r) j=bif aL i j then v else fi r j:=rfl
end Nf
end Go.Ab
/- Laws of operations whose results stand in plain form. -/
namespace Go.Ab
open Go Go.RowKit
attribute [local irreducible] HS
variable {q:Md} {P:Program} {g:eZ} {δ:DS} {κ:Kp} {a:Act} {w:World}
variable {ops:Array Oper} {rest:List Oper} {Q:Exit→DS→Prop} {dst:Option Nat} {ty:TypeId} {pos:String} {af:Array Edge}
def Nv (P:Program) (s:TypeId) (f k:Nat):Bool:=match P.underlying s with
 |some (.struct fs)=>(match fs[f]? with|some fld=>aL fld.offset k && ((P.info? fld.type).map fun i=>aY 0 i.size)==some true|none=>false)
 |_=>false
theorem a_.c_ (s:TypeId) (f k:Nat) {x:Operand} {i off:Nat} (hx:δ.ev x=.ptr i off) (hB:Nv P s f k=true) (ho:fj x=true) (hd:fT δ.n dst=true)
  (hK:a_ q P g ops rest Q (δ.eW dst (.ptr i (off+k)))):a_ q P g ops (⟨dst,.fieldAddr s x f,ty,pos,af,none⟩::rest) Q δ:=by
 unfold Nv at hB
 split at hB
 ·rename_i fs hs
  split at hB
  ·rename_i fld hf
   simp only[aZ,beq_iff_eq] at hB
   have hk:=aM hB.1
   subst hk
   exact a_.fieldAddr hx hs hf hB.2 ho hd hK
  ·cases hB
 ·cases hB
def Is:List AV→Nat→Nat→List AV
 |[],_,_=>[]
 |v::r,k,n=>bif k==0 then (bif n==0 then [] else v::Is r 0 (n - 1)) else Is r (k - 1) n
def wK:List PV→Nat→Nat→List PV
 |[],_,_=>[]
 |v::r,k,n=>bif k==0 then (bif n==0 then [] else v::wK r 0 (n - 1)) else wK r (k - 1) n
theorem Bn:∀(l:List PV) (k n:Nat),(l.drop k).take n=wK l k n
 |[],k,n=>by simp [wK]
 |v::r,0,0=>by simp [wK]
 |v::r,0,n+1=>by
  have:=Bn r 0 n
  simp only[cD] at this
  simp [wK,← this]
 |v::r,k+1,n=>by simp [wK,← Bn r k n]
def PT (P:Program) (s:TypeId) (f k n:Nat):Bool:=match P.underlying s with
 |some (.struct fs)=>(match fs[f]? with|some fld=>aL fld.offset k && (((P.info? fld.type).map fun i=>aY 0 i.size)==some true && (P.info? fld.type).map (·.size)==some n)|none=>false)
 |_=>false
theorem a_.kQ (s:TypeId) (f k n:Nat) {x:Operand} {cs:List PV} (hx:δ.ev x=.gf cs) (hB:PT P s f k n=true) (ho:fj x=true) (hd:fT δ.n dst=true)
  (hK:a_ q P g ops rest Q (δ.eW dst (.gf (wK cs k n)))):a_ q P g ops (⟨dst,.fieldAddr s x f,ty,pos,af,none⟩::rest) Q δ:=by
 unfold PT at hB
 split at hB
 ·rename_i fs hs
  split at hB
  ·rename_i fld hf
   simp only[aZ,beq_iff_eq] at hB
   have hk:=aM hB.1
   subst hk
   exact a_.CR hx hs hf hB.2.1 hB.2.2 ho hd (by rw[Bn];exact hK)
  ·cases hB
 ·cases hB
def DU:List Value→List AV
 |[]=>[]
 |v::r=> .pv (.lit v)::DU r
theorem xo:∀l:List Value,(l.map fun v=>AV.pv (PV.lit v))=DU l
 |[]=>rfl
 |v::r=>by rw[bB,xo r];rfl
def vD:List AV→List (Nat×AV)→List AV
 |cs,[]=>cs
 |cs,(k,v)::r=>vD (setN cs k v.cellsOf) r
where setN:List AV→Nat→List AV→List AV
 |cs,_,[]=>cs
 |cs,k,v::r=>setN (Nf.Gm cs k v) (k+1) r
theorem GP:∀(vs cs:List AV) (k:Nat),oR cs k vs=vD.setN cs k vs
 |[],cs,k=>rfl
 |v::r,cs,k=>by
  unfold oR vD.setN
  rw[Nf.Bv,GP r]
theorem vc {place:Nat→Option (Nat×Nat)}:∀(ps:List (Nat×AV)) (qX:List Nat) (cs cells:List AV),jT place cs ps=some cells→(ps.map fun p=>(place p.1).map (·.1))=qX.map some→
  cells=vD cs (qX.zip (ps.map (·.2)))
 |[],qX,cs,cells,h,_=>by simp only[jT,Option.some.injEq] at h;subst h;cases qX<;>rfl
 |(i,v)::ps,[],cs,cells,h,ho=>by simp at ho
 |(i,v)::ps,k::qX,cs,cells,h,ho=>by
  simp only[bB,List.cons.injEq] at ho
  unfold jT at h
  cases hp:place i with
  |none=>rw[hp] at h;cases h
  |some x=>
   obtain⟨off,size⟩:=x
   rw[hp] at h ho
   simp only[br,Option.some.injEq] at ho
   obtain⟨rfl,ho⟩:=ho
   simp only at h
   cases hb:(aL v.cellsOf.length size && bz (off+v.cellsOf.length) cs.length && AV.ov v.cellsOf) with
   |false=>rw[hb] at h;cases h
   |true=>
    rw[hb] at h
    have:=vc ps qX _ cells h ho
    rw[this,GP]
    rfl
def t_ (e:List (Nat×AV)):List Nat→List (Nat×Operand)→List (Nat×AV)
 |k::ks,(_,.tmp t)::ps=>(k,look e t)::t_ e ks ps
 |k::ks,(_,.const v)::ps=>(k,.pv (.lit v))::t_ e ks ps
 |k::ks,(_,.global _)::ps=>(k,.any)::t_ e ks ps
 |k::ks,(_,.func f)::ps=>(k,.jx (.func f) [] [])::t_ e ks ps
 |_,_=>[]
theorem Bf (δ:DS):∀(qX:List Nat) (ps:List (Nat×Operand)),qX.zip ((ps.map fun p=>(p.1,δ.ev p.2)).map (·.2))=t_ δ.env qX ps
 |[],[]=>rfl
 |[],_::_=>rfl
 |_::_,[]=>rfl
 |k::ks,(i,x)::ps=>by
  simp only[bB,cr,Bf δ ks ps]
  cases x<;>rfl
theorem a_.oZ (t:TypeId) (qX:List Nat) {l:List Value} {parts:List (Nat×Operand)} {fs:Array Field} {z:Value} {cells:List AV} (hs:P.underlying t=some (.struct fs)) (hz:(P.info? t).bind (·.zero)=some z) (hl:z.cells=l.toArray) (h1:z.cells.toList.all (·.oneCell')=true) (j4:fs.toList.all (fun f=>(P.info? f.type).isSome)=true)
  (ho:parts.all (fun p=>fj p.2)=true) (w6:((parts.map fun p=>(p.1,δ.ev p.2)).map fun p=>(placeOf P fs p.1).map (·.1))=qX.map some) (hf:jT (placeOf P fs) (z.cells.toList.map fun v=> .pv (.lit v)) (parts.map fun p=>(p.1,δ.ev p.2))=some cells) (hd:fT δ.n dst=true)
  (hK:a_ q P g ops rest Q (δ.eW dst (.agg (vD (DU l) (t_ δ.env qX parts))))):a_ q P g ops (⟨dst,.build t parts.toArray,ty,pos,af,none⟩::rest) Q δ:=by
 refine a_.build hs hz h1 j4 ho hf hd ?_
 have:=vc _ qX _ cells hf w6
 rw[Bf,hl,cE,xo] at this
 rw[this]
 exact hK
theorem a_.rO {e:TypeId} {z:Value} {l:List Value} (hz:(P.info? e).bind (·.zero)=some z) (hl:z.cells=l.toArray) (h1:z.cells.toList.all (·.oneCell')=true) (hd:fT δ.n dst=true)
  (hK:a_ .plain P g ops rest Q ((δ.fQ (.box (DU l))).eW dst (.ptr δ.nx 0))):a_ .plain P g ops (⟨dst,.alloc e,ty,pos,af,none⟩::rest) Q δ:=by
 refine a_.alloc hz h1 hd ?_
 rw[hl,cE,xo]
 exact hK
def C4:Option Ob→wV→Option Ob
 |some (.loop l tm ps ji body _),st=>some (.loop l tm ps ji body st)
 |o,_=>o
def OY (δ:DS) (i:Nat) (st:wV):DS:=⟨δ.n,δ.env,(i,C4 (fi δ.gv i) st)::δ.gv,δ.nx⟩
theorem BM {i l:Nat} {s:wV} (st:wV) (h:qD δ i l s):δ.pB i st=OY δ i st:=by
 obtain⟨tm,ps,ji,body,ho⟩:=h
 unfold DS.pB OY
 rw[ho]
 have:fi δ.gv i=some (.loop l tm ps ji body s):=ho
 rw[this]
 rfl
def fv (P:Program) (g:eZ) (ops:Array Oper) (rest:List Oper) (Q:Exit→DS→Prop) (dst:Option Nat) (n i l:Nat):Exit→DS→Prop
 |.normal,δ=>qD δ i l .busy∧a_ .plain P g ops rest Q ((OY (fR n δ) i .ready).eW dst (fq true))
 |.ret,δ=>qD δ i l .busy∧a_ .plain P g ops rest Q ((OY (fR n δ) i (.done .ret)).eW dst (fq false))
 |.exit id,δ=>qD δ i l .busy∧a_ .plain P g ops rest Q ((OY (fR n δ) i (.done (.exit id))).eW dst (fq false))
 |_,_=>False
theorem uY {n i l:Nat} {st} (h:qD δ i l st):qD (fR n δ) i l st:=h
theorem a_.MG {x:Operand} {ys:List Operand} {tys:Array TypeId} {i l n0:Nat} {tm:Array Value} {ps:List Tmp} {ji body:Code} {ps':Array Tmp} {asg' body':Code} (Au:Fg ps' asg' body' ps ji body) (Cv:g.ro=none) (jk:g.wt=none) (wz:∀j,j<HS→g.held (j+HS)=tm.getD j undef) (II:tm.size=n0)
  (CC:bz n0 HS=true)
  (hx:δ.ev x=.lT i) (jh:δ.ob i=some (.loop l tm ps' asg' body' .ready)) (ho:fj x=true) (T4:ys.all fj=true) (hlen:aL ys.length ps.length=true) (Re:ps.all (fun t=>aY t n0)=true) (wR:fT δ.n dst=true)
  (h:∀g':eZ,g'.ro=some l→g'.wt=none→AW P g' ji (gr (fun δ1=>qD δ1 i l .ready∧AW P g' body (fv P g ops rest Q dst δ.n i l) (OY δ1 i .busy)) (fun _ _=>False)) (uO n0 ps (ys.map δ.ev) δ)):
  a_ .plain P g ops (⟨dst,.call {callee:=.value x,args:=ys.toArray,argTypes:=tys},ty,pos,af,none⟩::rest) Q δ:=by
 refine a_.Ss Au Cv jk wz II CC hx jh ho T4 hlen Re wR fun g' h1 h2=>(h g' h1 h2).mono ?_
 intro e δ1 he
 cases e with
 |normal=>
  obtain⟨h3,h4⟩:=he
  refine⟨h3,?_⟩
  rw[BM _ h3]
  refine AW.mono h4 ?_
  intro e2 δ2 I7
  cases e2 with
  |normal=>exact⟨I7.1,by show a_ .plain P g ops rest Q (((fR δ.n δ2).pB i .ready).eW dst (fq true));rw[BM .ready (uY (n:=δ.n) I7.1)];exact I7.2⟩
  |ret=>exact⟨I7.1,by show a_ .plain P g ops rest Q (((fR δ.n δ2).pB i (.done .ret)).eW dst (fq false));rw[BM (.done .ret) (uY (n:=δ.n) I7.1)];exact I7.2⟩
  |exit id=>exact⟨I7.1,by show a_ .plain P g ops rest Q (((fR δ.n δ2).pB i (.done (.exit id))).eW dst (fq false));rw[BM (.done (.exit id)) (uY (n:=δ.n) I7.1)];exact I7.2⟩
  |_=>exact I7.elim
 |_=>exact he.elim
theorem pQ {n i l:Nat} (h1:qD δ i l .busy) (h2:a_ .plain P g ops rest Q ((OY (fR n δ) i .ready).eW dst (fq true))):fv P g ops rest Q dst n i l .normal δ:=⟨h1,h2⟩
theorem tR {n i l id:Nat} (h1:qD δ i l .busy) (h2:a_ .plain P g ops rest Q ((OY (fR n δ) i (.done (.exit id))).eW dst (fq false))):fv P g ops rest Q dst n i l (.exit id) δ:=⟨h1,h2⟩
def Vp (n i:Nat) (δ:DS):DS:=⟨n,jc δ.env,(i,C4 (fi δ.gv i) .pT)::δ.gv,δ.nx⟩
theorem JU {n i l:Nat} {tm ps ji body st} (ho:δ.ob i=some (.loop l tm ps ji body st)):l6 n i δ=Vp n i δ:=by
 unfold l6 Vp
 rw[ho]
 have:fi δ.gv i=some (.loop l tm ps ji body st):=ho
 rw[this];rfl
theorem wO {n i l:Nat} {tm ps ji body} {e:Exit} (he:e=.normal∨e=.ret) (ho:δ.ob i=some (.loop l tm ps ji body .ready)) (h:Q .normal (Vp n i δ)):fH n i l Q e δ:=yZ he ho (by rw[JU ho];exact h)
theorem yz {n i l id:Nat} {tm ps ji body} {e:Exit} (he:e=.normal∨e=.ret) (ho:δ.ob i=some (.loop l tm ps ji body (.done (.exit id)))) (h:Q (.exit id) (Vp n i δ)):fH n i l Q e δ:=zf he ho (by rw[JU ho];exact h)
namespace Nf
variable {n x:Nat} {e:List (Nat×AV)} {o:List (Nat×Option Ob)}
theorem sto (i:Nat) (st:wV):OY ⟨n,e,o,x⟩ i st=⟨n,e,(i,C4 (fi o i) st)::o,x⟩:=rfl
theorem bko (m i:Nat):Vp m i ⟨n,e,o,x⟩=⟨m,jc e,(i,C4 (fi o i) .pT)::o,x⟩:=rfl
theorem sst (l:Nat) (tm ps ji body st st'):C4 (some (.loop l tm ps ji body st)) st'=some (.loop l tm ps ji body st'):=rfl
theorem ll0:DU []=[]:=rfl
theorem ll1 (v:Value) (r:List Value):DU (v::r)=.pv (.lit v)::DU r:=rfl
theorem la0 (cs:List AV):vD cs []=cs:=rfl
theorem la1 (cs:List AV) (k:Nat) (v:AV) (r:List (Nat×AV)):vD cs ((k,v)::r)=vD (vD.setN cs k v.cellsOf) r:=rfl
theorem sn0 (cs:List AV) (k:Nat):vD.setN cs k []=cs:=rfl
theorem sn1 (cs:List AV) (k:Nat) (v:AV) (r:List AV):vD.setN cs k (v::r)=vD.setN (Gm cs k v) (k+1) r:=rfl
theorem cs0 (k:Nat) (w:AV):Gm [] k w=[]:=rfl
theorem cs1 (v:AV) (r:List AV) (k:Nat) (w:AV):Gm (v::r) k w=bif k==0 then w::r else v::Gm r (k - 1) w:=by cases k<;>rfl
theorem YI (k:Nat) (ks:List Nat) (i t:Nat) (ps:List (Nat×Operand)):t_ e (k::ks) ((i,.tmp t)::ps)=(k,look e t)::t_ e ks ps:=rfl
theorem XR (k:Nat) (ks:List Nat) (i:Nat) (v:Value) (ps:List (Nat×Operand)):t_ e (k::ks) ((i,.const v)::ps)=(k,.pv (.lit v))::t_ e ks ps:=rfl
theorem Yv (k:Nat) (ks:List Nat) (i f:Nat) (ps:List (Nat×Operand)):t_ e (k::ks) ((i,.func f)::ps)=(k,.jx (.func f) [] [])::t_ e ks ps:=rfl
theorem lp0:t_ e [] []=[]:=rfl
theorem sa0 (k n:Nat):Is [] k n=[]:=rfl
theorem sa1 (v:AV) (r:List AV) (k n:Nat):Is (v::r) k n=bif k==0 then (bif n==0 then [] else v::Is r 0 (n - 1)) else Is r (k - 1) n:=rfl
theorem sp0 (k n:Nat):wK [] k n=[]:=rfl
theorem sp1 (v:PV) (r:List PV) (k n:Nat):wK (v::r) k n=bif k==0 then (bif n==0 then [] else v::wK r 0 (n - 1)) else wK r (k - 1) n:=rfl
end Nf
end Go.Ab
namespace Go.Ab
open Go Go.RowKit
section
variable {q:Md} {P:Program} {g:eZ} {δ:DS} {ops:Array Oper} {rest:List Oper} {Q:Exit→DS→Prop} {dst:Option Nat} {ty:TypeId} {pos:String} {af:Array Edge}
theorem a_.vz {x:Operand} {c:List PV} (hx:δ.ev x=.gf c) (ho:fj x=true) (hd:fT δ.n dst=true) (hK:a_ q P g ops rest Q (δ.eW dst (.gf c))):a_ q P g ops (⟨dst,.move x,ty,pos,af,none⟩::rest) Q δ:=a_.move hx ho hd hK
theorem a_.mR {x:Operand} {c:List PV} (hx:δ.ev x=.gf c) (ho:fj x=true) (hd:fT δ.n dst=true) (hK:a_ q P g ops rest Q (δ.eW dst (.gf c))):a_ q P g ops (⟨dst,.assign x,ty,pos,af,none⟩::rest) Q δ:=a_.assign hx ho hd hK
theorem a_.C2 {x:Operand} {i:Nat} (hx:δ.ev x=.gx i) (ho:fj x=true) (hd:fT δ.n dst=true) (hK:a_ q P g ops rest Q (δ.eW dst (.gx i))):a_ q P g ops (⟨dst,.assign x,ty,pos,af,none⟩::rest) Q δ:=a_.assign hx ho hd hK
theorem a_.Jb {x:Operand} {i:Nat} (hx:δ.ev x=.gx i) (ho:fj x=true) (hd:fT δ.n dst=true) (hK:a_ q P g ops rest Q (δ.eW dst (.gx i))):a_ q P g ops (⟨dst,.move x,ty,pos,af,none⟩::rest) Q δ:=a_.move hx ho hd hK
theorem a_.sU {x:Operand} {c:List PV} (hx:δ.ev x=.gf c) (ho:fj x=true) (hd:fT δ.n dst=true) (hK:a_ q P g ops rest Q (δ.eW dst (.gf c))):
  a_ q P g ops (⟨dst,.nilCheck x,ty,pos,af,none⟩::rest) Q δ:=
 a_.jG _ hd (fun κ a w r=>by
  have h1:=r.ra hx ho
  have h2:=h1
  generalize hu:a.eval x=u at h1
  cases h1 with
  |gf b off vs hN hb hc hr=>exact⟨_,fun w' _=>by simp [execOp,hu],hu▸h2⟩) hK
end
end Go.Ab
/- Maps:written,counted,ranged over;told as sets and frozen. -/
namespace Go.Ab
open Go Go.RowKit
variable {q:Md} {P:Program} {g:eZ} {δ:DS} {κ:Kp} {a:Act} {w:World}
variable {gd:Option (Tmp×Bool)} {ops:Array Oper} {rest:List Oper} {Q:Exit→DS→Prop} {dst:Option Nat} {ty:TypeId} {pos:String} {af:Array Edge}
def vK:List (Int×AV)→Int→AV→List (Int×AV)
 |[],m,v=>[(m,v)]
 |(k,u)::l,m,v=>if m=k then (k,v)::l else (k,u)::vK l m v
theorem A1:∀{l:List (Int×AV)} {m:Int} {v:AV},jV l m=none→vK l m v=l++ [(m,v)]
 |[],_,_,_=>rfl
 |(k,u)::l,m,v,h=>by
  unfold jV at h
  split at h
  ·cases h
  ·rename_i hk
   simp [vK,hk,A1 h]
theorem GL:∀{l:List (Int×AV)} {m:Int} {v:AV} {j:Nat} {u:AV},l[j]? =some (m,u)→(∀i,i<j→∀p,l[i]? =some p→p.1≠m)→vK l m v=l.set j (m,v)
 |[],_,_,_,_,h,_=>by simp at h
 |(k,u')::l,m,v,0,u,h,_=>by
  simp at h;obtain⟨rfl,rfl⟩:=h
  simp [vK]
 |(k,u')::l,m,v,j+1,u,h,hl=>by
  have hk:m≠k:=fun e=>hl 0 aJ (k,u') rfl e.symm
  simp only[vK,if_neg hk,cC]
  rw[GL (j:=j) (u:=u) (by simpa using h) (fun i hi p hp=>hl (i+1) aJ p (by simpa using hp))]
theorem sV {C:Cx} {w:World} (m:Int):∀(es:List MapEntry) (l:List (Int×AV)) (i:Nat),es.length=l.length→
  (∀(j:Nat) (e:MapEntry) (p:Int×AV),es[j]? =some e→l[j]? =some p→e.key=.int .i64 p.1∧RA C w e.val p.2)→
  (jV l m=none∧Instr.findNow (.int .i64) (.int .i64 m) es i=some none)∨
  (∃(j:Nat) (e:MapEntry) (v:AV),Instr.findNow (.int .i64) (.int .i64 m) es i=some (some (i+j,e.val))∧es[j]? =some e∧l[j]? =some (m,v)∧e.key=.int .i64 m∧∀i,i<j→∀p,l[i]? =some p→p.1≠m):=by
 intro es
 induction es with
 |nil=>intro l i hs _;have:l=[]:=bk hs.symm;subst this;exact .inl ⟨rfl,rfl⟩
 |cons e es ih=>
  intro l i hs h
  cases l with
  |nil=>simp at hs
  |cons p l=>
   obtain⟨k,v⟩:=p
   have h0:=h 0 e (k,v) rfl rfl
   by_cases hk:m=k
   ·subst hk
    refine .inr ⟨0,e,v,?_,rfl,rfl,h0.1,fun i hi=>by omega⟩
    simp [Instr.findNow,h0.1,Instr.sameNow]
   ·have hf:Instr.findNow (.int .i64) (.int .i64 m) (e::es) i=Instr.findNow (.int .i64) (.int .i64 m) es (i+1):=by
     have hb:(m==k)=false:=by simp [hk]
     simp [Instr.findNow,h0.1,Instr.sameNow,hb]
    rcases ih l (i+1) (by simpa using hs) (fun j e p h1 h2=>h (j+1) e p (by simpa using h1) (by simpa using h2)) with ⟨h1,h2⟩|⟨j,e',v',h2,h3,h4,h5,h6⟩
    ·exact .inl ⟨by simp [jV,hk,h1],hf.trans h2⟩
    ·refine .inr ⟨j+1,e',v',by rw[hf,h2];simp;omega,by simpa using h3,by simpa using h4,h5,fun i' jJ p hp=>?_⟩
     cases i' with
     |zero=>simp at hp;subst hp;exact fun e=>hk e.symm
     |succ i'=>exact h6 i' aJ p (by simpa using hp)
theorem iV.mapUpdate {x y z:Operand} {t kt et:TypeId} {i:Nat} {l:List (Int×AV)} {m:Int} {v:AV} (hx:δ.ev x=.gx i) (jh:δ.ob i=some (.mp (jl l))) (hy:δ.ev y=eU m) (hz:δ.ev z=v) (Jq:v.kT=true) (ht:P.underlying t=some (.map kt et)) (hk:P.underlying kt=some (.int .i64))
  (ho:fj x=true) (ga:fj y=true) (o_:fj z=true) (hd:fT δ.n dst=true) (Ex:g.nF i):
  iV P g ⟨dst,.mapUpdate t x y z,ty,pos,af,gd⟩ δ ((δ.gu i (some (.mp (jl (vK l m v))))).eW dst .any):=by
 intro κ a w r
 obtain⟨b,es,clock,h1,h2,h3,h4,h5,Be⟩:=r.UF (r.ra hx ho) jh
 obtain⟨h6,h7⟩:=h4.jl
 have To:=r.ra hz o_
 have WL:MapKept.IsKey (.int .i64) (.int .i64 m):=by simp [MapKept.IsKey]
 have Ju:∀e,(Instr.checkKey e (9999+1) kt (.int .i64 m)).run P w=.ok () w:=fun e=>MapKept.run_checkKey hk WL e 9999
 rcases sV m es.toList l 0 h6 h7 with ⟨h8,h9⟩|⟨j,e,u,h9,xm,Hx,Qa,h13⟩
 ·have fF:(execOp a.eval ⟨dst,.mapUpdate t x y z,ty,pos,af,gd⟩).run P w=.ok .skip {w with heap:=w.heap.setIfInBounds b (.map (es.push {key:=.int .i64 m,val:=a.eval z,born:=clock}) (clock+1))}:=by
   simp [execOp,r.lit hy ga,h1,Instr.mapUpdate,run_underlying ht,MapKept.run_getObj_map h3,Ju,lM hk h9,MapKept.run_setObj_map _ h3]
  obtain⟨r',G⟩:=r.modify (o':=.mp (jl (vK l m v))) jh rfl rfl h2 Ex (iL.rM w b (.map (es.push {key:=.int .i64 m,val:=a.eval z,born:=clock}) (clock+1))) (by simp) (fun C hC G=>by
   have Co:mT C {w with heap:=w.heap.setIfInBounds b (.map (es.push {key:=.int .i64 m,val:=a.eval z,born:=clock}) (clock+1))} es (jl l):=h4.lJ G
   obtain⟨Jz,T9⟩:=Co.push h5 m (G.ra To)
   rw[A1 h8]
   exact⟨b,_,_,by rw[hC];exact h2,kN h3,Jz,T9,fun p hp=>by
    rw[jz] at hp
    rcases bX.1 hp with hp|hp
    ·exact Be p hp
    ·simp [jl] at hp;subst hp;exact Jq⟩)
  exact .inl ⟨_,_,_,_,fF,.inr ⟨rfl,rfl⟩,r'.eW (ft hd) (.any _)⟩
 ·rw[Nat.zero_add] at h9
  have Sb:es[j]? =some e:=by simpa using xm
  have fF:(execOp a.eval ⟨dst,.mapUpdate t x y z,ty,pos,af,gd⟩).run P w=.ok .skip {w with heap:=w.heap.setIfInBounds b (.map (es.modify j fun e=>{e with key:=.int .i64 m,val:=a.eval z}) clock)}:=by
   simp [execOp,r.lit hy ga,h1,Instr.mapUpdate,run_underlying ht,MapKept.run_getObj_map h3,Ju,lM hk h9,Sb,Qa,MapKept.run_keyThatStays WL,MapKept.run_setObj_map _ h3]
  obtain⟨r',G⟩:=r.modify (o':=.mp (jl (vK l m v))) jh rfl rfl h2 Ex (iL.rM w b (.map (es.modify j fun e=>{e with key:=.int .i64 m,val:=a.eval z}) clock)) (by simp) (fun C hC G=>by
   rw[GL Hx h13]
   refine⟨b,_,_,by rw[hC];exact h2,kN h3,⟨by have:=h4.1;simp [jl] at this ⊢;exact this,fun k e' p Co Jz=>?_⟩,⟨by simp [h5.1],fun k e' Co=>?_⟩,fun p hp=>?_⟩
   ·rw[cA] at Co
    simp only[jl,cF] at Jz
    rw[bH] at Jz
    by_cases Py:j=k
    ·subst Py
     rw[if_pos rfl,bh] at Co
     obtain⟨e0,Co,rfl⟩:=Co
     rw[if_pos rfl] at Jz
     split at Jz
     ·cases Jz;exact⟨rfl,G.ra To⟩
     ·cases Jz
    ·rw[if_neg Py] at Co Jz
     obtain⟨T9,h17⟩:=h4.2 k e' p Co Jz
     exact⟨T9,G.ra h17⟩
   ·rw[cA] at Co
    by_cases Py:j=k
    ·rw[if_pos Py,bh] at Co
     obtain⟨e0,Co,rfl⟩:=Co
     exact h5.2 k e0 Co
    ·rw[if_neg Py] at Co;exact h5.2 k e' Co
   ·simp only[jl,cF] at hp
    rcases cG hp with hp|rfl
    ·exact Be p hp
    ·exact Jq)
  exact .inl ⟨_,_,_,_,fF,.inr ⟨rfl,rfl⟩,r'.eW (ft hd) (.any _)⟩
def CU (xs:List Int) (m:Int):List Int:=if m∈xs then xs else xs++ [m]
theorem DM:∀(xs:List Int) (m:Int),vK (j7 xs) m (fq true)=j7 (CU xs m)
 |[],m=>rfl
 |x::xs,m=>by
  have ih:=DM xs m
  show vK ((x,fq true)::j7 xs) m (fq true)=_
  by_cases h:m=x
  ·subst h;simp [vK,CU,j7]
  ·rw[vK,if_neg h,ih]
   by_cases h2:m∈xs
   ·simp [CU,h2,j7]
   ·simp [CU,h2,h,j7]
theorem a_.y_ {x y z:Operand} {t kt et:TypeId} {i:Nat} {xs:List Int} {m:Int} (hx:δ.ev x=.gx i) (jh:δ.ob i=some (.mp (jl (j7 xs)))) (hy:δ.ev y=eU m) (hz:δ.ev z=fq true) (ht:P.underlying t=some (.map kt et)) (hk:P.underlying kt=some (.int .i64))
  (ho:fj x=true) (ga:fj y=true) (o_:fj z=true) (hd:fT δ.n dst=true) (jk:g.wt=none)
  (hK:a_ .plain P g ops rest Q ((δ.gu i (some (.mp (jl (j7 (CU xs m)))))).eW dst .any)):a_ .plain P g ops (⟨dst,.mapUpdate t x y z,ty,pos,af,none⟩::rest) Q δ:=
 a_.s6 rfl rfl (iV.mapUpdate hx jh hy hz rfl ht hk ho ga o_ hd (kg jk i)) (by rw[DM];exact hK)
theorem iV.xX {x:Operand} {t kt et:TypeId} {l:List (Value×PV)} (hx:δ.ev x=.pv (.mp l)) (ht:P.underlying t=some (.map kt et)) (ho:fj x=true) (hd:fT δ.n dst=true):
  iV P g ⟨dst,.range t x,ty,pos,af,gd⟩ δ ((δ.fQ (.it l [])).eW dst (.ptr δ.nx 0)):=by
 intro κ a w r
 have h1:=r.ra hx ho
 generalize hu:a.eval x=u at h1
 cases h1 with
 |pv h1=>
  cases h1 with
  |mp m clock es hN hb hh hs i_ hk hr=>
   have fF:(execOp a.eval ⟨dst,.range t x,ty,pos,af,gd⟩).run P w=.ok (.value (.pointer (some ⟨w.heap.size,0,none⟩))) (w.alloc (.mapIter (some m) clock #[] clock)):=by
    simp [execOp,hu,run_range_map w t kt et m es clock ht hh]
   obtain⟨r',G⟩:=r.grow (.it l []) (.mapIter (some m) clock #[] clock) (fun C G hκ=>⟨w.heap.size,hκ,.inr ⟨m,es,clock,(G.N m hb hN).1,aK hb G.size,(G.N m hb hN).2.trans hh,hs,i_,
    fun j e p h2 h3=>⟨hk j e p h2 h3,G.rp (hr j e p h2 h3)⟩,heap_alloc_new w _,by simp⟩⟩)
   exact .inl ⟨_,_,_,_,fF,.inl rfl,r'.eW (ft hd) (.ptr ⟨_,by show(δ.fQ _).ob _=_;rw[f_,if_pos rfl],rfl⟩ (by show ig _ _ _ _=_;simp [ig]))⟩
theorem a_.xX {x:Operand} {t kt et:TypeId} {l:List (Value×PV)} (hx:δ.ev x=.pv (.mp l)) (ht:P.underlying t=some (.map kt et)) (ho:fj x=true) (hd:fT δ.n dst=true)
  (hK:a_ .plain P g ops rest Q ((δ.fQ (.it l [])).eW dst (.ptr δ.nx 0))):a_ .plain P g ops (⟨dst,.range t x,ty,pos,af,none⟩::rest) Q δ:=a_.s6 rfl rfl (iV.xX hx ht ho hd) hK
theorem Rel.ito (r:Rel g δ κ a w) {u:Value} {i:Nat} {l:List (Value×PV)} {seen:List Nat} (h:RA (δ.cx g κ) w u (.ptr i 0)) (ho:δ.ob i=some (.it l seen)):
  ∃b,u=.pointer (some ⟨b,0,none⟩)∧κ i=some b∧Kw (δ.cx g κ).N w b l seen:=by
 cases h with
 | @ptr _ _ b hl hκ=>
  obtain⟨b',h1,h2⟩:=r.obj i _ ho
  have:b'=b:=Option.some.inj (h1.symm.trans hκ)
  subst this
  exact⟨b',rfl,h1,h2⟩
theorem Ns {C:Cx} {w:World} {u1 u2 u3:Value} {v1 v2 v3:AV} (h1:RA C w u1 v1) (h2:RA C w u2 v2) (h3:RA C w u3 v3):RA C w (.tuple #[u1,u2,u3]) (.gY [v1,v2,v3]):=Di h1 h2 h3
theorem BX {es:Array MapEntry} {clock:Nat} (h:qZ es clock):(es.toList.map (·.born)).Nodup:=by
 have:es.toList.map (·.born)=List.range es.size:=by
  apply List.ext_getElem?
  intro j
  rw[a7,bC]
  by_cases hj:j<es.size
  ·rw[aN hj,br,h.2 j _ (aN hj),List.getElem?_range hj]
  ·rw[cw aJ,cH (by simpa using hj)];rfl
 rw[this];exact List.nodup_range
theorem a_.next {x:Operand} {i:Nat} {l:List (Value×PV)} {seen:List Nat} (hx:δ.ev x=.ptr i 0) (jh:δ.ob i=some (.it l seen)) (ho:fj x=true) (hd:fT δ.n dst=true) (jk:g.wt=none)
  (Xi:(∀j,j<l.length→j∈seen)→a_ .plain P g ops rest Q (δ.eW dst (.gY [fq false])))
  (uE:∀j (hj:j<l.length),j∉seen→a_ .plain P g ops rest Q ((δ.gu i (some (.it l (seen++ [j])))).eW dst (.gY [fq true,.pv (.lit l[j].1),.pv l[j].2]))):
  a_ .plain P g ops (⟨dst,.next x false,ty,pos,af,none⟩::rest) Q δ:=by
 intro κ a w r
 obtain⟨b,hv,h2,h3⟩:=r.ito (r.ra hx ho) jh
 show wpListIn _ _ P ops _ (_::rest) a w
 refine gF rfl rfl fun K oA=>?_
 unfold Oper.y9
 rcases h3 with ⟨rfl,h3⟩|⟨m,es,clock,hN,hm,hh,hs,i_,BA,Qp,S5⟩
 ·have fF:(execOp a.eval ⟨dst,.next x false,ty,pos,af,none⟩).run P w=.ok (.value (.tuple #[.bool false])) w:=by
   have:(Instr.next (.pointer (some ⟨b,0,none⟩)) false ty).run P w=.ok (.tuple #[.bool false]) w:=by
    simp only[Instr.next,getObj,Sem.run_bind,Sem.run,h3,Result.andThen]
    rfl
   simp [execOp,hv,this]
  rw[fF,Oper.uponIn_value]
  exact oA _ _ (Xi (by simp) κ _ _ (r.eW (ft hd) (.gY rfl fun j u c h4 h5=>by
   cases j with
   |zero=>simp at h4 h5;subst h4;subst h5;exact .pv (.lit _)
   |succ j=>simp at h5)))
 ·have hold:∀e∈es.toList,e.born<clock:=by
   intro e he
   obtain⟨j,hj⟩:=bA he
   have oB:es[j]? =some e:=by simpa using hj
   rw[i_.2 j e oB,i_.1]
   exact(aO.1 oB).1
  rcases run_next_at (P:=P) w ty b m clock clock seen.toArray es clock Qp hh hold (aP _) with ⟨h4,h5⟩|⟨e,he,w1,Ue,h5⟩
  ·have fF:(execOp a.eval ⟨dst,.next x false,ty,pos,af,none⟩).run P w=.ok (.value (.tuple #[.bool false])) w:=by simp [execOp,hv,h5]
   rw[fF,Oper.uponIn_value]
   have j4:=all_seen es seen.toArray h4
   exact oA _ _ (Xi (fun j hj=>by
    have qN:j<es.size:=by omega
    have:=j4 es[j] (by simp)
    rw[i_.2 j _ (aN qN)] at this
    simpa using this) κ _ _ (r.eW (ft hd) (.gY rfl fun j u c h4 h5=>by
    cases j with
    |zero=>simp at h4 h5;subst h4;subst h5;exact .pv (.lit _)
    |succ j=>simp at h5)))
  ·obtain⟨he1,I7⟩:=mem_left he
   obtain⟨j,hj⟩:=bA he1
   have oB:es[j]? =some e:=by simpa using hj
   have hb:=i_.2 j e oB
   have JB:j<l.length:=by rw[← hs];exact(aO.1 oB).1
   have Cl:j∉seen:=by rw[hb] at I7;simpa using I7
   obtain⟨hke,hre⟩:=BA j e _ oB (a8 JB)
   have fF:(execOp a.eval ⟨dst,.next x false,ty,pos,af,none⟩).run P w=.ok (.value (.tuple #[.bool true,e.key,e.val])) (ChangeMaps.setBlock w1 b (.mapIter (some m) clock (seen.toArray.push e.born) clock)):=by simp [execOp,hv,h5]
   rw[fF,Oper.uponIn_value]
   have SL:Below w.heap.size w w1:=by
    rcases Ue with rfl|rfl
    ·exact Below.refl _ _
    ·exact Below.drew (Below.refl _ _)
   have r1:=r.ext SL
   have LB:w1.heap=w.heap:=by rcases Ue with rfl|rfl<;>rfl
   have fy:b<w1.heap.size:=by rw[LB];exact je Qp
   obtain⟨r2,G⟩:=r1.modify (o':=.it l (seen++ [j])) jh rfl rfl h2 (kg jk i) (iL.rM w1 b (.mapIter (some m) clock (seen.toArray.push e.born) clock)) (by simp) (fun C hC G=>by
    have TZ:=G.N m (by rw[LB];exact hm) hN
    refine⟨b,by rw[hC];exact h2,.inr ⟨m,es,clock,TZ.1,by simp [LB];exact hm,by rw[TZ.2,LB];exact hh,hs,i_,fun j e p h6 h7=>⟨(BA j e p h6 h7).1,?_⟩,?_,fun k hk=>?_⟩⟩
    ·have h8:=(BA j e p h6 h7).2
     refine h8.mono (by simp [LB]) fun b' jn Jw=>?_
     have:=G.N b' (by rw[LB];exact jn) Jw
     exact⟨this.1,by rw[this.2,LB]⟩
    ·rw[kN (o:=.mapIter (some m) clock seen.toArray clock) (by rw[LB];exact Qp)]
     rw[hb];simp
    ·rcases bX.1 hk with hk|hk
     ·exact S5 k hk
     ·simp at hk;subst hk;exact JB)
   refine oA _ _ (uE j JB Cl κ _ _ (r2.eW (ft hd) (Ns (.pv (.lit _)) ?_ ?_)))
   ·rw[hke];exact .pv (.lit _)
   ·refine .pv (hre.mono (by simp [LB]) fun b' jn Jw=>?_)
    have:=G.N b' (by rw[LB];exact jn) Jw
    exact⟨this.1,by rw[this.2,LB]⟩
theorem a_.entry {x:Operand} {i j:Nat} {l:List (Value×PV)} {seen:List Nat} (hx:δ.ev x=.ptr i 0) (jh:δ.ob i=some (.it l (seen++ [j]))) (ho:fj x=true) (hd:fT δ.n dst=true) (hq:q≠ .held) (hj:j<l.length)
  (hK:a_ q P g ops rest Q (δ.eW dst (.gY [.pv (.lit l[j].1),.pv l[j].2]))):
  a_ q P g ops (⟨dst,.entry x,ty,pos,af,none⟩::rest) Q δ:=
 a_.QP _ hq rfl rfl hd (fun κ a w r=>by
  obtain⟨b,hv,h2,h3⟩:=r.ito (r.ra hx ho) jh
  rcases h3 with ⟨rfl,h3⟩|⟨m,es,clock,hN,hm,hh,hs,i_,BA,Qp,S5⟩
  ·simp at hj
  ·have Xa:j<es.size:=by omega
   have yh:=aN Xa
   obtain⟨h4,h5⟩:=BA j _ _ yh (a8 hj)
   have hb:=i_.2 j _ yh
   refine⟨.tuple #[es[j].key,es[j].val],fun w' jf=>?_,E6 (by rw[h4];exact .pv (.lit _)) (.pv h5)⟩
   have h6:w'.heap[b]? =some (.mapIter (some m) clock (seen.toArray.push es[j].born) clock):=by
    rw[jf.block b (je Qp),Qp,hb];simp
   have h7:w'.heap[m]? =some (.map es clock):=(jf.block m hm).trans hh
   have:=run_entry_at (P:=P) w' b m clock seen.toArray es clock es[j] h6 h7 (by simp) (BX i_)
   simp [execOp,hv,this]) hK
def qF (xs:List Int):List (Value×PV):=xs.map fun x=>(.int .i64 x,.lit (.bool true))
theorem WV.e_ {δ δ':DS} {i:Nat} {xs:List Int} (hb:δ.ob i=some (.mp (jl (j7 xs)))) (hd:δ'.ob i=none):WV δ δ' (.gx i) (.pv (.mp (qF xs))):=by
 refine .fmap hb hd (by simp [jl,j7,qF]) fun j p p' h1 h2=>?_
 simp only[jl,j7,qF,cB,a7,bh] at h1 h2
 obtain⟨x,hx,rfl⟩:=h1
 obtain⟨y,hy,rfl⟩:=h2
 rw[hx] at hy;cases hy
 exact⟨rfl,.pv _⟩
theorem G4 {xs:List Int} {j:Nat} (h:j<(qF xs).length) (h':j<xs.length):(qF xs)[j]=(.int .i64 xs[j],.lit (.bool true)):=by simp [qF]
theorem a_.Pw {x:Operand} {i:Nat} {xs:List Int} {seen:List Nat} (hx:δ.ev x=.ptr i 0) (jh:δ.ob i=some (.it (qF xs) seen)) (ho:fj x=true) (hd:fT δ.n dst=true) (jk:g.wt=none)
  (Xi:(∀j,j<xs.length→j∈seen)→a_ .plain P g ops rest Q (δ.eW dst (.gY [fq false])))
  (uE:∀jj:{j:Nat // j<xs.length∧j∉seen},a_ .plain P g ops rest Q ((δ.gu i (some (.it (qF xs) (seen++ [jj.1])))).eW dst (.gY [fq true,eU (xs[jj.1]'jj.2.1),fq true]))):
  a_ .plain P g ops (⟨dst,.next x false,ty,pos,af,none⟩::rest) Q δ:=
 a_.next hx jh ho hd jk (fun h=>Xi fun j hj=>h j (by simpa [qF] using hj)) (fun j hj hn=>by
  have oB:j<xs.length:=by simpa [qF] using hj
  rw[G4 hj oB]
  exact uE ⟨j,oB,hn⟩)
theorem a_.LH {x:Operand} {i j:Nat} {xs:List Int} {seen:List Nat} (hx:δ.ev x=.ptr i 0) (jh:δ.ob i=some (.it (qF xs) (seen++ [j]))) (ho:fj x=true) (hd:fT δ.n dst=true) (hq:q≠ .held) (hj:j<xs.length)
  (hK:a_ q P g ops rest Q (δ.eW dst (.gY [eU xs[j],fq true]))):
  a_ q P g ops (⟨dst,.entry x,ty,pos,af,none⟩::rest) Q δ:=
 a_.entry hx jh ho hd hq (by simpa [qF] using hj) (by
  have qN:j<(qF xs).length:=by simpa [qF] using hj
  have h1:=G4 qN hj
  rw[h1]
  exact hK)
theorem a_.GA {t:TypeId} (hd:fT δ.n dst=true) (hK:a_ .plain P g ops rest Q ((δ.fQ (.mp (jl (j7 [])))).eW dst (.gx δ.nx))):a_ .plain P g ops (⟨dst,.makeMap t none,ty,pos,af,none⟩::rest) Q δ:=a_.makeMap hd hK
theorem Nf.mOi (f:AV→AV) (i:Nat) (l:List (Value×PV)) (seen:List Nat) (r:List (Nat×Option Ob)):Nf.nL f ((i,some (.it l seen))::r)=(i,some (.it l seen))::Nf.nL f r:=rfl
theorem WV.Pm {δ δ':DS} {i e k} {fa:List (List PV)} (he:fa=[]) (h:δ'.q6 i=true) (hn:δ.ob i=none):WV δ δ' (.pv (.lit (.slice none 0 0))) (.own i e k fa):=by rw[he];exact .jN i e k h hn
end Go.Ab
/- Rows given up in the middle of a walk. -/
namespace Go.Ab
open Go Go.RowKit
variable {q:Md} {P:Program} {g:eZ} {δ:DS} {κ:Kp} {a:Act} {w:World}
variable {ops:Array Oper} {rest:List Oper} {Q:Exit→DS→Prop} {dst:Option Nat} {ty:TypeId} {pos:String} {af:Array Edge}
def Mc (i:Nat):AV→AV
 |.own j e k fa=>bif aL i j then .pv (.slice k fa) else .own j e k fa
 |.gX j e k fa n=>bif aL i j then .any else .gX j e k fa n
 |v=>v
def AV.uF (i:Nat):AV→AV:=AV.mp (Mc i)
def rH (δ:DS) (i:Nat):DS:=(δ.gU (AV.uF i)).gu i none
theorem xQ (δ:DS) (i j:Nat):(rH δ i).ob j=if i=j then none else (δ.ob j).map (Ob.xS (AV.uF i)):=by
 unfold rH
 rw[jW,kR]
theorem OB (δ:DS) (i j:Nat):(rH δ i).get j=AV.uF i (δ.get j):=rm (AV.uF i) rfl δ j
theorem Rel.freeze (r:Rel g δ κ a w) {i:Nat} (hi:δ.ob i=some .row):∃κ',Rel g (rH δ i) κ' a w:=by
 have fV:∀j,(rH δ i).live j→j≠i∧δ.live j:=by
  rintro j ⟨o,h⟩
  rw[xQ] at h
  by_cases e:i=j
  ·rw[if_pos e] at h;cases h
  ·rw[if_neg e] at h
   cases ho:δ.ob j with
   |none=>rw[ho] at h;simp at h
   |some o'=>exact⟨fun e'=>e e'.symm,o',ho⟩
 have ox:∀j,(rH δ i).lr j↔j≠i∧δ.lr j:=by
  intro j
  unfold DS.lr
  rw[xQ]
  by_cases e:i=j
  ·rw[if_pos e];simp [e]
  ·rw[if_neg e]
   have e':j≠i:=fun h=>e h.symm
   cases δ.ob j with
   |none=>simp
   |some o=>cases o<;>simp [Ob.xS,e']
 have xf:∀j,δ.lb j→(rH δ i).lb j:=by
  rintro j ⟨o,h1,h2⟩
  have e:i≠j:=by rintro rfl;rw[hi] at h1;cases h1;simp [Ob.mc] at h2
  refine⟨Ob.xS (AV.uF i) o,?_,?_⟩
  ·rw[xQ,if_neg e,h1];rfl
  ·cases o<;>first|rfl|(simp [Ob.mc] at h2)
 have mg:∀j b,δ.live j→(rH δ i).ob j=none→κ j=some b→((rH δ i).cx g (wj δ κ)).N b:=by
  intro j b hl jI hκ
  refine⟨r.G_ hl hκ,fun m hm e=>?_⟩
  obtain⟨h1,h2⟩:=gC e
  have:=r.inj j m b hl h1 hκ h2
  subst this
  obtain⟨o,hm⟩:=hm
  rw[jI] at hm;cases hm
 have G:kC ((δ.cx g κ).less i) w ((rH δ i).cx g (wj δ κ)) w:=
  {B:=rfl,size:=aP _
   N:=fun b _ hN=>⟨⟨hN.1,fun j hj e=>by
    obtain⟨h1,h2⟩:=gC e
    exact hN.2 j h1 h2⟩,rfl⟩
   Lr:=fun j hj=>⟨(ox j).2 ⟨hj.2,hj.1⟩,jd (DS.gK hj.1),fun _ _=>rfl⟩
   Lb:=fun j hj=>⟨xf j hj,jd (DS.mE hj)⟩}
 have F:∀{v:Value} {av:AV},RA (δ.cx g κ) w v av→RA ((rH δ i).cx g (wj δ κ)) w v (AV.uF i av):=by
  intro v av h
  refine RA.mp G rfl (fun j e k fa hj=>?_) (fun j e k fa n hj=>?_) (fun v e k fa ho=>?_) (fun b cap e k fa n _ _=>?_) h
  ·simp only[Mc,nm (Ne.symm hj)];rfl
  ·simp only[Mc,nm (Ne.symm hj)];rfl
  ·simp only[Mc,pz]
   exact .pv ((RA.own ho).uF mg (by rw[xQ,if_pos rfl]))
  ·simp only[Mc,pz];exact .any _
 refine⟨wj δ κ,?_⟩
 exact
  {n:=r.n
   dfr:=r.dfr
   env:=fun j=>by rw[OB];exact F (r.env j)
   obj:=fun j o h=>by
    rw[xQ] at h
    by_cases e:i=j
    ·rw[if_pos e] at h;cases h
    ·rw[if_neg e] at h
     cases ho:δ.ob j with
     |none=>rw[ho] at h;simp at h
     |some o'=>
      rw[ho] at h
      simp only[br,Option.some.injEq] at h
      subst h
      have h0:=r.obj j o' ho
      have hκ:wj δ κ j=κ j:=jd ⟨_,ho⟩
      cases o' with
      |row=>intro b hb;exact h0 b (hκ.symm.trans hb)
      |box cs=>
       obtain⟨b,c,e',h1,h2,h3,h4⟩:=h0
       refine⟨b,c,e',hκ.trans h1,h2,by simpa using h3,fun k u av h5 h6=>?_⟩
       simp only[a7,bh] at h6
       obtain⟨av',h6,rfl⟩:=h6
       exact⟨F (h4 k u av' h5 h6).1,(h4 k u av' h5 h6).2⟩
      |mp l=>
       obtain⟨b,es,clock,h1,h2,h3,h4⟩:=h0
       exact⟨b,es,clock,hκ.trans h1,h2,⟨h3.1,fun k e' p h5 h6=>⟨(h3.2 k e' p h5 h6).1,G.ra ((h3.2 k e' p h5 h6).2.less (h4.2 p (aU h6)))⟩⟩,h4⟩
      |mpl l kk v=>
       obtain⟨b,es,clock,h1,h2,h3,h4⟩:=h0
       exact⟨b,es,clock,hκ.trans h1,h2,h3.last (fun u p hp h=>G.ra (h.less (h4.2 p hp))) (fun u h=>F h),h4⟩
      |it l seen=>
       obtain⟨b,h1,h2⟩:=h0
       exact⟨b,hκ.trans h1,h2.mono G.size G.N rfl⟩
      |lit T vals=>obtain⟨b,h1,h2⟩:=h0;exact⟨b,hκ.trans h1,h2⟩
      |fb e rows=>exact⟨hκ.trans h0.1,fun k=>(h0.2.1 k).lJ rfl fun b _ h2 _=>⟨h2,rfl⟩,h0.2.2⟩
      |loop l tm ps ji body st=>
       obtain⟨b,lr,h1,h2⟩:=h0
       exact⟨b,lr,hκ.trans h1,h2⟩
   inj:=fun j m b _ _ h3 h4=>r.inj j m b (gC h3).1 (gC h4).1 (gC h3).2 (gC h4).2
   lo:=fun j b _ h2=>r.lo j b (gC h2).1 (gC h2).2
   nx:=fun j h=>r.nx j (fV j h).2
   wt:=fun k hk=>⟨(r.wt k hk).1,fun j b _ hj hb=>by
    obtain⟨hl,hκ⟩:=gC hb
    exact(r.wt k hk).2 j b hl (hj.imp (fun h=>((ox j).1 h).2) id) hκ⟩
   below:=r.below
   hB:=r.hB
   N0:=r.N0
   kZ:=r.kZ
   fr:=r.fr.sub fun j b _ h2=>⟨j,(gC h2).1,(gC h2).2⟩}
mutual
def AV.fo:AV→Option Nat
 |.own i _ _ _=>some i
 |.agg cs=>AV.V9 cs
 |.gY cs=>AV.V9 cs
 |_=>none
def AV.V9:List AV→Option Nat
 |[]=>none
 |v::r=>match AV.fo v with|some i=>some i|none=>AV.V9 r
end
theorem a_.freeze (i:Nat) {l:List Oper} (hi:δ.ob i=some .row) (hK:a_ .plain P g ops l Q (rH δ i)):a_ .plain P g ops l Q δ:=by
 intro κ a w r
 obtain⟨κ',r'⟩:=r.freeze hi
 exact hK κ' a w r'
theorem a_.JP {t:TypeId} {n i:Nat} {parts:List (Nat×Operand)} (h:AV.V9 (Nf.BK δ.env (parts.map (·.2)))=some i) (hi:δ.ob i=some .row) (hK:a_ .plain P g ops (⟨dst,.buildSlice t n parts.toArray,ty,pos,af,none⟩::rest) Q (rH δ i)):
  a_ .plain P g ops (⟨dst,.buildSlice t n parts.toArray,ty,pos,af,none⟩::rest) Q δ:=a_.freeze i hi hK
theorem a_.M3 {x:Operand} {i:Nat} {xs:List Operand} {tys:Array TypeId} (h:AV.V9 (Nf.BK δ.env xs)=some i) (hi:δ.ob i=some .row) (hK:a_ .plain P g ops (⟨dst,.call {callee:=.value x,args:=xs.toArray,argTypes:=tys},ty,pos,af,none⟩::rest) Q (rH δ i)):
  a_ .plain P g ops (⟨dst,.call {callee:=.value x,args:=xs.toArray,argTypes:=tys},ty,pos,af,none⟩::rest) Q δ:=a_.freeze i hi hK
namespace Nf
variable {n x:Nat} {e:List (Nat×AV)} {o:List (Nat×Option Ob)} (i j:Nat)
theorem fd:rH ⟨n,e,o,x⟩ i=⟨n,Gd (AV.uF i) e,(i,none)::nL (AV.uF i) o,x⟩:=by
 unfold rH
 rw[mv];rfl
theorem Uv:AV.uF i .any=.any:=rfl
theorem ZH (p:PV):AV.uF i (.pv p)=.pv p:=rfl
theorem V8 (a b:Nat):AV.uF i (.ptr a b)=.ptr a b:=rfl
theorem QJ (c:List PV):AV.uF i (.gf c)=.gf c:=rfl
theorem QG (a:Nat):AV.uF i (.gx a)=.gx a:=rfl
theorem Wz (a:Nat):AV.uF i (.lT a)=.lT a:=rfl
theorem WI (e k fa):AV.uF i (.own j e k fa)=bif aL i j then .pv (.slice k fa) else .own j e k fa:=rfl
theorem SB (e k fa m):AV.uF i (.gX j e k fa m)=bif aL i j then .any else .gX j e k fa m:=rfl
theorem Vy (cs:List AV):AV.uF i (.agg cs)=.agg (mr (AV.uF i) cs):=by
 show AV.mp _ _=_
 rw[AV.mp,AV.jX,mF];rfl
theorem VG (cs:List AV):AV.uF i (.gY cs)=.gY (mr (AV.uF i) cs):=by
 show AV.mp _ _=_
 rw[AV.mp,AV.jX,mF];rfl
theorem Wx (fn:Go.Fn) (cs ds:List AV):AV.uF i (.jx fn cs ds)=.jx fn (mr (AV.uF i) cs) (mr (AV.uF i) ds):=by
 show AV.mp _ _=_
 rw[AV.mp,AV.jX,AV.jX,mF,mF];rfl
end Nf
end Go.Ab
/- Arguments read as data,told as values. -/
namespace Go.Ab
open Go Go.RowKit
variable {P:Program}
def Reads (w:World) (cs:List Value) (ps:List PV):Prop:=cs.length=ps.length∧∀(j:Nat) (c:Value) (p:PV),cs[j]? =some c→ps[j]? =some p→RP (fun _=>True) w c p∧c.oneCell'=true
theorem Reads.one {w:World} {c:Value} {p:PV} (h:RP (fun _=>True) w c p) (h1:c.oneCell'=true):Reads w [c] [p]:=
 ⟨rfl,fun j c' p' h2 h3=>by
  cases j with
  |zero=>simp at h2 h3;subst h2;subst h3;exact⟨h,h1⟩
  |succ j=>simp at h2⟩
theorem Reads.nil {w:World}:Reads w [] []:=⟨rfl,fun j c p h=>by simp at h⟩
theorem Reads.append {w:World} {cs cs':List Value} {ps ps':List PV} (h:Reads w cs ps) (h':Reads w cs' ps'):Reads w (cs++cs') (ps++ps'):=by
 refine⟨by simp [h.1,h'.1],fun j c p h1 h2=>?_⟩
 by_cases hj:j<cs.length
 ·rw[aT hj] at h1
  rw[aT (by rw[← h.1];exact hj)] at h2
  exact h.2 j c p h1 h2
 ·rw[aV aJ] at h1
  rw[aV (by rw[← h.1];omega),← h.1] at h2
  exact h'.2 _ c p h1 h2
def Rd (P:Program) (t:TypeId) {α:Type} (enc:α→List PV) (ok:α→Prop):Prop:=
 ∀{H:Type} (en:TypeId×Value→H) (w:World) (sp:Nat→Bool) (fuel:Nat) (cs:List Value) (x:DataW H×List MemPlace),DataW.trod en P w 0 sp true fuel t cs=some x→
  (∀n∈x.1.weights P t,n≤reachBytes)→∃a:α,Reads w cs (enc a)∧ok a
theorem Rd.int {t:TypeId} {k:IntKind} (ht:P.underlying t=some (.int k)):Rd P t (fun n:Int=>[.lit (.int k n)]) (fun n=>(Lit.int k n).wf=true):=by
 intro H en w sp fuel cs x h _
 obtain⟨n,rfl,_,hw⟩:=DataW.trod_int ht h
 exact⟨n,.one (.lit _) rfl,hw⟩
theorem Rd.bool {t:TypeId} (ht:P.underlying t=some .bool):Rd P t (fun b:Bool=>[.lit (.bool b)]) (fun _=>True):=by
 intro H en w sp fuel cs x h _
 obtain⟨b,rfl,_⟩:=DataW.trod_bool ht h
 exact⟨b,.one (.lit _) rfl,trivial⟩
theorem Rd.string {t:TypeId} (ht:P.underlying t=some .string):Rd P t (fun s:ByteArray=>[.lit (.string s)]) (fun s=>s.size≤reachBytes):=by
 intro H en w sp fuel cs x h hw
 obtain⟨s,rfl,rfl,hs⟩:=DataW.trod_string ht h
 exact⟨s,.one (.lit _) rfl,by have:=hw s.data.toList.length (by simp [DataW.weights]);simpa using this⟩
theorem rq {H:Type} {e:TypeId}:∀{ds:List (DataW H)} {d:DataW H},d∈ds→∀n∈d.weights P e,n∈DataW.weightsAll P e ds
 |d0::ds,d,h,n,hn=>by
  simp only[DataW.weightsAll,bX]
  rcases bw.1 h with rfl|h
  ·exact .inl hn
  ·exact .inr (rq h n hn)
theorem Pf {α β:Type} {f:α→Option β}:∀{l:List α} {r:List β},l.mapM f=some r→r.length=l.length∧∀(j:Nat) (x:α),l[j]? =some x→f x=r[j]?:=by
 intro l
 induction l with
 |nil=>intro r h;simp at h;subst h;simp
 |cons x l ih=>
  intro r h
  rw[List.mapM_cons] at h
  cases hx:f x with
  |none=>rw[hx] at h;simp at h
  |some y=>
   rw[hx] at h
   cases hl:l.mapM f with
   |none=>rw[hl] at h;simp at h
   |some r'=>
    rw[hl] at h
    simp at h
    subst h
    obtain⟨h1,h2⟩:=ih hl
    refine⟨by simp [h1],fun j z hz=>?_⟩
    cases j with
    |zero=>simp at hz;subst hz;simp [hx]
    |succ j=>simp at hz;simpa using h2 j z hz
theorem yp {w:World} {a:Addr} {n:Nat} {cs:List Value} (h:w.cells? 0 a n=some cs):cs.length=n∧∀j,j<n→w.cell? (a.add j)=cs[j]?:=by
 unfold World.cells? at h
 rw[if_pos (bm _)] at h
 obtain⟨h1,h2⟩:=Pf h
 refine⟨by simpa using h1,fun j hj=>?_⟩
 exact h2 j j (by simp [hj])
theorem I5 {w:World} {ad:Addr} {v:Value} (h:w.cell? ad=some v):ad.spot=none:=World.cell?_spot h
theorem Rd.slice {α:Type} {t e:TypeId} {k by':Nat} {enc:α→List PV} {ok:α→Prop} (ht:P.underlying t=some (.slice e)) (hk:P.cellsOf e=k) (og:0<k) (hb:P.bytesOf e=by') (CG:0<by') (hen:∀a,(enc a).length=k) (h:Rd P e enc ok):
  Rd P t (fun l:List α=>[.slice k (l.map enc)]) (fun l=>l.length*by'≤reachBytes∧∀a∈l,ok a):=by
 intro H en w sp fuel cs x hx hw
 rcases DataW.trod_slice ht hx with ⟨rfl,rfl⟩|⟨a,len,cap,elems,rest,n,rfl,rfl,rfl,_,RI,Jp,JL,r8,_,_⟩
 ·refine⟨[],.one (sY k) rfl,by simp,by simp⟩
 ·have Cs:(elems.length+rest.length)*by'≤reachBytes:=by
   have:=hw ((elems.length+rest.length)*by') (by simp [DataW.weights,ht,hb])
   exact this
  have ZS:elems.length*by'≤reachBytes:=Nat.le_trans (bS _ aJ) Cs
  have hlen:elems.length≤140737488355328:=by
   have h1:elems.length*1≤elems.length*by':=Nat.mul_le_mul_left _ CG
   have h2:reachBytes≤140737488355328:=by decide
   omega
  -- the elements,one by one
  have key:∀i,i<len→∃c a',w.cells? 0 (a.add (i*k)) k=some c∧Reads w c (enc a')∧ok a':=by
   intro i hi
   have h1:=r8 i hi
   rw[hk] at h1
   have qU:i<elems.length:=by omega
   rw[a8 qU] at h1
   cases hc:w.cells? 0 (a.add (i*k)) k with
   |none=>rw[hc] at h1;simp at h1
   |some c=>
    rw[hc,bI] at h1
    obtain⟨a',h2,h3⟩:=h en w sp n c elems[i] h1 (fun m hm=>hw m (by
     simp only[DataW.weights,ht,bw,bX]
     exact .inr (.inl (rq (bx.2 ⟨elems[i],List.getElem_mem qU,rfl⟩) m hm))))
    exact⟨c,a',rfl,h2,h3⟩
  have WX:∃l:List α,l.length=len∧∀i (a':α),l[i]? =some a'→∃c,w.cells? 0 (a.add (i*k)) k=some c∧Reads w c (enc a')∧ok a':=by
   clear r8 hx JL hw
   have:∀m,m≤len→∃l:List α,l.length=m∧∀i (a':α),l[i]? =some a'→∃c,w.cells? 0 (a.add (i*k)) k=some c∧Reads w c (enc a')∧ok a':=by
    intro m
    induction m with
    |zero=>intro _;exact⟨[],rfl,by simp⟩
    |succ m ih=>
     intro hm
     obtain⟨l,h1,h2⟩:=ih (by omega)
     obtain⟨c,a',h3,h4⟩:=key m (by omega)
     refine⟨l++ [a'],by simp [h1],fun i b hb=>?_⟩
     by_cases hi:i<l.length
     ·rw[aT hi] at hb;exact h2 i b hb
     ·rw[aV aJ] at hb
      have qU:i=m:=by have:=(aW.1 hb).1;simp at this;omega
      subst qU
      rw[h1] at hb
      simp at hb
      subst hb
      exact⟨c,h3,h4⟩
   exact this len (aP _)
  obtain⟨l,hl,DW⟩:=WX
  have hle:l.length=elems.length:=by omega
  refine⟨l,.one ?_ rfl,by rw[hle];exact ZS,fun b hb=>?_⟩
  ·have TH:l≠ []→a.spot=none:=by
    intro gn
    obtain⟨b,l',rfl⟩:=cI gn
    obtain⟨c,h1,h2,_⟩:=DW 0 b rfl
    obtain⟨h3,h4⟩:=yp h1
    have h5:=h4 0 og
    rw[a8 aJ] at h5
    have h6:=I5 h5
    simpa [Addr.add] using h6
   have zH:l≠ []→a.block<w.heap.size:=by
    intro gn
    obtain⟨b,l',rfl⟩:=cI gn
    obtain⟨c,h1,h2,_⟩:=DW 0 b rfl
    obtain⟨h3,h4⟩:=yp h1
    have h5:=h4 0 og
    rw[a8 aJ] at h5
    simp only[Nat.zero_mul,Addr.add,if_true] at h5
    unfold World.cell? at h5
    rcases cv a.block w.heap.size with fy|yh
    ·exact fy
    ·rw[cw yh] at h5;simp at h5
   obtain⟨bl,off,spot⟩:=a
   have iX:∀(i j:Nat) (p:PV),cellAt (l.map enc) i j=some p→∃c:Value,w.cell? ⟨bl,off+i*k+j,none⟩=some c∧RP (fun _=>True) w c p∧c.oneCell'=true:=by
    intro i j p hp
    unfold cellAt at hp
    rw[a7] at hp
    cases EG:l[i]? with
    |none=>rw[EG] at hp;simp at hp
    |some b=>
     rw[EG] at hp
     simp at hp
     have gn:l≠ []:=by rintro rfl;simp at EG
     have mW:spot=none:=TH gn
     subst mW
     obtain⟨c,h1,h2,_⟩:=DW i b EG
     obtain⟨h3,h4⟩:=yp h1
     have hj:j<k:=by have:=(aW.1 hp).1;rw[hen] at this;exact this
     have h5:=h4 j hj
     rw[a8 aJ] at h5
     rw[jr,jr] at h5
     obtain⟨h6,h7⟩:=h2.2 j _ p (a8 aJ) hp
     exact⟨_,h5,h6,h7⟩
   refine .slice bl off (fun i j=>(w.cell? ⟨bl,off+i*k+j,none⟩).getD undef) (by simp [hl]) aJ aJ (fun gn=>?_) (fun c hc=>?_) (fun i j p hp=>?_) (fun i j p hp=>?_)
   ·have Vc:l≠ []:=by rintro rfl;simp at gn
    have mW:spot=none:=TH Vc
    subst mW
    exact⟨rfl,trivial,zH Vc⟩
   ·obtain⟨b,_,rfl⟩:=bx.1 hc;exact hen b
   ·obtain⟨c,h1,h2,h3⟩:=iX i j p hp
    rw[h1];exact⟨rfl,h3⟩
   ·obtain⟨c,h1,h2,h3⟩:=iX i j p hp
    rw[h1];exact h2
  ·obtain⟨i,hi⟩:=bA hb
   obtain⟨c,_,_,h3⟩:=DW i b hi
   exact h3
def MO (P:Program) (off n:Nat) (fs:List Field) {α:Type} (enc:α→List PV) (ok:α→Prop):Prop:=
 ∀{H:Type} (en:TypeId×Value→H) (w:World) (sp:Nat→Bool) (fuel:Nat) (cs:List Value) (xs:List (DataW H×List MemPlace)),xs.length=fs.length→
  (∀(i:Nat) (f:Field),fs[i]? =some f→DataW.trod en P w 0 sp true fuel f.type ((cs.drop f.offset).take (P.cellsOf f.type))=xs[i]?)→
  (∀m∈DataW.weightsEach P (fs.map (·.type)) (xs.map (·.1)),m≤reachBytes)→∃a:α,Reads w ((cs.drop off).take n) (enc a)∧ok a
theorem MO.nil {off:Nat}:MO P off 0 [] (fun _:Unit=>[]) (fun _=>True):=fun _ _ _ _ _ _ _ _ _=>⟨(),by simp;exact Reads.nil,trivial⟩
theorem MO.cons {off k n:Nat} {f:Field} {fs:List Field} {α β:Type} {e1:α→List PV} {o1:α→Prop} {e2:β→List PV} {o2:β→Prop} (ZZ:f.offset=off) (hk:P.cellsOf f.type=k) (h1:Rd P f.type e1 o1) (h2:MO P (off+k) n fs e2 o2):
  MO P off (k+n) (f::fs) (fun p:α×β=>e1 p.1++e2 p.2) (fun p=>o1 p.1∧o2 p.2):=by
 intro H en w sp fuel cs xs hl hx hw
 cases xs with
 |nil=>simp at hl
 |cons y ys=>
  have h3:=hx 0 f rfl
  obtain⟨a,ha,Xq⟩:=h1 en w sp fuel _ y h3 (fun m hm=>hw m (by simp [DataW.weightsEach,hm]))
  obtain⟨b,hb,W3⟩:=h2 en w sp fuel cs ys (by simpa using hl) (fun i f' hf=>by simpa using hx (i+1) f' (by simpa using hf)) (fun m hm=>hw m (by simp only[bB,DataW.weightsEach,bX];exact .inr hm))
  refine⟨(a,b),?_,Xq,W3⟩
  rw[ZZ,hk] at ha
  have e:(cs.drop off).take (k+n)=(cs.drop off).take k++(cs.drop (off+k)).take n:=by
   rw[List.take_add,List.drop_drop]
  rw[e]
  exact ha.append hb
theorem Rd.struct {t:TypeId} {fs:Array Field} {n:Nat} {α:Type} {enc:α→List PV} {ok:α→Prop} (ht:P.underlying t=some (.struct fs)) (hn:P.cellsOf t=n) (h:MO P 0 n fs.toList enc ok):Rd P t enc ok:=by
 intro H en w sp fuel cs x hx hw
 obtain⟨xs,m,rfl,rfl,iX,hl,r8⟩:=DataW.trod_struct ht hx
 obtain⟨a,ha,Xq⟩:=h en w sp m cs xs (by simpa using hl) (fun i f hf=>r8 i f (by simpa using hf)) (fun k hk=>hw k (by simpa [DataW.weights,ht] using hk))
 rw[cD,cJ aJ] at ha
 exact⟨a,ha,Xq⟩
theorem Rd.map {t:TypeId} {α β:Type} {e1:α→List PV} {o1:α→Prop} {e2:β→List PV} {o2:β→Prop} (h:Rd P t e1 o1) (f:α→β) (he:∀a,e1 a=e2 (f a)) (ho:∀a,o1 a→o2 (f a)):Rd P t e2 o2:=by
 intro H en w sp fuel cs x hx hw
 obtain⟨a,h1,h2⟩:=h en w sp fuel cs x hx hw
 exact⟨f a,he a▸h1,ho a h2⟩
section
variable {H:Type} {en:TypeId×Value→H} {w:World} {sp:Nat→Bool} {t:TypeId} {v:Value} {d:DataW H} {ps:List MemPlace} {α:Type} {enc:α→List PV} {ok:α→Prop}
theorem Nt {p:α→PV} (h:Rd P t (fun a=>[p a]) ok) (ht:DataW.Trod en P w 0 sp true t v d ps) (hw:∀n∈d.weights P t,n≤reachBytes) (hv:v.cells.toList=[v]):∃a:α,RA (vx fun _=>True) w v (.pv (p a))∧ok a:=by
 obtain⟨fuel,hf⟩:=ht
 obtain⟨a,h1,h2⟩:=h en w sp fuel _ _ hf hw
 rw[hv] at h1
 exact⟨a,.pv (h1.2 0 v (p a) rfl rfl).1,h2⟩
theorem Dt {a:Option Addr} {l c:Nat}:(Value.slice a l c).cells.toList=[.slice a l c]:=rfl
end
theorem Dj {H:Type} {ts ts':List TypeId} {ds gs:List (DataW H)} (h:(DataW.weightsEach P (ts++ts') (ds++gs)).all (·≤reachBytes)=true) {j:Nat} {t:TypeId} {d:DataW H} (ht:(ts++ts')[j]? =some t) (hd:(ds++gs)[j]? =some d):∀n∈d.weights P t,n≤reachBytes:=by
 intro n hn
 have:=(bD.1 h) n (DataW.weights_mem_each ht hd n hn)
 simpa using this
theorem wf_u8 {n:Int} (h:(Lit.int .u8 n).wf=true):0≤n∧n≤255:=by
 simp only[Lit.wf,aZ,decide_eq_true_eq] at h
 simpa [IntKind.min,IntKind.max,IntKind.signed,IntKind.bits] using h
end Go.Ab
/- Equality of pairs;bools compared. -/
namespace Go.Ab
open Go Go.RowKit
variable {q:Md} {P:Program} {g:eZ} {δ:DS} {κ:Kp} {a:Act} {w:World}
variable {ops:Array Oper} {rest:List Oper} {Q:Exit→DS→Prop} {dst:Option Nat} {ty:TypeId} {pos:String} {af:Array Edge}
theorem vV {e:TypeId} {xs:Array Value} {j:Nat} {v:Value} (hs:ju P e=true) (h:xs[j]? =some v) (w:World):(part e xs j).run P w=.ok v w:=by
 have:=mm hs w
 simp [part,this,h]
theorem Gw (op:BinOp) (uZ:op=.eql∨op=.neq) (t:TypeId) (x y:Operand) (ht:P.underlying t=some .bool) (m n:Bool) (w:World):
  (do eqGuard op t x y (.bool m) (.bool n);Go.binOp op t (.bool m) (.bool n):Sem Value).run P w=.ok (.bool (if op=.eql then decide (m=n) else decide (¬m=n))) w:=by
 have h1:(eqGuard op t x y (.bool m) (.bool n)).run P w=.ok () w:=by
  unfold eqGuard
  cases op<;>simp [Sem.run,pure,Sem.bind,bind]
 rw[Sem.run_bind,h1,Result.andThen_ok]
 have h2:=run_equalIn_bool' (P:=P) w 9999 t m n ht
 rcases uZ with rfl|rfl
 ·simp [Go.binOp,Op.equal,Op.maxDepth,h2];cases m<;>cases n<;>rfl
 ·simp [Go.binOp,Op.equal,Op.maxDepth,h2];cases m<;>cases n<;>rfl
theorem a_.Wo {x y:Operand} {t t':TypeId} {m n:Bool} (hx:δ.ev x=fq m) (hy:δ.ev y=fq n) (ht:P.underlying t=some .bool) (ho:fj x=true) (ga:fj y=true) (hd:fT δ.n dst=true)
  (hK:a_ q P g ops rest Q (δ.eW dst (fq (decide (m=n))))):a_ q P g ops (⟨dst,.binOp .eql t x y t',ty,pos,af,none⟩::rest) Q δ:=
 a_.bin hx hy ho ga (fun w=>Gw _ (.inl rfl) t x y ht m n w) hd (by simpa using hK)
theorem a_.Rc {x y:Operand} {t t':TypeId} {m n:Bool} (hx:δ.ev x=fq m) (hy:δ.ev y=fq n) (ht:P.underlying t=some .bool) (ho:fj x=true) (ga:fj y=true) (hd:fT δ.n dst=true)
  (hK:a_ q P g ops rest Q (δ.eW dst (fq (decide (¬m=n))))):a_ q P g ops (⟨dst,.binOp .neq t x y t',ty,pos,af,none⟩::rest) Q δ:=
 a_.bin hx hy ho ga (fun w=>Gw _ (.inr rfl) t x y ht m n w) hd (by simpa using hK)
def Tx:List PV→List AV
 |[]=>[]
 |p::r=> .pv p::Tx r
theorem LN:∀l:List PV,l.map AV.pv=Tx l
 |[]=>rfl
 |p::r=>by rw[bB,LN r];rfl
theorem Nf.pl0:Tx []=[]:=rfl
theorem Nf.pl1 (p:PV) (r:List PV):Tx (p::r)=.pv p::Tx r:=rfl
theorem Nf.pl:∀l:List PV,l.map AV.pv=Tx l:=LN
section
variable {α:Type} {f:α→List PV} {l:List α} {x y z:Operand} {t e:TypeId} {k:Nat} {m n:Int}
theorem a_.Je (hx:δ.ev x=.pv (.slice k (l.map f))) (hy:δ.ev y=eU n) (ht:P.underlying t=some (.slice e)) (hk:(P.info? e).map (·.size)=some k)
  (ho:fj x=true) (ga:fj y=true) (hd:fT δ.n dst=true) (h0:0≤n) (hn:n≤l.length) (hK:a_ q P g ops rest Q (δ.eW dst (.pv (.slice k ((l.take n.toNat).map f))))):a_ q P g ops (⟨dst,.slice t x none (some y) none,ty,pos,af,none⟩::rest) Q δ:=
 a_.Kj (n:=n.toNat) hx (by rw[hy,b9 h0]) ht hk ho ga hd aJ hK
theorem a_.u_ (hx:δ.ev x=.pv (.slice k (l.map f))) (hz:δ.ev z=eU m) (ht:P.underlying t=some (.slice e)) (hk:(P.info? e).map (·.size)=some k)
  (ho:fj x=true) (RU:fj z=true) (hd:fT δ.n dst=true) (h0:0≤m) (hn:m≤l.length) (hK:a_ q P g ops rest Q (δ.eW dst (.pv (.slice k ((l.drop m.toNat).map f))))):
  a_ q P g ops (⟨dst,.slice t x (some z) none none,ty,pos,af,none⟩::rest) Q δ:=
 a_.slice (l:=m.toNat) (h:=(l.map f).length) (hi:=none) (lo:=some z) hx ht hk ⟨RU,by rw[hz,b9 h0]⟩ rfl (by simp;omega) (aP _) ho hd (by
  have:((l.map f).drop m.toNat).take ((l.map f).length - m.toNat)=(l.drop m.toNat).map f:=by
   rw[cJ (by simp),List.map_drop]
  rw[this];exact hK)
end
end Go.Ab
/- Drawn regions:an operation under a guard that is known to hold,taken first. -/
namespace Go.Ab
open Go Go.RowKit
attribute [local irreducible] HS
variable {P:Program} {g:eZ} {δ:DS} {l:List Oper} {late dn:List Nat} {k:Wt} {QD:Exit→DS→Prop}
end Go.Ab
/- The plain form's laws in one. -/
namespace Go.Ab
open Go Go.RowKit
set_option linter.defProp false in
def Nf.all:=And.intro @Nf.beq
 (And.intro @Nf.ble
 (And.intro @Nf.hs
 (And.intro @Nf.c_t
 (And.intro @Nf.c_f
 (And.intro @Nf.put
 (And.intro @Nf.XW
 (And.intro @Nf.add
 (And.intro @Nf.set
 (And.intro @Nf.pn
 (And.intro @Nf.pe
 (And.intro @Nf.po
 (And.intro @Nf.px
 (And.intro @Nf.Z8
 (And.intro @Nf.Xp
 (And.intro @Nf.Zg
 (And.intro @Nf.TU
 (And.intro @Nf.U2
 (And.intro @Nf.start
 (And.intro @Nf.en0
 (And.intro @Nf.en1
 (And.intro @Nf.vr
 (And.intro @Nf.Ot
 (And.intro @Nf.Yw
 (And.intro @Nf.UM
 (And.intro @Nf.Vw
 (And.intro @Nf.V2
 (And.intro @Nf.Ql
 (And.intro @Nf.av0
 (And.intro @Nf.av1
 (And.intro @Nf.JO
 (And.intro @Nf.ae0
 (And.intro @Nf.ae1
 (And.intro @Nf.JJ
 (And.intro @Nf.sh0
 (And.intro @Nf.sh1
 (And.intro @Nf.un0
 (And.intro @Nf.un1
 (And.intro @Nf.ow0
 (And.intro @Nf.ow1
 (And.intro @Nf.pa
 (And.intro @Nf.pa0
 (And.intro @Nf.TT
 (And.intro @Nf.round
 (And.intro @Nf.mv
 (And.intro @Nf.mE0
 (And.intro @Nf.mE1
 (And.intro @Nf.mC0
 (And.intro @Nf.mC1
 (And.intro @Nf.mO0
 (And.intro @Nf.mOn
 (And.intro @Nf.mOr
 (And.intro @Nf.mOb
 (And.intro @Nf.mOP (And.intro @Nf.mOt
 (And.intro @Nf.mOm
 (And.intro @Nf.mOq
 (And.intro @Nf.mOl
 (And.intro @Nf.mOi
 (And.intro @Nf.Vk
 (And.intro @Nf.ZD
 (And.intro @Nf.VZ
 (And.intro @Nf.R6
 (And.intro @Nf.QT
 (And.intro @Nf.Wq
 (And.intro @Nf.Vh
 (And.intro @Nf.QW
 (And.intro @Nf.Uu
 (And.intro @Nf.VV
 (And.intro @Nf.T6
 (And.intro @Nf.Rn
 (And.intro @Nf.WE
 (And.intro @Nf.Rv
 (And.intro @Nf.SW
 (And.intro @Nf.RM
 (And.intro @Nf.Ni
 (And.intro @Nf.QO
 (And.intro @Nf.Pg
 (And.intro @Nf.Bv
 (And.intro @Nf.lo1
 (And.intro @Nf.sto
 (And.intro @Nf.bko
 (And.intro @Nf.sst
 (And.intro @Nf.ll0
 (And.intro @Nf.ll1
 (And.intro @Nf.la0
 (And.intro @Nf.la1
 (And.intro @Nf.sn0
 (And.intro @Nf.sn1
 (And.intro @Nf.cs0
 (And.intro @Nf.cs1
 (And.intro @Nf.YI
 (And.intro @Nf.XR
 (And.intro @Nf.Yv
 (And.intro @Nf.lp0
 (And.intro @Nf.sa0
 (And.intro @Nf.sa1
 (And.intro @Nf.sp0
 (And.intro @Nf.sp1
 (And.intro @Nf.fd
 (And.intro @Nf.Uv
 (And.intro @Nf.ZH
 (And.intro @Nf.V8
 (And.intro @Nf.QJ
 (And.intro @Nf.QG
 (And.intro @Nf.Wz
 (And.intro @Nf.WI
 (And.intro @Nf.SB
 (And.intro @Nf.Vy
 (And.intro @Nf.VG
 (And.intro @Nf.Wx
 (And.intro @Nf.pl
 (And.intro @Nf.pl0 ((@Nf.pl1))))))))))))))))))))))))))))))))))))))))))))))))))))))))))))))))))))))))))))))))))))))))))))))))))))))))))))))))))
end Go.Ab
/- A number turned into an int. -/
namespace Go.Ab
open Go Go.RowKit
variable {P:Program} {g:eZ} {δ:DS} {q:Md}
variable {ops:Array Oper} {rest:List Oper} {Q:Exit→DS→Prop} {dst:Option Nat} {ty:TypeId} {pos:String} {af:Array Edge}
theorem a_.PE {x:Operand} {s t:TypeId} {ks:IntKind} {d:TypeDesc} {m:Int} (hx:δ.ev x=.pv (.lit (.int ks m))) (hs:P.underlying s=some d) (ht:P.underlying t=some (.int .i64)) (ho:fj x=true) (hd:fT δ.n dst=true)
  (hb: -9223372036854775808≤m∧m≤9223372036854775807) (hK:a_ q P g ops rest Q (δ.eW dst (eU m))):a_ q P g ops (⟨dst,.convert s t x,ty,pos,af,none⟩::rest) Q δ:=
 a_.conv hx hs ht ho hd (by rw[IntWalk.i64_in _ hb];exact hK)
end Go.Ab
/- One shifted left by a number;bool slices. -/
namespace Go.Ab
open Go Go.RowKit
variable {P:Program} {g:eZ} {δ:DS} {q:Md}
variable {ops:Array Oper} {rest:List Oper} {Q:Exit→DS→Prop} {dst:Option Nat} {ty:TypeId} {pos:String} {af:Array Edge}
end Go.Ab
/- A slice made with make:a row of zeros. -/
namespace Go.Ab
open Go Go.RowKit
variable {P:Program} {g:eZ} {δ:DS} {q:Md}
variable {ops:Array Oper} {rest:List Oper} {Q:Exit→DS→Prop} {dst:Option Nat} {ty:TypeId} {pos:String} {af:Array Edge}
theorem iV.tG {gd:Option (Tmp×Bool)} {t e:TypeId} {x y:Operand} {m:Int} {z:Value} {by':Nat} (hx:δ.ev x=eU m) (hy:δ.ev y=eU m) (ht:P.underlying t=some (.slice e)) (hi:(P.info? e).map (fun i=>(i.size,i.zero,i.bytes))=some (1,some z,by')) (YC:z.cells= #[z]) (h1:z.oneCell'=true) (hb:bz by' 64=true)
  (ho:fj x=true) (ga:fj y=true) (hd:fT δ.n dst=true) (hm:0≤m∧m≤100000):
  iV P g ⟨dst,.makeSlice t x y,ty,pos,af,gd⟩ δ ((δ.fQ .row).eW dst (.own δ.nx e 1 (bZ m.toNat [.lit z]))):=by
 intro κ a w r
 have jn:by'≤64:=by simpa using hb
 obtain⟨i0,jM,mW,oH,CG⟩:∃i0,P.info? e=some i0∧i0.size=1∧i0.zero=some z∧i0.bytes=by':=by
  cases h:P.info? e with
  |none=>rw[h] at hi;simp at hi
  |some i0=>rw[h] at hi;simp at hi;exact⟨i0,rfl,hi.1,hi.2.1,hi.2.2⟩
 have MN:=r.lit hx ho
 have Xt:=r.lit hy ga
 have X_:IntKind.i64.wrap m=m:=IntWalk.i64_in _ (by omega)
 generalize Ao:((bM m.toNat).map (fun _=>z))=c'
 have pI:c'.size=m.toNat:=by rw[← Ao];simp
 have hmul:by'*m.toNat≤6400000:=by
  have h1:by'*m.toNat≤64*m.toNat:=bS _ jn
  omega
 have UQ:(by':Int)*m≤6400000:=by
  have:((by'*m.toNat:Nat):Int)≤6400000:=by omega
  rw[Int.natCast_mul,b9 hm.1] at this
  exact this
 have fF:(execOp a.eval ⟨dst,.makeSlice t x y,ty,pos,af,gd⟩).run P w=.ok (.value (.slice (some ⟨w.heap.size,0,none⟩) m.toNat m.toNat)) (w.alloc (.cells c' e)):=by
  have mY:∀w,(typeInfo e).run P w=.ok i0 w:=fun w=>by simp [typeInfo,jM]
  have Ey:∀w,(zeroValue e).run P w=.ok z w:=fun w=>by simp [zeroValue,typeInfo,jM,oH]
  have Ty:∀w,(sizeOf e).run P w=.ok 1 w:=fun w=>by simp [sizeOf,typeInfo,jM,mW]
  have has:∀w,(asInt (.int .i64 m)).run P w=.ok m w:=fun w=>by simp [asInt,asIntOf,Sem.run_bind,Sem.run_pure,Result.andThen_ok]
  have LC:¬(by':Int)*m>2 ^ 48:=by
   have:(2:Int) ^ 48=281474976710656:=by decide
   omega
  have BH:¬m<0:=by omega
  have lQ:¬m.toNat*by'>roomBytes:=by
   have:(6400000:Nat)≤roomBytes:=by decide
   have h2:m.toNat*by'=by'*m.toNat:=Nat.mul_comm _ _
   omega
  have XA:(bM (m.toNat*1)).map (fun j=>(#[z]:Array Value)[j % (#[z]:Array Value).size]!)=c':=by
   rw[← Ao,cK]
   apply Array.ext
   ·simp
   ·intro i h1 h2
    simp [Nat.mod_one]
  simp only[execOp,Instr.makeSlice,Sem.run_bind,Result.andThen_ok,run_underlying ht,MN,Xt,has,mY,CG,X_]
  simp only[decide_eq_false LC,decide_eq_false BH,Bool.or_false,Bool.false_or,Int.lt_irrefl,decide_false,gt_iff_lt,cu,if_false,askRoom,Sem.run_pure,Result.andThen_ok,Sem.run_bind]
  have Fa:¬roomBytes<m.toNat*by':=lQ
  simp only[if_neg Fa,Sem.run_pure,Result.andThen_ok,Ty]
  by_cases h0:m.toNat*1=0
  ·have Tf:(bM (m.toNat*1)).map (fun j=>(#[]:Array Value)[j % (#[]:Array Value).size]!)=c':=by
    rw[← Ao,h0,show m.toNat=0 from by omega];simp [Array.range_zero']
   simp only[if_pos h0,Sem.run_bind,Sem.run_pure,Result.andThen_ok,newRow]
   simp only[pure_bind,Tf]
   rfl
  ·simp only[if_neg h0,Sem.run_bind,Sem.run_pure,Result.andThen_ok,Ey,newRow,YC,XA]
   rfl
 have oC:m.toNat≤maxLen:=by simp only[maxLen];omega
 obtain⟨r',G⟩:=r.grow .row (.cells c' e) (fun C G hκ b hb=>by
  have:w.heap.size=b:=Option.some.inj (hκ.symm.trans hb)
  subst this
  exact⟨c',e,heap_alloc_new w _⟩)
 have gG:=World.ownsRow_lit (base:=g.B) (e:=e) (size:=1) w c' m.toNat r.hB oC (by rw[pI];omega)
 have r8:∀(j:Nat) (u:Value),c'.toList[j]? =some u→u=z:=by
  intro j u h
  rw[← Ao] at h
  simp at h
  exact h.2.symm
 refine .inl ⟨_,_,_,_,fF,.inl rfl,r'.eW (ft hd) (.own ?_)⟩
 refine⟨by show(δ.fQ .row).ob _=_;rw[f_,if_pos rfl],by rw[cL];omega,fun c hc=>by rw[List.eq_of_mem_replicate hc];rfl,fun b hb=>?_,c'.toList,by rw[cL];exact gG,fun u hu=>?_,fun i' j p mZ=>?_⟩
 ·simp only[Value.ownBlock,Option.some.injEq] at hb
  subst hb
  show ig _ _ _ _=_
  simp [ig]
 ·obtain⟨j,hj⟩:=bA hu
  rw[r8 j u hj];exact h1
 ·unfold cellAt at mZ
  have hi:i'<m.toNat:=by
   rcases cv i' m.toNat with h|h
   ·exact h
   ·rw[cH (by simpa using h)] at mZ;simp at mZ
  rw[List.getElem?_replicate,if_pos hi] at mZ
  have hj:j=0∧p=.lit z:=by
   cases j with
   |zero=>simp at mZ;exact⟨rfl,mZ.symm⟩
   |succ j=>simp at mZ
  obtain⟨rfl,rfl⟩:=hj
  refine⟨z,?_,.lit _⟩
  rw[bC,← Ao]
  simp [hi]
end Go.Ab
namespace Go.Ab
open Go Go.RowKit
variable {P:Program} {g:eZ} {δ:DS} {q:Md}
variable {ops:Array Oper} {rest:List Oper} {Q:Exit→DS→Prop} {dst:Option Nat} {ty:TypeId} {pos:String} {af:Array Edge}
theorem a_.tG {t e:TypeId} {x y:Operand} {m:Int} {z:Value} {by':Nat} (hx:δ.ev x=eU m) (hy:δ.ev y=eU m) (ht:P.underlying t=some (.slice e)) (hi:(P.info? e).map (fun i=>(i.size,i.zero,i.bytes))=some (1,some z,by')) (YC:z.cells= #[z]) (h1:z.oneCell'=true) (hb:bz by' 64=true)
  (ho:fj x=true) (ga:fj y=true) (hd:fT δ.n dst=true) (hm:0≤m∧m≤100000) (hK:a_ .plain P g ops rest Q ((δ.fQ .row).eW dst (.own δ.nx e 1 (bZ m.toNat [.lit z])))):
  a_ .plain P g ops (⟨dst,.makeSlice t x y,ty,pos,af,none⟩::rest) Q δ:=a_.s6 rfl rfl (iV.tG hx hy ht hi YC h1 hb ho ga hd hm) hK
end Go.Ab
/- A store into an element of a row of the walk's own (elements of one cell). -/
namespace Go.Ab
open Go Go.RowKit
variable {P:Program} {g:eZ} {δ:DS} {q:Md}
variable {ops:Array Oper} {rest:List Oper} {Q:Exit→DS→Prop} {dst:Option Nat} {ty:TypeId} {pos:String} {af:Array Edge}
def sZ (i n:Nat) (c:List PV):AV→AV
 |.own j e k fa=>bif aL i j then (bif aL k 1 then .own j e k (fa.set n c) else .any) else .own j e k fa
 |.gX j e k fa m=>bif aL i j then .any else .gX j e k fa m
 |v=>v
def AV.nt (i n:Nat) (c:List PV):AV→AV:=AV.mp (sZ i n c)
theorem iV.gQ {gd:Option (Tmp×Bool)} {x y:Operand} {t e:TypeId} {i idx:Nat} {fa:List (List PV)} {p:PV} (hx:δ.ev x=.gX i e 1 fa idx) (hy:δ.ev y=.pv p) (hr:δ.ob i=some .row) (ht:(P.info? t).map (·.size)=some 1) (h1:AV.one (.pv p)=true)
  (ho:fj x=true) (ga:fj y=true) (hd:fT δ.n dst=true):
  iV P g ⟨dst,.store t x y,ty,pos,af,gd⟩ δ ((δ.gU (AV.nt i idx [p])).eW dst .any):=by
 intro κ a w r
 have hxa:=r.ra hx ho
 have yN:=r.ra hy ga
 have qp:=yN.one h1
 generalize MN:a.eval x=u at hxa
 cases hxa with
 | @gX _ _ _ _ _ b cap hi h=>
  have hκ:κ i=some b:=h.x8 b rfl
  obtain⟨xs,⟨wk,gR⟩,hxo,X4⟩:=h.row
  rcases gR with ⟨hn,_⟩|⟨g0,cap0,cur,hv,hg,h3,hle,Jp,pI,tA⟩
  ·cases hn
  ·simp only[Value.slice.injEq,Option.some.injEq,Addr.mk.injEq] at hv
   obtain⟨⟨rfl,_⟩,_,rfl⟩:=hv
   have fF:(execOp a.eval ⟨dst,.store t x y,ty,pos,af,gd⟩).run P w=.ok .skip (w.setCell ⟨b,idx*1,none⟩ (a.eval y)):=by
    obtain⟨i0,jM,mW⟩:∃i0,P.info? t=some i0∧i0.size=1:=by
     cases h:P.info? t with
     |none=>rw[h] at ht;simp at ht
     |some i0=>rw[h] at ht;exact⟨i0,rfl,by simpa using ht⟩
    have hc:w.cell? ⟨b,idx*1,none⟩=some (cur[idx*1]'(by omega)):=by rw[cell_of h3,aN aJ]
    have i_:(store ⟨b,idx*1,none⟩ (a.eval y)).run P w=.ok () (w.setCell ⟨b,idx*1,none⟩ (a.eval y)):=by
     rw[run_store P w _ _ _ qp,hc];simp [py h3]
    rw[cK] at i_ ⊢
    rw[cK] at MN
    simp [execOp,Instr.storeAt,Instr.sureAddr,storeVar,MN,nP qp,sizeOf,typeInfo,jM,mW,storeCells,jr,i_]
   obtain⟨r',G⟩:=r.row hr (κ':=κ) (fun _ _=>rfl) (by rw[hκ];exact iL.setCell w ⟨b,idx*1,none⟩ (a.eval y)) (fun b' jn=>by
     have e1:b=b':=Option.some.inj (hκ.symm.trans jn)
     subst e1
     refine⟨.inl hκ,?_,_,_,l4 h3 _⟩
     have:=(aO.1 (l4 (off:=idx*1) h3 (a.eval y))).1
     exact this)
    (AV.nt i idx [p]) rfl (fun G v av XB=>by
     refine XB.mp G rfl (fun j e' k' els' hj=>?_) (fun j e' k' els' n hj=>?_) (fun v' e' k' els' KM=>?_) (fun b' cap' e' k' els' n _ _=>?_)
     ·simp only[sZ,nm (Ne.symm hj)];rfl
     ·simp only[sZ,nm (Ne.symm hj)];rfl
     ·simp only[sZ,pz,cond_true]
      cases GN:aL k' 1 with
      |false=>exact .any _
      |true=>
       obtain rfl:k'=1:=aM GN
       obtain⟨xs',⟨T5,sQ⟩,Y3,Zf⟩:=KM.row
       refine .own ⟨?_,by rw[cM];exact KM.lim,?_,KM.x8,xs'.set idx (a.eval y),?_,?_,?_⟩
       ·show(δ.gU _).ob i=_
        rw[kR,hr];rfl
       ·intro c hc
        rcases cG hc with hc|rfl
        ·exact KM.hk c hc
        ·rfl
       ·rw[cM]
        refine⟨by rw[cM];exact T5,?_⟩
        rcases sQ with ⟨hn,h0⟩|⟨g1,cap1,cur1,Ew,MT,Z5,Zz,YP,Zi,Zy⟩
        ·exact .inl ⟨hn,h0⟩
        ·have Hi:κ i=some g1:=KM.x8 g1 (by rw[Ew];rfl)
         have e1:b=g1:=Option.some.inj (hκ.symm.trans Hi)
         subst e1
         rw[h3] at Z5
         simp only[Option.some.injEq,Obj.cells.injEq] at Z5
         obtain⟨rfl,rfl,_⟩:=Z5
         refine .inr ⟨b,cap1,_,Ew,MT,l4 h3 _,Zz,YP,by simpa using Zi,?_⟩
         rw[← Zy,Array.toList_setIfInBounds,cK,cK,List.take_set]
       ·intro u hu
        rcases cG hu with hu|rfl
        ·exact Y3 u hu
        ·exact qp
       ·intro i' j q hq
        unfold cellAt at hq
        rw[bH] at hq
        by_cases R4:idx=i'
        ·subst R4
         by_cases fy:idx<els'.length
         ·rw[if_pos rfl,if_pos fy] at hq
          have hjq:j=0∧q=p:=by
           cases j with
           |zero=>simp at hq;exact⟨rfl,hq.symm⟩
           |succ j=>simp at hq
          obtain⟨rfl,rfl⟩:=hjq
          refine⟨a.eval y,?_,G.rp (C:=(δ.cx g κ).less i) yN.lV⟩
          rw[bH,if_pos aJ,if_pos aJ]
         ·rw[if_pos rfl,if_neg fy] at hq;simp at hq
        ·rw[if_neg R4] at hq
         obtain⟨u,hu,Pz⟩:=Zf i' j q (by unfold cellAt;exact hq)
         have hj:j=0:=by
          rw[Option.bind_eq_some_iff] at hq
          obtain⟨c,FB,S_⟩:=hq
          have:=KM.hk c (aU FB)
          have:=(aW.1 S_).1
          omega
         subst hj
         exact⟨u,by rw[bH,if_neg aJ];exact hu,G.rp (C:=(δ.cx g κ).less i) Pz⟩
     ·simp only[sZ,pz,cond_true];exact .any _)
   exact .inl ⟨_,_,_,_,fF,.inr ⟨rfl,rfl⟩,r'.eW (ft hd) (.any _)⟩
theorem a_.gQ {x y:Operand} {t e:TypeId} {i idx:Nat} {fa:List (List PV)} {p:PV} (hx:δ.ev x=.gX i e 1 fa idx) (hy:δ.ev y=.pv p) (hr:δ.ob i=some .row) (ht:(P.info? t).map (·.size)=some 1) (h1:AV.one (.pv p)=true)
  (ho:fj x=true) (ga:fj y=true) (hd:fT δ.n dst=true) (hK:a_ .plain P g ops rest Q ((δ.gU (AV.nt i idx [p])).eW dst .any)):a_ .plain P g ops (⟨dst,.store t x y,ty,pos,af,none⟩::rest) Q δ:=
 a_.s6 rfl rfl (iV.gQ hx hy hr ht h1 ho ga hd) hK
end Go.Ab
/- A field of an element of a row of the walk's own,read;a store of a whole element of several cells into such a row. -/
namespace Go.Ab
open Go Go.RowKit
variable {P:Program} {g:eZ} {δ:DS} {q:Md}
variable {ops:Array Oper} {rest:List Oper} {Q:Exit→DS→Prop} {dst:Option Nat} {ty:TypeId} {pos:String} {af:Array Edge}
inductive F_:Bool→List AV→List AV→Prop
 |nil:F_ false [] []
 |here {b:Bool} {vs vs':List AV} (h:F_ b vs vs'):F_ true (.pv (.lit (.slice none 0 0))::vs) (.pv (.slice 1 [])::vs')
 |skip {b:Bool} {v:AV} {vs vs':List AV} (h:F_ b vs vs'):F_ b (v::vs) (v::vs')
theorem RR {C:Cx} {w:World} {v:Value} (h:RA C w v (.pv (.lit (.slice none 0 0)))) (k:Nat):RA C w v (.pv (.slice k [])):=by
 have h1:=h.lit
 subst h1
 exact .pv (.slice 0 0 (fun _ _=>undef) rfl (by simp) (by simp) (fun h=>absurd rfl h) (fun c hc=>by simp at hc) (fun i j p hp=>by simp [cellAt] at hp) (fun i j p hp=>by simp [cellAt] at hp))
theorem F_.ra {C:Cx} {w:World} {b:Bool} {vs vs':List AV} (h:F_ b vs vs'):vs.length=vs'.length∧∀(j:Nat) (u:Value) (c c':AV),vs[j]? =some c→vs'[j]? =some c'→RA C w u c→RA C w u c':=by
 induction h with
 |nil=>exact⟨rfl,fun j u c c' h=>by simp at h⟩
 |here h ih=>
  refine⟨by simp [ih.1],fun j u c c' h1 h2 h3=>?_⟩
  cases j with
  |zero=>simp at h1 h2;subst h1;subst h2;exact RR h3 1
  |succ j=>exact ih.2 j u c c' (by simpa using h1) (by simpa using h2) h3
 |skip h ih=>
  refine⟨by simp [ih.1],fun j u c c' h1 h2 h3=>?_⟩
  cases j with
  |zero=>simp at h1 h2;subst h1;subst h2;exact h3
  |succ j=>exact ih.2 j u c c' (by simpa using h1) (by simpa using h2) h3
theorem a_.TO {x y:Operand} {t t':TypeId} {m n:Int} {k:IntKind} (hx:δ.ev x=.pv (.lit (.int k m))) (hy:δ.ev y=.pv (.lit (.int k n))) (ho:fj x=true) (ga:fj y=true) (hd:fT δ.n dst=true) (h0:0≤m∧0<n)
  (hK:a_ q P g ops rest Q (δ.eW dst (.pv (.lit (.int k (m % n)))))):a_ q P g ops (⟨dst,.binOp .rem t x y t',ty,pos,af,none⟩::rest) Q δ:=
 a_.bin hx hy ho ga (kL _ _ _ _ _ _ _ _ (by simp) (by
  have hn:n≠0:=by omega
  rw[← Int.tmod_eq_emod_of_nonneg h0.1]
  simp [Op.intDiv,hn];rfl)) hd hK
theorem a_.AF {x y:Operand} {t e:TypeId} {k:Nat} {m:Int} {ik:IntKind} {fa:List (List PV)} {cs:List PV} (hx:δ.ev x=.pv (.slice k fa)) (hy:δ.ev y=.pv (.lit (.int ik m))) (hn:fa[m.toNat]? =some cs)
  (ht:P.underlying t=some (.slice e)) (hk:(P.info? e).map (·.size)=some k) (ho:fj x=true) (ga:fj y=true) (hd:fT δ.n dst=true) (h0:0≤m)
  (hK:a_ q P g ops rest Q (δ.eW dst (.gf cs))):a_ q P g ops (⟨dst,.indexAddr t x y,ty,pos,af,none⟩::rest) Q δ:=
 a_.DQ (n:=m.toNat) hx (by rw[hy,b9 h0]) hn ht hk ho ga hd hK
def ng (i:Nat):List Nat→Bool
 |[]=>false
 |j::r=>bif i==j then true else ng i r
def sX (ks:List Nat):List (Nat×AV)→List (Nat×AV)
 |[]=>[]
 |(i,v)::r=>bif ng i ks then (i,v)::sX ks r else sX ks r
theorem Wm (ks:List Nat):sX ks []=[]:=rfl
theorem P1 (ks:List Nat) (i:Nat) (v:AV) (r:List (Nat×AV)):sX ks ((i,v)::r)=bif ng i ks then (i,v)::sX ks r else sX ks r:=rfl
theorem Ek (i:Nat):ng i []=false:=rfl
theorem xu (i j:Nat) (r:List Nat):ng i (j::r)=bif i==j then true else ng i r:=rfl
theorem Ac (ks:List Nat):∀(e:List (Nat×AV)) (j:Nat),look (sX ks e) j=if ng j ks=true then look e j else .any
 |[],j=>by simp [sX,look]
 |(i,v)::r,j=>by
  rw[P1]
  have ih:=Ac ks r j
  cases hm:ng i ks with
  |true=>
   rw[cond_true,fL,fL]
   by_cases e:i=j
   ·subst e;rw[if_pos rfl,if_pos rfl,if_pos hm]
   ·rw[if_neg e,if_neg e,ih]
  |false=>
   rw[cond_false,fL,ih]
   by_cases e:i=j
   ·subst e;rw[if_neg (by rw[hm];simp),if_neg (by rw[hm];simp)]
   ·rw[if_neg e]
theorem AW.PK (id m:Nat) (ks:List Nat) {b:Bool} {l:Array Oper} (_h:aY m δ.env.length=true) (hK:AW P g (.region id l b) Q {δ with env:=sX ks δ.env}):AW P g (.region id l b) Q δ:=by
 intro κ a w r
 refine hK κ a w ?_
 exact
  {n:=r.n,dfr:=r.dfr
   env:=fun j=>by
    show RA _ w _ (look (sX ks δ.env) j)
    rw[Ac]
    split
    ·exact r.env j
    ·exact .any _
   obj:=r.obj,inj:=r.inj,lo:=r.lo,nx:=r.nx,wt:=r.wt,below:=r.below,hB:=r.hB,N0:=r.N0,fr:=r.fr,kZ:=r.kZ}
theorem fS.S2 {gd:Option (Tmp×Bool)} {t:TypeId} {parts:List (Nat×Operand)} {fs:Array Field} {z:Value} {cells:List AV} (hs:P.underlying t=some (.struct fs)) (hz:(P.info? t).bind (·.zero)=some z) (h1:z.cells.toList.all (·.oneCell')=true) (j4:fs.toList.all (fun f=>(P.info? f.type).isSome)=true)
  (ho:parts.all (fun p=>fj p.2)=true) (hf:jT (placeOf P fs) (z.cells.toList.map fun v=> .pv (.lit v)) (parts.map fun p=>(p.1,δ.ev p.2))=some cells):
  fS P ⟨dst,.build t parts.toArray,ty,pos,af,gd⟩ δ (.agg cells):=by
 intro g κ a w r
 obtain⟨i0,jM,oH⟩:∃i0,P.info? t=some i0∧i0.zero=some z:=by
  cases h:P.info? t with
  |none=>rw[h] at hz;simp at hz
  |some i0=>rw[h] at hz;exact⟨i0,rfl,by simpa using hz⟩
 have KU:=fun w1=>run_places (P:=P) fs.toList w1 #[] j4
 obtain⟨c',h2,h3⟩:=p9 (C:=δ.cx g κ) (w:=w) (place:=placeOf P fs) (place':=fun i=>((#[]:Array (Nat×Nat))++(fs.toList.map fun f=>(f.offset,((P.info? f.type).map (·.size)).getD 0)).toArray)[i]?)
  (fun i x h=>by
   unfold placeOf at h
   cases Nc:fs[i]? with
   |none=>rw[Nc] at h;simp at h
   |some f=>
    rw[Nc] at h
    simp only[bI,bh] at h
    obtain⟨ii,h4,rfl⟩:=h
    simp [Nc,h4])
  (parts.map fun p=>(p.1,a.eval p.2)) (parts.map fun p=>(p.1,δ.ev p.2)) z.cells _ cells (by simp) (fun j x y h4 h5=>by
   simp only[a7,bh] at h4 h5
   obtain⟨p,h6,rfl⟩:=h4
   obtain⟨p',h7,rfl⟩:=h5
   rw[h6] at h7;cases h7
   exact⟨rfl,r.Ez p.2 (iQ (by simpa using (bD.1 ho) p (aU h6)))⟩)
  ⟨by simp,fun j u av h4 h5=>by
   simp only[a7,bh] at h5
   obtain⟨v,h5,rfl⟩:=h5
   have:v=u:=by have:=h4;rw[← bC,h5] at this;exact Option.some.inj this
   subst this
   exact⟨.pv (.lit _),by simpa using (bD.1 h1) _ (aU h5)⟩⟩ hf
 refine⟨.agg c',fun w1=>?_,.agg h3.1 fun j u c h4 h5=>(h3.2 j u c h4 h5).1⟩
 have SG:(fs.mapM fun(f:Field)=>(do pure (f.offset,← sizeOf f.type):Sem (Nat×Nat)))=fs.toList.foldlM (fun(acc:Array (Nat×Nat)) (f:Field)=>do let s ← sizeOf f.type;pure (acc.push (f.offset,s))) #[]:=by
  rw[Array.mapM_eq_foldlM,← Array.foldlM_toList]
  congr 1
  funext acc f
  simp
 have Ey:∀w,(zeroValue t).run P w=.ok z w:=fun w=>by simp [zeroValue,typeInfo,jM,oH]
 simp only[execOp,Instr.build,Sem.run_bind,Ey,Result.andThen_ok,run_underlying hs,SG,KU,bp,h2,Sem.run_pure]
theorem fS.build (t:TypeId) (qX:List Nat) {gd:Option (Tmp×Bool)} {l:List Value} {parts:List (Nat×Operand)} {fs:Array Field} {z:Value} {cells:List AV} (hs:P.underlying t=some (.struct fs)) (hz:(P.info? t).bind (·.zero)=some z) (hl:z.cells=l.toArray) (h1:z.cells.toList.all (·.oneCell')=true) (j4:fs.toList.all (fun f=>(P.info? f.type).isSome)=true)
  (ho:parts.all (fun p=>fj p.2)=true) (w6:((parts.map fun p=>(p.1,δ.ev p.2)).map fun p=>(placeOf P fs p.1).map (·.1))=qX.map some) (hf:jT (placeOf P fs) (z.cells.toList.map fun v=> .pv (.lit v)) (parts.map fun p=>(p.1,δ.ev p.2))=some cells):
  fS P ⟨dst,.build t parts.toArray,ty,pos,af,gd⟩ δ (.agg (vD (DU l) (t_ δ.env qX parts))):=by
 have h2:=fS.S2 (gd:=gd) (dst:=dst) (ty:=ty) (pos:=pos) (af:=af) hs hz h1 j4 ho hf
 have:=vc _ qX _ cells hf w6
 rw[Bf,hl,cE,xo] at this
 rw[← this]
 exact h2
end Go.Ab
/- The rest of a row of statements walked once,from a weaker state. -/
namespace Go.Ab
open Go Go.RowKit
variable {P:Program} {g:eZ} {δ δc:DS} {Q:Exit→DS→Prop} {c rest:Code}
theorem AW.cut (h:AW P g c (jb fun δ'=>o6 g δ' δc) δ) (hK:AW P g rest Q δc):AW P g (.seq c rest) Q δ:=by
 refine AW.seq (AW.mono h fun e δ' h1=>?_)
 cases e with
 |normal=>exact AW.fe h1 hK
 |_=>exact h1.elim
end Go.Ab
namespace Go.Ab
open Go Go.RowKit
end Go.Ab
/- The address of an array's element. -/
namespace Go.Ab
open Go Go.RowKit
variable {P:Program} {g:eZ} {δ:DS} {q:Md}
variable {ops:Array Oper} {rest:List Oper} {Q:Exit→DS→Prop} {dst:Option Nat} {ty:TypeId} {pos:String} {af:Array Edge}
theorem a_.yw {α:Type} {x y:Operand} {t e e':TypeId} {i k n:Nat} {f:α→List PV} {l:List α} (hx:δ.ev x=.own i e' k (l.map f)) (hy:δ.ev y=eU (n:Nat))
  (ht:P.underlying t=some (.slice e)) (hk:(P.info? e).map (·.size)=some k) (ho:fj x=true) (ga:fj y=true) (hd:fT δ.n dst=true) (hn:n<l.length)
  (hK:a_ q P g ops rest Q (δ.eW dst (.gX i e' k (l.map f) n))):a_ q P g ops (⟨dst,.indexAddr t x y,ty,pos,af,none⟩::rest) Q δ:=
 a_.r6 (n:=n) hx hy (by simp;omega) ht hk ho ga hd hK
end Go.Ab
namespace Go.Ab
open Go Go.RowKit
attribute [local irreducible] HS
variable {P:Program} {g:eZ} {δ:DS} {l:List Oper} {late dn:List Nat} {k:Wt} {QD:Exit→DS→Prop}
section
variable {q:Md} {P:Program} {g:eZ} {δ:DS} {ops:Array Oper} {f:DS→Prop} {Q:Exit→DS→Prop} {y:Code}
theorem a_.ZF (h:f δ):a_ q P g ops [] (gr f Q) δ:=a_.nil (iB h)
theorem AW.Y7 {id:Nat} {l:List Oper} (h:a_ .plain P g l.toArray l (gr (AW P g y Q) Q) δ):AW P g (.seq (.region id l.toArray false) y) Q δ:=AW.seq (AW.region h)
end
end Go.Ab
