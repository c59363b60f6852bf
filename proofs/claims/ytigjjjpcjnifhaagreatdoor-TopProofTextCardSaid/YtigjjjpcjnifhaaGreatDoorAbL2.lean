/- Laws in the forms that the walk's list of steps tries. -/
import Derived.Test.YtigjjjpcjnifhaaGreatDoorAbL1
import Derived.OrdersIn
import Derived.MapKept
import Derived.Maps.RangeRun
import Derived.ProofKit
import Derived.OpenShut
import Derived.ChangeOld
import Derived.SizedLaws
import Derived.JoinedCond
import Derived.Deep.CondSized
import Derived.ChangeKeysEq
import Derived.Laws.StructEq
import Derived.WalkSpells
import Derived.Lib.SliceRun
import Derived.Laws.Small
import Derived.Scope
set_option linter.unusedSimpArgs false
set_option linter.unusedVariables false
open Nat renaming blt→aY,beq→aL,ble→bx,le_refl→aP,zero_le→bk,sub_zero→cd,add_sub_cancel→ck,eq_of_beq_eq_true→aM,lt_or_ge→cu,mul_le_mul_right→bR,mul_comm→bQ,mul_one→cH
open List renaming map_cons→bA,map_nil→bZ,getElem?_eq_some_iff→aW,cons_append→bt,mem_cons→bu,getElem?_eq_getElem→a8,getElem?_append_left→aT,getElem?_append_right→aV,nodup_append→cm,mem_append→bW,mem_singleton→cp,zip_cons_cons→cq,foldl_cons→cr,all_eq_true→bC,getElem?_map→a7,mem_of_getElem?→aU,map_toArray→bn,not_mem_nil→cw,eq_nil_of_length_eq_zero→bj,mem_map→bw,drop_zero→cB,toList_toArray→cC,getElem?_eq_none→cD,getElem?_of_mem→bz,exists_cons_of_ne_nil→cE,take_of_length_le→cF,replicate→bY,length_replicate→cL,length_set→cM,mem_or_eq_of_mem_set→cN,getElem?_set→bG
open Array renaming getElem?_eq_getElem→aN,replicate→b9,size_append→ca,size_replicate→cb,getD_eq_getD_getElem?→aR,getElem?_append_left→cg,getElem?_append_right→cj,getElem?_setIfInBounds→aS,getElem?_eq_none→cv,getElem?_push→cz,getElem?_eq_some_iff→aO,getElem?_modify→cA,getElem?_toList→bB,range→bL,eq_empty_of_size_eq_zero→cO
open Int renaming toNat_of_nonneg→b8,natCast_mul→cG,lt_irrefl→cK
open Bool renaming and_eq_true→aZ,false_eq_true→ct,not_eq_true'→cy,or_false→cI,false_or→cJ
open Option renaming map_eq_some_iff→bg,map_some→bq,bind_some→bH
namespace Go.Ab
open Go Go.RowKit
variable {q:Md} {P:Program} {g:e6} {δ:DS} {κ:Kp} {a:Act} {w:World}
variable {ops:Array Oper} {rest:List Oper} {Q:Exit→DS→Prop} {dst:Option Nat} {ty:TypeId} {pos:String} {af:Array Edge}
theorem a_.PN {op:Op} {gj d:Nat} {p:Prop} {_:Decidable p} {o':Oper} (ho:ops[gj]? =some o') (hd:o'.dst=some d) (vB:aY d HS=true) (wY:aY d δ.n=true) (hb:δ.get d=fu (decide p)) (tv:fR δ.n dst=true)
  (hy:p→a_ q P g ops (⟨dst,op,ty,pos,af,none⟩::rest) Q δ) (hn:¬p→a_ q P g ops rest Q (δ.eY dst (.pv (.lit undef)))):a_ q P g ops (⟨dst,op,ty,pos,af,some (gj,true)⟩::rest) Q δ:=
 a_.guard ho hd vB wY hb tv (fun h=>hy (of_decide_eq_true h)) (fun h=>hn (of_decide_eq_false h))
theorem a_.Kk {x:Operand} {t:TypeId} {p:Prop} {_:Decidable p} (hx:δ.ev x=fu (decide p)) (ho:fq x=true) (hd:fR δ.n dst=true) (hK:a_ q P g ops rest Q (δ.eY dst (fu (decide (¬p))))):
  a_ q P g ops (⟨dst,.unOp .not t x,ty,pos,af,none⟩::rest) Q δ:=a_.not hx ho hd (by
                                                  have:(!decide p)=decide (¬p):=by simp
                                                  rw[this];exact hK)
theorem a_.Uk {x y z:Operand} {p:Prop} {_:Decidable p} {v:AV} (hx:δ.ev x=fu (decide p)) (hy:δ.ev y=v) (hp:p) (ho:fq x=true) (kW:fq y=true) (rZ:fq z=true) (hd:fR δ.n dst=true)
  (hK:a_ q P g ops rest Q (δ.eY dst v)):a_ q P g ops (⟨dst,.pick x y z,ty,pos,af,none⟩::rest) Q δ:=
 a_.pick hx ho kW rZ (fun _=>hy) (fun h=>absurd hp (of_decide_eq_false h)) hd hK
theorem a_.TR {x y z:Operand} {p:Prop} {_:Decidable p} {v:AV} (hx:δ.ev x=fu (decide p)) (hz:δ.ev z=v) (hp:¬p) (ho:fq x=true) (kW:fq y=true) (rZ:fq z=true) (hd:fR δ.n dst=true)
  (hK:a_ q P g ops rest Q (δ.eY dst v)):a_ q P g ops (⟨dst,.pick x y z,ty,pos,af,none⟩::rest) Q δ:=
 a_.pick hx ho kW rZ (fun h=>absurd (of_decide_eq_true h) hp) (fun _=>hz) hd hK
theorem AW.nO {c:Operand} {x y:Code} (ho:fq c=true) (hc:δ.ev c=fu true) (h1:AW P g x Q δ):AW P g (.cond c x y) Q δ:=AW.Js rfl ho hc h1
theorem AW.jV {c:Operand} {x y:Code} (ho:fq c=true) (hc:δ.ev c=fu false) (h1:AW P g y Q δ):AW P g (.cond c x y) Q δ:=AW.Ke rfl ho hc h1
theorem a_.B2 {op:Op} {gj d:Nat} {want b:Bool} {o':Oper} (ho:ops[gj]? =some o') (hd:o'.dst=some d) (vB:aY d HS=true) (wY:aY d δ.n=true) (hb:δ.get d=fu b) (Cv:b=want) (tv:fR δ.n dst=true)
  (hy:a_ q P g ops (⟨dst,op,ty,pos,af,none⟩::rest) Q δ):a_ q P g ops (⟨dst,op,ty,pos,af,some (gj,want)⟩::rest) Q δ:=
 a_.guard ho hd vB wY hb tv (fun _=>hy) (fun h=>by subst Cv;cases b<;>simp at h)
theorem a_.gu {op:Op} {gj d:Nat} {want b:Bool} {o':Oper} (ho:ops[gj]? =some o') (hd:o'.dst=some d) (vB:aY d HS=true) (wY:aY d δ.n=true) (hb:δ.get d=fu b) (Cv:b=!want) (tv:fR δ.n dst=true)
  (hn:a_ q P g ops rest Q (δ.eY dst (.pv (.lit undef)))):a_ q P g ops (⟨dst,op,ty,pos,af,some (gj,want)⟩::rest) Q δ:=
 a_.guard ho hd vB wY hb tv (fun h=>by subst h;cases b<;>simp at Cv) (fun _=>hn)
end Go.Ab
namespace Go.Ab
variable {P:Program} {g:e6} {δ:DS} {Q:Exit→DS→Prop}
theorem AW.Ue {c:Operand} {x y:Code} {p:Prop} {_:Decidable p} (ho:fq c=true) (hc:δ.ev c=fu (decide p)) (hp:p) (h1:AW P g x Q δ):AW P g (.cond c x y) Q δ:=AW.Js (decide_eq_true hp) ho hc h1
theorem AW.Tn {c:Operand} {x y:Code} {p:Prop} {_:Decidable p} (ho:fq c=true) (hc:δ.ev c=fu (decide p)) (hp:¬p) (h1:AW P g y Q δ):AW P g (.cond c x y) Q δ:=AW.Ke (decide_eq_false hp) ho hc h1
end Go.Ab
namespace Go.Ab
section
variable {q:Md} {P:Program} {g:e6} {δ:DS} {ops:Array Oper} {rest:List Oper} {Q:Exit→DS→Prop} {dst:Option Nat} {ty:TypeId} {pos:String} {af:Array Edge}
variable {op:Op} {gj d:Nat} {p:Prop} {inst:Decidable p} {o':Oper} (ho:ops[gj]? =some o') (hd:o'.dst=some d) (hb:δ.get d=fu (@decide p inst)) (vB:aY d HS=true) (wY:aY d δ.n=true) (tv:fR δ.n dst=true)
include ho hd hb vB wY tv
theorem a_.NA (hp:p) (hy:a_ q P g ops (⟨dst,op,ty,pos,af,none⟩::rest) Q δ):a_ q P g ops (⟨dst,op,ty,pos,af,some (gj,true)⟩::rest) Q δ:=
 a_.guard ho hd vB wY hb tv (fun _=>hy) (fun h=>absurd hp (of_decide_eq_false h))
theorem a_.oW (hp:¬p) (hn:a_ q P g ops rest Q (δ.eY dst (.pv (.lit undef)))):a_ q P g ops (⟨dst,op,ty,pos,af,some (gj,true)⟩::rest) Q δ:=
 a_.guard ho hd vB wY hb tv (fun h=>absurd (of_decide_eq_true h) hp) (fun _=>hn)
theorem a_.Nh (hp:¬p) (hy:a_ q P g ops (⟨dst,op,ty,pos,af,none⟩::rest) Q δ):a_ q P g ops (⟨dst,op,ty,pos,af,some (gj,false)⟩::rest) Q δ:=
 a_.guard ho hd vB wY hb tv (fun _=>hy) (fun h=>absurd (of_decide_eq_true h) hp)
theorem a_.jR (hp:p) (hn:a_ q P g ops rest Q (δ.eY dst (.pv (.lit undef)))):a_ q P g ops (⟨dst,op,ty,pos,af,some (gj,false)⟩::rest) Q δ:=
 a_.guard ho hd vB wY hb tv (fun h=>absurd hp (of_decide_eq_false h)) (fun _=>hn)
end
end Go.Ab
namespace Go.Ab
section
variable {q:Md} {P:Program} {g:e6} {δ:DS} {ops:Array Oper} {rest:List Oper} {Q:Exit→DS→Prop} {dst:Option Nat} {ty:TypeId} {pos:String} {af:Array Edge} {x:Operand}
theorem a_.iu {p:PV} (hx:δ.ev x=.pv p) (ho:fq x=true) (hd:fR δ.n dst=true) (hK:a_ q P g ops rest Q (δ.eY dst (.pv p))):a_ q P g ops (⟨dst,.move x,ty,pos,af,none⟩::rest) Q δ:=a_.move hx ho hd hK
theorem a_.GR {p:PV} (hx:δ.ev x=.pv p) (ho:fq x=true) (hd:fR δ.n dst=true) (hK:a_ q P g ops rest Q (δ.eY dst (.pv p))):a_ q P g ops (⟨dst,.assign x,ty,pos,af,none⟩::rest) Q δ:=a_.assign hx ho hd hK
theorem a_.gg {i e k fc} (hx:δ.ev x=.own i e k fc) (ho:fq x=true) (hd:fR δ.n dst=true) (hK:a_ q P g ops rest Q (δ.eY dst (.own i e k fc))):a_ q P g ops (⟨dst,.move x,ty,pos,af,none⟩::rest) Q δ:=a_.move hx ho hd hK
theorem a_.ns {i e k fc} (hx:δ.ev x=.own i e k fc) (ho:fq x=true) (hd:fR δ.n dst=true) (hK:a_ q P g ops rest Q (δ.eY dst (.own i e k fc))):a_ q P g ops (⟨dst,.assign x,ty,pos,af,none⟩::rest) Q δ:=a_.assign hx ho hd hK
theorem a_.fC {i o} (hx:δ.ev x=.ptr i o) (ho:fq x=true) (hd:fR δ.n dst=true) (hK:a_ q P g ops rest Q (δ.eY dst (.ptr i o))):a_ q P g ops (⟨dst,.move x,ty,pos,af,none⟩::rest) Q δ:=a_.move hx ho hd hK
theorem a_.nm {i o} (hx:δ.ev x=.ptr i o) (ho:fq x=true) (hd:fR δ.n dst=true) (hK:a_ q P g ops rest Q (δ.eY dst (.ptr i o))):a_ q P g ops (⟨dst,.assign x,ty,pos,af,none⟩::rest) Q δ:=a_.assign hx ho hd hK
theorem a_.se {l} (hx:δ.ev x=.gM l) (ho:fq x=true) (hd:fR δ.n dst=true) (hK:a_ q P g ops rest Q (δ.eY dst (.gM l))):a_ q P g ops (⟨dst,.move x,ty,pos,af,none⟩::rest) Q δ:=a_.move hx ho hd hK
end
end Go.Ab
namespace Go.Ab
section
variable {q:Md} {P:Program} {g:e6} {δ:DS} {ops:Array Oper} {rest:List Oper} {Q:Exit→DS→Prop} {dst:Option Nat} {ty:TypeId} {pos:String} {af:Array Edge}
theorem a_.iM {x y z:Operand} {v:PV} (hx:δ.ev x=fu true) (hy:δ.ev y=.pv v) (ho:fq x=true) (kW:fq y=true) (rZ:fq z=true) (hd:fR δ.n dst=true)
  (hK:a_ q P g ops rest Q (δ.eY dst (.pv v))):a_ q P g ops (⟨dst,.pick x y z,ty,pos,af,none⟩::rest) Q δ:=a_.pick hx ho kW rZ (fun _=>hy) (fun h=>by cases h) hd hK
theorem a_.iy {x y z:Operand} {v:PV} (hx:δ.ev x=fu false) (hz:δ.ev z=.pv v) (ho:fq x=true) (kW:fq y=true) (rZ:fq z=true) (hd:fR δ.n dst=true)
  (hK:a_ q P g ops rest Q (δ.eY dst (.pv v))):a_ q P g ops (⟨dst,.pick x y z,ty,pos,af,none⟩::rest) Q δ:=a_.pick hx ho kW rZ (fun h=>by cases h) (fun _=>hz) hd hK
theorem a_.JU {x y z:Operand} {p:Prop} {_:Decidable p} {v:PV} (hx:δ.ev x=fu (decide p)) (hy:δ.ev y=.pv v) (hp:p) (ho:fq x=true) (kW:fq y=true) (rZ:fq z=true) (hd:fR δ.n dst=true)
  (hK:a_ q P g ops rest Q (δ.eY dst (.pv v))):a_ q P g ops (⟨dst,.pick x y z,ty,pos,af,none⟩::rest) Q δ:=a_.Uk hx hy hp ho kW rZ hd hK
theorem a_.KT {x y z:Operand} {p:Prop} {_:Decidable p} {v:PV} (hx:δ.ev x=fu (decide p)) (hz:δ.ev z=.pv v) (hp:¬p) (ho:fq x=true) (kW:fq y=true) (rZ:fq z=true) (hd:fR δ.n dst=true)
  (hK:a_ q P g ops rest Q (δ.eY dst (.pv v))):a_ q P g ops (⟨dst,.pick x y z,ty,pos,af,none⟩::rest) Q δ:=a_.TR hx hz hp ho kW rZ hd hK
end
end Go.Ab
namespace Go.Ab
section
variable {P:Program} {g:e6} {δ:DS} {ops:Array Oper} {rest:List Oper} {Q:Exit→DS→Prop} {dst:Option Nat} {ty:TypeId} {pos:String} {af:Array Edge}
theorem iQ.Rm {gd:Option (Tmp×Bool)} {t e:TypeId} {z:Value} (ht:P.underlying t=some (.slice e)) (hi:(P.info? e).map (fun i=>(i.size,i.zero))=some (1,some z)) (hz:z.cells.toList.all (·.oneCell')=true) (mh:aL z.cells.size 1=true) (hd:fR δ.n dst=true):iQ P g ⟨dst,.buildSlice t 0 [].toArray,ty,pos,af,gd⟩ δ ((δ.fN .row).eY dst (.own δ.nx e 1 [])):=by
 have hf:jz (fun i=>some (i*1,1)) (j7 z (0*1)) (([]:List (Nat×Operand)).map fun p=>(p.1,δ.ev p.2))=some []:=by
  simp [jz,nM,AV.cellsOf,AV.nB,j7,bA,bZ]<;>rfl
 exact iQ.buildSlice (len:=0) (k:=1) (parts:=[]) (cells:=[]) ht hi mh rfl rfl hz (by simp []) hf (by simp [AV.Ak]) hd
theorem a_.Rm {t e:TypeId} {z:Value} (ht:P.underlying t=some (.slice e)) (hi:(P.info? e).map (fun i=>(i.size,i.zero))=some (1,some z)) (hz:z.cells.toList.all (·.oneCell')=true) (mh:aL z.cells.size 1=true) (hd:fR δ.n dst=true) (hK:a_ .plain P g ops rest Q ((δ.fN .row).eY dst (.own δ.nx e 1 []))):a_ .plain P g ops (⟨dst,.buildSlice t 0 [].toArray,ty,pos,af,none⟩::rest) Q δ:=a_.qA rfl rfl (iQ.Rm ht hi hz mh hd) hK
theorem iQ.nK {gd:Option (Tmp×Bool)} {t e:TypeId} {z:Value} {x0:Operand} {p0:PV} (ht:P.underlying t=some (.slice e)) (h0:δ.ev x0=.pv p0) (hi:(P.info? e).map (fun i=>(i.size,i.zero))=some (1,some z)) (hz:z.cells.toList.all (·.oneCell')=true) (mh:aL z.cells.size 1=true) (k0:AV.one (.pv p0)=true) (o0:fq x0=true) (hd:fR δ.n dst=true):iQ P g ⟨dst,.buildSlice t 1 [(0,x0)].toArray,ty,pos,af,gd⟩ δ ((δ.fN .row).eY dst (.own δ.nx e 1 [[p0]])):=by
 have hf:jz (fun i=>some (i*1,1)) (j7 z (1*1)) (([(0,x0)]:List (Nat×Operand)).map fun p=>(p.1,δ.ev p.2))=some [.pv p0]:=by
  simp [jz,nM,AV.cellsOf,AV.nB,j7,h0,k0,bA,bZ]<;>rfl
 exact iQ.buildSlice (len:=1) (k:=1) (parts:=[(0,x0)]) (cells:=[.pv p0]) ht hi mh rfl rfl hz (by simp [o0]) hf (by simp [AV.Ak]) hd
theorem a_.nK {t e:TypeId} {z:Value} {x0:Operand} {p0:PV} (ht:P.underlying t=some (.slice e)) (h0:δ.ev x0=.pv p0) (hi:(P.info? e).map (fun i=>(i.size,i.zero))=some (1,some z)) (hz:z.cells.toList.all (·.oneCell')=true) (mh:aL z.cells.size 1=true) (k0:AV.one (.pv p0)=true) (o0:fq x0=true) (hd:fR δ.n dst=true) (hK:a_ .plain P g ops rest Q ((δ.fN .row).eY dst (.own δ.nx e 1 [[p0]]))):a_ .plain P g ops (⟨dst,.buildSlice t 1 [(0,x0)].toArray,ty,pos,af,none⟩::rest) Q δ:=a_.qA rfl rfl (iQ.nK ht h0 hi hz mh k0 o0 hd) hK
theorem iQ.Yp {gd:Option (Tmp×Bool)} {t e:TypeId} {z:Value} {x0 x1:Operand} {p0 p1:PV} (ht:P.underlying t=some (.slice e)) (h0:δ.ev x0=.pv p0) (h1:δ.ev x1=.pv p1) (hi:(P.info? e).map (fun i=>(i.size,i.zero))=some (1,some z)) (hz:z.cells.toList.all (·.oneCell')=true) (mh:aL z.cells.size 1=true) (k0:AV.one (.pv p0)=true) (k1:AV.one (.pv p1)=true) (o0:fq x0=true) (o1:fq x1=true) (hd:fR δ.n dst=true):iQ P g ⟨dst,.buildSlice t 2 [(0,x0),(1,x1)].toArray,ty,pos,af,gd⟩ δ ((δ.fN .row).eY dst (.own δ.nx e 1 [[p0],[p1]])):=by
 have hf:jz (fun i=>some (i*1,1)) (j7 z (2*1)) (([(0,x0),(1,x1)]:List (Nat×Operand)).map fun p=>(p.1,δ.ev p.2))=some [.pv p0,.pv p1]:=by
  simp [jz,nM,AV.cellsOf,AV.nB,j7,h0,h1,k0,k1,bA,bZ]<;>rfl
 exact iQ.buildSlice (len:=2) (k:=1) (parts:=[(0,x0),(1,x1)]) (cells:=[.pv p0,.pv p1]) ht hi mh rfl rfl hz (by simp [o0,o1]) hf (by simp [AV.Ak]) hd
theorem a_.Yp {t e:TypeId} {z:Value} {x0 x1:Operand} {p0 p1:PV} (ht:P.underlying t=some (.slice e)) (h0:δ.ev x0=.pv p0) (h1:δ.ev x1=.pv p1) (hi:(P.info? e).map (fun i=>(i.size,i.zero))=some (1,some z)) (hz:z.cells.toList.all (·.oneCell')=true) (mh:aL z.cells.size 1=true) (k0:AV.one (.pv p0)=true) (k1:AV.one (.pv p1)=true) (o0:fq x0=true) (o1:fq x1=true) (hd:fR δ.n dst=true) (hK:a_ .plain P g ops rest Q ((δ.fN .row).eY dst (.own δ.nx e 1 [[p0],[p1]]))):a_ .plain P g ops (⟨dst,.buildSlice t 2 [(0,x0),(1,x1)].toArray,ty,pos,af,none⟩::rest) Q δ:=a_.qA rfl rfl (iQ.Yp ht h0 h1 hi hz mh k0 k1 o0 o1 hd) hK
theorem iQ.Vk {gd:Option (Tmp×Bool)} {t e:TypeId} {z:Value} {x0 x1 x2:Operand} {p0 p1 p2:PV} (ht:P.underlying t=some (.slice e)) (h0:δ.ev x0=.pv p0) (h1:δ.ev x1=.pv p1) (h2:δ.ev x2=.pv p2) (hi:(P.info? e).map (fun i=>(i.size,i.zero))=some (1,some z)) (hz:z.cells.toList.all (·.oneCell')=true) (mh:aL z.cells.size 1=true) (k0:AV.one (.pv p0)=true) (k1:AV.one (.pv p1)=true) (k2:AV.one (.pv p2)=true) (o0:fq x0=true) (o1:fq x1=true) (o2:fq x2=true) (hd:fR δ.n dst=true):iQ P g ⟨dst,.buildSlice t 3 [(0,x0),(1,x1),(2,x2)].toArray,ty,pos,af,gd⟩ δ ((δ.fN .row).eY dst (.own δ.nx e 1 [[p0],[p1],[p2]])):=by
 have hf:jz (fun i=>some (i*1,1)) (j7 z (3*1)) (([(0,x0),(1,x1),(2,x2)]:List (Nat×Operand)).map fun p=>(p.1,δ.ev p.2))=some [.pv p0,.pv p1,.pv p2]:=by
  simp [jz,nM,AV.cellsOf,AV.nB,j7,h0,h1,h2,k0,k1,k2,bA,bZ]<;>rfl
 exact iQ.buildSlice (len:=3) (k:=1) (parts:=[(0,x0),(1,x1),(2,x2)]) (cells:=[.pv p0,.pv p1,.pv p2]) ht hi mh rfl rfl hz (by simp [o0,o1,o2]) hf (by simp [AV.Ak]) hd
theorem a_.Vk {t e:TypeId} {z:Value} {x0 x1 x2:Operand} {p0 p1 p2:PV} (ht:P.underlying t=some (.slice e)) (h0:δ.ev x0=.pv p0) (h1:δ.ev x1=.pv p1) (h2:δ.ev x2=.pv p2) (hi:(P.info? e).map (fun i=>(i.size,i.zero))=some (1,some z)) (hz:z.cells.toList.all (·.oneCell')=true) (mh:aL z.cells.size 1=true) (k0:AV.one (.pv p0)=true) (k1:AV.one (.pv p1)=true) (k2:AV.one (.pv p2)=true) (o0:fq x0=true) (o1:fq x1=true) (o2:fq x2=true) (hd:fR δ.n dst=true) (hK:a_ .plain P g ops rest Q ((δ.fN .row).eY dst (.own δ.nx e 1 [[p0],[p1],[p2]]))):a_ .plain P g ops (⟨dst,.buildSlice t 3 [(0,x0),(1,x1),(2,x2)].toArray,ty,pos,af,none⟩::rest) Q δ:=a_.qA rfl rfl (iQ.Vk ht h0 h1 h2 hi hz mh k0 k1 k2 o0 o1 o2 hd) hK
theorem iQ.Va {gd:Option (Tmp×Bool)} {t e:TypeId} {z:Value} {x0 x1 x2 x3:Operand} {p0 p1 p2 p3:PV} (ht:P.underlying t=some (.slice e)) (h0:δ.ev x0=.pv p0) (h1:δ.ev x1=.pv p1) (h2:δ.ev x2=.pv p2) (h3:δ.ev x3=.pv p3) (hi:(P.info? e).map (fun i=>(i.size,i.zero))=some (1,some z)) (hz:z.cells.toList.all (·.oneCell')=true) (mh:aL z.cells.size 1=true) (k0:AV.one (.pv p0)=true) (k1:AV.one (.pv p1)=true) (k2:AV.one (.pv p2)=true) (k3:AV.one (.pv p3)=true) (o0:fq x0=true) (o1:fq x1=true) (o2:fq x2=true) (o3:fq x3=true) (hd:fR δ.n dst=true):iQ P g ⟨dst,.buildSlice t 4 [(0,x0),(1,x1),(2,x2),(3,x3)].toArray,ty,pos,af,gd⟩ δ ((δ.fN .row).eY dst (.own δ.nx e 1 [[p0],[p1],[p2],[p3]])):=by
 have hf:jz (fun i=>some (i*1,1)) (j7 z (4*1)) (([(0,x0),(1,x1),(2,x2),(3,x3)]:List (Nat×Operand)).map fun p=>(p.1,δ.ev p.2))=some [.pv p0,.pv p1,.pv p2,.pv p3]:=by
  simp [jz,nM,AV.cellsOf,AV.nB,j7,h0,h1,h2,h3,k0,k1,k2,k3,bA,bZ]<;>rfl
 exact iQ.buildSlice (len:=4) (k:=1) (parts:=[(0,x0),(1,x1),(2,x2),(3,x3)]) (cells:=[.pv p0,.pv p1,.pv p2,.pv p3]) ht hi mh rfl rfl hz (by simp [o0,o1,o2,o3]) hf (by simp [AV.Ak]) hd
theorem a_.Va {t e:TypeId} {z:Value} {x0 x1 x2 x3:Operand} {p0 p1 p2 p3:PV} (ht:P.underlying t=some (.slice e)) (h0:δ.ev x0=.pv p0) (h1:δ.ev x1=.pv p1) (h2:δ.ev x2=.pv p2) (h3:δ.ev x3=.pv p3) (hi:(P.info? e).map (fun i=>(i.size,i.zero))=some (1,some z)) (hz:z.cells.toList.all (·.oneCell')=true) (mh:aL z.cells.size 1=true) (k0:AV.one (.pv p0)=true) (k1:AV.one (.pv p1)=true) (k2:AV.one (.pv p2)=true) (k3:AV.one (.pv p3)=true) (o0:fq x0=true) (o1:fq x1=true) (o2:fq x2=true) (o3:fq x3=true) (hd:fR δ.n dst=true) (hK:a_ .plain P g ops rest Q ((δ.fN .row).eY dst (.own δ.nx e 1 [[p0],[p1],[p2],[p3]]))):a_ .plain P g ops (⟨dst,.buildSlice t 4 [(0,x0),(1,x1),(2,x2),(3,x3)].toArray,ty,pos,af,none⟩::rest) Q δ:=a_.qA rfl rfl (iQ.Va ht h0 h1 h2 h3 hi hz mh k0 k1 k2 k3 o0 o1 o2 o3 hd) hK
theorem y4 {n bytes:Nat} (h:bx bytes 64=true) (hl:n≤1000000000000):n*bytes≤140737488355328:=by
 have h':bytes≤64:=by simpa using h
 have:=Nat.mul_le_mul hl h'
 omega
theorem iQ.fJ {gd:Option (Tmp×Bool)} {s x:Operand} {t e:TypeId} {i k bytes:Nat} {z:Value} {fc news:List (List PV)} (hs:δ.ev s=.own i e k fc) (hx:qM δ x k news) (hr:δ.ob i=some .row) (ht:P.underlying t=some (.slice e))
  (hi:(P.info? e).map (fun i=>(i.size,i.zero,i.bytes))=some (k,some z,bytes)) (Ie:bx bytes 64=true) (mh:aL z.cells.size k=true) (nU:aY 0 k=true) (ho:fq s=true) (f_:fq x=true) (hd:fR δ.n dst=true)
  (hl:fc.length+news.length≤1000000000000):iQ P g ⟨dst,.call {callee:=.builtin .append,args:= #[s,x],argTypes:= #[t,t]},ty,pos,af,gd⟩ δ ((δ.gF (AV.kill i)).eY dst (.own i e k (fc++news))):=
 iQ.append hs hx hr ht hi mh nU ho f_ hd (y4 Ie hl) (by omega)
theorem a_.fJ {s x:Operand} {t e:TypeId} {i k bytes:Nat} {z:Value} {fc news:List (List PV)} (hs:δ.ev s=.own i e k fc) (hx:qM δ x k news) (hr:δ.ob i=some .row) (ht:P.underlying t=some (.slice e))
  (hi:(P.info? e).map (fun i=>(i.size,i.zero,i.bytes))=some (k,some z,bytes)) (Ie:bx bytes 64=true) (mh:aL z.cells.size k=true) (nU:aY 0 k=true) (ho:fq s=true) (f_:fq x=true) (hd:fR δ.n dst=true)
  (hl:fc.length+news.length≤1000000000000) (hK:a_ .plain P g ops rest Q ((δ.gF (AV.kill i)).eY dst (.own i e k (fc++news)))):
  a_ .plain P g ops (⟨dst,.call {callee:=.builtin .append,args:= #[s,x],argTypes:= #[t,t]},ty,pos,af,none⟩::rest) Q δ:=a_.qA rfl rfl (iQ.fJ hs hx hr ht hi Ie mh nU ho f_ hd hl) hK
end
end Go.Ab
namespace Go.Ab
theorem AW.vx {P:Program} {g:e6} {δ:DS} {Q:Exit→DS→Prop} {α:Type} {c:Code} (j i:Nat) {k:Nat} {cs:List AV} {f:α→List PV} {l:List α} (h:δ.get j=.agg cs) (hc:cs[i]? =some (.pv (.slice k (l.map f)))) (hK:l.length≤140737488355328→AW P g c Q δ):AW P g c Q δ:=
 AW.fact (fun κ a w r=>by
  have h1:=r.env j
  rw[h] at h1
  generalize hu:g.val a j=u at h1
  cases h1 with
  | @agg vs _ hs hv=>
   have fx:i<vs.size:=by rw[hs];exact(aW.1 hc).1
   obtain⟨_,_,_,h2⟩:=(hv i _ _ (aN fx) hc).lP.tC
   simpa using h2) hK
end Go.Ab
namespace Go.Ab
theorem a_.Gi {q:Md} {P:Program} {g:e6} {δ:DS} {ops:Array Oper} {rest:List Oper} {Q:Exit→DS→Prop} {dst:Option Nat} {ty:TypeId} {pos:String} {af:Array Edge} {x:Operand} {t:TypeId} {i:Nat} {cells:List AV} (hx:δ.ev x=.ptr i 0) (hb:δ.ob i=some (.box cells)) (ht:zU P t cells.length=true) (ho:fq x=true) (hd:fR δ.n dst=true)
  (hK:a_ q P g ops rest Q (δ.eY dst (.agg cells))):a_ q P g ops (⟨dst,.load t x,ty,pos,af,none⟩::rest) Q δ:=
 a_.E1 (n:=cells.length) hx hb ht (by simp) ho hd (by simpa using hK)
end Go.Ab
namespace Go.Ab
section
variable {q:Md} {P:Program} {g:e6} {δ:DS} {ops:Array Oper} {rest:List Oper} {Q:Exit→DS→Prop} {dst:Option Nat} {ty:TypeId} {pos:String} {af:Array Edge}
end
end Go.Ab
namespace Go.Ab
section
variable {q:Md} {P:Program} {g:e6} {δ:DS} {ops:Array Oper} {rest:List Oper} {Q:Exit→DS→Prop} {dst:Option Nat} {ty:TypeId} {pos:String} {af:Array Edge}
theorem a_.EF {α:Type} {x y:Operand} {t e:TypeId} {k:Nat} {m:Int} {f:α→List PV} {l:List α} (hx:δ.ev x=.pv (.slice k (l.map f))) (hy:δ.ev y=e7 m)
  (ht:P.underlying t=some (.slice e)) (hk:(P.info? e).map (·.size)=some k) (ho:fq x=true) (f_:fq y=true) (hd:fR δ.n dst=true) (h0:0≤m) (hn:m.toNat<l.length)
  (hK:a_ q P g ops rest Q (δ.eY dst (.gp (f l[m.toNat])))):a_ q P g ops (⟨dst,.indexAddr t x y,ty,pos,af,none⟩::rest) Q δ:=
 a_.yx (n:=m.toNat) hx (by rw[hy,b8 h0]) hn ht hk ho f_ hd hK
end
end Go.Ab
/- Ranging over a function:the iterator is walked in place,each call of yield walks the loop's body. -/
namespace Go.Ab
open Go Go.RowKit
attribute [local irreducible] HS
variable {P:Program} {g:e6} {δ:DS} {κ:Kp} {a:Act} {w:World}
variable {ops:Array Oper} {rest:List Oper} {Q:Exit→DS→Prop} {dst:Option Nat} {ty:TypeId} {pos:String} {af:Array Edge}
def gQ (e:List (Nat×AV)):List (Nat×AV):=e.map fun p=>(p.1+HS,p.2)
def i_:List (Nat×AV)→List (Nat×AV)
 |[]=>[]
 |(i,v)::r=>bif bx HS i then (i - HS,v)::i_ r else i_ r
def fj:List (Nat×AV)→List (Nat×AV)
 |[]=>[]
 |(i,v)::r=>bif bx HS i && aY i (HS+HS) then (i - HS,v)::fj r else fj r
theorem lU:∀(e:List (Nat×AV)) (j:Nat),j<HS→look (gQ e) j=.any
 |[],_,_=>rfl
 |(i,v)::r,j,h=>by
  show look ((i+HS,v)::gQ r) j=_
  rw[fH,if_neg aJ]
  exact lU r j h
theorem lS:∀(e:List (Nat×AV)) (j:Nat),look (gQ e) (j+HS)=look e j
 |[],_=>rfl
 |(i,v)::r,j=>by
  show look ((i+HS,v)::gQ r) (j+HS)=_
  rw[fH,fH,lS r j]
  by_cases e:i=j
  ·rw[if_pos aJ,if_pos e]
  ·rw[if_neg aJ,if_neg e]
theorem mJ:∀(e:List (Nat×AV)) (j:Nat),look (i_ e) j=look e (j+HS)
 |[],_=>rfl
 |(i,v)::r,j=>by
  rw[fH]
  simp only[i_]
  cases h:bx HS i with
  |true=>
   have h':HS≤i:=by simpa using h
   show look ((i - HS,v)::i_ r) j=_
   rw[fH,mJ r j]
   by_cases e:i=j+HS
   ·rw[if_pos aJ,if_pos e]
   ·rw[if_neg aJ,if_neg e]
  |false=>
   have h':¬HS≤i:=by
                intro hh;have:bx HS i=true:=by simpa using hh
                rw[this] at h;cases h
   show look (i_ r) j=_
   rw[mJ r j,if_neg aJ]
theorem sN:∀(e:List (Nat×AV)) (j:Nat),look (fj e) j=if j<HS then look e (j+HS) else .any
 |[],j=>by show AV.any=_;split<;>rfl
 |(i,v)::r,j=>by
  rw[fH]
  simp only[fj]
  cases h:(bx HS i && aY i (HS+HS)) with
  |true=>
   simp only[aZ] at h
   have h1:HS≤i:=by simpa using h.1
   have h2:i<HS+HS:=by simpa using h.2
   show look ((i - HS,v)::fj r) j=_
   rw[fH,sN r j]
   by_cases e:i=j+HS
   ·rw[if_pos aJ,if_pos aJ,if_pos e]
   ·rw[if_neg aJ,if_neg e]
  |false=>
   show look (fj r) j=_
   rw[sN r j]
   by_cases hj:j<HS
   ·rw[if_pos hj,if_pos hj]
    by_cases e:i=j+HS
    ·exfalso
     have:(bx HS i && aY i (HS+HS))=true:=by simp only[aZ];exact⟨by simpa using (by omega:HS≤i),by simpa using (by omega:i<HS+HS)⟩
     rw[this] at h;cases h
    ·rw[if_neg e]
   ·rw[if_neg hj,if_neg hj]
def E7 (l:Nat) (Q:Exit→DS→Prop) (δ:DS):Option Ob→Prop
 |some (.loop l' _ _ _ _ .ready)=>l'=l∧Q .normal δ
 |some (.loop l' _ _ _ _ (.done .ret))=>l'=l∧Q .ret δ
 |some (.loop l' _ _ _ _ (.done (.exit id)))=>l'=l∧Q (.exit id) δ
 |_=>False
def lk (n i:Nat) (δ:DS):DS:={n,env:=i_ δ.env,gq:=(match δ.ob i with|some (.loop l tm ps jf body _)=>(i,some (.loop l tm ps jf body .over))|o=>(i,o))::δ.gq,nx:=δ.nx}
def fB (n i l:Nat) (Q:Exit→DS→Prop):Exit→DS→Prop
 |.normal,δ|.ret,δ=>E7 l Q (lk n i δ) (δ.ob i)
 |_,_=>False
theorem iw.putObj (w:World) (b:Nat) (o:Obj):iw w (w.putObj b o) (some b):=⟨rfl,rfl,rfl,by simp,fun k _ h=>World.putObj_heap_other (fun e=>h (by rw[e]))⟩
theorem sk (g:e6) (a:Act) (j:Nat):g.val a (j+HS)=g.held (j+HS):=by unfold e6.val;rw[if_neg aJ]
theorem NS {n i l:Nat} {tm ps jf body st} (h:δ.ob i=some (.loop l tm ps jf body st)):∀j,(lk n i δ).ob j=if i=j then some (.loop l tm ps jf body .over) else δ.ob j:=by
 intro j
 unfold lk
 rw[h]
 exact fl _ _ _ _
theorem Rel.back {g':e6} {a2 a':Act} {w w':World} {n i b l:Nat} {tm ps jf body st} {r:Loop} (r2:Rel g' δ κ a2 w) (je:g.wt=none) (Sx:g'.wt=none) (hg:g'.B=g.B∧g'.w0=g.w0∧g'.N0=g.N0∧g'.fr=g.fr∧g'.w1=g.w1) (kM:∀j,g'.held (j+HS)=g.val a' j) (hn:a'.tmps.size=n)
  (ho:δ.ob i=some (.loop l tm ps jf body st)) (hκ:κ i=some b) (hr:w.heap[b]? =some (.loop r)) (r':Loop) (hk:r'.tmps=r.tmps∧r'.params=r.params∧r'.assign=r.assign∧r'.body=r.body) (hw:w'=w.putObj b (.loop r'))
  (hd:GO g a' w') (OA:∀d∈a'.defers,∀r,d.target=.collected r→¬g.fr r):Rel g (lk n i δ) κ a' w':=by
 subst hw
 have fx:b<w.heap.size:=iJ hr
 obtain⟨r3,G⟩:=r2.modify (o':=.loop l tm ps jf body .over) ho rfl rfl hκ (j4 Sx i) (iw.putObj w b (.loop r')) (by simp) (fun C hC G=>by
  obtain⟨b',r0,h1,h2,yJ,h3,h4,h5,h6,_⟩:=r2.obj i _ ho
  have:b'=b:=Option.some.inj (h1.symm.trans hκ)
  subst this
  rw[hr] at h2
  cases h2
  exact⟨b',r',by rw[hC];exact hκ,World.putObj_heap_same fx,yJ,hk.1.trans h3,hk.2.1.trans h4,hk.2.2.1.trans h5,hk.2.2.2.trans h6,trivial⟩)
 have js:∀j,(lk n i δ).ob j=(δ.gm i (some (.loop l tm ps jf body .over))).ob j:=by
  intro j;rw[NS ho,jH]
 have C8:(lk n i δ).cx g κ=(δ.gm i (some (.loop l tm ps jf body .over))).cx g' κ:=by
  have h1:(lk n i δ).live=(δ.gm i (some (.loop l tm ps jf body .over))).live:=funext fun j=>by unfold DS.live;rw[js]
  have h2:(lk n i δ).lr=(δ.gm i (some (.loop l tm ps jf body .over))).lr:=funext fun j=>by unfold DS.lr;rw[js]
  have h3:(lk n i δ).lb=(δ.gm i (some (.loop l tm ps jf body .over))).lb:=funext fun j=>by unfold DS.lb;rw[js]
  unfold DS.cx
  rw[h1,h2,h3,hg.1,hg.2.2.1]
 have fS:∀j,(lk n i δ).live j↔(δ.gm i (some (.loop l tm ps jf body .over))).live j:=fun j=>by unfold DS.live;rw[js]
 exact
  {n:=hn,dfr:=hd
   env:=fun j=>by
    have h1:=r3.env (j+HS)
    rw[sk,kM j] at h1
    have h2:(lk n i δ).get j=(δ.gm i (some (.loop l tm ps jf body .over))).get (j+HS):=mJ δ.env j
    rw[h2,C8];exact h1
   obj:=fun j o h=>by rw[js] at h;rw[C8];exact r3.obj j o h
   inj:=fun i j b h1 h2=>r3.inj i j b ((fS i).1 h1) ((fS j).1 h2)
   lo:=fun j b h1 h2=>by rw[← hg.1];exact r3.lo j b ((fS j).1 h1) h2
   nx:=fun j h=>r3.nx j ((fS j).1 h)
   wt:=fun k hk=>by rw[je] at hk;cases hk
   below:=by rw[← hg.1,← hg.2.1];exact r3.below
   km:=OA
   fr:=by
    have h1:pC g' (lk n i δ).live κ (w.putObj b (.loop r')):=r3.fr.sub fun j b h1 h2=>⟨j,(fS j).1 h1,h2⟩
    exact h1.re hg.1.symm hg.2.2.2.1.symm hg.2.2.2.2.symm je
   hB:=by rw[← hg.1];exact r3.hB
   N0:=by rw[← hg.1,← hg.2.2.1,← hg.2.2.2.1];exact r3.N0}
theorem NU {x:Operand} {f:FuncId} {vs us:Array Value} {a:Act} (hx:a.eval x=.func (.func f) vs us) (l:Nat) (w:World):
  (resolve a.eval (rangeCall x l) 0).run P w=.ok {target:=.fn (.func f) us,args:=vs++ #[.func (.yield l) #[] #[]]} w:=by
 have hc:a.eval (.const (.func (.yield l) #[] #[]))=.func (.yield l) #[] #[]:=rfl
 simp [resolve,rangeCall,Deferred.ofValue,hx,hc]
theorem AW.rangeFunc {x:Operand} {ps:Array Tmp} {jf body:Code} {f:FuncId} {first cap:List AV} {fn:Func} {c:Code} {n':Nat} (yf:g.ro=none) (je:g.wt=none) (hx:δ.ev x=.jJ (.func f) first cap) (ho:fq x=true)
  (hf:P.funcs[f]? =some fn) (hb:fn.body=some c) (D0:fn.results= #[]) (hn:fn.ntmps=n') (hle:bx (first.length+1+cap.length) n'=true) (LR:bx n' HS=true) (gD:bx δ.n HS=true) (he:(fn.name== "runtime.NumGoroutine")=false)
  (h:∀(g':e6) (tm:Array Value) (l:Nat),g'.ro=none→g'.wt=none→(∀j,j<HS→g'.held (j+HS)=tm.getD j undef)→tm.size=δ.n→
   AW P g' c (fB δ.n δ.nx l Q) {n:=n',env:=enum 0 (first++ .kZ δ.nx::cap)++gQ δ.env,gq:=(δ.nx,some (.loop l tm ps jf body .ready))::δ.gq,nx:=δ.nx+1}):
  AW P g (.rangeFunc x ps jf body) Q δ:=by
 intro κ a w r
 have uZ:=r.ra hx ho
 generalize hv:a.eval x=v at uZ
 cases uZ with
 | @jJ _ vs us _ _ hs SF ht UG=>
  rw[yf]
  have GZ:first.length+1+cap.length≤n':=by simpa using hle
  have Xw:n'≤HS:=by simpa using LR
  obtain⟨ms,E4,ql,Lf⟩:=r.dfr
  refine wpIn_rangeFunc fun fnid _=>?_
  let w1:=w.alloc (.deferred (some []))
  let lp:Loop:={state:=.ready,pending:=none,fn:=fnid,tmps:=a.tmps,params:=ps,assign:=jf,body,defers:=w.heap.size}
  let w2:=w1.alloc (.loop lp)
  have Np:w1.heap.size=w.heap.size+1:=by show(w.heap.push _).size=_;simp
  refine⟨w.heap.size+1,[{target:=.collected w.heap.size,args:= #[]}],w2,_,w2,f,vs++ #[.func (.yield (w.heap.size+1)) #[] #[]]++us,w2,run_enterLoop_outer fnid a.tmps ps jf body,NU hv _ _,fun _ _=>trivial,?_,fun h=>by simp at h,?_⟩
  ·have fZ:(fn.name== "runtime.NumGoroutine")=false:=he
   simp [invoke,callFunc,hf,hb]
   simpa using fZ
  let g':e6:={B:=g.B,w0:=g.w0,N0:=g.N0,held:=fun j=>g.val a (j - HS),ro:=none,mks:=w.heap.size::(ms++g.mks),wt:=none,fr:=g.fr,w1:=g.w1}
  have Vv:Rel g δ κ a w1:=r.ext ((Below.refl _ _).alloc (aP _) _)
  obtain⟨ov,G⟩:=Vv.grow (.loop (w.heap.size+1) a.tmps ps jf body .ready) (.loop lp) (fun C G hκ=>⟨_,lp,hκ,heap_alloc_new w1 _,Np,rfl,rfl,rfl,rfl,rfl,rfl⟩)
  let κ2:=gT κ δ.nx (some w1.heap.size)
  have hκ2:κ2 δ.nx=some (w.heap.size+1):=by show gT _ _ _ _=_;simp [gT,Np]
  let δ2:DS:={n:=n',env:=enum 0 (first++ .kZ δ.nx::cap)++gQ δ.env,gq:=(δ.nx,some (.loop (w.heap.size+1) a.tmps ps jf body .ready))::δ.gq,nx:=δ.nx+1}
  have C8:δ2.cx g' κ2=(δ.fN (.loop (w.heap.size+1) a.tmps ps jf body .ready)).cx g κ2:=rfl
  have Gw:∀(e1 e2:List (Nat×AV)) (j:Nat),look (e1++e2) j=look e1 j∨(look e1 j=.any∧look (e1++e2) j=look e2 j):=by
   intro e1 e2 j
   induction e1 with
   |nil=>exact .inr ⟨rfl,rfl⟩
   |cons p e1 ih=>
    obtain⟨i,v⟩:=p
    rw[bt,fH,fH]
    by_cases e:i=j
    ·rw[if_pos e,if_pos e];exact .inl rfl
    ·rw[if_neg e,if_neg e];exact ih
  let args:Array Value:=vs++ #[.func (.yield (w.heap.size+1)) #[] #[]]++us
  have ny:args.size=first.length+1+cap.length:=by simp [args];omega
  have oE:Rel g' δ2 κ2 {tmps:=args++b9 (fn.ntmps - args.size) undef,defers:=[]} w2:=
   {n:=by show(args++b9 (fn.ntmps - args.size) undef).size=n';rw[ca,cb,hn,ny];omega
    dfr:=⟨[],rfl,by
      show(w.heap.size::(ms++g.mks)).Nodup
      refine List.nodup_cons.2 ⟨fun vG=>?_,ql⟩
      have:=iJ (Lf _ vG).2
      omega,fun k hk=>by
      rw[List.nil_append] at hk
      rcases bu.1 hk with rfl|hk
      ·refine⟨r.hB,?_⟩
       rw[show w2.heap[w.heap.size]? =w1.heap[w.heap.size]? from Below.heap_alloc w1 _ _ aJ]
       exact heap_alloc_new w _
      ·have h3:=Lf k hk
       have fx:=iJ h3.2
       refine⟨h3.1,?_⟩
       rw[show w2.heap[k]? =w1.heap[k]? from Below.heap_alloc w1 _ _ aJ,show w1.heap[k]? =w.heap[k]? from Below.heap_alloc w _ _ fx]
       exact h3.2⟩
    env:=fun j=>by
     rw[C8]
     by_cases hj:j<HS
     ·have kM:g'.val {tmps:=args++b9 (fn.ntmps - args.size) undef,defers:=[]} j=(args++b9 (fn.ntmps - args.size) undef).getD j undef:=if_pos hj
      rw[kM]
      have Hm:δ2.get j=look (enum 0 (first++ .kZ δ.nx::cap)) j:=by
       rcases Gw (enum 0 (first++ .kZ δ.nx::cap)) (gQ δ.env) j with h1|⟨h1,h2⟩
       ·exact h1
       ·show look (_++_) j=_
        rw[h2,h1,lU _ _ hj]
      rw[Hm]
      by_cases Rk:j<args.size
      ·have hl:j<(first++ .kZ δ.nx::cap).length:=by simp;omega
       rw[mZ _ 0 j ((first++ .kZ δ.nx::cap)[j]) (bk _) (by rw[cd];exact a8 hl)]
       have FZ:(args++b9 (fn.ntmps - args.size) undef).getD j undef=args[j]:=by
        rw[aR,cg Rk,aN Rk];rfl
       rw[FZ]
       have hA:args[j]? =some args[j]:=aN Rk
       have hL:(first++ .kZ δ.nx::cap)[j]? =some (first++ .kZ δ.nx::cap)[j]:=a8 hl
       generalize args[j]=u at hA ⊢
       generalize (first++ .kZ δ.nx::cap)[j]=d at hL ⊢
       simp only[args] at hA
       by_cases h1:j<first.length
       ·rw[aT h1] at hL
        rw[cg (by simp;omega),cg aJ] at hA
        exact G.ra ((kr.ra ⟨rfl,by rw[Np];omega,fun b hb hN=>⟨hN,Below.heap_alloc w _ _ hb⟩,fun i hi=>⟨hi,rfl,fun b hκ=>Below.heap_alloc w _ _ (r.lo i b (DS.gI hi) hκ).2⟩,fun i hi=>⟨hi,rfl⟩⟩ (SF j u d hA hL)))
       ·rw[aV aJ] at hL
        by_cases h2:j=first.length
        ·subst h2
         simp at hL
         subst hL
         rw[cg (by simp;omega),cj aJ] at hA
         simp [hs] at hA
         subst hA
         exact .kZ ⟨_,by show(δ.fN _).ob _=_;rw[fY,if_pos rfl],rfl⟩ hκ2
        ·obtain⟨m,hm⟩:∃m,j=first.length+1+m:=⟨j - first.length - 1,by omega⟩
         subst hm
         rw[show first.length+1+m - first.length=m+1 by omega,List.getElem?_cons_succ] at hL
         rw[cj (by simp;omega)] at hA
         have e0:first.length+1+m - (vs++ #[Value.func (.yield (w.heap.size+1)) #[] #[]]).size=m:=by simp;omega
         rw[e0] at hA
         exact G.ra ((kr.ra ⟨rfl,by rw[Np];omega,fun b hb hN=>⟨hN,Below.heap_alloc w _ _ hb⟩,fun i hi=>⟨hi,rfl,fun b hκ=>Below.heap_alloc w _ _ (r.lo i b (DS.gI hi) hκ).2⟩,fun i hi=>⟨hi,rfl⟩⟩ (UG m u d hA hL)))
      ·rw[jt _ 0 j (.inr (by simp;omega))];exact .any _
     ·obtain⟨m,rfl⟩:∃m,j=m+HS:=⟨j - HS,by omega⟩
      have kM:g'.val {tmps:=args++b9 (fn.ntmps - args.size) undef,defers:=[]} (m+HS)=g.val a m:=by
       rw[sk];exact congrArg (g.val a) (ck m HS)
      rw[kM]
      have Hm:δ2.get (m+HS)=δ.get m:=by
       have h0:look (enum 0 (first++ .kZ δ.nx::cap)) (m+HS)=.any:=jt _ 0 _ (.inr (by simp;omega))
       rcases Gw (enum 0 (first++ .kZ δ.nx::cap)) (gQ δ.env) (m+HS) with h1|⟨h1,h2⟩
       ·
        have:∀(e1:List (Nat×AV)),(∀p∈e1,p.1≠m+HS)→look (e1++gQ δ.env) (m+HS)=look (gQ δ.env) (m+HS):=by
         intro e1 fZ
         induction e1 with
         |nil=>rfl
         |cons p e1 ih=>
          rw[bt]
          show look ((p.1,p.2)::(e1++gQ δ.env)) _=_
          rw[fH,if_neg (fZ p (by simp))]
          exact ih (fun q hq=>fZ q (by simp [hq]))
        have hk:∀(l:List AV) (i:Nat),∀p∈enum i l,p.1<i+l.length:=by
         intro l
         induction l with
         |nil=>intro i p hp;simp [enum] at hp
         |cons v l ih=>
          intro i p hp
          simp only[enum,bu] at hp
          rcases hp with rfl|hp
          ·simp
          ·have:=ih (i+1) p hp;simp;omega
        show look (_++_) _=_
        rw[this _ (fun p hp=>by have:=hk _ 0 p hp;simp at this;omega),lS];rfl
       ·show look (_++_) _=_
        rw[h2,lS];rfl
      rw[Hm]
      exact ov.env m
    obj:=ov.obj,inj:=ov.inj,lo:=ov.lo,nx:=ov.nx,wt:=fun k hk=>(by cases hk),below:=ov.below,hB:=ov.hB,N0:=ov.N0,fr:=ov.fr.re rfl rfl rfl rfl,km:=fun d hd=>by cases hd}
  have Uw:=h g' a.tmps (w.heap.size+1) rfl rfl (fun j hj=>(congrArg (g.val a) (ck j HS)).trans (by unfold e6.val;rw[if_pos hj])) r.n κ2 _ w2 oE
  refine callsIn_of_wp_marks (n:=0) hf hb trivial (wpIn_mono Uw ?_)
  rintro e a2 w3 ⟨δ3,κ3,hq,r3⟩
  have fin:E7 (w.heap.size+1) Q (lk δ.n δ.nx δ3) (δ3.ob δ.nx)→LeavesInM (Fw none) 0 P fn a2.tmps (rangePost (Fw none) 0 P (w.heap.size+1) (lift g Q) {a with defers:=[{target:=.collected w.heap.size,args:= #[]}]++a.defers}) a2.defers .returning w3:=by
   intro hj
   obtain⟨tm3,ps3,asg3,body3,st3,js⟩:∃tm ps jf body st,δ3.ob δ.nx=some (.loop (w.heap.size+1) tm ps jf body st):=by
    cases Zv:δ3.ob δ.nx with
    |none=>rw[Zv] at hj;exact hj.elim
    |some o=>
     rw[Zv] at hj
     cases o with
     |row=>exact hj.elim
     |box cs=>exact hj.elim
     |mp l=>exact hj.elim
     |mpl l k v=>exact hj.elim
     |it l seen=>exact hj.elim
     |lit T vals=>exact hj.elim
     |ff e rows=>exact hj.elim
     |loop l' tm ps jf body st=>
      cases st with
      |ready=>obtain⟨rfl,_⟩:=hj;exact⟨tm,ps,jf,body,_,rfl⟩
      |busy=>exact hj.elim
      |over=>exact hj.elim
      |done c=>cases c<;>first|exact hj.elim|(obtain⟨rfl,_⟩:=hj;exact⟨tm,ps,jf,body,_,rfl⟩)
   refine leaves (g:=g') rfl rfl (rs:=[]) D0 .none r3 (fun w4 r4 u hu=>?_)
   obtain⟨b,rl,h1,h2,yJ,h3,h4,h5,h6,h7⟩:=r4.obj _ _ js
   have Li:κ3 δ.nx=some b:=h1
   subst yJ
   have XZ:rl.state≠ .busy:=by
    rw[js] at hj
    cases st3 with
    |ready=>rw[h7.1];simp
    |busy=>exact hj.elim
    |over=>exact hj.elim
    |done c=>rw[h7.1];simp
   have AD:=run_endLoop (P:=P) (w:=w4) h2 XZ
   have hd:GO g {a with defers:=[{target:=.collected w.heap.size,args:= #[]}]++a.defers} (w4.putObj (w.heap.size+1) (.loop {rl with state:=.exhausted})):=by
    obtain⟨rs4,k1,k2,k3⟩:=r4.dfr
    refine⟨w.heap.size::ms,by simp [E4],?_,fun k hk=>?_⟩
    ·have:(rs4++g'.mks).Nodup:=k2
     exact(cm.1 this).2.1
    ·have lO:=k3 k (bW.2 (.inr hk))
     refine⟨lO.1,?_⟩
     rw[World.putObj_heap_other (by intro e;subst e;rw[h2] at lO;cases lO.2)]
     exact lO.2
   have rb:=r4.back (g:=g) (n:=δ.n) (a':={a with defers:=[{target:=.collected w.heap.size,args:= #[]}]++a.defers}) je rfl ⟨rfl,rfl,rfl,rfl,rfl⟩ (fun j=>congrArg (g.val a) (ck j HS)) r.n js Li h2 {rl with state:=.exhausted} ⟨rfl,rfl,rfl,rfl⟩ rfl hd (fun d hd r0 e=>by
    rcases bW.1 hd with hd|hd
    ·rw[cp] at hd
     subst hd
     cases e
     exact fun hf=>Nat.lt_irrefl _ (r.fr.A8 hf)
    ·exact r.km d hd r0 e)
   refine⟨rl.pending,_,AD,?_⟩
   rw[js] at hj
   cases st3 with
   |ready=>rw[h7.2] at rb ⊢;exact⟨_,κ3,hj.2,rb⟩
   |busy=>exact hj.elim
   |over=>exact hj.elim
   |done c=>
    rw[h7.2] at rb ⊢
    cases c with
    |ret=>exact wpIn_ret ⟨_,κ3,hj.2,rb⟩
    |exit id=>exact wpIn_exit ⟨_,κ3,hj.2,rb⟩
    |_=>exact hj.elim
  cases e with
  |normal=>exact fin hq
  |ret=>exact fin hq
  |_=>exact hq.elim
def BE:List Tmp→List AV→List (Nat×AV)→List (Nat×AV)
 |t::ts,v::vs,e=>BE ts vs ((t,v)::e)
 |_,_,e=>e
def tO (n:Nat) (ps:List Tmp) (tX:List AV) (δ:DS):DS:={n,env:=BE ps tX (fj δ.env++gQ δ.env),gq:=δ.gq,nx:=δ.nx}
def fQ (n:Nat) (δ:DS):DS:={n,env:=i_ δ.env,gq:=δ.gq,nx:=δ.nx}
theorem pU:∀(e1 e2:List (Nat×AV)) (j:Nat),(look (e1++e2) j=look e1 j)∨((∀p∈e1,p.1≠j)∧look (e1++e2) j=look e2 j)
 |[],e2,j=> .inr ⟨by simp,rfl⟩
 |(i,v)::e1,e2,j=>by
  rw[bt,fH,fH]
  by_cases e:i=j
  ·rw[if_pos e,if_pos e];exact .inl rfl
  ·rw[if_neg e,if_neg e]
   rcases pU e1 e2 j with h|⟨h1,h2⟩
   ·exact .inl h
   ·refine .inr ⟨fun p hp=>?_,h2⟩
    rcases bu.1 hp with rfl|hp
    ·exact e
    ·exact h1 p hp
theorem td:∀(e:List (Nat×AV)) (j:Nat),(∀p∈e,p.1≠j)→look e j=.any
 |[],_,_=>rfl
 |(i,v)::e,j,h=>by rw[fH,if_neg (h (i,v) (by simp))];exact td e j fun p hp=>h p (by simp [hp])
theorem v8:∀(e:List (Nat×AV)),∀p∈fj e,p.1<HS
 |[],p,h=>by simp [fj] at h
 |(i,v)::e,p,h=>by
  simp only[fj] at h
  cases hc:(bx HS i && aY i (HS+HS)) with
  |true=>
   rw[hc] at h
   simp only[aZ] at hc
   have h1:HS≤i:=by simpa using hc.1
   have h2:i<HS+HS:=by simpa using hc.2
   rcases bu.1 h with rfl|h
   ·show i - HS<HS;omega
   ·exact v8 e p h
  |false=>rw[hc] at h;exact v8 e p h
theorem Ew (e:List (Nat×AV)) (j:Nat):look (fj e++gQ e) j=if j<HS then look e (j+HS) else look e (j - HS):=by
 by_cases hj:j<HS
 ·rw[if_pos hj]
  rcases pU (fj e) (gQ e) j with h|⟨h1,h2⟩
  ·rw[h,sN,if_pos hj]
  ·have h3:=td _ _ h1
   rw[sN,if_pos hj] at h3
   rw[h2,lU _ _ hj,h3]
 ·rw[if_neg hj]
  have h1:∀p∈fj e,p.1≠j:=fun p hp e'=>hj (e'▸v8 e p hp)
  rcases pU (fj e) (gQ e) j with h|⟨_,h2⟩
  ·rw[td _ _ h1] at h
   -- both are any or the other
   have:∀(e1:List (Nat×AV)),(∀p∈e1,p.1≠j)→look (e1++gQ e) j=look (gQ e) j:=by
    intro e1 fZ
    induction e1 with
    |nil=>rfl
    |cons p e1 ih=>
     rw[bt]
     show look ((p.1,p.2)::(e1++gQ e)) j=_
     rw[fH,if_neg (fZ p (by simp))]
     exact ih fun q hq=>fZ q (by simp [hq])
   rw[this _ h1]
   obtain⟨m,rfl⟩:∃m,j=m+HS:=⟨j - HS,by omega⟩
   rw[lS,ck]
  ·rw[h2]
   obtain⟨m,rfl⟩:∃m,j=m+HS:=⟨j - HS,by omega⟩
   rw[lS,ck]
theorem JL {C:Cx} {w:World} {hv:Nat→Value}:∀(ps:List Tmp) (vals:List Value) (tX:List AV) (tm:Array Value) (e:List (Nat×AV)),vals.length=ps.length→tX.length=ps.length→
  (∀t∈ps,t<tm.size∧t<HS)→(∀(j:Nat) (u:Value) (v:AV),vals[j]? =some u→tX[j]? =some v→RA C w u v)→
  (∀j,RA C w (if j<HS then tm.getD j undef else hv j) (look e j))→
  ∀j,RA C w (if j<HS then ((ps.zip vals).foldl (fun tmps (t,a)=>tmps.setIfInBounds t a) tm).getD j undef else hv j) (look (BE ps tX e) j)
 |[],[],[],tm,e,_,_,_,_,h=>h
 |t::ps,u::vals,v::tX,tm,e,h1,h2,h3,h4,h=>by
  simp only[cq,cr,BE]
  refine JL ps vals tX _ _ (by simpa using h1) (by simpa using h2) (fun t' Ua=>by simpa using h3 t' (by simp [Ua])) (fun j x y hx hy=>h4 (j+1) x y (by simpa using hx) (by simpa using hy)) (fun j=>?_)
  rw[fH]
  by_cases e':t=j
  ·subst e'
   obtain⟨h5,h6⟩:=h3 t (by simp)
   rw[if_pos rfl,if_pos h6,aR,aS,if_pos rfl,if_pos h5]
   exact h4 0 u v rfl rfl
  ·rw[if_neg e']
   have:=h j
   by_cases hj:j<HS
   ·rw[if_pos hj] at this ⊢
    rw[aR,aS,if_neg e',← aR]
    exact this
   ·rw[if_neg hj] at this ⊢;exact this
 |[],_::_,_,_,_,h,_,_,_,_=>by simp at h
 |[],[],_::_,_,_,_,h,_,_,_=>by simp at h
 |_::_,[],_,_,_,h,_,_,_,_=>by simp at h
 |_::_,_::_,[],_,_,_,h,_,_,_=>by simp at h
theorem CJ:∀(l:List (Tmp×Value)) (tm:Array Value),(l.foldl (fun tmps (t,a)=>tmps.setIfInBounds t a) tm).size=tm.size
 |[],_=>rfl
 |(t,a)::l,tm=>by simp only[cr];rw[CJ l];simp
def pt (δ:DS) (i l:Nat) (st:vg):Prop:=∃tm ps jf body,δ.ob i=some (.loop l tm ps jf body st)
def DS.oc (δ:DS) (i:Nat) (st:vg):DS:=match δ.ob i with|some (.loop l tm ps jf body _)=>δ.gm i (some (.loop l tm ps jf body st))|_=>δ
def uf (n i l:Nat) (K:Bool→vg→DS→Prop):Exit→DS→Prop
 |.normal,δ=>pt δ i l .busy∧K true .ready (fQ n δ)
 |.ret,δ=>pt δ i l .busy∧K false (.done .ret) (fQ n δ)
 |.exit id,δ=>pt δ i l .busy∧K false (.done (.exit id)) (fQ n δ)
 |_,_=>False
theorem Rel.oc {i l:Nat} {st st':vg} {rl r':Loop} (je:g.wt=none) (r:Rel g δ κ a w) (h:pt δ i l st) (hr:w.heap[l]? =some (.loop rl)) (hk:r'.tmps=rl.tmps∧r'.params=rl.params∧r'.assign=rl.assign∧r'.body=rl.body)
  (jc:match st' with|.ready=>r'.state=.ready∧r'.pending=none|.busy=>r'.state=.busy|.done c=>r'.state=.done∧r'.pending=some c|.over=>True):Rel g (δ.oc i st') κ a (w.putObj l (.loop r')):=by
 obtain⟨tm,ps,jf,body,ho⟩:=h
 obtain⟨b,r0,h1,h2,yJ,h3,h4,h5,h6,_⟩:=r.obj i _ ho
 have Li:κ i=some b:=h1
 subst yJ
 rw[hr] at h2
 cases h2
 obtain⟨r3,G⟩:=r.modify (o':=.loop b tm ps jf body st') ho rfl rfl Li (j4 je i) (iw.putObj w b (.loop r')) (by simp) (fun C hC G=>
  ⟨b,r',by rw[hC];exact Li,World.putObj_heap_same (iJ hr),rfl,hk.1.trans h3,hk.2.1.trans h4,hk.2.2.1.trans h5,hk.2.2.2.trans h6,jc⟩)
 unfold DS.oc
 rw[ho]
 exact r3
theorem Rel.frame {g':e6} {a2 a':Act} {n:Nat} (r2:Rel g' δ κ a2 w) (je:g.wt=none) (Sx:g'.wt=none) (hg:g'.B=g.B∧g'.w0=g.w0∧g'.N0=g.N0∧g'.fr=g.fr∧g'.w1=g.w1) (kM:∀j,g'.held (j+HS)=g.val a' j) (hn:a'.tmps.size=n) (hd:GO g a' w) (OA:∀d∈a'.defers,∀r,d.target=.collected r→¬g.fr r):Rel g (fQ n δ) κ a' w:=by
 have C8:(fQ n δ).cx g κ=δ.cx g' κ:=by
  show(δ.cx g κ)=_
  unfold DS.cx
  rw[hg.1,hg.2.2.1]
 exact
  {n:=hn,dfr:=hd
   env:=fun j=>by
    have h1:=r2.env (j+HS)
    rw[sk,kM j] at h1
    have h2:(fQ n δ).get j=δ.get (j+HS):=mJ δ.env j
    rw[h2,C8];exact h1
   obj:=fun j o h=>by rw[C8];exact r2.obj j o h
   inj:=r2.inj
   lo:=fun j b h1 h2=>by rw[← hg.1];exact r2.lo j b h1 h2
   nx:=r2.nx
   wt:=fun k hk=>by rw[je] at hk;cases hk
   below:=by rw[← hg.1,← hg.2.1];exact r2.below
   km:=OA
   fr:=by
    have h1:pC g' δ.live κ w:=r2.fr
    exact h1.re hg.1.symm hg.2.2.2.1.symm hg.2.2.2.2.symm je
   hB:=by rw[← hg.1];exact r2.hB
   N0:=by rw[← hg.1,← hg.2.2.1,← hg.2.2.2.1];exact r2.N0}
theorem Cb {x:Operand} {ys:Array Operand} {tys:Array TypeId} {l:Nat} {r:Loop} {a:Act} (hx:a.eval x=.func (.yield l) #[] #[]) (h:w.heap[l]? =some (.loop r)) (hs:ys.size=r.params.size):
  (execOp a.eval ⟨dst,.call {callee:=.value x,args:=ys,argTypes:=tys},ty,pos,af,none⟩).run P w=
   .ok (.round l r.fn ((r.params.zip (ys.map a.eval)).foldl (fun tmps (t,a)=>tmps.setIfInBounds t a) r.tmps) r.assign r.body) w:=by
 have:=run_yield (P:=P) (w:=w) (args:=ys.map a.eval) h (by simpa using hs)
 simp only[execOp,resolve,Deferred.ofValue,hx,invoke,Sem.run_bind,Sem.run_pure,Result.andThen_ok,Array.empty_append]
 exact this
theorem a_.yield {x:Operand} {ys:List Operand} {tys:Array TypeId} {i l n0:Nat} {tm:Array Value} {ps:List Tmp} {jf body:Code} (yf:g.ro=none) (je:g.wt=none) (uE:∀j,j<HS→g.held (j+HS)=tm.getD j undef) (Gt:tm.size=n0) (CG:bx n0 HS=true)
  (hx:δ.ev x=.kZ i) (js:δ.ob i=some (.loop l tm ps.toArray jf body .ready)) (ho:fq x=true) (RV:ys.all fq=true) (hlen:aL ys.length ps.length=true) (Qp:ps.all (fun t=>aY t n0)=true) (uT:fR δ.n dst=true)
  (h:∀g':e6,g'.ro=some l→g'.wt=none→AW P g' jf (ga (fun δ1=>pt δ1 i l .ready∧AW P g' body (uf δ.n i l (fun b st δ2=>a_ .plain P g ops rest Q ((δ2.oc i st).eY dst (fu b)))) (δ1.oc i .busy)) (fun _ _=>False)) (tO n0 ps (ys.map δ.ev) δ)):
  a_ .plain P g ops (⟨dst,.call {callee:=.value x,args:=ys.toArray,argTypes:=tys},ty,pos,af,none⟩::rest) Q δ:=by
 intro κ a w r
 have uZ:=r.ra hx ho
 generalize hv:a.eval x=v at uZ
 cases uZ with
 | @kZ _ b hl hκ=>
  obtain⟨b',rl,h1,h2,yJ,h3,h4,h5,h6,h7⟩:=r.obj _ _ js
  have:b'=b:=Option.some.inj (h1.symm.trans hκ)
  subst this
  subst yJ
  obtain⟨ms,E4,ql,Lf⟩:=r.dfr
  have FR:ys.length=ps.length:=aM hlen
  show wpListIn _ _ P ops _ (_::rest) a w
  refine gV rfl rfl fun K oS=>?_
  unfold Oper.Ac
  rw[Cb hv h2 (by rw[h4];simpa using FR),Oper.uponIn_round,yf]
  refine⟨fun h=>by simp at h,?_⟩
  let tm':Array Value:=(rl.params.zip (ys.toArray.map a.eval)).foldl (fun tmps (t,a)=>tmps.setIfInBounds t a) rl.tmps
  have KA:tm'=(ps.zip (ys.map a.eval)).foldl (fun tmps (t,a)=>tmps.setIfInBounds t a) tm:=by
   show(rl.params.zip (ys.toArray.map a.eval)).foldl _ rl.tmps=_
   rw[h3,h4,← Array.foldl_toList,Array.toList_zip]
   simp
  let g':e6:={B:=g.B,w0:=g.w0,N0:=g.N0,held:=fun j=>g.val a (j - HS),ro:=some b',mks:=ms++g.mks,wt:=none,fr:=g.fr,w1:=g.w1}
  have O5:∀j,g'.held (j+HS)=g.val a j:=fun j=>congrArg (g.val a) (ck j HS)
  have oE:Rel g' (tO n0 ps (ys.map δ.ev) δ) κ {tmps:=tm',defers:=[]} w:=
   {n:=by show tm'.size=n0;rw[KA,CJ];exact Gt
    dfr:=⟨[],rfl,ql,Lf⟩
    env:=fun j=>by
     have hp:=JL (C:=δ.cx g κ) (w:=w) (hv:=g'.held) ps (ys.map a.eval) (ys.map δ.ev) tm (fj δ.env++gQ δ.env) (by simpa using FR) (by simpa using FR)
      (fun t ht=>by
       have h8:=(bC.1 Qp) t ht
       have h9:t<n0:=by simpa using h8
       have xx:n0≤HS:=by simpa using CG
       exact⟨Gt▸h9,Nat.lt_of_lt_of_le h9 xx⟩)
      (fun j u v h8 h9=>by
       simp only[a7,bg] at h8 h9
       obtain⟨y,h8,rfl⟩:=h8
       obtain⟨y',h9,rfl⟩:=h9
       rw[h8] at h9;cases h9
       exact r.EY y (iV ((bC.1 RV) y (aU h8))))
      (fun j=>by
       rw[Ew]
       by_cases hj:j<HS
       ·rw[if_pos hj,if_pos hj,← uE j hj,← sk]
        exact r.env (j+HS)
       ·rw[if_neg hj,if_neg hj]
        exact r.env (j - HS)) j
     rw[← KA] at hp
     exact hp
    obj:=r.obj,inj:=r.inj,lo:=r.lo,nx:=r.nx,wt:=fun k hk=>(by cases hk),below:=r.below,hB:=r.hB,N0:=r.N0,fr:=r.fr.re rfl rfl rfl rfl,km:=fun d hd=>by cases hd}
  rw[h5,h6]
  refine roundIn_of_wpIn (F:=Fw none) trivial (wpIn_mono (h g' rfl rfl κ _ w oE) ?_)
  rintro e a1 w1 ⟨δ1,κ1,hq,r1⟩
  cases e with
  |normal=>
   obtain⟨Uv,hq⟩:=hq
   have VO:=Uv
   obtain⟨tm1,ps1,asg1,body1,Sg⟩:=Uv
   obtain⟨b1,rl1,k1,k2,kbl,k3,k4,k5,k6,k7⟩:=r1.obj _ _ Sg
   subst kbl
   have r1':=r1.oc rfl (st':=.busy) (r':={rl1 with state:=.busy}) VO k2 ⟨rfl,rfl,rfl,rfl⟩ rfl
   refine⟨_,run_beginRound k2 k7.1,wpIn_mono (hq κ1 a1 _ r1') ?_⟩
   rintro e2 a2 w2 ⟨δ2,κ2,jr,r2⟩
   have fin:∀(jump:Option Code) (st:vg) (bb:Bool),bb=jump.isNone→pt δ2 i b1 .busy→a_ .plain P g ops rest Q (((fQ δ.n δ2).oc i st).eY dst (fu bb))→
     (match st with|.ready=>jump=none|.done c=>jump=some c|_=>False)→
     ∃v w',(Instr.endRound b1 jump).run P w2=.ok v w'∧K (a.put dst v) w':=by
    intro jump st bb vA G5 hA jc
    have X1:=G5
    obtain⟨tm2,ps2,asg2,body2,Ln⟩:=G5
    obtain⟨b2,rl2,m1,m2,mbl,m3,m4,m5,m6,m7⟩:=r2.obj _ _ Ln
    subst mbl
    have r3:=r2.oc rfl (st':=st) (r':={rl2 with state:=if jump.isNone then .ready else .done,pending:=jump}) X1 m2 ⟨rfl,rfl,rfl,rfl⟩ (by
     cases st with
     |ready=>simp only at jc;subst jc;exact⟨rfl,rfl⟩
     |done c=>simp only at jc;subst jc;exact⟨rfl,rfl⟩
     |_=>exact jc.elim)
    refine⟨_,_,run_endRound jump m2,?_⟩
    have hd:GO g a (w2.putObj b2 (.loop {rl2 with state:=if jump.isNone then .ready else .done,pending:=jump})):=by
     obtain⟨rs4,k1,k2,k3⟩:=r3.dfr
     exact⟨ms,E4,(cm.1 k2).2.1,fun k hk=>k3 k (bW.2 (.inr hk))⟩
    have r4:=r3.frame (g:=g) (a':=a) (n:=δ.n) je rfl ⟨rfl,rfl,rfl,rfl,rfl⟩ O5 r.n hd r.km
    have he:fQ δ.n (δ2.oc i st)=(fQ δ.n δ2).oc i st:=by
     unfold DS.oc
     have:(fQ δ.n δ2).ob i=δ2.ob i:=rfl
     rw[this,Ln];rfl
    rw[he] at r4
    subst vA
    have rU:((fQ δ.n δ2).oc i st).n=δ.n:=by
     unfold DS.oc
     have:(fQ δ.n δ2).ob i=δ2.ob i:=rfl
     rw[this,Ln];rfl
    exact oS _ _ (hA κ2 _ _ (r4.eY (v:=.bool jump.isNone) (fv (by rw[rU];exact uT)) (.pv (.lit _))))
   cases e2 with
   |normal=>exact fin none .ready true rfl jr.1 jr.2 rfl
   |ret=>exact fin (some .ret) (.done .ret) false rfl jr.1 jr.2 rfl
   |exit id=>exact fin (some (.exit id)) (.done (.exit id)) false rfl jr.1 jr.2 rfl
   |_=>exact jr.elim
  |_=>exact hq.elim
end Go.Ab
/- Calls walked in place:the callee's body over the caller's own objects. -/
namespace Go.Ab
open Go Go.RowKit
attribute [local irreducible] HS
variable {P:Program} {g:e6} {δ:DS} {κ:Kp} {a:Act} {w:World}
variable {ops:Array Oper} {rest:List Oper} {Q:Exit→DS→Prop} {dst:Option Nat} {ty:TypeId} {pos:String} {af:Array Edge}
theorem uU (l:List AV) (e:List (Nat×AV)) (hl:l.length≤HS) (j:Nat):look (enum 0 l++gQ e) j=if j<HS then look (enum 0 l) j else look e (j - HS):=by
 have Gw:∀(l:List AV) (i:Nat),(∀j,i+l.length≤j∨j<i→look (enum i l++gQ e) j=look (gQ e) j)∧(∀j,i≤j→j<i+l.length→look (enum i l++gQ e) j=look (enum i l) j):=by
  intro l
  induction l with
  |nil=>intro i;exact⟨fun j _=>rfl,fun j h1 h2=>by simp at h2;omega⟩
  |cons v l ih=>
   intro i
   obtain⟨h1,h2⟩:=ih (i+1)
   simp only[List.length_cons]
   refine⟨fun j hj=>?_,fun j h3 h4=>?_⟩
   ·show look ((i,v)::(enum (i+1) l++gQ e)) j=_
    rw[fH,if_neg aJ]
    exact h1 j (by omega)
   ·show look ((i,v)::(enum (i+1) l++gQ e)) j=look ((i,v)::enum (i+1) l) j
    rw[fH,fH]
    by_cases e:i=j
    ·rw[if_pos e,if_pos e]
    ·rw[if_neg e,if_neg e]
     exact h2 j aJ (by omega)
 obtain⟨h1,h2⟩:=Gw l 0
 by_cases hj:j<HS
 ·rw[if_pos hj]
  by_cases r7:j<l.length
  ·exact h2 j (bk _) (by omega)
  ·rw[h1 j aJ,lU _ _ hj,jt l 0 j aJ]
 ·rw[if_neg hj,h1 j aJ]
  obtain⟨m,rfl⟩:∃m,j=m+HS:=⟨j - HS,by omega⟩
  rw[lS,ck]
def fG (P:Program) (rs:List ResultVar) (n:Nat) (dst:Option Nat) (K:DS→Prop):Exit→DS→Prop
 |.normal,δ|.ret,δ=>∃v,gn P δ rs v∧K ((fQ n δ).eY dst v)
 |_,_=>False
theorem oo {rs:List ResultVar} {n:Nat} {K:DS→Prop} {v:AV} (h:gn P δ rs v) (hK:K ((fQ n δ).eY dst v)):fG P rs n dst K .ret δ:=⟨v,h,hK⟩
theorem Gl {rs:List ResultVar} {n:Nat} {K:DS→Prop} {v:AV} (h:gn P δ rs v) (hK:K ((fQ n δ).eY dst v)):fG P rs n dst K .normal δ:=⟨v,h,hK⟩
theorem yU {gd:Option (Tmp×Bool)} {x:Operand} {f:FuncId} {vs us:Array Value} {xs:Array Operand} {tys:Array TypeId} {ρ:Operand→Value} (hx:ρ x=.func (.func f) vs us) (he:∀vals w,(callFunc f vals).run P w=.ok (.enter f vals) w) (w:World):
  (execOp ρ ⟨dst,.call {callee:=.value x,args:=xs,argTypes:=tys},ty,pos,af,gd⟩).run P w=.ok (.enter f (vs++xs.map ρ++us)) w:=by
 simp [execOp,resolve,Deferred.ofValue,invoke,hx,he]
theorem a_.inline {x:Operand} {xs:List Operand} {tys:Array TypeId} {f:FuncId} {first cap:List AV} {fn:Func} {c:Code} {n':Nat} {rs:List ResultVar} (je:g.wt=none) (hx:δ.ev x=.jJ (.func f) first cap) (ho:fq x=true) (sz:xs.all fq=true)
  (hf:P.funcs[f]? =some fn) (hb:fn.body=some c) (s6:fn.results=rs.toArray) (hn:fn.ntmps=n') (hle:bx (first.length+xs.length+cap.length) n'=true) (LR:bx n' HS=true) (hd:fR δ.n dst=true) (he:(fn.name== "runtime.NumGoroutine")=false)
  (h:∀g':e6,g'.ro=none→g'.wt=none→AW P g' c (fG P rs δ.n dst fun δ2=>a_ .plain P g ops rest Q δ2) {n:=n',env:=enum 0 (first++xs.map δ.ev++cap)++gQ δ.env,gq:=δ.gq,nx:=δ.nx}):
  a_ .plain P g ops (⟨dst,.call {callee:=.value x,args:=xs.toArray,argTypes:=tys},ty,pos,af,none⟩::rest) Q δ:=by
 intro κ a w r
 have uZ:=r.ra hx ho
 generalize hv:a.eval x=v at uZ
 cases uZ with
 | @jJ _ vs us _ _ hs SF ht UG=>
  have GZ:first.length+xs.length+cap.length≤n':=by simpa using hle
  have Xw:n'≤HS:=by simpa using LR
  obtain⟨ms,E4,ql,Lf⟩:=r.dfr
  have XH:∀vals w,(callFunc f vals).run P w=.ok (.enter f vals) w:=fun vals w=>by simp [callFunc,hf,hb];simpa using he
  show wpListIn _ _ P ops _ (_::rest) a w
  refine gV rfl rfl fun K oS=>?_
  unfold Oper.Ac
  rw[yU hv XH,Oper.uponIn_enter]
  refine⟨fun h=>by simp at h,?_⟩
  let args:Array Value:=vs++xs.toArray.map a.eval++us
  let tX:List AV:=first++xs.map δ.ev++cap
  have ny:args.size=tX.length:=by simp [args,tX];omega
  have Cg:tX.length=first.length+xs.length+cap.length:=by simp [tX];omega
  let g':e6:={B:=g.B,w0:=g.w0,N0:=g.N0,held:=fun j=>g.val a (j - HS),ro:=none,mks:=ms++g.mks,wt:=none,fr:=g.fr,w1:=g.w1}
  let δ2:DS:={n:=n',env:=enum 0 tX++gQ δ.env,gq:=δ.gq,nx:=δ.nx}
  have fX:∀(j:Nat) (u:Value) (av:AV),args[j]? =some u→tX[j]? =some av→RA (δ.cx g κ) w u av:=by
   intro j u av h1 h2
   simp only[args] at h1
   simp only[tX] at h2
   by_cases hj:j<first.length+xs.length
   ·rw[aT (by simp;omega)] at h2
    rw[cg (by simp;omega)] at h1
    by_cases Q6:j<first.length
    ·rw[aT Q6] at h2
     rw[cg aJ] at h1
     exact SF j u av h1 h2
    ·rw[aV aJ] at h2
     rw[cj aJ,hs] at h1
     simp only[bn,List.getElem?_toArray,a7,bg] at h1 h2
     obtain⟨y,h3,rfl⟩:=h1
     obtain⟨y',h4,rfl⟩:=h2
     rw[h3] at h4;cases h4
     exact r.EY y (iV ((bC.1 sz) y (aU h3)))
   ·rw[aV (by simp;omega)] at h2
    rw[cj (by simp;omega)] at h1
    have e1:(vs++xs.toArray.map a.eval).size=(first++xs.map δ.ev).length:=by simp;omega
    rw[e1] at h1
    exact UG _ u av h1 h2
  have oE:Rel g' δ2 κ {tmps:=args++b9 (fn.ntmps - args.size) undef,defers:=[]} w:=
   {n:=by show(args++b9 (fn.ntmps - args.size) undef).size=n';rw[ca,cb,hn,ny];omega
    dfr:=⟨[],rfl,ql,Lf⟩
    env:=fun j=>by
     show RA (δ.cx g κ) w _ (look (enum 0 tX++gQ δ.env) j)
     rw[uU tX δ.env aJ]
     unfold e6.val
     by_cases hj:j<HS
     ·rw[if_pos hj,if_pos hj]
      show RA (δ.cx g κ) w ((args++b9 (fn.ntmps - args.size) undef).getD j undef) _
      by_cases Rk:j<tX.length
      ·have FZ:(args++b9 (fn.ntmps - args.size) undef).getD j undef=args[j]:=by
        rw[aR,cg aJ,aN aJ];rfl
       rw[FZ,mZ tX 0 j tX[j] (bk _) (by rw[cd];exact a8 Rk)]
       exact fX j _ _ (aN aJ) (a8 Rk)
      ·rw[jt tX 0 j aJ];exact .any _
     ·rw[if_neg hj,if_neg hj]
      exact r.env (j - HS)
    obj:=r.obj,inj:=r.inj,lo:=r.lo,nx:=r.nx,wt:=fun k hk=>(by cases hk),below:=r.below,hB:=r.hB,N0:=r.N0,fr:=r.fr.re rfl rfl rfl rfl,km:=fun d hd=>by cases hd}
  refine(show CallsIn (Fw none) (0 - 1) P f args w _ from callsIn_of_wp_marks (n:=0) hf hb trivial (wpIn_mono (h g' rfl rfl κ _ w oE) ?_))
  rintro e a2 w2 ⟨δ3,κ3,hq,r3⟩
  have fin:∀v,gn P δ3 rs v→a_ .plain P g ops rest Q ((fQ δ.n δ3).eY dst v)→LeavesInM (Fw none) 0 P fn a2.tmps (fun
    |.returned v,w''=>K (a.put dst v) w''
    |.panicked chain,w''=>lift g Q (.panic chain) a w''
    |.outgrown,_=>LetsOut (lift g Q)) a2.defers .returning w2:=by
   intro v h1 h2
   refine leaves (g:=g') rfl rfl s6 h1 r3 (fun w4 r4 u hu=>?_)
   have hd4:GO g a w4:=by
    obtain⟨rs4,k1,k2,k3⟩:=r4.dfr
    exact⟨ms,E4,(cm.1 k2).2.1,fun k hk=>k3 k (bW.2 (.inr hk))⟩
   have r5:=r4.frame (g:=g) (a':=a) (n:=δ.n) je rfl ⟨rfl,rfl,rfl,rfl,rfl⟩ (fun j=>congrArg (g.val a) (ck j HS)) r.n hd4 r.km
   exact oS _ _ (h2 κ3 _ _ (r5.eY (fv hd) hu))
  cases e with
  |normal=>obtain⟨v,h1,h2⟩:=hq;exact fin v h1 h2
  |ret=>obtain⟨v,h1,h2⟩:=hq;exact fin v h1 h2
  |_=>exact hq.elim
end Go.Ab
namespace Go.Ab
section
variable {P:Program} {δ:DS} {n:Nat} {dst:Option Nat} {K:DS→Prop} {t t':Tmp}
theorem l8 {p:PV} (ht:aY t HS=true) (h:δ.get t=.pv p) (hK:K ((fQ n δ).eY dst (.pv p))):fG P [.tmp t] n dst K .ret δ:=oo (.one (.tmp ht h)) hK
theorem zp {i e k fc} (ht:aY t HS=true) (h:δ.get t=.own i e k fc) (hK:K ((fQ n δ).eY dst (.own i e k fc))):fG P [.tmp t] n dst K .ret δ:=oo (.one (.tmp ht h)) hK
theorem zH {i o} (ht:aY t HS=true) (h:δ.get t=.ptr i o) (hK:K ((fQ n δ).eY dst (.ptr i o))):fG P [.tmp t] n dst K .ret δ:=oo (.one (.tmp ht h)) hK
theorem jT (hK:K ((fQ n δ).eY dst (.gM []))):fG P [] n dst K .normal δ:=Gl .none hK
theorem Ci {p p':PV} (ht:aY t HS=true) (h:δ.get t=.pv p) (Ua:aY t' HS=true) (h':δ.get t'=.pv p') (hK:K ((fQ n δ).eY dst (.gM [.pv p,.pv p']))):fG P [.tmp t,.tmp t'] n dst K .ret δ:=oo (.two (.tmp ht h) (.tmp Ua h')) hK
theorem Ct {i e k fc} {p':PV} (ht:aY t HS=true) (h:δ.get t=.own i e k fc) (Ua:aY t' HS=true) (h':δ.get t'=.pv p') (hK:K ((fQ n δ).eY dst (.gM [.own i e k fc,.pv p']))):fG P [.tmp t,.tmp t'] n dst K .ret δ:=oo (.two (.tmp ht h) (.tmp Ua h')) hK
end
end Go.Ab
/- Regions that draw their order and hold operations with an effect:what only reads is taken first,the rest is walked in each order. -/
namespace Go.Ab
open Go Go.RowKit
variable {P:Program} {g:e6} {δ:DS} {κ:Kp} {a:Act} {w:World}
variable {ops:Array Oper} {Q:Exit→Act→World→Prop} {ro:Option Nat}
theorem Bp {j:Nat} {oi oj:Oper} {v:Value} {I:Act→Prop} (hj:ops[j]? =some oj) (jy:jP oj=true) (UW:oi.apart ops oj=true)
  (hsj:∀cs b,oj.op≠ .select cs b) (hQ:∀c a w,Q (.panic c) (a.put oi.dst v) w→Q (.panic c) a w) (keep:∀a u,I a→I (a.put oj.dst u)) (keepD:∀(a:Act) d,I a→I {a with defers:=d::a.defers}) {K:Act→World→Prop} {a:Act} {w:World}
  (hy:I a) (h:wpOpIn (Fw ro) 0 P ops Q j K (a.put oi.dst v) w):wpOpIn (Fw ro) 0 P ops Q j (fun a' w'=>I a'∧K (a'.put oi.dst v) w') a w:=by
 obtain⟨h1,h2,h3⟩:=Oper.apart_spec UW
 unfold wpOpIn at*
 simp only[hj] at*
 rw[wanted_put oj a oi.dst v h1,about_put oj w a oi.dst v h1] at h
 have Sy:∀ρ,oj.semAt (Fw ro).round ρ=execOp ρ oj:=fun ρ=>Oper.semAt_eq _ _ _ (by intro c e;simp [jP,e] at jy)
 split
 ·rename_i hw
  simp only[hw,if_true] at h
  unfold Oper.wpIn at*
  rw[about_put oj w a oi.dst v h1] at h
  refine⟨h.1,?_⟩
  have h:=h.2
  rw[Sy,execOp_put oj hsj a oi.dst v h1] at h
  rw[Sy]
  generalize (execOp a.eval oj).run P w=r at*
  cases r with
  |ok x w'=>
   cases x<;>simp only[Oper.uponIn] at h ⊢
   case value u=>exact⟨keep a u hy,by rw[← Act.put_comm a v u h2];exact h⟩
   case skip=>exact⟨keep a _ hy,by rw[← Act.put_comm a v undef h2];exact h⟩
   case defer d=>
    refine⟨keep _ _ (keepD _ _ hy),?_⟩
    rw[← Act.put_comm _ v undef h2,← Act.put_defers]
    exact h
   case enter f args=>
    refine⟨h.1,CallsIn.mono h.2 fun e w'' he=>?_⟩
    cases e with
    |returned u=>exact⟨keep a u hy,by rw[← Act.put_comm a v u h2];exact he⟩
    |panicked c=>exact hQ _ _ _ he
    |outgrown=>exact he
   case row row args=>exact⟨h.1,RowsIn.mono h.2 fun u w'' he=>⟨keep a u hy,by rw[← Act.put_comm a v u h2];exact he⟩⟩
   case round l f tmps assign body=>
    refine⟨h.1,RoundIn.mono h.2 fun e w'' he=>?_⟩
    cases e with
    |returned u=>exact⟨keep a u hy,by rw[← Act.put_comm a v u h2];exact he⟩
    |panicked c=>exact hQ _ _ _ he
    |outgrown=>exact he
  |halt x w'=>
   cases x<;>simp only[Oper.uponIn] at h ⊢
   case panic u=>exact hQ _ _ _ h
 ·rename_i hw
  simp only[hw] at h
  exact⟨h.1,keep a _ hy,by rw[← Act.put_comm a v undef h2];exact h.2⟩
def nT (ro:Option Nat) (P:Program) (ops:Array Oper) (Q:Exit→Act→World→Prop) (S:Array Bool→World→Prop):Nat→Array Bool→Act→World→Prop
 |0,listed,a,w=>Region.ready .any ops listed=[]∧Q .normal a w
 |fuel+1,listed,a,w=>
  (Region.ready .any ops listed=[]→Q .normal a w)∧
  ∀i∈Region.ready .any ops listed,wpOpIn (Fw ro) 0 P ops Q i (fun a' w'=>S (listed.setIfInBounds i true) w'∧nT ro P ops Q S fuel (listed.setIfInBounds i true) a' w') a w
theorem vX {S:Array Bool→World→Prop}:∀(fuel:Nat) (listed:Array Bool) (a:Act) (w:World),nT ro P ops Q S fuel listed a w→wpAnyIn (Fw ro) 0 P .any ops Q fuel listed a w
 |0,_,_,_,h=>h
 |fuel+1,_,_,_,h=>⟨h.1,fun i hi=>wpOpIn_mono (fun a' w' h'=>vX fuel _ a' w' h'.2) (h.2 i hi)⟩
def DC (ops:Array Oper) (listed:Array Bool):Prop:=∀j o,ops[j]? =some o→listed.getD j false=true→∀e∈o.after,Region.binds .any e=true→listed.getD e.on false=true
theorem Ks (listed:Array Bool) (i j:Nat) (d:Bool):(listed.setIfInBounds i true).getD j d=if i=j then (if i<listed.size then true else d) else listed.getD j d:=by
 by_cases h:i=j
 ·subst h
  rw[if_pos rfl]
  by_cases fx:i<listed.size
  ·simp [fx]
  ·simp [fx]
 ·rw[if_neg h];exact getD_set_ne d h
theorem DC.ready {listed:Array Bool} (h:DC ops listed) {i:Nat} (hi:i∈Region.ready .any ops listed):DC ops (listed.setIfInBounds i true):=by
 intro j o ho hj e he hb
 obtain⟨_,o',f_,iT⟩:=mem_ready.1 hi
 by_cases r9:i=j
 ·subst r9
  rw[f_] at ho;cases ho
  exact getD_set_true (iT e he hb)
 ·rw[getD_set_ne false r9] at hj
  exact getD_set_true (h j o ho hj e he hb)
theorem sQ {S:Array Bool→World→Prop} {C:World→Prop} {i:Nat} {oi:Oper} {v:Value} (hi:ops[i]? =some oi) (T8:∀(j:Nat) (o:Oper) cs b,ops[j]? =some o→o.op≠ .select cs b) (jy:∀(j:Nat) (o:Oper),ops[j]? =some o→jP o=true)
  (hQ:∀c a w,Q (.panic c) (a.put oi.dst v) w→Q (.panic c) a w)
  (hC:∀listed w,DC ops listed→listed.getD i true=false→S listed w→C w) (hS:∀listed w,S (listed.setIfInBounds i true) w↔S listed w):
  ∀(fuel:Nat) (listed:Array Bool) (a:Act) (w:World),DC ops listed→
   (∀j oj,ops[j]? =some oj→j≠i→listed.getD j true=false→(∀e∈oj.after,Region.binds .any e=true→e.on≠i)→oi.apart ops oj=true)→
   i∈Region.ready .any ops listed→YieldsIf P ops C oi v a→S listed w→
   nT ro P ops Q S fuel (listed.setIfInBounds i true) (a.put oi.dst v) w→nT ro P ops Q S (fuel+1) listed a w:=by
 have nH:∀{K:Act→World→Prop} {a:Act} {w:World},YieldsIf P ops C oi v a→C w→K (a.put oi.dst v) w→wpOpIn (Fw ro) 0 P ops Q i K a w:=by
  intro K a w hy hw hk
  unfold wpOpIn
  simp only[hi]
  rcases hy with ⟨OF,hv⟩|⟨OF,rfl⟩
  ·simp only[OF,if_true,Oper.wpIn]
   refine⟨fun _ _=>trivial,?_⟩
   rw[Oper.semAt_eq _ _ _ (by intro c e;have:=jy i oi hi;simp [jP,e] at this),hv w hw]
   exact hk
  ·simp only[OF,ct,if_false];exact⟨fun _ _=>trivial,hk⟩
 intro fuel
 induction fuel with
 |zero=>
  intro listed a w uV _ hr hy RT H
  refine⟨fun h=>(by rw[h] at hr;cases hr),fun j hj=>?_⟩
  by_cases pz:j=i
  ·subst pz;exact nH hy (hC listed w uV (mem_ready.1 hr).1 RT) ⟨(hS _ _).2 RT,H⟩
  ·have:=ready_mono hj pz
   rw[H.1] at this
   cases this
 |succ fuel ih=>
  intro listed a w uV FI hr hy RT H
  refine⟨fun h=>(by rw[h] at hr;cases hr),fun j hj=>?_⟩
  by_cases pz:j=i
  ·subst pz;exact nH hy (hC listed w uV (mem_ready.1 hr).1 RT) ⟨(hS _ _).2 RT,H⟩
  ·have h1:=H.2 j (ready_mono hj pz)
   obtain⟨R9,oj,MD,iT⟩:=mem_ready.1 hj
   have Gv:∀e∈oj.after,Region.binds .any e=true→e.on≠i:=fun e he hb heq=>by
    have h1:=iT e he hb
    have h0:=(mem_ready.1 hr).1
    rw[heq] at h1
    rcases cu i listed.size with h'|h'
    ·simp [h'] at h0 h1;rw[h0] at h1;cases h1
    ·simp [cv h'] at h1
   have UW:=FI j oj MD pz R9 Gv
   obtain⟨_,_,h3⟩:=Oper.apart_spec UW
   have h2:=Bp (I:=YieldsIf P ops C oi v) MD (jy j oj MD) UW (fun cs b=>T8 j oj cs b MD) hQ
    (fun a u hy=>hy.of_same (execOp_put oi (fun cs b=>T8 i oi cs b hi) a oj.dst u h3) (wanted_put oi a oj.dst u h3)) (fun a d hy=>hy.of_same rfl rfl) hy h1
   have QE:∀k ok,ops[k]? =some ok→k≠i→(listed.setIfInBounds j true).getD k true=false→
     (∀e∈ok.after,Region.binds .any e=true→e.on≠i)→oi.apart ops ok=true:=fun k ok hk hki RD mL=>by
    refine FI k ok hk hki ?_ mL
    by_cases Wf:j=k
    ·subst Wf;exact R9
    ·rw[getD_set_ne true Wf] at RD;exact RD
   refine wpOpIn_mono (fun a' w' h3=>?_) h2
   obtain⟨h4,h5,h6⟩:=h3
   rw[Array.setIfInBounds_comm _ _ (Ne.symm pz)] at h5 h6
   have h7:=(hS _ _).1 h5
   exact⟨h7,ih (listed.setIfInBounds j true) a' w' (uV.ready hj) QE (ready_mono hr (Ne.symm pz)) h4 h7 h6⟩
abbrev Wt:=World×(Nat→Prop)×Nat
def gW (late:List Nat) (listed:Array Bool):Bool:=late.any fun j=>listed.getD j false
def A6 (k:Wt) (late:List Nat) (listed:Array Bool) (w:World):Prop:=gW late listed=false→∀b,k.2.1 b→b<k.1.heap.size∧w.heap[b]? =k.1.heap[b]?
def Gs (g' g:e6):Prop:=g'.ro=g.ro∧g'.B=g.B∧g'.w0=g.w0
def A3 (g:e6) (k:Wt) (late:List Nat) (listed:Array Bool):e6:={g with wt:=if gW late listed=true then none else some k}
def gG (n:Nat):List Nat→Array Bool
 |[]=>b9 n false
 |i::done=>(gG n done).setIfInBounds i true
theorem we {late:List Nat} {i:Nat} (h:late.contains i=false) (listed:Array Bool):gW late (listed.setIfInBounds i true)=gW late listed:=by
 unfold gW
 induction late with
 |nil=>rfl
 |cons j late ih=>
  simp only[List.contains_cons,Bool.or_eq_false_iff] at h
  have r9:i≠j:=by simpa using h.1
  simp only[List.any_cons]
  rw[getD_set_ne false r9,ih h.2]
theorem uN {late:List Nat} {i:Nat} {listed:Array Bool} (h:gW late listed=true):gW late (listed.setIfInBounds i true)=true:=by
 unfold gW at*
 rw[List.any_eq_true] at*
 obtain⟨j,h1,h2⟩:=h
 exact⟨j,h1,getD_set_true h2⟩
theorem Rel.NZ (r:Rel g δ κ a w) {wt':Option Wt} (h:∀k,wt'=some k→(∀b,k.2.1 b→b<k.1.heap.size∧w.heap[b]? =k.1.heap[b]?)∧∀i b,δ.live i→(δ.lr i∨k.2.2≤i)→κ i=some b→¬k.2.1 b) (hF:∀k,wt'=some k→∀b,κ.Fs b→¬k.2.1 b):Rel {g with wt:=wt'} δ κ a w:=
 {n:=r.n,dfr:=r.dfr,env:=r.env,obj:=r.obj,inj:=r.inj,lo:=r.lo,nx:=r.nx,wt:=h,below:=r.below,hB:=r.hB,N0:=r.N0,km:=r.km
  fr:=⟨r.fr.1,fun i b hb=>let ⟨h1,h2⟩:=r.fr.2 i b hb;⟨⟨h1.1,fun k hk=>hF k hk b ⟨i,hb⟩⟩,h2⟩⟩}
theorem BN {k:Wt} {late:List Nat} {listed:Array Bool} (i:Nat) (r:Rel (A3 g k late listed) δ κ a w):Rel (A3 g k late (listed.setIfInBounds i true)) δ κ a w:=by
 have hk:∀k',(if gW late (listed.setIfInBounds i true)=true then none else some k)=some k'→(A3 g k late listed).wt=some k':=fun k' lO=>by
  by_cases h:gW late (listed.setIfInBounds i true)=true
  ·rw[if_pos h] at lO;cases lO
  ·rw[if_neg h] at lO
   cases lO
   show(if gW late listed=true then none else some k)=some k
   rw[if_neg (fun h'=>h (uN h'))]
 exact Rel.NZ (g:=A3 g k late listed) r (wt':=if gW late (listed.setIfInBounds i true)=true then none else some k) (fun k' lO=>r.wt k' (hk k' lO)) (fun k' lO b ⟨j,hj⟩=>(r.fr.2 j b hj).1.2 k' (hk k' lO))
theorem Oh {k:Wt} {late:List Nat} {listed:Array Bool} (r:Rel (A3 g k late listed) δ κ a w):A6 k late listed w:=by
 intro h
 refine(r.wt k ?_).1
 show(if gW late listed=true then none else some k)=some k
 rw[if_neg (by simp [h])]
theorem Je {k:Wt} {late:List Nat} {listed:Array Bool} (je:g.wt=none) (r:Rel (A3 g k late listed) δ κ a w):Rel g δ κ a w:=by
 have:=Rel.NZ r (wt':=none) (fun k hk=>by cases hk) (fun k hk=>by cases hk)
 cases g
 cases je
 exact this
def jY (f:DS→Prop):Exit→DS→Prop
 |.normal,δ=>f δ
 |_,_=>False
theorem NT {f:DS→Prop} (h:f δ):jY f .normal δ:=h
def qW (g:e6) (Q:Exit→DS→Prop):Exit→Act→World→Prop
 |.normal,a,w=>lift g Q .normal a w
 |.panic c,a,w=>∃δ κ,Q (.panic c) δ∧(∀j,j<HS→δ.get j=.any)∧Rel {g with wt:=none} δ κ a w
 |_,_,_=>False
theorem yR {g:e6} {Q:Exit→DS→Prop} {c:List PanicEntry} {a:Act} {w:World} {d:Option Nat} {v:Value} (h:qW g Q (.panic c) (a.put d v) w):qW g Q (.panic c) a w:=by
 obtain⟨δ,κ,h1,h2,r⟩:=h
 refine⟨δ,κ,h1,h2,?_⟩
 exact
  {n:=by have:=r.n;cases d<;>simpa [Act.put] using this
   dfr:=by have:=r.dfr;cases d<;>exact this
   env:=fun j=>by
    by_cases hj:j<HS
    ·rw[h2 j hj];exact .any _
    ·have:=r.env j
     have e:∀b:Act,e6.val {g with wt:=none} b j=g.held j:=fun b=>by unfold e6.val;rw[if_neg hj]
     rw[e] at this
     rw[e]
     exact this
   obj:=r.obj,inj:=r.inj,lo:=r.lo,nx:=r.nx,wt:=r.wt,below:=r.below,hB:=r.hB,N0:=r.N0,fr:=r.fr
   km:=by have:=r.km;cases d<;>exact this}
def AR (P:Program) (g:e6) (k:Wt) (late:List Nat) (l:List Oper) (Q:Exit→DS→Prop) (done:List Nat) (δ:DS):Prop:=
 DC l.toArray (gG l.length done)→∀κ a w,Rel (A3 g k late (gG l.length done)) δ κ a w→nT g.ro P l.toArray (qW g Q) (A6 k late) (l.length - done.length) (gG l.length done) a w
def lV (l:List Oper) (done rs:List Nat):Bool:=Region.ready .any l.toArray (gG l.length done)==rs
variable {k:Wt} {late:List Nat} {l:List Oper} {dn:List Nat} {QD:Exit→DS→Prop}
theorem AR.done (je:g.wt=none) (hr:lV l dn []=true) (h:QD .normal δ):AR P g k late l QD dn δ:=by
 intro _ κ a w r
 have xr:Region.ready .any l.toArray (gG l.length dn)=[]:=by simpa [lV] using hr
 have hp:qW g QD .normal a w:=⟨δ,κ,h,Je je r⟩
 cases l.length - dn.length with
 |zero=>exact⟨xr,hp⟩
 |succ n=>exact⟨fun _=>hp,by rw[xr];simp⟩
theorem AR.all {rs:List Nat} (hl:aY dn.length l.length=true) (hr:lV l dn rs=true) (fZ:rs≠ []) (h:∀i∈rs,∃o,l[i]? =some o∧
  a_ .plain P (A3 g k late (gG l.length (i::dn))) l.toArray [o] (jY (AR P g k late l QD (i::dn))) δ):AR P g k late l QD dn δ:=by
 intro uV κ a w r
 have xr:Region.ready .any l.toArray (gG l.length dn)=rs:=by simpa [lV] using hr
 have WS:dn.length<l.length:=by simpa using hl
 obtain⟨n,hn⟩:∃n,l.length - dn.length=n+1:=⟨l.length - dn.length - 1,by omega⟩
 rw[hn]
 refine⟨fun h0=>absurd (xr▸h0) fZ,fun i hi=>?_⟩
 have kq:=hi
 rw[xr] at hi
 obtain⟨o,ho,hA⟩:=h i hi
 have f_:l.toArray[i]? =some o:=by simpa using ho
 have h1:=hA κ a w (BN i r)
 have Qh:DC l.toArray (gG l.length (i::dn)):=uV.ready kq
 have wW:∀a' w',lift (A3 g k late (gG l.length (i::dn))) (jY (AR P g k late l QD (i::dn))) .normal a' w'→
   A6 k late ((gG l.length dn).setIfInBounds i true) w'∧nT g.ro P l.toArray (qW g QD) (A6 k late) n ((gG l.length dn).setIfInBounds i true) a' w':=by
  rintro a' w' ⟨δ',κ',h2,r2⟩
  refine⟨Oh r2,?_⟩
  have h3:=h2 Qh κ' a' w' r2
  have e1:l.length - (i::dn).length=n:=by simp;omega
  rw[e1] at h3
  exact h3
 have Rn:wpListIn (Fw g.ro) 0 P l.toArray (lift (A3 g k late (gG l.length (i::dn))) (jY (AR P g k late l QD (i::dn)))) [o] a w:=h1
 unfold wpListIn at Rn
 unfold wpOpIn
 simp only[f_]
 have mL:∀e a w,lift (A3 g k late (gG l.length (i::dn))) (jY (AR P g k late l QD (i::dn))) e a w→e=.normal:=by
  rintro e a w ⟨δ',κ',h2,_⟩
  cases e<;>first|rfl|exact h2.elim
 split
 ·rename_i hw
  rw[if_pos hw] at Rn
  obtain⟨h2,h3⟩:=Rn
  refine⟨h2,?_⟩
  revert h3
  generalize (o.semAt (Fw g.ro).round a.eval).run P w=res
  intro h3
  cases res with
  |ok x w'=>
   cases x<;>simp only[Oper.uponIn] at h3 ⊢
   case value u=>exact wW _ _ h3
   case skip=>exact wW _ _ h3
   case defer d=>exact wW _ _ h3
   case enter f args=>
    refine⟨h3.1,CallsIn.mono h3.2 fun e w'' he=>?_⟩
    cases e with
    |returned u=>exact wW _ _ he
    |panicked c=>exact absurd (mL _ _ _ he) (by simp)
    |outgrown=>
     exfalso
     obtain⟨a2,w2,he⟩:=he
     have:=mL _ _ _ he
     cases this
   case row row args=>exact⟨h3.1,RowsIn.mono h3.2 fun u w'' he=>wW _ _ he⟩
   case round l' f tmps assign body=>
    refine⟨h3.1,RoundIn.mono h3.2 fun e w'' he=>?_⟩
    cases e with
    |returned u=>exact wW _ _ he
    |panicked c=>exact absurd (mL _ _ _ he) (by simp)
    |outgrown=>
     exfalso
     obtain⟨a2,w2,he⟩:=he
     have:=mL _ _ _ he
     cases this
  |halt x w'=>
   cases x<;>simp only[Oper.uponIn] at h3 ⊢
   case panic u=>exact absurd (mL _ _ _ h3) (by simp)
 ·rename_i hw
  rw[if_neg hw] at Rn
  exact⟨Rn.1,wW _ _ Rn.2⟩
theorem AR.step1 {i:Nat} {o:Oper} (hl:aY dn.length l.length=true) (hr:lV l dn [i]=true) (ho:l[i]? =some o)
  (h:∀g':e6,Gs g' g→(∀j,k.2.2≤j→g'.nF j)→a_ .plain P g' l.toArray [o] (jY (AR P g k late l QD (i::dn))) δ):AR P g k late l QD dn δ:=
 AR.all hl hr (by simp) fun i' kq=>by
  simp only[cp] at kq
  subst kq
  refine⟨o,ho,h _ ⟨rfl,rfl,rfl⟩ fun j hj k' lO=>?_⟩
  have:(if gW late (gG l.length (i'::dn))=true then none else some k)=some k':=lO
  split at this
  ·cases this
  ·cases this;exact hj
theorem AR.vW {i:Nat} {o:Oper} (hl:aY dn.length l.length=true) (hr:lV l dn [i]=true) (ho:l[i]? =some o) (fx:gW late (gG l.length (i::dn))=true)
  (h:∀g':e6,Gs g' g→g'.wt=none→a_ .plain P g' l.toArray [o] (jY (AR P g k late l QD (i::dn))) δ):AR P g k late l QD dn δ:=
 AR.all hl hr (by simp) fun i' kq=>by
  simp only[cp] at kq
  subst kq
  exact⟨o,ho,h _ ⟨rfl,rfl,rfl⟩ (if_pos fx)⟩
theorem AR.step2 {i j:Nat} {o p:Oper} (hl:aY dn.length l.length=true) (hr:lV l dn [i,j]=true) (ho:l[i]? =some o) (hp:l[j]? =some p)
  (h:∀g':e6,Gs g' g→(∀j,k.2.2≤j→g'.nF j)→a_ .plain P g' l.toArray [o] (jY (AR P g k late l QD (i::dn))) δ)
  (h':∀g':e6,Gs g' g→(∀j,k.2.2≤j→g'.nF j)→a_ .plain P g' l.toArray [p] (jY (AR P g k late l QD (j::dn))) δ):AR P g k late l QD dn δ:=
 AR.all hl hr (by simp) fun i' kq=>by
  have hw:∀i',∀j,k.2.2≤j→(A3 g k late (gG l.length (i'::dn))).nF j:=by
   intro i' j hj k' lO
   have:(if gW late (gG l.length (i'::dn))=true then none else some k)=some k':=lO
   split at this
   ·cases this
   ·cases this;exact hj
  simp only[bu,cw,or_false] at kq
  rcases kq with rfl|rfl
  ·exact⟨o,ho,h _ ⟨rfl,rfl,rfl⟩ (hw _)⟩
  ·exact⟨p,hp,h' _ ⟨rfl,rfl,rfl⟩ (hw _)⟩
def fO (P:Program) (o:Oper) (δ:DS) (v:AV):Prop:=∀(g:e6) κ a w,Rel g δ κ a w→∃u,(∀w',(execOp a.eval o).run P w'=.ok (.value u) w')∧RA (δ.cx g κ) w u v
def wc (l:List Oper) (late dn:List Nat) (i:Nat):Bool:=
 Region.noSelect l.toArray && l.all jP && (Region.ready .any l.toArray (gG l.length dn)).contains i && Region.free .any l.toArray (gG l.length dn) i && !late.contains i && aY dn.length l.length
theorem AR.free (i:Nat) {o:Oper} {v:AV} (hB:wc l late dn i=true) (ho:l[i]? =some o) (hg:o.guard=none) (hd:fR δ.n o.dst=true) (hF:fO P o δ v) (h:AR P g k late l QD (i::dn) (δ.eY o.dst v)):AR P g k late l QD dn δ:=by
 intro uV κ a w r
 simp only[wc,aZ,cy] at hB
 obtain⟨⟨⟨⟨⟨hs,jy⟩,hr⟩,hf⟩,TU⟩,hl⟩:=hB
 have WS:dn.length<l.length:=by simpa using hl
 obtain⟨n,hn⟩:∃n,l.length - dn.length=n+1:=⟨l.length - dn.length - 1,by omega⟩
 obtain⟨u,hu,uZ⟩:=hF _ κ a w r
 have xr:i∈Region.ready .any l.toArray (gG l.length dn):=by simpa using hr
 have f_:l.toArray[i]? =some o:=by simpa using ho
 have Qh:DC l.toArray (gG l.length (i::dn)):=uV.ready xr
 have r2:Rel (A3 g k late (gG l.length (i::dn))) (δ.eY o.dst v) κ (a.put o.dst u) w:=(BN i r).eY (fv hd) uZ
 have h2:=h Qh κ _ w r2
 have e1:l.length - (i::dn).length=n:=by simp;omega
 rw[e1] at h2
 rw[hn]
 refine sQ (C:=fun _=>True) f_ (Region.noSelect_spec hs) (fun j o hj=>?_) (fun c a w h=>yR h) (fun _ _ _ _ _=>trivial) (fun listed w=>?_) n _ a w uV (Region.free_spec f_ hf) xr (.inl ⟨by simp [Region.wanted,hg],fun w' _=>hu w'⟩) (Oh r) h2
 ·exact(bC.1 jy) o (aU (by simpa using hj))
 ·unfold A6;rw[we TU]
def oR (ops:Array Oper) (i:Nat):Nat→Nat→Bool
 |0,_=>false
 |n+1,j=>match ops[j]? with
  |some o=>o.after.any fun e=>Region.binds .any e && (e.on==i||oR ops i n e.on)
  |none=>false
theorem Cd {ops:Array Oper} {i:Nat} {listed:Array Bool} (uV:DC ops listed):∀n j,oR ops i n j=true→listed.getD j false=true→listed.getD i false=true:=by
 intro n
 induction n with
 |zero=>intro j h;simp [oR] at h
 |succ n ih=>
  intro j h hj
  unfold oR at h
  cases ho:ops[j]? with
  |none=>rw[ho] at h;cases h
  |some o=>
   rw[ho] at h
   simp only at h
   obtain⟨e,he,hb⟩:=Array.any_eq_true'.1 h
   simp only[aZ,Bool.or_eq_true,beq_iff_eq] at hb
   have h1:=uV j o ho hj e he hb.1
   rcases hb.2 with h2|h2
   ·rw[← h2];exact h1
   ·exact ih _ h2 h1
def tW (l:List Oper) (late:List Nat):List Nat→List Nat→Bool
 |[],_=>true
 |i::r,dn=>wc l late dn i && late.all (oR l.toArray i l.length) && tW l late r (i::dn)
def pick (l:List Oper) (is:List Nat):List Oper:=is.filterMap (l[·]?)
theorem K_ {κ1:Kp} {w1:World} {k:Wt} {δ0:DS} (Dc:k.1=w1) (sd:k.2.1=fun b=>b<w1.heap.size∧((∀i,δ0.lr i→κ1 i≠some b)∧¬κ1.Fs b)) {post:Act→Prop} {N:Nat}:
  ∀(l1 dn:List Nat) (a:Act),tW l late l1 dn=true→DC l.toArray (gG l.length dn)→A6 k late (gG l.length dn) w1→xd P l.toArray (kX δ0 κ1 w1) post (pick l l1) a→
   (∀a',post a'→DC l.toArray (gG l.length (l1.reverse++dn))→nT ro P l.toArray (qW g QD) (A6 k late) N (gG l.length (l1.reverse++dn)) a' w1)→nT ro P l.toArray (qW g QD) (A6 k late) (l1.length+N) (gG l.length dn) a w1:=by
 intro l1
 induction l1 with
 |nil=>intro dn a _ uV _ h hp;simpa using hp a h uV
 |cons i r ih=>
  intro dn a hB uV hS h hp
  simp only[tW,wc,aZ,cy] at hB
  obtain⟨⟨⟨⟨⟨⟨⟨hs,jy⟩,hr⟩,hf⟩,TU⟩,hl⟩,Sc⟩,S_⟩:=hB
  have xr:i∈Region.ready .any l.toArray (gG l.length dn):=by simpa using hr
  obtain⟨_,o,f_,_⟩:=mem_ready.1 xr
  have ho:l[i]? =some o:=by simpa using f_
  have hpk:pick l (i::r)=o::pick l r:=by simp [pick,ho]
  rw[hpk] at h
  obtain⟨v,hy,h⟩:=h
  have mB:∀listed w,A6 k late (listed.setIfInBounds i true) w↔A6 k late listed w:=fun listed w=>by unfold A6;rw[we TU]
  have Wu:(i::r).length+N=(r.length+N)+1:=by simp;omega
  rw[Wu]
  refine sQ (C:=kX δ0 κ1 w1) f_ (Region.noSelect_spec hs) (fun j o hj=>?_) (fun c a w h=>yR h) (fun listed w hd hi hSl=>?_) mB _ _ a w1 uV (Region.free_spec f_ hf) xr hy hS ?_
  ·exact(bC.1 jy) o (aU (by simpa using hj))
  ·have mL:gW late listed=false:=by
    unfold gW
    rw[List.any_eq_false]
    intro j hj nZ
    have h1:=Cd hd _ _ ((bC.1 Sc) j hj) nZ
    rcases cu i listed.size with h'|h'
    ·simp [h'] at hi h1;rw[hi] at h1;cases h1
    ·simp [cv h'] at h1
   have h2:=hSl mL
   rw[Dc,sd] at h2
   exact fun b hb hn=>(h2 b ⟨hb,hn⟩).2
  ·have:=ih (i::dn) (a.put o.dst v) S_ (uV.ready xr) ((mB _ _).2 hS) h
   refine this fun a' LS uT=>?_
   have e:(i::r).reverse++dn=r.reverse++i::dn:=by simp
   rw[← e]
   exact hp a' LS (by rw[e];exact uT)
theorem DC.start (l:List Oper):DC l.toArray (gG l.length []):=by
 intro j o _ hj
 have:(b9 l.length false).getD j false=true:=hj
 simp [Array.getElem?_replicate] at this
 split at this<;>cases this
theorem AW.zM {id:Nat} (l1:List Nat) (late:List Nat) {l:List Oper} (hm:P.follows .mixedOrders=true) (je:g.wt=none) (hB:tW l late l1 []=true) (hle:bx l1.length l.length=true)
  (h:a_ .held P g l.toArray (pick l l1) (jY fun δ'=>∀k:Wt,k.2.2=δ.nx→AR P g k late l QD l1.reverse δ') δ):AW P g (.region id l.toArray true) QD δ:=by
 intro κ a w r
 have GZ:l1.length≤l.length:=by simpa using hle
 have r1:Rel g δ κ a {w with drawn:=w.drawn+1}:=r.ext (Below.drew (Below.refl _ _))
 have h1:=h κ a _ r1
 obtain⟨k,hk⟩:∃k:Wt,k=({w with drawn:=w.drawn+1},(fun b=>b<w.heap.size∧((∀i,δ.lr i→κ i≠some b)∧¬κ.Fs b)),δ.nx):=⟨_,rfl⟩
 refine wpIn_mono (Q:=qW g QD) (wpIn_region_any hm (vX (S:=A6 k late) _ _ _ _ ?_)) (fun e a w h=>by
  cases e with
  |normal=>exact h
  |panic c=>
   obtain⟨δ',κ',h1,_,r'⟩:=h
   have e:({g with wt:=none}:e6)=g:=by cases g;cases je;rfl
   rw[e] at r'
   exact⟨δ',κ',h1,r'⟩
  |_=>exact h.elim)
 have nU:A6 k late (gG l.length []) {w with drawn:=w.drawn+1}:=fun _ b hb=>by subst hk;exact⟨hb.1,rfl⟩
 have h2:=K_ (ro:=g.ro) (g:=g) (QD:=QD) (late:=late) (l:=l) (P:=P) (δ0:=δ) (κ1:=κ) (w1:={w with drawn:=w.drawn+1}) (k:=k) (by rw[hk]) (by rw[hk]) (N:=l.length - l1.length) l1 [] a hB (DC.start l) nU h1 (fun a' LS uT=>by
  obtain⟨δ',hq,Gb,r2⟩:=LS
  have h3:=hq k (by rw[hk]) (by simpa using uT) κ a' {w with drawn:=w.drawn+1} (by
   have js:∀i,δ'.ob i=δ.ob i:=fun i=>by unfold DS.ob;rw[Gb]
   refine Rel.NZ r2 (wt':=if gW late (gG l.length l1.reverse)=true then none else some k) (fun k' lO=>?_) (fun k' lO b hb xT=>?_)
   rotate_left
   ·split at lO
    ·cases lO
    ·cases lO
     subst hk
     exact xT.2.2 hb
   split at lO
   ·cases lO
   ·cases lO
    subst hk
    refine⟨fun b hb=>⟨hb.1,rfl⟩,fun i b yz v7 hκ hb=>?_⟩
    rcases v7 with v7|v7
    ·exact hb.2.1 i (by have:δ'.ob i=some .row:=v7;rw[js] at this;exact this) hκ
    ·obtain⟨o,yz⟩:=yz
     rw[js] at yz
     exact absurd (r.nx i ⟨o,yz⟩) (Nat.not_lt.2 v7))
  simpa using h3)
 have e:l1.length+(l.length - l1.length)=l.toArray.size:=by simp;omega
 rw[e] at h2
 have e2:gG l.length []=b9 l.toArray.size false:=by simp [gG]
 rw[e2] at h2
 exact h2
end Go.Ab
/- Maps with whole numbers as keys:read,grown,written. -/
namespace Go.Ab
open Go Go.RowKit
variable {q:Md} {P:Program} {g:e6} {δ:DS} {κ:Kp} {a:Act} {w:World}
variable {gd:Option (Tmp×Bool)} {ops:Array Oper} {rest:List Oper} {Q:Exit→DS→Prop} {dst:Option Nat} {ty:TypeId} {pos:String} {af:Array Edge}
def j2:List (Int×AV)→Int→Option AV
 |[],_=>none
 |(k,v)::l,m=>if m=k then some v else j2 l m
def j9 (l:List (Int×AV)):List (Value×AV):=l.map fun p=>(.int .i64 p.1,p.2)
def l6 (xs:List Int):List (Int×AV):=xs.map fun x=>(x,fu true)
theorem yB (xs:List Int) (m:Int):j2 (l6 xs) m=if m∈xs then some (fu true) else none:=by
 induction xs with
 |nil=>rfl
 |cons x xs ih=>
  show(if m=x then some (fu true) else j2 (l6 xs) m)=_
  by_cases h:m=x
  ·simp [h]
  ·simp [h,ih]
theorem oQ {C:Cx} {w:World} (m:Int):∀(es:List MapEntry) (l:List (Int×AV)) (i:Nat),es.length=l.length→
  (∀(j:Nat) (e:MapEntry) (p:Int×AV),es[j]? =some e→l[j]? =some p→e.key=.int .i64 p.1∧RA C w e.val p.2)→
  (j2 l m=none∧Instr.findNow (.int .i64) (.int .i64 m) es i=some none)∨
  (∃(j:Nat) (e:MapEntry) (v:AV),j2 l m=some v∧Instr.findNow (.int .i64) (.int .i64 m) es i=some (some (i+j,e.val))∧es[j]? =some e∧l[j]? =some (m,v)∧RA C w e.val v):=by
 intro es
 induction es with
 |nil=>intro l i hs _;have:l=[]:=bj hs.symm;subst this;exact .inl ⟨rfl,rfl⟩
 |cons e es ih=>
  intro l i hs h
  cases l with
  |nil=>simp at hs
  |cons p l=>
   obtain⟨k,v⟩:=p
   have h0:=h 0 e (k,v) rfl rfl
   by_cases hk:m=k
   ·subst hk
    refine .inr ⟨0,e,v,by simp [j2],?_,rfl,rfl,h0.2⟩
    simp [Instr.findNow,h0.1,Instr.sameNow]
   ·have hf:Instr.findNow (.int .i64) (.int .i64 m) (e::es) i=Instr.findNow (.int .i64) (.int .i64 m) es (i+1):=by
     have hb:(m==k)=false:=by simp [hk]
     simp [Instr.findNow,h0.1,Instr.sameNow,hb]
    rcases ih l (i+1) (by simpa using hs) (fun j e p h1 h2=>h (j+1) e p (by simpa using h1) (by simpa using h2)) with ⟨h1,h2⟩|⟨j,e',v',h1,h2,h3,h4,h5⟩
    ·exact .inl ⟨by simp [j2,hk,h1],hf.trans h2⟩
    ·exact .inr ⟨j+1,e',v',by simp [j2,hk,h1],by rw[hf,h2];simp;omega,by simpa using h3,by simpa using h4,h5⟩
theorem Rel.UO (r:Rel g δ κ a w) {u:Value} {i:Nat} {l:List (Value×AV)} (h:RA (δ.cx g κ) w u (.gz i)) (ho:δ.ob i=some (.mp l)):
  ∃b es clock,u=.map (some b)∧κ i=some b∧w.heap[b]? =some (.map es clock)∧mr (δ.cx g κ) w es l∧pO es clock∧∀p∈l,p.2.kD=true:=by
 cases h with
 | @gz _ b hl hκ=>
  obtain⟨b',es,clock,h1,h2,h3,h4⟩:=r.obj i _ ho
  have:b'=b:=Option.some.inj (h1.symm.trans hκ)
  subst this
  exact⟨b',es,clock,rfl,h1,h2,h3,h4⟩
theorem mr.j9 {C:Cx} {w:World} {es:Array MapEntry} {l:List (Int×AV)} (h:mr C w es (j9 l)):
  es.toList.length=l.length∧∀(j:Nat) (e:MapEntry) (p:Int×AV),es.toList[j]? =some e→l[j]? =some p→e.key=.int .i64 p.1∧RA C w e.val p.2:=by
 refine⟨by simpa [Ab.j9] using h.1,fun j e p h1 h2=>?_⟩
 exact h.2 j e (.int .i64 p.1,p.2) (by simpa using h1) (by simp [Ab.j9,h2])
theorem nP {kt:TypeId} {es:Array MapEntry} {m:Int} {x:Option (Nat×Value)} (hk:P.underlying kt=some (.int .i64)) (h:Instr.findNow (.int .i64) (.int .i64 m) es.toList 0=some x) (w:World):(Instr.findKey kt (.int .i64 m) es.toList).run P w=.ok x w:=MapKept.run_findKey hk h
theorem oU {t kt et:TypeId} {b:Nat} {es:Array MapEntry} {clock:Nat} {m:Int} {z:Value} {x:Option (Nat×Value)} {w:World} (ht:P.underlying t=some (.map kt et)) (hk:P.underlying kt=some (.int .i64)) (hz:(P.info? et).bind (·.zero)=some z)
  (hb:w.heap[b]? =some (.map es clock)) (h:Instr.findNow (.int .i64) (.int .i64 m) es.toList 0=some x) (ok:Bool):
  (Instr.lookup t (.map (some b)) (.int .i64 m) ok).run P w=.ok (if ok then .tuple #[(x.map (·.2)).getD z,.bool x.isSome] else (x.map (·.2)).getD z) w:=by
 have C7:∀w,(zeroValue et).run P w=.ok z w:=fun w=>by
  cases hi:P.info? et with
  |none=>rw[hi] at hz;simp at hz
  |some i=>rw[hi] at hz;simp at hz;simp [zeroValue,typeInfo,hi,hz]
 have Nz:∀e,(Instr.checkKey e (9999+1) kt (.int .i64 m)).run P w=.ok () w:=fun e=>MapKept.run_checkKey hk (by simp [MapKept.IsKey]) e 9999
 cases x with
 |none=>simp [Instr.lookup,run_underlying ht,MapKept.run_getObj_map hb,Nz,nP hk h,C7]
 |some p=>simp [Instr.lookup,run_underlying ht,MapKept.run_getObj_map hb,Nz,nP hk h]
theorem a_.lookup {x y:Operand} {t kt et:TypeId} {i:Nat} {l:List (Int×AV)} {m:Int} {z:Value} {v:AV} (hx:δ.ev x=.gz i) (js:δ.ob i=some (.mp (j9 l))) (hy:δ.ev y=e7 m) (ht:P.underlying t=some (.map kt et)) (hk:P.underlying kt=some (.int .i64)) (hz:(P.info? et).bind (·.zero)=some z)
  (hv:(j2 l m).getD (.pv (.lit z))=v) (ho:fq x=true) (f_:fq y=true) (hd:fR δ.n dst=true) (hK:a_ q P g ops rest Q (δ.eY dst v)):a_ q P g ops (⟨dst,.lookup t x y false,ty,pos,af,none⟩::rest) Q δ:=
 a_.iR _ hd (fun κ a w r=>by
  obtain⟨b,es,clock,h1,h2,h3,h4,h5,Gm⟩:=r.UO (r.ra hx ho) js
  obtain⟨h6,h7⟩:=h4.j9
  have hb:∀w',kX δ κ w w'→w'.heap[b]? =some (.map es clock):=fun w' j5=>(j5 b (iJ h3) (r.Ao ⟨_,js,rfl⟩ h2)).trans h3
  subst hv
  rcases oQ m es.toList l 0 h6 h7 with ⟨h8,h9⟩|⟨j,e,v',h8,h9,xx,Ia,Rl⟩
  ·refine⟨z,fun w' j5=>?_,by rw[h8];exact .pv (.lit _)⟩
   have:=oU ht hk hz (hb w' j5) h9 false
   simp [execOp,r.lit hy f_,h1,this]
  ·refine⟨e.val,fun w' j5=>?_,by rw[h8];exact Rl⟩
   have:=oU ht hk hz (hb w' j5) h9 false
   simp [execOp,r.lit hy f_,h1,this]) hK
theorem a_.rY {x y:Operand} {t kt et:TypeId} {i:Nat} {xs:List Int} {m:Int} (hx:δ.ev x=.gz i) (js:δ.ob i=some (.mp (j9 (l6 xs)))) (hy:δ.ev y=e7 m) (ht:P.underlying t=some (.map kt et)) (hk:P.underlying kt=some (.int .i64)) (hz:(P.info? et).bind (·.zero)=some (.bool false))
  (ho:fq x=true) (f_:fq y=true) (hd:fR δ.n dst=true) (hK:a_ q P g ops rest Q (δ.eY dst (fu (decide (m∈xs))))):a_ q P g ops (⟨dst,.lookup t x y false,ty,pos,af,none⟩::rest) Q δ:=
 a_.lookup hx js hy ht hk hz (by rw[yB];by_cases h:m∈xs<;>simp [h]) ho f_ hd hK
theorem iQ.makeMap {t:TypeId} (hd:fR δ.n dst=true):iQ P g ⟨dst,.makeMap t none,ty,pos,af,gd⟩ δ ((δ.fN (.mp (j9 []))).eY dst (.gz δ.nx)):=by
 intro κ a w r
 have fw:(execOp a.eval ⟨dst,.makeMap t none,ty,pos,af,gd⟩).run P w=.ok (.value (.map (some w.heap.size))) (w.alloc (.map #[] 0)):=by
  have h0:(Instr.makeMap t none).run P w=.ok (.map (some w.heap.size)) (w.alloc (.map #[] 0)):=rfl
  simp [execOp,h0]
 obtain⟨r',G⟩:=r.grow (.mp (j9 [])) (.map #[] 0) (fun C G hκ=>⟨w.heap.size, #[],0,hκ,heap_alloc_new w _,⟨rfl,fun j e p h=>by simp at h⟩,⟨rfl,fun j e h=>by simp at h⟩,fun p h=>by simp [j9] at h⟩)
 refine .inl ⟨_,_,_,_,fw,.inl rfl,r'.eY (fv hd) ?_⟩
 exact .gz ⟨_,by show(δ.fN _).ob _=_;rw[fY,if_pos rfl],rfl⟩ (by show gT _ _ _ _=_;simp [gT])
theorem a_.makeMap {t:TypeId} (hd:fR δ.n dst=true) (hK:a_ .plain P g ops rest Q ((δ.fN (.mp (j9 []))).eY dst (.gz δ.nx))):a_ .plain P g ops (⟨dst,.makeMap t none,ty,pos,af,none⟩::rest) Q δ:=a_.qA rfl rfl (iQ.makeMap hd) hK
theorem iw.vt (w:World) (b:Nat) (o:Obj):iw w {w with heap:=w.heap.setIfInBounds b o} (some b):=
 ⟨rfl,rfl,rfl,by simp,fun k _ h=>by
  show(w.heap.setIfInBounds b o)[k]? =_
  rw[aS,if_neg (fun e=>h (by rw[e]))]⟩
theorem mM {w:World} {b:Nat} {o o':Obj} (h:w.heap[b]? =some o):({w with heap:=w.heap.setIfInBounds b o'}:World).heap[b]? =some o':=(MapKept.heap_set h).1
theorem jS (l l':List (Int×AV)):j9 (l++l')=j9 l++j9 l':=by simp [j9]
theorem mr.push {C:Cx} {w:World} {es:Array MapEntry} {l:List (Int×AV)} {clock:Nat} (h:mr C w es (Ab.j9 l)) (hs:pO es clock) (m:Int) {u:Value} {v:AV} (hu:RA C w u v):
  mr C w (es.push {key:=.int .i64 m,val:=u,born:=clock}) (Ab.j9 (l++ [(m,v)]))∧pO (es.push {key:=.int .i64 m,val:=u,born:=clock}) (clock+1):=by
 have ny:es.size=(Ab.j9 l).length:=h.1
 refine⟨⟨by rw[jS];simp [ny,Ab.j9],fun j e p h1 h2=>?_⟩,by simp [hs.1],fun j e h1=>?_⟩
 ·rw[jS] at h2
  rw[cz] at h1
  by_cases hj:j=es.size
  ·rw[if_pos hj] at h1
   cases h1
   rw[aV aJ,hj,ny] at h2
   simp [Ab.j9] at h2
   subst h2
   exact⟨rfl,hu⟩
  ·rw[if_neg hj] at h1
   have fx:j<es.size:=(aO.1 h1).1
   rw[aT aJ] at h2
   exact h.2 j e p h1 h2
 ·rw[cz] at h1
  by_cases hj:j=es.size
  ·rw[if_pos hj] at h1;cases h1;rw[hs.1,hj]
  ·rw[if_neg hj] at h1;exact hs.2 j e h1
theorem iQ.oN {x y:Operand} {t kt et:TypeId} {i:Nat} {l:List (Int×AV)} {m:Int} {z:Value} (hx:δ.ev x=.gz i) (js:δ.ob i=some (.mp (j9 l))) (hy:δ.ev y=e7 m) (hn:j2 l m=none) (ht:P.underlying t=some (.map kt et)) (hk:P.underlying kt=some (.int .i64)) (hz:(P.info? et).bind (·.zero)=some z)
  (ho:fq x=true) (f_:fq y=true) (hd:fR δ.n dst=true) (Es:g.nF i):
  iQ P g ⟨dst,.mapEntry t x y,ty,pos,af,gd⟩ δ ((δ.gm i (some (.mp (j9 (l++ [(m,.pv (.lit z))]))))).eY dst (.gM [.pv (.lit z),e7 l.length])):=by
 intro κ a w r
 obtain⟨b,es,clock,h1,h2,h3,h4,h5,Gm⟩:=r.UO (r.ra hx ho) js
 obtain⟨h6,h7⟩:=h4.j9
 have C7:∀w,(zeroValue et).run P w=.ok z w:=fun w=>by
  cases hi:P.info? et with
  |none=>rw[hi] at hz;simp at hz
  |some i=>rw[hi] at hz;simp at hz;simp [zeroValue,typeInfo,hi,hz]
 have Nz:∀e,(Instr.checkKey e (9999+1) kt (.int .i64 m)).run P w=.ok () w:=fun e=>MapKept.run_checkKey hk (by simp [MapKept.IsKey]) e 9999
 have hf:Instr.findNow (.int .i64) (.int .i64 m) es.toList 0=some none:=by
  rcases oQ m es.toList l 0 h6 h7 with ⟨h8,h9⟩|⟨j,e,v',h8,h9,xx,Ia,Rl⟩
  ·exact h9
  ·rw[hn] at h8;cases h8
 have fw:(execOp a.eval ⟨dst,.mapEntry t x y,ty,pos,af,gd⟩).run P w=.ok (.value (.tuple #[z,.int .i64 clock])) {w with heap:=w.heap.setIfInBounds b (.map (es.push {key:=.int .i64 m,val:=z,born:=clock}) (clock+1))}:=by
  simp [execOp,r.lit hy f_,h1,Instr.mapEntry,run_underlying ht,MapKept.run_getObj_map h3,Nz,nP hk hf,C7,MapKept.run_setObj_map _ h3,goInt]
 have jq:(clock:Int)=(l.length:Int):=by
  have:es.size=l.length:=by simpa using h6
  rw[h5.1,this]
 obtain⟨r',G⟩:=r.modify (o':=.mp (j9 (l++ [(m,.pv (.lit z))]))) js rfl rfl h2 Es (iw.vt w b (.map (es.push {key:=.int .i64 m,val:=z,born:=clock}) (clock+1))) (by simp) (fun C hC G=>by
  have h8:mr C {w with heap:=w.heap.setIfInBounds b (.map (es.push {key:=.int .i64 m,val:=z,born:=clock}) (clock+1))} es (j9 l):=h4.goes G
  obtain⟨h9,xx⟩:=h8.push h5 m (u:=z) (v:=.pv (.lit z)) (.pv (.lit _))
  exact⟨b,_,_,by rw[hC];exact h2,mM h3,h9,xx,fun p hp=>by
   rw[jS] at hp
   rcases bW.1 hp with hp|hp
   ·exact Gm p hp
   ·simp [j9] at hp;subst hp;rfl⟩)
 refine .inl ⟨_,_,_,_,fw,.inl rfl,r'.eY (fv hd) ?_⟩
 exact Dx (.pv (.lit _)) (by rw[jq];exact .pv (.lit _))
theorem iQ.vl {x y s:Operand} {t:TypeId} {i n:Nat} {l:List (Int×AV)} {m:Int} {v0 v:AV} (hx:δ.ev x=.gz i) (js:δ.ob i=some (.mp (j9 (l++ [(m,v0)])))) (hs:δ.ev s=e7 n) (hn:n=l.length) (hy:δ.ev y=v) (NX:v.kD=true)
  (ho:fq x=true) (sz:fq s=true) (f_:fq y=true) (hd:fR δ.n dst=true) (Es:g.nF i):
  iQ P g ⟨dst,.entryStore t x s y,ty,pos,af,gd⟩ δ ((δ.gm i (some (.mp (j9 (l++ [(m,v)]))))).eY dst .any):=by
 intro κ a w r
 subst hn
 obtain⟨b,es,clock,h1,h2,h3,h4,h5,Gm⟩:=r.UO (r.ra hx ho) js
 have uM:=r.ra hy f_
 have ny:es.size=l.length+1:=by have:=h4.1;simpa [j9] using this
 have Mw:es.findIdx? (fun e=>(e.born:Int)==(l.length:Int))=some l.length:=by
  rw[Array.findIdx?_eq_some_iff_getElem]
  refine⟨by omega,?_,fun j hj=>?_⟩
  ·have:=h5.2 l.length es[l.length] (aN aJ)
   simp [this]
  ·have:=h5.2 j es[j] (aN aJ)
   simp only[this]
   simp
   omega
 have fw:(execOp a.eval ⟨dst,.entryStore t x s y,ty,pos,af,gd⟩).run P w=.ok .skip {w with heap:=w.heap.setIfInBounds b (.map (es.modify l.length fun e=>{e with val:=a.eval y}) clock)}:=by
  have hai:∀w,(asInt (.int .i64 (l.length:Int))).run P w=.ok (l.length:Int) w:=fun _=>rfl
  simp only[execOp,r.lit hs sz,h1,Instr.entryStore,Sem.run_bind,MapKept.run_getObj_map h3,Result.andThen_ok,hai,Mw,MapKept.run_setObj_map _ h3,Sem.run_pure]
 obtain⟨r',G⟩:=r.modify (o':=.mp (j9 (l++ [(m,v)]))) js rfl rfl h2 Es (iw.vt w b (.map (es.modify l.length fun e=>{e with val:=a.eval y}) clock)) (by simp) (fun C hC G=>by
  refine⟨b,_,_,by rw[hC];exact h2,mM h3,⟨by simp [j9,ny],fun j e p h8 h9=>?_⟩,⟨by simp [h5.1],fun j e h8=>?_⟩,fun p hp=>?_⟩
  ·rw[cA] at h8
   rw[jS] at h9
   by_cases hj:l.length=j
   ·rw[if_pos hj] at h8
    subst hj
    rw[bg] at h8
    obtain⟨e0,h8,rfl⟩:=h8
    rw[aV (by simp [j9])] at h9
    simp [j9] at h9
    subst h9
    refine⟨?_,G.ra uM⟩
    exact(h4.2 l.length e0 (.int .i64 m,v0) h8 (by rw[jS,aV (by simp [j9])];simp [j9])).1
   ·rw[if_neg hj] at h8
    have fx:j<l.length:=by have:=(aO.1 h8).1;omega
    rw[aT (by simpa [j9] using fx)] at h9
    obtain⟨xx,Ia⟩:=h4.2 j e p h8 (by rw[jS,aT (by simpa [j9] using fx)];exact h9)
    exact⟨xx,G.ra Ia⟩
  ·rw[cA] at h8
   by_cases hj:l.length=j
   ·rw[if_pos hj] at h8
    rw[bg] at h8
    obtain⟨e0,h8,rfl⟩:=h8
    exact h5.2 j e0 h8
   ·rw[if_neg hj] at h8;exact h5.2 j e h8
  ·rw[jS] at hp
   rcases bW.1 hp with hp|hp
   ·exact Gm p (by rw[jS];exact bW.2 (.inl hp))
   ·simp [j9] at hp;subst hp;exact NX)
 exact .inl ⟨_,_,_,_,fw,.inr ⟨rfl,rfl⟩,r'.eY (fv hd) (.any _)⟩
theorem Co (xs:List Int) (m:Int):l6 (xs++ [m])=l6 xs++ [(m,fu true)]:=by simp [l6]
end Go.Ab
namespace Go.Ab
section
variable {q:Md} {P:Program} {g:e6} {δ:DS} {ops:Array Oper} {rest:List Oper} {Q:Exit→DS→Prop} {dst:Option Nat} {ty:TypeId} {pos:String} {af:Array Edge}
theorem a_.ng {fn:Go.Fn} {x:Operand} {i o:Nat} (hx:δ.ev x=.ptr i o) (ho:fq x=true) (hd:fR δ.n dst=true) (hK:a_ q P g ops rest Q (δ.eY dst (.jJ fn [] [.ptr i o]))):a_ q P g ops (⟨dst,.makeFunc fn #[] #[x],ty,pos,af,none⟩::rest) Q δ:=
 a_.iR _ hd (fun κ a w r=>⟨.func fn #[] #[a.eval x],fun w' _=>by simp [execOp,Instr.makeFunc],.jJ rfl (fun j u c h=>by simp at h) rfl (fun j u c h1 h2=>by
  match j with
  |0=>simp at h1 h2;subst h1;subst h2;exact r.ra hx ho
  |j+1=>simp at h2)⟩) hK
theorem a_.wE {fn:Go.Fn} {x:Operand} {i o:Nat} (hx:δ.ev x=.ptr i o) (ho:fq x=true) (hd:fR δ.n dst=true) (hK:a_ q P g ops rest Q (δ.eY dst (.jJ fn [.ptr i o] []))):a_ q P g ops (⟨dst,.makeFunc fn #[x] #[],ty,pos,af,none⟩::rest) Q δ:=
 a_.iR _ hd (fun κ a w r=>⟨.func fn #[a.eval x] #[],fun w' _=>by simp [execOp,Instr.makeFunc],.jJ rfl (fun j u c h1 h2=>by
  match j with
  |0=>simp at h1 h2;subst h1;subst h2;exact r.ra hx ho
  |j+1=>simp at h2) rfl (fun j u c h=>by simp at h)⟩) hK
theorem a_.jA {x:Operand} {fn:Go.Fn} {a b:List AV} (hx:δ.ev x=.jJ fn a b) (ho:fq x=true) (hd:fR δ.n dst=true) (hK:a_ q P g ops rest Q (δ.eY dst (.jJ fn a b))):a_ q P g ops (⟨dst,.move x,ty,pos,af,none⟩::rest) Q δ:=a_.move hx ho hd hK
end
end Go.Ab
namespace Go.Ab
section
variable {P:Program} {δ:DS} {dst:Option Nat} {ty:TypeId} {pos:String} {af:Array Edge} {gd:Option (Tmp×Bool)}
theorem fO.iu {x:Operand} {p:PV} (hx:δ.ev x=.pv p) (ho:fq x=true):fO P ⟨dst,.move x,ty,pos,af,gd⟩ δ (.pv p):=fun _ _ a _ r=>⟨a.eval x,fun _=>rfl,hx▸r.EY x (iV ho)⟩
theorem fO.fC {x:Operand} {i o:Nat} (hx:δ.ev x=.ptr i o) (ho:fq x=true):fO P ⟨dst,.move x,ty,pos,af,gd⟩ δ (.ptr i o):=fun _ _ a _ r=>⟨a.eval x,fun _=>rfl,hx▸r.EY x (iV ho)⟩
theorem fO.nilCheck {x:Operand} {i o:Nat} (hx:δ.ev x=.ptr i o) (ho:fq x=true):fO P ⟨dst,.nilCheck x,ty,pos,af,gd⟩ δ (.ptr i o):=fun _ _ a _ r=>by
 have h1:=r.ra hx ho
 generalize hu:a.eval x=u at h1
 cases h1 with
 |ptr hl hκ=>exact⟨_,fun w'=>by simp [execOp,hu],.ptr hl hκ⟩
end
section
variable {P:Program} {g:e6} {δ:DS} {ops:Array Oper} {rest:List Oper} {Q:Exit→DS→Prop} {dst:Option Nat} {ty:TypeId} {pos:String} {af:Array Edge}
theorem a_.oN {x y:Operand} {t kt et:TypeId} {i:Nat} {xs:List Int} {m:Int} (hx:δ.ev x=.gz i) (js:δ.ob i=some (.mp (j9 (l6 xs)))) (hy:δ.ev y=e7 m) (ht:P.underlying t=some (.map kt et)) (hk:P.underlying kt=some (.int .i64)) (hz:(P.info? et).bind (·.zero)=some (.bool false))
  (ho:fq x=true) (f_:fq y=true) (hd:fR δ.n dst=true) (je:g.wt=none) (hn:m∉xs)
  (hK:a_ .plain P g ops rest Q ((δ.gm i (some (.mp (j9 (l6 xs++ [(m,fu false)]))))).eY dst (.gM [fu false,e7 xs.length]))):a_ .plain P g ops (⟨dst,.mapEntry t x y,ty,pos,af,none⟩::rest) Q δ:=
 a_.qA rfl rfl (iQ.oN hx js hy (by rw[yB,if_neg hn]) ht hk hz ho f_ hd (j4 je i)) (by simpa [l6] using hK)
theorem a_.wP {x y s:Operand} {t:TypeId} {i:Nat} {xs:List Int} {m:Int} (hx:δ.ev x=.gz i) (js:δ.ob i=some (.mp (j9 (l6 xs++ [(m,fu false)])))) (hs:δ.ev s=e7 xs.length) (hy:δ.ev y=fu true)
  (ho:fq x=true) (sz:fq s=true) (f_:fq y=true) (hd:fR δ.n dst=true) (je:g.wt=none)
  (hK:a_ .plain P g ops rest Q ((δ.gm i (some (.mp (j9 (l6 (xs++ [m])))))).eY dst .any)):a_ .plain P g ops (⟨dst,.entryStore t x s y,ty,pos,af,none⟩::rest) Q δ:=
 a_.qA rfl rfl (iQ.vl (l:=l6 xs) hx js hs (by simp [l6]) hy rfl ho sz f_ hd (j4 je i)) (by rw[Co] at hK;exact hK)
end
end Go.Ab
/- Ranging over a function:the loop's code behind names. -/
namespace Go.Ab
open Go Go.RowKit
attribute [local irreducible] HS
variable {P:Program} {g:e6} {δ:DS} {κ:Kp} {a:Act} {w:World}
variable {ops:Array Oper} {rest:List Oper} {Q:Exit→DS→Prop} {dst:Option Nat} {ty:TypeId} {pos:String} {af:Array Edge}
def Ds (ps':Array Tmp) (asg' body':Code) (ps:List Tmp) (jf body:Code):Prop:=ps'=ps.toArray∧asg'=jf∧body'=body
theorem AW.DZ {x:Operand} {ps:List Tmp} {jf body:Code} {f:FuncId} {first cap:List AV} {fn:Func} {c:Code} {n':Nat} (yf:g.ro=none) (je:g.wt=none) (hx:δ.ev x=.jJ (.func f) first cap) (ho:fq x=true)
  (hf:P.funcs[f]? =some fn) (hb:fn.body=some c) (D0:fn.results= #[]) (hn:fn.ntmps=n') (hle:bx (first.length+1+cap.length) n'=true) (LR:bx n' HS=true) (gD:bx δ.n HS=true) (he:(fn.name== "runtime.NumGoroutine")=false)
  (h:∀(g':e6) (tm:Array Value) (l:Nat) (ps':Array Tmp) (asg' body':Code),Ds ps' asg' body' ps jf body→g'.ro=none→g'.wt=none→(∀j,j<HS→g'.held (j+HS)=tm.getD j undef)→tm.size=δ.n→
   AW P g' c (fB δ.n δ.nx l Q) {n:=n',env:=enum 0 (first++ .kZ δ.nx::cap)++gQ δ.env,gq:=(δ.nx,some (.loop l tm ps' asg' body' .ready))::δ.gq,nx:=δ.nx+1}):
  AW P g (.rangeFunc x ps.toArray jf body) Q δ:=
 AW.rangeFunc yf je hx ho hf hb D0 hn hle LR gD he fun g' tm l h1 h2 h3 h4=>h g' tm l _ _ _ ⟨rfl,rfl,rfl⟩ h1 h2 h3 h4
theorem a_.PD {x:Operand} {ys:List Operand} {tys:Array TypeId} {i l n0:Nat} {tm:Array Value} {ps:List Tmp} {jf body:Code} {ps':Array Tmp} {asg' body':Code} (yl:Ds ps' asg' body' ps jf body) (yf:g.ro=none) (je:g.wt=none) (uE:∀j,j<HS→g.held (j+HS)=tm.getD j undef) (Gt:tm.size=n0)
  (CG:bx n0 HS=true)
  (hx:δ.ev x=.kZ i) (js:δ.ob i=some (.loop l tm ps' asg' body' .ready)) (ho:fq x=true) (RV:ys.all fq=true) (hlen:aL ys.length ps.length=true) (Qp:ps.all (fun t=>aY t n0)=true) (uT:fR δ.n dst=true)
  (h:∀g':e6,g'.ro=some l→g'.wt=none→AW P g' jf (ga (fun δ1=>pt δ1 i l .ready∧AW P g' body (uf δ.n i l (fun b st δ2=>a_ .plain P g ops rest Q ((δ2.oc i st).eY dst (fu b)))) (δ1.oc i .busy)) (fun _ _=>False)) (tO n0 ps (ys.map δ.ev) δ)):
  a_ .plain P g ops (⟨dst,.call {callee:=.value x,args:=ys.toArray,argTypes:=tys},ty,pos,af,none⟩::rest) Q δ:=by
 obtain⟨rfl,rfl,rfl⟩:=yl
 exact a_.yield yf je uE Gt CG hx js ho RV hlen Qp uT h
theorem vF {n i l:Nat} {tm ps jf body} {e:Exit} (he:e=.normal∨e=.ret) (ho:δ.ob i=some (.loop l tm ps jf body .ready)) (h:Q .normal (lk n i δ)):fB n i l Q e δ:=by
 rcases he with rfl|rfl<;>(show E7 l Q (lk n i δ) (δ.ob i);rw[ho];exact⟨rfl,h⟩)
theorem xB {n i l id:Nat} {tm ps jf body} {e:Exit} (he:e=.normal∨e=.ret) (ho:δ.ob i=some (.loop l tm ps jf body (.done (.exit id)))) (h:Q (.exit id) (lk n i δ)):fB n i l Q e δ:=by
 rcases he with rfl|rfl<;>(show E7 l Q (lk n i δ) (δ.ob i);rw[ho];exact⟨rfl,h⟩)
end Go.Ab
/- Weakening:maps told as sets,loops. -/
namespace Go.Ab
open Go Go.RowKit
variable {δ δ':DS} {i:Nat}
theorem Ig {lr lb:Nat→Bool} (xs:List Int):∀p∈j9 (l6 xs),p.2.ids lr lb=true:=by
 intro p hp
 unfold j9 l6 at hp
 simp only[List.map_map,bw] at hp
 obtain⟨x,_,rfl⟩:=hp
 rfl
theorem WO.set {xs:List Int} (h:δ.ob i=some (.mp (j9 (l6 xs)))):WO δ δ' i (.mp (j9 (l6 xs))):=.mp h (Ig xs)
theorem WO.Sb {xs ys:List Int} (h:δ.ob i=some (.mp (j9 (l6 xs)))) (e:xs=ys):WO δ δ' i (.mp (j9 (l6 ys))):=e▸ .set h
end Go.Ab
namespace Go.Ab
open Go Go.RowKit
section
variable {q:Md} {P:Program} {g:e6} {δ:DS} {ops:Array Oper} {rest:List Oper} {Q:Exit→DS→Prop} {dst:Option Nat} {ty:TypeId} {pos:String} {af:Array Edge}
theorem a_.w7 {α:Type} {x y:Operand} {t e e':TypeId} {i k:Nat} {m:Int} {f:α→List PV} {l:List α} (hx:δ.ev x=.own i e' k (l.map f)) (hy:δ.ev y=e7 m)
  (ht:P.underlying t=some (.slice e)) (hk:(P.info? e).map (·.size)=some k) (ho:fq x=true) (f_:fq y=true) (hd:fR δ.n dst=true) (h0:0≤m) (hn:m<l.length)
  (hK:a_ q P g ops rest Q (δ.eY dst (.gN i e' k (l.map f) m.toNat))):a_ q P g ops (⟨dst,.indexAddr t x y,ty,pos,af,none⟩::rest) Q δ:=
 a_.qF (n:=m.toNat) hx (by rw[hy];show e7 m=e7 _;rw[b8 h0]) (by simp;omega) ht hk ho f_ hd hK
theorem a_.ze {α:Type} {x:Operand} {t e:TypeId} {i:Nat} {m:Nat} {f:α→PV} {l:List α} (hx:δ.ev x=.gN i e 1 (l.map fun z=>[f z]) m) (ht:jU P t=true) (ho:fq x=true) (hd:fR δ.n dst=true) (hq:q≠ .held) (hn:m<l.length)
  (hK:a_ q P g ops rest Q (δ.eY dst (.pv (f l[m])))):a_ q P g ops (⟨dst,.load t x,ty,pos,af,none⟩::rest) Q δ:=
 a_.Br hq hx hn ht ho hd hK
end
end Go.Ab
/- States written out:laws by which a state's term is brought to its plain form. -/
namespace Go.Ab
open Go Go.RowKit
namespace Nf
variable {n x:Nat} {e:List (Nat×AV)} {o:List (Nat×Option Ob)}
theorem beq (i j:Nat):aL i j=(i==j):=by
 by_cases h:i=j
 ·subst h;simp
 ·rw[mo h];exact(beq_eq_false_iff_ne.2 h).symm
theorem ble (i j:Nat):bx i j=(i - j==0):=by
 by_cases h:i≤j
 ·have h1:bx i j=true:=by simpa using h
  have h2:i - j=0:=by omega
  rw[h1,h2];rfl
 ·have h1:bx i j=false:=by
   cases hh:bx i j with
   |false=>rfl
   |true=>exact absurd (by simpa using hh) h
  rw[h1];exact(beq_eq_false_iff_ne.2 aJ).symm
theorem hs:HS=1000:=rfl
theorem c_t {α:Type} (a b:α):(bif true then a else b)=a:=rfl
theorem c_f {α:Type} (a b:α):(bif false then a else b)=b:=rfl
theorem put (d:Nat) (v:AV):DS.eY ⟨n,e,o,x⟩ (some d) v=⟨n,(d,v)::e,o,x⟩:=rfl
theorem Xi (v:AV):DS.eY ⟨n,e,o,x⟩ none v=⟨n,e,o,x⟩:=rfl
theorem add (b:Ob):DS.fN ⟨n,e,o,x⟩ b=⟨n,e,(x,some b)::o,x+1⟩:=rfl
theorem set (i:Nat) (b:Option Ob):DS.gm ⟨n,e,o,x⟩ i b=⟨n,e,(i,b)::o,x⟩:=rfl
theorem pn:(DS.mk n e o x).n=n:=rfl
theorem pe:(DS.mk n e o x).env=e:=rfl
theorem po:(DS.mk n e o x).gq=o:=rfl
theorem px:(DS.mk n e o x).nx=x:=rfl
theorem VJ (t:Nat):DS.ev ⟨n,e,o,x⟩ (.tmp t)=look e t:=rfl
theorem Xn (v:Value):DS.ev ⟨n,e,o,x⟩ (.const v)=.pv (.lit v):=rfl
theorem WJ (f:Nat):DS.ev ⟨n,e,o,x⟩ (.func f)=.jJ (.func f) [] []:=rfl
theorem Ud (j:Nat):look [] j=.any:=rfl
theorem Sz (i j:Nat) (v:AV) (r:List (Nat×AV)):look ((i,v)::r) j=bif aL i j then v else look r j:=rfl
theorem start (args:List AV):start n args=⟨n,enum 0 args,[],0⟩:=rfl
theorem YM (i:Nat):enum i []=[]:=rfl
theorem Zy (i:Nat) (v:AV) (r:List AV):enum i (v::r)=(i,v)::enum (i+1) r:=rfl
def Ar (e:List (Nat×AV)):List Operand→List AV
 |[]=>[]
 |.tmp t::r=>look e t::Ar e r
 |.const v::r=> .pv (.lit v)::Ar e r
 |.global _::r=> .any::Ar e r
 |.func f::r=> .jJ (.func f) [] []::Ar e r
theorem tH:∀xs:List Operand,xs.map (DS.ev ⟨n,e,o,x⟩)=Ar e xs
 |[]=>rfl
 |.tmp t::r=>by simp only[bA,Ar,tH r];rfl
 |.const v::r=>by simp only[bA,Ar,tH r];rfl
 |.global v::r=>by simp only[bA,Ar,tH r];rfl
 |.func f::r=>by simp only[bA,Ar,tH r];rfl
theorem NO (δ:DS) (xs:List Operand):xs.map δ.ev=Ar δ.env xs:=tH (n:=δ.n) (o:=δ.gq) (x:=δ.nx) xs
theorem Wn:Ar e []=[]:=rfl
theorem T_ (t:Nat) (r:List Operand):Ar e (.tmp t::r)=look e t::Ar e r:=rfl
theorem RG (v:Value) (r:List Operand):Ar e (.const v::r)=.pv (.lit v)::Ar e r:=rfl
theorem SH (f:Nat) (r:List Operand):Ar e (.func f::r)=.jJ (.func f) [] []::Ar e r:=rfl
def av:List AV→List AV→List AV
 |[],m=>m
 |v::r,m=>v::av r m
theorem N4:∀l m:List AV,l++m=av l m
 |[],_=>rfl
 |v::r,m=>by rw[bt,N4 r m];rfl
theorem av0 (m:List AV):av [] m=m:=rfl
theorem av1 (v:AV) (r m:List AV):av (v::r) m=v::av r m:=rfl
def ae:List (Nat×AV)→List (Nat×AV)→List (Nat×AV)
 |[],m=>m
 |v::r,m=>v::ae r m
theorem K6:∀l m:List (Nat×AV),l++m=ae l m
 |[],_=>rfl
 |v::r,m=>by rw[bt,K6 r m];rfl
theorem ae0 (m:List (Nat×AV)):ae [] m=m:=rfl
theorem ae1 (v:Nat×AV) (r m:List (Nat×AV)):ae (v::r) m=v::ae r m:=rfl
def sh:List (Nat×AV)→List (Nat×AV)
 |[]=>[]
 |(i,v)::r=>(i+HS,v)::sh r
theorem Ir:∀l,gQ l=sh l
 |[]=>rfl
 |(i,v)::r=>by show(i+HS,v)::gQ r=_;rw[Ir r];rfl
theorem sh0:sh []=[]:=rfl
theorem sh1 (i:Nat) (v:AV) (r:List (Nat×AV)):sh ((i,v)::r)=(i+1000,v)::sh r:=rfl
theorem ZJ:i_ []=[]:=rfl
theorem Z8 (i:Nat) (v:AV) (r:List (Nat×AV)):i_ ((i,v)::r)=bif bx 1000 i then (i - 1000,v)::i_ r else i_ r:=rfl
theorem ow0:fj []=[]:=rfl
theorem ow1 (i:Nat) (v:AV) (r:List (Nat×AV)):fj ((i,v)::r)=bif bx 1000 i then (bif bx i 1999 then (i - 1000,v)::fj r else fj r) else fj r:=by
 have h:aY i (HS+HS)=bx i 1999:=by
  show bx (i+1) 2000=bx i 1999
  rfl
 show(bif bx HS i && aY i (HS+HS) then _ else _)=_
 rw[h]
 show(bif bx 1000 i && bx i 1999 then _ else _)=_
 cases bx 1000 i<;>rfl
theorem pa (t:Tmp) (ts:List Tmp) (v:AV) (vs:List AV):BE (t::ts) (v::vs) e=BE ts vs ((t,v)::e):=rfl
theorem pa0:BE [] [] e=e:=rfl
theorem SA (m:Nat):fQ m ⟨n,e,o,x⟩=⟨m,i_ e,o,x⟩:=rfl
theorem round (m:Nat) (ps:List Tmp) (vs:List AV):tO m ps vs ⟨n,e,o,x⟩=⟨m,BE ps vs (ae (fj e) (sh e)),o,x⟩:=by
 unfold tO
 rw[K6,Ir]
def D1 (f:AV→AV):List (Nat×AV)→List (Nat×AV)
 |[]=>[]
 |(i,v)::r=>(i,f v)::D1 f r
def lM (f:AV→AV):List AV→List AV
 |[]=>[]
 |v::r=>f v::lM f r
def mz (f:AV→AV):List (Nat×Option Ob)→List (Nat×Option Ob)
 |[]=>[]
 |(i,b)::r=>(i,b.map (Ob.wR f))::mz f r
theorem Fc (f:AV→AV):∀l:List (Nat×AV),(l.map fun p=>(p.1,f p.2))=D1 f l
 |[]=>rfl
 |(i,v)::r=>by rw[bA,Fc f r];rfl
theorem Fy (f:AV→AV):∀l:List (Nat×Option Ob),(l.map fun p=>(p.1,p.2.map (Ob.wR f)))=mz f l
 |[]=>rfl
 |(i,v)::r=>by rw[bA,Fy f r];rfl
theorem lT (f:AV→AV):∀l:List AV,l.map f=lM f l
 |[]=>rfl
 |v::r=>by rw[bA,lT f r];rfl
theorem mv (f:AV→AV):DS.gF ⟨n,e,o,x⟩ f=⟨n,D1 f e,mz f o,x⟩:=by
 unfold DS.gF
 rw[Fc,Fy]
theorem mE0 (f:AV→AV):D1 f []=[]:=rfl
theorem mE1 (f:AV→AV) (i:Nat) (v:AV) (r:List (Nat×AV)):D1 f ((i,v)::r)=(i,f v)::D1 f r:=rfl
theorem Z7 (f:AV→AV):lM f []=[]:=rfl
theorem Z_ (f:AV→AV) (v:AV) (r:List AV):lM f (v::r)=f v::lM f r:=rfl
theorem ZS (f:AV→AV):mz f []=[]:=rfl
theorem mOn (f:AV→AV) (i:Nat) (r:List (Nat×Option Ob)):mz f ((i,none)::r)=(i,none)::mz f r:=rfl
theorem ZO (f:AV→AV) (i:Nat) (r:List (Nat×Option Ob)):mz f ((i,some .row)::r)=(i,some .row)::mz f r:=rfl
theorem mOb (f:AV→AV) (i:Nat) (cs:List AV) (r:List (Nat×Option Ob)):mz f ((i,some (.box cs))::r)=(i,some (.box (lM f cs)))::mz f r:=by
 show(i,some (Ob.box (cs.map f)))::mz f r=_
 rw[lT]
theorem ZM (f:AV→AV) (i:Nat) (l:List (Value×AV)) (r:List (Nat×Option Ob)):mz f ((i,some (.mp l))::r)=(i,some (.mp l))::mz f r:=rfl
theorem mOq (f:AV→AV) (i:Nat) (l:List (Value×AV)) (k:Value) (v:AV) (r:List (Nat×Option Ob)):mz f ((i,some (.mpl l k v))::r)=(i,some (.mpl l k (f v)))::mz f r:=rfl
theorem mOP (f:AV→AV) (i:Nat) (e:TypeId) (p:Nat→Value×List Value) (r:List (Nat×Option Ob)):mz f ((i,some (.ff e p))::r)=(i,some (.ff e p))::mz f r:=rfl
theorem mOt (f:AV→AV) (i:Nat) (T:TypeId) (vs:Array Value) (r:List (Nat×Option Ob)):mz f ((i,some (.lit T vs))::r)=(i,some (.lit T vs))::mz f r:=rfl
theorem mOl (f:AV→AV) (i l:Nat) (tm ps jf body st) (r:List (Nat×Option Ob)):mz f ((i,some (.loop l tm ps jf body st))::r)=(i,some (.loop l tm ps jf body st))::mz f r:=rfl
section
variable (i j:Nat)
theorem Ta:AV.kill i .any=.any:=rfl
theorem Xd (p:PV):AV.kill i (.pv p)=.pv p:=rfl
theorem Sa (a b:Nat):AV.kill i (.ptr a b)=.ptr a b:=rfl
theorem Qi (c:List PV):AV.kill i (.gp c)=.gp c:=rfl
theorem QU (a:Nat):AV.kill i (.gz a)=.gz a:=rfl
theorem SN (a:Nat):AV.kill i (.kZ a)=.kZ a:=rfl
theorem T0 (e k fc):AV.kill i (.own j e k fc)=bif aL i j then .any else .own j e k fc:=rfl
theorem PR (e k fc m):AV.kill i (.gN j e k fc m)=bif aL i j then .any else .gN j e k fc m:=rfl
theorem Si (cs:List AV):AV.kill i (.agg cs)=.agg (lM (AV.kill i) cs):=by
 show AV.mp _ _=_
 rw[AV.mp,AV.jG,lT];rfl
theorem RR (cs:List AV):AV.kill i (.gM cs)=.gM (lM (AV.kill i) cs):=by
 show AV.mp _ _=_
 rw[AV.mp,AV.jG,lT];rfl
theorem TX (fn:Go.Fn) (cs ds:List AV):AV.kill i (.jJ fn cs ds)=.jJ fn (lM (AV.kill i) cs) (lM (AV.kill i) ds):=by
 show AV.mp _ _=_
 rw[AV.mp,AV.jG,AV.jG,lT,lT];rfl
end
theorem Qz (cs:List AV):AV.cellsOf (.agg cs)=cs:=rfl
theorem R_ (p:PV):AV.cellsOf (.pv p)=[.pv p]:=rfl
theorem QH (a b:Nat):AV.cellsOf (.ptr a b)=[.ptr a b]:=rfl
theorem P8 (i e k fc):AV.cellsOf (.own i e k fc)=[.own i e k fc]:=rfl
theorem Qv:AV.cellsOf .any=[.any]:=rfl
theorem Lv (i:Nat):AV.cellsOf (.gz i)=[.gz i]:=rfl
theorem Pd (fn a b):AV.cellsOf (.jJ fn a b)=[.jJ fn a b]:=rfl
theorem NN (c):AV.cellsOf (.gp c)=[.gp c]:=rfl
def Dh:List AV→Nat→AV→List AV
 |[],_,_=>[]
 |_::r,0,w=>w::r
 |v::r,n+1,w=>v::Dh r n w
theorem z8:∀(l:List AV) (n:Nat) (w:AV),l.set n w=Dh l n w
 |[],_,_=>rfl
 |_::_,0,_=>rfl
 |v::r,n+1,w=>by rw[List.set_cons_succ,z8 r n w];rfl
theorem lo1 (i j:Nat) (v:Option Ob) (r:List (Nat×Option Ob)):fg ((i,v)::r) j=bif aL i j then v else fg r j:=rfl
end Nf
end Go.Ab
/- Laws of operations whose results stand in plain form. -/
namespace Go.Ab
open Go Go.RowKit
attribute [local irreducible] HS
variable {q:Md} {P:Program} {g:e6} {δ:DS} {κ:Kp} {a:Act} {w:World}
variable {ops:Array Oper} {rest:List Oper} {Q:Exit→DS→Prop} {dst:Option Nat} {ty:TypeId} {pos:String} {af:Array Edge}
def ML (P:Program) (s:TypeId) (f k:Nat):Bool:=match P.underlying s with
 |some (.struct fs)=>(match fs[f]? with|some fld=>aL fld.offset k && ((P.info? fld.type).map fun i=>aY 0 i.size)==some true|none=>false)
 |_=>false
theorem a_.b_ (s:TypeId) (f k:Nat) {x:Operand} {i off:Nat} (hx:δ.ev x=.ptr i off) (hB:ML P s f k=true) (ho:fq x=true) (hd:fR δ.n dst=true)
  (hK:a_ q P g ops rest Q (δ.eY dst (.ptr i (off+k)))):a_ q P g ops (⟨dst,.fieldAddr s x f,ty,pos,af,none⟩::rest) Q δ:=by
 unfold ML at hB
 split at hB
 ·rename_i fs hs
  split at hB
  ·rename_i fld hf
   simp only[aZ,beq_iff_eq] at hB
   have hk:=aM hB.1
   subst hk
   exact a_.fieldAddr hx hs hf hB.2 ho hd hK
  ·cases hB
 ·cases hB
def Gj:List AV→Nat→Nat→List AV
 |[],_,_=>[]
 |v::r,k,n=>bif k==0 then (bif n==0 then [] else v::Gj r 0 (n - 1)) else Gj r (k - 1) n
def vd:List PV→Nat→Nat→List PV
 |[],_,_=>[]
 |v::r,k,n=>bif k==0 then (bif n==0 then [] else v::vd r 0 (n - 1)) else vd r (k - 1) n
theorem zN:∀(l:List PV) (k n:Nat),(l.drop k).take n=vd l k n
 |[],k,n=>by simp [vd]
 |v::r,0,0=>by simp [vd]
 |v::r,0,n+1=>by
  have:=zN r 0 n
  simp only[cB] at this
  simp [vd,← this]
 |v::r,k+1,n=>by simp [vd,← zN r k n]
def Oi (P:Program) (s:TypeId) (f k n:Nat):Bool:=match P.underlying s with
 |some (.struct fs)=>(match fs[f]? with|some fld=>aL fld.offset k && (((P.info? fld.type).map fun i=>aY 0 i.size)==some true && (P.info? fld.type).map (·.size)==some n)|none=>false)
 |_=>false
theorem a_.sr (s:TypeId) (f k n:Nat) {x:Operand} {cs:List PV} (hx:δ.ev x=.gp cs) (hB:Oi P s f k n=true) (ho:fq x=true) (hd:fR δ.n dst=true)
  (hK:a_ q P g ops rest Q (δ.eY dst (.gp (vd cs k n)))):a_ q P g ops (⟨dst,.fieldAddr s x f,ty,pos,af,none⟩::rest) Q δ:=by
 unfold Oi at hB
 split at hB
 ·rename_i fs hs
  split at hB
  ·rename_i fld hf
   simp only[aZ,beq_iff_eq] at hB
   have hk:=aM hB.1
   subst hk
   exact a_.Bs hx hs hf hB.2.1 hB.2.2 ho hd (by rw[zN];exact hK)
  ·cases hB
 ·cases hB
def BQ:List Value→List AV
 |[]=>[]
 |v::r=> .pv (.lit v)::BQ r
theorem vr:∀l:List Value,(l.map fun v=>AV.pv (PV.lit v))=BQ l
 |[]=>rfl
 |v::r=>by rw[bA,vr r];rfl
def tn:List AV→List (Nat×AV)→List AV
 |cs,[]=>cs
 |cs,(k,v)::r=>tn (setN cs k v.cellsOf) r
where setN:List AV→Nat→List AV→List AV
 |cs,_,[]=>cs
 |cs,k,v::r=>setN (Nf.Dh cs k v) (k+1) r
theorem Fa:∀(vs cs:List AV) (k:Nat),nM cs k vs=tn.setN cs k vs
 |[],cs,k=>rfl
 |v::r,cs,k=>by
  unfold nM tn.setN
  rw[Nf.z8,Fa r]
theorem tL {place:Nat→Option (Nat×Nat)}:∀(ps:List (Nat×AV)) (p7:List Nat) (cs cells:List AV),jz place cs ps=some cells→(ps.map fun p=>(place p.1).map (·.1))=p7.map some→
  cells=tn cs (p7.zip (ps.map (·.2)))
 |[],p7,cs,cells,h,_=>by simp only[jz,Option.some.injEq] at h;subst h;cases p7<;>rfl
 |(i,v)::ps,[],cs,cells,h,ho=>by simp at ho
 |(i,v)::ps,k::p7,cs,cells,h,ho=>by
  simp only[bA,List.cons.injEq] at ho
  unfold jz at h
  cases hp:place i with
  |none=>rw[hp] at h;cases h
  |some x=>
   obtain⟨off,size⟩:=x
   rw[hp] at h ho
   simp only[bq,Option.some.injEq] at ho
   obtain⟨rfl,ho⟩:=ho
   simp only at h
   cases hb:(aL v.cellsOf.length size && bx (off+v.cellsOf.length) cs.length && AV.nB v.cellsOf) with
   |false=>rw[hb] at h;cases h
   |true=>
    rw[hb] at h
    have:=tL ps p7 _ cells h ho
    rw[this,Fa]
    rfl
def sU (e:List (Nat×AV)):List Nat→List (Nat×Operand)→List (Nat×AV)
 |k::ks,(_,.tmp t)::ps=>(k,look e t)::sU e ks ps
 |k::ks,(_,.const v)::ps=>(k,.pv (.lit v))::sU e ks ps
 |k::ks,(_,.global _)::ps=>(k,.any)::sU e ks ps
 |k::ks,(_,.func f)::ps=>(k,.jJ (.func f) [] [])::sU e ks ps
 |_,_=>[]
theorem Az (δ:DS):∀(p7:List Nat) (ps:List (Nat×Operand)),p7.zip ((ps.map fun p=>(p.1,δ.ev p.2)).map (·.2))=sU δ.env p7 ps
 |[],[]=>rfl
 |[],_::_=>rfl
 |_::_,[]=>rfl
 |k::ks,(i,x)::ps=>by
  simp only[bA,cq,Az δ ks ps]
  cases x<;>rfl
theorem a_.wb (t:TypeId) (p7:List Nat) {l:List Value} {parts:List (Nat×Operand)} {fs:Array Field} {z:Value} {cells:List AV} (hs:P.underlying t=some (.struct fs)) (hz:(P.info? t).bind (·.zero)=some z) (hl:z.cells=l.toArray) (h1:z.cells.toList.all (·.oneCell')=true) (iT:fs.toList.all (fun f=>(P.info? f.type).isSome)=true)
  (ho:parts.all (fun p=>fq p.2)=true) (ru:((parts.map fun p=>(p.1,δ.ev p.2)).map fun p=>(placeOf P fs p.1).map (·.1))=p7.map some) (hf:jz (placeOf P fs) (z.cells.toList.map fun v=> .pv (.lit v)) (parts.map fun p=>(p.1,δ.ev p.2))=some cells) (hd:fR δ.n dst=true)
  (hK:a_ q P g ops rest Q (δ.eY dst (.agg (tn (BQ l) (sU δ.env p7 parts))))):a_ q P g ops (⟨dst,.build t parts.toArray,ty,pos,af,none⟩::rest) Q δ:=by
 refine a_.build hs hz h1 iT ho hf hd ?_
 have:=tL _ p7 _ cells hf ru
 rw[Az,hl,cC,vr] at this
 rw[this]
 exact hK
theorem a_.sR {e:TypeId} {z:Value} {l:List Value} (hz:(P.info? e).bind (·.zero)=some z) (hl:z.cells=l.toArray) (h1:z.cells.toList.all (·.oneCell')=true) (hd:fR δ.n dst=true)
  (hK:a_ .plain P g ops rest Q ((δ.fN (.box (BQ l))).eY dst (.ptr δ.nx 0))):a_ .plain P g ops (⟨dst,.alloc e,ty,pos,af,none⟩::rest) Q δ:=by
 refine a_.alloc hz h1 hd ?_
 rw[hl,cC,vr]
 exact hK
def B1:Option Ob→vg→Option Ob
 |some (.loop l tm ps jf body _),st=>some (.loop l tm ps jf body st)
 |o,_=>o
def MI (δ:DS) (i:Nat) (st:vg):DS:=⟨δ.n,δ.env,(i,B1 (fg δ.gq i) st)::δ.gq,δ.nx⟩
theorem zK {i l:Nat} {s:vg} (st:vg) (h:pt δ i l s):δ.oc i st=MI δ i st:=by
 obtain⟨tm,ps,jf,body,ho⟩:=h
 unfold DS.oc MI
 rw[ho]
 have:fg δ.gq i=some (.loop l tm ps jf body s):=ho
 rw[this]
 rfl
def fp (P:Program) (g:e6) (ops:Array Oper) (rest:List Oper) (Q:Exit→DS→Prop) (dst:Option Nat) (n i l:Nat):Exit→DS→Prop
 |.normal,δ=>pt δ i l .busy∧a_ .plain P g ops rest Q ((MI (fQ n δ) i .ready).eY dst (fu true))
 |.ret,δ=>pt δ i l .busy∧a_ .plain P g ops rest Q ((MI (fQ n δ) i (.done .ret)).eY dst (fu false))
 |.exit id,δ=>pt δ i l .busy∧a_ .plain P g ops rest Q ((MI (fQ n δ) i (.done (.exit id))).eY dst (fu false))
 |_,_=>False
theorem tS {n i l:Nat} {st} (h:pt δ i l st):pt (fQ n δ) i l st:=h
theorem a_.KH {x:Operand} {ys:List Operand} {tys:Array TypeId} {i l n0:Nat} {tm:Array Value} {ps:List Tmp} {jf body:Code} {ps':Array Tmp} {asg' body':Code} (yl:Ds ps' asg' body' ps jf body) (yf:g.ro=none) (je:g.wt=none) (uE:∀j,j<HS→g.held (j+HS)=tm.getD j undef) (Gt:tm.size=n0)
  (CG:bx n0 HS=true)
  (hx:δ.ev x=.kZ i) (js:δ.ob i=some (.loop l tm ps' asg' body' .ready)) (ho:fq x=true) (RV:ys.all fq=true) (hlen:aL ys.length ps.length=true) (Qp:ps.all (fun t=>aY t n0)=true) (uT:fR δ.n dst=true)
  (h:∀g':e6,g'.ro=some l→g'.wt=none→AW P g' jf (ga (fun δ1=>pt δ1 i l .ready∧AW P g' body (fp P g ops rest Q dst δ.n i l) (MI δ1 i .busy)) (fun _ _=>False)) (tO n0 ps (ys.map δ.ev) δ)):
  a_ .plain P g ops (⟨dst,.call {callee:=.value x,args:=ys.toArray,argTypes:=tys},ty,pos,af,none⟩::rest) Q δ:=by
 refine a_.PD yl yf je uE Gt CG hx js ho RV hlen Qp uT fun g' h1 h2=>(h g' h1 h2).mono ?_
 intro e δ1 he
 cases e with
 |normal=>
  obtain⟨h3,h4⟩:=he
  refine⟨h3,?_⟩
  rw[zK _ h3]
  refine AW.mono h4 ?_
  intro e2 δ2 HA
  cases e2 with
  |normal=>exact⟨HA.1,by show a_ .plain P g ops rest Q (((fQ δ.n δ2).oc i .ready).eY dst (fu true));rw[zK .ready (tS (n:=δ.n) HA.1)];exact HA.2⟩
  |ret=>exact⟨HA.1,by show a_ .plain P g ops rest Q (((fQ δ.n δ2).oc i (.done .ret)).eY dst (fu false));rw[zK (.done .ret) (tS (n:=δ.n) HA.1)];exact HA.2⟩
  |exit id=>exact⟨HA.1,by show a_ .plain P g ops rest Q (((fQ δ.n δ2).oc i (.done (.exit id))).eY dst (fu false));rw[zK (.done (.exit id)) (tS (n:=δ.n) HA.1)];exact HA.2⟩
  |_=>exact HA.elim
 |_=>exact he.elim
theorem oZ {n i l:Nat} (h1:pt δ i l .busy) (h2:a_ .plain P g ops rest Q ((MI (fQ n δ) i .ready).eY dst (fu true))):fp P g ops rest Q dst n i l .normal δ:=⟨h1,h2⟩
theorem sV {n i l id:Nat} (h1:pt δ i l .busy) (h2:a_ .plain P g ops rest Q ((MI (fQ n δ) i (.done (.exit id))).eY dst (fu false))):fp P g ops rest Q dst n i l (.exit id) δ:=⟨h1,h2⟩
def Sh (n i:Nat) (δ:DS):DS:=⟨n,i_ δ.env,(i,B1 (fg δ.gq i) .over)::δ.gq,δ.nx⟩
theorem Jx {n i l:Nat} {tm ps jf body st} (ho:δ.ob i=some (.loop l tm ps jf body st)):lk n i δ=Sh n i δ:=by
 unfold lk Sh
 rw[ho]
 have:fg δ.gq i=some (.loop l tm ps jf body st):=ho
 rw[this];rfl
theorem uR {n i l:Nat} {tm ps jf body} {e:Exit} (he:e=.normal∨e=.ret) (ho:δ.ob i=some (.loop l tm ps jf body .ready)) (h:Q .normal (Sh n i δ)):fB n i l Q e δ:=vF he ho (by rw[Jx ho];exact h)
theorem wX {n i l id:Nat} {tm ps jf body} {e:Exit} (he:e=.normal∨e=.ret) (ho:δ.ob i=some (.loop l tm ps jf body (.done (.exit id)))) (h:Q (.exit id) (Sh n i δ)):fB n i l Q e δ:=xB he ho (by rw[Jx ho];exact h)
namespace Nf
variable {n x:Nat} {e:List (Nat×AV)} {o:List (Nat×Option Ob)}
theorem ZU (i:Nat) (st:vg):MI ⟨n,e,o,x⟩ i st=⟨n,e,(i,B1 (fg o i) st)::o,x⟩:=rfl
theorem bko (m i:Nat):Sh m i ⟨n,e,o,x⟩=⟨m,i_ e,(i,B1 (fg o i) .over)::o,x⟩:=rfl
theorem sst (l:Nat) (tm ps jf body st st'):B1 (some (.loop l tm ps jf body st)) st'=some (.loop l tm ps jf body st'):=rfl
theorem ll0:BQ []=[]:=rfl
theorem ll1 (v:Value) (r:List Value):BQ (v::r)=.pv (.lit v)::BQ r:=rfl
theorem Z4 (cs:List AV):tn cs []=cs:=rfl
theorem Z6 (cs:List AV) (k:Nat) (v:AV) (r:List (Nat×AV)):tn cs ((k,v)::r)=tn (tn.setN cs k v.cellsOf) r:=rfl
theorem sn0 (cs:List AV) (k:Nat):tn.setN cs k []=cs:=rfl
theorem sn1 (cs:List AV) (k:Nat) (v:AV) (r:List AV):tn.setN cs k (v::r)=tn.setN (Dh cs k v) (k+1) r:=rfl
theorem Zm (k:Nat) (w:AV):Dh [] k w=[]:=rfl
theorem cs1 (v:AV) (r:List AV) (k:Nat) (w:AV):Dh (v::r) k w=bif k==0 then w::r else v::Dh r (k - 1) w:=by cases k<;>rfl
theorem Xp (k:Nat) (ks:List Nat) (i t:Nat) (ps:List (Nat×Operand)):sU e (k::ks) ((i,.tmp t)::ps)=(k,look e t)::sU e ks ps:=rfl
theorem Xl (k:Nat) (ks:List Nat) (i:Nat) (v:Value) (ps:List (Nat×Operand)):sU e (k::ks) ((i,.const v)::ps)=(k,.pv (.lit v))::sU e ks ps:=rfl
theorem V2 (k:Nat) (ks:List Nat) (i f:Nat) (ps:List (Nat×Operand)):sU e (k::ks) ((i,.func f)::ps)=(k,.jJ (.func f) [] [])::sU e ks ps:=rfl
theorem lp0:sU e [] []=[]:=rfl
theorem sa0 (k n:Nat):Gj [] k n=[]:=rfl
theorem sa1 (v:AV) (r:List AV) (k n:Nat):Gj (v::r) k n=bif k==0 then (bif n==0 then [] else v::Gj r 0 (n - 1)) else Gj r (k - 1) n:=rfl
theorem sp0 (k n:Nat):vd [] k n=[]:=rfl
theorem sp1 (v:PV) (r:List PV) (k n:Nat):vd (v::r) k n=bif k==0 then (bif n==0 then [] else v::vd r 0 (n - 1)) else vd r (k - 1) n:=rfl
end Nf
end Go.Ab
namespace Go.Ab
open Go Go.RowKit
section
variable {q:Md} {P:Program} {g:e6} {δ:DS} {ops:Array Oper} {rest:List Oper} {Q:Exit→DS→Prop} {dst:Option Nat} {ty:TypeId} {pos:String} {af:Array Edge}
theorem a_.tt {x:Operand} {c:List PV} (hx:δ.ev x=.gp c) (ho:fq x=true) (hd:fR δ.n dst=true) (hK:a_ q P g ops rest Q (δ.eY dst (.gp c))):a_ q P g ops (⟨dst,.move x,ty,pos,af,none⟩::rest) Q δ:=a_.move hx ho hd hK
theorem a_.l7 {x:Operand} {c:List PV} (hx:δ.ev x=.gp c) (ho:fq x=true) (hd:fR δ.n dst=true) (hK:a_ q P g ops rest Q (δ.eY dst (.gp c))):a_ q P g ops (⟨dst,.assign x,ty,pos,af,none⟩::rest) Q δ:=a_.assign hx ho hd hK
theorem a_.Cp {x:Operand} {i:Nat} (hx:δ.ev x=.gz i) (ho:fq x=true) (hd:fR δ.n dst=true) (hK:a_ q P g ops rest Q (δ.eY dst (.gz i))):a_ q P g ops (⟨dst,.assign x,ty,pos,af,none⟩::rest) Q δ:=a_.assign hx ho hd hK
theorem a_.GY {x:Operand} {i:Nat} (hx:δ.ev x=.gz i) (ho:fq x=true) (hd:fR δ.n dst=true) (hK:a_ q P g ops rest Q (δ.eY dst (.gz i))):a_ q P g ops (⟨dst,.move x,ty,pos,af,none⟩::rest) Q δ:=a_.move hx ho hd hK
theorem a_.rh {x:Operand} {c:List PV} (hx:δ.ev x=.gp c) (ho:fq x=true) (hd:fR δ.n dst=true) (hK:a_ q P g ops rest Q (δ.eY dst (.gp c))):
  a_ q P g ops (⟨dst,.nilCheck x,ty,pos,af,none⟩::rest) Q δ:=
 a_.iR _ hd (fun κ a w r=>by
  have h1:=r.ra hx ho
  have h2:=h1
  generalize hu:a.eval x=u at h1
  cases h1 with
  |gp b off vs hN hb hc hr=>exact⟨_,fun w' _=>by simp [execOp,hu],hu▸h2⟩) hK
end
end Go.Ab
/- Maps:written,counted,ranged over;told as sets and frozen. -/
namespace Go.Ab
open Go Go.RowKit
variable {q:Md} {P:Program} {g:e6} {δ:DS} {κ:Kp} {a:Act} {w:World}
variable {gd:Option (Tmp×Bool)} {ops:Array Oper} {rest:List Oper} {Q:Exit→DS→Prop} {dst:Option Nat} {ty:TypeId} {pos:String} {af:Array Edge}
theorem xD {C:Cx} {w:World} (m:Int):∀(es:List MapEntry) (l:List (Int×AV)) (i:Nat),es.length=l.length→
  (∀(j:Nat) (e:MapEntry) (p:Int×AV),es[j]? =some e→l[j]? =some p→e.key=.int .i64 p.1∧RA C w e.val p.2)→
  (j2 l m=none∧Instr.findNow (.int .i64) (.int .i64 m) es i=some none)∨
  (∃(j:Nat) (e:MapEntry) (v:AV),Instr.findNow (.int .i64) (.int .i64 m) es i=some (some (i+j,e.val))∧es[j]? =some e∧l[j]? =some (m,v)∧e.key=.int .i64 m∧∀i,i<j→∀p,l[i]? =some p→p.1≠m):=by
 intro es
 induction es with
 |nil=>intro l i hs _;have:l=[]:=bj hs.symm;subst this;exact .inl ⟨rfl,rfl⟩
 |cons e es ih=>
  intro l i hs h
  cases l with
  |nil=>simp at hs
  |cons p l=>
   obtain⟨k,v⟩:=p
   have h0:=h 0 e (k,v) rfl rfl
   by_cases hk:m=k
   ·subst hk
    refine .inr ⟨0,e,v,?_,rfl,rfl,h0.1,fun i hi=>by omega⟩
    simp [Instr.findNow,h0.1,Instr.sameNow]
   ·have hf:Instr.findNow (.int .i64) (.int .i64 m) (e::es) i=Instr.findNow (.int .i64) (.int .i64 m) es (i+1):=by
     have hb:(m==k)=false:=by simp [hk]
     simp [Instr.findNow,h0.1,Instr.sameNow,hb]
    rcases ih l (i+1) (by simpa using hs) (fun j e p h1 h2=>h (j+1) e p (by simpa using h1) (by simpa using h2)) with ⟨h1,h2⟩|⟨j,e',v',h2,h3,h4,h5,h6⟩
    ·exact .inl ⟨by simp [j2,hk,h1],hf.trans h2⟩
    ·refine .inr ⟨j+1,e',v',by rw[hf,h2];simp;omega,by simpa using h3,by simpa using h4,h5,fun i' kq p hp=>?_⟩
     cases i' with
     |zero=>simp at hp;subst hp;exact fun e=>hk e.symm
     |succ i'=>exact h6 i' aJ p (by simpa using hp)
theorem Rel.Y6 (r:Rel g δ κ a w) {u:Value} {i:Nat} {l:List (Value×PV)} {seen:List Nat} (h:RA (δ.cx g κ) w u (.ptr i 0)) (ho:δ.ob i=some (.it l seen)):
  ∃b,u=.pointer (some ⟨b,0,none⟩)∧κ i=some b∧Lc (δ.cx g κ).N w b l seen:=by
 cases h with
 | @ptr _ _ b hl hκ=>
  obtain⟨b',h1,h2⟩:=r.obj i _ ho
  have:b'=b:=Option.some.inj (h1.symm.trans hκ)
  subst this
  exact⟨b',rfl,h1,h2⟩
theorem Nr {C:Cx} {w:World} {u1 u2 u3:Value} {v1 v2 v3:AV} (h1:RA C w u1 v1) (h2:RA C w u2 v2) (h3:RA C w u3 v3):RA C w (.tuple #[u1,u2,u3]) (.gM [v1,v2,v3]):=Bj h1 h2 h3
theorem Ae {es:Array MapEntry} {clock:Nat} (h:pO es clock):(es.toList.map (·.born)).Nodup:=by
 have:es.toList.map (·.born)=List.range es.size:=by
  apply List.ext_getElem?
  intro j
  rw[a7,bB]
  by_cases hj:j<es.size
  ·rw[aN hj,bq,h.2 j _ (aN hj),List.getElem?_range hj]
  ·rw[cv aJ,cD (by simpa using hj)];rfl
 rw[this];exact List.nodup_range
theorem a_.next {x:Operand} {i:Nat} {l:List (Value×PV)} {seen:List Nat} (hx:δ.ev x=.ptr i 0) (js:δ.ob i=some (.it l seen)) (ho:fq x=true) (hd:fR δ.n dst=true) (je:g.wt=none)
  (YZ:(∀j,j<l.length→j∈seen)→a_ .plain P g ops rest Q (δ.eY dst (.gM [fu false])))
  (yN:∀j (hj:j<l.length),j∉seen→a_ .plain P g ops rest Q ((δ.gm i (some (.it l (seen++ [j])))).eY dst (.gM [fu true,.pv (.lit l[j].1),.pv l[j].2]))):
  a_ .plain P g ops (⟨dst,.next x false,ty,pos,af,none⟩::rest) Q δ:=by
 intro κ a w r
 obtain⟨b,hv,h2,h3⟩:=r.Y6 (r.ra hx ho) js
 show wpListIn _ _ P ops _ (_::rest) a w
 refine gV rfl rfl fun K oS=>?_
 unfold Oper.Ac
 rcases h3 with ⟨rfl,h3⟩|⟨m,es,clock,hN,hm,hh,hs,jc,AN,hit,H7⟩
 ·have fw:(execOp a.eval ⟨dst,.next x false,ty,pos,af,none⟩).run P w=.ok (.value (.tuple #[.bool false])) w:=by
   have:(Instr.next (.pointer (some ⟨b,0,none⟩)) false ty).run P w=.ok (.tuple #[.bool false]) w:=by
    simp only[Instr.next,getObj,Sem.run_bind,Sem.run,h3,Result.andThen]
    rfl
   simp [execOp,hv,this]
  rw[fw,Oper.uponIn_value]
  exact oS _ _ (YZ (by simp) κ _ _ (r.eY (fv hd) (.gM rfl fun j u c h4 h5=>by
   cases j with
   |zero=>simp at h4 h5;subst h4;subst h5;exact .pv (.lit _)
   |succ j=>simp at h5)))
 ·have hold:∀e∈es.toList,e.born<clock:=by
   intro e he
   obtain⟨j,hj⟩:=bz he
   have n8:es[j]? =some e:=by simpa using hj
   rw[jc.2 j e n8,jc.1]
   exact(aO.1 n8).1
  rcases run_next_at (P:=P) w ty b m clock clock seen.toArray es clock hit hh hold (aP _) with ⟨h4,h5⟩|⟨e,he,w1,KX,h5⟩
  ·have fw:(execOp a.eval ⟨dst,.next x false,ty,pos,af,none⟩).run P w=.ok (.value (.tuple #[.bool false])) w:=by simp [execOp,hv,h5]
   rw[fw,Oper.uponIn_value]
   have iT:=all_seen es seen.toArray h4
   exact oS _ _ (YZ (fun j hj=>by
    have r7:j<es.size:=by omega
    have:=iT es[j] (by simp)
    rw[jc.2 j _ (aN r7)] at this
    simpa using this) κ _ _ (r.eY (fv hd) (.gM rfl fun j u c h4 h5=>by
    cases j with
    |zero=>simp at h4 h5;subst h4;subst h5;exact .pv (.lit _)
    |succ j=>simp at h5)))
  ·obtain⟨he1,HA⟩:=mem_left he
   obtain⟨j,hj⟩:=bz he1
   have n8:es[j]? =some e:=by simpa using hj
   have hb:=jc.2 j e n8
   have Lo:j<l.length:=by rw[← hs];exact(aO.1 n8).1
   have A4:j∉seen:=by rw[hb] at HA;simpa using HA
   obtain⟨hke,hre⟩:=AN j e _ n8 (a8 Lo)
   have fw:(execOp a.eval ⟨dst,.next x false,ty,pos,af,none⟩).run P w=.ok (.value (.tuple #[.bool true,e.key,e.val])) (ChangeMaps.setBlock w1 b (.mapIter (some m) clock (seen.toArray.push e.born) clock)):=by simp [execOp,hv,h5]
   rw[fw,Oper.uponIn_value]
   have Pm:Below w.heap.size w w1:=by
    rcases KX with rfl|rfl
    ·exact Below.refl _ _
    ·exact Below.drew (Below.refl _ _)
   have r1:=r.ext Pm
   have KI:w1.heap=w.heap:=by rcases KX with rfl|rfl<;>rfl
   have fx:b<w1.heap.size:=by rw[KI];exact iJ hit
   obtain⟨r2,G⟩:=r1.modify (o':=.it l (seen++ [j])) js rfl rfl h2 (j4 je i) (iw.vt w1 b (.mapIter (some m) clock (seen.toArray.push e.born) clock)) (by simp) (fun C hC G=>by
    have Uu:=G.N m (by rw[KI];exact hm) hN
    refine⟨b,by rw[hC];exact h2,.inr ⟨m,es,clock,Uu.1,by simp [KI];exact hm,by rw[Uu.2,KI];exact hh,hs,jc,fun j e p h6 h7=>⟨(AN j e p h6 h7).1,?_⟩,?_,fun k hk=>?_⟩⟩
    ·have h8:=(AN j e p h6 h7).2
     refine h8.mono (by simp [KI]) fun b' iU H5=>?_
     have:=G.N b' (by rw[KI];exact iU) H5
     exact⟨this.1,by rw[this.2,KI]⟩
    ·rw[mM (o:=.mapIter (some m) clock seen.toArray clock) (by rw[KI];exact hit)]
     rw[hb];simp
    ·rcases bW.1 hk with hk|hk
     ·exact H7 k hk
     ·simp at hk;subst hk;exact Lo)
   refine oS _ _ (yN j Lo A4 κ _ _ (r2.eY (fv hd) (Nr (.pv (.lit _)) ?_ ?_)))
   ·rw[hke];exact .pv (.lit _)
   ·refine .pv (hre.mono (by simp [KI]) fun b' iU H5=>?_)
    have:=G.N b' (by rw[KI];exact iU) H5
    exact⟨this.1,by rw[this.2,KI]⟩
theorem a_.entry {x:Operand} {i j:Nat} {l:List (Value×PV)} {seen:List Nat} (hx:δ.ev x=.ptr i 0) (js:δ.ob i=some (.it l (seen++ [j]))) (ho:fq x=true) (hd:fR δ.n dst=true) (hq:q≠ .held) (hj:j<l.length)
  (hK:a_ q P g ops rest Q (δ.eY dst (.gM [.pv (.lit l[j].1),.pv l[j].2]))):
  a_ q P g ops (⟨dst,.entry x,ty,pos,af,none⟩::rest) Q δ:=
 a_.Qt _ hq rfl rfl hd (fun κ a w r=>by
  obtain⟨b,hv,h2,h3⟩:=r.Y6 (r.ra hx ho) js
  rcases h3 with ⟨rfl,h3⟩|⟨m,es,clock,hN,hm,hh,hs,jc,AN,hit,H7⟩
  ·simp at hj
  ·have hje:j<es.size:=by omega
   have Cq:=aN hje
   obtain⟨h4,h5⟩:=AN j _ _ Cq (a8 hj)
   have hb:=jc.2 j _ Cq
   refine⟨.tuple #[es[j].key,es[j].val],fun w' j5=>?_,Dx (by rw[h4];exact .pv (.lit _)) (.pv h5)⟩
   have h6:w'.heap[b]? =some (.mapIter (some m) clock (seen.toArray.push es[j].born) clock):=by
    rw[j5.block b (iJ hit),hit,hb];simp
   have h7:w'.heap[m]? =some (.map es clock):=(j5.block m hm).trans hh
   have:=run_entry_at (P:=P) w' b m clock seen.toArray es clock es[j] h6 h7 (by simp) (Ae jc)
   simp [execOp,hv,this]) hK
theorem a_.M6 {t:TypeId} (hd:fR δ.n dst=true) (hK:a_ .plain P g ops rest Q ((δ.fN (.mp (j9 (l6 [])))).eY dst (.gz δ.nx))):a_ .plain P g ops (⟨dst,.makeMap t none,ty,pos,af,none⟩::rest) Q δ:=a_.makeMap hd hK
theorem Nf.mOi (f:AV→AV) (i:Nat) (l:List (Value×PV)) (seen:List Nat) (r:List (Nat×Option Ob)):Nf.mz f ((i,some (.it l seen))::r)=(i,some (.it l seen))::Nf.mz f r:=rfl
theorem WV.Mb {δ δ':DS} {i e k} {fc:List (List PV)} (he:fc=[]) (h:δ'.qg i=true) (hn:δ.ob i=none):WV δ δ' (.pv (.lit (.slice none 0 0))) (.own i e k fc):=by rw[he];exact .jL i e k h hn
end Go.Ab
/- Rows given up in the middle of a walk. -/
namespace Go.Ab
open Go Go.RowKit
variable {q:Md} {P:Program} {g:e6} {δ:DS} {κ:Kp} {a:Act} {w:World}
variable {ops:Array Oper} {rest:List Oper} {Q:Exit→DS→Prop} {dst:Option Nat} {ty:TypeId} {pos:String} {af:Array Edge}
def K2 (i:Nat):AV→AV
 |.own j e k fc=>bif aL i j then .pv (.slice k fc) else .own j e k fc
 |.gN j e k fc n=>bif aL i j then .any else .gN j e k fc n
 |v=>v
def AV.s_ (i:Nat):AV→AV:=AV.mp (K2 i)
def qb (δ:DS) (i:Nat):DS:=(δ.gF (AV.s_ i)).gm i none
theorem wM (δ:DS) (i j:Nat):(qb δ i).ob j=if i=j then none else (δ.ob j).map (Ob.wR (AV.s_ i)):=by
 unfold qb
 rw[jH,kb]
theorem NB (δ:DS) (i j:Nat):(qb δ i).get j=AV.s_ i (δ.get j):=qd (AV.s_ i) rfl δ j
theorem Rel.freeze (r:Rel g δ κ a w) {i:Nat} (hi:δ.ob i=some .row):∃κ',Rel g (qb δ i) κ' a w:=by
 have fS:∀j,(qb δ i).live j→j≠i∧δ.live j:=by
  rintro j ⟨o,h⟩
  rw[wM] at h
  by_cases e:i=j
  ·rw[if_pos e] at h;cases h
  ·rw[if_neg e] at h
   cases ho:δ.ob j with
   |none=>rw[ho] at h;simp at h
   |some o'=>exact⟨fun e'=>e e'.symm,o',ho⟩
 have nq:∀j,(qb δ i).lr j↔j≠i∧δ.lr j:=by
  intro j
  unfold DS.lr
  rw[wM]
  by_cases e:i=j
  ·rw[if_pos e];simp [e]
  ·rw[if_neg e]
   have e':j≠i:=fun h=>e h.symm
   cases δ.ob j with
   |none=>simp
   |some o=>cases o<;>simp [Ob.wR,e']
 have vy:∀j,δ.lb j→(qb δ i).lb j:=by
  rintro j ⟨o,h1,h2⟩
  have e:i≠j:=by rintro rfl;rw[hi] at h1;cases h1;simp [Ob.isRow] at h2
  refine⟨Ob.wR (AV.s_ i) o,?_,?_⟩
  ·rw[wM,if_neg e,h1];rfl
  ·cases o<;>first|rfl|(simp [Ob.isRow] at h2)
 have lB:∀j b,δ.live j→(qb δ i).ob j=none→κ j=some b→((qb δ i).cx g (uC δ κ)).N b:=by
  intro j b hl mL hκ
  refine⟨r.Fo hl hκ,fun m hm e=>?_⟩
  obtain⟨h1,h2⟩:=gy e
  have:=r.inj j m b hl h1 hκ h2
  subst this
  obtain⟨o,hm⟩:=hm
  rw[mL] at hm;cases hm
 have G:kr ((δ.cx g κ).less i) w ((qb δ i).cx g (uC δ κ)) w:=
  {B:=rfl,size:=aP _
   N:=fun b _ hN=>⟨⟨hN.1,fun j hj e=>by
    obtain⟨h1,h2⟩:=gy e
    exact hN.2 j h1 h2⟩,rfl⟩
   Lr:=fun j hj=>⟨(nq j).2 ⟨hj.2,hj.1⟩,iW (DS.gI hj.1),fun _ _=>rfl⟩
   Lb:=fun j hj=>⟨vy j hj,iW (DS.lW hj)⟩}
 have F:∀{v:Value} {av:AV},RA (δ.cx g κ) w v av→RA ((qb δ i).cx g (uC δ κ)) w v (AV.s_ i av):=by
  intro v av h
  refine RA.mp G rfl (fun j e k fc hj=>?_) (fun j e k fc n hj=>?_) (fun v e k fc ho=>?_) (fun b cap e k fc n _ _=>?_) h
  ·simp only[K2,mo (Ne.symm hj)];rfl
  ·simp only[K2,mo (Ne.symm hj)];rfl
  ·simp only[K2,oq]
   exact .pv ((RA.own ho).s_ lB (by rw[wM,if_pos rfl]))
  ·simp only[K2,oq];exact .any _
 refine⟨uC δ κ,?_⟩
 exact
  {n:=r.n
   dfr:=r.dfr
   env:=fun j=>by rw[NB];exact F (r.env j)
   obj:=fun j o h=>by
    rw[wM] at h
    by_cases e:i=j
    ·rw[if_pos e] at h;cases h
    ·rw[if_neg e] at h
     cases ho:δ.ob j with
     |none=>rw[ho] at h;simp at h
     |some o'=>
      rw[ho] at h
      simp only[bq,Option.some.injEq] at h
      subst h
      have h0:=r.obj j o' ho
      have hκ:uC δ κ j=κ j:=iW ⟨_,ho⟩
      cases o' with
      |row=>intro b hb;exact h0 b (hκ.symm.trans hb)
      |box cs=>
       obtain⟨b,c,e',h1,h2,h3,h4⟩:=h0
       refine⟨b,c,e',hκ.trans h1,h2,by simpa using h3,fun k u av h5 h6=>?_⟩
       simp only[a7,bg] at h6
       obtain⟨av',h6,rfl⟩:=h6
       exact⟨F (h4 k u av' h5 h6).1,(h4 k u av' h5 h6).2⟩
      |mp l=>
       obtain⟨b,es,clock,h1,h2,h3,h4⟩:=h0
       exact⟨b,es,clock,hκ.trans h1,h2,⟨h3.1,fun k e' p h5 h6=>⟨(h3.2 k e' p h5 h6).1,G.ra ((h3.2 k e' p h5 h6).2.less (h4.2 p (aU h6)))⟩⟩,h4⟩
      |mpl l kk v=>
       obtain⟨b,es,clock,h1,h2,h3,h4⟩:=h0
       exact⟨b,es,clock,hκ.trans h1,h2,h3.last (fun u p hp h=>G.ra (h.less (h4.2 p hp))) (fun u h=>F h),h4⟩
      |it l seen=>
       obtain⟨b,h1,h2⟩:=h0
       exact⟨b,hκ.trans h1,h2.mono G.size G.N rfl⟩
      |lit T vals=>obtain⟨b,h1,h2⟩:=h0;exact⟨b,hκ.trans h1,h2⟩
      |ff e rows=>exact⟨hκ.trans h0.1,fun k=>(h0.2.1 k).goes rfl fun b _ h2 _=>⟨h2,rfl⟩,h0.2.2⟩
      |loop l tm ps jf body st=>
       obtain⟨b,lr,h1,h2⟩:=h0
       exact⟨b,lr,hκ.trans h1,h2⟩
   inj:=fun j m b _ _ h3 h4=>r.inj j m b (gy h3).1 (gy h4).1 (gy h3).2 (gy h4).2
   lo:=fun j b _ h2=>r.lo j b (gy h2).1 (gy h2).2
   nx:=fun j h=>r.nx j (fS j h).2
   wt:=fun k hk=>⟨(r.wt k hk).1,fun j b _ hj hb=>by
    obtain⟨hl,hκ⟩:=gy hb
    exact(r.wt k hk).2 j b hl (hj.imp (fun h=>((nq j).1 h).2) id) hκ⟩
   below:=r.below
   hB:=r.hB
   N0:=r.N0
   km:=r.km
   fr:=r.fr.sub fun j b _ h2=>⟨j,(gy h2).1,(gy h2).2⟩}
mutual
def AV.fo:AV→Option Nat
 |.own i _ _ _=>some i
 |.agg cs=>AV.Su cs
 |.gM cs=>AV.Su cs
 |_=>none
def AV.Su:List AV→Option Nat
 |[]=>none
 |v::r=>match AV.fo v with|some i=>some i|none=>AV.Su r
end
theorem a_.freeze (i:Nat) {l:List Oper} (hi:δ.ob i=some .row) (hK:a_ .plain P g ops l Q (qb δ i)):a_ .plain P g ops l Q δ:=by
 intro κ a w r
 obtain⟨κ',r'⟩:=r.freeze hi
 exact hK κ' a w r'
theorem a_.Jn {t:TypeId} {n i:Nat} {parts:List (Nat×Operand)} (h:AV.Su (Nf.Ar δ.env (parts.map (·.2)))=some i) (hi:δ.ob i=some .row) (hK:a_ .plain P g ops (⟨dst,.buildSlice t n parts.toArray,ty,pos,af,none⟩::rest) Q (qb δ i)):
  a_ .plain P g ops (⟨dst,.buildSlice t n parts.toArray,ty,pos,af,none⟩::rest) Q δ:=a_.freeze i hi hK
theorem a_.M9 {x:Operand} {i:Nat} {xs:List Operand} {tys:Array TypeId} (h:AV.Su (Nf.Ar δ.env xs)=some i) (hi:δ.ob i=some .row) (hK:a_ .plain P g ops (⟨dst,.call {callee:=.value x,args:=xs.toArray,argTypes:=tys},ty,pos,af,none⟩::rest) Q (qb δ i)):
  a_ .plain P g ops (⟨dst,.call {callee:=.value x,args:=xs.toArray,argTypes:=tys},ty,pos,af,none⟩::rest) Q δ:=a_.freeze i hi hK
namespace Nf
variable {n x:Nat} {e:List (Nat×AV)} {o:List (Nat×Option Ob)} (i j:Nat)
theorem fd:qb ⟨n,e,o,x⟩ i=⟨n,D1 (AV.s_ i) e,(i,none)::mz (AV.s_ i) o,x⟩:=by
 unfold qb
 rw[mv];rfl
theorem TF:AV.s_ i .any=.any:=rfl
theorem Yl (p:PV):AV.s_ i (.pv p)=.pv p:=rfl
theorem Te (a b:Nat):AV.s_ i (.ptr a b)=.ptr a b:=rfl
theorem QB (c:List PV):AV.s_ i (.gp c)=.gp c:=rfl
theorem PH (a:Nat):AV.s_ i (.gz a)=.gz a:=rfl
theorem SB (a:Nat):AV.s_ i (.kZ a)=.kZ a:=rfl
theorem SE (e k fc):AV.s_ i (.own j e k fc)=bif aL i j then .pv (.slice k fc) else .own j e k fc:=rfl
theorem Py (e k fc m):AV.s_ i (.gN j e k fc m)=bif aL i j then .any else .gN j e k fc m:=rfl
theorem Se (cs:List AV):AV.s_ i (.agg cs)=.agg (lM (AV.s_ i) cs):=by
 show AV.mp _ _=_
 rw[AV.mp,AV.jG,lT];rfl
theorem SS (cs:List AV):AV.s_ i (.gM cs)=.gM (lM (AV.s_ i) cs):=by
 show AV.mp _ _=_
 rw[AV.mp,AV.jG,lT];rfl
theorem SX (fn:Go.Fn) (cs ds:List AV):AV.s_ i (.jJ fn cs ds)=.jJ fn (lM (AV.s_ i) cs) (lM (AV.s_ i) ds):=by
 show AV.mp _ _=_
 rw[AV.mp,AV.jG,AV.jG,lT,lT];rfl
end Nf
end Go.Ab
/- Arguments read as data,told as values. -/
namespace Go.Ab
open Go Go.RowKit
variable {P:Program}
def Reads (w:World) (cs:List Value) (ps:List PV):Prop:=cs.length=ps.length∧∀(j:Nat) (c:Value) (p:PV),cs[j]? =some c→ps[j]? =some p→RP (fun _=>True) w c p∧c.oneCell'=true
theorem Reads.one {w:World} {c:Value} {p:PV} (h:RP (fun _=>True) w c p) (h1:c.oneCell'=true):Reads w [c] [p]:=
 ⟨rfl,fun j c' p' h2 h3=>by
  cases j with
  |zero=>simp at h2 h3;subst h2;subst h3;exact⟨h,h1⟩
  |succ j=>simp at h2⟩
theorem Reads.nil {w:World}:Reads w [] []:=⟨rfl,fun j c p h=>by simp at h⟩
theorem Reads.append {w:World} {cs cs':List Value} {ps ps':List PV} (h:Reads w cs ps) (h':Reads w cs' ps'):Reads w (cs++cs') (ps++ps'):=by
 refine⟨by simp [h.1,h'.1],fun j c p h1 h2=>?_⟩
 by_cases hj:j<cs.length
 ·rw[aT hj] at h1
  rw[aT (by rw[← h.1];exact hj)] at h2
  exact h.2 j c p h1 h2
 ·rw[aV aJ] at h1
  rw[aV (by rw[← h.1];omega),← h.1] at h2
  exact h'.2 _ c p h1 h2
def Rd (P:Program) (t:TypeId) {α:Type} (enc:α→List PV) (ok:α→Prop):Prop:=
 ∀{H:Type} (en:TypeId×Value→H) (w:World) (sp:Nat→Bool) (fuel:Nat) (cs:List Value) (x:DataW H×List MemPlace),DataW.trod en P w 0 sp true fuel t cs=some x→
  (∀n∈x.1.weights P t,n≤reachBytes)→∃a:α,Reads w cs (enc a)∧ok a
theorem Rd.int {t:TypeId} {k:IntKind} (ht:P.underlying t=some (.int k)):Rd P t (fun n:Int=>[.lit (.int k n)]) (fun n=>(Lit.int k n).wf=true):=by
 intro H en w sp fuel cs x h _
 obtain⟨n,rfl,_,hw⟩:=DataW.trod_int ht h
 exact⟨n,.one (.lit _) rfl,hw⟩
theorem Rd.bool {t:TypeId} (ht:P.underlying t=some .bool):Rd P t (fun b:Bool=>[.lit (.bool b)]) (fun _=>True):=by
 intro H en w sp fuel cs x h _
 obtain⟨b,rfl,_⟩:=DataW.trod_bool ht h
 exact⟨b,.one (.lit _) rfl,trivial⟩
theorem Rd.string {t:TypeId} (ht:P.underlying t=some .string):Rd P t (fun s:ByteArray=>[.lit (.string s)]) (fun s=>s.size≤reachBytes):=by
 intro H en w sp fuel cs x h hw
 obtain⟨s,rfl,rfl,hs⟩:=DataW.trod_string ht h
 exact⟨s,.one (.lit _) rfl,by have:=hw s.data.toList.length (by simp [DataW.weights]);simpa using this⟩
theorem pX {H:Type} {e:TypeId}:∀{ds:List (DataW H)} {d:DataW H},d∈ds→∀n∈d.weights P e,n∈DataW.weightsAll P e ds
 |d0::ds,d,h,n,hn=>by
  simp only[DataW.weightsAll,bW]
  rcases bu.1 h with rfl|h
  ·exact .inl hn
  ·exact .inr (pX h n hn)
theorem mapM_at {α β:Type} {f:α→Option β}:∀{l:List α} {r:List β},l.mapM f=some r→r.length=l.length∧∀(j:Nat) (x:α),l[j]? =some x→f x=r[j]?:=by
 intro l
 induction l with
 |nil=>intro r h;simp at h;subst h;simp
 |cons x l ih=>
  intro r h
  rw[List.mapM_cons] at h
  cases hx:f x with
  |none=>rw[hx] at h;simp at h
  |some y=>
   rw[hx] at h
   cases hl:l.mapM f with
   |none=>rw[hl] at h;simp at h
   |some r'=>
    rw[hl] at h
    simp at h
    subst h
    obtain⟨h1,h2⟩:=ih hl
    refine⟨by simp [h1],fun j z hz=>?_⟩
    cases j with
    |zero=>simp at hz;subst hz;simp [hx]
    |succ j=>simp at hz;simpa using h2 j z hz
theorem wU {w:World} {a:Addr} {n:Nat} {cs:List Value} (h:w.cells? 0 a n=some cs):cs.length=n∧∀j,j<n→w.cell? (a.add j)=cs[j]?:=by
 unfold World.cells? at h
 rw[if_pos (bk _)] at h
 obtain⟨h1,h2⟩:=mapM_at h
 refine⟨by simpa using h1,fun j hj=>?_⟩
 exact h2 j j (by simp [hj])
theorem GU {w:World} {ad:Addr} {v:Value} (h:w.cell? ad=some v):ad.spot=none:=World.cell?_spot h
theorem Rd.slice {α:Type} {t e:TypeId} {k by':Nat} {enc:α→List PV} {ok:α→Prop} (ht:P.underlying t=some (.slice e)) (hk:P.cellsOf e=k) (nU:0<k) (hb:P.bytesOf e=by') (x4:0<by') (OL:∀a,(enc a).length=k) (h:Rd P e enc ok):
  Rd P t (fun l:List α=>[.slice k (l.map enc)]) (fun l=>l.length*by'≤reachBytes∧∀a∈l,ok a):=by
 intro H en w sp fuel cs x hx hw
 rcases DataW.trod_slice ht hx with ⟨rfl,rfl⟩|⟨a,len,cap,elems,rest,n,rfl,rfl,rfl,_,Oy,FC,Rs,s7,_,_⟩
 ·refine⟨[],.one (th k) rfl,by simp,by simp⟩
 ·have A5:(elems.length+rest.length)*by'≤reachBytes:=by
   have:=hw ((elems.length+rest.length)*by') (by simp [DataW.weights,ht,hb])
   exact this
  have Wr:elems.length*by'≤reachBytes:=Nat.le_trans (bR _ aJ) A5
  have hlen:elems.length≤140737488355328:=by
   have h1:elems.length*1≤elems.length*by':=Nat.mul_le_mul_left _ x4
   have h2:reachBytes≤140737488355328:=by decide
   omega
  -- the elements,one by one
  have key:∀i,i<len→∃c a',w.cells? 0 (a.add (i*k)) k=some c∧Reads w c (enc a')∧ok a':=by
   intro i hi
   have h1:=s7 i hi
   rw[hk] at h1
   have rJ:i<elems.length:=by omega
   rw[a8 rJ] at h1
   cases hc:w.cells? 0 (a.add (i*k)) k with
   |none=>rw[hc] at h1;simp at h1
   |some c=>
    rw[hc,bH] at h1
    obtain⟨a',h2,h3⟩:=h en w sp n c elems[i] h1 (fun m hm=>hw m (by
     simp only[DataW.weights,ht,bu,bW]
     exact .inr (.inl (pX (bw.2 ⟨elems[i],List.getElem_mem rJ,rfl⟩) m hm))))
    exact⟨c,a',rfl,h2,h3⟩
  have UT:∃l:List α,l.length=len∧∀i (a':α),l[i]? =some a'→∃c,w.cells? 0 (a.add (i*k)) k=some c∧Reads w c (enc a')∧ok a':=by
   clear s7 hx Rs hw
   have:∀m,m≤len→∃l:List α,l.length=m∧∀i (a':α),l[i]? =some a'→∃c,w.cells? 0 (a.add (i*k)) k=some c∧Reads w c (enc a')∧ok a':=by
    intro m
    induction m with
    |zero=>intro _;exact⟨[],rfl,by simp⟩
    |succ m ih=>
     intro hm
     obtain⟨l,h1,h2⟩:=ih (by omega)
     obtain⟨c,a',h3,h4⟩:=key m (by omega)
     refine⟨l++ [a'],by simp [h1],fun i b hb=>?_⟩
     by_cases hi:i<l.length
     ·rw[aT hi] at hb;exact h2 i b hb
     ·rw[aV aJ] at hb
      have rJ:i=m:=by have:=(aW.1 hb).1;simp at this;omega
      subst rJ
      rw[h1] at hb
      simp at hb
      subst hb
      exact⟨c,h3,h4⟩
   exact this len (aP _)
  obtain⟨l,hl,G5⟩:=UT
  have hle:l.length=elems.length:=by omega
  refine⟨l,.one ?_ rfl,by rw[hle];exact Wr,fun b hb=>?_⟩
  ·have Na:l≠ []→a.spot=none:=by
    intro fZ
    obtain⟨b,l',rfl⟩:=cE fZ
    obtain⟨c,h1,h2,_⟩:=G5 0 b rfl
    obtain⟨h3,h4⟩:=wU h1
    have h5:=h4 0 nU
    rw[a8 aJ] at h5
    have h6:=GU h5
    simpa [Addr.add] using h6
   have yJ:l≠ []→a.block<w.heap.size:=by
    intro fZ
    obtain⟨b,l',rfl⟩:=cE fZ
    obtain⟨c,h1,h2,_⟩:=G5 0 b rfl
    obtain⟨h3,h4⟩:=wU h1
    have h5:=h4 0 nU
    rw[a8 aJ] at h5
    simp only[Nat.zero_mul,Addr.add,if_true] at h5
    unfold World.cell? at h5
    rcases cu a.block w.heap.size with fx|Cq
    ·exact fx
    ·rw[cv Cq] at h5;simp at h5
   obtain⟨bl,off,spot⟩:=a
   have jq:∀(i j:Nat) (p:PV),cellAt (l.map enc) i j=some p→∃c:Value,w.cell? ⟨bl,off+i*k+j,none⟩=some c∧RP (fun _=>True) w c p∧c.oneCell'=true:=by
    intro i j p hp
    unfold cellAt at hp
    rw[a7] at hp
    cases yz:l[i]? with
    |none=>rw[yz] at hp;simp at hp
    |some b=>
     rw[yz] at hp
     simp at hp
     have fZ:l≠ []:=by rintro rfl;simp at yz
     have ln:spot=none:=Na fZ
     subst ln
     obtain⟨c,h1,h2,_⟩:=G5 i b yz
     obtain⟨h3,h4⟩:=wU h1
     have hj:j<k:=by have:=(aW.1 hp).1;rw[OL] at this;exact this
     have h5:=h4 j hj
     rw[a8 aJ] at h5
     rw[addr_add,addr_add] at h5
     obtain⟨h6,h7⟩:=h2.2 j _ p (a8 aJ) hp
     exact⟨_,h5,h6,h7⟩
   refine .slice bl off (fun i j=>(w.cell? ⟨bl,off+i*k+j,none⟩).getD undef) (by simp [hl]) aJ aJ (fun fZ=>?_) (fun c hc=>?_) (fun i j p hp=>?_) (fun i j p hp=>?_)
   ·have S9:l≠ []:=by rintro rfl;simp at fZ
    have ln:spot=none:=Na S9
    subst ln
    exact⟨rfl,trivial,yJ S9⟩
   ·obtain⟨b,_,rfl⟩:=bw.1 hc;exact OL b
   ·obtain⟨c,h1,h2,h3⟩:=jq i j p hp
    rw[h1];exact⟨rfl,h3⟩
   ·obtain⟨c,h1,h2,h3⟩:=jq i j p hp
    rw[h1];exact h2
  ·obtain⟨i,hi⟩:=bz hb
   obtain⟨c,_,_,h3⟩:=G5 i b hi
   exact h3
def Nc (P:Program) (off n:Nat) (fs:List Field) {α:Type} (enc:α→List PV) (ok:α→Prop):Prop:=
 ∀{H:Type} (en:TypeId×Value→H) (w:World) (sp:Nat→Bool) (fuel:Nat) (cs:List Value) (xs:List (DataW H×List MemPlace)),xs.length=fs.length→
  (∀(i:Nat) (f:Field),fs[i]? =some f→DataW.trod en P w 0 sp true fuel f.type ((cs.drop f.offset).take (P.cellsOf f.type))=xs[i]?)→
  (∀m∈DataW.weightsEach P (fs.map (·.type)) (xs.map (·.1)),m≤reachBytes)→∃a:α,Reads w ((cs.drop off).take n) (enc a)∧ok a
theorem Nc.nil {off:Nat}:Nc P off 0 [] (fun _:Unit=>[]) (fun _=>True):=fun _ _ _ _ _ _ _ _ _=>⟨(),by simp;exact Reads.nil,trivial⟩
theorem Nc.cons {off k n:Nat} {f:Field} {fs:List Field} {α β:Type} {e1:α→List PV} {o1:α→Prop} {e2:β→List PV} {o2:β→Prop} (Xt:f.offset=off) (hk:P.cellsOf f.type=k) (h1:Rd P f.type e1 o1) (h2:Nc P (off+k) n fs e2 o2):
  Nc P off (k+n) (f::fs) (fun p:α×β=>e1 p.1++e2 p.2) (fun p=>o1 p.1∧o2 p.2):=by
 intro H en w sp fuel cs xs hl hx hw
 cases xs with
 |nil=>simp at hl
 |cons y ys=>
  have h3:=hx 0 f rfl
  obtain⟨a,ha,VS⟩:=h1 en w sp fuel _ y h3 (fun m hm=>hw m (by simp [DataW.weightsEach,hm]))
  obtain⟨b,hb,US⟩:=h2 en w sp fuel cs ys (by simpa using hl) (fun i f' hf=>by simpa using hx (i+1) f' (by simpa using hf)) (fun m hm=>hw m (by simp only[bA,DataW.weightsEach,bW];exact .inr hm))
  refine⟨(a,b),?_,VS,US⟩
  rw[Xt,hk] at ha
  have e:(cs.drop off).take (k+n)=(cs.drop off).take k++(cs.drop (off+k)).take n:=by
   rw[List.take_add,List.drop_drop]
  rw[e]
  exact ha.append hb
theorem Rd.struct {t:TypeId} {fs:Array Field} {n:Nat} {α:Type} {enc:α→List PV} {ok:α→Prop} (ht:P.underlying t=some (.struct fs)) (hn:P.cellsOf t=n) (h:Nc P 0 n fs.toList enc ok):Rd P t enc ok:=by
 intro H en w sp fuel cs x hx hw
 obtain⟨xs,m,rfl,rfl,jq,hl,s7⟩:=DataW.trod_struct ht hx
 obtain⟨a,ha,VS⟩:=h en w sp m cs xs (by simpa using hl) (fun i f hf=>s7 i f (by simpa using hf)) (fun k hk=>hw k (by simpa [DataW.weights,ht] using hk))
 rw[cB,cF aJ] at ha
 exact⟨a,ha,VS⟩
theorem Rd.map {t:TypeId} {α β:Type} {e1:α→List PV} {o1:α→Prop} {e2:β→List PV} {o2:β→Prop} (h:Rd P t e1 o1) (f:α→β) (he:∀a,e1 a=e2 (f a)) (ho:∀a,o1 a→o2 (f a)):Rd P t e2 o2:=by
 intro H en w sp fuel cs x hx hw
 obtain⟨a,h1,h2⟩:=h en w sp fuel cs x hx hw
 exact⟨f a,he a▸h1,ho a h2⟩
section
variable {H:Type} {en:TypeId×Value→H} {w:World} {sp:Nat→Bool} {t:TypeId} {v:Value} {d:DataW H} {ps:List MemPlace} {α:Type} {enc:α→List PV} {ok:α→Prop}
theorem Mj {p:α→PV} (h:Rd P t (fun a=>[p a]) ok) (ht:DataW.Trod en P w 0 sp true t v d ps) (hw:∀n∈d.weights P t,n≤reachBytes) (hv:v.cells.toList=[v]):∃a:α,RA (A_ fun _=>True) w v (.pv (p a))∧ok a:=by
 obtain⟨fuel,hf⟩:=ht
 obtain⟨a,h1,h2⟩:=h en w sp fuel _ _ hf hw
 rw[hv] at h1
 exact⟨a,.pv (h1.2 0 v (p a) rfl rfl).1,h2⟩
theorem Nt (h:Rd P t enc ok) (ht:DataW.Trod en P w 0 sp true t v d ps) (hw:∀n∈d.weights P t,n≤reachBytes) {cs:Array Value} (hv:v=.agg cs):∃a:α,RA (A_ fun _=>True) w v (.agg ((enc a).map .pv))∧ok a:=by
 subst hv
 obtain⟨fuel,hf⟩:=ht
 obtain⟨a,h1,h2⟩:=h en w sp fuel _ _ hf hw
 refine⟨a,.agg (by rw[List.length_map];exact h1.1) fun j u c h3 h4=>?_,h2⟩
 rw[a7,bg] at h4
 obtain⟨p,hp,rfl⟩:=h4
 exact .pv (h1.2 j u p (by simpa [Value.cells] using h3) hp).1
theorem okWide_struct {r:Reach} {b:Nat} {fs:Array Field} (ht:P.underlying t=some (.struct fs)) (h:Value.okWide P w r b t v):∃cs,v=.agg cs:=by
 unfold Value.okWide at h
 simp only[ht] at h
 obtain⟨cs,h,_⟩:=h
 exact⟨cs,h⟩
theorem CH {a:Option Addr} {l c:Nat}:(Value.slice a l c).cells.toList=[.slice a l c]:=rfl
end
theorem B4 {H:Type} {ts ts':List TypeId} {ds gs:List (DataW H)} (h:(DataW.weightsEach P (ts++ts') (ds++gs)).all (·≤reachBytes)=true) {j:Nat} {t:TypeId} {d:DataW H} (ht:(ts++ts')[j]? =some t) (hd:(ds++gs)[j]? =some d):∀n∈d.weights P t,n≤reachBytes:=by
 intro n hn
 have:=(bC.1 h) n (DataW.weights_mem_each ht hd n hn)
 simpa using this
end Go.Ab
/- Equality of pairs;bools compared. -/
namespace Go.Ab
open Go Go.RowKit
variable {q:Md} {P:Program} {g:e6} {δ:DS} {κ:Kp} {a:Act} {w:World}
variable {ops:Array Oper} {rest:List Oper} {Q:Exit→DS→Prop} {dst:Option Nat} {ty:TypeId} {pos:String} {af:Array Edge}
def Rw:List PV→List AV
 |[]=>[]
 |p::r=> .pv p::Rw r
theorem KD:∀l:List PV,l.map AV.pv=Rw l
 |[]=>rfl
 |p::r=>by rw[bA,KD r];rfl
theorem Nf.pl0:Rw []=[]:=rfl
theorem Nf.Zn (p:PV) (r:List PV):Rw (p::r)=.pv p::Rw r:=rfl
theorem Nf.pl:∀l:List PV,l.map AV.pv=Rw l:=KD
section
variable {α:Type} {f:α→List PV} {l:List α} {x y z:Operand} {t e:TypeId} {k:Nat} {m n:Int}
theorem a_.tG (hx:δ.ev x=.pv (.slice k (l.map f))) (hz:δ.ev z=e7 m) (ht:P.underlying t=some (.slice e)) (hk:(P.info? e).map (·.size)=some k)
  (ho:fq x=true) (Iw:fq z=true) (hd:fR δ.n dst=true) (h0:0≤m) (hn:m≤l.length) (hK:a_ q P g ops rest Q (δ.eY dst (.pv (.slice k ((l.drop m.toNat).map f))))):
  a_ q P g ops (⟨dst,.slice t x (some z) none none,ty,pos,af,none⟩::rest) Q δ:=
 a_.slice (l:=m.toNat) (h:=(l.map f).length) (hi:=none) (lo:=some z) hx ht hk ⟨Iw,by rw[hz,b8 h0]⟩ rfl (by simp;omega) (aP _) ho hd (by
  have:((l.map f).drop m.toNat).take ((l.map f).length - m.toNat)=(l.drop m.toNat).map f:=by
   rw[cF (by simp),List.map_drop]
  rw[this];exact hK)
end
end Go.Ab
/- Drawn regions:an operation under a guard that is known to hold,taken first. -/
namespace Go.Ab
open Go Go.RowKit
attribute [local irreducible] HS
variable {P:Program} {g:e6} {δ:DS} {l:List Oper} {late dn:List Nat} {k:Wt} {QD:Exit→DS→Prop}
end Go.Ab
/- The plain form's laws in one. -/
namespace Go.Ab
open Go Go.RowKit
set_option linter.defProp false in
def Nf.all:=And.intro @Nf.beq
 (And.intro @Nf.ble
 (And.intro @Nf.hs
 (And.intro @Nf.c_t
 (And.intro @Nf.c_f
 (And.intro @Nf.put
 (And.intro @Nf.Xi
 (And.intro @Nf.add
 (And.intro @Nf.set
 (And.intro @Nf.pn
 (And.intro @Nf.pe
 (And.intro @Nf.po
 (And.intro @Nf.px
 (And.intro @Nf.VJ
 (And.intro @Nf.Xn
 (And.intro @Nf.WJ
 (And.intro @Nf.Ud
 (And.intro @Nf.Sz
 (And.intro @Nf.start
 (And.intro @Nf.YM
 (And.intro @Nf.Zy
 (And.intro @Nf.tH
 (And.intro @Nf.NO
 (And.intro @Nf.Wn
 (And.intro @Nf.T_
 (And.intro @Nf.RG
 (And.intro @Nf.SH
 (And.intro @Nf.N4
 (And.intro @Nf.av0
 (And.intro @Nf.av1
 (And.intro @Nf.K6
 (And.intro @Nf.ae0
 (And.intro @Nf.ae1
 (And.intro @Nf.Ir
 (And.intro @Nf.sh0
 (And.intro @Nf.sh1
 (And.intro @Nf.ZJ
 (And.intro @Nf.Z8
 (And.intro @Nf.ow0
 (And.intro @Nf.ow1
 (And.intro @Nf.pa
 (And.intro @Nf.pa0
 (And.intro @Nf.SA
 (And.intro @Nf.round
 (And.intro @Nf.mv
 (And.intro @Nf.mE0
 (And.intro @Nf.mE1
 (And.intro @Nf.Z7
 (And.intro @Nf.Z_
 (And.intro @Nf.ZS
 (And.intro @Nf.mOn
 (And.intro @Nf.ZO
 (And.intro @Nf.mOb
 (And.intro @Nf.mOP (And.intro @Nf.mOt
 (And.intro @Nf.ZM
 (And.intro @Nf.mOq
 (And.intro @Nf.mOl
 (And.intro @Nf.mOi
 (And.intro @Nf.Ta
 (And.intro @Nf.Xd
 (And.intro @Nf.Sa
 (And.intro @Nf.Qi
 (And.intro @Nf.QU
 (And.intro @Nf.SN
 (And.intro @Nf.T0
 (And.intro @Nf.PR
 (And.intro @Nf.Si
 (And.intro @Nf.RR
 (And.intro @Nf.TX
 (And.intro @Nf.Qz
 (And.intro @Nf.R_
 (And.intro @Nf.QH
 (And.intro @Nf.P8
 (And.intro @Nf.Qv
 (And.intro @Nf.Lv
 (And.intro @Nf.Pd
 (And.intro @Nf.NN
 (And.intro @Nf.z8
 (And.intro @Nf.lo1
 (And.intro @Nf.ZU
 (And.intro @Nf.bko
 (And.intro @Nf.sst
 (And.intro @Nf.ll0
 (And.intro @Nf.ll1
 (And.intro @Nf.Z4
 (And.intro @Nf.Z6
 (And.intro @Nf.sn0
 (And.intro @Nf.sn1
 (And.intro @Nf.Zm
 (And.intro @Nf.cs1
 (And.intro @Nf.Xp
 (And.intro @Nf.Xl
 (And.intro @Nf.V2
 (And.intro @Nf.lp0
 (And.intro @Nf.sa0
 (And.intro @Nf.sa1
 (And.intro @Nf.sp0
 (And.intro @Nf.sp1
 (And.intro @Nf.fd
 (And.intro @Nf.TF
 (And.intro @Nf.Yl
 (And.intro @Nf.Te
 (And.intro @Nf.QB
 (And.intro @Nf.PH
 (And.intro @Nf.SB
 (And.intro @Nf.SE
 (And.intro @Nf.Py
 (And.intro @Nf.Se
 (And.intro @Nf.SS
 (And.intro @Nf.SX
 (And.intro @Nf.pl
 (And.intro @Nf.pl0 ((@Nf.Zn))))))))))))))))))))))))))))))))))))))))))))))))))))))))))))))))))))))))))))))))))))))))))))))))))))))))))))))))))
end Go.Ab
/- A number turned into an int. -/
namespace Go.Ab
open Go Go.RowKit
variable {P:Program} {g:e6} {δ:DS} {q:Md}
variable {ops:Array Oper} {rest:List Oper} {Q:Exit→DS→Prop} {dst:Option Nat} {ty:TypeId} {pos:String} {af:Array Edge}
end Go.Ab
/- One shifted left by a number;bool slices. -/
namespace Go.Ab
open Go Go.RowKit
variable {P:Program} {g:e6} {δ:DS} {q:Md}
variable {ops:Array Oper} {rest:List Oper} {Q:Exit→DS→Prop} {dst:Option Nat} {ty:TypeId} {pos:String} {af:Array Edge}
end Go.Ab
/- A slice made with make:a row of zeros. -/
namespace Go.Ab
open Go Go.RowKit
variable {P:Program} {g:e6} {δ:DS} {q:Md}
variable {ops:Array Oper} {rest:List Oper} {Q:Exit→DS→Prop} {dst:Option Nat} {ty:TypeId} {pos:String} {af:Array Edge}
theorem iQ.rm {gd:Option (Tmp×Bool)} {t e:TypeId} {x y:Operand} {m:Int} {z:Value} {by':Nat} (hx:δ.ev x=e7 m) (hy:δ.ev y=e7 m) (ht:P.underlying t=some (.slice e)) (hi:(P.info? e).map (fun i=>(i.size,i.zero,i.bytes))=some (1,some z,by')) (VD:z.cells= #[z]) (h1:z.oneCell'=true) (hb:bx by' 64=true)
  (ho:fq x=true) (f_:fq y=true) (hd:fR δ.n dst=true) (hm:0≤m∧m≤100000):
  iQ P g ⟨dst,.makeSlice t x y,ty,pos,af,gd⟩ δ ((δ.fN .row).eY dst (.own δ.nx e 1 (bY m.toNat [.lit z]))):=by
 intro κ a w r
 have iU:by'≤64:=by simpa using hb
 obtain⟨i0,jh,ln,mE,x4⟩:∃i0,P.info? e=some i0∧i0.size=1∧i0.zero=some z∧i0.bytes=by':=by
  cases h:P.info? e with
  |none=>rw[h] at hi;simp at hi
  |some i0=>rw[h] at hi;simp at hi;exact⟨i0,rfl,hi.1,hi.2.1,hi.2.2⟩
 have Lq:=r.lit hx ho
 have V_:=r.lit hy f_
 have V7:IntKind.i64.wrap m=m:=IntWalk.i64_in _ (by omega)
 generalize yb:((bL m.toNat).map (fun _=>z))=c'
 have n6:c'.size=m.toNat:=by rw[← yb];simp
 have hmul:by'*m.toNat≤6400000:=by
  have h1:by'*m.toNat≤64*m.toNat:=bR _ iU
  omega
 have S7:(by':Int)*m≤6400000:=by
  have:((by'*m.toNat:Nat):Int)≤6400000:=by omega
  rw[cG,b8 hm.1] at this
  exact this
 have fw:(execOp a.eval ⟨dst,.makeSlice t x y,ty,pos,af,gd⟩).run P w=.ok (.value (.slice (some ⟨w.heap.size,0,none⟩) m.toNat m.toNat)) (w.alloc (.cells c' e)):=by
  have me:∀w,(typeInfo e).run P w=.ok i0 w:=fun w=>by simp [typeInfo,jh]
  have C7:∀w,(zeroValue e).run P w=.ok z w:=fun w=>by simp [zeroValue,typeInfo,jh,mE]
  have Re:∀w,(sizeOf e).run P w=.ok 1 w:=fun w=>by simp [sizeOf,typeInfo,jh,ln]
  have has:∀w,(asInt (.int .i64 m)).run P w=.ok m w:=fun w=>by simp [asInt,asIntOf,Sem.run_bind,Sem.run_pure,Result.andThen_ok]
  have Ic:¬(by':Int)*m>2 ^ 48:=by
   have:(2:Int) ^ 48=281474976710656:=by decide
   omega
  have Ap:¬m<0:=by omega
  have ku:¬m.toNat*by'>roomBytes:=by
   have:(6400000:Nat)≤roomBytes:=by decide
   have h2:m.toNat*by'=by'*m.toNat:=bQ _ _
   omega
  have Wv:(bL (m.toNat*1)).map (fun j=>(#[z]:Array Value)[j % (#[z]:Array Value).size]!)=c':=by
   rw[← yb,cH]
   apply Array.ext
   ·simp
   ·intro i h1 h2
    simp [Nat.mod_one]
  simp only[execOp,Instr.makeSlice,Sem.run_bind,Result.andThen_ok,run_underlying ht,Lq,V_,has,me,x4,V7]
  simp only[decide_eq_false Ic,decide_eq_false Ap,cI,cJ,cK,decide_false,gt_iff_lt,ct,if_false,askRoom,Sem.run_pure,Result.andThen_ok,Sem.run_bind]
  have Dt:¬roomBytes<m.toNat*by':=ku
  simp only[if_neg Dt,Sem.run_pure,Result.andThen_ok,Re]
  by_cases h0:m.toNat*1=0
  ·have QV:(bL (m.toNat*1)).map (fun j=>(#[]:Array Value)[j % (#[]:Array Value).size]!)=c':=by
    rw[← yb,h0,show m.toNat=0 from by omega];simp [Array.range_zero']
   simp only[if_pos h0,Sem.run_bind,Sem.run_pure,Result.andThen_ok,newRow]
   simp only[pure_bind,QV]
   rfl
  ·simp only[if_neg h0,Sem.run_bind,Sem.run_pure,Result.andThen_ok,C7,newRow,VD,Wv]
   rfl
 have nC:m.toNat≤maxLen:=by simp only[maxLen];omega
 obtain⟨r',G⟩:=r.grow .row (.cells c' e) (fun C G hκ b hb=>by
  have:w.heap.size=b:=Option.some.inj (hκ.symm.trans hb)
  subst this
  exact⟨c',e,heap_alloc_new w _⟩)
 have gC:=World.ownsRow_lit (base:=g.B) (e:=e) (size:=1) w c' m.toNat r.hB nC (by rw[n6];omega)
 have s7:∀(j:Nat) (u:Value),c'.toList[j]? =some u→u=z:=by
  intro j u h
  rw[← yb] at h
  simp at h
  exact h.2.symm
 refine .inl ⟨_,_,_,_,fw,.inl rfl,r'.eY (fv hd) (.own ?_)⟩
 refine⟨by show(δ.fN .row).ob _=_;rw[fY,if_pos rfl],by rw[cL];omega,fun c hc=>by rw[List.eq_of_mem_replicate hc];rfl,fun b hb=>?_,c'.toList,by rw[cL];exact gC,fun u hu=>?_,fun i' j p mq=>?_⟩
 ·simp only[Value.ownBlock,Option.some.injEq] at hb
  subst hb
  show gT _ _ _ _=_
  simp [gT]
 ·obtain⟨j,hj⟩:=bz hu
  rw[s7 j u hj];exact h1
 ·unfold cellAt at mq
  have hi:i'<m.toNat:=by
   rcases cu i' m.toNat with h|h
   ·exact h
   ·rw[cD (by simpa using h)] at mq;simp at mq
  rw[List.getElem?_replicate,if_pos hi] at mq
  have hj:j=0∧p=.lit z:=by
   cases j with
   |zero=>simp at mq;exact⟨rfl,mq.symm⟩
   |succ j=>simp at mq
  obtain⟨rfl,rfl⟩:=hj
  refine⟨z,?_,.lit _⟩
  rw[bB,← yb]
  simp [hi]
end Go.Ab
namespace Go.Ab
open Go Go.RowKit
variable {P:Program} {g:e6} {δ:DS} {q:Md}
variable {ops:Array Oper} {rest:List Oper} {Q:Exit→DS→Prop} {dst:Option Nat} {ty:TypeId} {pos:String} {af:Array Edge}
theorem a_.rm {t e:TypeId} {x y:Operand} {m:Int} {z:Value} {by':Nat} (hx:δ.ev x=e7 m) (hy:δ.ev y=e7 m) (ht:P.underlying t=some (.slice e)) (hi:(P.info? e).map (fun i=>(i.size,i.zero,i.bytes))=some (1,some z,by')) (VD:z.cells= #[z]) (h1:z.oneCell'=true) (hb:bx by' 64=true)
  (ho:fq x=true) (f_:fq y=true) (hd:fR δ.n dst=true) (hm:0≤m∧m≤100000) (hK:a_ .plain P g ops rest Q ((δ.fN .row).eY dst (.own δ.nx e 1 (bY m.toNat [.lit z])))):
  a_ .plain P g ops (⟨dst,.makeSlice t x y,ty,pos,af,none⟩::rest) Q δ:=a_.qA rfl rfl (iQ.rm hx hy ht hi VD h1 hb ho f_ hd hm) hK
end Go.Ab
/- A store into an element of a row of the walk's own (elements of one cell). -/
namespace Go.Ab
open Go Go.RowKit
variable {P:Program} {g:e6} {δ:DS} {q:Md}
variable {ops:Array Oper} {rest:List Oper} {Q:Exit→DS→Prop} {dst:Option Nat} {ty:TypeId} {pos:String} {af:Array Edge}
def rO (i n:Nat) (c:List PV):AV→AV
 |.own j e k fc=>bif aL i j then (bif aL k 1 then .own j e k (fc.set n c) else .any) else .own j e k fc
 |.gN j e k fc m=>bif aL i j then .any else .gN j e k fc m
 |v=>v
def AV.mx (i n:Nat) (c:List PV):AV→AV:=AV.mp (rO i n c)
theorem iQ.gA {gd:Option (Tmp×Bool)} {x y:Operand} {t e:TypeId} {i idx:Nat} {fc:List (List PV)} {p:PV} (hx:δ.ev x=.gN i e 1 fc idx) (hy:δ.ev y=.pv p) (hr:δ.ob i=some .row) (ht:(P.info? t).map (·.size)=some 1) (h1:AV.one (.pv p)=true)
  (ho:fq x=true) (f_:fq y=true) (hd:fR δ.n dst=true):
  iQ P g ⟨dst,.store t x y,ty,pos,af,gd⟩ δ ((δ.gF (AV.mx i idx [p])).eY dst .any):=by
 intro κ a w r
 have Zg:=r.ra hx ho
 have uM:=r.ra hy f_
 have nH:=uM.one h1
 generalize Lq:a.eval x=u at Zg
 cases Zg with
 | @gN _ _ _ _ _ b cap hi h=>
  have hκ:κ i=some b:=h.vm b rfl
  obtain⟨xs,⟨uP,gD⟩,hxo,X2⟩:=h.row
  rcases gD with ⟨hn,_⟩|⟨g0,cap0,cur,hv,hg,h3,hle,FC,n6,qu⟩
  ·cases hn
  ·simp only[Value.slice.injEq,Option.some.injEq,Addr.mk.injEq] at hv
   obtain⟨⟨rfl,_⟩,_,rfl⟩:=hv
   have fw:(execOp a.eval ⟨dst,.store t x y,ty,pos,af,gd⟩).run P w=.ok .skip (w.setCell ⟨b,idx*1,none⟩ (a.eval y)):=by
    obtain⟨i0,jh,ln⟩:∃i0,P.info? t=some i0∧i0.size=1:=by
     cases h:P.info? t with
     |none=>rw[h] at ht;simp at ht
     |some i0=>rw[h] at ht;exact⟨i0,rfl,by simpa using ht⟩
    have hc:w.cell? ⟨b,idx*1,none⟩=some (cur[idx*1]'(by omega)):=by rw[cell_of h3,aN aJ]
    have jc:(store ⟨b,idx*1,none⟩ (a.eval y)).run P w=.ok () (w.setCell ⟨b,idx*1,none⟩ (a.eval y)):=by
     rw[run_store P w _ _ _ nH,hc];simp [mX h3]
    rw[cH] at jc ⊢
    rw[cH] at Lq
    simp [execOp,Instr.storeAt,Instr.sureAddr,storeVar,Lq,lK nH,sizeOf,typeInfo,jh,ln,storeCells,addr_add,jc]
   obtain⟨r',G⟩:=r.row hr (κ':=κ) (fun _ _=>rfl) (by rw[hκ];exact iw.setCell w ⟨b,idx*1,none⟩ (a.eval y)) (fun b' iU=>by
     have e1:b=b':=Option.some.inj (hκ.symm.trans iU)
     subst e1
     refine⟨.inl hκ,?_,_,_,kp h3 _⟩
     have:=(aO.1 (kp (off:=idx*1) h3 (a.eval y))).1
     exact this)
    (AV.mx i idx [p]) rfl (fun G v av Uf=>by
     refine Uf.mp G rfl (fun j e' k' els' hj=>?_) (fun j e' k' els' n hj=>?_) (fun v' e' k' els' Ln=>?_) (fun b' cap' e' k' els' n _ _=>?_)
     ·simp only[rO,mo (Ne.symm hj)];rfl
     ·simp only[rO,mo (Ne.symm hj)];rfl
     ·simp only[rO,oq,cond_true]
      cases Dc:aL k' 1 with
      |false=>exact .any _
      |true=>
       obtain rfl:k'=1:=aM Dc
       obtain⟨xs',⟨Uh,oB⟩,XR,Yc⟩:=Ln.row
       refine .own ⟨?_,by rw[cM];exact Ln.lim,?_,Ln.vm,xs'.set idx (a.eval y),?_,?_,?_⟩
       ·show(δ.gF _).ob i=_
        rw[kb,hr];rfl
       ·intro c hc
        rcases cN hc with hc|rfl
        ·exact Ln.hk c hc
        ·rfl
       ·rw[cM]
        refine⟨by rw[cM];exact Uh,?_⟩
        rcases oB with ⟨hn,h0⟩|⟨g1,cap1,cur1,Dd,Lg,X5,W6,Xh,Vr,Vm⟩
        ·exact .inl ⟨hn,h0⟩
        ·have Fu:κ i=some g1:=Ln.vm g1 (by rw[Dd];rfl)
         have e1:b=g1:=Option.some.inj (hκ.symm.trans Fu)
         subst e1
         rw[h3] at X5
         simp only[Option.some.injEq,Obj.cells.injEq] at X5
         obtain⟨rfl,rfl,_⟩:=X5
         refine .inr ⟨b,cap1,_,Dd,Lg,kp h3 _,W6,Xh,by simpa using Vr,?_⟩
         rw[← Vm,Array.toList_setIfInBounds,cH,cH,List.take_set]
       ·intro u hu
        rcases cN hu with hu|rfl
        ·exact XR u hu
        ·exact nH
       ·intro i' j q hq
        unfold cellAt at hq
        rw[bG] at hq
        by_cases OW:idx=i'
        ·subst OW
         by_cases fx:idx<els'.length
         ·rw[if_pos rfl,if_pos fx] at hq
          have hjq:j=0∧q=p:=by
           cases j with
           |zero=>simp at hq;exact⟨rfl,hq.symm⟩
           |succ j=>simp at hq
          obtain⟨rfl,rfl⟩:=hjq
          refine⟨a.eval y,?_,G.rp (C:=(δ.cx g κ).less i) uM.lP⟩
          rw[bG,if_pos aJ,if_pos aJ]
         ·rw[if_pos rfl,if_neg fx] at hq;simp at hq
        ·rw[if_neg OW] at hq
         obtain⟨u,hu,OH⟩:=Yc i' j q (by unfold cellAt;exact hq)
         have hj:j=0:=by
          rw[Option.bind_eq_some_iff] at hq
          obtain⟨c,EJ,O0⟩:=hq
          have:=Ln.hk c (aU EJ)
          have:=(aW.1 O0).1
          omega
         subst hj
         exact⟨u,by rw[bG,if_neg aJ];exact hu,G.rp (C:=(δ.cx g κ).less i) OH⟩
     ·simp only[rO,oq,cond_true];exact .any _)
   exact .inl ⟨_,_,_,_,fw,.inr ⟨rfl,rfl⟩,r'.eY (fv hd) (.any _)⟩
theorem a_.gA {x y:Operand} {t e:TypeId} {i idx:Nat} {fc:List (List PV)} {p:PV} (hx:δ.ev x=.gN i e 1 fc idx) (hy:δ.ev y=.pv p) (hr:δ.ob i=some .row) (ht:(P.info? t).map (·.size)=some 1) (h1:AV.one (.pv p)=true)
  (ho:fq x=true) (f_:fq y=true) (hd:fR δ.n dst=true) (hK:a_ .plain P g ops rest Q ((δ.gF (AV.mx i idx [p])).eY dst .any)):a_ .plain P g ops (⟨dst,.store t x y,ty,pos,af,none⟩::rest) Q δ:=
 a_.qA rfl rfl (iQ.gA hx hy hr ht h1 ho f_ hd) hK
end Go.Ab
/- A field of an element of a row of the walk's own,read;a store of a whole element of several cells into such a row. -/
namespace Go.Ab
open Go Go.RowKit
variable {P:Program} {g:e6} {δ:DS} {q:Md}
variable {ops:Array Oper} {rest:List Oper} {Q:Exit→DS→Prop} {dst:Option Nat} {ty:TypeId} {pos:String} {af:Array Edge}
inductive Ek:Bool→List AV→List AV→Prop
 |nil:Ek false [] []
 |here {b:Bool} {vs vs':List AV} (h:Ek b vs vs'):Ek true (.pv (.lit (.slice none 0 0))::vs) (.pv (.slice 1 [])::vs')
 |skip {b:Bool} {v:AV} {vs vs':List AV} (h:Ek b vs vs'):Ek b (v::vs) (v::vs')
theorem OX {C:Cx} {w:World} {v:Value} (h:RA C w v (.pv (.lit (.slice none 0 0)))) (k:Nat):RA C w v (.pv (.slice k [])):=by
 have h1:=h.lit
 subst h1
 exact .pv (.slice 0 0 (fun _ _=>undef) rfl (by simp) (by simp) (fun h=>absurd rfl h) (fun c hc=>by simp at hc) (fun i j p hp=>by simp [cellAt] at hp) (fun i j p hp=>by simp [cellAt] at hp))
theorem Ek.ra {C:Cx} {w:World} {b:Bool} {vs vs':List AV} (h:Ek b vs vs'):vs.length=vs'.length∧∀(j:Nat) (u:Value) (c c':AV),vs[j]? =some c→vs'[j]? =some c'→RA C w u c→RA C w u c':=by
 induction h with
 |nil=>exact⟨rfl,fun j u c c' h=>by simp at h⟩
 |here h ih=>
  refine⟨by simp [ih.1],fun j u c c' h1 h2 h3=>?_⟩
  cases j with
  |zero=>simp at h1 h2;subst h1;subst h2;exact OX h3 1
  |succ j=>exact ih.2 j u c c' (by simpa using h1) (by simpa using h2) h3
 |skip h ih=>
  refine⟨by simp [ih.1],fun j u c c' h1 h2 h3=>?_⟩
  cases j with
  |zero=>simp at h1 h2;subst h1;subst h2;exact h3
  |succ j=>exact ih.2 j u c c' (by simpa using h1) (by simpa using h2) h3
theorem a_.yZ {x y:Operand} {t e:TypeId} {k:Nat} {m:Int} {ik:IntKind} {fc:List (List PV)} {cs:List PV} (hx:δ.ev x=.pv (.slice k fc)) (hy:δ.ev y=.pv (.lit (.int ik m))) (hn:fc[m.toNat]? =some cs)
  (ht:P.underlying t=some (.slice e)) (hk:(P.info? e).map (·.size)=some k) (ho:fq x=true) (f_:fq y=true) (hd:fR δ.n dst=true) (h0:0≤m)
  (hK:a_ q P g ops rest Q (δ.eY dst (.gp cs))):a_ q P g ops (⟨dst,.indexAddr t x y,ty,pos,af,none⟩::rest) Q δ:=
 a_.CK (n:=m.toNat) hx (by rw[hy,b8 h0]) hn ht hk ho f_ hd hK
def mn (i:Nat):List Nat→Bool
 |[]=>false
 |j::r=>bif i==j then true else mn i r
def qV (ks:List Nat):List (Nat×AV)→List (Nat×AV)
 |[]=>[]
 |(i,v)::r=>bif mn i ks then (i,v)::qV ks r else qV ks r
theorem RX (ks:List Nat):qV ks []=[]:=rfl
theorem Od (ks:List Nat) (i:Nat) (v:AV) (r:List (Nat×AV)):qV ks ((i,v)::r)=bif mn i ks then (i,v)::qV ks r else qV ks r:=rfl
theorem BR (i:Nat):mn i []=false:=rfl
theorem wL (i j:Nat) (r:List Nat):mn i (j::r)=bif i==j then true else mn i r:=rfl
theorem yK (ks:List Nat):∀(e:List (Nat×AV)) (j:Nat),look (qV ks e) j=if mn j ks=true then look e j else .any
 |[],j=>by simp [qV,look]
 |(i,v)::r,j=>by
  rw[Od]
  have ih:=yK ks r j
  cases hm:mn i ks with
  |true=>
   rw[cond_true,fH,fH]
   by_cases e:i=j
   ·subst e;rw[if_pos rfl,if_pos rfl,if_pos hm]
   ·rw[if_neg e,if_neg e,ih]
  |false=>
   rw[cond_false,fH,ih]
   by_cases e:i=j
   ·subst e;rw[if_neg (by rw[hm];simp),if_neg (by rw[hm];simp)]
   ·rw[if_neg e]
theorem AW.Oj (id m:Nat) (ks:List Nat) {b:Bool} {l:Array Oper} (_h:aY m δ.env.length=true) (hK:AW P g (.region id l b) Q {δ with env:=qV ks δ.env}):AW P g (.region id l b) Q δ:=by
 intro κ a w r
 refine hK κ a w ?_
 exact
  {n:=r.n,dfr:=r.dfr
   env:=fun j=>by
    show RA _ w _ (look (qV ks δ.env) j)
    rw[yK]
    split
    ·exact r.env j
    ·exact .any _
   obj:=r.obj,inj:=r.inj,lo:=r.lo,nx:=r.nx,wt:=r.wt,below:=r.below,hB:=r.hB,N0:=r.N0,fr:=r.fr,km:=r.km}
theorem fO.QT {gd:Option (Tmp×Bool)} {t:TypeId} {parts:List (Nat×Operand)} {fs:Array Field} {z:Value} {cells:List AV} (hs:P.underlying t=some (.struct fs)) (hz:(P.info? t).bind (·.zero)=some z) (h1:z.cells.toList.all (·.oneCell')=true) (iT:fs.toList.all (fun f=>(P.info? f.type).isSome)=true)
  (ho:parts.all (fun p=>fq p.2)=true) (hf:jz (placeOf P fs) (z.cells.toList.map fun v=> .pv (.lit v)) (parts.map fun p=>(p.1,δ.ev p.2))=some cells):
  fO P ⟨dst,.build t parts.toArray,ty,pos,af,gd⟩ δ (.agg cells):=by
 intro g κ a w r
 obtain⟨i0,jh,mE⟩:∃i0,P.info? t=some i0∧i0.zero=some z:=by
  cases h:P.info? t with
  |none=>rw[h] at hz;simp at hz
  |some i0=>rw[h] at hz;exact⟨i0,rfl,by simpa using hz⟩
 have K7:=fun w1=>run_places (P:=P) fs.toList w1 #[] iT
 obtain⟨c',h2,h3⟩:=o8 (C:=δ.cx g κ) (w:=w) (place:=placeOf P fs) (place':=fun i=>((#[]:Array (Nat×Nat))++(fs.toList.map fun f=>(f.offset,((P.info? f.type).map (·.size)).getD 0)).toArray)[i]?)
  (fun i x h=>by
   unfold placeOf at h
   cases Mw:fs[i]? with
   |none=>rw[Mw] at h;simp at h
   |some f=>
    rw[Mw] at h
    simp only[bH,bg] at h
    obtain⟨ii,h4,rfl⟩:=h
    simp [Mw,h4])
  (parts.map fun p=>(p.1,a.eval p.2)) (parts.map fun p=>(p.1,δ.ev p.2)) z.cells _ cells (by simp) (fun j x y h4 h5=>by
   simp only[a7,bg] at h4 h5
   obtain⟨p,h6,rfl⟩:=h4
   obtain⟨p',h7,rfl⟩:=h5
   rw[h6] at h7;cases h7
   exact⟨rfl,r.EY p.2 (iV (by simpa using (bC.1 ho) p (aU h6)))⟩)
  ⟨by simp,fun j u av h4 h5=>by
   simp only[a7,bg] at h5
   obtain⟨v,h5,rfl⟩:=h5
   have:v=u:=by have:=h4;rw[← bB,h5] at this;exact Option.some.inj this
   subst this
   exact⟨.pv (.lit _),by simpa using (bC.1 h1) _ (aU h5)⟩⟩ hf
 refine⟨.agg c',fun w1=>?_,.agg h3.1 fun j u c h4 h5=>(h3.2 j u c h4 h5).1⟩
 have Q1:(fs.mapM fun(f:Field)=>(do pure (f.offset,← sizeOf f.type):Sem (Nat×Nat)))=fs.toList.foldlM (fun(acc:Array (Nat×Nat)) (f:Field)=>do let s ← sizeOf f.type;pure (acc.push (f.offset,s))) #[]:=by
  rw[Array.mapM_eq_foldlM,← Array.foldlM_toList]
  congr 1
  funext acc f
  simp
 have C7:∀w,(zeroValue t).run P w=.ok z w:=fun w=>by simp [zeroValue,typeInfo,jh,mE]
 simp only[execOp,Instr.build,Sem.run_bind,C7,Result.andThen_ok,run_underlying hs,Q1,K7,bn,h2,Sem.run_pure]
theorem fO.build (t:TypeId) (p7:List Nat) {gd:Option (Tmp×Bool)} {l:List Value} {parts:List (Nat×Operand)} {fs:Array Field} {z:Value} {cells:List AV} (hs:P.underlying t=some (.struct fs)) (hz:(P.info? t).bind (·.zero)=some z) (hl:z.cells=l.toArray) (h1:z.cells.toList.all (·.oneCell')=true) (iT:fs.toList.all (fun f=>(P.info? f.type).isSome)=true)
  (ho:parts.all (fun p=>fq p.2)=true) (ru:((parts.map fun p=>(p.1,δ.ev p.2)).map fun p=>(placeOf P fs p.1).map (·.1))=p7.map some) (hf:jz (placeOf P fs) (z.cells.toList.map fun v=> .pv (.lit v)) (parts.map fun p=>(p.1,δ.ev p.2))=some cells):
  fO P ⟨dst,.build t parts.toArray,ty,pos,af,gd⟩ δ (.agg (tn (BQ l) (sU δ.env p7 parts))):=by
 have h2:=fO.QT (gd:=gd) (dst:=dst) (ty:=ty) (pos:=pos) (af:=af) hs hz h1 iT ho hf
 have:=tL _ p7 _ cells hf ru
 rw[Az,hl,cC,vr] at this
 rw[← this]
 exact h2
end Go.Ab
/- The rest of a row of statements walked once,from a weaker state. -/
namespace Go.Ab
open Go Go.RowKit
variable {P:Program} {g:e6} {δ δc:DS} {Q:Exit→DS→Prop} {c rest:Code}
theorem AW.cut (h:AW P g c (jY fun δ'=>nV g δ' δc) δ) (hK:AW P g rest Q δc):AW P g (.seq c rest) Q δ:=by
 refine AW.seq (AW.mono h fun e δ' h1=>?_)
 cases e with
 |normal=>exact AW.fy h1 hK
 |_=>exact h1.elim
end Go.Ab
namespace Go.Ab
open Go Go.RowKit
end Go.Ab
/- The address of an array's element. -/
namespace Go.Ab
open Go Go.RowKit
variable {P:Program} {g:e6} {δ:DS} {q:Md}
variable {ops:Array Oper} {rest:List Oper} {Q:Exit→DS→Prop} {dst:Option Nat} {ty:TypeId} {pos:String} {af:Array Edge}
theorem a_.vP {α:Type} {x y:Operand} {t e e':TypeId} {i k n:Nat} {f:α→List PV} {l:List α} (hx:δ.ev x=.own i e' k (l.map f)) (hy:δ.ev y=e7 (n:Nat))
  (ht:P.underlying t=some (.slice e)) (hk:(P.info? e).map (·.size)=some k) (ho:fq x=true) (f_:fq y=true) (hd:fR δ.n dst=true) (hn:n<l.length)
  (hK:a_ q P g ops rest Q (δ.eY dst (.gN i e' k (l.map f) n))):a_ q P g ops (⟨dst,.indexAddr t x y,ty,pos,af,none⟩::rest) Q δ:=
 a_.qF (n:=n) hx hy (by simp;omega) ht hk ho f_ hd hK
end Go.Ab
namespace Go.Ab
open Go Go.RowKit
attribute [local irreducible] HS
variable {P:Program} {g:e6} {δ:DS} {l:List Oper} {late dn:List Nat} {k:Wt} {QD:Exit→DS→Prop}
section
variable {q:Md} {P:Program} {g:e6} {δ:DS} {ops:Array Oper} {f:DS→Prop} {Q:Exit→DS→Prop} {y:Code}
theorem a_.Yo (h:f δ):a_ q P g ops [] (ga f Q) δ:=a_.nil (gO h)
theorem AW.Vo {id:Nat} {l:List Oper} (h:a_ .plain P g l.toArray l (ga (AW P g y Q) Q) δ):AW P g (.seq (.region id l.toArray false) y) Q δ:=AW.seq (AW.region h)
end
end Go.Ab
/- A slice held against nil;a slice made with room and no element. -/
namespace Go.Ab
open Go Go.RowKit
variable {P:Program} {g:e6} {δ:DS} {q:Md}
theorem a_.Vd {ι:Type} {ops:Array Oper} {o:Oper} {rest:List Oper} {Q:Exit→DS→Prop} (v:ι→AV) (φ:ι→Prop) (hg:o.guard=none) (jy:jP o=true) (hd:fR δ.n o.dst=true)
  (h:∀κ a w,Rel g δ κ a w→∃i,φ i∧∃u,(∀w',kX δ κ w w'→(execOp a.eval o).run P w'=.ok (.value u) w')∧RA (δ.cx g κ) w u (v i)) (hK:∀i,φ i→a_ q P g ops rest Q (δ.eY o.dst (v i))):a_ q P g ops (o::rest) Q δ:=by
 intro κ a w r
 obtain⟨i,hi,u,h1,h2⟩:=h κ a w r
 have yN:=hK i hi κ _ _ (r.eY (fv hd) h2)
 cases q with
 |quiet=>
  show wpQuiet P ops _ _ (o::rest) a
  unfold wpQuiet
  rw[if_pos (by simp [Region.wanted,hg])]
  refine⟨u,fun w' j5=>?_,yN⟩
  unfold Oper.quietAt
  rw[h1 w' (kX.BA j5)]
  exact⟨rfl,rfl⟩
 |held=>
  show xd P ops _ _ (o::rest) a
  refine⟨u,.inl ⟨by simp [Region.wanted,hg],fun w' j5=>h1 w' j5⟩,?_⟩
  ·have hH:kX (δ.eY o.dst (v i)) κ w=kX δ κ w:=by unfold kX;rw[vE]
   simp only[hH,qG] at yN
   exact yN
 |plain=>
  show wpListIn _ _ P ops _ (o::rest) a w
  refine gV hg jy fun K oS=>?_
  unfold Oper.Ac
  rw[h1 w (kX.refl _ _ _),Oper.uponIn_value]
  exact oS _ _ yN
variable {ops:Array Oper} {rest:List Oper} {Q:Exit→DS→Prop} {dst:Option Nat} {ty:TypeId} {pos:String} {af:Array Edge}
theorem ry {t e:TypeId} (ht:P.underlying t=some (.slice e)) (x y:Operand) (b:Option Addr) (n c:Nat) (w:World):
  (do eqGuard .eql t x y (.slice b n c) (.slice none 0 0);Go.binOp .eql t (.slice b n c) (.slice none 0 0):Sem Value).run P w=.ok (.bool b.isNone) w:=by
 have h1:(eqGuard .eql t x y (.slice b n c) (.slice none 0 0)).run P w=.ok () w:=by
  unfold eqGuard
  simp [Sem.run,pure,Sem.bind,bind]
 rw[Sem.run_bind,h1,Result.andThen_ok]
 exact Lib.run_eql_slice_nil w t e b n c 0 0 ht
theorem a_.rR {x y:Operand} {t e t':TypeId} {k:Nat} {fc:List (List PV)} (hx:δ.ev x=.pv (.slice k fc)) (hy:δ.ev y=.pv (.lit (.slice none 0 0))) (ht:P.underlying t=some (.slice e)) (ho:fq x=true) (f_:fq y=true) (hd:fR δ.n dst=true)
  (hT:fc=[]→a_ q P g ops rest Q (δ.eY dst (fu true))) (hF:True→a_ q P g ops rest Q (δ.eY dst (fu false))):a_ q P g ops (⟨dst,.binOp .eql t x y t',ty,pos,af,none⟩::rest) Q δ:=by
 refine a_.Vd (ι:=Bool) (fun b=>fu b) (fun b=>b=true→fc=[]) rfl rfl hd (fun κ a w r=>?_) (fun b hb=>?_)
 ·have h1:=(r.ra hx ho).lP
  have h2:=r.lit hy f_
  generalize hv:a.eval x=v at h1
  cases h1 with
  | @slice ad len cap k fc bl off vs hl n_ hb ha FE hc hr=>
   refine⟨ad.isNone,fun hn=>?_,.bool ad.isNone,fun w' _=>?_,.pv (.lit _)⟩
   ·rcases fc with _|⟨c,fc⟩
    ·rfl
    ·have:=(ha (by simp)).1
     rw[this] at hn;simp at hn
   ·have:=ry ht x y ad len cap w'
    simp only[execOp,hv,h2]
    simp only[Sem.run_bind,this,Result.andThen_ok] at*
    first|rfl|simp [this]
 ·cases b with
  |true=>exact hT (hb rfl)
  |false=>exact hF trivial
theorem iQ.rq {gd:Option (Tmp×Bool)} {t e:TypeId} {x y:Operand} {m:Int} {z:Value} {k by':Nat} (hx:δ.ev x=e7 0) (hy:δ.ev y=e7 m) (ht:P.underlying t=some (.slice e)) (hi:(P.info? e).map (fun i=>(i.size,i.zero,i.bytes))=some (k,some z,by')) (hb:bx by' 64=true)
  (ho:fq x=true) (f_:fq y=true) (hd:fR δ.n dst=true) (hm:0≤m∧m≤100000):
  iQ P g ⟨dst,.makeSlice t x y,ty,pos,af,gd⟩ δ ((δ.fN .row).eY dst (.own δ.nx e k [])):=by
 intro κ a w r
 have iU:by'≤64:=by simpa using hb
 obtain⟨i0,jh,ln,mE,x4⟩:∃i0,P.info? e=some i0∧i0.size=k∧i0.zero=some z∧i0.bytes=by':=by
  cases h:P.info? e with
  |none=>rw[h] at hi;simp at hi
  |some i0=>rw[h] at hi;simp at hi;exact⟨i0,rfl,hi.1,hi.2.1,hi.2.2⟩
 have Lq:=r.lit hx ho
 have V_:=r.lit hy f_
 have V7:IntKind.i64.wrap m=m:=IntWalk.i64_in _ (by omega)
 have Ve:IntKind.i64.wrap 0=0:=IntWalk.i64_in _ (by omega)
 generalize yb:((bL (m.toNat*k)).map (fun j=>z.cells[j % z.cells.size]!))=c'
 have n6:c'.size=m.toNat*k:=by rw[← yb];simp
 have hmul:by'*m.toNat≤6400000:=by
  have h1:by'*m.toNat≤64*m.toNat:=bR _ iU
  omega
 have S7:(by':Int)*m≤6400000:=by
  have:((by'*m.toNat:Nat):Int)≤6400000:=by omega
  rw[cG,b8 hm.1] at this
  exact this
 have fw:(execOp a.eval ⟨dst,.makeSlice t x y,ty,pos,af,gd⟩).run P w=.ok (.value (.slice (some ⟨w.heap.size,0,none⟩) 0 m.toNat)) (w.alloc (.cells c' e)):=by
  have me:∀w,(typeInfo e).run P w=.ok i0 w:=fun w=>by simp [typeInfo,jh]
  have C7:∀w,(zeroValue e).run P w=.ok z w:=fun w=>by simp [zeroValue,typeInfo,jh,mE]
  have Re:∀w,(sizeOf e).run P w=.ok k w:=fun w=>by simp [sizeOf,typeInfo,jh,ln]
  have has:∀(m:Int) w,(asInt (.int .i64 m)).run P w=.ok m w:=fun m w=>by simp [asInt,asIntOf,Sem.run_bind,Sem.run_pure,Result.andThen_ok]
  have Ic:¬(by':Int)*m>2 ^ 48:=by
   have:(2:Int) ^ 48=281474976710656:=by decide
   omega
  have T3:¬(by':Int)*0>2 ^ 48:=by rw[Int.mul_zero];decide
  have Ap:¬m<0:=by omega
  have ZC:¬m<0:=by omega
  have ku:¬m.toNat*by'>roomBytes:=by
   have:(6400000:Nat)≤roomBytes:=by decide
   have h2:m.toNat*by'=by'*m.toNat:=bQ _ _
   omega
  simp only[execOp,Instr.makeSlice,Sem.run_bind,Result.andThen_ok,run_underlying ht,Lq,V_,has,me,x4,V7,Ve]
  simp only[decide_eq_false Ic,decide_eq_false T3,decide_eq_false Ap,cI,cJ,cK,decide_false,gt_iff_lt,ct,if_false,askRoom,Sem.run_pure,Result.andThen_ok,Sem.run_bind]
  have Dt:¬roomBytes<m.toNat*by':=ku
  simp only[if_neg Dt,Sem.run_pure,Result.andThen_ok,Re]
  by_cases h0:m.toNat*k=0
  ·have QV:(bL (m.toNat*k)).map (fun j=>(#[]:Array Value)[j % (#[]:Array Value).size]!)=c':=by
    rw[← yb,h0];simp [Array.range_zero']
   simp only[if_pos h0,Sem.run_bind,Sem.run_pure,Result.andThen_ok,newRow]
   simp only[pure_bind,QV]
   rfl
  ·simp only[if_neg h0,Sem.run_bind,Sem.run_pure,Result.andThen_ok,C7,newRow,yb]
   rfl
 have nC:m.toNat≤maxLen:=by simp only[maxLen];omega
 obtain⟨r',G⟩:=r.grow .row (.cells c' e) (fun C G hκ b hb=>by
  have:w.heap.size=b:=Option.some.inj (hκ.symm.trans hb)
  subst this
  exact⟨c',e,heap_alloc_new w _⟩)
 refine .inl ⟨_,_,_,_,fw,.inl rfl,r'.eY (fv hd) (.own ?_)⟩
 refine⟨by show(δ.fN .row).ob _=_;rw[fY,if_pos rfl],by simp,fun c hc=>by simp at hc,fun b hb=>?_,[],⟨by simp,.inr ⟨w.heap.size,m.toNat,c',rfl,r.hB,heap_alloc_new w _,bk _,nC,n6,by simp⟩⟩,by simp,fun i' j p mq=>by simp [cellAt] at mq⟩
 simp only[Value.ownBlock,Option.some.injEq] at hb
 subst hb
 show gT _ _ _ _=_
 simp [gT]
theorem a_.rq {t e:TypeId} {x y:Operand} {m:Int} {z:Value} {k by':Nat} (hx:δ.ev x=e7 0) (hy:δ.ev y=e7 m) (ht:P.underlying t=some (.slice e)) (hi:(P.info? e).map (fun i=>(i.size,i.zero,i.bytes))=some (k,some z,by')) (hb:bx by' 64=true)
  (ho:fq x=true) (f_:fq y=true) (hd:fR δ.n dst=true) (hm:0≤m∧m≤100000) (hK:a_ .plain P g ops rest Q ((δ.fN .row).eY dst (.own δ.nx e k []))):
  a_ .plain P g ops (⟨dst,.makeSlice t x y,ty,pos,af,none⟩::rest) Q δ:=a_.qA rfl rfl (iQ.rq hx hy ht hi hb ho f_ hd hm) hK
end Go.Ab
/- A call of a function value that is told:a function of the program's,nothing captured. -/
namespace Go.Ab
open Go Go.RowKit
variable {P:Program} {g:e6} {δ:DS} {κ:Kp} {a:Act} {w:World}
variable {ops:Array Oper} {rest:List Oper} {Q:Exit→DS→Prop} {dst:Option Nat} {ty:TypeId} {pos:String} {af:Array Edge}
theorem Yh {C:Cx} {w:World} {v:Value} {f:Go.Fn} (h:RA C w v (.jJ f [] [])):v=.func f #[] #[]:=by
 cases h with
 |jJ hs h ht h'=>
  rename_i vs us
  have e1:vs= #[]:=cO (by simpa using hs)
  have e2:us= #[]:=cO (by simpa using ht)
  rw[e1,e2]
theorem a_.QL {f:FuncId} {xs:List Operand} {tys:Array TypeId} {args:List AV} {r:AV} {y:Operand} (hy:δ.ev y=.jJ (.func f) [] []) (kW:fq y=true) (hf:Fn P f args r) (fX:pF false δ xs args) (hd:fR δ.n dst=true)
  (hK:a_ .plain P g ops rest Q (δ.eY dst r)):a_ .plain P g ops (⟨dst,.call {callee:=.value y,args:=xs.toArray,argTypes:=tys},ty,pos,af,none⟩::rest) Q δ:=by
 intro κ a w r0
 have uM:a.eval y=.func (.func f) #[] #[]:=Yh (hy▸r0.EY y (iV kW))
 show wpListIn _ _ P ops _ (_::rest) a w
 refine gV rfl rfl fun K oS=>?_
 unfold Oper.Ac
 rw[j3 (f:=f) uM hf.enters,Oper.uponIn_enter]
 refine⟨fun h=>by simp at h,(jK (hf.calls (fun b=>(δ.cx g κ).N b∨w.heap.size≤b) w _ (fun _ h=> .inr h) (by simp [fX.len]) (fX.P3 r0 (fun _ _ h=> .inl h) (fun h=>by simp at h)))).mono ?_⟩
 rintro e w' ⟨v,rfl,hv,hb⟩
 have r1:=r0.ext hb
 refine oS _ _ (hK κ _ _ (r1.eY (fv hd) (hv.ui _ fun b _ h=>?_)))
 rcases h with h|h
 ·exact h
 ·refine⟨r0.BG h,fun i hi e=>?_⟩
  have:=(r0.lo i b hi e).2
  omega
end Go.Ab
/- min and max of two numbers. -/
namespace Go.Ab
open Go Go.RowKit
variable {P:Program} {g:e6} {δ:DS} {q:Md}
variable {ops:Array Oper} {rest:List Oper} {Q:Exit→DS→Prop} {dst:Option Nat} {ty:TypeId} {pos:String} {af:Array Edge}
theorem a_.max2 {x y:Operand} {tys:Array TypeId} {m n:Int} (hx:δ.ev x=e7 m) (hy:δ.ev y=e7 n) (ho:fq x=true) (f_:fq y=true) (hd:fR δ.n dst=true)
  (hK:a_ q P g ops rest Q (δ.eY dst (e7 (max m n)))):a_ q P g ops (⟨dst,.call {callee:=.builtin .max,args:= #[x,y],argTypes:=tys},ty,pos,af,none⟩::rest) Q δ:=
 a_.iR _ hd (fun κ a w r=>⟨.int .i64 (max m n),fun w' _=>by
  have h1:=r.lit hx ho
  have h2:=r.lit hy f_
  have h3:(if n>m then n else m)=max m n:=by split<;>omega
  simp [execOp,resolve,invoke,builtin,h1,h2,run_max_int2,h3],.pv (.lit _)⟩) hK
theorem a_.min2 {x y:Operand} {tys:Array TypeId} {m n:Int} (hx:δ.ev x=e7 m) (hy:δ.ev y=e7 n) (ho:fq x=true) (f_:fq y=true) (hd:fR δ.n dst=true)
  (hK:a_ q P g ops rest Q (δ.eY dst (e7 (min m n)))):a_ q P g ops (⟨dst,.call {callee:=.builtin .min,args:= #[x,y],argTypes:=tys},ty,pos,af,none⟩::rest) Q δ:=
 a_.iR _ hd (fun κ a w r=>⟨.int .i64 (min m n),fun w' _=>by
  have h1:=r.lit hx ho
  have h2:=r.lit hy f_
  have h3:(if n<m then n else m)=min m n:=by split<;>omega
  simp [execOp,resolve,invoke,builtin,h1,h2,run_min_int2,h3],.pv (.lit _)⟩) hK
theorem a_.Em {fn:Go.Fn} {x y z:Operand} {u1 u2 u3:AV} (hx:δ.ev x=u1) (hy:δ.ev y=u2) (hz:δ.ev z=u3) (ho:fq x=true) (f_:fq y=true) (Iw:fq z=true) (hd:fR δ.n dst=true) (hK:a_ q P g ops rest Q (δ.eY dst (.jJ fn [] [u1,u2,u3]))):a_ q P g ops (⟨dst,.makeFunc fn #[] #[x,y,z],ty,pos,af,none⟩::rest) Q δ:=
 a_.iR _ hd (fun κ a w r=>⟨.func fn #[] #[a.eval x,a.eval y,a.eval z],fun w' _=>by simp [execOp,Instr.makeFunc],.jJ rfl (fun j u c h=>by simp at h) rfl (fun j u c h1 h2=>by
  match j with
  |0=>simp at h1 h2;subst h1;subst h2;exact r.ra hx ho
  |1=>simp at h1 h2;subst h1;subst h2;exact r.ra hy f_
  |2=>simp at h1 h2;subst h1;subst h2;exact r.ra hz Iw
  |j+3=>simp at h2)⟩) hK
end Go.Ab
/- Labelled statements whose labels are left by break and continue alone. -/
namespace Go.Ab
open Go Go.RowKit
section
variable {P:Program} {F:Fence} {n:Nat} {a:Act} {w:World} {b:Frame} {k:List Item} {cs:List Frame}
theorem kV {c:Code}:step P (lone (b.atR a (.code (.scope c)::k)) cs w)=.next (lone (b.atR a (.code c::.inScope c::k)) cs w):=
 step_lone_go (by simp [stepG,stepG.exec,Frame.atR])
theorem xQ {c:Code}:step P (lone (b.atR a (.inScope c::k)) cs w)=.next (lone (b.atR a k) cs w):=
 step_lone_go (by simp [stepG,stepG.exec,Frame.atR])
theorem DW {c:Code} {Q:Exit→Act→World→Prop} (h:c.wpIn F n P (Exit.noGoto Q) a w):(Code.scope c).wpIn F n P Q a w:=by
 intro b k cs yf hb hr
 have h0:(lone (b.atR a (.code (.scope c)::k)) cs w).fenced P F:=fenced_calm hb hr rfl
 obtain⟨e,a₁,w₁,hq,rI⟩:=h b (.inScope c::k) cs yf hb hr
 cases e with
 |normal=>exact⟨.normal,a₁,w₁,hq,.head h0 kV (StepsIn.trans rI (.one (fenced_calm hb hr rfl) xQ))⟩
 |exit id=>
  exact⟨.exit id,a₁,w₁,hq,fun k' hk=> .head h0 kV (rI.1 k' (by simp [exitTo,hk])),
   fun xr hk=>let ⟨k₁,h1,h2⟩:=rI.2 xr (by simp [exitTo,hk]);⟨k₁,h1,.head h0 kV h2⟩⟩
 |goto l=>exact hq.elim
 |ret=>exact⟨_,a₁,w₁,hq,.of_steps (.one h0 kV) rI⟩
 |panic ch=>exact⟨_,a₁,w₁,hq,.of_steps (.one h0 kV) rI⟩
 |outgrown=>exact⟨_,a₁,w₁,hq,.of_steps (.one h0 kV) rI⟩
end
variable {P:Program} {g:e6} {δ:DS}
def fU (Q:Exit→DS→Prop):Exit→DS→Prop
 |.goto _,_=>False
 |e,δ=>Q e δ
theorem nR {Q:Exit→DS→Prop} (h:Q .ret δ):fU Q .ret δ:=h
theorem AW.scope {c:Code} {Q:Exit→DS→Prop} (h:AW P g c (fU Q) δ):AW P g (.scope c) Q δ:=by
 intro κ a w r
 refine DW (wpIn_mono (h κ a w r) fun e a' w'=>?_)
 rintro⟨δ',κ',h1,h2⟩
 cases e with
 |goto l=>exact h1.elim
 |_=>exact⟨δ',κ',h1,h2⟩
theorem AW.label {l:Nat} {Q:Exit→DS→Prop} (h:Q .normal δ):AW P g (.label l) Q δ:=fun κ _ _ r=>wpIn_label ⟨δ,κ,h,r⟩
end Go.Ab
/- Loops over functions within loops over functions:a yield from a round,to a loop some frames above. -/
namespace Go.Ab
open Go Go.RowKit
attribute [local irreducible] HS
variable {P:Program} {g:e6} {δ:DS} {κ:Kp} {a:Act} {w:World}
variable {ops:Array Oper} {rest:List Oper} {Q:Exit→DS→Prop} {dst:Option Nat} {ty:TypeId} {pos:String} {af:Array Edge}
end Go.Ab
/- Maps from numbers to numbers;the address of a field,taken first. -/
namespace Go.Ab
open Go Go.RowKit
section
variable {P:Program} {g:e6} {δ δ':DS} {q:Md}
variable {ops:Array Oper} {rest:List Oper} {Q:Exit→DS→Prop} {dst:Option Nat} {ty:TypeId} {pos:String} {af:Array Edge}
variable {t n:Nat} {K:DS→Prop}
end
theorem fO.fieldAddr {P:Program} {δ:DS} {dst:Option Nat} {ty:TypeId} {pos:String} {af:Array Edge} {gd:Option (Tmp×Bool)} (s:TypeId) (f k:Nat) {x:Operand} {i off:Nat} (hx:δ.ev x=.ptr i off) (hB:ML P s f k=true) (ho:fq x=true):
  fO P ⟨dst,.fieldAddr s x f,ty,pos,af,gd⟩ δ (.ptr i (off+k)):=by
 intro g κ a w r
 unfold ML at hB
 split at hB
 ·rename_i fs hs
  split at hB
  ·rename_i fld hf
   simp only[aZ,beq_iff_eq] at hB
   have hk:=aM hB.1
   subst hk
   have uZ:=r.ra hx ho
   generalize hu:a.eval x=u at uZ
   cases uZ with
   |ptr hl hκ=>exact⟨_,fun w'=>by have:=nW (dst:=dst) (ty:=ty) (pos:=pos) (af:=af) hs hf hB.2 hu w';simpa [execOp] using this,.ptr hl hκ⟩
  ·cases hB
 ·cases hB
section
variable {P:Program} {g:e6} {δ:DS} {l:List Oper} {late dn:List Nat} {k:Wt} {QD:Exit→DS→Prop}
theorem AR.rS {i j:Nat} {o p:Oper} (hl:aY dn.length l.length=true) (hr:lV l dn [i,j]=true) (ho:l[i]? =some o) (hp:l[j]? =some p) (fx:gW late (gG l.length (j::dn))=true)
  (h:∀g':e6,Gs g' g→(∀j,k.2.2≤j→g'.nF j)→a_ .plain P g' l.toArray [o] (jY (AR P g k late l QD (i::dn))) δ)
  (h':∀g':e6,Gs g' g→g'.wt=none→a_ .plain P g' l.toArray [p] (jY (AR P g k late l QD (j::dn))) δ):AR P g k late l QD dn δ:=
 AR.all hl hr (by simp) fun i' kq=>by
  have hw:∀i',∀j,k.2.2≤j→(A3 g k late (gG l.length (i'::dn))).nF j:=by
   intro i' j hj k' lO
   have:(if gW late (gG l.length (i'::dn))=true then none else some k)=some k':=lO
   split at this
   ·cases this
   ·cases this;exact hj
  simp only[bu,cw,or_false] at kq
  rcases kq with rfl|rfl
  ·exact⟨o,ho,h _ ⟨rfl,rfl,rfl⟩ (hw _)⟩
  ·exact⟨p,hp,h' _ ⟨rfl,rfl,rfl⟩ (if_pos fx)⟩
end
end Go.Ab
