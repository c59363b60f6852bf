/- Laws in the forms that the walk's list of steps tries. -/
import Derived.Test.YtcklfjkaadfjjaaGreatAbL1
import Derived.OrdersIn
import Derived.MapKept
import Derived.Maps.RangeRun
import Derived.ProofKit
import Derived.OpenShut
import Derived.ChangeOld
import Derived.SizedLaws
import Derived.JoinedCond
import Derived.Deep.CondSized
import Derived.ChangeKeysEq
import Derived.Laws.StructEq
import Derived.WalkSpells
import Derived.Lib.SliceRun
set_option linter.unusedSimpArgs false
set_option linter.unusedVariables false
open Nat renaming blt→aV,beq→aI,ble→bu,eq_of_beq_eq_true→aJ,zero_le→bg,add_sub_cancel→b6,lt_or_ge→ck,le_refl→aM,mul_le_mul_right→bR,zero_mul→cD,mul_comm→bQ,mul_one→cG,add_mul→bH,add_zero→a8,one_mul→bI
open List renaming map_cons→bz,map_nil→bY,getElem?_eq_some_iff→aT,getElem?_map→aY,all_eq_true→bB,mem_of_getElem?→aR,map_toArray→bj,cons_append→bq,mem_cons→br,zip_cons_cons→b7,foldl_cons→b9,nodup_append→ca,mem_append→bW,length_cons→cb,getElem?_append_left→aQ,getElem?_append_right→aS,getElem?_eq_getElem→aZ,mem_singleton→cp,eq_nil_of_length_eq_zero→bf,map_map→ct,mem_map→bt,set_cons_succ→cu,drop_zero→cv,toList_toArray→cw,map_set→cz,getElem?_set→bF,mem_or_eq_of_mem_set→cA,getElem?_eq_none→cB,getElem?_of_mem→bx,exists_cons_of_ne_nil→cC,take_of_length_le→cE,length_map→aX,replicate→bX,length_replicate→cK,length_set→cL,take_set→cM,getD_eq_getElem?_getD→cO,getElem?_take→bC,getElem?_drop→bD,length_take→cP,length_drop→cQ,length_append→bV,take_left'→cS
open Array renaming getElem?_eq_getElem→aK,getElem?_toList→bA,getD_eq_getD_getElem?→aO,getElem?_setIfInBounds→aP,getElem?_append_left→cd,getElem?_append_right→cf,replicate→cg,getElem?_eq_none→cm,getElem?_push→cr,getElem?_eq_some_iff→aL,getElem?_modify→cy,range→bK,length_toList→cR
open Option renaming map_eq_some_iff→bc,map_some→bm,bind_some→bG,bind_eq_some_iff→cN
open Int renaming toNat_of_nonneg→bZ,natCast_mul→cF,lt_irrefl→cJ
open Bool renaming and_eq_true→aW,false_eq_true→cj,not_eq_true'→cq,or_false→cH,false_or→cI
namespace Go.Ab
open Go Go.RowKit
variable {q:Md} {P:Program} {g:eY} {δ:DS} {κ:Kp} {a:Act} {w:World}
variable {ops:Array Oper} {rest:List Oper} {Q:Exit→DS→Prop} {dst:Option Nat} {ty:TypeId} {pos:String} {af:Array Edge}
theorem a_.EA {op:Op} {gj d:Nat} {p:Prop} {_:Decidable p} {o':Oper} (ho:ops[gj]? =some o') (hd:o'.dst=some d) (yt:aV d HS=true) (yU:aV d δ.n=true) (hb:δ.get d=fe (decide p)) (xK:gb δ.n dst=true)
  (hy:p→a_ q P g ops (⟨dst,op,ty,pos,af,none⟩::rest) Q δ) (hn:¬p→a_ q P g ops rest Q (δ.eZ dst (.pv (.lit undef)))):a_ q P g ops (⟨dst,op,ty,pos,af,some (gj,true)⟩::rest) Q δ:=
 a_.guard ho hd yt yU hb xK (fun h=>hy (of_decide_eq_true h)) (fun h=>hn (of_decide_eq_false h))
theorem a_.kV {op:Op} {gj d:Nat} {p:Prop} {_:Decidable p} {o':Oper} (ho:ops[gj]? =some o') (hd:o'.dst=some d) (yt:aV d HS=true) (yU:aV d δ.n=true) (hb:δ.get d=fe (decide p)) (xK:gb δ.n dst=true)
  (hy:¬p→a_ q P g ops (⟨dst,op,ty,pos,af,none⟩::rest) Q δ) (hn:p→a_ q P g ops rest Q (δ.eZ dst (.pv (.lit undef)))):a_ q P g ops (⟨dst,op,ty,pos,af,some (gj,false)⟩::rest) Q δ:=
 a_.guard ho hd yt yU hb xK (fun h=>hy (of_decide_eq_false h)) (fun h=>hn (of_decide_eq_true h))
theorem a_.X2 {x:Operand} {t:TypeId} {p:Prop} {_:Decidable p} (hx:δ.ev x=fe (decide p)) (ho:fk x=true) (hd:gb δ.n dst=true) (hK:a_ q P g ops rest Q (δ.eZ dst (fe (decide (¬p))))):
  a_ q P g ops (⟨dst,.unOp .not t x,ty,pos,af,none⟩::rest) Q δ:=a_.not hx ho hd (by
                                                  have:(!decide p)=decide (¬p):=by simp
                                                  rw[this];exact hK)
theorem a_.V1 {x y z:Operand} {p:Prop} {_:Decidable p} {v:AV} (hx:δ.ev x=fe (decide p)) (hy:δ.ev y=v) (hp:p) (ho:fk x=true) (np:fk y=true) (s8:fk z=true) (hd:gb δ.n dst=true)
  (hK:a_ q P g ops rest Q (δ.eZ dst v)):a_ q P g ops (⟨dst,.pick x y z,ty,pos,af,none⟩::rest) Q δ:=
 a_.pick hx ho np s8 (fun _=>hy) (fun h=>absurd hp (of_decide_eq_false h)) hd hK
theorem a_.Ua {x y z:Operand} {p:Prop} {_:Decidable p} {v:AV} (hx:δ.ev x=fe (decide p)) (hz:δ.ev z=v) (hp:¬p) (ho:fk x=true) (np:fk y=true) (s8:fk z=true) (hd:gb δ.n dst=true)
  (hK:a_ q P g ops rest Q (δ.eZ dst v)):a_ q P g ops (⟨dst,.pick x y z,ty,pos,af,none⟩::rest) Q δ:=
 a_.pick hx ho np s8 (fun h=>absurd (of_decide_eq_true h) hp) (fun _=>hz) hd hK
theorem AW.qb {c:Operand} {x y:Code} (ho:fk c=true) (hc:δ.ev c=fe true) (h1:AW P g x Q δ):AW P g (.cond c x y) Q δ:=AW.L0 rfl ho hc h1
theorem AW.Bt {c:Operand} {x y:Code} (ho:fk c=true) (hc:δ.ev c=fe false) (h1:AW P g y Q δ):AW P g (.cond c x y) Q δ:=AW.L2 rfl ho hc h1
theorem a_.Dj {op:Op} {gj d:Nat} {want b:Bool} {o':Oper} (ho:ops[gj]? =some o') (hd:o'.dst=some d) (yt:aV d HS=true) (yU:aV d δ.n=true) (hb:δ.get d=fe b) (AB:b=want) (xK:gb δ.n dst=true)
  (hy:a_ q P g ops (⟨dst,op,ty,pos,af,none⟩::rest) Q δ):a_ q P g ops (⟨dst,op,ty,pos,af,some (gj,want)⟩::rest) Q δ:=
 a_.guard ho hd yt yU hb xK (fun _=>hy) (fun h=>by subst AB;cases b<;>simp at h)
theorem a_.iP {op:Op} {gj d:Nat} {want b:Bool} {o':Oper} (ho:ops[gj]? =some o') (hd:o'.dst=some d) (yt:aV d HS=true) (yU:aV d δ.n=true) (hb:δ.get d=fe b) (AB:b=!want) (xK:gb δ.n dst=true)
  (hn:a_ q P g ops rest Q (δ.eZ dst (.pv (.lit undef)))):a_ q P g ops (⟨dst,op,ty,pos,af,some (gj,want)⟩::rest) Q δ:=
 a_.guard ho hd yt yU hb xK (fun h=>by subst h;cases b<;>simp at AB) (fun _=>hn)
end Go.Ab
namespace Go.Ab
variable {P:Program} {g:eY} {δ:DS} {Q:Exit→DS→Prop}
theorem AW.Wl {c:Operand} {x y:Code} {p:Prop} {_:Decidable p} (ho:fk c=true) (hc:δ.ev c=fe (decide p)) (hp:p) (h1:AW P g x Q δ):AW P g (.cond c x y) Q δ:=AW.L0 (decide_eq_true hp) ho hc h1
theorem AW.U3 {c:Operand} {x y:Code} {p:Prop} {_:Decidable p} (ho:fk c=true) (hc:δ.ev c=fe (decide p)) (hp:¬p) (h1:AW P g y Q δ):AW P g (.cond c x y) Q δ:=AW.L2 (decide_eq_false hp) ho hc h1
end Go.Ab
namespace Go.Ab
section
variable {q:Md} {P:Program} {g:eY} {δ:DS} {ops:Array Oper} {rest:List Oper} {Q:Exit→DS→Prop} {dst:Option Nat} {ty:TypeId} {pos:String} {af:Array Edge}
variable {op:Op} {gj d:Nat} {p:Prop} {inst:Decidable p} {o':Oper} (ho:ops[gj]? =some o') (hd:o'.dst=some d) (hb:δ.get d=fe (@decide p inst)) (yt:aV d HS=true) (yU:aV d δ.n=true) (xK:gb δ.n dst=true)
include ho hd hb yt yU xK
theorem a_.OO (hp:p) (hy:a_ q P g ops (⟨dst,op,ty,pos,af,none⟩::rest) Q δ):a_ q P g ops (⟨dst,op,ty,pos,af,some (gj,true)⟩::rest) Q δ:=
 a_.guard ho hd yt yU hb xK (fun _=>hy) (fun h=>absurd hp (of_decide_eq_false h))
theorem a_.kR (hp:¬p) (hn:a_ q P g ops rest Q (δ.eZ dst (.pv (.lit undef)))):a_ q P g ops (⟨dst,op,ty,pos,af,some (gj,true)⟩::rest) Q δ:=
 a_.guard ho hd yt yU hb xK (fun h=>absurd (of_decide_eq_true h) hp) (fun _=>hn)
theorem a_.Pk (hp:¬p) (hy:a_ q P g ops (⟨dst,op,ty,pos,af,none⟩::rest) Q δ):a_ q P g ops (⟨dst,op,ty,pos,af,some (gj,false)⟩::rest) Q δ:=
 a_.guard ho hd yt yU hb xK (fun _=>hy) (fun h=>absurd (of_decide_eq_true h) hp)
theorem a_.jM (hp:p) (hn:a_ q P g ops rest Q (δ.eZ dst (.pv (.lit undef)))):a_ q P g ops (⟨dst,op,ty,pos,af,some (gj,false)⟩::rest) Q δ:=
 a_.guard ho hd yt yU hb xK (fun h=>absurd hp (of_decide_eq_false h)) (fun _=>hn)
end
end Go.Ab
namespace Go.Ab
section
variable {q:Md} {P:Program} {g:eY} {δ:DS} {ops:Array Oper} {rest:List Oper} {Q:Exit→DS→Prop} {dst:Option Nat} {ty:TypeId} {pos:String} {af:Array Edge} {x:Operand}
theorem a_.Ba {p:PV} (hx:δ.ev x=.pv p) (ho:fk x=true) (hd:gb δ.n dst=true) (hK:a_ q P g ops rest Q (δ.eZ dst (.pv p))):a_ q P g ops (⟨dst,.move x,ty,pos,af,none⟩::rest) Q δ:=a_.move hx ho hd hK
theorem a_.Ji {p:PV} (hx:δ.ev x=.pv p) (ho:fk x=true) (hd:gb δ.n dst=true) (hK:a_ q P g ops rest Q (δ.eZ dst (.pv p))):a_ q P g ops (⟨dst,.assign x,ty,pos,af,none⟩::rest) Q δ:=a_.assign hx ho hd hK
theorem a_.gk {i e k e7} (hx:δ.ev x=.own i e k e7) (ho:fk x=true) (hd:gb δ.n dst=true) (hK:a_ q P g ops rest Q (δ.eZ dst (.own i e k e7))):a_ q P g ops (⟨dst,.move x,ty,pos,af,none⟩::rest) Q δ:=a_.move hx ho hd hK
theorem a_.kh {i e k e7} (hx:δ.ev x=.own i e k e7) (ho:fk x=true) (hd:gb δ.n dst=true) (hK:a_ q P g ops rest Q (δ.eZ dst (.own i e k e7))):a_ q P g ops (⟨dst,.assign x,ty,pos,af,none⟩::rest) Q δ:=a_.assign hx ho hd hK
theorem a_.j_ {i o} (hx:δ.ev x=.ptr i o) (ho:fk x=true) (hd:gb δ.n dst=true) (hK:a_ q P g ops rest Q (δ.eZ dst (.ptr i o))):a_ q P g ops (⟨dst,.move x,ty,pos,af,none⟩::rest) Q δ:=a_.move hx ho hd hK
theorem a_.sV {i o} (hx:δ.ev x=.ptr i o) (ho:fk x=true) (hd:gb δ.n dst=true) (hK:a_ q P g ops rest Q (δ.eZ dst (.ptr i o))):a_ q P g ops (⟨dst,.assign x,ty,pos,af,none⟩::rest) Q δ:=a_.assign hx ho hd hK
theorem a_.oQ {l} (hx:δ.ev x=.iR l) (ho:fk x=true) (hd:gb δ.n dst=true) (hK:a_ q P g ops rest Q (δ.eZ dst (.iR l))):a_ q P g ops (⟨dst,.move x,ty,pos,af,none⟩::rest) Q δ:=a_.move hx ho hd hK
end
end Go.Ab
namespace Go.Ab
section
variable {q:Md} {P:Program} {g:eY} {δ:DS} {ops:Array Oper} {rest:List Oper} {Q:Exit→DS→Prop} {dst:Option Nat} {ty:TypeId} {pos:String} {af:Array Edge}
theorem a_.kv {x y z:Operand} {v:PV} (hx:δ.ev x=fe true) (hy:δ.ev y=.pv v) (ho:fk x=true) (np:fk y=true) (s8:fk z=true) (hd:gb δ.n dst=true)
  (hK:a_ q P g ops rest Q (δ.eZ dst (.pv v))):a_ q P g ops (⟨dst,.pick x y z,ty,pos,af,none⟩::rest) Q δ:=a_.pick hx ho np s8 (fun _=>hy) (fun h=>by cases h) hd hK
theorem a_.jk {x y z:Operand} {v:PV} (hx:δ.ev x=fe false) (hz:δ.ev z=.pv v) (ho:fk x=true) (np:fk y=true) (s8:fk z=true) (hd:gb δ.n dst=true)
  (hK:a_ q P g ops rest Q (δ.eZ dst (.pv v))):a_ q P g ops (⟨dst,.pick x y z,ty,pos,af,none⟩::rest) Q δ:=a_.pick hx ho np s8 (fun h=>by cases h) (fun _=>hz) hd hK
theorem a_.JX {x y z:Operand} {p:Prop} {_:Decidable p} {v:PV} (hx:δ.ev x=fe (decide p)) (hy:δ.ev y=.pv v) (hp:p) (ho:fk x=true) (np:fk y=true) (s8:fk z=true) (hd:gb δ.n dst=true)
  (hK:a_ q P g ops rest Q (δ.eZ dst (.pv v))):a_ q P g ops (⟨dst,.pick x y z,ty,pos,af,none⟩::rest) Q δ:=a_.V1 hx hy hp ho np s8 hd hK
theorem a_.Ku {x y z:Operand} {p:Prop} {_:Decidable p} {v:PV} (hx:δ.ev x=fe (decide p)) (hz:δ.ev z=.pv v) (hp:¬p) (ho:fk x=true) (np:fk y=true) (s8:fk z=true) (hd:gb δ.n dst=true)
  (hK:a_ q P g ops rest Q (δ.eZ dst (.pv v))):a_ q P g ops (⟨dst,.pick x y z,ty,pos,af,none⟩::rest) Q δ:=a_.Ua hx hz hp ho np s8 hd hK
end
end Go.Ab
namespace Go.Ab
section
variable {P:Program} {g:eY} {δ:DS} {ops:Array Oper} {rest:List Oper} {Q:Exit→DS→Prop} {dst:Option Nat} {ty:TypeId} {pos:String} {af:Array Edge}
theorem je.M9 {gd:Option (Tmp×Bool)} {t e:TypeId} {z:Value} (ht:P.underlying t=some (.slice e)) (hi:(P.info? e).map (fun i=>(i.size,i.zero))=some (1,some z)) (hz:z.cells.toList.all (·.oneCell')=true) (mK:aI z.cells.size 1=true) (hd:gb δ.n dst=true):je P g ⟨dst,.buildSlice t 0 [].toArray,ty,pos,af,gd⟩ δ ((δ.fM .row).eZ dst (.own δ.nx e 1 [])):=by
 have hf:iN (fun i=>some (i*1,1)) (jb z (0*1)) (([]:List (Nat×Operand)).map fun p=>(p.1,δ.ev p.2))=some []:=by
  simp [iN,lk,AV.cellsOf,AV.mE,jb,bz,bY]<;>rfl
 exact je.buildSlice (len:=0) (k:=1) (parts:=[]) (cells:=[]) ht hi mK rfl rfl hz (by simp []) hf (by simp [AV.xw]) hd
theorem a_.M9 {t e:TypeId} {z:Value} (ht:P.underlying t=some (.slice e)) (hi:(P.info? e).map (fun i=>(i.size,i.zero))=some (1,some z)) (hz:z.cells.toList.all (·.oneCell')=true) (mK:aI z.cells.size 1=true) (hd:gb δ.n dst=true) (hK:a_ .plain P g ops rest Q ((δ.fM .row).eZ dst (.own δ.nx e 1 []))):a_ .plain P g ops (⟨dst,.buildSlice t 0 [].toArray,ty,pos,af,none⟩::rest) Q δ:=a_.vA rfl rfl (je.M9 ht hi hz mK hd) hK
theorem je.Tv {gd:Option (Tmp×Bool)} {t e:TypeId} {z:Value} {x0:Operand} {p0:PV} (ht:P.underlying t=some (.slice e)) (h0:δ.ev x0=.pv p0) (hi:(P.info? e).map (fun i=>(i.size,i.zero))=some (1,some z)) (hz:z.cells.toList.all (·.oneCell')=true) (mK:aI z.cells.size 1=true) (k0:AV.one (.pv p0)=true) (o0:fk x0=true) (hd:gb δ.n dst=true):je P g ⟨dst,.buildSlice t 1 [(0,x0)].toArray,ty,pos,af,gd⟩ δ ((δ.fM .row).eZ dst (.own δ.nx e 1 [[p0]])):=by
 have hf:iN (fun i=>some (i*1,1)) (jb z (1*1)) (([(0,x0)]:List (Nat×Operand)).map fun p=>(p.1,δ.ev p.2))=some [.pv p0]:=by
  simp [iN,lk,AV.cellsOf,AV.mE,jb,h0,k0,bz,bY]<;>rfl
 exact je.buildSlice (len:=1) (k:=1) (parts:=[(0,x0)]) (cells:=[.pv p0]) ht hi mK rfl rfl hz (by simp [o0]) hf (by simp [AV.xw]) hd
theorem a_.Tv {t e:TypeId} {z:Value} {x0:Operand} {p0:PV} (ht:P.underlying t=some (.slice e)) (h0:δ.ev x0=.pv p0) (hi:(P.info? e).map (fun i=>(i.size,i.zero))=some (1,some z)) (hz:z.cells.toList.all (·.oneCell')=true) (mK:aI z.cells.size 1=true) (k0:AV.one (.pv p0)=true) (o0:fk x0=true) (hd:gb δ.n dst=true) (hK:a_ .plain P g ops rest Q ((δ.fM .row).eZ dst (.own δ.nx e 1 [[p0]]))):a_ .plain P g ops (⟨dst,.buildSlice t 1 [(0,x0)].toArray,ty,pos,af,none⟩::rest) Q δ:=a_.vA rfl rfl (je.Tv ht h0 hi hz mK k0 o0 hd) hK
theorem je.Zn {gd:Option (Tmp×Bool)} {t e:TypeId} {z:Value} {x0 x1:Operand} {p0 p1:PV} (ht:P.underlying t=some (.slice e)) (h0:δ.ev x0=.pv p0) (h1:δ.ev x1=.pv p1) (hi:(P.info? e).map (fun i=>(i.size,i.zero))=some (1,some z)) (hz:z.cells.toList.all (·.oneCell')=true) (mK:aI z.cells.size 1=true) (k0:AV.one (.pv p0)=true) (k1:AV.one (.pv p1)=true) (o0:fk x0=true) (o1:fk x1=true) (hd:gb δ.n dst=true):je P g ⟨dst,.buildSlice t 2 [(0,x0),(1,x1)].toArray,ty,pos,af,gd⟩ δ ((δ.fM .row).eZ dst (.own δ.nx e 1 [[p0],[p1]])):=by
 have hf:iN (fun i=>some (i*1,1)) (jb z (2*1)) (([(0,x0),(1,x1)]:List (Nat×Operand)).map fun p=>(p.1,δ.ev p.2))=some [.pv p0,.pv p1]:=by
  simp [iN,lk,AV.cellsOf,AV.mE,jb,h0,h1,k0,k1,bz,bY]<;>rfl
 exact je.buildSlice (len:=2) (k:=1) (parts:=[(0,x0),(1,x1)]) (cells:=[.pv p0,.pv p1]) ht hi mK rfl rfl hz (by simp [o0,o1]) hf (by simp [AV.xw]) hd
theorem a_.Zn {t e:TypeId} {z:Value} {x0 x1:Operand} {p0 p1:PV} (ht:P.underlying t=some (.slice e)) (h0:δ.ev x0=.pv p0) (h1:δ.ev x1=.pv p1) (hi:(P.info? e).map (fun i=>(i.size,i.zero))=some (1,some z)) (hz:z.cells.toList.all (·.oneCell')=true) (mK:aI z.cells.size 1=true) (k0:AV.one (.pv p0)=true) (k1:AV.one (.pv p1)=true) (o0:fk x0=true) (o1:fk x1=true) (hd:gb δ.n dst=true) (hK:a_ .plain P g ops rest Q ((δ.fM .row).eZ dst (.own δ.nx e 1 [[p0],[p1]]))):a_ .plain P g ops (⟨dst,.buildSlice t 2 [(0,x0),(1,x1)].toArray,ty,pos,af,none⟩::rest) Q δ:=a_.vA rfl rfl (je.Zn ht h0 h1 hi hz mK k0 k1 o0 o1 hd) hK
theorem je.Yv {gd:Option (Tmp×Bool)} {t e:TypeId} {z:Value} {x0 x1 x2:Operand} {p0 p1 p2:PV} (ht:P.underlying t=some (.slice e)) (h0:δ.ev x0=.pv p0) (h1:δ.ev x1=.pv p1) (h2:δ.ev x2=.pv p2) (hi:(P.info? e).map (fun i=>(i.size,i.zero))=some (1,some z)) (hz:z.cells.toList.all (·.oneCell')=true) (mK:aI z.cells.size 1=true) (k0:AV.one (.pv p0)=true) (k1:AV.one (.pv p1)=true) (k2:AV.one (.pv p2)=true) (o0:fk x0=true) (o1:fk x1=true) (o2:fk x2=true) (hd:gb δ.n dst=true):je P g ⟨dst,.buildSlice t 3 [(0,x0),(1,x1),(2,x2)].toArray,ty,pos,af,gd⟩ δ ((δ.fM .row).eZ dst (.own δ.nx e 1 [[p0],[p1],[p2]])):=by
 have hf:iN (fun i=>some (i*1,1)) (jb z (3*1)) (([(0,x0),(1,x1),(2,x2)]:List (Nat×Operand)).map fun p=>(p.1,δ.ev p.2))=some [.pv p0,.pv p1,.pv p2]:=by
  simp [iN,lk,AV.cellsOf,AV.mE,jb,h0,h1,h2,k0,k1,k2,bz,bY]<;>rfl
 exact je.buildSlice (len:=3) (k:=1) (parts:=[(0,x0),(1,x1),(2,x2)]) (cells:=[.pv p0,.pv p1,.pv p2]) ht hi mK rfl rfl hz (by simp [o0,o1,o2]) hf (by simp [AV.xw]) hd
theorem a_.Yv {t e:TypeId} {z:Value} {x0 x1 x2:Operand} {p0 p1 p2:PV} (ht:P.underlying t=some (.slice e)) (h0:δ.ev x0=.pv p0) (h1:δ.ev x1=.pv p1) (h2:δ.ev x2=.pv p2) (hi:(P.info? e).map (fun i=>(i.size,i.zero))=some (1,some z)) (hz:z.cells.toList.all (·.oneCell')=true) (mK:aI z.cells.size 1=true) (k0:AV.one (.pv p0)=true) (k1:AV.one (.pv p1)=true) (k2:AV.one (.pv p2)=true) (o0:fk x0=true) (o1:fk x1=true) (o2:fk x2=true) (hd:gb δ.n dst=true) (hK:a_ .plain P g ops rest Q ((δ.fM .row).eZ dst (.own δ.nx e 1 [[p0],[p1],[p2]]))):a_ .plain P g ops (⟨dst,.buildSlice t 3 [(0,x0),(1,x1),(2,x2)].toArray,ty,pos,af,none⟩::rest) Q δ:=a_.vA rfl rfl (je.Yv ht h0 h1 h2 hi hz mK k0 k1 k2 o0 o1 o2 hd) hK
theorem zK {n bytes:Nat} (h:bu bytes 64=true) (hl:n≤1000000000000):n*bytes≤140737488355328:=by
 have h':bytes≤64:=by simpa using h
 have:=Nat.mul_le_mul hl h'
 omega
theorem je.fl {gd:Option (Tmp×Bool)} {s x:Operand} {t e:TypeId} {i k bytes:Nat} {z:Value} {e7 news:List (List PV)} (hs:δ.ev s=.own i e k e7) (hx:wk δ x k news) (hr:δ.ob i=some .row) (ht:P.underlying t=some (.slice e))
  (hi:(P.info? e).map (fun i=>(i.size,i.zero,i.bytes))=some (k,some z,bytes)) (R5:bu bytes 64=true) (mK:aI z.cells.size k=true) (nh:aV 0 k=true) (ho:fk s=true) (gi:fk x=true) (hd:gb δ.n dst=true)
  (hl:e7.length+news.length≤1000000000000):je P g ⟨dst,.call {callee:=.builtin .append,args:= #[s,x],argTypes:= #[t,t]},ty,pos,af,gd⟩ δ ((δ.ib (AV.kill i)).eZ dst (.own i e k (e7++news))):=
 je.append hs hx hr ht hi mK nh ho gi hd (zK R5 hl) (by omega)
theorem a_.fl {s x:Operand} {t e:TypeId} {i k bytes:Nat} {z:Value} {e7 news:List (List PV)} (hs:δ.ev s=.own i e k e7) (hx:wk δ x k news) (hr:δ.ob i=some .row) (ht:P.underlying t=some (.slice e))
  (hi:(P.info? e).map (fun i=>(i.size,i.zero,i.bytes))=some (k,some z,bytes)) (R5:bu bytes 64=true) (mK:aI z.cells.size k=true) (nh:aV 0 k=true) (ho:fk s=true) (gi:fk x=true) (hd:gb δ.n dst=true)
  (hl:e7.length+news.length≤1000000000000) (hK:a_ .plain P g ops rest Q ((δ.ib (AV.kill i)).eZ dst (.own i e k (e7++news)))):
  a_ .plain P g ops (⟨dst,.call {callee:=.builtin .append,args:= #[s,x],argTypes:= #[t,t]},ty,pos,af,none⟩::rest) Q δ:=a_.vA rfl rfl (je.fl hs hx hr ht hi R5 mK nh ho gi hd hl) hK
end
end Go.Ab
namespace Go.Ab
theorem AW.Bj {P:Program} {g:eY} {δ:DS} {Q:Exit→DS→Prop} {α:Type} {c:Code} (j i:Nat) {k:Nat} {cs:List AV} {f:α→List PV} {l:List α} (h:δ.get j=.agg cs) (hc:cs[i]? =some (.pv (.slice k (l.map f)))) (hK:l.length≤140737488355328→AW P g c Q δ):AW P g c Q δ:=
 AW.fact (fun κ a w r=>by
  have h1:=r.env j
  rw[h] at h1
  generalize hu:g.val a j=u at h1
  cases h1 with
  | @agg vs _ hs hv=>
   have ft:i<vs.size:=by rw[hs];exact(aT.1 hc).1
   obtain⟨_,_,_,h2⟩:=(hv i _ _ (aK ft) hc).kf.uz
   simpa using h2) hK
end Go.Ab
namespace Go.Ab
theorem a_.HJ {q:Md} {P:Program} {g:eY} {δ:DS} {ops:Array Oper} {rest:List Oper} {Q:Exit→DS→Prop} {dst:Option Nat} {ty:TypeId} {pos:String} {af:Array Edge} {x:Operand} {t:TypeId} {i:Nat} {cells:List AV} (hx:δ.ev x=.ptr i 0) (hb:δ.ob i=some (.box cells)) (ht:yT P t cells.length=true) (ho:fk x=true) (hd:gb δ.n dst=true)
  (hK:a_ q P g ops rest Q (δ.eZ dst (.agg cells))):a_ q P g ops (⟨dst,.load t x,ty,pos,af,none⟩::rest) Q δ:=
 a_.FX (n:=cells.length) hx hb ht (by simp) ho hd (by simpa using hK)
end Go.Ab
namespace Go.Ab
section
variable {q:Md} {P:Program} {g:eY} {δ:DS} {ops:Array Oper} {rest:List Oper} {Q:Exit→DS→Prop} {dst:Option Nat} {ty:TypeId} {pos:String} {af:Array Edge}
theorem a_.JI {t e:TypeId} {len k:Nat} {parts:List (Nat×Operand)} {z:Value} {cells:List AV} (hs:P.underlying t=some (.array len e)) (hk:(P.info? e).map (·.size)=some k) (hz:(P.info? t).bind (·.zero)=some z) (h1:z.cells.toList.all (·.oneCell')=true)
  (ho:parts.all (fun p=>fk p.2)=true) (hf:iN (fun i=>some (i*k,k)) (z.cells.toList.map fun v=> .pv (.lit v)) (parts.map fun p=>(p.1,δ.ev p.2))=some cells) (hd:gb δ.n dst=true)
  (hK:a_ q P g ops rest Q (δ.eZ dst (.agg cells))):a_ q P g ops (⟨dst,.build t parts.toArray,ty,pos,af,none⟩::rest) Q δ:=
 a_.jK _ hd (fun κ a w r=>by
  obtain⟨i0,mB,Aw⟩:∃i0,P.info? t=some i0∧i0.zero=some z:=by
   cases h:P.info? t with
   |none=>rw[h] at hz;simp at hz
   |some i0=>rw[h] at hz;exact⟨i0,rfl,by simpa using hz⟩
  obtain⟨i1,Ww,we⟩:∃i1,P.info? e=some i1∧i1.size=k:=by
   cases h:P.info? e with
   |none=>rw[h] at hk;simp at hk
   |some i1=>rw[h] at hk;exact⟨i1,rfl,by simpa using hk⟩
  obtain⟨c',h2,h3⟩:=nN (C:=δ.cx g κ) (w:=w) (place:=fun i=>some (i*k,k)) (place':=fun i=>some (i*k,k)) (fun i x h=>h)
   (parts.map fun p=>(p.1,a.eval p.2)) (parts.map fun p=>(p.1,δ.ev p.2)) z.cells _ cells (by simp) (fun j x y h4 h5=>by
    simp only[aY,bc] at h4 h5
    obtain⟨p,h6,rfl⟩:=h4
    obtain⟨p',h7,rfl⟩:=h5
    rw[h6] at h7;cases h7
    exact⟨rfl,r.C5 p.2 (iK (by simpa using (bB.1 ho) p (aR h6)))⟩)
   ⟨by simp,fun j u av h4 h5=>by
    simp only[aY,bc] at h5
    obtain⟨v,h5,rfl⟩:=h5
    have:v=u:=by have:=h4;rw[← bA,h5] at this;exact Option.some.inj this
    subst this
    exact⟨.pv (.lit _),by simpa using (bB.1 h1) _ (aR h5)⟩⟩ hf
  refine⟨.agg c',fun w1 _=>?_,.agg h3.1 fun j u c h4 h5=>(h3.2 j u c h4 h5).1⟩
  have Er:∀w,(zeroValue t).run P w=.ok z w:=fun w=>by simp [zeroValue,typeInfo,mB,Aw]
  have P2:∀w,(sizeOf e).run P w=.ok k w:=fun w=>by simp [sizeOf,typeInfo,Ww,we]
  simp only[execOp,Instr.build,Sem.run_bind,Er,Result.andThen_ok,run_underlying hs,P2,bj,h2,Sem.run_pure]) hK
theorem a_.ba2 {t e:TypeId} {x0 x1:Operand} {p0 p1:PV} {z:Value} (hs:P.underlying t=some (.array 2 e)) (h0:δ.ev x0=.pv p0) (h1:δ.ev x1=.pv p1) (hk:(P.info? e).map (·.size)=some 1) (hz:(P.info? t).bind (·.zero)=some z) (hzs:aI z.cells.size 2=true) (hz1:z.cells.toList.all (·.oneCell')=true)
  (k0:AV.one (.pv p0)=true) (k1:AV.one (.pv p1)=true) (o0:fk x0=true) (o1:fk x1=true) (hd:gb δ.n dst=true)
  (hK:a_ q P g ops rest Q (δ.eZ dst (.agg [.pv p0,.pv p1]))):a_ q P g ops (⟨dst,.build t [(0,x0),(1,x1)].toArray,ty,pos,af,none⟩::rest) Q δ:=by
 refine a_.JI (parts:=[(0,x0),(1,x1)]) (cells:=[.pv p0,.pv p1]) hs hk hz hz1 (by simp [o0,o1]) ?_ hd hK
 have mX:z.cells.toList.length=2:=by simpa using aJ hzs
 obtain⟨u,v,huv⟩:∃u v,z.cells.toList=[u,v]:=by
  match h:z.cells.toList,mX with
  |[u,v],_=>exact⟨u,v,rfl⟩
 rw[huv]
 simp [iN,lk,AV.cellsOf,AV.mE,h0,h1,k0,k1]<;>rfl
theorem je.Gv {gd:Option (Tmp×Bool)} {t e:TypeId} {x0:Operand} {p0 p1:PV} {z:Value} (ht:P.underlying t=some (.slice e)) (h0:δ.ev x0=.agg [.pv p0,.pv p1]) (hi:(P.info? e).map (fun i=>(i.size,i.zero))=some (2,some z)) (hz:z.cells.toList.all (·.oneCell')=true) (mK:aI z.cells.size 2=true)
  (k0:AV.one (.pv p0)=true) (k1:AV.one (.pv p1)=true) (o0:fk x0=true) (hd:gb δ.n dst=true):je P g ⟨dst,.buildSlice t 1 [(0,x0)].toArray,ty,pos,af,gd⟩ δ ((δ.fM .row).eZ dst (.own δ.nx e 2 [[p0,p1]])):=by
 have hf:iN (fun i=>some (i*2,2)) (jb z (1*2)) (([(0,x0)]:List (Nat×Operand)).map fun p=>(p.1,δ.ev p.2))=some [.pv p0,.pv p1]:=by
  simp [iN,lk,AV.cellsOf,AV.mE,jb,h0,k0,k1]<;>rfl
 exact je.buildSlice (len:=1) (k:=2) (parts:=[(0,x0)]) (cells:=[.pv p0,.pv p1]) ht hi mK rfl rfl hz (by simp [o0]) hf (by simp [AV.xw]) hd
theorem a_.Gv {t e:TypeId} {x0:Operand} {p0 p1:PV} {z:Value} (ht:P.underlying t=some (.slice e)) (h0:δ.ev x0=.agg [.pv p0,.pv p1]) (hi:(P.info? e).map (fun i=>(i.size,i.zero))=some (2,some z)) (hz:z.cells.toList.all (·.oneCell')=true) (mK:aI z.cells.size 2=true)
  (k0:AV.one (.pv p0)=true) (k1:AV.one (.pv p1)=true) (o0:fk x0=true) (hd:gb δ.n dst=true) (hK:a_ .plain P g ops rest Q ((δ.fM .row).eZ dst (.own δ.nx e 2 [[p0,p1]]))):
  a_ .plain P g ops (⟨dst,.buildSlice t 1 [(0,x0)].toArray,ty,pos,af,none⟩::rest) Q δ:=a_.vA rfl rfl (je.Gv ht h0 hi hz mK k0 k1 o0 hd) hK
end
end Go.Ab
namespace Go.Ab
section
variable {q:Md} {P:Program} {g:eY} {δ:DS} {ops:Array Oper} {rest:List Oper} {Q:Exit→DS→Prop} {dst:Option Nat} {ty:TypeId} {pos:String} {af:Array Edge}
theorem a_.e8 {α:Type} {x y:Operand} {t e:TypeId} {k:Nat} {m:Int} {f:α→List PV} {l:List α} (hx:δ.ev x=.pv (.slice k (l.map f))) (hy:δ.ev y=eU m)
  (ht:P.underlying t=some (.slice e)) (hk:(P.info? e).map (·.size)=some k) (ho:fk x=true) (gi:fk y=true) (hd:gb δ.n dst=true) (h0:0≤m) (hn:m.toNat<l.length)
  (hK:a_ q P g ops rest Q (δ.eZ dst (.gy (f l[m.toNat])))):a_ q P g ops (⟨dst,.indexAddr t x y,ty,pos,af,none⟩::rest) Q δ:=
 a_.Ai (n:=m.toNat) hx (by rw[hy,bZ h0]) hn ht hk ho gi hd hK
theorem a_.CD {α:Type} {t e:TypeId} {x y:Operand} {k n:Nat} {f:α→List PV} {l:List α} (hx:δ.ev x=.pv (.slice k (l.map f))) (hy:δ.ev y=eU (n:Nat)) (ht:P.underlying t=some (.slice e)) (hk:(P.info? e).map (·.size)=some k)
  (ho:fk x=true) (gi:fk y=true) (hd:gb δ.n dst=true) (hn:n≤l.length) (hK:a_ q P g ops rest Q (δ.eZ dst (.pv (.slice k ((l.take n).map f))))):a_ q P g ops (⟨dst,.slice t x none (some y) none,ty,pos,af,none⟩::rest) Q δ:=
 a_.slice (l:=0) (h:=n) (hi:=some y) (lo:=none) hx ht hk rfl ⟨gi,hy⟩ (bg _) (by simpa using hn) ho hd (by simpa [List.map_take] using hK)
end
end Go.Ab
/- Ranging over a function:the iterator is walked in place,each call of yield walks the loop's body. -/
namespace Go.Ab
open Go Go.RowKit
attribute [local irreducible] HS
variable {P:Program} {g:eY} {δ:DS} {κ:Kp} {a:Act} {w:World}
variable {ops:Array Oper} {rest:List Oper} {Q:Exit→DS→Prop} {dst:Option Nat} {ty:TypeId} {pos:String} {af:Array Edge}
def gn (e:List (Nat×AV)):List (Nat×AV):=e.map fun p=>(p.1+HS,p.2)
def gq:List (Nat×AV)→List (Nat×AV)
 |[]=>[]
 |(i,v)::r=>bif bu HS i then (i - HS,v)::gq r else gq r
def fR:List (Nat×AV)→List (Nat×AV)
 |[]=>[]
 |(i,v)::r=>bif bu HS i && aV i (HS+HS) then (i - HS,v)::fR r else fR r
theorem kN:∀(e:List (Nat×AV)) (j:Nat),j<HS→look (gn e) j=.any
 |[],_,_=>rfl
 |(i,v)::r,j,h=>by
  show look ((i+HS,v)::gn r) j=_
  rw[fC,if_neg aG]
  exact kN r j h
theorem k8:∀(e:List (Nat×AV)) (j:Nat),look (gn e) (j+HS)=look e j
 |[],_=>rfl
 |(i,v)::r,j=>by
  show look ((i+HS,v)::gn r) (j+HS)=_
  rw[fC,fC,k8 r j]
  by_cases e:i=j
  ·rw[if_pos aG,if_pos e]
  ·rw[if_neg aG,if_neg e]
theorem lJ:∀(e:List (Nat×AV)) (j:Nat),look (gq e) j=look e (j+HS)
 |[],_=>rfl
 |(i,v)::r,j=>by
  rw[fC]
  simp only[gq]
  cases h:bu HS i with
  |true=>
   have h':HS≤i:=by simpa using h
   show look ((i - HS,v)::gq r) j=_
   rw[fC,lJ r j]
   by_cases e:i=j+HS
   ·rw[if_pos aG,if_pos e]
   ·rw[if_neg aG,if_neg e]
  |false=>
   have h':¬HS≤i:=by
                intro hh;have:bu HS i=true:=by simpa using hh
                rw[this] at h;cases h
   show look (gq r) j=_
   rw[lJ r j,if_neg aG]
theorem pj:∀(e:List (Nat×AV)) (j:Nat),look (fR e) j=if j<HS then look e (j+HS) else .any
 |[],j=>by show AV.any=_;split<;>rfl
 |(i,v)::r,j=>by
  rw[fC]
  simp only[fR]
  cases h:(bu HS i && aV i (HS+HS)) with
  |true=>
   simp only[aW] at h
   have h1:HS≤i:=by simpa using h.1
   have h2:i<HS+HS:=by simpa using h.2
   show look ((i - HS,v)::fR r) j=_
   rw[fC,pj r j]
   by_cases e:i=j+HS
   ·rw[if_pos aG,if_pos aG,if_pos e]
   ·rw[if_neg aG,if_neg e]
  |false=>
   show look (fR r) j=_
   rw[pj r j]
   by_cases hj:j<HS
   ·rw[if_pos hj,if_pos hj]
    by_cases e:i=j+HS
    ·exfalso
     have:(bu HS i && aV i (HS+HS))=true:=by simp only[aW];exact⟨by simpa using (by omega:HS≤i),by simpa using (by omega:i<HS+HS)⟩
     rw[this] at h;cases h
    ·rw[if_neg e]
   ·rw[if_neg hj,if_neg hj]
def KU (l:Nat) (Q:Exit→DS→Prop) (δ:DS):Option Ob→Prop
 |some (.loop l' _ _ _ _ .ready)=>l'=l∧Q .normal δ
 |some (.loop l' _ _ _ _ (.done .ret))=>l'=l∧Q .ret δ
 |some (.loop l' _ _ _ _ (.done (.exit id)))=>l'=l∧Q (.exit id) δ
 |_=>False
def mJ (n i:Nat) (δ:DS):DS:={n,env:=gq δ.env,fY:=(match δ.ob i with|some (.loop l tm ps iQ body _)=>(i,some (.loop l tm ps iQ body .pL))|o=>(i,o))::δ.fY,nx:=δ.nx}
def fh (n i l:Nat) (Q:Exit→DS→Prop):Exit→DS→Prop
 |.normal,δ|.ret,δ=>KU l Q (mJ n i δ) (δ.ob i)
 |_,_=>False
theorem gm.putObj (w:World) (b:Nat) (o:Obj):gm w (w.putObj b o) (some b):=⟨rfl,rfl,rfl,by simp,fun k _ h=>World.putObj_heap_other (fun e=>h (by rw[e]))⟩
theorem oB (g:eY) (a:Act) (j:Nat):g.val a (j+HS)=g.held (j+HS):=by unfold eY.val;rw[if_neg aG]
theorem NX {n i l:Nat} {tm ps iQ body st} (h:δ.ob i=some (.loop l tm ps iQ body st)):∀j,(mJ n i δ).ob j=if i=j then some (.loop l tm ps iQ body .pL) else δ.ob j:=by
 intro j
 unfold mJ
 rw[h]
 exact fj _ _ _ _
theorem Rel.back {g':eY} {a2 a':Act} {w w':World} {n i b l:Nat} {tm ps iQ body st} {r:Loop} (r2:Rel g' δ κ a2 w) (jz:g.wt=none) (VJ:g'.wt=none) (hg:g'.B=g.B∧g'.w0=g.w0∧g'.N0=g.N0∧g'.fr=g.fr∧g'.w1=g.w1) (s_:∀j,g'.held (j+HS)=g.val a' j) (hn:a'.tmps.size=n)
  (ho:δ.ob i=some (.loop l tm ps iQ body st)) (hκ:κ i=some b) (hr:w.heap[b]? =some (.loop r)) (r':Loop) (hk:r'.tmps=r.tmps∧r'.params=r.params∧r'.assign=r.assign∧r'.body=r.body) (hw:w'=w.putObj b (.loop r'))
  (hd:Jr g a' w') (TN:∀d∈a'.defers,∀r,d.target=.collected r→¬g.fr r):Rel g (mJ n i δ) κ a' w':=by
 subst hw
 have ft:b<w.heap.size:=iM hr
 obtain⟨r3,G⟩:=r2.modify (o':=.loop l tm ps iQ body .pL) ho rfl rfl hκ (lZ VJ i) (gm.putObj w b (.loop r')) (by simp) (fun C hC G=>by
  obtain⟨b',r0,h1,h2,yV,h3,h4,h5,h6,_⟩:=r2.obj i _ ho
  have:b'=b:=Option.some.inj (h1.symm.trans hκ)
  subst this
  rw[hr] at h2
  cases h2
  exact⟨b',r',by rw[hC];exact hκ,World.putObj_heap_same ft,yV,hk.1.trans h3,hk.2.1.trans h4,hk.2.2.1.trans h5,hk.2.2.2.trans h6,trivial⟩)
 have jo:∀j,(mJ n i δ).ob j=(δ.gl i (some (.loop l tm ps iQ body .pL))).ob j:=by
  intro j;rw[NX ho,iG]
 have M3:(mJ n i δ).cx g κ=(δ.gl i (some (.loop l tm ps iQ body .pL))).cx g' κ:=by
  have h1:(mJ n i δ).live=(δ.gl i (some (.loop l tm ps iQ body .pL))).live:=funext fun j=>by unfold DS.live;rw[jo]
  have h2:(mJ n i δ).lr=(δ.gl i (some (.loop l tm ps iQ body .pL))).lr:=funext fun j=>by unfold DS.lr;rw[jo]
  have h3:(mJ n i δ).lb=(δ.gl i (some (.loop l tm ps iQ body .pL))).lb:=funext fun j=>by unfold DS.lb;rw[jo]
  unfold DS.cx
  rw[h1,h2,h3,hg.1,hg.2.2.1]
 have fH:∀j,(mJ n i δ).live j↔(δ.gl i (some (.loop l tm ps iQ body .pL))).live j:=fun j=>by unfold DS.live;rw[jo]
 exact
  {n:=hn,dfr:=hd
   env:=fun j=>by
    have h1:=r3.env (j+HS)
    rw[oB,s_ j] at h1
    have h2:(mJ n i δ).get j=(δ.gl i (some (.loop l tm ps iQ body .pL))).get (j+HS):=lJ δ.env j
    rw[h2,M3];exact h1
   obj:=fun j o h=>by rw[jo] at h;rw[M3];exact r3.obj j o h
   inj:=fun i j b h1 h2=>r3.inj i j b ((fH i).1 h1) ((fH j).1 h2)
   lo:=fun j b h1 h2=>by rw[← hg.1];exact r3.lo j b ((fH j).1 h1) h2
   nx:=fun j h=>r3.nx j ((fH j).1 h)
   wt:=fun k hk=>by rw[jz] at hk;cases hk
   below:=by rw[← hg.1,← hg.2.1];exact r3.below
   kI:=TN
   fr:=by
    have h1:qm g' (mJ n i δ).live κ (w.putObj b (.loop r')):=r3.fr.sub fun j b h1 h2=>⟨j,(fH j).1 h1,h2⟩
    exact h1.re hg.1.symm hg.2.2.2.1.symm hg.2.2.2.2.symm jz
   hB:=by rw[← hg.1];exact r3.hB
   N0:=by rw[← hg.1,← hg.2.2.1,← hg.2.2.2.1];exact r3.N0}
theorem NV {x:Operand} {f:FuncId} {vs us:Array Value} {a:Act} (hx:a.eval x=.func (.func f) vs us) (l:Nat) (w:World):
  (resolve a.eval (rangeCall x l) 0).run P w=.ok {target:=.fn (.func f) us,args:=vs++ #[.func (.yield l) #[] #[]]} w:=by
 have hc:a.eval (.const (.func (.yield l) #[] #[]))=.func (.yield l) #[] #[]:=rfl
 simp [resolve,rangeCall,Deferred.ofValue,hx,hc]
def sJ:List Tmp→List AV→List (Nat×AV)→List (Nat×AV)
 |t::ts,v::vs,e=>sJ ts vs ((t,v)::e)
 |_,_,e=>e
def Bf (n:Nat) (ps:List Tmp) (ve:List AV) (δ:DS):DS:={n,env:=sJ ps ve (fR δ.env++gn δ.env),fY:=δ.fY,nx:=δ.nx}
def fK (n:Nat) (δ:DS):DS:={n,env:=gq δ.env,fY:=δ.fY,nx:=δ.nx}
theorem oc:∀(e1 e2:List (Nat×AV)) (j:Nat),(look (e1++e2) j=look e1 j)∨((∀p∈e1,p.1≠j)∧look (e1++e2) j=look e2 j)
 |[],e2,j=> .inr ⟨by simp,rfl⟩
 |(i,v)::e1,e2,j=>by
  rw[bq,fC,fC]
  by_cases e:i=j
  ·rw[if_pos e,if_pos e];exact .inl rfl
  ·rw[if_neg e,if_neg e]
   rcases oc e1 e2 j with h|⟨h1,h2⟩
   ·exact .inl h
   ·refine .inr ⟨fun p hp=>?_,h2⟩
    rcases br.1 hp with rfl|hp
    ·exact e
    ·exact h1 p hp
theorem rE:∀(e:List (Nat×AV)) (j:Nat),(∀p∈e,p.1≠j)→look e j=.any
 |[],_,_=>rfl
 |(i,v)::e,j,h=>by rw[fC,if_neg (h (i,v) (by simp))];exact rE e j fun p hp=>h p (by simp [hp])
theorem tT:∀(e:List (Nat×AV)),∀p∈fR e,p.1<HS
 |[],p,h=>by simp [fR] at h
 |(i,v)::e,p,h=>by
  simp only[fR] at h
  cases hc:(bu HS i && aV i (HS+HS)) with
  |true=>
   rw[hc] at h
   simp only[aW] at hc
   have h1:HS≤i:=by simpa using hc.1
   have h2:i<HS+HS:=by simpa using hc.2
   rcases br.1 h with rfl|h
   ·show i - HS<HS;omega
   ·exact tT e p h
  |false=>rw[hc] at h;exact tT e p h
theorem Ej (e:List (Nat×AV)) (j:Nat):look (fR e++gn e) j=if j<HS then look e (j+HS) else look e (j - HS):=by
 by_cases hj:j<HS
 ·rw[if_pos hj]
  rcases oc (fR e) (gn e) j with h|⟨h1,h2⟩
  ·rw[h,pj,if_pos hj]
  ·have h3:=rE _ _ h1
   rw[pj,if_pos hj] at h3
   rw[h2,kN _ _ hj,h3]
 ·rw[if_neg hj]
  have h1:∀p∈fR e,p.1≠j:=fun p hp e'=>hj (e'▸tT e p hp)
  rcases oc (fR e) (gn e) j with h|⟨_,h2⟩
  ·rw[rE _ _ h1] at h
   -- both are any or the other
   have:∀(e1:List (Nat×AV)),(∀p∈e1,p.1≠j)→look (e1++gn e) j=look (gn e) j:=by
    intro e1 gz
    induction e1 with
    |nil=>rfl
    |cons p e1 ih=>
     rw[bq]
     show look ((p.1,p.2)::(e1++gn e)) j=_
     rw[fC,if_neg (gz p (by simp))]
     exact ih fun q hq=>gz q (by simp [hq])
   rw[this _ h1]
   obtain⟨m,rfl⟩:∃m,j=m+HS:=⟨j - HS,by omega⟩
   rw[k8,b6]
  ·rw[h2]
   obtain⟨m,rfl⟩:∃m,j=m+HS:=⟨j - HS,by omega⟩
   rw[k8,b6]
theorem FK {C:Cx} {w:World} {hv:Nat→Value}:∀(ps:List Tmp) (vals:List Value) (ve:List AV) (tm:Array Value) (e:List (Nat×AV)),vals.length=ps.length→ve.length=ps.length→
  (∀t∈ps,t<tm.size∧t<HS)→(∀(j:Nat) (u:Value) (v:AV),vals[j]? =some u→ve[j]? =some v→RA C w u v)→
  (∀j,RA C w (if j<HS then tm.getD j undef else hv j) (look e j))→
  ∀j,RA C w (if j<HS then ((ps.zip vals).foldl (fun tmps (t,a)=>tmps.setIfInBounds t a) tm).getD j undef else hv j) (look (sJ ps ve e) j)
 |[],[],[],tm,e,_,_,_,_,h=>h
 |t::ps,u::vals,v::ve,tm,e,h1,h2,h3,h4,h=>by
  simp only[b7,b9,sJ]
  refine FK ps vals ve _ _ (by simpa using h1) (by simpa using h2) (fun t' ht'=>by simpa using h3 t' (by simp [ht'])) (fun j x y hx hy=>h4 (j+1) x y (by simpa using hx) (by simpa using hy)) (fun j=>?_)
  rw[fC]
  by_cases e':t=j
  ·subst e'
   obtain⟨h5,h6⟩:=h3 t (by simp)
   rw[if_pos rfl,if_pos h6,aO,aP,if_pos rfl,if_pos h5]
   exact h4 0 u v rfl rfl
  ·rw[if_neg e']
   have:=h j
   by_cases hj:j<HS
   ·rw[if_pos hj] at this ⊢
    rw[aO,aP,if_neg e',← aO]
    exact this
   ·rw[if_neg hj] at this ⊢;exact this
 |[],_::_,_,_,_,h,_,_,_,_=>by simp at h
 |[],[],_::_,_,_,_,h,_,_,_=>by simp at h
 |_::_,[],_,_,_,h,_,_,_,_=>by simp at h
 |_::_,_::_,[],_,_,_,h,_,_,_=>by simp at h
theorem wU:∀(l:List (Tmp×Value)) (tm:Array Value),(l.foldl (fun tmps (t,a)=>tmps.setIfInBounds t a) tm).size=tm.size
 |[],_=>rfl
 |(t,a)::l,tm=>by simp only[b9];rw[wU l];simp
def jw (δ:DS) (i l:Nat) (st:u9):Prop:=∃tm ps iQ body,δ.ob i=some (.loop l tm ps iQ body st)
def DS.lQ (δ:DS) (i:Nat) (st:u9):DS:=match δ.ob i with|some (.loop l tm ps iQ body _)=>δ.gl i (some (.loop l tm ps iQ body st))|_=>δ
def zZ (n i l:Nat) (K:Bool→u9→DS→Prop):Exit→DS→Prop
 |.normal,δ=>jw δ i l .busy∧K true .ready (fK n δ)
 |.ret,δ=>jw δ i l .busy∧K false (.done .ret) (fK n δ)
 |.exit id,δ=>jw δ i l .busy∧K false (.done (.exit id)) (fK n δ)
 |_,_=>False
theorem Rel.lQ {i l:Nat} {st st':u9} {rl r':Loop} (jz:g.wt=none) (r:Rel g δ κ a w) (h:jw δ i l st) (hr:w.heap[l]? =some (.loop rl)) (hk:r'.tmps=rl.tmps∧r'.params=rl.params∧r'.assign=rl.assign∧r'.body=rl.body)
  (ij:match st' with|.ready=>r'.state=.ready∧r'.pending=none|.busy=>r'.state=.busy|.done c=>r'.state=.done∧r'.pending=some c|.pL=>True):Rel g (δ.lQ i st') κ a (w.putObj l (.loop r')):=by
 obtain⟨tm,ps,iQ,body,ho⟩:=h
 obtain⟨b,r0,h1,h2,yV,h3,h4,h5,h6,_⟩:=r.obj i _ ho
 have QY:κ i=some b:=h1
 subst yV
 rw[hr] at h2
 cases h2
 obtain⟨r3,G⟩:=r.modify (o':=.loop b tm ps iQ body st') ho rfl rfl QY (lZ jz i) (gm.putObj w b (.loop r')) (by simp) (fun C hC G=>
  ⟨b,r',by rw[hC];exact QY,World.putObj_heap_same (iM hr),rfl,hk.1.trans h3,hk.2.1.trans h4,hk.2.2.1.trans h5,hk.2.2.2.trans h6,ij⟩)
 unfold DS.lQ
 rw[ho]
 exact r3
theorem Rel.frame {g':eY} {a2 a':Act} {n:Nat} (r2:Rel g' δ κ a2 w) (jz:g.wt=none) (VJ:g'.wt=none) (hg:g'.B=g.B∧g'.w0=g.w0∧g'.N0=g.N0∧g'.fr=g.fr∧g'.w1=g.w1) (s_:∀j,g'.held (j+HS)=g.val a' j) (hn:a'.tmps.size=n) (hd:Jr g a' w) (TN:∀d∈a'.defers,∀r,d.target=.collected r→¬g.fr r):Rel g (fK n δ) κ a' w:=by
 have M3:(fK n δ).cx g κ=δ.cx g' κ:=by
  show(δ.cx g κ)=_
  unfold DS.cx
  rw[hg.1,hg.2.2.1]
 exact
  {n:=hn,dfr:=hd
   env:=fun j=>by
    have h1:=r2.env (j+HS)
    rw[oB,s_ j] at h1
    have h2:(fK n δ).get j=δ.get (j+HS):=lJ δ.env j
    rw[h2,M3];exact h1
   obj:=fun j o h=>by rw[M3];exact r2.obj j o h
   inj:=r2.inj
   lo:=fun j b h1 h2=>by rw[← hg.1];exact r2.lo j b h1 h2
   nx:=r2.nx
   wt:=fun k hk=>by rw[jz] at hk;cases hk
   below:=by rw[← hg.1,← hg.2.1];exact r2.below
   kI:=TN
   fr:=by
    have h1:qm g' δ.live κ w:=r2.fr
    exact h1.re hg.1.symm hg.2.2.2.1.symm hg.2.2.2.2.symm jz
   hB:=by rw[← hg.1];exact r2.hB
   N0:=by rw[← hg.1,← hg.2.2.1,← hg.2.2.2.1];exact r2.N0}
theorem vu {x:Operand} {ys:Array Operand} {tys:Array TypeId} {l:Nat} {r:Loop} {a:Act} (hx:a.eval x=.func (.yield l) #[] #[]) (h:w.heap[l]? =some (.loop r)) (hs:ys.size=r.params.size):
  (execOp a.eval ⟨dst,.call {callee:=.value x,args:=ys,argTypes:=tys},ty,pos,af,none⟩).run P w=
   .ok (.round l r.fn ((r.params.zip (ys.map a.eval)).foldl (fun tmps (t,a)=>tmps.setIfInBounds t a) r.tmps) r.assign r.body) w:=by
 have:=run_yield (P:=P) (w:=w) (args:=ys.map a.eval) h (by simpa using hs)
 simp only[execOp,resolve,Deferred.ofValue,hx,invoke,Sem.run_bind,Sem.run_pure,Result.andThen_ok,Array.empty_append]
 exact this
theorem a_.yield {x:Operand} {ys:List Operand} {tys:Array TypeId} {i l n0:Nat} {tm:Array Value} {ps:List Tmp} {iQ body:Code} (Gx:g.ro=none) (jz:g.wt=none) (oE:∀j,j<HS→g.held (j+HS)=tm.getD j undef) (Fj:tm.size=n0) (wG:bu n0 HS=true)
  (hx:δ.ev x=.kS i) (jo:δ.ob i=some (.loop l tm ps.toArray iQ body .ready)) (ho:fk x=true) (B6:ys.all fk=true) (hlen:aI ys.length ps.length=true) (Fp:ps.all (fun t=>aV t n0)=true) (uh:gb δ.n dst=true)
  (h:∀g':eY,g'.ro=some l→g'.wt=none→AW P g' iQ (fT (fun δ1=>jw δ1 i l .ready∧AW P g' body (zZ δ.n i l (fun b st δ2=>a_ .plain P g ops rest Q ((δ2.lQ i st).eZ dst (fe b)))) (δ1.lQ i .busy)) (fun _ _=>False)) (Bf n0 ps (ys.map δ.ev) δ)):
  a_ .plain P g ops (⟨dst,.call {callee:=.value x,args:=ys.toArray,argTypes:=tys},ty,pos,af,none⟩::rest) Q δ:=by
 intro κ a w r
 have oz:=r.ra hx ho
 generalize hv:a.eval x=v at oz
 cases oz with
 | @kS _ b hl hκ=>
  obtain⟨b',rl,h1,h2,yV,h3,h4,h5,h6,h7⟩:=r.obj _ _ jo
  have:b'=b:=Option.some.inj (h1.symm.trans hκ)
  subst this
  subst yV
  obtain⟨ms,G9,BZ,M4⟩:=r.dfr
  have vJ:ys.length=ps.length:=aJ hlen
  show wpListIn _ _ P ops _ (_::rest) a w
  refine iu rfl rfl fun K rf=>?_
  unfold Oper.AL
  rw[vu hv h2 (by rw[h4];simpa using vJ),Oper.uponIn_round,Gx]
  refine⟨fun h=>by simp at h,?_⟩
  let tm':Array Value:=(rl.params.zip (ys.toArray.map a.eval)).foldl (fun tmps (t,a)=>tmps.setIfInBounds t a) rl.tmps
  have J0:tm'=(ps.zip (ys.map a.eval)).foldl (fun tmps (t,a)=>tmps.setIfInBounds t a) tm:=by
   show(rl.params.zip (ys.toArray.map a.eval)).foldl _ rl.tmps=_
   rw[h3,h4,← Array.foldl_toList,Array.toList_zip]
   simp
  let g':eY:={B:=g.B,w0:=g.w0,N0:=g.N0,held:=fun j=>g.val a (j - HS),ro:=some b',mks:=ms++g.mks,wt:=none,fr:=g.fr,w1:=g.w1}
  have EU:∀j,g'.held (j+HS)=g.val a j:=fun j=>congrArg (g.val a) (b6 j HS)
  have mS:Rel g' (Bf n0 ps (ys.map δ.ev) δ) κ {tmps:=tm',defers:=[]} w:=
   {n:=by show tm'.size=n0;rw[J0,wU];exact Fj
    dfr:=⟨[],rfl,BZ,M4⟩
    env:=fun j=>by
     have hp:=FK (C:=δ.cx g κ) (w:=w) (hv:=g'.held) ps (ys.map a.eval) (ys.map δ.ev) tm (fR δ.env++gn δ.env) (by simpa using vJ) (by simpa using vJ)
      (fun t ht=>by
       have h8:=(bB.1 Fp) t ht
       have h9:t<n0:=by simpa using h8
       have wm:n0≤HS:=by simpa using wG
       exact⟨Fj▸h9,Nat.lt_of_lt_of_le h9 wm⟩)
      (fun j u v h8 h9=>by
       simp only[aY,bc] at h8 h9
       obtain⟨y,h8,rfl⟩:=h8
       obtain⟨y',h9,rfl⟩:=h9
       rw[h8] at h9;cases h9
       exact r.C5 y (iK ((bB.1 B6) y (aR h8))))
      (fun j=>by
       rw[Ej]
       by_cases hj:j<HS
       ·rw[if_pos hj,if_pos hj,← oE j hj,← oB]
        exact r.env (j+HS)
       ·rw[if_neg hj,if_neg hj]
        exact r.env (j - HS)) j
     rw[← J0] at hp
     exact hp
    obj:=r.obj,inj:=r.inj,lo:=r.lo,nx:=r.nx,wt:=fun k hk=>(by cases hk),below:=r.below,hB:=r.hB,N0:=r.N0,fr:=r.fr.re rfl rfl rfl rfl,kI:=fun d hd=>by cases hd}
  rw[h5,h6]
  refine roundIn_of_wpIn (F:=Fw none) trivial (wpIn_mono (h g' rfl rfl κ _ w mS) ?_)
  rintro e a1 w1 ⟨δ1,κ1,hq,r1⟩
  cases e with
  |normal=>
   obtain⟨Ql,hq⟩:=hq
   have RY:=Ql
   obtain⟨tm1,ps1,asg1,body1,U0⟩:=Ql
   obtain⟨b1,rl1,k1,k2,kbl,k3,k4,k5,k6,k7⟩:=r1.obj _ _ U0
   subst kbl
   have r1':=r1.lQ rfl (st':=.busy) (r':={rl1 with state:=.busy}) RY k2 ⟨rfl,rfl,rfl,rfl⟩ rfl
   refine⟨_,run_beginRound k2 k7.1,wpIn_mono (hq κ1 a1 _ r1') ?_⟩
   rintro e2 a2 w2 ⟨δ2,κ2,D5,r2⟩
   have fin:∀(jump:Option Code) (st:u9) (bb:Bool),bb=jump.isNone→jw δ2 i b1 .busy→a_ .plain P g ops rest Q (((fK δ.n δ2).lQ i st).eZ dst (fe bb))→
     (match st with|.ready=>jump=none|.done c=>jump=some c|_=>False)→
     ∃v w',(Instr.endRound b1 jump).run P w2=.ok v w'∧K (a.put dst v) w':=by
    intro jump st bb Ju pB hA ij
    have S5:=pB
    obtain⟨tm2,ps2,asg2,body2,yI⟩:=pB
    obtain⟨b2,rl2,m1,m2,mbl,m3,m4,m5,m6,m7⟩:=r2.obj _ _ yI
    subst mbl
    have r3:=r2.lQ rfl (st':=st) (r':={rl2 with state:=if jump.isNone then .ready else .done,pending:=jump}) S5 m2 ⟨rfl,rfl,rfl,rfl⟩ (by
     cases st with
     |ready=>simp only at ij;subst ij;exact⟨rfl,rfl⟩
     |done c=>simp only at ij;subst ij;exact⟨rfl,rfl⟩
     |_=>exact ij.elim)
    refine⟨_,_,run_endRound jump m2,?_⟩
    have hd:Jr g a (w2.putObj b2 (.loop {rl2 with state:=if jump.isNone then .ready else .done,pending:=jump})):=by
     obtain⟨rs4,k1,k2,k3⟩:=r3.dfr
     exact⟨ms,G9,(ca.1 k2).2.1,fun k hk=>k3 k (bW.2 (.inr hk))⟩
    have r4:=r3.frame (g:=g) (a':=a) (n:=δ.n) jz rfl ⟨rfl,rfl,rfl,rfl,rfl⟩ EU r.n hd r.kI
    have he:fK δ.n (δ2.lQ i st)=(fK δ.n δ2).lQ i st:=by
     unfold DS.lQ
     have:(fK δ.n δ2).ob i=δ2.ob i:=rfl
     rw[this,yI];rfl
    rw[he] at r4
    subst Ju
    have Fy:((fK δ.n δ2).lQ i st).n=δ.n:=by
     unfold DS.lQ
     have:(fK δ.n δ2).ob i=δ2.ob i:=rfl
     rw[this,yI];rfl
    exact rf _ _ (hA κ2 _ _ (r4.eZ (v:=.bool jump.isNone) (fE (by rw[Fy];exact uh)) (.pv (.lit _))))
   cases e2 with
   |normal=>exact fin none .ready true rfl D5.1 D5.2 rfl
   |ret=>exact fin (some .ret) (.done .ret) false rfl D5.1 D5.2 rfl
   |exit id=>exact fin (some (.exit id)) (.done (.exit id)) false rfl D5.1 D5.2 rfl
   |_=>exact D5.elim
  |_=>exact hq.elim
end Go.Ab
/- Calls walked in place:the callee's body over the caller's own objects. -/
namespace Go.Ab
open Go Go.RowKit
attribute [local irreducible] HS
variable {P:Program} {g:eY} {δ:DS} {κ:Kp} {a:Act} {w:World}
variable {ops:Array Oper} {rest:List Oper} {Q:Exit→DS→Prop} {dst:Option Nat} {ty:TypeId} {pos:String} {af:Array Edge}
theorem vR (l:List AV) (e:List (Nat×AV)) (hl:l.length≤HS) (j:Nat):look (enum 0 l++gn e) j=if j<HS then look (enum 0 l) j else look e (j - HS):=by
 have IT:∀(l:List AV) (i:Nat),(∀j,i+l.length≤j∨j<i→look (enum i l++gn e) j=look (gn e) j)∧(∀j,i≤j→j<i+l.length→look (enum i l++gn e) j=look (enum i l) j):=by
  intro l
  induction l with
  |nil=>intro i;exact⟨fun j _=>rfl,fun j h1 h2=>by simp at h2;omega⟩
  |cons v l ih=>
   intro i
   obtain⟨h1,h2⟩:=ih (i+1)
   simp only[cb]
   refine⟨fun j hj=>?_,fun j h3 h4=>?_⟩
   ·show look ((i,v)::(enum (i+1) l++gn e)) j=_
    rw[fC,if_neg aG]
    exact h1 j (by omega)
   ·show look ((i,v)::(enum (i+1) l++gn e)) j=look ((i,v)::enum (i+1) l) j
    rw[fC,fC]
    by_cases e:i=j
    ·rw[if_pos e,if_pos e]
    ·rw[if_neg e,if_neg e]
     exact h2 j aG (by omega)
 obtain⟨h1,h2⟩:=IT l 0
 by_cases hj:j<HS
 ·rw[if_pos hj]
  by_cases Ed:j<l.length
  ·exact h2 j (bg _) (by omega)
  ·rw[h1 j aG,kN _ _ hj,jV l 0 j aG]
 ·rw[if_neg hj,h1 j aG]
  obtain⟨m,rfl⟩:∃m,j=m+HS:=⟨j - HS,by omega⟩
  rw[k8,b6]
def fp (P:Program) (rs:List ResultVar) (n:Nat) (dst:Option Nat) (K:DS→Prop):Exit→DS→Prop
 |.normal,δ|.ret,δ=>∃v,fZ P δ rs v∧K ((fK n δ).eZ dst v)
 |_,_=>False
theorem oJ {rs:List ResultVar} {n:Nat} {K:DS→Prop} {v:AV} (h:fZ P δ rs v) (hK:K ((fK n δ).eZ dst v)):fp P rs n dst K .ret δ:=⟨v,h,hK⟩
theorem rI {gd:Option (Tmp×Bool)} {x:Operand} {f:FuncId} {vs us:Array Value} {xs:Array Operand} {tys:Array TypeId} {ρ:Operand→Value} (hx:ρ x=.func (.func f) vs us) (he:∀vals w,(callFunc f vals).run P w=.ok (.enter f vals) w) (w:World):
  (execOp ρ ⟨dst,.call {callee:=.value x,args:=xs,argTypes:=tys},ty,pos,af,gd⟩).run P w=.ok (.enter f (vs++xs.map ρ++us)) w:=by
 simp [execOp,resolve,Deferred.ofValue,invoke,hx,he]
theorem a_.inline {x:Operand} {xs:List Operand} {tys:Array TypeId} {f:FuncId} {first cap:List AV} {fn:Func} {c:Code} {n':Nat} {rs:List ResultVar} (jz:g.wt=none) (hx:δ.ev x=.jd (.func f) first cap) (ho:fk x=true) (lK:xs.all fk=true)
  (hf:P.funcs[f]? =some fn) (hb:fn.body=some c) (oh:fn.results=rs.toArray) (hn:fn.ntmps=n') (hle:bu (first.length+xs.length+cap.length) n'=true) (P3:bu n' HS=true) (hd:gb δ.n dst=true) (he:(fn.name== "runtime.NumGoroutine")=false)
  (h:∀g':eY,g'.ro=none→g'.wt=none→AW P g' c (fp P rs δ.n dst fun δ2=>a_ .plain P g ops rest Q δ2) {n:=n',env:=enum 0 (first++xs.map δ.ev++cap)++gn δ.env,fY:=δ.fY,nx:=δ.nx}):
  a_ .plain P g ops (⟨dst,.call {callee:=.value x,args:=xs.toArray,argTypes:=tys},ty,pos,af,none⟩::rest) Q δ:=by
 intro κ a w r
 have oz:=r.ra hx ho
 generalize hv:a.eval x=v at oz
 cases oz with
 | @jd _ vs us _ _ hs zN ht Jt=>
  have IC:first.length+xs.length+cap.length≤n':=by simpa using hle
  have XB:n'≤HS:=by simpa using P3
  obtain⟨ms,G9,BZ,M4⟩:=r.dfr
  have Zk:∀vals w,(callFunc f vals).run P w=.ok (.enter f vals) w:=fun vals w=>by simp [callFunc,hf,hb];simpa using he
  show wpListIn _ _ P ops _ (_::rest) a w
  refine iu rfl rfl fun K rf=>?_
  unfold Oper.AL
  rw[rI hv Zk,Oper.uponIn_enter]
  refine⟨fun h=>by simp at h,?_⟩
  let args:Array Value:=vs++xs.toArray.map a.eval++us
  let ve:List AV:=first++xs.map δ.ev++cap
  have mX:args.size=ve.length:=by simp [args,ve];omega
  have WY:ve.length=first.length+xs.length+cap.length:=by simp [ve];omega
  let g':eY:={B:=g.B,w0:=g.w0,N0:=g.N0,held:=fun j=>g.val a (j - HS),ro:=none,mks:=ms++g.mks,wt:=none,fr:=g.fr,w1:=g.w1}
  let δ2:DS:={n:=n',env:=enum 0 ve++gn δ.env,fY:=δ.fY,nx:=δ.nx}
  have gp:∀(j:Nat) (u:Value) (av:AV),args[j]? =some u→ve[j]? =some av→RA (δ.cx g κ) w u av:=by
   intro j u av h1 h2
   simp only[args] at h1
   simp only[ve] at h2
   by_cases hj:j<first.length+xs.length
   ·rw[aQ (by simp;omega)] at h2
    rw[cd (by simp;omega)] at h1
    by_cases OB:j<first.length
    ·rw[aQ OB] at h2
     rw[cd aG] at h1
     exact zN j u av h1 h2
    ·rw[aS aG] at h2
     rw[cf aG,hs] at h1
     simp only[bj,List.getElem?_toArray,aY,bc] at h1 h2
     obtain⟨y,h3,rfl⟩:=h1
     obtain⟨y',h4,rfl⟩:=h2
     rw[h3] at h4;cases h4
     exact r.C5 y (iK ((bB.1 lK) y (aR h3)))
   ·rw[aS (by simp;omega)] at h2
    rw[cf (by simp;omega)] at h1
    have e1:(vs++xs.toArray.map a.eval).size=(first++xs.map δ.ev).length:=by simp;omega
    rw[e1] at h1
    exact Jt _ u av h1 h2
  have mS:Rel g' δ2 κ {tmps:=args++cg (fn.ntmps - args.size) undef,defers:=[]} w:=
   {n:=by show(args++cg (fn.ntmps - args.size) undef).size=n';rw[Array.size_append,Array.size_replicate,hn,mX];omega
    dfr:=⟨[],rfl,BZ,M4⟩
    env:=fun j=>by
     show RA (δ.cx g κ) w _ (look (enum 0 ve++gn δ.env) j)
     rw[vR ve δ.env aG]
     unfold eY.val
     by_cases hj:j<HS
     ·rw[if_pos hj,if_pos hj]
      show RA (δ.cx g κ) w ((args++cg (fn.ntmps - args.size) undef).getD j undef) _
      by_cases TJ:j<ve.length
      ·have D4:(args++cg (fn.ntmps - args.size) undef).getD j undef=args[j]:=by
        rw[aO,cd aG,aK aG];rfl
       rw[D4,oU ve 0 j ve[j] (bg _) (by rw[Nat.sub_zero];exact aZ TJ)]
       exact gp j _ _ (aK aG) (aZ TJ)
      ·rw[jV ve 0 j aG];exact .any _
     ·rw[if_neg hj,if_neg hj]
      exact r.env (j - HS)
    obj:=r.obj,inj:=r.inj,lo:=r.lo,nx:=r.nx,wt:=fun k hk=>(by cases hk),below:=r.below,hB:=r.hB,N0:=r.N0,fr:=r.fr.re rfl rfl rfl rfl,kI:=fun d hd=>by cases hd}
  refine(show CallsIn (Fw none) (0 - 1) P f args w _ from callsIn_of_wp_marks (n:=0) hf hb trivial (wpIn_mono (h g' rfl rfl κ _ w mS) ?_))
  rintro e a2 w2 ⟨δ3,κ3,hq,r3⟩
  have fin:∀v,fZ P δ3 rs v→a_ .plain P g ops rest Q ((fK δ.n δ3).eZ dst v)→LeavesInM (Fw none) 0 P fn a2.tmps (fun
    |.returned v,w''=>K (a.put dst v) w''
    |.panicked chain,w''=>lift g Q (.panic chain) a w''
    |.outgrown,_=>LetsOut (lift g Q)) a2.defers .returning w2:=by
   intro v h1 h2
   refine leaves (g:=g') rfl rfl oh h1 r3 (fun w4 r4 u hu=>?_)
   have hd4:Jr g a w4:=by
    obtain⟨rs4,k1,k2,k3⟩:=r4.dfr
    exact⟨ms,G9,(ca.1 k2).2.1,fun k hk=>k3 k (bW.2 (.inr hk))⟩
   have r5:=r4.frame (g:=g) (a':=a) (n:=δ.n) jz rfl ⟨rfl,rfl,rfl,rfl,rfl⟩ (fun j=>congrArg (g.val a) (b6 j HS)) r.n hd4 r.kI
   exact rf _ _ (h2 κ3 _ _ (r5.eZ (fE hd) hu))
  cases e with
  |normal=>obtain⟨v,h1,h2⟩:=hq;exact fin v h1 h2
  |ret=>obtain⟨v,h1,h2⟩:=hq;exact fin v h1 h2
  |_=>exact hq.elim
end Go.Ab
namespace Go.Ab
section
variable {P:Program} {δ:DS} {n:Nat} {dst:Option Nat} {K:DS→Prop} {t t':Tmp}
theorem jG {p:PV} (ht:aV t HS=true) (h:δ.get t=.pv p) (hK:K ((fK n δ).eZ dst (.pv p))):fp P [.tmp t] n dst K .ret δ:=oJ (.one (.tmp ht h)) hK
theorem Bn {i e k e7} (ht:aV t HS=true) (h:δ.get t=.own i e k e7) (hK:K ((fK n δ).eZ dst (.own i e k e7))):fp P [.tmp t] n dst K .ret δ:=oJ (.one (.tmp ht h)) hK
theorem BU {i o} (ht:aV t HS=true) (h:δ.get t=.ptr i o) (hK:K ((fK n δ).eZ dst (.ptr i o))):fp P [.tmp t] n dst K .ret δ:=oJ (.one (.tmp ht h)) hK
end
end Go.Ab
/- Regions that draw their order and hold operations with an effect:what only reads is taken first,the rest is walked in each order. -/
namespace Go.Ab
open Go Go.RowKit
variable {P:Program} {g:eY} {δ:DS} {κ:Kp} {a:Act} {w:World}
variable {ops:Array Oper} {Q:Exit→Act→World→Prop} {ro:Option Nat}
theorem Dx {j:Nat} {oi oj:Oper} {v:Value} {I:Act→Prop} (hj:ops[j]? =some oj) (qc:kz oj=true) (WW:oi.apart ops oj=true)
  (hsj:∀cs b,oj.op≠ .select cs b) (hQ:∀c a w,Q (.panic c) (a.put oi.dst v) w→Q (.panic c) a w) (keep:∀a u,I a→I (a.put oj.dst u)) (keepD:∀(a:Act) d,I a→I {a with defers:=d::a.defers}) {K:Act→World→Prop} {a:Act} {w:World}
  (hy:I a) (h:wpOpIn (Fw ro) 0 P ops Q j K (a.put oi.dst v) w):wpOpIn (Fw ro) 0 P ops Q j (fun a' w'=>I a'∧K (a'.put oi.dst v) w') a w:=by
 obtain⟨h1,h2,h3⟩:=Oper.apart_spec WW
 unfold wpOpIn at*
 simp only[hj] at*
 rw[wanted_put oj a oi.dst v h1,about_put oj w a oi.dst v h1] at h
 have Wd:∀ρ,oj.semAt (Fw ro).round ρ=execOp ρ oj:=fun ρ=>Oper.semAt_eq _ _ _ (by intro c e;simp [kz,e] at qc)
 split
 ·rename_i hw
  simp only[hw,if_true] at h
  unfold Oper.wpIn at*
  rw[about_put oj w a oi.dst v h1] at h
  refine⟨h.1,?_⟩
  have h:=h.2
  rw[Wd,execOp_put oj hsj a oi.dst v h1] at h
  rw[Wd]
  generalize (execOp a.eval oj).run P w=r at*
  cases r with
  |ok x w'=>
   cases x<;>simp only[Oper.uponIn] at h ⊢
   case value u=>exact⟨keep a u hy,by rw[← Act.put_comm a v u h2];exact h⟩
   case skip=>exact⟨keep a _ hy,by rw[← Act.put_comm a v undef h2];exact h⟩
   case defer d=>
    refine⟨keep _ _ (keepD _ _ hy),?_⟩
    rw[← Act.put_comm _ v undef h2,← Act.put_defers]
    exact h
   case enter f args=>
    refine⟨h.1,CallsIn.mono h.2 fun e w'' he=>?_⟩
    cases e with
    |returned u=>exact⟨keep a u hy,by rw[← Act.put_comm a v u h2];exact he⟩
    |panicked c=>exact hQ _ _ _ he
    |outgrown=>exact he
   case row row args=>exact⟨h.1,RowsIn.mono h.2 fun u w'' he=>⟨keep a u hy,by rw[← Act.put_comm a v u h2];exact he⟩⟩
   case round l f tmps assign body=>
    refine⟨h.1,RoundIn.mono h.2 fun e w'' he=>?_⟩
    cases e with
    |returned u=>exact⟨keep a u hy,by rw[← Act.put_comm a v u h2];exact he⟩
    |panicked c=>exact hQ _ _ _ he
    |outgrown=>exact he
  |halt x w'=>
   cases x<;>simp only[Oper.uponIn] at h ⊢
   case panic u=>exact hQ _ _ _ h
 ·rename_i hw
  simp only[hw] at h
  exact⟨h.1,keep a _ hy,by rw[← Act.put_comm a v undef h2];exact h.2⟩
def ox (ro:Option Nat) (P:Program) (ops:Array Oper) (Q:Exit→Act→World→Prop) (S:Array Bool→World→Prop):Nat→Array Bool→Act→World→Prop
 |0,fi,a,w=>Region.ready .any ops fi=[]∧Q .normal a w
 |fuel+1,fi,a,w=>
  (Region.ready .any ops fi=[]→Q .normal a w)∧
  ∀i∈Region.ready .any ops fi,wpOpIn (Fw ro) 0 P ops Q i (fun a' w'=>S (fi.setIfInBounds i true) w'∧ox ro P ops Q S fuel (fi.setIfInBounds i true) a' w') a w
theorem w9 {S:Array Bool→World→Prop}:∀(fuel:Nat) (fi:Array Bool) (a:Act) (w:World),ox ro P ops Q S fuel fi a w→wpAnyIn (Fw ro) 0 P .any ops Q fuel fi a w
 |0,_,_,_,h=>h
 |fuel+1,_,_,_,h=>⟨h.1,fun i hi=>wpOpIn_mono (fun a' w' h'=>w9 fuel _ a' w' h'.2) (h.2 i hi)⟩
def DC (ops:Array Oper) (fi:Array Bool):Prop:=∀j o,ops[j]? =some o→fi.getD j false=true→∀e∈o.after,Region.binds .any e=true→fi.getD e.on false=true
theorem LV (fi:Array Bool) (i j:Nat) (d:Bool):(fi.setIfInBounds i true).getD j d=if i=j then (if i<fi.size then true else d) else fi.getD j d:=by
 by_cases h:i=j
 ·subst h
  rw[if_pos rfl]
  by_cases ft:i<fi.size
  ·simp [ft]
  ·simp [ft]
 ·rw[if_neg h];exact getD_set_ne d h
theorem DC.ready {fi:Array Bool} (h:DC ops fi) {i:Nat} (hi:i∈Region.ready .any ops fi):DC ops (fi.setIfInBounds i true):=by
 intro j o ho hj e he hb
 obtain⟨_,o',gi,oZ⟩:=mem_ready.1 hi
 by_cases Ad:i=j
 ·subst Ad
  rw[gi] at ho;cases ho
  exact getD_set_true (oZ e he hb)
 ·rw[getD_set_ne false Ad] at hj
  exact getD_set_true (h j o ho hj e he hb)
theorem ug {S:Array Bool→World→Prop} {C:World→Prop} {i:Nat} {oi:Oper} {v:Value} (hi:ops[i]? =some oi) (Br:∀(j:Nat) (o:Oper) cs b,ops[j]? =some o→o.op≠ .select cs b) (qc:∀(j:Nat) (o:Oper),ops[j]? =some o→kz o=true)
  (hQ:∀c a w,Q (.panic c) (a.put oi.dst v) w→Q (.panic c) a w)
  (hC:∀fi w,DC ops fi→fi.getD i true=false→S fi w→C w) (hS:∀fi w,S (fi.setIfInBounds i true) w↔S fi w):
  ∀(fuel:Nat) (fi:Array Bool) (a:Act) (w:World),DC ops fi→
   (∀j oj,ops[j]? =some oj→j≠i→fi.getD j true=false→(∀e∈oj.after,Region.binds .any e=true→e.on≠i)→oi.apart ops oj=true)→
   i∈Region.ready .any ops fi→YieldsIf P ops C oi v a→S fi w→
   ox ro P ops Q S fuel (fi.setIfInBounds i true) (a.put oi.dst v) w→ox ro P ops Q S (fuel+1) fi a w:=by
 have tk:∀{K:Act→World→Prop} {a:Act} {w:World},YieldsIf P ops C oi v a→C w→K (a.put oi.dst v) w→wpOpIn (Fw ro) 0 P ops Q i K a w:=by
  intro K a w hy hw hk
  unfold wpOpIn
  simp only[hi]
  rcases hy with ⟨ZX,hv⟩|⟨ZX,rfl⟩
  ·simp only[ZX,if_true,Oper.wpIn]
   refine⟨fun _ _=>trivial,?_⟩
   rw[Oper.semAt_eq _ _ _ (by intro c e;have:=qc i oi hi;simp [kz,e] at this),hv w hw]
   exact hk
  ·simp only[ZX,cj,if_false];exact⟨fun _ _=>trivial,hk⟩
 intro fuel
 induction fuel with
 |zero=>
  intro fi a w yz _ hr hy WA H
  refine⟨fun h=>(by rw[h] at hr;cases hr),fun j hj=>?_⟩
  by_cases qN:j=i
  ·subst qN;exact tk hy (hC fi w yz (mem_ready.1 hr).1 WA) ⟨(hS _ _).2 WA,H⟩
  ·have:=ready_mono hj qN
   rw[H.1] at this
   cases this
 |succ fuel ih=>
  intro fi a w yz oT hr hy WA H
  refine⟨fun h=>(by rw[h] at hr;cases hr),fun j hj=>?_⟩
  by_cases qN:j=i
  ·subst qN;exact tk hy (hC fi w yz (mem_ready.1 hr).1 WA) ⟨(hS _ _).2 WA,H⟩
  ·have h1:=H.2 j (ready_mono hj qN)
   obtain⟨UR,oj,WL,oZ⟩:=mem_ready.1 hj
   have RL:∀e∈oj.after,Region.binds .any e=true→e.on≠i:=fun e he hb heq=>by
    have h1:=oZ e he hb
    have h0:=(mem_ready.1 hr).1
    rw[heq] at h1
    rcases ck i fi.size with h'|h'
    ·simp [h'] at h0 h1;rw[h0] at h1;cases h1
    ·simp [cm h'] at h1
   have WW:=oT j oj WL qN UR RL
   obtain⟨_,_,h3⟩:=Oper.apart_spec WW
   have h2:=Dx (I:=YieldsIf P ops C oi v) WL (qc j oj WL) WW (fun cs b=>Br j oj cs b WL) hQ
    (fun a u hy=>hy.of_same (execOp_put oi (fun cs b=>Br i oi cs b hi) a oj.dst u h3) (wanted_put oi a oj.dst u h3)) (fun a d hy=>hy.of_same rfl rfl) hy h1
   have QR:∀k ok,ops[k]? =some ok→k≠i→(fi.setIfInBounds j true).getD k true=false→
     (∀e∈ok.after,Region.binds .any e=true→e.on≠i)→oi.apart ops ok=true:=fun k ok hk hki hun lz=>by
    refine oT k ok hk hki ?_ lz
    by_cases NP:j=k
    ·subst NP;exact UR
    ·rw[getD_set_ne true NP] at hun;exact hun
   refine wpOpIn_mono (fun a' w' h3=>?_) h2
   obtain⟨h4,h5,h6⟩:=h3
   rw[Array.setIfInBounds_comm _ _ (Ne.symm qN)] at h5 h6
   have h7:=(hS _ _).1 h5
   exact⟨h7,ih (fi.setIfInBounds j true) a' w' (yz.ready hj) QR (ready_mono hr (Ne.symm qN)) h4 h7 h6⟩
abbrev Wt:=World×(Nat→Prop)×Nat
def iq (late:List Nat) (fi:Array Bool):Bool:=late.any fun j=>fi.getD j false
def B8 (k:Wt) (late:List Nat) (fi:Array Bool) (w:World):Prop:=iq late fi=false→∀b,k.2.1 b→b<k.1.heap.size∧w.heap[b]? =k.1.heap[b]?
def Gs (g' g:eY):Prop:=g'.ro=g.ro∧g'.B=g.B∧g'.w0=g.w0
def A9 (g:eY) (k:Wt) (late:List Nat) (fi:Array Bool):eY:={g with wt:=if iq late fi=true then none else some k}
def gN (n:Nat):List Nat→Array Bool
 |[]=>cg n false
 |i::done=>(gN n done).setIfInBounds i true
theorem xW {late:List Nat} {i:Nat} (h:late.contains i=false) (fi:Array Bool):iq late (fi.setIfInBounds i true)=iq late fi:=by
 unfold iq
 induction late with
 |nil=>rfl
 |cons j late ih=>
  simp only[List.contains_cons,Bool.or_eq_false_iff] at h
  have Ad:i≠j:=by simpa using h.1
  simp only[List.any_cons]
  rw[getD_set_ne false Ad,ih h.2]
theorem vH {late:List Nat} {i:Nat} {fi:Array Bool} (h:iq late fi=true):iq late (fi.setIfInBounds i true)=true:=by
 unfold iq at*
 rw[List.any_eq_true] at*
 obtain⟨j,h1,h2⟩:=h
 exact⟨j,h1,getD_set_true h2⟩
theorem Rel.NG (r:Rel g δ κ a w) {wt':Option Wt} (h:∀k,wt'=some k→(∀b,k.2.1 b→b<k.1.heap.size∧w.heap[b]? =k.1.heap[b]?)∧∀i b,δ.live i→(δ.lr i∨k.2.2≤i)→κ i=some b→¬k.2.1 b) (hF:∀k,wt'=some k→∀b,κ.Fs b→¬k.2.1 b):Rel {g with wt:=wt'} δ κ a w:=
 {n:=r.n,dfr:=r.dfr,env:=r.env,obj:=r.obj,inj:=r.inj,lo:=r.lo,nx:=r.nx,wt:=h,below:=r.below,hB:=r.hB,N0:=r.N0,kI:=r.kI
  fr:=⟨r.fr.1,fun i b hb=>let ⟨h1,h2⟩:=r.fr.2 i b hb;⟨⟨h1.1,fun k hk=>hF k hk b ⟨i,hb⟩⟩,h2⟩⟩}
theorem C7 {k:Wt} {late:List Nat} {fi:Array Bool} (i:Nat) (r:Rel (A9 g k late fi) δ κ a w):Rel (A9 g k late (fi.setIfInBounds i true)) δ κ a w:=by
 have hk:∀k',(if iq late (fi.setIfInBounds i true)=true then none else some k)=some k'→(A9 g k late fi).wt=some k':=fun k' jN=>by
  by_cases h:iq late (fi.setIfInBounds i true)=true
  ·rw[if_pos h] at jN;cases jN
  ·rw[if_neg h] at jN
   cases jN
   show(if iq late fi=true then none else some k)=some k
   rw[if_neg (fun h'=>h (vH h'))]
 exact Rel.NG (g:=A9 g k late fi) r (wt':=if iq late (fi.setIfInBounds i true)=true then none else some k) (fun k' jN=>r.wt k' (hk k' jN)) (fun k' jN b ⟨j,hj⟩=>(r.fr.2 j b hj).1.2 k' (hk k' jN))
theorem Qt {k:Wt} {late:List Nat} {fi:Array Bool} (r:Rel (A9 g k late fi) δ κ a w):B8 k late fi w:=by
 intro h
 refine(r.wt k ?_).1
 show(if iq late fi=true then none else some k)=some k
 rw[if_neg (by simp [h])]
theorem Lg {k:Wt} {late:List Nat} {fi:Array Bool} (jz:g.wt=none) (r:Rel (A9 g k late fi) δ κ a w):Rel g δ κ a w:=by
 have:=Rel.NG r (wt':=none) (fun k hk=>by cases hk) (fun k hk=>by cases hk)
 cases g
 cases jz
 exact this
def ji (f:DS→Prop):Exit→DS→Prop
 |.normal,δ=>f δ
 |_,_=>False
theorem pQ {f:DS→Prop} (h:f δ):ji f .normal δ:=h
def rZ (g:eY) (Q:Exit→DS→Prop):Exit→Act→World→Prop
 |.normal,a,w=>lift g Q .normal a w
 |.panic c,a,w=>∃δ κ,Q (.panic c) δ∧(∀j,j<HS→δ.get j=.any)∧Rel {g with wt:=none} δ κ a w
 |_,_,_=>False
theorem zx {g:eY} {Q:Exit→DS→Prop} {c:List PanicEntry} {a:Act} {w:World} {d:Option Nat} {v:Value} (h:rZ g Q (.panic c) (a.put d v) w):rZ g Q (.panic c) a w:=by
 obtain⟨δ,κ,h1,h2,r⟩:=h
 refine⟨δ,κ,h1,h2,?_⟩
 exact
  {n:=by have:=r.n;cases d<;>simpa [Act.put] using this
   dfr:=by have:=r.dfr;cases d<;>exact this
   env:=fun j=>by
    by_cases hj:j<HS
    ·rw[h2 j hj];exact .any _
    ·have:=r.env j
     have e:∀b:Act,eY.val {g with wt:=none} b j=g.held j:=fun b=>by unfold eY.val;rw[if_neg hj]
     rw[e] at this
     rw[e]
     exact this
   obj:=r.obj,inj:=r.inj,lo:=r.lo,nx:=r.nx,wt:=r.wt,below:=r.below,hB:=r.hB,N0:=r.N0,fr:=r.fr
   kI:=by have:=r.kI;cases d<;>exact this}
def AR (P:Program) (g:eY) (k:Wt) (late:List Nat) (l:List Oper) (Q:Exit→DS→Prop) (done:List Nat) (δ:DS):Prop:=
 DC l.toArray (gN l.length done)→∀κ a w,Rel (A9 g k late (gN l.length done)) δ κ a w→ox g.ro P l.toArray (rZ g Q) (B8 k late) (l.length - done.length) (gN l.length done) a w
def mn (l:List Oper) (done rs:List Nat):Bool:=Region.ready .any l.toArray (gN l.length done)==rs
variable {k:Wt} {late:List Nat} {l:List Oper} {dn:List Nat} {QD:Exit→DS→Prop}
theorem AR.done (jz:g.wt=none) (hr:mn l dn []=true) (h:QD .normal δ):AR P g k late l QD dn δ:=by
 intro _ κ a w r
 have Gc:Region.ready .any l.toArray (gN l.length dn)=[]:=by simpa [mn] using hr
 have hp:rZ g QD .normal a w:=⟨δ,κ,h,Lg jz r⟩
 cases l.length - dn.length with
 |zero=>exact⟨Gc,hp⟩
 |succ n=>exact⟨fun _=>hp,by rw[Gc];simp⟩
theorem AR.all {rs:List Nat} (hl:aV dn.length l.length=true) (hr:mn l dn rs=true) (gz:rs≠ []) (h:∀i∈rs,∃o,l[i]? =some o∧
  a_ .plain P (A9 g k late (gN l.length (i::dn))) l.toArray [o] (ji (AR P g k late l QD (i::dn))) δ):AR P g k late l QD dn δ:=by
 intro yz κ a w r
 have Gc:Region.ready .any l.toArray (gN l.length dn)=rs:=by simpa [mn] using hr
 have hl':dn.length<l.length:=by simpa using hl
 obtain⟨n,hn⟩:∃n,l.length - dn.length=n+1:=⟨l.length - dn.length - 1,by omega⟩
 rw[hn]
 refine⟨fun h0=>absurd (Gc▸h0) gz,fun i hi=>?_⟩
 have jS:=hi
 rw[Gc] at hi
 obtain⟨o,ho,hA⟩:=h i hi
 have gi:l.toArray[i]? =some o:=by simpa using ho
 have h1:=hA κ a w (C7 i r)
 have SR:DC l.toArray (gN l.length (i::dn)):=yz.ready jS
 have EM:∀a' w',lift (A9 g k late (gN l.length (i::dn))) (ji (AR P g k late l QD (i::dn))) .normal a' w'→
   B8 k late ((gN l.length dn).setIfInBounds i true) w'∧ox g.ro P l.toArray (rZ g QD) (B8 k late) n ((gN l.length dn).setIfInBounds i true) a' w':=by
  rintro a' w' ⟨δ',κ',h2,r2⟩
  refine⟨Qt r2,?_⟩
  have h3:=h2 SR κ' a' w' r2
  have e1:l.length - (i::dn).length=n:=by simp;omega
  rw[e1] at h3
  exact h3
 have Tn:wpListIn (Fw g.ro) 0 P l.toArray (lift (A9 g k late (gN l.length (i::dn))) (ji (AR P g k late l QD (i::dn)))) [o] a w:=h1
 unfold wpListIn at Tn
 unfold wpOpIn
 simp only[gi]
 have lz:∀e a w,lift (A9 g k late (gN l.length (i::dn))) (ji (AR P g k late l QD (i::dn))) e a w→e=.normal:=by
  rintro e a w ⟨δ',κ',h2,_⟩
  cases e<;>first|rfl|exact h2.elim
 split
 ·rename_i hw
  rw[if_pos hw] at Tn
  obtain⟨h2,h3⟩:=Tn
  refine⟨h2,?_⟩
  revert h3
  generalize (o.semAt (Fw g.ro).round a.eval).run P w=res
  intro h3
  cases res with
  |ok x w'=>
   cases x<;>simp only[Oper.uponIn] at h3 ⊢
   case value u=>exact EM _ _ h3
   case skip=>exact EM _ _ h3
   case defer d=>exact EM _ _ h3
   case enter f args=>
    refine⟨h3.1,CallsIn.mono h3.2 fun e w'' he=>?_⟩
    cases e with
    |returned u=>exact EM _ _ he
    |panicked c=>exact absurd (lz _ _ _ he) (by simp)
    |outgrown=>
     exfalso
     obtain⟨a2,w2,he⟩:=he
     have:=lz _ _ _ he
     cases this
   case row row args=>exact⟨h3.1,RowsIn.mono h3.2 fun u w'' he=>EM _ _ he⟩
   case round l' f tmps assign body=>
    refine⟨h3.1,RoundIn.mono h3.2 fun e w'' he=>?_⟩
    cases e with
    |returned u=>exact EM _ _ he
    |panicked c=>exact absurd (lz _ _ _ he) (by simp)
    |outgrown=>
     exfalso
     obtain⟨a2,w2,he⟩:=he
     have:=lz _ _ _ he
     cases this
  |halt x w'=>
   cases x<;>simp only[Oper.uponIn] at h3 ⊢
   case panic u=>exact absurd (lz _ _ _ h3) (by simp)
 ·rename_i hw
  rw[if_neg hw] at Tn
  exact⟨Tn.1,EM _ _ Tn.2⟩
theorem AR.mG {i:Nat} {o:Oper} (hl:aV dn.length l.length=true) (hr:mn l dn [i]=true) (ho:l[i]? =some o)
  (h:∀g':eY,Gs g' g→(∀j,k.2.2≤j→g'.nP j)→a_ .plain P g' l.toArray [o] (ji (AR P g k late l QD (i::dn))) δ):AR P g k late l QD dn δ:=
 AR.all hl hr (by simp) fun i' jS=>by
  simp only[cp] at jS
  subst jS
  refine⟨o,ho,h _ ⟨rfl,rfl,rfl⟩ fun j hj k' jN=>?_⟩
  have:(if iq late (gN l.length (i'::dn))=true then none else some k)=some k':=jN
  split at this
  ·cases this
  ·cases this;exact hj
theorem AR.nC {i:Nat} {o:Oper} (hl:aV dn.length l.length=true) (hr:mn l dn [i]=true) (ho:l[i]? =some o) (ft:iq late (gN l.length (i::dn))=true)
  (h:∀g':eY,Gs g' g→g'.wt=none→a_ .plain P g' l.toArray [o] (ji (AR P g k late l QD (i::dn))) δ):AR P g k late l QD dn δ:=
 AR.all hl hr (by simp) fun i' jS=>by
  simp only[cp] at jS
  subst jS
  exact⟨o,ho,h _ ⟨rfl,rfl,rfl⟩ (if_pos ft)⟩
theorem AR.Wn {i j:Nat} {o p:Oper} (hl:aV dn.length l.length=true) (hr:mn l dn [i,j]=true) (ho:l[i]? =some o) (hp:l[j]? =some p)
  (h:∀g':eY,Gs g' g→(∀j,k.2.2≤j→g'.nP j)→a_ .plain P g' l.toArray [o] (ji (AR P g k late l QD (i::dn))) δ)
  (h':∀g':eY,Gs g' g→(∀j,k.2.2≤j→g'.nP j)→a_ .plain P g' l.toArray [p] (ji (AR P g k late l QD (j::dn))) δ):AR P g k late l QD dn δ:=
 AR.all hl hr (by simp) fun i' jS=>by
  have hw:∀i',∀j,k.2.2≤j→(A9 g k late (gN l.length (i'::dn))).nP j:=by
   intro i' j hj k' jN
   have:(if iq late (gN l.length (i'::dn))=true then none else some k)=some k':=jN
   split at this
   ·cases this
   ·cases this;exact hj
  simp only[br,List.not_mem_nil,or_false] at jS
  rcases jS with rfl|rfl
  ·exact⟨o,ho,h _ ⟨rfl,rfl,rfl⟩ (hw _)⟩
  ·exact⟨p,hp,h' _ ⟨rfl,rfl,rfl⟩ (hw _)⟩
def jx (P:Program) (o:Oper) (δ:DS) (v:AV):Prop:=∀(g:eY) κ a w,Rel g δ κ a w→∃u,(∀w',(execOp a.eval o).run P w'=.ok (.value u) w')∧RA (δ.cx g κ) w u v
def wT (l:List Oper) (late dn:List Nat) (i:Nat):Bool:=
 Region.noSelect l.toArray && l.all kz && (Region.ready .any l.toArray (gN l.length dn)).contains i && Region.free .any l.toArray (gN l.length dn) i && !late.contains i && aV dn.length l.length
theorem AR.free (i:Nat) {o:Oper} {v:AV} (hB:wT l late dn i=true) (ho:l[i]? =some o) (hg:o.guard=none) (hd:gb δ.n o.dst=true) (hF:jx P o δ v) (h:AR P g k late l QD (i::dn) (δ.eZ o.dst v)):AR P g k late l QD dn δ:=by
 intro yz κ a w r
 simp only[wT,aW,cq] at hB
 obtain⟨⟨⟨⟨⟨hs,qc⟩,hr⟩,hf⟩,XX⟩,hl⟩:=hB
 have hl':dn.length<l.length:=by simpa using hl
 obtain⟨n,hn⟩:∃n,l.length - dn.length=n+1:=⟨l.length - dn.length - 1,by omega⟩
 obtain⟨u,hu,oz⟩:=hF _ κ a w r
 have Gc:i∈Region.ready .any l.toArray (gN l.length dn):=by simpa using hr
 have gi:l.toArray[i]? =some o:=by simpa using ho
 have SR:DC l.toArray (gN l.length (i::dn)):=yz.ready Gc
 have r2:Rel (A9 g k late (gN l.length (i::dn))) (δ.eZ o.dst v) κ (a.put o.dst u) w:=(C7 i r).eZ (fE hd) oz
 have h2:=h SR κ _ w r2
 have e1:l.length - (i::dn).length=n:=by simp;omega
 rw[e1] at h2
 rw[hn]
 refine ug (C:=fun _=>True) gi (Region.noSelect_spec hs) (fun j o hj=>?_) (fun c a w h=>zx h) (fun _ _ _ _ _=>trivial) (fun fi w=>?_) n _ a w yz (Region.free_spec gi hf) Gc (.inl ⟨by simp [Region.wanted,hg],fun w' _=>hu w'⟩) (Qt r) h2
 ·exact(bB.1 qc) o (aR (by simpa using hj))
 ·unfold B8;rw[xW XX]
def pJ (ops:Array Oper) (i:Nat):Nat→Nat→Bool
 |0,_=>false
 |n+1,j=>match ops[j]? with
  |some o=>o.after.any fun e=>Region.binds .any e && (e.on==i||pJ ops i n e.on)
  |none=>false
theorem C3 {ops:Array Oper} {i:Nat} {fi:Array Bool} (yz:DC ops fi):∀n j,pJ ops i n j=true→fi.getD j false=true→fi.getD i false=true:=by
 intro n
 induction n with
 |zero=>intro j h;simp [pJ] at h
 |succ n ih=>
  intro j h hj
  unfold pJ at h
  cases ho:ops[j]? with
  |none=>rw[ho] at h;cases h
  |some o=>
   rw[ho] at h
   simp only at h
   obtain⟨e,he,hb⟩:=Array.any_eq_true'.1 h
   simp only[aW,Bool.or_eq_true,beq_iff_eq] at hb
   have h1:=yz j o ho hj e he hb.1
   rcases hb.2 with h2|h2
   ·rw[← h2];exact h1
   ·exact ih _ h2 h1
def uW (l:List Oper) (late:List Nat):List Nat→List Nat→Bool
 |[],_=>true
 |i::r,dn=>wT l late dn i && late.all (pJ l.toArray i l.length) && uW l late r (i::dn)
def pick (l:List Oper) (is:List Nat):List Oper:=is.filterMap (l[·]?)
theorem K0 {κ1:Kp} {w1:World} {k:Wt} {δ0:DS} (we:k.1=w1) (yx:k.2.1=fun b=>b<w1.heap.size∧((∀i,δ0.lr i→κ1 i≠some b)∧¬κ1.Fs b)) {post:Act→Prop} {N:Nat}:
  ∀(l1 dn:List Nat) (a:Act),uW l late l1 dn=true→DC l.toArray (gN l.length dn)→B8 k late (gN l.length dn) w1→xe P l.toArray (mb δ0 κ1 w1) post (pick l l1) a→
   (∀a',post a'→DC l.toArray (gN l.length (l1.reverse++dn))→ox ro P l.toArray (rZ g QD) (B8 k late) N (gN l.length (l1.reverse++dn)) a' w1)→ox ro P l.toArray (rZ g QD) (B8 k late) (l1.length+N) (gN l.length dn) a w1:=by
 intro l1
 induction l1 with
 |nil=>intro dn a _ yz _ h hp;simpa using hp a h yz
 |cons i r ih=>
  intro dn a hB yz hS h hp
  simp only[uW,wT,aW,cq] at hB
  obtain⟨⟨⟨⟨⟨⟨⟨hs,qc⟩,hr⟩,hf⟩,XX⟩,hl⟩,Wm⟩,TW⟩:=hB
  have Gc:i∈Region.ready .any l.toArray (gN l.length dn):=by simpa using hr
  obtain⟨_,o,gi,_⟩:=mem_ready.1 Gc
  have ho:l[i]? =some o:=by simpa using gi
  have Jv:pick l (i::r)=o::pick l r:=by simp [pick,ho]
  rw[Jv] at h
  obtain⟨v,hy,h⟩:=h
  have CK:∀fi w,B8 k late (fi.setIfInBounds i true) w↔B8 k late fi w:=fun fi w=>by unfold B8;rw[xW XX]
  have F4:(i::r).length+N=(r.length+N)+1:=by simp;omega
  rw[F4]
  refine ug (C:=mb δ0 κ1 w1) gi (Region.noSelect_spec hs) (fun j o hj=>?_) (fun c a w h=>zx h) (fun fi w hd hi hSl=>?_) CK _ _ a w1 yz (Region.free_spec gi hf) Gc hy hS ?_
  ·exact(bB.1 qc) o (aR (by simpa using hj))
  ·have lz:iq late fi=false:=by
    unfold iq
    rw[List.any_eq_false]
    intro j hj yG
    have h1:=C3 hd _ _ ((bB.1 Wm) j hj) yG
    rcases ck i fi.size with h'|h'
    ·simp [h'] at hi h1;rw[hi] at h1;cases h1
    ·simp [cm h'] at h1
   have h2:=hSl lz
   rw[we,yx] at h2
   exact fun b hb hn=>(h2 b ⟨hb,hn⟩).2
  ·have:=ih (i::dn) (a.put o.dst v) TW (yz.ready Gc) ((CK _ _).2 hS) h
   refine this fun a' F3 uh=>?_
   have e:(i::r).reverse++dn=r.reverse++i::dn:=by simp
   rw[← e]
   exact hp a' F3 (by rw[e];exact uh)
theorem DC.start (l:List Oper):DC l.toArray (gN l.length []):=by
 intro j o _ hj
 have:(cg l.length false).getD j false=true:=hj
 simp [Array.getElem?_replicate] at this
 split at this<;>cases this
theorem AW.tY {id:Nat} (l1:List Nat) (late:List Nat) {l:List Oper} (hm:P.follows .mixedOrders=true) (jz:g.wt=none) (hB:uW l late l1 []=true) (hle:bu l1.length l.length=true)
  (h:a_ .held P g l.toArray (pick l l1) (ji fun δ'=>∀k:Wt,k.2.2=δ.nx→AR P g k late l QD l1.reverse δ') δ):AW P g (.region id l.toArray true) QD δ:=by
 intro κ a w r
 have IC:l1.length≤l.length:=by simpa using hle
 have r1:Rel g δ κ a {w with drawn:=w.drawn+1}:=r.ext (Below.drew (Below.refl _ _))
 have h1:=h κ a _ r1
 obtain⟨k,hk⟩:∃k:Wt,k=({w with drawn:=w.drawn+1},(fun b=>b<w.heap.size∧((∀i,δ.lr i→κ i≠some b)∧¬κ.Fs b)),δ.nx):=⟨_,rfl⟩
 refine wpIn_mono (Q:=rZ g QD) (wpIn_region_any hm (w9 (S:=B8 k late) _ _ _ _ ?_)) (fun e a w h=>by
  cases e with
  |normal=>exact h
  |panic c=>
   obtain⟨δ',κ',h1,_,r'⟩:=h
   have e:({g with wt:=none}:eY)=g:=by cases g;cases jz;rfl
   rw[e] at r'
   exact⟨δ',κ',h1,r'⟩
  |_=>exact h.elim)
 have nh:B8 k late (gN l.length []) {w with drawn:=w.drawn+1}:=fun _ b hb=>by subst hk;exact⟨hb.1,rfl⟩
 have h2:=K0 (ro:=g.ro) (g:=g) (QD:=QD) (late:=late) (l:=l) (P:=P) (δ0:=δ) (κ1:=κ) (w1:={w with drawn:=w.drawn+1}) (k:=k) (by rw[hk]) (by rw[hk]) (N:=l.length - l1.length) l1 [] a hB (DC.start l) nh h1 (fun a' F3 uh=>by
  obtain⟨δ',hq,HN,r2⟩:=F3
  have h3:=hq k (by rw[hk]) (by simpa using uh) κ a' {w with drawn:=w.drawn+1} (by
   have jo:∀i,δ'.ob i=δ.ob i:=fun i=>by unfold DS.ob;rw[HN]
   refine Rel.NG r2 (wt':=if iq late (gN l.length l1.reverse)=true then none else some k) (fun k' jN=>?_) (fun k' jN b hb yO=>?_)
   rotate_left
   ·split at jN
    ·cases jN
    ·cases jN
     subst hk
     exact yO.2.2 hb
   split at jN
   ·cases jN
   ·cases jN
    subst hk
    refine⟨fun b hb=>⟨hb.1,rfl⟩,fun i b B7 uR hκ hb=>?_⟩
    rcases uR with uR|uR
    ·exact hb.2.1 i (by have:δ'.ob i=some .row:=uR;rw[jo] at this;exact this) hκ
    ·obtain⟨o,B7⟩:=B7
     rw[jo] at B7
     exact absurd (r.nx i ⟨o,B7⟩) (Nat.not_lt.2 uR))
  simpa using h3)
 have e:l1.length+(l.length - l1.length)=l.toArray.size:=by simp;omega
 rw[e] at h2
 have e2:gN l.length []=cg l.toArray.size false:=by simp [gN]
 rw[e2] at h2
 exact h2
end Go.Ab
/- Maps with whole numbers as keys:read,grown,written. -/
namespace Go.Ab
open Go Go.RowKit
variable {q:Md} {P:Program} {g:eY} {δ:DS} {κ:Kp} {a:Act} {w:World}
variable {gd:Option (Tmp×Bool)} {ops:Array Oper} {rest:List Oper} {Q:Exit→DS→Prop} {dst:Option Nat} {ty:TypeId} {pos:String} {af:Array Edge}
def oG:List (Int×AV)→Int→Option AV
 |[],_=>none
 |(k,v)::l,m=>if m=k then some v else oG l m
def mx (l:List (Int×AV)):List (Value×AV):=l.map fun p=>(.int .i64 p.1,p.2)
def HO (xs:List Int):List (Int×AV):=xs.map fun x=>(x,fe true)
theorem D8 {C:Cx} {w:World} (m:Int):∀(es:List MapEntry) (l:List (Int×AV)) (i:Nat),es.length=l.length→
  (∀(j:Nat) (e:MapEntry) (p:Int×AV),es[j]? =some e→l[j]? =some p→e.key=.int .i64 p.1∧RA C w e.val p.2)→
  (oG l m=none∧Instr.findNow (.int .i64) (.int .i64 m) es i=some none)∨
  (∃(j:Nat) (e:MapEntry) (v:AV),oG l m=some v∧Instr.findNow (.int .i64) (.int .i64 m) es i=some (some (i+j,e.val))∧es[j]? =some e∧l[j]? =some (m,v)∧RA C w e.val v):=by
 intro es
 induction es with
 |nil=>intro l i hs _;have:l=[]:=bf hs.symm;subst this;exact .inl ⟨rfl,rfl⟩
 |cons e es ih=>
  intro l i hs h
  cases l with
  |nil=>simp at hs
  |cons p l=>
   obtain⟨k,v⟩:=p
   have h0:=h 0 e (k,v) rfl rfl
   by_cases hk:m=k
   ·subst hk
    refine .inr ⟨0,e,v,by simp [oG],?_,rfl,rfl,h0.2⟩
    simp [Instr.findNow,h0.1,Instr.sameNow]
   ·have hf:Instr.findNow (.int .i64) (.int .i64 m) (e::es) i=Instr.findNow (.int .i64) (.int .i64 m) es (i+1):=by
     have hb:(m==k)=false:=by simp [hk]
     simp [Instr.findNow,h0.1,Instr.sameNow,hb]
    rcases ih l (i+1) (by simpa using hs) (fun j e p h1 h2=>h (j+1) e p (by simpa using h1) (by simpa using h2)) with ⟨h1,h2⟩|⟨j,e',v',h1,h2,h3,h4,h5⟩
    ·exact .inl ⟨by simp [oG,hk,h1],hf.trans h2⟩
    ·exact .inr ⟨j+1,e',v',by simp [oG,hk,h1],by rw[hf,h2];simp;omega,by simpa using h3,by simpa using h4,h5⟩
theorem Rel.W6 (r:Rel g δ κ a w) {u:Value} {i:Nat} {l:List (Value×AV)} (h:RA (δ.cx g κ) w u (.gH i)) (ho:δ.ob i=some (.mp l)):
  ∃b es clock,u=.map (some b)∧κ i=some b∧w.heap[b]? =some (.map es clock)∧mz (δ.cx g κ) w es l∧rj es clock∧∀p∈l,p.2.kM=true:=by
 cases h with
 | @gH _ b hl hκ=>
  obtain⟨b',es,clock,h1,h2,h3,h4⟩:=r.obj i _ ho
  have:b'=b:=Option.some.inj (h1.symm.trans hκ)
  subst this
  exact⟨b',es,clock,rfl,h1,h2,h3,h4⟩
theorem mz.mx {C:Cx} {w:World} {es:Array MapEntry} {l:List (Int×AV)} (h:mz C w es (mx l)):
  es.toList.length=l.length∧∀(j:Nat) (e:MapEntry) (p:Int×AV),es.toList[j]? =some e→l[j]? =some p→e.key=.int .i64 p.1∧RA C w e.val p.2:=by
 refine⟨by simpa [Ab.mx] using h.1,fun j e p h1 h2=>?_⟩
 exact h.2 j e (.int .i64 p.1,p.2) (by simpa using h1) (by simp [Ab.mx,h2])
theorem n7 {kt:TypeId} {es:Array MapEntry} {m:Int} {x:Option (Nat×Value)} (hk:P.underlying kt=some (.int .i64)) (h:Instr.findNow (.int .i64) (.int .i64 m) es.toList 0=some x) (w:World):(Instr.findKey kt (.int .i64 m) es.toList).run P w=.ok x w:=MapKept.run_findKey hk h
theorem x8 {t kt et:TypeId} {b:Nat} {es:Array MapEntry} {clock:Nat} {m:Int} {z:Value} {x:Option (Nat×Value)} {w:World} (ht:P.underlying t=some (.map kt et)) (hk:P.underlying kt=some (.int .i64)) (hz:(P.info? et).bind (·.zero)=some z)
  (hb:w.heap[b]? =some (.map es clock)) (h:Instr.findNow (.int .i64) (.int .i64 m) es.toList 0=some x) (ok:Bool):
  (Instr.lookup t (.map (some b)) (.int .i64 m) ok).run P w=.ok (if ok then .tuple #[(x.map (·.2)).getD z,.bool x.isSome] else (x.map (·.2)).getD z) w:=by
 have Er:∀w,(zeroValue et).run P w=.ok z w:=fun w=>by
  cases hi:P.info? et with
  |none=>rw[hi] at hz;simp at hz
  |some i=>rw[hi] at hz;simp at hz;simp [zeroValue,typeInfo,hi,hz]
 have M_:∀e,(Instr.checkKey e (9999+1) kt (.int .i64 m)).run P w=.ok () w:=fun e=>MapKept.run_checkKey hk (by simp [MapKept.IsKey]) e 9999
 cases x with
 |none=>simp [Instr.lookup,run_underlying ht,MapKept.run_getObj_map hb,M_,n7 hk h,Er]
 |some p=>simp [Instr.lookup,run_underlying ht,MapKept.run_getObj_map hb,M_,n7 hk h]
theorem a_.lookup {x y:Operand} {t kt et:TypeId} {i:Nat} {l:List (Int×AV)} {m:Int} {z:Value} {v:AV} (hx:δ.ev x=.gH i) (jo:δ.ob i=some (.mp (mx l))) (hy:δ.ev y=eU m) (ht:P.underlying t=some (.map kt et)) (hk:P.underlying kt=some (.int .i64)) (hz:(P.info? et).bind (·.zero)=some z)
  (hv:(oG l m).getD (.pv (.lit z))=v) (ho:fk x=true) (gi:fk y=true) (hd:gb δ.n dst=true) (hK:a_ q P g ops rest Q (δ.eZ dst v)):a_ q P g ops (⟨dst,.lookup t x y false,ty,pos,af,none⟩::rest) Q δ:=
 a_.jK _ hd (fun κ a w r=>by
  obtain⟨b,es,clock,h1,h2,h3,h4,h5,It⟩:=r.W6 (r.ra hx ho) jo
  obtain⟨h6,h7⟩:=h4.mx
  have hb:∀w',mb δ κ w w'→w'.heap[b]? =some (.map es clock):=fun w' ly=>(ly b (iM h3) (r.BA ⟨_,jo,rfl⟩ h2)).trans h3
  subst hv
  rcases D8 m es.toList l 0 h6 h7 with ⟨h8,h9⟩|⟨j,e,v',h8,h9,wm,wD,Jq⟩
  ·refine⟨z,fun w' ly=>?_,by rw[h8];exact .pv (.lit _)⟩
   have:=x8 ht hk hz (hb w' ly) h9 false
   simp [execOp,r.lit hy gi,h1,this]
  ·refine⟨e.val,fun w' ly=>?_,by rw[h8];exact Jq⟩
   have:=x8 ht hk hz (hb w' ly) h9 false
   simp [execOp,r.lit hy gi,h1,this]) hK
theorem je.makeMap {t:TypeId} (hd:gb δ.n dst=true):je P g ⟨dst,.makeMap t none,ty,pos,af,gd⟩ δ ((δ.fM (.mp (mx []))).eZ dst (.gH δ.nx)):=by
 intro κ a w r
 have gQ:(execOp a.eval ⟨dst,.makeMap t none,ty,pos,af,gd⟩).run P w=.ok (.value (.map (some w.heap.size))) (w.alloc (.map #[] 0)):=by
  have h0:(Instr.makeMap t none).run P w=.ok (.map (some w.heap.size)) (w.alloc (.map #[] 0)):=rfl
  simp [execOp,h0]
 obtain⟨r',G⟩:=r.grow (.mp (mx [])) (.map #[] 0) (fun C G hκ=>⟨w.heap.size, #[],0,hκ,heap_alloc_new w _,⟨rfl,fun j e p h=>by simp at h⟩,⟨rfl,fun j e h=>by simp at h⟩,fun p h=>by simp [mx] at h⟩)
 refine .inl ⟨_,_,_,_,gQ,.inl rfl,r'.eZ (fE hd) ?_⟩
 exact .gH ⟨_,by show(δ.fM _).ob _=_;rw[gh,if_pos rfl],rfl⟩ (by show ix _ _ _ _=_;simp [ix])
theorem a_.makeMap {t:TypeId} (hd:gb δ.n dst=true) (hK:a_ .plain P g ops rest Q ((δ.fM (.mp (mx []))).eZ dst (.gH δ.nx))):a_ .plain P g ops (⟨dst,.makeMap t none,ty,pos,af,none⟩::rest) Q δ:=a_.vA rfl rfl (je.makeMap hd) hK
theorem gm.wC (w:World) (b:Nat) (o:Obj):gm w {w with heap:=w.heap.setIfInBounds b o} (some b):=
 ⟨rfl,rfl,rfl,by simp,fun k _ h=>by
  show(w.heap.setIfInBounds b o)[k]? =_
  rw[aP,if_neg (fun e=>h (by rw[e]))]⟩
theorem ni {w:World} {b:Nat} {o o':Obj} (h:w.heap[b]? =some o):({w with heap:=w.heap.setIfInBounds b o'}:World).heap[b]? =some o':=(MapKept.heap_set h).1
theorem te (l l':List (Int×AV)):mx (l++l')=mx l++mx l':=by simp [mx]
theorem mz.push {C:Cx} {w:World} {es:Array MapEntry} {l:List (Int×AV)} {clock:Nat} (h:mz C w es (Ab.mx l)) (hs:rj es clock) (m:Int) {u:Value} {v:AV} (hu:RA C w u v):
  mz C w (es.push {key:=.int .i64 m,val:=u,born:=clock}) (Ab.mx (l++ [(m,v)]))∧rj (es.push {key:=.int .i64 m,val:=u,born:=clock}) (clock+1):=by
 have mX:es.size=(Ab.mx l).length:=h.1
 refine⟨⟨by rw[te];simp [mX,Ab.mx],fun j e p h1 h2=>?_⟩,by simp [hs.1],fun j e h1=>?_⟩
 ·rw[te] at h2
  rw[cr] at h1
  by_cases hj:j=es.size
  ·rw[if_pos hj] at h1
   cases h1
   rw[aS aG,hj,mX] at h2
   simp [Ab.mx] at h2
   subst h2
   exact⟨rfl,hu⟩
  ·rw[if_neg hj] at h1
   have ft:j<es.size:=(aL.1 h1).1
   rw[aQ aG] at h2
   exact h.2 j e p h1 h2
 ·rw[cr] at h1
  by_cases hj:j=es.size
  ·rw[if_pos hj] at h1;cases h1;rw[hs.1,hj]
  ·rw[if_neg hj] at h1;exact hs.2 j e h1
end Go.Ab
namespace Go.Ab
section
variable {q:Md} {P:Program} {g:eY} {δ:DS} {ops:Array Oper} {rest:List Oper} {Q:Exit→DS→Prop} {dst:Option Nat} {ty:TypeId} {pos:String} {af:Array Edge}
theorem a_.kX {fn:Go.Fn} {x:Operand} {i o:Nat} (hx:δ.ev x=.ptr i o) (ho:fk x=true) (hd:gb δ.n dst=true) (hK:a_ q P g ops rest Q (δ.eZ dst (.jd fn [] [.ptr i o]))):a_ q P g ops (⟨dst,.makeFunc fn #[] #[x],ty,pos,af,none⟩::rest) Q δ:=
 a_.jK _ hd (fun κ a w r=>⟨.func fn #[] #[a.eval x],fun w' _=>by simp [execOp,Instr.makeFunc],.jd rfl (fun j u c h=>by simp at h) rfl (fun j u c h1 h2=>by
  match j with
  |0=>simp at h1 h2;subst h1;subst h2;exact r.ra hx ho
  |j+1=>simp at h2)⟩) hK
theorem a_.w6 {fn:Go.Fn} {x:Operand} {i o:Nat} (hx:δ.ev x=.ptr i o) (ho:fk x=true) (hd:gb δ.n dst=true) (hK:a_ q P g ops rest Q (δ.eZ dst (.jd fn [.ptr i o] []))):a_ q P g ops (⟨dst,.makeFunc fn #[x] #[],ty,pos,af,none⟩::rest) Q δ:=
 a_.jK _ hd (fun κ a w r=>⟨.func fn #[a.eval x] #[],fun w' _=>by simp [execOp,Instr.makeFunc],.jd rfl (fun j u c h1 h2=>by
  match j with
  |0=>simp at h1 h2;subst h1;subst h2;exact r.ra hx ho
  |j+1=>simp at h2) rfl (fun j u c h=>by simp at h)⟩) hK
theorem a_.iX {x:Operand} {fn:Go.Fn} {a b:List AV} (hx:δ.ev x=.jd fn a b) (ho:fk x=true) (hd:gb δ.n dst=true) (hK:a_ q P g ops rest Q (δ.eZ dst (.jd fn a b))):a_ q P g ops (⟨dst,.move x,ty,pos,af,none⟩::rest) Q δ:=a_.move hx ho hd hK
end
end Go.Ab
namespace Go.Ab
section
variable {P:Program} {δ:DS} {dst:Option Nat} {ty:TypeId} {pos:String} {af:Array Edge} {gd:Option (Tmp×Bool)}
theorem jx.Ba {x:Operand} {p:PV} (hx:δ.ev x=.pv p) (ho:fk x=true):jx P ⟨dst,.move x,ty,pos,af,gd⟩ δ (.pv p):=fun _ _ a _ r=>⟨a.eval x,fun _=>rfl,hx▸r.C5 x (iK ho)⟩
end
section
variable {P:Program} {g:eY} {δ:DS} {ops:Array Oper} {rest:List Oper} {Q:Exit→DS→Prop} {dst:Option Nat} {ty:TypeId} {pos:String} {af:Array Edge}
end
end Go.Ab
/- Ranging over a function:the loop's code behind names. -/
namespace Go.Ab
open Go Go.RowKit
attribute [local irreducible] HS
variable {P:Program} {g:eY} {δ:DS} {κ:Kp} {a:Act} {w:World}
variable {ops:Array Oper} {rest:List Oper} {Q:Exit→DS→Prop} {dst:Option Nat} {ty:TypeId} {pos:String} {af:Array Edge}
def uX (ps':Array Tmp) (asg' body':Code) (ps:List Tmp) (iQ body:Code):Prop:=ps'=ps.toArray∧asg'=iQ∧body'=body
theorem ym {n i l:Nat} {tm ps iQ body} {e:Exit} (he:e=.normal∨e=.ret) (ho:δ.ob i=some (.loop l tm ps iQ body .ready)) (h:Q .normal (mJ n i δ)):fh n i l Q e δ:=by
 rcases he with rfl|rfl<;>(show KU l Q (mJ n i δ) (δ.ob i);rw[ho];exact⟨rfl,h⟩)
end Go.Ab
/- Weakening:maps told as sets,loops. -/
namespace Go.Ab
open Go Go.RowKit
variable {δ δ':DS} {i:Nat}
theorem Mz {lr lb:Nat→Bool} (xs:List Int):∀p∈mx (HO xs),p.2.ids lr lb=true:=by
 intro p hp
 unfold mx HO at hp
 simp only[ct,bt] at hp
 obtain⟨x,_,rfl⟩:=hp
 rfl
theorem WO.set {xs:List Int} (h:δ.ob i=some (.mp (mx (HO xs)))):WO δ δ' i (.mp (mx (HO xs))):=.mp h (Mz xs)
end Go.Ab
namespace Go.Ab
open Go Go.RowKit
section
variable {q:Md} {P:Program} {g:eY} {δ:DS} {ops:Array Oper} {rest:List Oper} {Q:Exit→DS→Prop} {dst:Option Nat} {ty:TypeId} {pos:String} {af:Array Edge}
theorem a_.rm {α:Type} {x y:Operand} {t e e':TypeId} {i k:Nat} {m:Int} {f:α→List PV} {l:List α} (hx:δ.ev x=.own i e' k (l.map f)) (hy:δ.ev y=eU m)
  (ht:P.underlying t=some (.slice e)) (hk:(P.info? e).map (·.size)=some k) (ho:fk x=true) (gi:fk y=true) (hd:gb δ.n dst=true) (h0:0≤m) (hn:m<l.length)
  (hK:a_ q P g ops rest Q (δ.eZ dst (.gY i e' k (l.map f) m.toNat))):a_ q P g ops (⟨dst,.indexAddr t x y,ty,pos,af,none⟩::rest) Q δ:=
 a_.uP (n:=m.toNat) hx (by rw[hy];show eU m=eU _;rw[bZ h0]) (by simp;omega) ht hk ho gi hd hK
theorem a_.lI {α:Type} {x:Operand} {t e:TypeId} {i:Nat} {m:Nat} {f:α→PV} {l:List α} (hx:δ.ev x=.gY i e 1 (l.map fun z=>[f z]) m) (ht:iS P t=true) (ho:fk x=true) (hd:gb δ.n dst=true) (hq:q≠ .held) (hn:m<l.length)
  (hK:a_ q P g ops rest Q (δ.eZ dst (.pv (f l[m])))):a_ q P g ops (⟨dst,.load t x,ty,pos,af,none⟩::rest) Q δ:=
 a_.DZ hq hx hn ht ho hd hK
end
end Go.Ab
/- States written out:laws by which a state's term is brought to its plain form. -/
namespace Go.Ab
open Go Go.RowKit
namespace Nf
variable {n x:Nat} {e:List (Nat×AV)} {o:List (Nat×Option Ob)}
theorem beq (i j:Nat):aI i j=(i==j):=by
 by_cases h:i=j
 ·subst h;simp
 ·rw[mO h];exact(beq_eq_false_iff_ne.2 h).symm
theorem ble (i j:Nat):bu i j=(i - j==0):=by
 by_cases h:i≤j
 ·have h1:bu i j=true:=by simpa using h
  have h2:i - j=0:=by omega
  rw[h1,h2];rfl
 ·have h1:bu i j=false:=by
   cases hh:bu i j with
   |false=>rfl
   |true=>exact absurd (by simpa using hh) h
  rw[h1];exact(beq_eq_false_iff_ne.2 aG).symm
theorem hs:HS=1000:=rfl
theorem c_t {α:Type} (a b:α):(bif true then a else b)=a:=rfl
theorem c_f {α:Type} (a b:α):(bif false then a else b)=b:=rfl
theorem put (d:Nat) (v:AV):DS.eZ ⟨n,e,o,x⟩ (some d) v=⟨n,(d,v)::e,o,x⟩:=rfl
theorem Z2 (v:AV):DS.eZ ⟨n,e,o,x⟩ none v=⟨n,e,o,x⟩:=rfl
theorem add (b:Ob):DS.fM ⟨n,e,o,x⟩ b=⟨n,e,(x,some b)::o,x+1⟩:=rfl
theorem set (i:Nat) (b:Option Ob):DS.gl ⟨n,e,o,x⟩ i b=⟨n,e,(i,b)::o,x⟩:=rfl
theorem pn:(DS.mk n e o x).n=n:=rfl
theorem pe:(DS.mk n e o x).env=e:=rfl
theorem po:(DS.mk n e o x).fY=o:=rfl
theorem px:(DS.mk n e o x).nx=x:=rfl
theorem Zl (t:Nat):DS.ev ⟨n,e,o,x⟩ (.tmp t)=look e t:=rfl
theorem ZN (v:Value):DS.ev ⟨n,e,o,x⟩ (.const v)=.pv (.lit v):=rfl
theorem YR (f:Nat):DS.ev ⟨n,e,o,x⟩ (.func f)=.jd (.func f) [] []:=rfl
theorem VC (j:Nat):look [] j=.any:=rfl
theorem WC (i j:Nat) (v:AV) (r:List (Nat×AV)):look ((i,v)::r) j=bif aI i j then v else look r j:=rfl
theorem start (args:List AV):start n args=⟨n,enum 0 args,[],0⟩:=rfl
theorem Zu (i:Nat):enum i []=[]:=rfl
theorem X3 (i:Nat) (v:AV) (r:List AV):enum i (v::r)=(i,v)::enum (i+1) r:=rfl
def zS (e:List (Nat×AV)):List Operand→List AV
 |[]=>[]
 |.tmp t::r=>look e t::zS e r
 |.const v::r=> .pv (.lit v)::zS e r
 |.global _::r=> .any::zS e r
 |.func f::r=> .jd (.func f) [] []::zS e r
theorem vf:∀xs:List Operand,xs.map (DS.ev ⟨n,e,o,x⟩)=zS e xs
 |[]=>rfl
 |.tmp t::r=>by simp only[bz,zS,vf r];rfl
 |.const v::r=>by simp only[bz,zS,vf r];rfl
 |.global v::r=>by simp only[bz,zS,vf r];rfl
 |.func f::r=>by simp only[bz,zS,vf r];rfl
theorem Nw (δ:DS) (xs:List Operand):xs.map δ.ev=zS δ.env xs:=vf (n:=δ.n) (o:=δ.fY) (x:=δ.nx) xs
theorem Z1:zS e []=[]:=rfl
theorem UU (t:Nat) (r:List Operand):zS e (.tmp t::r)=look e t::zS e r:=rfl
theorem T8 (v:Value) (r:List Operand):zS e (.const v::r)=.pv (.lit v)::zS e r:=rfl
theorem Wi (f:Nat) (r:List Operand):zS e (.func f::r)=.jd (.func f) [] []::zS e r:=rfl
def av:List AV→List AV→List AV
 |[],m=>m
 |v::r,m=>v::av r m
theorem PQ:∀l m:List AV,l++m=av l m
 |[],_=>rfl
 |v::r,m=>by rw[bq,PQ r m];rfl
theorem av0 (m:List AV):av [] m=m:=rfl
theorem av1 (v:AV) (r m:List AV):av (v::r) m=v::av r m:=rfl
def ae:List (Nat×AV)→List (Nat×AV)→List (Nat×AV)
 |[],m=>m
 |v::r,m=>v::ae r m
theorem L_:∀l m:List (Nat×AV),l++m=ae l m
 |[],_=>rfl
 |v::r,m=>by rw[bq,L_ r m];rfl
theorem ae0 (m:List (Nat×AV)):ae [] m=m:=rfl
theorem ae1 (v:Nat×AV) (r m:List (Nat×AV)):ae (v::r) m=v::ae r m:=rfl
def sh:List (Nat×AV)→List (Nat×AV)
 |[]=>[]
 |(i,v)::r=>(i+HS,v)::sh r
theorem Ki:∀l,gn l=sh l
 |[]=>rfl
 |(i,v)::r=>by show(i+HS,v)::gn r=_;rw[Ki r];rfl
theorem sh0:sh []=[]:=rfl
theorem sh1 (i:Nat) (v:AV) (r:List (Nat×AV)):sh ((i,v)::r)=(i+1000,v)::sh r:=rfl
theorem un0:gq []=[]:=rfl
theorem un1 (i:Nat) (v:AV) (r:List (Nat×AV)):gq ((i,v)::r)=bif bu 1000 i then (i - 1000,v)::gq r else gq r:=rfl
theorem ow0:fR []=[]:=rfl
theorem ow1 (i:Nat) (v:AV) (r:List (Nat×AV)):fR ((i,v)::r)=bif bu 1000 i then (bif bu i 1999 then (i - 1000,v)::fR r else fR r) else fR r:=by
 have h:aV i (HS+HS)=bu i 1999:=by
  show bu (i+1) 2000=bu i 1999
  rfl
 show(bif bu HS i && aV i (HS+HS) then _ else _)=_
 rw[h]
 show(bif bu 1000 i && bu i 1999 then _ else _)=_
 cases bu 1000 i<;>rfl
theorem pa (t:Tmp) (ts:List Tmp) (v:AV) (vs:List AV):sJ (t::ts) (v::vs) e=sJ ts vs ((t,v)::e):=rfl
theorem pa0:sJ [] [] e=e:=rfl
theorem UE (m:Nat):fK m ⟨n,e,o,x⟩=⟨m,gq e,o,x⟩:=rfl
theorem round (m:Nat) (ps:List Tmp) (vs:List AV):Bf m ps vs ⟨n,e,o,x⟩=⟨m,sJ ps vs (ae (fR e) (sh e)),o,x⟩:=by
 unfold Bf
 rw[L_,Ki]
def EI (f:AV→AV):List (Nat×AV)→List (Nat×AV)
 |[]=>[]
 |(i,v)::r=>(i,f v)::EI f r
def tZ (f:AV→AV):List AV→List AV
 |[]=>[]
 |v::r=>f v::tZ f r
def mY (f:AV→AV):List (Nat×Option Ob)→List (Nat×Option Ob)
 |[]=>[]
 |(i,b)::r=>(i,b.map (Ob.xq f))::mY f r
theorem GB (f:AV→AV):∀l:List (Nat×AV),(l.map fun p=>(p.1,f p.2))=EI f l
 |[]=>rfl
 |(i,v)::r=>by rw[bz,GB f r];rfl
theorem Gj (f:AV→AV):∀l:List (Nat×Option Ob),(l.map fun p=>(p.1,p.2.map (Ob.xq f)))=mY f l
 |[]=>rfl
 |(i,v)::r=>by rw[bz,Gj f r];rfl
theorem ml (f:AV→AV):∀l:List AV,l.map f=tZ f l
 |[]=>rfl
 |v::r=>by rw[bz,ml f r];rfl
theorem mv (f:AV→AV):DS.ib ⟨n,e,o,x⟩ f=⟨n,EI f e,mY f o,x⟩:=by
 unfold DS.ib
 rw[GB,Gj]
theorem mE0 (f:AV→AV):EI f []=[]:=rfl
theorem mE1 (f:AV→AV) (i:Nat) (v:AV) (r:List (Nat×AV)):EI f ((i,v)::r)=(i,f v)::EI f r:=rfl
theorem mC0 (f:AV→AV):tZ f []=[]:=rfl
theorem mC1 (f:AV→AV) (v:AV) (r:List AV):tZ f (v::r)=f v::tZ f r:=rfl
theorem mO0 (f:AV→AV):mY f []=[]:=rfl
theorem mOn (f:AV→AV) (i:Nat) (r:List (Nat×Option Ob)):mY f ((i,none)::r)=(i,none)::mY f r:=rfl
theorem mOr (f:AV→AV) (i:Nat) (r:List (Nat×Option Ob)):mY f ((i,some .row)::r)=(i,some .row)::mY f r:=rfl
theorem mOb (f:AV→AV) (i:Nat) (cs:List AV) (r:List (Nat×Option Ob)):mY f ((i,some (.box cs))::r)=(i,some (.box (tZ f cs)))::mY f r:=by
 show(i,some (Ob.box (cs.map f)))::mY f r=_
 rw[ml]
theorem mOm (f:AV→AV) (i:Nat) (l:List (Value×AV)) (r:List (Nat×Option Ob)):mY f ((i,some (.mp l))::r)=(i,some (.mp l))::mY f r:=rfl
theorem mOq (f:AV→AV) (i:Nat) (l:List (Value×AV)) (k:Value) (v:AV) (r:List (Nat×Option Ob)):mY f ((i,some (.mpl l k v))::r)=(i,some (.mpl l k (f v)))::mY f r:=rfl
theorem mOP (f:AV→AV) (i:Nat) (e:PT) (p:Nat→Value×List Value) (r:List (Nat×Option Ob)):mY f ((i,some (.fm e p))::r)=(i,some (.fm e p))::mY f r:=rfl
theorem mOt (f:AV→AV) (i:Nat) (T:TypeId) (vs:Array Value) (r:List (Nat×Option Ob)):mY f ((i,some (.lit T vs))::r)=(i,some (.lit T vs))::mY f r:=rfl
theorem mOl (f:AV→AV) (i l:Nat) (tm ps iQ body st) (r:List (Nat×Option Ob)):mY f ((i,some (.loop l tm ps iQ body st))::r)=(i,some (.loop l tm ps iQ body st))::mY f r:=rfl
section
variable (i j:Nat)
theorem Uv:AV.kill i .any=.any:=rfl
theorem XG (p:PV):AV.kill i (.pv p)=.pv p:=rfl
theorem TZ (a b:Nat):AV.kill i (.ptr a b)=.ptr a b:=rfl
theorem Si (c:List PV):AV.kill i (.gy c)=.gy c:=rfl
theorem S8 (a:Nat):AV.kill i (.gH a)=.gH a:=rfl
theorem Wk (a:Nat):AV.kill i (.kS a)=.kS a:=rfl
theorem Uh (e k e7):AV.kill i (.own j e k e7)=bif aI i j then .any else .own j e k e7:=rfl
theorem QL (e k e7 m):AV.kill i (.gY j e k e7 m)=bif aI i j then .any else .gY j e k e7 m:=rfl
theorem V6 (cs:List AV):AV.kill i (.agg cs)=.agg (tZ (AV.kill i) cs):=by
 show AV.mp _ _=_
 rw[AV.mp,AV.kW,ml];rfl
theorem T2 (cs:List AV):AV.kill i (.iR cs)=.iR (tZ (AV.kill i) cs):=by
 show AV.mp _ _=_
 rw[AV.mp,AV.kW,ml];rfl
theorem V0 (fn:Go.Fn) (cs ds:List AV):AV.kill i (.jd fn cs ds)=.jd fn (tZ (AV.kill i) cs) (tZ (AV.kill i) ds):=by
 show AV.mp _ _=_
 rw[AV.mp,AV.kW,AV.kW,ml,ml];rfl
end
theorem RN (cs:List AV):AV.cellsOf (.agg cs)=cs:=rfl
theorem V2 (p:PV):AV.cellsOf (.pv p)=[.pv p]:=rfl
theorem QC (a b:Nat):AV.cellsOf (.ptr a b)=[.ptr a b]:=rfl
theorem SI (i e k e7):AV.cellsOf (.own i e k e7)=[.own i e k e7]:=rfl
theorem RV:AV.cellsOf .any=[.any]:=rfl
theorem Pv (i:Nat):AV.cellsOf (.gH i)=[.gH i]:=rfl
theorem Th (fn a b):AV.cellsOf (.jd fn a b)=[.jd fn a b]:=rfl
theorem NB (c):AV.cellsOf (.gy c)=[.gy c]:=rfl
def FC:List AV→Nat→AV→List AV
 |[],_,_=>[]
 |_::r,0,w=>w::r
 |v::r,n+1,w=>v::FC r n w
theorem BG:∀(l:List AV) (n:Nat) (w:AV),l.set n w=FC l n w
 |[],_,_=>rfl
 |_::_,0,_=>rfl
 |v::r,n+1,w=>by rw[cu,BG r n w];rfl
theorem lo1 (i j:Nat) (v:Option Ob) (r:List (Nat×Option Ob)):fc ((i,v)::r) j=bif aI i j then v else fc r j:=rfl
end Nf
end Go.Ab
/- Laws of operations whose results stand in plain form. -/
namespace Go.Ab
open Go Go.RowKit
attribute [local irreducible] HS
variable {q:Md} {P:Program} {g:eY} {δ:DS} {κ:Kp} {a:Act} {w:World}
variable {ops:Array Oper} {rest:List Oper} {Q:Exit→DS→Prop} {dst:Option Nat} {ty:TypeId} {pos:String} {af:Array Edge}
def Ex (P:Program) (s:TypeId) (f k:Nat):Bool:=match P.underlying s with
 |some (.struct fs)=>(match fs[f]? with|some pD=>aI pD.offset k && ((P.info? pD.type).map fun i=>aV 0 i.size)==some true|none=>false)
 |_=>false
theorem a_.b_ (s:TypeId) (f k:Nat) {x:Operand} {i off:Nat} (hx:δ.ev x=.ptr i off) (hB:Ex P s f k=true) (ho:fk x=true) (hd:gb δ.n dst=true)
  (hK:a_ q P g ops rest Q (δ.eZ dst (.ptr i (off+k)))):a_ q P g ops (⟨dst,.fieldAddr s x f,ty,pos,af,none⟩::rest) Q δ:=by
 unfold Ex at hB
 split at hB
 ·rename_i fs hs
  split at hB
  ·rename_i pD hf
   simp only[aW,beq_iff_eq] at hB
   have hk:=aJ hB.1
   subst hk
   exact a_.fieldAddr hx hs hf hB.2 ho hd hK
  ·cases hB
 ·cases hB
def Qp (P:Program) (s:TypeId) (f k:Nat):Bool:=match P.underlying s with
 |some (.struct fs)=>(match fs[f]? with|some pD=>aI pD.offset k && iS P pD.type|none=>false)
 |_=>false
theorem a_.Gn (s:TypeId) (f k:Nat) {x:Operand} {cs:List AV} {v:AV} (hx:δ.ev x=.agg cs) (hB:Qp P s f k=true) (hv:cs[k]? =some v) (ho:fk x=true) (hd:gb δ.n dst=true)
  (hK:a_ q P g ops rest Q (δ.eZ dst v)):a_ q P g ops (⟨dst,.field s x f,ty,pos,af,none⟩::rest) Q δ:=by
 unfold Qp at hB
 split at hB
 ·rename_i fs hs
  split at hB
  ·rename_i pD hf
   simp only[aW] at hB
   have hk:=aJ hB.1
   subst hk
   exact a_.Rb hx hs hf hB.2 hv ho hd hK
  ·cases hB
 ·cases hB
def HP:List AV→Nat→Nat→List AV
 |[],_,_=>[]
 |v::r,k,n=>bif k==0 then (bif n==0 then [] else v::HP r 0 (n - 1)) else HP r (k - 1) n
def rK:List PV→Nat→Nat→List PV
 |[],_,_=>[]
 |v::r,k,n=>bif k==0 then (bif n==0 then [] else v::rK r 0 (n - 1)) else rK r (k - 1) n
theorem oa:∀(l:List PV) (k n:Nat),(l.drop k).take n=rK l k n
 |[],k,n=>by simp [rK]
 |v::r,0,0=>by simp [rK]
 |v::r,0,n+1=>by
  have:=oa r 0 n
  simp only[cv] at this
  simp [rK,← this]
 |v::r,k+1,n=>by simp [rK,← oa r k n]
def Gd (P:Program) (s:TypeId) (f k n:Nat):Bool:=match P.underlying s with
 |some (.struct fs)=>(match fs[f]? with|some pD=>aI pD.offset k && (((P.info? pD.type).map fun i=>aV 0 i.size)==some true && (P.info? pD.type).map (·.size)==some n)|none=>false)
 |_=>false
theorem a_.ig (s:TypeId) (f k n:Nat) {x:Operand} {cs:List PV} (hx:δ.ev x=.gy cs) (hB:Gd P s f k n=true) (ho:fk x=true) (hd:gb δ.n dst=true)
  (hK:a_ q P g ops rest Q (δ.eZ dst (.gy (rK cs k n)))):a_ q P g ops (⟨dst,.fieldAddr s x f,ty,pos,af,none⟩::rest) Q δ:=by
 unfold Gd at hB
 split at hB
 ·rename_i fs hs
  split at hB
  ·rename_i pD hf
   simp only[aW,beq_iff_eq] at hB
   have hk:=aJ hB.1
   subst hk
   exact a_.Ct hx hs hf hB.2.1 hB.2.2 ho hd (by rw[oa];exact hK)
  ·cases hB
 ·cases hB
def B9:List Value→List AV
 |[]=>[]
 |v::r=> .pv (.lit v)::B9 r
theorem wx:∀l:List Value,(l.map fun v=>AV.pv (PV.lit v))=B9 l
 |[]=>rfl
 |v::r=>by rw[bz,wx r];rfl
def u6:List AV→List (Nat×AV)→List AV
 |cs,[]=>cs
 |cs,(k,v)::r=>u6 (setN cs k v.cellsOf) r
where setN:List AV→Nat→List AV→List AV
 |cs,_,[]=>cs
 |cs,k,v::r=>setN (Nf.FC cs k v) (k+1) r
theorem Gt:∀(vs cs:List AV) (k:Nat),lk cs k vs=u6.setN cs k vs
 |[],cs,k=>rfl
 |v::r,cs,k=>by
  unfold lk u6.setN
  rw[Nf.BG,Gt r]
theorem uo {place:Nat→Option (Nat×Nat)}:∀(ps:List (Nat×AV)) (qD:List Nat) (cs cells:List AV),iN place cs ps=some cells→(ps.map fun p=>(place p.1).map (·.1))=qD.map some→
  cells=u6 cs (qD.zip (ps.map (·.2)))
 |[],qD,cs,cells,h,_=>by simp only[iN,Option.some.injEq] at h;subst h;cases qD<;>rfl
 |(i,v)::ps,[],cs,cells,h,ho=>by simp at ho
 |(i,v)::ps,k::qD,cs,cells,h,ho=>by
  simp only[bz,List.cons.injEq] at ho
  unfold iN at h
  cases hp:place i with
  |none=>rw[hp] at h;cases h
  |some x=>
   obtain⟨off,size⟩:=x
   rw[hp] at h ho
   simp only[bm,Option.some.injEq] at ho
   obtain⟨rfl,ho⟩:=ho
   simp only at h
   cases hb:(aI v.cellsOf.length size && bu (off+v.cellsOf.length) cs.length && AV.mE v.cellsOf) with
   |false=>rw[hb] at h;cases h
   |true=>
    rw[hb] at h
    have:=uo ps qD _ cells h ho
    rw[this,Gt]
    rfl
def tO (e:List (Nat×AV)):List Nat→List (Nat×Operand)→List (Nat×AV)
 |k::ks,(_,.tmp t)::ps=>(k,look e t)::tO e ks ps
 |k::ks,(_,.const v)::ps=>(k,.pv (.lit v))::tO e ks ps
 |k::ks,(_,.global _)::ps=>(k,.any)::tO e ks ps
 |k::ks,(_,.func f)::ps=>(k,.jd (.func f) [] [])::tO e ks ps
 |_,_=>[]
theorem BR (δ:DS):∀(qD:List Nat) (ps:List (Nat×Operand)),qD.zip ((ps.map fun p=>(p.1,δ.ev p.2)).map (·.2))=tO δ.env qD ps
 |[],[]=>rfl
 |[],_::_=>rfl
 |_::_,[]=>rfl
 |k::ks,(i,x)::ps=>by
  simp only[bz,b7,BR δ ks ps]
  cases x<;>rfl
theorem a_.iW (t:TypeId) (qD:List Nat) {l:List Value} {parts:List (Nat×Operand)} {fs:Array Field} {z:Value} {cells:List AV} (hs:P.underlying t=some (.struct fs)) (hz:(P.info? t).bind (·.zero)=some z) (hl:z.cells=l.toArray) (h1:z.cells.toList.all (·.oneCell')=true) (oZ:fs.toList.all (fun f=>(P.info? f.type).isSome)=true)
  (ho:parts.all (fun p=>fk p.2)=true) (Tx:((parts.map fun p=>(p.1,δ.ev p.2)).map fun p=>(placeOf P fs p.1).map (·.1))=qD.map some) (hf:iN (placeOf P fs) (z.cells.toList.map fun v=> .pv (.lit v)) (parts.map fun p=>(p.1,δ.ev p.2))=some cells) (hd:gb δ.n dst=true)
  (hK:a_ q P g ops rest Q (δ.eZ dst (.agg (u6 (B9 l) (tO δ.env qD parts))))):a_ q P g ops (⟨dst,.build t parts.toArray,ty,pos,af,none⟩::rest) Q δ:=by
 refine a_.build hs hz h1 oZ ho hf hd ?_
 have:=uo _ qD _ cells hf Tx
 rw[BR,hl,cw,wx] at this
 rw[this]
 exact hK
theorem a_.wM {e:TypeId} {z:Value} {l:List Value} (hz:(P.info? e).bind (·.zero)=some z) (hl:z.cells=l.toArray) (h1:z.cells.toList.all (·.oneCell')=true) (hd:gb δ.n dst=true)
  (hK:a_ .plain P g ops rest Q ((δ.fM (.box (B9 l))).eZ dst (.ptr δ.nx 0))):a_ .plain P g ops (⟨dst,.alloc e,ty,pos,af,none⟩::rest) Q δ:=by
 refine a_.alloc hz h1 hd ?_
 rw[hl,cw,wx]
 exact hK
def C_:Option Ob→u9→Option Ob
 |some (.loop l tm ps iQ body _),st=>some (.loop l tm ps iQ body st)
 |o,_=>o
def JB (δ:DS) (i:Nat) (st:u9):DS:=⟨δ.n,δ.env,(i,C_ (fc δ.fY i) st)::δ.fY,δ.nx⟩
theorem A5 {i l:Nat} {s:u9} (st:u9) (h:jw δ i l s):δ.lQ i st=JB δ i st:=by
 obtain⟨tm,ps,iQ,body,ho⟩:=h
 unfold DS.lQ JB
 rw[ho]
 have:fc δ.fY i=some (.loop l tm ps iQ body s):=ho
 rw[this]
 rfl
def e6 (P:Program) (g:eY) (ops:Array Oper) (rest:List Oper) (Q:Exit→DS→Prop) (dst:Option Nat) (n i l:Nat):Exit→DS→Prop
 |.normal,δ=>jw δ i l .busy∧a_ .plain P g ops rest Q ((JB (fK n δ) i .ready).eZ dst (fe true))
 |.ret,δ=>jw δ i l .busy∧a_ .plain P g ops rest Q ((JB (fK n δ) i (.done .ret)).eZ dst (fe false))
 |.exit id,δ=>jw δ i l .busy∧a_ .plain P g ops rest Q ((JB (fK n δ) i (.done (.exit id))).eZ dst (fe false))
 |_,_=>False
theorem vh {n i l:Nat} {st} (h:jw δ i l st):jw (fK n δ) i l st:=h
theorem fX {n i l:Nat} (h1:jw δ i l .busy) (h2:a_ .plain P g ops rest Q ((JB (fK n δ) i .ready).eZ dst (fe true))):e6 P g ops rest Q dst n i l .normal δ:=⟨h1,h2⟩
def W2 (n i:Nat) (δ:DS):DS:=⟨n,gq δ.env,(i,C_ (fc δ.fY i) .pL)::δ.fY,δ.nx⟩
theorem Ri {n i l:Nat} {tm ps iQ body st} (ho:δ.ob i=some (.loop l tm ps iQ body st)):mJ n i δ=W2 n i δ:=by
 unfold mJ W2
 rw[ho]
 have:fc δ.fY i=some (.loop l tm ps iQ body st):=ho
 rw[this];rfl
theorem ic {n i l:Nat} {tm ps iQ body} {e:Exit} (he:e=.normal∨e=.ret) (ho:δ.ob i=some (.loop l tm ps iQ body .ready)) (h:Q .normal (W2 n i δ)):fh n i l Q e δ:=ym he ho (by rw[Ri ho];exact h)
namespace Nf
variable {n x:Nat} {e:List (Nat×AV)} {o:List (Nat×Option Ob)}
theorem sto (i:Nat) (st:u9):JB ⟨n,e,o,x⟩ i st=⟨n,e,(i,C_ (fc o i) st)::o,x⟩:=rfl
theorem bko (m i:Nat):W2 m i ⟨n,e,o,x⟩=⟨m,gq e,(i,C_ (fc o i) .pL)::o,x⟩:=rfl
theorem sst (l:Nat) (tm ps iQ body st st'):C_ (some (.loop l tm ps iQ body st)) st'=some (.loop l tm ps iQ body st'):=rfl
theorem ll0:B9 []=[]:=rfl
theorem ll1 (v:Value) (r:List Value):B9 (v::r)=.pv (.lit v)::B9 r:=rfl
theorem la0 (cs:List AV):u6 cs []=cs:=rfl
theorem la1 (cs:List AV) (k:Nat) (v:AV) (r:List (Nat×AV)):u6 cs ((k,v)::r)=u6 (u6.setN cs k v.cellsOf) r:=rfl
theorem sn0 (cs:List AV) (k:Nat):u6.setN cs k []=cs:=rfl
theorem sn1 (cs:List AV) (k:Nat) (v:AV) (r:List AV):u6.setN cs k (v::r)=u6.setN (FC cs k v) (k+1) r:=rfl
theorem Z6 (k:Nat) (w:AV):FC [] k w=[]:=rfl
theorem cs1 (v:AV) (r:List AV) (k:Nat) (w:AV):FC (v::r) k w=bif k==0 then w::r else v::FC r (k - 1) w:=by cases k<;>rfl
theorem YQ (k:Nat) (ks:List Nat) (i t:Nat) (ps:List (Nat×Operand)):tO e (k::ks) ((i,.tmp t)::ps)=(k,look e t)::tO e ks ps:=rfl
theorem X4 (k:Nat) (ks:List Nat) (i:Nat) (v:Value) (ps:List (Nat×Operand)):tO e (k::ks) ((i,.const v)::ps)=(k,.pv (.lit v))::tO e ks ps:=rfl
theorem YP (k:Nat) (ks:List Nat) (i f:Nat) (ps:List (Nat×Operand)):tO e (k::ks) ((i,.func f)::ps)=(k,.jd (.func f) [] [])::tO e ks ps:=rfl
theorem lp0:tO e [] []=[]:=rfl
theorem sa0 (k n:Nat):HP [] k n=[]:=rfl
theorem sa1 (v:AV) (r:List AV) (k n:Nat):HP (v::r) k n=bif k==0 then (bif n==0 then [] else v::HP r 0 (n - 1)) else HP r (k - 1) n:=rfl
theorem sp0 (k n:Nat):rK [] k n=[]:=rfl
theorem sp1 (v:PV) (r:List PV) (k n:Nat):rK (v::r) k n=bif k==0 then (bif n==0 then [] else v::rK r 0 (n - 1)) else rK r (k - 1) n:=rfl
end Nf
end Go.Ab
namespace Go.Ab
open Go Go.RowKit
section
variable {q:Md} {P:Program} {g:eY} {δ:DS} {ops:Array Oper} {rest:List Oper} {Q:Exit→DS→Prop} {dst:Option Nat} {ty:TypeId} {pos:String} {af:Array Edge}
theorem a_.vw {x:Operand} {i:Nat} (hx:δ.ev x=.gH i) (ho:fk x=true) (hd:gb δ.n dst=true) (hK:a_ q P g ops rest Q (δ.eZ dst (.gH i))):a_ q P g ops (⟨dst,.assign x,ty,pos,af,none⟩::rest) Q δ:=a_.assign hx ho hd hK
theorem a_.z6 {x:Operand} {i:Nat} (hx:δ.ev x=.gH i) (ho:fk x=true) (hd:gb δ.n dst=true) (hK:a_ q P g ops rest Q (δ.eZ dst (.gH i))):a_ q P g ops (⟨dst,.move x,ty,pos,af,none⟩::rest) Q δ:=a_.move hx ho hd hK
end
end Go.Ab
/- Maps:written,counted,ranged over;told as sets and frozen. -/
namespace Go.Ab
open Go Go.RowKit
variable {q:Md} {P:Program} {g:eY} {δ:DS} {κ:Kp} {a:Act} {w:World}
variable {gd:Option (Tmp×Bool)} {ops:Array Oper} {rest:List Oper} {Q:Exit→DS→Prop} {dst:Option Nat} {ty:TypeId} {pos:String} {af:Array Edge}
def wR:List (Int×AV)→Int→AV→List (Int×AV)
 |[],m,v=>[(m,v)]
 |(k,u)::l,m,v=>if m=k then (k,v)::l else (k,u)::wR l m v
theorem Am:∀{l:List (Int×AV)} {m:Int} {v:AV},oG l m=none→wR l m v=l++ [(m,v)]
 |[],_,_,_=>rfl
 |(k,u)::l,m,v,h=>by
  unfold oG at h
  split at h
  ·cases h
  ·rename_i hk
   simp [wR,hk,Am h]
theorem Gg:∀{l:List (Int×AV)} {m:Int} {v:AV} {j:Nat} {u:AV},l[j]? =some (m,u)→(∀i,i<j→∀p,l[i]? =some p→p.1≠m)→wR l m v=l.set j (m,v)
 |[],_,_,_,_,h,_=>by simp at h
 |(k,u')::l,m,v,0,u,h,_=>by
  simp at h;obtain⟨rfl,rfl⟩:=h
  simp [wR]
 |(k,u')::l,m,v,j+1,u,h,hl=>by
  have hk:m≠k:=fun e=>hl 0 aG (k,u') rfl e.symm
  simp only[wR,if_neg hk,cu]
  rw[Gg (j:=j) (u:=u) (by simpa using h) (fun i hi p hp=>hl (i+1) aG p (by simpa using hp))]
theorem y_ {C:Cx} {w:World} (m:Int):∀(es:List MapEntry) (l:List (Int×AV)) (i:Nat),es.length=l.length→
  (∀(j:Nat) (e:MapEntry) (p:Int×AV),es[j]? =some e→l[j]? =some p→e.key=.int .i64 p.1∧RA C w e.val p.2)→
  (oG l m=none∧Instr.findNow (.int .i64) (.int .i64 m) es i=some none)∨
  (∃(j:Nat) (e:MapEntry) (v:AV),Instr.findNow (.int .i64) (.int .i64 m) es i=some (some (i+j,e.val))∧es[j]? =some e∧l[j]? =some (m,v)∧e.key=.int .i64 m∧∀i,i<j→∀p,l[i]? =some p→p.1≠m):=by
 intro es
 induction es with
 |nil=>intro l i hs _;have:l=[]:=bf hs.symm;subst this;exact .inl ⟨rfl,rfl⟩
 |cons e es ih=>
  intro l i hs h
  cases l with
  |nil=>simp at hs
  |cons p l=>
   obtain⟨k,v⟩:=p
   have h0:=h 0 e (k,v) rfl rfl
   by_cases hk:m=k
   ·subst hk
    refine .inr ⟨0,e,v,?_,rfl,rfl,h0.1,fun i hi=>by omega⟩
    simp [Instr.findNow,h0.1,Instr.sameNow]
   ·have hf:Instr.findNow (.int .i64) (.int .i64 m) (e::es) i=Instr.findNow (.int .i64) (.int .i64 m) es (i+1):=by
     have hb:(m==k)=false:=by simp [hk]
     simp [Instr.findNow,h0.1,Instr.sameNow,hb]
    rcases ih l (i+1) (by simpa using hs) (fun j e p h1 h2=>h (j+1) e p (by simpa using h1) (by simpa using h2)) with ⟨h1,h2⟩|⟨j,e',v',h2,h3,h4,h5,h6⟩
    ·exact .inl ⟨by simp [oG,hk,h1],hf.trans h2⟩
    ·refine .inr ⟨j+1,e',v',by rw[hf,h2];simp;omega,by simpa using h3,by simpa using h4,h5,fun i' jS p hp=>?_⟩
     cases i' with
     |zero=>simp at hp;subst hp;exact fun e=>hk e.symm
     |succ i'=>exact h6 i' aG p (by simpa using hp)
theorem je.mapUpdate {x y z:Operand} {t kt et:TypeId} {i:Nat} {l:List (Int×AV)} {m:Int} {v:AV} (hx:δ.ev x=.gH i) (jo:δ.ob i=some (.mp (mx l))) (hy:δ.ev y=eU m) (hz:δ.ev z=v) (WX:v.kM=true) (ht:P.underlying t=some (.map kt et)) (hk:P.underlying kt=some (.int .i64))
  (ho:fk x=true) (gi:fk y=true) (s8:fk z=true) (hd:gb δ.n dst=true) (MZ:g.nP i):
  je P g ⟨dst,.mapUpdate t x y z,ty,pos,af,gd⟩ δ ((δ.gl i (some (.mp (mx (wR l m v))))).eZ dst .any):=by
 intro κ a w r
 obtain⟨b,es,clock,h1,h2,h3,h4,h5,It⟩:=r.W6 (r.ra hx ho) jo
 obtain⟨h6,h7⟩:=h4.mx
 have hzv:=r.ra hz s8
 have U6:MapKept.IsKey (.int .i64) (.int .i64 m):=by simp [MapKept.IsKey]
 have M_:∀e,(Instr.checkKey e (9999+1) kt (.int .i64 m)).run P w=.ok () w:=fun e=>MapKept.run_checkKey hk U6 e 9999
 rcases y_ m es.toList l 0 h6 h7 with ⟨h8,h9⟩|⟨j,e,u,h9,wm,wD,Jq,Xg⟩
 ·have gQ:(execOp a.eval ⟨dst,.mapUpdate t x y z,ty,pos,af,gd⟩).run P w=.ok .skip {w with heap:=w.heap.setIfInBounds b (.map (es.push {key:=.int .i64 m,val:=a.eval z,born:=clock}) (clock+1))}:=by
   simp [execOp,r.lit hy gi,h1,Instr.mapUpdate,run_underlying ht,MapKept.run_getObj_map h3,M_,n7 hk h9,MapKept.run_setObj_map _ h3]
  obtain⟨r',G⟩:=r.modify (o':=.mp (mx (wR l m v))) jo rfl rfl h2 MZ (gm.wC w b (.map (es.push {key:=.int .i64 m,val:=a.eval z,born:=clock}) (clock+1))) (by simp) (fun C hC G=>by
   have B4:mz C {w with heap:=w.heap.setIfInBounds b (.map (es.push {key:=.int .i64 m,val:=a.eval z,born:=clock}) (clock+1))} es (mx l):=h4.kY G
   obtain⟨M0,YF⟩:=B4.push h5 m (G.ra hzv)
   rw[Am h8]
   exact⟨b,_,_,by rw[hC];exact h2,ni h3,M0,YF,fun p hp=>by
    rw[te] at hp
    rcases bW.1 hp with hp|hp
    ·exact It p hp
    ·simp [mx] at hp;subst hp;exact WX⟩)
  exact .inl ⟨_,_,_,_,gQ,.inr ⟨rfl,rfl⟩,r'.eZ (fE hd) (.any _)⟩
 ·rw[Nat.zero_add] at h9
  have hej:es[j]? =some e:=by simpa using wm
  have gQ:(execOp a.eval ⟨dst,.mapUpdate t x y z,ty,pos,af,gd⟩).run P w=.ok .skip {w with heap:=w.heap.setIfInBounds b (.map (es.modify j fun e=>{e with key:=.int .i64 m,val:=a.eval z}) clock)}:=by
   simp [execOp,r.lit hy gi,h1,Instr.mapUpdate,run_underlying ht,MapKept.run_getObj_map h3,M_,n7 hk h9,hej,Jq,MapKept.run_keyThatStays U6,MapKept.run_setObj_map _ h3]
  obtain⟨r',G⟩:=r.modify (o':=.mp (mx (wR l m v))) jo rfl rfl h2 MZ (gm.wC w b (.map (es.modify j fun e=>{e with key:=.int .i64 m,val:=a.eval z}) clock)) (by simp) (fun C hC G=>by
   rw[Gg wD Xg]
   refine⟨b,_,_,by rw[hC];exact h2,ni h3,⟨by have:=h4.1;simp [mx] at this ⊢;exact this,fun k e' p B4 M0=>?_⟩,⟨by simp [h5.1],fun k e' B4=>?_⟩,fun p hp=>?_⟩
   ·rw[cy] at B4
    simp only[mx,cz] at M0
    rw[bF] at M0
    by_cases NP:j=k
    ·subst NP
     rw[if_pos rfl,bc] at B4
     obtain⟨e0,B4,rfl⟩:=B4
     rw[if_pos rfl] at M0
     split at M0
     ·cases M0;exact⟨rfl,G.ra hzv⟩
     ·cases M0
    ·rw[if_neg NP] at B4 M0
     obtain⟨YF,h17⟩:=h4.2 k e' p B4 M0
     exact⟨YF,G.ra h17⟩
   ·rw[cy] at B4
    by_cases NP:j=k
    ·rw[if_pos NP,bc] at B4
     obtain⟨e0,B4,rfl⟩:=B4
     exact h5.2 k e0 B4
    ·rw[if_neg NP] at B4;exact h5.2 k e' B4
   ·simp only[mx,cz] at hp
    rcases cA hp with hp|rfl
    ·exact It p hp
    ·exact WX)
  exact .inl ⟨_,_,_,_,gQ,.inr ⟨rfl,rfl⟩,r'.eZ (fE hd) (.any _)⟩
theorem Rel.ito (r:Rel g δ κ a w) {u:Value} {i:Nat} {l:List (Value×PV)} {seen:List Nat} (h:RA (δ.cx g κ) w u (.ptr i 0)) (ho:δ.ob i=some (.it l seen)):
  ∃b,u=.pointer (some ⟨b,0,none⟩)∧κ i=some b∧J8 (δ.cx g κ).N w b l seen:=by
 cases h with
 | @ptr _ _ b hl hκ=>
  obtain⟨b',h1,h2⟩:=r.obj i _ ho
  have:b'=b:=Option.some.inj (h1.symm.trans hκ)
  subst this
  exact⟨b',rfl,h1,h2⟩
theorem Nx {C:Cx} {w:World} {u1 u2 u3:Value} {v1 v2 v3:AV} (h1:RA C w u1 v1) (h2:RA C w u2 v2) (h3:RA C w u3 v3):RA C w (.tuple #[u1,u2,u3]) (.iR [v1,v2,v3]):=Dq h1 h2 h3
theorem Bw {es:Array MapEntry} {clock:Nat} (h:rj es clock):(es.toList.map (·.born)).Nodup:=by
 have:es.toList.map (·.born)=List.range es.size:=by
  apply List.ext_getElem?
  intro j
  rw[aY,bA]
  by_cases hj:j<es.size
  ·rw[aK hj,bm,h.2 j _ (aK hj),List.getElem?_range hj]
  ·rw[cm aG,cB (by simpa using hj)];rfl
 rw[this];exact List.nodup_range
theorem a_.next {x:Operand} {i:Nat} {l:List (Value×PV)} {seen:List Nat} (hx:δ.ev x=.ptr i 0) (jo:δ.ob i=some (.it l seen)) (ho:fk x=true) (hd:gb δ.n dst=true) (jz:g.wt=none)
  (hK0:(∀j,j<l.length→j∈seen)→a_ .plain P g ops rest Q (δ.eZ dst (.iR [fe false])))
  (zI:∀j (hj:j<l.length),j∉seen→a_ .plain P g ops rest Q ((δ.gl i (some (.it l (seen++ [j])))).eZ dst (.iR [fe true,.pv (.lit l[j].1),.pv l[j].2]))):
  a_ .plain P g ops (⟨dst,.next x false,ty,pos,af,none⟩::rest) Q δ:=by
 intro κ a w r
 obtain⟨b,hv,h2,h3⟩:=r.ito (r.ra hx ho) jo
 show wpListIn _ _ P ops _ (_::rest) a w
 refine iu rfl rfl fun K rf=>?_
 unfold Oper.AL
 rcases h3 with ⟨rfl,h3⟩|⟨m,es,clock,hN,hm,hh,hs,ij,VE,Tr,Fq⟩
 ·have gQ:(execOp a.eval ⟨dst,.next x false,ty,pos,af,none⟩).run P w=.ok (.value (.tuple #[.bool false])) w:=by
   have:(Instr.next (.pointer (some ⟨b,0,none⟩)) false ty).run P w=.ok (.tuple #[.bool false]) w:=by
    simp only[Instr.next,getObj,Sem.run_bind,Sem.run,h3,Result.andThen]
    rfl
   simp [execOp,hv,this]
  rw[gQ,Oper.uponIn_value]
  exact rf _ _ (hK0 (by simp) κ _ _ (r.eZ (fE hd) (.iR rfl fun j u c h4 h5=>by
   cases j with
   |zero=>simp at h4 h5;subst h4;subst h5;exact .pv (.lit _)
   |succ j=>simp at h5)))
 ·have hold:∀e∈es.toList,e.born<clock:=by
   intro e he
   obtain⟨j,hj⟩:=bx he
   have ql:es[j]? =some e:=by simpa using hj
   rw[ij.2 j e ql,ij.1]
   exact(aL.1 ql).1
  rcases run_next_at (P:=P) w ty b m clock clock seen.toArray es clock Tr hh hold (aM _) with ⟨h4,h5⟩|⟨e,he,w1,Kq,h5⟩
  ·have gQ:(execOp a.eval ⟨dst,.next x false,ty,pos,af,none⟩).run P w=.ok (.value (.tuple #[.bool false])) w:=by simp [execOp,hv,h5]
   rw[gQ,Oper.uponIn_value]
   have oZ:=all_seen es seen.toArray h4
   exact rf _ _ (hK0 (fun j hj=>by
    have Ed:j<es.size:=by omega
    have:=oZ es[j] (by simp)
    rw[ij.2 j _ (aK Ed)] at this
    simpa using this) κ _ _ (r.eZ (fE hd) (.iR rfl fun j u c h4 h5=>by
    cases j with
    |zero=>simp at h4 h5;subst h4;subst h5;exact .pv (.lit _)
    |succ j=>simp at h5)))
  ·obtain⟨he1,vZ⟩:=mem_left he
   obtain⟨j,hj⟩:=bx he1
   have ql:es[j]? =some e:=by simpa using hj
   have hb:=ij.2 j e ql
   have SS:j<l.length:=by rw[← hs];exact(aL.1 ql).1
   have Xc:j∉seen:=by rw[hb] at vZ;simpa using vZ
   obtain⟨hke,hre⟩:=VE j e _ ql (aZ SS)
   have gQ:(execOp a.eval ⟨dst,.next x false,ty,pos,af,none⟩).run P w=.ok (.value (.tuple #[.bool true,e.key,e.val])) (ChangeMaps.setBlock w1 b (.mapIter (some m) clock (seen.toArray.push e.born) clock)):=by simp [execOp,hv,h5]
   rw[gQ,Oper.uponIn_value]
   have LQ:Below w.heap.size w w1:=by
    rcases Kq with rfl|rfl
    ·exact Below.refl _ _
    ·exact Below.drew (Below.refl _ _)
   have r1:=r.ext LQ
   have Mc:w1.heap=w.heap:=by rcases Kq with rfl|rfl<;>rfl
   have ft:b<w1.heap.size:=by rw[Mc];exact iM Tr
   obtain⟨r2,G⟩:=r1.modify (o':=.it l (seen++ [j])) jo rfl rfl h2 (lZ jz i) (gm.wC w1 b (.mapIter (some m) clock (seen.toArray.push e.born) clock)) (by simp) (fun C hC G=>by
    have WE:=G.N m (by rw[Mc];exact hm) hN
    refine⟨b,by rw[hC];exact h2,.inr ⟨m,es,clock,WE.1,by simp [Mc];exact hm,by rw[WE.2,Mc];exact hh,hs,ij,fun j e p h6 h7=>⟨(VE j e p h6 h7).1,?_⟩,?_,fun k hk=>?_⟩⟩
    ·have h8:=(VE j e p h6 h7).2
     refine h8.mono (by simp [Mc]) fun b' js JE=>?_
     have:=G.N b' (by rw[Mc];exact js) JE
     exact⟨this.1,by rw[this.2,Mc]⟩
    ·rw[ni (o:=.mapIter (some m) clock seen.toArray clock) (by rw[Mc];exact Tr)]
     rw[hb];simp
    ·rcases bW.1 hk with hk|hk
     ·exact Fq k hk
     ·simp at hk;subst hk;exact SS)
   refine rf _ _ (zI j SS Xc κ _ _ (r2.eZ (fE hd) (Nx (.pv (.lit _)) ?_ ?_)))
   ·rw[hke];exact .pv (.lit _)
   ·refine .pv (hre.mono (by simp [Mc]) fun b' js JE=>?_)
    have:=G.N b' (by rw[Mc];exact js) JE
    exact⟨this.1,by rw[this.2,Mc]⟩
theorem a_.entry {x:Operand} {i j:Nat} {l:List (Value×PV)} {seen:List Nat} (hx:δ.ev x=.ptr i 0) (jo:δ.ob i=some (.it l (seen++ [j]))) (ho:fk x=true) (hd:gb δ.n dst=true) (hq:q≠ .held) (hj:j<l.length)
  (hK:a_ q P g ops rest Q (δ.eZ dst (.iR [.pv (.lit l[j].1),.pv l[j].2]))):
  a_ q P g ops (⟨dst,.entry x,ty,pos,af,none⟩::rest) Q δ:=
 a_.RU _ hq rfl rfl hd (fun κ a w r=>by
  obtain⟨b,hv,h2,h3⟩:=r.ito (r.ra hx ho) jo
  rcases h3 with ⟨rfl,h3⟩|⟨m,es,clock,hN,hm,hh,hs,ij,VE,Tr,Fq⟩
  ·simp at hj
  ·have hje:j<es.size:=by omega
   have WU:=aK hje
   obtain⟨h4,h5⟩:=VE j _ _ WU (aZ hj)
   have hb:=ij.2 j _ WU
   refine⟨.tuple #[es[j].key,es[j].val],fun w' ly=>?_,K1 (by rw[h4];exact .pv (.lit _)) (.pv h5)⟩
   have h6:w'.heap[b]? =some (.mapIter (some m) clock (seen.toArray.push es[j].born) clock):=by
    rw[ly.block b (iM Tr),Tr,hb];simp
   have h7:w'.heap[m]? =some (.map es clock):=(ly.block m hm).trans hh
   have:=run_entry_at (P:=P) w' b m clock seen.toArray es clock es[j] h6 h7 (by simp) (Bw ij)
   simp [execOp,hv,this]) hK
theorem Nf.mOi (f:AV→AV) (i:Nat) (l:List (Value×PV)) (seen:List Nat) (r:List (Nat×Option Ob)):Nf.mY f ((i,some (.it l seen))::r)=(i,some (.it l seen))::Nf.mY f r:=rfl
theorem WV.nc {δ δ':DS} {i e k} {e7:List (List PV)} (he:e7=[]) (h:δ'.qR i=true) (hn:δ.ob i=none):WV δ δ' (.pv (.lit (.slice none 0 0))) (.own i e k e7):=by rw[he];exact .lU i e k h hn
end Go.Ab
/- Rows given up in the middle of a walk. -/
namespace Go.Ab
open Go Go.RowKit
variable {q:Md} {P:Program} {g:eY} {δ:DS} {κ:Kp} {a:Act} {w:World}
variable {ops:Array Oper} {rest:List Oper} {Q:Exit→DS→Prop} {dst:Option Nat} {ty:TypeId} {pos:String} {af:Array Edge}
def Kx (i:Nat):AV→AV
 |.own j e k e7=>bif aI i j then .pv (.slice k e7) else .own j e k e7
 |.gY j e k e7 n=>bif aI i j then .any else .gY j e k e7 n
 |v=>v
def AV.ui (i:Nat):AV→AV:=AV.mp (Kx i)
def qk (δ:DS) (i:Nat):DS:=(δ.ib (AV.ui i)).gl i none
theorem xB (δ:DS) (i j:Nat):(qk δ i).ob j=if i=j then none else (δ.ob j).map (Ob.xq (AV.ui i)):=by
 unfold qk
 rw[iG,kj]
theorem Pw (δ:DS) (i j:Nat):(qk δ i).get j=AV.ui i (δ.get j):=qT (AV.ui i) rfl δ j
theorem Rel.freeze (r:Rel g δ κ a w) {i:Nat} (hi:δ.ob i=some .row):∃κ',Rel g (qk δ i) κ' a w:=by
 have fH:∀j,(qk δ i).live j→j≠i∧δ.live j:=by
  rintro j ⟨o,h⟩
  rw[xB] at h
  by_cases e:i=j
  ·rw[if_pos e] at h;cases h
  ·rw[if_neg e] at h
   cases ho:δ.ob j with
   |none=>rw[ho] at h;simp at h
   |some o'=>exact⟨fun e'=>e e'.symm,o',ho⟩
 have oy:∀j,(qk δ i).lr j↔j≠i∧δ.lr j:=by
  intro j
  unfold DS.lr
  rw[xB]
  by_cases e:i=j
  ·rw[if_pos e];simp [e]
  ·rw[if_neg e]
   have e':j≠i:=fun h=>e h.symm
   cases δ.ob j with
   |none=>simp
   |some o=>cases o<;>simp [Ob.xq,e']
 have uu:∀j,δ.lb j→(qk δ i).lb j:=by
  rintro j ⟨o,h1,h2⟩
  have e:i≠j:=by rintro rfl;rw[hi] at h1;cases h1;simp [Ob.ld] at h2
  refine⟨Ob.xq (AV.ui i) o,?_,?_⟩
  ·rw[xB,if_neg e,h1];rfl
  ·cases o<;>first|rfl|(simp [Ob.ld] at h2)
 have mF:∀j b,δ.live j→(qk δ i).ob j=none→κ j=some b→((qk δ i).cx g (vN δ κ)).N b:=by
  intro j b hl lz hκ
  refine⟨r.F5 hl hκ,fun m hm e=>?_⟩
  obtain⟨h1,h2⟩:=gG e
  have:=r.inj j m b hl h1 hκ h2
  subst this
  obtain⟨o,hm⟩:=hm
  rw[lz] at hm;cases hm
 have G:j6 ((δ.cx g κ).less i) w ((qk δ i).cx g (vN δ κ)) w:=
  {B:=rfl,size:=aM _
   N:=fun b _ hN=>⟨⟨hN.1,fun j hj e=>by
    obtain⟨h1,h2⟩:=gG e
    exact hN.2 j h1 h2⟩,rfl⟩
   Lr:=fun j hj=>⟨(oy j).2 ⟨hj.2,hj.1⟩,iY (DS.iw hj.1),fun _ _=>rfl⟩
   Lb:=fun j hj=>⟨uu j hj,iY (DS.mm hj)⟩}
 have F:∀{v:Value} {av:AV},RA (δ.cx g κ) w v av→RA ((qk δ i).cx g (vN δ κ)) w v (AV.ui i av):=by
  intro v av h
  refine RA.mp G rfl (fun j e k e7 hj=>?_) (fun j e k e7 n hj=>?_) (fun v e k e7 ho=>?_) (fun b cap e k e7 n _ _=>?_) h
  ·simp only[Kx,mO (Ne.symm hj)];rfl
  ·simp only[Kx,mO (Ne.symm hj)];rfl
  ·simp only[Kx,mH]
   exact .pv ((RA.own ho).ui mF (by rw[xB,if_pos rfl]))
  ·simp only[Kx,mH];exact .any _
 refine⟨vN δ κ,?_⟩
 exact
  {n:=r.n
   dfr:=r.dfr
   env:=fun j=>by rw[Pw];exact F (r.env j)
   obj:=fun j o h=>by
    rw[xB] at h
    by_cases e:i=j
    ·rw[if_pos e] at h;cases h
    ·rw[if_neg e] at h
     cases ho:δ.ob j with
     |none=>rw[ho] at h;simp at h
     |some o'=>
      rw[ho] at h
      simp only[bm,Option.some.injEq] at h
      subst h
      have h0:=r.obj j o' ho
      have hκ:vN δ κ j=κ j:=iY ⟨_,ho⟩
      cases o' with
      |row=>intro b hb;exact h0 b (hκ.symm.trans hb)
      |box cs=>
       obtain⟨b,c,e',h1,h2,h3,h4⟩:=h0
       refine⟨b,c,e',hκ.trans h1,h2,by simpa using h3,fun k u av h5 h6=>?_⟩
       simp only[aY,bc] at h6
       obtain⟨av',h6,rfl⟩:=h6
       exact⟨F (h4 k u av' h5 h6).1,(h4 k u av' h5 h6).2⟩
      |mp l=>
       obtain⟨b,es,clock,h1,h2,h3,h4⟩:=h0
       exact⟨b,es,clock,hκ.trans h1,h2,⟨h3.1,fun k e' p h5 h6=>⟨(h3.2 k e' p h5 h6).1,G.ra ((h3.2 k e' p h5 h6).2.less (h4.2 p (aR h6)))⟩⟩,h4⟩
      |mpl l kk v=>
       obtain⟨b,es,clock,h1,h2,h3,h4⟩:=h0
       exact⟨b,es,clock,hκ.trans h1,h2,h3.last (fun u p hp h=>G.ra (h.less (h4.2 p hp))) (fun u h=>F h),h4⟩
      |it l seen=>
       obtain⟨b,h1,h2⟩:=h0
       exact⟨b,hκ.trans h1,h2.mono G.size G.N rfl⟩
      |lit T vals=>obtain⟨b,h1,h2⟩:=h0;exact⟨b,hκ.trans h1,h2⟩
      |fm e rows=>exact⟨hκ.trans h0.1,fun k=>(h0.2.1 k).kY rfl fun b _ h2 _=>⟨h2,rfl⟩,h0.2.2⟩
      |loop l tm ps iQ body st=>
       obtain⟨b,lr,h1,h2⟩:=h0
       exact⟨b,lr,hκ.trans h1,h2⟩
   inj:=fun j m b _ _ h3 h4=>r.inj j m b (gG h3).1 (gG h4).1 (gG h3).2 (gG h4).2
   lo:=fun j b _ h2=>r.lo j b (gG h2).1 (gG h2).2
   nx:=fun j h=>r.nx j (fH j h).2
   wt:=fun k hk=>⟨(r.wt k hk).1,fun j b _ hj hb=>by
    obtain⟨hl,hκ⟩:=gG hb
    exact(r.wt k hk).2 j b hl (hj.imp (fun h=>((oy j).1 h).2) id) hκ⟩
   below:=r.below
   hB:=r.hB
   N0:=r.N0
   kI:=r.kI
   fr:=r.fr.sub fun j b _ h2=>⟨j,(gG h2).1,(gG h2).2⟩}
mutual
def AV.fo:AV→Option Nat
 |.own i _ _ _=>some i
 |.agg cs=>AV.TA cs
 |.iR cs=>AV.TA cs
 |_=>none
def AV.TA:List AV→Option Nat
 |[]=>none
 |v::r=>match AV.fo v with|some i=>some i|none=>AV.TA r
end
theorem a_.freeze (i:Nat) {l:List Oper} (hi:δ.ob i=some .row) (hK:a_ .plain P g ops l Q (qk δ i)):a_ .plain P g ops l Q δ:=by
 intro κ a w r
 obtain⟨κ',r'⟩:=r.freeze hi
 exact hK κ' a w r'
theorem a_.H2 {t:TypeId} {n i:Nat} {parts:List (Nat×Operand)} (h:AV.TA (Nf.zS δ.env (parts.map (·.2)))=some i) (hi:δ.ob i=some .row) (hK:a_ .plain P g ops (⟨dst,.buildSlice t n parts.toArray,ty,pos,af,none⟩::rest) Q (qk δ i)):
  a_ .plain P g ops (⟨dst,.buildSlice t n parts.toArray,ty,pos,af,none⟩::rest) Q δ:=a_.freeze i hi hK
theorem a_.Y5 {x:Operand} {i:Nat} {xs:List Operand} {tys:Array TypeId} (h:AV.TA (Nf.zS δ.env xs)=some i) (hi:δ.ob i=some .row) (hK:a_ .plain P g ops (⟨dst,.call {callee:=.value x,args:=xs.toArray,argTypes:=tys},ty,pos,af,none⟩::rest) Q (qk δ i)):
  a_ .plain P g ops (⟨dst,.call {callee:=.value x,args:=xs.toArray,argTypes:=tys},ty,pos,af,none⟩::rest) Q δ:=a_.freeze i hi hK
namespace Nf
variable {n x:Nat} {e:List (Nat×AV)} {o:List (Nat×Option Ob)} (i j:Nat)
theorem fd:qk ⟨n,e,o,x⟩ i=⟨n,EI (AV.ui i) e,(i,none)::mY (AV.ui i) o,x⟩:=by
 unfold qk
 rw[mv];rfl
theorem Wx:AV.ui i .any=.any:=rfl
theorem ZF (p:PV):AV.ui i (.pv p)=.pv p:=rfl
theorem Ud (a b:Nat):AV.ui i (.ptr a b)=.ptr a b:=rfl
theorem QA (c:List PV):AV.ui i (.gy c)=.gy c:=rfl
theorem Ta (a:Nat):AV.ui i (.gH a)=.gH a:=rfl
theorem VL (a:Nat):AV.ui i (.kS a)=.kS a:=rfl
theorem Wj (e k e7):AV.ui i (.own j e k e7)=bif aI i j then .pv (.slice k e7) else .own j e k e7:=rfl
theorem SQ (e k e7 m):AV.ui i (.gY j e k e7 m)=bif aI i j then .any else .gY j e k e7 m:=rfl
theorem UJ (cs:List AV):AV.ui i (.agg cs)=.agg (tZ (AV.ui i) cs):=by
 show AV.mp _ _=_
 rw[AV.mp,AV.kW,ml];rfl
theorem U8 (cs:List AV):AV.ui i (.iR cs)=.iR (tZ (AV.ui i) cs):=by
 show AV.mp _ _=_
 rw[AV.mp,AV.kW,ml];rfl
theorem Vg (fn:Go.Fn) (cs ds:List AV):AV.ui i (.jd fn cs ds)=.jd fn (tZ (AV.ui i) cs) (tZ (AV.ui i) ds):=by
 show AV.mp _ _=_
 rw[AV.mp,AV.kW,AV.kW,ml,ml];rfl
end Nf
end Go.Ab
/- Arguments read as data,told as values. -/
namespace Go.Ab
open Go Go.RowKit
variable {P:Program}
def Reads (w:World) (cs:List Value) (ps:List PV):Prop:=cs.length=ps.length∧∀(j:Nat) (c:Value) (p:PV),cs[j]? =some c→ps[j]? =some p→RP (fun _=>True) w c p∧c.oneCell'=true
theorem Reads.one {w:World} {c:Value} {p:PV} (h:RP (fun _=>True) w c p) (h1:c.oneCell'=true):Reads w [c] [p]:=
 ⟨rfl,fun j c' p' h2 h3=>by
  cases j with
  |zero=>simp at h2 h3;subst h2;subst h3;exact⟨h,h1⟩
  |succ j=>simp at h2⟩
theorem Reads.nil {w:World}:Reads w [] []:=⟨rfl,fun j c p h=>by simp at h⟩
theorem Reads.append {w:World} {cs cs':List Value} {ps ps':List PV} (h:Reads w cs ps) (h':Reads w cs' ps'):Reads w (cs++cs') (ps++ps'):=by
 refine⟨by simp [h.1,h'.1],fun j c p h1 h2=>?_⟩
 by_cases hj:j<cs.length
 ·rw[aQ hj] at h1
  rw[aQ (by rw[← h.1];exact hj)] at h2
  exact h.2 j c p h1 h2
 ·rw[aS aG] at h1
  rw[aS (by rw[← h.1];omega),← h.1] at h2
  exact h'.2 _ c p h1 h2
def Rd (P:Program) (t:TypeId) {α:Type} (enc:α→List PV) (ok:α→Prop):Prop:=
 ∀{H:Type} (en:TypeId×Value→H) (w:World) (sp:Nat→Bool) (fuel:Nat) (cs:List Value) (x:DataW H×List MemPlace),DataW.trod en P w 0 sp true fuel t cs=some x→
  (∀n∈x.1.weights P t,n≤reachBytes)→∃a:α,Reads w cs (enc a)∧ok a
theorem Rd.int {t:TypeId} {k:IntKind} (ht:P.underlying t=some (.int k)):Rd P t (fun n:Int=>[.lit (.int k n)]) (fun n=>(Lit.int k n).wf=true):=by
 intro H en w sp fuel cs x h _
 obtain⟨n,rfl,_,hw⟩:=DataW.trod_int ht h
 exact⟨n,.one (.lit _) rfl,hw⟩
theorem Rd.bool {t:TypeId} (ht:P.underlying t=some .bool):Rd P t (fun b:Bool=>[.lit (.bool b)]) (fun _=>True):=by
 intro H en w sp fuel cs x h _
 obtain⟨b,rfl,_⟩:=DataW.trod_bool ht h
 exact⟨b,.one (.lit _) rfl,trivial⟩
theorem Rd.string {t:TypeId} (ht:P.underlying t=some .string):Rd P t (fun s:ByteArray=>[.lit (.string s)]) (fun s=>s.size≤reachBytes):=by
 intro H en w sp fuel cs x h hw
 obtain⟨s,rfl,rfl,hs⟩:=DataW.trod_string ht h
 exact⟨s,.one (.lit _) rfl,by have:=hw s.data.toList.length (by simp [DataW.weights]);simpa using this⟩
theorem qA {H:Type} {e:TypeId}:∀{ds:List (DataW H)} {d:DataW H},d∈ds→∀n∈d.weights P e,n∈DataW.weightsAll P e ds
 |d0::ds,d,h,n,hn=>by
  simp only[DataW.weightsAll,bW]
  rcases br.1 h with rfl|h
  ·exact .inl hn
  ·exact .inr (qA h n hn)
theorem OM {α β:Type} {f:α→Option β}:∀{l:List α} {r:List β},l.mapM f=some r→r.length=l.length∧∀(j:Nat) (x:α),l[j]? =some x→f x=r[j]?:=by
 intro l
 induction l with
 |nil=>intro r h;simp at h;subst h;simp
 |cons x l ih=>
  intro r h
  rw[List.mapM_cons] at h
  cases hx:f x with
  |none=>rw[hx] at h;simp at h
  |some y=>
   rw[hx] at h
   cases hl:l.mapM f with
   |none=>rw[hl] at h;simp at h
   |some r'=>
    rw[hl] at h
    simp at h
    subst h
    obtain⟨h1,h2⟩:=ih hl
    refine⟨by simp [h1],fun j z hz=>?_⟩
    cases j with
    |zero=>simp at hz;subst hz;simp [hx]
    |succ j=>simp at hz;simpa using h2 j z hz
theorem xT {w:World} {a:Addr} {n:Nat} {cs:List Value} (h:w.cells? 0 a n=some cs):cs.length=n∧∀j,j<n→w.cell? (a.add j)=cs[j]?:=by
 unfold World.cells? at h
 rw[if_pos (bg _)] at h
 obtain⟨h1,h2⟩:=OM h
 refine⟨by simpa using h1,fun j hj=>?_⟩
 exact h2 j j (by simp [hj])
theorem IQ {w:World} {ad:Addr} {v:Value} (h:w.cell? ad=some v):ad.spot=none:=World.cell?_spot h
theorem Rd.slice {α:Type} {t e:TypeId} {k by':Nat} {enc:α→List PV} {ok:α→Prop} (ht:P.underlying t=some (.slice e)) (hk:P.cellsOf e=k) (nh:0<k) (hb:P.bytesOf e=by') (GO:0<by') (Xb:∀a,(enc a).length=k) (h:Rd P e enc ok):
  Rd P t (fun l:List α=>[.slice k (l.map enc)]) (fun l=>l.length*by'≤reachBytes∧∀a∈l,ok a):=by
 intro H en w sp fuel cs x hx hw
 rcases DataW.trod_slice ht hx with ⟨rfl,rfl⟩|⟨a,len,cap,elems,rest,n,rfl,rfl,rfl,_,hlc,Lx,RW,BK,_,_⟩
 ·refine⟨[],.one (vd k) rfl,by simp,by simp⟩
 ·have hwl:(elems.length+rest.length)*by'≤reachBytes:=by
   have:=hw ((elems.length+rest.length)*by') (by simp [DataW.weights,ht,hb])
   exact this
  have Z3:elems.length*by'≤reachBytes:=Nat.le_trans (bR _ aG) hwl
  have hlen:elems.length≤140737488355328:=by
   have h1:elems.length*1≤elems.length*by':=Nat.mul_le_mul_left _ GO
   have h2:reachBytes≤140737488355328:=by decide
   omega
  -- the elements,one by one
  have key:∀i,i<len→∃c a',w.cells? 0 (a.add (i*k)) k=some c∧Reads w c (enc a')∧ok a':=by
   intro i hi
   have h1:=BK i hi
   rw[hk] at h1
   have D6:i<elems.length:=by omega
   rw[aZ D6] at h1
   cases hc:w.cells? 0 (a.add (i*k)) k with
   |none=>rw[hc] at h1;simp at h1
   |some c=>
    rw[hc,bG] at h1
    obtain⟨a',h2,h3⟩:=h en w sp n c elems[i] h1 (fun m hm=>hw m (by
     simp only[DataW.weights,ht,br,bW]
     exact .inr (.inl (qA (bt.2 ⟨elems[i],List.getElem_mem D6,rfl⟩) m hm))))
    exact⟨c,a',rfl,h2,h3⟩
  have hch:∃l:List α,l.length=len∧∀i (a':α),l[i]? =some a'→∃c,w.cells? 0 (a.add (i*k)) k=some c∧Reads w c (enc a')∧ok a':=by
   clear BK hx RW hw
   have:∀m,m≤len→∃l:List α,l.length=m∧∀i (a':α),l[i]? =some a'→∃c,w.cells? 0 (a.add (i*k)) k=some c∧Reads w c (enc a')∧ok a':=by
    intro m
    induction m with
    |zero=>intro _;exact⟨[],rfl,by simp⟩
    |succ m ih=>
     intro hm
     obtain⟨l,h1,h2⟩:=ih (by omega)
     obtain⟨c,a',h3,h4⟩:=key m (by omega)
     refine⟨l++ [a'],by simp [h1],fun i b hb=>?_⟩
     by_cases hi:i<l.length
     ·rw[aQ hi] at hb;exact h2 i b hb
     ·rw[aS aG] at hb
      have D6:i=m:=by have:=(aT.1 hb).1;simp at this;omega
      subst D6
      rw[h1] at hb
      simp at hb
      subst hb
      exact⟨c,h3,h4⟩
   exact this len (aM _)
  obtain⟨l,hl,pB⟩:=hch
  have hle:l.length=elems.length:=by omega
  refine⟨l,.one ?_ rfl,by rw[hle];exact Z3,fun b hb=>?_⟩
  ·have TH:l≠ []→a.spot=none:=by
    intro gz
    obtain⟨b,l',rfl⟩:=cC gz
    obtain⟨c,h1,h2,_⟩:=pB 0 b rfl
    obtain⟨h3,h4⟩:=xT h1
    have h5:=h4 0 nh
    rw[aZ aG] at h5
    have h6:=IQ h5
    simpa [Addr.add] using h6
   have yV:l≠ []→a.block<w.heap.size:=by
    intro gz
    obtain⟨b,l',rfl⟩:=cC gz
    obtain⟨c,h1,h2,_⟩:=pB 0 b rfl
    obtain⟨h3,h4⟩:=xT h1
    have h5:=h4 0 nh
    rw[aZ aG] at h5
    simp only[cD,Addr.add,if_true] at h5
    unfold World.cell? at h5
    rcases ck a.block w.heap.size with ft|WU
    ·exact ft
    ·rw[cm WU] at h5;simp at h5
   obtain⟨bl,off,spot⟩:=a
   have nt:∀(i j:Nat) (p:PV),cellAt (l.map enc) i j=some p→∃c:Value,w.cell? ⟨bl,off+i*k+j,none⟩=some c∧RP (fun _=>True) w c p∧c.oneCell'=true:=by
    intro i j p hp
    unfold cellAt at hp
    rw[aY] at hp
    cases B7:l[i]? with
    |none=>rw[B7] at hp;simp at hp
    |some b=>
     rw[B7] at hp
     simp at hp
     have gz:l≠ []:=by rintro rfl;simp at B7
     have qo:spot=none:=TH gz
     subst qo
     obtain⟨c,h1,h2,_⟩:=pB i b B7
     obtain⟨h3,h4⟩:=xT h1
     have hj:j<k:=by have:=(aT.1 hp).1;rw[Xb] at this;exact this
     have h5:=h4 j hj
     rw[aZ aG] at h5
     rw[iV,iV] at h5
     obtain⟨h6,h7⟩:=h2.2 j _ p (aZ aG) hp
     exact⟨_,h5,h6,h7⟩
   refine .slice bl off (fun i j=>(w.cell? ⟨bl,off+i*k+j,none⟩).getD undef) (by simp [hl]) aG aG (fun gz=>?_) (fun c hc=>?_) (fun i j p hp=>?_) (fun i j p hp=>?_)
   ·have NH:l≠ []:=by rintro rfl;simp at gz
    have qo:spot=none:=TH NH
    subst qo
    exact⟨rfl,trivial,yV NH⟩
   ·obtain⟨b,_,rfl⟩:=bt.1 hc;exact Xb b
   ·obtain⟨c,h1,h2,h3⟩:=nt i j p hp
    rw[h1];exact⟨rfl,h3⟩
   ·obtain⟨c,h1,h2,h3⟩:=nt i j p hp
    rw[h1];exact h2
  ·obtain⟨i,hi⟩:=bx hb
   obtain⟨c,_,_,h3⟩:=pB i b hi
   exact h3
def uU (P:Program) (off n:Nat) (fs:List Field) {α:Type} (enc:α→List PV) (ok:α→Prop):Prop:=
 ∀{H:Type} (en:TypeId×Value→H) (w:World) (sp:Nat→Bool) (fuel:Nat) (cs:List Value) (xs:List (DataW H×List MemPlace)),xs.length=fs.length→
  (∀(i:Nat) (f:Field),fs[i]? =some f→DataW.trod en P w 0 sp true fuel f.type ((cs.drop f.offset).take (P.cellsOf f.type))=xs[i]?)→
  (∀m∈DataW.weightsEach P (fs.map (·.type)) (xs.map (·.1)),m≤reachBytes)→∃a:α,Reads w ((cs.drop off).take n) (enc a)∧ok a
theorem uU.nil {off:Nat}:uU P off 0 [] (fun _:Unit=>[]) (fun _=>True):=fun _ _ _ _ _ _ _ _ _=>⟨(),by simp;exact Reads.nil,trivial⟩
theorem uU.cons {off k n:Nat} {f:Field} {fs:List Field} {α β:Type} {e1:α→List PV} {o1:α→Prop} {e2:β→List PV} {o2:β→Prop} (Sl:f.offset=off) (hk:P.cellsOf f.type=k) (h1:Rd P f.type e1 o1) (h2:uU P (off+k) n fs e2 o2):
  uU P off (k+n) (f::fs) (fun p:α×β=>e1 p.1++e2 p.2) (fun p=>o1 p.1∧o2 p.2):=by
 intro H en w sp fuel cs xs hl hx hw
 cases xs with
 |nil=>simp at hl
 |cons y ys=>
  have h3:=hx 0 f rfl
  obtain⟨a,ha,YZ⟩:=h1 en w sp fuel _ y h3 (fun m hm=>hw m (by simp [DataW.weightsEach,hm]))
  obtain⟨b,hb,Hl⟩:=h2 en w sp fuel cs ys (by simpa using hl) (fun i f' hf=>by simpa using hx (i+1) f' (by simpa using hf)) (fun m hm=>hw m (by simp only[bz,DataW.weightsEach,bW];exact .inr hm))
  refine⟨(a,b),?_,YZ,Hl⟩
  rw[Sl,hk] at ha
  have e:(cs.drop off).take (k+n)=(cs.drop off).take k++(cs.drop (off+k)).take n:=by
   rw[List.take_add,List.drop_drop]
  rw[e]
  exact ha.append hb
theorem Rd.struct {t:TypeId} {fs:Array Field} {n:Nat} {α:Type} {enc:α→List PV} {ok:α→Prop} (ht:P.underlying t=some (.struct fs)) (hn:P.cellsOf t=n) (h:uU P 0 n fs.toList enc ok):Rd P t enc ok:=by
 intro H en w sp fuel cs x hx hw
 obtain⟨xs,m,rfl,rfl,nt,hl,BK⟩:=DataW.trod_struct ht hx
 obtain⟨a,ha,YZ⟩:=h en w sp m cs xs (by simpa using hl) (fun i f hf=>BK i f (by simpa using hf)) (fun k hk=>hw k (by simpa [DataW.weights,ht] using hk))
 rw[cv,cE aG] at ha
 exact⟨a,ha,YZ⟩
theorem Rd.map {t:TypeId} {α β:Type} {e1:α→List PV} {o1:α→Prop} {e2:β→List PV} {o2:β→Prop} (h:Rd P t e1 o1) (f:α→β) (he:∀a,e1 a=e2 (f a)) (ho:∀a,o1 a→o2 (f a)):Rd P t e2 o2:=by
 intro H en w sp fuel cs x hx hw
 obtain⟨a,h1,h2⟩:=h en w sp fuel cs x hx hw
 exact⟨f a,he a▸h1,ho a h2⟩
section
variable {H:Type} {en:TypeId×Value→H} {w:World} {sp:Nat→Bool} {t:TypeId} {v:Value} {d:DataW H} {ps:List MemPlace} {α:Type} {enc:α→List PV} {ok:α→Prop}
theorem Oo {p:α→PV} (h:Rd P t (fun a=>[p a]) ok) (ht:DataW.Trod en P w 0 sp true t v d ps) (hw:∀n∈d.weights P t,n≤reachBytes) (hv:v.cells.toList=[v]):∃a:α,RA (yA fun _=>True) w v (.pv (p a))∧ok a:=by
 obtain⟨fuel,hf⟩:=ht
 obtain⟨a,h1,h2⟩:=h en w sp fuel _ _ hf hw
 rw[hv] at h1
 exact⟨a,.pv (h1.2 0 v (p a) rfl rfl).1,h2⟩
theorem O0 (h:Rd P t enc ok) (ht:DataW.Trod en P w 0 sp true t v d ps) (hw:∀n∈d.weights P t,n≤reachBytes) {cs:Array Value} (hv:v=.agg cs):∃a:α,RA (yA fun _=>True) w v (.agg ((enc a).map .pv))∧ok a:=by
 subst hv
 obtain⟨fuel,hf⟩:=ht
 obtain⟨a,h1,h2⟩:=h en w sp fuel _ _ hf hw
 refine⟨a,.agg (by rw[aX];exact h1.1) fun j u c h3 h4=>?_,h2⟩
 rw[aY,bc] at h4
 obtain⟨p,hp,rfl⟩:=h4
 exact .pv (h1.2 j u p (by simpa [Value.cells] using h3) hp).1
theorem okWide_struct {r:Reach} {b:Nat} {fs:Array Field} (ht:P.underlying t=some (.struct fs)) (h:Value.okWide P w r b t v):∃cs,v=.agg cs:=by
 unfold Value.okWide at h
 simp only[ht] at h
 obtain⟨cs,h,_⟩:=h
 exact⟨cs,h⟩
theorem Cl {a:Option Addr} {l c:Nat}:(Value.slice a l c).cells.toList=[.slice a l c]:=rfl
end
theorem DB {H:Type} {ts ts':List TypeId} {ds gs:List (DataW H)} (h:(DataW.weightsEach P (ts++ts') (ds++gs)).all (·≤reachBytes)=true) {j:Nat} {t:TypeId} {d:DataW H} (ht:(ts++ts')[j]? =some t) (hd:(ds++gs)[j]? =some d):∀n∈d.weights P t,n≤reachBytes:=by
 intro n hn
 have:=(bB.1 h) n (DataW.weights_mem_each ht hd n hn)
 simpa using this
end Go.Ab
/- Equality of pairs;bools compared. -/
namespace Go.Ab
open Go Go.RowKit
variable {q:Md} {P:Program} {g:eY} {δ:DS} {κ:Kp} {a:Act} {w:World}
variable {ops:Array Oper} {rest:List Oper} {Q:Exit→DS→Prop} {dst:Option Nat} {ty:TypeId} {pos:String} {af:Array Edge}
theorem kD {e:TypeId} {xs:Array Value} {j:Nat} {v:Value} (hs:iS P e=true) (h:xs[j]? =some v) (w:World):(part e xs j).run P w=.ok v w:=by
 have:=kC hs w
 simp [part,this,h]
theorem Ge (op:BinOp) (Ws:op=.eql∨op=.neq) (t:TypeId) (x y:Operand) (ht:P.underlying t=some .bool) (m n:Bool) (w:World):
  (do eqGuard op t x y (.bool m) (.bool n);Go.binOp op t (.bool m) (.bool n):Sem Value).run P w=.ok (.bool (if op=.eql then decide (m=n) else decide (¬m=n))) w:=by
 have h1:(eqGuard op t x y (.bool m) (.bool n)).run P w=.ok () w:=by
  unfold eqGuard
  cases op<;>simp [Sem.run,pure,Sem.bind,bind]
 rw[Sem.run_bind,h1,Result.andThen_ok]
 have h2:=run_equalIn_bool' (P:=P) w 9999 t m n ht
 rcases Ws with rfl|rfl
 ·simp [Go.binOp,Op.equal,Op.maxDepth,h2];cases m<;>cases n<;>rfl
 ·simp [Go.binOp,Op.equal,Op.maxDepth,h2];cases m<;>cases n<;>rfl
theorem a_.Zq {x y:Operand} {t t':TypeId} {m n:Bool} (hx:δ.ev x=fe m) (hy:δ.ev y=fe n) (ht:P.underlying t=some .bool) (ho:fk x=true) (gi:fk y=true) (hd:gb δ.n dst=true)
  (hK:a_ q P g ops rest Q (δ.eZ dst (fe (decide (m=n))))):a_ q P g ops (⟨dst,.binOp .eql t x y t',ty,pos,af,none⟩::rest) Q δ:=
 a_.bin hx hy ho gi (fun w=>Ge _ (.inl rfl) t x y ht m n w) hd (by simpa using hK)
theorem a_.Va {x y:Operand} {t t':TypeId} {m n:Bool} (hx:δ.ev x=fe m) (hy:δ.ev y=fe n) (ht:P.underlying t=some .bool) (ho:fk x=true) (gi:fk y=true) (hd:gb δ.n dst=true)
  (hK:a_ q P g ops rest Q (δ.eZ dst (fe (decide (¬m=n))))):a_ q P g ops (⟨dst,.binOp .neq t x y t',ty,pos,af,none⟩::rest) Q δ:=
 a_.bin hx hy ho gi (fun w=>Ge _ (.inr rfl) t x y ht m n w) hd (by simpa using hK)
def Tu:List PV→List AV
 |[]=>[]
 |p::r=> .pv p::Tu r
theorem Mo:∀l:List PV,l.map AV.pv=Tu l
 |[]=>rfl
 |p::r=>by rw[bz,Mo r];rfl
theorem Nf.pl0:Tu []=[]:=rfl
theorem Nf.pl1 (p:PV) (r:List PV):Tu (p::r)=.pv p::Tu r:=rfl
theorem Nf.pl:∀l:List PV,l.map AV.pv=Tu l:=Mo
section
variable {α:Type} {f:α→List PV} {l:List α} {x y z:Operand} {t e:TypeId} {k:Nat} {m n:Int}
theorem a_.Ic (hx:δ.ev x=.pv (.slice k (l.map f))) (hz:δ.ev z=eU m) (ht:P.underlying t=some (.slice e)) (hk:(P.info? e).map (·.size)=some k)
  (ho:fk x=true) (Sz:fk z=true) (hd:gb δ.n dst=true) (h0:0≤m) (hn:m≤l.length) (hK:a_ q P g ops rest Q (δ.eZ dst (.pv (.slice k ((l.drop m.toNat).map f))))):
  a_ q P g ops (⟨dst,.slice t x (some z) none none,ty,pos,af,none⟩::rest) Q δ:=
 a_.slice (l:=m.toNat) (h:=(l.map f).length) (hi:=none) (lo:=some z) hx ht hk ⟨Sz,by rw[hz,bZ h0]⟩ rfl (by simp;omega) (aM _) ho hd (by
  have:((l.map f).drop m.toNat).take ((l.map f).length - m.toNat)=(l.drop m.toNat).map f:=by
   rw[cE (by simp),List.map_drop]
  rw[this];exact hK)
end
end Go.Ab
/- Drawn regions:an operation under a guard that is known to hold,taken first. -/
namespace Go.Ab
open Go Go.RowKit
attribute [local irreducible] HS
variable {P:Program} {g:eY} {δ:DS} {l:List Oper} {late dn:List Nat} {k:Wt} {QD:Exit→DS→Prop}
end Go.Ab
/- The plain form's laws in one. -/
namespace Go.Ab
open Go Go.RowKit
set_option linter.defProp false in
def Nf.all:=And.intro @Nf.beq
 (And.intro @Nf.ble
 (And.intro @Nf.hs
 (And.intro @Nf.c_t
 (And.intro @Nf.c_f
 (And.intro @Nf.put
 (And.intro @Nf.Z2
 (And.intro @Nf.add
 (And.intro @Nf.set
 (And.intro @Nf.pn
 (And.intro @Nf.pe
 (And.intro @Nf.po
 (And.intro @Nf.px
 (And.intro @Nf.Zl
 (And.intro @Nf.ZN
 (And.intro @Nf.YR
 (And.intro @Nf.VC
 (And.intro @Nf.WC
 (And.intro @Nf.start
 (And.intro @Nf.Zu
 (And.intro @Nf.X3
 (And.intro @Nf.vf
 (And.intro @Nf.Nw
 (And.intro @Nf.Z1
 (And.intro @Nf.UU
 (And.intro @Nf.T8
 (And.intro @Nf.Wi
 (And.intro @Nf.PQ
 (And.intro @Nf.av0
 (And.intro @Nf.av1
 (And.intro @Nf.L_
 (And.intro @Nf.ae0
 (And.intro @Nf.ae1
 (And.intro @Nf.Ki
 (And.intro @Nf.sh0
 (And.intro @Nf.sh1
 (And.intro @Nf.un0
 (And.intro @Nf.un1
 (And.intro @Nf.ow0
 (And.intro @Nf.ow1
 (And.intro @Nf.pa
 (And.intro @Nf.pa0
 (And.intro @Nf.UE
 (And.intro @Nf.round
 (And.intro @Nf.mv
 (And.intro @Nf.mE0
 (And.intro @Nf.mE1
 (And.intro @Nf.mC0
 (And.intro @Nf.mC1
 (And.intro @Nf.mO0
 (And.intro @Nf.mOn
 (And.intro @Nf.mOr
 (And.intro @Nf.mOb
 (And.intro @Nf.mOP (And.intro @Nf.mOt
 (And.intro @Nf.mOm
 (And.intro @Nf.mOq
 (And.intro @Nf.mOl
 (And.intro @Nf.mOi
 (And.intro @Nf.Uv
 (And.intro @Nf.XG
 (And.intro @Nf.TZ
 (And.intro @Nf.Si
 (And.intro @Nf.S8
 (And.intro @Nf.Wk
 (And.intro @Nf.Uh
 (And.intro @Nf.QL
 (And.intro @Nf.V6
 (And.intro @Nf.T2
 (And.intro @Nf.V0
 (And.intro @Nf.RN
 (And.intro @Nf.V2
 (And.intro @Nf.QC
 (And.intro @Nf.SI
 (And.intro @Nf.RV
 (And.intro @Nf.Pv
 (And.intro @Nf.Th
 (And.intro @Nf.NB
 (And.intro @Nf.BG
 (And.intro @Nf.lo1
 (And.intro @Nf.sto
 (And.intro @Nf.bko
 (And.intro @Nf.sst
 (And.intro @Nf.ll0
 (And.intro @Nf.ll1
 (And.intro @Nf.la0
 (And.intro @Nf.la1
 (And.intro @Nf.sn0
 (And.intro @Nf.sn1
 (And.intro @Nf.Z6
 (And.intro @Nf.cs1
 (And.intro @Nf.YQ
 (And.intro @Nf.X4
 (And.intro @Nf.YP
 (And.intro @Nf.lp0
 (And.intro @Nf.sa0
 (And.intro @Nf.sa1
 (And.intro @Nf.sp0
 (And.intro @Nf.sp1
 (And.intro @Nf.fd
 (And.intro @Nf.Wx
 (And.intro @Nf.ZF
 (And.intro @Nf.Ud
 (And.intro @Nf.QA
 (And.intro @Nf.Ta
 (And.intro @Nf.VL
 (And.intro @Nf.Wj
 (And.intro @Nf.SQ
 (And.intro @Nf.UJ
 (And.intro @Nf.U8
 (And.intro @Nf.Vg
 (And.intro @Nf.pl
 (And.intro @Nf.pl0 ((@Nf.pl1))))))))))))))))))))))))))))))))))))))))))))))))))))))))))))))))))))))))))))))))))))))))))))))))))))))))))))))))))
end Go.Ab
/- A number turned into an int. -/
namespace Go.Ab
open Go Go.RowKit
variable {P:Program} {g:eY} {δ:DS} {q:Md}
variable {ops:Array Oper} {rest:List Oper} {Q:Exit→DS→Prop} {dst:Option Nat} {ty:TypeId} {pos:String} {af:Array Edge}
theorem a_.JK {x:Operand} {s t:TypeId} {ks:IntKind} {d:TypeDesc} {m:Int} (hx:δ.ev x=.pv (.lit (.int ks m))) (hs:P.underlying s=some d) (ht:P.underlying t=some (.int .i64)) (ho:fk x=true) (hd:gb δ.n dst=true)
  (hb: -9223372036854775808≤m∧m≤9223372036854775807) (hK:a_ q P g ops rest Q (δ.eZ dst (eU m))):a_ q P g ops (⟨dst,.convert s t x,ty,pos,af,none⟩::rest) Q δ:=
 a_.conv hx hs ht ho hd (by rw[IntWalk.i64_in _ hb];exact hK)
end Go.Ab
/- One shifted left by a number;bool slices. -/
namespace Go.Ab
open Go Go.RowKit
variable {P:Program} {g:eY} {δ:DS} {q:Md}
variable {ops:Array Oper} {rest:List Oper} {Q:Exit→DS→Prop} {dst:Option Nat} {ty:TypeId} {pos:String} {af:Array Edge}
end Go.Ab
/- A slice made with make:a row of zeros. -/
namespace Go.Ab
open Go Go.RowKit
variable {P:Program} {g:eY} {δ:DS} {q:Md}
variable {ops:Array Oper} {rest:List Oper} {Q:Exit→DS→Prop} {dst:Option Nat} {ty:TypeId} {pos:String} {af:Array Edge}
theorem je.pX {gd:Option (Tmp×Bool)} {t e:TypeId} {x y:Operand} {m:Int} {z:Value} {by':Nat} (hx:δ.ev x=eU m) (hy:δ.ev y=eU m) (ht:P.underlying t=some (.slice e)) (hi:(P.info? e).map (fun i=>(i.size,i.zero,i.bytes))=some (1,some z,by')) (Zd:z.cells= #[z]) (h1:z.oneCell'=true) (hb:bu by' 64=true)
  (ho:fk x=true) (gi:fk y=true) (hd:gb δ.n dst=true) (hm:0≤m∧m≤100000):
  je P g ⟨dst,.makeSlice t x y,ty,pos,af,gd⟩ δ ((δ.fM .row).eZ dst (.own δ.nx e 1 (bX m.toNat [.lit z]))):=by
 intro κ a w r
 have js:by'≤64:=by simpa using hb
 obtain⟨i0,mB,qo,Aw,GO⟩:∃i0,P.info? e=some i0∧i0.size=1∧i0.zero=some z∧i0.bytes=by':=by
  cases h:P.info? e with
  |none=>rw[h] at hi;simp at hi
  |some i0=>rw[h] at hi;simp at hi;exact⟨i0,rfl,hi.1,hi.2.1,hi.2.2⟩
 have Na:=r.lit hx ho
 have Ym:=r.lit hy gi
 have Xt:IntKind.i64.wrap m=m:=IntWalk.i64_in _ (by omega)
 generalize AI:((bK m.toNat).map (fun _=>z))=c'
 have sE:c'.size=m.toNat:=by rw[← AI];simp
 have hmul:by'*m.toNat≤6400000:=by
  have h1:by'*m.toNat≤64*m.toNat:=bR _ js
  omega
 have VV:(by':Int)*m≤6400000:=by
  have:((by'*m.toNat:Nat):Int)≤6400000:=by omega
  rw[cF,bZ hm.1] at this
  exact this
 have gQ:(execOp a.eval ⟨dst,.makeSlice t x y,ty,pos,af,gd⟩).run P w=.ok (.value (.slice (some ⟨w.heap.size,0,none⟩) m.toNat m.toNat)) (w.alloc (.cells c' e)):=by
  have Y7:∀w,(typeInfo e).run P w=.ok i0 w:=fun w=>by simp [typeInfo,mB]
  have Er:∀w,(zeroValue e).run P w=.ok z w:=fun w=>by simp [zeroValue,typeInfo,mB,Aw]
  have P2:∀w,(sizeOf e).run P w=.ok 1 w:=fun w=>by simp [sizeOf,typeInfo,mB,qo]
  have has:∀w,(asInt (.int .i64 m)).run P w=.ok m w:=fun w=>by simp [asInt,asIntOf,Sem.run_bind,Sem.run_pure,Result.andThen_ok]
  have MI:¬(by':Int)*m>2 ^ 48:=by
   have:(2:Int) ^ 48=281474976710656:=by decide
   omega
  have Ox:¬m<0:=by omega
  have oL:¬m.toNat*by'>roomBytes:=by
   have:(6400000:Nat)≤roomBytes:=by decide
   have h2:m.toNat*by'=by'*m.toNat:=bQ _ _
   omega
  have sQ:(bK (m.toNat*1)).map (fun j=>(#[z]:Array Value)[j % (#[z]:Array Value).size]!)=c':=by
   rw[← AI,cG]
   apply Array.ext
   ·simp
   ·intro i h1 h2
    simp [Nat.mod_one]
  simp only[execOp,Instr.makeSlice,Sem.run_bind,Result.andThen_ok,run_underlying ht,Na,Ym,has,Y7,GO,Xt]
  simp only[decide_eq_false MI,decide_eq_false Ox,cH,cI,cJ,decide_false,gt_iff_lt,cj,if_false,askRoom,Sem.run_pure,Result.andThen_ok,Sem.run_bind]
  have EF:¬roomBytes<m.toNat*by':=oL
  simp only[if_neg EF,Sem.run_pure,Result.andThen_ok,P2]
  by_cases h0:m.toNat*1=0
  ·have Ru:(bK (m.toNat*1)).map (fun j=>(#[]:Array Value)[j % (#[]:Array Value).size]!)=c':=by
    rw[← AI,h0,show m.toNat=0 from by omega];simp [Array.range_zero']
   simp only[if_pos h0,Sem.run_bind,Sem.run_pure,Result.andThen_ok,newRow]
   simp only[pure_bind,Ru]
   rfl
  ·simp only[if_neg h0,Sem.run_bind,Sem.run_pure,Result.andThen_ok,Er,newRow,Zd,sQ]
   rfl
 have yS:m.toNat≤maxLen:=by simp only[maxLen];omega
 obtain⟨r',G⟩:=r.grow .row (.cells c' e) (fun C G hκ b hb=>by
  have:w.heap.size=b:=Option.some.inj (hκ.symm.trans hb)
  subst this
  exact⟨c',e,heap_alloc_new w _⟩)
 have jD:=World.ownsRow_lit (base:=g.B) (e:=e) (size:=1) w c' m.toNat r.hB yS (by rw[sE];omega)
 have BK:∀(j:Nat) (u:Value),c'.toList[j]? =some u→u=z:=by
  intro j u h
  rw[← AI] at h
  simp at h
  exact h.2.symm
 refine .inl ⟨_,_,_,_,gQ,.inl rfl,r'.eZ (fE hd) (.own ?_)⟩
 refine⟨by show(δ.fM .row).ob _=_;rw[gh,if_pos rfl],by rw[cK];omega,fun c hc=>by rw[List.eq_of_mem_replicate hc];rfl,fun b hb=>?_,c'.toList,by rw[cK];exact jD,fun u hu=>?_,fun i' j p n9=>?_⟩
 ·simp only[Value.ownBlock,Option.some.injEq] at hb
  subst hb
  show ix _ _ _ _=_
  simp [ix]
 ·obtain⟨j,hj⟩:=bx hu
  rw[BK j u hj];exact h1
 ·unfold cellAt at n9
  have hi:i'<m.toNat:=by
   rcases ck i' m.toNat with h|h
   ·exact h
   ·rw[cB (by simpa using h)] at n9;simp at n9
  rw[List.getElem?_replicate,if_pos hi] at n9
  have hj:j=0∧p=.lit z:=by
   cases j with
   |zero=>simp at n9;exact⟨rfl,n9.symm⟩
   |succ j=>simp at n9
  obtain⟨rfl,rfl⟩:=hj
  refine⟨z,?_,.lit _⟩
  rw[bA,← AI]
  simp [hi]
end Go.Ab
namespace Go.Ab
open Go Go.RowKit
variable {P:Program} {g:eY} {δ:DS} {q:Md}
variable {ops:Array Oper} {rest:List Oper} {Q:Exit→DS→Prop} {dst:Option Nat} {ty:TypeId} {pos:String} {af:Array Edge}
theorem a_.pX {t e:TypeId} {x y:Operand} {m:Int} {z:Value} {by':Nat} (hx:δ.ev x=eU m) (hy:δ.ev y=eU m) (ht:P.underlying t=some (.slice e)) (hi:(P.info? e).map (fun i=>(i.size,i.zero,i.bytes))=some (1,some z,by')) (Zd:z.cells= #[z]) (h1:z.oneCell'=true) (hb:bu by' 64=true)
  (ho:fk x=true) (gi:fk y=true) (hd:gb δ.n dst=true) (hm:0≤m∧m≤100000) (hK:a_ .plain P g ops rest Q ((δ.fM .row).eZ dst (.own δ.nx e 1 (bX m.toNat [.lit z])))):
  a_ .plain P g ops (⟨dst,.makeSlice t x y,ty,pos,af,none⟩::rest) Q δ:=a_.vA rfl rfl (je.pX hx hy ht hi Zd h1 hb ho gi hd hm) hK
end Go.Ab
/- A store into an element of a row of the walk's own (elements of one cell). -/
namespace Go.Ab
open Go Go.RowKit
variable {P:Program} {g:eY} {δ:DS} {q:Md}
variable {ops:Array Oper} {rest:List Oper} {Q:Exit→DS→Prop} {dst:Option Nat} {ty:TypeId} {pos:String} {af:Array Edge}
def wY (i n:Nat) (c:List PV):AV→AV
 |.own j e k e7=>bif aI i j then (bif aI k 1 then .own j e k (e7.set n c) else .any) else .own j e k e7
 |.gY j e k e7 m=>bif aI i j then .any else .gY j e k e7 m
 |v=>v
def AV.qg (i n:Nat) (c:List PV):AV→AV:=AV.mp (wY i n c)
theorem je.qE {gd:Option (Tmp×Bool)} {x y:Operand} {t e:TypeId} {i idx:Nat} {e7:List (List PV)} {p:PV} (hx:δ.ev x=.gY i e 1 e7 idx) (hy:δ.ev y=.pv p) (hr:δ.ob i=some .row) (ht:(P.info? t).map (·.size)=some 1) (h1:AV.one (.pv p)=true)
  (ho:fk x=true) (gi:fk y=true) (hd:gb δ.n dst=true):
  je P g ⟨dst,.store t x y,ty,pos,af,gd⟩ δ ((δ.ib (AV.qg i idx [p])).eZ dst .any):=by
 intro κ a w r
 have VD:=r.ra hx ho
 have FN:=r.ra hy gi
 have tk:=FN.one h1
 generalize Na:a.eval x=u at VD
 cases VD with
 | @gY _ _ _ _ _ b cap hi h=>
  have hκ:κ i=some b:=h.yD b rfl
  obtain⟨xs,⟨F9,hX⟩,hxo,QW⟩:=h.row
  rcases hX with ⟨hn,_⟩|⟨g0,cap0,cur,hv,hg,h3,hle,Lx,sE,yH⟩
  ·cases hn
  ·simp only[Value.slice.injEq,Option.some.injEq,Addr.mk.injEq] at hv
   obtain⟨⟨rfl,_⟩,_,rfl⟩:=hv
   have gQ:(execOp a.eval ⟨dst,.store t x y,ty,pos,af,gd⟩).run P w=.ok .skip (w.setCell ⟨b,idx*1,none⟩ (a.eval y)):=by
    obtain⟨i0,mB,qo⟩:∃i0,P.info? t=some i0∧i0.size=1:=by
     cases h:P.info? t with
     |none=>rw[h] at ht;simp at ht
     |some i0=>rw[h] at ht;exact⟨i0,rfl,by simpa using ht⟩
    have hc:w.cell? ⟨b,idx*1,none⟩=some (cur[idx*1]'(by omega)):=by rw[cell_of h3,aK aG]
    have ij:(store ⟨b,idx*1,none⟩ (a.eval y)).run P w=.ok () (w.setCell ⟨b,idx*1,none⟩ (a.eval y)):=by
     rw[run_store P w _ _ _ tk,hc];simp [lq h3]
    rw[cG] at ij ⊢
    rw[cG] at Na
    simp [execOp,Instr.storeAt,Instr.sureAddr,storeVar,Na,rn tk,sizeOf,typeInfo,mB,qo,storeCells,iV,ij]
   obtain⟨r',G⟩:=r.row hr (κ':=κ) (fun _ _=>rfl) (by rw[hκ];exact gm.setCell w ⟨b,idx*1,none⟩ (a.eval y)) (fun b' js=>by
     have e1:b=b':=Option.some.inj (hκ.symm.trans js)
     subst e1
     refine⟨.inl hκ,?_,_,_,ku h3 _⟩
     have:=(aL.1 (ku (off:=idx*1) h3 (a.eval y))).1
     exact this)
    (AV.qg i idx [p]) rfl (fun G v av ND=>by
     refine ND.mp G rfl (fun j e' k' els' hj=>?_) (fun j e' k' els' n hj=>?_) (fun v' e' k' els' yI=>?_) (fun b' cap' e' k' els' n _ _=>?_)
     ·simp only[wY,mO (Ne.symm hj)];rfl
     ·simp only[wY,mO (Ne.symm hj)];rfl
     ·simp only[wY,mH,cond_true]
      cases we:aI k' 1 with
      |false=>exact .any _
      |true=>
       obtain rfl:k'=1:=aJ we
       obtain⟨xs',⟨O5,sf⟩,Ky,RT⟩:=yI.row
       refine .own ⟨?_,by rw[cL];exact yI.lim,?_,yI.yD,xs'.set idx (a.eval y),?_,?_,?_⟩
       ·show(δ.ib _).ob i=_
        rw[kj,hr];rfl
       ·intro c hc
        rcases cA hc with hc|rfl
        ·exact yI.hk c hc
        ·rfl
       ·rw[cL]
        refine⟨by rw[cL];exact O5,?_⟩
        rcases sf with ⟨hn,h0⟩|⟨g1,cap1,cur1,Ut,X5,Rj,NA,QE,Re,Q_⟩
        ·exact .inl ⟨hn,h0⟩
        ·have MV:κ i=some g1:=yI.yD g1 (by rw[Ut];rfl)
         have e1:b=g1:=Option.some.inj (hκ.symm.trans MV)
         subst e1
         rw[h3] at Rj
         simp only[Option.some.injEq,Obj.cells.injEq] at Rj
         obtain⟨rfl,rfl,_⟩:=Rj
         refine .inr ⟨b,cap1,_,Ut,X5,ku h3 _,NA,QE,by simpa using Re,?_⟩
         rw[← Q_,Array.toList_setIfInBounds,cG,cG,cM]
       ·intro u hu
        rcases cA hu with hu|rfl
        ·exact Ky u hu
        ·exact tk
       ·intro i' j q hq
        unfold cellAt at hq
        rw[bF] at hq
        by_cases Kn:idx=i'
        ·subst Kn
         by_cases ft:idx<els'.length
         ·rw[if_pos rfl,if_pos ft] at hq
          have hjq:j=0∧q=p:=by
           cases j with
           |zero=>simp at hq;exact⟨rfl,hq.symm⟩
           |succ j=>simp at hq
          obtain⟨rfl,rfl⟩:=hjq
          refine⟨a.eval y,?_,G.rp (C:=(δ.cx g κ).less i) FN.kf⟩
          rw[bF,if_pos aG,if_pos aG]
         ·rw[if_pos rfl,if_neg ft] at hq;simp at hq
        ·rw[if_neg Kn] at hq
         obtain⟨u,hu,VF⟩:=RT i' j q (by unfold cellAt;exact hq)
         have hj:j=0:=by
          rw[cN] at hq
          obtain⟨c,P0,SD⟩:=hq
          have:=yI.hk c (aR P0)
          have:=(aT.1 SD).1
          omega
         subst hj
         exact⟨u,by rw[bF,if_neg aG];exact hu,G.rp (C:=(δ.cx g κ).less i) VF⟩
     ·simp only[wY,mH,cond_true];exact .any _)
   exact .inl ⟨_,_,_,_,gQ,.inr ⟨rfl,rfl⟩,r'.eZ (fE hd) (.any _)⟩
theorem a_.qE {x y:Operand} {t e:TypeId} {i idx:Nat} {e7:List (List PV)} {p:PV} (hx:δ.ev x=.gY i e 1 e7 idx) (hy:δ.ev y=.pv p) (hr:δ.ob i=some .row) (ht:(P.info? t).map (·.size)=some 1) (h1:AV.one (.pv p)=true)
  (ho:fk x=true) (gi:fk y=true) (hd:gb δ.n dst=true) (hK:a_ .plain P g ops rest Q ((δ.ib (AV.qg i idx [p])).eZ dst .any)):a_ .plain P g ops (⟨dst,.store t x y,ty,pos,af,none⟩::rest) Q δ:=
 a_.vA rfl rfl (je.qE hx hy hr ht h1 ho gi hd) hK
end Go.Ab
/- A field of an element of a row of the walk's own,read;a store of a whole element of several cells into such a row. -/
namespace Go.Ab
open Go Go.RowKit
variable {P:Program} {g:eY} {δ:DS} {q:Md}
variable {ops:Array Oper} {rest:List Oper} {Q:Exit→DS→Prop} {dst:Option Nat} {ty:TypeId} {pos:String} {af:Array Edge}
theorem Vq {α:Type} {f:α→List PV} {l:List α} {n:Nat} (h:n<l.length):(l.map f)[n]? =some (f l[n]):=by rw[aY,aZ h];rfl
theorem Sb {e7:List (List PV)} {k idx:Nat} {cs:List PV} (hk:∀c∈e7,c.length=k) (h:e7[idx]? =some cs):cs.length=k:=hk cs (aR h)
theorem CH {C:Cx} {w:World} {b cap i k idx off n:Nat} {e:TypeId} {e7:List (List PV)} {cs:List PV} (h:jB C w (.slice (some ⟨b,0,none⟩) e7.length cap) i e k e7) (RW:e7[idx]? =some cs) (hle:off+n≤cs.length):
  ∃f:Nat→Value,(∀j,j<n→w.cell? ⟨b,idx*k+off+j,none⟩=some (f j))∧∀j (p:PV),(rK cs off n)[j]? =some p→RP C.N w (f j) p:=by
 have ZK:=Sb h.hk RW
 obtain⟨_,_,_,_,xs,hX,_,Gy⟩:=h
 have hi:idx<e7.length:=(aT.1 RW).1
 have ot:∀m,m<k→∃u,xs[idx*k+m]? =some u∧∀p,cs[m]? =some p→RP C.N w u p:=by
  intro m hm
  obtain⟨u,h1,h2⟩:=Gy idx m (cs[m]'(by omega)) (by simp [cellAt,RW,aZ (show m<cs.length by omega)])
  exact⟨u,h1,fun p hp=>by rw[aZ aG] at hp;cases hp;exact h2⟩
 refine⟨fun j=>xs.getD (idx*k+off+j) undef,fun j hj=>?_,fun j p hp=>?_⟩
 ·obtain⟨u,h1,_⟩:=ot (off+j) (by omega)
  have e:idx*k+off+j=idx*k+(off+j):=by omega
  have ft:=(aT.1 h1).1
  have h3:=hX.cellAt (idx*k+(off+j)) (by
   have:(idx+1)*k≤e7.length*k:=bR k hi
   rw[bH] at this;omega)
  show _=some (xs.getD (idx*k+off+j) undef)
  rw[e,h3,cO,h1];rfl
 ·rw[← oa,bC] at hp
  split at hp
  ·rename_i hj
   rw[bD] at hp
   obtain⟨u,h1,h2⟩:=ot (off+j) (by omega)
   have e:idx*k+off+j=idx*k+(off+j):=by omega
   simp only[e,cO,h1,Option.getD_some]
   exact h2 p hp
  ·cases hp
theorem a_.N8 (s:TypeId) (f off n:Nat) {d1:Nat} {t e ty1:TypeId} {pos1:String} {af1:Array Edge} {x:Operand} {i k idx:Nat} {e7:List (List PV)} {cs:List PV} {vs:List AV}
  (hx:δ.ev x=.gY i e k e7 idx) (RW:e7[idx]? =some cs) (hB:Gd P s f off n=true) (hz:aV 0 n=true) (ht:yT P t n=true) (hle:bu (off+n) cs.length=true) (zN:(rK cs off n).map AV.pv=vs) (ho:fk x=true) (TC:gb δ.n (some d1)=true) (U0:fk (.tmp d1)=true) (hd:gb δ.n dst=true)
  (hK:a_ .plain P g ops rest Q ((δ.eZ (some d1) .any).eZ dst (.agg vs))):
  a_ .plain P g ops (⟨some d1,.fieldAddr s x f,ty1,pos1,af1,none⟩::⟨dst,.load t (.tmp d1),ty,pos,af,none⟩::rest) Q δ:=by
 intro κ a w r
 subst zN
 have hle:off+n≤cs.length:=by simpa using hle
 unfold Gd at hB
 split at hB
 ·rename_i fs hs
  split at hB
  ·rename_i pD hf
   simp only[aW,beq_iff_eq] at hB
   have Sl:=aJ hB.1
   have h1:=r.ra hx ho
   generalize hv:a.eval x=v at h1
   cases h1 with
   | @gY _ _ _ _ _ b cap hi h=>
    obtain⟨fv,h2,h3⟩:=CH h RW hle
    show wpListIn _ _ P ops _ (_::_::rest) a w
    refine iu rfl rfl fun K rf=>?_
    unfold Oper.AL
    rw[kK hs hf hB.2.1 hv w,Oper.uponIn_value,Sl]
    refine rf _ _ ?_
    have rl:Rel g (δ.eZ (some d1) (.pv (.lit (.pointer (some ⟨b,idx*k+off,none⟩))))) κ (a.put (some d1) (.pointer (some ⟨b,idx*k+off,none⟩))) w:=r.eZ (fE TC) (.pv (.lit _))
    have ra:Rel g (δ.put d1 .any) κ (a.put (some d1) (.pointer (some ⟨b,idx*k+off,none⟩))) w:=r.eZ (d:=some d1) (fE TC) (.any _)
    have Nc:(a.put (some d1) (.pointer (some ⟨b,idx*k+off,none⟩))).eval (.tmp d1)=.pointer (some ⟨b,idx*k+off,none⟩):=rl.lit (by show look ((d1,_)::δ.env) d1=_;rw[fC,if_pos rfl]) U0
    refine iu rfl rfl fun K2 hK2=>?_
    unfold Oper.AL
    rw[pS ht Nc (f:=fv) (fun j hj=>by rw[iV];exact h2 j hj),Oper.uponIn_value]
    refine hK2 _ _ (hK _ _ _ (ra.eZ (fE hd) ?_))
    refine .agg (by simp;rw[← oa,cP,cQ];omega) fun j u c hu hc=>?_
    rw[aY] at hc
    cases hp:(rK cs off n)[j]? with
    |none=>rw[hp] at hc;cases hc
    |some p=>
     rw[hp] at hc
     cases hc
     have M8:j<n:=by
      have:=(aT.1 hp).1
      rw[← oa,cP] at this;omega
     simp [M8] at hu
     subst hu
     exact .pv (h3 j p hp)
  ·cases hB
 ·cases hB
theorem EY {α:Type} {l cs:List α} {o m:Nat} (h:o+cs.length≤l.length):(l.take (o+0)++cs++l.drop (o+0+cs.length))[m]? =if m<o then l[m]? else if m<o+cs.length then cs[m - o]? else l[m]?:=by
 rw[a8]
 by_cases h1:m<o
 ·rw[if_pos h1,List.append_assoc,aQ (by rw[cP];omega),bC,if_pos h1]
 ·rw[if_neg h1]
  by_cases h2:m<o+cs.length
  ·rw[if_pos h2,aQ (by rw[bV,cP];omega),aS (by rw[cP];omega),cP,Nat.min_eq_left aG]
  ·rw[if_neg h2,aS (by rw[bV,cP];omega),bV,cP,bD]
   congr 1
   omega
theorem Eb {α:Type} {l cs:List α} {o:Nat} (h:o+cs.length≤l.length):(l.take (o+0)++cs++l.drop (o+0+cs.length)).length=l.length:=by
 simp only[bV,cP,cQ,a8];omega
def xI (i n k:Nat) (c:List PV):AV→AV
 |.own j e k' e7=>bif aI i j then (bif aI k' k then .own j e k' (e7.set n c) else .any) else .own j e k' e7
 |.gY j e k' e7 m=>bif aI i j then .any else .gY j e k' e7 m
 |v=>v
def AV.Gm (i n k:Nat) (c:List PV):AV→AV:=AV.mp (xI i n k c)
theorem je.wZ {gd:Option (Tmp×Bool)} {x y:Operand} {t e:TypeId} {i k idx:Nat} {e7:List (List PV)} {ps:List PV} (hx:δ.ev x=.gY i e k e7 idx) (hy:δ.ev y=.agg (ps.map .pv)) (hr:δ.ob i=some .row) (hk:ps.length=k) (nh:0<k) (ht:(P.info? t).map (·.size)=some k) (h1:AV.mE (ps.map .pv)=true)
  (ho:fk x=true) (gi:fk y=true) (hd:gb δ.n dst=true):
  je P g ⟨dst,.store t x y,ty,pos,af,gd⟩ δ ((δ.ib (AV.Gm i idx k ps)).eZ dst .any):=by
 intro κ a w r
 have VD:=r.ra hx ho
 obtain⟨mX,sE⟩:=(r.ra hy gi).cells h1
 simp only[AV.cellsOf,aX] at mX sE
 generalize Na:a.eval x=u at VD
 cases VD with
 | @gY _ _ _ _ _ b cap hi h=>
  have hκ:κ i=some b:=h.yD b rfl
  obtain⟨xs,⟨F9,hX⟩,hxo,QW⟩:=h.row
  rcases hX with ⟨hn,_⟩|⟨g0,cap0,cur,hv,hg,h3,hle,Lx,S7,yH⟩
  ·cases hn
  ·simp only[Value.slice.injEq,Option.some.injEq,Addr.mk.injEq] at hv
   obtain⟨⟨rfl,_⟩,_,rfl⟩:=hv
   have hlen:(a.eval y).cells.toList.length=k:=by rw[cR,mX,hk]
   have oZ:∀u∈(a.eval y).cells.toList,u.oneCell'=true:=by
    intro u hu
    obtain⟨j,hj⟩:=bx hu
    have ft:j<ps.length:=by have:=(aT.1 hj).1;omega
    exact(sE j u (.pv ps[j]) (by simpa using hj) (by rw[aY,aZ ft];rfl)).2
   have hmul:(idx+1)*k≤e7.length*k:=bR k hi
   have P1:e7.length*k≤cap*k:=bR k hle
   rw[bH,bI] at hmul
   have N3:idx*k+(a.eval y).cells.toList.length≤cur.toList.length:=by rw[hlen,cR,S7];omega
   have ij:=run_storeCells_at P b (idx*k) e (a.eval y).cells.toList 0 cur w h3 (by rw[a8];rw[cR] at N3;exact N3) oZ
   have gQ:(execOp a.eval ⟨dst,.store t x y,ty,pos,af,gd⟩).run P w=.ok .skip (w.setRow b (cur.toList.take (idx*k+0)++(a.eval y).cells.toList++cur.toList.drop (idx*k+0+(a.eval y).cells.toList.length)).toArray):=by
    obtain⟨i0,mB,qo⟩:∃i0,P.info? t=some i0∧i0.size=k:=by
     cases h:P.info? t with
     |none=>rw[h] at ht;simp at ht
     |some i0=>rw[h] at ht;exact⟨i0,rfl,by simpa using ht⟩
    have XH:(a.eval y).cells.size=k:=by rw[mX,hk]
    simp [execOp,Instr.storeAt,Instr.sureAddr,storeVar,Na,XH,sizeOf,typeInfo,mB,qo,ij]
   generalize nt:(a.eval y).cells.toList=cl at*
   obtain⟨r',G⟩:=r.row hr (κ':=κ) (fun _ _=>rfl) (by rw[hκ];exact gm.setRow w b (cur.toList.take (idx*k+0)++cl++cur.toList.drop (idx*k+0+cl.length)).toArray) (fun b' js=>by
     have e1:b=b':=Option.some.inj (hκ.symm.trans js)
     subst e1
     refine⟨.inl hκ,?_,_,_,setRow_heap w b cur _ e _ h3⟩
     have:=(aL.1 (setRow_heap w b cur (cur.toList.take (idx*k+0)++cl++cur.toList.drop (idx*k+0+cl.length)).toArray e _ h3)).1
     exact this)
    (AV.Gm i idx k ps) rfl (fun G v av ND=>by
     refine ND.mp G rfl (fun j e' k' els' hj=>?_) (fun j e' k' els' n hj=>?_) (fun v' e' k' els' yI=>?_) (fun b' cap' e' k' els' n _ _=>?_)
     ·simp only[xI,mO (Ne.symm hj)];rfl
     ·simp only[xI,mO (Ne.symm hj)];rfl
     ·simp only[xI,mH,cond_true]
      cases we:aI k' k with
      |false=>exact .any _
      |true=>
       obtain rfl:k'=k:=aJ we
       obtain⟨xs',⟨O5,sf⟩,Ky,RT⟩:=yI.row
       have oy:((δ.ib (AV.Gm i idx k' ps)).cx g κ).Lr i:=by
        show(δ.ib _).ob i=_
        rw[kj,hr];rfl
       have A7:∀c∈els'.set idx ps,c.length=k':=by
        intro c hc
        rcases cA hc with hc|rfl
        ·exact yI.hk c hc
        ·exact hk
       rcases sf with ⟨hn,h0⟩|⟨g1,cap1,cur1,Ut,X5,Rj,NA,QE,Re,Q_⟩
       ·have yW:els'=[]:=bf h0
        subst yW
        exact .own ⟨oy,by simp,A7,yI.yD,xs',⟨by simpa using O5,.inl ⟨hn,by simp⟩⟩,Ky,fun i' j q hq=>by simp [cellAt] at hq⟩
       ·have MV:κ i=some g1:=yI.yD g1 (by rw[Ut];rfl)
        have e1:b=g1:=Option.some.inj (hκ.symm.trans MV)
        subst e1
        rw[h3] at Rj
        simp only[Option.some.injEq,Obj.cells.injEq] at Rj
        obtain⟨rfl,rfl,_⟩:=Rj
        have G9:els'.length*k'≤cap1*k':=bR k' NA
        have Rk:∀m:Nat,(cur.toList.take (idx*k'+0)++cl++cur.toList.drop (idx*k'+0+cl.length))[m]? =if m<idx*k' then cur.toList[m]? else if m<idx*k'+cl.length then cl[m - idx*k']? else cur.toList[m]?:=fun m=>EY N3
        have Fq:=Eb (cs:=cl) N3
        generalize hN:(cur.toList.take (idx*k'+0)++cl++cur.toList.drop (idx*k'+0+cl.length))=NW at*
        have Qs:cur.toList.length=cap1*k':=by rw[cR];exact Re
        have Xd:∀m,m<els'.length*k'→cur.toList[m]? =xs'[m]?:=fun m hm=>by rw[← Q_,bC,if_pos hm]
        refine .own ⟨oy,by rw[cL];exact yI.lim,A7,yI.yD,NW.take (els'.length*k'),?_,?_,?_⟩
        ·rw[cL]
         refine⟨by rw[cP,Fq,Qs];omega,.inr ⟨b,cap1,_,Ut,X5,setRow_heap w b cur _ e _ h3,NA,QE,by rw[List.size_toArray,Fq,Qs],rfl⟩⟩
        ·intro u hu
         obtain⟨m,hm⟩:=bx hu
         rw[bC] at hm
         split at hm
         ·rename_i B3
          rw[Rk] at hm
          split at hm
          ·exact Ky u (aR ((Xd m B3).symm.trans hm))
          ·split at hm
           ·exact oZ u (aR hm)
           ·exact Ky u (aR ((Xd m B3).symm.trans hm))
         ·cases hm
        ·intro i' j q hq
         unfold cellAt at hq
         rw[bF] at hq
         have key:∀(i':Nat),i'<els'.length→∀j,j<k'→i'*k'+j<els'.length*k':=fun i' h1 j h2=>by
          have:(i'+1)*k'≤els'.length*k':=bR k' h1
          rw[bH] at this;omega
         by_cases Kn:idx=i'
         ·subst Kn
          by_cases ft:idx<els'.length
          ·rw[if_pos rfl,if_pos ft] at hq
           have hq:ps[j]? =some q:=hq
           have hj:=(aT.1 hq).1
           have hjc:j<cl.length:=by omega
           refine⟨cl[j],?_,G.rp (C:=(δ.cx g κ).less i) (sE j cl[j] (.pv q) (by rw[← bA,nt,aZ hjc]) (by rw[aY,hq];rfl)).1.kf⟩
           rw[bC,if_pos (key idx ft j aG),Rk,if_neg aG,if_pos aG,show idx*k'+j - idx*k'=j by omega,aZ hjc]
          ·rw[if_pos rfl,if_neg ft] at hq;simp at hq
         ·rw[if_neg Kn] at hq
          obtain⟨u,hu,VF⟩:=RT i' j q (by unfold cellAt;exact hq)
          have hj:j<k'∧i'<els'.length:=by
           rw[cN] at hq
           obtain⟨c,P0,SD⟩:=hq
           have:=yI.hk c (aR P0)
           have:=(aT.1 SD).1
           exact⟨by omega,(aT.1 P0).1⟩
          have B3:=key i' hj.2 j hj.1
          refine⟨u,?_,G.rp (C:=(δ.cx g κ).less i) VF⟩
          rw[bC,if_pos B3,Rk]
          rcases Nat.lt_or_gt_of_ne Kn with h5|h5
          ·have:(idx+1)*k'≤i'*k':=bR k' h5
           rw[bH] at this
           rw[if_neg aG,if_neg aG,Xd _ B3];exact hu
          ·have:(i'+1)*k'≤idx*k':=bR k' h5
           rw[bH] at this
           rw[if_pos aG,Xd _ B3];exact hu
     ·simp only[xI,mH,cond_true];exact .any _)
   exact .inl ⟨_,_,_,_,gQ,.inr ⟨rfl,rfl⟩,r'.eZ (fE hd) (.any _)⟩
inductive JG:List AV→List PV→Prop
 |nil:JG [] []
 |cons {p:PV} {vs:List AV} {ps:List PV} (h:JG vs ps):JG (.pv p::vs) (p::ps)
theorem JG.spec {vs:List AV} {ps:List PV} (h:JG vs ps):vs=ps.map .pv:=by
 induction h with
 |nil=>rfl
 |cons h ih=>rw[ih];rfl
theorem a_.wZ {x y:Operand} {t e:TypeId} {i k idx:Nat} {e7:List (List PV)} {ps:List PV} {vs:List AV} (hx:δ.ev x=.gY i e k e7 idx) (hy:δ.ev y=.agg vs) (zN:JG vs ps) (hr:δ.ob i=some .row) (hk:ps.length=k) (nh:aV 0 k=true) (ht:(P.info? t).map (·.size)=some k) (h1:AV.mE vs=true)
  (ho:fk x=true) (gi:fk y=true) (hd:gb δ.n dst=true) (hK:a_ .plain P g ops rest Q ((δ.ib (AV.Gm i idx k ps)).eZ dst .any)):a_ .plain P g ops (⟨dst,.store t x y,ty,pos,af,none⟩::rest) Q δ:=by
 obtain rfl:=zN.spec
 exact a_.vA rfl rfl (je.wZ hx hy hr hk (by simpa using nh) ht h1 ho gi hd) hK
inductive Jh (δ:DS) (k:Nat):Nat→List (Nat×Operand)→List (List PV)→Prop
 |nil {i:Nat}:Jh δ k i [] []
 |cons {i:Nat} {x:Operand} {vs:List AV} {ps:List PV} {r:List (Nat×Operand)} {pss:List (List PV)} (h:δ.ev x=.agg vs) (hp:JG vs ps) (hk:vs.length=k) (h1:AV.mE vs=true) (ho:fk x=true) (hr:Jh δ k (i+1) r pss):Jh δ k i ((i,x)::r) (ps::pss)
theorem DR:∀(vs cells:List AV) (off:Nat),off+vs.length≤cells.length→lk cells off vs=cells.take off++vs++cells.drop (off+vs.length)
 |[],cells,off,_=>by simp [lk]
 |v::vs,cells,off,h=>by
  have h':off+(vs.length+1)≤cells.length:=by simpa using h
  show lk (cells.set off v) (off+1) vs=_
  rw[DR vs (cells.set off v) (off+1) (by rw[cL];omega)]
  have e1:(cells.set off v).take (off+1)=cells.take off++ [v]:=by
   rw[List.take_succ_eq_append_getElem (by rw[cL];omega),List.getElem_set_self]
   congr 1
   rw[cM,List.set_eq_of_length_le (by rw[cP];omega)]
  have e2:(cells.set off v).drop (off+1+vs.length)=cells.drop (off+(v::vs).length):=by
   rw[List.drop_set_of_lt aG]
   congr 1
   simp;omega
  rw[e1,e2]
  simp
theorem Jh.fill {δ:DS} {k:Nat} {i:Nat} {parts:List (Nat×Operand)} {pss:List (List PV)} (h:Jh δ k i parts pss):∀cells:List AV,cells.length=(i+pss.length)*k→iN (fun i=>some (i*k,k)) cells (parts.map fun p=>(p.1,δ.ev p.2))=some (cells.take (i*k)++pss.flatten.map .pv):=by
 induction h with
 |nil=>
  intro cells hc
  simp [iN]
  rw[cE]
  simp at hc;omega
 | @cons i x vs ps r pss h hp hk h1 ho hr ih=>
  intro cells hc
  have hm:(i+(ps::pss).length)*k=i*k+k+pss.length*k:=by
   rw[cb,show i+(pss.length+1)=i+1+pss.length by omega,bH,bH,bI]
  have hle:i*k+vs.length≤cells.length:=by omega
  show(match some (i*k,k) with
   |none=>none
   |some (off,size)=>bif aI (δ.ev x).cellsOf.length size && bu (off+(δ.ev x).cellsOf.length) cells.length && AV.mE (δ.ev x).cellsOf then iN _ (lk cells off (δ.ev x).cellsOf) _ else none)=_
  rw[h]
  have MV:aI vs.length k=true:=by rw[hk];simp
  have Hl:bu (i*k+vs.length) cells.length=true:=by simpa using hle
  simp only[AV.cellsOf,MV,Hl,h1,Bool.and_self,cond_true]
  rw[DR vs cells (i*k) hle,ih _ (by
   simp only[bV,cP,cQ]
   rw[show(i+1+pss.length)*k=i*k+k+pss.length*k by rw[bH,bH,bI]]
   omega)]
  have e:((cells.take (i*k)++vs++cells.drop (i*k+vs.length)).take ((i+1)*k))=cells.take (i*k)++vs:=by
   rw[cS]
   rw[bV,cP,bH,bI]
   omega
  rw[e,hp.spec]
  simp
theorem Jh.lens {δ:DS} {k:Nat} {i:Nat} {parts:List (Nat×Operand)} {pss:List (List PV)} (h:Jh δ k i parts pss):parts.all (fun p=>fk p.2)=true∧∀c∈pss,c.length=k:=by
 induction h with
 |nil=>exact⟨rfl,fun c hc=>by simp at hc⟩
 |cons h hp hk h1 ho hr ih=>
  refine⟨by simp [ho,ih.1],fun c hc=>?_⟩
  rcases br.1 hc with rfl|hc
  ·rw[hp.spec] at hk;simpa using hk
  ·exact ih.2 c hc
theorem yf (k:Nat):∀(pss:List (List PV)),(∀c∈pss,c.length=k)→chunk k pss.length (pss.flatten.map .pv)=pss
 |[],_=>rfl
 |c::pss,h=>by
  have hc:=h c (by simp)
  show((((c::pss).flatten.map AV.pv).take k).map Wh)::chunk k pss.length (((c::pss).flatten.map AV.pv).drop k)=_
  have e:((c::pss).flatten.map AV.pv)=c.map AV.pv++pss.flatten.map AV.pv:=by simp
  rw[e,cS (by simpa using hc),List.drop_left' (by simpa using hc),yf k pss fun c hc=>h c (by simp [hc])]
  congr 1
  rw[ct]
  exact List.map_id'' (fun p=>rfl) c
theorem je.WM {gd:Option (Tmp×Bool)} {t e:TypeId} {len k:Nat} {parts:List (Nat×Operand)} {pss:List (List PV)} {z:Value} (ht:P.underlying t=some (.slice e)) (hi:(P.info? e).map (fun i=>(i.size,i.zero))=some (k,some z)) (mK:aI z.cells.size k=true) (hk:aV 0 k=true)
  (hlen:bu (len*k) 16777216=true) (h1:z.cells.toList.all (·.oneCell')=true) (hR:Jh δ k 0 parts pss) (hn:pss.length=len) (hd:gb δ.n dst=true):
  je P g ⟨dst,.buildSlice t len parts.toArray,ty,pos,af,gd⟩ δ ((δ.fM .row).eZ dst (.own δ.nx e k pss)):=by
 obtain⟨ho,hl⟩:=hR.lens
 have hf:=hR.fill (jb z (len*k)) (by simp [jb,hn])
 rw[cD,List.take_zero,List.nil_append] at hf
 have:=je.buildSlice (P:=P) (g:=g) (δ:=δ) (gd:=gd) (dst:=dst) (ty:=ty) (pos:=pos) (af:=af) ht hi mK hk hlen h1 ho hf (by simp [AV.xw]) hd
 rw[← hn,yf k pss hl] at this
 rw[← hn]
 exact this
theorem a_.WM {t e:TypeId} {len k:Nat} {parts:List (Nat×Operand)} {pss:List (List PV)} {z:Value} (ht:P.underlying t=some (.slice e)) (hi:(P.info? e).map (fun i=>(i.size,i.zero))=some (k,some z)) (mK:aI z.cells.size k=true) (hk:aV 0 k=true)
  (hlen:bu (len*k) 16777216=true) (h1:z.cells.toList.all (·.oneCell')=true) (hR:Jh δ k 0 parts pss) (hn:pss.length=len) (hd:gb δ.n dst=true) (hK:a_ .plain P g ops rest Q ((δ.fM .row).eZ dst (.own δ.nx e k pss))):
  a_ .plain P g ops (⟨dst,.buildSlice t len parts.toArray,ty,pos,af,none⟩::rest) Q δ:=a_.vA rfl rfl (je.WM ht hi mK hk hlen h1 hR hn hd) hK
inductive xn:Bool→List AV→List AV→Prop
 |nil:xn false [] []
 |here {b:Bool} {vs vs':List AV} (h:xn b vs vs'):xn true (.pv (.lit (.slice none 0 0))::vs) (.pv (.slice 1 [])::vs')
 |skip {b:Bool} {v:AV} {vs vs':List AV} (h:xn b vs vs'):xn b (v::vs) (v::vs')
theorem Sa {C:Cx} {w:World} {v:Value} (h:RA C w v (.pv (.lit (.slice none 0 0)))) (k:Nat):RA C w v (.pv (.slice k [])):=by
 have h1:=h.lit
 subst h1
 exact .pv (.slice 0 0 (fun _ _=>undef) rfl (by simp) (by simp) (fun h=>absurd rfl h) (fun c hc=>by simp at hc) (fun i j p hp=>by simp [cellAt] at hp) (fun i j p hp=>by simp [cellAt] at hp))
theorem xn.ra {C:Cx} {w:World} {b:Bool} {vs vs':List AV} (h:xn b vs vs'):vs.length=vs'.length∧∀(j:Nat) (u:Value) (c c':AV),vs[j]? =some c→vs'[j]? =some c'→RA C w u c→RA C w u c':=by
 induction h with
 |nil=>exact⟨rfl,fun j u c c' h=>by simp at h⟩
 |here h ih=>
  refine⟨by simp [ih.1],fun j u c c' h1 h2 h3=>?_⟩
  cases j with
  |zero=>simp at h1 h2;subst h1;subst h2;exact Sa h3 1
  |succ j=>exact ih.2 j u c c' (by simpa using h1) (by simpa using h2) h3
 |skip h ih=>
  refine⟨by simp [ih.1],fun j u c c' h1 h2 h3=>?_⟩
  cases j with
  |zero=>simp at h1 h2;subst h1;subst h2;exact h3
  |succ j=>exact ih.2 j u c c' (by simpa using h1) (by simpa using h2) h3
theorem Rel.Sn {κ:Kp} {a:Act} {w:World} (r:Rel g δ κ a w) {t:Nat} {v:AV} (h:RA (δ.cx g κ) w (g.val a t) v):Rel g (δ.put t v) κ a w where
 n:=r.n
 dfr:=r.dfr
 env:=fun j=>by
  show RA _ w _ (look ((t,v)::δ.env) j)
  rw[fC]
  by_cases e:t=j
  ·subst e;rw[if_pos rfl];exact h
  ·rw[if_neg e];exact r.env j
 obj:=r.obj
 inj:=r.inj
 lo:=r.lo
 nx:=r.nx
 wt:=r.wt
 below:=r.below
 hB:=r.hB
 N0:=r.N0
 fr:=r.fr
 kI:=r.kI
theorem a_.HK {l:List Oper} {j:Nat} {vs vs':List AV} (hj:δ.ev (.tmp j)=.agg vs) (h:xn true vs vs') (hK:a_ .plain P g ops l Q (δ.eZ (some j) (.agg vs'))):a_ .plain P g ops l Q δ:=by
 intro κ a w r
 refine hK κ a w (r.Sn ?_)
 have h1:=r.env j
 have hj:δ.get j=.agg vs:=hj
 rw[hj] at h1
 generalize g.val a j=u at h1
 cases h1 with
 | @agg us _ hs h2=>
  refine .agg (hs.trans (h.ra (C:=δ.cx g κ) (w:=w)).1) fun i u c' hu hc=>?_
  have ft:i<vs.length:=by rw[(h.ra (C:=δ.cx g κ) (w:=w)).1];exact(aT.1 hc).1
  exact h.ra.2 i u vs[i] c' (aZ ft) hc (h2 i u vs[i] hu (aZ ft))
def Lh:List AV→Bool
 |.pv (.lit (.slice none 0 0))::_=>true
 |_::r=>Lh r
 |[]=>false
def F0 (e:List (Nat×AV)):List (Nat×Operand)→Option Nat
 |[]=>none
 |(_,.tmp j)::r=>(match look e j with|.agg vs=>(bif Lh vs then some j else F0 e r)|_=>F0 e r)
 |_::r=>F0 e r
theorem a_.Xu {t:TypeId} {n j:Nat} {parts:List (Nat×Operand)} {vs vs':List AV} (_h:F0 δ.env parts=some j) (hj:δ.ev (.tmp j)=.agg vs) (h:xn true vs vs') (hK:a_ .plain P g ops (⟨dst,.buildSlice t n parts.toArray,ty,pos,af,none⟩::rest) Q (δ.eZ (some j) (.agg vs'))):
  a_ .plain P g ops (⟨dst,.buildSlice t n parts.toArray,ty,pos,af,none⟩::rest) Q δ:=a_.HK hj h hK
theorem a_.XL {x y:Operand} {t t':TypeId} {m n:Int} {k:IntKind} (hx:δ.ev x=.pv (.lit (.int k m))) (hy:δ.ev y=.pv (.lit (.int k n))) (ho:fk x=true) (gi:fk y=true) (hd:gb δ.n dst=true) (h0:0≤m∧0<n)
  (hK:a_ q P g ops rest Q (δ.eZ dst (.pv (.lit (.int k (m % n)))))):a_ q P g ops (⟨dst,.binOp .rem t x y t',ty,pos,af,none⟩::rest) Q δ:=
 a_.bin hx hy ho gi (ko _ _ _ _ _ _ _ _ (by simp) (by
  have hn:n≠0:=by omega
  rw[← Int.tmod_eq_emod_of_nonneg h0.1]
  simp [Op.intDiv,hn];rfl)) hd hK
theorem a_.K9 {x y:Operand} {t t':TypeId} {m n:Int} {k:IntKind} (hx:δ.ev x=.pv (.lit (.int k m))) (hy:δ.ev y=.pv (.lit (.int k n))) (ho:fk x=true) (gi:fk y=true) (hd:gb δ.n dst=true)
  (hK:a_ q P g ops rest Q (δ.eZ dst (fe (decide (n<m))))):a_ q P g ops (⟨dst,.binOp .gtr t x y t',ty,pos,af,none⟩::rest) Q δ:=
 a_.bin hx hy ho gi (ko _ _ _ _ _ _ _ _ (by simp) rfl) hd hK
theorem a_.P9 {x y:Operand} {t i j k idx:Nat} {e:TypeId} {e7:List (List PV)} (hx:δ.ev x=.gY j e k e7 idx) (h:AV.TA (Nf.zS δ.env [y])=some i) (gz:aI i j=false) (hi:δ.ob i=some .row) (hK:a_ .plain P g ops (⟨dst,.store t x y,ty,pos,af,none⟩::rest) Q (qk δ i)):
  a_ .plain P g ops (⟨dst,.store t x y,ty,pos,af,none⟩::rest) Q δ:=a_.freeze i hi hK
def mM (i:Nat):List Nat→Bool
 |[]=>false
 |j::r=>bif i==j then true else mM i r
def r_ (ks:List Nat):List (Nat×AV)→List (Nat×AV)
 |[]=>[]
 |(i,v)::r=>bif mM i ks then (i,v)::r_ ks r else r_ ks r
theorem U_ (ks:List Nat):r_ ks []=[]:=rfl
theorem Qj (ks:List Nat) (i:Nat) (v:AV) (r:List (Nat×AV)):r_ ks ((i,v)::r)=bif mM i ks then (i,v)::r_ ks r else r_ ks r:=rfl
theorem DX (i:Nat):mM i []=false:=rfl
theorem w7 (i j:Nat) (r:List Nat):mM i (j::r)=bif i==j then true else mM i r:=rfl
theorem zw (ks:List Nat):∀(e:List (Nat×AV)) (j:Nat),look (r_ ks e) j=if mM j ks=true then look e j else .any
 |[],j=>by simp [r_,look]
 |(i,v)::r,j=>by
  rw[Qj]
  have ih:=zw ks r j
  cases hm:mM i ks with
  |true=>
   rw[cond_true,fC,fC]
   by_cases e:i=j
   ·subst e;rw[if_pos rfl,if_pos rfl,if_pos hm]
   ·rw[if_neg e,if_neg e,ih]
  |false=>
   rw[cond_false,fC,ih]
   by_cases e:i=j
   ·subst e;rw[if_neg (by rw[hm];simp),if_neg (by rw[hm];simp)]
   ·rw[if_neg e]
theorem AW.TS (id m:Nat) (ks:List Nat) {b:Bool} {l:Array Oper} (_h:aV m δ.env.length=true) (hK:AW P g (.region id l b) Q {δ with env:=r_ ks δ.env}):AW P g (.region id l b) Q δ:=by
 intro κ a w r
 refine hK κ a w ?_
 exact
  {n:=r.n,dfr:=r.dfr
   env:=fun j=>by
    show RA _ w _ (look (r_ ks δ.env) j)
    rw[zw]
    split
    ·exact r.env j
    ·exact .any _
   obj:=r.obj,inj:=r.inj,lo:=r.lo,nx:=r.nx,wt:=r.wt,below:=r.below,hB:=r.hB,N0:=r.N0,fr:=r.fr,kI:=r.kI}
theorem jx.Ss {gd:Option (Tmp×Bool)} {t:TypeId} {parts:List (Nat×Operand)} {fs:Array Field} {z:Value} {cells:List AV} (hs:P.underlying t=some (.struct fs)) (hz:(P.info? t).bind (·.zero)=some z) (h1:z.cells.toList.all (·.oneCell')=true) (oZ:fs.toList.all (fun f=>(P.info? f.type).isSome)=true)
  (ho:parts.all (fun p=>fk p.2)=true) (hf:iN (placeOf P fs) (z.cells.toList.map fun v=> .pv (.lit v)) (parts.map fun p=>(p.1,δ.ev p.2))=some cells):
  jx P ⟨dst,.build t parts.toArray,ty,pos,af,gd⟩ δ (.agg cells):=by
 intro g κ a w r
 obtain⟨i0,mB,Aw⟩:∃i0,P.info? t=some i0∧i0.zero=some z:=by
  cases h:P.info? t with
  |none=>rw[h] at hz;simp at hz
  |some i0=>rw[h] at hz;exact⟨i0,rfl,by simpa using hz⟩
 have sB:=fun w1=>run_places (P:=P) fs.toList w1 #[] oZ
 obtain⟨c',h2,h3⟩:=nN (C:=δ.cx g κ) (w:=w) (place:=placeOf P fs) (place':=fun i=>((#[]:Array (Nat×Nat))++(fs.toList.map fun f=>(f.offset,((P.info? f.type).map (·.size)).getD 0)).toArray)[i]?)
  (fun i x h=>by
   unfold placeOf at h
   cases AO:fs[i]? with
   |none=>rw[AO] at h;simp at h
   |some f=>
    rw[AO] at h
    simp only[bG,bc] at h
    obtain⟨ii,h4,rfl⟩:=h
    simp [AO,h4])
  (parts.map fun p=>(p.1,a.eval p.2)) (parts.map fun p=>(p.1,δ.ev p.2)) z.cells _ cells (by simp) (fun j x y h4 h5=>by
   simp only[aY,bc] at h4 h5
   obtain⟨p,h6,rfl⟩:=h4
   obtain⟨p',h7,rfl⟩:=h5
   rw[h6] at h7;cases h7
   exact⟨rfl,r.C5 p.2 (iK (by simpa using (bB.1 ho) p (aR h6)))⟩)
  ⟨by simp,fun j u av h4 h5=>by
   simp only[aY,bc] at h5
   obtain⟨v,h5,rfl⟩:=h5
   have:v=u:=by have:=h4;rw[← bA,h5] at this;exact Option.some.inj this
   subst this
   exact⟨.pv (.lit _),by simpa using (bB.1 h1) _ (aR h5)⟩⟩ hf
 refine⟨.agg c',fun w1=>?_,.agg h3.1 fun j u c h4 h5=>(h3.2 j u c h4 h5).1⟩
 have RS:(fs.mapM fun(f:Field)=>(do pure (f.offset,← sizeOf f.type):Sem (Nat×Nat)))=fs.toList.foldlM (fun(acc:Array (Nat×Nat)) (f:Field)=>do let s ← sizeOf f.type;pure (acc.push (f.offset,s))) #[]:=by
  rw[Array.mapM_eq_foldlM,← Array.foldlM_toList]
  congr 1
  funext acc f
  simp
 have Er:∀w,(zeroValue t).run P w=.ok z w:=fun w=>by simp [zeroValue,typeInfo,mB,Aw]
 simp only[execOp,Instr.build,Sem.run_bind,Er,Result.andThen_ok,run_underlying hs,RS,sB,bj,h2,Sem.run_pure]
theorem jx.build (t:TypeId) (qD:List Nat) {gd:Option (Tmp×Bool)} {l:List Value} {parts:List (Nat×Operand)} {fs:Array Field} {z:Value} {cells:List AV} (hs:P.underlying t=some (.struct fs)) (hz:(P.info? t).bind (·.zero)=some z) (hl:z.cells=l.toArray) (h1:z.cells.toList.all (·.oneCell')=true) (oZ:fs.toList.all (fun f=>(P.info? f.type).isSome)=true)
  (ho:parts.all (fun p=>fk p.2)=true) (Tx:((parts.map fun p=>(p.1,δ.ev p.2)).map fun p=>(placeOf P fs p.1).map (·.1))=qD.map some) (hf:iN (placeOf P fs) (z.cells.toList.map fun v=> .pv (.lit v)) (parts.map fun p=>(p.1,δ.ev p.2))=some cells):
  jx P ⟨dst,.build t parts.toArray,ty,pos,af,gd⟩ δ (.agg (u6 (B9 l) (tO δ.env qD parts))):=by
 have h2:=jx.Ss (gd:=gd) (dst:=dst) (ty:=ty) (pos:=pos) (af:=af) hs hz h1 oZ ho hf
 have:=uo _ qD _ cells hf Tx
 rw[BR,hl,cw,wx] at this
 rw[← this]
 exact h2
end Go.Ab
/- The rest of a row of statements walked once,from a weaker state. -/
namespace Go.Ab
open Go Go.RowKit
variable {P:Program} {g:eY} {δ δc:DS} {Q:Exit→DS→Prop} {c rest:Code}
theorem AW.cut (h:AW P g c (ji fun δ'=>lD g δ' δc) δ) (hK:AW P g rest Q δc):AW P g (.seq c rest) Q δ:=by
 refine AW.seq (AW.mono h fun e δ' h1=>?_)
 cases e with
 |normal=>exact AW.e_ h1 hK
 |_=>exact h1.elim
end Go.Ab
namespace Go.Ab
open Go Go.RowKit
theorem AW.Wr {P:Program} {g:eY} {δ δc:DS} {Q Q':Exit→DS→Prop} {c rest:Code} (h:AW P g c (ji fun δ'=>lD g δ' δc) δ) (hK:AW P g rest Q' δc):AW P g c (fT (AW P g rest Q') Q) δ:=by
 refine AW.mono h fun e δ' h1=>?_
 cases e with
 |normal=>exact AW.e_ h1 hK
 |_=>exact h1.elim
end Go.Ab
/- The address of an array's element. -/
namespace Go.Ab
open Go Go.RowKit
variable {P:Program} {g:eY} {δ:DS} {q:Md}
variable {ops:Array Oper} {rest:List Oper} {Q:Exit→DS→Prop} {dst:Option Nat} {ty:TypeId} {pos:String} {af:Array Edge}
def LG (P:Program) (t:TypeId) (n k:Nat):Bool:=match P.underlying t with
 |some (.array len e)=>aV n len && ((P.info? e).map (·.size)==some k)
 |_=>false
theorem Hd {t:TypeId} {n k:Nat} (h:LG P t n k=true):∃len e,P.underlying t=some (.array len e)∧n<len∧(P.info? e).map (·.size)=some k:=by
 unfold LG at h
 split at h
 ·rename_i len e he
  simp only[aW,beq_iff_eq] at h
  exact⟨len,e,he,by simpa using h.1,h.2⟩
 ·cases h
theorem nZ {t:TypeId} {k n:Nat} (hB:LG P t n k=true) {x y:Operand} {ρ:Operand→Value} {b off:Nat} {ik:IntKind}
  (hx:ρ x=.pointer (some ⟨b,off,none⟩)) (hy:ρ y=.int ik (n:Int)) (w:World):
  (execOp ρ ⟨dst,.indexAddr t x y,ty,pos,af,none⟩).run P w=.ok (.value (.pointer (some ⟨b,off+n*k,none⟩))) w:=by
 obtain⟨len,e,ht,hn,hk⟩:=Hd hB
 obtain⟨i0,mB,nh⟩:∃i0,P.info? e=some i0∧i0.size=k:=by
  cases h:P.info? e with
  |none=>rw[h] at hk;simp at hk
  |some i0=>rw[h] at hk;exact⟨i0,rfl,by simpa using hk⟩
 have h1:(0:Int)≤n∧(n:Int)<len:=by omega
 have R0:(⟨b,off,none⟩:Addr).add (n*k)=⟨b,off+n*k,none⟩:=by unfold Addr.add;split<;>simp_all
 simp [execOp,Instr.indexAt,Instr.sureAddr,asIntOf,run_underlying ht,hx,hy,h1,sizeOf,typeInfo,mB,nh,R0]
 intro h;omega
theorem a_.DO (t n k m:Nat) {x y:Operand} {cs:List PV} {ik:IntKind} (hx:δ.ev x=.gy cs) (hy:δ.ev y=.pv (.lit (.int ik (n:Int)))) (hB:LG P t n k=true) (hm:aI (n*k) m=true) (ho:fk x=true) (gi:fk y=true) (hd:gb δ.n dst=true)
  (hK:a_ q P g ops rest Q (δ.eZ dst (.gy (rK cs m k)))):a_ q P g ops (⟨dst,.indexAddr t x y,ty,pos,af,none⟩::rest) Q δ:=
 a_.jK _ hd (fun κ a w r=>by
  obtain rfl:=aJ hm
  have h1:=r.ra hx ho
  generalize hu:a.eval x=u at h1
  cases h1 with
  |gy b off vs hN hb hc hr=>
   refine⟨_,fun w' _=>nZ hB hu (r.lit hy gi) w',.gy b (off+n*k) (fun j=>vs (n*k+j)) hN hb (fun j p h=>?_) (fun j p h=>?_)⟩
   ·rw[← oa,bC] at h
    split at h
    ·rw[bD] at h;rw[Nat.add_assoc];exact hc _ p h
    ·cases h
   ·rw[← oa,bC] at h
    split at h
    ·rw[bD] at h;exact hr _ p h
    ·cases h) hK
theorem a_.qB (t n k m:Nat) {x y:Operand} {i off:Nat} {ik:IntKind} (hx:δ.ev x=.ptr i off) (hy:δ.ev y=.pv (.lit (.int ik (n:Int)))) (hB:LG P t n k=true) (hm:aI (off+n*k) m=true) (ho:fk x=true) (gi:fk y=true) (hd:gb δ.n dst=true)
  (hK:a_ q P g ops rest Q (δ.eZ dst (.ptr i m))):a_ q P g ops (⟨dst,.indexAddr t x y,ty,pos,af,none⟩::rest) Q δ:=
 a_.jK _ hd (fun κ a w r=>by
  obtain rfl:=aJ hm
  have h1:=r.ra hx ho
  generalize hu:a.eval x=u at h1
  cases h1 with
  |ptr hl hκ=>exact⟨_,fun w' _=>nZ hB hu (r.lit hy gi) w',.ptr hl hκ⟩) hK
theorem a_.yb {α:Type} {x y:Operand} {t e e':TypeId} {i k n:Nat} {f:α→List PV} {l:List α} (hx:δ.ev x=.own i e' k (l.map f)) (hy:δ.ev y=eU (n:Nat))
  (ht:P.underlying t=some (.slice e)) (hk:(P.info? e).map (·.size)=some k) (ho:fk x=true) (gi:fk y=true) (hd:gb δ.n dst=true) (hn:n<l.length)
  (hK:a_ q P g ops rest Q (δ.eZ dst (.gY i e' k (l.map f) n))):a_ q P g ops (⟨dst,.indexAddr t x y,ty,pos,af,none⟩::rest) Q δ:=
 a_.uP (n:=n) hx hy (by simp;omega) ht hk ho gi hd hK
end Go.Ab
namespace Go.Ab
open Go Go.RowKit
attribute [local irreducible] HS
variable {P:Program} {g:eY} {δ:DS} {l:List Oper} {late dn:List Nat} {k:Wt} {QD:Exit→DS→Prop}
section
variable {q:Md} {P:Program} {g:eY} {δ:DS} {ops:Array Oper} {f:DS→Prop} {Q:Exit→DS→Prop} {y:Code}
theorem a_.XQ (h:f δ):a_ q P g ops [] (fT f Q) δ:=a_.nil (gr h)
theorem AW.YU {id:Nat} {l:List Oper} (h:a_ .plain P g l.toArray l (fT (AW P g y Q) Q) δ):AW P g (.seq (.region id l.toArray false) y) Q δ:=AW.seq (AW.region h)
end
end Go.Ab
/- A slice held against nil;a slice made with room and no element. -/
namespace Go.Ab
open Go Go.RowKit
variable {P:Program} {g:eY} {δ:DS} {q:Md}
theorem a_.Yg {ι:Type} {ops:Array Oper} {o:Oper} {rest:List Oper} {Q:Exit→DS→Prop} (v:ι→AV) (φ:ι→Prop) (hg:o.guard=none) (qc:kz o=true) (hd:gb δ.n o.dst=true)
  (h:∀κ a w,Rel g δ κ a w→∃i,φ i∧∃u,(∀w',mb δ κ w w'→(execOp a.eval o).run P w'=.ok (.value u) w')∧RA (δ.cx g κ) w u (v i)) (hK:∀i,φ i→a_ q P g ops rest Q (δ.eZ o.dst (v i))):a_ q P g ops (o::rest) Q δ:=by
 intro κ a w r
 obtain⟨i,hi,u,h1,h2⟩:=h κ a w r
 have zI:=hK i hi κ _ _ (r.eZ (fE hd) h2)
 cases q with
 |quiet=>
  show wpQuiet P ops _ _ (o::rest) a
  unfold wpQuiet
  rw[if_pos (by simp [Region.wanted,hg])]
  refine⟨u,fun w' ly=>?_,zI⟩
  unfold Oper.quietAt
  rw[h1 w' (mb.CP ly)]
  exact⟨rfl,rfl⟩
 |held=>
  show xe P ops _ _ (o::rest) a
  refine⟨u,.inl ⟨by simp [Region.wanted,hg],fun w' ly=>h1 w' ly⟩,?_⟩
  ·have hH:mb (δ.eZ o.dst (v i)) κ w=mb δ κ w:=by unfold mb;rw[Bh]
   simp only[hH,uw] at zI
   exact zI
 |plain=>
  show wpListIn _ _ P ops _ (o::rest) a w
  refine iu hg qc fun K rf=>?_
  unfold Oper.AL
  rw[h1 w (mb.refl _ _ _),Oper.uponIn_value]
  exact rf _ _ zI
variable {ops:Array Oper} {rest:List Oper} {Q:Exit→DS→Prop} {dst:Option Nat} {ty:TypeId} {pos:String} {af:Array Edge}
theorem EH {t e:TypeId} (ht:P.underlying t=some (.slice e)) (x y:Operand) (b:Option Addr) (n c:Nat) (w:World):
  (do eqGuard .eql t x y (.slice b n c) (.slice none 0 0);Go.binOp .eql t (.slice b n c) (.slice none 0 0):Sem Value).run P w=.ok (.bool b.isNone) w:=by
 have h1:(eqGuard .eql t x y (.slice b n c) (.slice none 0 0)).run P w=.ok () w:=by
  unfold eqGuard
  simp [Sem.run,pure,Sem.bind,bind]
 rw[Sem.run_bind,h1,Result.andThen_ok]
 exact Lib.run_eql_slice_nil w t e b n c 0 0 ht
theorem a_.u_ {x y:Operand} {t e t':TypeId} {k:Nat} {e7:List (List PV)} (hx:δ.ev x=.pv (.slice k e7)) (hy:δ.ev y=.pv (.lit (.slice none 0 0))) (ht:P.underlying t=some (.slice e)) (ho:fk x=true) (gi:fk y=true) (hd:gb δ.n dst=true)
  (hT:e7=[]→a_ q P g ops rest Q (δ.eZ dst (fe true))) (hF:True→a_ q P g ops rest Q (δ.eZ dst (fe false))):a_ q P g ops (⟨dst,.binOp .eql t x y t',ty,pos,af,none⟩::rest) Q δ:=by
 refine a_.Yg (ι:=Bool) (fun b=>fe b) (fun b=>b=true→e7=[]) rfl rfl hd (fun κ a w r=>?_) (fun b hb=>?_)
 ·have h1:=(r.ra hx ho).kf
  have h2:=r.lit hy gi
  generalize hv:a.eval x=v at h1
  cases h1 with
  | @slice ad len cap k e7 bl off vs hl p_ hb ha A7 hc hr=>
   refine⟨ad.isNone,fun hn=>?_,.bool ad.isNone,fun w' _=>?_,.pv (.lit _)⟩
   ·rcases e7 with _|⟨c,e7⟩
    ·rfl
    ·have:=(ha (by simp)).1
     rw[this] at hn;simp at hn
   ·have:=EH ht x y ad len cap w'
    simp only[execOp,hv,h2]
    simp only[Sem.run_bind,this,Result.andThen_ok] at*
    first|rfl|simp [this]
 ·cases b with
  |true=>exact hT (hb rfl)
  |false=>exact hF trivial
theorem je.sN {gd:Option (Tmp×Bool)} {t e:TypeId} {x y:Operand} {m:Int} {z:Value} {k by':Nat} (hx:δ.ev x=eU 0) (hy:δ.ev y=eU m) (ht:P.underlying t=some (.slice e)) (hi:(P.info? e).map (fun i=>(i.size,i.zero,i.bytes))=some (k,some z,by')) (hb:bu by' 64=true)
  (ho:fk x=true) (gi:fk y=true) (hd:gb δ.n dst=true) (hm:0≤m∧m≤100000):
  je P g ⟨dst,.makeSlice t x y,ty,pos,af,gd⟩ δ ((δ.fM .row).eZ dst (.own δ.nx e k [])):=by
 intro κ a w r
 have js:by'≤64:=by simpa using hb
 obtain⟨i0,mB,qo,Aw,GO⟩:∃i0,P.info? e=some i0∧i0.size=k∧i0.zero=some z∧i0.bytes=by':=by
  cases h:P.info? e with
  |none=>rw[h] at hi;simp at hi
  |some i0=>rw[h] at hi;simp at hi;exact⟨i0,rfl,hi.1,hi.2.1,hi.2.2⟩
 have Na:=r.lit hx ho
 have Ym:=r.lit hy gi
 have Xt:IntKind.i64.wrap m=m:=IntWalk.i64_in _ (by omega)
 have XP:IntKind.i64.wrap 0=0:=IntWalk.i64_in _ (by omega)
 generalize AI:((bK (m.toNat*k)).map (fun j=>z.cells[j % z.cells.size]!))=c'
 have sE:c'.size=m.toNat*k:=by rw[← AI];simp
 have hmul:by'*m.toNat≤6400000:=by
  have h1:by'*m.toNat≤64*m.toNat:=bR _ js
  omega
 have VV:(by':Int)*m≤6400000:=by
  have:((by'*m.toNat:Nat):Int)≤6400000:=by omega
  rw[cF,bZ hm.1] at this
  exact this
 have gQ:(execOp a.eval ⟨dst,.makeSlice t x y,ty,pos,af,gd⟩).run P w=.ok (.value (.slice (some ⟨w.heap.size,0,none⟩) 0 m.toNat)) (w.alloc (.cells c' e)):=by
  have Y7:∀w,(typeInfo e).run P w=.ok i0 w:=fun w=>by simp [typeInfo,mB]
  have Er:∀w,(zeroValue e).run P w=.ok z w:=fun w=>by simp [zeroValue,typeInfo,mB,Aw]
  have P2:∀w,(sizeOf e).run P w=.ok k w:=fun w=>by simp [sizeOf,typeInfo,mB,qo]
  have has:∀(m:Int) w,(asInt (.int .i64 m)).run P w=.ok m w:=fun m w=>by simp [asInt,asIntOf,Sem.run_bind,Sem.run_pure,Result.andThen_ok]
  have MI:¬(by':Int)*m>2 ^ 48:=by
   have:(2:Int) ^ 48=281474976710656:=by decide
   omega
  have Uf:¬(by':Int)*0>2 ^ 48:=by rw[Int.mul_zero];decide
  have Ox:¬m<0:=by omega
  have Z_:¬m<0:=by omega
  have oL:¬m.toNat*by'>roomBytes:=by
   have:(6400000:Nat)≤roomBytes:=by decide
   have h2:m.toNat*by'=by'*m.toNat:=bQ _ _
   omega
  simp only[execOp,Instr.makeSlice,Sem.run_bind,Result.andThen_ok,run_underlying ht,Na,Ym,has,Y7,GO,Xt,XP]
  simp only[decide_eq_false MI,decide_eq_false Uf,decide_eq_false Ox,cH,cI,cJ,decide_false,gt_iff_lt,cj,if_false,askRoom,Sem.run_pure,Result.andThen_ok,Sem.run_bind]
  have EF:¬roomBytes<m.toNat*by':=oL
  simp only[if_neg EF,Sem.run_pure,Result.andThen_ok,P2]
  by_cases h0:m.toNat*k=0
  ·have Ru:(bK (m.toNat*k)).map (fun j=>(#[]:Array Value)[j % (#[]:Array Value).size]!)=c':=by
    rw[← AI,h0];simp [Array.range_zero']
   simp only[if_pos h0,Sem.run_bind,Sem.run_pure,Result.andThen_ok,newRow]
   simp only[pure_bind,Ru]
   rfl
  ·simp only[if_neg h0,Sem.run_bind,Sem.run_pure,Result.andThen_ok,Er,newRow,AI]
   rfl
 have yS:m.toNat≤maxLen:=by simp only[maxLen];omega
 obtain⟨r',G⟩:=r.grow .row (.cells c' e) (fun C G hκ b hb=>by
  have:w.heap.size=b:=Option.some.inj (hκ.symm.trans hb)
  subst this
  exact⟨c',e,heap_alloc_new w _⟩)
 refine .inl ⟨_,_,_,_,gQ,.inl rfl,r'.eZ (fE hd) (.own ?_)⟩
 refine⟨by show(δ.fM .row).ob _=_;rw[gh,if_pos rfl],by simp,fun c hc=>by simp at hc,fun b hb=>?_,[],⟨by simp,.inr ⟨w.heap.size,m.toNat,c',rfl,r.hB,heap_alloc_new w _,bg _,yS,sE,by simp⟩⟩,by simp,fun i' j p n9=>by simp [cellAt] at n9⟩
 simp only[Value.ownBlock,Option.some.injEq] at hb
 subst hb
 show ix _ _ _ _=_
 simp [ix]
theorem a_.sN {t e:TypeId} {x y:Operand} {m:Int} {z:Value} {k by':Nat} (hx:δ.ev x=eU 0) (hy:δ.ev y=eU m) (ht:P.underlying t=some (.slice e)) (hi:(P.info? e).map (fun i=>(i.size,i.zero,i.bytes))=some (k,some z,by')) (hb:bu by' 64=true)
  (ho:fk x=true) (gi:fk y=true) (hd:gb δ.n dst=true) (hm:0≤m∧m≤100000) (hK:a_ .plain P g ops rest Q ((δ.fM .row).eZ dst (.own δ.nx e k []))):
  a_ .plain P g ops (⟨dst,.makeSlice t x y,ty,pos,af,none⟩::rest) Q δ:=a_.vA rfl rfl (je.sN hx hy ht hi hb ho gi hd hm) hK
end Go.Ab
