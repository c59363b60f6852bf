/- Laws in the forms that the walk's list of steps tries. -/
import Derived.Test.YtijkecidjjicbaaGreatDoorAbL1
import Derived.OrdersIn
import Derived.MapKept
import Derived.Maps.RangeRun
import Derived.ProofKit
import Derived.OpenShut
import Derived.ChangeOld
import Derived.SizedLaws
import Derived.JoinedCond
import Derived.Deep.CondSized
import Derived.ChangeKeysEq
import Derived.Laws.StructEq
import Derived.WalkSpells
import Derived.Lib.SliceRun
import Derived.Laws.Small
import Derived.Scope
set_option linter.unusedSimpArgs false
set_option linter.unusedVariables false
namespace Go.Ab
open Go Go.RowKit
variable {q:Md} {P:Program} {g:Ghost} {δ:DS} {κ:Nat→Option Nat} {a:Act} {w:World}
variable {ops:Array Oper} {rest:List Oper} {Q:Exit→DS→Prop} {dst:Option Nat} {ty:TypeId} {pos:String} {af:Array Edge}
theorem AOps.guardT {op:Op} {gj d:Nat} {p:Prop} {_:Decidable p} {o':Oper} (ho:ops[gj]? =some o') (hd:o'.dst=some d) (hd0:Nat.blt d HS=true) (hdn:Nat.blt d δ.n=true) (hb:δ.get d=litB (decide p)) (hdd:okD δ.n dst=true)
  (hy:p→AOps q P g ops (⟨dst,op,ty,pos,af,none⟩::rest) Q δ) (hn:¬p→AOps q P g ops rest Q (δ.putd dst (.pv (.lit undef)))):AOps q P g ops (⟨dst,op,ty,pos,af,some (gj,true)⟩::rest) Q δ:=
 AOps.guard ho hd hd0 hdn hb hdd (fun h=>hy (of_decide_eq_true h)) (fun h=>hn (of_decide_eq_false h))
theorem AOps.guardF {op:Op} {gj d:Nat} {p:Prop} {_:Decidable p} {o':Oper} (ho:ops[gj]? =some o') (hd:o'.dst=some d) (hd0:Nat.blt d HS=true) (hdn:Nat.blt d δ.n=true) (hb:δ.get d=litB (decide p)) (hdd:okD δ.n dst=true)
  (hy:¬p→AOps q P g ops (⟨dst,op,ty,pos,af,none⟩::rest) Q δ) (hn:p→AOps q P g ops rest Q (δ.putd dst (.pv (.lit undef)))):AOps q P g ops (⟨dst,op,ty,pos,af,some (gj,false)⟩::rest) Q δ:=
 AOps.guard ho hd hd0 hdn hb hdd (fun h=>hy (of_decide_eq_false h)) (fun h=>hn (of_decide_eq_true h))
theorem AOps.notD {x:Operand} {t:TypeId} {p:Prop} {_:Decidable p} (hx:δ.ev x=litB (decide p)) (ho:okT x=true) (hd:okD δ.n dst=true) (hK:AOps q P g ops rest Q (δ.putd dst (litB (decide (¬p))))):
  AOps q P g ops (⟨dst,.unOp .not t x,ty,pos,af,none⟩::rest) Q δ:=AOps.not hx ho hd (by
                                                  have:(!decide p)=decide (¬p):=by simp
                                                  rw[this];exact hK)
theorem AOps.pickT {x y z:Operand} {p:Prop} {_:Decidable p} {v:AV} (hx:δ.ev x=litB (decide p)) (hy:δ.ev y=v) (hp:p) (ho:okT x=true) (hoy:okT y=true) (hoz:okT z=true) (hd:okD δ.n dst=true)
  (hK:AOps q P g ops rest Q (δ.putd dst v)):AOps q P g ops (⟨dst,.pick x y z,ty,pos,af,none⟩::rest) Q δ:=
 AOps.pick hx ho hoy hoz (fun _=>hy) (fun h=>absurd hp (of_decide_eq_false h)) hd hK
theorem AOps.pickF {x y z:Operand} {p:Prop} {_:Decidable p} {v:AV} (hx:δ.ev x=litB (decide p)) (hz:δ.ev z=v) (hp:¬p) (ho:okT x=true) (hoy:okT y=true) (hoz:okT z=true) (hd:okD δ.n dst=true)
  (hK:AOps q P g ops rest Q (δ.putd dst v)):AOps q P g ops (⟨dst,.pick x y z,ty,pos,af,none⟩::rest) Q δ:=
 AOps.pick hx ho hoy hoz (fun h=>absurd (of_decide_eq_true h) hp) (fun _=>hz) hd hK
theorem AW.cond_lt {c:Operand} {x y:Code} (ho:okT c=true) (hc:δ.ev c=litB true) (h1:AW P g x Q δ):AW P g (.cond c x y) Q δ:=AW.condT rfl ho hc h1
theorem AW.cond_lf {c:Operand} {x y:Code} (ho:okT c=true) (hc:δ.ev c=litB false) (h1:AW P g y Q δ):AW P g (.cond c x y) Q δ:=AW.condF rfl ho hc h1
theorem AOps.guard_lt {op:Op} {gj d:Nat} {want b:Bool} {o':Oper} (ho:ops[gj]? =some o') (hd:o'.dst=some d) (hd0:Nat.blt d HS=true) (hdn:Nat.blt d δ.n=true) (hb:δ.get d=litB b) (hbw:b=want) (hdd:okD δ.n dst=true)
  (hy:AOps q P g ops (⟨dst,op,ty,pos,af,none⟩::rest) Q δ):AOps q P g ops (⟨dst,op,ty,pos,af,some (gj,want)⟩::rest) Q δ:=
 AOps.guard ho hd hd0 hdn hb hdd (fun _=>hy) (fun h=>by subst hbw;cases b<;>simp at h)
theorem AOps.guard_lf {op:Op} {gj d:Nat} {want b:Bool} {o':Oper} (ho:ops[gj]? =some o') (hd:o'.dst=some d) (hd0:Nat.blt d HS=true) (hdn:Nat.blt d δ.n=true) (hb:δ.get d=litB b) (hbw:b=!want) (hdd:okD δ.n dst=true)
  (hn:AOps q P g ops rest Q (δ.putd dst (.pv (.lit undef)))):AOps q P g ops (⟨dst,op,ty,pos,af,some (gj,want)⟩::rest) Q δ:=
 AOps.guard ho hd hd0 hdn hb hdd (fun h=>by subst h;cases b<;>simp at hbw) (fun _=>hn)
end Go.Ab
namespace Go.Ab
variable {P:Program} {g:Ghost} {δ:DS} {Q:Exit→DS→Prop}
theorem AW.condY {c:Operand} {x y:Code} {p:Prop} {_:Decidable p} (ho:okT c=true) (hc:δ.ev c=litB (decide p)) (hp:p) (h1:AW P g x Q δ):AW P g (.cond c x y) Q δ:=AW.condT (decide_eq_true hp) ho hc h1
theorem AW.condN {c:Operand} {x y:Code} {p:Prop} {_:Decidable p} (ho:okT c=true) (hc:δ.ev c=litB (decide p)) (hp:¬p) (h1:AW P g y Q δ):AW P g (.cond c x y) Q δ:=AW.condF (decide_eq_false hp) ho hc h1
end Go.Ab
namespace Go.Ab
section
variable {q:Md} {P:Program} {g:Ghost} {δ:DS} {ops:Array Oper} {rest:List Oper} {Q:Exit→DS→Prop} {dst:Option Nat} {ty:TypeId} {pos:String} {af:Array Edge}
variable {op:Op} {gj d:Nat} {p:Prop} {inst:Decidable p} {o':Oper} (ho:ops[gj]? =some o') (hd:o'.dst=some d) (hb:δ.get d=litB (@decide p inst)) (hd0:Nat.blt d HS=true) (hdn:Nat.blt d δ.n=true) (hdd:okD δ.n dst=true)
include ho hd hb hd0 hdn hdd
theorem AOps.guardTy (hp:p) (hy:AOps q P g ops (⟨dst,op,ty,pos,af,none⟩::rest) Q δ):AOps q P g ops (⟨dst,op,ty,pos,af,some (gj,true)⟩::rest) Q δ:=
 AOps.guard ho hd hd0 hdn hb hdd (fun _=>hy) (fun h=>absurd hp (of_decide_eq_false h))
theorem AOps.guardTn (hp:¬p) (hn:AOps q P g ops rest Q (δ.putd dst (.pv (.lit undef)))):AOps q P g ops (⟨dst,op,ty,pos,af,some (gj,true)⟩::rest) Q δ:=
 AOps.guard ho hd hd0 hdn hb hdd (fun h=>absurd (of_decide_eq_true h) hp) (fun _=>hn)
theorem AOps.guardFy (hp:¬p) (hy:AOps q P g ops (⟨dst,op,ty,pos,af,none⟩::rest) Q δ):AOps q P g ops (⟨dst,op,ty,pos,af,some (gj,false)⟩::rest) Q δ:=
 AOps.guard ho hd hd0 hdn hb hdd (fun _=>hy) (fun h=>absurd (of_decide_eq_true h) hp)
theorem AOps.guardFn (hp:p) (hn:AOps q P g ops rest Q (δ.putd dst (.pv (.lit undef)))):AOps q P g ops (⟨dst,op,ty,pos,af,some (gj,false)⟩::rest) Q δ:=
 AOps.guard ho hd hd0 hdn hb hdd (fun h=>absurd hp (of_decide_eq_false h)) (fun _=>hn)
end
end Go.Ab
namespace Go.Ab
section
variable {q:Md} {P:Program} {g:Ghost} {δ:DS} {ops:Array Oper} {rest:List Oper} {Q:Exit→DS→Prop} {dst:Option Nat} {ty:TypeId} {pos:String} {af:Array Edge} {x:Operand}
theorem AOps.move_pv {p:PV} (hx:δ.ev x=.pv p) (ho:okT x=true) (hd:okD δ.n dst=true) (hK:AOps q P g ops rest Q (δ.putd dst (.pv p))):AOps q P g ops (⟨dst,.move x,ty,pos,af,none⟩::rest) Q δ:=AOps.move hx ho hd hK
theorem AOps.assign_pv {p:PV} (hx:δ.ev x=.pv p) (ho:okT x=true) (hd:okD δ.n dst=true) (hK:AOps q P g ops rest Q (δ.putd dst (.pv p))):AOps q P g ops (⟨dst,.assign x,ty,pos,af,none⟩::rest) Q δ:=AOps.assign hx ho hd hK
theorem AOps.move_own {i e k els} (hx:δ.ev x=.own i e k els) (ho:okT x=true) (hd:okD δ.n dst=true) (hK:AOps q P g ops rest Q (δ.putd dst (.own i e k els))):AOps q P g ops (⟨dst,.move x,ty,pos,af,none⟩::rest) Q δ:=AOps.move hx ho hd hK
theorem AOps.assign_own {i e k els} (hx:δ.ev x=.own i e k els) (ho:okT x=true) (hd:okD δ.n dst=true) (hK:AOps q P g ops rest Q (δ.putd dst (.own i e k els))):AOps q P g ops (⟨dst,.assign x,ty,pos,af,none⟩::rest) Q δ:=AOps.assign hx ho hd hK
theorem AOps.move_ptr {i o} (hx:δ.ev x=.ptr i o) (ho:okT x=true) (hd:okD δ.n dst=true) (hK:AOps q P g ops rest Q (δ.putd dst (.ptr i o))):AOps q P g ops (⟨dst,.move x,ty,pos,af,none⟩::rest) Q δ:=AOps.move hx ho hd hK
theorem AOps.move_tup {l} (hx:δ.ev x=.tup l) (ho:okT x=true) (hd:okD δ.n dst=true) (hK:AOps q P g ops rest Q (δ.putd dst (.tup l))):AOps q P g ops (⟨dst,.move x,ty,pos,af,none⟩::rest) Q δ:=AOps.move hx ho hd hK
end
end Go.Ab
namespace Go.Ab
section
variable {q:Md} {P:Program} {g:Ghost} {δ:DS} {ops:Array Oper} {rest:List Oper} {Q:Exit→DS→Prop} {dst:Option Nat} {ty:TypeId} {pos:String} {af:Array Edge}
theorem AOps.pick_lt {x y z:Operand} {v:PV} (hx:δ.ev x=litB true) (hy:δ.ev y=.pv v) (ho:okT x=true) (hoy:okT y=true) (hoz:okT z=true) (hd:okD δ.n dst=true)
  (hK:AOps q P g ops rest Q (δ.putd dst (.pv v))):AOps q P g ops (⟨dst,.pick x y z,ty,pos,af,none⟩::rest) Q δ:=AOps.pick hx ho hoy hoz (fun _=>hy) (fun h=>by cases h) hd hK
theorem AOps.pick_lf {x y z:Operand} {v:PV} (hx:δ.ev x=litB false) (hz:δ.ev z=.pv v) (ho:okT x=true) (hoy:okT y=true) (hoz:okT z=true) (hd:okD δ.n dst=true)
  (hK:AOps q P g ops rest Q (δ.putd dst (.pv v))):AOps q P g ops (⟨dst,.pick x y z,ty,pos,af,none⟩::rest) Q δ:=AOps.pick hx ho hoy hoz (fun h=>by cases h) (fun _=>hz) hd hK
theorem AOps.pickT_pv {x y z:Operand} {p:Prop} {_:Decidable p} {v:PV} (hx:δ.ev x=litB (decide p)) (hy:δ.ev y=.pv v) (hp:p) (ho:okT x=true) (hoy:okT y=true) (hoz:okT z=true) (hd:okD δ.n dst=true)
  (hK:AOps q P g ops rest Q (δ.putd dst (.pv v))):AOps q P g ops (⟨dst,.pick x y z,ty,pos,af,none⟩::rest) Q δ:=AOps.pickT hx hy hp ho hoy hoz hd hK
theorem AOps.pickF_pv {x y z:Operand} {p:Prop} {_:Decidable p} {v:PV} (hx:δ.ev x=litB (decide p)) (hz:δ.ev z=.pv v) (hp:¬p) (ho:okT x=true) (hoy:okT y=true) (hoz:okT z=true) (hd:okD δ.n dst=true)
  (hK:AOps q P g ops rest Q (δ.putd dst (.pv v))):AOps q P g ops (⟨dst,.pick x y z,ty,pos,af,none⟩::rest) Q δ:=AOps.pickF hx hz hp ho hoy hoz hd hK
end
end Go.Ab
namespace Go.Ab
section
variable {P:Program} {g:Ghost} {δ:DS} {ops:Array Oper} {rest:List Oper} {Q:Exit→DS→Prop} {dst:Option Nat} {ty:TypeId} {pos:String} {af:Array Edge}
theorem Eff.bs1 {gd:Option (Tmp×Bool)} {t e:TypeId} {z:Value} {x0:Operand} {p0:PV} (ht:P.underlying t=some (.slice e)) (h0:δ.ev x0=.pv p0) (hi:(P.info? e).map (fun i=>(i.size,i.zero))=some (1,some z)) (hz:z.cells.toList.all (·.oneCell')=true) (hzk:Nat.beq z.cells.size 1=true) (k0:AV.one (.pv p0)=true) (o0:okT x0=true) (hd:okD δ.n dst=true):Eff P g ⟨dst,.buildSlice t 1 [(0,x0)].toArray,ty,pos,af,gd⟩ δ ((δ.addOb .row).putd dst (.own δ.nx e 1 [[p0]])):=by
 have hf:fillA (fun i=>some (i*1,1)) (zerosA z (1*1)) (([(0,x0)]:List (Nat×Operand)).map fun p=>(p.1,δ.ev p.2))=some [.pv p0]:=by
  simp [fillA,setsA,AV.cellsOf,AV.ones,zerosA,h0,k0,List.map_cons,List.map_nil]<;>rfl
 exact Eff.buildSlice (len:=1) (k:=1) (parts:=[(0,x0)]) (cells:=[.pv p0]) ht hi hzk rfl rfl hz (by simp [o0]) hf (by simp [AV.isPv]) hd
theorem AOps.bs1 {t e:TypeId} {z:Value} {x0:Operand} {p0:PV} (ht:P.underlying t=some (.slice e)) (h0:δ.ev x0=.pv p0) (hi:(P.info? e).map (fun i=>(i.size,i.zero))=some (1,some z)) (hz:z.cells.toList.all (·.oneCell')=true) (hzk:Nat.beq z.cells.size 1=true) (k0:AV.one (.pv p0)=true) (o0:okT x0=true) (hd:okD δ.n dst=true) (hK:AOps .plain P g ops rest Q ((δ.addOb .row).putd dst (.own δ.nx e 1 [[p0]]))):AOps .plain P g ops (⟨dst,.buildSlice t 1 [(0,x0)].toArray,ty,pos,af,none⟩::rest) Q δ:=AOps.eff rfl rfl (Eff.bs1 ht h0 hi hz hzk k0 o0 hd) hK
theorem Eff.bs2 {gd:Option (Tmp×Bool)} {t e:TypeId} {z:Value} {x0 x1:Operand} {p0 p1:PV} (ht:P.underlying t=some (.slice e)) (h0:δ.ev x0=.pv p0) (h1:δ.ev x1=.pv p1) (hi:(P.info? e).map (fun i=>(i.size,i.zero))=some (1,some z)) (hz:z.cells.toList.all (·.oneCell')=true) (hzk:Nat.beq z.cells.size 1=true) (k0:AV.one (.pv p0)=true) (k1:AV.one (.pv p1)=true) (o0:okT x0=true) (o1:okT x1=true) (hd:okD δ.n dst=true):Eff P g ⟨dst,.buildSlice t 2 [(0,x0),(1,x1)].toArray,ty,pos,af,gd⟩ δ ((δ.addOb .row).putd dst (.own δ.nx e 1 [[p0],[p1]])):=by
 have hf:fillA (fun i=>some (i*1,1)) (zerosA z (2*1)) (([(0,x0),(1,x1)]:List (Nat×Operand)).map fun p=>(p.1,δ.ev p.2))=some [.pv p0,.pv p1]:=by
  simp [fillA,setsA,AV.cellsOf,AV.ones,zerosA,h0,h1,k0,k1,List.map_cons,List.map_nil]<;>rfl
 exact Eff.buildSlice (len:=2) (k:=1) (parts:=[(0,x0),(1,x1)]) (cells:=[.pv p0,.pv p1]) ht hi hzk rfl rfl hz (by simp [o0,o1]) hf (by simp [AV.isPv]) hd
theorem AOps.bs2 {t e:TypeId} {z:Value} {x0 x1:Operand} {p0 p1:PV} (ht:P.underlying t=some (.slice e)) (h0:δ.ev x0=.pv p0) (h1:δ.ev x1=.pv p1) (hi:(P.info? e).map (fun i=>(i.size,i.zero))=some (1,some z)) (hz:z.cells.toList.all (·.oneCell')=true) (hzk:Nat.beq z.cells.size 1=true) (k0:AV.one (.pv p0)=true) (k1:AV.one (.pv p1)=true) (o0:okT x0=true) (o1:okT x1=true) (hd:okD δ.n dst=true) (hK:AOps .plain P g ops rest Q ((δ.addOb .row).putd dst (.own δ.nx e 1 [[p0],[p1]]))):AOps .plain P g ops (⟨dst,.buildSlice t 2 [(0,x0),(1,x1)].toArray,ty,pos,af,none⟩::rest) Q δ:=AOps.eff rfl rfl (Eff.bs2 ht h0 h1 hi hz hzk k0 k1 o0 o1 hd) hK
theorem Eff.bs3 {gd:Option (Tmp×Bool)} {t e:TypeId} {z:Value} {x0 x1 x2:Operand} {p0 p1 p2:PV} (ht:P.underlying t=some (.slice e)) (h0:δ.ev x0=.pv p0) (h1:δ.ev x1=.pv p1) (h2:δ.ev x2=.pv p2) (hi:(P.info? e).map (fun i=>(i.size,i.zero))=some (1,some z)) (hz:z.cells.toList.all (·.oneCell')=true) (hzk:Nat.beq z.cells.size 1=true) (k0:AV.one (.pv p0)=true) (k1:AV.one (.pv p1)=true) (k2:AV.one (.pv p2)=true) (o0:okT x0=true) (o1:okT x1=true) (o2:okT x2=true) (hd:okD δ.n dst=true):Eff P g ⟨dst,.buildSlice t 3 [(0,x0),(1,x1),(2,x2)].toArray,ty,pos,af,gd⟩ δ ((δ.addOb .row).putd dst (.own δ.nx e 1 [[p0],[p1],[p2]])):=by
 have hf:fillA (fun i=>some (i*1,1)) (zerosA z (3*1)) (([(0,x0),(1,x1),(2,x2)]:List (Nat×Operand)).map fun p=>(p.1,δ.ev p.2))=some [.pv p0,.pv p1,.pv p2]:=by
  simp [fillA,setsA,AV.cellsOf,AV.ones,zerosA,h0,h1,h2,k0,k1,k2,List.map_cons,List.map_nil]<;>rfl
 exact Eff.buildSlice (len:=3) (k:=1) (parts:=[(0,x0),(1,x1),(2,x2)]) (cells:=[.pv p0,.pv p1,.pv p2]) ht hi hzk rfl rfl hz (by simp [o0,o1,o2]) hf (by simp [AV.isPv]) hd
theorem AOps.bs3 {t e:TypeId} {z:Value} {x0 x1 x2:Operand} {p0 p1 p2:PV} (ht:P.underlying t=some (.slice e)) (h0:δ.ev x0=.pv p0) (h1:δ.ev x1=.pv p1) (h2:δ.ev x2=.pv p2) (hi:(P.info? e).map (fun i=>(i.size,i.zero))=some (1,some z)) (hz:z.cells.toList.all (·.oneCell')=true) (hzk:Nat.beq z.cells.size 1=true) (k0:AV.one (.pv p0)=true) (k1:AV.one (.pv p1)=true) (k2:AV.one (.pv p2)=true) (o0:okT x0=true) (o1:okT x1=true) (o2:okT x2=true) (hd:okD δ.n dst=true) (hK:AOps .plain P g ops rest Q ((δ.addOb .row).putd dst (.own δ.nx e 1 [[p0],[p1],[p2]]))):AOps .plain P g ops (⟨dst,.buildSlice t 3 [(0,x0),(1,x1),(2,x2)].toArray,ty,pos,af,none⟩::rest) Q δ:=AOps.eff rfl rfl (Eff.bs3 ht h0 h1 h2 hi hz hzk k0 k1 k2 o0 o1 o2 hd) hK
theorem Eff.bs4 {gd:Option (Tmp×Bool)} {t e:TypeId} {z:Value} {x0 x1 x2 x3:Operand} {p0 p1 p2 p3:PV} (ht:P.underlying t=some (.slice e)) (h0:δ.ev x0=.pv p0) (h1:δ.ev x1=.pv p1) (h2:δ.ev x2=.pv p2) (h3:δ.ev x3=.pv p3) (hi:(P.info? e).map (fun i=>(i.size,i.zero))=some (1,some z)) (hz:z.cells.toList.all (·.oneCell')=true) (hzk:Nat.beq z.cells.size 1=true) (k0:AV.one (.pv p0)=true) (k1:AV.one (.pv p1)=true) (k2:AV.one (.pv p2)=true) (k3:AV.one (.pv p3)=true) (o0:okT x0=true) (o1:okT x1=true) (o2:okT x2=true) (o3:okT x3=true) (hd:okD δ.n dst=true):Eff P g ⟨dst,.buildSlice t 4 [(0,x0),(1,x1),(2,x2),(3,x3)].toArray,ty,pos,af,gd⟩ δ ((δ.addOb .row).putd dst (.own δ.nx e 1 [[p0],[p1],[p2],[p3]])):=by
 have hf:fillA (fun i=>some (i*1,1)) (zerosA z (4*1)) (([(0,x0),(1,x1),(2,x2),(3,x3)]:List (Nat×Operand)).map fun p=>(p.1,δ.ev p.2))=some [.pv p0,.pv p1,.pv p2,.pv p3]:=by
  simp [fillA,setsA,AV.cellsOf,AV.ones,zerosA,h0,h1,h2,h3,k0,k1,k2,k3,List.map_cons,List.map_nil]<;>rfl
 exact Eff.buildSlice (len:=4) (k:=1) (parts:=[(0,x0),(1,x1),(2,x2),(3,x3)]) (cells:=[.pv p0,.pv p1,.pv p2,.pv p3]) ht hi hzk rfl rfl hz (by simp [o0,o1,o2,o3]) hf (by simp [AV.isPv]) hd
theorem AOps.bs4 {t e:TypeId} {z:Value} {x0 x1 x2 x3:Operand} {p0 p1 p2 p3:PV} (ht:P.underlying t=some (.slice e)) (h0:δ.ev x0=.pv p0) (h1:δ.ev x1=.pv p1) (h2:δ.ev x2=.pv p2) (h3:δ.ev x3=.pv p3) (hi:(P.info? e).map (fun i=>(i.size,i.zero))=some (1,some z)) (hz:z.cells.toList.all (·.oneCell')=true) (hzk:Nat.beq z.cells.size 1=true) (k0:AV.one (.pv p0)=true) (k1:AV.one (.pv p1)=true) (k2:AV.one (.pv p2)=true) (k3:AV.one (.pv p3)=true) (o0:okT x0=true) (o1:okT x1=true) (o2:okT x2=true) (o3:okT x3=true) (hd:okD δ.n dst=true) (hK:AOps .plain P g ops rest Q ((δ.addOb .row).putd dst (.own δ.nx e 1 [[p0],[p1],[p2],[p3]]))):AOps .plain P g ops (⟨dst,.buildSlice t 4 [(0,x0),(1,x1),(2,x2),(3,x3)].toArray,ty,pos,af,none⟩::rest) Q δ:=AOps.eff rfl rfl (Eff.bs4 ht h0 h1 h2 h3 hi hz hzk k0 k1 k2 k3 o0 o1 o2 o3 hd) hK
theorem Eff.bs5 {gd:Option (Tmp×Bool)} {t e:TypeId} {z:Value} {x0 x1 x2 x3 x4:Operand} {p0 p1 p2 p3 p4:PV} (ht:P.underlying t=some (.slice e)) (h0:δ.ev x0=.pv p0) (h1:δ.ev x1=.pv p1) (h2:δ.ev x2=.pv p2) (h3:δ.ev x3=.pv p3) (h4:δ.ev x4=.pv p4) (hi:(P.info? e).map (fun i=>(i.size,i.zero))=some (1,some z)) (hz:z.cells.toList.all (·.oneCell')=true) (hzk:Nat.beq z.cells.size 1=true) (k0:AV.one (.pv p0)=true) (k1:AV.one (.pv p1)=true) (k2:AV.one (.pv p2)=true) (k3:AV.one (.pv p3)=true) (k4:AV.one (.pv p4)=true) (o0:okT x0=true) (o1:okT x1=true) (o2:okT x2=true) (o3:okT x3=true) (o4:okT x4=true) (hd:okD δ.n dst=true):Eff P g ⟨dst,.buildSlice t 5 [(0,x0),(1,x1),(2,x2),(3,x3),(4,x4)].toArray,ty,pos,af,gd⟩ δ ((δ.addOb .row).putd dst (.own δ.nx e 1 [[p0],[p1],[p2],[p3],[p4]])):=by
 have hf:fillA (fun i=>some (i*1,1)) (zerosA z (5*1)) (([(0,x0),(1,x1),(2,x2),(3,x3),(4,x4)]:List (Nat×Operand)).map fun p=>(p.1,δ.ev p.2))=some [.pv p0,.pv p1,.pv p2,.pv p3,.pv p4]:=by
  simp [fillA,setsA,AV.cellsOf,AV.ones,zerosA,h0,h1,h2,h3,h4,k0,k1,k2,k3,k4,List.map_cons,List.map_nil]<;>rfl
 exact Eff.buildSlice (len:=5) (k:=1) (parts:=[(0,x0),(1,x1),(2,x2),(3,x3),(4,x4)]) (cells:=[.pv p0,.pv p1,.pv p2,.pv p3,.pv p4]) ht hi hzk rfl rfl hz (by simp [o0,o1,o2,o3,o4]) hf (by simp [AV.isPv]) hd
theorem AOps.bs5 {t e:TypeId} {z:Value} {x0 x1 x2 x3 x4:Operand} {p0 p1 p2 p3 p4:PV} (ht:P.underlying t=some (.slice e)) (h0:δ.ev x0=.pv p0) (h1:δ.ev x1=.pv p1) (h2:δ.ev x2=.pv p2) (h3:δ.ev x3=.pv p3) (h4:δ.ev x4=.pv p4) (hi:(P.info? e).map (fun i=>(i.size,i.zero))=some (1,some z)) (hz:z.cells.toList.all (·.oneCell')=true) (hzk:Nat.beq z.cells.size 1=true) (k0:AV.one (.pv p0)=true) (k1:AV.one (.pv p1)=true) (k2:AV.one (.pv p2)=true) (k3:AV.one (.pv p3)=true) (k4:AV.one (.pv p4)=true) (o0:okT x0=true) (o1:okT x1=true) (o2:okT x2=true) (o3:okT x3=true) (o4:okT x4=true) (hd:okD δ.n dst=true) (hK:AOps .plain P g ops rest Q ((δ.addOb .row).putd dst (.own δ.nx e 1 [[p0],[p1],[p2],[p3],[p4]]))):AOps .plain P g ops (⟨dst,.buildSlice t 5 [(0,x0),(1,x1),(2,x2),(3,x3),(4,x4)].toArray,ty,pos,af,none⟩::rest) Q δ:=AOps.eff rfl rfl (Eff.bs5 ht h0 h1 h2 h3 h4 hi hz hzk k0 k1 k2 k3 k4 o0 o1 o2 o3 o4 hd) hK
theorem mul_bytes {n bytes:Nat} (h:Nat.ble bytes 64=true) (hl:n≤1000000000000):n*bytes≤140737488355328:=by
 have h':bytes≤64:=by simpa using h
 have:=Nat.mul_le_mul hl h'
 omega
theorem Eff.appendS {gd:Option (Tmp×Bool)} {s x:Operand} {t e:TypeId} {i k bytes:Nat} {z:Value} {els news:List (List PV)} (hs:δ.ev s=.own i e k els) (hx:Srcs δ x k news) (hr:δ.ob i=some .row) (ht:P.underlying t=some (.slice e))
  (hi:(P.info? e).map (fun i=>(i.size,i.zero,i.bytes))=some (k,some z,bytes)) (hby:Nat.ble bytes 64=true) (hzk:Nat.beq z.cells.size k=true) (hk0:Nat.blt 0 k=true) (ho:okT s=true) (ho':okT x=true) (hd:okD δ.n dst=true)
  (hl:els.length+news.length≤1000000000000):Eff P g ⟨dst,.call {callee:=.builtin .append,args:= #[s,x],argTypes:= #[t,t]},ty,pos,af,gd⟩ δ ((δ.mapV (AV.kill i)).putd dst (.own i e k (els++news))):=
 Eff.append hs hx hr ht hi hzk hk0 ho ho' hd (mul_bytes hby hl) (by omega)
theorem AOps.appendS {s x:Operand} {t e:TypeId} {i k bytes:Nat} {z:Value} {els news:List (List PV)} (hs:δ.ev s=.own i e k els) (hx:Srcs δ x k news) (hr:δ.ob i=some .row) (ht:P.underlying t=some (.slice e))
  (hi:(P.info? e).map (fun i=>(i.size,i.zero,i.bytes))=some (k,some z,bytes)) (hby:Nat.ble bytes 64=true) (hzk:Nat.beq z.cells.size k=true) (hk0:Nat.blt 0 k=true) (ho:okT s=true) (ho':okT x=true) (hd:okD δ.n dst=true)
  (hl:els.length+news.length≤1000000000000) (hK:AOps .plain P g ops rest Q ((δ.mapV (AV.kill i)).putd dst (.own i e k (els++news)))):
  AOps .plain P g ops (⟨dst,.call {callee:=.builtin .append,args:= #[s,x],argTypes:= #[t,t]},ty,pos,af,none⟩::rest) Q δ:=AOps.eff rfl rfl (Eff.appendS hs hx hr ht hi hby hzk hk0 ho ho' hd hl) hK
end
end Go.Ab
namespace Go.Ab
theorem AW.len_agg {P:Program} {g:Ghost} {δ:DS} {Q:Exit→DS→Prop} {α:Type} {c:Code} (j i:Nat) {k:Nat} {cs:List AV} {f:α→List PV} {l:List α} (h:δ.get j=.agg cs) (hc:cs[i]? =some (.pv (.slice k (l.map f)))) (hK:l.length≤140737488355328→AW P g c Q δ):AW P g c Q δ:=
 AW.fact (fun κ a w r=>by
  have h1:=r.env j
  rw[h] at h1
  generalize hu:g.val a j=u at h1
  cases h1 with
  | @agg vs _ hs hv=>
   have hlt:i<vs.size:=by rw[hs];exact(List.getElem?_eq_some_iff.1 hc).1
   obtain⟨_,_,_,h2⟩:=(hv i _ _ (Array.getElem?_eq_getElem hlt) hc).pv_inv.slice_inv
   simpa using h2) hK
end Go.Ab
namespace Go.Ab
theorem AOps.load_ball {q:Md} {P:Program} {g:Ghost} {δ:DS} {ops:Array Oper} {rest:List Oper} {Q:Exit→DS→Prop} {dst:Option Nat} {ty:TypeId} {pos:String} {af:Array Edge} {x:Operand} {t:TypeId} {i:Nat} {cells:List AV} (hx:δ.ev x=.ptr i 0) (hb:δ.ob i=some (.box cells)) (ht:aggT P t cells.length=true) (ho:okT x=true) (hd:okD δ.n dst=true)
  (hK:AOps q P g ops rest Q (δ.putd dst (.agg cells))):AOps q P g ops (⟨dst,.load t x,ty,pos,af,none⟩::rest) Q δ:=
 AOps.load_bn (n:=cells.length) hx hb ht (by simp) ho hd (by simpa using hK)
end Go.Ab
namespace Go.Ab
section
variable {q:Md} {P:Program} {g:Ghost} {δ:DS} {ops:Array Oper} {rest:List Oper} {Q:Exit→DS→Prop} {dst:Option Nat} {ty:TypeId} {pos:String} {af:Array Edge}
theorem Eff.bs1a2 {gd:Option (Tmp×Bool)} {t e:TypeId} {x0:Operand} {p0 p1:PV} {z:Value} (ht:P.underlying t=some (.slice e)) (h0:δ.ev x0=.agg [.pv p0,.pv p1]) (hi:(P.info? e).map (fun i=>(i.size,i.zero))=some (2,some z)) (hz:z.cells.toList.all (·.oneCell')=true) (hzk:Nat.beq z.cells.size 2=true)
  (k0:AV.one (.pv p0)=true) (k1:AV.one (.pv p1)=true) (o0:okT x0=true) (hd:okD δ.n dst=true):Eff P g ⟨dst,.buildSlice t 1 [(0,x0)].toArray,ty,pos,af,gd⟩ δ ((δ.addOb .row).putd dst (.own δ.nx e 2 [[p0,p1]])):=by
 have hf:fillA (fun i=>some (i*2,2)) (zerosA z (1*2)) (([(0,x0)]:List (Nat×Operand)).map fun p=>(p.1,δ.ev p.2))=some [.pv p0,.pv p1]:=by
  simp [fillA,setsA,AV.cellsOf,AV.ones,zerosA,h0,k0,k1]<;>rfl
 exact Eff.buildSlice (len:=1) (k:=2) (parts:=[(0,x0)]) (cells:=[.pv p0,.pv p1]) ht hi hzk rfl rfl hz (by simp [o0]) hf (by simp [AV.isPv]) hd
theorem AOps.bs1a2 {t e:TypeId} {x0:Operand} {p0 p1:PV} {z:Value} (ht:P.underlying t=some (.slice e)) (h0:δ.ev x0=.agg [.pv p0,.pv p1]) (hi:(P.info? e).map (fun i=>(i.size,i.zero))=some (2,some z)) (hz:z.cells.toList.all (·.oneCell')=true) (hzk:Nat.beq z.cells.size 2=true)
  (k0:AV.one (.pv p0)=true) (k1:AV.one (.pv p1)=true) (o0:okT x0=true) (hd:okD δ.n dst=true) (hK:AOps .plain P g ops rest Q ((δ.addOb .row).putd dst (.own δ.nx e 2 [[p0,p1]]))):
  AOps .plain P g ops (⟨dst,.buildSlice t 1 [(0,x0)].toArray,ty,pos,af,none⟩::rest) Q δ:=AOps.eff rfl rfl (Eff.bs1a2 ht h0 hi hz hzk k0 k1 o0 hd) hK
end
end Go.Ab
namespace Go.Ab
section
variable {q:Md} {P:Program} {g:Ghost} {δ:DS} {ops:Array Oper} {rest:List Oper} {Q:Exit→DS→Prop} {dst:Option Nat} {ty:TypeId} {pos:String} {af:Array Edge}
theorem AOps.index_mapI {α:Type} {x y:Operand} {t e:TypeId} {k:Nat} {m:Int} {f:α→List PV} {l:List α} (hx:δ.ev x=.pv (.slice k (l.map f))) (hy:δ.ev y=litI m)
  (ht:P.underlying t=some (.slice e)) (hk:(P.info? e).map (·.size)=some k) (ho:okT x=true) (ho':okT y=true) (hd:okD δ.n dst=true) (h0:0≤m) (hn:m.toNat<l.length)
  (hK:AOps q P g ops rest Q (δ.putd dst (.rptr (f l[m.toNat])))):AOps q P g ops (⟨dst,.indexAddr t x y,ty,pos,af,none⟩::rest) Q δ:=
 AOps.index_map (n:=m.toNat) hx (by rw[hy,Int.toNat_of_nonneg h0]) hn ht hk ho ho' hd hK
theorem AOps.slice_to {α:Type} {t e:TypeId} {x y:Operand} {k n:Nat} {f:α→List PV} {l:List α} (hx:δ.ev x=.pv (.slice k (l.map f))) (hy:δ.ev y=litI (n:Nat)) (ht:P.underlying t=some (.slice e)) (hk:(P.info? e).map (·.size)=some k)
  (ho:okT x=true) (ho':okT y=true) (hd:okD δ.n dst=true) (hn:n≤l.length) (hK:AOps q P g ops rest Q (δ.putd dst (.pv (.slice k ((l.take n).map f))))):AOps q P g ops (⟨dst,.slice t x none (some y) none,ty,pos,af,none⟩::rest) Q δ:=
 AOps.slice (l:=0) (h:=n) (hi:=some y) (lo:=none) hx ht hk rfl ⟨ho',hy⟩ (Nat.zero_le _) (by simpa using hn) ho hd (by simpa [List.map_take] using hK)
end
end Go.Ab
/- Ranging over a function:the iterator is walked in place,each call of yield walks the loop's body. -/
namespace Go.Ab
open Go Go.RowKit
attribute [local irreducible] HS
variable {P:Program} {g:Ghost} {δ:DS} {κ:Nat→Option Nat} {a:Act} {w:World}
variable {ops:Array Oper} {rest:List Oper} {Q:Exit→DS→Prop} {dst:Option Nat} {ty:TypeId} {pos:String} {af:Array Edge}
def shiftE (e:List (Nat×AV)):List (Nat×AV):=e.map fun p=>(p.1+HS,p.2)
def unshiftE:List (Nat×AV)→List (Nat×AV)
 |[]=>[]
 |(i,v)::r=>bif Nat.ble HS i then (i - HS,v)::unshiftE r else unshiftE r
def ownE:List (Nat×AV)→List (Nat×AV)
 |[]=>[]
 |(i,v)::r=>bif Nat.ble HS i && Nat.blt i (HS+HS) then (i - HS,v)::ownE r else ownE r
theorem look_shift_lt:∀(e:List (Nat×AV)) (j:Nat),j<HS→look (shiftE e) j=.any
 |[],_,_=>rfl
 |(i,v)::r,j,h=>by
  show look ((i+HS,v)::shiftE r) j=_
  rw[look_cons,if_neg (by omega)]
  exact look_shift_lt r j h
theorem look_shift:∀(e:List (Nat×AV)) (j:Nat),look (shiftE e) (j+HS)=look e j
 |[],_=>rfl
 |(i,v)::r,j=>by
  show look ((i+HS,v)::shiftE r) (j+HS)=_
  rw[look_cons,look_cons,look_shift r j]
  by_cases e:i=j
  ·rw[if_pos (by omega),if_pos e]
  ·rw[if_neg (by omega),if_neg e]
theorem look_unshift:∀(e:List (Nat×AV)) (j:Nat),look (unshiftE e) j=look e (j+HS)
 |[],_=>rfl
 |(i,v)::r,j=>by
  rw[look_cons]
  simp only[unshiftE]
  cases h:Nat.ble HS i with
  |true=>
   have h':HS≤i:=by simpa using h
   show look ((i - HS,v)::unshiftE r) j=_
   rw[look_cons,look_unshift r j]
   by_cases e:i=j+HS
   ·rw[if_pos (by omega),if_pos e]
   ·rw[if_neg (by omega),if_neg e]
  |false=>
   have h':¬HS≤i:=by
                intro hh;have:Nat.ble HS i=true:=by simpa using hh
                rw[this] at h;cases h
   show look (unshiftE r) j=_
   rw[look_unshift r j,if_neg (by omega)]
theorem look_own:∀(e:List (Nat×AV)) (j:Nat),look (ownE e) j=if j<HS then look e (j+HS) else .any
 |[],j=>by show AV.any=_;split<;>rfl
 |(i,v)::r,j=>by
  rw[look_cons]
  simp only[ownE]
  cases h:(Nat.ble HS i && Nat.blt i (HS+HS)) with
  |true=>
   simp only[Bool.and_eq_true] at h
   have h1:HS≤i:=by simpa using h.1
   have h2:i<HS+HS:=by simpa using h.2
   show look ((i - HS,v)::ownE r) j=_
   rw[look_cons,look_own r j]
   by_cases e:i=j+HS
   ·rw[if_pos (by omega),if_pos (by omega),if_pos e]
   ·rw[if_neg (by omega),if_neg e]
  |false=>
   show look (ownE r) j=_
   rw[look_own r j]
   by_cases hj:j<HS
   ·rw[if_pos hj,if_pos hj]
    by_cases e:i=j+HS
    ·exfalso
     have:(Nat.ble HS i && Nat.blt i (HS+HS))=true:=by simp only[Bool.and_eq_true];exact⟨by simpa using (by omega:HS≤i),by simpa using (by omega:i<HS+HS)⟩
     rw[this] at h;cases h
    ·rw[if_neg e]
   ·rw[if_neg hj,if_neg hj]
def jumpD (l:Nat) (Q:Exit→DS→Prop) (δ:DS):Option Ob→Prop
 |some (.loop l' _ _ _ _ .ready)=>l'=l∧Q .normal δ
 |some (.loop l' _ _ _ _ (.done .ret))=>l'=l∧Q .ret δ
 |some (.loop l' _ _ _ _ (.done (.exit id)))=>l'=l∧Q (.exit id) δ
 |_=>False
def backD (n i:Nat) (δ:DS):DS:={n,env:=unshiftE δ.env,objs:=(match δ.ob i with|some (.loop l tm ps asg body _)=>(i,some (.loop l tm ps asg body .over))|o=>(i,o))::δ.objs,nx:=δ.nx}
def iterEnds (n i l:Nat) (Q:Exit→DS→Prop):Exit→DS→Prop
 |.normal,δ|.ret,δ=>jumpD l Q (backD n i δ) (δ.ob i)
 |_,_=>False
theorem Turns.putObj (w:World) (b:Nat) (o:Obj):Turns w (w.putObj b o) (some b):=⟨rfl,rfl,rfl,by simp,fun k _ h=>World.putObj_heap_other (fun e=>h (by rw[e]))⟩
theorem val_held (g:Ghost) (a:Act) (j:Nat):g.val a (j+HS)=g.held (j+HS):=by unfold Ghost.val;rw[if_neg (by omega)]
theorem lb_back {n i l:Nat} {tm ps asg body st} (h:δ.ob i=some (.loop l tm ps asg body st)):∀j,(backD n i δ).ob j=if i=j then some (.loop l tm ps asg body .over) else δ.ob j:=by
 intro j
 unfold backD
 rw[h]
 exact lookOb_cons _ _ _ _
theorem Rel.back {g':Ghost} {a2 a':Act} {w w':World} {n i b l:Nat} {tm ps asg body st} {r:Loop} (r2:Rel g' δ κ a2 w) (hwt:g.wt=none) (hwt':g'.wt=none) (hg:g'.B=g.B∧g'.w0=g.w0∧g'.N0=g.N0∧g'.fr=g.fr∧g'.w1=g.w1) (hval:∀j,g'.held (j+HS)=g.val a' j) (hn:a'.tmps.size=n)
  (ho:δ.ob i=some (.loop l tm ps asg body st)) (hκ:κ i=some b) (hr:w.heap[b]? =some (.loop r)) (r':Loop) (hk:r'.tmps=r.tmps∧r'.params=r.params∧r'.assign=r.assign∧r'.body=r.body) (hw:w'=w.putObj b (.loop r'))
  (hd:Dfr g a' w') (hmk:∀d∈a'.defers,∀r,d.target=.collected r→¬g.fr r):Rel g (backD n i δ) κ a' w':=by
 subst hw
 have hlt:b<w.heap.size:=heap_lt hr
 obtain⟨r3,G⟩:=r2.modify (o':=.loop l tm ps asg body .over) ho rfl rfl hκ (wtOk_none hwt' i) (Turns.putObj w b (.loop r')) (by simp) (fun C hC G=>by
  obtain⟨b',r0,h1,h2,hbl,h3,h4,h5,h6,_⟩:=r2.obj i _ ho
  have:b'=b:=Option.some.inj (h1.symm.trans hκ)
  subst this
  rw[hr] at h2
  cases h2
  exact⟨b',r',by rw[hC];exact hκ,World.putObj_heap_same hlt,hbl,hk.1.trans h3,hk.2.1.trans h4,hk.2.2.1.trans h5,hk.2.2.2.trans h6,trivial⟩)
 have hob:∀j,(backD n i δ).ob j=(δ.setOb i (some (.loop l tm ps asg body .over))).ob j:=by
  intro j;rw[lb_back ho,ob_setOb]
 have hcx:(backD n i δ).cx g κ=(δ.setOb i (some (.loop l tm ps asg body .over))).cx g' κ:=by
  have h1:(backD n i δ).live=(δ.setOb i (some (.loop l tm ps asg body .over))).live:=funext fun j=>by unfold DS.live;rw[hob]
  have h2:(backD n i δ).lr=(δ.setOb i (some (.loop l tm ps asg body .over))).lr:=funext fun j=>by unfold DS.lr;rw[hob]
  have h3:(backD n i δ).lb=(δ.setOb i (some (.loop l tm ps asg body .over))).lb:=funext fun j=>by unfold DS.lb;rw[hob]
  unfold DS.cx
  rw[h1,h2,h3,hg.1,hg.2.2.1]
 have hlive:∀j,(backD n i δ).live j↔(δ.setOb i (some (.loop l tm ps asg body .over))).live j:=fun j=>by unfold DS.live;rw[hob]
 exact
  {n:=hn,dfr:=hd
   env:=fun j=>by
    have h1:=r3.env (j+HS)
    rw[val_held,hval j] at h1
    have h2:(backD n i δ).get j=(δ.setOb i (some (.loop l tm ps asg body .over))).get (j+HS):=look_unshift δ.env j
    rw[h2,hcx];exact h1
   obj:=fun j o h=>by rw[hob] at h;rw[hcx];exact r3.obj j o h
   inj:=fun i j b h1 h2=>r3.inj i j b ((hlive i).1 h1) ((hlive j).1 h2)
   lo:=fun j b h1 h2=>by rw[← hg.1];exact r3.lo j b ((hlive j).1 h1) h2
   nx:=fun j h=>r3.nx j ((hlive j).1 h)
   wt:=fun k hk=>by rw[hwt] at hk;cases hk
   below:=by rw[← hg.1,← hg.2.1];exact r3.below
   mkf:=hmk
   fr:=by
    have h1:FrOk g' (backD n i δ).live κ (w.putObj b (.loop r')):=r3.fr.sub fun j b h1 h2=>⟨j,(hlive j).1 h1,h2⟩
    unfold FrOk at h1 ⊢
    rw[← hg.2.2.2.1,← hg.2.2.2.2];exact h1
   hB:=by rw[← hg.1];exact r3.hB
   N0:=by rw[← hg.1,← hg.2.2.1,← hg.2.2.2.1];exact r3.N0}
theorem clo_run {x:Operand} {f:FuncId} {vs us:Array Value} {a:Act} (hx:a.eval x=.func (.func f) vs us) (l:Nat) (w:World):
  (resolve a.eval (rangeCall x l) 0).run P w=.ok {target:=.fn (.func f) us,args:=vs++ #[.func (.yield l) #[] #[]]} w:=by
 have hc:a.eval (.const (.func (.yield l) #[] #[]))=.func (.yield l) #[] #[]:=rfl
 simp [resolve,rangeCall,Deferred.ofValue,hx,hc]
def parE:List Tmp→List AV→List (Nat×AV)→List (Nat×AV)
 |t::ts,v::vs,e=>parE ts vs ((t,v)::e)
 |_,_,e=>e
def roundD (n:Nat) (ps:List Tmp) (avs:List AV) (δ:DS):DS:={n,env:=parE ps avs (ownE δ.env++shiftE δ.env),objs:=δ.objs,nx:=δ.nx}
def roundBack (n:Nat) (δ:DS):DS:={n,env:=unshiftE δ.env,objs:=δ.objs,nx:=δ.nx}
theorem look_append:∀(e1 e2:List (Nat×AV)) (j:Nat),(look (e1++e2) j=look e1 j)∨((∀p∈e1,p.1≠j)∧look (e1++e2) j=look e2 j)
 |[],e2,j=> .inr ⟨by simp,rfl⟩
 |(i,v)::e1,e2,j=>by
  rw[List.cons_append,look_cons,look_cons]
  by_cases e:i=j
  ·rw[if_pos e,if_pos e];exact .inl rfl
  ·rw[if_neg e,if_neg e]
   rcases look_append e1 e2 j with h|⟨h1,h2⟩
   ·exact .inl h
   ·refine .inr ⟨fun p hp=>?_,h2⟩
    rcases List.mem_cons.1 hp with rfl|hp
    ·exact e
    ·exact h1 p hp
theorem look_none:∀(e:List (Nat×AV)) (j:Nat),(∀p∈e,p.1≠j)→look e j=.any
 |[],_,_=>rfl
 |(i,v)::e,j,h=>by rw[look_cons,if_neg (h (i,v) (by simp))];exact look_none e j fun p hp=>h p (by simp [hp])
theorem own_keys:∀(e:List (Nat×AV)),∀p∈ownE e,p.1<HS
 |[],p,h=>by simp [ownE] at h
 |(i,v)::e,p,h=>by
  simp only[ownE] at h
  cases hc:(Nat.ble HS i && Nat.blt i (HS+HS)) with
  |true=>
   rw[hc] at h
   simp only[Bool.and_eq_true] at hc
   have h1:HS≤i:=by simpa using hc.1
   have h2:i<HS+HS:=by simpa using hc.2
   rcases List.mem_cons.1 h with rfl|h
   ·show i - HS<HS;omega
   ·exact own_keys e p h
  |false=>rw[hc] at h;exact own_keys e p h
theorem look_round (e:List (Nat×AV)) (j:Nat):look (ownE e++shiftE e) j=if j<HS then look e (j+HS) else look e (j - HS):=by
 by_cases hj:j<HS
 ·rw[if_pos hj]
  rcases look_append (ownE e) (shiftE e) j with h|⟨h1,h2⟩
  ·rw[h,look_own,if_pos hj]
  ·have h3:=look_none _ _ h1
   rw[look_own,if_pos hj] at h3
   rw[h2,look_shift_lt _ _ hj,h3]
 ·rw[if_neg hj]
  have h1:∀p∈ownE e,p.1≠j:=fun p hp e'=>hj (e'▸own_keys e p hp)
  rcases look_append (ownE e) (shiftE e) j with h|⟨_,h2⟩
  ·rw[look_none _ _ h1] at h
   -- both are any or the other
   have:∀(e1:List (Nat×AV)),(∀p∈e1,p.1≠j)→look (e1++shiftE e) j=look (shiftE e) j:=by
    intro e1 hne
    induction e1 with
    |nil=>rfl
    |cons p e1 ih=>
     rw[List.cons_append]
     show look ((p.1,p.2)::(e1++shiftE e)) j=_
     rw[look_cons,if_neg (hne p (by simp))]
     exact ih fun q hq=>hne q (by simp [hq])
   rw[this _ h1]
   obtain⟨m,rfl⟩:∃m,j=m+HS:=⟨j - HS,by omega⟩
   rw[look_shift,Nat.add_sub_cancel]
  ·rw[h2]
   obtain⟨m,rfl⟩:∃m,j=m+HS:=⟨j - HS,by omega⟩
   rw[look_shift,Nat.add_sub_cancel]
theorem par_ok {C:Cx} {w:World} {hv:Nat→Value}:∀(ps:List Tmp) (vals:List Value) (avs:List AV) (tm:Array Value) (e:List (Nat×AV)),vals.length=ps.length→avs.length=ps.length→
  (∀t∈ps,t<tm.size∧t<HS)→(∀(j:Nat) (u:Value) (v:AV),vals[j]? =some u→avs[j]? =some v→RA C w u v)→
  (∀j,RA C w (if j<HS then tm.getD j undef else hv j) (look e j))→
  ∀j,RA C w (if j<HS then ((ps.zip vals).foldl (fun tmps (t,a)=>tmps.setIfInBounds t a) tm).getD j undef else hv j) (look (parE ps avs e) j)
 |[],[],[],tm,e,_,_,_,_,h=>h
 |t::ps,u::vals,v::avs,tm,e,h1,h2,h3,h4,h=>by
  simp only[List.zip_cons_cons,List.foldl_cons,parE]
  refine par_ok ps vals avs _ _ (by simpa using h1) (by simpa using h2) (fun t' ht'=>by simpa using h3 t' (by simp [ht'])) (fun j x y hx hy=>h4 (j+1) x y (by simpa using hx) (by simpa using hy)) (fun j=>?_)
  rw[look_cons]
  by_cases e':t=j
  ·subst e'
   obtain⟨h5,h6⟩:=h3 t (by simp)
   rw[if_pos rfl,if_pos h6,Array.getD_eq_getD_getElem?,Array.getElem?_setIfInBounds,if_pos rfl,if_pos h5]
   exact h4 0 u v rfl rfl
  ·rw[if_neg e']
   have:=h j
   by_cases hj:j<HS
   ·rw[if_pos hj] at this ⊢
    rw[Array.getD_eq_getD_getElem?,Array.getElem?_setIfInBounds,if_neg e',← Array.getD_eq_getD_getElem?]
    exact this
   ·rw[if_neg hj] at this ⊢;exact this
 |[],_::_,_,_,_,h,_,_,_,_=>by simp at h
 |[],[],_::_,_,_,_,h,_,_,_=>by simp at h
 |_::_,[],_,_,_,h,_,_,_,_=>by simp at h
 |_::_,_::_,[],_,_,_,h,_,_,_=>by simp at h
theorem par_size:∀(l:List (Tmp×Value)) (tm:Array Value),(l.foldl (fun tmps (t,a)=>tmps.setIfInBounds t a) tm).size=tm.size
 |[],_=>rfl
 |(t,a)::l,tm=>by simp only[List.foldl_cons];rw[par_size l];simp
def isLp (δ:DS) (i l:Nat) (st:LpSt):Prop:=∃tm ps asg body,δ.ob i=some (.loop l tm ps asg body st)
def DS.lpSt (δ:DS) (i:Nat) (st:LpSt):DS:=match δ.ob i with|some (.loop l tm ps asg body _)=>δ.setOb i (some (.loop l tm ps asg body st))|_=>δ
def roundEnds (n i l:Nat) (K:Bool→LpSt→DS→Prop):Exit→DS→Prop
 |.normal,δ=>isLp δ i l .busy∧K true .ready (roundBack n δ)
 |.ret,δ=>isLp δ i l .busy∧K false (.done .ret) (roundBack n δ)
 |.exit id,δ=>isLp δ i l .busy∧K false (.done (.exit id)) (roundBack n δ)
 |_,_=>False
theorem Rel.lpSt {i l:Nat} {st st':LpSt} {rl r':Loop} (hwt:g.wt=none) (r:Rel g δ κ a w) (h:isLp δ i l st) (hr:w.heap[l]? =some (.loop rl)) (hk:r'.tmps=rl.tmps∧r'.params=rl.params∧r'.assign=rl.assign∧r'.body=rl.body)
  (hst:match st' with|.ready=>r'.state=.ready∧r'.pending=none|.busy=>r'.state=.busy|.done c=>r'.state=.done∧r'.pending=some c|.over=>True):Rel g (δ.lpSt i st') κ a (w.putObj l (.loop r')):=by
 obtain⟨tm,ps,asg,body,ho⟩:=h
 obtain⟨b,r0,h1,h2,hbl,h3,h4,h5,h6,_⟩:=r.obj i _ ho
 have h1':κ i=some b:=h1
 subst hbl
 rw[hr] at h2
 cases h2
 obtain⟨r3,G⟩:=r.modify (o':=.loop b tm ps asg body st') ho rfl rfl h1' (wtOk_none hwt i) (Turns.putObj w b (.loop r')) (by simp) (fun C hC G=>
  ⟨b,r',by rw[hC];exact h1',World.putObj_heap_same (heap_lt hr),rfl,hk.1.trans h3,hk.2.1.trans h4,hk.2.2.1.trans h5,hk.2.2.2.trans h6,hst⟩)
 unfold DS.lpSt
 rw[ho]
 exact r3
theorem Rel.frame {g':Ghost} {a2 a':Act} {n:Nat} (r2:Rel g' δ κ a2 w) (hwt:g.wt=none) (hwt':g'.wt=none) (hg:g'.B=g.B∧g'.w0=g.w0∧g'.N0=g.N0∧g'.fr=g.fr∧g'.w1=g.w1) (hval:∀j,g'.held (j+HS)=g.val a' j) (hn:a'.tmps.size=n) (hd:Dfr g a' w) (hmk:∀d∈a'.defers,∀r,d.target=.collected r→¬g.fr r):Rel g (roundBack n δ) κ a' w:=by
 have hcx:(roundBack n δ).cx g κ=δ.cx g' κ:=by
  show(δ.cx g κ)=_
  unfold DS.cx
  rw[hg.1,hg.2.2.1]
 exact
  {n:=hn,dfr:=hd
   env:=fun j=>by
    have h1:=r2.env (j+HS)
    rw[val_held,hval j] at h1
    have h2:(roundBack n δ).get j=δ.get (j+HS):=look_unshift δ.env j
    rw[h2,hcx];exact h1
   obj:=fun j o h=>by rw[hcx];exact r2.obj j o h
   inj:=r2.inj
   lo:=fun j b h1 h2=>by rw[← hg.1];exact r2.lo j b h1 h2
   nx:=r2.nx
   wt:=fun k hk=>by rw[hwt] at hk;cases hk
   below:=by rw[← hg.1,← hg.2.1];exact r2.below
   mkf:=hmk
   fr:=by
    have h1:FrOk g' δ.live κ w:=r2.fr
    unfold FrOk at h1 ⊢
    rw[← hg.2.2.2.1,← hg.2.2.2.2];exact h1
   hB:=by rw[← hg.1];exact r2.hB
   N0:=by rw[← hg.1,← hg.2.2.1,← hg.2.2.2.1];exact r2.N0}
theorem run_yieldOp {x:Operand} {ys:Array Operand} {tys:Array TypeId} {l:Nat} {r:Loop} {a:Act} (hx:a.eval x=.func (.yield l) #[] #[]) (h:w.heap[l]? =some (.loop r)) (hs:ys.size=r.params.size):
  (execOp a.eval ⟨dst,.call {callee:=.value x,args:=ys,argTypes:=tys},ty,pos,af,none⟩).run P w=
   .ok (.round l r.fn ((r.params.zip (ys.map a.eval)).foldl (fun tmps (t,a)=>tmps.setIfInBounds t a) r.tmps) r.assign r.body) w:=by
 have:=run_yield (P:=P) (w:=w) (args:=ys.map a.eval) h (by simpa using hs)
 simp only[execOp,resolve,Deferred.ofValue,hx,invoke,Sem.run_bind,Sem.run_pure,Result.andThen_ok,Array.empty_append]
 exact this
theorem AOps.yield {x:Operand} {ys:List Operand} {tys:Array TypeId} {i l n0:Nat} {tm:Array Value} {ps:List Tmp} {asg body:Code} (hro:g.ro=none) (hwt:g.wt=none) (hheld:∀j,j<HS→g.held (j+HS)=tm.getD j undef) (htm:tm.size=n0) (hn0:Nat.ble n0 HS=true)
  (hx:δ.ev x=.yld i) (hob:δ.ob i=some (.loop l tm ps.toArray asg body .ready)) (ho:okT x=true) (hys:ys.all okT=true) (hlen:Nat.beq ys.length ps.length=true) (hps:ps.all (fun t=>Nat.blt t n0)=true) (hd':okD δ.n dst=true)
  (h:∀g':Ghost,g'.ro=some l→g'.wt=none→AW P g' asg (thenD (fun δ1=>isLp δ1 i l .ready∧AW P g' body (roundEnds δ.n i l (fun b st δ2=>AOps .plain P g ops rest Q ((δ2.lpSt i st).putd dst (litB b)))) (δ1.lpSt i .busy)) (fun _ _=>False)) (roundD n0 ps (ys.map δ.ev) δ)):
  AOps .plain P g ops (⟨dst,.call {callee:=.value x,args:=ys.toArray,argTypes:=tys},ty,pos,af,none⟩::rest) Q δ:=by
 intro κ a w r
 have hra:=r.ra hx ho
 generalize hv:a.eval x=v at hra
 cases hra with
 | @yld _ b hl hκ=>
  obtain⟨b',rl,h1,h2,hbl,h3,h4,h5,h6,h7⟩:=r.obj _ _ hob
  have:b'=b:=Option.some.inj (h1.symm.trans hκ)
  subst this
  subst hbl
  obtain⟨ms,hm1,hm2,hm3⟩:=r.dfr
  have hlen':ys.length=ps.length:=Nat.eq_of_beq_eq_true hlen
  show wpListIn _ _ P ops _ (_::rest) a w
  refine wpl_plain rfl rfl fun K hK'=>?_
  unfold Oper.wpF
  rw[run_yieldOp hv h2 (by rw[h4];simpa using hlen'),Oper.uponIn_round,hro]
  refine⟨fun h=>by simp at h,?_⟩
  let tm':Array Value:=(rl.params.zip (ys.toArray.map a.eval)).foldl (fun tmps (t,a)=>tmps.setIfInBounds t a) rl.tmps
  have htm':tm'=(ps.zip (ys.map a.eval)).foldl (fun tmps (t,a)=>tmps.setIfInBounds t a) tm:=by
   show(rl.params.zip (ys.toArray.map a.eval)).foldl _ rl.tmps=_
   rw[h3,h4,← Array.foldl_toList,Array.toList_zip]
   simp
  let g':Ghost:={B:=g.B,w0:=g.w0,N0:=g.N0,held:=fun j=>g.val a (j - HS),ro:=some b',mks:=ms++g.mks,wt:=none,fr:=g.fr,w1:=g.w1}
  have hheld':∀j,g'.held (j+HS)=g.val a j:=fun j=>congrArg (g.val a) (Nat.add_sub_cancel j HS)
  have hrel:Rel g' (roundD n0 ps (ys.map δ.ev) δ) κ {tmps:=tm',defers:=[]} w:=
   {n:=by show tm'.size=n0;rw[htm',par_size];exact htm
    dfr:=⟨[],rfl,hm2,hm3⟩
    env:=fun j=>by
     have hp:=par_ok (C:=δ.cx g κ) (w:=w) (hv:=g'.held) ps (ys.map a.eval) (ys.map δ.ev) tm (ownE δ.env++shiftE δ.env) (by simpa using hlen') (by simpa using hlen')
      (fun t ht=>by
       have h8:=(List.all_eq_true.1 hps) t ht
       have h9:t<n0:=by simpa using h8
       have h10:n0≤HS:=by simpa using hn0
       exact⟨htm▸h9,Nat.lt_of_lt_of_le h9 h10⟩)
      (fun j u v h8 h9=>by
       simp only[List.getElem?_map,Option.map_eq_some_iff] at h8 h9
       obtain⟨y,h8,rfl⟩:=h8
       obtain⟨y',h9,rfl⟩:=h9
       rw[h8] at h9;cases h9
       exact r.evc y (okT_spec ((List.all_eq_true.1 hys) y (List.mem_of_getElem? h8))))
      (fun j=>by
       rw[look_round]
       by_cases hj:j<HS
       ·rw[if_pos hj,if_pos hj,← hheld j hj,← val_held]
        exact r.env (j+HS)
       ·rw[if_neg hj,if_neg hj]
        exact r.env (j - HS)) j
     rw[← htm'] at hp
     exact hp
    obj:=r.obj,inj:=r.inj,lo:=r.lo,nx:=r.nx,wt:=fun k hk=>(by cases hk),below:=r.below,hB:=r.hB,N0:=r.N0,fr:=r.fr,mkf:=fun d hd=>by cases hd}
  rw[h5,h6]
  refine roundIn_of_wpIn (F:=Fw none) trivial (wpIn_mono (h g' rfl rfl κ _ w hrel) ?_)
  rintro e a1 w1 ⟨δ1,κ1,hq,r1⟩
  cases e with
  |normal=>
   obtain⟨hlp,hq⟩:=hq
   have hlp0:=hlp
   obtain⟨tm1,ps1,asg1,body1,ho1⟩:=hlp
   obtain⟨b1,rl1,k1,k2,kbl,k3,k4,k5,k6,k7⟩:=r1.obj _ _ ho1
   subst kbl
   have r1':=r1.lpSt rfl (st':=.busy) (r':={rl1 with state:=.busy}) hlp0 k2 ⟨rfl,rfl,rfl,rfl⟩ rfl
   refine⟨_,run_beginRound k2 k7.1,wpIn_mono (hq κ1 a1 _ r1') ?_⟩
   rintro e2 a2 w2 ⟨δ2,κ2,hq2,r2⟩
   have fin:∀(jump:Option Code) (st:LpSt) (bb:Bool),bb=jump.isNone→isLp δ2 i b1 .busy→AOps .plain P g ops rest Q (((roundBack δ.n δ2).lpSt i st).putd dst (litB bb))→
     (match st with|.ready=>jump=none|.done c=>jump=some c|_=>False)→
     ∃v w',(Instr.endRound b1 jump).run P w2=.ok v w'∧K (a.put dst v) w':=by
    intro jump st bb hbb hl2 hA hst
    have hl20:=hl2
    obtain⟨tm2,ps2,asg2,body2,ho2⟩:=hl2
    obtain⟨b2,rl2,m1,m2,mbl,m3,m4,m5,m6,m7⟩:=r2.obj _ _ ho2
    subst mbl
    have r3:=r2.lpSt rfl (st':=st) (r':={rl2 with state:=if jump.isNone then .ready else .done,pending:=jump}) hl20 m2 ⟨rfl,rfl,rfl,rfl⟩ (by
     cases st with
     |ready=>simp only at hst;subst hst;exact⟨rfl,rfl⟩
     |done c=>simp only at hst;subst hst;exact⟨rfl,rfl⟩
     |_=>exact hst.elim)
    refine⟨_,_,run_endRound jump m2,?_⟩
    have hd:Dfr g a (w2.putObj b2 (.loop {rl2 with state:=if jump.isNone then .ready else .done,pending:=jump})):=by
     obtain⟨rs4,k1,k2,k3⟩:=r3.dfr
     exact⟨ms,hm1,(List.nodup_append.1 k2).2.1,fun k hk=>k3 k (List.mem_append.2 (.inr hk))⟩
    have r4:=r3.frame (g:=g) (a':=a) (n:=δ.n) hwt rfl ⟨rfl,rfl,rfl,rfl,rfl⟩ hheld' r.n hd r.mkf
    have he:roundBack δ.n (δ2.lpSt i st)=(roundBack δ.n δ2).lpSt i st:=by
     unfold DS.lpSt
     have:(roundBack δ.n δ2).ob i=δ2.ob i:=rfl
     rw[this,ho2];rfl
    rw[he] at r4
    subst hbb
    have hnn:((roundBack δ.n δ2).lpSt i st).n=δ.n:=by
     unfold DS.lpSt
     have:(roundBack δ.n δ2).ob i=δ2.ob i:=rfl
     rw[this,ho2];rfl
    exact hK' _ _ (hA κ2 _ _ (r4.putd (v:=.bool jump.isNone) (okD_spec (by rw[hnn];exact hd')) (.pv (.lit _))))
   cases e2 with
   |normal=>exact fin none .ready true rfl hq2.1 hq2.2 rfl
   |ret=>exact fin (some .ret) (.done .ret) false rfl hq2.1 hq2.2 rfl
   |exit id=>exact fin (some (.exit id)) (.done (.exit id)) false rfl hq2.1 hq2.2 rfl
   |_=>exact hq2.elim
  |_=>exact hq.elim
end Go.Ab
/- Calls walked in place:the callee's body over the caller's own objects. -/
namespace Go.Ab
open Go Go.RowKit
attribute [local irreducible] HS
variable {P:Program} {g:Ghost} {δ:DS} {κ:Nat→Option Nat} {a:Act} {w:World}
variable {ops:Array Oper} {rest:List Oper} {Q:Exit→DS→Prop} {dst:Option Nat} {ty:TypeId} {pos:String} {af:Array Edge}
theorem look_enum_shift (l:List AV) (e:List (Nat×AV)) (hl:l.length≤HS) (j:Nat):look (enum 0 l++shiftE e) j=if j<HS then look (enum 0 l) j else look e (j - HS):=by
 have happ:∀(l:List AV) (i:Nat),(∀j,i+l.length≤j∨j<i→look (enum i l++shiftE e) j=look (shiftE e) j)∧(∀j,i≤j→j<i+l.length→look (enum i l++shiftE e) j=look (enum i l) j):=by
  intro l
  induction l with
  |nil=>intro i;exact⟨fun j _=>rfl,fun j h1 h2=>by simp at h2;omega⟩
  |cons v l ih=>
   intro i
   obtain⟨h1,h2⟩:=ih (i+1)
   simp only[List.length_cons]
   refine⟨fun j hj=>?_,fun j h3 h4=>?_⟩
   ·show look ((i,v)::(enum (i+1) l++shiftE e)) j=_
    rw[look_cons,if_neg (by omega)]
    exact h1 j (by omega)
   ·show look ((i,v)::(enum (i+1) l++shiftE e)) j=look ((i,v)::enum (i+1) l) j
    rw[look_cons,look_cons]
    by_cases e:i=j
    ·rw[if_pos e,if_pos e]
    ·rw[if_neg e,if_neg e]
     exact h2 j (by omega) (by omega)
 obtain⟨h1,h2⟩:=happ l 0
 by_cases hj:j<HS
 ·rw[if_pos hj]
  by_cases hj2:j<l.length
  ·exact h2 j (Nat.zero_le _) (by omega)
  ·rw[h1 j (by omega),look_shift_lt _ _ hj,look_enum_out l 0 j (by omega)]
 ·rw[if_neg hj,h1 j (by omega)]
  obtain⟨m,rfl⟩:∃m,j=m+HS:=⟨j - HS,by omega⟩
  rw[look_shift,Nat.add_sub_cancel]
def inlEnds (P:Program) (rs:List ResultVar) (n:Nat) (dst:Option Nat) (K:DS→Prop):Exit→DS→Prop
 |.normal,δ|.ret,δ=>∃v,Res P δ rs v∧K ((roundBack n δ).putd dst v)
 |_,_=>False
theorem inlEnds_r {rs:List ResultVar} {n:Nat} {K:DS→Prop} {v:AV} (h:Res P δ rs v) (hK:K ((roundBack n δ).putd dst v)):inlEnds P rs n dst K .ret δ:=⟨v,h,hK⟩
theorem run_callv {gd:Option (Tmp×Bool)} {x:Operand} {f:FuncId} {vs us:Array Value} {xs:Array Operand} {tys:Array TypeId} {ρ:Operand→Value} (hx:ρ x=.func (.func f) vs us) (he:∀vals w,(callFunc f vals).run P w=.ok (.enter f vals) w) (w:World):
  (execOp ρ ⟨dst,.call {callee:=.value x,args:=xs,argTypes:=tys},ty,pos,af,gd⟩).run P w=.ok (.enter f (vs++xs.map ρ++us)) w:=by
 simp [execOp,resolve,Deferred.ofValue,invoke,hx,he]
theorem AOps.inline {x:Operand} {xs:List Operand} {tys:Array TypeId} {f:FuncId} {first cap:List AV} {fn:Func} {c:Code} {n':Nat} {rs:List ResultVar} (hwt:g.wt=none) (hx:δ.ev x=.clo (.func f) first cap) (ho:okT x=true) (hos:xs.all okT=true)
  (hf:P.funcs[f]? =some fn) (hb:fn.body=some c) (hrs:fn.results=rs.toArray) (hn:fn.ntmps=n') (hle:Nat.ble (first.length+xs.length+cap.length) n'=true) (hnH:Nat.ble n' HS=true) (hd:okD δ.n dst=true) (he:(fn.name== "runtime.NumGoroutine")=false)
  (h:∀g':Ghost,g'.ro=none→g'.wt=none→AW P g' c (inlEnds P rs δ.n dst fun δ2=>AOps .plain P g ops rest Q δ2) {n:=n',env:=enum 0 (first++xs.map δ.ev++cap)++shiftE δ.env,objs:=δ.objs,nx:=δ.nx}):
  AOps .plain P g ops (⟨dst,.call {callee:=.value x,args:=xs.toArray,argTypes:=tys},ty,pos,af,none⟩::rest) Q δ:=by
 intro κ a w r
 have hra:=r.ra hx ho
 generalize hv:a.eval x=v at hra
 cases hra with
 | @clo _ vs us _ _ hs hvs ht hus=>
  have hle':first.length+xs.length+cap.length≤n':=by simpa using hle
  have hnH':n'≤HS:=by simpa using hnH
  obtain⟨ms,hm1,hm2,hm3⟩:=r.dfr
  have hent:∀vals w,(callFunc f vals).run P w=.ok (.enter f vals) w:=fun vals w=>by simp [callFunc,hf,hb];simpa using he
  show wpListIn _ _ P ops _ (_::rest) a w
  refine wpl_plain rfl rfl fun K hK'=>?_
  unfold Oper.wpF
  rw[run_callv hv hent,Oper.uponIn_enter]
  refine⟨fun h=>by simp at h,?_⟩
  let args:Array Value:=vs++xs.toArray.map a.eval++us
  let avs:List AV:=first++xs.map δ.ev++cap
  have hsz:args.size=avs.length:=by simp [args,avs];omega
  have hal:avs.length=first.length+xs.length+cap.length:=by simp [avs];omega
  let g':Ghost:={B:=g.B,w0:=g.w0,N0:=g.N0,held:=fun j=>g.val a (j - HS),ro:=none,mks:=ms++g.mks,wt:=none,fr:=g.fr,w1:=g.w1}
  let δ2:DS:={n:=n',env:=enum 0 avs++shiftE δ.env,objs:=δ.objs,nx:=δ.nx}
  have hargs:∀(j:Nat) (u:Value) (av:AV),args[j]? =some u→avs[j]? =some av→RA (δ.cx g κ) w u av:=by
   intro j u av h1 h2
   simp only[args] at h1
   simp only[avs] at h2
   by_cases hj:j<first.length+xs.length
   ·rw[List.getElem?_append_left (by simp;omega)] at h2
    rw[Array.getElem?_append_left (by simp;omega)] at h1
    by_cases hj1:j<first.length
    ·rw[List.getElem?_append_left hj1] at h2
     rw[Array.getElem?_append_left (by omega)] at h1
     exact hvs j u av h1 h2
    ·rw[List.getElem?_append_right (by omega)] at h2
     rw[Array.getElem?_append_right (by omega),hs] at h1
     simp only[List.map_toArray,List.getElem?_toArray,List.getElem?_map,Option.map_eq_some_iff] at h1 h2
     obtain⟨y,h3,rfl⟩:=h1
     obtain⟨y',h4,rfl⟩:=h2
     rw[h3] at h4;cases h4
     exact r.evc y (okT_spec ((List.all_eq_true.1 hos) y (List.mem_of_getElem? h3)))
   ·rw[List.getElem?_append_right (by simp;omega)] at h2
    rw[Array.getElem?_append_right (by simp;omega)] at h1
    have e1:(vs++xs.toArray.map a.eval).size=(first++xs.map δ.ev).length:=by simp;omega
    rw[e1] at h1
    exact hus _ u av h1 h2
  have hrel:Rel g' δ2 κ {tmps:=args++Array.replicate (fn.ntmps - args.size) undef,defers:=[]} w:=
   {n:=by show(args++Array.replicate (fn.ntmps - args.size) undef).size=n';rw[Array.size_append,Array.size_replicate,hn,hsz];omega
    dfr:=⟨[],rfl,hm2,hm3⟩
    env:=fun j=>by
     show RA (δ.cx g κ) w _ (look (enum 0 avs++shiftE δ.env) j)
     rw[look_enum_shift avs δ.env (by omega)]
     unfold Ghost.val
     by_cases hj:j<HS
     ·rw[if_pos hj,if_pos hj]
      show RA (δ.cx g κ) w ((args++Array.replicate (fn.ntmps - args.size) undef).getD j undef) _
      by_cases hja:j<avs.length
      ·have hav:(args++Array.replicate (fn.ntmps - args.size) undef).getD j undef=args[j]:=by
        rw[Array.getD_eq_getD_getElem?,Array.getElem?_append_left (by omega),Array.getElem?_eq_getElem (by omega)];rfl
       rw[hav,look_enum avs 0 j avs[j] (Nat.zero_le _) (by rw[Nat.sub_zero];exact List.getElem?_eq_getElem hja)]
       exact hargs j _ _ (Array.getElem?_eq_getElem (by omega)) (List.getElem?_eq_getElem hja)
      ·rw[look_enum_out avs 0 j (by omega)];exact .any _
     ·rw[if_neg hj,if_neg hj]
      exact r.env (j - HS)
    obj:=r.obj,inj:=r.inj,lo:=r.lo,nx:=r.nx,wt:=fun k hk=>(by cases hk),below:=r.below,hB:=r.hB,N0:=r.N0,fr:=r.fr,mkf:=fun d hd=>by cases hd}
  refine(show CallsIn (Fw none) (0 - 1) P f args w _ from callsIn_of_wp_marks (n:=0) hf hb trivial (wpIn_mono (h g' rfl rfl κ _ w hrel) ?_))
  rintro e a2 w2 ⟨δ3,κ3,hq,r3⟩
  have fin:∀v,Res P δ3 rs v→AOps .plain P g ops rest Q ((roundBack δ.n δ3).putd dst v)→LeavesInM (Fw none) 0 P fn a2.tmps (fun
    |.returned v,w''=>K (a.put dst v) w''
    |.panicked chain,w''=>lift g Q (.panic chain) a w''
    |.outgrown,_=>LetsOut (lift g Q)) a2.defers .returning w2:=by
   intro v h1 h2
   refine leaves (g:=g') rfl rfl hrs h1 r3 (fun w4 r4 u hu=>?_)
   have hd4:Dfr g a w4:=by
    obtain⟨rs4,k1,k2,k3⟩:=r4.dfr
    exact⟨ms,hm1,(List.nodup_append.1 k2).2.1,fun k hk=>k3 k (List.mem_append.2 (.inr hk))⟩
   have r5:=r4.frame (g:=g) (a':=a) (n:=δ.n) hwt rfl ⟨rfl,rfl,rfl,rfl,rfl⟩ (fun j=>congrArg (g.val a) (Nat.add_sub_cancel j HS)) r.n hd4 r.mkf
   exact hK' _ _ (h2 κ3 _ _ (r5.putd (okD_spec hd) hu))
  cases e with
  |normal=>obtain⟨v,h1,h2⟩:=hq;exact fin v h1 h2
  |ret=>obtain⟨v,h1,h2⟩:=hq;exact fin v h1 h2
  |_=>exact hq.elim
end Go.Ab
namespace Go.Ab
section
variable {P:Program} {δ:DS} {n:Nat} {dst:Option Nat} {K:DS→Prop} {t t':Tmp}
theorem inlEnds_rpv {p:PV} (ht:Nat.blt t HS=true) (h:δ.get t=.pv p) (hK:K ((roundBack n δ).putd dst (.pv p))):inlEnds P [.tmp t] n dst K .ret δ:=inlEnds_r (.one (.tmp ht h)) hK
theorem inlEnds_rown {i e k els} (ht:Nat.blt t HS=true) (h:δ.get t=.own i e k els) (hK:K ((roundBack n δ).putd dst (.own i e k els))):inlEnds P [.tmp t] n dst K .ret δ:=inlEnds_r (.one (.tmp ht h)) hK
end
end Go.Ab
/- Regions that draw their order and hold operations with an effect:what only reads is taken first,the rest is walked in each order. -/
namespace Go.Ab
open Go Go.RowKit
variable {P:Program} {g:Ghost} {δ:DS} {κ:Nat→Option Nat} {a:Act} {w:World}
variable {ops:Array Oper} {Q:Exit→Act→World→Prop} {ro:Option Nat}
theorem wpOpIn_swap {j:Nat} {oi oj:Oper} {v:Value} {I:Act→Prop} (hj:ops[j]? =some oj) (hnd:noDefer oj=true) (hap:oi.apart ops oj=true)
  (hsj:∀cs b,oj.op≠ .select cs b) (hQ:∀c a w,Q (.panic c) (a.put oi.dst v) w→Q (.panic c) a w) (keep:∀a u,I a→I (a.put oj.dst u)) (keepD:∀(a:Act) d,I a→I {a with defers:=d::a.defers}) {K:Act→World→Prop} {a:Act} {w:World}
  (hy:I a) (h:wpOpIn (Fw ro) 0 P ops Q j K (a.put oi.dst v) w):wpOpIn (Fw ro) 0 P ops Q j (fun a' w'=>I a'∧K (a'.put oi.dst v) w') a w:=by
 obtain⟨h1,h2,h3⟩:=Oper.apart_spec hap
 unfold wpOpIn at*
 simp only[hj] at*
 rw[wanted_put oj a oi.dst v h1,about_put oj w a oi.dst v h1] at h
 have hsem:∀ρ,oj.semAt (Fw ro).round ρ=execOp ρ oj:=fun ρ=>Oper.semAt_eq _ _ _ (by intro c e;simp [noDefer,e] at hnd)
 split
 ·rename_i hw
  simp only[hw,if_true] at h
  unfold Oper.wpIn at*
  rw[about_put oj w a oi.dst v h1] at h
  refine⟨h.1,?_⟩
  have h:=h.2
  rw[hsem,execOp_put oj hsj a oi.dst v h1] at h
  rw[hsem]
  generalize (execOp a.eval oj).run P w=r at*
  cases r with
  |ok x w'=>
   cases x<;>simp only[Oper.uponIn] at h ⊢
   case value u=>exact⟨keep a u hy,by rw[← Act.put_comm a v u h2];exact h⟩
   case skip=>exact⟨keep a _ hy,by rw[← Act.put_comm a v undef h2];exact h⟩
   case defer d=>
    refine⟨keep _ _ (keepD _ _ hy),?_⟩
    rw[← Act.put_comm _ v undef h2,← Act.put_defers]
    exact h
   case enter f args=>
    refine⟨h.1,CallsIn.mono h.2 fun e w'' he=>?_⟩
    cases e with
    |returned u=>exact⟨keep a u hy,by rw[← Act.put_comm a v u h2];exact he⟩
    |panicked c=>exact hQ _ _ _ he
    |outgrown=>exact he
   case row row args=>exact⟨h.1,RowsIn.mono h.2 fun u w'' he=>⟨keep a u hy,by rw[← Act.put_comm a v u h2];exact he⟩⟩
   case round l f tmps assign body=>
    refine⟨h.1,RoundIn.mono h.2 fun e w'' he=>?_⟩
    cases e with
    |returned u=>exact⟨keep a u hy,by rw[← Act.put_comm a v u h2];exact he⟩
    |panicked c=>exact hQ _ _ _ he
    |outgrown=>exact he
  |halt x w'=>
   cases x<;>simp only[Oper.uponIn] at h ⊢
   case panic u=>exact hQ _ _ _ h
 ·rename_i hw
  simp only[hw] at h
  exact⟨h.1,keep a _ hy,by rw[← Act.put_comm a v undef h2];exact h.2⟩
def wpAnyL (ro:Option Nat) (P:Program) (ops:Array Oper) (Q:Exit→Act→World→Prop) (S:Array Bool→World→Prop):Nat→Array Bool→Act→World→Prop
 |0,listed,a,w=>Region.ready .any ops listed=[]∧Q .normal a w
 |fuel+1,listed,a,w=>
  (Region.ready .any ops listed=[]→Q .normal a w)∧
  ∀i∈Region.ready .any ops listed,wpOpIn (Fw ro) 0 P ops Q i (fun a' w'=>S (listed.setIfInBounds i true) w'∧wpAnyL ro P ops Q S fuel (listed.setIfInBounds i true) a' w') a w
theorem wpAny_of_L {S:Array Bool→World→Prop}:∀(fuel:Nat) (listed:Array Bool) (a:Act) (w:World),wpAnyL ro P ops Q S fuel listed a w→wpAnyIn (Fw ro) 0 P .any ops Q fuel listed a w
 |0,_,_,_,h=>h
 |fuel+1,_,_,_,h=>⟨h.1,fun i hi=>wpOpIn_mono (fun a' w' h'=>wpAny_of_L fuel _ a' w' h'.2) (h.2 i hi)⟩
def DC (ops:Array Oper) (listed:Array Bool):Prop:=∀j o,ops[j]? =some o→listed.getD j false=true→∀e∈o.after,Region.binds .any e=true→listed.getD e.on false=true
theorem getD_set (listed:Array Bool) (i j:Nat) (d:Bool):(listed.setIfInBounds i true).getD j d=if i=j then (if i<listed.size then true else d) else listed.getD j d:=by
 by_cases h:i=j
 ·subst h
  rw[if_pos rfl]
  by_cases hlt:i<listed.size
  ·simp [hlt]
  ·simp [hlt]
 ·rw[if_neg h];exact getD_set_ne d h
theorem DC.ready {listed:Array Bool} (h:DC ops listed) {i:Nat} (hi:i∈Region.ready .any ops listed):DC ops (listed.setIfInBounds i true):=by
 intro j o ho hj e he hb
 obtain⟨_,o',ho',hall⟩:=mem_ready.1 hi
 by_cases hij:i=j
 ·subst hij
  rw[ho'] at ho;cases ho
  exact getD_set_true (hall e he hb)
 ·rw[getD_set_ne false hij] at hj
  exact getD_set_true (h j o ho hj e he hb)
theorem wpAnyL_first {S:Array Bool→World→Prop} {C:World→Prop} {i:Nat} {oi:Oper} {v:Value} (hi:ops[i]? =some oi) (hsel:∀(j:Nat) (o:Oper) cs b,ops[j]? =some o→o.op≠ .select cs b) (hnd:∀(j:Nat) (o:Oper),ops[j]? =some o→noDefer o=true)
  (hQ:∀c a w,Q (.panic c) (a.put oi.dst v) w→Q (.panic c) a w)
  (hC:∀listed w,DC ops listed→listed.getD i true=false→S listed w→C w) (hS:∀listed w,S (listed.setIfInBounds i true) w↔S listed w):
  ∀(fuel:Nat) (listed:Array Bool) (a:Act) (w:World),DC ops listed→
   (∀j oj,ops[j]? =some oj→j≠i→listed.getD j true=false→(∀e∈oj.after,Region.binds .any e=true→e.on≠i)→oi.apart ops oj=true)→
   i∈Region.ready .any ops listed→YieldsIf P ops C oi v a→S listed w→
   wpAnyL ro P ops Q S fuel (listed.setIfInBounds i true) (a.put oi.dst v) w→wpAnyL ro P ops Q S (fuel+1) listed a w:=by
 have hone:∀{K:Act→World→Prop} {a:Act} {w:World},YieldsIf P ops C oi v a→C w→K (a.put oi.dst v) w→wpOpIn (Fw ro) 0 P ops Q i K a w:=by
  intro K a w hy hw hk
  unfold wpOpIn
  simp only[hi]
  rcases hy with ⟨hwd,hv⟩|⟨hwd,rfl⟩
  ·simp only[hwd,if_true,Oper.wpIn]
   refine⟨fun _ _=>trivial,?_⟩
   rw[Oper.semAt_eq _ _ _ (by intro c e;have:=hnd i oi hi;simp [noDefer,e] at this),hv w hw]
   exact hk
  ·simp only[hwd,Bool.false_eq_true,if_false];exact⟨fun _ _=>trivial,hk⟩
 intro fuel
 induction fuel with
 |zero=>
  intro listed a w hdc _ hr hy hSw H
  refine⟨fun h=>(by rw[h] at hr;cases hr),fun j hj=>?_⟩
  by_cases hji:j=i
  ·subst hji;exact hone hy (hC listed w hdc (mem_ready.1 hr).1 hSw) ⟨(hS _ _).2 hSw,H⟩
  ·have:=ready_mono hj hji
   rw[H.1] at this
   cases this
 |succ fuel ih=>
  intro listed a w hdc hfree hr hy hSw H
  refine⟨fun h=>(by rw[h] at hr;cases hr),fun j hj=>?_⟩
  by_cases hji:j=i
  ·subst hji;exact hone hy (hC listed w hdc (mem_ready.1 hr).1 hSw) ⟨(hS _ _).2 hSw,H⟩
  ·have h1:=H.2 j (ready_mono hj hji)
   obtain⟨hjun,oj,hoj,hall⟩:=mem_ready.1 hj
   have hnot:∀e∈oj.after,Region.binds .any e=true→e.on≠i:=fun e he hb heq=>by
    have h1:=hall e he hb
    have h0:=(mem_ready.1 hr).1
    rw[heq] at h1
    rcases Nat.lt_or_ge i listed.size with h'|h'
    ·simp [h'] at h0 h1;rw[h0] at h1;cases h1
    ·simp [Array.getElem?_eq_none h'] at h1
   have hap:=hfree j oj hoj hji hjun hnot
   obtain⟨_,_,h3⟩:=Oper.apart_spec hap
   have h2:=wpOpIn_swap (I:=YieldsIf P ops C oi v) hoj (hnd j oj hoj) hap (fun cs b=>hsel j oj cs b hoj) hQ
    (fun a u hy=>hy.of_same (execOp_put oi (fun cs b=>hsel i oi cs b hi) a oj.dst u h3) (wanted_put oi a oj.dst u h3)) (fun a d hy=>hy.of_same rfl rfl) hy h1
   have hfree':∀k ok,ops[k]? =some ok→k≠i→(listed.setIfInBounds j true).getD k true=false→
     (∀e∈ok.after,Region.binds .any e=true→e.on≠i)→oi.apart ops ok=true:=fun k ok hk hki hun hno=>by
    refine hfree k ok hk hki ?_ hno
    by_cases hjk:j=k
    ·subst hjk;exact hjun
    ·rw[getD_set_ne true hjk] at hun;exact hun
   refine wpOpIn_mono (fun a' w' h3=>?_) h2
   obtain⟨h4,h5,h6⟩:=h3
   rw[Array.setIfInBounds_comm _ _ (Ne.symm hji)] at h5 h6
   have h7:=(hS _ _).1 h5
   exact⟨h7,ih (listed.setIfInBounds j true) a' w' (hdc.ready hj) hfree' (ready_mono hr (Ne.symm hji)) h4 h7 h6⟩
abbrev Wt:=World×(Nat→Prop)×Nat
def lateIn (late:List Nat) (listed:Array Bool):Bool:=late.any fun j=>listed.getD j false
def Sof (k:Wt) (late:List Nat) (listed:Array Bool) (w:World):Prop:=lateIn late listed=false→∀b,k.2.1 b→b<k.1.heap.size∧w.heap[b]? =k.1.heap[b]?
def Gs (g' g:Ghost):Prop:=g'.ro=g.ro∧g'.B=g.B∧g'.w0=g.w0
def gOf (g:Ghost) (k:Wt) (late:List Nat) (listed:Array Bool):Ghost:={g with wt:=if lateIn late listed=true then none else some k}
def setL (n:Nat):List Nat→Array Bool
 |[]=>Array.replicate n false
 |i::done=>(setL n done).setIfInBounds i true
theorem lateIn_set {late:List Nat} {i:Nat} (h:late.contains i=false) (listed:Array Bool):lateIn late (listed.setIfInBounds i true)=lateIn late listed:=by
 unfold lateIn
 induction late with
 |nil=>rfl
 |cons j late ih=>
  simp only[List.contains_cons,Bool.or_eq_false_iff] at h
  have hij:i≠j:=by simpa using h.1
  simp only[List.any_cons]
  rw[getD_set_ne false hij,ih h.2]
theorem lateIn_mono {late:List Nat} {i:Nat} {listed:Array Bool} (h:lateIn late listed=true):lateIn late (listed.setIfInBounds i true)=true:=by
 unfold lateIn at*
 rw[List.any_eq_true] at*
 obtain⟨j,h1,h2⟩:=h
 exact⟨j,h1,getD_set_true h2⟩
theorem Rel.rewt (r:Rel g δ κ a w) {wt':Option Wt} (h:∀k,wt'=some k→(∀b,k.2.1 b→b<k.1.heap.size∧w.heap[b]? =k.1.heap[b]?)∧∀i b,δ.live i→(δ.lr i∨k.2.2≤i)→κ i=some b→¬k.2.1 b):Rel {g with wt:=wt'} δ κ a w:=
 {n:=r.n,dfr:=r.dfr,env:=r.env,obj:=r.obj,inj:=r.inj,lo:=r.lo,nx:=r.nx,wt:=h,below:=r.below,hB:=r.hB,N0:=r.N0,fr:=r.fr,mkf:=r.mkf}
theorem gOf_step {k:Wt} {late:List Nat} {listed:Array Bool} (i:Nat) (r:Rel (gOf g k late listed) δ κ a w):Rel (gOf g k late (listed.setIfInBounds i true)) δ κ a w:=by
 refine Rel.rewt (g:=gOf g k late listed) r (wt':=if lateIn late (listed.setIfInBounds i true)=true then none else some k) fun k' hk'=>?_
 by_cases h:lateIn late (listed.setIfInBounds i true)=true
 ·rw[if_pos h] at hk';cases hk'
 ·rw[if_neg h] at hk'
  cases hk'
  refine r.wt k ?_
  show(if lateIn late listed=true then none else some k)=some k
  rw[if_neg (fun h'=>h (lateIn_mono h'))]
theorem gOf_S {k:Wt} {late:List Nat} {listed:Array Bool} (r:Rel (gOf g k late listed) δ κ a w):Sof k late listed w:=by
 intro h
 refine(r.wt k ?_).1
 show(if lateIn late listed=true then none else some k)=some k
 rw[if_neg (by simp [h])]
theorem gOf_none {k:Wt} {late:List Nat} {listed:Array Bool} (hwt:g.wt=none) (r:Rel (gOf g k late listed) δ κ a w):Rel g δ κ a w:=by
 have:=Rel.rewt r (wt':=none) (fun k hk=>by cases hk)
 cases g
 cases hwt
 exact this
def onlyN (f:DS→Prop):Exit→DS→Prop
 |.normal,δ=>f δ
 |_,_=>False
theorem onlyN_n {f:DS→Prop} (h:f δ):onlyN f .normal δ:=h
def postN (g:Ghost) (Q:Exit→DS→Prop):Exit→Act→World→Prop
 |.normal,a,w=>lift g Q .normal a w
 |.panic c,a,w=>∃δ κ,Q (.panic c) δ∧(∀j,j<HS→δ.get j=.any)∧Rel {g with wt:=none} δ κ a w
 |_,_,_=>False
theorem postN_put {g:Ghost} {Q:Exit→DS→Prop} {c:List PanicEntry} {a:Act} {w:World} {d:Option Nat} {v:Value} (h:postN g Q (.panic c) (a.put d v) w):postN g Q (.panic c) a w:=by
 obtain⟨δ,κ,h1,h2,r⟩:=h
 refine⟨δ,κ,h1,h2,?_⟩
 exact
  {n:=by have:=r.n;cases d<;>simpa [Act.put] using this
   dfr:=by have:=r.dfr;cases d<;>exact this
   env:=fun j=>by
    by_cases hj:j<HS
    ·rw[h2 j hj];exact .any _
    ·have:=r.env j
     have e:∀b:Act,Ghost.val {g with wt:=none} b j=g.held j:=fun b=>by unfold Ghost.val;rw[if_neg hj]
     rw[e] at this
     rw[e]
     exact this
   obj:=r.obj,inj:=r.inj,lo:=r.lo,nx:=r.nx,wt:=r.wt,below:=r.below,hB:=r.hB,N0:=r.N0,fr:=r.fr
   mkf:=by have:=r.mkf;cases d<;>exact this}
def AR (P:Program) (g:Ghost) (k:Wt) (late:List Nat) (l:List Oper) (Q:Exit→DS→Prop) (done:List Nat) (δ:DS):Prop:=
 DC l.toArray (setL l.length done)→∀κ a w,Rel (gOf g k late (setL l.length done)) δ κ a w→wpAnyL g.ro P l.toArray (postN g Q) (Sof k late) (l.length - done.length) (setL l.length done) a w
def readyIs (l:List Oper) (done rs:List Nat):Bool:=Region.ready .any l.toArray (setL l.length done)==rs
variable {k:Wt} {late:List Nat} {l:List Oper} {dn:List Nat} {QD:Exit→DS→Prop}
theorem AR.done (hwt:g.wt=none) (hr:readyIs l dn []=true) (h:QD .normal δ):AR P g k late l QD dn δ:=by
 intro _ κ a w r
 have hr':Region.ready .any l.toArray (setL l.length dn)=[]:=by simpa [readyIs] using hr
 have hp:postN g QD .normal a w:=⟨δ,κ,h,gOf_none hwt r⟩
 cases l.length - dn.length with
 |zero=>exact⟨hr',hp⟩
 |succ n=>exact⟨fun _=>hp,by rw[hr'];simp⟩
theorem AR.all {rs:List Nat} (hl:Nat.blt dn.length l.length=true) (hr:readyIs l dn rs=true) (hne:rs≠ []) (h:∀i∈rs,∃o,l[i]? =some o∧
  AOps .plain P (gOf g k late (setL l.length (i::dn))) l.toArray [o] (onlyN (AR P g k late l QD (i::dn))) δ):AR P g k late l QD dn δ:=by
 intro hdc κ a w r
 have hr':Region.ready .any l.toArray (setL l.length dn)=rs:=by simpa [readyIs] using hr
 have hl':dn.length<l.length:=by simpa using hl
 obtain⟨n,hn⟩:∃n,l.length - dn.length=n+1:=⟨l.length - dn.length - 1,by omega⟩
 rw[hn]
 refine⟨fun h0=>absurd (hr'▸h0) hne,fun i hi=>?_⟩
 have hi':=hi
 rw[hr'] at hi
 obtain⟨o,ho,hA⟩:=h i hi
 have ho':l.toArray[i]? =some o:=by simpa using ho
 have h1:=hA κ a w (gOf_step i r)
 have hdc':DC l.toArray (setL l.length (i::dn)):=hdc.ready hi'
 have hfin:∀a' w',lift (gOf g k late (setL l.length (i::dn))) (onlyN (AR P g k late l QD (i::dn))) .normal a' w'→
   Sof k late ((setL l.length dn).setIfInBounds i true) w'∧wpAnyL g.ro P l.toArray (postN g QD) (Sof k late) n ((setL l.length dn).setIfInBounds i true) a' w':=by
  rintro a' w' ⟨δ',κ',h2,r2⟩
  refine⟨gOf_S r2,?_⟩
  have h3:=h2 hdc' κ' a' w' r2
  have e1:l.length - (i::dn).length=n:=by simp;omega
  rw[e1] at h3
  exact h3
 have hA':wpListIn (Fw g.ro) 0 P l.toArray (lift (gOf g k late (setL l.length (i::dn))) (onlyN (AR P g k late l QD (i::dn)))) [o] a w:=h1
 unfold wpListIn at hA'
 unfold wpOpIn
 simp only[ho']
 have hno:∀e a w,lift (gOf g k late (setL l.length (i::dn))) (onlyN (AR P g k late l QD (i::dn))) e a w→e=.normal:=by
  rintro e a w ⟨δ',κ',h2,_⟩
  cases e<;>first|rfl|exact h2.elim
 split
 ·rename_i hw
  rw[if_pos hw] at hA'
  obtain⟨h2,h3⟩:=hA'
  refine⟨h2,?_⟩
  revert h3
  generalize (o.semAt (Fw g.ro).round a.eval).run P w=res
  intro h3
  cases res with
  |ok x w'=>
   cases x<;>simp only[Oper.uponIn] at h3 ⊢
   case value u=>exact hfin _ _ h3
   case skip=>exact hfin _ _ h3
   case defer d=>exact hfin _ _ h3
   case enter f args=>
    refine⟨h3.1,CallsIn.mono h3.2 fun e w'' he=>?_⟩
    cases e with
    |returned u=>exact hfin _ _ he
    |panicked c=>exact absurd (hno _ _ _ he) (by simp)
    |outgrown=>
     exfalso
     obtain⟨a2,w2,he⟩:=he
     have:=hno _ _ _ he
     cases this
   case row row args=>exact⟨h3.1,RowsIn.mono h3.2 fun u w'' he=>hfin _ _ he⟩
   case round l' f tmps assign body=>
    refine⟨h3.1,RoundIn.mono h3.2 fun e w'' he=>?_⟩
    cases e with
    |returned u=>exact hfin _ _ he
    |panicked c=>exact absurd (hno _ _ _ he) (by simp)
    |outgrown=>
     exfalso
     obtain⟨a2,w2,he⟩:=he
     have:=hno _ _ _ he
     cases this
  |halt x w'=>
   cases x<;>simp only[Oper.uponIn] at h3 ⊢
   case panic u=>exact absurd (hno _ _ _ h3) (by simp)
 ·rename_i hw
  rw[if_neg hw] at hA'
  exact⟨hA'.1,hfin _ _ hA'.2⟩
theorem AR.step1 {i:Nat} {o:Oper} (hl:Nat.blt dn.length l.length=true) (hr:readyIs l dn [i]=true) (ho:l[i]? =some o)
  (h:∀g':Ghost,Gs g' g→(∀j,k.2.2≤j→g'.wtOk j)→AOps .plain P g' l.toArray [o] (onlyN (AR P g k late l QD (i::dn))) δ):AR P g k late l QD dn δ:=
 AR.all hl hr (by simp) fun i' hi'=>by
  simp only[List.mem_singleton] at hi'
  subst hi'
  refine⟨o,ho,h _ ⟨rfl,rfl,rfl⟩ fun j hj k' hk'=>?_⟩
  have:(if lateIn late (setL l.length (i'::dn))=true then none else some k)=some k':=hk'
  split at this
  ·cases this
  ·cases this;exact hj
theorem AR.step1L {i:Nat} {o:Oper} (hl:Nat.blt dn.length l.length=true) (hr:readyIs l dn [i]=true) (ho:l[i]? =some o) (hlt:lateIn late (setL l.length (i::dn))=true)
  (h:∀g':Ghost,Gs g' g→g'.wt=none→AOps .plain P g' l.toArray [o] (onlyN (AR P g k late l QD (i::dn))) δ):AR P g k late l QD dn δ:=
 AR.all hl hr (by simp) fun i' hi'=>by
  simp only[List.mem_singleton] at hi'
  subst hi'
  exact⟨o,ho,h _ ⟨rfl,rfl,rfl⟩ (if_pos hlt)⟩
theorem AR.step2 {i j:Nat} {o p:Oper} (hl:Nat.blt dn.length l.length=true) (hr:readyIs l dn [i,j]=true) (ho:l[i]? =some o) (hp:l[j]? =some p)
  (h:∀g':Ghost,Gs g' g→(∀j,k.2.2≤j→g'.wtOk j)→AOps .plain P g' l.toArray [o] (onlyN (AR P g k late l QD (i::dn))) δ)
  (h':∀g':Ghost,Gs g' g→(∀j,k.2.2≤j→g'.wtOk j)→AOps .plain P g' l.toArray [p] (onlyN (AR P g k late l QD (j::dn))) δ):AR P g k late l QD dn δ:=
 AR.all hl hr (by simp) fun i' hi'=>by
  have hw:∀i',∀j,k.2.2≤j→(gOf g k late (setL l.length (i'::dn))).wtOk j:=by
   intro i' j hj k' hk'
   have:(if lateIn late (setL l.length (i'::dn))=true then none else some k)=some k':=hk'
   split at this
   ·cases this
   ·cases this;exact hj
  simp only[List.mem_cons,List.not_mem_nil,or_false] at hi'
  rcases hi' with rfl|rfl
  ·exact⟨o,ho,h _ ⟨rfl,rfl,rfl⟩ (hw _)⟩
  ·exact⟨p,hp,h' _ ⟨rfl,rfl,rfl⟩ (hw _)⟩
def Frees (P:Program) (o:Oper) (δ:DS) (v:AV):Prop:=∀(g:Ghost) κ a w,Rel g δ κ a w→∃u,(∀w',(execOp a.eval o).run P w'=.ok (.value u) w')∧RA (δ.cx g κ) w u v
def freeB (l:List Oper) (late dn:List Nat) (i:Nat):Bool:=
 Region.noSelect l.toArray && l.all noDefer && (Region.ready .any l.toArray (setL l.length dn)).contains i && Region.free .any l.toArray (setL l.length dn) i && !late.contains i && Nat.blt dn.length l.length
theorem AR.free (i:Nat) {o:Oper} {v:AV} (hB:freeB l late dn i=true) (ho:l[i]? =some o) (hg:o.guard=none) (hd:okD δ.n o.dst=true) (hF:Frees P o δ v) (h:AR P g k late l QD (i::dn) (δ.putd o.dst v)):AR P g k late l QD dn δ:=by
 intro hdc κ a w r
 simp only[freeB,Bool.and_eq_true,Bool.not_eq_true'] at hB
 obtain⟨⟨⟨⟨⟨hs,hnd⟩,hr⟩,hf⟩,hla⟩,hl⟩:=hB
 have hl':dn.length<l.length:=by simpa using hl
 obtain⟨n,hn⟩:∃n,l.length - dn.length=n+1:=⟨l.length - dn.length - 1,by omega⟩
 obtain⟨u,hu,hra⟩:=hF _ κ a w r
 have hr':i∈Region.ready .any l.toArray (setL l.length dn):=by simpa using hr
 have ho':l.toArray[i]? =some o:=by simpa using ho
 have hdc':DC l.toArray (setL l.length (i::dn)):=hdc.ready hr'
 have r2:Rel (gOf g k late (setL l.length (i::dn))) (δ.putd o.dst v) κ (a.put o.dst u) w:=(gOf_step i r).putd (okD_spec hd) hra
 have h2:=h hdc' κ _ w r2
 have e1:l.length - (i::dn).length=n:=by simp;omega
 rw[e1] at h2
 rw[hn]
 refine wpAnyL_first (C:=fun _=>True) ho' (Region.noSelect_spec hs) (fun j o hj=>?_) (fun c a w h=>postN_put h) (fun _ _ _ _ _=>trivial) (fun listed w=>?_) n _ a w hdc (Region.free_spec ho' hf) hr' (.inl ⟨by simp [Region.wanted,hg],fun w' _=>hu w'⟩) (gOf_S r) h2
 ·exact(List.all_eq_true.1 hnd) o (List.mem_of_getElem? (by simpa using hj))
 ·unfold Sof;rw[lateIn_set hla]
def waitsB (ops:Array Oper) (i:Nat):Nat→Nat→Bool
 |0,_=>false
 |n+1,j=>match ops[j]? with
  |some o=>o.after.any fun e=>Region.binds .any e && (e.on==i||waitsB ops i n e.on)
  |none=>false
theorem waitsB_spec {ops:Array Oper} {i:Nat} {listed:Array Bool} (hdc:DC ops listed):∀n j,waitsB ops i n j=true→listed.getD j false=true→listed.getD i false=true:=by
 intro n
 induction n with
 |zero=>intro j h;simp [waitsB] at h
 |succ n ih=>
  intro j h hj
  unfold waitsB at h
  cases ho:ops[j]? with
  |none=>rw[ho] at h;cases h
  |some o=>
   rw[ho] at h
   simp only at h
   obtain⟨e,he,hb⟩:=Array.any_eq_true'.1 h
   simp only[Bool.and_eq_true,Bool.or_eq_true,beq_iff_eq] at hb
   have h1:=hdc j o ho hj e he hb.1
   rcases hb.2 with h2|h2
   ·rw[← h2];exact h1
   ·exact ih _ h2 h1
def firstB (l:List Oper) (late:List Nat):List Nat→List Nat→Bool
 |[],_=>true
 |i::r,dn=>freeB l late dn i && late.all (waitsB l.toArray i l.length) && firstB l late r (i::dn)
def pick (l:List Oper) (is:List Nat):List Oper:=is.filterMap (l[·]?)
theorem heldIn {κ1:Nat→Option Nat} {w1:World} {k:Wt} {δ0:DS} (hk1:k.1=w1) (hk2:k.2.1=fun b=>b<w1.heap.size∧∀i,δ0.lr i→κ1 i≠some b) {post:Act→Prop} {N:Nat}:
  ∀(l1 dn:List Nat) (a:Act),firstB l late l1 dn=true→DC l.toArray (setL l.length dn)→Sof k late (setL l.length dn) w1→wpHeld P l.toArray (Held δ0 κ1 w1) post (pick l l1) a→
   (∀a',post a'→DC l.toArray (setL l.length (l1.reverse++dn))→wpAnyL ro P l.toArray (postN g QD) (Sof k late) N (setL l.length (l1.reverse++dn)) a' w1)→wpAnyL ro P l.toArray (postN g QD) (Sof k late) (l1.length+N) (setL l.length dn) a w1:=by
 intro l1
 induction l1 with
 |nil=>intro dn a _ hdc _ h hp;simpa using hp a h hdc
 |cons i r ih=>
  intro dn a hB hdc hS h hp
  simp only[firstB,freeB,Bool.and_eq_true,Bool.not_eq_true'] at hB
  obtain⟨⟨⟨⟨⟨⟨⟨hs,hnd⟩,hr⟩,hf⟩,hla⟩,hl⟩,hwait⟩,hrest⟩:=hB
  have hr':i∈Region.ready .any l.toArray (setL l.length dn):=by simpa using hr
  obtain⟨_,o,ho',_⟩:=mem_ready.1 hr'
  have ho:l[i]? =some o:=by simpa using ho'
  have hpk:pick l (i::r)=o::pick l r:=by simp [pick,ho]
  rw[hpk] at h
  obtain⟨v,hy,h⟩:=h
  have hset:∀listed w,Sof k late (listed.setIfInBounds i true) w↔Sof k late listed w:=fun listed w=>by unfold Sof;rw[lateIn_set hla]
  have hfu:(i::r).length+N=(r.length+N)+1:=by simp;omega
  rw[hfu]
  refine wpAnyL_first (C:=Held δ0 κ1 w1) ho' (Region.noSelect_spec hs) (fun j o hj=>?_) (fun c a w h=>postN_put h) (fun listed w hd hi hSl=>?_) hset _ _ a w1 hdc (Region.free_spec ho' hf) hr' hy hS ?_
  ·exact(List.all_eq_true.1 hnd) o (List.mem_of_getElem? (by simpa using hj))
  ·have hno:lateIn late listed=false:=by
    unfold lateIn
    rw[List.any_eq_false]
    intro j hj hlj
    have h1:=waitsB_spec hd _ _ ((List.all_eq_true.1 hwait) j hj) hlj
    rcases Nat.lt_or_ge i listed.size with h'|h'
    ·simp [h'] at hi h1;rw[hi] at h1;cases h1
    ·simp [Array.getElem?_eq_none h'] at h1
   have h2:=hSl hno
   rw[hk1,hk2] at h2
   exact fun b hb hn=>(h2 b ⟨hb,hn⟩).2
  ·have:=ih (i::dn) (a.put o.dst v) hrest (hdc.ready hr') ((hset _ _).2 hS) h
   refine this fun a' ha' hd'=>?_
   have e:(i::r).reverse++dn=r.reverse++i::dn:=by simp
   rw[← e]
   exact hp a' ha' (by rw[e];exact hd')
theorem DC.start (l:List Oper):DC l.toArray (setL l.length []):=by
 intro j o _ hj
 have:(Array.replicate l.length false).getD j false=true:=hj
 simp [Array.getElem?_replicate] at this
 split at this<;>cases this
theorem AW.regionE {id:Nat} (l1:List Nat) (late:List Nat) {l:List Oper} (hm:P.follows .mixedOrders=true) (hwt:g.wt=none) (hB:firstB l late l1 []=true) (hle:Nat.ble l1.length l.length=true)
  (h:AOps .held P g l.toArray (pick l l1) (onlyN fun δ'=>∀k:Wt,k.2.2=δ.nx→AR P g k late l QD l1.reverse δ') δ):AW P g (.region id l.toArray true) QD δ:=by
 intro κ a w r
 have hle':l1.length≤l.length:=by simpa using hle
 have r1:Rel g δ κ a {w with drawn:=w.drawn+1}:=r.ext (Below.drew (Below.refl _ _))
 have h1:=h κ a _ r1
 obtain⟨k,hk⟩:∃k:Wt,k=({w with drawn:=w.drawn+1},(fun b=>b<w.heap.size∧∀i,δ.lr i→κ i≠some b),δ.nx):=⟨_,rfl⟩
 refine wpIn_mono (Q:=postN g QD) (wpIn_region_any hm (wpAny_of_L (S:=Sof k late) _ _ _ _ ?_)) (fun e a w h=>by
  cases e with
  |normal=>exact h
  |panic c=>
   obtain⟨δ',κ',h1,_,r'⟩:=h
   have e:({g with wt:=none}:Ghost)=g:=by cases g;cases hwt;rfl
   rw[e] at r'
   exact⟨δ',κ',h1,r'⟩
  |_=>exact h.elim)
 have hk0:Sof k late (setL l.length []) {w with drawn:=w.drawn+1}:=fun _ b hb=>by subst hk;exact⟨hb.1,rfl⟩
 have h2:=heldIn (ro:=g.ro) (g:=g) (QD:=QD) (late:=late) (l:=l) (P:=P) (δ0:=δ) (κ1:=κ) (w1:={w with drawn:=w.drawn+1}) (k:=k) (by rw[hk]) (by rw[hk]) (N:=l.length - l1.length) l1 [] a hB (DC.start l) hk0 h1 (fun a' ha' hd'=>by
  obtain⟨δ',hq,hobj,r2⟩:=ha'
  have h3:=hq k (by rw[hk]) (by simpa using hd') κ a' {w with drawn:=w.drawn+1} (by
   have hob:∀i,δ'.ob i=δ.ob i:=fun i=>by unfold DS.ob;rw[hobj]
   refine Rel.rewt r2 (wt':=if lateIn late (setL l.length l1.reverse)=true then none else some k) fun k' hk'=>?_
   split at hk'
   ·cases hk'
   ·cases hk'
    subst hk
    refine⟨fun b hb=>⟨hb.1,rfl⟩,fun i b hli hor hκ hb=>?_⟩
    rcases hor with hor|hor
    ·exact hb.2 i (by have:δ'.ob i=some .row:=hor;rw[hob] at this;exact this) hκ
    ·obtain⟨o,hli⟩:=hli
     rw[hob] at hli
     exact absurd (r.nx i ⟨o,hli⟩) (Nat.not_lt.2 hor))
  simpa using h3)
 have e:l1.length+(l.length - l1.length)=l.toArray.size:=by simp;omega
 rw[e] at h2
 have e2:setL l.length []=Array.replicate l.toArray.size false:=by simp [setL]
 rw[e2] at h2
 exact h2
end Go.Ab
/- Maps with whole numbers as keys:read,grown,written. -/
namespace Go.Ab
open Go Go.RowKit
variable {q:Md} {P:Program} {g:Ghost} {δ:DS} {κ:Nat→Option Nat} {a:Act} {w:World}
variable {gd:Option (Tmp×Bool)} {ops:Array Oper} {rest:List Oper} {Q:Exit→DS→Prop} {dst:Option Nat} {ty:TypeId} {pos:String} {af:Array Edge}
def lookI:List (Int×AV)→Int→Option AV
 |[],_=>none
 |(k,v)::l,m=>if m=k then some v else lookI l m
def mpI (l:List (Int×AV)):List (Value×AV):=l.map fun p=>(.int .i64 p.1,p.2)
def setI (xs:List Int):List (Int×AV):=xs.map fun x=>(x,litB true)
theorem findNow_mp {C:Cx} {w:World} (m:Int):∀(es:List MapEntry) (l:List (Int×AV)) (i:Nat),es.length=l.length→
  (∀(j:Nat) (e:MapEntry) (p:Int×AV),es[j]? =some e→l[j]? =some p→e.key=.int .i64 p.1∧RA C w e.val p.2)→
  (lookI l m=none∧Instr.findNow (.int .i64) (.int .i64 m) es i=some none)∨
  (∃(j:Nat) (e:MapEntry) (v:AV),lookI l m=some v∧Instr.findNow (.int .i64) (.int .i64 m) es i=some (some (i+j,e.val))∧es[j]? =some e∧l[j]? =some (m,v)∧RA C w e.val v):=by
 intro es
 induction es with
 |nil=>intro l i hs _;have:l=[]:=List.eq_nil_of_length_eq_zero hs.symm;subst this;exact .inl ⟨rfl,rfl⟩
 |cons e es ih=>
  intro l i hs h
  cases l with
  |nil=>simp at hs
  |cons p l=>
   obtain⟨k,v⟩:=p
   have h0:=h 0 e (k,v) rfl rfl
   by_cases hk:m=k
   ·subst hk
    refine .inr ⟨0,e,v,by simp [lookI],?_,rfl,rfl,h0.2⟩
    simp [Instr.findNow,h0.1,Instr.sameNow]
   ·have hf:Instr.findNow (.int .i64) (.int .i64 m) (e::es) i=Instr.findNow (.int .i64) (.int .i64 m) es (i+1):=by
     have hb:(m==k)=false:=by simp [hk]
     simp [Instr.findNow,h0.1,Instr.sameNow,hb]
    rcases ih l (i+1) (by simpa using hs) (fun j e p h1 h2=>h (j+1) e p (by simpa using h1) (by simpa using h2)) with ⟨h1,h2⟩|⟨j,e',v',h1,h2,h3,h4,h5⟩
    ·exact .inl ⟨by simp [lookI,hk,h1],hf.trans h2⟩
    ·exact .inr ⟨j+1,e',v',by simp [lookI,hk,h1],by rw[hf,h2];simp;omega,by simpa using h3,by simpa using h4,h5⟩
theorem Rel.mpo (r:Rel g δ κ a w) {u:Value} {i:Nat} {l:List (Value×AV)} (h:RA (δ.cx g κ) w u (.mapr i)) (ho:δ.ob i=some (.mp l)):
  ∃b es clock,u=.map (some b)∧κ i=some b∧w.heap[b]? =some (.map es clock)∧MapIs (δ.cx g κ) w es l∧Stamps es clock∧∀p∈l,p.2.noOwn=true:=by
 cases h with
 | @mapr _ b hl hκ=>
  obtain⟨b',es,clock,h1,h2,h3,h4⟩:=r.obj i _ ho
  have:b'=b:=Option.some.inj (h1.symm.trans hκ)
  subst this
  exact⟨b',es,clock,rfl,h1,h2,h3,h4⟩
theorem MapIs.mpI {C:Cx} {w:World} {es:Array MapEntry} {l:List (Int×AV)} (h:MapIs C w es (mpI l)):
  es.toList.length=l.length∧∀(j:Nat) (e:MapEntry) (p:Int×AV),es.toList[j]? =some e→l[j]? =some p→e.key=.int .i64 p.1∧RA C w e.val p.2:=by
 refine⟨by simpa [Ab.mpI] using h.1,fun j e p h1 h2=>?_⟩
 exact h.2 j e (.int .i64 p.1,p.2) (by simpa using h1) (by simp [Ab.mpI,h2])
theorem run_findMap {kt:TypeId} {es:Array MapEntry} {m:Int} {x:Option (Nat×Value)} (hk:P.underlying kt=some (.int .i64)) (h:Instr.findNow (.int .i64) (.int .i64 m) es.toList 0=some x) (w:World):(Instr.findKey kt (.int .i64 m) es.toList).run P w=.ok x w:=MapKept.run_findKey hk h
theorem run_lookup {t kt et:TypeId} {b:Nat} {es:Array MapEntry} {clock:Nat} {m:Int} {z:Value} {x:Option (Nat×Value)} {w:World} (ht:P.underlying t=some (.map kt et)) (hk:P.underlying kt=some (.int .i64)) (hz:(P.info? et).bind (·.zero)=some z)
  (hb:w.heap[b]? =some (.map es clock)) (h:Instr.findNow (.int .i64) (.int .i64 m) es.toList 0=some x) (ok:Bool):
  (Instr.lookup t (.map (some b)) (.int .i64 m) ok).run P w=.ok (if ok then .tuple #[(x.map (·.2)).getD z,.bool x.isSome] else (x.map (·.2)).getD z) w:=by
 have hzr:∀w,(zeroValue et).run P w=.ok z w:=fun w=>by
  cases hi:P.info? et with
  |none=>rw[hi] at hz;simp at hz
  |some i=>rw[hi] at hz;simp at hz;simp [zeroValue,typeInfo,hi,hz]
 have hck:∀e,(Instr.checkKey e (9999+1) kt (.int .i64 m)).run P w=.ok () w:=fun e=>MapKept.run_checkKey hk (by simp [MapKept.IsKey]) e 9999
 cases x with
 |none=>simp [Instr.lookup,run_underlying ht,MapKept.run_getObj_map hb,hck,run_findMap hk h,hzr]
 |some p=>simp [Instr.lookup,run_underlying ht,MapKept.run_getObj_map hb,hck,run_findMap hk h]
theorem AOps.lookup {x y:Operand} {t kt et:TypeId} {i:Nat} {l:List (Int×AV)} {m:Int} {z:Value} {v:AV} (hx:δ.ev x=.mapr i) (hob:δ.ob i=some (.mp (mpI l))) (hy:δ.ev y=litI m) (ht:P.underlying t=some (.map kt et)) (hk:P.underlying kt=some (.int .i64)) (hz:(P.info? et).bind (·.zero)=some z)
  (hv:(lookI l m).getD (.pv (.lit z))=v) (ho:okT x=true) (ho':okT y=true) (hd:okD δ.n dst=true) (hK:AOps q P g ops rest Q (δ.putd dst v)):AOps q P g ops (⟨dst,.lookup t x y false,ty,pos,af,none⟩::rest) Q δ:=
 AOps.valw _ hd (fun κ a w r=>by
  obtain⟨b,es,clock,h1,h2,h3,h4,h5,hnoo⟩:=r.mpo (r.ra hx ho) hob
  obtain⟨h6,h7⟩:=h4.mpI
  have hb:∀w',Held δ κ w w'→w'.heap[b]? =some (.map es clock):=fun w' hw'=>(hw' b (heap_lt h3) (r.notrow ⟨_,hob,rfl⟩ h2)).trans h3
  subst hv
  rcases findNow_mp m es.toList l 0 h6 h7 with ⟨h8,h9⟩|⟨j,e,v',h8,h9,h10,h11,h12⟩
  ·refine⟨z,fun w' hw'=>?_,by rw[h8];exact .pv (.lit _)⟩
   have:=run_lookup ht hk hz (hb w' hw') h9 false
   simp [execOp,r.lit hy ho',h1,this]
  ·refine⟨e.val,fun w' hw'=>?_,by rw[h8];exact h12⟩
   have:=run_lookup ht hk hz (hb w' hw') h9 false
   simp [execOp,r.lit hy ho',h1,this]) hK
theorem Eff.makeMap {t:TypeId} (hd:okD δ.n dst=true):Eff P g ⟨dst,.makeMap t none,ty,pos,af,gd⟩ δ ((δ.addOb (.mp (mpI []))).putd dst (.mapr δ.nx)):=by
 intro κ a w r
 have hrun:(execOp a.eval ⟨dst,.makeMap t none,ty,pos,af,gd⟩).run P w=.ok (.value (.map (some w.heap.size))) (w.alloc (.map #[] 0)):=by
  have h0:(Instr.makeMap t none).run P w=.ok (.map (some w.heap.size)) (w.alloc (.map #[] 0)):=rfl
  simp [execOp,h0]
 obtain⟨r',G⟩:=r.grow (.mp (mpI [])) (.map #[] 0) (fun C G hκ=>⟨w.heap.size, #[],0,hκ,heap_alloc_new w _,⟨rfl,fun j e p h=>by simp at h⟩,⟨rfl,fun j e h=>by simp at h⟩,fun p h=>by simp [mpI] at h⟩)
 refine .inl ⟨_,_,_,_,hrun,.inl rfl,r'.putd (okD_spec hd) ?_⟩
 exact .mapr ⟨_,by show(δ.addOb _).ob _=_;rw[ob_addOb,if_pos rfl],rfl⟩ (by show upd _ _ _ _=_;simp [upd])
theorem AOps.makeMap {t:TypeId} (hd:okD δ.n dst=true) (hK:AOps .plain P g ops rest Q ((δ.addOb (.mp (mpI []))).putd dst (.mapr δ.nx))):AOps .plain P g ops (⟨dst,.makeMap t none,ty,pos,af,none⟩::rest) Q δ:=AOps.eff rfl rfl (Eff.makeMap hd) hK
theorem Turns.setHeap (w:World) (b:Nat) (o:Obj):Turns w {w with heap:=w.heap.setIfInBounds b o} (some b):=
 ⟨rfl,rfl,rfl,by simp,fun k _ h=>by
  show(w.heap.setIfInBounds b o)[k]? =_
  rw[Array.getElem?_setIfInBounds,if_neg (fun e=>h (by rw[e]))]⟩
theorem setHeap_same {w:World} {b:Nat} {o o':Obj} (h:w.heap[b]? =some o):({w with heap:=w.heap.setIfInBounds b o'}:World).heap[b]? =some o':=(MapKept.heap_set h).1
theorem mpI_append (l l':List (Int×AV)):mpI (l++l')=mpI l++mpI l':=by simp [mpI]
theorem MapIs.push {C:Cx} {w:World} {es:Array MapEntry} {l:List (Int×AV)} {clock:Nat} (h:MapIs C w es (Ab.mpI l)) (hs:Stamps es clock) (m:Int) {u:Value} {v:AV} (hu:RA C w u v):
  MapIs C w (es.push {key:=.int .i64 m,val:=u,born:=clock}) (Ab.mpI (l++ [(m,v)]))∧Stamps (es.push {key:=.int .i64 m,val:=u,born:=clock}) (clock+1):=by
 have hsz:es.size=(Ab.mpI l).length:=h.1
 refine⟨⟨by rw[mpI_append];simp [hsz,Ab.mpI],fun j e p h1 h2=>?_⟩,by simp [hs.1],fun j e h1=>?_⟩
 ·rw[mpI_append] at h2
  rw[Array.getElem?_push] at h1
  by_cases hj:j=es.size
  ·rw[if_pos hj] at h1
   cases h1
   rw[List.getElem?_append_right (by omega),hj,hsz] at h2
   simp [Ab.mpI] at h2
   subst h2
   exact⟨rfl,hu⟩
  ·rw[if_neg hj] at h1
   have hlt:j<es.size:=(Array.getElem?_eq_some_iff.1 h1).1
   rw[List.getElem?_append_left (by omega)] at h2
   exact h.2 j e p h1 h2
 ·rw[Array.getElem?_push] at h1
  by_cases hj:j=es.size
  ·rw[if_pos hj] at h1;cases h1;rw[hs.1,hj]
  ·rw[if_neg hj] at h1;exact hs.2 j e h1
end Go.Ab
namespace Go.Ab
section
variable {q:Md} {P:Program} {g:Ghost} {δ:DS} {ops:Array Oper} {rest:List Oper} {Q:Exit→DS→Prop} {dst:Option Nat} {ty:TypeId} {pos:String} {af:Array Edge}
theorem AOps.makeFunc_c {fn:Go.Fn} {x:Operand} {i o:Nat} (hx:δ.ev x=.ptr i o) (ho:okT x=true) (hd:okD δ.n dst=true) (hK:AOps q P g ops rest Q (δ.putd dst (.clo fn [] [.ptr i o]))):AOps q P g ops (⟨dst,.makeFunc fn #[] #[x],ty,pos,af,none⟩::rest) Q δ:=
 AOps.valw _ hd (fun κ a w r=>⟨.func fn #[] #[a.eval x],fun w' _=>by simp [execOp,Instr.makeFunc],.clo rfl (fun j u c h=>by simp at h) rfl (fun j u c h1 h2=>by
  match j with
  |0=>simp at h1 h2;subst h1;subst h2;exact r.ra hx ho
  |j+1=>simp at h2)⟩) hK
theorem AOps.move_clo {x:Operand} {fn:Go.Fn} {a b:List AV} (hx:δ.ev x=.clo fn a b) (ho:okT x=true) (hd:okD δ.n dst=true) (hK:AOps q P g ops rest Q (δ.putd dst (.clo fn a b))):AOps q P g ops (⟨dst,.move x,ty,pos,af,none⟩::rest) Q δ:=AOps.move hx ho hd hK
end
end Go.Ab
namespace Go.Ab
section
variable {P:Program} {δ:DS} {dst:Option Nat} {ty:TypeId} {pos:String} {af:Array Edge} {gd:Option (Tmp×Bool)}
theorem Frees.move_pv {x:Operand} {p:PV} (hx:δ.ev x=.pv p) (ho:okT x=true):Frees P ⟨dst,.move x,ty,pos,af,gd⟩ δ (.pv p):=fun _ _ a _ r=>⟨a.eval x,fun _=>rfl,hx▸r.evc x (okT_spec ho)⟩
end
section
variable {P:Program} {g:Ghost} {δ:DS} {ops:Array Oper} {rest:List Oper} {Q:Exit→DS→Prop} {dst:Option Nat} {ty:TypeId} {pos:String} {af:Array Edge}
end
end Go.Ab
/- Ranging over a function:the loop's code behind names. -/
namespace Go.Ab
open Go Go.RowKit
attribute [local irreducible] HS
variable {P:Program} {g:Ghost} {δ:DS} {κ:Nat→Option Nat} {a:Act} {w:World}
variable {ops:Array Oper} {rest:List Oper} {Q:Exit→DS→Prop} {dst:Option Nat} {ty:TypeId} {pos:String} {af:Array Edge}
def LpCode (ps':Array Tmp) (asg' body':Code) (ps:List Tmp) (asg body:Code):Prop:=ps'=ps.toArray∧asg'=asg∧body'=body
theorem iterEnds_ready {n i l:Nat} {tm ps asg body} {e:Exit} (he:e=.normal∨e=.ret) (ho:δ.ob i=some (.loop l tm ps asg body .ready)) (h:Q .normal (backD n i δ)):iterEnds n i l Q e δ:=by
 rcases he with rfl|rfl<;>(show jumpD l Q (backD n i δ) (δ.ob i);rw[ho];exact⟨rfl,h⟩)
end Go.Ab
/- Weakening:maps told as sets,loops. -/
namespace Go.Ab
open Go Go.RowKit
variable {δ δ':DS} {i:Nat}
end Go.Ab
namespace Go.Ab
open Go Go.RowKit
section
variable {q:Md} {P:Program} {g:Ghost} {δ:DS} {ops:Array Oper} {rest:List Oper} {Q:Exit→DS→Prop} {dst:Option Nat} {ty:TypeId} {pos:String} {af:Array Edge}
theorem AOps.load_o1_mapI {α:Type} {x:Operand} {t e:TypeId} {i:Nat} {m:Nat} {f:α→PV} {l:List α} (hx:δ.ev x=.optr i e 1 (l.map fun z=>[f z]) m) (ht:scalarT P t=true) (ho:okT x=true) (hd:okD δ.n dst=true) (hq:q≠ .held) (hn:m<l.length)
  (hK:AOps q P g ops rest Q (δ.putd dst (.pv (f l[m])))):AOps q P g ops (⟨dst,.load t x,ty,pos,af,none⟩::rest) Q δ:=
 AOps.load_o1_map hq hx hn ht ho hd hK
end
end Go.Ab
/- States written out:laws by which a state's term is brought to its plain form. -/
namespace Go.Ab
open Go Go.RowKit
namespace Nf
variable {n x:Nat} {e:List (Nat×AV)} {o:List (Nat×Option Ob)}
theorem beq (i j:Nat):Nat.beq i j=(i==j):=by
 by_cases h:i=j
 ·subst h;simp
 ·rw[beq_ne h];exact(beq_eq_false_iff_ne.2 h).symm
theorem ble (i j:Nat):Nat.ble i j=(i - j==0):=by
 by_cases h:i≤j
 ·have h1:Nat.ble i j=true:=by simpa using h
  have h2:i - j=0:=by omega
  rw[h1,h2];rfl
 ·have h1:Nat.ble i j=false:=by
   cases hh:Nat.ble i j with
   |false=>rfl
   |true=>exact absurd (by simpa using hh) h
  rw[h1];exact(beq_eq_false_iff_ne.2 (by omega)).symm
theorem hs:HS=1000:=rfl
theorem c_t {α:Type} (a b:α):(bif true then a else b)=a:=rfl
theorem c_f {α:Type} (a b:α):(bif false then a else b)=b:=rfl
theorem put (d:Nat) (v:AV):DS.putd ⟨n,e,o,x⟩ (some d) v=⟨n,(d,v)::e,o,x⟩:=rfl
theorem put0 (v:AV):DS.putd ⟨n,e,o,x⟩ none v=⟨n,e,o,x⟩:=rfl
theorem add (b:Ob):DS.addOb ⟨n,e,o,x⟩ b=⟨n,e,(x,some b)::o,x+1⟩:=rfl
theorem set (i:Nat) (b:Option Ob):DS.setOb ⟨n,e,o,x⟩ i b=⟨n,e,(i,b)::o,x⟩:=rfl
theorem pn:(DS.mk n e o x).n=n:=rfl
theorem pe:(DS.mk n e o x).env=e:=rfl
theorem po:(DS.mk n e o x).objs=o:=rfl
theorem px:(DS.mk n e o x).nx=x:=rfl
theorem ev_t (t:Nat):DS.ev ⟨n,e,o,x⟩ (.tmp t)=look e t:=rfl
theorem ev_c (v:Value):DS.ev ⟨n,e,o,x⟩ (.const v)=.pv (.lit v):=rfl
theorem ev_f (f:Nat):DS.ev ⟨n,e,o,x⟩ (.func f)=.clo (.func f) [] []:=rfl
theorem look0 (j:Nat):look [] j=.any:=rfl
theorem look1 (i j:Nat) (v:AV) (r:List (Nat×AV)):look ((i,v)::r) j=bif Nat.beq i j then v else look r j:=rfl
theorem start (args:List AV):start n args=⟨n,enum 0 args,[],0⟩:=rfl
theorem en0 (i:Nat):enum i []=[]:=rfl
theorem en1 (i:Nat) (v:AV) (r:List AV):enum i (v::r)=(i,v)::enum (i+1) r:=rfl
def evs (e:List (Nat×AV)):List Operand→List AV
 |[]=>[]
 |.tmp t::r=>look e t::evs e r
 |.const v::r=> .pv (.lit v)::evs e r
 |.global _::r=> .any::evs e r
 |.func f::r=> .clo (.func f) [] []::evs e r
theorem evs_eq:∀xs:List Operand,xs.map (DS.ev ⟨n,e,o,x⟩)=evs e xs
 |[]=>rfl
 |.tmp t::r=>by simp only[List.map_cons,evs,evs_eq r];rfl
 |.const v::r=>by simp only[List.map_cons,evs,evs_eq r];rfl
 |.global v::r=>by simp only[List.map_cons,evs,evs_eq r];rfl
 |.func f::r=>by simp only[List.map_cons,evs,evs_eq r];rfl
theorem evs_map (δ:DS) (xs:List Operand):xs.map δ.ev=evs δ.env xs:=evs_eq (n:=δ.n) (o:=δ.objs) (x:=δ.nx) xs
theorem evs0:evs e []=[]:=rfl
theorem evs_t (t:Nat) (r:List Operand):evs e (.tmp t::r)=look e t::evs e r:=rfl
theorem evs_c (v:Value) (r:List Operand):evs e (.const v::r)=.pv (.lit v)::evs e r:=rfl
theorem evs_f (f:Nat) (r:List Operand):evs e (.func f::r)=.clo (.func f) [] []::evs e r:=rfl
def av:List AV→List AV→List AV
 |[],m=>m
 |v::r,m=>v::av r m
theorem av_eq:∀l m:List AV,l++m=av l m
 |[],_=>rfl
 |v::r,m=>by rw[List.cons_append,av_eq r m];rfl
theorem av0 (m:List AV):av [] m=m:=rfl
theorem av1 (v:AV) (r m:List AV):av (v::r) m=v::av r m:=rfl
def ae:List (Nat×AV)→List (Nat×AV)→List (Nat×AV)
 |[],m=>m
 |v::r,m=>v::ae r m
theorem ae_eq:∀l m:List (Nat×AV),l++m=ae l m
 |[],_=>rfl
 |v::r,m=>by rw[List.cons_append,ae_eq r m];rfl
theorem ae0 (m:List (Nat×AV)):ae [] m=m:=rfl
theorem ae1 (v:Nat×AV) (r m:List (Nat×AV)):ae (v::r) m=v::ae r m:=rfl
def sh:List (Nat×AV)→List (Nat×AV)
 |[]=>[]
 |(i,v)::r=>(i+HS,v)::sh r
theorem sh_eq:∀l,shiftE l=sh l
 |[]=>rfl
 |(i,v)::r=>by show(i+HS,v)::shiftE r=_;rw[sh_eq r];rfl
theorem sh0:sh []=[]:=rfl
theorem sh1 (i:Nat) (v:AV) (r:List (Nat×AV)):sh ((i,v)::r)=(i+1000,v)::sh r:=rfl
theorem un0:unshiftE []=[]:=rfl
theorem un1 (i:Nat) (v:AV) (r:List (Nat×AV)):unshiftE ((i,v)::r)=bif Nat.ble 1000 i then (i - 1000,v)::unshiftE r else unshiftE r:=rfl
theorem ow0:ownE []=[]:=rfl
theorem ow1 (i:Nat) (v:AV) (r:List (Nat×AV)):ownE ((i,v)::r)=bif Nat.ble 1000 i then (bif Nat.ble i 1999 then (i - 1000,v)::ownE r else ownE r) else ownE r:=by
 have h:Nat.blt i (HS+HS)=Nat.ble i 1999:=by
  show Nat.ble (i+1) 2000=Nat.ble i 1999
  rfl
 show(bif Nat.ble HS i && Nat.blt i (HS+HS) then _ else _)=_
 rw[h]
 show(bif Nat.ble 1000 i && Nat.ble i 1999 then _ else _)=_
 cases Nat.ble 1000 i<;>rfl
theorem pa (t:Tmp) (ts:List Tmp) (v:AV) (vs:List AV):parE (t::ts) (v::vs) e=parE ts vs ((t,v)::e):=rfl
theorem pa0:parE [] [] e=e:=rfl
theorem rback (m:Nat):roundBack m ⟨n,e,o,x⟩=⟨m,unshiftE e,o,x⟩:=rfl
theorem round (m:Nat) (ps:List Tmp) (vs:List AV):roundD m ps vs ⟨n,e,o,x⟩=⟨m,parE ps vs (ae (ownE e) (sh e)),o,x⟩:=by
 unfold roundD
 rw[ae_eq,sh_eq]
def mapE (f:AV→AV):List (Nat×AV)→List (Nat×AV)
 |[]=>[]
 |(i,v)::r=>(i,f v)::mapE f r
def mapC (f:AV→AV):List AV→List AV
 |[]=>[]
 |v::r=>f v::mapC f r
def mapO (f:AV→AV):List (Nat×Option Ob)→List (Nat×Option Ob)
 |[]=>[]
 |(i,b)::r=>(i,b.map (Ob.mp' f))::mapO f r
theorem mapE_eq (f:AV→AV):∀l:List (Nat×AV),(l.map fun p=>(p.1,f p.2))=mapE f l
 |[]=>rfl
 |(i,v)::r=>by rw[List.map_cons,mapE_eq f r];rfl
theorem mapO_eq (f:AV→AV):∀l:List (Nat×Option Ob),(l.map fun p=>(p.1,p.2.map (Ob.mp' f)))=mapO f l
 |[]=>rfl
 |(i,v)::r=>by rw[List.map_cons,mapO_eq f r];rfl
theorem mapC_eq (f:AV→AV):∀l:List AV,l.map f=mapC f l
 |[]=>rfl
 |v::r=>by rw[List.map_cons,mapC_eq f r];rfl
theorem mv (f:AV→AV):DS.mapV ⟨n,e,o,x⟩ f=⟨n,mapE f e,mapO f o,x⟩:=by
 unfold DS.mapV
 rw[mapE_eq,mapO_eq]
theorem mE0 (f:AV→AV):mapE f []=[]:=rfl
theorem mE1 (f:AV→AV) (i:Nat) (v:AV) (r:List (Nat×AV)):mapE f ((i,v)::r)=(i,f v)::mapE f r:=rfl
theorem mC0 (f:AV→AV):mapC f []=[]:=rfl
theorem mC1 (f:AV→AV) (v:AV) (r:List AV):mapC f (v::r)=f v::mapC f r:=rfl
theorem mO0 (f:AV→AV):mapO f []=[]:=rfl
theorem mOn (f:AV→AV) (i:Nat) (r:List (Nat×Option Ob)):mapO f ((i,none)::r)=(i,none)::mapO f r:=rfl
theorem mOr (f:AV→AV) (i:Nat) (r:List (Nat×Option Ob)):mapO f ((i,some .row)::r)=(i,some .row)::mapO f r:=rfl
theorem mOb (f:AV→AV) (i:Nat) (cs:List AV) (r:List (Nat×Option Ob)):mapO f ((i,some (.box cs))::r)=(i,some (.box (mapC f cs)))::mapO f r:=by
 show(i,some (Ob.box (cs.map f)))::mapO f r=_
 rw[mapC_eq]
theorem mOm (f:AV→AV) (i:Nat) (l:List (Value×AV)) (r:List (Nat×Option Ob)):mapO f ((i,some (.mp l))::r)=(i,some (.mp l))::mapO f r:=rfl
theorem mOq (f:AV→AV) (i:Nat) (l:List (Value×AV)) (k:Value) (v:AV) (r:List (Nat×Option Ob)):mapO f ((i,some (.mpl l k v))::r)=(i,some (.mpl l k (f v)))::mapO f r:=rfl
theorem mOt (f:AV→AV) (i:Nat) (T:TypeId) (vs:Array Value) (r:List (Nat×Option Ob)):mapO f ((i,some (.lit T vs))::r)=(i,some (.lit T vs))::mapO f r:=rfl
theorem mOl (f:AV→AV) (i l:Nat) (tm ps asg body st) (r:List (Nat×Option Ob)):mapO f ((i,some (.loop l tm ps asg body st))::r)=(i,some (.loop l tm ps asg body st))::mapO f r:=rfl
section
variable (i j:Nat)
theorem k_any:AV.kill i .any=.any:=rfl
theorem k_pv (p:PV):AV.kill i (.pv p)=.pv p:=rfl
theorem k_ptr (a b:Nat):AV.kill i (.ptr a b)=.ptr a b:=rfl
theorem k_rptr (c:List PV):AV.kill i (.rptr c)=.rptr c:=rfl
theorem k_mapr (a:Nat):AV.kill i (.mapr a)=.mapr a:=rfl
theorem k_yld (a:Nat):AV.kill i (.yld a)=.yld a:=rfl
theorem k_own (e k els):AV.kill i (.own j e k els)=bif Nat.beq i j then .any else .own j e k els:=rfl
theorem k_optr (e k els m):AV.kill i (.optr j e k els m)=bif Nat.beq i j then .any else .optr j e k els m:=rfl
theorem k_agg (cs:List AV):AV.kill i (.agg cs)=.agg (mapC (AV.kill i) cs):=by
 show AV.mp _ _=_
 rw[AV.mp,AV.mpL_eq,mapC_eq];rfl
theorem k_tup (cs:List AV):AV.kill i (.tup cs)=.tup (mapC (AV.kill i) cs):=by
 show AV.mp _ _=_
 rw[AV.mp,AV.mpL_eq,mapC_eq];rfl
theorem k_clo (fn:Go.Fn) (cs ds:List AV):AV.kill i (.clo fn cs ds)=.clo fn (mapC (AV.kill i) cs) (mapC (AV.kill i) ds):=by
 show AV.mp _ _=_
 rw[AV.mp,AV.mpL_eq,AV.mpL_eq,mapC_eq,mapC_eq];rfl
end
theorem co_agg (cs:List AV):AV.cellsOf (.agg cs)=cs:=rfl
theorem co_pv (p:PV):AV.cellsOf (.pv p)=[.pv p]:=rfl
theorem co_ptr (a b:Nat):AV.cellsOf (.ptr a b)=[.ptr a b]:=rfl
theorem co_own (i e k els):AV.cellsOf (.own i e k els)=[.own i e k els]:=rfl
theorem co_any:AV.cellsOf .any=[.any]:=rfl
theorem co_mapr (i:Nat):AV.cellsOf (.mapr i)=[.mapr i]:=rfl
theorem co_clo (fn a b):AV.cellsOf (.clo fn a b)=[.clo fn a b]:=rfl
theorem co_rptr (c):AV.cellsOf (.rptr c)=[.rptr c]:=rfl
def cset:List AV→Nat→AV→List AV
 |[],_,_=>[]
 |_::r,0,w=>w::r
 |v::r,n+1,w=>v::cset r n w
theorem cset_eq:∀(l:List AV) (n:Nat) (w:AV),l.set n w=cset l n w
 |[],_,_=>rfl
 |_::_,0,_=>rfl
 |v::r,n+1,w=>by rw[List.set_cons_succ,cset_eq r n w];rfl
theorem lp {i l:Nat} {tm ps asg body st} (st':LpSt) (h:lookOb o i=some (.loop l tm ps asg body st)):DS.lpSt ⟨n,e,o,x⟩ i st'=⟨n,e,(i,some (.loop l tm ps asg body st'))::o,x⟩:=by
 unfold DS.lpSt DS.ob
 simp only[h];rfl
theorem lo1 (i j:Nat) (v:Option Ob) (r:List (Nat×Option Ob)):lookOb ((i,v)::r) j=bif Nat.beq i j then v else lookOb r j:=rfl
end Nf
end Go.Ab
/- Laws of operations whose results stand in plain form. -/
namespace Go.Ab
open Go Go.RowKit
attribute [local irreducible] HS
variable {q:Md} {P:Program} {g:Ghost} {δ:DS} {κ:Nat→Option Nat} {a:Act} {w:World}
variable {ops:Array Oper} {rest:List Oper} {Q:Exit→DS→Prop} {dst:Option Nat} {ty:TypeId} {pos:String} {af:Array Edge}
def offB (P:Program) (s:TypeId) (f k:Nat):Bool:=match P.underlying s with
 |some (.struct fs)=>(match fs[f]? with|some fld=>Nat.beq fld.offset k && ((P.info? fld.type).map fun i=>Nat.blt 0 i.size)==some true|none=>false)
 |_=>false
theorem AOps.fieldAddrN (s:TypeId) (f k:Nat) {x:Operand} {i off:Nat} (hx:δ.ev x=.ptr i off) (hB:offB P s f k=true) (ho:okT x=true) (hd:okD δ.n dst=true)
  (hK:AOps q P g ops rest Q (δ.putd dst (.ptr i (off+k)))):AOps q P g ops (⟨dst,.fieldAddr s x f,ty,pos,af,none⟩::rest) Q δ:=by
 unfold offB at hB
 split at hB
 ·rename_i fs hs
  split at hB
  ·rename_i fld hf
   simp only[Bool.and_eq_true,beq_iff_eq] at hB
   have hk:=Nat.eq_of_beq_eq_true hB.1
   subst hk
   exact AOps.fieldAddr hx hs hf hB.2 ho hd hK
  ·cases hB
 ·cases hB
def off1B (P:Program) (s:TypeId) (f k:Nat):Bool:=match P.underlying s with
 |some (.struct fs)=>(match fs[f]? with|some fld=>Nat.beq fld.offset k && scalarT P fld.type|none=>false)
 |_=>false
theorem AOps.field1N (s:TypeId) (f k:Nat) {x:Operand} {cs:List AV} {v:AV} (hx:δ.ev x=.agg cs) (hB:off1B P s f k=true) (hv:cs[k]? =some v) (ho:okT x=true) (hd:okD δ.n dst=true)
  (hK:AOps q P g ops rest Q (δ.putd dst v)):AOps q P g ops (⟨dst,.field s x f,ty,pos,af,none⟩::rest) Q δ:=by
 unfold off1B at hB
 split at hB
 ·rename_i fs hs
  split at hB
  ·rename_i fld hf
   simp only[Bool.and_eq_true] at hB
   have hk:=Nat.eq_of_beq_eq_true hB.1
   subst hk
   exact AOps.field1 hx hs hf hB.2 hv ho hd hK
  ·cases hB
 ·cases hB
def subA:List AV→Nat→Nat→List AV
 |[],_,_=>[]
 |v::r,k,n=>bif k==0 then (bif n==0 then [] else v::subA r 0 (n - 1)) else subA r (k - 1) n
def subP:List PV→Nat→Nat→List PV
 |[],_,_=>[]
 |v::r,k,n=>bif k==0 then (bif n==0 then [] else v::subP r 0 (n - 1)) else subP r (k - 1) n
theorem subP_eq:∀(l:List PV) (k n:Nat),(l.drop k).take n=subP l k n
 |[],k,n=>by simp [subP]
 |v::r,0,0=>by simp [subP]
 |v::r,0,n+1=>by
  have:=subP_eq r 0 n
  simp only[List.drop_zero] at this
  simp [subP,← this]
 |v::r,k+1,n=>by simp [subP,← subP_eq r k n]
def offrB (P:Program) (s:TypeId) (f k n:Nat):Bool:=match P.underlying s with
 |some (.struct fs)=>(match fs[f]? with|some fld=>Nat.beq fld.offset k && (((P.info? fld.type).map fun i=>Nat.blt 0 i.size)==some true && (P.info? fld.type).map (·.size)==some n)|none=>false)
 |_=>false
theorem AOps.fieldAddr_rN (s:TypeId) (f k n:Nat) {x:Operand} {cs:List PV} (hx:δ.ev x=.rptr cs) (hB:offrB P s f k n=true) (ho:okT x=true) (hd:okD δ.n dst=true)
  (hK:AOps q P g ops rest Q (δ.putd dst (.rptr (subP cs k n)))):AOps q P g ops (⟨dst,.fieldAddr s x f,ty,pos,af,none⟩::rest) Q δ:=by
 unfold offrB at hB
 split at hB
 ·rename_i fs hs
  split at hB
  ·rename_i fld hf
   simp only[Bool.and_eq_true,beq_iff_eq] at hB
   have hk:=Nat.eq_of_beq_eq_true hB.1
   subst hk
   exact AOps.fieldAddr_r hx hs hf hB.2.1 hB.2.2 ho hd (by rw[subP_eq];exact hK)
  ·cases hB
 ·cases hB
def litL:List Value→List AV
 |[]=>[]
 |v::r=> .pv (.lit v)::litL r
theorem litL_eq:∀l:List Value,(l.map fun v=>AV.pv (PV.lit v))=litL l
 |[]=>rfl
 |v::r=>by rw[List.map_cons,litL_eq r];rfl
def layN:List AV→List (Nat×AV)→List AV
 |cs,[]=>cs
 |cs,(k,v)::r=>layN (setN cs k v.cellsOf) r
where setN:List AV→Nat→List AV→List AV
 |cs,_,[]=>cs
 |cs,k,v::r=>setN (Nf.cset cs k v) (k+1) r
theorem setN_eq:∀(vs cs:List AV) (k:Nat),setsA cs k vs=layN.setN cs k vs
 |[],cs,k=>rfl
 |v::r,cs,k=>by
  unfold setsA layN.setN
  rw[Nf.cset_eq,setN_eq r]
theorem fillA_lay {place:Nat→Option (Nat×Nat)}:∀(ps:List (Nat×AV)) (offs:List Nat) (cs cells:List AV),fillA place cs ps=some cells→(ps.map fun p=>(place p.1).map (·.1))=offs.map some→
  cells=layN cs (offs.zip (ps.map (·.2)))
 |[],offs,cs,cells,h,_=>by simp only[fillA,Option.some.injEq] at h;subst h;cases offs<;>rfl
 |(i,v)::ps,[],cs,cells,h,ho=>by simp at ho
 |(i,v)::ps,k::offs,cs,cells,h,ho=>by
  simp only[List.map_cons,List.cons.injEq] at ho
  unfold fillA at h
  cases hp:place i with
  |none=>rw[hp] at h;cases h
  |some x=>
   obtain⟨off,size⟩:=x
   rw[hp] at h ho
   simp only[Option.map_some,Option.some.injEq] at ho
   obtain⟨rfl,ho⟩:=ho
   simp only at h
   cases hb:(Nat.beq v.cellsOf.length size && Nat.ble (off+v.cellsOf.length) cs.length && AV.ones v.cellsOf) with
   |false=>rw[hb] at h;cases h
   |true=>
    rw[hb] at h
    have:=fillA_lay ps offs _ cells h ho
    rw[this,setN_eq]
    rfl
def layP (e:List (Nat×AV)):List Nat→List (Nat×Operand)→List (Nat×AV)
 |k::ks,(_,.tmp t)::ps=>(k,look e t)::layP e ks ps
 |k::ks,(_,.const v)::ps=>(k,.pv (.lit v))::layP e ks ps
 |k::ks,(_,.global _)::ps=>(k,.any)::layP e ks ps
 |k::ks,(_,.func f)::ps=>(k,.clo (.func f) [] [])::layP e ks ps
 |_,_=>[]
theorem layP_eq (δ:DS):∀(offs:List Nat) (ps:List (Nat×Operand)),offs.zip ((ps.map fun p=>(p.1,δ.ev p.2)).map (·.2))=layP δ.env offs ps
 |[],[]=>rfl
 |[],_::_=>rfl
 |_::_,[]=>rfl
 |k::ks,(i,x)::ps=>by
  simp only[List.map_cons,List.zip_cons_cons,layP_eq δ ks ps]
  cases x<;>rfl
theorem AOps.buildN (t:TypeId) (offs:List Nat) {l:List Value} {parts:List (Nat×Operand)} {fs:Array Field} {z:Value} {cells:List AV} (hs:P.underlying t=some (.struct fs)) (hz:(P.info? t).bind (·.zero)=some z) (hl:z.cells=l.toArray) (h1:z.cells.toList.all (·.oneCell')=true) (hall:fs.toList.all (fun f=>(P.info? f.type).isSome)=true)
  (ho:parts.all (fun p=>okT p.2)=true) (hof:((parts.map fun p=>(p.1,δ.ev p.2)).map fun p=>(placeOf P fs p.1).map (·.1))=offs.map some) (hf:fillA (placeOf P fs) (z.cells.toList.map fun v=> .pv (.lit v)) (parts.map fun p=>(p.1,δ.ev p.2))=some cells) (hd:okD δ.n dst=true)
  (hK:AOps q P g ops rest Q (δ.putd dst (.agg (layN (litL l) (layP δ.env offs parts))))):AOps q P g ops (⟨dst,.build t parts.toArray,ty,pos,af,none⟩::rest) Q δ:=by
 refine AOps.build hs hz h1 hall ho hf hd ?_
 have:=fillA_lay _ offs _ cells hf hof
 rw[layP_eq,hl,List.toList_toArray,litL_eq] at this
 rw[this]
 exact hK
theorem AOps.allocN' {e:TypeId} {z:Value} {l:List Value} (hz:(P.info? e).bind (·.zero)=some z) (hl:z.cells=l.toArray) (h1:z.cells.toList.all (·.oneCell')=true) (hd:okD δ.n dst=true)
  (hK:AOps .plain P g ops rest Q ((δ.addOb (.box (litL l))).putd dst (.ptr δ.nx 0))):AOps .plain P g ops (⟨dst,.alloc e,ty,pos,af,none⟩::rest) Q δ:=by
 refine AOps.alloc hz h1 hd ?_
 rw[hl,List.toList_toArray,litL_eq]
 exact hK
def setSt:Option Ob→LpSt→Option Ob
 |some (.loop l tm ps asg body _),st=>some (.loop l tm ps asg body st)
 |o,_=>o
def stO (δ:DS) (i:Nat) (st:LpSt):DS:=⟨δ.n,δ.env,(i,setSt (lookOb δ.objs i) st)::δ.objs,δ.nx⟩
theorem stO_eq {i l:Nat} {s:LpSt} (st:LpSt) (h:isLp δ i l s):δ.lpSt i st=stO δ i st:=by
 obtain⟨tm,ps,asg,body,ho⟩:=h
 unfold DS.lpSt stO
 rw[ho]
 have:lookOb δ.objs i=some (.loop l tm ps asg body s):=ho
 rw[this]
 rfl
def roundEndsN (P:Program) (g:Ghost) (ops:Array Oper) (rest:List Oper) (Q:Exit→DS→Prop) (dst:Option Nat) (n i l:Nat):Exit→DS→Prop
 |.normal,δ=>isLp δ i l .busy∧AOps .plain P g ops rest Q ((stO (roundBack n δ) i .ready).putd dst (litB true))
 |.ret,δ=>isLp δ i l .busy∧AOps .plain P g ops rest Q ((stO (roundBack n δ) i (.done .ret)).putd dst (litB false))
 |.exit id,δ=>isLp δ i l .busy∧AOps .plain P g ops rest Q ((stO (roundBack n δ) i (.done (.exit id))).putd dst (litB false))
 |_,_=>False
theorem isLp_back {n i l:Nat} {st} (h:isLp δ i l st):isLp (roundBack n δ) i l st:=h
theorem roundEndsN_n {n i l:Nat} (h1:isLp δ i l .busy) (h2:AOps .plain P g ops rest Q ((stO (roundBack n δ) i .ready).putd dst (litB true))):roundEndsN P g ops rest Q dst n i l .normal δ:=⟨h1,h2⟩
def bkO (n i:Nat) (δ:DS):DS:=⟨n,unshiftE δ.env,(i,setSt (lookOb δ.objs i) .over)::δ.objs,δ.nx⟩
theorem bkO_eq {n i l:Nat} {tm ps asg body st} (ho:δ.ob i=some (.loop l tm ps asg body st)):backD n i δ=bkO n i δ:=by
 unfold backD bkO
 rw[ho]
 have:lookOb δ.objs i=some (.loop l tm ps asg body st):=ho
 rw[this];rfl
theorem iterEndsN_ready {n i l:Nat} {tm ps asg body} {e:Exit} (he:e=.normal∨e=.ret) (ho:δ.ob i=some (.loop l tm ps asg body .ready)) (h:Q .normal (bkO n i δ)):iterEnds n i l Q e δ:=iterEnds_ready he ho (by rw[bkO_eq ho];exact h)
namespace Nf
variable {n x:Nat} {e:List (Nat×AV)} {o:List (Nat×Option Ob)}
theorem sto (i:Nat) (st:LpSt):stO ⟨n,e,o,x⟩ i st=⟨n,e,(i,setSt (lookOb o i) st)::o,x⟩:=rfl
theorem bko (m i:Nat):bkO m i ⟨n,e,o,x⟩=⟨m,unshiftE e,(i,setSt (lookOb o i) .over)::o,x⟩:=rfl
theorem sst (l:Nat) (tm ps asg body st st'):setSt (some (.loop l tm ps asg body st)) st'=some (.loop l tm ps asg body st'):=rfl
theorem ll0:litL []=[]:=rfl
theorem ll1 (v:Value) (r:List Value):litL (v::r)=.pv (.lit v)::litL r:=rfl
theorem la0 (cs:List AV):layN cs []=cs:=rfl
theorem la1 (cs:List AV) (k:Nat) (v:AV) (r:List (Nat×AV)):layN cs ((k,v)::r)=layN (layN.setN cs k v.cellsOf) r:=rfl
theorem sn0 (cs:List AV) (k:Nat):layN.setN cs k []=cs:=rfl
theorem sn1 (cs:List AV) (k:Nat) (v:AV) (r:List AV):layN.setN cs k (v::r)=layN.setN (cset cs k v) (k+1) r:=rfl
theorem cs0 (k:Nat) (w:AV):cset [] k w=[]:=rfl
theorem cs1 (v:AV) (r:List AV) (k:Nat) (w:AV):cset (v::r) k w=bif k==0 then w::r else v::cset r (k - 1) w:=by cases k<;>rfl
theorem lp_t (k:Nat) (ks:List Nat) (i t:Nat) (ps:List (Nat×Operand)):layP e (k::ks) ((i,.tmp t)::ps)=(k,look e t)::layP e ks ps:=rfl
theorem lp_c (k:Nat) (ks:List Nat) (i:Nat) (v:Value) (ps:List (Nat×Operand)):layP e (k::ks) ((i,.const v)::ps)=(k,.pv (.lit v))::layP e ks ps:=rfl
theorem lp_f (k:Nat) (ks:List Nat) (i f:Nat) (ps:List (Nat×Operand)):layP e (k::ks) ((i,.func f)::ps)=(k,.clo (.func f) [] [])::layP e ks ps:=rfl
theorem lp0:layP e [] []=[]:=rfl
theorem sa0 (k n:Nat):subA [] k n=[]:=rfl
theorem sa1 (v:AV) (r:List AV) (k n:Nat):subA (v::r) k n=bif k==0 then (bif n==0 then [] else v::subA r 0 (n - 1)) else subA r (k - 1) n:=rfl
theorem sp0 (k n:Nat):subP [] k n=[]:=rfl
theorem sp1 (v:PV) (r:List PV) (k n:Nat):subP (v::r) k n=bif k==0 then (bif n==0 then [] else v::subP r 0 (n - 1)) else subP r (k - 1) n:=rfl
end Nf
end Go.Ab
namespace Go.Ab
open Go Go.RowKit
section
variable {q:Md} {P:Program} {g:Ghost} {δ:DS} {ops:Array Oper} {rest:List Oper} {Q:Exit→DS→Prop} {dst:Option Nat} {ty:TypeId} {pos:String} {af:Array Edge}
theorem AOps.assign_mapr {x:Operand} {i:Nat} (hx:δ.ev x=.mapr i) (ho:okT x=true) (hd:okD δ.n dst=true) (hK:AOps q P g ops rest Q (δ.putd dst (.mapr i))):AOps q P g ops (⟨dst,.assign x,ty,pos,af,none⟩::rest) Q δ:=AOps.assign hx ho hd hK
theorem AOps.move_mapr {x:Operand} {i:Nat} (hx:δ.ev x=.mapr i) (ho:okT x=true) (hd:okD δ.n dst=true) (hK:AOps q P g ops rest Q (δ.putd dst (.mapr i))):AOps q P g ops (⟨dst,.move x,ty,pos,af,none⟩::rest) Q δ:=AOps.move hx ho hd hK
end
end Go.Ab
/- Maps:written,counted,ranged over;told as sets and frozen. -/
namespace Go.Ab
open Go Go.RowKit
variable {q:Md} {P:Program} {g:Ghost} {δ:DS} {κ:Nat→Option Nat} {a:Act} {w:World}
variable {gd:Option (Tmp×Bool)} {ops:Array Oper} {rest:List Oper} {Q:Exit→DS→Prop} {dst:Option Nat} {ty:TypeId} {pos:String} {af:Array Edge}
def updI:List (Int×AV)→Int→AV→List (Int×AV)
 |[],m,v=>[(m,v)]
 |(k,u)::l,m,v=>if m=k then (k,v)::l else (k,u)::updI l m v
theorem updI_none:∀{l:List (Int×AV)} {m:Int} {v:AV},lookI l m=none→updI l m v=l++ [(m,v)]
 |[],_,_,_=>rfl
 |(k,u)::l,m,v,h=>by
  unfold lookI at h
  split at h
  ·cases h
  ·rename_i hk
   simp [updI,hk,updI_none h]
theorem updI_at:∀{l:List (Int×AV)} {m:Int} {v:AV} {j:Nat} {u:AV},l[j]? =some (m,u)→(∀i,i<j→∀p,l[i]? =some p→p.1≠m)→updI l m v=l.set j (m,v)
 |[],_,_,_,_,h,_=>by simp at h
 |(k,u')::l,m,v,0,u,h,_=>by
  simp at h;obtain⟨rfl,rfl⟩:=h
  simp [updI]
 |(k,u')::l,m,v,j+1,u,h,hl=>by
  have hk:m≠k:=fun e=>hl 0 (by omega) (k,u') rfl e.symm
  simp only[updI,if_neg hk,List.set_cons_succ]
  rw[updI_at (j:=j) (u:=u) (by simpa using h) (fun i hi p hp=>hl (i+1) (by omega) p (by simpa using hp))]
theorem findNow_first {C:Cx} {w:World} (m:Int):∀(es:List MapEntry) (l:List (Int×AV)) (i:Nat),es.length=l.length→
  (∀(j:Nat) (e:MapEntry) (p:Int×AV),es[j]? =some e→l[j]? =some p→e.key=.int .i64 p.1∧RA C w e.val p.2)→
  (lookI l m=none∧Instr.findNow (.int .i64) (.int .i64 m) es i=some none)∨
  (∃(j:Nat) (e:MapEntry) (v:AV),Instr.findNow (.int .i64) (.int .i64 m) es i=some (some (i+j,e.val))∧es[j]? =some e∧l[j]? =some (m,v)∧e.key=.int .i64 m∧∀i,i<j→∀p,l[i]? =some p→p.1≠m):=by
 intro es
 induction es with
 |nil=>intro l i hs _;have:l=[]:=List.eq_nil_of_length_eq_zero hs.symm;subst this;exact .inl ⟨rfl,rfl⟩
 |cons e es ih=>
  intro l i hs h
  cases l with
  |nil=>simp at hs
  |cons p l=>
   obtain⟨k,v⟩:=p
   have h0:=h 0 e (k,v) rfl rfl
   by_cases hk:m=k
   ·subst hk
    refine .inr ⟨0,e,v,?_,rfl,rfl,h0.1,fun i hi=>by omega⟩
    simp [Instr.findNow,h0.1,Instr.sameNow]
   ·have hf:Instr.findNow (.int .i64) (.int .i64 m) (e::es) i=Instr.findNow (.int .i64) (.int .i64 m) es (i+1):=by
     have hb:(m==k)=false:=by simp [hk]
     simp [Instr.findNow,h0.1,Instr.sameNow,hb]
    rcases ih l (i+1) (by simpa using hs) (fun j e p h1 h2=>h (j+1) e p (by simpa using h1) (by simpa using h2)) with ⟨h1,h2⟩|⟨j,e',v',h2,h3,h4,h5,h6⟩
    ·exact .inl ⟨by simp [lookI,hk,h1],hf.trans h2⟩
    ·refine .inr ⟨j+1,e',v',by rw[hf,h2];simp;omega,by simpa using h3,by simpa using h4,h5,fun i' hi' p hp=>?_⟩
     cases i' with
     |zero=>simp at hp;subst hp;exact fun e=>hk e.symm
     |succ i'=>exact h6 i' (by omega) p (by simpa using hp)
theorem Eff.mapUpdate {x y z:Operand} {t kt et:TypeId} {i:Nat} {l:List (Int×AV)} {m:Int} {v:AV} (hx:δ.ev x=.mapr i) (hob:δ.ob i=some (.mp (mpI l))) (hy:δ.ev y=litI m) (hz:δ.ev z=v) (hvn:v.noOwn=true) (ht:P.underlying t=some (.map kt et)) (hk:P.underlying kt=some (.int .i64))
  (ho:okT x=true) (ho':okT y=true) (hoz:okT z=true) (hd:okD δ.n dst=true) (hwk:g.wtOk i):
  Eff P g ⟨dst,.mapUpdate t x y z,ty,pos,af,gd⟩ δ ((δ.setOb i (some (.mp (mpI (updI l m v))))).putd dst .any):=by
 intro κ a w r
 obtain⟨b,es,clock,h1,h2,h3,h4,h5,hnoo⟩:=r.mpo (r.ra hx ho) hob
 obtain⟨h6,h7⟩:=h4.mpI
 have hzv:=r.ra hz hoz
 have hik:MapKept.IsKey (.int .i64) (.int .i64 m):=by simp [MapKept.IsKey]
 have hck:∀e,(Instr.checkKey e (9999+1) kt (.int .i64 m)).run P w=.ok () w:=fun e=>MapKept.run_checkKey hk hik e 9999
 rcases findNow_first m es.toList l 0 h6 h7 with ⟨h8,h9⟩|⟨j,e,u,h9,h10,h11,h12,h13⟩
 ·have hrun:(execOp a.eval ⟨dst,.mapUpdate t x y z,ty,pos,af,gd⟩).run P w=.ok .skip {w with heap:=w.heap.setIfInBounds b (.map (es.push {key:=.int .i64 m,val:=a.eval z,born:=clock}) (clock+1))}:=by
   simp [execOp,r.lit hy ho',h1,Instr.mapUpdate,run_underlying ht,MapKept.run_getObj_map h3,hck,run_findMap hk h9,MapKept.run_setObj_map _ h3]
  obtain⟨r',G⟩:=r.modify (o':=.mp (mpI (updI l m v))) hob rfl rfl h2 hwk (Turns.setHeap w b (.map (es.push {key:=.int .i64 m,val:=a.eval z,born:=clock}) (clock+1))) (by simp) (fun C hC G=>by
   have h14:MapIs C {w with heap:=w.heap.setIfInBounds b (.map (es.push {key:=.int .i64 m,val:=a.eval z,born:=clock}) (clock+1))} es (mpI l):=h4.goes G
   obtain⟨h15,h16⟩:=h14.push h5 m (G.ra hzv)
   rw[updI_none h8]
   exact⟨b,_,_,by rw[hC];exact h2,setHeap_same h3,h15,h16,fun p hp=>by
    rw[mpI_append] at hp
    rcases List.mem_append.1 hp with hp|hp
    ·exact hnoo p hp
    ·simp [mpI] at hp;subst hp;exact hvn⟩)
  exact .inl ⟨_,_,_,_,hrun,.inr ⟨rfl,rfl⟩,r'.putd (okD_spec hd) (.any _)⟩
 ·rw[Nat.zero_add] at h9
  have hej:es[j]? =some e:=by simpa using h10
  have hrun:(execOp a.eval ⟨dst,.mapUpdate t x y z,ty,pos,af,gd⟩).run P w=.ok .skip {w with heap:=w.heap.setIfInBounds b (.map (es.modify j fun e=>{e with key:=.int .i64 m,val:=a.eval z}) clock)}:=by
   simp [execOp,r.lit hy ho',h1,Instr.mapUpdate,run_underlying ht,MapKept.run_getObj_map h3,hck,run_findMap hk h9,hej,h12,MapKept.run_keyThatStays hik,MapKept.run_setObj_map _ h3]
  obtain⟨r',G⟩:=r.modify (o':=.mp (mpI (updI l m v))) hob rfl rfl h2 hwk (Turns.setHeap w b (.map (es.modify j fun e=>{e with key:=.int .i64 m,val:=a.eval z}) clock)) (by simp) (fun C hC G=>by
   rw[updI_at h11 h13]
   refine⟨b,_,_,by rw[hC];exact h2,setHeap_same h3,⟨by have:=h4.1;simp [mpI] at this ⊢;exact this,fun k e' p h14 h15=>?_⟩,⟨by simp [h5.1],fun k e' h14=>?_⟩,fun p hp=>?_⟩
   ·rw[Array.getElem?_modify] at h14
    simp only[mpI,List.map_set] at h15
    rw[List.getElem?_set] at h15
    by_cases hjk:j=k
    ·subst hjk
     rw[if_pos rfl,Option.map_eq_some_iff] at h14
     obtain⟨e0,h14,rfl⟩:=h14
     rw[if_pos rfl] at h15
     split at h15
     ·cases h15;exact⟨rfl,G.ra hzv⟩
     ·cases h15
    ·rw[if_neg hjk] at h14 h15
     obtain⟨h16,h17⟩:=h4.2 k e' p h14 h15
     exact⟨h16,G.ra h17⟩
   ·rw[Array.getElem?_modify] at h14
    by_cases hjk:j=k
    ·rw[if_pos hjk,Option.map_eq_some_iff] at h14
     obtain⟨e0,h14,rfl⟩:=h14
     exact h5.2 k e0 h14
    ·rw[if_neg hjk] at h14;exact h5.2 k e' h14
   ·simp only[mpI,List.map_set] at hp
    rcases List.mem_or_eq_of_mem_set hp with hp|rfl
    ·exact hnoo p hp
    ·exact hvn)
  exact .inl ⟨_,_,_,_,hrun,.inr ⟨rfl,rfl⟩,r'.putd (okD_spec hd) (.any _)⟩
theorem Rel.ito (r:Rel g δ κ a w) {u:Value} {i:Nat} {l:List (Value×PV)} {seen:List Nat} (h:RA (δ.cx g κ) w u (.ptr i 0)) (ho:δ.ob i=some (.it l seen)):
  ∃b,u=.pointer (some ⟨b,0,none⟩)∧κ i=some b∧ItIs (δ.cx g κ).N w b l seen:=by
 cases h with
 | @ptr _ _ b hl hκ=>
  obtain⟨b',h1,h2⟩:=r.obj i _ ho
  have:b'=b:=Option.some.inj (h1.symm.trans hκ)
  subst this
  exact⟨b',rfl,h1,h2⟩
theorem ra_tup3 {C:Cx} {w:World} {u1 u2 u3:Value} {v1 v2 v3:AV} (h1:RA C w u1 v1) (h2:RA C w u2 v2) (h3:RA C w u3 v3):RA C w (.tuple #[u1,u2,u3]) (.tup [v1,v2,v3]):=ra_three h1 h2 h3
theorem stamps_nodup {es:Array MapEntry} {clock:Nat} (h:Stamps es clock):(es.toList.map (·.born)).Nodup:=by
 have:es.toList.map (·.born)=List.range es.size:=by
  apply List.ext_getElem?
  intro j
  rw[List.getElem?_map,Array.getElem?_toList]
  by_cases hj:j<es.size
  ·rw[Array.getElem?_eq_getElem hj,Option.map_some,h.2 j _ (Array.getElem?_eq_getElem hj),List.getElem?_range hj]
  ·rw[Array.getElem?_eq_none (by omega),List.getElem?_eq_none (by simpa using hj)];rfl
 rw[this];exact List.nodup_range
theorem AOps.next {x:Operand} {i:Nat} {l:List (Value×PV)} {seen:List Nat} (hx:δ.ev x=.ptr i 0) (hob:δ.ob i=some (.it l seen)) (ho:okT x=true) (hd:okD δ.n dst=true) (hwt:g.wt=none)
  (hK0:(∀j,j<l.length→j∈seen)→AOps .plain P g ops rest Q (δ.putd dst (.tup [litB false])))
  (hK1:∀j (hj:j<l.length),j∉seen→AOps .plain P g ops rest Q ((δ.setOb i (some (.it l (seen++ [j])))).putd dst (.tup [litB true,.pv (.lit l[j].1),.pv l[j].2]))):
  AOps .plain P g ops (⟨dst,.next x false,ty,pos,af,none⟩::rest) Q δ:=by
 intro κ a w r
 obtain⟨b,hv,h2,h3⟩:=r.ito (r.ra hx ho) hob
 show wpListIn _ _ P ops _ (_::rest) a w
 refine wpl_plain rfl rfl fun K hK'=>?_
 unfold Oper.wpF
 rcases h3 with ⟨rfl,h3⟩|⟨m,es,clock,hN,hm,hh,hs,hst,hkv,hit,hsl⟩
 ·have hrun:(execOp a.eval ⟨dst,.next x false,ty,pos,af,none⟩).run P w=.ok (.value (.tuple #[.bool false])) w:=by
   have:(Instr.next (.pointer (some ⟨b,0,none⟩)) false ty).run P w=.ok (.tuple #[.bool false]) w:=by
    simp only[Instr.next,getObj,Sem.run_bind,Sem.run,h3,Result.andThen]
    rfl
   simp [execOp,hv,this]
  rw[hrun,Oper.uponIn_value]
  exact hK' _ _ (hK0 (by simp) κ _ _ (r.putd (okD_spec hd) (.tup rfl fun j u c h4 h5=>by
   cases j with
   |zero=>simp at h4 h5;subst h4;subst h5;exact .pv (.lit _)
   |succ j=>simp at h5)))
 ·have hold:∀e∈es.toList,e.born<clock:=by
   intro e he
   obtain⟨j,hj⟩:=List.getElem?_of_mem he
   have hj':es[j]? =some e:=by simpa using hj
   rw[hst.2 j e hj',hst.1]
   exact(Array.getElem?_eq_some_iff.1 hj').1
  rcases run_next_at (P:=P) w ty b m clock clock seen.toArray es clock hit hh hold (Nat.le_refl _) with ⟨h4,h5⟩|⟨e,he,w1,hw1,h5⟩
  ·have hrun:(execOp a.eval ⟨dst,.next x false,ty,pos,af,none⟩).run P w=.ok (.value (.tuple #[.bool false])) w:=by simp [execOp,hv,h5]
   rw[hrun,Oper.uponIn_value]
   have hall:=all_seen es seen.toArray h4
   exact hK' _ _ (hK0 (fun j hj=>by
    have hj2:j<es.size:=by omega
    have:=hall es[j] (by simp)
    rw[hst.2 j _ (Array.getElem?_eq_getElem hj2)] at this
    simpa using this) κ _ _ (r.putd (okD_spec hd) (.tup rfl fun j u c h4 h5=>by
    cases j with
    |zero=>simp at h4 h5;subst h4;subst h5;exact .pv (.lit _)
    |succ j=>simp at h5)))
  ·obtain⟨he1,he2⟩:=mem_left he
   obtain⟨j,hj⟩:=List.getElem?_of_mem he1
   have hj':es[j]? =some e:=by simpa using hj
   have hb:=hst.2 j e hj'
   have hjl:j<l.length:=by rw[← hs];exact(Array.getElem?_eq_some_iff.1 hj').1
   have hns:j∉seen:=by rw[hb] at he2;simpa using he2
   obtain⟨hke,hre⟩:=hkv j e _ hj' (List.getElem?_eq_getElem hjl)
   have hrun:(execOp a.eval ⟨dst,.next x false,ty,pos,af,none⟩).run P w=.ok (.value (.tuple #[.bool true,e.key,e.val])) (ChangeMaps.setBlock w1 b (.mapIter (some m) clock (seen.toArray.push e.born) clock)):=by simp [execOp,hv,h5]
   rw[hrun,Oper.uponIn_value]
   have hbel:Below w.heap.size w w1:=by
    rcases hw1 with rfl|rfl
    ·exact Below.refl _ _
    ·exact Below.drew (Below.refl _ _)
   have r1:=r.ext hbel
   have hh1:w1.heap=w.heap:=by rcases hw1 with rfl|rfl<;>rfl
   have hlt:b<w1.heap.size:=by rw[hh1];exact heap_lt hit
   obtain⟨r2,G⟩:=r1.modify (o':=.it l (seen++ [j])) hob rfl rfl h2 (wtOk_none hwt i) (Turns.setHeap w1 b (.mapIter (some m) clock (seen.toArray.push e.born) clock)) (by simp) (fun C hC G=>by
    have hN1:=G.N m (by rw[hh1];exact hm) hN
    refine⟨b,by rw[hC];exact h2,.inr ⟨m,es,clock,hN1.1,by simp [hh1];exact hm,by rw[hN1.2,hh1];exact hh,hs,hst,fun j e p h6 h7=>⟨(hkv j e p h6 h7).1,?_⟩,?_,fun k hk=>?_⟩⟩
    ·have h8:=(hkv j e p h6 h7).2
     refine h8.mono (by simp [hh1]) fun b' hb' hN'=>?_
     have:=G.N b' (by rw[hh1];exact hb') hN'
     exact⟨this.1,by rw[this.2,hh1]⟩
    ·rw[setHeap_same (o:=.mapIter (some m) clock seen.toArray clock) (by rw[hh1];exact hit)]
     rw[hb];simp
    ·rcases List.mem_append.1 hk with hk|hk
     ·exact hsl k hk
     ·simp at hk;subst hk;exact hjl)
   refine hK' _ _ (hK1 j hjl hns κ _ _ (r2.putd (okD_spec hd) (ra_tup3 (.pv (.lit _)) ?_ ?_)))
   ·rw[hke];exact .pv (.lit _)
   ·refine .pv (hre.mono (by simp [hh1]) fun b' hb' hN'=>?_)
    have:=G.N b' (by rw[hh1];exact hb') hN'
    exact⟨this.1,by rw[this.2,hh1]⟩
theorem AOps.entry {x:Operand} {i j:Nat} {l:List (Value×PV)} {seen:List Nat} (hx:δ.ev x=.ptr i 0) (hob:δ.ob i=some (.it l (seen++ [j]))) (ho:okT x=true) (hd:okD δ.n dst=true) (hq:q≠ .held) (hj:j<l.length)
  (hK:AOps q P g ops rest Q (δ.putd dst (.tup [.pv (.lit l[j].1),.pv l[j].2]))):
  AOps q P g ops (⟨dst,.entry x,ty,pos,af,none⟩::rest) Q δ:=
 AOps.valB _ hq rfl rfl hd (fun κ a w r=>by
  obtain⟨b,hv,h2,h3⟩:=r.ito (r.ra hx ho) hob
  rcases h3 with ⟨rfl,h3⟩|⟨m,es,clock,hN,hm,hh,hs,hst,hkv,hit,hsl⟩
  ·simp at hj
  ·have hje:j<es.size:=by omega
   have hge:=Array.getElem?_eq_getElem hje
   obtain⟨h4,h5⟩:=hkv j _ _ hge (List.getElem?_eq_getElem hj)
   have hb:=hst.2 j _ hge
   refine⟨.tuple #[es[j].key,es[j].val],fun w' hw'=>?_,ra_two (by rw[h4];exact .pv (.lit _)) (.pv h5)⟩
   have h6:w'.heap[b]? =some (.mapIter (some m) clock (seen.toArray.push es[j].born) clock):=by
    rw[hw'.block b (heap_lt hit),hit,hb];simp
   have h7:w'.heap[m]? =some (.map es clock):=(hw'.block m hm).trans hh
   have:=run_entry_at (P:=P) w' b m clock seen.toArray es clock es[j] h6 h7 (by simp) (stamps_nodup hst)
   simp [execOp,hv,this]) hK
theorem Nf.mOi (f:AV→AV) (i:Nat) (l:List (Value×PV)) (seen:List Nat) (r:List (Nat×Option Ob)):Nf.mapO f ((i,some (.it l seen))::r)=(i,some (.it l seen))::Nf.mapO f r:=rfl
theorem WV.nilownE {δ δ':DS} {i e k} {els:List (List PV)} (he:els=[]) (h:δ'.lrB i=true) (hn:δ.ob i=none):WV δ δ' (.pv (.lit (.slice none 0 0))) (.own i e k els):=by rw[he];exact .nilown i e k h hn
end Go.Ab
/- Rows given up in the middle of a walk. -/
namespace Go.Ab
open Go Go.RowKit
variable {q:Md} {P:Program} {g:Ghost} {δ:DS} {κ:Nat→Option Nat} {a:Act} {w:World}
variable {ops:Array Oper} {rest:List Oper} {Q:Exit→DS→Prop} {dst:Option Nat} {ty:TypeId} {pos:String} {af:Array Edge}
def frzF (i:Nat):AV→AV
 |.own j e k els=>bif Nat.beq i j then .pv (.slice k els) else .own j e k els
 |.optr j e k els n=>bif Nat.beq i j then .any else .optr j e k els n
 |v=>v
def AV.frz (i:Nat):AV→AV:=AV.mp (frzF i)
def frzD (δ:DS) (i:Nat):DS:=(δ.mapV (AV.frz i)).setOb i none
theorem ob_frz (δ:DS) (i j:Nat):(frzD δ i).ob j=if i=j then none else (δ.ob j).map (Ob.mp' (AV.frz i)):=by
 unfold frzD
 rw[ob_setOb,ob_mapV]
theorem get_frz (δ:DS) (i j:Nat):(frzD δ i).get j=AV.frz i (δ.get j):=get_mapV (AV.frz i) rfl δ j
theorem Rel.freeze (r:Rel g δ κ a w) {i:Nat} (hi:δ.ob i=some .row):∃κ',Rel g (frzD δ i) κ' a w:=by
 have hlive:∀j,(frzD δ i).live j→j≠i∧δ.live j:=by
  rintro j ⟨o,h⟩
  rw[ob_frz] at h
  by_cases e:i=j
  ·rw[if_pos e] at h;cases h
  ·rw[if_neg e] at h
   cases ho:δ.ob j with
   |none=>rw[ho] at h;simp at h
   |some o'=>exact⟨fun e'=>e e'.symm,o',ho⟩
 have hlr:∀j,(frzD δ i).lr j↔j≠i∧δ.lr j:=by
  intro j
  unfold DS.lr
  rw[ob_frz]
  by_cases e:i=j
  ·rw[if_pos e];simp [e]
  ·rw[if_neg e]
   have e':j≠i:=fun h=>e h.symm
   cases δ.ob j with
   |none=>simp
   |some o=>cases o<;>simp [Ob.mp',e']
 have hlb:∀j,δ.lb j→(frzD δ i).lb j:=by
  rintro j ⟨o,h1,h2⟩
  have e:i≠j:=by rintro rfl;rw[hi] at h1;cases h1;simp [Ob.isRow] at h2
  refine⟨Ob.mp' (AV.frz i) o,?_,?_⟩
  ·rw[ob_frz,if_neg e,h1];rfl
  ·cases o<;>first|rfl|(simp [Ob.isRow] at h2)
 have hdrop:∀j b,δ.live j→(frzD δ i).ob j=none→κ j=some b→((frzD δ i).cx g (κof δ κ)).N b:=by
  intro j b hl hno hκ
  refine⟨r.N0own hl hκ,fun m hm e=>?_⟩
  obtain⟨h1,h2⟩:=κof_some e
  have:=r.inj j m b hl h1 hκ h2
  subst this
  obtain⟨o,hm⟩:=hm
  rw[hno] at hm;cases hm
 have G:Goes ((δ.cx g κ).less i) w ((frzD δ i).cx g (κof δ κ)) w:=
  {B:=rfl,size:=Nat.le_refl _
   N:=fun b _ hN=>⟨⟨hN.1,fun j hj e=>by
    obtain⟨h1,h2⟩:=κof_some e
    exact hN.2 j h1 h2⟩,rfl⟩
   Lr:=fun j hj=>⟨(hlr j).2 ⟨hj.2,hj.1⟩,κof_live (DS.lr_live hj.1),fun _ _=>rfl⟩
   Lb:=fun j hj=>⟨hlb j hj,κof_live (DS.lb_live hj)⟩}
 have F:∀{v:Value} {av:AV},RA (δ.cx g κ) w v av→RA ((frzD δ i).cx g (κof δ κ)) w v (AV.frz i av):=by
  intro v av h
  refine RA.mp G rfl (fun j e k els hj=>?_) (fun j e k els n hj=>?_) (fun v e k els ho=>?_) (fun b cap e k els n _ _=>?_) h
  ·simp only[frzF,beq_ne (Ne.symm hj)];rfl
  ·simp only[frzF,beq_ne (Ne.symm hj)];rfl
  ·simp only[frzF,beq_self]
   exact .pv ((RA.own ho).frz hdrop (by rw[ob_frz,if_pos rfl]))
  ·simp only[frzF,beq_self];exact .any _
 refine⟨κof δ κ,?_⟩
 exact
  {n:=r.n
   dfr:=r.dfr
   env:=fun j=>by rw[get_frz];exact F (r.env j)
   obj:=fun j o h=>by
    rw[ob_frz] at h
    by_cases e:i=j
    ·rw[if_pos e] at h;cases h
    ·rw[if_neg e] at h
     cases ho:δ.ob j with
     |none=>rw[ho] at h;simp at h
     |some o'=>
      rw[ho] at h
      simp only[Option.map_some,Option.some.injEq] at h
      subst h
      have h0:=r.obj j o' ho
      have hκ:κof δ κ j=κ j:=κof_live ⟨_,ho⟩
      cases o' with
      |row=>intro b hb;exact h0 b (hκ.symm.trans hb)
      |box cs=>
       obtain⟨b,c,e',h1,h2,h3,h4⟩:=h0
       refine⟨b,c,e',hκ.trans h1,h2,by simpa using h3,fun k u av h5 h6=>?_⟩
       simp only[List.getElem?_map,Option.map_eq_some_iff] at h6
       obtain⟨av',h6,rfl⟩:=h6
       exact⟨F (h4 k u av' h5 h6).1,(h4 k u av' h5 h6).2⟩
      |mp l=>
       obtain⟨b,es,clock,h1,h2,h3,h4⟩:=h0
       exact⟨b,es,clock,hκ.trans h1,h2,⟨h3.1,fun k e' p h5 h6=>⟨(h3.2 k e' p h5 h6).1,G.ra ((h3.2 k e' p h5 h6).2.less (h4.2 p (List.mem_of_getElem? h6)))⟩⟩,h4⟩
      |mpl l kk v=>
       obtain⟨b,es,clock,h1,h2,h3,h4⟩:=h0
       exact⟨b,es,clock,hκ.trans h1,h2,h3.last (fun u p hp h=>G.ra (h.less (h4.2 p hp))) (fun u h=>F h),h4⟩
      |it l seen=>
       obtain⟨b,h1,h2⟩:=h0
       exact⟨b,hκ.trans h1,h2.mono G.size G.N rfl⟩
      |lit T vals=>obtain⟨b,h1,h2⟩:=h0;exact⟨b,hκ.trans h1,h2⟩
      |loop l tm ps asg body st=>
       obtain⟨b,lr,h1,h2⟩:=h0
       exact⟨b,lr,hκ.trans h1,h2⟩
   inj:=fun j m b _ _ h3 h4=>r.inj j m b (κof_some h3).1 (κof_some h4).1 (κof_some h3).2 (κof_some h4).2
   lo:=fun j b _ h2=>r.lo j b (κof_some h2).1 (κof_some h2).2
   nx:=fun j h=>r.nx j (hlive j h).2
   wt:=fun k hk=>⟨(r.wt k hk).1,fun j b _ hj hb=>by
    obtain⟨hl,hκ⟩:=κof_some hb
    exact(r.wt k hk).2 j b hl (hj.imp (fun h=>((hlr j).1 h).2) id) hκ⟩
   below:=r.below
   hB:=r.hB
   N0:=r.N0
   mkf:=r.mkf
   fr:=r.fr.sub fun j b _ h2=>⟨j,(κof_some h2).1,(κof_some h2).2⟩}
mutual
def AV.fo:AV→Option Nat
 |.own i _ _ _=>some i
 |.agg cs=>AV.foL cs
 |.tup cs=>AV.foL cs
 |_=>none
def AV.foL:List AV→Option Nat
 |[]=>none
 |v::r=>match AV.fo v with|some i=>some i|none=>AV.foL r
end
theorem AOps.freeze (i:Nat) {l:List Oper} (hi:δ.ob i=some .row) (hK:AOps .plain P g ops l Q (frzD δ i)):AOps .plain P g ops l Q δ:=by
 intro κ a w r
 obtain⟨κ',r'⟩:=r.freeze hi
 exact hK κ' a w r'
theorem AOps.frzB {t:TypeId} {n i:Nat} {parts:List (Nat×Operand)} (h:AV.foL (Nf.evs δ.env (parts.map (·.2)))=some i) (hi:δ.ob i=some .row) (hK:AOps .plain P g ops (⟨dst,.buildSlice t n parts.toArray,ty,pos,af,none⟩::rest) Q (frzD δ i)):
  AOps .plain P g ops (⟨dst,.buildSlice t n parts.toArray,ty,pos,af,none⟩::rest) Q δ:=AOps.freeze i hi hK
theorem AOps.frzC {x:Operand} {i:Nat} {xs:List Operand} {tys:Array TypeId} (h:AV.foL (Nf.evs δ.env xs)=some i) (hi:δ.ob i=some .row) (hK:AOps .plain P g ops (⟨dst,.call {callee:=.value x,args:=xs.toArray,argTypes:=tys},ty,pos,af,none⟩::rest) Q (frzD δ i)):
  AOps .plain P g ops (⟨dst,.call {callee:=.value x,args:=xs.toArray,argTypes:=tys},ty,pos,af,none⟩::rest) Q δ:=AOps.freeze i hi hK
namespace Nf
variable {n x:Nat} {e:List (Nat×AV)} {o:List (Nat×Option Ob)} (i j:Nat)
theorem fd:frzD ⟨n,e,o,x⟩ i=⟨n,mapE (AV.frz i) e,(i,none)::mapO (AV.frz i) o,x⟩:=by
 unfold frzD
 rw[mv];rfl
theorem f_any:AV.frz i .any=.any:=rfl
theorem f_pv (p:PV):AV.frz i (.pv p)=.pv p:=rfl
theorem f_ptr (a b:Nat):AV.frz i (.ptr a b)=.ptr a b:=rfl
theorem f_rptr (c:List PV):AV.frz i (.rptr c)=.rptr c:=rfl
theorem f_mapr (a:Nat):AV.frz i (.mapr a)=.mapr a:=rfl
theorem f_yld (a:Nat):AV.frz i (.yld a)=.yld a:=rfl
theorem f_own (e k els):AV.frz i (.own j e k els)=bif Nat.beq i j then .pv (.slice k els) else .own j e k els:=rfl
theorem f_optr (e k els m):AV.frz i (.optr j e k els m)=bif Nat.beq i j then .any else .optr j e k els m:=rfl
theorem f_agg (cs:List AV):AV.frz i (.agg cs)=.agg (mapC (AV.frz i) cs):=by
 show AV.mp _ _=_
 rw[AV.mp,AV.mpL_eq,mapC_eq];rfl
theorem f_tup (cs:List AV):AV.frz i (.tup cs)=.tup (mapC (AV.frz i) cs):=by
 show AV.mp _ _=_
 rw[AV.mp,AV.mpL_eq,mapC_eq];rfl
theorem f_clo (fn:Go.Fn) (cs ds:List AV):AV.frz i (.clo fn cs ds)=.clo fn (mapC (AV.frz i) cs) (mapC (AV.frz i) ds):=by
 show AV.mp _ _=_
 rw[AV.mp,AV.mpL_eq,AV.mpL_eq,mapC_eq,mapC_eq];rfl
end Nf
end Go.Ab
/- Arguments read as data,told as values. -/
namespace Go.Ab
open Go Go.RowKit
variable {P:Program}
def Reads (w:World) (cs:List Value) (ps:List PV):Prop:=cs.length=ps.length∧∀(j:Nat) (c:Value) (p:PV),cs[j]? =some c→ps[j]? =some p→RP (fun _=>True) w c p∧c.oneCell'=true
theorem Reads.one {w:World} {c:Value} {p:PV} (h:RP (fun _=>True) w c p) (h1:c.oneCell'=true):Reads w [c] [p]:=
 ⟨rfl,fun j c' p' h2 h3=>by
  cases j with
  |zero=>simp at h2 h3;subst h2;subst h3;exact⟨h,h1⟩
  |succ j=>simp at h2⟩
theorem Reads.nil {w:World}:Reads w [] []:=⟨rfl,fun j c p h=>by simp at h⟩
theorem Reads.append {w:World} {cs cs':List Value} {ps ps':List PV} (h:Reads w cs ps) (h':Reads w cs' ps'):Reads w (cs++cs') (ps++ps'):=by
 refine⟨by simp [h.1,h'.1],fun j c p h1 h2=>?_⟩
 by_cases hj:j<cs.length
 ·rw[List.getElem?_append_left hj] at h1
  rw[List.getElem?_append_left (by rw[← h.1];exact hj)] at h2
  exact h.2 j c p h1 h2
 ·rw[List.getElem?_append_right (by omega)] at h1
  rw[List.getElem?_append_right (by rw[← h.1];omega),← h.1] at h2
  exact h'.2 _ c p h1 h2
def Rd (P:Program) (t:TypeId) {α:Type} (enc:α→List PV) (ok:α→Prop):Prop:=
 ∀{H:Type} (en:TypeId×Value→H) (w:World) (sp:Nat→Bool) (fuel:Nat) (cs:List Value) (x:DataW H×List MemPlace),DataW.trod en P w 0 sp true fuel t cs=some x→
  (∀n∈x.1.weights P t,n≤reachBytes)→∃a:α,Reads w cs (enc a)∧ok a
theorem Rd.int {t:TypeId} {k:IntKind} (ht:P.underlying t=some (.int k)):Rd P t (fun n:Int=>[.lit (.int k n)]) (fun n=>(Lit.int k n).wf=true):=by
 intro H en w sp fuel cs x h _
 obtain⟨n,rfl,_,hw⟩:=DataW.trod_int ht h
 exact⟨n,.one (.lit _) rfl,hw⟩
theorem Rd.bool {t:TypeId} (ht:P.underlying t=some .bool):Rd P t (fun b:Bool=>[.lit (.bool b)]) (fun _=>True):=by
 intro H en w sp fuel cs x h _
 obtain⟨b,rfl,_⟩:=DataW.trod_bool ht h
 exact⟨b,.one (.lit _) rfl,trivial⟩
theorem Rd.string {t:TypeId} (ht:P.underlying t=some .string):Rd P t (fun s:ByteArray=>[.lit (.string s)]) (fun s=>s.size≤reachBytes):=by
 intro H en w sp fuel cs x h hw
 obtain⟨s,rfl,rfl,hs⟩:=DataW.trod_string ht h
 exact⟨s,.one (.lit _) rfl,by have:=hw s.data.toList.length (by simp [DataW.weights]);simpa using this⟩
theorem mem_weightsAll {H:Type} {e:TypeId}:∀{ds:List (DataW H)} {d:DataW H},d∈ds→∀n∈d.weights P e,n∈DataW.weightsAll P e ds
 |d0::ds,d,h,n,hn=>by
  simp only[DataW.weightsAll,List.mem_append]
  rcases List.mem_cons.1 h with rfl|h
  ·exact .inl hn
  ·exact .inr (mem_weightsAll h n hn)
theorem mapM_at {α β:Type} {f:α→Option β}:∀{l:List α} {r:List β},l.mapM f=some r→r.length=l.length∧∀(j:Nat) (x:α),l[j]? =some x→f x=r[j]?:=by
 intro l
 induction l with
 |nil=>intro r h;simp at h;subst h;simp
 |cons x l ih=>
  intro r h
  rw[List.mapM_cons] at h
  cases hx:f x with
  |none=>rw[hx] at h;simp at h
  |some y=>
   rw[hx] at h
   cases hl:l.mapM f with
   |none=>rw[hl] at h;simp at h
   |some r'=>
    rw[hl] at h
    simp at h
    subst h
    obtain⟨h1,h2⟩:=ih hl
    refine⟨by simp [h1],fun j z hz=>?_⟩
    cases j with
    |zero=>simp at hz;subst hz;simp [hx]
    |succ j=>simp at hz;simpa using h2 j z hz
theorem cells_at {w:World} {a:Addr} {n:Nat} {cs:List Value} (h:w.cells? 0 a n=some cs):cs.length=n∧∀j,j<n→w.cell? (a.add j)=cs[j]?:=by
 unfold World.cells? at h
 rw[if_pos (Nat.zero_le _)] at h
 obtain⟨h1,h2⟩:=mapM_at h
 refine⟨by simpa using h1,fun j hj=>?_⟩
 exact h2 j j (by simp [hj])
theorem cell_none {w:World} {ad:Addr} {v:Value} (h:w.cell? ad=some v):ad.spot=none:=World.cell?_spot h
theorem Rd.slice {α:Type} {t e:TypeId} {k by':Nat} {enc:α→List PV} {ok:α→Prop} (ht:P.underlying t=some (.slice e)) (hk:P.cellsOf e=k) (hk0:0<k) (hb:P.bytesOf e=by') (hb0:0<by') (hen:∀a,(enc a).length=k) (h:Rd P e enc ok):
  Rd P t (fun l:List α=>[.slice k (l.map enc)]) (fun l=>l.length*by'≤reachBytes∧∀a∈l,ok a):=by
 intro H en w sp fuel cs x hx hw
 rcases DataW.trod_slice ht hx with ⟨rfl,rfl⟩|⟨a,len,cap,elems,rest,n,rfl,rfl,rfl,_,hlc,hcm,hel,hat,_,_⟩
 ·refine⟨[],.one (rp_nil k) rfl,by simp,by simp⟩
 ·have hwl:(elems.length+rest.length)*by'≤reachBytes:=by
   have:=hw ((elems.length+rest.length)*by') (by simp [DataW.weights,ht,hb])
   exact this
  have hel2:elems.length*by'≤reachBytes:=Nat.le_trans (Nat.mul_le_mul_right _ (by omega)) hwl
  have hlen:elems.length≤140737488355328:=by
   have h1:elems.length*1≤elems.length*by':=Nat.mul_le_mul_left _ hb0
   have h2:reachBytes≤140737488355328:=by decide
   omega
  -- the elements,one by one
  have key:∀i,i<len→∃c a',w.cells? 0 (a.add (i*k)) k=some c∧Reads w c (enc a')∧ok a':=by
   intro i hi
   have h1:=hat i hi
   rw[hk] at h1
   have hi2:i<elems.length:=by omega
   rw[List.getElem?_eq_getElem hi2] at h1
   cases hc:w.cells? 0 (a.add (i*k)) k with
   |none=>rw[hc] at h1;simp at h1
   |some c=>
    rw[hc,Option.bind_some] at h1
    obtain⟨a',h2,h3⟩:=h en w sp n c elems[i] h1 (fun m hm=>hw m (by
     simp only[DataW.weights,ht,List.mem_cons,List.mem_append]
     exact .inr (.inl (mem_weightsAll (List.mem_map.2 ⟨elems[i],List.getElem_mem hi2,rfl⟩) m hm))))
    exact⟨c,a',rfl,h2,h3⟩
  have hch:∃l:List α,l.length=len∧∀i (a':α),l[i]? =some a'→∃c,w.cells? 0 (a.add (i*k)) k=some c∧Reads w c (enc a')∧ok a':=by
   clear hat hx hel hw
   have:∀m,m≤len→∃l:List α,l.length=m∧∀i (a':α),l[i]? =some a'→∃c,w.cells? 0 (a.add (i*k)) k=some c∧Reads w c (enc a')∧ok a':=by
    intro m
    induction m with
    |zero=>intro _;exact⟨[],rfl,by simp⟩
    |succ m ih=>
     intro hm
     obtain⟨l,h1,h2⟩:=ih (by omega)
     obtain⟨c,a',h3,h4⟩:=key m (by omega)
     refine⟨l++ [a'],by simp [h1],fun i b hb=>?_⟩
     by_cases hi:i<l.length
     ·rw[List.getElem?_append_left hi] at hb;exact h2 i b hb
     ·rw[List.getElem?_append_right (by omega)] at hb
      have hi2:i=m:=by have:=(List.getElem?_eq_some_iff.1 hb).1;simp at this;omega
      subst hi2
      rw[h1] at hb
      simp at hb
      subst hb
      exact⟨c,h3,h4⟩
   exact this len (Nat.le_refl _)
  obtain⟨l,hl,hl2⟩:=hch
  have hle:l.length=elems.length:=by omega
  refine⟨l,.one ?_ rfl,by rw[hle];exact hel2,fun b hb=>?_⟩
  ·have hsp:l≠ []→a.spot=none:=by
    intro hne
    obtain⟨b,l',rfl⟩:=List.exists_cons_of_ne_nil hne
    obtain⟨c,h1,h2,_⟩:=hl2 0 b rfl
    obtain⟨h3,h4⟩:=cells_at h1
    have h5:=h4 0 hk0
    rw[List.getElem?_eq_getElem (by omega)] at h5
    have h6:=cell_none h5
    simpa [Addr.add] using h6
   have hbl:l≠ []→a.block<w.heap.size:=by
    intro hne
    obtain⟨b,l',rfl⟩:=List.exists_cons_of_ne_nil hne
    obtain⟨c,h1,h2,_⟩:=hl2 0 b rfl
    obtain⟨h3,h4⟩:=cells_at h1
    have h5:=h4 0 hk0
    rw[List.getElem?_eq_getElem (by omega)] at h5
    simp only[Nat.zero_mul,Addr.add,if_true] at h5
    unfold World.cell? at h5
    rcases Nat.lt_or_ge a.block w.heap.size with hlt|hge
    ·exact hlt
    ·rw[Array.getElem?_eq_none hge] at h5;simp at h5
   obtain⟨bl,off,spot⟩:=a
   have hcl:∀(i j:Nat) (p:PV),cellAt (l.map enc) i j=some p→∃c:Value,w.cell? ⟨bl,off+i*k+j,none⟩=some c∧RP (fun _=>True) w c p∧c.oneCell'=true:=by
    intro i j p hp
    unfold cellAt at hp
    rw[List.getElem?_map] at hp
    cases hli:l[i]? with
    |none=>rw[hli] at hp;simp at hp
    |some b=>
     rw[hli] at hp
     simp at hp
     have hne:l≠ []:=by rintro rfl;simp at hli
     have hs0:spot=none:=hsp hne
     subst hs0
     obtain⟨c,h1,h2,_⟩:=hl2 i b hli
     obtain⟨h3,h4⟩:=cells_at h1
     have hj:j<k:=by have:=(List.getElem?_eq_some_iff.1 hp).1;rw[hen] at this;exact this
     have h5:=h4 j hj
     rw[List.getElem?_eq_getElem (by omega)] at h5
     rw[addr_add,addr_add] at h5
     obtain⟨h6,h7⟩:=h2.2 j _ p (List.getElem?_eq_getElem (by omega)) hp
     exact⟨_,h5,h6,h7⟩
   refine .slice bl off (fun i j=>(w.cell? ⟨bl,off+i*k+j,none⟩).getD undef) (by simp [hl]) (by omega) (by omega) (fun hne=>?_) (fun c hc=>?_) (fun i j p hp=>?_) (fun i j p hp=>?_)
   ·have hne':l≠ []:=by rintro rfl;simp at hne
    have hs0:spot=none:=hsp hne'
    subst hs0
    exact⟨rfl,trivial,hbl hne'⟩
   ·obtain⟨b,_,rfl⟩:=List.mem_map.1 hc;exact hen b
   ·obtain⟨c,h1,h2,h3⟩:=hcl i j p hp
    rw[h1];exact⟨rfl,h3⟩
   ·obtain⟨c,h1,h2,h3⟩:=hcl i j p hp
    rw[h1];exact h2
  ·obtain⟨i,hi⟩:=List.getElem?_of_mem hb
   obtain⟨c,_,_,h3⟩:=hl2 i b hi
   exact h3
def RdF (P:Program) (off n:Nat) (fs:List Field) {α:Type} (enc:α→List PV) (ok:α→Prop):Prop:=
 ∀{H:Type} (en:TypeId×Value→H) (w:World) (sp:Nat→Bool) (fuel:Nat) (cs:List Value) (xs:List (DataW H×List MemPlace)),xs.length=fs.length→
  (∀(i:Nat) (f:Field),fs[i]? =some f→DataW.trod en P w 0 sp true fuel f.type ((cs.drop f.offset).take (P.cellsOf f.type))=xs[i]?)→
  (∀m∈DataW.weightsEach P (fs.map (·.type)) (xs.map (·.1)),m≤reachBytes)→∃a:α,Reads w ((cs.drop off).take n) (enc a)∧ok a
theorem RdF.nil {off:Nat}:RdF P off 0 [] (fun _:Unit=>[]) (fun _=>True):=fun _ _ _ _ _ _ _ _ _=>⟨(),by simp;exact Reads.nil,trivial⟩
theorem RdF.cons {off k n:Nat} {f:Field} {fs:List Field} {α β:Type} {e1:α→List PV} {o1:α→Prop} {e2:β→List PV} {o2:β→Prop} (hoff:f.offset=off) (hk:P.cellsOf f.type=k) (h1:Rd P f.type e1 o1) (h2:RdF P (off+k) n fs e2 o2):
  RdF P off (k+n) (f::fs) (fun p:α×β=>e1 p.1++e2 p.2) (fun p=>o1 p.1∧o2 p.2):=by
 intro H en w sp fuel cs xs hl hx hw
 cases xs with
 |nil=>simp at hl
 |cons y ys=>
  have h3:=hx 0 f rfl
  obtain⟨a,ha,ha2⟩:=h1 en w sp fuel _ y h3 (fun m hm=>hw m (by simp [DataW.weightsEach,hm]))
  obtain⟨b,hb,hb2⟩:=h2 en w sp fuel cs ys (by simpa using hl) (fun i f' hf=>by simpa using hx (i+1) f' (by simpa using hf)) (fun m hm=>hw m (by simp only[List.map_cons,DataW.weightsEach,List.mem_append];exact .inr hm))
  refine⟨(a,b),?_,ha2,hb2⟩
  rw[hoff,hk] at ha
  have e:(cs.drop off).take (k+n)=(cs.drop off).take k++(cs.drop (off+k)).take n:=by
   rw[List.take_add,List.drop_drop]
  rw[e]
  exact ha.append hb
theorem Rd.struct {t:TypeId} {fs:Array Field} {n:Nat} {α:Type} {enc:α→List PV} {ok:α→Prop} (ht:P.underlying t=some (.struct fs)) (hn:P.cellsOf t=n) (h:RdF P 0 n fs.toList enc ok):Rd P t enc ok:=by
 intro H en w sp fuel cs x hx hw
 obtain⟨xs,m,rfl,rfl,hcl,hl,hat⟩:=DataW.trod_struct ht hx
 obtain⟨a,ha,ha2⟩:=h en w sp m cs xs (by simpa using hl) (fun i f hf=>hat i f (by simpa using hf)) (fun k hk=>hw k (by simpa [DataW.weights,ht] using hk))
 rw[List.drop_zero,List.take_of_length_le (by omega)] at ha
 exact⟨a,ha,ha2⟩
theorem Rd.map {t:TypeId} {α β:Type} {e1:α→List PV} {o1:α→Prop} {e2:β→List PV} {o2:β→Prop} (h:Rd P t e1 o1) (f:α→β) (he:∀a,e1 a=e2 (f a)) (ho:∀a,o1 a→o2 (f a)):Rd P t e2 o2:=by
 intro H en w sp fuel cs x hx hw
 obtain⟨a,h1,h2⟩:=h en w sp fuel cs x hx hw
 exact⟨f a,he a▸h1,ho a h2⟩
section
variable {H:Type} {en:TypeId×Value→H} {w:World} {sp:Nat→Bool} {t:TypeId} {v:Value} {d:DataW H} {ps:List MemPlace} {α:Type} {enc:α→List PV} {ok:α→Prop}
theorem arg_agg (h:Rd P t enc ok) (ht:DataW.Trod en P w 0 sp true t v d ps) (hw:∀n∈d.weights P t,n≤reachBytes) {cs:Array Value} (hv:v=.agg cs):∃a:α,RA (pcx fun _=>True) w v (.agg ((enc a).map .pv))∧ok a:=by
 subst hv
 obtain⟨fuel,hf⟩:=ht
 obtain⟨a,h1,h2⟩:=h en w sp fuel _ _ hf hw
 refine⟨a,.agg (by rw[List.length_map];exact h1.1) fun j u c h3 h4=>?_,h2⟩
 rw[List.getElem?_map,Option.map_eq_some_iff] at h4
 obtain⟨p,hp,rfl⟩:=h4
 exact .pv (h1.2 j u p (by simpa [Value.cells] using h3) hp).1
theorem okWide_struct {r:Reach} {b:Nat} {fs:Array Field} (ht:P.underlying t=some (.struct fs)) (h:Value.okWide P w r b t v):∃cs,v=.agg cs:=by
 unfold Value.okWide at h
 simp only[ht] at h
 obtain⟨cs,h,_⟩:=h
 exact⟨cs,h⟩
end
theorem arg_weights {H:Type} {ts ts':List TypeId} {ds gs:List (DataW H)} (h:(DataW.weightsEach P (ts++ts') (ds++gs)).all (·≤reachBytes)=true) {j:Nat} {t:TypeId} {d:DataW H} (ht:(ts++ts')[j]? =some t) (hd:(ds++gs)[j]? =some d):∀n∈d.weights P t,n≤reachBytes:=by
 intro n hn
 have:=(List.all_eq_true.1 h) n (DataW.weights_mem_each ht hd n hn)
 simpa using this
end Go.Ab
/- Equality of pairs;bools compared. -/
namespace Go.Ab
open Go Go.RowKit
variable {q:Md} {P:Program} {g:Ghost} {δ:DS} {κ:Nat→Option Nat} {a:Act} {w:World}
variable {ops:Array Oper} {rest:List Oper} {Q:Exit→DS→Prop} {dst:Option Nat} {ty:TypeId} {pos:String} {af:Array Edge}
def pvL:List PV→List AV
 |[]=>[]
 |p::r=> .pv p::pvL r
theorem pvL_eq:∀l:List PV,l.map AV.pv=pvL l
 |[]=>rfl
 |p::r=>by rw[List.map_cons,pvL_eq r];rfl
theorem Nf.pl0:pvL []=[]:=rfl
theorem Nf.pl1 (p:PV) (r:List PV):pvL (p::r)=.pv p::pvL r:=rfl
theorem Nf.pl:∀l:List PV,l.map AV.pv=pvL l:=pvL_eq
section
variable {α:Type} {f:α→List PV} {l:List α} {x y z:Operand} {t e:TypeId} {k:Nat} {m n:Int}
theorem AOps.slice_frI (hx:δ.ev x=.pv (.slice k (l.map f))) (hz:δ.ev z=litI m) (ht:P.underlying t=some (.slice e)) (hk:(P.info? e).map (·.size)=some k)
  (ho:okT x=true) (ho'':okT z=true) (hd:okD δ.n dst=true) (h0:0≤m) (hn:m≤l.length) (hK:AOps q P g ops rest Q (δ.putd dst (.pv (.slice k ((l.drop m.toNat).map f))))):
  AOps q P g ops (⟨dst,.slice t x (some z) none none,ty,pos,af,none⟩::rest) Q δ:=
 AOps.slice (l:=m.toNat) (h:=(l.map f).length) (hi:=none) (lo:=some z) hx ht hk ⟨ho'',by rw[hz,Int.toNat_of_nonneg h0]⟩ rfl (by simp;omega) (Nat.le_refl _) ho hd (by
  have:((l.map f).drop m.toNat).take ((l.map f).length - m.toNat)=(l.drop m.toNat).map f:=by
   rw[List.take_of_length_le (by simp),List.map_drop]
  rw[this];exact hK)
end
end Go.Ab
/- Drawn regions:an operation under a guard that is known to hold,taken first. -/
namespace Go.Ab
open Go Go.RowKit
attribute [local irreducible] HS
variable {P:Program} {g:Ghost} {δ:DS} {l:List Oper} {late dn:List Nat} {k:Wt} {QD:Exit→DS→Prop}
end Go.Ab
/- The plain form's laws in one. -/
namespace Go.Ab
open Go Go.RowKit
set_option linter.defProp false in
def Nf.all:=And.intro @Nf.beq
 (And.intro @Nf.ble
 (And.intro @Nf.hs
 (And.intro @Nf.c_t
 (And.intro @Nf.c_f
 (And.intro @Nf.put
 (And.intro @Nf.put0
 (And.intro @Nf.add
 (And.intro @Nf.set
 (And.intro @Nf.pn
 (And.intro @Nf.pe
 (And.intro @Nf.po
 (And.intro @Nf.px
 (And.intro @Nf.ev_t
 (And.intro @Nf.ev_c
 (And.intro @Nf.ev_f
 (And.intro @Nf.look0
 (And.intro @Nf.look1
 (And.intro @Nf.start
 (And.intro @Nf.en0
 (And.intro @Nf.en1
 (And.intro @Nf.evs_eq
 (And.intro @Nf.evs_map
 (And.intro @Nf.evs0
 (And.intro @Nf.evs_t
 (And.intro @Nf.evs_c
 (And.intro @Nf.evs_f
 (And.intro @Nf.av_eq
 (And.intro @Nf.av0
 (And.intro @Nf.av1
 (And.intro @Nf.ae_eq
 (And.intro @Nf.ae0
 (And.intro @Nf.ae1
 (And.intro @Nf.sh_eq
 (And.intro @Nf.sh0
 (And.intro @Nf.sh1
 (And.intro @Nf.un0
 (And.intro @Nf.un1
 (And.intro @Nf.ow0
 (And.intro @Nf.ow1
 (And.intro @Nf.pa
 (And.intro @Nf.pa0
 (And.intro @Nf.rback
 (And.intro @Nf.round
 (And.intro @Nf.mv
 (And.intro @Nf.mE0
 (And.intro @Nf.mE1
 (And.intro @Nf.mC0
 (And.intro @Nf.mC1
 (And.intro @Nf.mO0
 (And.intro @Nf.mOn
 (And.intro @Nf.mOr
 (And.intro @Nf.mOb
 (And.intro @Nf.mOt
 (And.intro @Nf.mOm
 (And.intro @Nf.mOq
 (And.intro @Nf.mOl
 (And.intro @Nf.mOi
 (And.intro @Nf.k_any
 (And.intro @Nf.k_pv
 (And.intro @Nf.k_ptr
 (And.intro @Nf.k_rptr
 (And.intro @Nf.k_mapr
 (And.intro @Nf.k_yld
 (And.intro @Nf.k_own
 (And.intro @Nf.k_optr
 (And.intro @Nf.k_agg
 (And.intro @Nf.k_tup
 (And.intro @Nf.k_clo
 (And.intro @Nf.co_agg
 (And.intro @Nf.co_pv
 (And.intro @Nf.co_ptr
 (And.intro @Nf.co_own
 (And.intro @Nf.co_any
 (And.intro @Nf.co_mapr
 (And.intro @Nf.co_clo
 (And.intro @Nf.co_rptr
 (And.intro @Nf.cset_eq
 (And.intro @Nf.lo1
 (And.intro @Nf.sto
 (And.intro @Nf.bko
 (And.intro @Nf.sst
 (And.intro @Nf.ll0
 (And.intro @Nf.ll1
 (And.intro @Nf.la0
 (And.intro @Nf.la1
 (And.intro @Nf.sn0
 (And.intro @Nf.sn1
 (And.intro @Nf.cs0
 (And.intro @Nf.cs1
 (And.intro @Nf.lp_t
 (And.intro @Nf.lp_c
 (And.intro @Nf.lp_f
 (And.intro @Nf.lp0
 (And.intro @Nf.sa0
 (And.intro @Nf.sa1
 (And.intro @Nf.sp0
 (And.intro @Nf.sp1
 (And.intro @Nf.fd
 (And.intro @Nf.f_any
 (And.intro @Nf.f_pv
 (And.intro @Nf.f_ptr
 (And.intro @Nf.f_rptr
 (And.intro @Nf.f_mapr
 (And.intro @Nf.f_yld
 (And.intro @Nf.f_own
 (And.intro @Nf.f_optr
 (And.intro @Nf.f_agg
 (And.intro @Nf.f_tup
 (And.intro @Nf.f_clo
 (And.intro @Nf.pl
 (And.intro @Nf.pl0 (@Nf.pl1))))))))))))))))))))))))))))))))))))))))))))))))))))))))))))))))))))))))))))))))))))))))))))))))))))))))))))))))
end Go.Ab
/- A number turned into an int. -/
namespace Go.Ab
open Go Go.RowKit
variable {P:Program} {g:Ghost} {δ:DS} {q:Md}
variable {ops:Array Oper} {rest:List Oper} {Q:Exit→DS→Prop} {dst:Option Nat} {ty:TypeId} {pos:String} {af:Array Edge}
theorem AOps.convI {x:Operand} {s t:TypeId} {ks:IntKind} {d:TypeDesc} {m:Int} (hx:δ.ev x=.pv (.lit (.int ks m))) (hs:P.underlying s=some d) (ht:P.underlying t=some (.int .i64)) (ho:okT x=true) (hd:okD δ.n dst=true)
  (hb: -9223372036854775808≤m∧m≤9223372036854775807) (hK:AOps q P g ops rest Q (δ.putd dst (litI m))):AOps q P g ops (⟨dst,.convert s t x,ty,pos,af,none⟩::rest) Q δ:=
 AOps.conv hx hs ht ho hd (by rw[IntWalk.i64_in _ hb];exact hK)
end Go.Ab
/- One shifted left by a number;bool slices. -/
namespace Go.Ab
open Go Go.RowKit
variable {P:Program} {g:Ghost} {δ:DS} {q:Md}
variable {ops:Array Oper} {rest:List Oper} {Q:Exit→DS→Prop} {dst:Option Nat} {ty:TypeId} {pos:String} {af:Array Edge}
end Go.Ab
/- A slice made with make:a row of zeros. -/
namespace Go.Ab
open Go Go.RowKit
variable {P:Program} {g:Ghost} {δ:DS} {q:Md}
variable {ops:Array Oper} {rest:List Oper} {Q:Exit→DS→Prop} {dst:Option Nat} {ty:TypeId} {pos:String} {af:Array Edge}
theorem Eff.makeSlice1 {gd:Option (Tmp×Bool)} {t e:TypeId} {x y:Operand} {m:Int} {z:Value} {by':Nat} (hx:δ.ev x=litI m) (hy:δ.ev y=litI m) (ht:P.underlying t=some (.slice e)) (hi:(P.info? e).map (fun i=>(i.size,i.zero,i.bytes))=some (1,some z,by')) (hzc:z.cells= #[z]) (h1:z.oneCell'=true) (hb:Nat.ble by' 64=true)
  (ho:okT x=true) (ho':okT y=true) (hd:okD δ.n dst=true) (hm:0≤m∧m≤100000):
  Eff P g ⟨dst,.makeSlice t x y,ty,pos,af,gd⟩ δ ((δ.addOb .row).putd dst (.own δ.nx e 1 (List.replicate m.toNat [.lit z]))):=by
 intro κ a w r
 have hb':by'≤64:=by simpa using hb
 obtain⟨i0,hi0,hs0,hz0,hb0⟩:∃i0,P.info? e=some i0∧i0.size=1∧i0.zero=some z∧i0.bytes=by':=by
  cases h:P.info? e with
  |none=>rw[h] at hi;simp at hi
  |some i0=>rw[h] at hi;simp at hi;exact⟨i0,rfl,hi.1,hi.2.1,hi.2.2⟩
 have hxe:=r.lit hx ho
 have hye:=r.lit hy ho'
 have hwr:IntKind.i64.wrap m=m:=IntWalk.i64_in _ (by omega)
 generalize hc':((Array.range m.toNat).map (fun _=>z))=c'
 have hcs:c'.size=m.toNat:=by rw[← hc'];simp
 have hmul:by'*m.toNat≤6400000:=by
  have h1:by'*m.toNat≤64*m.toNat:=Nat.mul_le_mul_right _ hb'
  omega
 have hmulI:(by':Int)*m≤6400000:=by
  have:((by'*m.toNat:Nat):Int)≤6400000:=by omega
  rw[Int.natCast_mul,Int.toNat_of_nonneg hm.1] at this
  exact this
 have hrun:(execOp a.eval ⟨dst,.makeSlice t x y,ty,pos,af,gd⟩).run P w=.ok (.value (.slice (some ⟨w.heap.size,0,none⟩) m.toNat m.toNat)) (w.alloc (.cells c' e)):=by
  have hti:∀w,(typeInfo e).run P w=.ok i0 w:=fun w=>by simp [typeInfo,hi0]
  have hzr:∀w,(zeroValue e).run P w=.ok z w:=fun w=>by simp [zeroValue,typeInfo,hi0,hz0]
  have hsr:∀w,(sizeOf e).run P w=.ok 1 w:=fun w=>by simp [sizeOf,typeInfo,hi0,hs0]
  have has:∀w,(asInt (.int .i64 m)).run P w=.ok m w:=fun w=>by simp [asInt,asIntOf,Sem.run_bind,Sem.run_pure,Result.andThen_ok]
  have hbig:¬(by':Int)*m>2 ^ 48:=by
   have:(2:Int) ^ 48=281474976710656:=by decide
   omega
  have hneg:¬m<0:=by omega
  have hroom:¬m.toNat*by'>roomBytes:=by
   have:(6400000:Nat)≤roomBytes:=by decide
   have h2:m.toNat*by'=by'*m.toNat:=Nat.mul_comm _ _
   omega
  have hce:(Array.range (m.toNat*1)).map (fun j=>(#[z]:Array Value)[j % (#[z]:Array Value).size]!)=c':=by
   rw[← hc',Nat.mul_one]
   apply Array.ext
   ·simp
   ·intro i h1 h2
    simp [Nat.mod_one]
  simp only[execOp,Instr.makeSlice,Sem.run_bind,Result.andThen_ok,run_underlying ht,hxe,hye,has,hti,hb0,hwr]
  simp only[decide_eq_false hbig,decide_eq_false hneg,Bool.or_false,Bool.false_or,Int.lt_irrefl,decide_false,gt_iff_lt,Bool.false_eq_true,if_false,askRoom,Sem.run_pure,Result.andThen_ok,Sem.run_bind]
  have hroom':¬roomBytes<m.toNat*by':=hroom
  simp only[if_neg hroom',Sem.run_pure,Result.andThen_ok,hsr]
  by_cases h0:m.toNat*1=0
  ·have hce0:(Array.range (m.toNat*1)).map (fun j=>(#[]:Array Value)[j % (#[]:Array Value).size]!)=c':=by
    rw[← hc',h0,show m.toNat=0 from by omega];simp [Array.range_zero']
   simp only[if_pos h0,Sem.run_bind,Sem.run_pure,Result.andThen_ok,newRow]
   simp only[pure_bind,hce0]
   rfl
  ·simp only[if_neg h0,Sem.run_bind,Sem.run_pure,Result.andThen_ok,hzr,newRow,hzc,hce]
   rfl
 have hmax:m.toNat≤maxLen:=by simp only[maxLen];omega
 obtain⟨r',G⟩:=r.grow .row (.cells c' e) (fun C G hκ b hb=>by
  have:w.heap.size=b:=Option.some.inj (hκ.symm.trans hb)
  subst this
  exact⟨c',e,heap_alloc_new w _⟩)
 have hrow:=World.ownsRow_lit (base:=g.B) (e:=e) (size:=1) w c' m.toNat r.hB hmax (by rw[hcs];omega)
 have hat:∀(j:Nat) (u:Value),c'.toList[j]? =some u→u=z:=by
  intro j u h
  rw[← hc'] at h
  simp at h
  exact h.2.symm
 refine .inl ⟨_,_,_,_,hrun,.inl rfl,r'.putd (okD_spec hd) (.own ?_)⟩
 refine⟨by show(δ.addOb .row).ob _=_;rw[ob_addOb,if_pos rfl],by rw[List.length_replicate];omega,fun c hc=>by rw[List.eq_of_mem_replicate hc];rfl,fun b hb=>?_,c'.toList,by rw[List.length_replicate];exact hrow,fun u hu=>?_,fun i' j p hp'=>?_⟩
 ·simp only[Value.ownBlock,Option.some.injEq] at hb
  subst hb
  show upd _ _ _ _=_
  simp [upd]
 ·obtain⟨j,hj⟩:=List.getElem?_of_mem hu
  rw[hat j u hj];exact h1
 ·unfold cellAt at hp'
  have hi:i'<m.toNat:=by
   rcases Nat.lt_or_ge i' m.toNat with h|h
   ·exact h
   ·rw[List.getElem?_eq_none (by simpa using h)] at hp';simp at hp'
  rw[List.getElem?_replicate,if_pos hi] at hp'
  have hj:j=0∧p=.lit z:=by
   cases j with
   |zero=>simp at hp';exact⟨rfl,hp'.symm⟩
   |succ j=>simp at hp'
  obtain⟨rfl,rfl⟩:=hj
  refine⟨z,?_,.lit _⟩
  rw[Array.getElem?_toList,← hc']
  simp [hi]
end Go.Ab
namespace Go.Ab
open Go Go.RowKit
variable {P:Program} {g:Ghost} {δ:DS} {q:Md}
variable {ops:Array Oper} {rest:List Oper} {Q:Exit→DS→Prop} {dst:Option Nat} {ty:TypeId} {pos:String} {af:Array Edge}
theorem AOps.makeSlice1 {t e:TypeId} {x y:Operand} {m:Int} {z:Value} {by':Nat} (hx:δ.ev x=litI m) (hy:δ.ev y=litI m) (ht:P.underlying t=some (.slice e)) (hi:(P.info? e).map (fun i=>(i.size,i.zero,i.bytes))=some (1,some z,by')) (hzc:z.cells= #[z]) (h1:z.oneCell'=true) (hb:Nat.ble by' 64=true)
  (ho:okT x=true) (ho':okT y=true) (hd:okD δ.n dst=true) (hm:0≤m∧m≤100000) (hK:AOps .plain P g ops rest Q ((δ.addOb .row).putd dst (.own δ.nx e 1 (List.replicate m.toNat [.lit z])))):
  AOps .plain P g ops (⟨dst,.makeSlice t x y,ty,pos,af,none⟩::rest) Q δ:=AOps.eff rfl rfl (Eff.makeSlice1 hx hy ht hi hzc h1 hb ho ho' hd hm) hK
end Go.Ab
/- A store into an element of a row of the walk's own (elements of one cell). -/
namespace Go.Ab
open Go Go.RowKit
variable {P:Program} {g:Ghost} {δ:DS} {q:Md}
variable {ops:Array Oper} {rest:List Oper} {Q:Exit→DS→Prop} {dst:Option Nat} {ty:TypeId} {pos:String} {af:Array Edge}
def stor1F (i n:Nat) (c:List PV):AV→AV
 |.own j e k els=>bif Nat.beq i j then (bif Nat.beq k 1 then .own j e k (els.set n c) else .any) else .own j e k els
 |.optr j e k els m=>bif Nat.beq i j then .any else .optr j e k els m
 |v=>v
def AV.stor1 (i n:Nat) (c:List PV):AV→AV:=AV.mp (stor1F i n c)
theorem Eff.store_o1 {gd:Option (Tmp×Bool)} {x y:Operand} {t e:TypeId} {i idx:Nat} {els:List (List PV)} {p:PV} (hx:δ.ev x=.optr i e 1 els idx) (hy:δ.ev y=.pv p) (hr:δ.ob i=some .row) (ht:(P.info? t).map (·.size)=some 1) (h1:AV.one (.pv p)=true)
  (ho:okT x=true) (ho':okT y=true) (hd:okD δ.n dst=true):
  Eff P g ⟨dst,.store t x y,ty,pos,af,gd⟩ δ ((δ.mapV (AV.stor1 i idx [p])).putd dst .any):=by
 intro κ a w r
 have hxa:=r.ra hx ho
 have hyv:=r.ra hy ho'
 have hone:=hyv.one h1
 generalize hxe:a.eval x=u at hxa
 cases hxa with
 | @optr _ _ _ _ _ b cap hi h=>
  have hκ:κ i=some b:=h.blk b rfl
  obtain⟨xs,⟨hxl,hown⟩,hxo,hxc⟩:=h.row
  rcases hown with ⟨hn,_⟩|⟨g0,cap0,cur,hv,hg,h3,hle,hcm,hcs,htk⟩
  ·cases hn
  ·simp only[Value.slice.injEq,Option.some.injEq,Addr.mk.injEq] at hv
   obtain⟨⟨rfl,_⟩,_,rfl⟩:=hv
   have hrun:(execOp a.eval ⟨dst,.store t x y,ty,pos,af,gd⟩).run P w=.ok .skip (w.setCell ⟨b,idx*1,none⟩ (a.eval y)):=by
    obtain⟨i0,hi0,hs0⟩:∃i0,P.info? t=some i0∧i0.size=1:=by
     cases h:P.info? t with
     |none=>rw[h] at ht;simp at ht
     |some i0=>rw[h] at ht;exact⟨i0,rfl,by simpa using ht⟩
    have hc:w.cell? ⟨b,idx*1,none⟩=some (cur[idx*1]'(by omega)):=by rw[cell_of h3,Array.getElem?_eq_getElem (by omega)]
    have hst:(store ⟨b,idx*1,none⟩ (a.eval y)).run P w=.ok () (w.setCell ⟨b,idx*1,none⟩ (a.eval y)):=by
     rw[run_store P w _ _ _ hone,hc];simp [frozen_of h3]
    rw[Nat.mul_one] at hst ⊢
    rw[Nat.mul_one] at hxe
    simp [execOp,Instr.storeAt,Instr.sureAddr,storeVar,hxe,cells_one hone,sizeOf,typeInfo,hi0,hs0,storeCells,addr_add,hst]
   obtain⟨r',G⟩:=r.row hr (κ':=κ) (fun _ _=>rfl) (by rw[hκ];exact Turns.setCell w ⟨b,idx*1,none⟩ (a.eval y)) (fun b' hb'=>by
     have e1:b=b':=Option.some.inj (hκ.symm.trans hb')
     subst e1
     refine⟨.inl hκ,?_,_,_,setCell_heap h3 _⟩
     have:=(Array.getElem?_eq_some_iff.1 (setCell_heap (off:=idx*1) h3 (a.eval y))).1
     exact this)
    (AV.stor1 i idx [p]) rfl (fun G v av hva=>by
     refine hva.mp G rfl (fun j e' k' els' hj=>?_) (fun j e' k' els' n hj=>?_) (fun v' e' k' els' ho2=>?_) (fun b' cap' e' k' els' n _ _=>?_)
     ·simp only[stor1F,beq_ne (Ne.symm hj)];rfl
     ·simp only[stor1F,beq_ne (Ne.symm hj)];rfl
     ·simp only[stor1F,beq_self,cond_true]
      cases hk1:Nat.beq k' 1 with
      |false=>exact .any _
      |true=>
       obtain rfl:k'=1:=Nat.eq_of_beq_eq_true hk1
       obtain⟨xs',⟨hxl',hown'⟩,hxo',hxc'⟩:=ho2.row
       refine .own ⟨?_,by rw[List.length_set];exact ho2.lim,?_,ho2.blk,xs'.set idx (a.eval y),?_,?_,?_⟩
       ·show(δ.mapV _).ob i=_
        rw[ob_mapV,hr];rfl
       ·intro c hc
        rcases List.mem_or_eq_of_mem_set hc with hc|rfl
        ·exact ho2.hk c hc
        ·rfl
       ·rw[List.length_set]
        refine⟨by rw[List.length_set];exact hxl',?_⟩
        rcases hown' with ⟨hn,h0⟩|⟨g1,cap1,cur1,hv1,hg1,h31,hle1,hcm1,hcs1,htk1⟩
        ·exact .inl ⟨hn,h0⟩
        ·have hb1:κ i=some g1:=ho2.blk g1 (by rw[hv1];rfl)
         have e1:b=g1:=Option.some.inj (hκ.symm.trans hb1)
         subst e1
         rw[h3] at h31
         simp only[Option.some.injEq,Obj.cells.injEq] at h31
         obtain⟨rfl,rfl,_⟩:=h31
         refine .inr ⟨b,cap1,_,hv1,hg1,setCell_heap h3 _,hle1,hcm1,by simpa using hcs1,?_⟩
         rw[← htk1,Array.toList_setIfInBounds,Nat.mul_one,Nat.mul_one,List.take_set]
       ·intro u hu
        rcases List.mem_or_eq_of_mem_set hu with hu|rfl
        ·exact hxo' u hu
        ·exact hone
       ·intro i' j q hq
        unfold cellAt at hq
        rw[List.getElem?_set] at hq
        by_cases hii:idx=i'
        ·subst hii
         by_cases hlt:idx<els'.length
         ·rw[if_pos rfl,if_pos hlt] at hq
          have hjq:j=0∧q=p:=by
           cases j with
           |zero=>simp at hq;exact⟨rfl,hq.symm⟩
           |succ j=>simp at hq
          obtain⟨rfl,rfl⟩:=hjq
          refine⟨a.eval y,?_,G.rp (C:=(δ.cx g κ).less i) hyv.pv_inv⟩
          rw[List.getElem?_set,if_pos (by omega),if_pos (by omega)]
         ·rw[if_pos rfl,if_neg hlt] at hq;simp at hq
        ·rw[if_neg hii] at hq
         obtain⟨u,hu,hu2⟩:=hxc' i' j q (by unfold cellAt;exact hq)
         have hj:j=0:=by
          rw[Option.bind_eq_some_iff] at hq
          obtain⟨c,hc1,hc2⟩:=hq
          have:=ho2.hk c (List.mem_of_getElem? hc1)
          have:=(List.getElem?_eq_some_iff.1 hc2).1
          omega
         subst hj
         exact⟨u,by rw[List.getElem?_set,if_neg (by omega)];exact hu,G.rp (C:=(δ.cx g κ).less i) hu2⟩
     ·simp only[stor1F,beq_self,cond_true];exact .any _)
   exact .inl ⟨_,_,_,_,hrun,.inr ⟨rfl,rfl⟩,r'.putd (okD_spec hd) (.any _)⟩
theorem AOps.store_o1 {x y:Operand} {t e:TypeId} {i idx:Nat} {els:List (List PV)} {p:PV} (hx:δ.ev x=.optr i e 1 els idx) (hy:δ.ev y=.pv p) (hr:δ.ob i=some .row) (ht:(P.info? t).map (·.size)=some 1) (h1:AV.one (.pv p)=true)
  (ho:okT x=true) (ho':okT y=true) (hd:okD δ.n dst=true) (hK:AOps .plain P g ops rest Q ((δ.mapV (AV.stor1 i idx [p])).putd dst .any)):AOps .plain P g ops (⟨dst,.store t x y,ty,pos,af,none⟩::rest) Q δ:=
 AOps.eff rfl rfl (Eff.store_o1 hx hy hr ht h1 ho ho' hd) hK
end Go.Ab
/- A field of an element of a row of the walk's own,read;a store of a whole element of several cells into such a row. -/
namespace Go.Ab
open Go Go.RowKit
variable {P:Program} {g:Ghost} {δ:DS} {q:Md}
variable {ops:Array Oper} {rest:List Oper} {Q:Exit→DS→Prop} {dst:Option Nat} {ty:TypeId} {pos:String} {af:Array Edge}
inductive PvL:List AV→List PV→Prop
 |nil:PvL [] []
 |cons {p:PV} {vs:List AV} {ps:List PV} (h:PvL vs ps):PvL (.pv p::vs) (p::ps)
theorem PvL.spec {vs:List AV} {ps:List PV} (h:PvL vs ps):vs=ps.map .pv:=by
 induction h with
 |nil=>rfl
 |cons h ih=>rw[ih];rfl
inductive PvR (δ:DS) (k:Nat):Nat→List (Nat×Operand)→List (List PV)→Prop
 |nil {i:Nat}:PvR δ k i [] []
 |cons {i:Nat} {x:Operand} {vs:List AV} {ps:List PV} {r:List (Nat×Operand)} {pss:List (List PV)} (h:δ.ev x=.agg vs) (hp:PvL vs ps) (hk:vs.length=k) (h1:AV.ones vs=true) (ho:okT x=true) (hr:PvR δ k (i+1) r pss):PvR δ k i ((i,x)::r) (ps::pss)
theorem setsA_eq:∀(vs cells:List AV) (off:Nat),off+vs.length≤cells.length→setsA cells off vs=cells.take off++vs++cells.drop (off+vs.length)
 |[],cells,off,_=>by simp [setsA]
 |v::vs,cells,off,h=>by
  have h':off+(vs.length+1)≤cells.length:=by simpa using h
  show setsA (cells.set off v) (off+1) vs=_
  rw[setsA_eq vs (cells.set off v) (off+1) (by rw[List.length_set];omega)]
  have e1:(cells.set off v).take (off+1)=cells.take off++ [v]:=by
   rw[List.take_succ_eq_append_getElem (by rw[List.length_set];omega),List.getElem_set_self]
   congr 1
   rw[List.take_set,List.set_eq_of_length_le (by rw[List.length_take];omega)]
  have e2:(cells.set off v).drop (off+1+vs.length)=cells.drop (off+(v::vs).length):=by
   rw[List.drop_set_of_lt (by omega)]
   congr 1
   simp;omega
  rw[e1,e2]
  simp
theorem PvR.fill {δ:DS} {k:Nat} {i:Nat} {parts:List (Nat×Operand)} {pss:List (List PV)} (h:PvR δ k i parts pss):∀cells:List AV,cells.length=(i+pss.length)*k→fillA (fun i=>some (i*k,k)) cells (parts.map fun p=>(p.1,δ.ev p.2))=some (cells.take (i*k)++pss.flatten.map .pv):=by
 induction h with
 |nil=>
  intro cells hc
  simp [fillA]
  rw[List.take_of_length_le]
  simp at hc;omega
 | @cons i x vs ps r pss h hp hk h1 ho hr ih=>
  intro cells hc
  have hm:(i+(ps::pss).length)*k=i*k+k+pss.length*k:=by
   rw[List.length_cons,show i+(pss.length+1)=i+1+pss.length by omega,Nat.add_mul,Nat.add_mul,Nat.one_mul]
  have hle:i*k+vs.length≤cells.length:=by omega
  show(match some (i*k,k) with
   |none=>none
   |some (off,size)=>bif Nat.beq (δ.ev x).cellsOf.length size && Nat.ble (off+(δ.ev x).cellsOf.length) cells.length && AV.ones (δ.ev x).cellsOf then fillA _ (setsA cells off (δ.ev x).cellsOf) _ else none)=_
  rw[h]
  have hb1:Nat.beq vs.length k=true:=by rw[hk];simp
  have hb2:Nat.ble (i*k+vs.length) cells.length=true:=by simpa using hle
  simp only[AV.cellsOf,hb1,hb2,h1,Bool.and_self,cond_true]
  rw[setsA_eq vs cells (i*k) hle,ih _ (by
   simp only[List.length_append,List.length_take,List.length_drop]
   rw[show(i+1+pss.length)*k=i*k+k+pss.length*k by rw[Nat.add_mul,Nat.add_mul,Nat.one_mul]]
   omega)]
  have e:((cells.take (i*k)++vs++cells.drop (i*k+vs.length)).take ((i+1)*k))=cells.take (i*k)++vs:=by
   rw[List.take_left']
   rw[List.length_append,List.length_take,Nat.add_mul,Nat.one_mul]
   omega
  rw[e,hp.spec]
  simp
theorem PvR.lens {δ:DS} {k:Nat} {i:Nat} {parts:List (Nat×Operand)} {pss:List (List PV)} (h:PvR δ k i parts pss):parts.all (fun p=>okT p.2)=true∧∀c∈pss,c.length=k:=by
 induction h with
 |nil=>exact⟨rfl,fun c hc=>by simp at hc⟩
 |cons h hp hk h1 ho hr ih=>
  refine⟨by simp [ho,ih.1],fun c hc=>?_⟩
  rcases List.mem_cons.1 hc with rfl|hc
  ·rw[hp.spec] at hk;simpa using hk
  ·exact ih.2 c hc
theorem chunk_flat (k:Nat):∀(pss:List (List PV)),(∀c∈pss,c.length=k)→chunk k pss.length (pss.flatten.map .pv)=pss
 |[],_=>rfl
 |c::pss,h=>by
  have hc:=h c (by simp)
  show((((c::pss).flatten.map AV.pv).take k).map pvOf)::chunk k pss.length (((c::pss).flatten.map AV.pv).drop k)=_
  have e:((c::pss).flatten.map AV.pv)=c.map AV.pv++pss.flatten.map AV.pv:=by simp
  rw[e,List.take_left' (by simpa using hc),List.drop_left' (by simpa using hc),chunk_flat k pss fun c hc=>h c (by simp [hc])]
  congr 1
  rw[List.map_map]
  exact List.map_id'' (fun p=>rfl) c
theorem Eff.bsA {gd:Option (Tmp×Bool)} {t e:TypeId} {len k:Nat} {parts:List (Nat×Operand)} {pss:List (List PV)} {z:Value} (ht:P.underlying t=some (.slice e)) (hi:(P.info? e).map (fun i=>(i.size,i.zero))=some (k,some z)) (hzk:Nat.beq z.cells.size k=true) (hk:Nat.blt 0 k=true)
  (hlen:Nat.ble (len*k) 16777216=true) (h1:z.cells.toList.all (·.oneCell')=true) (hR:PvR δ k 0 parts pss) (hn:pss.length=len) (hd:okD δ.n dst=true):
  Eff P g ⟨dst,.buildSlice t len parts.toArray,ty,pos,af,gd⟩ δ ((δ.addOb .row).putd dst (.own δ.nx e k pss)):=by
 obtain⟨ho,hl⟩:=hR.lens
 have hf:=hR.fill (zerosA z (len*k)) (by simp [zerosA,hn])
 rw[Nat.zero_mul,List.take_zero,List.nil_append] at hf
 have:=Eff.buildSlice (P:=P) (g:=g) (δ:=δ) (gd:=gd) (dst:=dst) (ty:=ty) (pos:=pos) (af:=af) ht hi hzk hk hlen h1 ho hf (by simp [AV.isPv]) hd
 rw[← hn,chunk_flat k pss hl] at this
 rw[← hn]
 exact this
theorem AOps.bsA {t e:TypeId} {len k:Nat} {parts:List (Nat×Operand)} {pss:List (List PV)} {z:Value} (ht:P.underlying t=some (.slice e)) (hi:(P.info? e).map (fun i=>(i.size,i.zero))=some (k,some z)) (hzk:Nat.beq z.cells.size k=true) (hk:Nat.blt 0 k=true)
  (hlen:Nat.ble (len*k) 16777216=true) (h1:z.cells.toList.all (·.oneCell')=true) (hR:PvR δ k 0 parts pss) (hn:pss.length=len) (hd:okD δ.n dst=true) (hK:AOps .plain P g ops rest Q ((δ.addOb .row).putd dst (.own δ.nx e k pss))):
  AOps .plain P g ops (⟨dst,.buildSlice t len parts.toArray,ty,pos,af,none⟩::rest) Q δ:=AOps.eff rfl rfl (Eff.bsA ht hi hzk hk hlen h1 hR hn hd) hK
inductive NilC:Bool→List AV→List AV→Prop
 |nil:NilC false [] []
 |here {b:Bool} {vs vs':List AV} (h:NilC b vs vs'):NilC true (.pv (.lit (.slice none 0 0))::vs) (.pv (.slice 1 [])::vs')
 |skip {b:Bool} {v:AV} {vs vs':List AV} (h:NilC b vs vs'):NilC b (v::vs) (v::vs')
theorem ra_nil {C:Cx} {w:World} {v:Value} (h:RA C w v (.pv (.lit (.slice none 0 0)))) (k:Nat):RA C w v (.pv (.slice k [])):=by
 have h1:=h.lit
 subst h1
 exact .pv (.slice 0 0 (fun _ _=>undef) rfl (by simp) (by simp) (fun h=>absurd rfl h) (fun c hc=>by simp at hc) (fun i j p hp=>by simp [cellAt] at hp) (fun i j p hp=>by simp [cellAt] at hp))
theorem NilC.ra {C:Cx} {w:World} {b:Bool} {vs vs':List AV} (h:NilC b vs vs'):vs.length=vs'.length∧∀(j:Nat) (u:Value) (c c':AV),vs[j]? =some c→vs'[j]? =some c'→RA C w u c→RA C w u c':=by
 induction h with
 |nil=>exact⟨rfl,fun j u c c' h=>by simp at h⟩
 |here h ih=>
  refine⟨by simp [ih.1],fun j u c c' h1 h2 h3=>?_⟩
  cases j with
  |zero=>simp at h1 h2;subst h1;subst h2;exact ra_nil h3 1
  |succ j=>exact ih.2 j u c c' (by simpa using h1) (by simpa using h2) h3
 |skip h ih=>
  refine⟨by simp [ih.1],fun j u c c' h1 h2 h3=>?_⟩
  cases j with
  |zero=>simp at h1 h2;subst h1;subst h2;exact h3
  |succ j=>exact ih.2 j u c c' (by simpa using h1) (by simpa using h2) h3
theorem Rel.learnM {κ:Nat→Option Nat} {a:Act} {w:World} (r:Rel g δ κ a w) {t:Nat} {v:AV} (h:RA (δ.cx g κ) w (g.val a t) v):Rel g (δ.put t v) κ a w where
 n:=r.n
 dfr:=r.dfr
 env:=fun j=>by
  show RA _ w _ (look ((t,v)::δ.env) j)
  rw[look_cons]
  by_cases e:t=j
  ·subst e;rw[if_pos rfl];exact h
  ·rw[if_neg e];exact r.env j
 obj:=r.obj
 inj:=r.inj
 lo:=r.lo
 nx:=r.nx
 wt:=r.wt
 below:=r.below
 hB:=r.hB
 N0:=r.N0
 fr:=r.fr
 mkf:=r.mkf
theorem AOps.nilS {l:List Oper} {j:Nat} {vs vs':List AV} (hj:δ.ev (.tmp j)=.agg vs) (h:NilC true vs vs') (hK:AOps .plain P g ops l Q (δ.putd (some j) (.agg vs'))):AOps .plain P g ops l Q δ:=by
 intro κ a w r
 refine hK κ a w (r.learnM ?_)
 have h1:=r.env j
 have hj:δ.get j=.agg vs:=hj
 rw[hj] at h1
 generalize g.val a j=u at h1
 cases h1 with
 | @agg us _ hs h2=>
  refine .agg (hs.trans (h.ra (C:=δ.cx g κ) (w:=w)).1) fun i u c' hu hc=>?_
  have hlt:i<vs.length:=by rw[(h.ra (C:=δ.cx g κ) (w:=w)).1];exact(List.getElem?_eq_some_iff.1 hc).1
  exact h.ra.2 i u vs[i] c' (List.getElem?_eq_getElem hlt) hc (h2 i u vs[i] hu (List.getElem?_eq_getElem hlt))
def hasNil:List AV→Bool
 |.pv (.lit (.slice none 0 0))::_=>true
 |_::r=>hasNil r
 |[]=>false
def nilAt (e:List (Nat×AV)):List (Nat×Operand)→Option Nat
 |[]=>none
 |(_,.tmp j)::r=>(match look e j with|.agg vs=>(bif hasNil vs then some j else nilAt e r)|_=>nilAt e r)
 |_::r=>nilAt e r
theorem AOps.nilB {t:TypeId} {n j:Nat} {parts:List (Nat×Operand)} {vs vs':List AV} (_h:nilAt δ.env parts=some j) (hj:δ.ev (.tmp j)=.agg vs) (h:NilC true vs vs') (hK:AOps .plain P g ops (⟨dst,.buildSlice t n parts.toArray,ty,pos,af,none⟩::rest) Q (δ.putd (some j) (.agg vs'))):
  AOps .plain P g ops (⟨dst,.buildSlice t n parts.toArray,ty,pos,af,none⟩::rest) Q δ:=AOps.nilS hj h hK
theorem AOps.gtrU {x y:Operand} {t t':TypeId} {m n:Int} {k:IntKind} (hx:δ.ev x=.pv (.lit (.int k m))) (hy:δ.ev y=.pv (.lit (.int k n))) (ho:okT x=true) (ho':okT y=true) (hd:okD δ.n dst=true)
  (hK:AOps q P g ops rest Q (δ.putd dst (litB (decide (n<m))))):AOps q P g ops (⟨dst,.binOp .gtr t x y t',ty,pos,af,none⟩::rest) Q δ:=
 AOps.bin hx hy ho ho' (run_int _ _ _ _ _ _ _ _ (by simp) rfl) hd hK
def memN (i:Nat):List Nat→Bool
 |[]=>false
 |j::r=>bif i==j then true else memN i r
theorem memN0 (i:Nat):memN i []=false:=rfl
theorem memN1 (i j:Nat) (r:List Nat):memN i (j::r)=bif i==j then true else memN i r:=rfl
end Go.Ab
/- The rest of a row of statements walked once,from a weaker state. -/
namespace Go.Ab
open Go Go.RowKit
variable {P:Program} {g:Ghost} {δ δc:DS} {Q:Exit→DS→Prop} {c rest:Code}
theorem AW.cut (h:AW P g c (onlyN fun δ'=>Weak g δ' δc) δ) (hK:AW P g rest Q δc):AW P g (.seq c rest) Q δ:=by
 refine AW.seq (AW.mono h fun e δ' h1=>?_)
 cases e with
 |normal=>exact AW.weak h1 hK
 |_=>exact h1.elim
end Go.Ab
namespace Go.Ab
open Go Go.RowKit
theorem AW.cutT {P:Program} {g:Ghost} {δ δc:DS} {Q Q':Exit→DS→Prop} {c rest:Code} (h:AW P g c (onlyN fun δ'=>Weak g δ' δc) δ) (hK:AW P g rest Q' δc):AW P g c (thenD (AW P g rest Q') Q) δ:=by
 refine AW.mono h fun e δ' h1=>?_
 cases e with
 |normal=>exact AW.weak h1 hK
 |_=>exact h1.elim
end Go.Ab
/- The address of an array's element. -/
namespace Go.Ab
open Go Go.RowKit
variable {P:Program} {g:Ghost} {δ:DS} {q:Md}
variable {ops:Array Oper} {rest:List Oper} {Q:Exit→DS→Prop} {dst:Option Nat} {ty:TypeId} {pos:String} {af:Array Edge}
theorem AOps.index_own_mapN {α:Type} {x y:Operand} {t e e':TypeId} {i k n:Nat} {f:α→List PV} {l:List α} (hx:δ.ev x=.own i e' k (l.map f)) (hy:δ.ev y=litI (n:Nat))
  (ht:P.underlying t=some (.slice e)) (hk:(P.info? e).map (·.size)=some k) (ho:okT x=true) (ho':okT y=true) (hd:okD δ.n dst=true) (hn:n<l.length)
  (hK:AOps q P g ops rest Q (δ.putd dst (.optr i e' k (l.map f) n))):AOps q P g ops (⟨dst,.indexAddr t x y,ty,pos,af,none⟩::rest) Q δ:=
 AOps.index_own (n:=n) hx hy (by simp;omega) ht hk ho ho' hd hK
end Go.Ab
namespace Go.Ab
open Go Go.RowKit
attribute [local irreducible] HS
variable {P:Program} {g:Ghost} {δ:DS} {l:List Oper} {late dn:List Nat} {k:Wt} {QD:Exit→DS→Prop}
section
variable {q:Md} {P:Program} {g:Ghost} {δ:DS} {ops:Array Oper} {f:DS→Prop} {Q:Exit→DS→Prop} {y:Code}
theorem AOps.nilD (h:f δ):AOps q P g ops [] (thenD f Q) δ:=AOps.nil (thenD_n h)
theorem AW.seqR {id:Nat} {l:List Oper} (h:AOps .plain P g l.toArray l (thenD (AW P g y Q) Q) δ):AW P g (.seq (.region id l.toArray false) y) Q δ:=AW.seq (AW.region h)
end
end Go.Ab
/- A slice held against nil;a slice made with room and no element. -/
namespace Go.Ab
open Go Go.RowKit
variable {P:Program} {g:Ghost} {δ:DS} {q:Md}
variable {ops:Array Oper} {rest:List Oper} {Q:Exit→DS→Prop} {dst:Option Nat} {ty:TypeId} {pos:String} {af:Array Edge}
theorem Eff.makeSlice0 {gd:Option (Tmp×Bool)} {t e:TypeId} {x y:Operand} {m:Int} {z:Value} {k by':Nat} (hx:δ.ev x=litI 0) (hy:δ.ev y=litI m) (ht:P.underlying t=some (.slice e)) (hi:(P.info? e).map (fun i=>(i.size,i.zero,i.bytes))=some (k,some z,by')) (hb:Nat.ble by' 64=true)
  (ho:okT x=true) (ho':okT y=true) (hd:okD δ.n dst=true) (hm:0≤m∧m≤100000):
  Eff P g ⟨dst,.makeSlice t x y,ty,pos,af,gd⟩ δ ((δ.addOb .row).putd dst (.own δ.nx e k [])):=by
 intro κ a w r
 have hb':by'≤64:=by simpa using hb
 obtain⟨i0,hi0,hs0,hz0,hb0⟩:∃i0,P.info? e=some i0∧i0.size=k∧i0.zero=some z∧i0.bytes=by':=by
  cases h:P.info? e with
  |none=>rw[h] at hi;simp at hi
  |some i0=>rw[h] at hi;simp at hi;exact⟨i0,rfl,hi.1,hi.2.1,hi.2.2⟩
 have hxe:=r.lit hx ho
 have hye:=r.lit hy ho'
 have hwr:IntKind.i64.wrap m=m:=IntWalk.i64_in _ (by omega)
 have hwr0:IntKind.i64.wrap 0=0:=IntWalk.i64_in _ (by omega)
 generalize hc':((Array.range (m.toNat*k)).map (fun j=>z.cells[j % z.cells.size]!))=c'
 have hcs:c'.size=m.toNat*k:=by rw[← hc'];simp
 have hmul:by'*m.toNat≤6400000:=by
  have h1:by'*m.toNat≤64*m.toNat:=Nat.mul_le_mul_right _ hb'
  omega
 have hmulI:(by':Int)*m≤6400000:=by
  have:((by'*m.toNat:Nat):Int)≤6400000:=by omega
  rw[Int.natCast_mul,Int.toNat_of_nonneg hm.1] at this
  exact this
 have hrun:(execOp a.eval ⟨dst,.makeSlice t x y,ty,pos,af,gd⟩).run P w=.ok (.value (.slice (some ⟨w.heap.size,0,none⟩) 0 m.toNat)) (w.alloc (.cells c' e)):=by
  have hti:∀w,(typeInfo e).run P w=.ok i0 w:=fun w=>by simp [typeInfo,hi0]
  have hzr:∀w,(zeroValue e).run P w=.ok z w:=fun w=>by simp [zeroValue,typeInfo,hi0,hz0]
  have hsr:∀w,(sizeOf e).run P w=.ok k w:=fun w=>by simp [sizeOf,typeInfo,hi0,hs0]
  have has:∀(m:Int) w,(asInt (.int .i64 m)).run P w=.ok m w:=fun m w=>by simp [asInt,asIntOf,Sem.run_bind,Sem.run_pure,Result.andThen_ok]
  have hbig:¬(by':Int)*m>2 ^ 48:=by
   have:(2:Int) ^ 48=281474976710656:=by decide
   omega
  have hbig0:¬(by':Int)*0>2 ^ 48:=by rw[Int.mul_zero];decide
  have hneg:¬m<0:=by omega
  have hneg0:¬m<0:=by omega
  have hroom:¬m.toNat*by'>roomBytes:=by
   have:(6400000:Nat)≤roomBytes:=by decide
   have h2:m.toNat*by'=by'*m.toNat:=Nat.mul_comm _ _
   omega
  simp only[execOp,Instr.makeSlice,Sem.run_bind,Result.andThen_ok,run_underlying ht,hxe,hye,has,hti,hb0,hwr,hwr0]
  simp only[decide_eq_false hbig,decide_eq_false hbig0,decide_eq_false hneg,Bool.or_false,Bool.false_or,Int.lt_irrefl,decide_false,gt_iff_lt,Bool.false_eq_true,if_false,askRoom,Sem.run_pure,Result.andThen_ok,Sem.run_bind]
  have hroom':¬roomBytes<m.toNat*by':=hroom
  simp only[if_neg hroom',Sem.run_pure,Result.andThen_ok,hsr]
  by_cases h0:m.toNat*k=0
  ·have hce0:(Array.range (m.toNat*k)).map (fun j=>(#[]:Array Value)[j % (#[]:Array Value).size]!)=c':=by
    rw[← hc',h0];simp [Array.range_zero']
   simp only[if_pos h0,Sem.run_bind,Sem.run_pure,Result.andThen_ok,newRow]
   simp only[pure_bind,hce0]
   rfl
  ·simp only[if_neg h0,Sem.run_bind,Sem.run_pure,Result.andThen_ok,hzr,newRow,hc']
   rfl
 have hmax:m.toNat≤maxLen:=by simp only[maxLen];omega
 obtain⟨r',G⟩:=r.grow .row (.cells c' e) (fun C G hκ b hb=>by
  have:w.heap.size=b:=Option.some.inj (hκ.symm.trans hb)
  subst this
  exact⟨c',e,heap_alloc_new w _⟩)
 refine .inl ⟨_,_,_,_,hrun,.inl rfl,r'.putd (okD_spec hd) (.own ?_)⟩
 refine⟨by show(δ.addOb .row).ob _=_;rw[ob_addOb,if_pos rfl],by simp,fun c hc=>by simp at hc,fun b hb=>?_,[],⟨by simp,.inr ⟨w.heap.size,m.toNat,c',rfl,r.hB,heap_alloc_new w _,Nat.zero_le _,hmax,hcs,by simp⟩⟩,by simp,fun i' j p hp'=>by simp [cellAt] at hp'⟩
 simp only[Value.ownBlock,Option.some.injEq] at hb
 subst hb
 show upd _ _ _ _=_
 simp [upd]
theorem AOps.makeSlice0 {t e:TypeId} {x y:Operand} {m:Int} {z:Value} {k by':Nat} (hx:δ.ev x=litI 0) (hy:δ.ev y=litI m) (ht:P.underlying t=some (.slice e)) (hi:(P.info? e).map (fun i=>(i.size,i.zero,i.bytes))=some (k,some z,by')) (hb:Nat.ble by' 64=true)
  (ho:okT x=true) (ho':okT y=true) (hd:okD δ.n dst=true) (hm:0≤m∧m≤100000) (hK:AOps .plain P g ops rest Q ((δ.addOb .row).putd dst (.own δ.nx e k []))):
  AOps .plain P g ops (⟨dst,.makeSlice t x y,ty,pos,af,none⟩::rest) Q δ:=AOps.eff rfl rfl (Eff.makeSlice0 hx hy ht hi hb ho ho' hd hm) hK
end Go.Ab
/- A call of a function value that is told:a function of the program's,nothing captured. -/
namespace Go.Ab
open Go Go.RowKit
variable {P:Program} {g:Ghost} {δ:DS} {κ:Nat→Option Nat} {a:Act} {w:World}
variable {ops:Array Oper} {rest:List Oper} {Q:Exit→DS→Prop} {dst:Option Nat} {ty:TypeId} {pos:String} {af:Array Edge}
theorem clo0 {C:Cx} {w:World} {v:Value} {f:Go.Fn} (h:RA C w v (.clo f [] [])):v=.func f #[] #[]:=by
 cases h with
 |clo hs h ht h'=>
  rename_i vs us
  have e1:vs= #[]:=Array.eq_empty_of_size_eq_zero (by simpa using hs)
  have e2:us= #[]:=Array.eq_empty_of_size_eq_zero (by simpa using ht)
  rw[e1,e2]
theorem AOps.callT {q:Md} {f:FuncId} {xs:List Operand} {tys:Array TypeId} {args:List AV} {r:AV} {y:Operand} (hy:δ.ev y=.clo (.func f) [] []) (hoy:okT y=true) (hf:Fn P f args r) (hargs:Args true δ xs args) (hdet:r.det=true) (hd:okD δ.n dst=true) (hq:q≠ .held)
  (hK:AOps q P g ops rest Q (δ.putd dst r)):AOps q P g ops (⟨dst,.call {callee:=.value y,args:=xs.toArray,argTypes:=tys},ty,pos,af,none⟩::rest) Q δ:=by
 intro κ a w r0
 have hyv:a.eval y=.func (.func f) #[] #[]:=clo0 (hy▸r0.evc y (okT_spec hoy))
 have hc:∀w',Below w.heap.size w w'→Calls P f (xs.toArray.map a.eval) w' fun e w''=>e=.returned r.out∧Below w'.heap.size w' w'':=fun w' hw'=>
  (hf.calls (fun _=>True) w' _ (fun _ _=>trivial) (by simp [hargs.len]) (hargs.ras (r0.ext hw') (fun _ _ _=>trivial) (fun _ _ _ _ _=>trivial))).mono (by
   rintro e w'' ⟨v,rfl,hv,hb⟩
   exact⟨by rw[hv.det (AV.out_ra (C:=pcx (fun _=>True)) (w:=w) hdet) hdet],hb⟩)
 have hK1:=hK κ _ _ (r0.putd (okD_spec hd) (AV.out_ra hdet))
 cases q with
 |quiet=>
  show wpQuiet P ops _ _ (_::rest) a
  unfold wpQuiet
  rw[if_pos (by simp [Region.wanted])]
  refine⟨r.out,fun w' hw'=>?_,hK1⟩
  unfold Oper.quietAt
  rw[run_call (f:=f) hyv hf.enters]
  exact⟨rfl,(hc w' hw').mono fun e w'' ⟨h1,h2⟩=>⟨h1,hw'.trans (h2.mono hw'.size)⟩⟩
 |held=>exact absurd rfl hq
 |plain=>
  show wpListIn _ _ P ops _ (_::rest) a w
  refine wpl_plain rfl rfl fun K hK'=>?_
  unfold Oper.wpF
  rw[run_call (f:=f) hyv hf.enters,Oper.uponIn_enter]
  refine⟨fun h=>by simp at h,(callsIn_any (hc w (Below.refl _ _))).mono ?_⟩
  rintro e w' ⟨rfl,hb⟩
  exact hK' _ _ (hK κ _ _ ((r0.ext hb).putd (okD_spec hd) (AV.out_ra hdet)))
end Go.Ab
/- min and max of two numbers. -/
namespace Go.Ab
open Go Go.RowKit
variable {P:Program} {g:Ghost} {δ:DS} {q:Md}
variable {ops:Array Oper} {rest:List Oper} {Q:Exit→DS→Prop} {dst:Option Nat} {ty:TypeId} {pos:String} {af:Array Edge}
theorem AOps.max2 {x y:Operand} {tys:Array TypeId} {m n:Int} (hx:δ.ev x=litI m) (hy:δ.ev y=litI n) (ho:okT x=true) (ho':okT y=true) (hd:okD δ.n dst=true)
  (hK:AOps q P g ops rest Q (δ.putd dst (litI (max m n)))):AOps q P g ops (⟨dst,.call {callee:=.builtin .max,args:= #[x,y],argTypes:=tys},ty,pos,af,none⟩::rest) Q δ:=
 AOps.valw _ hd (fun κ a w r=>⟨.int .i64 (max m n),fun w' _=>by
  have h1:=r.lit hx ho
  have h2:=r.lit hy ho'
  have h3:(if n>m then n else m)=max m n:=by split<;>omega
  simp [execOp,resolve,invoke,builtin,h1,h2,run_max_int2,h3],.pv (.lit _)⟩) hK
theorem AOps.makeFunc_3 {fn:Go.Fn} {x y z:Operand} {u1 u2 u3:AV} (hx:δ.ev x=u1) (hy:δ.ev y=u2) (hz:δ.ev z=u3) (ho:okT x=true) (ho':okT y=true) (ho'':okT z=true) (hd:okD δ.n dst=true) (hK:AOps q P g ops rest Q (δ.putd dst (.clo fn [] [u1,u2,u3]))):AOps q P g ops (⟨dst,.makeFunc fn #[] #[x,y,z],ty,pos,af,none⟩::rest) Q δ:=
 AOps.valw _ hd (fun κ a w r=>⟨.func fn #[] #[a.eval x,a.eval y,a.eval z],fun w' _=>by simp [execOp,Instr.makeFunc],.clo rfl (fun j u c h=>by simp at h) rfl (fun j u c h1 h2=>by
  match j with
  |0=>simp at h1 h2;subst h1;subst h2;exact r.ra hx ho
  |1=>simp at h1 h2;subst h1;subst h2;exact r.ra hy ho'
  |2=>simp at h1 h2;subst h1;subst h2;exact r.ra hz ho''
  |j+3=>simp at h2)⟩) hK
end Go.Ab
/- Labelled statements whose labels are left by break and continue alone. -/
namespace Go.Ab
open Go Go.RowKit
section
variable {P:Program} {F:Fence} {n:Nat} {a:Act} {w:World} {b:Frame} {k:List Item} {cs:List Frame}
end
variable {P:Program} {g:Ghost} {δ:DS}
def noGotoD (Q:Exit→DS→Prop):Exit→DS→Prop
 |.goto _,_=>False
 |e,δ=>Q e δ
end Go.Ab
/- Loops over functions within loops over functions:a yield from a round,to a loop some frames above. -/
namespace Go.Ab
open Go Go.RowKit
attribute [local irreducible] HS
variable {P:Program} {g:Ghost} {δ:DS} {κ:Nat→Option Nat} {a:Act} {w:World}
variable {ops:Array Oper} {rest:List Oper} {Q:Exit→DS→Prop} {dst:Option Nat} {ty:TypeId} {pos:String} {af:Array Edge}
def unD:Nat→List (Nat×AV)→List (Nat×AV)
 |0,e=>e
 |d+1,e=>unshiftE (unD d e)
theorem look_unD:∀(d:Nat) (e:List (Nat×AV)) (j:Nat),look (unD d e) j=look e (j+d*HS)
 |0,e,j=>by rw[Nat.zero_mul,Nat.add_zero];rfl
 |d+1,e,j=>by
  show look (unshiftE (unD d e)) j=_
  rw[look_unshift,look_unD d e]
  congr 1
  rw[Nat.add_mul,Nat.one_mul];omega
theorem look_round2 (e1 e:List (Nat×AV)) (j:Nat):look (ownE e1++shiftE e) j=if j<HS then look e1 (j+HS) else look e (j - HS):=by
 by_cases hj:j<HS
 ·rw[if_pos hj]
  rcases look_append (ownE e1) (shiftE e) j with h|⟨h1,h2⟩
  ·rw[h,look_own,if_pos hj]
  ·have h3:=look_none _ _ h1
   rw[look_own,if_pos hj] at h3
   rw[h2,look_shift_lt _ _ hj,h3]
 ·rw[if_neg hj]
  have h1:∀p∈ownE e1,p.1≠j:=fun p hp e'=>hj (e'▸own_keys e1 p hp)
  have:∀(e1:List (Nat×AV)),(∀p∈e1,p.1≠j)→look (e1++shiftE e) j=look (shiftE e) j:=by
   intro e1 hne
   induction e1 with
   |nil=>rfl
   |cons p e1 ih=>
    rw[List.cons_append]
    show look ((p.1,p.2)::(e1++shiftE e)) j=_
    rw[look_cons,if_neg (hne p (by simp))]
    exact ih fun q hq=>hne q (by simp [hq])
  rw[this _ h1]
  obtain⟨m,rfl⟩:∃m,j=m+HS:=⟨j - HS,by omega⟩
  rw[look_shift,Nat.add_sub_cancel]
theorem AW.rangeFuncU {x:Operand} {ps:Array Tmp} {asg body:Code} {f:FuncId} {first cap:List AV} {fn:Func} {c:Code} {n':Nat} (hro:g.ro=none) (hwt:g.wt=none) (hx:δ.ev x=.clo (.func f) first cap) (ho:okT x=true)
  (hf:P.funcs[f]? =some fn) (hb:fn.body=some c) (hres:fn.results= #[]) (hn:fn.ntmps=n') (hle:Nat.ble (first.length+1+cap.length) n'=true) (hnH:Nat.ble n' HS=true) (hown:Nat.ble δ.n HS=true) (he:(fn.name== "runtime.NumGoroutine")=false)
  (h:∀(g':Ghost) (tm:Array Value) (l:Nat),g'.ro=none→g'.wt=none→(∀j,j<HS→g'.held (j+HS)=tm.getD j undef)→(∀j,g'.held (j+HS+HS)=g.held (j+HS))→tm.size=δ.n→
   AW P g' c (iterEnds δ.n δ.nx l Q) {n:=n',env:=enum 0 (first++ .yld δ.nx::cap)++shiftE δ.env,objs:=(δ.nx,some (.loop l tm ps asg body .ready))::δ.objs,nx:=δ.nx+1}):
  AW P g (.rangeFunc x ps asg body) Q δ:=by
 intro κ a w r
 have hra:=r.ra hx ho
 generalize hv:a.eval x=v at hra
 cases hra with
 | @clo _ vs us _ _ hs hvs ht hus=>
  rw[hro]
  have hle':first.length+1+cap.length≤n':=by simpa using hle
  have hnH':n'≤HS:=by simpa using hnH
  obtain⟨ms,hm1,hm2,hm3⟩:=r.dfr
  refine wpIn_rangeFunc fun fnid _=>?_
  let w1:=w.alloc (.deferred (some []))
  let lp:Loop:={state:=.ready,pending:=none,fn:=fnid,tmps:=a.tmps,params:=ps,assign:=asg,body,defers:=w.heap.size}
  let w2:=w1.alloc (.loop lp)
  have hw1s:w1.heap.size=w.heap.size+1:=by show(w.heap.push _).size=_;simp
  refine⟨w.heap.size+1,[{target:=.collected w.heap.size,args:= #[]}],w2,_,w2,f,vs++ #[.func (.yield (w.heap.size+1)) #[] #[]]++us,w2,run_enterLoop_outer fnid a.tmps ps asg body,clo_run hv _ _,fun _ _=>trivial,?_,fun h=>by simp at h,?_⟩
  ·have hne:(fn.name== "runtime.NumGoroutine")=false:=he
   simp [invoke,callFunc,hf,hb]
   simpa using hne
  let g':Ghost:={B:=g.B,w0:=g.w0,N0:=g.N0,held:=fun j=>g.val a (j - HS),ro:=none,mks:=w.heap.size::(ms++g.mks),wt:=none,fr:=g.fr,w1:=g.w1}
  have hr1:Rel g δ κ a w1:=r.ext ((Below.refl _ _).alloc (Nat.le_refl _) _)
  obtain⟨hr2,G⟩:=hr1.grow (.loop (w.heap.size+1) a.tmps ps asg body .ready) (.loop lp) (fun C G hκ=>⟨_,lp,hκ,heap_alloc_new w1 _,hw1s,rfl,rfl,rfl,rfl,rfl,rfl⟩)
  let κ2:=upd κ δ.nx (some w1.heap.size)
  have hκ2:κ2 δ.nx=some (w.heap.size+1):=by show upd _ _ _ _=_;simp [upd,hw1s]
  let δ2:DS:={n:=n',env:=enum 0 (first++ .yld δ.nx::cap)++shiftE δ.env,objs:=(δ.nx,some (.loop (w.heap.size+1) a.tmps ps asg body .ready))::δ.objs,nx:=δ.nx+1}
  have hcx:δ2.cx g' κ2=(δ.addOb (.loop (w.heap.size+1) a.tmps ps asg body .ready)).cx g κ2:=rfl
  have happ:∀(e1 e2:List (Nat×AV)) (j:Nat),look (e1++e2) j=look e1 j∨(look e1 j=.any∧look (e1++e2) j=look e2 j):=by
   intro e1 e2 j
   induction e1 with
   |nil=>exact .inr ⟨rfl,rfl⟩
   |cons p e1 ih=>
    obtain⟨i,v⟩:=p
    rw[List.cons_append,look_cons,look_cons]
    by_cases e:i=j
    ·rw[if_pos e,if_pos e];exact .inl rfl
    ·rw[if_neg e,if_neg e];exact ih
  let args:Array Value:=vs++ #[.func (.yield (w.heap.size+1)) #[] #[]]++us
  have hsz:args.size=first.length+1+cap.length:=by simp [args];omega
  have hrel:Rel g' δ2 κ2 {tmps:=args++Array.replicate (fn.ntmps - args.size) undef,defers:=[]} w2:=
   {n:=by show(args++Array.replicate (fn.ntmps - args.size) undef).size=n';rw[Array.size_append,Array.size_replicate,hn,hsz];omega
    dfr:=⟨[],rfl,by
      show(w.heap.size::(ms++g.mks)).Nodup
      refine List.nodup_cons.2 ⟨fun hmem=>?_,hm2⟩
      have:=heap_lt (hm3 _ hmem).2
      omega,fun k hk=>by
      rw[List.nil_append] at hk
      rcases List.mem_cons.1 hk with rfl|hk
      ·refine⟨r.hB,?_⟩
       rw[show w2.heap[w.heap.size]? =w1.heap[w.heap.size]? from Below.heap_alloc w1 _ _ (by omega)]
       exact heap_alloc_new w _
      ·have h3:=hm3 k hk
       have hlt:=heap_lt h3.2
       refine⟨h3.1,?_⟩
       rw[show w2.heap[k]? =w1.heap[k]? from Below.heap_alloc w1 _ _ (by omega),show w1.heap[k]? =w.heap[k]? from Below.heap_alloc w _ _ hlt]
       exact h3.2⟩
    env:=fun j=>by
     rw[hcx]
     by_cases hj:j<HS
     ·have hval:g'.val {tmps:=args++Array.replicate (fn.ntmps - args.size) undef,defers:=[]} j=(args++Array.replicate (fn.ntmps - args.size) undef).getD j undef:=if_pos hj
      rw[hval]
      have hget:δ2.get j=look (enum 0 (first++ .yld δ.nx::cap)) j:=by
       rcases happ (enum 0 (first++ .yld δ.nx::cap)) (shiftE δ.env) j with h1|⟨h1,h2⟩
       ·exact h1
       ·show look (_++_) j=_
        rw[h2,h1,look_shift_lt _ _ hj]
      rw[hget]
      by_cases hja:j<args.size
      ·have hl:j<(first++ .yld δ.nx::cap).length:=by simp;omega
       rw[look_enum _ 0 j ((first++ .yld δ.nx::cap)[j]) (Nat.zero_le _) (by rw[Nat.sub_zero];exact List.getElem?_eq_getElem hl)]
       have hav:(args++Array.replicate (fn.ntmps - args.size) undef).getD j undef=args[j]:=by
        rw[Array.getD_eq_getD_getElem?,Array.getElem?_append_left hja,Array.getElem?_eq_getElem hja];rfl
       rw[hav]
       have hA:args[j]? =some args[j]:=Array.getElem?_eq_getElem hja
       have hL:(first++ .yld δ.nx::cap)[j]? =some (first++ .yld δ.nx::cap)[j]:=List.getElem?_eq_getElem hl
       generalize args[j]=u at hA ⊢
       generalize (first++ .yld δ.nx::cap)[j]=d at hL ⊢
       simp only[args] at hA
       by_cases h1:j<first.length
       ·rw[List.getElem?_append_left h1] at hL
        rw[Array.getElem?_append_left (by simp;omega),Array.getElem?_append_left (by omega)] at hA
        exact G.ra ((Goes.ra ⟨rfl,by rw[hw1s];omega,fun b hb hN=>⟨hN,Below.heap_alloc w _ _ hb⟩,fun i hi=>⟨hi,rfl,fun b hκ=>Below.heap_alloc w _ _ (r.lo i b (DS.lr_live hi) hκ).2⟩,fun i hi=>⟨hi,rfl⟩⟩ (hvs j u d hA hL)))
       ·rw[List.getElem?_append_right (by omega)] at hL
        by_cases h2:j=first.length
        ·subst h2
         simp at hL
         subst hL
         rw[Array.getElem?_append_left (by simp;omega),Array.getElem?_append_right (by omega)] at hA
         simp [hs] at hA
         subst hA
         exact .yld ⟨_,by show(δ.addOb _).ob _=_;rw[ob_addOb,if_pos rfl],rfl⟩ hκ2
        ·obtain⟨m,hm⟩:∃m,j=first.length+1+m:=⟨j - first.length - 1,by omega⟩
         subst hm
         rw[show first.length+1+m - first.length=m+1 by omega,List.getElem?_cons_succ] at hL
         rw[Array.getElem?_append_right (by simp;omega)] at hA
         have e0:first.length+1+m - (vs++ #[Value.func (.yield (w.heap.size+1)) #[] #[]]).size=m:=by simp;omega
         rw[e0] at hA
         exact G.ra ((Goes.ra ⟨rfl,by rw[hw1s];omega,fun b hb hN=>⟨hN,Below.heap_alloc w _ _ hb⟩,fun i hi=>⟨hi,rfl,fun b hκ=>Below.heap_alloc w _ _ (r.lo i b (DS.lr_live hi) hκ).2⟩,fun i hi=>⟨hi,rfl⟩⟩ (hus m u d hA hL)))
      ·rw[look_enum_out _ 0 j (.inr (by simp;omega))];exact .any _
     ·obtain⟨m,rfl⟩:∃m,j=m+HS:=⟨j - HS,by omega⟩
      have hval:g'.val {tmps:=args++Array.replicate (fn.ntmps - args.size) undef,defers:=[]} (m+HS)=g.val a m:=by
       rw[val_held];exact congrArg (g.val a) (Nat.add_sub_cancel m HS)
      rw[hval]
      have hget:δ2.get (m+HS)=δ.get m:=by
       have h0:look (enum 0 (first++ .yld δ.nx::cap)) (m+HS)=.any:=look_enum_out _ 0 _ (.inr (by simp;omega))
       rcases happ (enum 0 (first++ .yld δ.nx::cap)) (shiftE δ.env) (m+HS) with h1|⟨h1,h2⟩
       ·
        have:∀(e1:List (Nat×AV)),(∀p∈e1,p.1≠m+HS)→look (e1++shiftE δ.env) (m+HS)=look (shiftE δ.env) (m+HS):=by
         intro e1 hne
         induction e1 with
         |nil=>rfl
         |cons p e1 ih=>
          rw[List.cons_append]
          show look ((p.1,p.2)::(e1++shiftE δ.env)) _=_
          rw[look_cons,if_neg (hne p (by simp))]
          exact ih (fun q hq=>hne q (by simp [hq]))
        have hk:∀(l:List AV) (i:Nat),∀p∈enum i l,p.1<i+l.length:=by
         intro l
         induction l with
         |nil=>intro i p hp;simp [enum] at hp
         |cons v l ih=>
          intro i p hp
          simp only[enum,List.mem_cons] at hp
          rcases hp with rfl|hp
          ·simp
          ·have:=ih (i+1) p hp;simp;omega
        show look (_++_) _=_
        rw[this _ (fun p hp=>by have:=hk _ 0 p hp;simp at this;omega),look_shift];rfl
       ·show look (_++_) _=_
        rw[h2,look_shift];rfl
      rw[hget]
      exact hr2.env m
    obj:=hr2.obj,inj:=hr2.inj,lo:=hr2.lo,nx:=hr2.nx,wt:=fun k hk=>(by cases hk),below:=hr2.below,hB:=hr2.hB,N0:=hr2.N0,fr:=hr2.fr,mkf:=fun d hd=>by cases hd}
  have hbody:=h g' a.tmps (w.heap.size+1) rfl rfl (fun j hj=>(congrArg (g.val a) (Nat.add_sub_cancel j HS)).trans (by unfold Ghost.val;rw[if_pos hj])) (fun j=>(congrArg (g.val a) (Nat.add_sub_cancel (j+HS) HS)).trans (val_held g a j)) r.n κ2 _ w2 hrel
  refine callsIn_of_wp_marks (n:=0) hf hb trivial (wpIn_mono hbody ?_)
  rintro e a2 w3 ⟨δ3,κ3,hq,r3⟩
  have fin:jumpD (w.heap.size+1) Q (backD δ.n δ.nx δ3) (δ3.ob δ.nx)→LeavesInM (Fw none) 0 P fn a2.tmps (rangePost (Fw none) 0 P (w.heap.size+1) (lift g Q) {a with defers:=[{target:=.collected w.heap.size,args:= #[]}]++a.defers}) a2.defers .returning w3:=by
   intro hj
   obtain⟨tm3,ps3,asg3,body3,st3,hob⟩:∃tm ps asg body st,δ3.ob δ.nx=some (.loop (w.heap.size+1) tm ps asg body st):=by
    cases hoo:δ3.ob δ.nx with
    |none=>rw[hoo] at hj;exact hj.elim
    |some o=>
     rw[hoo] at hj
     cases o with
     |row=>exact hj.elim
     |box cs=>exact hj.elim
     |mp l=>exact hj.elim
     |mpl l k v=>exact hj.elim
     |it l seen=>exact hj.elim
     |lit T vals=>exact hj.elim
     |loop l' tm ps asg body st=>
      cases st with
      |ready=>obtain⟨rfl,_⟩:=hj;exact⟨tm,ps,asg,body,_,rfl⟩
      |busy=>exact hj.elim
      |over=>exact hj.elim
      |done c=>cases c<;>first|exact hj.elim|(obtain⟨rfl,_⟩:=hj;exact⟨tm,ps,asg,body,_,rfl⟩)
   refine leaves (g:=g') rfl rfl (rs:=[]) hres .none r3 (fun w4 r4 u hu=>?_)
   obtain⟨b,rl,h1,h2,hbl,h3,h4,h5,h6,h7⟩:=r4.obj _ _ hob
   have h1':κ3 δ.nx=some b:=h1
   subst hbl
   have hnb:rl.state≠ .busy:=by
    rw[hob] at hj
    cases st3 with
    |ready=>rw[h7.1];simp
    |busy=>exact hj.elim
    |over=>exact hj.elim
    |done c=>rw[h7.1];simp
   have hend:=run_endLoop (P:=P) (w:=w4) h2 hnb
   have hd:Dfr g {a with defers:=[{target:=.collected w.heap.size,args:= #[]}]++a.defers} (w4.putObj (w.heap.size+1) (.loop {rl with state:=.exhausted})):=by
    obtain⟨rs4,k1,k2,k3⟩:=r4.dfr
    refine⟨w.heap.size::ms,by simp [hm1],?_,fun k hk=>?_⟩
    ·have:(rs4++g'.mks).Nodup:=k2
     exact(List.nodup_append.1 this).2.1
    ·have hk':=k3 k (List.mem_append.2 (.inr hk))
     refine⟨hk'.1,?_⟩
     rw[World.putObj_heap_other (by intro e;subst e;rw[h2] at hk';cases hk'.2)]
     exact hk'.2
   have rb:=r4.back (g:=g) (n:=δ.n) (a':={a with defers:=[{target:=.collected w.heap.size,args:= #[]}]++a.defers}) hwt rfl ⟨rfl,rfl,rfl,rfl,rfl⟩ (fun j=>congrArg (g.val a) (Nat.add_sub_cancel j HS)) r.n hob h1' h2 {rl with state:=.exhausted} ⟨rfl,rfl,rfl,rfl⟩ rfl hd (fun d hd r0 e=>by
    rcases List.mem_append.1 hd with hd|hd
    ·rw[List.mem_singleton] at hd
     subst hd
     cases e
     exact fun hf=>Nat.lt_irrefl _ (r.fr.old hf)
    ·exact r.mkf d hd r0 e)
   refine⟨rl.pending,_,hend,?_⟩
   rw[hob] at hj
   cases st3 with
   |ready=>rw[h7.2] at rb ⊢;exact⟨_,κ3,hj.2,rb⟩
   |busy=>exact hj.elim
   |over=>exact hj.elim
   |done c=>
    rw[h7.2] at rb ⊢
    cases c with
    |ret=>exact wpIn_ret ⟨_,κ3,hj.2,rb⟩
    |exit id=>exact wpIn_exit ⟨_,κ3,hj.2,rb⟩
    |_=>exact hj.elim
  cases e with
  |normal=>exact fin hq
  |ret=>exact fin hq
  |_=>exact hq.elim
theorem AOps.yieldD (d:Nat) {x:Operand} {ys:List Operand} {tys:Array TypeId} {i l n0:Nat} {tm:Array Value} {ps:List Tmp} {asg body:Code} (hwt:g.wt=none) (hheld:∀j,j<HS→g.held (j+HS+d*HS)=tm.getD j undef) (htm:tm.size=n0) (hn0:Nat.ble n0 HS=true)
  (hx:δ.ev x=.yld i) (hob:δ.ob i=some (.loop l tm ps.toArray asg body .ready)) (ho:okT x=true) (hys:ys.all okT=true) (hlen:Nat.beq ys.length ps.length=true) (hps:ps.all (fun t=>Nat.blt t n0)=true) (hd':okD δ.n dst=true)
  (h:∀g':Ghost,g'.ro=some l→g'.wt=none→(∀j,g'.held (j+HS+HS)=g.held (j+HS))→AW P g' asg (thenD (fun δ1=>isLp δ1 i l .ready∧AW P g' body (roundEnds δ.n i l (fun b st δ2=>AOps .plain P g ops rest Q ((δ2.lpSt i st).putd dst (litB b)))) (δ1.lpSt i .busy)) (fun _ _=>False)) {n:=n0,env:=parE ps (ys.map δ.ev) (ownE (unD d δ.env)++shiftE δ.env),objs:=δ.objs,nx:=δ.nx}):
  AOps .plain P g ops (⟨dst,.call {callee:=.value x,args:=ys.toArray,argTypes:=tys},ty,pos,af,none⟩::rest) Q δ:=by
 intro κ a w r
 have hra:=r.ra hx ho
 generalize hv:a.eval x=v at hra
 cases hra with
 | @yld _ b hl hκ=>
  obtain⟨b',rl,h1,h2,hbl,h3,h4,h5,h6,h7⟩:=r.obj _ _ hob
  have:b'=b:=Option.some.inj (h1.symm.trans hκ)
  subst this
  subst hbl
  obtain⟨ms,hm1,hm2,hm3⟩:=r.dfr
  have hlen':ys.length=ps.length:=Nat.eq_of_beq_eq_true hlen
  show wpListIn _ _ P ops _ (_::rest) a w
  refine wpl_plain rfl rfl fun K hK'=>?_
  unfold Oper.wpF
  rw[run_yieldOp hv h2 (by rw[h4];simpa using hlen'),Oper.uponIn_round]
  refine⟨fun h=>by simp at h,?_⟩
  let tm':Array Value:=(rl.params.zip (ys.toArray.map a.eval)).foldl (fun tmps (t,a)=>tmps.setIfInBounds t a) rl.tmps
  have htm':tm'=(ps.zip (ys.map a.eval)).foldl (fun tmps (t,a)=>tmps.setIfInBounds t a) tm:=by
   show(rl.params.zip (ys.toArray.map a.eval)).foldl _ rl.tmps=_
   rw[h3,h4,← Array.foldl_toList,Array.toList_zip]
   simp
  let g':Ghost:={B:=g.B,w0:=g.w0,N0:=g.N0,held:=fun j=>g.val a (j - HS),ro:=some b',mks:=ms++g.mks,wt:=none,fr:=g.fr,w1:=g.w1}
  have hheld':∀j,g'.held (j+HS)=g.val a j:=fun j=>congrArg (g.val a) (Nat.add_sub_cancel j HS)
  have hrel:Rel g' {n:=n0,env:=parE ps (ys.map δ.ev) (ownE (unD d δ.env)++shiftE δ.env),objs:=δ.objs,nx:=δ.nx} κ {tmps:=tm',defers:=[]} w:=
   {n:=by show tm'.size=n0;rw[htm',par_size];exact htm
    dfr:=⟨[],rfl,hm2,hm3⟩
    env:=fun j=>by
     have hp:=par_ok (C:=δ.cx g κ) (w:=w) (hv:=g'.held) ps (ys.map a.eval) (ys.map δ.ev) tm (ownE (unD d δ.env)++shiftE δ.env) (by simpa using hlen') (by simpa using hlen')
      (fun t ht=>by
       have h8:=(List.all_eq_true.1 hps) t ht
       have h9:t<n0:=by simpa using h8
       have h10:n0≤HS:=by simpa using hn0
       exact⟨htm▸h9,Nat.lt_of_lt_of_le h9 h10⟩)
      (fun j u v h8 h9=>by
       simp only[List.getElem?_map,Option.map_eq_some_iff] at h8 h9
       obtain⟨y,h8,rfl⟩:=h8
       obtain⟨y',h9,rfl⟩:=h9
       rw[h8] at h9;cases h9
       exact r.evc y (okT_spec ((List.all_eq_true.1 hys) y (List.mem_of_getElem? h8))))
      (fun j=>by
       rw[look_round2]
       by_cases hj:j<HS
       ·rw[if_pos hj,if_pos hj,← hheld j hj,look_unD]
        have:=r.env (j+HS+d*HS)
        rw[show g.val a (j+HS+d*HS)=g.held (j+HS+d*HS) from by unfold Ghost.val;rw[if_neg (by omega)]] at this
        exact this
       ·rw[if_neg hj,if_neg hj]
        exact r.env (j - HS)) j
     rw[← htm'] at hp
     exact hp
    obj:=r.obj,inj:=r.inj,lo:=r.lo,nx:=r.nx,wt:=fun k hk=>(by cases hk),below:=r.below,hB:=r.hB,N0:=r.N0,fr:=r.fr,mkf:=fun d hd=>by cases hd}
  rw[h5,h6]
  refine roundIn_of_wpIn (F:=Fw g.ro) trivial (wpIn_mono (h g' rfl rfl (fun j=>(congrArg (g.val a) (Nat.add_sub_cancel (j+HS) HS)).trans (val_held g a j)) κ _ w hrel) ?_)
  rintro e a1 w1 ⟨δ1,κ1,hq,r1⟩
  cases e with
  |normal=>
   obtain⟨hlp,hq⟩:=hq
   have hlp0:=hlp
   obtain⟨tm1,ps1,asg1,body1,ho1⟩:=hlp
   obtain⟨b1,rl1,k1,k2,kbl,k3,k4,k5,k6,k7⟩:=r1.obj _ _ ho1
   subst kbl
   have r1':=r1.lpSt rfl (st':=.busy) (r':={rl1 with state:=.busy}) hlp0 k2 ⟨rfl,rfl,rfl,rfl⟩ rfl
   refine⟨_,run_beginRound k2 k7.1,wpIn_mono (hq κ1 a1 _ r1') ?_⟩
   rintro e2 a2 w2 ⟨δ2,κ2,hq2,r2⟩
   have fin:∀(jump:Option Code) (st:LpSt) (bb:Bool),bb=jump.isNone→isLp δ2 i b1 .busy→AOps .plain P g ops rest Q (((roundBack δ.n δ2).lpSt i st).putd dst (litB bb))→
     (match st with|.ready=>jump=none|.done c=>jump=some c|_=>False)→
     ∃v w',(Instr.endRound b1 jump).run P w2=.ok v w'∧K (a.put dst v) w':=by
    intro jump st bb hbb hl2 hA hst
    have hl20:=hl2
    obtain⟨tm2,ps2,asg2,body2,ho2⟩:=hl2
    obtain⟨b2,rl2,m1,m2,mbl,m3,m4,m5,m6,m7⟩:=r2.obj _ _ ho2
    subst mbl
    have r3:=r2.lpSt rfl (st':=st) (r':={rl2 with state:=if jump.isNone then .ready else .done,pending:=jump}) hl20 m2 ⟨rfl,rfl,rfl,rfl⟩ (by
     cases st with
     |ready=>simp only at hst;subst hst;exact⟨rfl,rfl⟩
     |done c=>simp only at hst;subst hst;exact⟨rfl,rfl⟩
     |_=>exact hst.elim)
    refine⟨_,_,run_endRound jump m2,?_⟩
    have hd:Dfr g a (w2.putObj b2 (.loop {rl2 with state:=if jump.isNone then .ready else .done,pending:=jump})):=by
     obtain⟨rs4,k1,k2,k3⟩:=r3.dfr
     exact⟨ms,hm1,(List.nodup_append.1 k2).2.1,fun k hk=>k3 k (List.mem_append.2 (.inr hk))⟩
    have r4:=r3.frame (g:=g) (a':=a) (n:=δ.n) hwt rfl ⟨rfl,rfl,rfl,rfl,rfl⟩ hheld' r.n hd r.mkf
    have he:roundBack δ.n (δ2.lpSt i st)=(roundBack δ.n δ2).lpSt i st:=by
     unfold DS.lpSt
     have:(roundBack δ.n δ2).ob i=δ2.ob i:=rfl
     rw[this,ho2];rfl
    rw[he] at r4
    subst hbb
    have hnn:((roundBack δ.n δ2).lpSt i st).n=δ.n:=by
     unfold DS.lpSt
     have:(roundBack δ.n δ2).ob i=δ2.ob i:=rfl
     rw[this,ho2];rfl
    exact hK' _ _ (hA κ2 _ _ (r4.putd (v:=.bool jump.isNone) (okD_spec (by rw[hnn];exact hd')) (.pv (.lit _))))
   cases e2 with
   |normal=>exact fin none .ready true rfl hq2.1 hq2.2 rfl
   |ret=>exact fin (some .ret) (.done .ret) false rfl hq2.1 hq2.2 rfl
   |exit id=>exact fin (some (.exit id)) (.done (.exit id)) false rfl hq2.1 hq2.2 rfl
   |_=>exact hq2.elim
  |_=>exact hq.elim
theorem AW.rangeFuncUH {x:Operand} {ps:List Tmp} {asg body:Code} {f:FuncId} {first cap:List AV} {fn:Func} {c:Code} {n':Nat} (hro:g.ro=none) (hwt:g.wt=none) (hx:δ.ev x=.clo (.func f) first cap) (ho:okT x=true)
  (hf:P.funcs[f]? =some fn) (hb:fn.body=some c) (hres:fn.results= #[]) (hn:fn.ntmps=n') (hle:Nat.ble (first.length+1+cap.length) n'=true) (hnH:Nat.ble n' HS=true) (hown:Nat.ble δ.n HS=true) (he:(fn.name== "runtime.NumGoroutine")=false)
  (h:∀(g':Ghost) (tm:Array Value) (l:Nat) (ps':Array Tmp) (asg' body':Code),LpCode ps' asg' body' ps asg body→g'.ro=none→g'.wt=none→(∀j,j<HS→g'.held (j+HS)=tm.getD j undef)→(∀j,g'.held (j+HS+HS)=g.held (j+HS))→tm.size=δ.n→
   AW P g' c (iterEnds δ.n δ.nx l Q) {n:=n',env:=enum 0 (first++ .yld δ.nx::cap)++shiftE δ.env,objs:=(δ.nx,some (.loop l tm ps' asg' body' .ready))::δ.objs,nx:=δ.nx+1}):
  AW P g (.rangeFunc x ps.toArray asg body) Q δ:=
 AW.rangeFuncU hro hwt hx ho hf hb hres hn hle hnH hown he fun g' tm l h1 h2 h3 h4 h5=>h g' tm l _ _ _ ⟨rfl,rfl,rfl⟩ h1 h2 h3 h4 h5
theorem AOps.yieldDN (d:Nat) {x:Operand} {ys:List Operand} {tys:Array TypeId} {i l n0:Nat} {tm:Array Value} {ps:List Tmp} {asg body:Code} {ps':Array Tmp} {asg' body':Code} (hcode:LpCode ps' asg' body' ps asg body) (hwt:g.wt=none) (hheld:∀j,j<HS→g.held (j+HS+d*HS)=tm.getD j undef) (htm:tm.size=n0)
  (hn0:Nat.ble n0 HS=true) (hx:δ.ev x=.yld i) (hob:δ.ob i=some (.loop l tm ps' asg' body' .ready)) (ho:okT x=true) (hys:ys.all okT=true) (hlen:Nat.beq ys.length ps.length=true) (hps:ps.all (fun t=>Nat.blt t n0)=true) (hd':okD δ.n dst=true)
  (h:∀g':Ghost,g'.ro=some l→g'.wt=none→(∀j,g'.held (j+HS+HS)=g.held (j+HS))→AW P g' asg (thenD (fun δ1=>isLp δ1 i l .ready∧AW P g' body (roundEndsN P g ops rest Q dst δ.n i l) (stO δ1 i .busy)) (fun _ _=>False)) {n:=n0,env:=parE ps (ys.map δ.ev) (ownE (unD d δ.env)++shiftE δ.env),objs:=δ.objs,nx:=δ.nx}):
  AOps .plain P g ops (⟨dst,.call {callee:=.value x,args:=ys.toArray,argTypes:=tys},ty,pos,af,none⟩::rest) Q δ:=by
 obtain⟨rfl,rfl,rfl⟩:=hcode
 refine AOps.yieldD d hwt hheld htm hn0 hx hob ho hys hlen hps hd' fun g' h1 h2 hu=>(h g' h1 h2 hu).mono ?_
 intro e δ1 he
 cases e with
 |normal=>
  obtain⟨h3,h4⟩:=he
  refine⟨h3,?_⟩
  rw[stO_eq _ h3]
  refine AW.mono h4 ?_
  intro e2 δ2 he2
  cases e2 with
  |normal=>exact⟨he2.1,by show AOps .plain P g ops rest Q (((roundBack δ.n δ2).lpSt i .ready).putd dst (litB true));rw[stO_eq .ready (isLp_back (n:=δ.n) he2.1)];exact he2.2⟩
  |ret=>exact⟨he2.1,by show AOps .plain P g ops rest Q (((roundBack δ.n δ2).lpSt i (.done .ret)).putd dst (litB false));rw[stO_eq (.done .ret) (isLp_back (n:=δ.n) he2.1)];exact he2.2⟩
  |exit id=>exact⟨he2.1,by show AOps .plain P g ops rest Q (((roundBack δ.n δ2).lpSt i (.done (.exit id))).putd dst (litB false));rw[stO_eq (.done (.exit id)) (isLp_back (n:=δ.n) he2.1)];exact he2.2⟩
  |_=>exact he2.elim
 |_=>exact he.elim
theorem AOps.yieldN0 {x:Operand} {ys:List Operand} {tys:Array TypeId} {i l n0:Nat} {tm:Array Value} {ps:List Tmp} {asg body:Code} {ps':Array Tmp} {asg' body':Code} (hcode:LpCode ps' asg' body' ps asg body) (hwt:g.wt=none) (hheld:∀j,j<HS→g.held (j+HS)=tm.getD j undef) (htm:tm.size=n0)
  (hn0:Nat.ble n0 HS=true) (hx:δ.ev x=.yld i) (hob:δ.ob i=some (.loop l tm ps' asg' body' .ready)) (ho:okT x=true) (hys:ys.all okT=true) (hlen:Nat.beq ys.length ps.length=true) (hps:ps.all (fun t=>Nat.blt t n0)=true) (hd':okD δ.n dst=true)
  (h:∀g':Ghost,g'.ro=some l→g'.wt=none→(∀j,g'.held (j+HS+HS)=g.held (j+HS))→AW P g' asg (thenD (fun δ1=>isLp δ1 i l .ready∧AW P g' body (roundEndsN P g ops rest Q dst δ.n i l) (stO δ1 i .busy)) (fun _ _=>False)) {n:=n0,env:=parE ps (ys.map δ.ev) (ownE (δ.env)++shiftE δ.env),objs:=δ.objs,nx:=δ.nx}):
  AOps .plain P g ops (⟨dst,.call {callee:=.value x,args:=ys.toArray,argTypes:=tys},ty,pos,af,none⟩::rest) Q δ:=by
 exact AOps.yieldDN 0 hcode hwt (fun j hj=>(congrArg g.held (by omega)).trans (hheld j hj)) htm hn0 hx hob ho hys hlen hps hd' h
theorem AOps.yieldN2 {x:Operand} {ys:List Operand} {tys:Array TypeId} {i l n0:Nat} {tm:Array Value} {ps:List Tmp} {asg body:Code} {ps':Array Tmp} {asg' body':Code} (hcode:LpCode ps' asg' body' ps asg body) (hwt:g.wt=none) (hheld:∀j,j<HS→g.held (j+HS+2*HS)=tm.getD j undef) (htm:tm.size=n0)
  (hn0:Nat.ble n0 HS=true) (hx:δ.ev x=.yld i) (hob:δ.ob i=some (.loop l tm ps' asg' body' .ready)) (ho:okT x=true) (hys:ys.all okT=true) (hlen:Nat.beq ys.length ps.length=true) (hps:ps.all (fun t=>Nat.blt t n0)=true) (hd':okD δ.n dst=true)
  (h:∀g':Ghost,g'.ro=some l→g'.wt=none→(∀j,g'.held (j+HS+HS)=g.held (j+HS))→AW P g' asg (thenD (fun δ1=>isLp δ1 i l .ready∧AW P g' body (roundEndsN P g ops rest Q dst δ.n i l) (stO δ1 i .busy)) (fun _ _=>False)) {n:=n0,env:=parE ps (ys.map δ.ev) (ownE (unshiftE (unshiftE (δ.env)))++shiftE δ.env),objs:=δ.objs,nx:=δ.nx}):
  AOps .plain P g ops (⟨dst,.call {callee:=.value x,args:=ys.toArray,argTypes:=tys},ty,pos,af,none⟩::rest) Q δ:=by
 exact AOps.yieldDN 2 hcode hwt (fun j hj=>hheld j hj) htm hn0 hx hob ho hys hlen hps hd' h
theorem AOps.yieldN4 {x:Operand} {ys:List Operand} {tys:Array TypeId} {i l n0:Nat} {tm:Array Value} {ps:List Tmp} {asg body:Code} {ps':Array Tmp} {asg' body':Code} (hcode:LpCode ps' asg' body' ps asg body) (hwt:g.wt=none) (hheld:∀j,j<HS→g.held (j+HS+4*HS)=tm.getD j undef) (htm:tm.size=n0)
  (hn0:Nat.ble n0 HS=true) (hx:δ.ev x=.yld i) (hob:δ.ob i=some (.loop l tm ps' asg' body' .ready)) (ho:okT x=true) (hys:ys.all okT=true) (hlen:Nat.beq ys.length ps.length=true) (hps:ps.all (fun t=>Nat.blt t n0)=true) (hd':okD δ.n dst=true)
  (h:∀g':Ghost,g'.ro=some l→g'.wt=none→(∀j,g'.held (j+HS+HS)=g.held (j+HS))→AW P g' asg (thenD (fun δ1=>isLp δ1 i l .ready∧AW P g' body (roundEndsN P g ops rest Q dst δ.n i l) (stO δ1 i .busy)) (fun _ _=>False)) {n:=n0,env:=parE ps (ys.map δ.ev) (ownE (unshiftE (unshiftE (unshiftE (unshiftE (δ.env)))))++shiftE δ.env),objs:=δ.objs,nx:=δ.nx}):
  AOps .plain P g ops (⟨dst,.call {callee:=.value x,args:=ys.toArray,argTypes:=tys},ty,pos,af,none⟩::rest) Q δ:=by
 exact AOps.yieldDN 4 hcode hwt (fun j hj=>hheld j hj) htm hn0 hx hob ho hys hlen hps hd' h
theorem AOps.yieldN6 {x:Operand} {ys:List Operand} {tys:Array TypeId} {i l n0:Nat} {tm:Array Value} {ps:List Tmp} {asg body:Code} {ps':Array Tmp} {asg' body':Code} (hcode:LpCode ps' asg' body' ps asg body) (hwt:g.wt=none) (hheld:∀j,j<HS→g.held (j+HS+6*HS)=tm.getD j undef) (htm:tm.size=n0)
  (hn0:Nat.ble n0 HS=true) (hx:δ.ev x=.yld i) (hob:δ.ob i=some (.loop l tm ps' asg' body' .ready)) (ho:okT x=true) (hys:ys.all okT=true) (hlen:Nat.beq ys.length ps.length=true) (hps:ps.all (fun t=>Nat.blt t n0)=true) (hd':okD δ.n dst=true)
  (h:∀g':Ghost,g'.ro=some l→g'.wt=none→(∀j,g'.held (j+HS+HS)=g.held (j+HS))→AW P g' asg (thenD (fun δ1=>isLp δ1 i l .ready∧AW P g' body (roundEndsN P g ops rest Q dst δ.n i l) (stO δ1 i .busy)) (fun _ _=>False)) {n:=n0,env:=parE ps (ys.map δ.ev) (ownE (unshiftE (unshiftE (unshiftE (unshiftE (unshiftE (unshiftE (δ.env)))))))++shiftE δ.env),objs:=δ.objs,nx:=δ.nx}):
  AOps .plain P g ops (⟨dst,.call {callee:=.value x,args:=ys.toArray,argTypes:=tys},ty,pos,af,none⟩::rest) Q δ:=by
 exact AOps.yieldDN 6 hcode hwt (fun j hj=>hheld j hj) htm hn0 hx hob ho hys hlen hps hd' h
end Go.Ab
