import Derived.Test.YtcklfjkaadfjjaaGreatAbL4
set_option linter.unusedSimpArgs false
set_option linter.unusedVariables false
namespace Go.Ab
open Go Go.RowKit
open Nat (reduceAdd reduceSub)
structure Zh (B:Prop):Prop where
 o:B
theorem Q0 {A B:Prop} (h:B) (f:Zh B→A:=by intro eX;(conv=>rhs;simp only[Nf.all,Nat.reduceBEq,reduceAdd,reduceSub]);exact eX.o):A:=f ⟨h⟩
theorem Q1 {A B:Prop} (h:B) (f:Zh B→A:=by intro eX;refine zc ?_;refine AW.skip ?_;refine gr ?_;refine zo ?_;refine AW.block ?_;exact eX.o):A:=f ⟨h⟩
theorem Q2 {A:Prop} (h:A:=by exact⟨k+1,by omega,by omega,e_ rfl (by(refine⟨.d_ (by first|rfl|(rw[mL,List.map_append];rfl)|(rw[jj,List.map_append];rfl)|(rw[mL])|(rw[jj])),?_⟩;(iterate 3 refine aA ?_);refine⟨.fR (by first|rfl|(rw[mL,List.map_append];rfl)|(rw[jj,List.map_append];rfl)|(rw[mL])|(rw[jj])) rfl,?_⟩;refine⟨.d_ (by first|rfl|(rw[mL,List.map_append];rfl)|(rw[jj,List.map_append];rfl)|(rw[mL])|(rw[jj])),?_⟩;(iterate 2 refine aA ?_);refine⟨.fb (by first|rfl|(rw[mL,List.map_append];rfl)|(rw[jj,List.map_append];rfl)|(rw[mL])|(rw[jj])),?_⟩;exact trivial)) (by(refine⟨.box _ rfl ?_,?_⟩;refine⟨.d_ (by first|rfl|(rw[mL,List.map_append];rfl)|(rw[jj,List.map_append];rfl)|(rw[mL])|(rw[jj])),?_⟩;refine⟨.fR (by first|rfl|(rw[mL,List.map_append];rfl)|(rw[jj,List.map_append];rfl)|(rw[mL])|(rw[jj])) rfl,?_⟩;exact trivial;refine⟨.box _ rfl ?_,?_⟩;refine⟨.d_ (by first|rfl|(rw[mL,List.map_append];rfl)|(rw[jj,List.map_append];rfl)|(rw[mL])|(rw[jj])),?_⟩;refine⟨.fR (by first|rfl|(rw[mL,List.map_append];rfl)|(rw[jj,List.map_append];rfl)|(rw[mL])|(rw[jj])) rfl,?_⟩;exact trivial;(iterate 2 refine aC ?_);refine⟨.box _ rfl ?_,?_⟩;refine⟨.d_ (by first|rfl|(rw[mL,List.map_append];rfl)|(rw[jj,List.map_append];rfl)|(rw[mL])|(rw[jj])),?_⟩;refine⟨.fb (by first|rfl|(rw[mL,List.map_append];rfl)|(rw[jj,List.map_append];rfl)|(rw[mL])|(rw[jj])),?_⟩;exact trivial;refine aC ?_;refine⟨.box _ rfl ?_,?_⟩;refine⟨.fb (by first|rfl|(rw[mL,List.map_append];rfl)|(rw[jj,List.map_append];rfl)|(rw[mL])|(rw[jj])),?_⟩;refine⟨.d_ (by first|rfl|(rw[mL,List.map_append];rfl)|(rw[jj,List.map_append];rfl)|(rw[mL])|(rw[jj])),?_⟩;(iterate 2 exact trivial))) rfl⟩):A:=h
theorem Q3 {A B:Prop} (h:B) (f:Zh B→A:=by intro eX;refine a_.nil ?_;refine pQ ?_;exact eX.o):A:=f ⟨h⟩
theorem Q4 {A B:Prop} (h:B) (f:Zh B→A:=by intro eX;refine za ?_;refine zd ?_;exact eX.o):A:=f ⟨h⟩
theorem Q5 {A B:Prop} (h:B) (f:Zh B→A:=by intro eX;refine zq ?_;refine nz ?_;exact eX.o):A:=f ⟨h⟩
theorem Q6 {A B:Prop} (h:B) (f:Zh B→A:=by intro eX;(conv=>rhs;simp only[Nf.af,Nf.ZU,Nf.Xi,Nf.XO,Nf.ZQ,Nf.xor,Nf.Xj,Nf.ZJ,Nf.Z7,Nf.ZG,Nf.Y8,Nf.Xh,Nf.ZP,Nf.YY,Nf.EX,Nf.KC,Nf.E5,Nf.BC,Nf.Bd,Nf.Ep,Nf.E1,Nf.A_,Nf.D9,Nf.FR,Nf.FI,Nf.UW,Nf.XI,Nf.YJ,Nf.Zv,Nf.rwt,Nf.xoP,Nf.rwP,Nf.cn,Nf.nn,DX,w7,Nat.reduceBEq,cond_true,cond_false]);exact eX.o):A:=f ⟨h⟩
theorem Q7 {A B:Prop} (h:B) (f:Zh B→A:=by intro eX;refine zk ?_;refine AW.exit ?_;(iterate 2 refine pF ?_);refine mj ?_;exact eX.o):A:=f ⟨h⟩
theorem Q8 {A B:Prop} (h:B) (f:Zh B→A:=by intro eX;refine⟨.box _ rfl ?_,?_⟩;refine aA ?_;exact trivial;exact eX.o):A:=f ⟨h⟩
theorem Q9 {A:Prop} (h:A:=by exact e_ rfl (by(first|(refine aA ?_;(iterate 7 refine aA ?_);exact trivial)|(refine aA ?_;(iterate 6 refine aA ?_);exact trivial)|(refine aA ?_;refine⟨.lU _ _ _ rfl rfl,?_⟩;(iterate 5 refine aA ?_);exact trivial)|(refine aA ?_;refine⟨.lU _ _ _ rfl rfl,?_⟩;(iterate 4 refine aA ?_);exact trivial))) (by(first|(refine⟨.jv rfl,?_⟩;refine⟨.box _ rfl ?_,?_⟩;(iterate 2 refine aA ?_);exact trivial;refine⟨.box _ rfl ?_,?_⟩;(iterate 4 refine aA ?_);(iterate 2 exact trivial))|(refine aC ?_;refine⟨.box _ rfl ?_,?_⟩;(iterate 2 refine aA ?_);exact trivial;refine⟨.box _ rfl ?_,?_⟩;(iterate 4 refine aA ?_);(iterate 2 exact trivial)))) rfl):A:=h
theorem BI {A B:Prop} (h:B) (f:Zh B→A:=by intro eX;refine a_.b_ 30 0 0 rfl rfl rfl rfl ?_;refine zb ?_;exact eX.o):A:=f ⟨h⟩
theorem Kw {A B:Prop} (h:B) (f:Zh B→A:=by intro eX;refine a_.box rfl rfl rfl rfl ?_;refine nz ?_;exact eX.o):A:=f ⟨h⟩
theorem vP {A B:Prop} (h:B) (f:Zh B→A:=by intro eX;refine gL ?_;refine gr ?_;refine AW.region ?_;exact eX.o):A:=f ⟨h⟩
theorem yn {A B:Prop} (h:B) (f:Zh B→A:=by intro eX;refine zo ?_;refine zq ?_;(iterate 2 refine zm ?_);refine zn ?_;refine zs ?_;refine zd ?_;exact eX.o):A:=f ⟨h⟩
theorem xN {A B:Prop} (h:B) (f:Zh B→A:=by intro eX;refine Q3 ?_;(try refine nz ?_);refine AR.dd ?_;(conv=>rhs;simp only[Nf.ddR,Nf.all,Nat.reduceBEq,reduceAdd,reduceSub]);exact eX.o):A:=f ⟨h⟩
theorem Wb {A:Prop} (h:A:=by exact⟨i+1,by omega,by omega,e_ rfl (by(refine⟨.d_ (by first|rfl|(rw[Gr,List.map_append];rfl)),?_⟩;refine⟨.fR (by first|rfl|(rw[Gr,List.map_append];rfl)) rfl,?_⟩;refine⟨.Ms (by first|rfl|(rw[Gr,List.map_append];rfl)),?_⟩;refine aA ?_;refine⟨.fb (by first|rfl|(rw[Gr,List.map_append];rfl)),?_⟩;refine⟨.d_ (by first|rfl|(rw[Gr,List.map_append];rfl)),?_⟩;exact trivial)) (by(refine aC ?_;refine⟨.box _ rfl ?_,?_⟩;refine⟨.fb (by first|rfl|(rw[Gr,List.map_append];rfl)),?_⟩;(iterate 2 exact trivial))) rfl⟩):A:=h
theorem j7 {A B:Prop} (h:B) (f:Zh B→A:=by intro eX;refine Q4 ?_;refine AW.ret ?_;exact eX.o):A:=f ⟨h⟩
theorem Nd {A:Prop} (h:A:=by refine⟨.box _ rfl ?_,?_⟩;(iterate 3 refine aA ?_);exact trivial;refine⟨.box _ rfl ?_,?_⟩;refine aA ?_;(iterate 2 exact trivial)):A:=h
theorem Q18 {A:Prop} (h:A:=by exact⟨(k+1,x_),gM,BZ,e_ rfl (by(refine⟨.fy (by first|rfl|(rw[gA])|(rw[il])),?_⟩;refine⟨.fy (by first|rfl|(rw[gA])|(rw[il])),?_⟩;refine⟨.fy (by first|rfl|(rw[gA])|(rw[il])),?_⟩;refine⟨.fb (by first|rfl|(rw[gA])|(rw[il])),?_⟩;refine⟨.fy (by first|rfl|(rw[gA])|(rw[il])),?_⟩;refine⟨.fy (by first|rfl|(rw[gA])|(rw[il])),?_⟩;refine⟨.fy (by first|rfl|(rw[gA])|(rw[il])),?_⟩;(iterate 5 refine aA ?_);exact trivial)) (by(refine⟨.fm rfl (by first|rfl|(rw[gA])|(rw[il])),?_⟩;refine⟨.fm rfl (by first|rfl|(rw[gA])|(rw[il])),?_⟩;refine⟨.box _ rfl ?_,?_⟩;refine⟨.fb (by first|rfl|(rw[gA])|(rw[il])),?_⟩;refine⟨.fy (by first|rfl|(rw[gA])|(rw[il])),?_⟩;refine⟨.fb (by first|rfl|(rw[gA])|(rw[il])),?_⟩;refine⟨.fb (by first|rfl|(rw[gA])|(rw[il])),?_⟩;refine⟨.fy (by first|rfl|(rw[gA])|(rw[il])),?_⟩;refine⟨.fy (by first|rfl|(rw[gA])|(rw[il])),?_⟩;refine⟨.fb (by first|rfl|(rw[gA])|(rw[il])),?_⟩;refine⟨.fb (by first|rfl|(rw[gA])|(rw[il])),?_⟩;exact trivial;refine⟨.loop rfl,?_⟩;refine⟨.box _ rfl ?_,?_⟩;refine aA ?_;exact trivial;refine⟨.box _ rfl ?_,?_⟩;refine aA ?_;exact trivial;refine⟨.box _ rfl ?_,?_⟩;refine⟨.fb (by first|rfl|(rw[gA])|(rw[il])),?_⟩;exact trivial;refine⟨.box _ rfl ?_,?_⟩;refine aA ?_;exact trivial;refine⟨.box _ rfl ?_,?_⟩;refine⟨.fb (by first|rfl|(rw[gA])|(rw[il])),?_⟩;refine⟨.fy (by first|rfl|(rw[gA])|(rw[il])),?_⟩;refine⟨.fR (by first|rfl|(rw[gA])|(rw[il])) rfl,?_⟩;refine⟨.fy (by first|rfl|(rw[gA])|(rw[il])),?_⟩;exact trivial;refine aC ?_;exact trivial)) rfl⟩):A:=h
theorem Xp {A B:Prop} (h:B) (f:Zh B→A:=by intro eX;refine zq ?_;refine Kw ?_;refine a_.wM rfl rfl rfl rfl ?_;refine nz ?_;refine Q4 ?_;refine Q5 ?_;refine a_.kX rfl rfl rfl ?_;refine a_.assign rfl rfl rfl ?_;refine nz ?_;refine zd ?_;refine zo ?_;refine AW.block ?_;refine zq ?_;refine a_.iX rfl rfl rfl ?_;refine zm ?_;refine zC (ND) ?_;refine a_.not rfl rfl rfl ?_;refine zm ?_;refine zl ?_;refine a_.iX rfl rfl rfl ?_;refine zl ?_;refine zm ?_;refine zl ?_;refine zC (B5) ?_;refine zl ?_;refine a_.not rfl rfl rfl ?_;refine a_.jk rfl rfl rfl rfl rfl rfl ?_;refine Q4 ?_;refine AW.Bt rfl rfl ?_;refine Q5 ?_;refine zm ?_;refine a_.eql rfl rfl rfl rfl rfl ?_;refine zm ?_;exact eX.o):A:=f ⟨h⟩
theorem Q20 {A:Prop} (h:A:=by exact⟨k+1,by omega,by omega,e_ rfl (by(refine⟨.d_ (by first|rfl|(rw[lK,List.map_append];rfl)),?_⟩;refine⟨.d_ (by first|rfl|(rw[lK,List.map_append];rfl)),?_⟩;refine⟨.fb (by first|rfl|(rw[lK,List.map_append];rfl)),?_⟩;refine⟨.d_ (by first|rfl|(rw[lK,List.map_append];rfl)),?_⟩;refine⟨.d_ (by first|rfl|(rw[lK,List.map_append];rfl)),?_⟩;refine⟨.d_ (by first|rfl|(rw[lK,List.map_append];rfl)),?_⟩;refine⟨.fb (by first|rfl|(rw[lK,List.map_append];rfl)),?_⟩;(iterate 8 refine aA ?_);exact trivial)) (by(refine⟨.box _ rfl ?_,?_⟩;refine⟨.fR (by first|rfl|(rw[lK,List.map_append];rfl)) rfl,?_⟩;exact trivial;refine aC ?_;refine⟨.loop rfl,?_⟩;refine⟨.box _ rfl ?_,?_⟩;refine⟨.fb (by first|rfl|(rw[lK,List.map_append];rfl)),?_⟩;exact trivial;refine⟨.box _ rfl ?_,?_⟩;refine⟨.fb (by first|rfl|(rw[lK,List.map_append];rfl)),?_⟩;refine⟨.d_ (by first|rfl|(rw[lK,List.map_append];rfl)),?_⟩;exact trivial;refine⟨.box _ rfl ?_,?_⟩;refine⟨.fb (by first|rfl|(rw[lK,List.map_append];rfl)),?_⟩;refine⟨.fb (by first|rfl|(rw[lK,List.map_append];rfl)),?_⟩;(iterate 2 refine aA ?_);exact trivial;refine⟨WO.vals rfl,?_⟩;refine⟨.box _ rfl ?_,?_⟩;refine aA ?_;exact trivial;refine⟨.box _ rfl ?_,?_⟩;refine⟨.fb (by first|rfl|(rw[lK,List.map_append];rfl)),?_⟩;exact trivial;refine⟨.box _ rfl ?_,?_⟩;refine⟨.fb (by first|rfl|(rw[lK,List.map_append];rfl)),?_⟩;refine⟨.d_ (by first|rfl|(rw[lK,List.map_append];rfl)),?_⟩;exact trivial;refine⟨.box _ rfl ?_,?_⟩;refine⟨.fb (by first|rfl|(rw[lK,List.map_append];rfl)),?_⟩;refine⟨.fb (by first|rfl|(rw[lK,List.map_append];rfl)),?_⟩;(iterate 2 refine aA ?_);(iterate 2 exact trivial))) rfl⟩):A:=h
theorem JA {A B:Prop} (h:B) (f:Zh B→A:=by intro eX;refine kl ?_;(iterate 2 refine iU ?_);refine kl ?_;refine iU ?_;exact eX.o):A:=f ⟨h⟩
theorem YM {A:Prop} (h:A:=by exact⟨k+1,by omega,by omega,e_ rfl (by(refine⟨.d_ (by first|rfl|(rw[ij,List.map_append];rfl)),?_⟩;refine⟨.fR (by first|rfl|(rw[ij,List.map_append];rfl)) rfl,?_⟩;refine⟨.d_ (by first|rfl|(rw[ij,List.map_append];rfl)),?_⟩;refine⟨.fb (by first|rfl|(rw[ij,List.map_append];rfl)),?_⟩;(iterate 3 refine aA ?_);refine⟨.fb (by first|rfl|(rw[ij,List.map_append];rfl)),?_⟩;exact trivial)) (by(refine aC ?_;refine⟨.box _ rfl ?_,?_⟩;refine⟨.fb (by first|rfl|(rw[ij,List.map_append];rfl)),?_⟩;refine⟨.d_ (by first|rfl|(rw[ij,List.map_append];rfl)),?_⟩;exact trivial;refine⟨.box _ rfl ?_,?_⟩;refine⟨.fb (by first|rfl|(rw[ij,List.map_append];rfl)),?_⟩;refine⟨.fb (by first|rfl|(rw[ij,List.map_append];rfl)),?_⟩;(iterate 2 refine aA ?_);(iterate 2 exact trivial))) rfl⟩):A:=h
theorem BW {A B:Prop} (h:B) (f:Zh B→A:=by intro eX;refine zq ?_;refine zs ?_;refine zd ?_;refine zo ?_;exact eX.o):A:=f ⟨h⟩
theorem pZ {A B:Prop} (h:B) (f:Zh B→A:=by intro eX;refine a_.wM rfl rfl rfl rfl ?_;refine nz ?_;exact eX.o):A:=f ⟨h⟩
theorem Gl {A B:Prop} (h:B) (f:Zh B→A:=by intro eX;refine zm ?_;refine zt ?_;refine zm ?_;refine zt ?_;exact eX.o):A:=f ⟨h⟩
theorem vy {A B:Prop} (h:B) (f:Zh B→A:=by intro eX;refine a_.Dj rfl rfl rfl rfl rfl (by assumption) rfl ?_;exact eX.o):A:=f ⟨h⟩
theorem WR {A B:Prop} (h:B) (f:Zh B→A:=by intro eX;refine AW.Bt rfl rfl ?_;refine AW.skip ?_;exact eX.o):A:=f ⟨h⟩
theorem Z8 {A:Prop} (h:A:=by exact⟨k+1,by omega,by omega,e_ rfl (by(refine⟨.d_ (by first|rfl|(rw[gA])),?_⟩;refine⟨.d_ (by first|rfl|(rw[gA])),?_⟩;refine⟨.fb (by first|rfl|(rw[gA])),?_⟩;refine⟨.d_ (by first|rfl|(rw[gA])),?_⟩;refine⟨.d_ (by first|rfl|(rw[gA])),?_⟩;refine⟨.d_ (by first|rfl|(rw[gA])),?_⟩;refine⟨.fb (by first|rfl|(rw[gA])),?_⟩;(iterate 8 refine aA ?_);refine⟨.fb (by first|rfl|(rw[gA])),?_⟩;exact trivial)) (by(refine⟨WO.DT rfl Fz.symm,?_⟩;refine⟨.box _ rfl ?_,?_⟩;refine⟨.d_ (by first|rfl|(rw[gA])),?_⟩;exact trivial;refine⟨.loop rfl,?_⟩;refine⟨.box _ rfl ?_,?_⟩;refine⟨.fb (by first|rfl|(rw[gA])),?_⟩;exact trivial;refine⟨.box _ rfl ?_,?_⟩;refine⟨.fb (by first|rfl|(rw[gA])),?_⟩;refine⟨.d_ (by first|rfl|(rw[gA])),?_⟩;exact trivial;refine⟨.box _ rfl ?_,?_⟩;refine⟨.fb (by first|rfl|(rw[gA])),?_⟩;refine⟨.fb (by first|rfl|(rw[gA])),?_⟩;(iterate 2 refine aA ?_);exact trivial;refine⟨.box _ rfl ?_,?_⟩;refine aA ?_;exact trivial;refine⟨.box _ rfl ?_,?_⟩;refine⟨.fb (by first|rfl|(rw[gA])),?_⟩;exact trivial;refine⟨.box _ rfl ?_,?_⟩;refine⟨.fb (by first|rfl|(rw[gA])),?_⟩;refine⟨.d_ (by first|rfl|(rw[gA])),?_⟩;exact trivial;refine⟨.box _ rfl ?_,?_⟩;refine⟨.fb (by first|rfl|(rw[gA])),?_⟩;refine⟨.fb (by first|rfl|(rw[gA])),?_⟩;(iterate 2 refine aA ?_);(iterate 2 exact trivial))) rfl⟩):A:=h
theorem Q29 {A:Prop} (h:A:=by exact e_ rfl (by(refine⟨.d_ (by first|rfl|simp [fg]),?_⟩;refine⟨.d_ (by first|rfl|simp [fg]),?_⟩;(iterate 4 refine aA ?_);(iterate 2 refine⟨.d_ (by first|rfl|simp [fg]),?_⟩);(iterate 6 refine aA ?_);exact trivial)) (by(refine⟨.box _ rfl ?_,?_⟩;refine⟨.d_ (by first|rfl|simp [fg]),?_⟩;refine⟨.fR (by first|rfl|simp [fg]) rfl,?_⟩;exact trivial;refine⟨.box _ rfl ?_,?_⟩;refine aA ?_;exact trivial;refine⟨.loop rfl,?_⟩;refine⟨.box _ rfl ?_,?_⟩;refine⟨.fb (by first|rfl|simp [fg]),?_⟩;exact trivial;refine⟨.box _ rfl ?_,?_⟩;refine⟨.d_ (by first|rfl|simp [fg]),?_⟩;exact trivial;refine⟨.box _ rfl ?_,?_⟩;refine⟨.fb (by first|rfl|simp [fg]),?_⟩;refine⟨.d_ (by first|rfl|simp [fg]),?_⟩;exact trivial;refine aC ?_;refine⟨.box _ rfl ?_,?_⟩;refine aA ?_;exact trivial;refine⟨.loop rfl,?_⟩;refine⟨.box _ rfl ?_,?_⟩;refine⟨.fb (by first|rfl|simp [fg]),?_⟩;exact trivial;refine⟨.box _ rfl ?_,?_⟩;refine⟨.d_ (by first|rfl|simp [fg]),?_⟩;exact trivial;refine⟨.box _ rfl ?_,?_⟩;refine⟨.fb (by first|rfl|simp [fg]),?_⟩;refine⟨.d_ (by first|rfl|simp [fg]),?_⟩;exact trivial;refine⟨.box _ rfl ?_,?_⟩;refine⟨.d_ (by first|rfl|simp [fg]),?_⟩;refine aA ?_;exact trivial;refine⟨.box _ rfl ?_,?_⟩;refine⟨.fb (by first|rfl|simp [fg]),?_⟩;refine⟨.d_ (by first|rfl|simp [fg]),?_⟩;(iterate 2 exact trivial))) rfl):A:=h
theorem OG {A:Prop} (h:A:=by refine Q8 ?_;refine⟨.box _ rfl ?_,?_⟩;(iterate 2 refine aA ?_);exact trivial;refine⟨.box _ rfl ?_,?_⟩;(iterate 4 refine aA ?_);(iterate 2 exact trivial)):A:=h
theorem Q31 {A B:Prop} (h:B) (f:Zh B→A:=by intro eX;refine a_.pb rfl rfl rfl rfl rfl rfl rfl rfl rfl (by with_reducible assumption) ?_;exact eX.o):A:=f ⟨h⟩
theorem nv {A B:Prop} (h:B) (f:Zh B→A:=by intro eX;refine Q4 ?_;refine Q5 ?_;exact eX.o):A:=f ⟨h⟩
theorem Q33 {A:Prop} (h:A:=by exact⟨i+1,by omega,by omega,e_ rfl (by(refine⟨.d_ (by first|rfl|(push_cast;omega)|(rw[oh,gf])),?_⟩;refine⟨.d_ (by first|rfl|(push_cast;omega)|(rw[oh,gf])),?_⟩;(iterate 6 refine aA ?_);exact trivial)) (by(refine⟨.box _ rfl ?_,?_⟩;refine⟨.d_ (by first|rfl|(push_cast;omega)|(rw[oh,gf])),?_⟩;refine⟨.fR (by first|rfl|(push_cast;omega)|(rw[oh,gf])) rfl,?_⟩;exact trivial;refine aC ?_;refine⟨.box _ rfl ?_,?_⟩;refine aA ?_;exact trivial;refine⟨.loop rfl,?_⟩;refine⟨.box _ rfl ?_,?_⟩;refine⟨.fb (by first|rfl|(push_cast;omega)|(rw[oh,gf])),?_⟩;exact trivial;refine⟨.box _ rfl ?_,?_⟩;refine⟨.d_ (by first|rfl|(push_cast;omega)|(rw[oh,gf])),?_⟩;exact trivial;refine⟨.box _ rfl ?_,?_⟩;refine⟨.fb (by first|rfl|(push_cast;omega)|(rw[oh,gf])),?_⟩;refine⟨.d_ (by first|rfl|(push_cast;omega)|(rw[oh,gf])),?_⟩;exact trivial;refine⟨.box _ rfl ?_,?_⟩;refine⟨.d_ (by first|rfl|(push_cast;omega)|(rw[oh,gf])),?_⟩;refine aA ?_;exact trivial;refine⟨.box _ rfl ?_,?_⟩;refine⟨.fb (by first|rfl|(push_cast;omega)|(rw[oh,gf])),?_⟩;refine⟨.d_ (by first|rfl|(push_cast;omega)|(rw[oh,gf])),?_⟩;(iterate 2 exact trivial))) rfl⟩):A:=h
theorem x9 {A B:Prop} (h:B) (f:Zh B→A:=by intro eX;refine zy ?_;refine zb ?_;refine zy ?_;exact eX.o):A:=f ⟨h⟩
theorem uk {A B:Prop} (h:B) (f:Zh B→A:=by intro eX;refine vP ?_;refine nz ?_;refine zm ?_;refine zj ?_;refine Q4 ?_;exact eX.o):A:=f ⟨h⟩
theorem B1 {A B:Prop} (h:B) (f:Zh B→A:=by intro eX;refine zd ?_;refine zk ?_;refine AW.skip ?_;refine gr ?_;exact eX.o):A:=f ⟨h⟩
theorem Hw {A B:Prop} (h:B) (f:Zh B→A:=by intro eX;refine zo ?_;refine Q5 ?_;exact eX.o):A:=f ⟨h⟩
theorem N5 {A B:Prop} (h:B) (f:Zh B→A:=by intro eX;refine Q3 ?_;refine AR.K4 (by assumption) (by kernel_rfl) ?_;exact eX.o):A:=f ⟨h⟩
theorem zi {A B:Prop} (h:B) (f:Zh B→A:=by intro eX;refine a_.b_ 105 1 1 rfl rfl rfl rfl ?_;refine zb ?_;exact eX.o):A:=f ⟨h⟩
theorem OU {A B:Prop} (h:B) (f:Zh B→A:=by intro eX;refine⟨.box _ rfl ?_,?_⟩;(iterate 4 refine aA ?_);exact trivial;exact eX.o):A:=f ⟨h⟩
theorem Ot {A B:Prop} (h:B) (f:Zh B→A:=by intro eX;refine AW.Bt rfl rfl ?_;refine AW.exit ?_;(iterate 2 refine pF ?_);refine mj ?_;exact eX.o):A:=f ⟨h⟩
theorem Q42 {A:Prop} (h:A:=by exact e_ rfl (by(refine⟨.d_ (by first|rfl|simp [fg]),?_⟩;refine⟨.d_ (by first|rfl|simp [fg]),?_⟩;(iterate 6 refine aA ?_);exact trivial)) (by(refine⟨.box _ rfl ?_,?_⟩;refine⟨.d_ (by first|rfl|simp [fg]),?_⟩;refine⟨.nc (by first|rfl|simp [fg]) rfl rfl,?_⟩;exact trivial;refine⟨.jv rfl,?_⟩;refine⟨.box _ rfl ?_,?_⟩;refine aA ?_;exact trivial;refine⟨.loop rfl,?_⟩;refine⟨.box _ rfl ?_,?_⟩;refine⟨.fb (by first|rfl|simp [fg]),?_⟩;exact trivial;refine⟨.box _ rfl ?_,?_⟩;refine⟨.d_ (by first|rfl|simp [fg]),?_⟩;exact trivial;refine⟨.box _ rfl ?_,?_⟩;refine⟨.fb (by first|rfl|simp [fg]),?_⟩;refine⟨.d_ (by first|rfl|simp [fg]),?_⟩;exact trivial;refine⟨.box _ rfl ?_,?_⟩;refine⟨.d_ (by first|rfl|simp [fg]),?_⟩;refine aA ?_;exact trivial;refine⟨.box _ rfl ?_,?_⟩;refine⟨.fb (by first|rfl|simp [fg]),?_⟩;refine⟨.d_ (by first|rfl|simp [fg]),?_⟩;(iterate 2 exact trivial))) rfl):A:=h
theorem Q43 {A B:Prop} (h:B) (f:Zh B→A:=by intro eX;refine zq ?_;refine Kw ?_;refine Kw ?_;refine Kw ?_;refine nv ?_;refine a_.Fo rfl rfl rfl rfl rfl rfl rfl ?_;refine a_.assign rfl rfl rfl ?_;exact eX.o):A:=f ⟨h⟩
theorem wL {A B:Prop} (h:B) (f:Zh B→A:=by intro eX;refine zy ?_;refine a_.gtr rfl rfl rfl rfl rfl ?_;refine zF ?_;exact eX.o):A:=f ⟨h⟩
theorem Kj {A B:Prop} (h:B) (f:Zh B→A:=by intro eX;(conv=>rhs;simp only[Nf.Zu,Nf.X3,Nf.pi0,Nf.pir,Nf.pib,Nf.pim,Nf.pit,Nf.piP,Nf.cn,Nf.nn,Nat.reduceAdd,Nat.zero_add]);exact eX.o):A:=f ⟨h⟩
theorem RG {A B:Prop} (h:B) (f:Zh B→A:=by intro eX;refine zl ?_;refine a_.b_ 61 0 0 rfl rfl rfl rfl ?_;refine zl ?_;refine a_.b_ 30 1 1 rfl rfl rfl rfl ?_;refine zl ?_;exact eX.o):A:=f ⟨h⟩
theorem j4 {A B:Prop} (h:B) (f:Zh B→A:=by intro eX;refine zL ?_;refine nz ?_;exact eX.o):A:=f ⟨h⟩
theorem Jn {A B:Prop} (h:B) (f:Zh B→A:=by intro eX;refine a_.kh rfl rfl rfl ?_;refine zd ?_;exact eX.o):A:=f ⟨h⟩
theorem rH {A B:Prop} (h:B) (f:Zh B→A:=by intro eX;refine zo ?_;refine zq ?_;refine zm ?_;exact eX.o):A:=f ⟨h⟩
theorem Tg {A B:Prop} (h:B) (f:Zh B→A:=by intro eX;refine Q7 ?_;refine gr ?_;refine Q5 ?_;exact eX.o):A:=f ⟨h⟩
theorem vz {A B:Prop} (h:B) (f:Zh B→A:=by intro eX;refine Q4 ?_;refine Hw ?_;exact eX.o):A:=f ⟨h⟩
theorem y1 {A B:Prop} (h:B) (f:Zh B→A:=by intro eX;refine a_.b_ 30 1 1 rfl rfl rfl rfl ?_;refine zb ?_;exact eX.o):A:=f ⟨h⟩
theorem Dl {A B:Prop} (h:B) (f:Zh B→A:=by intro eX;refine j7 ?_;refine iU ?_;exact eX.o):A:=f ⟨h⟩
theorem Ae {A B:Prop} (h:B) (f:Zh B→A:=by intro eX;refine AR.iz (i:=10) rfl (by kernel_rfl) rfl (by kernel_rfl) ?_;exact eX.o):A:=f ⟨h⟩
theorem Yp {A:Prop} (h:A:=by refine⟨.box _ rfl ?_,?_⟩;refine⟨.fb (by first|with_reducible rfl|(rfl)),?_⟩;exact trivial;refine Q8 ?_;refine⟨.box _ rfl ?_,?_⟩;refine⟨.fb (by first|with_reducible rfl|(rfl)),?_⟩;refine⟨.fy (by first|with_reducible rfl|(rfl)),?_⟩;refine⟨.fR (by first|with_reducible rfl|(rfl)) rfl,?_⟩;refine⟨.fy (by first|with_reducible rfl|(rfl)),?_⟩;exact trivial;(iterate 2 refine⟨.fm rfl (by first|with_reducible rfl|(rfl)),?_⟩);refine aC ?_;exact trivial):A:=h
theorem WN {A:Prop} (h:A:=by exact⟨k+1,⟨by omega,oz⟩,by omega,e_ rfl (by(refine aA ?_;(iterate 3 refine aA ?_);exact trivial)) (by(refine⟨.box _ rfl ?_,?_⟩;(iterate 2 refine aA ?_);exact trivial;refine⟨.box _ rfl ?_,?_⟩;(iterate 4 refine aA ?_);(iterate 2 exact trivial))) rfl⟩):A:=h
theorem Q57 {A:Prop} (h:A:=by exact⟨j,by omega,by omega,e_ rfl (by(refine⟨.d_ (by first|rfl|(rw[jm])),?_⟩;(iterate 4 refine aA ?_);refine⟨.d_ (by first|rfl|(rw[jm])),?_⟩;(iterate 2 refine aA ?_);exact trivial)) (by(refine⟨.box _ rfl ?_,?_⟩;refine⟨.fb (by first|rfl|(rw[jm])),?_⟩;exact trivial;refine⟨.box _ rfl ?_,?_⟩;refine⟨.d_ (by first|rfl|(rw[jm])),?_⟩;exact trivial;refine⟨.loop rfl,?_⟩;refine⟨.box _ rfl ?_,?_⟩;refine⟨.fb (by first|rfl|(rw[jm])),?_⟩;exact trivial;refine⟨.box _ rfl ?_,?_⟩;refine⟨.fb (by first|rfl|(rw[jm])),?_⟩;exact trivial;refine⟨.box _ rfl ?_,?_⟩;refine aA ?_;(iterate 2 exact trivial))) rfl⟩):A:=h
theorem Q58 {A:Prop} (h:A:=by exact⟨s+1,by omega,by omega,e_ rfl (by(refine⟨.d_ (by first|rfl|(rw[kQ])),?_⟩;refine⟨.fR (by first|rfl|(rw[kQ])) rfl,?_⟩;refine⟨.fb (by first|rfl|(rw[kQ])),?_⟩;(iterate 3 refine aA ?_);refine⟨.fb (by first|rfl|(rw[kQ])),?_⟩;exact trivial)) (by(refine aC ?_;refine⟨.box _ rfl ?_,?_⟩;refine⟨.fb (by first|rfl|(rw[kQ])),?_⟩;refine⟨.d_ (by first|rfl|(rw[kQ])),?_⟩;exact trivial;refine⟨.box _ rfl ?_,?_⟩;refine⟨.fb (by first|rfl|(rw[kQ])),?_⟩;refine⟨.fb (by first|rfl|(rw[kQ])),?_⟩;(iterate 2 refine aA ?_);(iterate 2 exact trivial))) rfl⟩):A:=h
theorem wO {A B:Prop} (h:B) (f:Zh B→A:=by intro eX;refine a_.Tv rfl rfl rfl rfl rfl rfl rfl rfl ?_;refine nz ?_;exact eX.o):A:=f ⟨h⟩
theorem zz {A B:Prop} (h:B) (f:Zh B→A:=by intro eX;refine zd ?_;refine AW.qb rfl rfl ?_;exact eX.o):A:=f ⟨h⟩
theorem mW {A B:Prop} (h:B) (f:Zh B→A:=by intro eX;refine zm ?_;refine zy ?_;exact eX.o):A:=f ⟨h⟩
theorem rN {A B:Prop} (h:B) (f:Zh B→A:=by intro eX;refine BW ?_;refine Q1 ?_;refine Q5 ?_;exact eX.o):A:=f ⟨h⟩
theorem wh {A B:Prop} (h:B) (f:Zh B→A:=by intro eX;refine zq ?_;refine Kw ?_;refine Kw ?_;exact eX.o):A:=f ⟨h⟩
theorem sO {A B:Prop} (h:B) (f:Zh B→A:=by intro eX;refine Q4 ?_;refine AW.block ?_;exact eX.o):A:=f ⟨h⟩
theorem Q65 {A:Prop} (h:A:=by refine Q3 ?_;refine AR.free 11 (by kernel_rfl) rfl rfl rfl (jx.build 105 [0,1] rfl rfl rfl rfl rfl rfl rfl rfl) ?_;(try refine nz ?_);(try refine nz ?_);refine AR.sw 18 19 (by assumption) (by kernel_rfl) (by kernel_rfl) ?_;(conv=>rhs;simp only[Nf.ZR,Nf.all,Nat.reduceBEq,reduceAdd,reduceSub]);refine AR.meet lx (by kernel_rfl) (fun g_=>e_ rfl ?_ ?_ rfl);(iterate 61 refine aA ?_);exact trivial;refine⟨.box _ rfl ?_,?_⟩;(iterate 2 refine aA ?_);exact trivial;refine aC ?_;refine⟨.loop rfl,?_⟩;refine⟨.box _ rfl ?_,?_⟩;(iterate 3 refine aA ?_);exact trivial;refine⟨.box _ rfl ?_,?_⟩;(iterate 2 refine aA ?_);exact trivial;refine Q8 ?_;refine aC ?_;refine Q8 ?_;refine⟨.box _ rfl ?_,?_⟩;(iterate 2 refine aA ?_);exact trivial;refine OU ?_;refine⟨.Wv _ _ rfl,?_⟩;refine Q8 ?_;exact OG):A:=h
theorem Q66 {A:Prop} (h:A:=by exact⟨k+1,by omega,by omega,e_ rfl (by(refine⟨.d_ (by first|rfl|(rw[hs])),?_⟩;refine⟨.fR (by first|rfl|(rw[hs])) rfl,?_⟩;refine⟨.fb (by first|rfl|(rw[hs])),?_⟩;(iterate 3 refine aA ?_);refine⟨.fb (by first|rfl|(rw[hs])),?_⟩;exact trivial)) (by(refine aC ?_;refine⟨.box _ rfl ?_,?_⟩;refine⟨.fb (by first|rfl|(rw[hs])),?_⟩;refine⟨.d_ (by first|rfl|(rw[hs])),?_⟩;exact trivial;refine⟨.box _ rfl ?_,?_⟩;refine⟨.fb (by first|rfl|(rw[hs])),?_⟩;refine⟨.fb (by first|rfl|(rw[hs])),?_⟩;(iterate 2 refine aA ?_);(iterate 2 exact trivial))) rfl⟩):A:=h
theorem E6 {A B:Prop} (h:B) (f:Zh B→A:=by intro eX;refine a_.b_ 105 0 0 rfl rfl rfl rfl ?_;refine zb ?_;exact eX.o):A:=f ⟨h⟩
theorem Q68 {A:Prop} (h:A:=by exact⟨k+1,by omega,by omega,e_ rfl (by(refine⟨.d_ (by first|rfl|(rw[hs])),?_⟩;refine⟨.d_ (by first|rfl|(rw[hs])),?_⟩;refine aA ?_;exact trivial)) (by(refine⟨.box _ rfl ?_,?_⟩;refine⟨.fb (by first|rfl|(rw[hs])),?_⟩;refine⟨.fb (by first|rfl|(rw[hs])),?_⟩;(iterate 2 refine aA ?_);refine⟨.fb (by first|rfl|(rw[hs])),?_⟩;refine⟨.d_ (by first|rfl|(rw[hs])),?_⟩;refine⟨.fb (by first|rfl|(rw[hs])),?_⟩;refine⟨.d_ (by first|rfl|(rw[hs])),?_⟩;refine⟨.d_ (by first|rfl|(rw[hs])),?_⟩;(iterate 2 exact trivial))) rfl⟩):A:=h
theorem GW {A B:Prop} (h:B) (f:Zh B→A:=by intro eX;refine a_.gk rfl rfl rfl ?_;refine Jn ?_;refine AW.ret ?_;exact eX.o):A:=f ⟨h⟩
theorem KX {A B:Prop} (h:B) (f:Zh B→A:=by intro eX;refine a_.b_ 35 1 4 rfl rfl rfl rfl ?_;refine BI ?_;exact eX.o):A:=f ⟨h⟩
theorem vT {A B:Prop} (h:B) (f:Zh B→A:=by intro eX;refine vP ?_;refine nz ?_;refine zj ?_;refine zm ?_;refine zd ?_;exact eX.o):A:=f ⟨h⟩
theorem Xr {A B:Prop} (h:B) (f:Zh B→A:=by intro eX;refine Xp ?_;refine zy ?_;refine mW ?_;refine a_.eql rfl rfl rfl rfl rfl ?_;refine zF ?_;refine mW ?_;refine mW ?_;refine mW ?_;refine zA (hn) ?_;refine zy ?_;refine a_.eql rfl rfl rfl rfl rfl ?_;refine zF ?_;refine Q4 ?_;exact eX.o):A:=f ⟨h⟩
theorem Uo {A B:Prop} (h:B) (f:Zh B→A:=by intro eX;refine zo ?_;refine zq ?_;(iterate 2 refine zm ?_);exact eX.o):A:=f ⟨h⟩
theorem Q74 {A:Prop} (h:A:=by exact⟨x+1,by omega,by omega,e_ rfl (by(refine⟨.d_ (by first|rfl|(rw[uq])),?_⟩;refine⟨.fR (by first|rfl|(rw[uq])) rfl,?_⟩;refine⟨.d_ (by first|rfl|(rw[uq])),?_⟩;refine⟨.d_ (by first|rfl|(rw[uq])),?_⟩;refine⟨.fb (by first|rfl|(rw[uq])),?_⟩;refine⟨.d_ (by first|rfl|(rw[uq])),?_⟩;(iterate 2 refine aA ?_);exact trivial)) (by(refine aC ?_;refine⟨.box _ rfl ?_,?_⟩;refine⟨.fb (by first|rfl|(rw[uq])),?_⟩;refine⟨.d_ (by first|rfl|(rw[uq])),?_⟩;(iterate 2 exact trivial))) rfl⟩):A:=h
theorem Xf {A B:Prop} (h:B) (f:Zh B→A:=by intro eX;(conv=>rhs;simp only[gcE,kO0,kO1,DX,w7,Nat.reduceBEq,cond_true,cond_false]);exact eX.o):A:=f ⟨h⟩
theorem VQ {A B:Prop} (h:B) (f:Zh B→A:=by intro eX;refine gX.cons ?_ ?_;exact Le.pv _;refine gX.cons ?_ ?_;exact Le.pv _;exact eX.o):A:=f ⟨h⟩
theorem UD {A:Prop} (h:A:=by exact e_ rfl (by(refine aA ?_;(iterate 3 refine aA ?_);exact trivial)) (by(refine⟨.box _ rfl ?_,?_⟩;(iterate 2 refine aA ?_);(iterate 2 exact trivial))) rfl):A:=h
theorem yy {A B:Prop} (h:B) (f:Zh B→A:=by intro eX;refine zn ?_;refine zs ?_;exact eX.o):A:=f ⟨h⟩
theorem Tt {A B:Prop} (h:B) (f:Zh B→A:=by intro eX;refine a_.kh rfl rfl rfl ?_;refine a_.nil ?_;exact eX.o):A:=f ⟨h⟩
theorem Yr {A:Prop} (h:A:=by exact e_ rfl (by(first|(refine aA ?_;(iterate 9 refine aA ?_);exact trivial)|(refine aA ?_;(iterate 5 refine aA ?_);exact trivial))) (by(refine⟨.box _ rfl ?_,?_⟩;(iterate 4 refine aA ?_);exact trivial;refine⟨.box _ rfl ?_,?_⟩;(iterate 4 refine aA ?_);(iterate 2 exact trivial))) rfl):A:=h
theorem J4 {A B:Prop} (h:B) (f:Zh B→A:=by intro eX;refine a_.b_ 27 1 1 rfl rfl rfl rfl ?_;refine zb ?_;exact eX.o):A:=f ⟨h⟩
theorem EC {A B:Prop} (h:B) (f:Zh B→A:=by intro eX;refine AR.iz (i:=9) rfl (by kernel_rfl) rfl (by kernel_rfl) ?_;exact eX.o):A:=f ⟨h⟩
theorem Jp {A B:Prop} (h:B) (f:Zh B→A:=by intro eX;refine a_.BH rfl rfl rfl rfl ?_;refine nz ?_;refine pZ ?_;refine zB ?_;refine nz ?_;refine zd ?_;exact eX.o):A:=f ⟨h⟩
theorem Mm {A B:Prop} (h:B) (f:Zh B→A:=by intro eX;refine zm ?_;(iterate 2 refine a_.kR rfl rfl rfl rfl rfl rfl (by first|omega|decide) ?_);refine zF ?_;exact eX.o):A:=f ⟨h⟩
theorem Yw {A B:Prop} (h:B) (f:Zh B→A:=by intro eX;refine zj ?_;refine Q4 ?_;refine zq ?_;refine Q0 ?_;refine a_.move rfl rfl rfl ?_;refine Q0 ?_;(iterate 2 refine zm ?_);refine a_.qB 147 0 1 0 rfl rfl (by kernel_rfl) rfl rfl rfl rfl ?_;refine Q0 ?_;refine zb ?_;refine a_.qB 147 1 1 1 rfl rfl (by kernel_rfl) rfl rfl rfl rfl ?_;refine Q0 ?_;refine zb ?_;refine a_.iW 118 [0,1,2,3] rfl rfl rfl rfl rfl rfl rfl rfl rfl ?_;refine Q0 ?_;exact eX.o):A:=f ⟨h⟩
theorem Ty {A B:Prop} (h:B) (f:Zh B→A:=by intro eX;refine kl ?_;(iterate 2 refine iU ?_);(iterate 2 refine kl ?_);(iterate 2 refine iU ?_);refine kl ?_;refine iU ?_;exact eX.o):A:=f ⟨h⟩
theorem MR {A B:Prop} (h:B) (f:Zh B→A:=by intro eX;refine a_.kv rfl rfl rfl rfl rfl rfl ?_;refine zz ?_;refine Q5 ?_;refine Dl ?_;exact eX.o):A:=f ⟨h⟩
theorem P6 {A B:Prop} (h:B) (f:Zh B→A:=by intro eX;refine zn ?_;refine a_.eql rfl rfl rfl rfl rfl ?_;exact eX.o):A:=f ⟨h⟩
theorem Zf {A B:Prop} (h:B) (f:Zh B→A:=by intro eX;refine⟨.fb (by first|with_reducible rfl|(rfl)),?_⟩;refine⟨.fy (by first|with_reducible rfl|(rfl)),?_⟩;(iterate 2 refine⟨.fb (by first|with_reducible rfl|(rfl)),?_⟩);(iterate 2 refine⟨.fy (by first|with_reducible rfl|(rfl)),?_⟩);(iterate 2 refine⟨.fb (by first|with_reducible rfl|(rfl)),?_⟩);exact eX.o):A:=f ⟨h⟩
theorem YV {A B:Prop} (h:B) (f:Zh B→A:=by intro eX;refine a_.b_ 30 0 0 rfl rfl rfl rfl ?_;(iterate 2 refine zb ?_);exact eX.o):A:=f ⟨h⟩
theorem sF {A B:Prop} (h:B) (f:Zh B→A:=by intro eX;refine Q3 ?_;(try refine nz ?_);exact eX.o):A:=f ⟨h⟩
theorem Tw {A B:Prop} (h:B) (f:Zh B→A:=by intro eX;refine AW.ie [0,1,2,3,4,5,6] [10] rfl (by assumption) (by kernel_rfl) (by kernel_rfl) rfl ?_;exact eX.o):A:=f ⟨h⟩
theorem uj {A B:Prop} (h:B) (f:Zh B→A:=by intro eX;refine zn ?_;refine zm ?_;refine zd ?_;refine AW.block ?_;exact eX.o):A:=f ⟨h⟩
theorem BY {A B:Prop} (h:B) (f:Zh B→A:=by intro eX;refine AW.region ?_;refine nz ?_;refine a_.gk rfl rfl rfl ?_;exact eX.o):A:=f ⟨h⟩
theorem TI {A B:Prop} (h:B) (f:Zh B→A:=by intro eX;refine a_.b_ 87 0 0 rfl rfl rfl rfl ?_;refine zb ?_;refine a_.eql rfl rfl rfl rfl rfl ?_;exact eX.o):A:=f ⟨h⟩
theorem PJ {A B:Prop} (h:B) (f:Zh B→A:=by intro eX;(iterate 5 refine a_.kR rfl rfl rfl rfl rfl rfl (by with_reducible assumption) ?_);refine zF ?_;exact eX.o):A:=f ⟨h⟩
theorem JF {A B:Prop} (h:B) (f:Zh B→A:=by intro eX;refine AR.K4 (by assumption) (by kernel_rfl) ?_;refine gr ?_;exact eX.o):A:=f ⟨h⟩
theorem W4 {A:Prop} (h:A:=by exact e_ rfl (by(refine aA ?_;(iterate 2 refine aA ?_);exact trivial)) (by(refine⟨.box _ rfl ?_,?_⟩;(iterate 2 refine aA ?_);(iterate 2 exact trivial))) rfl):A:=h
theorem PH {A B:Prop} (h:B) (f:Zh B→A:=by intro eX;refine a_.b_ 30 0 0 rfl rfl rfl rfl ?_;refine x9 ?_;exact eX.o):A:=f ⟨h⟩
theorem Dr {A B:Prop} (h:B) (f:Zh B→A:=by intro eX;refine Q0 ?_;refine Q3 ?_;refine AR.iz (i:=11) rfl (by kernel_rfl) rfl (by kernel_rfl) ?_;exact eX.o):A:=f ⟨h⟩
theorem L7 {A B:Prop} (h:B) (f:Zh B→A:=by intro eX;refine wh ?_;refine nv ?_;refine a_.b_ 61 0 0 rfl rfl rfl rfl ?_;refine BI ?_;refine a_.b_ 61 0 0 rfl rfl rfl rfl ?_;refine BI ?_;exact eX.o):A:=f ⟨h⟩
theorem OJ {A:Prop} (h:A:=by refine OU ?_;refine OU ?_;refine⟨.box _ rfl ?_,?_⟩;(iterate 9 refine aA ?_);(iterate 2 exact trivial)):A:=h
theorem lV {A B:Prop} (h:B) (f:Zh B→A:=by intro eX;refine zq ?_;refine Kw ?_;exact eX.o):A:=f ⟨h⟩
theorem U2 {A:Prop} (h:A:=by exact e_ rfl (by(first|(refine aA ?_;(iterate 7 refine aA ?_);exact trivial)|(refine aA ?_;(iterate 6 refine aA ?_);exact trivial)|(refine aA ?_;refine⟨.freeze rfl,?_⟩;(iterate 3 refine aA ?_);exact trivial))) (by(first|(refine aC ?_;refine⟨.box _ rfl ?_,?_⟩;(iterate 2 refine aA ?_);(iterate 2 exact trivial))|(refine⟨.box _ rfl ?_,?_⟩;(iterate 2 refine aA ?_);(iterate 2 exact trivial)))) rfl):A:=h
theorem vj {A B:Prop} (h:B) (f:Zh B→A:=by intro eX;refine a_.not rfl rfl rfl ?_;refine zd ?_;refine WR ?_;exact eX.o):A:=f ⟨h⟩
theorem T_ {A B:Prop} (h:B) (f:Zh B→A:=by intro eX;refine yn ?_;refine Q1 ?_;refine Q5 ?_;refine j4 ?_;refine zm ?_;refine zA (s1) ?_;refine nv ?_;refine zm ?_;refine a_.geq rfl rfl rfl rfl rfl ?_;refine Gl ?_;refine a_.b_ 27 0 0 rfl rfl rfl rfl ?_;refine zt ?_;refine zb ?_;refine zt ?_;refine zn ?_;refine zt ?_;refine zs ?_;refine zT ?_;refine zm ?_;exact eX.o):A:=f ⟨h⟩
theorem lN {A B:Prop} (h:B) (f:Zh B→A:=by intro eX;refine zB ?_;refine nz ?_;exact eX.o):A:=f ⟨h⟩
theorem Zx {A B:Prop} (h:B) (f:Zh B→A:=by intro eX;refine a_.kh rfl rfl rfl ?_;refine N5 ?_;refine vP ?_;refine Q0 ?_;refine zj ?_;exact eX.o):A:=f ⟨h⟩
theorem Fx {A:Prop} (h:A:=by refine⟨.fy (by first|with_reducible rfl|(rfl)),?_⟩;refine aA ?_;exact trivial):A:=h
theorem Uw {A B:Prop} (h:B) (f:Zh B→A:=by intro eX;refine a_.Ic rfl rfl rfl rfl rfl rfl rfl (by omega) (by omega) ?_;exact eX.o):A:=f ⟨h⟩
theorem Vr {A:Prop} (h:A:=by exact⟨k+1,by omega,by omega,e_ rfl (by(refine⟨.d_ (by first|rfl|exact ha.symm|exact ha),?_⟩;(iterate 2 refine⟨.d_ (by first|rfl|exact ha.symm|exact ha),?_⟩);refine⟨.fR (by first|rfl|exact ha.symm|exact ha) rfl,?_⟩;refine aA ?_;refine⟨.fb (by first|rfl|exact ha.symm|exact ha),?_⟩;exact trivial)) (by(refine aC ?_;exact trivial)) rfl⟩):A:=h
theorem Pb {A B:Prop} (h:B) (f:Zh B→A:=by intro eX;refine a_.qB 147 0 1 0 rfl rfl (by kernel_rfl) rfl rfl rfl rfl ?_;exact eX.o):A:=f ⟨h⟩
theorem xD {A B:Prop} (h:B) (f:Zh B→A:=by intro eX;refine nz ?_;refine Q43 ?_;refine nz ?_;refine zd ?_;refine AW.ret ?_;refine pV rfl rfl ?_;refine nz ?_;exact eX.o):A:=f ⟨h⟩
theorem rh {A B:Prop} (h:B) (f:Zh B→A:=by intro eX;refine zm ?_;refine a_.eql rfl rfl rfl rfl rfl ?_;exact eX.o):A:=f ⟨h⟩
theorem Jj {A B:Prop} (h:B) (f:Zh B→A:=by intro eX;refine a_.b_ 27 0 0 rfl rfl rfl rfl ?_;refine x9 ?_;refine zn ?_;exact eX.o):A:=f ⟨h⟩
theorem vV {A B:Prop} (h:B) (f:Zh B→A:=by intro eX;refine zy ?_;refine a_.geq rfl rfl rfl rfl rfl ?_;refine zF ?_;exact eX.o):A:=f ⟨h⟩
theorem wc {A B:Prop} (h:B) (f:Zh B→A:=by intro eX;refine zt ?_;refine zb ?_;refine zt ?_;exact eX.o):A:=f ⟨h⟩
theorem nQ {A B:Prop} (h:B) (f:Zh B→A:=by intro eX;refine zq ?_;refine nv ?_;exact eX.o):A:=f ⟨h⟩
theorem G_ {A:Prop} (h:A:=by refine⟨.box _ rfl ?_,?_⟩;refine⟨.fb (by first|with_reducible rfl|(rfl)),?_⟩;(iterate 2 exact trivial)):A:=h
theorem HB {A B:Prop} (h:B) (f:Zh B→A:=by intro eX;refine Q3 ?_;refine AR.free 8 (by kernel_rfl) rfl rfl rfl (jx.build 105 [0,1] rfl rfl rfl rfl rfl rfl rfl rfl) ?_;exact eX.o):A:=f ⟨h⟩
theorem Vs {A:Prop} (h:A:=by exact e_ rfl (by(first|(refine aA ?_;refine⟨.lU _ _ _ rfl rfl,?_⟩;(iterate 8 refine aA ?_);exact trivial)|(refine aA ?_;(iterate 9 refine aA ?_);exact trivial))) (by(first|(refine⟨.jv rfl,?_⟩;refine⟨.box _ rfl ?_,?_⟩;(iterate 9 refine aA ?_);(iterate 2 exact trivial))|(refine aC ?_;refine⟨.box _ rfl ?_,?_⟩;(iterate 9 refine aA ?_);(iterate 2 exact trivial)))) rfl):A:=h
theorem C0 {A B:Prop} (h:B) (f:Zh B→A:=by intro eX;refine Jn ?_;refine Q5 ?_;refine a_.gk rfl rfl rfl ?_;exact eX.o):A:=f ⟨h⟩
theorem IV {A B:Prop} (h:B) (f:Zh B→A:=by intro eX;refine a_.j_ rfl rfl rfl ?_;refine a_.kr rfl rfl rfl ?_;exact eX.o):A:=f ⟨h⟩
theorem Y2 {A B:Prop} (h:B) (f:Zh B→A:=by intro eX;refine zk ?_;refine AW.skip ?_;refine uk ?_;exact eX.o):A:=f ⟨h⟩
theorem nD {A B:Prop} (h:B) (f:Zh B→A:=by intro eX;refine zd ?_;refine zc ?_;refine Q5 ?_;exact eX.o):A:=f ⟨h⟩
theorem qh {A B:Prop} (h:B) (f:Zh B→A:=by intro eX;refine a_.kv rfl rfl rfl rfl rfl rfl ?_;refine zm ?_;exact eX.o):A:=f ⟨h⟩
theorem uF {A B:Prop} (h:B) (f:Zh B→A:=by intro eX;refine a_.BH rfl rfl rfl rfl ?_;refine nz ?_;exact eX.o):A:=f ⟨h⟩
theorem Kl {A B:Prop} (h:B) (f:Zh B→A:=by intro eX;refine wh ?_;refine vz ?_;refine a_.b_ 27 0 0 rfl rfl rfl rfl ?_;refine zb ?_;exact eX.o):A:=f ⟨h⟩
theorem G6 {A B:Prop} (h:B) (f:Zh B→A:=by intro eX;refine mW ?_;refine a_.b_ 27 1 1 rfl rfl rfl rfl ?_;refine x9 ?_;exact eX.o):A:=f ⟨h⟩
theorem El {A B:Prop} (h:B) (f:Zh B→A:=by intro eX;refine zn ?_;refine a_.neq rfl rfl rfl rfl rfl ?_;exact eX.o):A:=f ⟨h⟩
theorem B_ {A B:Prop} (h:B) (f:Zh B→A:=by intro eX;refine a_.Gv rfl rfl rfl rfl rfl rfl rfl rfl rfl ?_;refine Q0 ?_;refine Q3 ?_;exact eX.o):A:=f ⟨h⟩
theorem DG {A B:Prop} (h:B) (f:Zh B→A:=by intro eX;refine a_.Zn rfl rfl rfl rfl rfl rfl rfl rfl rfl rfl rfl ?_;exact eX.o):A:=f ⟨h⟩
theorem LI {A B:Prop} (h:B) (f:Zh B→A:=by intro eX;refine a_.Ef rfl rfl rfl rfl rfl (by omega) ?_;refine a_.eql rfl rfl rfl rfl rfl ?_;refine a_.Zq rfl rfl rfl rfl rfl rfl ?_;exact eX.o):A:=f ⟨h⟩
theorem KO {A B:Prop} (h:B) (f:Zh B→A:=by intro eX;refine a_.J7 rfl rfl rfl rfl rfl (by omega) ?_;refine a_.rm rfl rfl rfl rfl rfl rfl rfl (by omega) (by omega) ?_;exact eX.o):A:=f ⟨h⟩
theorem A2 {A B:Prop} (h:B) (f:Zh B→A:=by intro eX;refine j7 ?_;refine jG rfl rfl ?_;exact eX.o):A:=f ⟨h⟩
theorem MU {A B:Prop} (h:B) (f:Zh B→A:=by intro eX;refine Q1 ?_;refine zo ?_;refine AW.ie [0,1,2,5,7,8] [9] rfl (by assumption) (by kernel_rfl) (by kernel_rfl) rfl ?_;exact eX.o):A:=f ⟨h⟩
theorem LJ {A B:Prop} (h:B) (f:Zh B→A:=by intro eX;refine Uo ?_;refine a_.J7 rfl rfl rfl rfl rfl (by omega) ?_;refine a_.leq rfl rfl rfl rfl rfl ?_;refine zd ?_;refine Q1 ?_;refine Q5 ?_;refine a_.b_ 44 0 0 rfl rfl rfl rfl ?_;refine zb ?_;refine zm ?_;exact eX.o):A:=f ⟨h⟩
theorem ux {A B:Prop} (h:B) (f:Zh B→A:=by intro eX;refine a_.LY rfl rfl rfl rfl rfl rfl rfl rfl rfl rfl ?_;refine nz ?_;exact eX.o):A:=f ⟨h⟩
theorem Vv {A B:Prop} (h:B) (f:Zh B→A:=by intro eX;refine zl ?_;refine a_.eql rfl rfl rfl rfl rfl ?_;refine qh ?_;refine zt ?_;refine a_.b_ 61 2 3 rfl rfl rfl rfl ?_;refine wc ?_;refine a_.b_ 61 2 3 rfl rfl rfl rfl ?_;refine wc ?_;refine a_.eql rfl rfl rfl rfl rfl ?_;refine zT ?_;exact eX.o):A:=f ⟨h⟩
theorem Ke {A B:Prop} (h:B) (f:Zh B→A:=by intro eX;refine a_.BH rfl rfl rfl rfl ?_;refine Q0 ?_;refine a_.wM rfl rfl rfl rfl ?_;refine Q0 ?_;refine zB ?_;refine Q0 ?_;exact eX.o):A:=f ⟨h⟩
theorem nS {A B:Prop} (h:B) (f:Zh B→A:=by intro eX;refine mW ?_;refine mW ?_;exact eX.o):A:=f ⟨h⟩
theorem yp {A B:Prop} (h:B) (f:Zh B→A:=by intro eX;refine rH ?_;refine BI ?_;refine yy ?_;exact eX.o):A:=f ⟨h⟩
theorem KS {A B:Prop} (h:B) (f:Zh B→A:=by intro eX;refine zA (QP) ?_;refine Q3 ?_;refine AR.lW [4,6] (by kernel_rfl) (by kernel_rfl) (by kernel_rfl) (by kernel_rfl) ?_;exact eX.o):A:=f ⟨h⟩
theorem U5 {A B:Prop} (h:B) (f:Zh B→A:=by intro eX;(try refine nz ?_);refine AW.region ?_;exact eX.o):A:=f ⟨h⟩
theorem EW {A B:Prop} (h:B) (f:Zh B→A:=by intro eX;refine a_.b_ 35 1 4 rfl rfl rfl rfl ?_;refine zy ?_;exact eX.o):A:=f ⟨h⟩
theorem Wp {A:Prop} (h:A:=by exact⟨i+1,⟨by omega,sQ⟩,by omega,e_ rfl (by(first|(refine aA ?_;(iterate 9 refine aA ?_);exact trivial)|(refine aA ?_;(iterate 5 refine aA ?_);exact trivial))) (by(refine⟨.box _ rfl ?_,?_⟩;(iterate 4 refine aA ?_);exact trivial;refine⟨.box _ rfl ?_,?_⟩;(iterate 4 refine aA ?_);(iterate 2 exact trivial))) rfl⟩):A:=h
theorem FO {A B:Prop} (h:B) (f:Zh B→A:=by intro eX;refine AW.fG rfl rfl (by kernel_rfl) (by with_reducible assumption) ?_;exact eX.o):A:=f ⟨h⟩
theorem sU {A B:Prop} (h:B) (f:Zh B→A:=by intro eX;refine zo ?_;refine zq ?_;exact eX.o):A:=f ⟨h⟩
theorem oq {A B:Prop} (h:B) (f:Zh B→A:=by intro eX;refine zl ?_;refine zm ?_;refine zl ?_;exact eX.o):A:=f ⟨h⟩
theorem QI {A B:Prop} (h:B) (f:Zh B→A:=by intro eX;(try refine nz ?_);refine AW.block ?_;refine zq ?_;refine zb ?_;refine zj ?_;refine Q31 ?_;refine nz ?_;refine zd ?_;refine AW.region ?_;refine zb ?_;refine j4 ?_;refine zb ?_;refine a_.qW rfl rfl rfl rfl rfl (by kernel_rfl) rfl rfl rfl rfl (by with_reducible assumption) (by with_reducible assumption) ?_;refine nz ?_;refine a_.nil ?_;refine gL ?_;exact eX.o):A:=f ⟨h⟩
theorem Ie {A B:Prop} (h:B) (f:Zh B→A:=by intro eX;(iterate 2 refine a_.jM rfl rfl rfl rfl rfl rfl (by with_reducible assumption) ?_);refine zT ?_;exact eX.o):A:=f ⟨h⟩
theorem s7 {A B:Prop} (h:B) (f:Zh B→A:=by intro eX;refine yn ?_;refine Q1 ?_;refine zo ?_;exact eX.o):A:=f ⟨h⟩
theorem yN {A B:Prop} (h:B) (f:Zh B→A:=by intro eX;refine zt ?_;refine zr ?_;refine zt ?_;exact eX.o):A:=f ⟨h⟩
theorem JR {A B:Prop} (h:B) (f:Zh B→A:=by intro eX;refine lN ?_;refine j7 ?_;refine kl ?_;refine iU ?_;exact eX.o):A:=f ⟨h⟩
theorem LF {A B:Prop} (h:B) (f:Zh B→A:=by intro eX;(conv=>rhs;simp only[Nf.Zu,Nf.X3,Nf.pi0,Nf.pir,Nf.pib,Nf.pim,Nf.cn,Nf.nn,Nat.reduceAdd,Nat.zero_add]);exact eX.o):A:=f ⟨h⟩
theorem R9 {A:Prop} (h:A:=by exact e_ rfl (by(refine aA ?_;(iterate 2 refine aA ?_);exact trivial)) (by(refine⟨.box _ rfl ?_,?_⟩;(iterate 9 refine aA ?_);(iterate 2 exact trivial))) rfl):A:=h
theorem Hp {A B:Prop} (h:B) (f:Zh B→A:=by intro eX;refine AR.dd ?_;(conv=>rhs;simp only[Nf.ddR,Nf.all,Nat.reduceBEq,reduceAdd,reduceSub]);exact eX.o):A:=f ⟨h⟩
theorem Uy {A:Prop} (h:A:=by exact e_ rfl (by(first|(refine aA ?_;(iterate 4 refine aA ?_);exact trivial)|(refine aA ?_;(iterate 2 refine aA ?_);exact trivial))) (by(refine⟨.box _ rfl ?_,?_⟩;(iterate 2 refine aA ?_);exact trivial;refine⟨.box _ rfl ?_,?_⟩;(iterate 4 refine aA ?_);(iterate 2 exact trivial))) rfl):A:=h
theorem tn {A B:Prop} (h:B) (f:Zh B→A:=by intro eX;refine zz ?_;refine Q5 ?_;exact eX.o):A:=f ⟨h⟩
theorem sZ {A B:Prop} (h:B) (f:Zh B→A:=by intro eX;refine N5 ?_;refine gr ?_;exact eX.o):A:=f ⟨h⟩
theorem Hr {A B:Prop} (h:B) (f:Zh B→A:=by intro eX;refine a_.ig 115 1 2 2 rfl rfl rfl rfl ?_;refine nz ?_;refine a_.ig 105 1 1 1 rfl rfl rfl rfl ?_;refine nz ?_;refine zr ?_;exact eX.o):A:=f ⟨h⟩
theorem A1 {A B:Prop} (h:B) (f:Zh B→A:=by intro eX;refine Gl ?_;refine zs ?_;refine zT ?_;refine zd ?_;refine Q1 ?_;exact eX.o):A:=f ⟨h⟩
theorem yZ {A B:Prop} (h:B) (f:Zh B→A:=by intro eX;refine a_.gtr rfl rfl rfl rfl rfl ?_;refine zm ?_;exact eX.o):A:=f ⟨h⟩
theorem CT {A B:Prop} (h:B) (f:Zh B→A:=by intro eX;refine Q7 ?_;refine ic (.inl rfl) rfl ?_;(try refine nz ?_);exact eX.o):A:=f ⟨h⟩
theorem Fk {A B:Prop} (h:B) (f:Zh B→A:=by intro eX;refine zt ?_;refine a_.sub rfl rfl rfl rfl rfl (by omega) ?_;refine zt ?_;exact eX.o):A:=f ⟨h⟩
theorem U9 {A:Prop} (h:A:=by exact⟨(j+1,y - at'[j]),⟨by show j+1≤_;omega,by show _≤y - _;omega,by show y - _≤_;omega,he⟩,by show at'.length - (j+1)<at'.length - j;omega,e_ rfl (by(refine aA ?_;(iterate 2 refine aA ?_);exact trivial)) (by(refine⟨.box _ rfl ?_,?_⟩;(iterate 2 refine aA ?_);(iterate 2 exact trivial))) rfl⟩):A:=h
theorem rX {A B:Prop} (h:B) (f:Zh B→A:=by intro eX;refine gr ?_;refine Hw ?_;exact eX.o):A:=f ⟨h⟩
theorem mw {A B:Prop} (h:B) (f:Zh B→A:=by intro eX;refine vz ?_;refine sO ?_;exact eX.o):A:=f ⟨h⟩
theorem IS {A B:Prop} (h:B) (f:Zh B→A:=by intro eX;refine zy ?_;refine a_.ig 71 2 2 1 rfl rfl rfl rfl ?_;exact eX.o):A:=f ⟨h⟩
theorem Po {A B:Prop} (h:B) (f:Zh B→A:=by intro eX;refine a_.oQ rfl rfl rfl ?_;(iterate 2 refine a_.extract rfl rfl rfl rfl ?_);exact eX.o):A:=f ⟨h⟩
theorem Rx {A B:Prop} (h:B) (f:Zh B→A:=by intro eX;refine a_.iW 105 [0] rfl rfl rfl rfl rfl rfl rfl rfl rfl ?_;exact eX.o):A:=f ⟨h⟩
theorem pN {A B:Prop} (h:B) (f:Zh B→A:=by intro eX;refine zq ?_;refine Q0 ?_;exact eX.o):A:=f ⟨h⟩
theorem BL {A B:Prop} (h:B) (f:Zh B→A:=by intro eX;refine Q5 ?_;refine Kw ?_;refine zd ?_;refine sU ?_;refine zb ?_;refine P6 ?_;exact eX.o):A:=f ⟨h⟩
theorem IG {A B:Prop} (h:B) (f:Zh B→A:=by intro eX;refine zr ?_;refine nv ?_;refine zm ?_;refine BI ?_;refine zn ?_;refine a_.sub rfl rfl rfl rfl rfl (by omega) ?_;exact eX.o):A:=f ⟨h⟩
theorem qC {A B:Prop} (h:B) (f:Zh B→A:=by intro eX;refine AW.region ?_;refine nz ?_;exact eX.o):A:=f ⟨h⟩
theorem Pl {A B:Prop} (h:B) (f:Zh B→A:=by intro eX;refine Q3 ?_;refine AR.free 6 (by kernel_rfl) rfl rfl rfl (jx.build 44 [0] rfl rfl rfl rfl rfl rfl rfl rfl) ?_;(try refine nz ?_);exact eX.o):A:=f ⟨h⟩
theorem yR {A B:Prop} (h:B) (f:Zh B→A:=by intro eX;refine y1 ?_;refine a_.gtr rfl rfl rfl rfl rfl ?_;exact eX.o):A:=f ⟨h⟩
theorem og {A B:Prop} (h:B) (f:Zh B→A:=by intro eX;refine BW ?_;refine Tg ?_;exact eX.o):A:=f ⟨h⟩
theorem L6 {A B:Prop} (h:B) (f:Zh B→A:=by intro eX;(iterate 6 refine a_.jM rfl rfl rfl rfl rfl rfl (by with_reducible assumption) ?_);refine zT ?_;exact eX.o):A:=f ⟨h⟩
theorem zf {A B:Prop} (h:B) (f:Zh B→A:=by intro eX;refine pZ ?_;refine lN ?_;exact eX.o):A:=f ⟨h⟩
theorem Du {A B:Prop} (h:B) (f:Zh B→A:=by intro eX;(iterate 4 refine a_.iP rfl rfl rfl rfl rfl rfl rfl ?_);exact eX.o):A:=f ⟨h⟩
theorem vX {A B:Prop} (h:B) (f:Zh B→A:=by intro eX;refine j4 ?_;(iterate 2 refine zm ?_);exact eX.o):A:=f ⟨h⟩
theorem y5 {A:Prop} (h:A:=by refine aC ?_;refine Q8 ?_;exact Nd):A:=h
theorem TY {A:Prop} (h:A:=by exact⟨2,by omega,by omega,e_ rfl (by(refine aA ?_;(iterate 5 refine aA ?_);exact trivial)) (by(refine⟨.box _ rfl ?_,?_⟩;(iterate 2 refine aA ?_);exact trivial;refine⟨.box _ rfl ?_,?_⟩;(iterate 2 refine aA ?_);(iterate 2 exact trivial))) rfl⟩):A:=h
theorem Np {A B:Prop} (h:B) (f:Zh B→A:=by intro eX;refine nz ?_;refine nQ ?_;refine zb ?_;refine zm ?_;refine a_.xP rfl rfl rfl rfl rfl rfl rfl rfl rfl ?_;refine a_.eql rfl rfl rfl rfl rfl ?_;refine A2 ?_;refine nz ?_;refine zd ?_;exact eX.o):A:=f ⟨h⟩
theorem JT {A B:Prop} (h:B) (f:Zh B→A:=by intro eX;refine Q3 ?_;refine AR.lW [9] (by kernel_rfl) (by kernel_rfl) (by kernel_rfl) (by kernel_rfl) ?_;exact eX.o):A:=f ⟨h⟩
theorem Bo {A B:Prop} (h:B) (f:Zh B→A:=by intro eX;(try refine nz ?_);refine AW.block ?_;exact eX.o):A:=f ⟨h⟩
theorem Wf {A B:Prop} (h:B) (f:Zh B→A:=by intro eX;refine wh ?_;refine vz ?_;refine E6 ?_;refine E6 ?_;refine a_.neq rfl rfl rfl rfl rfl ?_;refine mW ?_;refine a_.b_ 105 1 1 rfl rfl rfl rfl ?_;refine x9 ?_;refine zn ?_;refine zy ?_;refine a_.b_ 105 1 1 rfl rfl rfl rfl ?_;refine x9 ?_;refine zn ?_;refine zy ?_;refine a_.neq rfl rfl rfl rfl rfl ?_;refine zF ?_;exact eX.o):A:=f ⟨h⟩
theorem zu {A B:Prop} (h:B) (f:Zh B→A:=by intro eX;refine nv ?_;refine a_.iX rfl rfl rfl ?_;exact eX.o):A:=f ⟨h⟩
theorem Hh {A B:Prop} (h:B) (f:Zh B→A:=by intro eX;(iterate 2 refine zm ?_);refine yy ?_;refine Gl ?_;exact eX.o):A:=f ⟨h⟩
theorem xQ {A B:Prop} (h:B) (f:Zh B→A:=by intro eX;refine zt ?_;refine zs ?_;refine zT ?_;exact eX.o):A:=f ⟨h⟩
theorem Vd {A:Prop} (h:A:=by exact⟨1,by omega,by omega,e_ rfl (by(refine aA ?_;(iterate 5 refine aA ?_);exact trivial)) (by(refine⟨.box _ rfl ?_,?_⟩;(iterate 2 refine aA ?_);exact trivial;refine⟨.box _ rfl ?_,?_⟩;(iterate 2 refine aA ?_);(iterate 2 exact trivial))) rfl⟩):A:=h
theorem HG {A B:Prop} (h:B) (f:Zh B→A:=by intro eX;refine a_.box rfl rfl rfl rfl ?_;refine Q0 ?_;exact eX.o):A:=f ⟨h⟩
theorem vo {A B:Prop} (h:B) (f:Zh B→A:=by intro eX;refine Q1 ?_;refine Q5 ?_;exact eX.o):A:=f ⟨h⟩
theorem Jl {A B:Prop} (h:B) (f:Zh B→A:=by intro eX;refine pZ ?_;refine xN ?_;refine AR.gc [3,2,0] rfl ?_;refine Xf ?_;exact eX.o):A:=f ⟨h⟩
theorem US {A:Prop} (h:A:=by exact e_ rfl (by(first|(refine aA ?_;(iterate 4 refine aA ?_);exact trivial)|(refine aA ?_;(iterate 3 refine aA ?_);exact trivial))) (by(refine⟨.box _ rfl ?_,?_⟩;(iterate 2 refine aA ?_);(iterate 2 exact trivial))) rfl):A:=h
theorem UI {A B:Prop} (h:B) (f:Zh B→A:=by intro eX;refine Jp ?_;refine zq ?_;refine rh ?_;refine zm ?_;(iterate 7 refine a_.jM rfl rfl rfl rfl rfl rfl (by first|omega|decide) ?_);refine zT ?_;refine zm ?_;refine zl ?_;refine a_.move rfl rfl rfl ?_;refine nz ?_;refine oq ?_;refine Pb ?_;refine nz ?_;refine zl ?_;refine zb ?_;refine zl ?_;refine a_.qB 147 1 1 1 rfl rfl (by kernel_rfl) rfl rfl rfl rfl ?_;refine nz ?_;refine zl ?_;refine zb ?_;refine zl ?_;refine a_.iW 103 [0,1,2] rfl rfl rfl rfl rfl rfl rfl rfl rfl ?_;refine nz ?_;refine zl ?_;exact eX.o):A:=f ⟨h⟩
theorem mC {A B:Prop} (h:B) (f:Zh B→A:=by intro eX;refine zd ?_;refine WR ?_;exact eX.o):A:=f ⟨h⟩
theorem R8 {A B:Prop} (h:B) (f:Zh B→A:=by intro eX;refine mW ?_;refine a_.b_ 35 0 0 rfl rfl rfl rfl ?_;refine zy ?_;exact eX.o):A:=f ⟨h⟩
theorem RC {A B:Prop} (h:B) (f:Zh B→A:=by intro eX;refine zA (q1) ?_;refine Q3 ?_;refine AR.lW [14,15,16,17,18,19,20,21,22,23,24,25,26,27] (by kernel_rfl) (by kernel_rfl) (by kernel_rfl) (by kernel_rfl) ?_;exact eX.o):A:=f ⟨h⟩
theorem H5 {A B:Prop} (h:B) (f:Zh B→A:=by intro eX;refine gr ?_;refine Q5 ?_;exact eX.o):A:=f ⟨h⟩
theorem xE {A:Prop} (h:A:=by refine aA ?_;exact trivial):A:=h
theorem Im {A B:Prop} (h:B) (f:Zh B→A:=by intro eX;refine a_.mul rfl rfl rfl rfl rfl (by omega) ?_;refine zj ?_;exact eX.o):A:=f ⟨h⟩
theorem UN {A:Prop} (h:A:=by exact e_ rfl (by(refine aA ?_;(iterate 5 refine aA ?_);exact trivial)) (by(refine⟨.box _ rfl ?_,?_⟩;(iterate 2 refine aA ?_);exact trivial;refine⟨.box _ rfl ?_,?_⟩;(iterate 2 refine aA ?_);(iterate 2 exact trivial))) rfl):A:=h
theorem Sp {A B:Prop} (h:B) (f:Zh B→A:=by intro eX;(iterate 2 refine zo ?_);refine AW.ie [0,1,2,3,4,5,6,7,8,9,10,11,12,13,14] [] rfl (by assumption) (by kernel_rfl) (by kernel_rfl) rfl ?_;exact eX.o):A:=f ⟨h⟩
theorem Pe {A B:Prop} (h:B) (f:Zh B→A:=by intro eX;refine vy ?_;refine a_.not rfl rfl rfl ?_;refine a_.E8 rfl rfl (by assumption) rfl rfl rfl rfl ?_;exact eX.o):A:=f ⟨h⟩
theorem oC {A B:Prop} (h:B) (f:Zh B→A:=by intro eX;refine j7 ?_;refine JA ?_;exact eX.o):A:=f ⟨h⟩
theorem MW {A B:Prop} (h:B) (f:Zh B→A:=by intro eX;refine⟨.fy (by first|rfl|exact ij _),?_⟩;exact eX.o):A:=f ⟨h⟩
theorem rS {A B:Prop} (h:B) (f:Zh B→A:=by intro eX;refine zm ?_;refine zj ?_;refine Q4 ?_;exact eX.o):A:=f ⟨h⟩
theorem Il {A B:Prop} (h:B) (f:Zh B→A:=by intro eX;refine uF ?_;refine pZ ?_;refine za ?_;refine lN ?_;refine zd ?_;refine zq ?_;(iterate 2 refine zm ?_);exact eX.o):A:=f ⟨h⟩
theorem JM {A B:Prop} (h:B) (f:Zh B→A:=by intro eX;refine nz ?_;refine a_.geq rfl rfl rfl rfl rfl ?_;refine A2 ?_;refine nz ?_;refine a_.X2 rfl rfl rfl ?_;refine j7 ?_;exact eX.o):A:=f ⟨h⟩
theorem UP {A B:Prop} (h:B) (f:Zh B→A:=by intro eX;refine a_.b_ 118 1 1 rfl rfl rfl rfl ?_;refine zb ?_;refine yZ ?_;refine x9 ?_;refine a_.kr rfl rfl rfl ?_;refine zy ?_;refine a_.b_ 158 1 2 rfl rfl rfl rfl ?_;refine zy ?_;refine a_.b_ 27 1 1 rfl rfl rfl rfl ?_;refine x9 ?_;refine a_.b_ 118 2 2 rfl rfl rfl rfl ?_;refine x9 ?_;exact eX.o):A:=f ⟨h⟩
theorem Sx {A:Prop} (h:A:=by refine⟨.fm rfl rfl,?_⟩;refine Q8 ?_;refine OU ?_;refine Q8 ?_;refine OU ?_;refine⟨.fm rfl rfl,?_⟩;refine aC ?_;exact trivial):A:=h
theorem H9 {A B:Prop} (h:B) (f:Zh B→A:=by intro eX;(iterate 2 refine gL ?_);refine gr ?_;refine AW.region ?_;exact eX.o):A:=f ⟨h⟩
theorem Ld {A B:Prop} (h:B) (f:Zh B→A:=by intro eX;refine Q3 ?_;refine AR.iz (i:=7) rfl (by kernel_rfl) rfl (by kernel_rfl) ?_;exact eX.o):A:=f ⟨h⟩
theorem Kh {A B:Prop} (h:B) (f:Zh B→A:=by intro eX;refine⟨.fb (by first|rfl|exact ij _),?_⟩;exact eX.o):A:=f ⟨h⟩
theorem HQ {A B:Prop} (h:B) (f:Zh B→A:=by intro eX;refine AR.iz (i:=6) rfl (by kernel_rfl) rfl (by kernel_rfl) ?_;exact eX.o):A:=f ⟨h⟩
theorem CY {A B:Prop} (h:B) (f:Zh B→A:=by intro eX;refine zl ?_;refine a_.not rfl rfl rfl ?_;exact eX.o):A:=f ⟨h⟩
theorem DF {A B:Prop} (h:B) (f:Zh B→A:=by intro eX;refine zn ?_;refine a_.leq rfl rfl rfl rfl rfl ?_;exact eX.o):A:=f ⟨h⟩
theorem E0 {A B:Prop} (h:B) (f:Zh B→A:=by intro eX;refine rH ?_;refine zi ?_;refine yy ?_;exact eX.o):A:=f ⟨h⟩
theorem lM {A B:Prop} (h:B) (f:Zh B→A:=by intro eX;refine vz ?_;refine zm ?_;exact eX.o):A:=f ⟨h⟩
theorem vQ {A B:Prop} (h:B) (f:Zh B→A:=by intro eX;refine zr ?_;refine zj ?_;refine zs ?_;refine zd ?_;exact eX.o):A:=f ⟨h⟩
theorem Dn {A B:Prop} (h:B) (f:Zh B→A:=by intro eX;refine a_.Y5 rfl rfl ?_;refine nz ?_;exact eX.o):A:=f ⟨h⟩
theorem UX {A B:Prop} (h:B) (f:Zh B→A:=by intro eX;refine yZ ?_;refine zt ?_;refine a_.j_ rfl rfl rfl ?_;refine zt ?_;refine a_.kr rfl rfl rfl ?_;refine zt ?_;refine a_.b_ 158 1 2 rfl rfl rfl rfl ?_;refine zt ?_;refine a_.b_ 27 1 1 rfl rfl rfl rfl ?_;refine wc ?_;refine Pb ?_;refine Q0 ?_;refine wc ?_;exact eX.o):A:=f ⟨h⟩
theorem Es {A B:Prop} (h:B) (f:Zh B→A:=by intro eX;refine a_.b_ 71 1 1 rfl rfl rfl rfl ?_;refine zb ?_;exact eX.o):A:=f ⟨h⟩
theorem QM {A B:Prop} (h:B) (f:Zh B→A:=by intro eX;refine rH ?_;refine a_.geq rfl rfl rfl rfl rfl ?_;refine zz ?_;refine AW.skip ?_;refine gr ?_;refine zo ?_;refine AW.block ?_;refine Q5 ?_;exact eX.o):A:=f ⟨h⟩
theorem LA {A B:Prop} (h:B) (f:Zh B→A:=by intro eX;refine wO ?_;refine Q3 ?_;refine AR.fI (i:=8) rfl (by kernel_rfl) rfl ?_;exact eX.o):A:=f ⟨h⟩
theorem K7 {A B:Prop} (h:B) (f:Zh B→A:=by intro eX;refine AR.K4 (by assumption) (by kernel_rfl) ?_;refine vP ?_;refine rS ?_;exact eX.o):A:=f ⟨h⟩
theorem ES {A B:Prop} (h:B) (f:Zh B→A:=by intro eX;refine zy ?_;refine a_.not rfl rfl rfl ?_;refine zF ?_;exact eX.o):A:=f ⟨h⟩
theorem NJ {A B:Prop} (h:B) (f:Zh B→A:=by intro eX;(iterate 4 refine a_.jM rfl rfl rfl rfl rfl rfl (by first|omega|decide) ?_);refine zT ?_;exact eX.o):A:=f ⟨h⟩
theorem Hv {A B:Prop} (h:B) (f:Zh B→A:=by intro eX;refine a_.b_ 105 0 0 rfl rfl rfl rfl ?_;refine x9 ?_;exact eX.o):A:=f ⟨h⟩
theorem I2 {A B:Prop} (h:B) (f:Zh B→A:=by intro eX;refine AW.exit ?_;refine pF ?_;refine mj ?_;exact eX.o):A:=f ⟨h⟩
theorem Vk {A B:Prop} (h:B) (f:Zh B→A:=by intro eX;refine IS ?_;refine nz ?_;refine zy ?_;refine zr ?_;refine zF ?_;refine zm ?_;refine vy ?_;refine a_.move rfl rfl rfl ?_;refine nz ?_;refine vy ?_;refine zm ?_;refine vy ?_;refine Pb ?_;refine nz ?_;refine vy ?_;refine zb ?_;refine vy ?_;refine a_.qB 147 1 1 1 rfl rfl (by kernel_rfl) rfl rfl rfl rfl ?_;refine nz ?_;refine vy ?_;refine zb ?_;refine vy ?_;refine a_.iW 103 [0,1,2] rfl rfl rfl rfl rfl rfl rfl rfl rfl ?_;refine nz ?_;refine vy ?_;exact eX.o):A:=f ⟨h⟩
theorem qu {A B:Prop} (h:B) (f:Zh B→A:=by intro eX;refine zd ?_;refine AW.ret ?_;exact eX.o):A:=f ⟨h⟩
theorem OC {A B:Prop} (h:B) (f:Zh B→A:=by intro eX;refine mC ?_;refine gr ?_;refine pN ?_;refine a_.M9 rfl rfl rfl rfl rfl ?_;refine Q0 ?_;exact eX.o):A:=f ⟨h⟩
theorem Tc {A B:Prop} (h:B) (f:Zh B→A:=by intro eX;refine zl ?_;refine zA (h4) ?_;refine Q3 ?_;refine AR.lW [6,7,8,9,11] (by kernel_rfl) (by kernel_rfl) (by kernel_rfl) (by kernel_rfl) ?_;exact eX.o):A:=f ⟨h⟩
theorem R6 {A B:Prop} (h:B) (f:Zh B→A:=by intro eX;refine lN ?_;refine sZ ?_;refine zo ?_;refine AW.ie [0,1,2,3,4] [] rfl (by assumption) (by kernel_rfl) (by kernel_rfl) rfl ?_;exact eX.o):A:=f ⟨h⟩
theorem IM {A B:Prop} (h:B) (f:Zh B→A:=by intro eX;refine a_.b_ 30 1 1 rfl rfl rfl rfl ?_;refine x9 ?_;exact eX.o):A:=f ⟨h⟩
theorem uC {A B:Prop} (h:B) (f:Zh B→A:=by intro eX;refine za ?_;refine a_.nil ?_;exact eX.o):A:=f ⟨h⟩
theorem HD {A B:Prop} (h:B) (f:Zh B→A:=by intro eX;refine⟨.d_ (by first|with_reducible rfl|(rfl)),?_⟩;exact eX.o):A:=f ⟨h⟩
theorem Bl {A B:Prop} (h:B) (f:Zh B→A:=by intro eX;refine qC ?_;(iterate 2 refine zm ?_);exact eX.o):A:=f ⟨h⟩
theorem SP {A B:Prop} (h:B) (f:Zh B→A:=by intro eX;refine s7 ?_;refine AW.ie [0,1,2,3,4,5,6,7,8,9,10,11] [] rfl (by assumption) (by kernel_rfl) (by kernel_rfl) rfl ?_;exact eX.o):A:=f ⟨h⟩
theorem Rq {A B:Prop} (h:B) (f:Zh B→A:=by intro eX;(iterate 5 refine a_.jM rfl rfl rfl rfl rfl rfl (by with_reducible assumption) ?_);refine zT ?_;refine tn ?_;refine Dl ?_;exact eX.o):A:=f ⟨h⟩
theorem Yu {A B:Prop} (h:B) (f:Zh B→A:=by intro eX;refine rH ?_;refine KX ?_;refine yy ?_;refine A1 ?_;refine Q5 ?_;exact eX.o):A:=f ⟨h⟩
theorem y6 {A B:Prop} (h:B) (f:Zh B→A:=by intro eX;refine zm ?_;refine a_.sub rfl rfl rfl rfl rfl (by omega) ?_;exact eX.o):A:=f ⟨h⟩
theorem E3 {A B:Prop} (h:B) (f:Zh B→A:=by intro eX;refine a_.ig 71 1 1 1 rfl rfl rfl rfl ?_;refine nz ?_;refine zr ?_;exact eX.o):A:=f ⟨h⟩
theorem QN {A B:Prop} (h:B) (f:Zh B→A:=by intro eX;refine rH ?_;refine yZ ?_;(iterate 7 refine a_.kR rfl rfl rfl rfl rfl rfl (by first|omega|decide) ?_);refine zF ?_;refine zd ?_;refine Ot ?_;refine rX ?_;exact eX.o):A:=f ⟨h⟩
theorem Sy {A B:Prop} (h:B) (f:Zh B→A:=by intro eX;refine wh ?_;refine pZ ?_;refine vz ?_;refine a_.b_ 44 0 0 rfl rfl rfl rfl ?_;refine zb ?_;refine j4 ?_;refine zA (hf) ?_;refine nv ?_;exact eX.o):A:=f ⟨h⟩
theorem Rf {A B:Prop} (h:B) (f:Zh B→A:=by intro eX;refine zl ?_;refine zA (h6) ?_;refine Q3 ?_;refine AR.lW [13,14] (by kernel_rfl) (by kernel_rfl) (by kernel_rfl) (by kernel_rfl) ?_;exact eX.o):A:=f ⟨h⟩
theorem KN {A B:Prop} (h:B) (f:Zh B→A:=by intro eX;refine a_.DO 147 0 1 0 rfl rfl (by kernel_rfl) rfl rfl rfl rfl ?_;exact eX.o):A:=f ⟨h⟩
theorem IE {A B:Prop} (h:B) (f:Zh B→A:=by intro eX;refine a_.geq rfl rfl rfl rfl rfl ?_;refine Gl ?_;exact eX.o):A:=f ⟨h⟩
theorem Su {A:Prop} (h:A:=by exact e_ rfl (by(refine aA ?_;(iterate 2 refine aA ?_);exact trivial)) (by(exact trivial)) rfl):A:=h
theorem R2 {A:Prop} (h:A:=by exact e_ rfl (by(refine aA ?_;(iterate 3 refine aA ?_);exact trivial)) (by(exact trivial)) rfl):A:=h
theorem Ec {A B:Prop} (h:B) (f:Zh B→A:=by intro eX;refine a_.wM rfl rfl rfl rfl ?_;refine Q0 ?_;exact eX.o):A:=f ⟨h⟩
theorem zh {A B:Prop} (h:B) (f:Zh B→A:=by intro eX;(iterate 2 refine zm ?_);refine YV ?_;exact eX.o):A:=f ⟨h⟩
theorem O4 {A B:Prop} (h:B) (f:Zh B→A:=by intro eX;refine mC ?_;refine H5 ?_;refine a_.M9 rfl rfl rfl rfl rfl ?_;exact eX.o):A:=f ⟨h⟩
theorem nG {A B:Prop} (h:B) (f:Zh B→A:=by intro eX;refine j4 ?_;refine zm ?_;exact eX.o):A:=f ⟨h⟩
theorem RI {A B:Prop} (h:B) (f:Zh B→A:=by intro eX;refine a_.DO 147 1 1 1 rfl rfl (by kernel_rfl) rfl rfl rfl rfl ?_;refine nz ?_;refine zr ?_;refine a_.iW 108 [0,1,2] rfl rfl rfl rfl rfl rfl rfl rfl rfl ?_;refine nz ?_;refine Q3 ?_;exact eX.o):A:=f ⟨h⟩
theorem nd {A B:Prop} (h:B) (f:Zh B→A:=by intro eX;refine zd ?_;refine zq ?_;exact eX.o):A:=f ⟨h⟩
theorem Vc {A B:Prop} (h:B) (f:Zh B→A:=by intro eX;refine Bo ?_;refine sU ?_;refine a_.b_ 103 0 0 rfl rfl rfl rfl ?_;refine zb ?_;refine a_.geq rfl rfl rfl rfl rfl ?_;refine zz ?_;refine zo ?_;refine AW.ie [0,1,2,3,4,5,6,7,8,9] [13] rfl (by assumption) (by kernel_rfl) (by kernel_rfl) rfl ?_;exact eX.o):A:=f ⟨h⟩
theorem Fb {A B:Prop} (h:B) (f:Zh B→A:=by intro eX;refine rH ?_;refine a_.gtr rfl rfl rfl rfl rfl ?_;exact eX.o):A:=f ⟨h⟩
theorem SW {A B:Prop} (h:B) (f:Zh B→A:=by intro eX;(iterate 2 refine zm ?_);refine a_.CD rfl rfl rfl rfl rfl rfl rfl (by omega) ?_;exact eX.o):A:=f ⟨h⟩
theorem sK {A B:Prop} (h:B) (f:Zh B→A:=by intro eX;refine nD ?_;refine Dl ?_;exact eX.o):A:=f ⟨h⟩
theorem tc {A B:Prop} (h:B) (f:Zh B→A:=by intro eX;refine lV ?_;refine nv ?_;exact eX.o):A:=f ⟨h⟩
theorem Sj {A B:Prop} (h:B) (f:Zh B→A:=by intro eX;refine PH ?_;refine zn ?_;refine zy ?_;refine Jj ?_;refine zy ?_;refine a_.neq rfl rfl rfl rfl rfl ?_;refine zF ?_;exact eX.o):A:=f ⟨h⟩
theorem qZ {A B:Prop} (h:B) (f:Zh B→A:=by intro eX;refine B1 ?_;refine Q5 ?_;exact eX.o):A:=f ⟨h⟩
theorem Lk {A B:Prop} (h:B) (f:Zh B→A:=by intro eX;refine AR.iz (i:=8) rfl (by kernel_rfl) rfl (by kernel_rfl) ?_;exact eX.o):A:=f ⟨h⟩
theorem N6 {A:Prop} (h:A:=by refine⟨.box _ rfl ?_,?_⟩;refine aA ?_;(iterate 2 exact trivial)):A:=h
theorem C6 {A B:Prop} (h:B) (f:Zh B→A:=by intro eX;refine zq ?_;refine lM ?_;refine zn ?_;refine zm ?_;refine El ?_;exact eX.o):A:=f ⟨h⟩
theorem Ca {A B:Prop} (h:B) (f:Zh B→A:=by intro eX;refine a_.ig 115 0 0 2 rfl rfl rfl rfl ?_;refine nz ?_;exact eX.o):A:=f ⟨h⟩
theorem Iz {A B:Prop} (h:B) (f:Zh B→A:=by intro eX;refine j4 ?_;refine zb ?_;refine nG ?_;refine zb ?_;refine Uw ?_;refine Q3 ?_;exact eX.o):A:=f ⟨h⟩
theorem rW {A B:Prop} (h:B) (f:Zh B→A:=by intro eX;refine zd ?_;refine AW.block ?_;exact eX.o):A:=f ⟨h⟩
theorem ov {A B:Prop} (h:B) (f:Zh B→A:=by intro eX;refine zy ?_;refine zr ?_;exact eX.o):A:=f ⟨h⟩
theorem Vm {A B:Prop} (h:B) (f:Zh B→A:=by intro eX;(iterate 10 refine a_.jM rfl rfl rfl rfl rfl rfl (by first|omega|decide) ?_);refine zT ?_;refine zz ?_;refine AW.ie [0,1,2,3,4,5,6,7,8,9,10,11,12] [] rfl (by assumption) (by kernel_rfl) (by kernel_rfl) rfl ?_;exact eX.o):A:=f ⟨h⟩
theorem qi {A B:Prop} (h:B) (f:Zh B→A:=by intro eX;refine Q6 ?_;refine Q0 ?_;exact eX.o):A:=f ⟨h⟩
theorem rO {A B:Prop} (h:B) (f:Zh B→A:=by intro eX;refine Uo ?_;refine zs ?_;exact eX.o):A:=f ⟨h⟩
theorem tH {A B:Prop} (h:B) (f:Zh B→A:=by intro eX;refine B1 ?_;refine Hw ?_;exact eX.o):A:=f ⟨h⟩
theorem NS {A B:Prop} (h:B) (f:Zh B→A:=by intro eX;refine pZ ?_;refine xN ?_;refine AR.gc [15,14,11,6,4] rfl ?_;refine Xf ?_;exact eX.o):A:=f ⟨h⟩
theorem Hn {A B:Prop} (h:B) (f:Zh B→A:=by intro eX;refine yn ?_;refine vo ?_;(iterate 2 refine zm ?_);exact eX.o):A:=f ⟨h⟩
theorem RZ {A B:Prop} (h:B) (f:Zh B→A:=by intro eX;refine Xr ?_;refine zk ?_;refine Q5 ?_;refine rh ?_;refine Q4 ?_;refine zk ?_;refine Q5 ?_;refine rh ?_;exact eX.o):A:=f ⟨h⟩
theorem ze {A B:Prop} (h:B) (f:Zh B→A:=by intro eX;refine a_.not rfl rfl rfl ?_;refine zm ?_;exact eX.o):A:=f ⟨h⟩
theorem Ck {A B:Prop} (h:B) (f:Zh B→A:=by intro eX;refine nz ?_;refine AR.fI (i:=3) rfl (by kernel_rfl) rfl ?_;exact eX.o):A:=f ⟨h⟩
theorem I4 {A B:Prop} (h:B) (f:Zh B→A:=by intro eX;refine a_.b_ 105 1 1 rfl rfl rfl rfl ?_;refine Q3 ?_;exact eX.o):A:=f ⟨h⟩
theorem Ia {A B:Prop} (h:B) (f:Zh B→A:=by intro eX;refine a_.b_ 87 1 1 rfl rfl rfl rfl ?_;refine zb ?_;exact eX.o):A:=f ⟨h⟩
theorem BE {A B:Prop} (h:B) (f:Zh B→A:=by intro eX;refine zd ?_;refine Ot ?_;refine H5 ?_;exact eX.o):A:=f ⟨h⟩
theorem T9 {A B:Prop} (h:B) (f:Zh B→A:=by intro eX;refine zP (hi) ?_;refine Po ?_;refine zf ?_;refine nv ?_;refine a_.j_ rfl rfl rfl ?_;refine j4 ?_;refine a_.kr rfl rfl rfl ?_;refine a_.b_ 80 0 0 rfl rfl rfl rfl ?_;refine lN ?_;refine nd ?_;exact eX.o):A:=f ⟨h⟩
theorem Of {A B:Prop} (h:B) (f:Zh B→A:=by intro eX;refine zr ?_;refine zs ?_;refine mW ?_;refine EW ?_;refine PH ?_;refine mW ?_;exact eX.o):A:=f ⟨h⟩
theorem II {A B:Prop} (h:B) (f:Zh B→A:=by intro eX;refine zq ?_;refine Q4 ?_;refine sU ?_;refine Q0 ?_;exact eX.o):A:=f ⟨h⟩
theorem UQ {A:Prop} (h:A:=by refine a_.oQ rfl rfl rfl ?_;refine sF ?_;refine AR.meet JN (by kernel_rfl) (fun g_=>e_ rfl ?_ ?_ rfl);(iterate 48 refine aA ?_);exact trivial;refine Q8 ?_;refine Q8 ?_;exact OG):A:=h
theorem Lc {A B:Prop} (h:B) (f:Zh B→A:=by intro eX;(iterate 6 refine a_.iP rfl rfl rfl rfl rfl rfl rfl ?_);exact eX.o):A:=f ⟨h⟩
theorem KK {A B:Prop} (h:B) (f:Zh B→A:=by intro eX;(iterate 3 refine a_.iP rfl rfl rfl rfl rfl rfl rfl ?_);exact eX.o):A:=f ⟨h⟩
theorem Rs {A B:Prop} (h:B) (f:Zh B→A:=by intro eX;(iterate 5 refine a_.iP rfl rfl rfl rfl rfl rfl rfl ?_);refine a_.jk rfl rfl rfl rfl rfl rfl ?_;exact eX.o):A:=f ⟨h⟩
theorem QK {A B:Prop} (h:B) (f:Zh B→A:=by intro eX;refine nz ?_;refine nQ ?_;refine zm ?_;refine zn ?_;refine a_.sN rfl rfl rfl rfl rfl rfl rfl rfl (by omega) ?_;refine nz ?_;refine Jn ?_;refine Hw ?_;refine zm ?_;refine uj ?_;exact eX.o):A:=f ⟨h⟩
theorem E7 {A B:Prop} (h:B) (f:Zh B→A:=by intro eX;refine a_.extract rfl rfl rfl rfl ?_;refine Q3 ?_;exact eX.o):A:=f ⟨h⟩
theorem tU {A B:Prop} (h:B) (f:Zh B→A:=by intro eX;refine zd ?_;refine Q1 ?_;exact eX.o):A:=f ⟨h⟩
theorem tQ {A B:Prop} (h:B) (f:Zh B→A:=by intro eX;refine zl ?_;refine j4 ?_;exact eX.o):A:=f ⟨h⟩
theorem Rn {A B:Prop} (h:B) (f:Zh B→A:=by intro eX;refine zr ?_;refine a_.XL rfl rfl rfl rfl rfl (by omega) ?_;refine lM ?_;refine a_.K9 rfl rfl rfl rfl rfl ?_;exact eX.o):A:=f ⟨h⟩
theorem V_ {A B:Prop} (h:B) (f:Zh B→A:=by intro eX;refine rH ?_;refine a_.b_ 35 1 4 rfl rfl rfl rfl ?_;refine y1 ?_;refine zs ?_;refine Gl ?_;refine a_.gk rfl rfl rfl ?_;refine zt ?_;refine a_.qJ rfl rfl rfl rfl ?_;refine xQ ?_;exact eX.o):A:=f ⟨h⟩
theorem H3 {A B:Prop} (h:B) (f:Zh B→A:=by intro eX;refine gL ?_;refine gr ?_;refine zq ?_;exact eX.o):A:=f ⟨h⟩
theorem Wu {A B:Prop} (h:B) (f:Zh B→A:=by intro eX;refine Tt ?_;refine uk ?_;exact eX.o):A:=f ⟨h⟩
theorem KQ {A B:Prop} (h:B) (f:Zh B→A:=by intro eX;refine og ?_;refine GW ?_;refine Bn rfl rfl ?_;exact eX.o):A:=f ⟨h⟩
theorem NI {A B:Prop} (h:B) (f:Zh B→A:=by intro eX;refine tn ?_;(iterate 5 refine za ?_);refine qu ?_;refine iU ?_;exact eX.o):A:=f ⟨h⟩
theorem Mh {A B:Prop} (h:B) (f:Zh B→A:=by intro eX;refine⟨.fb (by first|with_reducible rfl|(rfl)),?_⟩;exact eX.o):A:=f ⟨h⟩
theorem Sf {A B:Prop} (h:B) (f:Zh B→A:=by intro eX;refine a_.Qz rfl rfl (by assumption) rfl rfl rfl rfl ?_;refine mC ?_;exact eX.o):A:=f ⟨h⟩
theorem pq {A B:Prop} (h:B) (f:Zh B→A:=by intro eX;refine zm ?_;refine zt ?_;exact eX.o):A:=f ⟨h⟩
theorem qn {A B:Prop} (h:B) (f:Zh B→A:=by intro eX;refine Q31 ?_;refine nz ?_;exact eX.o):A:=f ⟨h⟩
theorem Uj {A B:Prop} (h:B) (f:Zh B→A:=by intro eX;refine ze ?_;refine zl ?_;refine a_.b_ 61 1 2 rfl rfl rfl rfl ?_;refine zl ?_;refine zb ?_;refine zl ?_;refine zn ?_;refine RG ?_;refine zb ?_;refine zl ?_;refine a_.neq rfl rfl rfl rfl rfl ?_;refine a_.jk rfl rfl rfl rfl rfl rfl ?_;exact eX.o):A:=f ⟨h⟩
theorem S2 {A B:Prop} (h:B) (f:Zh B→A:=by intro eX;refine a_.gk rfl rfl rfl ?_;refine Dn ?_;refine zP (h1) ?_;refine zf ?_;refine zd ?_;refine zo ?_;refine Tw ?_;exact eX.o):A:=f ⟨h⟩
theorem SE {A B:Prop} (h:B) (f:Zh B→A:=by intro eX;(iterate 2 refine zb ?_);refine j4 ?_;refine a_.JW rfl rfl rfl rfl (by kernel_rfl) rfl rfl rfl rfl ?_;refine Q3 ?_;exact eX.o):A:=f ⟨h⟩
theorem BM {A B:Prop} (h:B) (f:Zh B→A:=by intro eX;refine zr ?_;(iterate 2 refine zm ?_);exact eX.o):A:=f ⟨h⟩
theorem OY {A B:Prop} (h:B) (f:Zh B→A:=by intro eX;refine Kl ?_;refine P6 ?_;refine mW ?_;refine Jj ?_;refine wL ?_;exact eX.o):A:=f ⟨h⟩
theorem OW {A B:Prop} (h:B) (f:Zh B→A:=by intro eX;refine Jp ?_;refine zq ?_;refine rh ?_;refine G6 ?_;refine Pb ?_;exact eX.o):A:=f ⟨h⟩
theorem XZ {A B:Prop} (h:B) (f:Zh B→A:=by intro eX;refine⟨.fb (by first|rfl|(rw[List.map_map];rfl)),?_⟩;refine⟨.d_ (by first|rfl|(rw[List.map_map];rfl)),?_⟩;exact eX.o):A:=f ⟨h⟩
theorem Ue {A:Prop} (h:A:=by exact e_ rfl (by(refine aA ?_;exact trivial)) (by(refine⟨.box _ rfl ?_,?_⟩;refine aA ?_;refine⟨.freeze rfl,?_⟩;(iterate 2 exact trivial))) rfl):A:=h
theorem EJ {A B:Prop} (h:B) (f:Zh B→A:=by intro eX;refine BW ?_;refine Q1 ?_;refine pN ?_;exact eX.o):A:=f ⟨h⟩
theorem EE {A B:Prop} (h:B) (f:Zh B→A:=by intro eX;refine yn ?_;refine Tg ?_;refine j7 ?_;exact eX.o):A:=f ⟨h⟩
theorem nR {A B:Prop} (h:B) (f:Zh B→A:=by intro eX;refine rN ?_;refine zm ?_;exact eX.o):A:=f ⟨h⟩
theorem Ip {A B:Prop} (h:B) (f:Zh B→A:=by intro eX;refine Rx ?_;refine nz ?_;refine zf ?_;refine zd ?_;refine sU ?_;exact eX.o):A:=f ⟨h⟩
theorem Ol {A B:Prop} (h:B) (f:Zh B→A:=by intro eX;refine Q4 ?_;refine AW.qb rfl rfl ?_;refine Q5 ?_;refine j4 ?_;refine JR ?_;exact eX.o):A:=f ⟨h⟩
theorem KG {A B:Prop} (h:B) (f:Zh B→A:=by intro eX;refine Q3 ?_;refine AR.fI (i:=13) rfl (by kernel_rfl) rfl ?_;exact eX.o):A:=f ⟨h⟩
theorem O_ {A B:Prop} (h:B) (f:Zh B→A:=by intro eX;refine a_.b_ 105 1 1 rfl rfl rfl rfl ?_;refine qn ?_;refine a_.nil ?_;exact eX.o):A:=f ⟨h⟩
theorem PC {A B:Prop} (h:B) (f:Zh B→A:=by intro eX;refine yN ?_;refine pq ?_;refine a_.geq rfl rfl rfl rfl rfl ?_;refine zT ?_;exact eX.o):A:=f ⟨h⟩
theorem Jc {A B:Prop} (h:B) (f:Zh B→A:=by intro eX;refine zr ?_;refine a_.neq rfl rfl rfl rfl rfl ?_;exact eX.o):A:=f ⟨h⟩
theorem QV {A B:Prop} (h:B) (f:Zh B→A:=by intro eX;(iterate 6 refine a_.kR rfl rfl rfl rfl rfl rfl (by with_reducible assumption) ?_);refine zF ?_;exact eX.o):A:=f ⟨h⟩
theorem RE {A B:Prop} (h:B) (f:Zh B→A:=by intro eX;(iterate 2 refine zm ?_);refine zl ?_;refine a_.b_ 35 0 0 rfl rfl rfl rfl ?_;refine zl ?_;exact eX.o):A:=f ⟨h⟩
theorem S0 {A B:Prop} (h:B) (f:Zh B→A:=by intro eX;refine a_.kX rfl rfl rfl ?_;refine a_.assign rfl rfl rfl ?_;exact eX.o):A:=f ⟨h⟩
theorem v7 {A B:Prop} (h:B) (f:Zh B→A:=by intro eX;refine vj ?_;refine vT ?_;exact eX.o):A:=f ⟨h⟩
theorem JJ {A B:Prop} (h:B) (f:Zh B→A:=by intro eX;refine Jp ?_;refine zq ?_;refine vz ?_;refine TI ?_;exact eX.o):A:=f ⟨h⟩
theorem wb {A B:Prop} (h:B) (f:Zh B→A:=by intro eX;refine zj ?_;refine zm ?_;refine zd ?_;exact eX.o):A:=f ⟨h⟩
theorem Pz {A B:Prop} (h:B) (f:Zh B→A:=by intro eX;refine zl ?_;refine a_.ig 115 1 2 2 rfl rfl rfl rfl ?_;refine nz ?_;refine zl ?_;refine uF ?_;exact eX.o):A:=f ⟨h⟩
theorem Vw {A B:Prop} (h:B) (f:Zh B→A:=by intro eX;refine FO ?_;refine a_.b_ 71 2 2 rfl rfl rfl rfl ?_;refine zb ?_;refine ze ?_;refine vy ?_;refine j4 ?_;refine vy ?_;refine a_.b_ 61 1 2 rfl rfl rfl rfl ?_;refine vy ?_;refine zb ?_;refine vy ?_;exact eX.o):A:=f ⟨h⟩
theorem Pn {A B:Prop} (h:B) (f:Zh B→A:=by intro eX;refine yN ?_;refine pq ?_;refine a_.eql rfl rfl rfl rfl rfl ?_;refine zT ?_;exact eX.o):A:=f ⟨h⟩
theorem KA {A B:Prop} (h:B) (f:Zh B→A:=by intro eX;refine Q3 ?_;refine AR.fI (i:=5) rfl (by kernel_rfl) rfl ?_;exact eX.o):A:=f ⟨h⟩
theorem VX {A B:Prop} (h:B) (f:Zh B→A:=by intro eX;refine Im ?_;refine nv ?_;(iterate 2 refine zm ?_);refine a_.J7 rfl rfl rfl rfl rfl (by omega) ?_;refine Q4 ?_;refine Bl ?_;refine a_.mul rfl rfl rfl rfl rfl (by omega) ?_;refine uC ?_;exact eX.o):A:=f ⟨h⟩
theorem QZ {A B:Prop} (h:B) (f:Zh B→A:=by intro eX;refine nG ?_;refine zA (s1) ?_;refine nG ?_;refine zA (s2) ?_;refine a_.neq rfl rfl rfl rfl rfl ?_;exact eX.o):A:=f ⟨h⟩
theorem Lv {A:Prop} (h:A:=by(iterate 9 refine aA ?_);exact trivial):A:=h
theorem VH {A B:Prop} (h:B) (f:Zh B→A:=by intro eX;refine AR.free 11 (by kernel_rfl) rfl rfl rfl (jx.build 105 [0,1] rfl rfl rfl rfl rfl rfl rfl rfl) ?_;(try refine nz ?_);refine AR.fI (i:=12) rfl (by kernel_rfl) rfl ?_;exact eX.o):A:=f ⟨h⟩
theorem O7 {A B:Prop} (h:B) (f:Zh B→A:=by intro eX;refine a_.yb rfl rfl rfl rfl rfl rfl rfl (by omega) ?_;exact eX.o):A:=f ⟨h⟩
theorem S9 {A B:Prop} (h:B) (f:Zh B→A:=by intro eX;refine T_ ?_;refine zt ?_;refine a_.b_ 27 0 0 rfl rfl rfl rfl ?_;refine wc ?_;exact eX.o):A:=f ⟨h⟩
theorem UB {A:Prop} (h:A:=by exact⟨k+1,⟨by omega,hs⟩,by omega,e_ rfl (by(refine aA ?_;(iterate 2 refine aA ?_);exact trivial)) (by(exact trivial)) rfl⟩):A:=h
theorem On {A B:Prop} (h:B) (f:Zh B→A:=by intro eX;refine rH ?_;refine J4 ?_;refine yy ?_;refine zd ?_;refine vo ?_;refine J4 ?_;refine zm ?_;exact eX.o):A:=f ⟨h⟩
theorem St {A B:Prop} (h:B) (f:Zh B→A:=by intro eX;refine zt ?_;refine a_.ig 69 1 1 1 rfl rfl rfl rfl ?_;refine nz ?_;refine zt ?_;refine zr ?_;refine zT ?_;exact eX.o):A:=f ⟨h⟩
theorem Vi {A B:Prop} (h:B) (f:Zh B→A:=by intro eX;refine RG ?_;refine zb ?_;refine RG ?_;refine zb ?_;refine Vv ?_;refine pq ?_;refine a_.b_ 61 1 2 rfl rfl rfl rfl ?_;refine wc ?_;refine a_.b_ 61 1 2 rfl rfl rfl rfl ?_;refine wc ?_;exact eX.o):A:=f ⟨h⟩
theorem RR {A B:Prop} (h:B) (f:Zh B→A:=by intro eX;refine Q3 ?_;refine AR.lW [30,31] (by kernel_rfl) (by kernel_rfl) (by kernel_rfl) (by kernel_rfl) ?_;exact eX.o):A:=f ⟨h⟩
theorem vU {A B:Prop} (h:B) (f:Zh B→A:=by intro eX;refine U5 ?_;refine Q4 ?_;exact eX.o):A:=f ⟨h⟩
theorem UH {A:Prop} (h:A:=by refine sF ?_;refine AR.meet p9 (by kernel_rfl) (fun g_=>e_ rfl ?_ ?_ rfl);(iterate 50 refine aA ?_);exact trivial;refine Q8 ?_;refine Q8 ?_;exact OG):A:=h
theorem RF {A B:Prop} (h:B) (f:Zh B→A:=by intro eX;refine CY ?_;refine a_.kv rfl rfl rfl rfl rfl rfl ?_;refine mC ?_;refine vT ?_;exact eX.o):A:=f ⟨h⟩
theorem xH {A B:Prop} (h:B) (f:Zh B→A:=by intro eX;refine tn ?_;refine Dl ?_;exact eX.o):A:=f ⟨h⟩
theorem IA {A B:Prop} (h:B) (f:Zh B→A:=by intro eX;refine yp ?_;refine tU ?_;refine Hw ?_;exact eX.o):A:=f ⟨h⟩
theorem RM {A B:Prop} (h:B) (f:Zh B→A:=by intro eX;refine wh ?_;refine vz ?_;refine j4 ?_;refine a_.b_ 61 0 0 rfl rfl rfl rfl ?_;exact eX.o):A:=f ⟨h⟩
theorem Sq {A B:Prop} (h:B) (f:Zh B→A:=by intro eX;refine AW.ie [0,1,2,3] [6] rfl (by assumption) (by kernel_rfl) (by kernel_rfl) rfl ?_;exact eX.o):A:=f ⟨h⟩
theorem O8 {A B:Prop} (h:B) (f:Zh B→A:=by intro eX;refine IV ?_;refine a_.b_ 158 0 0 rfl rfl rfl rfl ?_;exact eX.o):A:=f ⟨h⟩
theorem Pd {A B:Prop} (h:B) (f:Zh B→A:=by intro eX;refine qn ?_;refine sZ ?_;refine zq ?_;refine zm ?_;refine a_.K9 rfl rfl rfl rfl rfl ?_;exact eX.o):A:=f ⟨h⟩
theorem Pf {A B:Prop} (h:B) (f:Zh B→A:=by intro eX;refine E0 ?_;refine zd ?_;refine vo ?_;refine vz ?_;refine Hh ?_;refine Gl ?_;exact eX.o):A:=f ⟨h⟩
theorem MH {A B:Prop} (h:B) (f:Zh B→A:=by intro eX;refine nz ?_;refine AR.fI (i:=7) rfl (by kernel_rfl) rfl ?_;exact eX.o):A:=f ⟨h⟩
theorem SN {A B:Prop} (h:B) (f:Zh B→A:=by intro eX;(iterate 4 refine a_.jM rfl rfl rfl rfl rfl rfl (by with_reducible assumption) ?_);refine zT ?_;exact eX.o):A:=f ⟨h⟩
theorem IW {A B:Prop} (h:B) (f:Zh B→A:=by intro eX;refine a_.gk rfl rfl rfl ?_;refine Q3 ?_;exact eX.o):A:=f ⟨h⟩
theorem Ib {A B:Prop} (h:B) (f:Zh B→A:=by intro eX;refine j4 ?_;refine lN ?_;refine qu ?_;exact eX.o):A:=f ⟨h⟩
theorem Vb {A B:Prop} (h:B) (f:Zh B→A:=by intro eX;refine a_.geq rfl rfl rfl rfl rfl ?_;refine tH ?_;refine a_.b_ 44 0 0 rfl rfl rfl rfl ?_;refine zb ?_;refine zn ?_;refine a_.geq rfl rfl rfl rfl rfl ?_;exact eX.o):A:=f ⟨h⟩
theorem V8 {A:Prop} (h:A:=by refine zP (h3) ?_;refine sF ?_;refine AR.meet lx (by kernel_rfl) (fun g_=>e_ rfl ?_ ?_ rfl);(iterate 39 refine aA ?_);exact trivial;exact OJ):A:=h
theorem Sh {A B:Prop} (h:B) (f:Zh B→A:=by intro eX;refine a_.kR rfl rfl rfl rfl rfl rfl (by with_reducible assumption) ?_;refine zF ?_;exact eX.o):A:=f ⟨h⟩
theorem uT {A B:Prop} (h:B) (f:Zh B→A:=by intro eX;refine zr ?_;refine zs ?_;exact eX.o):A:=f ⟨h⟩
theorem tM {A B:Prop} (h:B) (f:Zh B→A:=by intro eX;refine zb ?_;refine zm ?_;exact eX.o):A:=f ⟨h⟩
theorem rP {A B:Prop} (h:B) (f:Zh B→A:=by intro eX;refine zd ?_;refine Y2 ?_;exact eX.o):A:=f ⟨h⟩
theorem R_ {A B:Prop} (h:B) (f:Zh B→A:=by intro eX;refine nz ?_;refine Q3 ?_;refine AR.lW [15] (by kernel_rfl) (by kernel_rfl) (by kernel_rfl) (by kernel_rfl) ?_;exact eX.o):A:=f ⟨h⟩
theorem RQ {A B:Prop} (h:B) (f:Zh B→A:=by intro eX;(iterate 3 refine a_.jM rfl rfl rfl rfl rfl rfl (by with_reducible assumption) ?_);refine zT ?_;exact eX.o):A:=f ⟨h⟩
theorem WG {A:Prop} (h:A:=by refine zP (h2) ?_;refine sF ?_;refine AR.meet p9 (by kernel_rfl) (fun g_=>e_ rfl ?_ ?_ rfl);(iterate 38 refine aA ?_);exact trivial;exact OJ):A:=h
theorem VR {A B:Prop} (h:B) (f:Zh B→A:=by intro eX;refine yZ ?_;(iterate 11 refine a_.kR rfl rfl rfl rfl rfl rfl (by first|omega|decide) ?_);refine zF ?_;refine mC ?_;refine gr ?_;refine pN ?_;exact eX.o):A:=f ⟨h⟩
theorem VU {A B:Prop} (h:B) (f:Zh B→A:=by intro eX;refine nQ ?_;refine zm ?_;refine IE ?_;refine a_.ig 44 0 0 1 rfl rfl rfl rfl ?_;refine nz ?_;refine yN ?_;refine zn ?_;refine zt ?_;refine a_.mul rfl rfl rfl rfl rfl (by omega) ?_;refine xQ ?_;refine j7 ?_;exact eX.o):A:=f ⟨h⟩
theorem rY {A B:Prop} (h:B) (f:Zh B→A:=by intro eX;refine zd ?_;refine Tg ?_;exact eX.o):A:=f ⟨h⟩
theorem SV {A B:Prop} (h:B) (f:Zh B→A:=by intro eX;refine zl ?_;refine zP (h5) ?_;refine Q3 ?_;refine AR.fI (i:=12) rfl (by kernel_rfl) rfl ?_;exact eX.o):A:=f ⟨h⟩
theorem VW {A B:Prop} (h:B) (f:Zh B→A:=by intro eX;refine lN ?_;refine sZ ?_;refine AW.region ?_;refine j4 ?_;refine zb ?_;refine j4 ?_;refine Dn ?_;refine zP (mS) ?_;refine a_.Gn 105 1 1 rfl rfl rfl rfl rfl ?_;exact eX.o):A:=f ⟨h⟩
theorem K8 {A B:Prop} (h:B) (f:Zh B→A:=by intro eX;refine a_.leq rfl rfl rfl rfl rfl ?_;refine zT ?_;exact eX.o):A:=f ⟨h⟩
theorem H_ {A B:Prop} (h:B) (f:Zh B→A:=by intro eX;refine Bo ?_;refine zq ?_;refine tM ?_;exact eX.o):A:=f ⟨h⟩
theorem UA {A B:Prop} (h:B) (f:Zh B→A:=by intro eX;refine zr ?_;refine nv ?_;refine a_.b_ 115 0 0 rfl rfl rfl rfl ?_;refine zi ?_;refine zm ?_;refine zP (JY) ?_;refine Po ?_;refine a_.assign rfl rfl rfl ?_;refine nz ?_;refine nv ?_;refine zm ?_;refine ze ?_;exact eX.o):A:=f ⟨h⟩
theorem s6 {A B:Prop} (h:B) (f:Zh B→A:=by intro eX;refine zd ?_;refine zc ?_;exact eX.o):A:=f ⟨h⟩
theorem q9 {A B:Prop} (h:B) (f:Zh B→A:=by intro eX;refine zm ?_;refine wO ?_;exact eX.o):A:=f ⟨h⟩
theorem sM {A B:Prop} (h:B) (f:Zh B→A:=by intro eX;refine nz ?_;refine Jn ?_;exact eX.o):A:=f ⟨h⟩
theorem Ul {A B:Prop} (h:B) (f:Zh B→A:=by intro eX;refine rH ?_;refine nG ?_;refine zA (TO) ?_;refine zs ?_;refine zd ?_;refine vo ?_;refine vX ?_;refine zP (ht) ?_;refine nv ?_;refine vX ?_;refine zA (hf) ?_;exact eX.o):A:=f ⟨h⟩
theorem A3 {A B:Prop} (h:B) (f:Zh B→A:=by intro eX;refine zm ?_;refine BI ?_;refine zm ?_;exact eX.o):A:=f ⟨h⟩
theorem HR {A B:Prop} (h:B) (f:Zh B→A:=by intro eX;refine nz ?_;refine vj ?_;refine gL ?_;exact eX.o):A:=f ⟨h⟩
theorem MO {A B:Prop} (h:B) (f:Zh B→A:=by intro eX;refine zr ?_;(iterate 2 refine za ?_);refine zd ?_;exact eX.o):A:=f ⟨h⟩
theorem Nq {A B:Prop} (h:B) (f:Zh B→A:=by intro eX;refine rX ?_;refine zm ?_;refine a_.gtr rfl rfl rfl rfl rfl ?_;refine R8 ?_;exact eX.o):A:=f ⟨h⟩
theorem OP {A B:Prop} (h:B) (f:Zh B→A:=by intro eX;refine tQ ?_;refine zl ?_;refine DG ?_;refine nz ?_;refine oq ?_;exact eX.o):A:=f ⟨h⟩
theorem He {A B:Prop} (h:B) (f:Zh B→A:=by intro eX;refine U5 ?_;refine zf ?_;refine zd ?_;exact eX.o):A:=f ⟨h⟩
theorem TT {A B:Prop} (h:B) (f:Zh B→A:=by intro eX;refine lV ?_;refine pZ ?_;refine nv ?_;refine S0 ?_;refine nz ?_;refine zd ?_;refine zo ?_;refine AW.block ?_;refine zq ?_;refine a_.iX rfl rfl rfl ?_;refine zm ?_;refine zC (ND) ?_;refine ze ?_;exact eX.o):A:=f ⟨h⟩
theorem DI {A B:Prop} (h:B) (f:Zh B→A:=by intro eX;refine Zx ?_;refine zm ?_;refine zd ?_;exact eX.o):A:=f ⟨h⟩
theorem uY {A B:Prop} (h:B) (f:Zh B→A:=by intro eX;refine nz ?_;refine Wu ?_;exact eX.o):A:=f ⟨h⟩
theorem tX {A B:Prop} (h:B) (f:Zh B→A:=by intro eX;refine nQ ?_;refine zm ?_;exact eX.o):A:=f ⟨h⟩
theorem Pm {A B:Prop} (h:B) (f:Zh B→A:=by intro eX;refine a_.Gv rfl rfl rfl rfl rfl rfl rfl rfl rfl ?_;refine nz ?_;exact eX.o):A:=f ⟨h⟩
theorem Wq {A B:Prop} (h:B) (f:Zh B→A:=by intro eX;(iterate 2 refine zm ?_);refine yy ?_;refine zm ?_;(iterate 6 refine a_.kR rfl rfl rfl rfl rfl rfl (by first|omega|decide) ?_);refine zF ?_;refine O4 ?_;refine nz ?_;refine SW ?_;exact eX.o):A:=f ⟨h⟩
theorem tr {A B:Prop} (h:B) (f:Zh B→A:=by intro eX;refine nv ?_;refine zm ?_;exact eX.o):A:=f ⟨h⟩
theorem N9 {A B:Prop} (h:B) (f:Zh B→A:=by intro eX;refine nz ?_;refine C0 ?_;(iterate 2 refine zm ?_);refine Uw ?_;exact eX.o):A:=f ⟨h⟩
theorem KL {A B:Prop} (h:B) (f:Zh B→A:=by intro eX;refine Yu ?_;refine zm ?_;refine KX ?_;refine zm ?_;exact eX.o):A:=f ⟨h⟩
theorem VA {A B:Prop} (h:B) (f:Zh B→A:=by intro eX;refine pZ ?_;refine nv ?_;refine j4 ?_;refine a_.iW 80 [0] rfl rfl rfl rfl rfl rfl rfl rfl rfl ?_;refine nz ?_;refine Kw ?_;refine a_.sV rfl rfl rfl ?_;exact eX.o):A:=f ⟨h⟩
theorem Ps {A B:Prop} (h:B) (f:Zh B→A:=by intro eX;refine vy ?_;refine zr ?_;refine vy ?_;refine zm ?_;refine vy ?_;exact eX.o):A:=f ⟨h⟩
theorem vn {A B:Prop} (h:B) (f:Zh B→A:=by intro eX;refine nx ?_;refine nz ?_;exact eX.o):A:=f ⟨h⟩
theorem Ur {A B:Prop} (h:B) (f:Zh B→A:=by intro eX;refine IS ?_;refine nz ?_;refine ov ?_;refine zF ?_;refine zm ?_;(iterate 9 refine a_.iP rfl rfl rfl rfl rfl (by assumption) rfl ?_);refine Sf ?_;refine vT ?_;exact eX.o):A:=f ⟨h⟩
theorem TX {A B:Prop} (h:B) (f:Zh B→A:=by intro eX;refine nR ?_;refine nv ?_;refine a_.move rfl rfl rfl ?_;refine nz ?_;refine zm ?_;refine a_.iW 103 [0,2] rfl rfl rfl rfl rfl rfl rfl rfl rfl ?_;refine nz ?_;exact eX.o):A:=f ⟨h⟩
theorem aa {A:Prop} (h:A:=by first|omega|(simp only[List.length_map,List.length_append,List.length_cons,List.length_nil,List.length_drop,List.length_take,List.length_set,List.length_range,oO];omega)):A:=h
theorem ab {A:Prop} (h:A:=by first|omega|(simp only[List.length_map,List.length_append,List.length_cons,List.length_nil,List.length_drop,List.length_take,List.length_set,oO];omega)):A:=h
theorem ag {A:Prop} (h:A:=by first|(with_reducible assumption)|omega|(simp only[o8,List.length_set];omega)):A:=h
theorem ah {A:Prop} (h:A:=by first|exact rfl|assumption|exact o1_ _|exact o2_ _ _|exact o3_ _|exact o4_ _ _):A:=h
theorem ai {A:Prop} (h:A:=by first|exact .pv rfl|exact .own rfl|exact .nil rfl):A:=h
theorem aj {A:Prop} (h:A:=by first|omega|exact Nat.zero_lt_one|(simp;done)):A:=h
theorem ak {A:Prop} (h:A:=by first|rfl|exact decide_eq_false (by omega)):A:=h
theorem al {A:Prop} (h:A:=by (repeat (first|exact .nil|(refine .cons ?_ ?_;(first|exact .eq rfl rfl|exact .nil _|exact .any _))))):A:=h
theorem aq {A:Prop} (h:A:=by (repeat (first|exact trivial|refine⟨rfl,?_⟩|refine⟨uS,?_⟩))):A:=h
theorem au {A:Prop} (h:A:=by (repeat (first|exact trivial|refine⟨rfl,?_⟩))):A:=h
theorem aw {A:Prop} (h:A:=by intro h_;cases h_):A:=h
theorem ax {A B:Prop} (h:B) (f:Zh B→A:=by intro eX;(focus ((with_reducible apply a_.e8);(iterate 7 exact rfl);omega;rotate_left;exact aj));exact eX.o):A:=f ⟨h⟩
theorem ay {A B:Prop} (h:B) (f:Zh B→A:=by intro eX;(focus ((with_reducible apply a_.Ai);(iterate 7 exact rfl);rotate_left;omega));exact eX.o):A:=f ⟨h⟩
theorem az {A B:Prop} (h:B) (f:Zh B→A:=by intro eX;(try (conv=>rhs;simp only[Nf.all,Nat.reduceBEq,reduceAdd,reduceSub]));exact eX.o):A:=f ⟨h⟩
theorem aA {A B:Prop} (h:B) (f:Zh B→A:=by intro eX;refine⟨.eq rfl rfl,?_⟩;exact eX.o):A:=f ⟨h⟩
theorem aB {A B:Prop} (h:B) (f:Zh B→A:=by intro eX;refine⟨.fy (by rfl),?_⟩;exact eX.o):A:=f ⟨h⟩
theorem aC {A B:Prop} (h:B) (f:Zh B→A:=by intro eX;refine⟨.row rfl,?_⟩;exact eX.o):A:=f ⟨h⟩
theorem aD {A B:Prop} (h:B) (f:Zh B→A:=by intro eX;refine⟨.fb (by rfl),?_⟩;exact eX.o):A:=f ⟨h⟩
theorem aE {A B:Prop} (h:B) (f:Zh B→A:=by intro eX;refine⟨.fm rfl (by rfl),?_⟩;exact eX.o):A:=f ⟨h⟩
theorem aF {A:Prop} (h:A:=by kernel_rfl):A:=h
end Go.Ab
