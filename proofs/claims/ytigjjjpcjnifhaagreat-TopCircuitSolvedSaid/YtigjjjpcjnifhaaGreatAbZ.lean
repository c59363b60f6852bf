import Derived.Test.YtigjjjpcjnifhaaGreatAbL4
set_option linter.unusedSimpArgs false
set_option linter.unusedVariables false
namespace Go.Ab
open Go Go.RowKit
open Nat (reduceAdd reduceSub)
structure Zh (B:Prop):Prop where
 o:B
theorem Q0 {A B:Prop} (h:B) (f:Zh B→A:=by intro eV;(conv=>rhs;simp only[Nf.X8,Nf.all,Nat.reduceBEq,reduceAdd,reduceSub]);exact eV.o):A:=f ⟨h⟩
theorem Q1 {A B:Prop} (h:B) (f:Zh B→A:=by intro eV;(conv=>rhs;simp only[Nf.af,Nf.xe0,Nf.xe1,Nf.xo0,Nf.xon,Nf.xor,Nf.xob,Nf.xom,Nf.xot,Nf.xoi,Nf.xol,Nf.xop,Nf.xl0,Nf.xl1,Nf.Lg,Nf.Qd,Nf.K8,Nf.Hr,Nf.Ha,Nf.Lx,Nf.KB,Nf.GO,Nf.Mz,Nf.LK,Nf.Kl,Nf.rw0,Nf.rwr,Nf.rwb,Nf.rwm,Nf.rwt,Nf.xoP,Nf.rwP,Nf.cn,Nf.nn,Ek,xu,Nat.reduceBEq,cond_true,cond_false]);exact eV.o):A:=f ⟨h⟩
theorem Q2 {A:Prop} (h:A:=by refine⟨.box _ rfl ?_,?_⟩;(iterate 3 refine⟨.ff (by first|with_reducible rfl|(rfl)) rfl,?_⟩);refine⟨.fm (by first|with_reducible rfl|(rfl)),?_⟩;refine⟨.ff (by first|with_reducible rfl|(rfl)) rfl,?_⟩;refine⟨.fm (by first|with_reducible rfl|(rfl)),?_⟩;(iterate 2 refine⟨.ff (by first|with_reducible rfl|(rfl)) rfl,?_⟩);(iterate 3 refine⟨.fm (by first|with_reducible rfl|(rfl)),?_⟩);refine⟨.ff (by first|with_reducible rfl|(rfl)) rfl,?_⟩;refine⟨.fm (by first|with_reducible rfl|(rfl)),?_⟩;(iterate 2 refine⟨.iz (by first|with_reducible rfl|(rfl)),?_⟩);exact trivial;(iterate 3 refine aF ?_);refine⟨.fb rfl (by first|with_reducible rfl|(rfl)),?_⟩;(iterate 2 refine aF ?_);refine⟨.fb rfl (by first|with_reducible rfl|(rfl)),?_⟩;refine aF ?_;refine⟨.fb rfl (by first|with_reducible rfl|(rfl)),?_⟩;refine aF ?_;exact trivial):A:=h
theorem Q3 {A B:Prop} (h:B) (f:Zh B→A:=by intro eV;refine a_.nil ?_;refine Nl ?_;exact eV.o):A:=f ⟨h⟩
theorem Q4 {A B:Prop} (h:B) (f:Zh B→A:=by intro eV;refine a_.l5 rfl rfl rfl rfl ?_;refine nz ?_;refine a_.rO rfl rfl rfl rfl ?_;refine nz ?_;refine za ?_;refine zB ?_;refine nz ?_;refine zd ?_;refine zq ?_;refine zm ?_;refine a_.c_ 44 0 0 rfl rfl rfl rfl ?_;refine zb ?_;refine a_.Ga rfl rfl rfl rfl rfl rfl rfl rfl (by with_reducible assumption) ?_;refine a_.n5 rfl rfl rfl ?_;(iterate 2 refine a_.extract rfl rfl rfl rfl ?_);refine a_.assign rfl rfl rfl ?_;refine nz ?_;refine za ?_;refine zd ?_;refine zq ?_;refine nz ?_;refine zm ?_;refine a_.not rfl rfl rfl ?_;refine zm ?_;refine zl ?_;refine a_.iu rfl rfl rfl ?_;refine zl ?_;refine a_.fN rfl rfl rfl ?_;refine zl ?_;refine zL ?_;refine nz ?_;refine zl ?_;exact eV.o):A:=f ⟨h⟩
theorem Q5 {A B:Prop} (h:B) (f:Zh B→A:=by intro eV;refine AR.dd ?_;(conv=>rhs;simp only[Nf.ddR,Nf.all,Nat.reduceBEq,reduceAdd,reduceSub]);exact eV.o):A:=f ⟨h⟩
theorem Q6 {A B:Prop} (h:B) (f:Zh B→A:=by intro eV;refine zc ?_;refine AW.skip ?_;refine iB ?_;refine zo ?_;refine AW.block ?_;exact eV.o):A:=f ⟨h⟩
theorem Q7 {A:Prop} (h:A:=by exact fe rfl (by(refine⟨.gq (by first|rfl|(rw[List.take_zero];rfl)|(rw[List.take_zero,List.map_nil,List.append_nil])),?_⟩;refine⟨.ff (by first|rfl|(rw[List.take_zero];rfl)|(rw[List.take_zero,List.map_nil,List.append_nil])) rfl,?_⟩;refine⟨.gq (by first|rfl|(rw[List.take_zero];rfl)|(rw[List.take_zero,List.map_nil,List.append_nil])),?_⟩;refine⟨.iz (by first|rfl|(rw[List.take_zero];rfl)|(rw[List.take_zero,List.map_nil,List.append_nil])),?_⟩;refine⟨.iz (by first|rfl|(rw[List.take_zero];rfl)|(rw[List.take_zero,List.map_nil,List.append_nil])),?_⟩;refine aC ?_;refine⟨.gq (by first|rfl|(rw[List.take_zero];rfl)|(rw[List.take_zero,List.map_nil,List.append_nil])),?_⟩;refine aC ?_;refine⟨.iz (by first|rfl|(rw[List.take_zero];rfl)|(rw[List.take_zero,List.map_nil,List.append_nil])),?_⟩;(iterate 4 refine aC ?_);refine⟨.gq (by first|rfl|(rw[List.take_zero];rfl)|(rw[List.take_zero,List.map_nil,List.append_nil])),?_⟩;refine⟨.lh (by first|rfl|(rw[List.take_zero];rfl)|(rw[List.take_zero,List.map_nil,List.append_nil])),?_⟩;refine⟨.gq (by first|rfl|(rw[List.take_zero];rfl)|(rw[List.take_zero,List.map_nil,List.append_nil])),?_⟩;refine⟨.iz (by first|rfl|(rw[List.take_zero];rfl)|(rw[List.take_zero,List.map_nil,List.append_nil])),?_⟩;refine aC ?_;refine⟨.gq (by first|rfl|(rw[List.take_zero];rfl)|(rw[List.take_zero,List.map_nil,List.append_nil])),?_⟩;refine aC ?_;refine⟨.lh (by first|rfl|(rw[List.take_zero];rfl)|(rw[List.take_zero,List.map_nil,List.append_nil])),?_⟩;(iterate 5 refine aC ?_);refine⟨.lh (by first|rfl|(rw[List.take_zero];rfl)|(rw[List.take_zero,List.map_nil,List.append_nil])),?_⟩;refine⟨.lh (by first|rfl|(rw[List.take_zero];rfl)|(rw[List.take_zero,List.map_nil,List.append_nil])),?_⟩;refine⟨.lh (by first|rfl|(rw[List.take_zero];rfl)|(rw[List.take_zero,List.map_nil,List.append_nil])),?_⟩;refine⟨.lh (by first|rfl|(rw[List.take_zero];rfl)|(rw[List.take_zero,List.map_nil,List.append_nil])),?_⟩;refine aC ?_;refine⟨.gq (by first|rfl|(rw[List.take_zero];rfl)|(rw[List.take_zero,List.map_nil,List.append_nil])),?_⟩;refine aC ?_;refine⟨.gq (by first|rfl|(rw[List.take_zero];rfl)|(rw[List.take_zero,List.map_nil,List.append_nil])),?_⟩;refine⟨.gq (by first|rfl|(rw[List.take_zero];rfl)|(rw[List.take_zero,List.map_nil,List.append_nil])),?_⟩;refine⟨.iz (by first|rfl|(rw[List.take_zero];rfl)|(rw[List.take_zero,List.map_nil,List.append_nil])),?_⟩;(iterate 2 refine aC ?_);refine⟨.iz (by first|rfl|(rw[List.take_zero];rfl)|(rw[List.take_zero,List.map_nil,List.append_nil])),?_⟩;exact trivial)) (by(refine⟨.box _ rfl ?_,?_⟩;refine⟨.gq (by first|rfl|(rw[List.take_zero];rfl)|(rw[List.take_zero,List.map_nil,List.append_nil])),?_⟩;refine⟨.ff (by first|rfl|(rw[List.take_zero];rfl)|(rw[List.take_zero,List.map_nil,List.append_nil])) rfl,?_⟩;refine⟨.gq (by first|rfl|(rw[List.take_zero];rfl)|(rw[List.take_zero,List.map_nil,List.append_nil])),?_⟩;refine⟨.iz (by first|rfl|(rw[List.take_zero];rfl)|(rw[List.take_zero,List.map_nil,List.append_nil])),?_⟩;refine⟨.ff (by first|rfl|(rw[List.take_zero];rfl)|(rw[List.take_zero,List.map_nil,List.append_nil])) rfl,?_⟩;refine⟨.lh (by first|rfl|(rw[List.take_zero];rfl)|(rw[List.take_zero,List.map_nil,List.append_nil])),?_⟩;exact trivial;refine aF ?_;refine⟨.box _ rfl ?_,?_⟩;refine⟨.gq (by first|rfl|(rw[List.take_zero];rfl)|(rw[List.take_zero,List.map_nil,List.append_nil])),?_⟩;refine⟨.iz (by first|rfl|(rw[List.take_zero];rfl)|(rw[List.take_zero,List.map_nil,List.append_nil])),?_⟩;refine⟨.gq (by first|rfl|(rw[List.take_zero];rfl)|(rw[List.take_zero,List.map_nil,List.append_nil])),?_⟩;exact trivial;refine⟨.box _ rfl ?_,?_⟩;refine⟨.gq (by first|rfl|(rw[List.take_zero];rfl)|(rw[List.take_zero,List.map_nil,List.append_nil])),?_⟩;refine⟨.iz (by first|rfl|(rw[List.take_zero];rfl)|(rw[List.take_zero,List.map_nil,List.append_nil])),?_⟩;refine⟨.gq (by first|rfl|(rw[List.take_zero];rfl)|(rw[List.take_zero,List.map_nil,List.append_nil])),?_⟩;exact trivial;(iterate 2 refine aF ?_);exact trivial)) rfl):A:=h
theorem Q8 {A:Prop} (h:A:=by exact fe rfl (by(first|(refine aC ?_;(iterate 41 refine aC ?_);exact trivial)|(refine aC ?_;(iterate 34 refine aC ?_);exact trivial)|(refine aC ?_;(iterate 6 refine aC ?_);exact trivial)|(refine aC ?_;(iterate 5 refine aC ?_);exact trivial))) (by(first|(refine⟨.box _ rfl ?_,?_⟩;refine aC ?_;exact trivial;refine⟨.box _ rfl ?_,?_⟩;refine aC ?_;exact trivial;refine⟨.box _ rfl ?_,?_⟩;(iterate 3 refine aC ?_);exact trivial;refine⟨.box _ rfl ?_,?_⟩;refine aC ?_;exact trivial;refine⟨.box _ rfl ?_,?_⟩;(iterate 3 refine aC ?_);exact trivial;refine⟨.box _ rfl ?_,?_⟩;(iterate 6 refine aC ?_);exact trivial;(iterate 2 refine aF ?_);exact trivial)|(refine⟨.box _ rfl ?_,?_⟩;refine aC ?_;exact trivial;refine⟨.box _ rfl ?_,?_⟩;(iterate 3 refine aC ?_);exact trivial;refine⟨.box _ rfl ?_,?_⟩;(iterate 3 refine aC ?_);exact trivial;refine⟨.box _ rfl ?_,?_⟩;(iterate 6 refine aC ?_);exact trivial;(iterate 2 refine aF ?_);exact trivial)|(refine⟨.box _ rfl ?_,?_⟩;(iterate 4 refine aC ?_);refine⟨.jN _ _ _ rfl rfl,?_⟩;refine aC ?_;exact trivial;refine⟨.iW rfl,?_⟩;refine aF ?_;refine⟨.box _ rfl ?_,?_⟩;(iterate 2 refine aC ?_);(iterate 2 exact trivial))|(refine⟨.box _ rfl ?_,?_⟩;(iterate 6 refine aC ?_);exact trivial;(iterate 2 refine aF ?_);exact trivial))) rfl):A:=h
theorem Q9 {A:Prop} (h:A:=by exact⟨j+1,by omega,by omega,fe rfl (by(refine⟨.gq (by first|rfl|exact j9.symm|exact jF.symm|(rw[j9];rfl)|(rw[jF];rfl)),?_⟩;refine⟨.ff (by first|rfl|exact j9.symm|exact jF.symm|(rw[j9];rfl)|(rw[jF];rfl)) rfl,?_⟩;refine⟨.gq (by first|rfl|exact j9.symm|exact jF.symm|(rw[j9];rfl)|(rw[jF];rfl)),?_⟩;refine⟨.iz (by first|rfl|exact j9.symm|exact jF.symm|(rw[j9];rfl)|(rw[jF];rfl)),?_⟩;refine⟨.iz (by first|rfl|exact j9.symm|exact jF.symm|(rw[j9];rfl)|(rw[jF];rfl)),?_⟩;refine aC ?_;refine⟨.gq (by first|rfl|exact j9.symm|exact jF.symm|(rw[j9];rfl)|(rw[jF];rfl)),?_⟩;refine aC ?_;refine⟨.iz (by first|rfl|exact j9.symm|exact jF.symm|(rw[j9];rfl)|(rw[jF];rfl)),?_⟩;(iterate 4 refine aC ?_);refine⟨.gq (by first|rfl|exact j9.symm|exact jF.symm|(rw[j9];rfl)|(rw[jF];rfl)),?_⟩;refine⟨.lh (by first|rfl|exact j9.symm|exact jF.symm|(rw[j9];rfl)|(rw[jF];rfl)),?_⟩;refine⟨.gq (by first|rfl|exact j9.symm|exact jF.symm|(rw[j9];rfl)|(rw[jF];rfl)),?_⟩;refine⟨.iz (by first|rfl|exact j9.symm|exact jF.symm|(rw[j9];rfl)|(rw[jF];rfl)),?_⟩;refine aC ?_;refine⟨.gq (by first|rfl|exact j9.symm|exact jF.symm|(rw[j9];rfl)|(rw[jF];rfl)),?_⟩;refine aC ?_;refine⟨.lh (by first|rfl|exact j9.symm|exact jF.symm|(rw[j9];rfl)|(rw[jF];rfl)),?_⟩;(iterate 5 refine aC ?_);refine⟨.lh (by first|rfl|exact j9.symm|exact jF.symm|(rw[j9];rfl)|(rw[jF];rfl)),?_⟩;refine⟨.lh (by first|rfl|exact j9.symm|exact jF.symm|(rw[j9];rfl)|(rw[jF];rfl)),?_⟩;refine⟨.lh (by first|rfl|exact j9.symm|exact jF.symm|(rw[j9];rfl)|(rw[jF];rfl)),?_⟩;refine⟨.lh (by first|rfl|exact j9.symm|exact jF.symm|(rw[j9];rfl)|(rw[jF];rfl)),?_⟩;refine aC ?_;refine⟨.gq (by first|rfl|exact j9.symm|exact jF.symm|(rw[j9];rfl)|(rw[jF];rfl)),?_⟩;refine aC ?_;refine⟨.gq (by first|rfl|exact j9.symm|exact jF.symm|(rw[j9];rfl)|(rw[jF];rfl)),?_⟩;refine⟨.gq (by first|rfl|exact j9.symm|exact jF.symm|(rw[j9];rfl)|(rw[jF];rfl)),?_⟩;refine⟨.iz (by first|rfl|exact j9.symm|exact jF.symm|(rw[j9];rfl)|(rw[jF];rfl)),?_⟩;(iterate 2 refine aC ?_);refine⟨.iz (by first|rfl|exact j9.symm|exact jF.symm|(rw[j9];rfl)|(rw[jF];rfl)),?_⟩;exact trivial)) (by(refine⟨.box _ rfl ?_,?_⟩;refine⟨.gq (by first|rfl|exact j9.symm|exact jF.symm|(rw[j9];rfl)|(rw[jF];rfl)),?_⟩;refine⟨.ff (by first|rfl|exact j9.symm|exact jF.symm|(rw[j9];rfl)|(rw[jF];rfl)) rfl,?_⟩;refine⟨.gq (by first|rfl|exact j9.symm|exact jF.symm|(rw[j9];rfl)|(rw[jF];rfl)),?_⟩;refine⟨.iz (by first|rfl|exact j9.symm|exact jF.symm|(rw[j9];rfl)|(rw[jF];rfl)),?_⟩;refine⟨.ff (by first|rfl|exact j9.symm|exact jF.symm|(rw[j9];rfl)|(rw[jF];rfl)) rfl,?_⟩;refine⟨.lh (by first|rfl|exact j9.symm|exact jF.symm|(rw[j9];rfl)|(rw[jF];rfl)),?_⟩;exact trivial;refine aF ?_;refine⟨.box _ rfl ?_,?_⟩;refine⟨.gq (by first|rfl|exact j9.symm|exact jF.symm|(rw[j9];rfl)|(rw[jF];rfl)),?_⟩;refine⟨.iz (by first|rfl|exact j9.symm|exact jF.symm|(rw[j9];rfl)|(rw[jF];rfl)),?_⟩;refine⟨.gq (by first|rfl|exact j9.symm|exact jF.symm|(rw[j9];rfl)|(rw[jF];rfl)),?_⟩;exact trivial;refine⟨.box _ rfl ?_,?_⟩;refine⟨.gq (by first|rfl|exact j9.symm|exact jF.symm|(rw[j9];rfl)|(rw[jF];rfl)),?_⟩;refine⟨.iz (by first|rfl|exact j9.symm|exact jF.symm|(rw[j9];rfl)|(rw[jF];rfl)),?_⟩;refine⟨.gq (by first|rfl|exact j9.symm|exact jF.symm|(rw[j9];rfl)|(rw[jF];rfl)),?_⟩;exact trivial;(iterate 2 refine aF ?_);exact trivial)) rfl⟩):A:=h
theorem xh {A B:Prop} (h:B) (f:Zh B→A:=by intro eV;refine⟨.box _ rfl ?_,?_⟩;refine aC ?_;exact trivial;exact eV.o):A:=f ⟨h⟩
theorem pJ {A B:Prop} (h:B) (f:Zh B→A:=by intro eV;refine a_.fN rfl rfl rfl ?_;refine a_.fw rfl rfl rfl ?_;exact eV.o):A:=f ⟨h⟩
theorem lK {A B:Prop} (h:B) (f:Zh B→A:=by intro eV;refine za ?_;refine zd ?_;exact eV.o):A:=f ⟨h⟩
theorem iK {A B:Prop} (h:B) (f:Zh B→A:=by intro eV;refine zq ?_;refine nz ?_;exact eV.o):A:=f ⟨h⟩
theorem I6 {A B:Prop} (h:B) (f:Zh B→A:=by intro eV;refine AW.exit ?_;(iterate 2 refine kB ?_);refine iC ?_;refine iB ?_;exact eV.o):A:=f ⟨h⟩
theorem W7 {A:Prop} (h:A:=by exact⟨(i+1,_),⟨by show i+1≤l.length;omega,by show n8 (1000+wS (l.take (i+1))) _;rw[B_ fy,← Nat.add_assoc];exact HI,by show _=(_,_+(i+1));rw[fF];simp [Nat.add_assoc,Nat.add_comm 1 i]⟩,by show l.length - (i+1)<l.length - i;omega,fe rfl (by(refine⟨.gq (by first|rfl|(rw[List.map_append];rfl)),?_⟩;refine⟨.gq (by first|rfl|(rw[List.map_append];rfl)),?_⟩;refine⟨.iz (by first|rfl|(rw[List.map_append];rfl)),?_⟩;(iterate 2 refine aC ?_);refine⟨.iz (by first|rfl|(rw[List.map_append];rfl)),?_⟩;exact trivial)) (by(refine⟨.box _ rfl ?_,?_⟩;refine⟨.gq (by first|rfl|(rw[List.map_append];rfl)),?_⟩;refine⟨.ff (by first|rfl|(rw[List.map_append];rfl)) rfl,?_⟩;refine⟨.gq (by first|rfl|(rw[List.map_append];rfl)),?_⟩;refine⟨.iz (by first|rfl|(rw[List.map_append];rfl)),?_⟩;refine⟨.ff (by first|rfl|(rw[List.map_append];rfl)) rfl,?_⟩;refine⟨.lh (by first|rfl|(rw[List.map_append];rfl)),?_⟩;exact trivial;(iterate 2 refine aF ?_);exact trivial)) rfl⟩):A:=h
theorem Q16 {A B:Prop} (h:B) (f:Zh B→A:=by intro eV;(iterate 3 refine aF ?_);refine⟨.fb rfl rfl,?_⟩;(iterate 3 refine aF ?_);refine⟨.fb rfl rfl,?_⟩;refine aF ?_;exact eV.o):A:=f ⟨h⟩
theorem Q17 {A B:Prop} (h:B) (f:Zh B→A:=by intro eV;(iterate 3 refine aE ?_);refine aD ?_;refine aE ?_;refine aD ?_;(iterate 2 refine aE ?_);(iterate 3 refine aD ?_);refine aE ?_;refine aD ?_;(iterate 2 refine aG ?_);exact eV.o):A:=f ⟨h⟩
theorem GB {A B:Prop} (h:B) (f:Zh B→A:=by intro eV;refine a_.gy rfl rfl rfl rfl rfl rfl rfl rfl rfl (by with_reducible assumption) ?_;exact eV.o):A:=f ⟨h⟩
theorem PX {A B:Prop} (h:B) (f:Zh B→A:=by intro eV;refine ic ?_;(iterate 2 refine gV ?_);refine ic ?_;refine gV ?_;exact eV.o):A:=f ⟨h⟩
theorem CJ {A B:Prop} (h:B) (f:Zh B→A:=by intro eV;refine a_.D4 rfl rfl rfl rfl rfl (by assumption) rfl ?_;exact eV.o):A:=f ⟨h⟩
theorem VR {A:Prop} (h:A:=by exact⟨i+1,by omega,by omega,fe rfl (by(refine⟨.gq (by first|rfl|(rw[Ev,List.map_append];rfl)),?_⟩;refine⟨.gq (by first|rfl|(rw[Ev,List.map_append];rfl)),?_⟩;refine⟨.iz (by first|rfl|(rw[Ev,List.map_append];rfl)),?_⟩;(iterate 2 refine aC ?_);refine⟨.lh (by first|rfl|(rw[Ev,List.map_append];rfl)),?_⟩;refine⟨.iz (by first|rfl|(rw[Ev,List.map_append];rfl)),?_⟩;refine⟨.gq (by first|rfl|(rw[Ev,List.map_append];rfl)),?_⟩;exact trivial)) (by(refine⟨.box _ rfl ?_,?_⟩;refine⟨.ff (by first|rfl|(rw[Ev,List.map_append];rfl)) rfl,?_⟩;exact trivial;refine aF ?_;exact trivial)) rfl⟩):A:=h
theorem U_ {A:Prop} (h:A:=by refine⟨.box _ rfl ?_,?_⟩;(iterate 3 refine aC ?_);exact trivial;refine xh ?_;refine aF ?_;exact trivial):A:=h
theorem Tu {A B:Prop} (h:B) (f:Zh B→A:=by intro eV;refine nz ?_;refine zq ?_;refine a_.box rfl rfl rfl rfl ?_;refine nz ?_;refine a_.box rfl rfl rfl rfl ?_;refine nz ?_;refine a_.rO rfl rfl rfl rfl ?_;refine nz ?_;refine lK ?_;refine iK ?_;refine a_.fX rfl rfl rfl ?_;refine a_.c_ 79 1 1 rfl rfl rfl rfl ?_;refine zb ?_;refine zA (pa) ?_;refine lK ?_;refine iK ?_;refine a_.fX rfl rfl rfl ?_;refine a_.c_ 79 2 2 rfl rfl rfl rfl ?_;refine zb ?_;refine zA (pb) ?_;refine lK ?_;refine zo ?_;refine iK ?_;refine a_.c_ 79 0 0 rfl rfl rfl rfl ?_;refine zb ?_;refine a_.TO rfl rfl rfl rfl rfl (by omega) ?_;refine zd ?_;refine AW.block ?_;refine iK ?_;refine a_.Rp rfl rfl rfl rfl rfl ?_;refine lK ?_;exact eV.o):A:=f ⟨h⟩
theorem Ye {A:Prop} (h:A:=by exact⟨j+1,⟨by omega,Cl⟩,by omega,fe rfl (by(first|(refine aC ?_;(iterate 41 refine aC ?_);exact trivial)|(refine aC ?_;(iterate 34 refine aC ?_);exact trivial)|(refine aC ?_;(iterate 6 refine aC ?_);exact trivial)|(refine aC ?_;(iterate 5 refine aC ?_);exact trivial))) (by(first|(refine⟨.box _ rfl ?_,?_⟩;refine aC ?_;exact trivial;refine⟨.box _ rfl ?_,?_⟩;refine aC ?_;exact trivial;refine⟨.box _ rfl ?_,?_⟩;(iterate 3 refine aC ?_);exact trivial;refine⟨.box _ rfl ?_,?_⟩;refine aC ?_;exact trivial;refine⟨.box _ rfl ?_,?_⟩;(iterate 3 refine aC ?_);exact trivial;refine⟨.box _ rfl ?_,?_⟩;(iterate 6 refine aC ?_);exact trivial;(iterate 2 refine aF ?_);exact trivial)|(refine⟨.box _ rfl ?_,?_⟩;refine aC ?_;exact trivial;refine⟨.box _ rfl ?_,?_⟩;(iterate 3 refine aC ?_);exact trivial;refine⟨.box _ rfl ?_,?_⟩;(iterate 3 refine aC ?_);exact trivial;refine⟨.box _ rfl ?_,?_⟩;(iterate 6 refine aC ?_);exact trivial;(iterate 2 refine aF ?_);exact trivial)|(refine⟨.box _ rfl ?_,?_⟩;(iterate 4 refine aC ?_);refine⟨.jN _ _ _ rfl rfl,?_⟩;refine aC ?_;exact trivial;refine⟨.iW rfl,?_⟩;refine aF ?_;refine⟨.box _ rfl ?_,?_⟩;(iterate 2 refine aC ?_);(iterate 2 exact trivial))|(refine⟨.box _ rfl ?_,?_⟩;(iterate 6 refine aC ?_);exact trivial;(iterate 2 refine aF ?_);exact trivial))) rfl⟩):A:=h
theorem Q25 {A B:Prop} (h:B) (f:Zh B→A:=by intro eV;(iterate 3 refine⟨.ff (by first|rfl|exact iZ _ _ _) rfl,?_⟩);refine⟨.fm (by first|rfl|exact iZ _ _ _),?_⟩;refine⟨.ff (by first|rfl|exact iZ _ _ _) rfl,?_⟩;refine⟨.fm (by first|rfl|exact iZ _ _ _),?_⟩;(iterate 2 refine⟨.ff (by first|rfl|exact iZ _ _ _) rfl,?_⟩);(iterate 3 refine⟨.fm (by first|rfl|exact iZ _ _ _),?_⟩);refine⟨.ff (by first|rfl|exact iZ _ _ _) rfl,?_⟩;refine⟨.fm (by first|rfl|exact iZ _ _ _),?_⟩;(iterate 2 refine⟨.iz (by first|rfl|exact iZ _ _ _),?_⟩);exact eV.o):A:=f ⟨h⟩
theorem tw {A B:Prop} (h:B) (f:Zh B→A:=by intro eV;refine a_.xR rfl rfl rfl rfl rfl rfl rfl (by omega) (by omega) ?_;exact eV.o):A:=f ⟨h⟩
theorem s9 {A B:Prop} (h:B) (f:Zh B→A:=by intro eV;(conv=>rhs;simp only[Nf.en0,Nf.en1,Nf.pi0,Nf.pir,Nf.pib,Nf.pim,Nf.pit,Nf.piP,Nf.cn,Nf.nn,Nat.reduceAdd,Nat.zero_add]);exact eV.o):A:=f ⟨h⟩
theorem mX {A B:Prop} (h:B) (f:Zh B→A:=by intro eV;refine Q3 ?_;(try refine nz ?_);exact eV.o):A:=f ⟨h⟩
theorem Yg {A:Prop} (h:A:=by exact⟨(⟨sl,rest,op,to,i+1,z1,z2⟩:AQ),sO,by show(s.cl j).length - (i+1)<(s.cl j).length - i;omega,fe rfl (by(refine aE ?_;refine aE ?_;(iterate 8 refine aD ?_);(iterate 2 refine aC ?_);exact trivial)) (by(refine aF ?_;refine aF ?_;refine⟨.box _ rfl ?_,?_⟩;(iterate 3 refine aE ?_);refine aD ?_;refine aE ?_;refine aD ?_;(iterate 2 refine aE ?_);(iterate 3 refine aD ?_);refine aE ?_;refine aD ?_;(iterate 2 refine aG ?_);exact trivial;(iterate 3 refine aF ?_);refine aH ?_;(iterate 2 refine aF ?_);refine aH ?_;refine aF ?_;refine aH ?_;refine aF ?_;exact trivial)) rfl⟩):A:=h
theorem Zn {A:Prop} (h:A:=by exact fe rfl (by(first|(refine aC ?_;refine⟨.jN _ _ _ rfl rfl,?_⟩;(iterate 11 refine aC ?_);exact trivial)|(refine aC ?_;(iterate 12 refine aC ?_);exact trivial)|(refine aC ?_;(iterate 6 refine aC ?_);exact trivial)|(refine aC ?_;(iterate 3 refine aC ?_);exact trivial)|(refine aC ?_;exact trivial))) (by(first|(refine⟨.set rfl,?_⟩;refine⟨.box _ rfl ?_,?_⟩;(iterate 6 refine aC ?_);exact trivial;refine⟨.box _ rfl ?_,?_⟩;refine aC ?_;exact trivial;(iterate 2 refine aF ?_);refine⟨.loop rfl,?_⟩;refine⟨.iW rfl,?_⟩;exact trivial)|(refine⟨.set rfl,?_⟩;refine⟨.box _ rfl ?_,?_⟩;(iterate 6 refine aC ?_);exact trivial;refine⟨.box _ rfl ?_,?_⟩;refine aC ?_;exact trivial;(iterate 2 refine aF ?_);refine⟨.loop rfl,?_⟩;refine aF ?_;exact trivial)|(refine⟨.set rfl,?_⟩;refine⟨.box _ rfl ?_,?_⟩;(iterate 6 refine aC ?_);exact trivial;refine⟨.box _ rfl ?_,?_⟩;refine aC ?_;exact trivial;(iterate 2 refine aF ?_);refine⟨.loop rfl,?_⟩;exact trivial)|(refine⟨.box _ rfl ?_,?_⟩;refine⟨.fbox rfl rfl (by repeat (first|exact Iu.nil|refine .cons (.any _) ?_|refine .cons (.pv _) ?_|refine .cons (.own rfl rfl) ?_|refine .cons (.nil _) ?_)),?_⟩;(iterate 2 exact trivial)))) rfl):A:=h
theorem uH {A B:Prop} (h:B) (f:Zh B→A:=by intro eV;refine ix ?_;refine iB ?_;refine AW.region ?_;exact eV.o):A:=f ⟨h⟩
theorem wx {A B:Prop} (h:B) (f:Zh B→A:=by intro eV;refine pJ ?_;refine a_.c_ 96 0 0 rfl rfl rfl rfl ?_;exact eV.o):A:=f ⟨h⟩
theorem WG {A B:Prop} (h:B) (f:Zh B→A:=by intro eV;refine zy ?_;refine a_.fN rfl rfl rfl ?_;refine zy ?_;refine a_.fw rfl rfl rfl ?_;refine zy ?_;refine a_.c_ 73 0 0 rfl rfl rfl rfl ?_;refine zy ?_;refine a_.c_ 24 0 0 rfl rfl rfl rfl ?_;refine zy ?_;exact eV.o):A:=f ⟨h⟩
theorem Qs {A:Prop} (h:A:=by refine⟨.box _ rfl ?_,?_⟩;refine aC ?_;(iterate 2 exact trivial)):A:=h
theorem Cj {A B:Prop} (h:B) (f:Zh B→A:=by intro eV;refine zq ?_;refine zs ?_;refine zd ?_;refine zo ?_;refine Q6 ?_;refine iK ?_;exact eV.o):A:=f ⟨h⟩
theorem ku {A B:Prop} (h:B) (f:Zh B→A:=by intro eV;refine lK ?_;refine AW.ret ?_;exact eV.o):A:=f ⟨h⟩
theorem mV {A B:Prop} (h:B) (f:Zh B→A:=by intro eV;refine a_.rO rfl rfl rfl rfl ?_;refine nz ?_;exact eV.o):A:=f ⟨h⟩
theorem Cq {A B:Prop} (h:B) (f:Zh B→A:=by intro eV;refine AR.Gt (by assumption) (by kernel_rfl) ?_;refine iB ?_;exact eV.o):A:=f ⟨h⟩
theorem XO {A:Prop} (h:A:=by exact⟨k+1,by omega,by omega,fe rfl (by(refine aC ?_;refine⟨.iz (by first|with_reducible rfl|(rw[Bg];first|done|rfl|(rw[List.map_append];rfl))),?_⟩;refine⟨.gq (by first|with_reducible rfl|(rw[Bg];first|done|rfl|(rw[List.map_append];rfl))),?_⟩;refine aC ?_;exact trivial)) (by(refine⟨.T8 rfl (by rw[Bg];first|done|rfl|(rw[List.map_append];rfl)),?_⟩;refine⟨.box _ rfl ?_,?_⟩;refine⟨.gq (by first|with_reducible rfl|(rw[Bg];first|done|rfl|(rw[List.map_append];rfl))),?_⟩;refine⟨.iz (by first|with_reducible rfl|(rw[Bg];first|done|rfl|(rw[List.map_append];rfl))),?_⟩;refine⟨.ff (by first|with_reducible rfl|(rw[Bg];first|done|rfl|(rw[List.map_append];rfl))) rfl,?_⟩;refine⟨.ff (by first|with_reducible rfl|(rw[Bg];first|done|rfl|(rw[List.map_append];rfl))) rfl,?_⟩;refine aC ?_;refine⟨.gq (by first|with_reducible rfl|(rw[Bg];first|done|rfl|(rw[List.map_append];rfl))),?_⟩;exact trivial;refine⟨.box _ rfl ?_,?_⟩;refine aC ?_;exact trivial;(iterate 2 refine aF ?_);exact trivial)) rfl⟩):A:=h
theorem WS {A:Prop} (h:A:=by exact⟨(i+1,gs',refs++ [r]),⟨by show i+1≤l.length;omega,jY.symm⟩,by show l.length - (i+1)<l.length - i;omega,fe rfl (by(refine⟨.gq (by first|rfl|(rw[List.map_append];rfl)),?_⟩;refine⟨.ff (by first|rfl|(rw[List.map_append];rfl)) rfl,?_⟩;(iterate 3 refine aC ?_);refine⟨.iz (by first|rfl|(rw[List.map_append];rfl)),?_⟩;exact trivial)) (by(refine⟨.box _ rfl ?_,?_⟩;refine⟨.iz (by first|rfl|(rw[List.map_append];rfl)),?_⟩;exact trivial;refine aF ?_;refine⟨.box _ rfl ?_,?_⟩;refine aC ?_;(iterate 2 exact trivial))) rfl⟩):A:=h
theorem W_ {A B:Prop} (h:B) (f:Zh B→A:=by intro eV;refine a_.fw rfl rfl rfl ?_;refine a_.c_ 73 0 0 rfl rfl rfl rfl ?_;refine a_.c_ 24 1 1 rfl rfl rfl rfl ?_;exact eV.o):A:=f ⟨h⟩
theorem xB {A B:Prop} (h:B) (f:Zh B→A:=by intro eV;refine zm ?_;refine zy ?_;refine zm ?_;refine zy ?_;exact eV.o):A:=f ⟨h⟩
theorem Jt {A:Prop} (h:A:=by(iterate 15 refine aC ?_);exact trivial):A:=h
theorem Y8 {A B:Prop} (h:B) (f:Zh B→A:=by intro eV;refine zl ?_;refine a_.not rfl rfl rfl ?_;refine a_.kr rfl rfl rfl rfl rfl rfl ?_;exact eV.o):A:=f ⟨h⟩
theorem tK {A B:Prop} (h:B) (f:Zh B→A:=by intro eV;refine a_.extract rfl rfl rfl rfl ?_;refine mX ?_;exact eV.o):A:=f ⟨h⟩
theorem Vo {A B:Prop} (h:B) (f:Zh B→A:=by intro eV;refine zq ?_;refine Q0 ?_;refine pJ ?_;refine a_.c_ 96 5 10 rfl rfl rfl rfl ?_;refine zb ?_;refine zm ?_;refine CJ ?_;refine zm ?_;refine CJ ?_;refine a_.neq rfl rfl rfl rfl rfl ?_;refine CJ ?_;refine zm ?_;(iterate 7 refine a_.gE rfl rfl rfl rfl rfl rfl rfl ?_);refine CJ ?_;refine a_.kr rfl rfl rfl rfl rfl rfl ?_;refine a_.F1 rfl rfl (by assumption) rfl rfl rfl rfl ?_;refine lK ?_;refine AW.j8 rfl rfl ?_;refine zq ?_;refine Q0 ?_;refine zm ?_;refine a_.neq rfl rfl rfl rfl rfl ?_;refine lK ?_;refine AW.j8 rfl rfl ?_;refine zq ?_;refine Q0 ?_;refine wx ?_;refine a_.c_ 94 4 4 rfl rfl rfl rfl ?_;refine zb ?_;refine a_.hY rfl rfl rfl rfl ?_;refine zm ?_;refine zn ?_;refine zs ?_;refine lK ?_;exact eV.o):A:=f ⟨h⟩
theorem uD {A B:Prop} (h:B) (f:Zh B→A:=by intro eV;refine zd ?_;refine zk ?_;refine AW.skip ?_;refine iB ?_;exact eV.o):A:=f ⟨h⟩
theorem DN {A:Prop} (h:A:=by refine aF ?_;refine⟨.fb rfl rfl,?_⟩;refine⟨.box _ rfl ?_,?_⟩;exact Jt;refine Q16 ?_;exact trivial):A:=h
theorem ui {A B:Prop} (h:B) (f:Zh B→A:=by intro eV;refine oG rfl rfl ?_;refine nz ?_;exact eV.o):A:=f ⟨h⟩
theorem Q50 {A B:Prop} (h:B) (f:Zh B→A:=by intro eV;(iterate 3 refine⟨.ff (by first|rfl|exact fZ _ n4.2 _) rfl,?_⟩);refine⟨.fm (by first|rfl|exact fZ _ n4.2 _),?_⟩;refine⟨.ff (by first|rfl|exact fZ _ n4.2 _) rfl,?_⟩;refine⟨.fm (by first|rfl|exact fZ _ n4.2 _),?_⟩;(iterate 2 refine⟨.ff (by first|rfl|exact fZ _ n4.2 _) rfl,?_⟩);(iterate 3 refine⟨.fm (by first|rfl|exact fZ _ n4.2 _),?_⟩);refine⟨.ff (by first|rfl|exact fZ _ n4.2 _) rfl,?_⟩;refine⟨.fm (by first|rfl|exact fZ _ n4.2 _),?_⟩;(iterate 2 refine⟨.iz (by first|rfl|exact fZ _ n4.2 _),?_⟩);exact eV.o):A:=f ⟨h⟩
theorem Cw {A B:Prop} (h:B) (f:Zh B→A:=by intro eV;refine a_.mG rfl rfl rfl rfl rfl rfl (by with_reducible assumption) ?_;exact eV.o):A:=f ⟨h⟩
theorem wy {A B:Prop} (h:B) (f:Zh B→A:=by intro eV;refine Q3 ?_;refine AR.im (i:=7) rfl (by kernel_rfl) rfl (by kernel_rfl) ?_;exact eV.o):A:=f ⟨h⟩
theorem JF {A B:Prop} (h:B) (f:Zh B→A:=by intro eV;refine mV ?_;refine mX ?_;refine Q5 ?_;refine AR.gc [6,1,2,0] rfl ?_;(conv=>rhs;simp only[gcE,kO0,Zd,Ek,xu,Nat.reduceBEq,cond_true,cond_false]);exact eV.o):A:=f ⟨h⟩
theorem JD {A B:Prop} (h:B) (f:Zh B→A:=by intro eV;(iterate 2 refine zm ?_);refine a_.neg rfl rfl rfl (by omega) ?_;refine a_.max2 rfl rfl rfl rfl rfl ?_;exact eV.o):A:=f ⟨h⟩
theorem Q55 {A:Prop} (h:A:=by exact⟨((l,i+1):List Int×Nat),sO,by show c.length - (i+1)<c.length - i;omega,fe rfl (by(refine aE ?_;(iterate 2 refine aD ?_);refine aG ?_;refine aC ?_;refine aG ?_;refine aC ?_;exact trivial)) (by(refine aF ?_;refine⟨.box _ rfl ?_,?_⟩;(iterate 3 refine aE ?_);refine aD ?_;refine aE ?_;refine aD ?_;(iterate 2 refine aE ?_);(iterate 3 refine aD ?_);refine aE ?_;refine aD ?_;(iterate 2 refine aG ?_);exact trivial;(iterate 3 refine aF ?_);refine aH ?_;(iterate 2 refine aF ?_);refine aH ?_;refine aF ?_;refine aH ?_;refine aF ?_;exact trivial)) rfl⟩):A:=h
theorem kJ {A B:Prop} (h:B) (f:Zh B→A:=by intro eV;refine zq ?_;refine Q0 ?_;exact eV.o):A:=f ⟨h⟩
theorem Ci {A B:Prop} (h:B) (f:Zh B→A:=by intro eV;refine zd ?_;refine AW.j8 rfl rfl ?_;refine AW.skip ?_;exact eV.o):A:=f ⟨h⟩
theorem MU {A B:Prop} (h:B) (f:Zh B→A:=by intro eV;refine a_.box rfl rfl rfl rfl ?_;refine nz ?_;exact eV.o):A:=f ⟨h⟩
theorem yf {A B:Prop} (h:B) (f:Zh B→A:=by intro eV;refine lK ?_;refine zo ?_;refine iK ?_;refine zm ?_;exact eV.o):A:=f ⟨h⟩
theorem IB {A B:Prop} (h:B) (f:Zh B→A:=by intro eV;refine zy ?_;refine a_.c_ 44 1 1 rfl rfl rfl rfl ?_;refine zy ?_;refine zb ?_;refine zy ?_;exact eV.o):A:=f ⟨h⟩
theorem UD {A:Prop} (h:A:=by refine⟨.box _ rfl ?_,?_⟩;refine Q25 ?_;exact trivial;(iterate 3 refine aF ?_);refine⟨.fb rfl (by first|rfl|exact iZ _ _ _),?_⟩;(iterate 2 refine aF ?_);refine⟨.fb rfl (by first|rfl|exact iZ _ _ _),?_⟩;refine aF ?_;refine⟨.fb rfl (by first|rfl|exact iZ _ _ _),?_⟩;refine aF ?_;exact trivial):A:=h
theorem xr {A B:Prop} (h:B) (f:Zh B→A:=by intro eV;refine Q3 ?_;refine AR.im (i:=6) rfl (by kernel_rfl) rfl (by kernel_rfl) ?_;exact eV.o):A:=f ⟨h⟩
theorem Q63 {A:Prop} (h:A:=by exact⟨(sl,ds,k),⟨sO,show k≤(s.ll 0).length by omega⟩,by show k<k+1;omega,fe rfl (by(refine aE ?_;refine aE ?_;(iterate 2 refine aD ?_);(iterate 2 refine aC ?_);exact trivial)) (by(refine aF ?_;refine aF ?_;refine⟨.box _ rfl ?_,?_⟩;(iterate 3 refine aE ?_);refine aD ?_;refine aE ?_;refine aD ?_;(iterate 2 refine aE ?_);(iterate 3 refine aD ?_);refine aE ?_;refine aD ?_;(iterate 2 refine aG ?_);exact trivial;(iterate 3 refine aF ?_);refine aH ?_;(iterate 2 refine aF ?_);refine aH ?_;refine aF ?_;refine aH ?_;refine aF ?_;exact trivial)) rfl⟩):A:=h
theorem Q64 {A:Prop} (h:A:=by exact⟨((m,i+1):Nat×Nat),⟨F9,qM,fy,i_⟩,by show(u.cl u.nc).length - (i+1)<(u.cl u.nc).length - i;omega,fe rfl (by(refine aD ?_;(iterate 2 refine aD ?_);refine aC ?_;refine aD ?_;refine aC ?_;exact trivial)) (by(refine⟨.box _ rfl ?_,?_⟩;(iterate 3 refine aE ?_);refine aD ?_;refine aE ?_;refine aD ?_;(iterate 2 refine aE ?_);(iterate 3 refine aD ?_);refine aE ?_;refine aD ?_;(iterate 2 refine aG ?_);exact trivial;(iterate 3 refine aF ?_);refine aH ?_;(iterate 2 refine aF ?_);refine aH ?_;refine aF ?_;refine aH ?_;refine aF ?_;exact trivial)) rfl⟩):A:=h
theorem Vd {A B:Prop} (h:B) (f:Zh B→A:=by intro eV;refine zt ?_;refine a_.fN rfl rfl rfl ?_;refine zt ?_;refine a_.fw rfl rfl rfl ?_;refine zt ?_;exact eV.o):A:=f ⟨h⟩
theorem Q66 {A:Prop} (h:A:=by exact⟨(i+1,_),⟨by show i+1≤l.length;omega,by show n8 (1000+wS (l.take (i+1))) _;rw[B_ fy,← Nat.add_assoc];exact HI,by show _=(_,_+(i+1));rw[fF];simp [Nat.add_assoc,Nat.add_comm 1 i]⟩,by show l.length - (i+1)<l.length - i;omega,fe rfl (by(refine⟨.gq (by first|rfl|(unfold defs;simp)),?_⟩;refine⟨.gq (by first|rfl|(unfold defs;simp)),?_⟩;refine⟨.iz (by first|rfl|(unfold defs;simp)),?_⟩;(iterate 2 refine aC ?_);refine⟨.iz (by first|rfl|(unfold defs;simp)),?_⟩;exact trivial)) (by(refine⟨.box _ rfl ?_,?_⟩;refine⟨.gq (by first|rfl|(unfold defs;simp)),?_⟩;refine⟨.ff (by first|rfl|(unfold defs;simp)) rfl,?_⟩;refine⟨.gq (by first|rfl|(unfold defs;simp)),?_⟩;refine⟨.iz (by first|rfl|(unfold defs;simp)),?_⟩;refine⟨.ff (by first|rfl|(unfold defs;simp)) rfl,?_⟩;refine⟨.lh (by first|rfl|(unfold defs;simp)),?_⟩;exact trivial;(iterate 2 refine aF ?_);exact trivial)) rfl⟩):A:=h
theorem Q67 {A:Prop} (h:A:=by exact fe rfl (by(refine aD ?_;(iterate 9 refine aD ?_);(iterate 2 refine aC ?_);exact trivial)) (by(refine⟨.box _ rfl ?_,?_⟩;(iterate 3 refine aE ?_);refine aD ?_;refine aE ?_;refine aD ?_;(iterate 2 refine aE ?_);(iterate 3 refine aD ?_);refine aE ?_;refine aD ?_;(iterate 2 refine aG ?_);exact trivial;(iterate 3 refine aF ?_);refine aH ?_;(iterate 2 refine aF ?_);refine aH ?_;refine aF ?_;refine aH ?_;refine aF ?_;exact trivial)) rfl):A:=h
theorem tE {A B:Prop} (h:B) (f:Zh B→A:=by intro eV;refine a_.oE rfl rfl rfl rfl rfl rfl rfl rfl ?_;refine nz ?_;exact eV.o):A:=f ⟨h⟩
theorem CD {A B:Prop} (h:B) (f:Zh B→A:=by intro eV;(try refine nz ?_);refine zq ?_;refine a_.vz rfl rfl rfl ?_;refine zm ?_;refine a_.mR rfl rfl rfl ?_;refine ku ?_;refine PX ?_;exact eV.o):A:=f ⟨h⟩
theorem xj {A B:Prop} (h:B) (f:Zh B→A:=by intro eV;refine zd ?_;refine AW.oQ rfl rfl ?_;exact eV.o):A:=f ⟨h⟩
theorem GF {A:Prop} (h:A:=by refine mX ?_;refine AR.meet ni (by kernel_rfl) (fun g_=>fe rfl ?_ ?_ rfl);(iterate 26 refine aC ?_);exact trivial;exact U_):A:=h
theorem Q72 {A B:Prop} (h:B) (f:Zh B→A:=by intro eV;(iterate 3 refine aF ?_);refine aH ?_;(iterate 2 refine aF ?_);refine aH ?_;refine aF ?_;refine aH ?_;exact eV.o):A:=f ⟨h⟩
theorem rz {A B:Prop} (h:B) (f:Zh B→A:=by intro eV;refine lK ?_;refine iK ?_;exact eV.o):A:=f ⟨h⟩
theorem GW {A B:Prop} (h:B) (f:Zh B→A:=by intro eV;(iterate 2 refine a_.fN rfl rfl rfl ?_);refine a_.fw rfl rfl rfl ?_;exact eV.o):A:=f ⟨h⟩
theorem Q75 {A B:Prop} (h:B) (f:Zh B→A:=by intro eV;refine⟨.fm (by first|with_reducible rfl|(rfl)),?_⟩;refine aC ?_;exact eV.o):A:=f ⟨h⟩
theorem P5 {A B:Prop} (h:B) (f:Zh B→A:=by intro eV;refine a_.c_ 44 2 2 rfl rfl rfl rfl ?_;refine zb ?_;refine a_.neq rfl rfl rfl rfl rfl ?_;exact eV.o):A:=f ⟨h⟩
theorem Cp {A B:Prop} (h:B) (f:Zh B→A:=by intro eV;refine zq ?_;refine zs ?_;refine zd ?_;refine zo ?_;refine zk ?_;refine I6 ?_;exact eV.o):A:=f ⟨h⟩
theorem Hf {A:Prop} (h:A:=by refine mX ?_;refine AR.meet lF (by kernel_rfl) (fun g_=>fe rfl ?_ ?_ rfl);(iterate 27 refine aC ?_);exact trivial;exact U_):A:=h
theorem TD {A B:Prop} (h:B) (f:Zh B→A:=by intro eV;refine zm ?_;refine CJ ?_;refine a_.fN rfl rfl rfl ?_;refine CJ ?_;refine a_.fw rfl rfl rfl ?_;refine CJ ?_;refine a_.c_ 96 0 0 rfl rfl rfl rfl ?_;refine CJ ?_;refine a_.c_ 94 1 1 rfl rfl rfl rfl ?_;refine CJ ?_;refine zb ?_;refine CJ ?_;refine zm ?_;refine CJ ?_;refine tw ?_;refine CJ ?_;exact eV.o):A:=f ⟨h⟩
theorem Oe {A:Prop} (h:A:=by refine xh ?_;refine xh ?_;refine aF ?_;exact Qs):A:=h
theorem qP {A B:Prop} (h:B) (f:Zh B→A:=by intro eV;refine ku ?_;refine gV ?_;exact eV.o):A:=f ⟨h⟩
theorem Q82 {A B:Prop} (h:B) (f:Zh B→A:=by intro eV;(iterate 3 refine⟨.ff (by first|rfl|exact fZ _ ET.2 _|simp only[fC _ _ gn]) rfl,?_⟩);refine⟨.fm (by first|rfl|exact fZ _ ET.2 _|simp only[fC _ _ gn]),?_⟩;refine⟨.ff (by first|rfl|exact fZ _ ET.2 _|simp only[fC _ _ gn]) rfl,?_⟩;refine⟨.fm (by first|rfl|exact fZ _ ET.2 _|simp only[fC _ _ gn]),?_⟩;(iterate 2 refine⟨.ff (by first|rfl|exact fZ _ ET.2 _|simp only[fC _ _ gn]) rfl,?_⟩);(iterate 3 refine⟨.fm (by first|rfl|exact fZ _ ET.2 _|simp only[fC _ _ gn]),?_⟩);refine⟨.ff (by first|rfl|exact fZ _ ET.2 _|simp only[fC _ _ gn]) rfl,?_⟩;refine⟨.fm (by first|rfl|exact fZ _ ET.2 _|simp only[fC _ _ gn]),?_⟩;(iterate 2 refine⟨.iz (by first|rfl|exact fZ _ ET.2 _|simp only[fC _ _ gn]),?_⟩);exact eV.o):A:=f ⟨h⟩
theorem PI {A B:Prop} (h:B) (f:Zh B→A:=by intro eV;refine a_.SC rfl rfl rfl rfl rfl (by omega) ?_;refine a_.eql rfl rfl rfl rfl rfl ?_;exact eV.o):A:=f ⟨h⟩
theorem oy {A B:Prop} (h:B) (f:Zh B→A:=by intro eV;refine Q0 ?_;refine Q3 ?_;exact eV.o):A:=f ⟨h⟩
theorem Qf {A B:Prop} (h:B) (f:Zh B→A:=by intro eV;refine zj ?_;refine zm ?_;refine zd ?_;exact eV.o):A:=f ⟨h⟩
theorem OU {A B:Prop} (h:B) (f:Zh B→A:=by intro eV;refine⟨.set rfl,?_⟩;refine⟨.box _ rfl ?_,?_⟩;(iterate 6 refine aC ?_);exact trivial;refine xh ?_;(iterate 2 refine aF ?_);refine⟨.loop rfl,?_⟩;exact eV.o):A:=f ⟨h⟩
theorem PQ {A B:Prop} (h:B) (f:Zh B→A:=by intro eV;refine a_.tG rfl rfl rfl rfl rfl rfl rfl rfl rfl rfl (by omega) ?_;exact eV.o):A:=f ⟨h⟩
theorem Fc {A B:Prop} (h:B) (f:Zh B→A:=by intro eV;refine a_.c_ 94 3 3 rfl rfl rfl rfl ?_;refine zb ?_;exact eV.o):A:=f ⟨h⟩
theorem W9 {A B:Prop} (h:B) (f:Zh B→A:=by intro eV;refine a_.fw rfl rfl rfl ?_;refine a_.c_ 73 4 5 rfl rfl rfl rfl ?_;refine GB ?_;refine nz ?_;refine a_.nil ?_;refine kF ?_;refine nz ?_;exact eV.o):A:=f ⟨h⟩
theorem Q90 {A B:Prop} (h:B) (f:Zh B→A:=by intro eV;refine zb ?_;refine a_.fw rfl rfl rfl ?_;refine a_.c_ 73 0 0 rfl rfl rfl rfl ?_;refine a_.c_ 24 0 0 rfl rfl rfl rfl ?_;refine zb ?_;refine a_.c_ 44 1 1 rfl rfl rfl rfl ?_;refine zb ?_;refine zA (hw) ?_;refine a_.not rfl rfl rfl ?_;refine zm ?_;refine zl ?_;refine a_.c_ 44 2 2 rfl rfl rfl rfl ?_;refine zl ?_;refine zb ?_;refine zl ?_;refine zs ?_;refine a_.kr rfl rfl rfl rfl rfl rfl ?_;refine zm ?_;refine zy ?_;refine a_.c_ 44 2 2 rfl rfl rfl rfl ?_;refine zy ?_;refine zb ?_;refine zy ?_;refine zb ?_;refine zy ?_;refine a_.fw rfl rfl rfl ?_;refine zy ?_;refine a_.c_ 73 2 3 rfl rfl rfl rfl ?_;refine zy ?_;refine zb ?_;refine zy ?_;refine zn ?_;refine zy ?_;refine a_.geq rfl rfl rfl rfl rfl ?_;refine zF ?_;refine zm ?_;exact eV.o):A:=f ⟨h⟩
theorem ZO {A:Prop} (h:A:=by refine⟨.set rfl,?_⟩;refine⟨.box _ rfl ?_,?_⟩;refine⟨.gq (by first|with_reducible rfl|(first|(rw[List.map_append];rfl)|rfl)),?_⟩;refine⟨.iz (by first|with_reducible rfl|(first|(rw[List.map_append];rfl)|rfl)),?_⟩;refine⟨.ff (by first|with_reducible rfl|(first|(rw[List.map_append];rfl)|rfl)) rfl,?_⟩;refine⟨.ff (by first|with_reducible rfl|(first|(rw[List.map_append];rfl)|rfl)) rfl,?_⟩;refine aC ?_;refine⟨.gq (by first|with_reducible rfl|(first|(rw[List.map_append];rfl)|rfl)),?_⟩;exact trivial;refine xh ?_;(iterate 2 refine aF ?_);refine⟨.loop rfl,?_⟩;exact trivial):A:=h
theorem B8 {A B:Prop} (h:B) (f:Zh B→A:=by intro eV;refine a_.n6 rfl rfl rfl ?_;refine zd ?_;exact eV.o):A:=f ⟨h⟩
theorem Jy {A B:Prop} (h:B) (f:Zh B→A:=by intro eV;refine AW.exit ?_;refine kB ?_;refine iC ?_;refine iB ?_;refine AW.region ?_;exact eV.o):A:=f ⟨h⟩
theorem AM {A B:Prop} (h:B) (f:Zh B→A:=by intro eV;refine AR.im (i:=12) rfl (by kernel_rfl) rfl (by kernel_rfl) ?_;exact eV.o):A:=f ⟨h⟩
theorem XI {A B:Prop} (h:B) (f:Zh B→A:=by intro eV;refine zq ?_;refine MU ?_;refine mV ?_;refine rz ?_;refine a_.c_ 50 0 0 rfl rfl rfl rfl ?_;refine zb ?_;refine zn ?_;refine a_.mul rfl rfl rfl rfl rfl (by omega) ?_;refine yf ?_;refine zs ?_;refine xB ?_;refine zs ?_;refine zF ?_;refine xB ?_;refine zm ?_;refine zy ?_;refine a_.geq rfl rfl rfl rfl rfl ?_;refine zF ?_;refine xB ?_;refine zm ?_;refine zy ?_;refine a_.geq rfl rfl rfl rfl rfl ?_;refine zF ?_;refine uD ?_;refine zo ?_;refine iK ?_;refine zm ?_;refine a_.eql rfl rfl rfl rfl rfl ?_;refine xB ?_;refine a_.eql rfl rfl rfl rfl rfl ?_;refine zF ?_;refine xB ?_;refine zm ?_;refine zy ?_;refine zA (hn) ?_;refine zy ?_;refine a_.eql rfl rfl rfl rfl rfl ?_;refine zF ?_;refine uD ?_;refine zo ?_;refine iK ?_;refine zm ?_;refine a_.eql rfl rfl rfl rfl rfl ?_;exact eV.o):A:=f ⟨h⟩
theorem Vx {A:Prop} (h:A:=by refine xh ?_;refine⟨.box _ rfl ?_,?_⟩;(iterate 3 refine aC ?_);exact trivial;refine xh ?_;refine⟨.box _ rfl ?_,?_⟩;(iterate 3 refine aC ?_);exact trivial;refine⟨.box _ rfl ?_,?_⟩;(iterate 6 refine aC ?_);exact trivial;(iterate 2 refine aF ?_);exact trivial):A:=h
theorem WY {A B:Prop} (h:B) (f:Zh B→A:=by intro eV;refine nz ?_;refine W_ ?_;refine GB ?_;refine nz ?_;refine zd ?_;refine AW.region ?_;refine GW ?_;refine a_.c_ 73 4 5 rfl rfl rfl rfl ?_;exact eV.o):A:=f ⟨h⟩
theorem TG {A B:Prop} (h:B) (f:Zh B→A:=by intro eV;refine a_.FC rfl rfl rfl rfl rfl rfl rfl (by omega) (by omega) ?_;exact eV.o):A:=f ⟨h⟩
theorem Q99 {A B:Prop} (h:B) (f:Zh B→A:=by intro eV;refine aC ?_;refine aC ?_;exact eV.o):A:=f ⟨h⟩
theorem S9 {A B:Prop} (h:B) (f:Zh B→A:=by intro eV;refine kJ ?_;(iterate 2 refine zm ?_);refine a_.neg rfl rfl rfl (by omega) ?_;refine zA (Qe) ?_;refine zm ?_;refine zl ?_;refine a_.fN rfl rfl rfl ?_;refine zl ?_;refine a_.fw rfl rfl rfl ?_;refine zl ?_;refine a_.c_ 96 0 0 rfl rfl rfl rfl ?_;refine zl ?_;refine zm ?_;refine zl ?_;refine zX (w6) ?_;refine Q1 ?_;refine Q0 ?_;refine zl ?_;refine a_.gtr rfl rfl rfl rfl rfl ?_;refine a_.kr rfl rfl rfl rfl rfl rfl ?_;exact eV.o):A:=f ⟨h⟩
theorem UE {A:Prop} (h:A:=by refine⟨.box _ rfl ?_,?_⟩;(iterate 3 refine⟨.ff (by first|rfl|simp) rfl,?_⟩);refine⟨.fm (by first|rfl|simp),?_⟩;refine⟨.ff (by first|rfl|simp) rfl,?_⟩;refine⟨.fm (by first|rfl|simp),?_⟩;(iterate 2 refine⟨.ff (by first|rfl|simp) rfl,?_⟩);(iterate 3 refine⟨.fm (by first|rfl|simp),?_⟩);refine⟨.ff (by first|rfl|simp) rfl,?_⟩;refine⟨.fm (by first|rfl|simp),?_⟩;(iterate 2 refine⟨.iz (by first|rfl|simp),?_⟩);exact trivial;(iterate 3 refine aF ?_);refine⟨.fb rfl (by first|rfl|simp),?_⟩;(iterate 2 refine aF ?_);refine⟨.fb rfl (by first|rfl|simp),?_⟩;refine aF ?_;refine⟨.fb rfl (by first|rfl|simp),?_⟩;refine aF ?_;exact trivial):A:=h
theorem JQ {A B:Prop} (h:B) (f:Zh B→A:=by intro eV;refine a_.l5 rfl rfl rfl rfl ?_;refine nz ?_;refine mV ?_;refine zB ?_;refine nz ?_;refine zd ?_;refine zq ?_;refine a_.c_ 84 0 0 rfl rfl rfl rfl ?_;refine zb ?_;refine zd ?_;refine AW.block ?_;refine iK ?_;refine a_.eql rfl rfl rfl rfl rfl ?_;refine lK ?_;exact eV.o):A:=f ⟨h⟩
theorem IT {A B:Prop} (h:B) (f:Zh B→A:=by intro eV;refine ui ?_;refine a_.geq rfl rfl rfl rfl rfl ?_;refine ku ?_;refine ui ?_;refine a_.Ks rfl rfl rfl ?_;exact eV.o):A:=f ⟨h⟩
theorem Dq {A B:Prop} (h:B) (f:Zh B→A:=by intro eV;refine zo ?_;refine zo ?_;refine AW.gg [0,1,2,3,4,5,6,7,8,9,10] [12] rfl (by assumption) (by kernel_rfl) (by kernel_rfl) rfl ?_;exact eV.o):A:=f ⟨h⟩
theorem Gg {A B:Prop} (h:B) (f:Zh B→A:=by intro eV;refine a_.n5 rfl rfl rfl ?_;(iterate 2 refine a_.extract rfl rfl rfl rfl ?_);exact eV.o):A:=f ⟨h⟩
theorem Rr {A B:Prop} (h:B) (f:Zh B→A:=by intro eV;refine⟨.ff (by first|rfl|(simp only[iA,List.map_append,List.map_cons,List.map_nil];rfl)) rfl,?_⟩;refine⟨.fm (by first|rfl|(simp only[iA,List.map_append,List.map_cons,List.map_nil];rfl)),?_⟩;exact eV.o):A:=f ⟨h⟩
theorem wW {A B:Prop} (h:B) (f:Zh B→A:=by intro eV;refine a_.mG rfl rfl rfl rfl rfl rfl (by first|omega|decide) ?_;refine Q3 ?_;exact eV.o):A:=f ⟨h⟩
theorem wE {A B:Prop} (h:B) (f:Zh B→A:=by intro eV;refine AR.im (i:=13) rfl (by kernel_rfl) rfl (by kernel_rfl) ?_;exact eV.o):A:=f ⟨h⟩
theorem Th {A B:Prop} (h:B) (f:Zh B→A:=by intro eV;refine⟨.ff (by first|rfl|(simp only[fO,iG,fk,sq,List.set_set,if_neg h])) rfl,?_⟩;refine⟨.fm (by first|rfl|(simp only[fO,iG,fk,sq,List.set_set,if_neg h])),?_⟩;exact eV.o):A:=f ⟨h⟩
theorem Rh {A B:Prop} (h:B) (f:Zh B→A:=by intro eV;refine⟨.ff (by first|rfl|(simp only[fO,iG,fk,sq,List.set_set,if_pos h])) rfl,?_⟩;refine⟨.fm (by first|rfl|(simp only[fO,iG,fk,sq,List.set_set,if_pos h])),?_⟩;exact eV.o):A:=f ⟨h⟩
theorem E3 {A B:Prop} (h:B) (f:Zh B→A:=by intro eV;(iterate 3 refine a_.gE rfl rfl rfl rfl rfl rfl rfl ?_);refine a_.jL rfl rfl rfl rfl rfl rfl ?_;exact eV.o):A:=f ⟨h⟩
theorem zp {A B:Prop} (h:B) (f:Zh B→A:=by intro eV;refine zm ?_;refine zd ?_;refine AW.block ?_;exact eV.o):A:=f ⟨h⟩
theorem kc {A B:Prop} (h:B) (f:Zh B→A:=by intro eV;refine lK ?_;refine zo ?_;exact eV.o):A:=f ⟨h⟩
theorem O2 {A:Prop} (h:A:=by refine a_.n5 rfl rfl rfl ?_;refine mX ?_;refine AR.sw 3 6 (by assumption) (by kernel_rfl) (by kernel_rfl) ?_;(conv=>rhs;simp only[Nf.swR,Nf.all,Nat.reduceBEq,reduceAdd,reduceSub]);refine AR.meet mP (by kernel_rfl) (fun g_=>fe rfl ?_ ?_ rfl);(iterate 19 refine aC ?_);exact trivial;exact Oe):A:=h
theorem qS {A B:Prop} (h:B) (f:Zh B→A:=by intro eV;refine iK ?_;refine zL ?_;refine nz ?_;exact eV.o):A:=f ⟨h⟩
theorem vm {A B:Prop} (h:B) (f:Zh B→A:=by intro eV;refine a_.c_ 24 1 1 rfl rfl rfl rfl ?_;refine zb ?_;exact eV.o):A:=f ⟨h⟩
theorem Db {A B:Prop} (h:B) (f:Zh B→A:=by intro eV;(iterate 2 refine zm ?_);refine a_.pR 7 rfl rfl rfl rfl rfl ?_;refine zs ?_;exact eV.o):A:=f ⟨h⟩
theorem vi {A B:Prop} (h:B) (f:Zh B→A:=by intro eV;refine zy ?_;refine a_.gtr rfl rfl rfl rfl rfl ?_;refine zF ?_;exact eV.o):A:=f ⟨h⟩
theorem Ox {A B:Prop} (h:B) (f:Zh B→A:=by intro eV;refine aF ?_;refine⟨.box _ rfl ?_,?_⟩;exact Jt;refine⟨.fb rfl rfl,?_⟩;(iterate 3 refine aF ?_);refine⟨.fb rfl rfl,?_⟩;(iterate 2 refine aF ?_);refine⟨.fb rfl rfl,?_⟩;(iterate 2 refine aF ?_);exact eV.o):A:=f ⟨h⟩
theorem qz {A B:Prop} (h:B) (f:Zh B→A:=by intro eV;refine Le.tV ?_;refine hO.cons ?_ ?_;exact Le.gf _;exact eV.o):A:=f ⟨h⟩
theorem EL {A B:Prop} (h:B) (f:Zh B→A:=by intro eV;refine AW.gg [0,1,2,3,4] [6] rfl (by assumption) (by kernel_rfl) (by kernel_rfl) rfl ?_;exact eV.o):A:=f ⟨h⟩
theorem s8 {A B:Prop} (h:B) (f:Zh B→A:=by intro eV;refine Q0 ?_;refine AR.fA (i:=5) rfl (by kernel_rfl) rfl ?_;exact eV.o):A:=f ⟨h⟩
theorem uo {A B:Prop} (h:B) (f:Zh B→A:=by intro eV;refine AR.im (i:=11) rfl (by kernel_rfl) rfl (by kernel_rfl) ?_;exact eV.o):A:=f ⟨h⟩
theorem ru {A B:Prop} (h:B) (f:Zh B→A:=by intro eV;refine kJ ?_;refine zs ?_;refine zd ?_;refine zo ?_;refine Q6 ?_;refine kJ ?_;exact eV.o):A:=f ⟨h⟩
theorem se {A B:Prop} (h:B) (f:Zh B→A:=by intro eV;refine a_.fX rfl rfl rfl ?_;refine zm ?_;exact eV.o):A:=f ⟨h⟩
theorem zg {A B:Prop} (h:B) (f:Zh B→A:=by intro eV;refine nz ?_;refine zq ?_;refine MU ?_;refine lK ?_;(iterate 2 refine zo ?_);exact eV.o):A:=f ⟨h⟩
theorem CN {A:Prop} (h:A:=by refine tK ?_;refine AR.meet ly (by kernel_rfl) (fun g_=>fe rfl ?_ ?_ rfl);(iterate 21 refine aC ?_);exact trivial;exact Oe):A:=h
theorem vA {A B:Prop} (h:B) (f:Zh B→A:=by intro eV;refine a_.c_ 24 0 0 rfl rfl rfl rfl ?_;refine zb ?_;exact eV.o):A:=f ⟨h⟩
theorem pd {A B:Prop} (h:B) (f:Zh B→A:=by intro eV;refine a_.extract rfl rfl rfl rfl ?_;refine Q3 ?_;exact eV.o):A:=f ⟨h⟩
theorem Dl {A B:Prop} (h:B) (f:Zh B→A:=by intro eV;refine a_.yw rfl rfl rfl rfl rfl rfl rfl (by omega) ?_;exact eV.o):A:=f ⟨h⟩
theorem vG {A B:Prop} (h:B) (f:Zh B→A:=by intro eV;refine a_.n6 rfl rfl rfl ?_;refine a_.nil ?_;refine uH ?_;exact eV.o):A:=f ⟨h⟩
theorem Uy {A:Prop} (h:A:=by exact⟨i+1,by omega,by omega,fe rfl (by(refine⟨.ff (by first|rfl|(rw[← ED,List.map_set];rfl)) rfl,?_⟩;refine⟨.gq (by first|rfl|(rw[← ED,List.map_set];rfl)),?_⟩;refine⟨.gq (by first|rfl|(rw[← ED,List.map_set];rfl)),?_⟩;refine⟨.iz (by first|rfl|(rw[← ED,List.map_set];rfl)),?_⟩;refine aC ?_;refine⟨.iz (by first|rfl|(rw[← ED,List.map_set];rfl)),?_⟩;exact trivial)) (by(refine aF ?_;exact trivial)) rfl⟩):A:=h
theorem zQ {A B:Prop} (h:B) (f:Zh B→A:=by intro eV;refine qP ?_;refine ui ?_;refine Y8 ?_;refine xj ?_;exact eV.o):A:=f ⟨h⟩
theorem vS {A B:Prop} (h:B) (f:Zh B→A:=by intro eV;refine AR.im (i:=8) rfl (by kernel_rfl) rfl (by kernel_rfl) ?_;exact eV.o):A:=f ⟨h⟩
theorem pE {A:Prop} (h:A:=by refine Q5 ?_;exact AR.perm (by kernel_rfl) kv):A:=h
theorem U0 {A B:Prop} (h:B) (f:Zh B→A:=by intro eV;refine Cj ?_;refine zm ?_;refine rz ?_;refine a_.iu rfl rfl rfl ?_;exact eV.o):A:=f ⟨h⟩
theorem FH {A B:Prop} (h:B) (f:Zh B→A:=by intro eV;refine zo ?_;refine zq ?_;(iterate 2 refine zm ?_);refine zn ?_;refine zs ?_;refine zd ?_;exact eV.o):A:=f ⟨h⟩
theorem J0 {A B:Prop} (h:B) (f:Zh B→A:=by intro eV;(iterate 2 refine a_.extract rfl rfl rfl rfl ?_);refine zB ?_;refine nz ?_;refine ku ?_;refine ic ?_;refine gV ?_;refine wa rfl rfl rfl rfl rfl rfl ?_;refine nz ?_;exact eV.o):A:=f ⟨h⟩
theorem HU {A:Prop} (h:A:=by refine mX ?_;refine AR.meet kv (by kernel_rfl) (fun g_=>fe rfl ?_ ?_ rfl);(iterate 30 refine aC ?_);exact trivial;refine aF ?_;exact U_):A:=h
theorem Nk {A B:Prop} (h:B) (f:Zh B→A:=by intro eV;refine pJ ?_;refine a_.c_ 94 5 5 rfl rfl rfl rfl ?_;refine zb ?_;refine pJ ?_;refine a_.c_ 94 0 0 rfl rfl rfl rfl ?_;refine zb ?_;refine a_.hY rfl rfl rfl rfl ?_;exact eV.o):A:=f ⟨h⟩
theorem wY {A B:Prop} (h:B) (f:Zh B→A:=by intro eV;refine a_.eql rfl rfl rfl rfl rfl ?_;refine lK ?_;exact eV.o):A:=f ⟨h⟩
theorem On {A B:Prop} (h:B) (f:Zh B→A:=by intro eV;refine zg ?_;refine AW.gg [0,1,2,3,4,5,6,7,8,9,10,11,12,13,14,15,16,17,18,19,20,21,22,23,24,25,26,27,28,29,30,31,32,33,34,35,36,37] [] rfl (by assumption) (by kernel_rfl) (by kernel_rfl) rfl ?_;exact eV.o):A:=f ⟨h⟩
theorem nh {A:Prop} (h:A:=by refine xh ?_;refine xh ?_;exact Qs):A:=h
theorem wH {A B:Prop} (h:B) (f:Zh B→A:=by intro eV;refine AR.im (i:=14) rfl (by kernel_rfl) rfl (by kernel_rfl) ?_;exact eV.o):A:=f ⟨h⟩
theorem wL {A B:Prop} (h:B) (f:Zh B→A:=by intro eV;refine AR.im (i:=9) rfl (by kernel_rfl) rfl (by kernel_rfl) ?_;exact eV.o):A:=f ⟨h⟩
theorem nY {A B:Prop} (h:B) (f:Zh B→A:=by intro eV;refine Ci ?_;refine iB ?_;exact eV.o):A:=f ⟨h⟩
theorem yx {A B:Prop} (h:B) (f:Zh B→A:=by intro eV;refine AR.im (i:=10) rfl (by kernel_rfl) rfl (by kernel_rfl) ?_;exact eV.o):A:=f ⟨h⟩
theorem iY {A B:Prop} (h:B) (f:Zh B→A:=by intro eV;refine zb ?_;refine zm ?_;exact eV.o):A:=f ⟨h⟩
theorem jR {A B:Prop} (h:B) (f:Zh B→A:=by intro eV;refine nz ?_;refine Q3 ?_;exact eV.o):A:=f ⟨h⟩
theorem H4 {A:Prop} (h:A:=by refine mX ?_;refine AR.meet lu (by kernel_rfl) (fun g_=>fe rfl ?_ ?_ rfl);(iterate 28 refine aC ?_);exact trivial;exact U_):A:=h
theorem ko {A B:Prop} (h:B) (f:Zh B→A:=by intro eV;refine zd ?_;refine zq ?_;exact eV.o):A:=f ⟨h⟩
theorem Mj {A B:Prop} (h:B) (f:Zh B→A:=by intro eV;refine zk ?_;refine iK ?_;refine a_.Rp rfl rfl rfl rfl rfl ?_;refine lK ?_;exact eV.o):A:=f ⟨h⟩
theorem Lu {A:Prop} (h:A:=by refine⟨.box _ rfl ?_,?_⟩;exact Jt;refine aF ?_;refine⟨.box _ rfl ?_,?_⟩;(iterate 2 refine aC ?_);(iterate 2 exact trivial)):A:=h
theorem Rw {A B:Prop} (h:B) (f:Zh B→A:=by intro eV;refine PI ?_;refine a_.Rc rfl rfl rfl rfl rfl rfl ?_;refine ku ?_;refine ui ?_;exact eV.o):A:=f ⟨h⟩
theorem Ro {A B:Prop} (h:B) (f:Zh B→A:=by intro eV;refine⟨.ff (by first|rfl|(rw[List.map_take];rfl)) rfl,?_⟩;refine⟨.fm (by first|rfl|(rw[List.map_take];rfl)),?_⟩;exact eV.o):A:=f ⟨h⟩
theorem I9 {A B:Prop} (h:B) (f:Zh B→A:=by intro eV;refine a_.pP rfl rfl rfl rfl rfl rfl rfl rfl rfl (by with_reducible assumption) (by with_reducible assumption) ?_;exact eV.o):A:=f ⟨h⟩
theorem k9 {A B:Prop} (h:B) (f:Zh B→A:=by intro eV;refine Q1 ?_;refine Q0 ?_;exact eV.o):A:=f ⟨h⟩
theorem DA {A B:Prop} (h:B) (f:Zh B→A:=by intro eV;refine zy ?_;refine a_.not rfl rfl rfl ?_;refine zF ?_;exact eV.o):A:=f ⟨h⟩
theorem Nu {A:Prop} (h:A:=by refine tK ?_;refine Q5 ?_;refine AR.gc [1,2,0] rfl ?_;(conv=>rhs;simp only[gcE,kO0,Zd,Ek,xu,Nat.reduceBEq,cond_true,cond_false]);exact AR.perm (by kernel_rfl) ni):A:=h
theorem QA {A B:Prop} (h:B) (f:Zh B→A:=by intro eV;refine Cp ?_;refine iK ?_;refine a_.fX rfl rfl rfl ?_;refine a_.n6 rfl rfl rfl ?_;refine ku ?_;refine Ed rfl rfl rfl rfl ?_;refine nz ?_;refine Gg ?_;refine a_.n6 rfl rfl rfl ?_;refine yf ?_;refine a_.not rfl rfl rfl ?_;refine zm ?_;refine zl ?_;refine a_.fX rfl rfl rfl ?_;refine zl ?_;refine a_.hY rfl rfl rfl rfl ?_;refine zl ?_;refine a_.gtr rfl rfl rfl rfl rfl ?_;refine a_.kr rfl rfl rfl rfl rfl rfl ?_;exact eV.o):A:=f ⟨h⟩
theorem BI {A B:Prop} (h:B) (f:Zh B→A:=by intro eV;refine zq ?_;refine rz ?_;refine iY ?_;refine a_.BJ rfl rfl rfl rfl rfl (by omega) ?_;refine tw ?_;exact eV.o):A:=f ⟨h⟩
theorem uS {A B:Prop} (h:B) (f:Zh B→A:=by intro eV;refine a_.c_ 44 1 1 rfl rfl rfl rfl ?_;refine zb ?_;exact eV.o):A:=f ⟨h⟩
theorem HB {A:Prop} (h:A:=by refine mX ?_;refine AR.meet ly (by kernel_rfl) (fun g_=>fe rfl ?_ ?_ rfl);(iterate 29 refine aC ?_);exact trivial;exact U_):A:=h
theorem jD {A B:Prop} (h:B) (f:Zh B→A:=by intro eV;refine zd ?_;refine zc ?_;exact eV.o):A:=f ⟨h⟩
theorem ss {A:Prop} (h:A:=by refine Q5 ?_;exact AR.perm (by kernel_rfl) ly):A:=h
theorem Ov {A B:Prop} (h:B) (f:Zh B→A:=by intro eV;refine zF ?_;refine Q3 ?_;refine Cq ?_;refine AW.j8 rfl rfl ?_;refine I6 ?_;refine zo ?_;refine kJ ?_;refine Db ?_;refine uD ?_;refine kJ ?_;(iterate 2 refine zm ?_);exact eV.o):A:=f ⟨h⟩
theorem ya {A B:Prop} (h:B) (f:Zh B→A:=by intro eV;refine oy ?_;refine AR.Gt (by assumption) (by kernel_rfl) ?_;exact eV.o):A:=f ⟨h⟩
theorem H7 {A B:Prop} (h:B) (f:Zh B→A:=by intro eV;(conv=>rhs;simp only[Nf.swR,Nf.all,Nat.reduceBEq,reduceAdd,reduceSub]);exact eV.o):A:=f ⟨h⟩
theorem HC {A B:Prop} (h:B) (f:Zh B→A:=by intro eV;refine CJ ?_;refine a_.eql rfl rfl rfl rfl rfl ?_;refine a_.F1 rfl rfl (by assumption) rfl rfl rfl rfl ?_;exact eV.o):A:=f ⟨h⟩
theorem SF {A B:Prop} (h:B) (f:Zh B→A:=by intro eV;refine Vd ?_;refine a_.c_ 96 0 0 rfl rfl rfl rfl ?_;refine zt ?_;exact eV.o):A:=f ⟨h⟩
theorem R3 {A B:Prop} (h:B) (f:Zh B→A:=by intro eV;refine⟨.box _ rfl ?_,?_⟩;exact Jt;(iterate 3 refine aF ?_);refine⟨.fb rfl rfl,?_⟩;(iterate 2 refine aF ?_);refine⟨.fb rfl rfl,?_⟩;refine aF ?_;refine⟨.fb rfl rfl,?_⟩;refine aF ?_;exact eV.o):A:=f ⟨h⟩
theorem Nw {A B:Prop} (h:B) (f:Zh B→A:=by intro eV;refine zq ?_;refine rz ?_;refine zm ?_;refine a_.PE rfl rfl rfl rfl rfl (by omega) ?_;refine a_.BJ rfl rfl rfl rfl rfl (by omega) ?_;refine zm ?_;refine zn ?_;refine zj ?_;refine a_.SC rfl rfl rfl rfl rfl (by omega) ?_;refine rz ?_;refine yf ?_;refine a_.gtr rfl rfl rfl rfl rfl ?_;exact eV.o):A:=f ⟨h⟩
theorem BT {A B:Prop} (h:B) (f:Zh B→A:=by intro eV;refine a_.c_ 94 4 4 rfl rfl rfl rfl ?_;refine zb ?_;refine a_.hY rfl rfl rfl rfl ?_;exact eV.o):A:=f ⟨h⟩
theorem kV {A B:Prop} (h:B) (f:Zh B→A:=by intro eV;refine zB ?_;refine nz ?_;exact eV.o):A:=f ⟨h⟩
theorem Iv {A B:Prop} (h:B) (f:Zh B→A:=by intro eV;refine AR.meet kv (by kernel_rfl) (fun g_=>fe rfl ?_ ?_ rfl);(iterate 21 refine aC ?_);exact trivial;exact eV.o):A:=f ⟨h⟩
theorem kW {A B:Prop} (h:B) (f:Zh B→A:=by intro eV;refine zd ?_;refine zo ?_;exact eV.o):A:=f ⟨h⟩
theorem VS {A:Prop} (h:A:=by exact fe rfl (by(first|(refine aC ?_;(iterate 17 refine aC ?_);exact trivial)|(refine aC ?_;(iterate 4 refine aC ?_);exact trivial))) (by(first|(refine⟨.box _ rfl ?_,?_⟩;refine aC ?_;exact trivial;refine⟨.box _ rfl ?_,?_⟩;(iterate 2 refine aC ?_);(iterate 2 exact trivial))|(refine⟨.box _ rfl ?_,?_⟩;(iterate 2 refine aC ?_);(iterate 2 exact trivial)))) rfl):A:=h
theorem KH {A B:Prop} (h:B) (f:Zh B→A:=by intro eV;refine a_.ZM rfl rfl rfl rfl rfl rfl rfl rfl rfl rfl rfl ?_;exact eV.o):A:=f ⟨h⟩
theorem vy {A B:Prop} (h:B) (f:Zh B→A:=by intro eV;refine a_.fw rfl rfl rfl ?_;refine Q3 ?_;exact eV.o):A:=f ⟨h⟩
theorem H0 {A B:Prop} (h:B) (f:Zh B→A:=by intro eV;refine a_.xN rfl rfl rfl rfl rfl rfl rfl rfl (by with_reducible assumption) ?_;refine jR ?_;exact eV.o):A:=f ⟨h⟩
theorem Td {A B:Prop} (h:B) (f:Zh B→A:=by intro eV;refine ko ?_;refine ku ?_;refine ui ?_;refine Y8 ?_;refine Ci ?_;refine uH ?_;exact eV.o):A:=f ⟨h⟩
theorem Aa {A B:Prop} (h:B) (f:Zh B→A:=by intro eV;refine pJ ?_;refine a_.c_ 96 2 7 rfl rfl rfl rfl ?_;exact eV.o):A:=f ⟨h⟩
theorem RJ {A B:Prop} (h:B) (f:Zh B→A:=by intro eV;refine⟨.fb rfl (by first|rfl|exact fZ _ n4.2 _),?_⟩;exact eV.o):A:=f ⟨h⟩
theorem NJ {A B:Prop} (h:B) (f:Zh B→A:=by intro eV;refine a_.kQ 84 1 1 1 rfl rfl rfl rfl ?_;refine nz ?_;refine zr ?_;refine kc ?_;refine iK ?_;refine zr ?_;refine zm ?_;refine a_.BJ rfl rfl rfl rfl rfl (by omega) ?_;refine zA (u0) ?_;refine Gg ?_;(iterate 2 refine za ?_);refine zd ?_;refine iK ?_;refine zm ?_;exact eV.o):A:=f ⟨h⟩
theorem N3 {A:Prop} (h:A:=by refine tK ?_;refine AR.meet ni (by kernel_rfl) (fun g_=>fe rfl ?_ ?_ rfl);(iterate 20 refine aC ?_);exact trivial;refine xh ?_;refine aF ?_;exact Qs):A:=h
theorem ny {A B:Prop} (h:B) (f:Zh B→A:=by intro eV;refine zq ?_;refine MU ?_;exact eV.o):A:=f ⟨h⟩
theorem NY {A B:Prop} (h:B) (f:Zh B→A:=by intro eV;refine GB ?_;refine jR ?_;refine AR.Gt (by assumption) (by kernel_rfl) ?_;(iterate 2 refine ix ?_);refine iB ?_;refine AW.region ?_;refine Qf ?_;exact eV.o):A:=f ⟨h⟩
theorem Ly {A B:Prop} (h:B) (f:Zh B→A:=by intro eV;refine WG ?_;refine zb ?_;refine zy ?_;refine zj ?_;refine zy ?_;refine a_.neq rfl rfl rfl rfl rfl ?_;refine zF ?_;exact eV.o):A:=f ⟨h⟩
theorem B5 {A B:Prop} (h:B) (f:Zh B→A:=by intro eV;refine Q0 ?_;refine AR.fA (i:=11) rfl (by kernel_rfl) rfl ?_;exact eV.o):A:=f ⟨h⟩
theorem IK {A B:Prop} (h:B) (f:Zh B→A:=by intro eV;refine a_.gE rfl rfl rfl rfl rfl rfl rfl ?_;refine a_.jL rfl rfl rfl rfl rfl rfl ?_;exact eV.o):A:=f ⟨h⟩
theorem Ip {A B:Prop} (h:B) (f:Zh B→A:=by intro eV;refine tE ?_;refine Q3 ?_;refine AR.im (i:=0) rfl (by kernel_rfl) rfl (by kernel_rfl) ?_;exact eV.o):A:=f ⟨h⟩
theorem SY {A B:Prop} (h:B) (f:Zh B→A:=by intro eV;refine zl ?_;refine a_.fN rfl rfl rfl ?_;refine zl ?_;refine a_.fw rfl rfl rfl ?_;refine zl ?_;exact eV.o):A:=f ⟨h⟩
theorem OW {A B:Prop} (h:B) (f:Zh B→A:=by intro eV;refine zt ?_;refine a_.neg rfl rfl rfl (by omega) ?_;refine zt ?_;refine a_.max2 rfl rfl rfl rfl rfl ?_;refine zt ?_;refine tw ?_;refine zt ?_;exact eV.o):A:=f ⟨h⟩
theorem Bc {A B:Prop} (h:B) (f:Zh B→A:=by intro eV;refine a_.sub rfl rfl rfl rfl rfl (by omega) ?_;refine lK ?_;exact eV.o):A:=f ⟨h⟩
theorem th {A B:Prop} (h:B) (f:Zh B→A:=by intro eV;refine mV ?_;refine mX ?_;refine Q5 ?_;exact eV.o):A:=f ⟨h⟩
theorem NQ {A B:Prop} (h:B) (f:Zh B→A:=by intro eV;refine kJ ?_;refine JD ?_;refine kc ?_;refine kJ ?_;(iterate 2 refine zm ?_);refine a_.eql rfl rfl rfl rfl rfl ?_;refine zm ?_;refine zy ?_;refine a_.fX rfl rfl rfl ?_;refine zy ?_;refine zm ?_;refine zy ?_;refine tw ?_;refine zy ?_;exact eV.o):A:=f ⟨h⟩
theorem Q_ {A B:Prop} (h:B) (f:Zh B→A:=by intro eV;refine ny ?_;refine MU ?_;refine mV ?_;refine ko ?_;refine zb ?_;refine a_.oZ 24 [0] rfl rfl rfl rfl rfl rfl rfl rfl rfl ?_;refine nz ?_;refine mV ?_;refine kV ?_;refine ko ?_;refine a_.jB rfl rfl rfl ?_;refine a_.assign rfl rfl rfl ?_;refine nz ?_;refine kW ?_;refine zq ?_;refine zp ?_;refine iK ?_;refine wY ?_;exact eV.o):A:=f ⟨h⟩
theorem Nq {A:Prop} (h:A:=by refine a_.n5 rfl rfl rfl ?_;refine mX ?_;refine AR.meet mP (by kernel_rfl) (fun g_=>fe rfl ?_ ?_ rfl);(iterate 19 refine aC ?_);exact trivial;exact Oe):A:=h
theorem Wc {A B:Prop} (h:B) (f:Zh B→A:=by intro eV;refine a_.geq rfl rfl rfl rfl rfl ?_;refine xj ?_;refine AW.skip ?_;refine iB ?_;refine zo ?_;refine AW.block ?_;exact eV.o):A:=f ⟨h⟩
theorem wU {A B:Prop} (h:B) (f:Zh B→A:=by intro eV;refine zt ?_;refine a_.iu rfl rfl rfl ?_;exact eV.o):A:=f ⟨h⟩
theorem VX {A B:Prop} (h:B) (f:Zh B→A:=by intro eV;(iterate 2 refine a_.fN rfl rfl rfl ?_);refine W_ ?_;exact eV.o):A:=f ⟨h⟩
theorem FP {A B:Prop} (h:B) (f:Zh B→A:=by intro eV;refine a_.kp rfl rfl rfl rfl rfl rfl (by with_reducible assumption) ?_;exact eV.o):A:=f ⟨h⟩
theorem Ix {A B:Prop} (h:B) (f:Zh B→A:=by intro eV;refine⟨.fb rfl rfl,?_⟩;refine⟨.box _ rfl ?_,?_⟩;exact Jt;refine Q16 ?_;exact eV.o):A:=f ⟨h⟩
theorem CZ {A B:Prop} (h:B) (f:Zh B→A:=by intro eV;refine a_.gE rfl rfl rfl rfl rfl rfl rfl ?_;refine Q3 ?_;exact eV.o):A:=f ⟨h⟩
theorem I0 {A B:Prop} (h:B) (f:Zh B→A:=by intro eV;refine Cq ?_;refine AW.oQ rfl rfl ?_;exact eV.o):A:=f ⟨h⟩
theorem En {A B:Prop} (h:B) (f:Zh B→A:=by intro eV;refine a_.c_ 50 0 0 rfl rfl rfl rfl ?_;refine iY ?_;exact eV.o):A:=f ⟨h⟩
theorem uf {A B:Prop} (h:B) (f:Zh B→A:=by intro eV;(iterate 2 refine za ?_);refine zd ?_;exact eV.o):A:=f ⟨h⟩
theorem qI {A B:Prop} (h:B) (f:Zh B→A:=by intro eV;refine zm ?_;refine a_.eql rfl rfl rfl rfl rfl ?_;exact eV.o):A:=f ⟨h⟩
theorem MF {A B:Prop} (h:B) (f:Zh B→A:=by intro eV;refine a_.fX rfl rfl rfl ?_;refine a_.JP rfl rfl ?_;refine nz ?_;refine tE ?_;exact eV.o):A:=f ⟨h⟩
theorem u6 {A B:Prop} (h:B) (f:Zh B→A:=by intro eV;refine zq ?_;refine rz ?_;exact eV.o):A:=f ⟨h⟩
theorem TX {A B:Prop} (h:B) (f:Zh B→A:=by intro eV;refine WG ?_;refine zb ?_;refine IB ?_;refine a_.u_ rfl rfl rfl rfl rfl rfl rfl (by omega) (by omega) ?_;refine zy ?_;refine zA (Qt) ?_;refine DA ?_;refine nY ?_;refine iK ?_;refine pJ ?_;refine a_.c_ 73 0 0 rfl rfl rfl rfl ?_;refine vA ?_;refine zj ?_;refine a_.fw rfl rfl rfl ?_;refine a_.c_ 73 0 0 rfl rfl rfl rfl ?_;refine a_.c_ 24 0 0 rfl rfl rfl rfl ?_;refine GB ?_;exact eV.o):A:=f ⟨h⟩
theorem vM {A:Prop} (h:A:=by refine aC ?_;exact trivial):A:=h
theorem wP {A B:Prop} (h:B) (f:Zh B→A:=by intro eV;refine kJ ?_;refine a_.fN rfl rfl rfl ?_;exact eV.o):A:=f ⟨h⟩
theorem N_ {A B:Prop} (h:B) (f:Zh B→A:=by intro eV;refine FH ?_;refine Q6 ?_;refine zo ?_;refine AW.gg [0,1,2,3,4,5] [6] rfl (by assumption) (by kernel_rfl) (by kernel_rfl) rfl ?_;exact eV.o):A:=f ⟨h⟩
theorem A9 {A B:Prop} (h:B) (f:Zh B→A:=by intro eV;refine a_.jL rfl rfl rfl rfl rfl rfl ?_;refine xj ?_;exact eV.o):A:=f ⟨h⟩
theorem nq {A B:Prop} (h:B) (f:Zh B→A:=by intro eV;refine zn ?_;refine zp ?_;exact eV.o):A:=f ⟨h⟩
theorem yM {A B:Prop} (h:B) (f:Zh B→A:=by intro eV;refine ix ?_;refine iB ?_;exact eV.o):A:=f ⟨h⟩
theorem O3 {A B:Prop} (h:B) (f:Zh B→A:=by intro eV;refine zA (hwv) ?_;refine Q3 ?_;refine AR.iP [6,7,8,11] (by kernel_rfl) (by kernel_rfl) (by kernel_rfl) (by kernel_rfl) ?_;exact eV.o):A:=f ⟨h⟩
theorem E7 {A B:Prop} (h:B) (f:Zh B→A:=by intro eV;refine aD ?_;exact eV.o):A:=f ⟨h⟩
theorem uW {A B:Prop} (h:B) (f:Zh B→A:=by intro eV;refine zt ?_;refine zm ?_;refine zt ?_;exact eV.o):A:=f ⟨h⟩
theorem Mv {A B:Prop} (h:B) (f:Zh B→A:=by intro eV;refine a_.c_ 24 1 1 rfl rfl rfl rfl ?_;refine GB ?_;refine nz ?_;refine a_.nil ?_;refine kF ?_;refine nz ?_;exact eV.o):A:=f ⟨h⟩
theorem RQ {A B:Prop} (h:B) (f:Zh B→A:=by intro eV;refine kJ ?_;refine zs ?_;refine kW ?_;refine zk ?_;refine I6 ?_;refine zo ?_;refine kJ ?_;refine a_.fX rfl rfl rfl ?_;refine a_.hY rfl rfl rfl rfl ?_;refine zd ?_;refine AW.block ?_;refine kJ ?_;refine wY ?_;exact eV.o):A:=f ⟨h⟩
theorem LL {A:Prop} (h:A:=by refine⟨.box _ rfl ?_,?_⟩;refine Q17 ?_;exact trivial;refine Q72 ?_;refine aF ?_;exact trivial):A:=h
theorem Fl {A B:Prop} (h:B) (f:Zh B→A:=by intro eV;refine a_.c_ 50 0 0 rfl rfl rfl rfl ?_;refine zb ?_;refine zn ?_;exact eV.o):A:=f ⟨h⟩
theorem St {A B:Prop} (h:B) (f:Zh B→A:=by intro eV;refine a_.not rfl rfl rfl ?_;refine nY ?_;refine iK ?_;refine lK ?_;refine AW.exit ?_;refine oc rfl ?_;(iterate 2 refine kB ?_);refine iC ?_;refine yM ?_;exact eV.o):A:=f ⟨h⟩
theorem DF {A B:Prop} (h:B) (f:Zh B→A:=by intro eV;refine zl ?_;refine a_.eql rfl rfl rfl rfl rfl ?_;exact eV.o):A:=f ⟨h⟩
theorem NL {A B:Prop} (h:B) (f:Zh B→A:=by intro eV;refine zq ?_;refine kc ?_;refine AW.gg [0,1,2,3,4] [] rfl (by assumption) (by kernel_rfl) (by kernel_rfl) rfl ?_;exact eV.o):A:=f ⟨h⟩
theorem HM {A B:Prop} (h:B) (f:Zh B→A:=by intro eV;refine pJ ?_;refine a_.c_ 94 0 0 rfl rfl rfl rfl ?_;refine iY ?_;exact eV.o):A:=f ⟨h⟩
theorem vH {A B:Prop} (h:B) (f:Zh B→A:=by intro eV;refine AW.skip ?_;refine iB ?_;exact eV.o):A:=f ⟨h⟩
theorem qR {A B:Prop} (h:B) (f:Zh B→A:=by intro eV;refine ku ?_;refine PX ?_;exact eV.o):A:=f ⟨h⟩
theorem tP {A B:Prop} (h:B) (f:Zh B→A:=by intro eV;refine uH ?_;refine Qf ?_;exact eV.o):A:=f ⟨h⟩
theorem j6 {A B:Prop} (h:B) (f:Zh B→A:=by intro eV;refine iK ?_;refine zm ?_;exact eV.o):A:=f ⟨h⟩
theorem mJ {A B:Prop} (h:B) (f:Zh B→A:=by intro eV;refine zL ?_;refine nz ?_;exact eV.o):A:=f ⟨h⟩
theorem Nz {A:Prop} (h:A:=by refine tK ?_;refine AR.meet lu (by kernel_rfl) (fun g_=>fe rfl ?_ ?_ rfl);(iterate 20 refine aC ?_);exact trivial;exact Oe):A:=h
theorem Rt {A B:Prop} (h:B) (f:Zh B→A:=by intro eV;refine qI ?_;refine xB ?_;refine zb ?_;refine vi ?_;refine xB ?_;refine zb ?_;refine zy ?_;refine a_.neg rfl rfl rfl (by omega) ?_;refine zy ?_;refine zs ?_;refine zF ?_;refine ku ?_;exact eV.o):A:=f ⟨h⟩
theorem Pl {A B:Prop} (h:B) (f:Zh B→A:=by intro eV;refine za ?_;refine Q3 ?_;refine Cq ?_;refine qS ?_;refine kV ?_;refine zd ?_;refine AW.region ?_;refine se ?_;refine tE ?_;exact eV.o):A:=f ⟨h⟩
theorem vt {A B:Prop} (h:B) (f:Zh B→A:=by intro eV;refine kc ?_;refine kJ ?_;exact eV.o):A:=f ⟨h⟩
theorem Fk {A B:Prop} (h:B) (f:Zh B→A:=by intro eV;refine a_.fX rfl rfl rfl ?_;refine B8 ?_;refine AW.ret ?_;exact eV.o):A:=f ⟨h⟩
theorem TR {A:Prop} (h:A:=by exact⟨j+1,by omega,by omega,fe rfl (by(refine aC ?_;(iterate 9 refine aC ?_);exact trivial)) (by(refine⟨.box _ rfl ?_,?_⟩;(iterate 2 refine aC ?_);exact trivial;refine⟨.box _ rfl ?_,?_⟩;refine aC ?_;(iterate 2 exact trivial))) rfl⟩):A:=h
theorem Vg {A B:Prop} (h:B) (f:Zh B→A:=by intro eV;refine⟨.fm (by first|rfl|exact fZ _ ET.2 _|simp only[fC _ _ gn]),?_⟩;(iterate 5 refine⟨.fm (by first|rfl|exact fZ _ ET.2 _|simp only[fC _ _ gn]),?_⟩);(iterate 2 refine aC ?_);exact eV.o):A:=f ⟨h⟩
theorem Fy {A B:Prop} (h:B) (f:Zh B→A:=by intro eV;refine zt ?_;refine a_.c_ 84 2 2 rfl rfl rfl rfl ?_;exact eV.o):A:=f ⟨h⟩
theorem U5 {A:Prop} (h:A:=by exact fe rfl (by(refine aC ?_;(iterate 9 refine aC ?_);exact trivial)) (by(refine⟨.box _ rfl ?_,?_⟩;(iterate 2 refine aC ?_);exact trivial;refine⟨.box _ rfl ?_,?_⟩;refine aC ?_;(iterate 2 exact trivial))) rfl):A:=h
theorem BV {A:Prop} (h:A:=by refine Q5 ?_;exact AR.perm (by kernel_rfl) lu):A:=h
theorem rA {A B:Prop} (h:B) (f:Zh B→A:=by intro eV;refine zl ?_;refine zm ?_;refine zl ?_;exact eV.o):A:=f ⟨h⟩
theorem Nj {A:Prop} (h:A:=by refine tK ?_;refine AR.meet lF (by kernel_rfl) (fun g_=>fe rfl ?_ ?_ rfl);(iterate 20 refine aC ?_);exact trivial;exact Oe):A:=h
theorem RL {A B:Prop} (h:B) (f:Zh B→A:=by intro eV;refine a_.l5 rfl rfl rfl rfl ?_;refine nz ?_;refine mV ?_;refine kV ?_;refine kW ?_;refine zq ?_;refine a_.c_ 84 0 0 rfl rfl rfl rfl ?_;refine zb ?_;refine a_.neq rfl rfl rfl rfl rfl ?_;exact eV.o):A:=f ⟨h⟩
theorem OA {A B:Prop} (h:B) (f:Zh B→A:=by intro eV;refine a_.fw rfl rfl rfl ?_;refine a_.c_ 73 1 2 rfl rfl rfl rfl ?_;refine iY ?_;refine Q3 ?_;exact eV.o):A:=f ⟨h⟩
theorem oz {A B:Prop} (h:B) (f:Zh B→A:=by intro eV;refine xj ?_;refine iK ?_;exact eV.o):A:=f ⟨h⟩
theorem vh {A B:Prop} (h:B) (f:Zh B→A:=by intro eV;refine kJ ?_;refine wx ?_;exact eV.o):A:=f ⟨h⟩
theorem tu {A B:Prop} (h:B) (f:Zh B→A:=by intro eV;refine AW.region ?_;refine Q0 ?_;exact eV.o):A:=f ⟨h⟩
theorem U8 {A B:Prop} (h:B) (f:Zh B→A:=by intro eV;refine ny ?_;refine yf ?_;refine zn ?_;refine a_.gtr rfl rfl rfl rfl rfl ?_;refine uD ?_;refine qS ?_;(iterate 2 refine zm ?_);refine zP (hr) ?_;refine Gg ?_;refine a_.mR rfl rfl rfl ?_;refine rz ?_;(iterate 2 refine zm ?_);refine zn ?_;refine a_.eql rfl rfl rfl rfl rfl ?_;exact eV.o):A:=f ⟨h⟩
theorem HL {A B:Prop} (h:B) (f:Zh B→A:=by intro eV;refine AR.im (i:=4) rfl (by kernel_rfl) rfl (by kernel_rfl) ?_;exact eV.o):A:=f ⟨h⟩
theorem IQ {A B:Prop} (h:B) (f:Zh B→A:=by intro eV;refine AR.yG (i:=29) rfl (by kernel_rfl) rfl (by kernel_rfl) ?_;exact eV.o):A:=f ⟨h⟩
theorem HT {A B:Prop} (h:B) (f:Zh B→A:=by intro eV;refine AR.yG (i:=27) rfl (by kernel_rfl) rfl (by kernel_rfl) ?_;exact eV.o):A:=f ⟨h⟩
theorem Jf {A B:Prop} (h:B) (f:Zh B→A:=by intro eV;refine AR.yG (i:=26) rfl (by kernel_rfl) rfl (by kernel_rfl) ?_;exact eV.o):A:=f ⟨h⟩
theorem IG {A B:Prop} (h:B) (f:Zh B→A:=by intro eV;refine P5 ?_;refine zm ?_;refine IB ?_;refine zn ?_;refine zy ?_;refine zs ?_;refine zF ?_;refine zm ?_;exact eV.o):A:=f ⟨h⟩
theorem N8 {A:Prop} (h:A:=by refine AR.meet vg (by kernel_rfl) (fun g_=>fe rfl ?_ ?_ rfl);(iterate 39 refine aC ?_);exact trivial;exact DN):A:=h
theorem HD {A B:Prop} (h:B) (f:Zh B→A:=by intro eV;refine nY ?_;refine iK ?_;refine a_.TE rfl rfl rfl rfl rfl ?_;refine nz ?_;exact eV.o):A:=f ⟨h⟩
theorem RX {A B:Prop} (h:B) (f:Zh B→A:=by intro eV;refine ny ?_;refine MU ?_;refine mV ?_;refine rz ?_;refine mJ ?_;refine mJ ?_;refine zA (hf) ?_;refine yf ?_;refine a_.geq rfl rfl rfl rfl rfl ?_;exact eV.o):A:=f ⟨h⟩
theorem zu {A B:Prop} (h:B) (f:Zh B→A:=by intro eV;refine qS ?_;refine kV ?_;refine qP ?_;exact eV.o):A:=f ⟨h⟩
theorem n7 {A B:Prop} (h:B) (f:Zh B→A:=by intro eV;refine zb ?_;refine Q3 ?_;exact eV.o):A:=f ⟨h⟩
theorem It {A B:Prop} (h:B) (f:Zh B→A:=by intro eV;refine AR.yG (i:=23) rfl (by kernel_rfl) rfl (by kernel_rfl) ?_;exact eV.o):A:=f ⟨h⟩
theorem Gq {A B:Prop} (h:B) (f:Zh B→A:=by intro eV;refine Fc ?_;refine a_.pR 4 rfl rfl rfl rfl rfl ?_;exact eV.o):A:=f ⟨h⟩
theorem S7 {A B:Prop} (h:B) (f:Zh B→A:=by intro eV;refine zX (hc) ?_;refine Q1 ?_;refine oy ?_;refine AR.free 7 (by kernel_rfl) rfl rfl rfl (fS.build 44 [0,1] rfl rfl rfl rfl rfl rfl rfl rfl) ?_;exact eV.o):A:=f ⟨h⟩
theorem yX {A B:Prop} (h:B) (f:Zh B→A:=by intro eV;refine U0 ?_;(iterate 2 refine zm ?_);exact eV.o):A:=f ⟨h⟩
theorem qJ {A B:Prop} (h:B) (f:Zh B→A:=by intro eV;refine lK ?_;refine kJ ?_;exact eV.o):A:=f ⟨h⟩
theorem OE {A B:Prop} (h:B) (f:Zh B→A:=by intro eV;(iterate 4 refine a_.kp rfl rfl rfl rfl rfl rfl (by with_reducible assumption) ?_);refine zT ?_;exact eV.o):A:=f ⟨h⟩
theorem qE {A B:Prop} (h:B) (f:Zh B→A:=by intro eV;refine zq ?_;refine zm ?_;exact eV.o):A:=f ⟨h⟩
theorem Nb {A:Prop} (h:A:=by refine AR.meet lF (by kernel_rfl) (fun g_=>fe rfl ?_ ?_ rfl);(iterate 40 refine aC ?_);exact trivial;exact DN):A:=h
theorem RV {A B:Prop} (h:B) (f:Zh B→A:=by intro eV;refine WY ?_;refine iY ?_;refine rA ?_;refine zn ?_;refine DF ?_;refine a_.kr rfl rfl rfl rfl rfl rfl ?_;refine W9 ?_;refine Td ?_;refine nz ?_;refine Qf ?_;exact eV.o):A:=f ⟨h⟩
theorem zS {A B:Prop} (h:B) (f:Zh B→A:=by intro eV;refine zy ?_;refine zb ?_;refine zy ?_;exact eV.o):A:=f ⟨h⟩
theorem BR {A B:Prop} (h:B) (f:Zh B→A:=by intro eV;refine iK ?_;refine a_.fX rfl rfl rfl ?_;exact eV.o):A:=f ⟨h⟩
theorem Sl {A B:Prop} (h:B) (f:Zh B→A:=by intro eV;refine zs ?_;refine zd ?_;refine Q6 ?_;refine j6 ?_;refine zP (hbj) ?_;refine rz ?_;refine mJ ?_;(iterate 2 refine zm ?_);refine zA (Sb) ?_;exact eV.o):A:=f ⟨h⟩
theorem O8 {A B:Prop} (h:B) (f:Zh B→A:=by intro eV;(iterate 3 refine a_.kp rfl rfl rfl rfl rfl rfl (by with_reducible assumption) ?_);refine zT ?_;exact eV.o):A:=f ⟨h⟩
theorem DE {A B:Prop} (h:B) (f:Zh B→A:=by intro eV;refine gV ?_;refine ic ?_;exact eV.o):A:=f ⟨h⟩
theorem QE {A B:Prop} (h:B) (f:Zh B→A:=by intro eV;refine⟨.fb rfl (by first|rfl|(simp only[iA,List.map_append,List.map_cons,List.map_nil];rfl)),?_⟩;exact eV.o):A:=f ⟨h⟩
theorem TW {A B:Prop} (h:B) (f:Zh B→A:=by intro eV;refine⟨.ff (by first|rfl|(simp only[iA,List.map_append,List.map_cons,List.map_nil];rfl)) rfl,?_⟩;exact eV.o):A:=f ⟨h⟩
theorem K6 {A B:Prop} (h:B) (f:Zh B→A:=by intro eV;refine kJ ?_;refine pJ ?_;refine a_.c_ 96 5 10 rfl rfl rfl rfl ?_;exact eV.o):A:=f ⟨h⟩
theorem M5 {A B:Prop} (h:B) (f:Zh B→A:=by intro eV;(iterate 6 refine a_.mG rfl rfl rfl rfl rfl rfl (by first|omega|decide) ?_);refine Q3 ?_;exact eV.o):A:=f ⟨h⟩
theorem xy {A B:Prop} (h:B) (f:Zh B→A:=by intro eV;refine a_.jL rfl rfl rfl rfl rfl rfl ?_;refine zm ?_;exact eV.o):A:=f ⟨h⟩
theorem Jg {A B:Prop} (h:B) (f:Zh B→A:=by intro eV;refine ui ?_;refine xj ?_;refine qE ?_;refine qR ?_;refine IT ?_;exact eV.o):A:=f ⟨h⟩
theorem sg {A B:Prop} (h:B) (f:Zh B→A:=by intro eV;refine AW.region ?_;refine nz ?_;exact eV.o):A:=f ⟨h⟩
theorem Ta {A:Prop} (h:A:=by refine⟨.box _ rfl ?_,?_⟩;refine⟨.iz (by first|with_reducible rfl|(rfl)),?_⟩;exact trivial;refine⟨.set rfl,?_⟩;refine xh ?_;exact Qs):A:=h
theorem NN {A B:Prop} (h:B) (f:Zh B→A:=by intro eV;refine SF ?_;refine a_.c_ 94 1 1 rfl rfl rfl rfl ?_;refine zt ?_;refine zb ?_;refine uW ?_;exact eV.o):A:=f ⟨h⟩
theorem VB {A B:Prop} (h:B) (f:Zh B→A:=by intro eV;refine Tu ?_;refine Mj ?_;refine Mj ?_;refine zk ?_;refine AW.skip ?_;refine yM ?_;refine qS ?_;(iterate 2 refine zm ?_);refine zP (LD) ?_;(iterate 2 refine a_.extract rfl rfl rfl rfl ?_);refine kV ?_;refine ku ?_;refine wa rfl rfl rfl rfl rfl rfl ?_;exact eV.o):A:=f ⟨h⟩
theorem Tl {A B:Prop} (h:B) (f:Zh B→A:=by intro eV;refine zl ?_;refine zA (heq) ?_;refine Q3 ?_;refine AR.iP [13,14] (by kernel_rfl) (by kernel_rfl) (by kernel_rfl) (by kernel_rfl) ?_;exact eV.o):A:=f ⟨h⟩
theorem Rs {A B:Prop} (h:B) (f:Zh B→A:=by intro eV;refine⟨.fb rfl (by first|rfl|(simp only[fO,iG,fk,sq,List.set_set,if_neg h])),?_⟩;exact eV.o):A:=f ⟨h⟩
theorem V6 {A B:Prop} (h:B) (f:Zh B→A:=by intro eV;refine⟨.ff (by first|rfl|(simp only[fO,iG,fk,sq,List.set_set,if_neg h])) rfl,?_⟩;exact eV.o):A:=f ⟨h⟩
theorem Se {A B:Prop} (h:B) (f:Zh B→A:=by intro eV;refine⟨.fb rfl (by first|rfl|(simp only[fO,iG,fk,sq,List.set_set,if_pos h])),?_⟩;exact eV.o):A:=f ⟨h⟩
theorem Ua {A B:Prop} (h:B) (f:Zh B→A:=by intro eV;refine⟨.ff (by first|rfl|(simp only[fO,iG,fk,sq,List.set_set,if_pos h])) rfl,?_⟩;exact eV.o):A:=f ⟨h⟩
theorem OZ {A B:Prop} (h:B) (f:Zh B→A:=by intro eV;refine a_.B7 rfl rfl rfl rfl rfl rfl rfl rfl rfl rfl (by with_reducible assumption) rfl ?_;exact eV.o):A:=f ⟨h⟩
theorem NT {A B:Prop} (h:B) (f:Zh B→A:=by intro eV;refine u6 ?_;refine a_.kQ 50 0 0 1 rfl rfl rfl rfl ?_;refine nz ?_;refine zr ?_;refine zm ?_;refine a_.BJ rfl rfl rfl rfl rfl (by omega) ?_;exact eV.o):A:=f ⟨h⟩
theorem Jo {A:Prop} (h:A:=by(iterate 3 refine aC ?_);exact trivial):A:=h
theorem Up {A B:Prop} (h:B) (f:Zh B→A:=by intro eV;refine a_.fN rfl rfl rfl ?_;refine pJ ?_;refine a_.c_ 90 3 4 rfl rfl rfl rfl ?_;refine zb ?_;refine pJ ?_;refine a_.c_ 90 1 2 rfl rfl rfl rfl ?_;refine iY ?_;refine pJ ?_;refine a_.c_ 90 2 3 rfl rfl rfl rfl ?_;refine iY ?_;refine Q3 ?_;exact eV.o):A:=f ⟨h⟩
theorem zD {A B:Prop} (h:B) (f:Zh B→A:=by intro eV;refine Cp ?_;refine iK ?_;refine ku ?_;exact eV.o):A:=f ⟨h⟩
theorem rK {A B:Prop} (h:B) (f:Zh B→A:=by intro eV;refine zq ?_;refine yf ?_;exact eV.o):A:=f ⟨h⟩
theorem Mr {A B:Prop} (h:B) (f:Zh B→A:=by intro eV;refine a_.AJ rfl rfl rfl rfl rfl rfl rfl rfl rfl rfl ?_;refine oy ?_;exact eV.o):A:=f ⟨h⟩
theorem Nn {A B:Prop} (h:B) (f:Zh B→A:=by intro eV;refine⟨.fm (by first|rfl|exact fZ _ r2 _),?_⟩;exact eV.o):A:=f ⟨h⟩
theorem qx {A B:Prop} (h:B) (f:Zh B→A:=by intro eV;refine uD ?_;refine zo ?_;exact eV.o):A:=f ⟨h⟩
theorem SE {A:Prop} (h:A:=by exact fe rfl (by(refine aC ?_;(iterate 3 refine aC ?_);exact trivial)) (by(exact trivial)) rfl):A:=h
theorem M1 {A B:Prop} (h:B) (f:Zh B→A:=by intro eV;refine AR.iP [39,40] (by kernel_rfl) (by kernel_rfl) (by kernel_rfl) (by kernel_rfl) ?_;exact eV.o):A:=f ⟨h⟩
theorem Sz {A B:Prop} (h:B) (f:Zh B→A:=by intro eV;refine zg ?_;refine AW.gg [0,1,2,3,4,5,6,7,8,9,10] [] rfl (by assumption) (by kernel_rfl) (by kernel_rfl) rfl ?_;exact eV.o):A:=f ⟨h⟩
theorem Pj {A B:Prop} (h:B) (f:Zh B→A:=by intro eV;refine a_.TO rfl rfl rfl rfl rfl (by omega) ?_;refine a_.Rp rfl rfl rfl rfl rfl ?_;exact eV.o):A:=f ⟨h⟩
theorem xx {A B:Prop} (h:B) (f:Zh B→A:=by intro eV;refine nz ?_;refine zm ?_;refine zj ?_;refine lK ?_;exact eV.o):A:=f ⟨h⟩
theorem FJ {A:Prop} (h:A:=by(iterate 12 refine aC ?_);exact trivial):A:=h
theorem Qz {A B:Prop} (h:B) (f:Zh B→A:=by intro eV;refine WG ?_;refine zb ?_;refine IB ?_;refine zA (hw) ?_;refine DA ?_;exact eV.o):A:=f ⟨h⟩
theorem EX {A B:Prop} (h:B) (f:Zh B→A:=by intro eV;refine zq ?_;refine a_.fN rfl rfl rfl ?_;exact eV.o):A:=f ⟨h⟩
theorem IA {A B:Prop} (h:B) (f:Zh B→A:=by intro eV;refine a_.c_ 90 2 3 rfl rfl rfl rfl ?_;refine Q3 ?_;exact eV.o):A:=f ⟨h⟩
theorem FA {A B:Prop} (h:B) (f:Zh B→A:=by intro eV;refine a_.geq rfl rfl rfl rfl rfl ?_;refine ku ?_;exact eV.o):A:=f ⟨h⟩
theorem Un {A B:Prop} (h:B) (f:Zh B→A:=by intro eV;refine Q90 ?_;refine zS ?_;refine a_.fw rfl rfl rfl ?_;refine zy ?_;refine a_.c_ 73 3 4 rfl rfl rfl rfl ?_;refine zS ?_;refine a_.c_ 44 2 2 rfl rfl rfl rfl ?_;refine zS ?_;refine tw ?_;refine zy ?_;exact eV.o):A:=f ⟨h⟩
theorem QI {A:Prop} (h:A:=by refine Q99 ?_;refine⟨.lh (by first|with_reducible rfl|(first|(rw[List.map_append];rfl)|rfl)),?_⟩;exact vM):A:=h
theorem Uh {A B:Prop} (h:B) (f:Zh B→A:=by intro eV;(conv=>rhs;simp only[Nf.X8,Nf.all,Nat.reduceAdd,Nat.reduceSub,Wm,P1,Ek,xu,Nat.reduceBEq,cond_true,cond_false]);refine AW.gg [0,3,4,5,7,8] [11] rfl (by assumption) (by kernel_rfl) (by kernel_rfl) rfl ?_;exact eV.o):A:=f ⟨h⟩
theorem sd {A B:Prop} (h:B) (f:Zh B→A:=by intro eV;refine zo ?_;refine qE ?_;exact eV.o):A:=f ⟨h⟩
theorem tq {A B:Prop} (h:B) (f:Zh B→A:=by intro eV;refine GB ?_;refine jR ?_;exact eV.o):A:=f ⟨h⟩
theorem MJ {A B:Prop} (h:B) (f:Zh B→A:=by intro eV;refine AR.im (i:=5) rfl (by kernel_rfl) rfl (by kernel_rfl) ?_;exact eV.o):A:=f ⟨h⟩
theorem Sj {A B:Prop} (h:B) (f:Zh B→A:=by intro eV;refine ny ?_;refine kc ?_;refine iK ?_;refine vA ?_;refine zs ?_;refine zm ?_;refine zy ?_;refine a_.c_ 24 0 0 rfl rfl rfl rfl ?_;refine zy ?_;refine zb ?_;refine vi ?_;refine zm ?_;exact eV.o):A:=f ⟨h⟩
theorem Gc {A B:Prop} (h:B) (f:Zh B→A:=by intro eV;refine nz ?_;refine I0 ?_;refine zq ?_;refine zQ ?_;exact eV.o):A:=f ⟨h⟩
theorem E2 {A:Prop} (h:A:=by(iterate 11 refine aC ?_);exact trivial):A:=h
theorem IX {A B:Prop} (h:B) (f:Zh B→A:=by intro eV;refine a_.c_ 90 1 2 rfl rfl rfl rfl ?_;refine Q3 ?_;exact eV.o):A:=f ⟨h⟩
theorem wX {A B:Prop} (h:B) (f:Zh B→A:=by intro eV;refine lK ?_;refine AW.block ?_;exact eV.o):A:=f ⟨h⟩
theorem s5 {A B:Prop} (h:B) (f:Zh B→A:=by intro eV;refine oy ?_;refine Cq ?_;exact eV.o):A:=f ⟨h⟩
theorem Ng {A B:Prop} (h:B) (f:Zh B→A:=by intro eV;refine AR.sw 3 4 (by assumption) (by kernel_rfl) (by kernel_rfl) ?_;refine H7 ?_;exact eV.o):A:=f ⟨h⟩
theorem K9 {A B:Prop} (h:B) (f:Zh B→A:=by intro eV;refine a_.c_ 94 1 1 rfl rfl rfl rfl ?_;refine iY ?_;exact eV.o):A:=f ⟨h⟩
theorem Mt {A B:Prop} (h:B) (f:Zh B→A:=by intro eV;refine pJ ?_;refine a_.c_ 96 1 6 rfl rfl rfl rfl ?_;exact eV.o):A:=f ⟨h⟩
theorem V7 {A B:Prop} (h:B) (f:Zh B→A:=by intro eV;refine Q0 ?_;refine ko ?_;refine a_.fN rfl rfl rfl ?_;refine zX (Bh) ?_;refine k9 ?_;refine ku ?_;(iterate 2 refine ic ?_);refine DE ?_;refine gV ?_;refine oJ ?_;exact eV.o):A:=f ⟨h⟩
theorem QY {A B:Prop} (h:B) (f:Zh B→A:=by intro eV;refine a_.n5 rfl rfl rfl ?_;(iterate 4 refine a_.extract rfl rfl rfl rfl ?_);(iterate 4 refine za ?_);exact eV.o):A:=f ⟨h⟩
theorem Ol {A B:Prop} (h:B) (f:Zh B→A:=by intro eV;(conv=>rhs;simp only[Nf.rwR,Nf.all,Nat.reduceBEq,reduceAdd,reduceSub]);exact eV.o):A:=f ⟨h⟩
theorem mn {A B:Prop} (h:B) (f:Zh B→A:=by intro eV;refine Cj ?_;refine zm ?_;exact eV.o):A:=f ⟨h⟩
theorem Kx {A B:Prop} (h:B) (f:Zh B→A:=by intro eV;refine nz ?_;refine ny ?_;refine MU ?_;refine lK ?_;(iterate 2 refine zo ?_);exact eV.o):A:=f ⟨h⟩
theorem qH {A:Prop} (h:A:=by refine Q99 ?_;exact trivial):A:=h
theorem QN {A B:Prop} (h:B) (f:Zh B→A:=by intro eV;refine zl ?_;refine a_.c_ 44 1 1 rfl rfl rfl rfl ?_;refine zl ?_;refine zb ?_;refine zl ?_;refine zA (Js) ?_;refine Y8 ?_;exact eV.o):A:=f ⟨h⟩
theorem wM {A B:Prop} (h:B) (f:Zh B→A:=by intro eV;refine zA (Vt) ?_;refine Q3 ?_;exact eV.o):A:=f ⟨h⟩
theorem td {A B:Prop} (h:B) (f:Zh B→A:=by intro eV;refine Q0 ?_;refine Qf ?_;exact eV.o):A:=f ⟨h⟩
theorem NI {A B:Prop} (h:B) (f:Zh B→A:=by intro eV;refine zt ?_;refine zX (DX) ?_;refine Q1 ?_;refine oy ?_;refine wE ?_;exact eV.o):A:=f ⟨h⟩
theorem N6 {A B:Prop} (h:B) (f:Zh B→A:=by intro eV;refine mJ ?_;refine a_.fX rfl rfl rfl ?_;(iterate 2 refine zm ?_);exact eV.o):A:=f ⟨h⟩
theorem Ku {A B:Prop} (h:B) (f:Zh B→A:=by intro eV;refine a_.kr rfl rfl rfl rfl rfl rfl ?_;refine uD ?_;exact eV.o):A:=f ⟨h⟩
theorem Li {A B:Prop} (h:B) (f:Zh B→A:=by intro eV;refine a_.Gl rfl rfl rfl rfl rfl rfl rfl rfl rfl ?_;exact eV.o):A:=f ⟨h⟩
theorem EM {A B:Prop} (h:B) (f:Zh B→A:=by intro eV;refine zd ?_;refine zk ?_;refine AW.skip ?_;exact eV.o):A:=f ⟨h⟩
theorem Fj {A B:Prop} (h:B) (f:Zh B→A:=by intro eV;refine zX (w6) ?_;refine k9 ?_;exact eV.o):A:=f ⟨h⟩
theorem WN {A B:Prop} (h:B) (f:Zh B→A:=by intro eV;refine zq ?_;refine qJ ?_;refine zm ?_;refine a_.gtr rfl rfl rfl rfl rfl ?_;refine zm ?_;refine zt ?_;refine zm ?_;refine Vd ?_;refine a_.c_ 96 8 13 rfl rfl rfl rfl ?_;refine zt ?_;refine zb ?_;refine zt ?_;refine zn ?_;refine zt ?_;refine zs ?_;refine zT ?_;refine zm ?_;exact eV.o):A:=f ⟨h⟩
theorem qA {A:Prop} (h:A:=by refine Q75 ?_;exact trivial):A:=h
theorem qL {A B:Prop} (h:B) (f:Zh B→A:=by intro eV;refine nz ?_;refine u6 ?_;exact eV.o):A:=f ⟨h⟩
theorem Rm {A B:Prop} (h:B) (f:Zh B→A:=by intro eV;refine zA (F6) ?_;refine Q3 ?_;refine AR.iP [7] (by kernel_rfl) (by kernel_rfl) (by kernel_rfl) (by kernel_rfl) ?_;exact eV.o):A:=f ⟨h⟩
theorem Ra {A:Prop} (h:A:=by refine xh ?_;(iterate 2 refine aF ?_);refine⟨.box _ rfl ?_,?_⟩;exact Jo;exact Qs):A:=h
theorem M0 {A B:Prop} (h:B) (f:Zh B→A:=by intro eV;refine kJ ?_;refine JD ?_;refine vt ?_;refine se ?_;refine tw ?_;exact eV.o):A:=f ⟨h⟩
theorem ML {A B:Prop} (h:B) (f:Zh B→A:=by intro eV;refine a_.n5 rfl rfl rfl ?_;refine mX ?_;exact eV.o):A:=f ⟨h⟩
theorem tW {A B:Prop} (h:B) (f:Zh B→A:=by intro eV;refine zk ?_;refine I6 ?_;exact eV.o):A:=f ⟨h⟩
theorem xV {A B:Prop} (h:B) (f:Zh B→A:=by intro eV;refine B8 ?_;refine AW.ret ?_;exact eV.o):A:=f ⟨h⟩
theorem SX {A B:Prop} (h:B) (f:Zh B→A:=by intro eV;refine⟨.fb rfl (by first|rfl|(rw[List.map_take];rfl)),?_⟩;exact eV.o):A:=f ⟨h⟩
theorem Ut {A B:Prop} (h:B) (f:Zh B→A:=by intro eV;refine⟨.ff (by first|rfl|(rw[List.map_take];rfl)) rfl,?_⟩;exact eV.o):A:=f ⟨h⟩
theorem Jh {A:Prop} (h:A:=by refine Q5 ?_;exact AR.perm (by kernel_rfl) lF):A:=h
theorem qw {A B:Prop} (h:B) (f:Zh B→A:=by intro eV;refine kJ ?_;refine zm ?_;exact eV.o):A:=f ⟨h⟩
theorem Fq {A:Prop} (h:A:=by(iterate 2 refine aC ?_);exact trivial):A:=h
theorem UY {A B:Prop} (h:B) (f:Zh B→A:=by intro eV;refine Tu ?_;refine zc ?_;refine qS ?_;refine a_.c_ 79 1 1 rfl rfl rfl rfl ?_;refine zb ?_;refine a_.PE rfl rfl rfl rfl rfl (by omega) ?_;refine a_.SC rfl rfl rfl rfl rfl (by omega) ?_;refine zj ?_;refine zP (iT) ?_;refine J0 ?_;exact eV.o):A:=f ⟨h⟩
theorem sm {A B:Prop} (h:B) (f:Zh B→A:=by intro eV;refine nz ?_;refine Qf ?_;exact eV.o):A:=f ⟨h⟩
theorem Gp {A B:Prop} (h:B) (f:Zh B→A:=by intro eV;refine a_.n5 rfl rfl rfl ?_;refine Q3 ?_;exact eV.o):A:=f ⟨h⟩
theorem S6 {A B:Prop} (h:B) (f:Zh B→A:=by intro eV;(iterate 2 refine a_.kp rfl rfl rfl rfl rfl rfl (by with_reducible assumption) ?_);refine zT ?_;exact eV.o):A:=f ⟨h⟩
theorem Lh {A B:Prop} (h:B) (f:Zh B→A:=by intro eV;refine se ?_;refine a_.neg rfl rfl rfl (by omega) ?_;exact eV.o):A:=f ⟨h⟩
theorem RE {A B:Prop} (h:B) (f:Zh B→A:=by intro eV;refine ny ?_;refine yf ?_;refine zn ?_;refine vA ?_;refine a_.neq rfl rfl rfl rfl rfl ?_;exact eV.o):A:=f ⟨h⟩
theorem Si {A B:Prop} (h:B) (f:Zh B→A:=by intro eV;refine AW.gg [0,1,2,3,4,6] [8] rfl (by assumption) (by kernel_rfl) (by kernel_rfl) rfl ?_;exact eV.o):A:=f ⟨h⟩
theorem SA {A B:Prop} (h:B) (f:Zh B→A:=by intro eV;refine⟨.fb rfl (by first|rfl|exact fZ _ r2 _),?_⟩;exact eV.o):A:=f ⟨h⟩
theorem VP {A B:Prop} (h:B) (f:Zh B→A:=by intro eV;(iterate 3 refine⟨.fb rfl (by first|rfl|exact fZ _ ET.2 _|simp only[fC _ _ gn]),?_⟩);(iterate 7 refine aF ?_);exact eV.o):A:=f ⟨h⟩
theorem uq {A B:Prop} (h:B) (f:Zh B→A:=by intro eV;refine zy ?_;refine zr ?_;exact eV.o):A:=f ⟨h⟩
theorem V3 {A B:Prop} (h:B) (f:Zh B→A:=by intro eV;refine Nk ?_;refine zs ?_;refine zm ?_;refine Vd ?_;refine a_.c_ 94 0 0 rfl rfl rfl rfl ?_;refine zt ?_;refine zb ?_;refine Vd ?_;refine a_.c_ 94 5 5 rfl rfl rfl rfl ?_;refine zt ?_;refine zb ?_;refine zt ?_;refine Dl ?_;refine zt ?_;exact eV.o):A:=f ⟨h⟩
theorem Bq {A:Prop} (h:A:=by refine aF ?_;exact trivial):A:=h
theorem JV {A B:Prop} (h:B) (f:Zh B→A:=by intro eV;refine Q3 ?_;refine AR.fA (i:=6) rfl (by kernel_rfl) rfl ?_;exact eV.o):A:=f ⟨h⟩
theorem Wl {A B:Prop} (h:B) (f:Zh B→A:=by intro eV;refine iY ?_;refine a_.fw rfl rfl rfl ?_;refine a_.c_ 90 4 5 rfl rfl rfl rfl ?_;refine GB ?_;refine nz ?_;refine zd ?_;refine AW.exit ?_;refine kB ?_;refine oc rfl ?_;exact eV.o):A:=f ⟨h⟩
theorem OO {A B:Prop} (h:B) (f:Zh B→A:=by intro eV;refine zo ?_;refine qw ?_;refine Wc ?_;refine vh ?_;refine Fc ?_;exact eV.o):A:=f ⟨h⟩
theorem O1 {A B:Prop} (h:B) (f:Zh B→A:=by intro eV;refine Mj ?_;refine zc ?_;refine qS ?_;(iterate 2 refine zm ?_);exact eV.o):A:=f ⟨h⟩
theorem OF {A B:Prop} (h:B) (f:Zh B→A:=by intro eV;refine Q0 ?_;refine lK ?_;(iterate 2 refine zo ?_);refine EL ?_;exact eV.o):A:=f ⟨h⟩
theorem Bt {A B:Prop} (h:B) (f:Zh B→A:=by intro eV;refine a_.nil ?_;refine tP ?_;exact eV.o):A:=f ⟨h⟩
theorem QF {A B:Prop} (h:B) (f:Zh B→A:=by intro eV;refine a_.neg rfl rfl rfl (by omega) ?_;refine a_.max2 rfl rfl rfl rfl rfl ?_;refine tw ?_;exact eV.o):A:=f ⟨h⟩
theorem wQ {A B:Prop} (h:B) (f:Zh B→A:=by intro eV;refine PQ ?_;refine oy ?_;exact eV.o):A:=f ⟨h⟩
theorem Pp {A B:Prop} (h:B) (f:Zh B→A:=by intro eV;refine aC ?_;refine⟨.jN _ _ _ rfl rfl,?_⟩;exact eV.o):A:=f ⟨h⟩
theorem Sq {A B:Prop} (h:B) (f:Zh B→A:=by intro eV;refine AR.iP [12,13] (by kernel_rfl) (by kernel_rfl) (by kernel_rfl) (by kernel_rfl) ?_;exact eV.o):A:=f ⟨h⟩
theorem TM {A B:Prop} (h:B) (f:Zh B→A:=by intro eV;refine S9 ?_;refine nY ?_;refine vh ?_;refine zm ?_;refine Fj ?_;refine a_.eql rfl rfl rfl rfl rfl ?_;refine zm ?_;refine zl ?_;refine a_.fX rfl rfl rfl ?_;refine rA ?_;refine zA (Mk) ?_;refine zl ?_;refine a_.not rfl rfl rfl ?_;exact eV.o):A:=f ⟨h⟩
theorem Qy {A B:Prop} (h:B) (f:Zh B→A:=by intro eV;refine AR.meet kv (by kernel_rfl) (fun g_=>fe rfl ?_ ?_ rfl);(iterate 35 refine aC ?_);exact trivial;exact eV.o):A:=f ⟨h⟩
theorem K2 {A B:Prop} (h:B) (f:Zh B→A:=by intro eV;refine Q3 ?_;refine AR.fA (i:=5) rfl (by kernel_rfl) rfl ?_;exact eV.o):A:=f ⟨h⟩
theorem UW {A B:Prop} (h:B) (f:Zh B→A:=by intro eV;refine KH ?_;refine nz ?_;refine KH ?_;refine nz ?_;refine KH ?_;refine nz ?_;refine a_.JP rfl rfl ?_;refine nz ?_;refine a_.JP rfl rfl ?_;refine nz ?_;refine a_.JP rfl rfl ?_;refine nz ?_;exact eV.o):A:=f ⟨h⟩
theorem MI {A B:Prop} (h:B) (f:Zh B→A:=by intro eV;refine a_.c_ 96 3 8 rfl rfl rfl rfl ?_;refine zb ?_;exact eV.o):A:=f ⟨h⟩
theorem KG {A B:Prop} (h:B) (f:Zh B→A:=by intro eV;refine vm ?_;refine zn ?_;refine zs ?_;refine zd ?_;exact eV.o):A:=f ⟨h⟩
theorem Pc {A B:Prop} (h:B) (f:Zh B→A:=by intro eV;refine FH ?_;refine Q6 ?_;refine iK ?_;(iterate 2 refine zm ?_);exact eV.o):A:=f ⟨h⟩
theorem HH {A B:Prop} (h:B) (f:Zh B→A:=by intro eV;refine U0 ?_;refine se ?_;refine Dl ?_;exact eV.o):A:=f ⟨h⟩
theorem J5 {A B:Prop} (h:B) (f:Zh B→A:=by intro eV;refine Q0 ?_;refine a_.fw rfl rfl rfl ?_;exact eV.o):A:=f ⟨h⟩
theorem Sc {A B:Prop} (h:B) (f:Zh B→A:=by intro eV;refine WY ?_;refine iY ?_;refine E3 ?_;refine W9 ?_;refine Td ?_;refine sm ?_;exact eV.o):A:=f ⟨h⟩
theorem KE {A B:Prop} (h:B) (f:Zh B→A:=by intro eV;refine a_.geq rfl rfl rfl rfl rfl ?_;refine zF ?_;exact eV.o):A:=f ⟨h⟩
theorem U7 {A B:Prop} (h:B) (f:Zh B→A:=by intro eV;(iterate 9 refine a_.gE rfl rfl rfl rfl rfl (by assumption) rfl ?_);refine a_.QU rfl rfl (by assumption) rfl rfl rfl rfl ?_;refine xj ?_;refine Jy ?_;exact eV.o):A:=f ⟨h⟩
theorem SM {A B:Prop} (h:B) (f:Zh B→A:=by intro eV;refine P5 ?_;refine zm ?_;refine Qz ?_;refine zm ?_;refine SY ?_;refine a_.c_ 73 0 0 rfl rfl rfl rfl ?_;refine zl ?_;exact eV.o):A:=f ⟨h⟩
theorem Rj {A B:Prop} (h:B) (f:Zh B→A:=by intro eV;refine vh ?_;refine a_.c_ 94 0 0 rfl rfl rfl rfl ?_;refine zb ?_;refine a_.hY rfl rfl rfl rfl ?_;exact eV.o):A:=f ⟨h⟩
theorem HV {A:Prop} (h:A:=by(iterate 38 refine aC ?_);exact trivial):A:=h
theorem DT {A B:Prop} (h:B) (f:Zh B→A:=by intro eV;refine nz ?_;refine zq ?_;refine VX ?_;exact eV.o):A:=f ⟨h⟩
theorem Mh {A B:Prop} (h:B) (f:Zh B→A:=by intro eV;refine a_.c_ 96 6 11 rfl rfl rfl rfl ?_;refine Q3 ?_;exact eV.o):A:=f ⟨h⟩
theorem VK {A B:Prop} (h:B) (f:Zh B→A:=by intro eV;refine zr ?_;refine tE ?_;refine B8 ?_;refine zo ?_;refine iK ?_;refine uS ?_;refine a_.u_ rfl rfl rfl rfl rfl rfl rfl (by omega) (by omega) ?_;refine nq ?_;exact eV.o):A:=f ⟨h⟩
theorem BG {A B:Prop} (h:B) (f:Zh B→A:=by intro eV;refine zd ?_;refine AW.region ?_;exact eV.o):A:=f ⟨h⟩
theorem qn {A B:Prop} (h:B) (f:Zh B→A:=by intro eV;refine zm ?_;refine zy ?_;exact eV.o):A:=f ⟨h⟩
theorem VT {A:Prop} (h:A:=by refine⟨.box _ rfl ?_,?_⟩;refine Q50 ?_;exact trivial;(iterate 3 refine aF ?_);refine RJ ?_;(iterate 2 refine aF ?_);refine RJ ?_;refine aF ?_;refine RJ ?_;exact Bq):A:=h
theorem L8 {A B:Prop} (h:B) (f:Zh B→A:=by intro eV;refine mV ?_;refine GB ?_;refine nz ?_;refine ko ?_;exact eV.o):A:=f ⟨h⟩
theorem S4 {A B:Prop} (h:B) (f:Zh B→A:=by intro eV;refine zl ?_;refine zP (hni) ?_;refine Q3 ?_;refine AR.fA (i:=12) rfl (by kernel_rfl) rfl ?_;exact eV.o):A:=f ⟨h⟩
theorem DP {A B:Prop} (h:B) (f:Zh B→A:=by intro eV;refine zb ?_;(iterate 2 refine zm ?_);exact eV.o):A:=f ⟨h⟩
theorem Wj {A B:Prop} (h:B) (f:Zh B→A:=by intro eV;refine a_.fw rfl rfl rfl ?_;refine a_.c_ 73 0 0 rfl rfl rfl rfl ?_;refine vA ?_;refine uS ?_;refine zA (hw) ?_;refine a_.not rfl rfl rfl ?_;exact eV.o):A:=f ⟨h⟩
theorem Kf {A B:Prop} (h:B) (f:Zh B→A:=by intro eV;refine zr ?_;refine a_.eql rfl rfl rfl rfl rfl ?_;exact eV.o):A:=f ⟨h⟩
theorem Fo {A B:Prop} (h:B) (f:Zh B→A:=by intro eV;refine a_.fN rfl rfl rfl ?_;refine zm ?_;exact eV.o):A:=f ⟨h⟩
theorem Uf {A:Prop} (h:A:=by refine⟨.box _ rfl ?_,?_⟩;refine Q17 ?_;exact trivial;(iterate 3 refine aH ?_);(iterate 7 refine aF ?_);exact trivial):A:=h
theorem Ti {A B:Prop} (h:B) (f:Zh B→A:=by intro eV;refine zl ?_;refine zP (Js) ?_;refine Q3 ?_;refine AR.fA (i:=10) rfl (by kernel_rfl) rfl ?_;exact eV.o):A:=f ⟨h⟩
theorem OM {A B:Prop} (h:B) (f:Zh B→A:=by intro eV;refine a_.gQ rfl rfl rfl rfl rfl rfl rfl rfl ?_;refine nz ?_;exact eV.o):A:=f ⟨h⟩
theorem Oz {A B:Prop} (h:B) (f:Zh B→A:=by intro eV;refine a_.neg rfl rfl rfl (by omega) ?_;refine zm ?_;refine KH ?_;refine nz ?_;exact eV.o):A:=f ⟨h⟩
theorem US {A B:Prop} (h:B) (f:Zh B→A:=by intro eV;refine zs ?_;refine Q3 ?_;refine Cq ?_;refine AW.j8 rfl rfl ?_;refine vH ?_;refine AW.gg [0,1,2,3,4,6] [7] rfl (by assumption) (by kernel_rfl) (by kernel_rfl) rfl ?_;exact eV.o):A:=f ⟨h⟩
theorem Mw {A:Prop} (h:A:=by(iterate 14 refine aC ?_);exact trivial):A:=h
theorem QS {A B:Prop} (h:B) (f:Zh B→A:=by intro eV;refine zl ?_;refine a_.c_ 24 0 0 rfl rfl rfl rfl ?_;refine zl ?_;refine zb ?_;exact eV.o):A:=f ⟨h⟩
theorem CB {A B:Prop} (h:B) (f:Zh B→A:=by intro eV;refine zq ?_;refine vt ?_;refine zm ?_;exact eV.o):A:=f ⟨h⟩
theorem vE {A B:Prop} (h:B) (f:Zh B→A:=by intro eV;refine Cw ?_;refine Q3 ?_;exact eV.o):A:=f ⟨h⟩
theorem ON {A B:Prop} (h:B) (f:Zh B→A:=by intro eV;refine nz ?_;refine AR.fA (i:=38) rfl (by kernel_rfl) rfl ?_;exact eV.o):A:=f ⟨h⟩
theorem RH {A:Prop} (h:A:=by(iterate 2 refine⟨.any _,?_⟩);(iterate 19 refine aC ?_);exact trivial):A:=h
theorem Na {A B:Prop} (h:B) (f:Zh B→A:=by intro eV;refine zm ?_;(iterate 4 refine a_.gE rfl rfl rfl rfl rfl rfl rfl ?_);exact eV.o):A:=f ⟨h⟩
theorem Jm {A B:Prop} (h:B) (f:Zh B→A:=by intro eV;refine nz ?_;refine Cq ?_;refine AW.ret ?_;exact eV.o):A:=f ⟨h⟩
theorem Pe {A B:Prop} (h:B) (f:Zh B→A:=by intro eV;refine Q3 ?_;refine AR.fA (i:=9) rfl (by kernel_rfl) rfl ?_;exact eV.o):A:=f ⟨h⟩
theorem TY {A:Prop} (h:A:=by refine ML ?_;refine AR.meet mP (by kernel_rfl) (fun g_=>fe rfl ?_ ?_ rfl);(iterate 23 refine aC ?_);exact trivial;refine xh ?_;exact nh):A:=h
theorem Rk {A B:Prop} (h:B) (f:Zh B→A:=by intro eV;refine vh ?_;refine zm ?_;refine Fj ?_;refine zd ?_;refine AW.block ?_;refine zq ?_;refine wY ?_;exact eV.o):A:=f ⟨h⟩
theorem Np {A B:Prop} (h:B) (f:Zh B→A:=by intro eV;refine nz ?_;refine AR.fA (i:=5) rfl (by kernel_rfl) rfl ?_;exact eV.o):A:=f ⟨h⟩
theorem w7 {A B:Prop} (h:B) (f:Zh B→A:=by intro eV;refine TG ?_;refine Q3 ?_;exact eV.o):A:=f ⟨h⟩
theorem VI {A B:Prop} (h:B) (f:Zh B→A:=by intro eV;refine u6 ?_;refine JD ?_;refine zm ?_;refine a_.gtr rfl rfl rfl rfl rfl ?_;refine uf ?_;refine j6 ?_;refine zr ?_;refine zn ?_;refine a_.leq rfl rfl rfl rfl rfl ?_;refine zm ?_;exact eV.o):A:=f ⟨h⟩
theorem Oi {A B:Prop} (h:B) (f:Zh B→A:=by intro eV;refine nz ?_;refine AR.fA (i:=9) rfl (by kernel_rfl) rfl ?_;exact eV.o):A:=f ⟨h⟩
theorem NW {A B:Prop} (h:B) (f:Zh B→A:=by intro eV;refine Db ?_;refine zm ?_;refine SF ?_;refine zm ?_;refine uW ?_;exact eV.o):A:=f ⟨h⟩
theorem Oc {A B:Prop} (h:B) (f:Zh B→A:=by intro eV;refine nz ?_;refine AW.region ?_;refine vm ?_;refine MF ?_;exact eV.o):A:=f ⟨h⟩
theorem tN {A B:Prop} (h:B) (f:Zh B→A:=by intro eV;refine wx ?_;refine zm ?_;exact eV.o):A:=f ⟨h⟩
theorem Ry {A B:Prop} (h:B) (f:Zh B→A:=by intro eV;refine zm ?_;(iterate 7 refine a_.kp rfl rfl rfl rfl rfl rfl (by with_reducible assumption) ?_);exact eV.o):A:=f ⟨h⟩
theorem IV {A B:Prop} (h:B) (f:Zh B→A:=by intro eV;refine zm ?_;refine a_.iu rfl rfl rfl ?_;exact eV.o):A:=f ⟨h⟩
theorem E8 {A B:Prop} (h:B) (f:Zh B→A:=by intro eV;refine zm ?_;refine Rw ?_;refine Q3 ?_;exact eV.o):A:=f ⟨h⟩
theorem VE {A B:Prop} (h:B) (f:Zh B→A:=by intro eV;refine EX ?_;refine zm ?_;refine zX (ox) ?_;refine k9 ?_;refine kW ?_;refine qE ?_;refine a_.pR 7 rfl rfl rfl rfl rfl ?_;refine a_.eql rfl rfl rfl rfl rfl ?_;exact eV.o):A:=f ⟨h⟩
theorem Sg {A B:Prop} (h:B) (f:Zh B→A:=by intro eV;refine rK ?_;refine zn ?_;refine zm ?_;refine zn ?_;refine a_.neq rfl rfl rfl rfl rfl ?_;exact eV.o):A:=f ⟨h⟩
theorem V5 {A B:Prop} (h:B) (f:Zh B→A:=by intro eV;refine zT ?_;refine Q3 ?_;refine I0 ?_;refine vH ?_;refine AW.block ?_;refine tu ?_;refine zm ?_;refine zj ?_;refine za ?_;refine a_.nil ?_;refine yM ?_;exact eV.o):A:=f ⟨h⟩
theorem IJ {A B:Prop} (h:B) (f:Zh B→A:=by intro eV;refine a_.not rfl rfl rfl ?_;refine zm ?_;exact eV.o):A:=f ⟨h⟩
theorem aa {A:Prop} (h:A:=by first|omega|(simp only[List.length_map,List.length_append,List.length_cons,List.length_nil,List.length_drop,List.length_take,List.length_set,List.length_range,rW];omega)):A:=h
theorem ab {A:Prop} (h:A:=by first|(with_reducible assumption)|omega|(simp only[e7,List.length_set];omega)):A:=h
theorem ag {A:Prop} (h:A:=by first|exact rfl|assumption|exact YD _|exact X1 _ _|exact o3_ _|exact o4_ _ _):A:=h
theorem ah {A:Prop} (h:A:=by first|exact .pv rfl|exact .own rfl|exact .nil rfl):A:=h
theorem ai {A:Prop} (h:A:=by first|omega|exact Nat.zero_lt_one|(simp;done)):A:=h
theorem aj {A:Prop} (h:A:=by (repeat (first|exact .nil|(refine .cons rfl ?_ ?_;(first|exact .pv _|exact .own _ _ _ _ rfl|exact .nil _|exact .any _|exact .gf _|(refine .lS ?_;repeat (first|exact .nil|(refine .cons ?_ ?_;(first|exact .pv _|exact .own _ _ _ _ rfl|exact .nil _))))))))):A:=h
theorem ak {A:Prop} (h:A:=by (repeat (first|exact .nil|(refine .cons ?_ ?_;(first|exact .eq rfl rfl|exact .nil _|exact .any _))))):A:=h
theorem al {A:Prop} (h:A:=by (repeat (first|exact trivial|refine⟨rfl,?_⟩|refine⟨vP,?_⟩))):A:=h
theorem aq {A:Prop} (h:A:=by (repeat (first|exact trivial|refine⟨rfl,?_⟩))):A:=h
theorem ar {A:Prop} (h:A:=by intro h_;cases h_):A:=h
theorem au {A B:Prop} (h:B) (f:Zh B→A:=by intro eV;(focus ((with_reducible apply a_.Bj);(iterate 4 exact rfl);exact ar;rotate_left;exact ai));exact eV.o):A:=f ⟨h⟩
theorem aw {A B:Prop} (h:B) (f:Zh B→A:=by intro eV;(focus ((with_reducible apply a_.tT 4);(iterate 5 exact rfl);exact ar;rotate_left;exact ab));exact eV.o):A:=f ⟨h⟩
theorem ax {A B:Prop} (h:B) (f:Zh B→A:=by intro eV;(focus ((with_reducible apply a_.tT 7);(iterate 5 exact rfl);exact ar;rotate_left;exact ab));exact eV.o):A:=f ⟨h⟩
theorem ay {A B:Prop} (h:B) (f:Zh B→A:=by intro eV;(focus ((with_reducible apply a_.ER);(iterate 7 exact rfl);omega;rotate_left;exact ai));exact eV.o):A:=f ⟨h⟩
theorem aA {A B:Prop} (h:B) (f:Zh B→A:=by intro eV;(focus ((with_reducible apply a_.A4);(iterate 7 exact rfl);rotate_left;omega));exact eV.o):A:=f ⟨h⟩
theorem aB {A B:Prop} (h:B) (f:Zh B→A:=by intro eV;(try (conv=>rhs;simp only[Nf.X8,Nf.all,Nat.reduceBEq,reduceAdd,reduceSub]));exact eV.o):A:=f ⟨h⟩
theorem aC {A B:Prop} (h:B) (f:Zh B→A:=by intro eV;refine⟨.eq rfl rfl,?_⟩;exact eV.o):A:=f ⟨h⟩
theorem aD {A B:Prop} (h:B) (f:Zh B→A:=by intro eV;refine⟨.fm (by rfl),?_⟩;exact eV.o):A:=f ⟨h⟩
theorem aE {A B:Prop} (h:B) (f:Zh B→A:=by intro eV;refine⟨.ff (by rfl) rfl,?_⟩;exact eV.o):A:=f ⟨h⟩
theorem aF {A B:Prop} (h:B) (f:Zh B→A:=by intro eV;refine⟨.row rfl,?_⟩;exact eV.o):A:=f ⟨h⟩
theorem aG {A B:Prop} (h:B) (f:Zh B→A:=by intro eV;refine⟨.iz (by rfl),?_⟩;exact eV.o):A:=f ⟨h⟩
theorem aH {A B:Prop} (h:B) (f:Zh B→A:=by intro eV;refine⟨.fb rfl (by rfl),?_⟩;exact eV.o):A:=f ⟨h⟩
theorem aI {A:Prop} (h:A:=by kernel_rfl):A:=h
end Go.Ab
