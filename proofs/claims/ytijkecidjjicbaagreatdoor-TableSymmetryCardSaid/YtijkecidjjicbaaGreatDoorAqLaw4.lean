/- The image of a valid model under a permutation of atoms that preserves sorts has a table of the same length, and mapping back by the inverse gives the table of the model. No conditions. -/
import Derived.Test.YtijkecidjjicbaaGreatDoorAqV1
import Derived.Test.YtijkecidjjicbaaGreatDoorAbZ
import Derived.Test.YtijkecidjjicbaaGreatDoorAbL3
import Derived.Test.YtijkecidjjicbaaGreatDoorAqP4
import Derived.Test.YtijkecidjjicbaaGreatDoorAbL4
import Derived.Test.YtijkecidjjicbaaGreatDoorAqS
import Derived.Test.YtijkecidjjicbaaGreatDoorAbL2
import Derived.Test.YtijkecidjjicbaaGreatDoorRows
import Derived.Test.YtijkecidjjicbaaGreatDoorTie
import Derived.Test.YtijkecidjjicbaaGreatDoorCards
import Derived.SevenTiedAt
import Derived.LaidMore
import Derived.Stop.Joined
import Derived.Stop.LaidErr
import Derived.ChangeMaps5
import Derived.WalkKit
import Derived.ProofKit
import Derived.OpenShut
import Derived.ChangeOld
import Derived.Below
set_option linter.unusedSimpArgs false
set_option linter.unusedVariables false
namespace Go.Ab
open Go Go.Proofs
open Nat (reduceAdd reduceSub)
set_option maxRecDepth 20000
set_option maxHeartbeats 8000000
def pickM:Nat→List Int→Int→List Int→List Int×Int
 |0,_,k,out=>(out,k)
 |n+1,left,k,out=>pickM n (left.take (k % (left.length:Int)).toNat++left.drop ((k % (left.length:Int))+1).toNat) (k / (left.length:Int)) (out++ [left.getD (k % (left.length:Int)).toNat 0])
theorem pickM_s (n:Nat) (left:List Int) (k:Int) (out:List Int):pickM (n+1) left k out=pickM n (left.take (k % (left.length:Int)).toNat++left.drop ((k % (left.length:Int))+1).toNat) (k / (left.length:Int)) (out++ [left.getD (k % (left.length:Int)).toNat 0]):=rfl
def rngM (f:Int) (n:Nat):List Int:=(List.range n).map fun(i:Nat)=>f+(i:Int)
def nthM:List Int→Int→Int→List Int→List Int
 |[],_,_,out=>out
 |a::r,f,k,out=>nthM r (f+a) (pickM a.toNat (rngM f a.toNat) k out).2 (pickM a.toNat (rngM f a.toNat) k out).1
theorem nthM_c (a:Int) (r:List Int) (f k:Int) (out:List Int):nthM (a::r) f k out=nthM r (f+a) (pickM a.toNat (rngM f a.toNat) k out).2 (pickM a.toNat (rngM f a.toNat) k out).1:=rfl
theorem rngM_succ (f:Int) (n:Nat):rngM f (n+1)=rngM f n++ [f+(n:Int)]:=by
 unfold rngM
 rw[List.range_succ,List.map_append];rfl
theorem rngM_len (f:Int) (n:Nat):(rngM f n).length=n:=by unfold rngM;simp
theorem pickM_k:∀(n:Nat) (left:List Int) (k:Int) (out:List Int),0≤k→0≤(pickM n left k out).2∧(pickM n left k out).2≤k
 |0,_,k,_,h=>⟨h,Int.le_refl _⟩
 |n+1,left,k,out,h=>by
  have h1:=pickM_k n (left.take (k % (left.length:Int)).toNat++left.drop ((k % (left.length:Int))+1).toNat) (k / (left.length:Int)) (out++ [left.getD (k % (left.length:Int)).toNat 0]) (Int.ediv_nonneg h (by omega))
  have h2:k / (left.length:Int)≤k:=Int.ediv_le_self _ h
  unfold pickM
  exact⟨h1.1,by omega⟩
attribute [local irreducible] AW AOps thenD inBlockD AR iterEnds roundEndsN inlEnds noGotoD EndsX
theorem nth_fn (at':List Int) (st c:Int) (hc:0≤c∧c≤4294967295) (h5:Ok5 at'):Fn Tryz.prog 17 [scp at' st,.pv (.lit (.int .u32 c))] (.pv (ints (nthM at' 0 c []))):=by
 have h1:=h5.len
 refine Fn.enter (n:=77) Tryz.func17 rfl rfl rfl rfl rfl (by decide) fun g hro_ hwt_=>?_;(try refine nz ?_)
 (refine J164 ?_;refine J93 ?_;refine AOps.bs0 rfl rfl rfl rfl rfl ?_;refine J132 ?_;refine zd ?_;refine J2 ?_;refine J131 ?_;refine AOps.convI rfl rfl rfl rfl rfl (by omega) ?_;refine J58 ?_;refine J126 ?_)
 (refine nz ?_;apply AW.loopR [4,2] [0] (fun p:Nat×Int×Int×List Int=>([(8,litI p.1),(6,litI p.2.1),(7,litI p.2.2.1),(5,.own 1 3 1 (p.2.2.2.map encI))]:List (Nat×AV))) (fun p:Nat×Int×Int×List Int=>([(1,some .row)]:List (Nat×Option Ob))) (fun p:Nat×Int×Int×List Int=>p.1≤at'.length∧0≤p.2.1∧p.2.1≤5*p.1∧0≤p.2.2.1∧p.2.2.1≤4294967295∧p.2.2.2.length≤5*p.1∧nthM at' 0 c []=nthM (at'.drop p.1) p.2.1 p.2.2.1 p.2.2.2) (fun p:Nat×Int×Int×List Int=>at'.length - p.1) ((0,0,c,[]));(conv=>lhs;simp only[Nf.lpR,Nf.all,Nat.reduceBEq,reduceAdd,reduceSub]);(all_goals skip))
 ·exact⟨Nat.zero_le _,by simp,by simp,hc.1,hc.2,by simp,rfl⟩
 ·exact weak rfl (by(refine⟨.intE (by first|with_reducible rfl|(rfl)),?_⟩;(iterate 2 refine⟨.intE (by first|with_reducible rfl|(rfl)),?_⟩);refine⟨.ownE (by first|with_reducible rfl|(rfl)) rfl,?_⟩;(iterate 2 refine⟨.eq rfl rfl,?_⟩);exact trivial)) (by(refine⟨.row rfl,?_⟩;refine⟨.box _ rfl ?_,?_⟩;refine⟨.pvE (by first|with_reducible rfl|(rfl)),?_⟩;refine⟨.intE (by first|with_reducible rfl|(rfl)),?_⟩;(iterate 2 exact trivial))) rfl
 rintro⟨s,f,k,out⟩ ⟨hs,hf0,hf1,hk0,hk1,ho,hE⟩
 simp only at hs hf0 hf1 hk0 hk1 ho hE ⊢
 by_cases hlt:s<at'.length
 ·have ha:=h5.each _ (List.getElem_mem hlt)
  have hE2:nthM (at'.drop s) f k out=nthM (at'.drop (s+1)) (f+at'[s]) (pickM at'[s].toNat (rngM f at'[s].toNat) k out).2 (pickM at'[s].toNat (rngM f at'[s].toNat) k out).1:=by
   rw[List.drop_eq_getElem_cons hlt];rfl
  obtain⟨n,hn⟩:∃n:Nat,at'[s]=n:=⟨at'[s].toNat,by omega⟩
  have hn':at'[s].toNat=n:=by omega
  rw[hn'] at hE2
  (refine J179 ?_;refine J3 ?_;refine J2 ?_;refine AOps.bs0 rfl rfl rfl rfl rfl ?_;refine J132 ?_;refine zd ?_;refine J158 ?_)
  (refine nz ?_;apply AW.loopR [8,6,7,5,4,2] [1,0] (fun i:Nat=>([(10,litI i),(9,.own 2 3 1 ((rngM f i).map encI))]:List (Nat×AV))) (fun i:Nat=>([(2,some .row)]:List (Nat×Option Ob))) (fun i:Nat=>i≤n) (fun i:Nat=>n - i) (0);(conv=>lhs;simp only[Nf.lpR,Nf.all,Nat.reduceBEq,reduceAdd,reduceSub]);(all_goals skip))
  ·exact Nat.zero_le _
  ·exact weak rfl (by(refine⟨.intE (by first|with_reducible rfl|(rfl)),?_⟩;refine⟨.ownE (by first|with_reducible rfl|(rfl)) rfl,?_⟩;(iterate 3 refine⟨.intE (by first|with_reducible rfl|(rfl)),?_⟩);refine⟨.ownE (by first|with_reducible rfl|(rfl)) rfl,?_⟩;(iterate 2 refine⟨.eq rfl rfl,?_⟩);exact trivial)) (by(refine⟨.row rfl,?_⟩;refine⟨.row rfl,?_⟩;refine⟨.box _ rfl ?_,?_⟩;refine⟨.pvE (by first|with_reducible rfl|(rfl)),?_⟩;refine⟨.intE (by first|with_reducible rfl|(rfl)),?_⟩;(iterate 2 exact trivial))) rfl
  rintro i hi
  by_cases hlt2:i<n
  ·have hr:=rngM_succ f i
   have hb:(i:Int)<at'[s]:=by omega
   have hml:((rngM f i).map encI).length=i:=by rw[List.length_map,rngM_len]
   have hrl:=rngM_len f i
   (refine J46 ?_;refine J312 ?_;(focus ((with_reducible apply AOps.index_map);(iterate 7 exact rfl);rotate_left;omega));refine zr ?_;refine J3 ?_;refine J135 ?_;(iterate 2 refine zm ?_);refine zj ?_;refine J47 ?_;(with_reducible apply AOps.appendS);exact rfl;(first|exact .pv rfl|exact .own rfl|exact .nil rfl);(iterate 9 exact rfl);(first|omega|(simp only[List.length_map,List.length_append,List.length_cons,List.length_nil,List.length_drop,List.length_take,List.length_set,chunk_len];omega));refine J132 ?_;refine AOps.nil ?_;refine J77 ?_)
   exact⟨i+1,by omega,by omega,weak rfl (by(refine⟨.intE (by first|rfl|(rw[hr,List.map_append];rfl)),?_⟩;refine⟨.ownE (by first|rfl|(rw[hr,List.map_append];rfl)) rfl,?_⟩;refine⟨.intE (by first|rfl|(rw[hr,List.map_append];rfl)),?_⟩;refine⟨.intE (by first|rfl|(rw[hr,List.map_append];rfl)),?_⟩;refine⟨.intE (by first|rfl|(rw[hr,List.map_append];rfl)),?_⟩;refine⟨.ownE (by first|rfl|(rw[hr,List.map_append];rfl)) rfl,?_⟩;(iterate 2 refine⟨.eq rfl rfl,?_⟩);exact trivial)) (by(refine⟨.row rfl,?_⟩;refine⟨.row rfl,?_⟩;refine⟨.box _ rfl ?_,?_⟩;refine⟨.pvE (by first|rfl|(rw[hr,List.map_append];rfl)),?_⟩;refine⟨.intE (by first|rfl|(rw[hr,List.map_append];rfl)),?_⟩;(iterate 2 exact trivial))) rfl⟩
  ·obtain rfl:i=n:=by omega
   have hb:¬(i:Int)<at'[s]:=by omega
   (refine J46 ?_;refine J312 ?_;(focus ((with_reducible apply AOps.index_map);(iterate 7 exact rfl);rotate_left;omega));refine zr ?_;refine J101 ?_;refine zo ?_;refine AW.block ?_)
   (refine nz ?_;apply AW.loopR [8,6,4,2] [0] (fun p:List Int×Int×List Int=>([(9,.own 2 3 1 (p.1.map encI)),(7,litI p.2.1),(5,.own 1 3 1 (p.2.2.map encI))]:List (Nat×AV))) (fun p:List Int×Int×List Int=>([(1,some .row),(2,some .row)]:List (Nat×Option Ob))) (fun p:List Int×Int×List Int=>p.1.length≤5∧0≤p.2.1∧p.2.1≤4294967295∧p.2.2.length+p.1.length≤5*(s+1)∧pickM i (rngM f i) k out=pickM p.1.length p.1 p.2.1 p.2.2) (fun p:List Int×Int×List Int=>p.1.length) ((rngM f i,k,out));(conv=>lhs;simp only[Nf.lpR,Nf.all,Nat.reduceBEq,reduceAdd,reduceSub]);(all_goals skip))
   ·simp only[rngM_len]
    exact⟨by omega,hk0,hk1,by omega,trivial⟩
   ·exact weak rfl (by(refine⟨.ownE (by first|with_reducible rfl|(rfl)) rfl,?_⟩;refine⟨.intE (by first|with_reducible rfl|(rfl)),?_⟩;refine⟨.ownE (by first|with_reducible rfl|(rfl)) rfl,?_⟩;(iterate 2 refine⟨.intE (by first|with_reducible rfl|(rfl)),?_⟩);(iterate 2 refine⟨.eq rfl rfl,?_⟩);exact trivial)) (by(refine⟨.row rfl,?_⟩;refine⟨.row rfl,?_⟩;refine⟨.box _ rfl ?_,?_⟩;refine⟨.pvE (by first|with_reducible rfl|(rfl)),?_⟩;refine⟨.intE (by first|with_reducible rfl|(rfl)),?_⟩;(iterate 2 exact trivial))) rfl
   rintro⟨left,k2,out2⟩ ⟨hl5,hk20,hk21,ho2,hE3⟩
   simp only at hl5 hk20 hk21 ho2 hE3 ⊢
   by_cases hl0:0<left.length
   ·have hq:(left.length:Int)≠0:=by omega
    have hm0:0≤k2 % (left.length:Int):=Int.emod_nonneg _ hq
    have hm1:k2 % (left.length:Int)<(left.length:Int):=Int.emod_lt_of_pos _ (by omega)
    have hd0:0≤k2 / (left.length:Int):=Int.ediv_nonneg hk20 (by omega)
    have hd1:k2 / (left.length:Int)≤k2:=Int.ediv_le_self _ hk20
    have hmn:(k2 % (left.length:Int)).toNat<left.length:=by omega
    obtain⟨l',hl'⟩:∃l',l'=left.take (k2 % (left.length:Int)).toNat++left.drop ((k2 % (left.length:Int))+1).toNat:=⟨_,rfl⟩
    have hll:l'.length+1=left.length:=by
     rw[hl',List.length_append,List.length_take,List.length_drop]
     omega
    have hE4:pickM left.length left k2 out2=pickM l'.length l' (k2 / (left.length:Int)) (out2++ [left[(k2 % (left.length:Int)).toNat]]):=by
     have h:=pickM_s l'.length left k2 out2
     rw[hll,← hl',List.getD_eq_getElem?_getD,List.getElem?_eq_getElem hmn] at h
     exact h
    (refine zo ?_;refine zq ?_;refine J149 ?_;refine AOps.gtr rfl rfl rfl rfl rfl ?_;refine zd ?_;refine zc ?_;refine AW.skip ?_;refine thenD_n ?_;refine AW.block ?_;refine J32 ?_;refine J149 ?_;refine AOps.remE rfl rfl rfl rfl rfl (by omega) ?_;refine J131 ?_;refine J149 ?_;refine AOps.quoE rfl rfl rfl rfl rfl (by omega) ?_;refine J93 ?_;(iterate 2 refine AOps.move_own rfl rfl rfl ?_);refine zm ?_;refine AOps.index_own_mapI rfl rfl rfl rfl rfl rfl rfl (by omega) (by omega) ?_;(focus ((with_reducible apply AOps.load_o1_mapI);(iterate 4 exact rfl);exact(fun h_=>by cases h_);rotate_left;(first|omega|exact Nat.zero_lt_one|exact(by simp))));refine J47 ?_;(with_reducible apply AOps.appendS);exact rfl;(first|exact .pv rfl|exact .own rfl|exact .nil rfl);(iterate 9 exact rfl);(first|omega|(simp only[List.length_map,List.length_append,List.length_cons,List.length_nil,List.length_drop,List.length_take,List.length_set,chunk_len];omega));refine J132 ?_;refine zd ?_;refine J2 ?_;refine AOps.bs0 rfl rfl rfl rfl rfl ?_;refine nz ?_;refine AOps.move_own rfl rfl rfl ?_;refine zm ?_;(with_reducible apply AOps.slice_own);(iterate 7 exact rfl);omega;(first|omega|(simp only[List.length_map,List.length_append,List.length_cons,List.length_nil,List.length_drop,List.length_take,List.length_set,chunk_len];omega));(with_reducible apply AOps.appendS);exact rfl;(first|exact .pv rfl|exact .own rfl|exact .nil rfl);(iterate 9 exact rfl);(first|omega|(simp only[List.length_map,List.length_append,List.length_cons,List.length_nil,List.length_drop,List.length_take,List.length_set,chunk_len];omega));refine J132 ?_;refine zd ?_;(with_reducible apply AW.swO 17 12 4 2);(with_reducible assumption);(iterate 3 exact rfl);(conv=>rhs;simp only[Nf.swR,Nf.all,Nat.reduceBEq,reduceAdd,reduceSub]);refine zq ?_;(iterate 2 refine AOps.move_own rfl rfl rfl ?_);refine zm ?_;refine zj ?_;refine AOps.frzS rfl rfl ?_;refine nz ?_;refine AOps.slice_frI rfl rfl rfl rfl rfl rfl rfl (by omega) (by omega) ?_;(with_reducible apply AOps.appendS);exact rfl;(first|exact .pv rfl|exact .own rfl|exact .nil rfl);(iterate 9 exact rfl);(first|omega|(simp only[List.length_map,List.length_append,List.length_cons,List.length_nil,List.length_drop,List.length_take,List.length_set,chunk_len];omega));refine J132 ?_;refine zd ?_;refine J135 ?_;refine AOps.assign_own rfl rfl rfl ?_;refine AOps.nil ?_;refine J264 ?_)
    exact⟨(l',k2 / (left.length:Int),out2++ [left[(k2 % (left.length:Int)).toNat]]),⟨by simp only;omega,hd0,by simp only;omega,by simp only[List.length_append,List.length_cons,List.length_nil];omega,by simp only;rw[hE3,hE4]⟩,by simp only;omega,weak rfl (by(refine⟨.ownE (by first|rfl|(simp only[hl',List.map_append,List.map_take,List.nil_append];done)|(simp only[List.map_append];rfl)) rfl,?_⟩;refine⟨.intE (by first|rfl|(simp only[hl',List.map_append,List.map_take,List.nil_append];done)|(simp only[List.map_append];rfl)),?_⟩;refine⟨.ownE (by first|rfl|(simp only[hl',List.map_append,List.map_take,List.nil_append];done)|(simp only[List.map_append];rfl)) rfl,?_⟩;refine⟨.intE (by first|rfl|(simp only[hl',List.map_append,List.map_take,List.nil_append];done)|(simp only[List.map_append];rfl)),?_⟩;refine⟨.intE (by first|rfl|(simp only[hl',List.map_append,List.map_take,List.nil_append];done)|(simp only[List.map_append];rfl)),?_⟩;(iterate 2 refine⟨.eq rfl rfl,?_⟩);exact trivial)) (by(refine⟨.row rfl,?_⟩;refine⟨.row rfl,?_⟩;refine⟨.box _ rfl ?_,?_⟩;refine⟨.pvE (by first|rfl|(simp only[hl',List.map_append,List.map_take,List.nil_append];done)|(simp only[List.map_append];rfl)),?_⟩;refine⟨.intE (by first|rfl|(simp only[hl',List.map_append,List.map_take,List.nil_append];done)|(simp only[List.map_append];rfl)),?_⟩;(iterate 2 exact trivial))) rfl⟩
   ·have hl:left=[]:=List.length_eq_zero_iff.1 (by omega)
    subst hl
    have hE5:pickM i (rngM f i) k out=(out2,k2):=hE3
    rw[hE5] at hE2
    simp only at hE2
    (refine zo ?_;refine zq ?_;refine J149 ?_;refine AOps.gtr rfl rfl rfl rfl rfl ?_;refine J298 ?_;refine J102 ?_;refine zm ?_;refine J312 ?_;(focus ((with_reducible apply AOps.index_map);(iterate 7 exact rfl);rotate_left;omega));refine zr ?_;refine zj ?_;refine J223 ?_;refine J77 ?_)
    exact⟨(s+1,f+at'[s],k2,out2),⟨by simp only;omega,by simp only;omega,by simp only;omega,hk20,hk21,by simp only[List.length_nil] at ho2 ⊢;omega,by simp only;rw[hE,hE2]⟩,by simp only;omega,weak rfl (by(refine⟨.intE (by first|with_reducible rfl|(rfl)),?_⟩;(iterate 2 refine⟨.intE (by first|with_reducible rfl|(rfl)),?_⟩);refine⟨.ownE (by first|with_reducible rfl|(rfl)) rfl,?_⟩;(iterate 2 refine⟨.eq rfl rfl,?_⟩);exact trivial)) (by(refine⟨.row rfl,?_⟩;refine⟨.box _ rfl ?_,?_⟩;refine⟨.pvE (by first|with_reducible rfl|(rfl)),?_⟩;refine⟨.intE (by first|with_reducible rfl|(rfl)),?_⟩;(iterate 2 exact trivial))) rfl⟩
 ·obtain rfl:s=at'.length:=by omega
  rw[List.drop_length] at hE
  have hE6:nthM at' 0 c []=out:=hE
  rw[hE6]
  (refine J179 ?_;refine J101 ?_;refine J108 ?_;refine zd ?_;refine AW.ret ?_)
  (apply ends_ret;(exact Res.one (.tmp rfl rfl));(exact Le.own _ _ _ _ rfl))
end Go.Ab
/- Chapter 34:what Nth makes is a permutation that keeps the sorts. -/
namespace Go.Ab
open Go Go.Proofs
set_option maxRecDepth 20000
set_option maxHeartbeats 4000000
theorem pick_perm:∀(n:Nat) (left:List Int) (k:Int) (out:List Int),left.length=n→0≤k→∃q,(pickM n left k out).1=out++q∧q.Perm left
 |0,left,k,out,h,_=>by
  obtain rfl:=List.length_eq_zero_iff.1 h
  exact⟨[],by simp [pickM],List.Perm.nil⟩
 |n+1,left,k,out,h,hk=>by
  have hq:(left.length:Int)≠0:=by omega
  have hm0:0≤k % (left.length:Int):=Int.emod_nonneg _ hq
  have hm1:k % (left.length:Int)<(left.length:Int):=Int.emod_lt_of_pos _ (by omega)
  obtain⟨i,hi⟩:∃i:Nat,k % (left.length:Int)=i:=⟨(k % (left.length:Int)).toNat,by omega⟩
  have hil:i<left.length:=by omega
  obtain⟨q,h1,h2⟩:=pick_perm n (left.take i++left.drop (i+1)) (k / (left.length:Int)) (out++ [left[i]]) (by rw[List.length_append,List.length_take,List.length_drop];omega) (Int.ediv_nonneg hk (by omega))
  refine⟨left[i]::q,?_,?_⟩
  ·rw[pickM_s,hi,Int.toNat_natCast,show((i:Int)+1).toNat=i+1 by omega,List.getD_eq_getElem?_getD,List.getElem?_eq_getElem hil]
   show(pickM n _ _ (out++ [left[i]])).1=_
   rw[h1];simp
  ·refine(List.Perm.cons _ h2).trans ?_
   have e:left=left.take i++left[i]::left.drop (i+1):=by
    conv=>lhs;rw[← List.take_append_drop i left,List.drop_eq_getElem_cons hil]
   conv=>rhs;rw[e]
   exact List.perm_middle.symm
def Blk:List Int→Int→List Int→Prop
 |[],_,q=>q=[]
 |a::r,f,q=>∃b q',q=b++q'∧b.Perm (rngM f a.toNat)∧Blk r (f+a) q'
theorem nth_blk:∀(at':List Int) (f k:Int) (out:List Int),0≤k→∃q,nthM at' f k out=out++q∧Blk at' f q
 |[],f,k,out,_=>⟨[],by simp [nthM],rfl⟩
 |a::r,f,k,out,hk=>by
  obtain⟨b,h1,h2⟩:=pick_perm a.toNat (rngM f a.toNat) k out (rngM_len _ _) hk
  have hk2:=(pickM_k a.toNat (rngM f a.toNat) k out hk).1
  obtain⟨q,h3,h4⟩:=nth_blk r (f+a) (pickM a.toNat (rngM f a.toNat) k out).2 (pickM a.toNat (rngM f a.toNat) k out).1 hk2
  refine⟨b++q,?_,b,q,rfl,h2,h4⟩
  rw[nthM_c,h3,h1,List.append_assoc]
theorem rng_mem {f x:Int} {n:Nat}:x∈rngM f n↔f≤x∧x<f+n:=by
 unfold rngM
 rw[List.mem_map]
 constructor
 ·rintro⟨i,hi,rfl⟩
  have:=List.mem_range.1 hi
  omega
 ·rintro⟨h1,h2⟩
  exact⟨(x - f).toNat,List.mem_range.2 (by omega),by omega⟩
theorem rng_nodup (f:Int) (n:Nat):(rngM f n).Nodup:=by
 unfold rngM
 rw[List.Nodup,List.pairwise_map]
 exact List.pairwise_lt_range.imp fun h=>by omega
theorem blk_spec:∀{at':List Int} {f:Int} {q:List Int},(∀a∈at',0≤a)→Blk at' f q→(q.length:Int)=at'.sum∧q.Nodup∧(∀x∈q,f≤x∧x<f+at'.sum)∧
  ∀i (h:i<q.length),∃s,s<at'.length∧(f+(at'.take s).sum≤q[i]∧q[i]<f+(at'.take (s+1)).sum)∧(f+(at'.take s).sum≤f+i∧f+i<f+(at'.take (s+1)).sum)
 |[],f,q,_,h=>by
  obtain rfl:q=[]:=h
  exact⟨rfl,List.nodup_nil,fun x hx=>(by cases hx),fun i h=>(by simp at h)⟩
 |a::r,f,q,hp,h=>by
  obtain⟨b,q',rfl,hb,hq⟩:=h
  have ha:=hp a (by simp)
  obtain⟨h1,h2,h3,h4⟩:=blk_spec (fun x hx=>hp x (by simp [hx])) hq
  have hbl:b.length=a.toNat:=by rw[hb.length_eq,rngM_len]
  have hbm:∀x∈b,f≤x∧x<f+a:=fun x hx=>by
   have:=rng_mem.1 (hb.mem_iff.1 hx)
   omega
  have hr:=sum_nn (l:=r) fun x hx=>hp x (by simp [hx])
  refine⟨?_,?_,?_,?_⟩
  ·rw[List.length_append,List.sum_cons];omega
  ·refine List.nodup_append.2 ⟨hb.nodup_iff.2 (rng_nodup _ _),h2,fun x hx y hy e=>?_⟩
   have:=hbm x hx
   have:=h3 y hy
   omega
  ·intro x hx
   rw[List.sum_cons]
   rcases List.mem_append.1 hx with hx|hx
   ·have:=hbm x hx;omega
   ·have:=h3 x hx;omega
  ·intro i hi
   by_cases hib:i<b.length
   ·refine⟨0,by simp,?_,?_⟩
    ·rw[List.getElem_append_left hib]
     have:=hbm _ (List.getElem_mem hib)
     simp;omega
    ·simp;omega
   ·obtain⟨s,e1,e2,e3⟩:=h4 (i - b.length) (by rw[List.length_append] at hi;omega)
    refine⟨s+1,by simpa using e1,?_,?_⟩
    ·rw[List.getElem_append_right (by omega)]
     rw[List.take_succ_cons,List.take_succ_cons,List.sum_cons,List.sum_cons]
     omega
    ·rw[List.take_succ_cons,List.take_succ_cons,List.sum_cons,List.sum_cons]
     omega
theorem nth_perm {at':List Int} (h5:Ok5 at') {c:Int} (hc:0≤c):PermA (nthM at' 0 c []).length (fun x=>sortF at' x 0) (nthM at' 0 c [])∧((nthM at' 0 c []).length:Int)=at'.sum:=by
 obtain⟨q,h1,h2⟩:=nth_blk at' 0 c [] hc
 rw[List.nil_append] at h1
 rw[h1]
 obtain⟨e1,e2,e3,e4⟩:=blk_spec h5.nn h2
 refine⟨⟨rfl,e2,fun x hx=>by have:=e3 x hx;omega,fun i h=>?_⟩,e1⟩
 obtain⟨s,hs,⟨a1,a2⟩,b1,b2⟩:=e4 i h
 have hx:=e3 _ (List.getElem_mem h)
 have s1:=(sortF_at h5.nn (x:=q[i]) (by omega) hs).2 ⟨by omega,by omega⟩
 have s2:=(sortF_at h5.nn (x:=(i:Int)) (by omega) hs).2 ⟨by omega,by omega⟩
 show sortF at' q[i] 0=sortF at' (i:Int) 0
 rw[s1,s2]
end Go.Ab
/- Chapter 34:the image of a valid model is valid,its text as long,and the way back. -/
namespace Go.Ab
open Go Go.Proofs
set_option maxRecDepth 20000
set_option linter.unusedSectionVars false
set_option maxHeartbeats 4000000
structure PermS (at':List Int) (p:List Int):Prop where
 pm:PermA p.length (fun x=>sortF at' x 0) p
 ln:(p.length:Int)=at'.sum
theorem incrB_of {top:Int}:∀{l:List Int} {last:Int},Inc l→(∀x∈l,last<x∧x<top)→incrB top last l=true
 |[],_,_,_=>by unfold incrB;rfl
 |a::l,last,h,h'=>by
  obtain⟨h1,h2⟩:=List.pairwise_cons.1 h
  unfold incrB
  rw[Bool.and_eq_true,decide_eq_true_eq]
  exact⟨h' a (by simp),incrB_of h2 fun x hx=>⟨h1 x hx,(h' x (by simp [hx])).2⟩⟩
theorem sort_inc {l:List Int} (h:l.Nodup):Inc (sortL l):=by
 have h1:=sort_le l
 have h2:(sortL l).Nodup:=(List.mergeSort_perm l _).nodup_iff.2 h
 exact(h1.and h2).imp fun h=>by omega
theorem sort_len (l:List Int):(sortL l).length=l.length:=by simp [sortL]
section
variable {at' p:List Int} (hp:PermS at' p) (h5:∀y∈at',0≤y) (hn:0<p.length)
include hp h5 hn
theorem cols_img:∀(l:List Int) (t:Int),colsF at' at'.sum l (imgR p.length p l.length t)=colsF at' at'.sum l t
 |[],t=>rfl
 |s::l,t=>by
  unfold colsF
  have hm:=mod_lt hn t
  have hd:=hp.pm.lt hm
  have h1:=hp.pm.srt _ hm
  rw[← hp.pm.at hm] at h1
  have h2:((t % (p.length:Int)).toNat:Int)=t % (p.length:Int):=by
   have:=Int.emod_nonneg t (show(p.length:Int)≠0 by omega)
   omega
  rw[h2] at h1
  have ih:=cols_img l (t / (p.length:Int))
  rw[← hp.ln] at ih ⊢
  show(decide (sortF at' ((p.getD (t % (p.length:Int)).toNat 0+(p.length:Int)*imgR p.length p l.length (t / (p.length:Int))) % (p.length:Int)) 0=s) && colsF at' (p.length:Int) l ((p.getD (t % (p.length:Int)).toNat 0+(p.length:Int)*imgR p.length p l.length (t / (p.length:Int))) / (p.length:Int)))=_
  rw[digit_mod hd,digit_div hn hd,ih,h1]
theorem full_img {l:List Int} (hs:∀s∈l,0≤s∧s<at'.length) {t:Int} (ht:t∈(fullR at' l).2):imgR p.length p l.length t∈(fullR at' l).2:=by
 have h1:=(mem_full h5 l hs t).1 ht
 refine(mem_full h5 l hs _).2 ?_
 have h2:=img_rng hp.pm hn l.length t
 have h3:=cols_img hp h5 hn l.reverse t
 rw[List.length_reverse] at h3
 refine⟨h2.1,by rw[h3];exact h1.2.1,?_⟩
 rw[← hp.ln]
 have:((p.length ^ l.length:Nat):Int)=(p.length:Int) ^ l.length:=by simp
 omega
theorem full_rng {l:List Int} (hs:∀s∈l,0≤s∧s<at'.length) {t:Int} (ht:t∈(fullR at' l).2):0≤t∧t<((p.length ^ l.length:Nat):Int):=by
 have h1:=(mem_full h5 l hs t).1 ht
 refine⟨h1.1,?_⟩
 have:((p.length ^ l.length:Nat):Int)=(p.length:Int) ^ l.length:=by simp
 rw[this,hp.ln];exact h1.2.2
theorem img_nodup {l ts:List Int} (hs:∀s∈l,0≤s∧s<at'.length) (hi:Inc ts) (hf:∀t∈ts,t∈(fullR at' l).2):(ts.map (imgR p.length p l.length)).Nodup:=by
 induction ts with
 |nil=>simp
 |cons t ts ih=>
  obtain⟨h1,h2⟩:=List.pairwise_cons.1 hi
  rw[List.map_cons]
  refine List.nodup_cons.2 ⟨fun hm=>?_,ih h2 fun u hu=>hf u (by simp [hu])⟩
  obtain⟨u,hu,e⟩:=List.mem_map.1 hm
  have:=img_inj hp.pm hn l.length (full_rng hp h5 hn hs (hf u (by simp [hu]))) (full_rng hp h5 hn hs (hf t (by simp))) e
  have:=h1 u hu
  omega
theorem rel_back {l:List Int} {r:RelM} (hs:∀s∈l,0≤s∧s<at'.length) (ha:r.1=(l.length:Int)) (hi:Inc r.2) (hf:∀t∈r.2,t∈(fullR at' l).2):imgRel (invA p) (imgRel p r)=r:=by
 obtain⟨ar,ts⟩:=r
 simp only at ha hi hf
 subst ha
 unfold imgRel
 simp only[Int.toNat_natCast,invA_len]
 congr 1
 have hv:=hp.pm.inv
 have key:∀t∈ts,imgR p.length (invA p) l.length (imgR p.length p l.length t)=t:=fun t ht=>by
  rw[← img_compA hp.pm hn,inv_comp hp.pm]
  exact img_id hn _ (full_rng hp h5 hn hs (hf t ht))
 have hmem:∀x,x∈(sortL (ts.map (imgR p.length p l.length))).map (imgR p.length (invA p) l.length)↔x∈ts:=by
  intro x
  rw[List.mem_map]
  constructor
  ·rintro⟨y,hy,rfl⟩
   obtain⟨t,ht,rfl⟩:=List.mem_map.1 (sort_mem.1 hy)
   rw[key t ht];exact ht
  ·intro hx
   exact⟨_,sort_mem.2 (List.mem_map.2 ⟨x,hx,rfl⟩),key x hx⟩
 refine inc_ext (sort_inc ?_) hi fun x=>?_
 ·
  have hnd:=img_nodup hp h5 hn hs hi hf
  have hnd2:(sortL (ts.map (imgR p.length p l.length))).Nodup:=(List.mergeSort_perm _ _).nodup_iff.2 hnd
  refine(List.pairwise_map.2 (hnd2.imp_of_mem ?_))
  intro a b hma hmb hab e
  obtain⟨t,ht,rfl⟩:=List.mem_map.1 (sort_mem.1 hma)
  obtain⟨u,hu,rfl⟩:=List.mem_map.1 (sort_mem.1 hmb)
  rw[key t ht,key u hu] at e
  exact hab (by rw[e])
 ·rw[sort_mem];exact hmem x
end
section
variable {s:SpecM} {m:ModM} {p:List Int} (hp:PermS m.atoms p) (hn:0<p.length) (hv:validB (fullR m.atoms) s m=true)
include hp hn hv
theorem rel_img {st:List RelM} (hst:st∈m.states) {j:Nat} (h1:j<s.fields.length) (h2:j<st.length):
  (imgRel p st[j]).1=s.fields[j].sorts.length∧relOk m.atoms.sum (imgRel p st[j])=true∧(∀t∈(imgRel p st[j]).2,t∈(fullR m.atoms s.fields[j].sorts).2)∧imgRel (invA p) (imgRel p st[j])=st[j]∧(imgRel p st[j]).2.length=st[j].2.length∧ImgOk st[j]:=by
 obtain⟨q1,q2,q3,q4⟩:=valid_spec hv
 have h5:=scope5 q1
 obtain⟨k1,k2,k3,k4,k5,k6,k7⟩:=scopeOk_spec q1
 obtain⟨r1,r2,r3,r4⟩:=(valid_rel hv hst).2 j h1 h2
 obtain⟨c1,c2⟩:=cols_spec r1
 rw[← k2] at c2
 have hro:=r3
 unfold relOk at hro
 rw[Bool.and_eq_true,decide_eq_true_eq] at hro
 obtain⟨i1,i2⟩:=incrB_inc hro.2
 have hb:=rel_back hp h5.nn hn c2 r2 i1 r4
 generalize st[j]=r at*
 generalize s.fields[j]=f at*
 obtain⟨ar,ts⟩:=r
 simp only at r2 r4 i1 i2 hro
 subst r2
 have hmem:∀t∈(imgRel p ((f.sorts.length:Int),ts)).2,t∈(fullR m.atoms f.sorts).2:=by
  intro t ht
  obtain⟨u,hu,rfl⟩:=List.mem_map.1 (sort_mem.1 ht)
  simp only[Int.toNat_natCast]
  exact full_img hp h5.nn hn c2 (r4 u hu)
 refine⟨rfl,?_,hmem,hb,?_,?_⟩
 ·unfold relOk
  rw[Bool.and_eq_true,decide_eq_true_eq]
  refine⟨hro.1,incrB_of ?_ fun x hx=>?_⟩
  ·show Inc (sortL _)
   simp only[Int.toNat_natCast]
   exact sort_inc (img_nodup hp h5.nn hn c2 i1 r4)
  ·have:=full_rng hp h5.nn hn c2 (hmem x hx)
   have e:((p.length ^ f.sorts.length:Nat):Int)=(p.length:Int) ^ f.sorts.length:=by simp
   rw[e,hp.ln] at this
   show -1<x∧x<m.atoms.sum ^ (((f.sorts.length:Nat):Int)).toNat
   rw[Int.toNat_natCast]
   exact⟨by omega,this.2⟩
 ·show(sortL _).length=_
  rw[sort_len,List.length_map]
 ·have hl:=inc_sub_len i1 (full_inc h5.nn c2) r4
  have hl2:(fullR m.atoms f.sorts).2.length≤125:=by
   show(rks _ _ _).length≤_
   rw[rks_len]
   exact cols_small k5 c1.2
  refine⟨by simp only;omega,fun t ht=>?_,by simp only;omega⟩
  have h7:=full_rng hp h5.nn hn c2 (r4 t ht)
  have h8:=pw_b (n:=p.length) (i:=f.sorts.length) (by have:=hp.ln;omega) c1.2 hn
  simp only[pwI] at h8
  omega
theorem state_head (l:List (List RelM)):(l.map fun st=>st.map (imgRel p)).headD []=(l.headD []).map (imgRel p):=by
 cases l<;>simp
theorem valid_img:validB (fullR (imgMod p m).atoms) s (imgMod p m)=true:=by
 obtain⟨q1,q2,q3,q4⟩:=valid_spec hv
 have hmk:∀{full:List Int→RelM} {s:SpecM} {m:ModM},scopeOk s.sorts.length m.atoms m.steps=true→((m.states.length:Int)=m.steps∧0≤m.loop∧m.loop<m.states.length)→fieldsB s.sorts.length s.fields=true→statesB m.atoms.sum full s.fields (m.states.headD []) m.states=true→validB full s m=true:=by
  intro full s m h1 h2 h3 h4
  unfold validB shapeB
  rw[h1,decide_eq_true h2,h3,h4];rfl
 refine hmk q1 ?_ q3 ?_
 ·show(((m.states.map _).length:Nat):Int)=_∧_∧m.loop<(((m.states.map _).length:Nat):Int)
  rw[List.length_map];exact q2
 ·show statesB m.atoms.sum (fullR m.atoms) s.fields ((m.states.map fun st=>st.map (imgRel p)).headD []) (m.states.map fun st=>st.map (imgRel p))=true
  rw[state_head hp hn hv]
  unfold statesB at q4 ⊢
  rw[List.all_eq_true] at q4 ⊢
  intro st' hst'
  obtain⟨st,hst,rfl⟩:=List.mem_map.1 hst'
  have hb:=q4 st hst
  have hl:=stateB_len hb
  have hne:m.states.headD []∈m.states:=by
   cases hs:m.states with
   |nil=>rw[hs] at hst;simp at hst
   |cons a l=>simp
  have hl0:=stateB_len (q4 _ hne)
  unfold stateB at hb ⊢
  rw[decide_eq_true hl,Bool.true_and,cellsB_iff hl hl0] at hb
  rw[decide_eq_true (by rw[List.length_map];exact hl),Bool.true_and,cellsB_iff (by rw[List.length_map];exact hl) (by rw[List.length_map];exact hl0)]
  intro j hj
  have h1:=hb j hj
  obtain⟨e1,e2,e3,e4,e5,e6⟩:=rel_img hp hn hv hst hj (by omega)
  rw[List.getElem_map,List.getElem_map]
  unfold cellB at h1 ⊢
  simp only[Bool.and_eq_true,Bool.or_eq_true,decide_eq_true_eq] at h1 ⊢
  refine⟨e1,e2,?_,?_⟩
  ·unfold subL
   rw[List.all_eq_true]
   exact fun t ht=>decide_eq_true (e3 t ht)
  ·rcases h1.2.2.2 with h|h
   ·exact .inl h
   ·exact .inr (by rw[h])
theorem img_ok (hf:s.fields.length≤100000):(∀x∈m.states,x.length≤100000∧∀r∈x,ImgOk r)∧imgMod (invA p) (imgMod p m)=m:=by
 have hlen:∀x∈m.states,x.length=s.fields.length:=fun x hx=>(valid_rel hv hx).1
 have hrel:∀x∈m.states,∀r∈x,ImgOk r∧imgRel (invA p) (imgRel p r)=r:=fun x hx r hr=>by
  obtain⟨j,hj,rfl⟩:=List.getElem_of_mem hr
  have:=rel_img hp hn hv hx (j:=j) (by rw[← hlen x hx];exact hj) hj
  exact⟨this.2.2.2.2.2,this.2.2.2.1⟩
 refine⟨fun x hx=>⟨by rw[hlen x hx];exact hf,fun r hr=>(hrel x hx r hr).1⟩,?_⟩
 have e:(m.states.map fun st=>st.map (imgRel p)).map (fun st=>st.map (imgRel (invA p)))=m.states:=by
  rw[List.map_map]
  conv=>rhs;rw[← List.map_id m.states]
  refine List.map_congr_left fun x hx=>?_
  show(x.map (imgRel p)).map (imgRel (invA p))=x
  rw[List.map_map]
  conv=>rhs;rw[← List.map_id x]
  exact List.map_congr_left fun r hr=>(hrel x hx r hr).2
 unfold imgMod
 simp only
 rw[e]
theorem img_ok2 (hf:s.fields.length≤100000):∀x∈(imgMod p m).states,x.length≤100000∧∀r∈x,ImgOk r:=by
 have h:=valid_img hp hn hv
 have hp2:PermS (imgMod p m).atoms p:=hp
 exact(img_ok hp2 hn h hf).1
end
theorem joinL_len (sep:Bt):∀{l l':List Bt},l.map List.length=l'.map List.length→(joinT sep l).length=(joinT sep l').length
 |[],[],_=>rfl
 |[],_::_,h=>by simp at h
 |_::_,[],h=>by simp at h
 |x::l,y::l',h=>by
  obtain⟨h1,h2⟩:=List.cons.inj h
  unfold joinT
  rw[List.length_append,List.length_append,h1]
  congr 1
  clear h h1
  induction l generalizing l' with
  |nil=>cases l' with
   |nil=>rfl
   |cons z l'=>simp at h2
  |cons a l ih=>cases l' with
   |nil=>simp at h2
   |cons z l'=>
    obtain⟨h3,h4⟩:=List.cons.inj h2
    rw[List.flatMap_cons,List.flatMap_cons,List.length_append,List.length_append,List.length_append,List.length_append,h3,ih _ h4]
theorem dig1 {z:Int} (h:0≤z∧z<10):(digT z).length=1:=by
 have key:∀n,n<10→(Go.Lib.decDigits n).length=1:=by decide+kernel
 exact key z.toNat (by omega)
def lenK (so:List SortM) (k:Int):Nat:=(sL (so.getD k.toNat (⟨#[]⟩,false)).1).length+2
theorem names_len {so:List SortM} {at':List Int}:∀{ks xs:List Int},InAll so at' ks xs→(xs.map (nameT so at')).map List.length=ks.map (lenK so)
 |[],[],_=>rfl
 |k::ks,x::xs,h=>by
  obtain⟨h1,h2⟩:=h
  have l1:=h1.lo
  have l2:=h1.ten
  rw[List.map_cons,List.map_cons,List.map_cons,names_len h2,h1.nm,List.length_append,List.length_append,dig1 ⟨by omega,by omega⟩]
  rfl
theorem tup_len {so:List SortM} {at':List Int} (h5:Ok5 at') (hn:∀q∈so,∃c r,sL q.1=c::r∧c≠125) (hl:so.length=at'.length) {ks:List Int} (hk:∀k∈ks,0≤k∧k<at'.length) (hk3:1≤ks.length∧ks.length≤3) {t u:Int} (ht:t∈(fullR at' ks).2) (hu:u∈(fullR at' ks).2):(tupT so at' (ks.length:Int) t).length=(tupT so at' (ks.length:Int) u).length:=by
 have h1:=(rk_ok h5 hn hl hk hk3 ht).1.all
 have h2:=(rk_ok h5 hn hl hk hk3 hu).1.all
 exact joinL_len _ (by rw[names_len h1,names_len h2])
theorem map_len {α:Type} (f:α→Bt) (B:Nat):∀{l l':List α},l.length=l'.length→(∀x∈l,(f x).length=B)→(∀x∈l',(f x).length=B)→(l.map f).map List.length=(l'.map f).map List.length
 |[],[],_,_,_=>rfl
 |[],_::_,h,_,_=>by simp at h
 |_::_,[],h,_,_=>by simp at h
 |x::l,y::l',h,h1,h2=>by
  rw[List.map_cons,List.map_cons,List.map_cons,List.map_cons,h1 x (by simp),h2 y (by simp),map_len f B (by simpa using h) (fun x hx=>h1 x (by simp [hx])) fun x hx=>h2 x (by simp [hx])]
theorem line_len {so:List SortM} {at':List Int} (h5:Ok5 at') (hn:∀q∈so,∃c r,sL q.1=c::r∧c≠125) (hl:so.length=at'.length) {f:FieldM} (hk:∀k∈f.sorts,0≤k∧k<at'.length) (hk3:1≤f.sorts.length∧f.sorts.length≤3) {r r':RelM} (ha:r.1=(f.sorts.length:Int)) (ha':r'.1=(f.sorts.length:Int)) (hr:∀t∈r.2,t∈(fullR at' f.sorts).2) (hr':∀t∈r'.2,t∈(fullR at' f.sorts).2) (hlen:r.2.length=r'.2.length):(lineT so at' f r).length=(lineT so at' f r').length:=by
 unfold lineT
 rw[ha,ha']
 have h:(joinT [44,32] (r.2.map (tupT so at' (f.sorts.length:Int)))).length=(joinT [44,32] (r'.2.map (tupT so at' (f.sorts.length:Int)))).length:=by
  refine joinL_len _ ?_
  cases hq:r.2 with
  |nil=>
   rw[hq] at hlen
   have:r'.2=[]:=List.length_eq_zero_iff.1 (by simpa using hlen.symm)
   rw[this]
  |cons t0 ts=>
   rw[← hq]
   have ht0:=hr t0 (by rw[hq];simp)
   exact map_len _ (tupT so at' (f.sorts.length:Int) t0).length hlen (fun x hx=>tup_len h5 hn hl hk hk3 (hr x hx) ht0) fun x hx=>tup_len h5 hn hl hk hk3 (hr' x hx) ht0
 simp only[List.length_append,h]
theorem lines_len {so:List SortM} {at':List Int}:∀{fs:List FieldM} {st st':List RelM},st.length=st'.length→(∀j (h1:j<fs.length) (h2:j<st.length) (h3:j<st'.length),(lineT so at' fs[j] st[j]).length=(lineT so at' fs[j] st'[j]).length)→(linesT so at' fs st).length=(linesT so at' fs st').length
 |[],_,_,_,_=>rfl
 |_::_,[],[],_,_=>rfl
 |_::_,[],_::_,h,_=>by simp at h
 |_::_,_::_,[],h,_=>by simp at h
 |f::fs,r::st,r'::st',h,h'=>by
  have h1:=h' 0 (by simp) (by simp) (by simp)
  have h2:=lines_len (fs:=fs) (st:=st) (st':=st') (by simpa using h) fun j a b c=>h' (j+1) (by simpa using a) (by simpa using b) (by simpa using c)
  unfold linesT
  rw[List.length_append,List.length_append,h2]
  simp only[List.getElem_cons_zero] at h1
  rw[h1]
theorem states_len {so:List SortM} {at':List Int} {fs:List FieldM} (F:List RelM→List RelM):∀{l:List (List RelM)} {i:Int},(∀st∈l,(linesT so at' fs (F st)).length=(linesT so at' fs st).length)→(statesT so at' fs i (l.map F)).length=(statesT so at' fs i l).length
 |[],_,_=>rfl
 |st::l,i,h=>by
  rw[List.map_cons]
  unfold statesT stateT
  simp only[List.length_append]
  rw[h st (by simp),states_len F fun st hst=>h st (by simp [hst])]
theorem fmt_img_len {s:SpecM} {m:ModM} {p:List Int} (hsp:SpP s) (hp:PermS m.atoms p) (hn:0<p.length) (hv:validB (fullR m.atoms) s m=true):(fmtT s (imgMod p m)).length=(fmtT s m).length:=by
 obtain⟨q1,q2,q3,q4⟩:=valid_spec hv
 have h5:=scope5 q1
 obtain⟨k1,k2,k3,k4,k5,k6,k7⟩:=scopeOk_spec q1
 have h:=states_len (so:=s.sorts) (at':=m.atoms) (fs:=s.fields) (fun st=>st.map (imgRel p)) (l:=m.states) (i:=0) fun st hst=>by
  refine lines_len (by rw[List.length_map]) fun j h1 h2 h3=>?_
  obtain⟨e1,e2,e3,e4,e5,e6⟩:=rel_img hp hn hv hst h1 h3
  obtain⟨r1,r2,r3,r4⟩:=(valid_rel hv hst).2 j h1 h3
  obtain⟨c1,c2⟩:=cols_spec r1
  rw[List.getElem_map]
  exact line_len h5 (fun q hq=>(hsp.nm q hq).2) k2.symm (by rw[k2];exact c2) c1 e1 r2 e3 r4 e5
 show(headT s.sorts m++statesT s.sorts m.atoms s.fields 0 (m.states.map fun st=>st.map (imgRel p))).length=_
 unfold fmtT
 rw[List.length_append,List.length_append,h]
structure SymF (s:SpecM) (m:ModM) (p:List Int):Prop where
 a1:∀x∈m.states,x≠ []→0<p.length
 a2:∀x∈m.states,x.length≤100000∧∀r∈x,ImgOk r
 vl:validB (fullR m.atoms) s (imgMod p m)=true
 b1:∀x∈(imgMod p m).states,x≠ []→0<p.length
 b2:∀x∈(imgMod p m).states,x.length≤100000∧∀r∈x,ImgOk r
 bk:imgMod (invA p) (imgMod p m)=m
 ln:(fmtT s (imgMod p m)).length=(fmtT s m).length
theorem sym_facts {s:SpecM} {m:ModM} {p:List Int} (hsp:SpP s) (hp:PermS m.atoms p) (hv:validB (fullR m.atoms) s m=true):SymF s m p:=by
 obtain⟨q1,q2,q3,q4⟩:=valid_spec hv
 have h5:=scope5 q1
 obtain⟨k1,k2,k3,k4,k5,k6,k7⟩:=scopeOk_spec q1
 by_cases hn:0<p.length
 ·have hf:s.fields.length≤100000:=by have:=hsp.fs;omega
  obtain⟨e1,e2⟩:=img_ok hp hn hv hf
  exact⟨fun _ _ _=>hn,e1,valid_img hp hn hv,fun _ _ _=>hn,img_ok2 hp hn hv hf,e2,fmt_img_len hsp hp hn hv⟩
 ·have hat:m.atoms=[]:=by
   cases ha:m.atoms with
   |nil=>rfl
   |cons a l=>
    have:=h5.pos (by rw[ha];simp)
    have:=hp.ln
    omega
  have hfs:s.fields=[]:=by
   cases hq:s.fields with
   |nil=>rfl
   |cons f l=>
    unfold fieldsB at q3
    rw[List.all_eq_true] at q3
    obtain⟨c1,c2⟩:=cols_spec (q3 f (by rw[hq];simp))
    rw[← k2,hat] at c2
    cases hs:f.sorts with
    |nil=>rw[hs] at c1;simp at c1
    |cons k ks=>
     have:=c2 k (by rw[hs];simp)
     simp at this
     omega
  have hst:∀x∈m.states,x=[]:=fun x hx=>by
   have:=(valid_rel hv hx).1
   rw[hfs] at this
   exact List.length_eq_zero_iff.1 this
  have hid:∀q:List Int,imgMod q m=m:=fun q=>by
   unfold imgMod
   have e:(m.states.map fun st=>st.map (imgRel q))=m.states:=by
    conv=>rhs;rw[← List.map_id m.states]
    refine List.map_congr_left fun x hx=>?_
    rw[hst x hx];rfl
   rw[e]
  refine⟨fun x hx h=>absurd (hst x hx) h,fun x hx=>?_,by rw[hid];exact hv,fun x hx h=>?_,fun x hx=>?_,by rw[hid,hid],by rw[hid]⟩
  ·rw[hst x hx];exact⟨by simp,fun r hr=>by cases hr⟩
  ·rw[hid] at hx;exact absurd (hst x hx) h
  ·rw[hid] at hx;rw[hst x hx];exact⟨by simp,fun r hr=>by cases hr⟩
end Go.Ab
/- Chapter 34:the law of symmetry,walked. -/
namespace Go.Ab
open Go Go.Proofs
open Nat (reduceAdd reduceSub)
set_option maxRecDepth 20000
set_option maxHeartbeats 16000000
attribute [local irreducible] AW AOps thenD inBlockD AR iterEnds roundEndsN inlEnds noGotoD EndsX EndsP byteAt parseF fmtT mkS nthM
theorem lawSym_fn (s:SpecM) (m:ModM) (c:Int) (hc:0≤c∧c≤4294967295):FnW errT Tryz.prog 6 [spc s,mdl m,.pv (.lit (.int .u32 c))] (litB true):=by
 have hstay_:=errT_stay
 have hh:=head34_fn
 have h1:=few_fn s m
 cases e1:fewB s m with
 |false=>
  rw[e1] at h1
  obtain⟨so,fs,p,q⟩:=s
  obtain⟨ats,stp,sts,lp⟩:=m
  refine FnW.enter hstay_ (n:=61) Tryz.func6 rfl rfl rfl rfl rfl (by decide) fun g hro_ hwt_ hT=>?_;(try refine nz ?_)
  (refine J293 ?_;(with_reducible apply AOps.callW (hf:=hh));(first|(with_reducible assumption)|(refine TB.gs ?_ (by with_reducible assumption);with_reducible assumption)|(refine TB.gi ?_ (by with_reducible assumption);with_reducible assumption)|exact TB.none _);(repeat (first|exact .nil|(refine .cons rfl ?_ ?_;(first|exact .pv _|exact .own _ _ _ _ rfl|exact .nil _|exact .any _|exact .rptr _|(refine .aggL ?_;repeat (first|exact .nil|(refine .cons ?_ ?_;(first|exact .pv _|exact .own _ _ _ _ rfl|exact .nil _))))))));exact rfl;exact rfl;exact(fun h_=>by cases h_);refine J58 ?_;(iterate 2 refine J30 ?_);refine zA (h1) ?_;refine J153 ?_;refine J199 ?_;refine AOps.pick_lt rfl rfl rfl rfl rfl rfl ?_;refine J143 ?_;refine J303 ?_;refine thenD_ret ?_)
  (apply ends_ret;(exact Res.one (.tmp rfl rfl));(refine Le.litB ?_;(rfl)))
 |true=>
 rw[e1] at h1
 obtain⟨hsp,hsm⟩:=few_spec e1
 have hss:=small_spec hsm
 have h2:=rValid_fn s m (by omega) fun f hf=>by have:=hss.2 f hf;omega
 rw[valid_eq] at h2
 cases e2:validB (fullR m.atoms) s m with
 |false=>
  rw[e2] at h2
  obtain⟨so,fs,p,q⟩:=s
  obtain⟨ats,stp,sts,lp⟩:=m
  refine FnW.enter hstay_ (n:=61) Tryz.func6 rfl rfl rfl rfl rfl (by decide) fun g hro_ hwt_ hT=>?_;(try refine nz ?_)
  (refine J293 ?_;(with_reducible apply AOps.callW (hf:=hh));(first|(with_reducible assumption)|(refine TB.gs ?_ (by with_reducible assumption);with_reducible assumption)|(refine TB.gi ?_ (by with_reducible assumption);with_reducible assumption)|exact TB.none _);(repeat (first|exact .nil|(refine .cons rfl ?_ ?_;(first|exact .pv _|exact .own _ _ _ _ rfl|exact .nil _|exact .any _|exact .rptr _|(refine .aggL ?_;repeat (first|exact .nil|(refine .cons ?_ ?_;(first|exact .pv _|exact .own _ _ _ _ rfl|exact .nil _))))))));exact rfl;exact rfl;exact(fun h_=>by cases h_);refine J289 ?_;refine AOps.pick_lf rfl rfl rfl rfl rfl rfl ?_;refine J143 ?_;refine J303 ?_;refine thenD_ret ?_)
  (apply ends_ret;(exact Res.one (.tmp rfl rfl));(refine Le.litB ?_;(rfl)))
 |true=>
 rw[e2] at h2
 obtain⟨q1,q2,q3,q4⟩:=valid_spec e2
 have h5:=scope5 q1
 obtain⟨k1,k2,k3,k4,k5,k6,k7⟩:=scopeOk_spec q1
 have hN:=nth_fn m.atoms m.steps c hc h5
 obtain⟨hpm,hpl⟩:=nth_perm h5 hc.1
 obtain⟨p,hpE⟩:∃p,p=nthM m.atoms 0 c []:=⟨_,rfl⟩
 rw[← hpE] at hN hpm hpl
 clear hpE
 have hF:=sym_facts hsp ⟨hpm,hpl⟩ e2
 have hl12:p.length≤12:=by omega
 have hV:=valid11_fn m.atoms m.steps p k7 h5.len (fun x hx=>(h5.each x hx).2) k6 hpm hpl
 have hI:=inverse11_fn p hpm (by omega)
 have hM1:=pModel_fn p m hpm hF.a1 hl12 hF.a2 (by omega)
 have hpi:PermA (invA p).length (fun x=>sortF m.atoms x 0) (invA p):=by rw[invA_len];exact hpm.inv
 have hM2:=pModel_fn (invA p) (imgMod p m) hpi (by rw[invA_len];exact hF.b1) (by rw[invA_len];exact hl12) hF.b2 (by show(m.states.map _).length≤_;rw[List.length_map];omega)
 rw[hF.bk] at hM2
 have f1:=format_fn s m (fmt_ok hsp e2)
 have f2:=format_fn s (imgMod p m) (fmt_ok hsp hF.vl)
 have hln:((mkS (fmtT s (imgMod p m))).size:Int)=((mkS (fmtT s m)).size:Int):=by rw[mk_size,mk_size,hF.ln]
 clear hF hpm hpl hpi q1 q2 q3 q4 e1 e2 hsp hsm
 generalize fmtT s m=t at*
 generalize fmtT s (imgMod p m)=t2 at*
 generalize invA p=ip at*
 generalize imgMod p m=m2 at*
 obtain⟨so,fs,p_,q_⟩:=s
 obtain⟨ats,stp,sts,lp⟩:=m
 obtain⟨at2,st2,ss2,lp2⟩:=m2
 simp only at*
 refine FnW.enter hstay_ (n:=61) Tryz.func6 rfl rfl rfl rfl rfl (by decide) fun g hro_ hwt_ hT=>?_;(try refine nz ?_)
 (refine J293 ?_;(with_reducible apply AOps.callW (hf:=hh));(first|(with_reducible assumption)|(refine TB.gs ?_ (by with_reducible assumption);with_reducible assumption)|(refine TB.gi ?_ (by with_reducible assumption);with_reducible assumption)|exact TB.none _);(repeat (first|exact .nil|(refine .cons rfl ?_ ?_;(first|exact .pv _|exact .own _ _ _ _ rfl|exact .nil _|exact .any _|exact .rptr _|(refine .aggL ?_;repeat (first|exact .nil|(refine .cons ?_ ?_;(first|exact .pv _|exact .own _ _ _ _ rfl|exact .nil _))))))));exact rfl;exact rfl;exact(fun h_=>by cases h_);refine J289 ?_;refine J203 ?_;refine J278 ?_;refine J2 ?_;refine AOps.fieldAddrN 33 0 0 rfl rfl rfl rfl ?_;(with_reducible apply AOps.load_bs);(iterate 3 exact rfl);(repeat' first|exact Sub.nil|apply Sub.take|apply Sub.skip);(iterate 3 exact rfl);refine zm ?_;refine zP (hN) ?_;refine J58 ?_;refine AOps.fieldAddrN 33 0 0 rfl rfl rfl rfl ?_;(with_reducible apply AOps.load_bs);(iterate 3 exact rfl);(repeat' first|exact Sub.nil|apply Sub.take|apply Sub.skip);(iterate 3 exact rfl);refine zm ?_;refine zA (hV) ?_;refine J78 ?_;refine thenD_n ?_;refine J32 ?_;refine J30 ?_;refine zP (hM1) ?_;refine J89 ?_;refine zB ?_;refine J113 ?_;refine zo ?_;refine AW.regionM [0,2] [5] rfl (by assumption) (by kernel_rfl) (by kernel_rfl) rfl ?_;show AOps .held _ _ _ [_,_] _ _;refine zm ?_;refine J30 ?_;refine J5 ?_;intro k_ hk_;apply AR.cut [2,0,1,3,4];intro hJ_0;apply AR.cut [2,0,1,4];intro hJ_1;(refine AR.step2M (i:=1) (j:=4) rfl (by kernel_rfl) rfl rfl ?_ ?_<;>intro g_ hgro_ hw_);refine zP (hI) ?_;refine J5 ?_;(refine AR.step2M (i:=3) (j:=4) rfl (by kernel_rfl) rfl rfl ?_ ?_<;>intro g_ hgro_ hw_);refine zP (hM2) ?_;refine J5 ?_;refine AR.step1M (i:=4) rfl (by kernel_rfl) rfl ?_;intro g_ hgro_ hw_;refine J89 ?_;refine J24 ?_;exact AR.perm (by kernel_rfl) hJ_0;refine J89 ?_;refine J24 ?_;exact AR.perm (by kernel_rfl) hJ_1;refine J89 ?_;refine J5 ?_;refine AR.step1M (i:=1) rfl (by kernel_rfl) rfl ?_;intro g_ hgro_ hw_;refine zP (hI) ?_;refine J180 ?_;refine AR.meet hJ_1 (by kernel_rfl) (fun g_=>weak rfl ?_ ?_ rfl);(iterate 36 refine⟨.eq rfl rfl,?_⟩);exact trivial;(iterate 2 refine J16 ?_);exact J64;refine AR.step1M (i:=3) rfl (by kernel_rfl) rfl ?_;intro g_ hgro_ hw_;refine zP (hM2) ?_;refine J180 ?_;refine AR.meet hJ_0 (by kernel_rfl) (fun g_=>weak rfl ?_ ?_ rfl);(iterate 37 refine⟨.eq rfl rfl,?_⟩);exact trivial;(iterate 2 refine J16 ?_);exact J64;refine J292 ?_;intro g_ hgro_ hwt2_;refine zB ?_;refine nz ?_;refine J87 ?_;refine thenD_n ?_;refine J270 ?_;refine J30 ?_;refine zA (f1) ?_;refine J93 ?_;(iterate 2 refine zm ?_);refine J128 ?_;refine J30 ?_;refine zl ?_;refine zA (f2) ?_;refine zl ?_;refine AOps.len_str rfl rfl rfl rfl ?_;refine zl ?_;refine zm ?_;refine zl ?_;refine AOps.len_str rfl rfl rfl rfl ?_;refine zl ?_;refine AOps.eql rfl rfl rfl rfl rfl ?_;refine J125 ?_;refine zt ?_;refine J30 ?_;refine zt ?_;refine J30 ?_;refine zt ?_;refine zA (f1) ?_;refine zt ?_;refine zm ?_;refine zt ?_;refine AOps.eqlS rfl rfl rfl rfl rfl ?_;refine zT ?_;refine J33 ?_)
 (apply ends_ret;(exact Res.one (.tmp rfl rfl));(refine Le.litB ?_;(first|rfl|exact decide_eq_true rfl)))
end Go.Ab
namespace Go.Proofs.YtijkecidjjicbaaGreatDoor.Law4
open Go Go.Ab Go.ChangeShapes Go.WideShapes Go.ChangeAt Go.RowKit
set_option linter.unusedVariables false
theorem own:ownKnob Tryz.prog.godebug=none:=by kernel_rfl
theorem laidOut:laidOutB Tryz.prog=true:=by kernel_rfl
theorem rdInts:Rd Tryz.prog 28 (fun l:List Int=>[ints l]) (fun _=>True):=
 Rd.map (Rd.slice (e:=3) (k:=1) (by':=8) Tryz.underlying28 (by kernel_rfl) (by decide) (by kernel_rfl) (by decide) (fun _=>rfl) (Rd.int Tryz.underlying3)) id (fun _=>rfl) (fun _ _=>trivial)
theorem rdSort:Rd Tryz.prog 50 encSo (fun _=>True):=
 Rd.map (Rd.struct (n:=2) Tryz.underlying50 (by kernel_rfl) (RdF.cons (k:=1) (n:=1) rfl (by kernel_rfl) (Rd.string Tryz.underlying9) (RdF.cons (k:=1) (n:=0) rfl (by kernel_rfl) (Rd.bool Tryz.underlying4) RdF.nil))) (fun p=>((p.1,p.2.1):SortM)) (fun p=>rfl) (fun _ _=>trivial)
theorem rdField:Rd Tryz.prog 52 encF (fun _=>True):=
 Rd.map (Rd.struct (n:=3) Tryz.underlying52 (by kernel_rfl) (RdF.cons (k:=1) (n:=2) rfl (by kernel_rfl) (Rd.string Tryz.underlying9) (RdF.cons (k:=1) (n:=1) rfl (by kernel_rfl) rdInts (RdF.cons (k:=1) (n:=0) rfl (by kernel_rfl) (Rd.bool Tryz.underlying4) RdF.nil)))) (fun p=>(⟨p.1,p.2.1,p.2.2.1⟩:FieldM)) (fun p=>rfl) (fun _ _=>trivial)
def encS (s:SpecM):List PV:=[.slice 2 (s.sorts.map encSo),.slice 3 (s.fields.map encF),.lit (.slice s.preds.a s.preds.l s.preds.c),.lit (.slice s.facts.a s.facts.l s.facts.c)]
theorem rdSpec:Rd Tryz.prog 27 encS (fun _=>True):=
 Rd.map (Rd.struct (n:=4) Tryz.underlying27 (by kernel_rfl) (RdF.cons (k:=1) (n:=3) rfl (by kernel_rfl) (Rd.slice (e:=50) (k:=2) (by':=24) Tryz.underlying22 (by kernel_rfl) (by decide) (by kernel_rfl) (by decide) (fun _=>rfl) rdSort) (RdF.cons (k:=1) (n:=2) rfl (by kernel_rfl) (Rd.slice (e:=52) (k:=3) (by':=48) Tryz.underlying23 (by kernel_rfl) (by decide) (by kernel_rfl) (by decide) (fun _=>rfl) rdField) (RdF.cons (k:=1) (n:=1) rfl (by kernel_rfl) (Rd.raw Tryz.underlying24) (RdF.cons (k:=1) (n:=0) rfl (by kernel_rfl) (Rd.raw Tryz.underlying25) RdF.nil)))))
  (fun p=>(⟨p.1,p.2.1,⟨p.2.2.1.1,p.2.2.1.2.1,p.2.2.1.2.2⟩,⟨p.2.2.2.1.1,p.2.2.2.1.2.1,p.2.2.2.1.2.2⟩⟩:SpecM)) (fun p=>rfl) (fun _ _=>trivial)
theorem rdScope:Rd Tryz.prog 30 (fun p:List Int×Int=>[ints p.1,.lit (.int .i64 p.2)]) (fun _=>True):=
 Rd.map (Rd.struct (n:=2) Tryz.underlying30 (by kernel_rfl) (RdF.cons (k:=1) (n:=1) rfl (by kernel_rfl) rdInts (RdF.cons (k:=1) (n:=0) rfl (by kernel_rfl) (Rd.int Tryz.underlying3) RdF.nil))) (fun p=>(p.1,p.2.1)) (fun p=>rfl) (fun _ _=>trivial)
theorem rdRel:Rd Tryz.prog 54 encR (fun _=>True):=
 Rd.map (Rd.struct (n:=2) Tryz.underlying54 (by kernel_rfl) (RdF.cons (k:=1) (n:=1) rfl (by kernel_rfl) (Rd.int Tryz.underlying3) (RdF.cons (k:=1) (n:=0) rfl (by kernel_rfl) rdInts RdF.nil))) (fun p=>(p.1,p.2.1)) (fun p=>rfl) (fun _ _=>trivial)
theorem rdRels:Rd Tryz.prog 55 (fun l:List RelM=>[rels l]) (fun _=>True):=
 Rd.map (Rd.slice (e:=54) (k:=2) (by':=32) Tryz.underlying55 (by kernel_rfl) (by decide) (by kernel_rfl) (by decide) (fun _=>rfl) rdRel) id (fun _=>rfl) (fun _ _=>trivial)
theorem rdStts:Rd Tryz.prog 31 (fun l:List (List RelM)=>[stts l]) (fun _=>True):=
 Rd.map (Rd.slice (e:=55) (k:=1) (by':=24) Tryz.underlying31 (by kernel_rfl) (by decide) (by kernel_rfl) (by decide) (fun _=>rfl) rdRels) id (fun _=>rfl) (fun _ _=>trivial)
def encM (m:ModM):List PV:=[ints m.atoms,.lit (.int .i64 m.steps),stts m.states,.lit (.int .i64 m.loop)]
theorem rdMdl:Rd Tryz.prog 33 encM (fun _=>True):=
 Rd.map (Rd.struct (n:=4) Tryz.underlying33 (by kernel_rfl) (RdF.cons (k:=2) (n:=2) rfl (by kernel_rfl) rdScope (RdF.cons (k:=1) (n:=1) rfl (by kernel_rfl) rdStts (RdF.cons (k:=1) (n:=0) rfl (by kernel_rfl) (Rd.int Tryz.underlying3) RdF.nil)))) (fun p=>(⟨p.1.1,p.1.2,p.2.1,p.2.2.1⟩:ModM)) (fun p=>rfl) (fun _ _=>trivial)
theorem wfB_u32 {n:Int} (h:(Lit.int .u32 n).wf=true):0≤n∧n≤4294967295:=by
 have e1:IntKind.u32.min=0:=rfl
 have e2:IntKind.u32.max=4294967295:=rfl
 simp [Lit.wf,e1,e2] at h
 omega
theorem ra_true {N:Nat→Prop} {w:World} {v:Value} (h:RA (pcx N) w v (litB true)):v=.bool true:=by
 cases h with
 |pv h=>cases h;rfl
noncomputable abbrev laidOf {H:Type}:List (String×DataW H):=[("math/bits.deBruijn32tab",Rows.laid_math_bits_deBruijn32tab),("math/bits.deBruijn64tab",Rows.laid_math_bits_deBruijn64tab),("internal/strconv.uint64pow10",Rows.laid_internal_strconv_uint64pow10),("strconv.ErrRange",Rows.laid_strconv_ErrRange),("strconv.ErrSyntax",Rows.laid_strconv_ErrSyntax)]
set_option maxRecDepth 100000 in
theorem door_met (os:Os) (args:Array Value):laidMetH Tryz.prog laidOf ((World.doorLaid Tryz.prog 62 os).forCall (fun _ _=>0) ⟨#[],args,[]⟩).memory:=
 laidMetH_of_parts3 (fuel:=8) (laidMet_of_run' 8 (by kernel_rfl) (by kernel_rfl)) (by kernel_rfl) (by kernel_rfl)
theorem rowErr (u:TypeId) (h:Tryz.prog.typeName? 3 u=some "*errors.errorString"):u=188:=
 typeName_ptr_named (nm:= "errors.errorString") (by rw[show "*" ++ "errors.errorString" = "*errors.errorString" by decide];kernel_rfl) (by kernel_rfl) (by decide) u (by rw[show "*" ++ "errors.errorString" = "*errors.errorString" by decide];exact h)
theorem errHere {W:World} (h:laidMetH Tryz.prog laidOf W):errT W:=by
 have h1:laidMet Tryz.prog laidOf W:=h
 obtain⟨a,_,hv,_⟩:=laid_sentinel h1.tail.tail.tail.tail (g:=1) (ti:=58) (tp:=188) (te:=190) (ts:=9) (by kernel_rfl) (by kernel_rfl) Tryz.underlying58 rowErr Tryz.underlying188 Tryz.underlying190 rfl rfl Tryz.underlying9 (by kernel_rfl) (by kernel_rfl)
 exact⟨_,_,hv⟩
set_option maxRecDepth 100000 in
theorem lifted (os:Os) (started:os.Started) (H:Type) (enc:TypeId×Value→H):
  ReturnsInHanded {} Tryz.checked os 6 .any (fun w args=>(Rows.tableSymmetrySpec.pre enc Tryz.prog Tryz.f6 [] false w args∧laidMetH Tryz.prog laidOf w)∧sizedMet enc Tryz.prog Tryz.f6 (OpenSpec.ofChange Rows.tableSymmetrySpec) false w args) (Rows.tableSymmetrySpec.post enc Tryz.prog Tryz.f6 false true false false):=by
 refine returnsInHanded_of_change_and (C:=Tryz.checked) (X:=fun w _=>laidMetH Tryz.prog laidOf w) (fun _ _ _ hh h=>h.of_heap hh) own started (by kernel_rfl) Tryz.func6
  (ChangeSpec.witness_shaped (enc:=enc) (C:=Tryz.checked) (os:=os) (X:=fun w _=>laidMetH Tryz.prog laidOf w) false (World.doorLaid Tryz.prog 62 os) #[.agg #[.slice none 0 0,.slice none 0 0,.slice none 0 0,.slice none 0 0],.agg #[.slice none 0 0,.int .i64 0,.slice none 0 0,.int .i64 0],.int .u32 0] 8 rfl (World.shaped_of_RefB (by kernel_rfl) (by kernel_rfl)) (by kernel_rfl) (by kernel_rfl) (by kernel_rfl) (door_met os _)) ?_
 intro W base args ds gs before hval0 hW hcnd hsz hL _
 have hval:∀(j:Nat) t v,Tryz.f6.params[j]? =some t→args[j]? =some v→Value.okWide Tryz.prog W .any base t v:=hval0
 have hW':=hW
 obtain⟨p,q,hA0,hV,rfl,hfz,hnd⟩:=hW
 have hA:DataW.TrodAll enc Tryz.prog W 0 (fun _=>true) true Tryz.f6.params.toList args.toList ds p:=hA0
 rw[Tryz.params6] at hA hval
 obtain⟨v0,vs0,d0,ds0,p0,q0,hargs,rfl,rfl,h0,r0⟩:=trodAll_cons hA
 obtain⟨v1,vs1,d1,ds1,p1,q1,rfl,rfl,rfl,h1,r1⟩:=trodAll_cons r0
 obtain⟨v2,vs2,d2,ds2,p2,q2,rfl,rfl,rfl,h2,r2⟩:=trodAll_cons r1
 obtain⟨rfl,rfl,rfl⟩:=trodAll_nil r2
 obtain rfl:args= #[v0,v1,v2]:=by cases args;simp_all
 obtain⟨rfl,rfl⟩:=trodVars_none hV
 have wt:∀(j:Nat) (t:TypeId) (d:DataW H),[27,33,43][j]? =some t→[d0,d1,d2][j]? =some d→∀n∈d.weights Tryz.prog t,n≤reachBytes:=by
  intro j t d ht hd
  have hj:j<3:=(List.getElem?_eq_some_iff.1 ht).1
  refine arg_weights hsz (j:=j) ?_ ?_
  ·rw[List.getElem?_append_left (by rw[Tryz.params6];exact hj),Tryz.params6];exact ht
  ·rw[List.getElem?_append_left (by simpa using hj)];exact hd
 obtain⟨cs0,rfl⟩:=Ab.okWide_struct Tryz.underlying27 (hval 0 27 v0 rfl rfl)
 obtain⟨cs1,rfl⟩:=Ab.okWide_struct Tryz.underlying33 (hval 1 33 v1 rfl rfl)
 obtain⟨x0,s0,o0⟩:=arg_agg rdSpec h0 (wt 0 27 d0 rfl rfl) rfl
 obtain⟨x1,s1,o1⟩:=arg_agg rdMdl h1 (wt 1 33 d1 rfl rfl) rfl
 obtain⟨x2,rfl,e2,e2',o2⟩:=open_int Tryz.underlying43 (hval 2 43 v2 rfl rfl) h2
 have s2:RA (pcx fun _=>True) W (.int .u32 x2) (.pv (.lit (.int .u32 x2))):=.pv (.lit _)
 have lt0:∀x∈p0,x.block<W.heap.size:=by obtain⟨m,hm⟩:=h0;exact DataW.trod_lt m _ _ _ hm
 have lt1:∀x∈p1,x.block<W.heap.size:=by obtain⟨m,hm⟩:=h1;exact DataW.trod_lt m _ _ _ hm
 have lt2:∀x∈p2,x.block<W.heap.size:=by obtain⟨m,hm⟩:=h2;exact DataW.trod_lt m _ _ _ hm
 clear hA0 hval0
 refine((lawSym_fn x0 x1 x2 (wfB_u32 o2)).calls (fun _=>True) W _ (errHere hL) (fun _ _=>trivial) rfl ?_).mono fun e W' ⟨v,he,hv,bel⟩=>?_
 ·intro j v av hj hav
  match j,hj,hav with
  |0,hj,hav=>cases hj;cases hav;exact s0
  |1,hj,hav=>cases hj;cases hav;exact s1
  |2,hj,hav=>cases hj;cases hav;exact s2
  |j+3,hj,hav=>simp at hav
 ·obtain rfl:=ra_true hv
  subst he
  exact⟨_,rfl,_,_,_,[],_,[],hW',trodAll_mk1 (shut_bool Tryz.underlying4 _),(trodAll_cons_mk (Below.trod laidOut (by kernel_rfl) (of_decide_eq_true (by kernel_rfl)) h0 bel lt0) (trodAll_cons_mk (Below.trod laidOut (by kernel_rfl) (of_decide_eq_true (by kernel_rfl)) h1 bel lt1) (trodAll_cons_mk (Below.trod laidOut (by kernel_rfl) (of_decide_eq_true (by kernel_rfl)) h2 bel lt2) trodAll_mk0))),rfl,bel.frame _,fun h=>by cases h⟩
theorem over:Rows.tableSymmetryRow.holds Tryz.pinned (OpenSpec.ofChange Rows.tableSymmetrySpec):=
 OpenClaim.holds_of_wide 6 Tryz.f6 rfl rfl rfl rfl rfl rfl rfl ⟨rfl,rfl,rfl,rfl,rfl⟩ rfl rfl rfl rfl rfl (by kernel_rfl) Tryz.func6 (by kernel_rfl)
  (of_decide_eq_true (by kernel_rfl)) (by unfold Func.isWrapper;first|(rw[if_pos (by decide+kernel)];kernel_rfl)|(rw[if_neg (by decide+kernel)];exact⟨rfl,rfl⟩))
  (fun os started H enc _=>lifted os started H enc)
set_option maxRecDepth 100000 in
theorem proved:Rows.TableSymmetryCardSaid:=
 Claim7.holds_tied_plain_at .later [] [.data,.data,.data,.sentinel,.sentinel] true (true, "0ece976bdfb03ccaad2ced6d24e0ca89ff43059ee33ad792ea19b17f3b6203ec") true
  over (fun _ h=>by cases h) (by kernel_rfl) (fun _ h=>by cases h) tableSymmetry_row_tie rfl ⟨rfl,rfl⟩ (by kernel_rfl) rfl
  (fun f fn hf hfn=>by
   obtain rfl:f=6:=Option.some.inj ((show Tryz.prog.funcNamed "armature/armaturelaw34.TableSymmetry" =some 6 by kernel_rfl).symm.trans hf)|>.symm
   obtain rfl:fn=Tryz.f6:=(Option.some.inj (Tryz.func6.symm.trans hfn)).symm
   exact⟨by kernel_rfl,fun j t ht=>by
    rw[Tryz.params6] at ht
    have hm:t∈ [27,33,43]:=by simpa using Array.mem_of_getElem? ht
    have hall:([27,33,43].all fun u=>!Tryz.prog.wantsStandIn u)=true:=by kernel_rfl
    exact(show Tryz.prog.wantsStandIn t=false by simpa using List.all_eq_true.1 hall t hm)⟩)
  (by kernel_rfl)
#print axioms proved
end Go.Proofs.YtijkecidjjicbaaGreatDoor.Law4
