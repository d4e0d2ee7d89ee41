/- A part of the proof. -/
import Derived.Test.YtedfbafngmicpaaGreatG9
import Derived.Test.YtedfbafngmicpaaGreatG11
import Derived.Test.YtedfbafngmicpaaGreatG10
import Derived.Test.YtedfbafngmicpaaGreatG12
import Derived.Test.YtedfbafngmicpaaGreatProg
import Derived.Test.YtedfbafngmicpaaGreatChecked
import Derived.WalkKit
import Derived.ProofKit
import Derived.OpenShut
import Derived.SizedLaws
import Derived.Carry
import Derived.Test.YtedfbafngmicpaaGreatG4
import Derived.Deep.Slices
import Derived.Lib.SmallJoins
import Derived.Deep.Strs
import Derived.Test.YtedfbafngmicpaaGreatRows
section
/- What comes back is numbered as what was written. No program in sight. -/
namespace Go.Proofs.YtedfbafngmicpaaGreat.Sx
open Go

section
variable {us us':Int->Bool} {lf rg lf' rg':Int->Int} {P:Int->Prop} {f:Int->Int}
structure IsoG (us us':Int->Bool) (lf rg lf' rg':Int->Int) (P:Int->Prop) (f:Int->Int):Prop where
 usd:∀ i,P i->us' (f i)=us i
 kid:∀ i,P i->us i=true->(P (lf i)/\P (rg i))/\lf' (f i)=f (lf i)/\rg' (f i)=f (rg i)
 inj:∀ i j,P i->P j->us i=true->us j=true->f i=f j->i=j
theorem numG_iso (I:IsoG us us' lf rg lf' rg' P f){i:Int}{acc a:List Int}(h:NumG us lf rg i acc a):P i->(∀ j∈acc,P j/\us j=true)->NumG us' lf' rg' (f i) (acc.map f) (a.map f)/\∀ j∈a,P j/\us j=true:=by
 induction h with
 | @skip i acc c =>
  intro pi pa
  exact⟨.skip (c.imp (fun c=>(I.usd i pi).trans c) fun c=>List.mem_map.2 ⟨i,c,rfl⟩),pa⟩
 | @go i acc a1 a2 u c n1 n2 ih1 ih2 =>
  intro pi pa
  obtain⟨⟨pl,pr⟩,el,er⟩:=I.kid i pi u
  obtain⟨m1,p1⟩:=ih1 pl pa
  obtain⟨m2,p2⟩:=ih2 pr p1
  rw[List.map_append]
  refine⟨.go ((I.usd i pi).trans u) (fun q=>?_) (by rw[el];exact m1) (by rw[er];exact m2),fun j hj=>?_⟩
  ·obtain⟨j,hj,e⟩:=List.mem_map.1 q
   have:=I.inj j i (pa j hj).1 pi (pa j hj).2 u e
   exact c (this ▸ hj)
  ·rcases List.mem_append.1 hj with q|q
   ·exact p2 j q
   ·rw[List.mem_singleton.1 q];exact⟨pi,u⟩
theorem numsG_iso (I:IsoG us us' lf rg lf' rg' P f){r acc a:List Int}(h:NumsG us lf rg r acc a):(∀ j∈r,P j)->(∀ j∈acc,P j/\us j=true)->NumsG us' lf' rg' (r.map f) (acc.map f) (a.map f):=by
 induction h with
 | nil=>intro _ _;exact .nil
 | @cons i r acc a1 a2 n1 n2 ih =>
  intro pr pa
  obtain⟨m1,p1⟩:=numG_iso I n1 (pr i (by simp)) pa
  exact .cons m1 (ih (fun j hj=>pr j (List.mem_cons_of_mem _ hj)) p1)
end
variable {S S2:Arn} {hs ks rs lk la nw x:List Int} {m:Nat}
def imF (lk la nw:List Int)(i:Int):Int:=getB (0::(lk++nw)) (plcN la i).toNat
theorem ImO.la0 (h:ImO S hs ks rs lk la nw m S2 x):(0:Int)∉la:=fun c=>by
 have:=h.ex.ls.used 0 c
 rw[h.ex.wf.us0 (Int.le_refl 0)] at this;cases this
theorem ImO.len (h:ImO S hs ks rs lk la nw m S2 x):la.length=(lk++nw).length:=by
 obtain⟨z,e,l⟩:=h.ax
 rw[e,List.length_append,List.length_append,l]
theorem ImO.f0 (h:ImO S hs ks rs lk la nw m S2 x):imF lk la nw 0=0:=by
 unfold imF
 rw[plcN_none h.la0];rfl
theorem ImO.at_ (h:ImO S hs ks rs lk la nw m S2 x){p:Nat}(hp:p<la.length):imF lk la nw (getB la p)=getB (lk++nw) p:=by
 unfold imF
 rw[plcN_at h.ex.ls.nd (getB_get hp)]
 rw[show ((p:Int)+1).toNat=p+1 by omega];rfl
theorem ImO.all_nd (h:ImO S hs ks rs lk la nw m S2 x):(lk++nw).Nodup:=by
 have ls:=LsN.of h.ex.wf h.ex.nk
 refine List.nodup_append.2 ⟨ls.nd,h.nod,fun a ha b hb e=>?_⟩
 have u:=ls.used a ha
 rw[e,h.fresh b hb] at u;cases u
theorem ImO.map_la (h:ImO S hs ks rs lk la nw m S2 x):la.map (imF lk la nw)=lk++nw:=by
 refine List.ext_getElem (by rw[List.length_map,h.len]) fun p h1 h2=>?_
 rw[List.length_map] at h1
 rw[List.getElem_map]
 have e1:getB la p=la[p]:=by show la.getD p 0=_;rw[List.getD_eq_getElem?_getD,List.getElem?_eq_getElem h1];rfl
 have e2:getB (lk++nw) p=(lk++nw)[p]:=by show (lk++nw).getD p 0=_;rw[List.getD_eq_getElem?_getD,List.getElem?_eq_getElem h2];rfl
 rw[← e1,← e2,h.at_ h1]
theorem ImO.map_lk (h:ImO S hs ks rs lk la nw m S2 x):lk.map (imF lk la nw)=lk:=by
 have a:=h.map_la
 obtain⟨z,e,l⟩:=h.ax
 have b:(lk++z).map (imF lk la nw)=lk++nw:=e ▸ a
 rw[List.map_append] at b
 exact (List.append_inj b (by simp)).1
theorem ImO.fk (h:ImO S hs ks rs lk la nw m S2 x){i:Int}(hi:i∈lk):imF lk la nw i=i:=by
 have a:=h.map_lk
 obtain⟨p,hp,e⟩:=List.mem_iff_getElem.1 hi
 have b:(lk.map (imF lk la nw))[p]'(by simpa using hp)=lk[p]:=by
  have:=congrArg (fun l=>l[p]?) a
  simp only[List.getElem?_map,List.getElem?_eq_getElem hp,Option.map_some] at this
  rw[List.getElem_map]
  exact Option.some.inj this
 rw[List.getElem_map,e] at b
 exact b
theorem ImO.iso (h:ImO S hs ks rs lk la nw m S2 x):IsoG S.us S2.us (lfA S) (rgA S) (lfA S2) (rgA S2) (fun i=>i=0∨i∈la) (imF lk la nw):=by
 have w:=h.ex.wf
 have u0:S.us 0=false:=w.us0 (Int.le_refl 0)
 have ls:=LsN.of w h.ex.nk
 refine⟨fun i hi=>?_,fun i hi u=>?_,fun i j hi hj ui uj e=>?_⟩
 ·rcases hi with c|c
  ·rw[c,h.f0,u0,h.wf.us0 (Int.le_refl 0)]
  ·rw[h.ex.ls.used i c]
   have:imF lk la nw i∈lk++nw:=by rw[← h.map_la];exact List.mem_map.2 ⟨i,c,rfl⟩
   rcases List.mem_append.1 this with q|q
   ·exact (h.us _).2 (.inl (ls.used _ q))
   ·exact (h.us _).2 (.inr q)
 ·have hi:i∈la:=hi.resolve_left fun c=>by rw[c,u0] at u;cases u
  obtain⟨p,hp⟩:=List.getElem?_of_mem hi
  have pl:=(List.getElem?_eq_some_iff.1 hp).1
  have gp:getB la p=i:=getB_some hp
  obtain⟨_,k1,k2⟩:=h.ex.ls.kids w hp
  have kd:∀ {y:Int},KidN la p y->y=0∨y∈la:=fun {y} k=>by
   rcases k with ⟨q,_⟩|⟨_,r,_,q,_⟩
   ·exact .inl q
   ·exact .inr (List.mem_of_getElem? q)
  refine⟨⟨kd k1,kd k2⟩,?_⟩
  rcases Nat.lt_or_ge p lk.length with c|c
  ·have ik:i∈lk:=by rw[← gp,h.ex.old c];exact getB_mem c
   obtain⟨q,hq⟩:=List.getElem?_of_mem ik
   obtain⟨_,o1,o2⟩:=ls.kids w hq
   have fix:∀ {y:Int},KidN lk q y->y=imF lk la nw y:=fun {y} k=>by
    rcases k with ⟨e,_⟩|⟨_,r,_,e,_⟩
    ·rw[e,h.f0]
    ·exact (h.fk (List.mem_of_getElem? e)).symm
   have nd:=(h.old i u).1
   rw[h.fk ik]
   refine⟨?_,?_⟩
   ·show (S2.nd i).left=_
    rw[nd];exact fix o1
   ·show (S2.nd i).right=_
    rw[nd];exact fix o2
  ·have hl:=h.len
   rw[List.length_append] at hl
   have nd:=h.nd (p-lk.length) (by omega)
   rw[show lk.length+(p-lk.length)=p by omega,gp] at nd
   have e:imF lk la nw i=getB nw (p-lk.length):=by
    rw[← gp,h.at_ pl,show p=lk.length+(p-lk.length) by omega,getB_right]
    rw[show lk.length+(p-lk.length)-lk.length=p-lk.length by omega]
   rw[e]
   exact nd
 ·have mem:∀ {y:Int},(y=0∨y∈la)->S.us y=true->y∈la:=fun {y} hy uy=>hy.resolve_left fun c=>by rw[c,u0] at uy;cases uy
  obtain⟨p,hp⟩:=List.getElem?_of_mem (mem hi ui)
  obtain⟨q,hq⟩:=List.getElem?_of_mem (mem hj uj)
  have pl:=(List.getElem?_eq_some_iff.1 hp).1
  have ql:=(List.getElem?_eq_some_iff.1 hq).1
  rw[← getB_some hp,← getB_some hq,h.at_ pl,h.at_ ql] at e
  have hl:=h.len
  have a:=getB_get (l:=lk++nw) (p:=p) (by omega)
  have b:=getB_get (l:=lk++nw) (p:=q) (by omega)
  have pq:p=q:=by
   have e2:(lk++nw)[p]?=(lk++nw)[q]?:=by rw[a,b,e]
   exact (List.getElem?_inj (by omega) h.all_nd).1 e2
  rw[pq,hq] at hp
  exact (Option.some.inj hp).symm
theorem ImO.xs (h:ImO S hs ks rs lk la nw m S2 x):x=rs.map (imF lk la nw):=h.ex_
theorem ImO.rs_in (h:ImO S hs ks rs lk la nw m S2 x):∀ i∈rs,i=0∨i∈la:=fun i hi=>by
 rcases h.ex.live i (List.mem_append_right _ hi) with c|c
 ·exact .inl c
 ·exact .inr (h.ex.na.roots i hi c)
theorem ImO.num (h:ImO S hs ks rs lk la nw m S2 x):NumsA S2 x lk (lk++nw):=by
 have:=numsG_iso h.iso h.ex.na h.rs_in fun j hj=>by
  obtain⟨z,e,_⟩:=h.ax
  exact⟨.inr (by rw[e];exact List.mem_append_left _ hj),(LsN.of h.ex.wf h.ex.nk).used j hj⟩
 rw[h.map_la,h.map_lk,← h.xs] at this
 exact this
theorem ImO.num0 (h:ImO S hs ks rs lk la nw m S2 x){al:List Int}(n:NumsA S rs [] al):NumsA S2 x [] (al.map (imF lk la nw)):=by
 have:=numsG_iso h.iso n h.rs_in fun j hj=>by cases hj
 rw[← h.xs] at this
 exact this
theorem ImO.numk (h:ImO S hs ks rs lk la nw m S2 x)(hk:∀ i∈ks,i=0∨S.us i=true):NumsA S2 ks [] lk:=by
 have kin:∀ i∈ks,i=0∨i∈lk:=fun i hi=>by
  rcases hk i hi with c|c
  ·exact .inl c
  ·exact .inr (h.ex.nk.roots i hi c)
 have:=numsG_iso h.iso h.ex.nk (fun i hi=>(kin i hi).imp id fun q=>by
  obtain⟨z,e,_⟩:=h.ax
  rw[e];exact List.mem_append_left _ q) fun j hj=>by cases hj
 have e:ks.map (imF lk la nw)=ks:=by
  refine (List.map_congr_left fun i hi=>?_).trans (List.map_id _)
  rcases kin i hi with c|c
  ·rw[c,h.f0];rfl
  ·exact h.fk c
 rw[e,h.map_lk] at this
 exact this
end Go.Proofs.YtedfbafngmicpaaGreat.Sx
end
section
/- What comes back is written as what was written. No program in sight. -/
namespace Go.Proofs.YtedfbafngmicpaaGreat.Sx
open Go

variable {S S2:Arn} {hs ks rs lk la nw x:List Int} {m:Nat} {D:Int}
theorem ImO.plc (h:ImO S hs ks rs lk la nw m S2 x){y:Int}(hy:y=0∨y∈la):plcN (lk++nw) (imF lk la nw y)=plcN la y:=by
 rcases hy with c|c
 ·rw[c,h.f0,plcN_none h.la0]
  refine plcN_none fun q=>?_
  have u0:=h.wf.us0 (Int.le_refl 0)
  rcases List.mem_append.1 q with q|q
  ·have:=(h.us 0).2 (.inl ((LsN.of h.ex.wf h.ex.nk).used 0 q))
   rw[u0] at this;cases this
  ·have:=(h.us 0).2 (.inr q)
   rw[u0] at this;cases this
 ·obtain⟨p,hp⟩:=List.getElem?_of_mem c
  have pl:=(List.getElem?_eq_some_iff.1 hp).1
  rw[plcN_at h.ex.ls.nd hp,← getB_some hp,h.at_ pl]
  exact plcN_at h.all_nd (getB_get (by rw[← h.len];exact pl))
theorem ImO.nod_ (h:ImO S hs ks rs lk la nw m S2 x){i:Int}(hi:i∈la):nodP S2 (lk++nw) (imF lk la nw i)=nodP S la i:=by
 have w:=h.ex.wf
 have u:=h.ex.ls.used i hi
 obtain⟨⟨p1,p2⟩,e1,e2⟩:=h.iso.kid i (.inr hi) u
 have r:=h.rep i (.inr hi)
 rw[trA_node w u (h.ex.good hi).rep] at r
 obtain⟨_,k,v,_,_⟩:=r
 have k:(S2.nd (imF lk la nw i)).key=(S.nd i).key:=k
 have v:(S2.nd (imF lk la nw i)).value=(S.nd i).value:=v
 show PNT.mk _ _ _ _=PNT.mk _ _ _ _
 rw[k,v,e1,e2,h.plc p1,h.plc p2]
theorem ImO.ns (h:ImO S hs ks rs lk la nw m S2 x):((lk++nw).drop lk.length).map (nodP S2 (lk++nw))=(la.drop lk.length).map (nodP S la):=by
 have e:(lk++nw).drop lk.length=(la.drop lk.length).map (imF lk la nw):=by rw[← h.map_la,List.map_drop]
 rw[e,List.map_map]
 exact List.map_congr_left fun i hi=>h.nod_ (List.mem_of_mem_drop hi)
theorem ImO.roots (h:ImO S hs ks rs lk la nw m S2 x):x.map (plcN (lk++nw))=rs.map (plcN la):=by
 rw[h.xs,List.map_map]
 exact List.map_congr_left fun i hi=>h.plc (h.rs_in i hi)
theorem ImO.pks (h:ImO S hs ks rs lk la nw m S2 x)(D:Int):pkS S2 lk (lk++nw) x D=pkS S lk la rs D:=by
 unfold pkS
 rw[h.ns,h.roots]
theorem nodP_old (w:Wf S hs){l:List Int}(hn:∀ i,S.us i=true->S2.nd i=S.nd i)(hu:∀ i∈l,S.us i=true):l.map (nodP S2 l)=l.map (nodP S l):=List.map_congr_left fun i hi=>by
 have e:=hn i (hu i hi)
 show PNT.mk _ _ _ _=PNT.mk _ _ _ _
 unfold lfA rgA
 rw[e]
theorem ImO.dg (h:ImO S hs ks rs lk la nw m S2 x)(hk:∀ i∈ks,i=0∨S.us i=true)(d:DgR S ks D):DgR S2 ks D:=by
 rcases d with d|⟨a,l,n,e⟩
 ·exact .inl d
 ·refine .inr ⟨a,l,?_,?_⟩
  ·obtain rfl:=n.det h.ex.nk
   exact h.numk hk
  ·rw[e]
   unfold pkS
   rw[List.length_nil,List.drop_zero,nodP_old h.ex.wf (fun i u=>(h.old i u).1) (n.used fun j hj=>by cases hj)]
end Go.Proofs.YtedfbafngmicpaaGreat.Sx
end
section
/- What rows 54 and 57 want of the trees that are picked. No program in sight. -/
namespace Go.Proofs.YtedfbafngmicpaaGreat.Sx
open Go

theorem sum_le {α:Type}(f:α->Nat)(c:Nat):∀ l:List α,(∀ x∈l,f x<=c)->(l.map f).sum<=c*l.length
 | [],_=>by simp
 | x::l,h=>by
  have a:=sum_le f c l fun y hy=>h y (List.mem_cons_of_mem _ hy)
  have b:=h x (by simp)
  rw[List.map_cons,List.sum_cons,List.length_cons,Nat.mul_succ]
  omega
variable {sp:Int} {S:Arn} {rs:List Int} {ll:List (List Ent)}
theorem FoR.frB (h:FoR sp S rs ll)(hs:288<=sp)(ks:List Int)(c:Int):FrB S ks ((pkZ c (rs.zip ll)).map Prod.fst):=by
 refine frB_of h.wf (fun r hr=>?_) ?_
 ·obtain⟨q,hq,rfl⟩:=List.mem_map.1 hr
  exact (h.ok (pkZ_mem hq)).1
 ·have a:=sum_le (fun r=>(trA S r).size) 36 ((pkZ c (rs.zip ll)).map Prod.fst) fun r hr=>by
   obtain⟨q,hq,rfl⟩:=List.mem_map.1 hr
   obtain⟨_,t,rp,_,_,_,sz⟩:=h.ok (pkZ_mem hq)
   rw[trA_eq h.wf rp];exact sz
  have b:=pkZ_len c (rs.zip ll)
  rw[List.length_map] at a
  have d:=h.fr
  have key:∀ n k:Nat,n<=36*k->k<=8->(n:Int)<=S.free:=fun n k p q=>by omega
  exact key _ _ a b
theorem ImO.trees {hs ks lk la nw x:List Int}{m:Nat}{S2:Arn}{E:List (Int × List Ent)}(h:ImO S hs ks (E.map Prod.fst) lk la nw m S2 x)(hE:∀ q∈E,∃ t,Rep S t q.1/\t.list=q.2/\t.Bal/\Asc q.2) :
  x.length=E.length/\∀ i,i<E.length->∃ t,Rep S2 t (getB x i)/\t.list=(E.getD i (0,[])).2/\t.Bal/\Asc t.list:=by
 have xe:=h.xs
 refine⟨by rw[xe];simp,fun i hi=>?_⟩
 have e1:E[i]?=some E[i]:=List.getElem?_eq_getElem hi
 obtain⟨t,r,l,b,a⟩:=hE _ (List.getElem_mem hi)
 have g:getB x i=imF lk la nw E[i].1:=by
  rw[xe]
  show ((E.map Prod.fst).map (imF lk la nw)).getD i 0=_
  rw[List.getD_eq_getElem?_getD,List.getElem?_map,List.getElem?_map,e1];rfl
 have q:=h.rep E[i].1 (h.rs_in _ (List.mem_map.2 ⟨_,List.getElem_mem hi,rfl⟩))
 rw[trA_eq h.ex.wf r] at q
 refine⟨t,by rw[g];exact q,?_,b,by rw[l];exact a⟩
 rw[List.getD_eq_getElem?_getD,e1,l];rfl
theorem rch_back {S S':Arn}{hs:List Int}(w:Wf S hs)(w':Wf S' hs)(st:Stay S S' hs){i:Int}(h:Rch S' hs i):Rch S hs i:=by
 have u0:=w'.us0 (Int.le_refl 0)
 induction h with
 | root a u =>
  refine .root a ((w.held _ a).resolve_left fun c=>?_)
  rw[c,u0] at u;cases u
 | @left p _ u ih =>
  have e:=(st p ih).2.1
  rw[e] at u ⊢
  refine .left ih ((w.kid p ih.us).1.resolve_left fun c=>?_)
  rw[c,u0] at u;cases u
 | @right p _ u ih =>
  have e:=(st p ih).2.1
  rw[e] at u ⊢
  refine .right ih ((w.kid p ih.us).2.resolve_left fun c=>?_)
  rw[c,u0] at u;cases u
theorem nu_back {S S':Arn}{hs:List Int}(w:Wf S hs)(w':Wf S' hs)(st:Stay S S' hs)(hl:S'.used.length=S.used.length):S'.nu=S.nu/\S'.free=S.free:=by
 have a:=w.nuR
 have b:=w'.nuR
 have c:nuR S hs<=nuR S' hs:=nuR_le (fun i h=>st.reach h) hl.symm
 have d:nuR S' hs<=nuR S hs:=nuR_le (fun i h=>rch_back w w' st h) hl
 have e:nuR S hs<=S.nu:=nuR_nu
 have f:nuR S' hs<=S'.nu:=nuR_nu
 have n:S'.nu=S.nu:=by omega
 refine⟨n,?_⟩
 have g:=w.free_nonneg.2.2.2
 have h:=w'.free_nonneg.2.2.2
 rw[g,h,n]
 unfold Arn.cap
 rw[hl]
end Go.Proofs.YtedfbafngmicpaaGreat.Sx
end
section
/- Law PackRoundTrip. -/
namespace Go.Proofs.YtedfbafngmicpaaGreat.Sx
open Go

/-KEEP Wf exW inU allV allB rdS Arn.free RtB ExO ImR FrB RngL RngS FoR pkZ slotsOf orderOf DgW ExB8 ExD NumsD allVb keptD RepD Asc Tr.Bal Tr.size Tr.list List.Perm Kept decS-/
structure ZRt where
 S:Arn
 r:List Int
 L:List (List Ent)
 k:List Int
 b:List Int
 d:List SlotT
 o:List Int
 x:List Int
 d2:List SlotT
 o2:List Int
 i:Nat
structure XRt (P:ZRt->Prop) where
 z:ZRt
 h:P z
structure XRu (P:Arn->List SlotT->List Int->List Int->Nat->Prop) where
 S:Arn
 d:List SlotT
 o:List Int
 x:List Int
 i:Nat
 h:P S d o x i
abbrev hfT (raw:List Ent)(l:List StpT)(z:ZRt):List (Chunk C0):=[.row false EC.ent raw,.row false EC.stp l]++chSk 2 z.S++[.row true EC.u32 z.r,.rows EC.hent EC.ent z.L,.row true EC.u32 z.k,.row true EC.u8 z.b,.box [.slc 14,.slc 15],.row true EC.slot z.d,.row true EC.u32 z.o,.row true EC.u32 z.x,.box [.slc 18,.slc 19],.row true EC.slot z.d2,.row true EC.u32 z.o2]
noncomputable def aRt (P0 P1:ZRt->Prop)(P2:Arn->List SlotT->List Int->List Int->Nat->Prop)(raw:List Ent)(l:List StpT):Ann C0:={ quiet:=[9999999,17,27,21,22,16,24,25,23],Γ:=[(19,tFo),(10,frameT [] tAw28),(20,tPiU),(12,frameT [] tExr),(15,frameT [] tImr),(17,frameT [] tDump),(21,frameT [] tKept),(22,frameT [] tSound),(25,frameT [] tEx28),(23,frameT [] tN28),(16,frameT [] tTr7),(24,frameT [] tSmB),(26,frameT [] tRelease),(27,frameT [] tFree)],inv:=fun m=>match m with
 | 1012=>some { X:=XRt P0,sl:=[11,15,16,17,19,21,22,24],tf:=fun _=>[.one (.at (.ptr 2 0)),.one (.at (.slc 9)),.one (.at (.slc 10)),.one (.at (.slc 11)),.one (.at (.slc 12)),.one (.at (.ptr 13 0)),.one (.at (.slc 16)),.one (.at (.ptr 17 0))],hf:=fun x=>hfT raw l x.z }
 | 17=>some { X:=XRt P1,sl:=[11,15,16,17,19,21,22,24,27],tf:=fun x=>[.one (.at (.ptr 2 0)),.one (.at (.slc 9)),.one (.at (.slc 10)),.one (.at (.slc 11)),.one (.at (.slc 12)),.one (.at (.ptr 13 0)),.one (.at (.slc 16)),.one (.at (.ptr 17 0)),vi .i64 x.z.i],hf:=fun x=>hfT raw l x.z,μ:=fun x=>x.z.x.length-x.z.i }
 | 24=>some { X:=XRu P2,sl:=[11,21,22,28],tf:=fun x=>[.one (.at (.ptr 2 0)),.one (.at (.ptr 9 0)),.one (.at (.slc 12)),vi .i64 x.i],hf:=fun x=>[.row false EC.ent raw,.row false EC.stp l]++chSk 2 x.S++[.box [.slc 10,.slc 11],.row true EC.slot x.d,.row true EC.u32 x.o,.row true EC.u32 x.x],μ:=fun x=>x.x.length-x.i }
 | _=>none }
def tRt:Tfm C0:=fun args H K=>match args,H with
 | [.at (.slc 0),.at (.val (.int .u64 t)),.at (.slc 1),.at (.val (.int .u8 b)),.at (.val (.int .u8 c))],[.row false .ent raw,.row false .stp l]=>0<=t/\RngL raw/\RngS l/\K (.one (.at (vB true))) [.row false EC.ent raw,.row false EC.stp l] []
 | _,_=>False
structure RtF (S0:Arn) (rs lk la nw:List Int) (D:Int) (m:Nat) (E:List (Int × List Ent)) (z:ZRt):Prop where
 w:Wf S0 rs
 im:ImO S0 rs z.k (E.map Prod.fst) lk la nw m z.S z.x
 p:RtP S0 rs z.k (E.map Prod.fst) lk la D z.b
 er:z.r=E.map Prod.fst
 eL:z.L=E.map Prod.snd
 hE:∀ q∈E,OkT S0 q.1/\∃ t,Rep S0 t q.1/\t.list=q.2/\t.Bal/\Asc q.2/\t.size<=36
 el:E.length<=8
 ok:∀ r∈z.k,OkT S0 r
 kl:z.k.length<=8
 bl:z.b.length<=8000000
 ed:z.d=slotsOf S0
 eo:z.o=orderOf S0
 ed2:z.d2=slotsOf z.S
 eo2:z.o2=orderOf z.S
section
variable {S0:Arn} {rs lk la nw:List Int} {D:Int} {m:Nat} {E:List (Int × List Ent)} {z:ZRt}
theorem RtF.ku (h:RtF S0 rs lk la nw D m E z):∀ i∈z.k,i=0∨S0.us i=true:=fun i hi=>by
 obtain⟨t,r,_⟩:=h.ok i hi
 exact r.us
theorem RtF.ru (h:RtF S0 rs lk la nw D m E z):∀ i∈z.r,i=0∨S0.us i=true:=fun i hi=>by
 rw[h.er] at hi
 obtain⟨q,hq,rfl⟩:=List.mem_map.1 hi
 obtain⟨⟨t,r,_⟩,_⟩:=h.hE q hq
 exact r.us
theorem RtF.okr (h:RtF S0 rs lk la nw D m E z):∀ r∈z.r,OkT S0 r:=fun i hi=>by
 rw[h.er] at hi
 obtain⟨q,hq,rfl⟩:=List.mem_map.1 hi
 exact (h.hE q hq).1
theorem RtF.xl (h:RtF S0 rs lk la nw D m E z):z.x.length=E.length:=by rw[h.im.xs,List.length_map,List.length_map]
theorem RtF.okx (h:RtF S0 rs lk la nw D m E z):∀ r∈z.k++z.x,OkT z.S r:=fun r hr=>by
 have key:∀ i,i=0∨i∈la->OkT S0 i->OkT z.S (imF lk la nw i):=fun i hi ok=>by
  obtain⟨t,rp,a,b,g⟩:=ok
  have q:=h.im.rep i hi
  rw[trA_eq h.w rp] at q
  exact⟨t,q,a,b,g⟩
 rcases List.mem_append.1 hr with hk|hx
 ·rcases h.ku r hk with e|u
  ·have:=key 0 (.inl rfl) (e ▸ h.ok r hk)
   rw[h.im.f0] at this
   rw[e];exact this
  ·have hl:=h.im.ex.nk.roots r hk u
   have:=key r (.inr (h.im.ex.na.sub hl)) (h.ok r hk)
   rw[h.im.fk hl] at this
   exact this
 ·rw[h.im.xs] at hx
  obtain⟨i,hi,rfl⟩:=List.mem_map.1 hx
  exact key i (h.im.rs_in i hi) (h.okr i (by rw[h.er];exact hi))
theorem RtF.xu (h:RtF S0 rs lk la nw D m E z):∀ r∈z.k++z.x,r=0∨z.S.us r=true:=fun r hr=>by
 obtain⟨t,rp,_⟩:=h.okx r hr
 exact rp.us
theorem RtF.ky (h:RtF S0 rs lk la nw D m E z):KyN z.S (z.k++z.x):=kyN_of h.im.wf fun r hr=>by
 obtain⟨t,rp,_,_,g⟩:=h.okx r hr
 exact⟨t,rp,g⟩
theorem RtF.perm (h:RtF S0 rs lk la nw D m E z):(rs++z.x).Perm (z.x.reverse++rs):=List.perm_append_comm.trans ((List.reverse_perm z.x).symm.append_right rs)
theorem RtF.again (h:RtF S0 rs lk la nw D m E z){o:List Int}(x:ExD (slotsOf z.S) z.x z.k o):o=z.b:=by
 obtain⟨lk',la',D',n1,n2,g,e⟩:=exD_slots h.im.wf x
 obtain rfl:=(h.im.numk h.ku).det n1
 obtain rfl:=h.im.num.det n2
 have hd:=(h.im.dg h.ku h.p.dg).det g
 subst hd
 rw[e,h.im.pks,h.p.eo];rfl
theorem RtF.many (h:RtF S0 rs lk la nw D m E z){a b:List Int}(na:NumsD (slotsOf z.S) z.x [] a)(nb:NumsD (slotsOf S0) z.r [] b):a.length=b.length:=by
 have nb':=numD_A h.w nb
 rw[h.er] at nb'
 rw[(numD_A h.im.wf na).det (h.im.num0 nb'),List.length_map]
theorem RtF.fewer (h:RtF S0 rs lk la nw D m E z):S0.free-z.S.free=(la.length:Int)-lk.length:=by
 obtain⟨y,ey,yl⟩:=h.im.ax
 have a:=h.w.free_nonneg.2.2.2
 have b:=h.im.wf.free_nonneg.2.2.2
 have c:=h.im.nu
 have d:=h.im.ul
 have e:la.length=lk.length+nw.length:=by rw[ey,List.length_append,yl]
 rw[a,b]
 unfold Arn.cap
 rw[d]
 omega
end
def PRt0:ZRt->Prop:=fun z=>∃ S0 rs lk la nw D m E,RtF S0 rs lk la nw D m E z
def PRt1:ZRt->Prop:=fun z=>PRt0 z/\z.i<=z.x.length
def PRt2:Arn->List SlotT->List Int->List Int->Nat->Prop:=fun S _ o x i=>i<=x.length/\x.length<=8/\∃ S0 rs,Wf S0 rs/\Wf S (x.drop i++rs)/\Stay S0 S rs/\S.used.length=S0.used.length/\o=orderOf S0
theorem vc_rt (raw:List Ent)(l:List StpT)(t b c:Int)(K:KT)(h0:0<=t)(hraw:RngL raw)(hl:RngS l)(h:K (.one (.at (vB true))) [.row false EC.ent raw,.row false EC.stp l] []) :
  vc C0 (aRt PRt0 PRt1 PRt2 raw l) Tryz.f4 [.at (.slc 0),.at (vU64 t),.at (.slc 1),.at (.val (.int .u8 b)),.at (.val (.int .u8 c))] [.row false EC.ent raw,.row false EC.stp l] (normK 2 K):=by
 generalize hP0:PRt0=P0
 generalize hP1:PRt1=P1
 generalize hP2:PRt2=P2
 refine Eq.mp (show (0<=t/\(1:Int)<=300/\(300:Int)<=1000/\RngL raw/\RngS l/\∀ S:Arn,∀ rs:List Int,∀ ll:List (List Ent),FoR 300 S rs ll->rs.length=ll.length/\rs.length<=1000/\∀ r:List Int,∀ L:List (List Ent),r=(List.map Prod.fst (pkZ b (rs.zip ll)))->L=(List.map Prod.snd (pkZ b (rs.zip ll)))->rs.length=ll.length/\rs.length<=1000/\∀ r1:List Int,∀ L1:List (List Ent),r1=(List.map Prod.fst (pkZ c (rs.zip ll)))->L1=(List.map Prod.snd (pkZ c (rs.zip ll)))->∃ hs:List Int,RtB S hs r1 r/\∀ S':Arn,∀ o:List Int,ExO S hs r1 r S' o->exW S'/\∀ d:List SlotT,∀ o1:List Int,d=slotsOf S'->o1=orderOf S'->∃ S0:Arn,∃ hs1:List Int,∃ rs1:List Int,RtB S0 hs1 r1 rs1/\S0.reads<=10000000000000000/\ExO S0 hs1 r1 rs1 S' o/\FrB S0 r1 rs1/\∀ S2:Arn,∀ x:List Int,ImR S0 hs1 r1 rs1 S2 x->exW S2/\∀ d1:List SlotT,∀ o2:List Int,d1=slotsOf S2->o2=orderOf S2->brS ((x.length:Int) != (r.length:Int)) (K (.one (.at (.val (Value.bool false)))) [(.row false EC.ent (raw)),(.row false EC.stp (l))] []) (keptD d d1/\d.length<=1000000/\(([]:List Ent).length+rs.length)*bytesOf C0 EC.u32<=140737488355328/\(([]++rs).length+x.length)*bytesOf C0 EC.u32<=140737488355328/\∃ hs2:List Int,Wf S2 hs2/\([]++rs++x).Perm hs2/\([]++rs++x).length<=1000000/\∃ x1:XRt P0,True/\(True/\True/\True/\True/\True/\True/\True/\True/\True)/\raw=raw/\l=l/\(True/\True/\True/\VW (S2.reads)=VW (x1.z.S.reads)/\True)/\(True/\True/\True/\VU (S2.fresh)=VU (x1.z.S.fresh)/\True)/\S2.nodes=x1.z.S.nodes/\S2.counts=x1.z.S.counts/\S2.used=x1.z.S.used/\S2.gen=x1.z.S.gen/\S2.rel=x1.z.S.rel/\
 r=x1.z.r/\L=x1.z.L/\r1=x1.z.k/\o=x1.z.b/\(True/\True/\True)/\d=x1.z.d/\o1=x1.z.o/\x=x1.z.x/\(True/\True/\True)/\d1=x1.z.d2/\o2=x1.z.o2/\True)/\∀ x1:XRt P0,True->DgW x1.z.d/\x1.z.k.length<=1000000/\allVb x1.z.k/\∀ l1:List Int,NumsD x1.z.d x1.z.k [] l1->(([]:List Ent).length+x1.z.k.length)*bytesOf C0 EC.u32<=140737488355328/\(([]++x1.z.k).length+x1.z.r.length)*bytesOf C0 EC.u32<=140737488355328/\DgW x1.z.d/\([]++x1.z.k++x1.z.r).length<=1000000/\allVb ([]++x1.z.k++x1.z.r)/\∀ l2:List Int,NumsD x1.z.d ([]++x1.z.k++x1.z.r) [] l2->brS (IntKind.i64.wrap ((x1.z.o.length:Int)-(x1.z.o2.length:Int)) != IntKind.i64.wrap ((l2.length:Int)-(l1.length:Int))) (K (.one (.at (.val (Value.bool false)))) [(.row false EC.ent (raw)),(.row false EC.stp (l))] []) ((∃ x2:XRt P1,True/\(True/\True/\True/\True/\True/\True/\True/\True/\VI 0=(VI (x2.z.i:Int))/\True)/\raw=raw/\l=l/\(True/\True/\True/\VW (x1.z.S.reads)=VW (x2.z.S.reads)/\True)/\(True/\True/\True/\VU (x1.z.S.fresh)=VU (x2.z.S.fresh)/\True)/\x1.z.S.nodes=x2.z.S.nodes/\x1.z.S.counts=x2.z.S.counts/\x1.z.S.used=x2.z.S.used/\x1.z.S.gen=x2.z.S.gen/\x1.z.S.rel=x2.z.S.rel/\x1.z.r=x2.z.r/\x1.z.L=x2.z.L/\x1.z.k=x2.z.k/\x1.z.b=x2.z.b/\(True/\True/\True)/\x1.z.d=x2.z.d/\x1.z.o=x2.z.o/\x1.z.x=x2.z.x/\(True/\True/\True)/\x1.z.d2=x2.z.d2/\x1.z.o2=x2.z.o2/\True)/\∀ x2:XRt P1,True->brS (decide ((x2.z.i:Int)<(x2.z.x.length:Int))) (0<=(x2.z.i:Int)/\(x2.z.i:Int)<(x2.z.x.length:Int)/\0<=(x2.z.i:Int)/\(x2.z.i:Int)<(x2.z.L.length:Int)/\x2.z.d2.length<=1000000/\(∃ t1:Tr,RepD x2.z.d2 t1 (getB x2.z.x (x2.z.i:Int).toNat)/\
 Asc t1.list/\t1.Bal/\t1.size<=2*x2.z.d2.length+2/\t1.size<=1000000/\t1.list=(rowG x2.z.L (x2.z.i:Int).toNat))/\∃ x':XRt P1,True/\((True/\True/\True/\True/\True/\True/\True/\True/\(VI (IntKind.i64.wrap ((x2.z.i:Int)+1)))=(VI (x'.z.i:Int))/\True)/\raw=raw/\l=l/\(True/\True/\True/\VW (x2.z.S.reads)=VW (x'.z.S.reads)/\True)/\(True/\True/\True/\VU (x2.z.S.fresh)=VU (x'.z.S.fresh)/\True)/\x2.z.S.nodes=x'.z.S.nodes/\x2.z.S.counts=x'.z.S.counts/\x2.z.S.used=x'.z.S.used/\x2.z.S.gen=x'.z.S.gen/\x2.z.S.rel=x'.z.S.rel/\x2.z.r=x'.z.r/\x2.z.L=x'.z.L/\x2.z.k=x'.z.k/\x2.z.b=x'.z.b/\(True/\True/\True)/\x2.z.d=x'.z.d/\x2.z.o=x'.z.o/\x2.z.x=x'.z.x/\(True/\True/\True)/\x2.z.d2=x'.z.d2/\x2.z.o2=x'.z.o2/\True)/\x'.z.x.length-x'.z.i<x2.z.x.length-x2.z.i) (ExB8 x2.z.d2 x2.z.x x2.z.k/\∀ o3:List Int,ExD x2.z.d2 x2.z.x x2.z.k o3->o3=x2.z.b/\o3.length<=100000000/\DgW x2.z.d2/\x2.z.x.length<=1000000/\allVb x2.z.x/\∀ l3:List Int,NumsD x2.z.d2 x2.z.x [] l3->DgW x2.z.d/\x2.z.r.length<=1000000/\allVb x2.z.r/\∀ l4:List Int,NumsD x2.z.d x2.z.r [] l4->brS ((l3.length:Int) != (l4.length:Int)) (K (.one (.at (.val (Value.bool false)))) [(.row false EC.ent (raw)),(.row false EC.stp (l))] []) ((∃ x3:XRu P2,True/\(True/\True/\True/\VI 0=(VI (x3.i:Int))/\True)/\raw=raw/\l=l/\(True/\True/\True/\VW (x2.z.S.reads)=VW (x3.S.reads)/\True)/\(True/\True/\True/\VU (x2.z.S.fresh)=VU (x3.S.fresh)/\True)/\x2.z.S.nodes=x3.S.nodes/\x2.z.S.counts=x3.S.counts/\x2.z.S.used=x3.S.used/\x2.z.S.gen=x3.S.gen/\x2.z.S.rel=x3.S.rel/\(True/\True/\
 True)/\x2.z.d=x3.d/\x2.z.o=x3.o/\x2.z.x=x3.x/\True)/\∀ x3:XRu P2,True->brS (decide ((x3.i:Int)<(x3.x.length:Int))) (0<=(x3.i:Int)/\(x3.i:Int)<(x3.x.length:Int)/\∃ hs2:List Int,Wf x3.S (getB x3.x (x3.i:Int).toNat::hs2)/\∀ S'1:Arn,∀ fr:Int,Wf S'1 hs2->Kept x3.S S'1->(fr+(S'1.nu:Int))=((x3.S.nu:Int))->(1<x3.S.ct (getB x3.x (x3.i:Int).toNat)->(x3.S.us (getB x3.x (x3.i:Int).toNat))=true->S'1=(decS x3.S (getB x3.x (x3.i:Int).toNat)))->((x3.S.us (getB x3.x (x3.i:Int).toNat))=false->S'1=x3.S)->∃ x':XRu P2,True/\((True/\True/\True/\(VI (IntKind.i64.wrap ((x3.i:Int)+1)))=(VI (x'.i:Int))/\True)/\raw=raw/\l=l/\(True/\True/\True/\VW (S'1.reads)=VW (x'.S.reads)/\True)/\(True/\True/\True/\VU (S'1.fresh)=VU (x'.S.fresh)/\True)/\S'1.nodes=x'.S.nodes/\S'1.counts=x'.S.counts/\S'1.used=x'.S.used/\S'1.gen=x'.S.gen/\S'1.rel=x'.S.rel/\(True/\True/\True)/\x3.d=x'.d/\x3.o=x'.o/\x3.x=x'.x/\True)/\x'.x.length-x'.i<x3.x.length-x3.i) (exW x3.S/\K (.one (.at (.val (Value.bool (x3.S.free==(x3.o.length:Int)))))) [(.row false EC.ent (raw)),(.row false EC.stp (l))] [])))))=_ by kernel_rfl) ?_
 subst hP0 hP1 hP2
 refine⟨h0,by decide,by decide,hraw,hl,fun S rs ll fo=>⟨fo.len,by have:=fo.one;omega,fun r L er eL=>⟨fo.len,by have:=fo.one;omega,fun r1 L1 er1 _=>?_⟩⟩⟩
 have rt:=fo.rt c b
 rw[← er,← er1] at rt
 have w:=fo.wf
 have rd:=fo.rd
 have one:=fo.one
 obtain⟨l1,u1,v1,v1',k1⟩:=fo.own er
 obtain⟨l2,u2,v2,v2',k2⟩:=fo.own er1
 refine⟨rs,rt,fun S1 o1 ex=>?_⟩
 obtain⟨m,es,hm⟩:=ex.st
 subst es
 have w1:Wf (rdS S m) rs:=w.rd (by omega)
 refine⟨⟨_,w1⟩,fun d o ed eo=>⟨S,rs,r,rt,by omega,ex,by rw[er];exact fo.frB (by decide) _ _,fun S2 x im=>?_⟩⟩
 obtain⟨lk,la,nw,q,im⟩:=im
 obtain⟨lk',la',D,p⟩:=ex.p
 obtain rfl:=p.ex.nk.det im.ex.nk
 obtain rfl:=p.ex.na.det im.ex.na
 have ed:d=slotsOf S:=ed
 have eo:o=orderOf S:=eo
 refine⟨⟨_,im.wf⟩,fun d2 o2 ed2 eo2=>?_⟩
 have F:RtF S rs lk' la' nw D q (pkZ b (rs.zip ll)) ⟨S2,r,L,r1,o1,d,o,x,d2,o2,0⟩:=by
  rw[er] at im p
  refine⟨w,im,p,er,eL,fun z hz=>fo.ok (pkZ_mem hz),pkZ_len _ _,fun r hr=>?_,l2,ex.bl,ed,eo,ed2,eo2⟩
  have hr:r∈r1:=hr
  rw[er1] at hr
  obtain⟨z,hz,rfl⟩:=List.mem_map.1 hr
  exact (fo.ok (pkZ_mem hz)).1
 have xl:x.length=r.length:=by have:=F.xl;rw[er,List.length_map];exact this
 have sl:=slots_le w
 have ol:=order_len w
 have c1:((([]:List Int).length+rs.length)*bytesOf C0 EC.u32<=140737488355328):=by rw[bytes_u32];simp;omega
 have c2:((([]++rs).length+x.length)*bytesOf C0 EC.u32<=140737488355328):=by rw[bytes_u32];simp;omega
 refine⟨bf7 (by rw[xl];simp) ⟨by rw[ed,ed2];exact kept_of w im.stay im.ul,by rw[ed];omega,c1,c2,x.reverse++rs,im.wf,F.perm,by simp;omega,⟨_,_,_,_,_,_,_,_,_,F⟩,?_⟩,fun x1 _=>?_⟩
 ·(repeat' first|exact trivial|exact rfl|refine And.intro ?_ ?_)
 clear F c1 c2 sl ol xl ed2 eo2 eo ed im p ex rt w w1 rd one l1 u1 v1 v1' k1 l2 u2 v2 v2' k2 er eL er1 fo
 obtain⟨z,S0,rs,lk,la,nw,D,m,E,F⟩:=x1
 dsimp only
 have kl:=F.kl
 have rl:z.r.length<=8:=by rw[F.er,List.length_map];exact F.el
 have xl:z.x.length<=8:=by rw[F.xl];exact F.el
 have dw:DgW z.d:=by rw[F.ed];exact dgW_slots F.w
 have dw2:DgW z.d2:=by rw[F.ed2];exact dgW_slots F.im.wf
 have vk:allVb z.k:=fun j hj=>inU_of F.w (F.ku j hj)
 have vr:allVb z.r:=fun j hj=>inU_of F.w (F.ru j hj)
 have vx:allVb z.x:=fun j hj=>inU_of F.im.wf (F.xu j (List.mem_append_right _ hj))
 refine⟨dw,by omega,vk,fun l1 n1=>⟨?_,?_,dw,by simp;omega,?_,fun l2 n2=>?_⟩⟩
 ·rw[bytes_u32];show (0+z.k.length)*4<=_;omega
 ·rw[bytes_u32,List.nil_append];omega
 ·rw[List.nil_append]
  intro j hj
  rcases List.mem_append.1 hj with c|c
  ·exact vk j c
  ·exact vr j c
 have f1:=n1.few dw
 have f2:=n2.few dw
 have dl:=dw.len
 rw[F.ed] at n1 n2
 have e1:=(numD_A F.w n1).det F.im.ex.nk
 have e2:l2=la:=by
  have:=numD_A F.w n2
  rw[List.nil_append,F.er] at this
  exact this.det F.im.ex.all
 subst e1 e2
 have fw:=F.fewer
 have of1:=order_free F.w
 have of2:=order_free F.im.wf
 rw[← F.eo] at of1
 rw[← F.eo2] at of2
 have ol1:=order_len F.w
 have ol2:=order_len F.im.wf
 rw[← F.eo] at ol1
 rw[← F.eo2] at ol2
 rw[wrap_id (x:=(z.o.length:Int)-(z.o2.length:Int)) (by omega) (by omega),wrap_id (x:=(l2.length:Int)-(l1.length:Int)) (by omega) (by omega)]
 refine bf7 (by rw[of1,of2,fw];simp) ⟨⟨⟨{ z with i:=0 },⟨S0,rs,l1,l2,nw,D,m,E,⟨F.w,F.im,F.p,F.er,F.eL,F.hE,F.el,F.ok,F.kl,F.bl,F.ed,F.eo,F.ed2,F.eo2⟩⟩,Nat.zero_le _⟩,?_⟩,fun x2 _=>?_⟩
 ·(repeat' first|exact trivial|exact rfl|refine And.intro ?_ ?_)
 clear fw of1 of2 ol1 ol2 f1 f2 n1 n2 dl vk vr vx dw dw2 xl rl kl F
 obtain⟨z,⟨S0,rs,lk,la,nw,D,m,E,F⟩,hi⟩:=x2
 dsimp only
 have kl:=F.kl
 have rl:z.r.length<=8:=by rw[F.er,List.length_map];exact F.el
 have xl:=F.xl
 have el:=F.el
 have sl2:=slots_le F.im.wf
 refine brS_of (fun y=>?_) fun y=>?_
 ·have yi:z.i<z.x.length:=by have:=of_decide_eq_true y;omega
  clear y
  rw[show ((z.i:Int)).toNat=z.i from rfl,wrap_id (x:=(z.i:Int)+1) (by omega) (by omega)]
  obtain⟨t,rp,tl,bal,asc⟩:=(F.im.trees fun q hq=>by obtain⟨_,t,a,b,c,d,_⟩:=F.hE q hq;exact⟨t,a,b,c,d⟩).2 z.i (by omega)
  have eg:(E.getD z.i (0,[])).2=rowG z.L z.i:=by
   have e1:E[z.i]?=some E[z.i]:=List.getElem?_eq_getElem (by omega)
   rw[F.eL]
   show _=(E.map Prod.snd).getD z.i []
   rw[List.getD_eq_getElem?_getD,List.getD_eq_getElem?_getD,List.getElem?_map,e1];rfl
  rw[eg] at tl
  have tr:=tr_tree F.im.wf rp tl bal (by rw[← tl];exact asc)
  rw[← F.ed2] at tr
  refine⟨by omega,by omega,by omega,by rw[F.eL,List.length_map];omega,by rw[F.ed2];omega,tr,⟨{ z with i:=z.i+1 },⟨S0,rs,lk,la,nw,D,m,E,⟨F.w,F.im,F.p,F.er,F.eL,F.hE,F.el,F.ok,F.kl,F.bl,F.ed,F.eo,F.ed2,F.eo2⟩⟩,yi⟩,trivial,?_,Nat.sub_lt_sub_left yi (Nat.lt_succ_self z.i)⟩
  (repeat' first|exact trivial|exact rfl|refine And.intro ?_ ?_)
 ·clear y
  have dw:DgW z.d:=by rw[F.ed];exact dgW_slots F.w
  have dw2:DgW z.d2:=by rw[F.ed2];exact dgW_slots F.im.wf
  have vr:allVb z.r:=fun j hj=>inU_of F.w (F.ru j hj)
  have vx:allVb z.x:=fun j hj=>inU_of F.im.wf (F.xu j (List.mem_append_right _ hj))
  have eb:ExB8 z.d2 z.x z.k:=by
   rw[F.ed2]
   exact exB_slots F.im.wf (by omega) (by omega) (fun j hj=>F.xu j (List.mem_append_right _ hj)) (fun j hj=>F.xu j (List.mem_append_left _ hj)) F.ky
  refine⟨eb,fun o3 x3=>?_⟩
  rw[F.ed2] at x3
  have bl:=F.bl
  refine⟨F.again x3,by rw[F.again x3];omega,dw2,by omega,vx,fun l3 n3=>⟨dw,by omega,vr,fun l4 n4=>?_⟩⟩
  rw[F.ed2] at n3
  rw[F.ed] at n4
  have wx:Wf z.S (z.x++rs):=F.im.wf.perm ((List.reverse_perm z.x).append_right rs)
  refine bf7 (by rw[F.many n3 n4];simp) ⟨⟨⟨z.S,z.d,z.o,z.x,0,Nat.zero_le _,by omega,S0,rs,F.w,wx,F.im.stay,F.im.ul,F.eo⟩,?_⟩,fun x3 _=>brS_of (fun y=>?_) fun y=>?_⟩
  ·(repeat' first|exact trivial|exact rfl|refine And.intro ?_ ?_)
  ·obtain⟨S,d,o,x,i,hi,x8,S0,rs,w0,ws,st,ul,eo⟩:=x3
   dsimp only at y ⊢
   have yi:i<x.length:=by have:=of_decide_eq_true y;omega
   clear y
   rw[show ((i:Int)).toNat=i from rfl,wrap_id (x:=(i:Int)+1) (by omega) (by omega)]
   rw[drop_getB yi] at ws
   refine⟨by omega,by omega,x.drop (i+1)++rs,ws,fun S' fr w' kp _ _ _=>⟨⟨S',d,o,x,i+1,yi,x8,S0,rs,w0,w',?_,?_,eo⟩,trivial,?_,Nat.sub_lt_sub_left yi (Nat.lt_succ_self i)⟩⟩
   ·exact st.trans ((kp.stay ws w').mono fun j hj=>List.mem_append_right _ hj)
   ·rw[kp.len,ul]
   ·(repeat' first|exact trivial|exact rfl|refine And.intro ?_ ?_)
  ·obtain⟨S,d,o,x,i,hi,x8,S0,rs,w0,ws,st,ul,eo⟩:=x3
   dsimp only at y ⊢
   have yi:i=x.length:=by have:=of_decide_eq_false y;omega
   rw[yi,List.drop_length,List.nil_append] at ws
   have e1:=(nu_back w0 ws st ul).2
   have e2:=order_free w0
   rw[eo,e2,e1,beq_self_eq_true]
   exact⟨⟨_,ws⟩,h⟩
theorem s_rt:SoundT C0 4 tRt:=by
 refine .of Tryz.func4 (by decide) rfl fun args H K h hB=>?_
 unfold tRt at h
 split at h<;>try exact h.elim
 refine⟨_,?_,vc_rt _ _ _ _ _ K h.1 h.2.1 h.2.2.1 h.2.2.2⟩
 exact⟨s_fo,frame C0.ok s_aw28 _,s_piU,frame C0.ok s_exr _,frame C0.ok s_imr _,frame C0.ok s_dump _,frame C0.ok s_kept _,frame C0.ok s_sound _,frame C0.ok s_ex28 _,frame C0.ok s_n28 _,frame C0.ok s_tr7 _,frame C0.ok s_smB _,frame C0.ok s_release _,frame C0.ok s_free _,trivial⟩
end Go.Proofs.YtedfbafngmicpaaGreat.Sx
end
section
/- What every law's last step leans on. -/
namespace Go.Proofs.YtedfbafngmicpaaGreat
open Go.ChangeShapes Go.WideShapes Go.ChangeAt Go.RowKit

theorem ownK:ownKnob Tryz.prog.godebug=none:=by kernel_rfl
theorem laidO:laidOutB Tryz.prog=true:=by kernel_rfl

theorem lit_i64 {a:Int}(h:(Lit.int .i64 a).wf=true) : -9223372036854775808<=a/\a<=9223372036854775807:=by
 have h1:IntKind.i64.min = -9223372036854775808:=rfl
 have h2:IntKind.i64.max=9223372036854775807:=rfl
 simp only[Lit.wf,Bool.and_eq_true,decide_eq_true_eq] at h
 omega
theorem lit_u64 {a:Int}(h:(Lit.int .u64 a).wf=true):0<=a/\a<=18446744073709551615:=by
 have h1:IntKind.u64.min=0:=rfl
 have h2:IntKind.u64.max=18446744073709551615:=rfl
 simp only[Lit.wf,Bool.and_eq_true,decide_eq_true_eq] at h
 omega
end Go.Proofs.YtedfbafngmicpaaGreat
end
section
/- From contracts to laws: the arguments as they come, what a law's call leaves. -/
namespace Go.Proofs.YtedfbafngmicpaaGreat.Sx
open Go Go.Joins Go.ChangeShapes Go.WideShapes Go.ChangeAt Go.RowKit

theorem Sat.imms {C:Ctx}{w:World}(vs:List Value)(H:List (Chunk C))(h:∀ (n:Nat) (c:Chunk C),H[n]?=some c->∃ e l,c = .row false e l/\Imm C w (vs.getD n undef) e l):Sat C (fun n=>vs.getD n undef) (fun _ _=>False) w H where
 holds n c hc:=by
  obtain⟨e,l,rfl,hi⟩:=h n c hc
  exact⟨hi,fun _ hh=>hh⟩
 dis _ _ _ hh:=hh.elim
 bd _ _ hh:=hh.elim
 imm _ _ _ _ _ _ hh:=hh
 out _ _ _ hh:=hh
 cl n c hc m hm:=by
  obtain⟨e,l,rfl,_⟩:=h n c hc
  simp[Chunk.names] at hm

theorem lawOf {f:FuncId}{t:Tfm C0}(hs:SoundT C0 f t){args:List TV}{H:List (Chunk C0)}{vs:List Value}{σ:Nat->Value}{w:World}(ht:∀ K:KT,K (.one (.at (vB true))) H []->t args H K)(hsat:Sat C0 σ (fun _ _=>False) w H)(hr:Rels (TV.rel σ) args vs)(hn:∀ x∈args,∀ m∈x.names,m<H.length):Calls Tryz.prog f vs.toArray w (fun e w'=>e = .returned (.bool true)/\Below w.heap.size w w'):=by
 have hc:=hs.call args H (fun r _ _=>r = .one (.at (vB true))) (ht _ rfl) σ _ w vs hsat hr hn
 refine Calls.mono hc fun e w' hh=>?_
 cases e with
 | panicked ch=>exact hh.elim
 | outgrown=>exact hh.elim
 | returned v =>
  obtain⟨r,H',ts,σ',φ',hout,rfl⟩:=hh
  have hv:v = .bool true:=hout.rel
  exact⟨by rw[hv],hout.adv.os,hout.adv.tape,hout.adv.output,hout.adv.size,fun k hk=>hout.adv.fr k hk fun n hh=>hh⟩

section
variable {HH:Type} {enc:TypeId × Value->HH} {P:Program} {w:World} {base b0:Nat} {spare:Nat->Bool} {held:Bool} {r:Reach}
theorem openRowQ {α:Type}[Inhabited α]{t e:TypeId}{f:α->List Value}{Q:α->Prop}{sz:Nat}{v:Value}{d:DataW HH}{p:List MemPlace}(ht:P.underlying t=some (.slice e))(hC:P.cellsOf e=sz)(hpos:0<sz)(hf:∀ x,(f x).length=sz)(hel:∀ {n:Nat} {cs:List Value} {x:DataW HH × List MemPlace},DataW.trod enc P w base spare held n e cs=some x->∃ a,cs=f a/\Q a)(hv:Value.okWide P w r b0 t v)(h:DataW.Trod enc P w base spare held t v d p) :
  ∃ A n c l,v = .slice A n c/\Rd f sz w A n c l/\∀ x∈l,Q x:=by
 obtain⟨A,n,c,rfl⟩:=okWide_slice ht hv
 obtain⟨fuel,hh⟩:=h
 have hh:DataW.trod enc P w base spare held fuel t [.slice A n c]=some (d,p):=by simpa [Value.cells] using hh
 rcases Go.Deep.open_slice ht hh with ⟨h1,_⟩|⟨a,len,cap,m,k,D,Pl,h1,hb,hle,hm,hmm,hx,hall⟩
 ·simp only[List.cons.injEq,Value.slice.injEq,and_true] at h1
  obtain⟨rfl,rfl,rfl⟩:=h1
  exact⟨none,0,0,[],rfl,Rd.nil hf,fun x hx=>by simp at hx⟩
 ·simp only[List.cons.injEq,Value.slice.injEq,and_true] at h1
  obtain⟨rfl,rfl,rfl⟩:=h1
  have hlm:n<=m:=by rw[hmm];split<;>omega
  have hel':∀ i,i<n->∃ x:α,w.cells? base (a.add (i*P.cellsOf e)) (P.cellsOf e)=some (f x)/\Q x:=fun i hi=>by
   obtain⟨cs',hc1,hc2⟩:=hall i (by omega)
   obtain⟨x,rfl,hq⟩:=hel hc2
   exact⟨x,hc1,hq⟩
  obtain⟨F,hF⟩:=Go.Deep.choose_lt hel'
  have cell:∀ i,i<n->∀ j,j<sz->w.cell? ((a.add (i*sz)).add j)=(f (F i))[j]?:=fun i hi j hj=>by
   have h2:=(hF i hi).1
   rw[hC] at h2
   unfold World.cells? at h2
   split at h2
   ·exact mapM_some_get h2 j j (by simp[hj])
   ·cases h2
  refine⟨some a,n,c,(List.range n).map F,rfl,⟨by simp,hle,hm,hf,fun h=>(by cases h),fun hn=>?_⟩,fun x hx=>by obtain⟨i,hi,rfl⟩:=List.mem_map.1 hx;exact (hF i (List.mem_range.1 hi)).2⟩
  obtain⟨b,o,sp⟩:=a
  have hsome:∀ i,i<n->∀ j,j<sz->∃ u,w.cell? (((⟨b,o,sp⟩:Addr).add (i*sz)).add j)=some u:=fun i hi j hj=>by
   rw[cell i hi j hj]
   exact⟨_,List.getElem?_eq_getElem (by rw[hf];exact hj)⟩
  obtain⟨u0,hu0⟩:=hsome 0 hn 0 hpos
  have hspot:sp=none:=by simpa [Addr.add] using World.cell?_spot hu0
  subst hspot
  refine⟨b,o,rfl,?_,fun k x hx j u hu=>?_⟩
  ·have hu1:w.cell? ⟨b,o,none⟩=some u0:=by simpa [Addr.add] using hu0
   unfold World.cell? at hu1
   split at hu1
   ·rename_i hb2
    exact (Array.getElem?_eq_some_iff.1 hb2).1
   ·cases hu1
  ·rw[List.getElem?_map] at hx
   have hk:k<n:=by
    rcases Nat.lt_or_ge k n with h2|h2
    ·exact h2
    ·rw[List.getElem?_eq_none (by simpa using h2)] at hx;cases hx
   rw[List.getElem?_range hk] at hx
   simp only[Option.map_some,Option.some.injEq] at hx
   subst hx
   have hj:j<sz:=by
    have:=(List.getElem?_eq_some_iff.1 hu).1
    rwa [hf] at this
   have h3:=cell k hk j hj
   rw[hu] at h3
   rw[← h3]
   congr 1
   rw[Go.WideShapes.add_plain,Go.WideShapes.add_plain]
end

section
variable {HH:Type} {enc:TypeId × Value->HH} {w:World} {base b0:Nat} {spare:Nat->Bool} {held:Bool} {r:Reach}
set_option maxRecDepth 100000 in
theorem elEw {n:Nat}{cs:List Value}{x:DataW HH × List MemPlace}(h:DataW.trod enc Tryz.prog w base spare held n 24 cs=some x) :
  ∃ a:Ent,cs=EC.enc .ent a/\((-9223372036854775808<=a.1/\a.1<=9223372036854775807)/\(-9223372036854775808<=a.2/\a.2<=9223372036854775807)):=by
 obtain⟨y0,y1,m,_,hl,h0,h1⟩:=trod_struct2 Tryz.underlying24 h
 obtain⟨k,e0,_,w0⟩:=DataW.trod_int Tryz.underlying2 h0
 obtain⟨v,e1,_,w1⟩:=DataW.trod_int Tryz.underlying2 h1
 have hl:cs.length=2:=hl.trans (by kernel_rfl)
 have c1:Tryz.prog.cellsOf 2=1:=by kernel_rfl
 match cs,hl with
 | [a,b],_ =>
  simp[c1] at e0 e1
  exact⟨(k,v),by rw[e0,e1];rfl,lit_i64 w0,lit_i64 w1⟩
set_option maxRecDepth 100000 in
theorem openEw {v:Value}{d:DataW HH}{p:List MemPlace}(hv:Value.okWide Tryz.prog w r b0 26 v)(h:DataW.Trod enc Tryz.prog w base spare held 26 v d p) :
  ∃ (l:List Ent),Imm C0 w v EC.ent l/\∀ x∈l,(-9223372036854775808<=x.1/\x.1<=9223372036854775807)/\(-9223372036854775808<=x.2/\x.2<=9223372036854775807):=by
 obtain⟨A,n,c,l,rfl,hr,hq⟩:=openRowQ (α:=Ent) (f:=fun x=>EC.enc .ent x) (sz:=2) Tryz.underlying26 (by kernel_rfl) (by decide) (fun _=>rfl) (fun h=>elEw h) hv h
 obtain rfl:=hr.len
 exact⟨l,⟨A,c,rfl,hr⟩,hq⟩
instance:Inhabited Chg:=⟨⟨0,0,0,0⟩⟩
end
end Go.Proofs.YtedfbafngmicpaaGreat.Sx
end
section
/- Opening arguments that are slices of steps of the laws of pack. -/
namespace Go.Proofs.YtedfbafngmicpaaGreat.Sx
open Go Go.Joins Go.ChangeShapes Go.WideShapes Go.ChangeAt Go.RowKit

theorem lit_u8 {a:Int}(h:(Lit.int .u8 a).wf=true):0<=a/\a<=255:=by
 have h1:IntKind.u8.min=0:=rfl
 have h2:IntKind.u8.max=255:=rfl
 simp only[Lit.wf,Bool.and_eq_true,decide_eq_true_eq] at h
 omega
section
variable {HH:Type} {enc:TypeId × Value->HH} {w:World} {base b0:Nat} {spare:Nat->Bool} {held:Bool} {r:Reach}
instance:Inhabited StpT:=⟨⟨0,(0,0),false,false⟩⟩
set_option maxRecDepth 100000 in
theorem elP {n:Nat}{cs:List Value}{x:DataW HH × List MemPlace}(h:DataW.trod enc Tryz.prog w base spare held n 123 cs=some x):∃ a:StpT,cs=EC.enc .stp a/\(rngI a.at_/\rngI a.ent.1/\rngI a.ent.2):=by
 obtain⟨y0,y1,y2,y3,m,_,hl,h0,h1,h2,h3⟩:=trod_struct4 Tryz.underlying123 h
 obtain⟨u,e0,q0⟩:=DataW.trod_int Tryz.underlying3 h0
 obtain⟨s,e1,q1⟩:=elEw h1
 obtain⟨k,e2,_⟩:=DataW.trod_bool Tryz.underlying4 h2
 obtain⟨v,e3,_⟩:=DataW.trod_bool Tryz.underlying4 h3
 have hl:cs.length=5:=hl.trans (by kernel_rfl)
 have c1:Tryz.prog.cellsOf 4=1:=by kernel_rfl
 have c2:Tryz.prog.cellsOf 3=1:=by kernel_rfl
 have c3:Tryz.prog.cellsOf 24=2:=by kernel_rfl
 match cs,hl with
 | [a,b,c,d,e],_ =>
  simp[c1,c2,c3] at e0 e1 e2 e3
  have e1:[b,c]=[Value.int .i64 s.1,Value.int .i64 s.2]:=e1
  simp only[List.cons.injEq,and_true] at e1
  exact⟨⟨u,s,k,v⟩,by rw[e0,e1.1,e1.2,e2,e3];rfl,lit_i64 q0.2,q1⟩
set_option maxRecDepth 100000 in
theorem openP {v:Value}{d:DataW HH}{p:List MemPlace}(hv:Value.okWide Tryz.prog w r b0 55 v)(h:DataW.Trod enc Tryz.prog w base spare held 55 v d p) :
  ∃ (l:List StpT),Imm C0 w v EC.stp l/\RngS l:=by
 obtain⟨A,n,c,l,rfl,hr,hq⟩:=openRowQ (α:=StpT) (f:=fun x=>EC.enc .stp x) (sz:=5) Tryz.underlying55 (by kernel_rfl) (by decide) (fun _=>rfl) (fun h=>elP h) hv h
 obtain rfl:=hr.len
 exact⟨l,⟨A,c,rfl,hr⟩,hq⟩
end
end Go.Proofs.YtedfbafngmicpaaGreat.Sx
end
section
/- 'PackRoundTrip': the law returns true for every input, and its arguments read afterwards as they read before. -/
namespace Go.Proofs.YtedfbafngmicpaaGreat.packRoundTrip
open Go.ChangeShapes Go.WideShapes Go.ChangeAt Go.RowKit Sx

set_option maxRecDepth 100000 in
theorem lifted (os:Os)(started:os.Started)(H:Type)(enc:TypeId × Value->H) :
  ReturnsInHanded {} Tryz.checked os 4 .any (Rows.packRoundTripSpec.pre6 enc Tryz.prog Tryz.f4 Rows.packRoundTripRow.domain false) (Rows.packRoundTripSpec.post enc Tryz.prog Tryz.f4 false true false false):=by
 refine returnsInHanded_of_change (C:=Tryz.checked) ownK started (by kernel_rfl) Tryz.func4
  (ChangeSpec.witness6 (enc:=enc) (C:=Tryz.checked) false ⟨#[],#[.slice none 0 0,.int .u64 0,.slice none 0 0,.int .u8 0,.int .u8 0],[]⟩ 8 (by kernel_rfl) (by kernel_rfl) (by kernel_rfl) (by kernel_rfl)) ?_
 intro W base args ds gs before hval0 hW hcnd _
 have hval:∀ (j:Nat) t v,Tryz.f4.params[j]?=some t->args[j]?=some v->Value.okWide Tryz.prog W .any base t v:=hval0
 have hW':=hW
 obtain⟨p,q,hA0,hV,rfl,hfz,hnd⟩:=hW
 have hA:DataW.TrodAll enc Tryz.prog W 0 (fun _=>true) true Tryz.f4.params.toList args.toList ds p:=hA0
 rw[Tryz.params4] at hA hval
 obtain⟨v0,vs0,d0,ds0,p0,q0,hargs,rfl,rfl,h0,r0⟩:=trodAll_cons hA
 obtain⟨v1,vs1,d1,ds1,p1,q1,rfl,rfl,rfl,h1,r1⟩:=trodAll_cons r0
 obtain⟨v2,vs2,d2,ds2,p2,q2,rfl,rfl,rfl,h2,r2⟩:=trodAll_cons r1
 obtain⟨v3,vs3,d3,ds3,p3,q3,rfl,rfl,rfl,h3,r3⟩:=trodAll_cons r2
 obtain⟨v4,vs4,d4,ds4,p4,q4,rfl,rfl,rfl,h4,r4⟩:=trodAll_cons r3
 obtain⟨rfl,rfl,rfl⟩:=trodAll_nil r4
 obtain rfl:args=#[v0,v1,v2,v3,v4]:=by cases args;simp_all
 obtain⟨rfl,rfl⟩:=trodVars_none hV
 have k0:=h0
 have k1:=h1
 have k2:=h2
 have k3:=h3
 have k4:=h4
 clear hA0 hval0
 simp only[List.append_nil] at hW'
 have hlt:∀ x∈p0++(p1++(p2++(p3++(p4)))),x.block<W.heap.size:=fun x hx=>by simpa using hW'.lt x (by simpa using hx)
 have l0:∀ x∈p0,x.block<W.heap.size:=fun x hx=>hlt x (by simp[hx])
 have l1:∀ x∈p1,x.block<W.heap.size:=fun x hx=>hlt x (by simp[hx])
 have l2:∀ x∈p2,x.block<W.heap.size:=fun x hx=>hlt x (by simp[hx])
 have l3:∀ x∈p3,x.block<W.heap.size:=fun x hx=>hlt x (by simp[hx])
 have l4:∀ x∈p4,x.block<W.heap.size:=fun x hx=>hlt x (by simp[hx])
 obtain⟨L0,R0,Q0⟩:=openEw (hval 0 26 v0 rfl rfl) h0
 obtain⟨a1,rfl,rfl,rfl,w1⟩:=open_int Tryz.underlying22 (hval 1 22 v1 rfl rfl) h1
 have b1:=lit_u64 w1
 obtain⟨L2,R2,Q2⟩:=openP (hval 2 55 v2 rfl rfl) h2
 obtain⟨a3,rfl,rfl,rfl,w3⟩:=open_int Tryz.underlying5 (hval 3 5 v3 rfl rfl) h3
 have b3:=lit_u8 w3
 obtain⟨a4,rfl,rfl,rfl,w4⟩:=open_int Tryz.underlying5 (hval 4 5 v4 rfl rfl) h4
 have b4:=lit_u8 w4
 refine (lawOf s_rt (args:=[.at (.slc 0),.at (.val (.int .u64 a1)),.at (.slc 1),.at (.val (.int .u8 a3)),.at (.val (.int .u8 a4))]) (H:=[Chunk.row false EC.ent L0,Chunk.row false EC.stp L2]) (vs:=[v0,.int .u64 a1,v2,.int .u8 a3,.int .u8 a4]) (σ:=fun n=>[v0,v2].getD n undef) (w:=W) (fun K h=>⟨b1.1,Q0,Q2,h⟩)
  (Sat.imms [v0,v2] _ fun n c hc=>by match n,hc with|0,hc=>exact⟨_,_,(Option.some.inj hc).symm,R0⟩|1,hc=>exact⟨_,_,(Option.some.inj hc).symm,R2⟩|n+2,hc=>simp at hc) (Rels.cons rfl (Rels.cons rfl (Rels.cons rfl (Rels.cons rfl (Rels.cons rfl Rels.nil))))) (by simp[TV.names,At.names])).mono fun e W' ⟨he,hg⟩=>?_
 subst he
 exact⟨_,rfl,_,_,_,[]++[],_,[],hW',(trodAll_cons_mk (shut_bool Tryz.underlying4 true) trodAll_mk0),(trodAll_cons_mk (Below.trod laidO (by kernel_rfl) (of_decide_eq_true (by kernel_rfl)) k0 hg l0) (trodAll_cons_mk (Below.trod laidO (by kernel_rfl) (of_decide_eq_true (by kernel_rfl)) k1 hg l1) (trodAll_cons_mk (Below.trod laidO (by kernel_rfl) (of_decide_eq_true (by kernel_rfl)) k2 hg l2) (trodAll_cons_mk (Below.trod laidO (by kernel_rfl) (of_decide_eq_true (by kernel_rfl)) k3 hg l3) (trodAll_cons_mk (Below.trod laidO (by kernel_rfl) (of_decide_eq_true (by kernel_rfl)) k4 hg l4) trodAll_mk0))))),rfl,hg.frame _,fun h=>by cases h⟩

theorem over:Rows.packRoundTripRow.holds Tryz.pinned (OpenSpec.ofChange Rows.packRoundTripSpec) :=
 OpenClaim.holds_of_wide 4 Tryz.f4 rfl rfl rfl rfl rfl rfl rfl ⟨rfl,rfl,rfl,rfl,rfl⟩ rfl rfl rfl rfl rfl (by kernel_rfl) Tryz.func4 (by kernel_rfl)
  (of_decide_eq_true (by kernel_rfl)) (by unfold Func.isWrapper;first|(rw[if_pos (by decide +kernel)];kernel_rfl)|(rw[if_neg (by decide +kernel)];exact⟨rfl,rfl⟩))
  (fun os started H enc _=>lifted os started H enc)

theorem proved:Rows.PackRoundTripSaid:=over
#print axioms proved
end Go.Proofs.YtedfbafngmicpaaGreat.packRoundTrip
end
