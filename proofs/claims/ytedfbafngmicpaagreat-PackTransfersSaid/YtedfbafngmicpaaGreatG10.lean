/- A part of the proof. -/
import Derived.Test.YtedfbafngmicpaaGreatG7
import Derived.Test.YtedfbafngmicpaaGreatG9
import Derived.Test.YtedfbafngmicpaaGreatG3
import Derived.Test.YtedfbafngmicpaaGreatG5
import Derived.Test.YtedfbafngmicpaaGreatG4
import Derived.Test.YtedfbafngmicpaaGreatG6
section
/- update.Insert, Delete, Increase. -/
namespace Go.Proofs.YtedfbafngmicpaaGreat.Sx
open Go

/-KEEP Wf exW inU live Arn.free Rep rdS retL Tr.size Tr.list Tr.Bal getE Asc ht Hn gN iB dB insE flt neK hasK TrR Got-/
def tIn:Tfm C0:=fun args H K=>match args with
 | [.at (.ptr 0 0),.at (.val (.int .u32 i)),.agg [.val (.int .i64 k),.val (.int .i64 v)]]=>arM H fun S=>∃ hs t,Wf S (i::hs)/\Rep S t i/\t.Bal/\Asc t.list/\t.size<=700000/\(iB t.size:Int)<=S.free/\hs.length<=500000000/\S.reads+5*iB t.size<=1600000000000000000 ∧
  ∀ S' j,TrR S hs (insE t.list (k,v)) (iB t.size) (5*iB t.size) S' j->K (.one (.at (vU j))) (chS S') W7
 | _=>False
theorem s_in:SoundT C0 46 tIn:=(s_insr 1000000).weak fun args H K h=>by
 unfold tIn at h
 unfold tInsT
 split at h<;>try exact h.elim
 unfold arM at h ⊢
 split at h<;>try exact h.elim
 obtain⟨hs,t,h1,h2,h3,h4,h6,h7,h8,h9,h10⟩:=h
 exact⟨hs,t,h1,h2,h3,h4,by omega,h6,h7,by omega,h9,h10⟩
def tDe:Tfm C0:=fun args H K=>match args with
 | [.at (.ptr 0 0),.at (.val (.int .u32 i)),.at (.val (.int .i64 key))]=>arM H fun S=>∃ hs t,Wf S (i::hs)/\Rep S t i/\t.Bal/\Asc t.list/\t.size<=700000/\hasK t.list key/\(dB t.size:Int)<=S.free/\hs.length<=200000000/\S.reads+5*dB t.size<=1500000000000000000 ∧
  ∀ S' j,TrR S hs (flt (neK key) t.list) (dB t.size) (5*dB t.size) S' j->K (.one (.at (vU j))) (chS S') W7
 | _=>False
theorem s_de:SoundT C0 113 tDe:=(s_dlt 1000000).weak fun args H K h=>by
 unfold tDe at h
 unfold tDlt
 split at h<;>try exact h.elim
 unfold arM at h ⊢
 split at h<;>try exact h.elim
 obtain⟨hs,t,h1,h2,h3,h4,h6,h7,h8,h9,h10,h11⟩:=h
 exact⟨hs,t,h1,h2,h3,h4,by omega,h6,h7,h8,by omega,h10,h11⟩
def upM (S:Arn)(hs:List Int)(t:Tr)(root:Int):Prop:=Wf S hs/\Rep S t root/\t.Bal/\Asc t.list/\t.size<=60000/\hs.length<=100000000/\S.reads<=1000000000000000000
noncomputable def aUpI:Ann C0:={ Γ:=[(42,frameT [] tGetT),(43,frameT [] tHold),(41,frameT [] tSize),(45,frameT [] (tRes1 4 1)),(44,frameT [] tRoom),(46,frameT [] tIn)] }
def tUpI:Tfm C0:=fun args H K=>match args with
 | [.at (.ptr 0 0),.at (.val (.int .u32 r)),.agg [.val (.int .i64 k),.val (.int .i64 v)]]=>arM H fun S=>∃ hs t,upM S hs t r ∧
  (getE t.list k=some v->∀ S' m,S'=retL (rdS S m) r->m<=ht t->K (.tup [.at (vU r),.at (vI v),.at (vB true),.at (vI 0)]) (chS S') W7) ∧
  (getE t.list k≠some v->S.free<4*(Hn (t.size+1)+2)->∀ S' m,S'=rdS S m->m<=ht t+1->K (.tup [.at (vU 0),.at (vI 0),.at (vB false),.at (vI 2)]) (chS S') W7) ∧
  (getE t.list k≠some v->4*(Hn (t.size+1)+2)<=S.free->∀ S' j (o:Option Int),o=getE t.list k->TrR S hs (insE t.list (k,v)) (iB t.size) (5*iB t.size+ht t+1) S' j->K (.tup [.at (vU j),.at (vI (o.getD 0)),.at (vB o.isSome),.at (vI 0)]) (chS S') W7)
 | _=>False
noncomputable def aUpD:Ann C0:={ Γ:=[(42,frameT [] tGetT),(43,frameT [] tHold),(41,frameT [] tSize),(112,frameT [] (tRes1 4 0)),(44,frameT [] tRoom),(113,frameT [] tDe)] }
def tUpD:Tfm C0:=fun args H K=>match args with
 | [.at (.ptr 0 0),.at (.val (.int .u32 r)),.at (.val (.int .i64 k))]=>arM H fun S=>∃ hs t,upM S hs t r ∧
  (getE t.list k=none->∀ S' m,S'=rdS S m->m<=ht t->K (.tup [.at (vU 0),.at (vI 0),.at (vI 4)]) (chS S') W7) ∧
  (∀ v,getE t.list k=some v->S.free<4*(Hn t.size+2)->∀ S' m,S'=rdS S m->m<=ht t+1->K (.tup [.at (vU 0),.at (vI 0),.at (vI 2)]) (chS S') W7) ∧
  (∀ v,getE t.list k=some v->4*(Hn t.size+2)<=S.free->∀ S' j,TrR S hs (flt (neK k) t.list) (dB t.size) (5*dB t.size+ht t+1) S' j->K (.tup [.at (vU j),.at (vI v),.at (vI 0)]) (chS S') W7)
 | _=>False
theorem Hn_mono1 (n:Nat):Hn n<=Hn ((n:Int)+1):=by
 have a:=gN_size n
 have b:=gN_size (n+1)
 have c:=gN_mono (v:=n+1) (w:=n+1+1) (by omega) (by omega)
 rw[show ((n+1:Nat):Int)=(n:Int)+1 by omega] at b
 omega
theorem retL_free (S:Arn)(i:Int):(retL S i).free=S.free:=by unfold retL;split<;>rfl
theorem us_one (b:Bool):b.toNat<=1:=by cases b<;>decide
theorem iB_Hn (n:Nat):(iB n:Int)=4*Hn n+1:=by have:=gN_size n;unfold iB;omega
theorem dB_Hn (n:Nat):(dB n:Int)<=4*Hn n+4:=by have:=gN_size n;have:=dB_le n;omega
theorem vc_upI (S:Arn)(r k v:Int)(K:KT)(hs:List Int)(t:Tr)(hm:upM S hs t r)(h1:getE t.list k=some v->∀ S' m,S'=retL (rdS S m) r->m<=ht t->K (.tup [.at (vU r),.at (vI v),.at (vB true),.at (vI 0)]) (chS S') W7)(h2:getE t.list k≠some v->S.free<4*(Hn (t.size+1)+2)->∀ S' m,S'=rdS S m->m<=ht t+1->K (.tup [.at (vU 0),.at (vI 0),.at (vB false),.at (vI 2)]) (chS S') W7)(h3:getE t.list k≠some v->4*(Hn (t.size+1)+2)<=S.free->∀ S' j (o:Option Int),o=getE t.list k->TrR S hs (insE t.list (k,v)) (iB t.size) (5*iB t.size+ht t+1) S' j->K (.tup [.at (vU j),.at (vI (o.getD 0)),.at (vB o.isSome),.at (vI 0)]) (chS S') W7) :
  vc C0 aUpI Tryz.f11 [.at (.ptr 0 0),.at (vU r),.agg [vI k,vI v]] (chS S) (normK 7 (wideK W7 K)):=by
 refine Eq.mp (show (∃ hs:List Int,∃ t:Tr,Wf S hs/\Rep S t r/\Asc t.list/\t.size<=1000000/\S.reads+(t.size:Int)<=3000000000000000000/\∀ S':Arn,∀ m:Nat,∀ o:Option Int,S'=rdS S m->m<=ht t->o=getE t.list k->brS (o.isSome) (brS (o.getD 0==v) (live S' r/\exW S'/\∀ S'1:Arn,S'1=retL S' r->K (.tup [(.at (.val (VU (r)))),(.at (.val (VI (o.getD 0)))),(.at (.val (Value.bool true))),(.at (.val (VI 0)))]) [(.box [(.ptr 1 0),(.slc 2),(.slc 3),(.val (VW (S'1.reads)))]),(.box [(.slc 4),(.slc 5),(.slc 6),(.val (VU (S'1.fresh)))]),(.row true EC.node (S'1.nodes)),(.row true EC.int (S'1.counts)),(.row true EC.bool (S'1.used)),(.row true EC.u32 (S'1.gen)),(.row true EC.u32 (S'1.rel))] [0,1,2,3,4,5,6]) (inU r/\exW S'/\S'.reads<4000000000000000000/\∀ S'1:Arn,S'1=(rdS S' (S'.us r).toNat)->0<=(S'.nd r).size/\(S'.nd r).size<=65536/\∀ p:Int,p=(4*(Hn ((S'.nd r).size+1)+2))->exW S'1/\∀ b:Bool,b=(decide (0<=p) && decide (p<=S'1.free))->brS (!b) (K (.tup [(.at (.val (VU 0))),(.at (.val (VI 0))),(.at (.val (Value.bool false))),(.at (.val (VI 2)))]) [(.box [(.ptr 1 0),(.slc 2),(.slc 3),(.val (VW (S'1.reads)))]),(.box [(.slc 4),(.slc 5),(.slc 6),(.val (VU (S'1.fresh)))]),(.row true EC.node (S'1.nodes)),(.row true EC.int (S'1.counts)),(.row true EC.bool (S'1.used)),(.row true EC.u32 (S'1.gen)),(.row true EC.u32 (S'1.rel))] [0,1,2,3,4,5,6]) ((live S'1 r/\exW S'1/\∀ S'2:Arn,S'2=retL S'1 r->∃ hs1:List Int,∃ t1:Tr,Wf S'2 (r::hs1)/\Rep S'2 t1 r/\t1.Bal/\Asc t1.list/\t1.size<=700000/\(↑(iB t1.size):Int)<=S'2.free/\hs1.length<=500000000/\
 S'2.reads+5*(↑(iB t1.size):Int)<=1600000000000000000/\∀ S'3:Arn,∀ j:Int,TrR S'2 hs1 (insE t1.list (k,v)) (iB t1.size) (5*iB t1.size) S'3 j->K (.tup [(.at (.val (VU (j)))),(.at (.val (VI (o.getD 0)))),(.at (.val (Value.bool (o.isSome)))),(.at (.val (VI 0)))]) [(.box [(.ptr 1 0),(.slc 2),(.slc 3),(.val (VW (S'3.reads)))]),(.box [(.slc 4),(.slc 5),(.slc 6),(.val (VU (S'3.fresh)))]),(.row true EC.node (S'3.nodes)),(.row true EC.int (S'3.counts)),(.row true EC.bool (S'3.used)),(.row true EC.u32 (S'3.gen)),(.row true EC.u32 (S'3.rel))] [0,1,2,3,4,5,6])/\live S'1 r/\exW S'1/\∀ S'2:Arn,S'2=retL S'1 r->∃ hs1:List Int,∃ t1:Tr,Wf S'2 (r::hs1)/\Rep S'2 t1 r/\t1.Bal/\Asc t1.list/\t1.size<=700000/\(↑(iB t1.size):Int)<=S'2.free/\hs1.length<=500000000/\S'2.reads+5*(↑(iB t1.size):Int)<=1600000000000000000/\∀ S'3:Arn,∀ j:Int,TrR S'2 hs1 (insE t1.list (k,v)) (iB t1.size) (5*iB t1.size) S'3 j->K (.tup [(.at (.val (VU (j)))),(.at (.val (VI (o.getD 0)))),(.at (.val (Value.bool (o.isSome)))),(.at (.val (VI 0)))]) [(.box [(.ptr 1 0),(.slc 2),(.slc 3),(.val (VW (S'3.reads)))]),(.box [(.slc 4),(.slc 5),(.slc 6),(.val (VU (S'3.fresh)))]),(.row true EC.node (S'3.nodes)),(.row true EC.int (S'3.counts)),(.row true EC.bool (S'3.used)),(.row true EC.u32 (S'3.gen)),(.row true EC.u32 (S'3.rel))] [0,1,2,3,4,5,6]))) (inU r/\exW S'/\S'.reads<4000000000000000000/\∀ S'1:Arn,S'1=(rdS S' (S'.us r).toNat)->0<=(S'.nd r).size/\(S'.nd r).size<=65536/\∀ p:Int,p=(4*(Hn ((S'.nd r).size+1)+2))->exW S'1/\∀ b:Bool,b=(decide (0<=p) && decide (p<=S'1.free))->brS (!b) (K (.tup [(.at (.val (VU 0))),(.at (.val (VI 0))),(.at (.val (Value.bool false))),(.at (.val (VI 2)))]) [(.box [(.ptr 1 0),(.slc 2),(.slc 3),(.val (VW (S'1.reads)))]),(.box [(.slc 4),(.slc 5),(.slc 6),(.val (VU (S'1.fresh)))]),(.row true EC.node (S'1.nodes)),(.row true EC.int (S'1.counts)),(.row true EC.bool (S'1.used)),(.row true EC.u32 (S'1.gen)),(.row true EC.u32 (S'1.rel))] [0,1,2,3,4,5,6]) ((live S'1 r/\
 exW S'1/\∀ S'2:Arn,S'2=retL S'1 r->∃ hs1:List Int,∃ t1:Tr,Wf S'2 (r::hs1)/\Rep S'2 t1 r/\t1.Bal/\Asc t1.list/\t1.size<=700000/\(↑(iB t1.size):Int)<=S'2.free/\hs1.length<=500000000/\S'2.reads+5*(↑(iB t1.size):Int)<=1600000000000000000/\∀ S'3:Arn,∀ j:Int,TrR S'2 hs1 (insE t1.list (k,v)) (iB t1.size) (5*iB t1.size) S'3 j->K (.tup [(.at (.val (VU (j)))),(.at (.val (VI (o.getD 0)))),(.at (.val (Value.bool (o.isSome)))),(.at (.val (VI 0)))]) [(.box [(.ptr 1 0),(.slc 2),(.slc 3),(.val (VW (S'3.reads)))]),(.box [(.slc 4),(.slc 5),(.slc 6),(.val (VU (S'3.fresh)))]),(.row true EC.node (S'3.nodes)),(.row true EC.int (S'3.counts)),(.row true EC.bool (S'3.used)),(.row true EC.u32 (S'3.gen)),(.row true EC.u32 (S'3.rel))] [0,1,2,3,4,5,6])/\live S'1 r/\exW S'1/\∀ S'2:Arn,S'2=retL S'1 r->∃ hs1:List Int,∃ t1:Tr,Wf S'2 (r::hs1)/\Rep S'2 t1 r/\t1.Bal/\Asc t1.list/\t1.size<=700000/\(↑(iB t1.size):Int)<=S'2.free/\hs1.length<=500000000/\S'2.reads+5*(↑(iB t1.size):Int)<=1600000000000000000/\∀ S'3:Arn,∀ j:Int,TrR S'2 hs1 (insE t1.list (k,v)) (iB t1.size) (5*iB t1.size) S'3 j->K (.tup [(.at (.val (VU (j)))),(.at (.val (VI (o.getD 0)))),(.at (.val (Value.bool (o.isSome)))),(.at (.val (VI 0)))]) [(.box [(.ptr 1 0),(.slc 2),(.slc 3),(.val (VW (S'3.reads)))]),(.box [(.slc 4),(.slc 5),(.slc 6),(.val (VU (S'3.fresh)))]),(.row true EC.node (S'3.nodes)),(.row true EC.int (S'3.counts)),(.row true EC.bool (S'3.used)),(.row true EC.u32 (S'3.gen)),(.row true EC.u32 (S'3.rel))] [0,1,2,3,4,5,6])))=_ by kernel_rfl) ?_
 obtain⟨w,rp,bal,asc,sz,hl,rd⟩:=hm
 have hrd:=w.rds
 have hb:=Bal.height bal (by omega)
 have hH:=Hn_rng t.size
 have hH1:=Hn_rng ((t.size:Int)+1)
 have hmo:=Hn_mono1 t.size
 have hi:=iB_Hn t.size
 refine⟨hs,t,w,rp,asc,by omega,by omega,fun S1 m o e1 hm1 eo=>?_⟩
 have wl:Wf S1 hs:=by rw[e1];exact w.rd (by omega)
 have rp1:Rep S1 t r:=by rw[e1];exact rep_rd rp m
 have lv:live S1 r:=rp1.us
 have q1:S1.reads=S.reads+m:=by rw[e1];rfl
 have f1:S1.free=S.free:=by rw[e1];rfl
 have z1:(S1.nd r).size=t.size:=rp1.size wl
 refine brS_of (fun c=>brS_of (fun d=>?_) fun d=>?_) fun c=>?_
 ·have d:o.getD 0=v:=by simpa using d
  obtain⟨x,ex⟩:=Option.isSome_iff_exists.1 c
  have ev:x=v:=by rw[ex] at d;exact d
  have he:getE t.list k=some v:=by rw[← eo,ex,ev]
  refine⟨lv,⟨hs,wl⟩,fun S2 e2=>?_⟩
  rw[d]
  exact h1 he S2 m (by rw[e2,e1]) hm1
 all_goals
  have hne:getE t.list k≠some v:=by
   intro he
   rw[he] at eo
   subst eo
   first
    | (simp at d;done)
    | (simp at c;done)
  refine⟨inU_of wl lv,⟨hs,wl⟩,by omega,fun S2 e2=>?_⟩
  have hu:=us_one (S1.us r)
  have wl2:Wf S2 hs:=by rw[e2];exact wl.rd (by omega)
  have rp2:Rep S2 t r:=by rw[e2];exact rep_rd rp1 _
  have lv2:live S2 r:=rp2.us
  have f2:S2.free=S.free:=by rw[e2];exact f1
  have q2:S2.reads=S.reads+m+(S1.us r).toNat:=by rw[e2,← q1];rfl
  have gA:Got S hs 0 (ht t+1) S2 hs:=by
   rw[e2,e1,rdS_rdS]
   rw[e1] at hu
   exact (Got.rds w (by omega)).mono (by omega) (by omega)
  rw[z1]
  refine⟨by omega,by omega,fun p ep=>⟨⟨hs,wl2⟩,fun b eb=>brS_of (fun d2=>?_) fun d2=>?_⟩⟩
  ·have d2:b=false:=by simpa using d2
   rw[d2] at eb
   have hf:¬ p<=S2.free:=fun hp=>by
    rw[decide_eq_true hp,decide_eq_true (show 0<=p by omega)] at eb;cases eb
   exact h2 hne (by omega) S2 (m+(S1.us r).toNat) (by rw[e2,e1,rdS_rdS]) (by omega)
  ·have d2:b=true:=by simpa using d2
   rw[d2] at eb
   have hf:p<=S2.free:=by
    by_cases hp:p<=S2.free
    ·exact hp
    ·rw[decide_eq_false hp,Bool.and_false] at eb;cases eb
   refine⟨⟨lv2,⟨hs,wl2⟩,?_⟩,lv2,⟨hs,wl2⟩,?_⟩
   all_goals
    intro S3 e3
    have g3:=retL_got (hs:=hs) wl2 lv2 (by omega)
    rw[← e3] at g3
    have rp3:Rep S3 t r:=by rw[e3];exact rp2.retL
    have f3:S3.free=S2.free:=by rw[e3];exact retL_free _ _
    have q3:S3.reads=S2.reads:=by rw[e3];exact (retL_flds _ _).1
    refine⟨hs,t,g3.wf,rp3,bal,asc,by omega,by omega,by omega,by omega,fun S4 j tr=>h3 hne (by omega) S4 j o eo ⟨?_,tr.tree⟩⟩
    exact ((gA.seq g3 (h:=hs) (fun _ h=>h) (fun _ h=>h)).seq tr.got (fun _ h=>h) (fun _ h=>h)).mono (by omega) (by omega)
theorem s_upI:SoundT C0 11 tUpI:=by
 refine .ofW W7 Tryz.func11 (by decide) rfl fun args H K h hB=>?_
 unfold tUpI at h
 split at h<;>try exact h.elim
 unfold arM at h
 split at h<;>try exact h.elim
 rename_i r k v _ rd fr nd ct us gn rl
 obtain⟨hs,t,h1,h2,h3,h4⟩:=h
 exact⟨aUpI,⟨frame C0.ok s_getT _,frame C0.ok s_hold _,frame C0.ok s_size _,frame C0.ok s_rIns _,frame C0.ok s_room _,frame C0.ok s_in _,trivial⟩,vc_upI ⟨us,gn,rl,fr,nd,ct,rd⟩ r k v K hs t h1 h2 h3 h4⟩
theorem getE_has {l:List Ent}{k v:Int}(h:getE l k=some v):hasK l k:=by
 induction l with
 | nil=>cases h
 | cons x l ih =>
  obtain⟨a,b⟩:=x
  unfold getE at h
  split at h
  ·rename_i e
   exact⟨b,by rw[← e];simp⟩
  ·obtain⟨w,hw⟩:=ih h
   exact⟨w,by simp[hw]⟩
theorem vc_upD (S:Arn)(r k:Int)(K:KT)(hs:List Int)(t:Tr)(hm:upM S hs t r)(h1:getE t.list k=none->∀ S' m,S'=rdS S m->m<=ht t->K (.tup [.at (vU 0),.at (vI 0),.at (vI 4)]) (chS S') W7)(h2:∀ v,getE t.list k=some v->S.free<4*(Hn t.size+2)->∀ S' m,S'=rdS S m->m<=ht t+1->K (.tup [.at (vU 0),.at (vI 0),.at (vI 2)]) (chS S') W7)(h3:∀ v,getE t.list k=some v->4*(Hn t.size+2)<=S.free->∀ S' j,TrR S hs (flt (neK k) t.list) (dB t.size) (5*dB t.size+ht t+1) S' j->K (.tup [.at (vU j),.at (vI v),.at (vI 0)]) (chS S') W7) :
  vc C0 aUpD Tryz.f63 [.at (.ptr 0 0),.at (vU r),.at (vI k)] (chS S) (normK 7 (wideK W7 K)):=by
 refine Eq.mp (show (∃ hs:List Int,∃ t:Tr,Wf S hs/\Rep S t r/\Asc t.list/\t.size<=1000000/\S.reads+(t.size:Int)<=3000000000000000000/\∀ S':Arn,∀ m:Nat,∀ o:Option Int,S'=rdS S m->m<=ht t->o=getE t.list k->brS (!o.isSome) (K (.tup [(.at (.val (VU 0))),(.at (.val (VI 0))),(.at (.val (VI 4)))]) [(.box [(.ptr 1 0),(.slc 2),(.slc 3),(.val (VW (S'.reads)))]),(.box [(.slc 4),(.slc 5),(.slc 6),(.val (VU (S'.fresh)))]),(.row true EC.node (S'.nodes)),(.row true EC.int (S'.counts)),(.row true EC.bool (S'.used)),(.row true EC.u32 (S'.gen)),(.row true EC.u32 (S'.rel))] [0,1,2,3,4,5,6]) (inU r/\exW S'/\S'.reads<4000000000000000000/\∀ S'1:Arn,S'1=(rdS S' (S'.us r).toNat)->0<=(S'.nd r).size/\(S'.nd r).size<=65536/\∀ p:Int,p=(4*(Hn ((S'.nd r).size+0)+2))->exW S'1/\∀ b:Bool,b=(decide (0<=p) && decide (p<=S'1.free))->brS (!b) (K (.tup [(.at (.val (VU 0))),(.at (.val (VI 0))),(.at (.val (VI 2)))]) [(.box [(.ptr 1 0),(.slc 2),(.slc 3),(.val (VW (S'1.reads)))]),(.box [(.slc 4),(.slc 5),(.slc 6),(.val (VU (S'1.fresh)))]),(.row true EC.node (S'1.nodes)),(.row true EC.int (S'1.counts)),(.row true EC.bool (S'1.used)),(.row true EC.u32 (S'1.gen)),(.row true EC.u32 (S'1.rel))] [0,1,2,3,4,5,6]) (live S'1 r/\exW S'1/\∀ S'2:Arn,S'2=retL S'1 r->∃ hs1:List Int,∃ t1:Tr,Wf S'2 (r::hs1)/\Rep S'2 t1 r/\t1.Bal/\Asc t1.list/\t1.size<=700000/\hasK t1.list k/\(↑(dB t1.size):Int)<=S'2.free/\hs1.length<=200000000/\S'2.reads+5*(↑(dB t1.size):Int)<=1500000000000000000/\∀ S'3:Arn,∀ j:Int,TrR S'2 hs1 (flt (neK k) t1.list) (dB t1.size) (5*dB t1.size) S'3 j->K (.tup [(.at (.val (VU (j)))),(.at (.val (VI (o.getD 0)))),(.at (.val (VI 0)))]) [(.box [(.ptr 1 0),(.slc 2),(.slc 3),(.val (VW (S'3.reads)))]),(.box [(.slc 4),(.slc 5),(.slc 6),(.val (VU (S'3.fresh)))]),(.row true EC.node (S'3.nodes)),(.row true EC.int (S'3.counts)),(.row true EC.bool (S'3.used)),(.row true EC.u32 (S'3.gen)),(.row true EC.u32 (S'3.rel))] [0,1,2,3,4,5,6])))=_ by kernel_rfl) ?_
 obtain⟨w,rp,bal,asc,sz,hl,rd⟩:=hm
 have hrd:=w.rds
 have hb:=Bal.height bal (by omega)
 have hH:=Hn_rng t.size
 have hi:=dB_Hn t.size
 refine⟨hs,t,w,rp,asc,by omega,by omega,fun S1 m o e1 hm1 eo=>?_⟩
 have wl:Wf S1 hs:=by rw[e1];exact w.rd (by omega)
 have rp1:Rep S1 t r:=by rw[e1];exact rep_rd rp m
 have lv:live S1 r:=rp1.us
 have q1:S1.reads=S.reads+m:=by rw[e1];rfl
 have f1:S1.free=S.free:=by rw[e1];rfl
 have z1:(S1.nd r).size=t.size:=rp1.size wl
 refine brS_of (fun c=>?_) fun c=>?_
 ·have c:o=none:=by simpa using c
  exact h1 (by rw[← eo,c]) S1 m e1 hm1
 obtain⟨v,ev⟩:=Option.isSome_iff_exists.1 (show o.isSome=true by simpa using c)
 subst ev
 have he:=eo.symm
 refine⟨inU_of wl lv,⟨hs,wl⟩,by omega,fun S2 e2=>?_⟩
 have hu:=us_one (S1.us r)
 have wl2:Wf S2 hs:=by rw[e2];exact wl.rd (by omega)
 have rp2:Rep S2 t r:=by rw[e2];exact rep_rd rp1 _
 have lv2:live S2 r:=rp2.us
 have f2:S2.free=S.free:=by rw[e2];exact f1
 have q2:S2.reads=S.reads+m+(S1.us r).toNat:=by rw[e2,← q1];rfl
 have gA:Got S hs 0 (ht t+1) S2 hs:=by
  rw[e2,e1,rdS_rdS]
  rw[e1] at hu
  exact (Got.rds w (by omega)).mono (by omega) (by omega)
 rw[z1,Int.add_zero]
 refine⟨by omega,by omega,fun p ep=>⟨⟨hs,wl2⟩,fun b eb=>brS_of (fun d2=>?_) fun d2=>?_⟩⟩
 ·have d2:b=false:=by simpa using d2
  rw[d2] at eb
  have hf:¬ p<=S2.free:=fun hp=>by
   rw[decide_eq_true hp,decide_eq_true (show 0<=p by omega)] at eb;cases eb
  exact h2 v he (by omega) S2 (m+(S1.us r).toNat) (by rw[e2,e1,rdS_rdS]) (by omega)
 ·have d2:b=true:=by simpa using d2
  rw[d2] at eb
  have hf:p<=S2.free:=by
   by_cases hp:p<=S2.free
   ·exact hp
   ·rw[decide_eq_false hp,Bool.and_false] at eb;cases eb
  refine⟨lv2,⟨hs,wl2⟩,fun S3 e3=>?_⟩
  have g3:=retL_got (hs:=hs) wl2 lv2 (by omega)
  rw[← e3] at g3
  have rp3:Rep S3 t r:=by rw[e3];exact rp2.retL
  have f3:S3.free=S2.free:=by rw[e3];exact retL_free _ _
  have q3:S3.reads=S2.reads:=by rw[e3];exact (retL_flds _ _).1
  refine⟨hs,t,g3.wf,rp3,bal,asc,by omega,getE_has he,by omega,by omega,by omega,fun S4 j tr=>h3 v he (by omega) S4 j ⟨?_,tr.tree⟩⟩
  exact ((gA.seq g3 (h:=hs) (fun _ h=>h) (fun _ h=>h)).seq tr.got (fun _ h=>h) (fun _ h=>h)).mono (by omega) (by omega)
theorem s_upD:SoundT C0 63 tUpD:=by
 refine .ofW W7 Tryz.func63 (by decide) rfl fun args H K h hB=>?_
 unfold tUpD at h
 split at h<;>try exact h.elim
 unfold arM at h
 split at h<;>try exact h.elim
 rename_i r k _ rd fr nd ct us gn rl
 obtain⟨hs,t,h1,h2,h3,h4⟩:=h
 exact⟨aUpD,⟨frame C0.ok s_getT _,frame C0.ok s_hold _,frame C0.ok s_size _,frame C0.ok s_rDel _,frame C0.ok s_room _,frame C0.ok s_de _,trivial⟩,vc_upD ⟨us,gn,rl,fr,nd,ct,rd⟩ r k K hs t h1 h2 h3 h4⟩
/-! ### Where there is room -/
theorem insE_same {l:List Ent}{k v:Int}(ha:Asc l)(h:getE l k=some v):insE l (k,v)=l :=
 Asc.ext (insE_asc _ ha) ha fun q=>by
  rw[insE_get _ ha]
  show (if k=q then some v else getE l q)=_
  split
  ·rename_i e;rw[← e,h]
  ·rfl
def tUpIn:Tfm C0:=fun args H K=>match args with
 | [.at (.ptr 0 0),.at (.val (.int .u32 r)),.agg [.val (.int .i64 k),.val (.int .i64 v)]]=>arM H fun S=>∃ hs t,upM S hs t r/\4*(Hn (t.size+1)+2)<=S.free ∧
  ∀ S' j (o:Option Int),o=getE t.list k->TrR S hs (insE t.list (k,v)) (iB t.size) (5*iB t.size+ht t+1) S' j->K (.tup [.at (vU j),.at (vI (o.getD 0)),.at (vB o.isSome),.at (vI 0)]) (chS S') W7
 | _=>False
theorem hold_tr {S S':Arn}{hs:List Int}{t:Tr}{r:Int}{m a b:Nat}{L:List Ent}(w:Wf S hs)(rp:Rep S t r)(bal:t.Bal)(hl:hs.length<=900000000)(hr:S.reads+m<=4000000000000000000)(e:S'=retL (rdS S m) r)(hb:m<=b)(hL:t.list=L):TrR S hs L a b S' r:=by
 have g:=Got.rds (hs:=hs) w hr
 have rp1:Rep (rdS S m) t r:=rep_rd rp m
 have g2:=retL_got (hs:=hs) g.wf rp1.us (by omega)
 rw[← e] at g2
 exact⟨(g.seq g2 (h:=hs) (fun _ h=>h) (fun _ h=>h)).mono (by omega) (by omega),t,by rw[e];exact rp1.retL,hL,bal⟩
theorem s_upIn:SoundT C0 11 tUpIn:=s_upI.weak fun args H K h=>by
 unfold tUpIn at h
 unfold tUpI
 split at h<;>try exact h.elim
 unfold arM at h ⊢
 split at h<;>try exact h.elim
 obtain⟨hs,t,hm,hf,h⟩:=h
 refine⟨hs,t,hm,fun he S' m e hm'=>?_,fun _ hf'=>absurd hf (by omega),fun _ _=>h⟩
 obtain⟨w,rp,bal,asc,sz,hl,rd⟩:=hm
 have hb:=Bal.height bal (by omega)
 have hH:=Hn_rng t.size
 exact h S' _ (some _) he.symm (hold_tr w rp bal (by omega) (by omega) e (by omega) (insE_same asc he).symm)
end Go.Proofs.YtedfbafngmicpaaGreat.Sx
end
section
/- Lists whose keys are numbers of the machine. No program in sight. -/
namespace Go.Proofs.YtedfbafngmicpaaGreat.Sx
open Go

def Kin (l:List Ent):Prop:=∀ x∈l, -9223372036854775808<=x.1/\x.1<=9223372036854775807
end Go.Proofs.YtedfbafngmicpaaGreat.Sx
end
section
/- How many slots can be reached: the bound for what set operations need. No program in sight. -/
namespace Go.Proofs.YtedfbafngmicpaaGreat
open Go

variable {S S' S1 S2:Arn} {hs h1 h2 hs1 hs2:List Int}

theorem countP_or {α:Type}(p q:α->Bool):∀ l:List α,l.countP (fun x=>p x || q x)<=l.countP p+l.countP q
 | []=>by simp
 | a::l=>by
  have ih:=countP_or p q l
  simp only[List.countP_cons]
  cases p a<;>cases q a<;>simp<;>omega
theorem countP_imp {α:Type}(p q:α->Bool):∀ l:List α,(∀ x∈l,p x=true->q x=true)->l.countP p<=l.countP q
 | [],_=>by simp
 | a::l,h=>by
  have ih:=countP_imp p q l fun x hx=>h x (List.mem_cons_of_mem _ hx)
  have h0:=h a (List.mem_cons_self ..)
  simp only[List.countP_cons]
  cases e:p a<;>cases f:q a<;>simp_all<;>omega
theorem countP_eqr (n:Nat)(a:Int):(List.range n).countP (fun i:Nat=>decide ((i:Int)=a))<=1:=by
 have h:=List.nodup_iff_count.1 (List.nodup_range (n:=n)) a.toNat
 refine Nat.le_trans (countP_imp _ (fun i=>i==a.toNat) _ fun x _ hx=>?_) h
 have:(x:Int)=a:=of_decide_eq_true hx
 simp;omega
theorem countP_mem (n:Nat):∀ L:List Int,(List.range n).countP (fun i:Nat=>decide ((i:Int)∈L))<=L.length
 | []=>by simp
 | a::L=>by
  have ih:=countP_mem n L
  have h1:=countP_eqr n a
  have h2:=countP_or (fun i:Nat=>decide ((i:Int)=a)) (fun i:Nat=>decide ((i:Int)∈L)) (List.range n)
  refine Nat.le_trans (countP_imp _ (fun i:Nat=>decide ((i:Int)=a) || decide ((i:Int)∈L)) _ fun x _ hx=>?_) (Nat.le_trans h2 (by simp;omega))
  have hx:=of_decide_eq_true hx
  rcases List.mem_cons.1 hx with e|e<;>simp[e]
theorem countP_range_getD:∀ (l:List Bool),l.countP id=(List.range l.length).countP (fun i=>l.getD i false):=by
 intro l
 conv=>lhs;rw[show l=(List.range l.length).map (fun i=>l.getD i false) from (List.ext_getElem (by simp) fun i h1 h2=>by simp[List.getD_eq_getElem?_getD,h1])]
 rw[List.countP_map];rfl

open Classical in
noncomputable def nuR (S:Arn)(hs:List Int):Nat:=(List.range S.used.length).countP fun i:Nat=>decide (Rch S hs (i:Int))
open Classical in
theorem nuR_le (h:∀ i:Int,Rch S hs1 i->Rch S' hs2 i)(hl:S.used.length=S'.used.length):nuR S hs1<=nuR S' hs2:=by
 unfold nuR
 rw[hl]
 exact countP_imp _ _ _ fun x _ hx=>decide_eq_true (h _ (of_decide_eq_true hx))
open Classical in
theorem Wf.nuR (w:Wf S hs):S.nu<=nuR S hs:=by
 unfold Arn.nu Proofs.YtedfbafngmicpaaGreat.nuR
 rw[countP_range_getD]
 refine countP_imp _ _ _ fun x _ hx=>decide_eq_true (w.reached ?_)
 unfold Arn.us;simpa using hx
theorem Rch.back (w:Wf S hs1)(w':Wf S' hs2)(hh:∀ i∈hs,i∈hs1)(st:Stay S S' hs){i:Int}(h:Rch S' hs i):Rch S hs i:=by
 have n0:S'.us 0=false:=w'.us0 (Int.le_refl 0)
 induction h with
 | root a b=>exact .root a ((w.held _ (hh _ a)).resolve_left fun e=>by rw[e,n0] at b;cases b)
 | left a b ih =>
  have e:=(st _ ih).2.1
  rw[e] at b ⊢
  exact .left ih ((w.kid _ ih.us).1.resolve_left fun e=>by rw[e,n0] at b;cases b)
 | right a b ih =>
  have e:=(st _ ih).2.1
  rw[e] at b ⊢
  exact .right ih ((w.kid _ ih.us).2.resolve_left fun e=>by rw[e,n0] at b;cases b)
theorem Got.nuR {m r:Nat}(g:Got S hs m r S' hs2)(w:Wf S hs1)(hh:∀ i∈hs,i∈hs1):nuR S' hs<=nuR S hs:=nuR_le (fun _ h=>h.back w g.wf hh g.stay) g.len
def inT (S:Arn):Tr->Int->List Int
 | .nil,_=>[]
 | .node l _ _ r,i=>i::(inT S l (S.nd i).left++inT S r (S.nd i).right)
theorem inT_len:∀ (t:Tr) (i:Int),(inT S t i).length=t.size
 | .nil,_=>rfl
 | .node l _ _ r,i=>by simp[inT,Tr.size,inT_len l,inT_len r];omega
theorem inT_root (h0:S.us 0=false){t:Tr}{i:Int}(h:Rep S t i)(hu:S.us i=true):i∈inT S t i:=by
 cases t with
 | nil=>have e:i=0:=h;rw[e,h0] at hu;cases hu
 | node l k v r=>simp[inT]
theorem inT_kid (h0:S.us 0=false):∀ {t:Tr} {i j:Int},Rep S t i->j∈inT S t i->(S.us (S.nd j).left=true->(S.nd j).left∈inT S t i)/\(S.us (S.nd j).right=true->(S.nd j).right∈inT S t i)
 | .nil,_,_,_,hj=>by simp[inT] at hj
 | .node l k v r,i,j,h,hj=>by
  obtain⟨_,_,_,h4,h5⟩:=h
  simp only[inT,List.mem_cons,List.mem_append] at hj ⊢
  rcases hj with rfl|hj|hj
  ·exact⟨fun hu=>.inr (.inl (inT_root h0 h4 hu)),fun hu=>.inr (.inr (inT_root h0 h5 hu))⟩
  ·obtain⟨a,b⟩:=inT_kid h0 h4 hj
   exact⟨fun hu=>.inr (.inl (a hu)),fun hu=>.inr (.inl (b hu))⟩
  ·obtain⟨a,b⟩:=inT_kid h0 h5 hj
   exact⟨fun hu=>.inr (.inr (a hu)),fun hu=>.inr (.inr (b hu))⟩
theorem rch_cons (h0:S.us 0=false){t:Tr}{x i:Int}(h:Rep S t x)(hr:Rch S (x::hs) i):Rch S hs i∨i∈inT S t x:=by
 induction hr with
 | root a b =>
  rcases List.mem_cons.1 a with rfl|a
  ·exact .inr (inT_root h0 h b)
  ·exact .inl (.root a b)
 | left a b ih=>exact ih.imp (fun c=>.left c b) fun c=>(inT_kid h0 h c).1 b
 | right a b ih=>exact ih.imp (fun c=>.right c b) fun c=>(inT_kid h0 h c).2 b
open Classical in
theorem nuR_cons (w:Wf S hs1){t:Tr}{x:Int}(h:Rep S t x):nuR S (x::hs)<=nuR S hs+t.size:=by
 unfold nuR
 have h0:S.us 0=false:=w.us0 (Int.le_refl 0)
 have h1:=countP_mem S.used.length (inT S t x)
 rw[inT_len] at h1
 have h2:=countP_or (fun i:Nat=>decide (Rch S hs (i:Int))) (fun i:Nat=>decide ((i:Int)∈inT S t x)) (List.range S.used.length)
 refine Nat.le_trans (countP_imp _ (fun i:Nat=>decide (Rch S hs (i:Int)) || decide ((i:Int)∈inT S t x)) _ fun i _ hi=>?_) (by omega)
 rcases rch_cons h0 h (of_decide_eq_true hi) with e|e<;>simp[e]
theorem free_two {x y:Int}(w:Wf S (x::y::hs)){t u:Tr}(h:Rep S t x)(h':Rep S u y):S.cap<=S.free+nuR S hs+t.size+u.size:=by
 have a:=w.free_nonneg.2.2.2
 have b:=w.nuR
 have c:=nuR_cons (hs:=y::hs) w h
 have d:=nuR_cons (hs:=hs) w h'
 omega
theorem Got.loose {m r:Nat}(g:Got S hs m r S' hs2):Got S hs 65537 r S' hs2:=⟨g.wf,g.stay,g.len,by have:=g.wf.nu_le;omega,g.rd0,g.rd⟩
theorem TrR.loose {m r:Nat}{L:List Ent}{i:Int}(g:TrR S hs L m r S' i):TrR S hs L 65537 r S' i:=⟨g.got.loose,g.tree⟩
end Go.Proofs.YtedfbafngmicpaaGreat
end
section
/- Set operations on ascending lists: one step at the key of the first tree's root. No program in sight. -/
namespace Go.Proofs.YtedfbafngmicpaaGreat
open Go

theorem getE_app (a b:List Ent)(q:Int):getE (a++b) q=(getE a q).or (getE b q):=by
 induction a with
 | nil=>simp[getE]
 | cons x a ih =>
  have e:∀ (l:List Ent),getE (x::l) q=if x.1=q then some x.2 else getE l q:=fun l=>rfl
  rw[List.cons_append,e,e]
  split
  ·rfl
  ·exact ih
theorem getE_no {l:List Ent}{q:Int}(h:∀ x∈l,x.1≠q):getE l q=none:=by
 induction l with
 | nil=>rfl
 | cons x l ih =>
  unfold getE
  rw[if_neg (h x (List.mem_cons_self ..)),ih fun y hy=>h y (List.mem_cons_of_mem _ hy)]
theorem getE_in {l:List Ent}{x:Ent}(h:x∈l):getE l x.1≠none:=by
 induction l with
 | nil=>cases h
 | cons y l ih =>
  unfold getE
  split
  ·simp
  ·rename_i c
   rcases List.mem_cons.1 h with rfl|h
   ·exact absurd rfl c
   ·exact ih h
theorem getE_some {l:List Ent}{q v:Int}(h:getE l q=some v):(q,v)∈l:=by
 induction l with
 | nil=>cases h
 | cons y l ih =>
  unfold getE at h
  split at h
  ·rename_i c;cases h;subst c;exact List.mem_cons_self ..
  ·exact List.mem_cons_of_mem _ (ih h)
theorem getE_flt (p:Int->Bool)(l:List Ent)(q:Int):getE (flt p l) q=if p q=true then getE l q else none:=by
 induction l with
 | nil=>simp[flt,getE]
 | cons x l ih =>
  have ih':getE (l.filter fun x=>p x.1) q=_:=ih
  unfold flt
  rw[List.filter_cons]
  conv=>rhs;unfold getE
  split
  ·rename_i c
   conv=>lhs;unfold getE
   rw[ih']
   by_cases e:x.1=q
   ·rw[if_pos e,if_pos (by rw[← e];exact c),if_pos e]
   ·rw[if_neg e,if_neg e]
  ·rename_i c
   rw[ih']
   by_cases e:x.1=q
   ·rw[if_neg (by rw[← e];exact c),if_neg (by rw[← e];exact c)]
   ·rw[if_neg e]
theorem flt_two (p q:Int->Bool)(h:∀ k,p k=true->q k=false)(l:List Ent):(flt p l).length+(flt q l).length<=l.length:=by
 induction l with
 | nil=>simp[flt]
 | cons x l ih =>
  unfold flt at *
  rw[List.filter_cons,List.filter_cons]
  have:=h x.1
  cases e:p x.1<;>cases e':q x.1<;>simp_all<;>omega

structure SetR (f:Option Int->Option Int->Option Int) (l m out:List Ent):Prop where
 asc:Asc out
 get:∀ k,getE out k=f (getE l k) (getE m k)
 len:out.length<=l.length+m.length
variable {f:Option Int->Option Int->Option Int} {a b m p q:List Ent} {k v:Int}
def ltB (key:Int)(q:Int):Bool:=decide (q<key)
def gtB (key:Int)(q:Int):Bool:=decide (key<q)
theorem SetR.low (h0:f none none=none)(hl:∀ x∈a,x.1<k)(h:SetR f a (flt (ltB k) m) p):∀ x∈p,x.1<k:=fun x hx=>by
 have e:=getE_in hx
 rw[h.get] at e
 cases ea:getE a x.1 with
 | some w=>exact hl (x.1,w) (getE_some ea)
 | none =>
  rw[ea,getE_flt] at e
  split at e
  ·rename_i c;exact of_decide_eq_true c
  ·exact absurd h0 e
theorem SetR.high (h0:f none none=none)(hl:∀ x∈b,k<x.1)(h:SetR f b (flt (gtB k) m) q):∀ x∈q,k<x.1:=fun x hx=>by
 have e:=getE_in hx
 rw[h.get] at e
 cases ea:getE b x.1 with
 | some w=>exact hl (x.1,w) (getE_some ea)
 | none =>
  rw[ea,getE_flt] at e
  split at e
  ·rename_i c;exact of_decide_eq_true c
  ·exact absurd h0 e
theorem SetR.step (h0:f none none=none)(hl:Asc (a++(k,v)::b))(hp:SetR f a (flt (ltB k) m) p)(hq:SetR f b (flt (gtB k) m) q) :
  (∀ w,f (some v) (getE m k)=some w->SetR f (a++(k,v)::b) m (p++(k,w)::q))/\(f (some v) (getE m k)=none->SetR f (a++(k,v)::b) m (p++q)):=by
 obtain⟨_,_,la,lb⟩:=asc_parts hl
 have lp:=hp.low h0 la
 have lq:=hq.high h0 lb
 have two:=flt_two (ltB k) (gtB k) (fun x hx=>by unfold ltB gtB at *;simp at *;omega) m
 have hpl:=hp.len
 have hql:=hq.len
 have pl:∀ r,r<k->getE p r=f (getE (a++(k,v)::b) r) (getE m r):=fun r hr=>by
  rw[hp.get,getE_left hl hr,getE_flt,if_pos (by simp[ltB,hr])]
 have pr:∀ r,k<r->getE q r=f (getE (a++(k,v)::b) r) (getE m r):=fun r hr=>by
  rw[hq.get,getE_right hl hr,getE_flt,if_pos (by simp[gtB,hr])]
 refine⟨fun w hw=>?_,fun hn=>?_⟩
 ·have ha:Asc (p++(k,w)::q):=asc_join hp.asc hq.asc lp lq
  refine⟨ha,fun r=>?_,by simp;omega⟩
  rcases Int.lt_trichotomy r k with c|c|c
  ·rw[getE_left ha c,pl r c]
  ·rw[c,getE_at ha,getE_at hl,hw]
  ·rw[getE_right ha c,pr r c]
 ·refine⟨Srt.append hp.asc hq.asc fun x hx y hy=>Int.lt_trans (lp x hx) (lq y hy),fun r=>?_,by simp;omega⟩
  rw[getE_app]
  rcases Int.lt_trichotomy r k with c|c|c
  ·rw[getE_no (l:=q) fun x hx=>by have:=lq x hx;omega,Option.or_none,pl r c]
  ·rw[c,getE_no (l:=q) fun x hx=>by have:=lq x hx;omega,getE_no (l:=p) fun x hx=>by have:=lp x hx;omega,getE_at hl,hn];rfl
  ·rw[getE_no (l:=p) fun x hx=>by have:=lp x hx;omega,Option.none_or,pr r c]
theorem SetR.left {l:List Ent}(ha:Asc l)(h:∀ x,f x none=x):SetR f l [] l:=⟨ha,fun k=>by simp[getE,h],by simp⟩
theorem SetR.right {l:List Ent}(ha:Asc l)(h:∀ x,f none x=x):SetR f [] l l:=⟨ha,fun k=>by simp[getE,h],by simp⟩
theorem SetR.same {l:List Ent}(ha:Asc l)(h:∀ x,f x x=x):SetR f l l l:=⟨ha,fun k=>by rw[h],by omega⟩
theorem SetR.none {l m:List Ent}(h:∀ k,f (getE l k) (getE m k)=none):SetR f l m []:=⟨Srt.nil,fun k=>by rw[h];rfl,by simp⟩
theorem SetR.ext {l m x y:List Ent}(h:SetR f l m x)(h':SetR f l m y):x=y:=Asc.ext h.asc h'.asc fun q=>by rw[h.get,h'.get]
end Go.Proofs.YtedfbafngmicpaaGreat
end
section
/- The recursion of the set operations: what each call finds. No program in sight. -/
namespace Go.Proofs.YtedfbafngmicpaaGreat
open Go

variable {S S' S1 S2 S3:Arn} {hs:List Int} {a b tx ty tl tr u w:Tr} {k v x y xl yl xr yr i j:Int} {N:Nat}

def rdW (N s:Nat):Nat:=(60*gN (N+1)+40)*s
theorem rdW_node (N a b:Nat):rdW N (a+b+1)=rdW N a+rdW N b+(60*gN (N+1)+40):=by unfold rdW;rw[Nat.mul_add,Nat.mul_add,Nat.mul_one]
def dW (N:Nat):Nat:=7*gN (N+1)+4
structure StM (S:Arn) (hs:List Int) (tx ty:Tr) (x y:Int) (N:Nat):Prop where
 wf:Wf S (x::y::hs)
 rx:Rep S tx x
 ry:Rep S ty y
 bx:tx.Bal
 bY:ty.Bal
 ax:Asc tx.list
 ay:Asc ty.list
 sz:tx.size+ty.size<=N
 big:N<=140000
 room:nuR S hs+tx.size+ty.size+dW N<=S.cap
 hl:hs.length+2*tx.size<=300000000
 rd:S.reads+rdW N tx.size<=1200000000000000000
theorem cap_len (h:S'.used.length=S.used.length):S'.cap=S.cap:=by unfold Arn.cap;rw[h]
theorem StM.free (h:StM S hs tx ty x y N):(dW N:Int)<=S.free:=by
 have e:=free_two h.wf h.rx h.ry
 have:=h.room
 omega
structure Mid (S0 S1:Arn) (hs:List Int) (a:Tr) (k v:Int) (b ty tl tr:Tr) (xl yl xr yr:Int) (N:Nat):Prop where
 h0:∃ x y,StM S0 hs (.node a k v b) ty x y N
 first:StM S1 (xr::yr::hs) a tl xl yl N
 rb:Rep S1 b xr
 rr:Rep S1 tr yr
 el:tl.list=flt (ltB k) ty.list
 er:tr.list=flt (gtB k) ty.list
 br:tr.Bal
 got:Got S0 hs 65537 (35*gN (N+1)+6) S1 (xl::yl::xr::yr::hs)
variable {f:Option Int->Option Int->Option Int} {L R:List Ent}
theorem Mid.fin {S0 S4:Arn}{q:Int}{M:List Ent}{mk rd:Nat}{hs3:List Int}(g:Got S0 hs 65537 (35*gN (N+1)+6+rdW N a.size+rdW N b.size) S3 hs3)(t:TrR S3 hs M mk rd S4 q)(hrd:rd<=20*gN (N+1)+20) :
  TrR S0 hs M 65537 (rdW N (Tr.node a k v b).size) S4 q:=by
 have zz:(Tr.node a k v b).size=a.size+b.size+1:=by simp[Tr.size];omega
 refine⟨((g.seq t.got (h:=hs) (fun _ h=>h) (fun _ h=>h)).mono (m':=65537+mk) (Nat.le_refl _) ?_).loose,t.tree⟩
 rw[zz,rdW_node];omega
open Classical in
theorem nuR_nu:nuR S hs<=S.nu:=by
 unfold Arn.nu nuR
 rw[countP_range_getD]
 refine countP_imp _ _ _ fun z _ hz=>?_
 have:=(of_decide_eq_true hz:Rch S hs (z:Int)).us
 unfold Arn.us at this
 simpa using this
theorem StM.start (w:Wf S hs)(rx:Rep S tx x)(ry:Rep S ty y)(bx:tx.Bal)(bY:ty.Bal)(ax:Asc tx.list)(ay:Asc ty.list)(sz:tx.size+ty.size<=140000)(hl:hs.length<=1000000)(rd:S.reads<=1000000000000000000)(need:(tx.size:Int)+ty.size+12*(Hn ((tx.size+ty.size:Nat):Int)+2)<=S.free) :
  StM (retL (retL S x) y) hs tx ty x y (tx.size+ty.size)/\Got S hs 0 0 (retL (retL S x) y) (x::y::hs):=by
 have g1:Got S hs 0 0 (retL S x) (x::hs):=retL_got w rx.us (by omega)
 have g2:Got (retL S x) hs 0 0 (retL (retL S x) y) (y::x::hs):=retL_got g1.wf (ry.retL (j:=x)).us (by simp;omega)
 have g:=((g1.seq g2 (h:=hs) (fun _ h=>h) (fun _ h=>h)).perm (List.Perm.swap x y hs))
 have n0:=g.nuR w (fun _ h=>h)
 have n1:=nuR_nu (S:=S) (hs:=hs)
 have c:=w.free_nonneg.2.2.2
 have ec:=cap_len g.len
 have gs:=gN_size (tx.size+ty.size)
 have g8:=gN_rng (tx.size+ty.size+1)
 have rr:=g.rd
 have lt:rdW (tx.size+ty.size) tx.size<=4840*140000:=by
  unfold rdW
  exact Nat.mul_le_mul (by omega) (by omega)
 refine⟨⟨g.wf,rx.retL.retL,ry.retL.retL,bx,bY,ax,ay,Nat.le_refl _,sz,?_,by omega,by omega⟩,g.mono (Nat.le_refl _) (Nat.le_refl _)⟩
 unfold dW;omega
end Go.Proofs.YtedfbafngmicpaaGreat
end
section
/- Trees that are held, with their entries: what is free. No program in sight. -/
namespace Go.Proofs.YtedfbafngmicpaaGreat.Sx
open Go

variable {S S':Arn} {hs:List Int}
def sumL (E:List (Int × List Ent)):Nat:=(E.map fun p=>p.2.length).sum
structure Hld (S:Arn) (E:List (Int × List Ent)):Prop where
 wf:Wf S (E.map Prod.fst)
 rep:∀ p∈E,∃ t,Rep S t p.1/\t.list=p.2/\t.Bal
 asc:∀ p∈E,Asc p.2
 kin:∀ p∈E,Kin p.2
theorem nuR_sum (w:Wf S hs):∀ E:List (Int × List Ent),(∀ p∈E,∃ t,Rep S t p.1/\t.list=p.2/\t.Bal)->nuR S (E.map Prod.fst)<=nuR S []+sumL E
 | [],_=>by simp[sumL]
 | p::E,h=>by
  obtain⟨t,rp,lt,_⟩:=h p (List.mem_cons_self ..)
  have a:=nuR_cons (hs:=E.map Prod.fst) w rp
  have b:=nuR_sum w E fun q hq=>h q (List.mem_cons_of_mem _ hq)
  have c:t.size=p.2.length:=by rw[← t.list_len,lt]
  rw[List.map_cons]
  unfold sumL at *
  rw[List.map_cons,List.sum_cons]
  omega
open Classical in
theorem nuR_nil (_:Wf S hs):nuR S []=0:=by
 unfold nuR
 refine List.countP_eq_zero.2 fun i _ hi=>?_
 have hr:Rch S [] (i:Int):=of_decide_eq_true hi
 clear hi
 generalize (i:Int)=j at hr
 induction hr with
 | root a _=>cases a
 | left _ _ ih=>exact ih
 | right _ _ ih=>exact ih
theorem Hld.room {E:List (Int × List Ent)}(h:Hld S E):S.cap<=S.free+sumL E:=by
 have a:=h.wf.free_nonneg.2.2.2
 have b:=h.wf.nuR
 have c:=nuR_sum h.wf E h.rep
 have d:=nuR_nil h.wf
 omega
theorem Hld.step {E:List (Int × List Ent)}{L:List Ent}{m r:Nat}{j:Int}(e:Hld S E)(tr:TrR S (E.map Prod.fst) L m r S' j)(ha:Asc L)(hk:Kin L):Hld S' ((j,L)::E) where
 wf:=tr.got.wf
 rep p hp:=by
  rcases List.mem_cons.1 hp with rfl|hp
  ·exact tr.tree
  ·obtain⟨t,rp,lt,bt⟩:=e.rep p hp
   exact⟨t,rp.held e.wf tr.got.stay (.inr (List.mem_map.2 ⟨p,hp,rfl⟩)),lt,bt⟩
 asc p hp:=by
  rcases List.mem_cons.1 hp with rfl|hp
  ·exact ha
  ·exact e.asc p hp
 kin p hp:=by
  rcases List.mem_cons.1 hp with rfl|hp
  ·exact hk
  ·exact e.kin p hp
theorem Hld.rd {E:List (Int × List Ent)}{n:Nat}(e:Hld S E)(h:S.reads+n<=4000000000000000000):Hld (rdS S n) E where
 wf:=e.wf.rd h
 rep p hp:=by
  obtain⟨t,rp,lt,bt⟩:=e.rep p hp
  exact⟨t,rp.rdn,lt,bt⟩
 asc:=e.asc
 kin:=e.kin
theorem Hld.ls {E:List (Int × List Ent)}{x:Int}{l:List Ent}(e:Hld S E)(hx:(x,l)∈E)(hl:l.length<=60000):∃ t,Rep S t x/\Asc t.list/\Kin t.list/\t.size<=60000/\t.list=l:=by
 obtain⟨t,rp,lt,_⟩:=e.rep _ hx
 have lt:t.list=l:=lt
 have sz:t.size=l.length:=by rw[← t.list_len,lt]
 exact⟨t,rp,by rw[lt];exact e.asc _ hx,by rw[lt];exact e.kin _ hx,by omega,lt⟩
theorem sumL_cons (j:Int)(L:List Ent)(E:List (Int × List Ent)):sumL ((j,L)::E)=L.length+sumL E:=by
 unfold sumL;rw[List.map_cons,List.sum_cons]
theorem tr_cap {L:List Ent}{m r:Nat}{j:Int}(tr:TrR S hs L m r S' j):S'.cap=S.cap:=cap_len tr.got.len
end Go.Proofs.YtedfbafngmicpaaGreat.Sx
end
section
/- Updates where there is room, whether the key is there or not; held trees that are given back. -/
namespace Go.Proofs.YtedfbafngmicpaaGreat.Sx
open Go

def UpdR (S:Arn)(hs:List Int)(t:Tr)(k:Int)(S':Arn)(j f:Int):Prop :=
 (getE t.list k=none/\f=4/\j=0/\∃ m,m<=ht t/\S'=rdS S m)∨(getE t.list k≠none/\f=0/\TrR S hs (flt (neK k) t.list) (dB t.size) (5*dB t.size+ht t+1) S' j)
def tUpDx:Tfm C0:=fun args H K=>match args with
 | [.at (.ptr 0 0),.at (.val (.int .u32 r)),.at (.val (.int .i64 k))]=>arM H fun S=>∃ hs t,upM S hs t r/\4*(Hn t.size+2)<=S.free ∧
  ∀ S' j v f,UpdR S hs t k S' j f->K (.tup [.at (vU j),.at (vI v),.at (vI f)]) (chS S') W7
 | _=>False
theorem s_upDx:SoundT C0 63 tUpDx:=s_upD.weak fun args H K h=>by
 unfold tUpDx at h
 unfold tUpD
 split at h<;>try exact h.elim
 unfold arM at h ⊢
 split at h<;>try exact h.elim
 obtain⟨hs,t,hm,hf,h⟩:=h
 exact⟨hs,t,hm,fun hn S' m e hm'=>h S' 0 0 4 (.inl ⟨hn,rfl,rfl,m,hm',e⟩),fun v' _ hf'=>absurd hf (by omega),fun v' he' _ S' j tr=>h S' j v' 0 (.inr ⟨by rw[he'];simp,rfl,tr⟩)⟩
variable {S S':Arn} {E:List (Int × List Ent)} {x:Int} {l:List Ent}
theorem Hld.drop (h:Hld S ((x,l)::E))(w:Wf S' (E.map Prod.fst))(kp:Kept S S'):Hld S' E where
 wf:=w
 rep p hp:=by
  obtain⟨t,rp,lt,bt⟩:=h.rep p (List.mem_cons_of_mem _ hp)
  have w0:Wf S (x::E.map Prod.fst):=h.wf
  have g:=rel_got w0 w kp
  exact⟨t,rp.held w0 g.stay (.inr (List.mem_map.2 ⟨p,hp,rfl⟩)),lt,bt⟩
 asc p hp:=h.asc p (List.mem_cons_of_mem _ hp)
 kin p hp:=h.kin p (List.mem_cons_of_mem _ hp)
theorem Hld.perm {E':List (Int × List Ent)}(h:Hld S E)(p:E.Perm E'):Hld S E' where
 wf:=h.wf.perm (p.map _)
 rep q hq:=h.rep q (p.mem_iff.2 hq)
 asc q hq:=h.asc q (p.mem_iff.2 hq)
 kin q hq:=h.kin q (p.mem_iff.2 hq)
end Go.Proofs.YtedfbafngmicpaaGreat.Sx
end
section
/- The trees of the laws of pack: forest. -/
namespace Go.Proofs.YtedfbafngmicpaaGreat.Sx
open Go

/-KEEP Wf exW inU allV live rdS Arn.cap Arn.free Rep Tr.size Tr.list Tr.Bal Asc Kin listE insE outE getE TrR UpdR Got Hn ht upM PlantR newS Hld RngS FoR RngL stpG enG rowG-/
abbrev stpG (l:List StpT)(i:Nat):StpT:=l.getD i ⟨0,(0,0),false,false⟩
abbrev enG (l:List Ent)(i:Nat):Ent:=l.getD i (0,0)
abbrev rowG (l:List (List Ent))(i:Nat):List Ent:=l.getD i []
def RngS (l:List StpT):Prop:=∀ s∈l,rngI s.at_/\rngI s.ent.1/\rngI s.ent.2
structure FoR (sp:Int) (S:Arn) (rs:List Int) (ll:List (List Ent)):Prop where
 hld:Hld S (rs.zip ll)
 len:rs.length=ll.length
 one:1<=rs.length/\rs.length<=7
 ls:∀ L∈ll,L.length<=36/\RngL L
 rd:S.reads<=1000000
 fr:sp<=S.free
structure XFo (P:Arn->List Int->List (List Ent)->Nat->Prop) where
 S:Arn
 rs:List Int
 ll:List (List Ent)
 k:Nat
 h:P S rs ll k
abbrev hfO (raw:List Ent)(l:List StpT)(L0:List Ent)(S:Arn)(rs:List Int)(ll:List (List Ent)):List (Chunk C0):=[.row false EC.ent raw,.row false EC.stp l]++chSk 2 S++[.row false EC.ent L0,.row true EC.u32 rs,.rows EC.hent EC.ent ll]
noncomputable def aFo (P:Arn->List Int->List (List Ent)->Nat->Prop)(raw:List Ent)(l:List StpT)(L0:List Ent)(n:Nat):Ann C0:={ quiet:=[9999999,8,64,18],Γ:=[(62,frameT [] tLst),(14,frameT [] (tRes1 4 1)),(9,frameT [] tGrow),(8,frameT [] tMod),(40,frameT [] tPlantA),(63,frameT [] tUpDx),(64,frameT [] tDel),(11,frameT [] tUpIn),(18,frameT [] tIns)],inv:=fun m=>match m with
 | 8=>some { X:=XFo P,sl:=[12,14,17,18,19],tf:=fun x=>[.one (.at (.slc 9)),.one (.at (.ptr 2 0)),.one (.at (.slc 10)),.one (.at (.slc 11)),vi .i64 x.k],hf:=fun x=>hfO raw l L0 x.S x.rs x.ll,μ:=fun x=>n-x.k }
 | _=>none }
abbrev chF (raw:List Ent)(l:List StpT)(S:Arn)(rs:List Int)(ll:List (List Ent)):List (Chunk C0):=[.row false EC.ent raw,.row false EC.stp l,.box [.ptr 5 0,.slc 6,.slc 7,vU64 S.reads],.row true EC.u32 rs,.rows EC.hent EC.ent ll,.box [.slc 8,.slc 9,.slc 10,vU S.fresh],.row true EC.node S.nodes,.row true EC.int S.counts,.row true EC.bool S.used,.row true EC.u32 S.gen,.row true EC.u32 S.rel]
def tFo:Tfm C0:=fun args H K=>match args,H with
 | [.at (.slc 0),.at (.val (.int .u64 t)),.at (.slc 1),.at (.val (.int .i64 sp))],[.row false .ent raw,.row false .stp l]=>0<=t/\1<=sp/\sp<=1000/\RngL raw/\RngS l/\∀ S rs ll,FoR sp S rs ll->K (.tup [.at (.ptr 2 0),.at (.slc 3),.at (.slc 4),.at (vB true)]) (chF raw l S rs ll) []
 | _,_=>False

theorem ht_sz8:∀ t:Tr,ht t<=t.size
 | .nil=>Nat.le_refl _
 | .node l k v r=>by
  have:=ht_sz8 l;have:=ht_sz8 r
  rw[ht]
  show _<=1+l.size+r.size
  split<;>omega
theorem Hn_up (n:Nat):∀ d:Nat,Hn (n:Int)<=Hn ((n+d:Nat):Int)
 | 0=>Int.le_refl _
 | d+1=>by
  have a:=Hn_up n d
  have b:=Hn_mono1 (n+d)
  rw[show ((n+(d+1):Nat):Int)=((n+d:Nat):Int)+1 by omega]
  omega
theorem Hn_leq {n m:Nat}(h:n<=m):Hn (n:Int)<=Hn (m:Int):=by
 have:=Hn_up n (m-n)
 rwa [show n+(m-n)=m by omega] at this
theorem outE_flt8 (l:List Ent)(k:Int):outE l k k=flt (neK k) l:=by
 unfold outE flt neK
 congr 1
 funext x
 by_cases h:x.1=k
 ·simp[h]
 ·rw[decide_eq_true (show x.1≠k from h)]
  simp;omega
theorem listE_sub8 (raw:List Ent)(n:Nat):∀ x∈listE raw n,x∈raw:=by
 have key:∀ (l acc:List Ent),Asc acc->∀ x∈l.foldl insE acc,x∈acc∨x∈l:=by
  intro l
  induction l with
  | nil=>intro acc _ x hx;exact .inl hx
  | cons a l ih =>
   intro acc ha x hx
   rcases ih (insE acc a) (insE_asc a ha) x hx with h|h
   ·rcases insE_mem ha h with h|h
    ·exact .inr (by simp[h])
    ·exact .inl h
   ·exact .inr (by simp[h])
 intro x hx
 unfold listE at hx
 rcases key (raw.take n) [] (by simp[Srt]) x hx with h|h
 ·simp at h
 ·exact List.mem_of_mem_take h
structure FoI (sp:Int) (L0:List Ent) (n:Nat) (p:Int) (S:Arn) (rs:List Int) (ll:List (List Ent)) (k:Nat):Prop where
 kn:k<=n
 n6:n<=6
 l30:L0.length<=30
 lr:rs.length=k+1
 lL:ll.length=k+1
 hld:Hld S (rs.zip ll)
 ls:∀ L∈ll,L.length<=L0.length+k/\RngL L
 rd:S.reads<=20000*k
 cap:S.cap=(L0.length:Int)+1+((n:Int)+1)*(p+((L0.length:Int)+n))+sp
section
variable {sp p:Int} {L0:List Ent} {n:Nat} {S S':Arn} {rs:List Int} {ll:List (List Ent)} {k:Nat}
theorem zip_fst (h:rs.length=ll.length):(rs.zip ll).map Prod.fst=rs:=List.map_fst_zip (by omega)
theorem sumL_zip {c:Nat}:∀ {rs:List Int} {ll:List (List Ent)},(∀ L∈ll,L.length<=c)->sumL (rs.zip ll)<=ll.length*c
 | [],ll,_=>by simp[sumL]
 | r::rs,[],_=>by simp[sumL]
 | r::rs,L::ll,h=>by
  have a:=sumL_zip (rs:=rs) fun x hx=>h x (List.mem_cons_of_mem L hx)
  have b:=h L (by simp)
  rw[List.zip_cons_cons,sumL_cons,List.length_cons,Nat.succ_mul]
  show L.length+_<=_
  omega
theorem FoI.eq (h:FoI sp L0 n p S rs ll k):rs.length=ll.length:=by have:=h.lr;have:=h.lL;omega
theorem FoI.mem (h:FoI sp L0 n p S rs ll k){i:Nat}(hi:i<rs.length):(rs.getD i 0,rowG ll i)∈rs.zip ll:=by
 have e:=h.eq
 refine List.mem_iff_getElem?.2 ⟨i,?_⟩
 rw[List.getElem?_zip_eq_some]
 refine⟨?_,?_⟩
 ·rw[List.getD_eq_getElem?_getD,List.getElem?_eq_getElem hi];rfl
 ·show ll[i]?=some (ll.getD i [])
  rw[List.getD_eq_getElem?_getD,List.getElem?_eq_getElem (e ▸ hi)];rfl
theorem FoI.row (h:FoI sp L0 n p S rs ll k){i:Nat}(hi:i<rs.length):rowG ll i∈ll:=by
 have e:=h.eq
 show ll.getD i []∈ll
 rw[List.getD_eq_getElem?_getD,List.getElem?_eq_getElem (e ▸ hi)]
 exact List.getElem_mem _
theorem FoI.room (h:FoI sp L0 n p S rs ll k):(sumL (rs.zip ll):Int)<=((k:Int)+1)*((L0.length:Int)+k)/\S.cap<=S.free+sumL (rs.zip ll):=by
 have a:=sumL_zip (rs:=rs) (ll:=ll) (c:=L0.length+k) fun L hL=>(h.ls L hL).1
 rw[h.lL] at a
 refine⟨?_,h.hld.room⟩
 have b:((sumL (rs.zip ll):Nat):Int)<=(((k+1)*(L0.length+k):Nat):Int):=by exact_mod_cast a
 rw[Int.natCast_mul] at b
 exact_mod_cast b
theorem FoI.space (h:FoI sp L0 n p S rs ll k)(hp:0<=p)(hk:k<n):p+((L0.length:Int)+n)+1+sp<=S.free:=by
 obtain⟨a,b⟩:=h.room
 have c:=h.cap
 have d:((k:Int)+1)*((L0.length:Int)+k)<=(n:Int)*((L0.length:Int)+n):=Int.mul_le_mul (by omega) (by omega) (by omega) (by omega)
 have e:((n:Int)+1)*(p+((L0.length:Int)+n))=(n:Int)*p+p+((n:Int)*((L0.length:Int)+n)+((L0.length:Int)+n)):=by
  rw[Int.mul_add,Int.add_mul,Int.add_mul,Int.one_mul,Int.one_mul]
 have f:0<=(n:Int)*p:=Int.mul_nonneg (by omega) hp
 omega
theorem FoI.done (h:FoI sp L0 n p S rs ll n)(hp:0<=p)(_:0<=sp):FoR sp S rs ll:=by
 obtain⟨a,b⟩:=h.room
 have c:=h.cap
 have e:((n:Int)+1)*(p+((L0.length:Int)+n))=((n:Int)+1)*p+((n:Int)+1)*((L0.length:Int)+n):=Int.mul_add _ _ _
 have f:0<=((n:Int)+1)*p:=Int.mul_nonneg (by omega) hp
 have:=h.n6;have:=h.lr;have:=h.l30;have:=h.rd
 exact⟨h.hld,h.eq,by omega,fun L hL=>⟨by have:=(h.ls L hL).1;omega,(h.ls L hL).2⟩,by omega,by omega⟩
theorem FoI.go (h:FoI sp L0 n p S rs ll k)(hk:k<n){L:List Ent}{m r:Nat}{j:Int}(tr:TrR S rs L m r S' j)(asc:Asc L)(hl:L.length<=L0.length+(k+1))(rg:RngL L)(hr:r<=20000):FoI sp L0 n p S' (rs++[j]) (ll++[L]) (k+1):=by
 have tr':TrR S ((rs.zip ll).map Prod.fst) L m r S' j:=by rw[zip_fst h.eq];exact tr
 have hh:=h.hld.step tr' asc fun x hx=>(rg x hx).1
 refine⟨hk,h.n6,h.l30,by rw[List.length_append,h.lr];rfl,by rw[List.length_append,h.lL];rfl,?_,fun M hM=>?_,?_,?_⟩
 ·rw[List.zip_append h.eq]
  exact hh.perm (List.perm_append_singleton _ _).symm
 ·rcases List.mem_append.1 hM with c|c
  ·have:=h.ls M c
   exact⟨by omega,this.2⟩
  ·rw[List.mem_singleton.1 c];exact⟨hl,rg⟩
 ·have a:=tr.got.rd
  have:=h.rd
  omega
 ·rw[tr_cap tr];exact h.cap
theorem FoI.up (h:FoI sp L0 n p S rs ll k){i:Nat}(hi:i<rs.length):∃ t,upM S rs t (rs.getD i 0)/\t.list=rowG ll i/\t.size=(rowG ll i).length/\t.size<=L0.length+k:=by
 have hm:=h.mem hi
 have hl:=h.ls _ (h.row hi)
 obtain⟨t,r,e,b⟩:=h.hld.rep _ hm
 have sz:t.size=(rowG ll i).length:=by rw[← t.list_len,e]
 have n6:=h.n6;have kn:=h.kn;have l30:=h.l30;have rd:=h.rd;have lr:=h.lr
 have w:=h.hld.wf
 rw[zip_fst h.eq] at w
 refine⟨t,⟨w,r,b,by rw[e];exact h.hld.asc _ hm,by omega,by omega,by omega⟩,e,sz,by omega⟩
end
theorem getE_inX {l:List Ent}(h:Asc l){e:Ent}(he:e∈l):getE l e.1=some e.2:=by
 obtain⟨a,b,rfl⟩:=List.append_of_mem he
 exact getE_at h
theorem iB_fit {n q:Nat}(h:n<=q):4*(Hn ((n:Int)+1)+2)<=4*(Hn ((q:Int)+1)+2):=by
 have:=Hn_leq (show n+1<=q+1 by omega)
 rw[show ((n+1:Nat):Int)=(n:Int)+1 by omega,show ((q+1:Nat):Int)=(q:Int)+1 by omega] at this
 omega
theorem vc_fo (raw:List Ent)(l:List StpT)(t sp:Int)(K:KT)(ht0:0<=t)(s1:1<=sp)(s2:sp<=1000)(hraw:RngL raw)(hl:RngS l)(h:∀ S rs ll,FoR sp S rs ll->K (.tup [.at (.ptr 2 0),.at (.slc 3),.at (.slc 4),.at (vB true)]) (chF raw l S rs ll) []) :
  vc C0 (aFo (FoI sp (listE raw 30) (min l.length 6) (4*(Hn (((listE raw 30).length:Int)+(min l.length 6:Nat)+1)+2))) raw l (listE raw 30) (min l.length 6)) Tryz.f19 [.at (.slc 0),.at (vU64 t),.at (.slc 1),.at (vI sp)] [.row false EC.ent raw,.row false EC.stp l] (normK 2 K):=by
 generalize hP:FoI sp (listE raw 30) (min l.length 6) (4*(Hn (((listE raw 30).length:Int)+(min l.length 6:Nat)+1)+2))=P
 generalize hL0:listE raw 30=L0
 generalize hn:min l.length 6=n
 refine Eq.mp (show ((0:Int)<=30/\(30:Int)<=1000000/\0<=IntKind.i64.wrap ((↑(listE raw (Int.toNat 30)).length:Int)+if 6<(l.length:Int) then 6 else (l.length:Int))/\IntKind.i64.wrap ((↑(listE raw (Int.toNat 30)).length:Int)+if 6<(l.length:Int) then 6 else (l.length:Int))<=65536/\∀ p:Int,p=(4*(Hn (IntKind.i64.wrap ((↑(listE raw (Int.toNat 30)).length:Int)+if 6<(l.length:Int) then 6 else (l.length:Int))+1)+2))->0<=t/\1<=IntKind.i64.wrap (IntKind.i64.wrap (1+IntKind.i64.wrap (IntKind.i64.wrap ((if 6<(l.length:Int) then 6 else (l.length:Int))+1)*IntKind.i64.wrap (IntKind.i64.wrap (p+(↑(listE raw (Int.toNat 30)).length:Int))+if 6<(l.length:Int) then 6 else (l.length:Int))))+sp)/\IntKind.i64.wrap (IntKind.i64.wrap (1+IntKind.i64.wrap (IntKind.i64.wrap ((if 6<(l.length:Int) then 6 else (l.length:Int))+1)*IntKind.i64.wrap (IntKind.i64.wrap (p+(↑(listE raw (Int.toNat 30)).length:Int))+if 6<(l.length:Int) then 6 else (l.length:Int))))+sp)<=30000/\(listE raw (Int.toNat 30)).length<=30000/\∀ S':Arn,∀ i:Int,PlantR (newS ((↑(listE raw (Int.toNat 30)).length:Int)+IntKind.i64.wrap (IntKind.i64.wrap (1+IntKind.i64.wrap (IntKind.i64.wrap ((if 6<(l.length:Int) then 6 else (l.length:Int))+1)*IntKind.i64.wrap (IntKind.i64.wrap (p+(↑(listE raw (Int.toNat 30)).length:Int))+if 6<(l.length:Int) then 6 else (l.length:Int))))+sp)).toNat) [] (listE raw (Int.toNat 30)) S' i->(∃ x:XFo P,True/\(VW (t)=VW (t)/\True/\True/\(VI (if 6<(l.length:Int) then 6 else (l.length:Int)))=(VI (if 6<(l.length:Int) then 6 else (l.length:Int)))/\
 True/\True/\True/\VI 0=(VI (x.k:Int))/\True)/\raw=raw/\l=l/\(True/\True/\True/\VW (S'.reads)=VW (x.S.reads)/\True)/\(True/\True/\True/\VU (S'.fresh)=VU (x.S.fresh)/\True)/\S'.nodes=x.S.nodes/\S'.counts=x.S.counts/\S'.used=x.S.used/\S'.gen=x.S.gen/\S'.rel=x.S.rel/\(listE raw (Int.toNat 30))=L0/\[(i)]=x.rs/\[(listE raw (Int.toNat 30))]=x.ll/\True)/\∀ x:XFo P,True->brS (decide ((x.k:Int)<if 6<(l.length:Int) then 6 else (l.length:Int))) (0<=(x.k:Int)/\(x.k:Int)<(l.length:Int)/\0<(x.rs.length:Int)/\(x.rs.length:Int)<=9223372036854775807/\∀ x1:Int,x1=((stpG l (x.k:Int).toNat).at_ % (x.rs.length:Int))->0<=x1/\x1<(x.ll.length:Int)/\0<=(x.k:Int)/\(x.k:Int)<(l.length:Int)/\brS ((stpG l (x.k:Int).toNat).fresh) (∃ hs:List Int,Wf x.S hs/\(rowG x.ll x1.toNat).length<=100000/\(↑(rowG x.ll x1.toNat).length:Int)<=x.S.free/\hs.length+(rowG x.ll x1.toNat).length<=900000000/\0<=IntKind.u64.wrap (IntKind.u64.wrap (t*5)+IntKind.u64.wrap (x.k:Int))/\∀ S'1:Arn,∀ i1:Int,PlantR x.S hs (rowG x.ll x1.toNat) S'1 i1->(x.rs.length+[i1].length)*bytesOf C0 EC.u32<=140737488355328/\(x.ll.length+[rowG x.ll x1.toNat].length)*bytesOf C0 EC.hent<=140737488355328/\∃ x':XFo P,True/\((VW (t)=VW (t)/\True/\True/\(VI (if 6<(l.length:Int) then 6 else (l.length:Int)))=(VI (if 6<(l.length:Int) then 6 else (l.length:Int)))/\True/\True/\True/\(VI (IntKind.i64.wrap ((x.k:Int)+1)))=(VI (x'.k:Int))/\True)/\raw=raw/\l=l/\(True/\True/\True/\VW (S'1.reads)=VW (x'.S.reads)/\True)/\(True/\True/\True/\VU (S'1.fresh)=VU (x'.S.fresh)/\
 True)/\S'1.nodes=x'.S.nodes/\S'1.counts=x'.S.counts/\S'1.used=x'.S.used/\S'1.gen=x'.S.gen/\S'1.rel=x'.S.rel/\L0=L0/\(x.rs++[i1])=x'.rs/\(x.ll++[rowG x.ll x1.toNat])=x'.ll/\True)/\n-x'.k<n-x.k) (0<=(x.k:Int)/\(x.k:Int)<(l.length:Int)/\brS ((stpG l (x.k:Int).toNat).del) (brS (decide ((↑(rowG x.ll x1.toNat).length:Int)>0)) (0<=(x.k:Int)/\(x.k:Int)<(l.length:Int)/\0<(↑(rowG x.ll x1.toNat).length:Int)/\(↑(rowG x.ll x1.toNat).length:Int)<=9223372036854775807/\∀ x2:Int,x2=((stpG l (x.k:Int).toNat).at_ % (↑(rowG x.ll x1.toNat).length:Int))->0<=x2/\x2<(↑(rowG x.ll x1.toNat).length:Int)/\0<=x1/\x1<(x.rs.length:Int)/\∃ hs:List Int,∃ t1:Tr,upM x.S hs t1 (x.rs.getD x1.toNat 0)/\4*(Hn (t1.size:Int)+2)<=x.S.free/\∀ S'1:Arn,∀ j:Int,∀ v:Int,∀ f:Int,UpdR x.S hs t1 (enG (rowG x.ll x1.toNat) x2.toNat).fst S'1 j f->(rowG x.ll x1.toNat).length<=1000000/\brS (f != 0) (K (.tup [(.at (.val (Value.pointer none))),(.at (.slc 2)),(.at (.slc 3)),(.at (.val (Value.bool false)))]) [(.row false EC.ent (raw)),(.row false EC.stp (l)),(.row true EC.u32 []),(Chunk.rows EC.hent EC.ent [])] []) ((x.rs.length+[j].length)*bytesOf C0 EC.u32<=140737488355328/\(x.ll.length+[outE (rowG x.ll x1.toNat) (enG (rowG x.ll x1.toNat) x2.toNat).fst (enG (rowG x.ll x1.toNat) x2.toNat).fst].length)*bytesOf C0 EC.hent<=140737488355328/\∃ x':XFo P,True/\((VW (t)=VW (t)/\True/\True/\(VI (if 6<(l.length:Int) then 6 else (l.length:Int)))=(VI (if 6<(l.length:Int) then 6 else (l.length:Int)))/\True/\True/\True/\(VI (IntKind.i64.wrap ((x.k:Int)+1)))=(VI (x'.k:Int))/\
 True)/\raw=raw/\l=l/\(True/\True/\True/\VW (S'1.reads)=VW (x'.S.reads)/\True)/\(True/\True/\True/\VU (S'1.fresh)=VU (x'.S.fresh)/\True)/\S'1.nodes=x'.S.nodes/\S'1.counts=x'.S.counts/\S'1.used=x'.S.used/\S'1.gen=x'.S.gen/\S'1.rel=x'.S.rel/\L0=L0/\(x.rs++[j])=x'.rs/\(x.ll++[outE (rowG x.ll x1.toNat) (enG (rowG x.ll x1.toNat) x2.toNat).fst (enG (rowG x.ll x1.toNat) x2.toNat).fst])=x'.ll/\True)/\n-x'.k<n-x.k)) (0<=x1/\x1<(x.rs.length:Int)/\0<=(x.k:Int)/\(x.k:Int)<(l.length:Int)/\∃ hs:List Int,∃ t1:Tr,upM x.S hs t1 (x.rs.getD x1.toNat 0)/\4*(Hn ((t1.size:Int)+1)+2)<=x.S.free/\∀ S'1:Arn,∀ j:Int,∀ o:Option Int,o=(getE t1.list (stpG l (x.k:Int).toNat).ent.fst)->TrR x.S hs (insE t1.list (stpG l (x.k:Int).toNat).ent) (iB t1.size) (5*iB t1.size+ht t1+1) S'1 j->0<=(x.k:Int)/\(x.k:Int)<(l.length:Int)/\(rowG x.ll x1.toNat).length<=1000000/\(x.rs.length+[j].length)*bytesOf C0 EC.u32<=140737488355328/\(x.ll.length+[insE (rowG x.ll x1.toNat) (stpG l (x.k:Int).toNat).ent].length)*bytesOf C0 EC.hent<=140737488355328/\∃ x':XFo P,True/\((VW (t)=VW (t)/\True/\True/\(VI (if 6<(l.length:Int) then 6 else (l.length:Int)))=(VI (if 6<(l.length:Int) then 6 else (l.length:Int)))/\True/\True/\True/\(VI (IntKind.i64.wrap ((x.k:Int)+1)))=(VI (x'.k:Int))/\True)/\raw=raw/\l=l/\(True/\True/\True/\VW (S'1.reads)=VW (x'.S.reads)/\True)/\(True/\True/\True/\VU (S'1.fresh)=VU (x'.S.fresh)/\True)/\S'1.nodes=x'.S.nodes/\S'1.counts=x'.S.counts/\S'1.used=x'.S.used/\S'1.gen=x'.S.gen/\S'1.rel=x'.S.rel/\L0=L0/\(x.rs++[j])=x'.rs/\
 (x.ll++[insE (rowG x.ll x1.toNat) (stpG l (x.k:Int).toNat).ent])=x'.ll/\True)/\n-x'.k<n-x.k)) (0<=x1/\x1<(x.rs.length:Int)/\0<=(x.k:Int)/\(x.k:Int)<(l.length:Int)/\∃ hs:List Int,∃ t1:Tr,upM x.S hs t1 (x.rs.getD x1.toNat 0)/\4*(Hn ((t1.size:Int)+1)+2)<=x.S.free/\∀ S'1:Arn,∀ j:Int,∀ o:Option Int,o=(getE t1.list (stpG l (x.k:Int).toNat).ent.fst)->TrR x.S hs (insE t1.list (stpG l (x.k:Int).toNat).ent) (iB t1.size) (5*iB t1.size+ht t1+1) S'1 j->0<=(x.k:Int)/\(x.k:Int)<(l.length:Int)/\(rowG x.ll x1.toNat).length<=1000000/\(x.rs.length+[j].length)*bytesOf C0 EC.u32<=140737488355328/\(x.ll.length+[insE (rowG x.ll x1.toNat) (stpG l (x.k:Int).toNat).ent].length)*bytesOf C0 EC.hent<=140737488355328/\∃ x':XFo P,True/\((VW (t)=VW (t)/\True/\True/\(VI (if 6<(l.length:Int) then 6 else (l.length:Int)))=(VI (if 6<(l.length:Int) then 6 else (l.length:Int)))/\True/\True/\True/\(VI (IntKind.i64.wrap ((x.k:Int)+1)))=(VI (x'.k:Int))/\True)/\raw=raw/\l=l/\(True/\True/\True/\VW (S'1.reads)=VW (x'.S.reads)/\True)/\(True/\True/\True/\VU (S'1.fresh)=VU (x'.S.fresh)/\True)/\S'1.nodes=x'.S.nodes/\S'1.counts=x'.S.counts/\S'1.used=x'.S.used/\S'1.gen=x'.S.gen/\S'1.rel=x'.S.rel/\L0=L0/\(x.rs++[j])=x'.rs/\(x.ll++[insE (rowG x.ll x1.toNat) (stpG l (x.k:Int).toNat).ent])=x'.ll/\True)/\n-x'.k<n-x.k))) (K (.tup [(.at (.ptr 2 0)),(.at (.slc 3)),(.at (.slc 4)),(.at (.val (Value.bool true)))]) [(.row false EC.ent (raw)),(.row false EC.stp (l)),(.box [(.ptr 5 0),(.slc 6),(.slc 7),(.val (VW (x.S.reads)))]),(.row true EC.u32 (x.rs)),(Chunk.rows EC.hent EC.ent (x.ll)),(.box [(.slc 8),(.slc 9),(.slc 10),(.val (VU (x.S.fresh)))]),(.row true EC.node (x.S.nodes)),(.row true EC.int (x.S.counts)),(.row true EC.bool (x.S.used)),(.row true EC.u32 (x.S.gen)),(.row true EC.u32 (x.S.rel))] []))=_ by kernel_rfl) ?_
 subst hP
 rw[show Int.toNat 30=30 from rfl]
 have en:(if 6<(l.length:Int) then 6 else (l.length:Int))=(n:Int):=by rw[← hn];split<;>omega
 rw[en,hn,hL0]
 have n6:n<=6:=by omega
 have nl:n<=l.length:=by omega
 obtain⟨la,l30⟩:=listE_spec raw 30
 have rL:RngL L0:=fun x hx=>hraw x (listE_sub8 raw 30 x (hL0 ▸ hx))
 rw[hL0] at la l30
 have hH:=Hn_rng ((L0.length:Int)+n+1)
 rw[wrap_id (x:=(L0.length:Int)+(n:Int)) (by omega) (by omega)]
 generalize ep:4*(Hn ((L0.length:Int)+n+1)+2)=p at *
 have p1:8<=p:=by omega
 have p2:p<=328:=by omega
 refine⟨by decide,by decide,by omega,by omega,fun p' ep'=>?_⟩
 rw[ep']
 have m0:0<=((n:Int)+1)*(p+L0.length+n):=Int.mul_nonneg (by omega) (by omega)
 have m1:((n:Int)+1)*(p+L0.length+n)<=7*364:=Int.mul_le_mul (by omega) (by omega) (by omega) (by omega)
 rw[wrap_id (x:=(n:Int)+1) (by omega) (by omega),wrap_id (x:=p+(L0.length:Int)) (by omega) (by omega),wrap_id (x:=p+(L0.length:Int)+n) (by omega) (by omega),wrap_id (x:=((n:Int)+1)*(p+L0.length+n)) (by omega) (by omega),wrap_id (x:=1+((n:Int)+1)*(p+L0.length+n)) (by omega) (by omega),wrap_id (x:=1+((n:Int)+1)*(p+L0.length+n)+sp) (by omega) (by omega)]
 refine⟨ht0,by omega,by omega,by omega,fun S i pl=>⟨⟨⟨S,[i],[L0],0,?_⟩,trivial,?_⟩,fun x _=>brS_of (fun y=>?_) fun y=>?_⟩⟩
 ·have g:Hld S ([i].zip [L0]):=by
   refine⟨pl.wf,fun q hq=>?_,fun q hq=>?_,fun q hq=>?_⟩
   ·rw[List.mem_singleton.1 hq];exact pl.rep
   ·rw[List.mem_singleton.1 hq];exact la
   ·rw[List.mem_singleton.1 hq];exact fun z hz=>(rL z hz).1
  refine⟨Nat.zero_le _,n6,l30,rfl,rfl,g,fun L hL=>?_,by rw[pl.rds];exact Int.le_refl _,?_⟩
  ·rw[List.mem_singleton.1 hL];exact⟨Nat.le_refl _,rL⟩
  ·unfold Arn.cap
   rw[pl.len]
   show ((List.replicate _ false).length:Int)-1=_
   rw[List.length_replicate,← Int.add_assoc p];omega
 ·(repeat' first|exact trivial|exact rfl|refine And.intro ?_ ?_)
 ·obtain⟨S1,rs,ll,k,fo⟩:=x
  dsimp only at y ⊢
  have yk:k<n:=by have:=of_decide_eq_true y;omega
  clear y
  have lr:=fo.lr;have lL:=fo.lL
  rw[show ((k:Int)).toNat=k from rfl,wrap_id (x:=(k:Int)+1) (by omega) (by omega)]
  have sp1:=fo.space (by omega) yk
  have hst:=hl (stpG l k) (by
   show l.getD k _∈l
   rw[List.getD_eq_getElem?_getD,List.getElem?_eq_getElem (by omega)]
   exact List.getElem_mem _)
  refine⟨by omega,by omega,by omega,by omega,fun x1 e1=>?_⟩
  have x0:0<=x1:=by rw[e1];exact Int.emod_nonneg _ (by omega)
  have xl:x1<rs.length:=by rw[e1];exact Int.emod_lt_of_pos _ (by omega)
  have hx:x1.toNat<rs.length:=by omega
  clear e1
  generalize x1.toNat=u at *
  have hrow:=fo.ls _ (fo.row hx)
  obtain⟨tr,um,tl,ts,tz⟩:=fo.up hx
  have am:=fo.hld.asc _ (fo.mem hx)
  dsimp only at am
  have ins:∀ {S2:Arn} {j:Int},TrR S1 rs (insE tr.list (stpG l k).ent) (iB tr.size) (5*iB tr.size+ht tr+1) S2 j->FoI sp L0 n p S2 (rs++[j]) (ll++[insE (rowG ll u) (stpG l k).ent]) (k+1):=fun {S2 j} q=>by
   rw[tl] at q
   have a1:=insE_len (rowG ll u) (stpG l k).ent
   have b1:=iB_Hn tr.size
   have b2:=Hn_rng (tr.size:Int)
   have b3:=ht_sz8 tr
   have l30:=fo.l30
   refine fo.go yk q (insE_asc _ am) (by omega) (fun z hz=>?_) (by omega)
   rcases insE_mem am hz with c|c
   ·rw[c];exact hst.2
   ·exact hrow.2 z c
  have need:4*(Hn ((tr.size:Int)+1)+2)<=S1.free:=by
   have:=iB_fit (n:=tr.size) (q:=L0.length+n) (by omega)
   rw[show ((L0.length+n:Nat):Int)+1=(L0.length:Int)+n+1 by omega,ep] at this
   omega
  have needD:4*(Hn (tr.size:Int)+2)<=S1.free:=by
   have:=Hn_mono1 tr.size
   omega
  have bs:∀ x:Int,(rs.length+[x].length)*bytesOf C0 EC.u32<=140737488355328:=fun x=>by rw[bytes_u32,List.length_singleton];omega
  have bh:∀ x:List Ent,(ll.length+[x].length)*bytesOf C0 EC.hent<=140737488355328:=fun x=>by rw[bytes_hent,List.length_singleton];omega
  refine⟨x0,by omega,by omega,by omega,brS_of (fun _=>?_) fun _=>⟨by omega,by omega,brS_of (fun _=>brS_of (fun z=>?_) fun _=>?_) fun _=>?_⟩⟩
  ·refine⟨rs,um.1,by omega,by omega,by omega,?_,fun S2 j q=>⟨bs j,bh _,⟨S2,rs++[j],ll++[rowG ll u],k+1,?_⟩,trivial,?_,Nat.sub_lt_sub_left yk (Nat.lt_succ_self k)⟩⟩
   ·exact wrap_u64_nonneg _
   ·refine fo.go yk (m:=(rowG ll u).length) (r:=0) ⟨⟨q.wf,q.stay,q.len,by rw[q.nu];exact Nat.le_refl _,by rw[q.rds];exact Int.le_refl _,by rw[q.rds];omega⟩,q.rep⟩ am (by omega) hrow.2 (by omega)
   ·(repeat' first|exact trivial|exact rfl|refine And.intro ?_ ?_)
  ·have z0:0<(rowG ll u).length:=by have:=of_decide_eq_true z;omega
   refine⟨by omega,by omega,by omega,by omega,fun x2 e2=>?_⟩
   have w0:0<=x2:=by rw[e2];exact Int.emod_nonneg _ (by omega)
   have wl:x2<(rowG ll u).length:=by rw[e2];exact Int.emod_lt_of_pos _ (by omega)
   have hw:x2.toNat<(rowG ll u).length:=by omega
   clear e2
   generalize x2.toNat=v at *
   have hmem:enG (rowG ll u) v∈rowG ll u:=by
    show (rowG ll u).getD v _∈rowG ll u
    rw[List.getD_eq_getElem?_getD,List.getElem?_eq_getElem hw]
    exact List.getElem_mem _
   refine⟨w0,by omega,x0,by omega,rs,tr,um,needD,fun S2 j vv f ur=>⟨by omega,?_⟩⟩
   rcases ur with ⟨c,_⟩|⟨_,ef,q⟩
   ·rw[tl,getE_inX am hmem] at c;cases c
   ·subst ef
    rw[tl] at q
    refine brS_of (fun c=>absurd c (by decide)) fun _=>⟨bs j,bh _,⟨S2,rs++[j],ll++[outE (rowG ll u) (enG (rowG ll u) v).1 (enG (rowG ll u) v).1],k+1,?_⟩,trivial,?_,Nat.sub_lt_sub_left yk (Nat.lt_succ_self k)⟩
    ·rw[outE_flt8]
     have b1:=dB_Hn tr.size
     have b2:=Hn_rng (tr.size:Int)
     have b3:=ht_sz8 tr
     have l30:=fo.l30
     refine fo.go yk q (flt_asc am) ?_ (fun z hz=>hrow.2 z (List.mem_filter.1 hz).1) (by omega)
     have:=List.length_filter_le (neK (enG (rowG ll u) v).1 ·.1) (rowG ll u)
     unfold flt
     omega
    ·(repeat' first|exact trivial|exact rfl|refine And.intro ?_ ?_)
  ·refine⟨by omega,by omega,by omega,by omega,rs,tr,um,need,fun S2 j o _ q=>⟨by omega,by omega,by omega,bs j,bh _,⟨S2,rs++[j],_,k+1,ins q⟩,trivial,?_,Nat.sub_lt_sub_left yk (Nat.lt_succ_self k)⟩⟩
   (repeat' first|exact trivial|exact rfl|refine And.intro ?_ ?_)
  ·refine⟨by omega,by omega,by omega,by omega,rs,tr,um,need,fun S2 j o _ q=>⟨by omega,by omega,by omega,bs j,bh _,⟨S2,rs++[j],_,k+1,ins q⟩,trivial,?_,Nat.sub_lt_sub_left yk (Nat.lt_succ_self k)⟩⟩
   (repeat' first|exact trivial|exact rfl|refine And.intro ?_ ?_)
 ·obtain⟨S1,rs,ll,k,fo⟩:=x
  dsimp only at y ⊢
  have yk:k=n:=by have:=of_decide_eq_false y;have:=fo.kn;omega
  subst yk
  exact h _ _ _ (fo.done (by omega) (by omega))
theorem s_fo:SoundT C0 19 tFo:=by
 refine .of Tryz.func19 (by decide) rfl fun args H K h hB=>?_
 unfold tFo at h
 split at h<;>try exact h.elim
 refine⟨_,?_,vc_fo _ _ _ _ K h.1 h.2.1 h.2.2.1 h.2.2.2.1 h.2.2.2.2.1 h.2.2.2.2.2⟩
 exact⟨frame C0.ok s_lst _,frame C0.ok s_nIns _,frame C0.ok s_grow _,frame C0.ok s_mod _,frame C0.ok s_plantA _,frame C0.ok s_upDx _,frame C0.ok s_del _,frame C0.ok s_upIn _,frame C0.ok s_ins _,trivial⟩
end Go.Proofs.YtedfbafngmicpaaGreat.Sx
end
section
/- The choice of trees in the laws of pack: pick. -/
namespace Go.Proofs.YtedfbafngmicpaaGreat.Sx
open Go

/-KEEP rowG-/
def bitB (b:Int)(i:Nat):Bool:=(b.fdiv (2 ^ min i IntKind.u8.bits)).tmod 2==1
def pkG (b:Int)(E:List (Int × List Ent)):Nat->List (Int × List Ent)
 | 0=>[]
 | i+1=>if bitB b i then pkG b E i++[E.getD i (0,[])] else pkG b E i
def pkZ (b:Int)(E:List (Int × List Ent)):List (Int × List Ent):=pkG b E (min E.length 7)++if 128<=b then [(0,[])] else []
theorem pkG_len (b:Int)(E:List (Int × List Ent)):∀ i,(pkG b E i).length<=i
 | 0=>Nat.le_refl _
 | i+1=>by
  have:=pkG_len b E i
  unfold pkG
  split
  ·rw[List.length_append,List.length_singleton];omega
  ·omega
theorem zip_getD {rs:List Int}{ll:List (List Ent)}(e:rs.length=ll.length){i:Nat}(h:i<rs.length):(rs.zip ll).getD i (0,[])=(getB rs i,rowG ll i):=by
 have h2:i<ll.length:=e ▸ h
 have z:(rs.zip ll)[i]?=some (rs[i],ll[i]):=List.getElem?_zip_eq_some.2 ⟨List.getElem?_eq_getElem h,List.getElem?_eq_getElem h2⟩
 rw[List.getD_eq_getElem?_getD,z]
 show _=(rs.getD i 0,ll.getD i [])
 rw[List.getD_eq_getElem?_getD,List.getD_eq_getElem?_getD,List.getElem?_eq_getElem h,List.getElem?_eq_getElem h2];rfl
end Go.Proofs.YtedfbafngmicpaaGreat.Sx
end
section
/- kit.Same[uint32], alone. -/
namespace Go.Proofs.YtedfbafngmicpaaGreat.Sx
open Go

end Go.Proofs.YtedfbafngmicpaaGreat.Sx
end
section
/- Law PackSharesKnown. -/
namespace Go.Proofs.YtedfbafngmicpaaGreat.Sx
open Go

/-KEEP Wf exW inU allV allB rdS Arn.free RtB ExO ImR FrB RngL RngS FoR pkZ-/
theorem pkG_mem {b:Int}{E:List (Int × List Ent)}{q:Int × List Ent}:∀ {i:Nat},i<=E.length->q∈pkG b E i->q∈E
 | 0,_,h=>by cases h
 | i+1,hi,h=>by
  unfold pkG at h
  split at h
  ·rcases List.mem_append.1 h with c|c
   ·exact pkG_mem (by omega) c
   ·rw[List.mem_singleton.1 c,List.getD_eq_getElem?_getD,List.getElem?_eq_getElem (by omega)]
    exact List.getElem_mem _
  ·exact pkG_mem (by omega) h
theorem pkZ_mem {b:Int}{E:List (Int × List Ent)}{q:Int × List Ent}(h:q∈pkZ b E):q∈E∨q=(0,[]):=by
 unfold pkZ at h
 rcases List.mem_append.1 h with c|c
 ·exact .inl (pkG_mem (by omega) c)
 ·split at c
  ·exact .inr (List.mem_singleton.1 c)
  ·cases c
theorem pkZ_len (b:Int)(E:List (Int × List Ent)):(pkZ b E).length<=8:=by
 have:=pkG_len b E (min E.length 7)
 unfold pkZ
 rw[List.length_append]
 split
 ·rw[List.length_singleton];omega
 ·rw[List.length_nil];omega
theorem FoR.ok {sp:Int}{S:Arn}{rs:List Int}{ll:List (List Ent)}(h:FoR sp S rs ll){q:Int × List Ent}(hq:q∈rs.zip ll∨q=(0,[])):OkT S q.1/\∃ t,Rep S t q.1/\t.list=q.2/\t.Bal/\Asc q.2/\t.size<=36:=by
 rcases hq with hq|hq
 ·obtain⟨t,r,e,b⟩:=h.hld.rep q hq
  have l:=h.ls q.2 (List.of_mem_zip hq).2
  have a:=h.hld.asc q hq
  exact⟨⟨t,r,by rw[e];exact a,b,by rw[e];exact l.2⟩,t,r,e,b,a,by rw[← t.list_len,e];exact l.1⟩
 ·rw[hq]
  exact⟨⟨.nil,rfl,List.Pairwise.nil,trivial,fun z hz=>by cases hz⟩,.nil,rfl,rfl,trivial,List.Pairwise.nil,by decide⟩
theorem FoR.wf {sp:Int}{S:Arn}{rs:List Int}{ll:List (List Ent)}(h:FoR sp S rs ll):Wf S rs:=by
 have:=h.hld.wf
 rwa [zip_fst h.len] at this
theorem FoR.rt {sp:Int}{S:Arn}{rs:List Int}{ll:List (List Ent)}(h:FoR sp S rs ll)(b c:Int):RtB S rs ((pkZ b (rs.zip ll)).map Prod.fst) ((pkZ c (rs.zip ll)).map Prod.fst):=by
 have l1:=pkZ_len b (rs.zip ll)
 have l2:=pkZ_len c (rs.zip ll)
 have one:=h.one
 have rd:=h.rd
 refine rtB_of h.wf (by omega) (by omega) (by rw[List.length_map];omega) (by rw[List.length_map];omega) fun r hr=>?_
 rcases List.mem_append.1 hr with c|c
 ·obtain⟨q,hq,rfl⟩:=List.mem_map.1 c
  exact (h.ok (pkZ_mem hq)).1
 ·obtain⟨q,hq,rfl⟩:=List.mem_map.1 c
  exact (h.ok (pkZ_mem hq)).1
end Go.Proofs.YtedfbafngmicpaaGreat.Sx
end
section
/- The reference of words: Join, Varint, Word, KeyBytes, Zigzag. -/
namespace Go.Proofs.YtedfbafngmicpaaGreat.Sx
open Go

/-KEEP allB vE wB kB zz-/
end Go.Proofs.YtedfbafngmicpaaGreat.Sx
end
section
/- The reference of words and frames: Word, KeyBytes, Zigzag, Extend, Checksum, Frame, varint, frame. -/
namespace Go.Proofs.YtedfbafngmicpaaGreat.Sx
open Go

/-KEEP allB vE wB kB zz crc exI frE itC xorI getB jnA-/
end Go.Proofs.YtedfbafngmicpaaGreat.Sx
end
section
/- The order of the free slots, and the arena's Dump. -/
/-KEEP exW inU Arn.cap Arn.free-/
namespace Go.Proofs.YtedfbafngmicpaaGreat.Sx
open Go

def upTo (fr:Int)(n:Nat):List Int:=(List.range n).map fun (k:Nat)=>fr+1+(k:Int)
def orderL (us:List Bool)(rl:List Int)(fr:Int):List Int:=rl.reverse++upTo fr ((us.length:Int)-1-fr).toNat
structure XOr1 (rl:List Int) where
 k:Nat
 h:k<=rl.length
structure XOr2 (us:List Bool) (fr:Int) where
 n:Nat
 h:n<=((us.length:Int)-1-fr).toNat
noncomputable def aOrder (us:List Bool)(gn rl:List Int)(fr:Int):Ann C0:={ Γ:=[(75,frameT [] tSlFree),(77,frameT [] tSlCap)],inv:=fun n=>match n with
 | 3=>some { X:=XOr1 rl,sl:=[4,3],tf:=fun x=>[vi .i64 ((x.k:Int)-1),.one (.at (.slc 4))],hf:=fun x=>slC us gn rl fr++[.row true EC.u32 (rl.drop x.k).reverse],μ:=fun x=>x.k }
 | 7=>some { X:=XOr2 us fr,sl:=[5,3],tf:=fun x=>[vi .i64 (fr+1+(x.n:Int)),.one (.at (.slc 4))],hf:=fun x=>slC us gn rl fr++[.row true EC.u32 (rl.reverse++upTo fr x.n)],μ:=fun x=>((us.length:Int)-1-fr).toNat-x.n }
 | _=>none }
def tOrder:Tfm C0:=fun args H K=>match args with
 | [.at (.ptr 0 0)]=>slM H fun us gn rl fr=>1<=us.length/\us.length<=65537/\rl.length<=65537/\0<=fr/\fr<=us.length-1/\∀ o:List Int,o=orderL us rl fr->K (.one (.at (.slc 4))) (slC us gn rl fr++[.row true EC.u32 o]) []
 | _=>False
def SlotT.zero:SlotT:=⟨false,0,0,NodeT.zero⟩
def slotAt (S:Arn)(k:Nat):SlotT:=⟨S.us ((k:Int)+1),if S.us ((k:Int)+1) then S.ct ((k:Int)+1) else 0,S.gn ((k:Int)+1),S.nd ((k:Int)+1)⟩
def ncap (S:Arn):Nat:=S.used.length-1
def slotsOf (S:Arn):List SlotT:=(List.range (ncap S)).map (slotAt S)
def orderOf (S:Arn):List Int:=orderL S.used S.rel S.fresh
structure XDu (S:Arn) where
 i:Nat
 h:i<=ncap S
def fillS (S:Arn)(i:Nat):List SlotT:=(List.range i).map (slotAt S)++List.replicate (ncap S-i) SlotT.zero
noncomputable def aDump (S:Arn):Ann C0:={ quiet:=[59,60,61,29],Γ:=[(29,frameT [] tCap),(58,frameT [] tOrder),(59,frameT [] tSlAllocated),(60,frameT [] tCount),(61,frameT [] tGen)],inv:=fun n=>match n with
 | 1002=>some { X:=Unit,sl:=[3,2],tf:=fun _=>[.one (.at (.ptr 7 0)),.one (.at (.ptr 10 0))],hf:=fun _=>chS S++[.box [.slc 8,.slc 9],.row true EC.slot (fillS S 0),.row true EC.u32 (orderOf S),.box [.slc 11,.slc 12],.row true EC.slot [],.row true EC.u32 []] }
 | 3=>some { X:=XDu S,sl:=[18,3,2],tf:=fun x=>[vi .i64 x.i,.one (.at (.ptr 7 0)),.one (.at (.ptr 10 0))],hf:=fun x=>chS S++[.box [.slc 8,.slc 9],.row true EC.slot (fillS S x.i),.row true EC.u32 (orderOf S),.box [.slc 11,.slc 12],.row true EC.slot [],.row true EC.u32 []],μ:=fun x=>ncap S-x.i }
 | _=>none }
def tDump:Tfm C0:=fun args H K=>match args with
 | [.at (.ptr 0 0)]=>arM H fun S=>exW S/\∀ (d:List SlotT) (o:List Int),d=slotsOf S->o=orderOf S->K (.one (.agg [.slc 7,.slc 8])) (chS S++[.row true EC.slot d,.row true EC.u32 o]) []
 | _=>False
theorem upTo_snoc (fr:Int)(n:Nat):upTo fr n++[fr+1+(n:Int)]=upTo fr (n+1):=by
 unfold upTo;rw[List.range_succ,List.map_append];rfl
theorem vc_order (us:List Bool)(gn rl:List Int)(fr:Int)(K:KT)(h1:1<=us.length)(h2:us.length<=65537)(h3:rl.length<=65537)(h4:0<=fr)(h5:fr<=us.length-1)(h:∀ o:List Int,o=orderL us rl fr->K (.one (.at (.slc 4))) (slC us gn rl fr++[.row true EC.u32 o]) []) :
  vc C0 (aOrder us gn rl fr) Tryz.f58 [.at (.ptr 0 0)] (slC us gn rl fr) (normK 4 K):=by
 refine Eq.mp (show (1<=us.length/\us.length<=65537/\rl.length<=65537/\0<=fr/\fr<=65537/\(0:Int)<=0/\0<=(rl.length:Int)+((us.length:Int)-1)-fr/\((rl.length:Int)+((us.length:Int)-1)-fr)*(↑(bytesOf C0 EC.u32):Int)<=140737488355328/\(∃ x:XOr1 rl,True/\(True/\True/\(VI (IntKind.i64.wrap ((rl.length:Int)-1)))=(VI ((x.k:Int)-1))/\True)/\(True/\True/\True/\VU (fr)=VU (fr)/\True)/\us=us/\gn=gn/\rl=rl/\[]=((List.drop x.k rl).reverse)/\True)/\∀ x:XOr1 rl,True->brS (decide ((x.k:Int)-1≥0)) (0<=(x.k:Int)-1/\(x.k:Int)-1<(rl.length:Int)/\((List.drop x.k rl).reverse.length+[rl.getD ((x.k:Int)-1).toNat 0].length)*bytesOf C0 EC.u32<=140737488355328/\∃ x':XOr1 rl,True/\((True/\True/\(VI (IntKind.i64.wrap ((x.k:Int)-1-1)))=(VI ((x'.k:Int)-1))/\True)/\(True/\True/\True/\VU (fr)=VU (fr)/\True)/\us=us/\gn=gn/\rl=rl/\((List.drop x.k rl).reverse++[rl.getD ((x.k:Int)-1).toNat 0])=((List.drop x'.k rl).reverse)/\True)/\x'.k<x.k) ((∃ x1:XOr2 us fr,True/\(True/\True/\(VI (IntKind.i64.wrap (IntKind.i64.wrap fr+1)))=(VI (fr+1+(x1.n:Int)))/\True)/\(True/\True/\True/\VU (fr)=VU (fr)/\True)/\us=us/\gn=gn/\rl=rl/\((List.drop x.k rl).reverse)=(rl.reverse++upTo fr x1.n)/\True)/\∀ x1:XOr2 us fr,True->1<=us.length/\us.length<=65537/\brS (decide (fr+1+(x1.n:Int)<=(us.length:Int)-1)) (((rl.reverse++upTo fr x1.n).length+[IntKind.u32.wrap (fr+1+(x1.n:Int))].length)*bytesOf C0 EC.u32<=140737488355328/\∃ x':XOr2 us fr,True/\((True/\True/\(VI (IntKind.i64.wrap (fr+1+(x1.n:Int)+1)))=(VI (fr+1+(x'.n:Int)))/\True)/\(True/\True/\True/\VU (fr)=VU (fr)/\
 True)/\us=us/\gn=gn/\rl=rl/\(rl.reverse++upTo fr x1.n++[IntKind.u32.wrap (fr+1+(x1.n:Int))])=(rl.reverse++upTo fr x'.n)/\True)/\((us.length:Int)-1-fr).toNat-x'.n<((us.length:Int)-1-fr).toNat-x1.n) (K (.one (.at (.slc 4))) [(.box [(.slc 1),(.slc 2),(.slc 3),(.val (VU (fr)))]),(.row true EC.bool (us)),(.row true EC.u32 (gn)),(.row true EC.u32 (rl)),(.row true EC.u32 (rl.reverse++upTo fr x1.n))] [])))=_ by kernel_rfl) ?_
 rw[bytes_u32]
 rw[wrap_id (x:=(rl.length:Int)-1) (by omega) (by omega),wrap_id (x:=fr) (by omega) (by omega),wrap_id (x:=fr+1) (by omega) (by omega)]
 refine⟨h1,h2,h3,h4,by omega,by decide,by omega,by omega,⟨⟨rl.length,Nat.le_refl _⟩,trivial,⟨trivial,trivial,rfl,trivial⟩,⟨trivial,trivial,trivial,rfl,trivial⟩,rfl,rfl,rfl,by simp,trivial⟩,fun x _=>brS_of (fun c=>?_) fun c=>?_⟩
 ·have c:1<=x.k:=by have:=of_decide_eq_true c;omega
  have hk:=x.h
  have hg:rl[x.k-1]?=some (rl.getD (x.k-1) 0):=by simp[List.getD_eq_getElem?_getD,List.getElem?_eq_getElem (show x.k-1<rl.length by omega)]
  rw[wrap_id (by omega) (by omega),show ((x.k:Int)-1).toNat=x.k-1 by omega]
  refine⟨by omega,by omega,?_,⟨x.k-1,by omega⟩,trivial,⟨⟨trivial,trivial,?_,trivial⟩,⟨trivial,trivial,trivial,rfl,trivial⟩,rfl,rfl,rfl,?_,trivial⟩,?_⟩
  ·simp;omega
  ·congr 1;show (x.k:Int)-1-1=((x.k-1:Nat):Int)-1;omega
  ·show _=(rl.drop (x.k-1)).reverse
   rw[drop_cons hg,List.reverse_cons,show x.k-1+1=x.k by omega]
  ·show x.k-1<x.k;omega
 ·have c:x.k=0:=by have:=of_decide_eq_false c;omega
  refine⟨⟨⟨0,Nat.zero_le _⟩,trivial,⟨trivial,trivial,by congr 1;show fr+1=fr+1+((0:Nat):Int);omega,trivial⟩,⟨trivial,trivial,trivial,rfl,trivial⟩,rfl,rfl,rfl,by rw[c];simp[upTo],trivial⟩,fun y _=>⟨h1,h2,brS_of (fun d=>?_) fun d=>?_⟩⟩
  ·have d:fr+1+(y.n:Int)<=us.length-1:=of_decide_eq_true d
   have hul:(upTo fr y.n).length=y.n:=by simp[upTo]
   rw[wrap_u32 (by omega) (by omega),wrap_id (by omega) (by omega)]
   refine⟨?_,⟨y.n+1,by omega⟩,trivial,⟨⟨trivial,trivial,?_,trivial⟩,⟨trivial,trivial,trivial,rfl,trivial⟩,rfl,rfl,rfl,?_,trivial⟩,?_⟩
   ·simp[hul];omega
   ·congr 1;show fr+1+(y.n:Int)+1=fr+1+((y.n+1:Nat):Int);omega
   ·show _=rl.reverse++upTo fr (y.n+1)
    rw[← upTo_snoc,List.append_assoc]
   ·show _-(y.n+1)<_;omega
  ·have d:¬ fr+1+(y.n:Int)<=us.length-1:=of_decide_eq_false d
   have hn:y.n=((us.length:Int)-1-fr).toNat:=by have:=y.h;omega
   exact h _ (by unfold orderL;rw[hn])
theorem s_order:SoundT C0 58 tOrder:=by
 refine .of Tryz.func58 (by decide) rfl fun args H K h hB=>?_
 unfold tOrder at h
 split at h<;>try exact h.elim
 unfold slM at h
 split at h<;>try exact h.elim
 rename_i fr us gn rl
 obtain⟨h1,h2,h3,h4,h5,h6⟩:=h
 exact⟨aOrder us gn rl fr,⟨frame C0.ok s_slFree _,frame C0.ok s_slCap _,trivial⟩,vc_order us gn rl fr K h1 h2 h3 h4 h5 h6⟩
theorem fill_zero (S:Arn):List.replicate (ncap S) SlotT.zero=fillS S 0:=by simp[fillS]
theorem fill_len (S:Arn)(i:Nat)(h:i<=ncap S):(fillS S i).length=ncap S:=by simp[fillS];omega
theorem fill_next (S:Arn){i:Nat}(h:i<ncap S):(fillS S i).set i (slotAt S i)=fillS S (i+1):=by
 unfold fillS
 obtain⟨m,hm⟩:∃ m,ncap S-i=m+1:=⟨ncap S-i-1,by omega⟩
 rw[hm,show ncap S-(i+1)=m by omega,List.range_succ,List.map_append,List.replicate_succ,List.set_append_right _ _ (by simp)]
 simp
theorem fill_all (S:Arn):fillS S (ncap S)=slotsOf S:=by simp[fillS,slotsOf]
theorem vc_dump (S:Arn)(K:KT)(hw:exW S)(h:∀ (d:List SlotT) (o:List Int),d=slotsOf S->o=orderOf S->K (.one (.agg [.slc 7,.slc 8])) (chS S++[.row true EC.slot d,.row true EC.u32 o]) []) :
  vc C0 (aDump S) Tryz.f17 [.at (.ptr 0 0)] (chS S) (normK 7 K):=by
 refine Eq.mp (show (((exW S/\(0<=S.cap/\S.cap<=S.cap/\S.cap*(↑(bytesOf C0 EC.slot):Int)<=140737488355328/\((1<=S.used.length/\S.used.length<=65537/\S.rel.length<=65537/\0<=S.fresh/\S.fresh<=(S.used.length:Int)-1/\∀ o:List Int,o=orderL S.used S.rel S.fresh->∃ x:Unit,True/\(True/\True/\True/\True)/\(True/\True/\True/\VW (S.reads)=VW (S.reads)/\True)/\(True/\True/\True/\VU (S.fresh)=VU (S.fresh)/\True)/\S.nodes=S.nodes/\S.counts=S.counts/\S.used=S.used/\S.gen=S.gen/\S.rel=S.rel/\(True/\True/\True)/\List.replicate S.cap.toNat SlotT.zero=fillS S 0/\o=orderOf S/\(True/\True/\True)/\([]:List SlotT)=[]/\([]:List Int)=[]/\True)/\1<=S.used.length/\S.used.length<=65537/\S.rel.length<=65537/\0<=S.fresh/\S.fresh<=(S.used.length:Int)-1/\∀ o:List Int,o=orderL S.used S.rel S.fresh->∃ x:Unit,True/\(True/\True/\True/\True)/\(True/\True/\True/\VW (S.reads)=VW (S.reads)/\True)/\(True/\True/\True/\VU (S.fresh)=VU (S.fresh)/\True)/\S.nodes=S.nodes/\S.counts=S.counts/\S.used=S.used/\S.gen=S.gen/\S.rel=S.rel/\(True/\True/\True)/\List.replicate S.cap.toNat SlotT.zero=fillS S 0/\o=orderOf S/\(True/\True/\True)/\([]:List SlotT)=[]/\([]:List Int)=[]/\True)/\1<=S.used.length/\S.used.length<=65537/\S.rel.length<=65537/\0<=S.fresh/\S.fresh<=(S.used.length:Int)-1/\∀ o:List Int,o=orderL S.used S.rel S.fresh->∃ x:Unit,True/\(True/\True/\True/\True)/\(True/\True/\True/\VW (S.reads)=VW (S.reads)/\True)/\(True/\True/\True/\VU (S.fresh)=VU (S.fresh)/\True)/\S.nodes=S.nodes/\S.counts=S.counts/\S.used=S.used/\S.gen=S.gen/\S.rel=S.rel/\
 (True/\True/\True)/\List.replicate S.cap.toNat SlotT.zero=fillS S 0/\o=orderOf S/\(True/\True/\True)/\([]:List SlotT)=[]/\([]:List Int)=[]/\True)/\((0<=S.cap/\S.cap<=S.cap/\S.cap*(↑(bytesOf C0 EC.slot):Int)<=140737488355328/\(1<=S.used.length/\S.used.length<=65537/\S.rel.length<=65537/\0<=S.fresh/\S.fresh<=(S.used.length:Int)-1/\∀ o:List Int,o=orderL S.used S.rel S.fresh->∃ x:Unit,True/\(True/\True/\True/\True)/\(True/\True/\True/\VW (S.reads)=VW (S.reads)/\True)/\(True/\True/\True/\VU (S.fresh)=VU (S.fresh)/\True)/\S.nodes=S.nodes/\S.counts=S.counts/\S.used=S.used/\S.gen=S.gen/\S.rel=S.rel/\(True/\True/\True)/\List.replicate S.cap.toNat SlotT.zero=fillS S 0/\o=orderOf S/\(True/\True/\True)/\([]:List SlotT)=[]/\([]:List Int)=[]/\True)/\1<=S.used.length/\S.used.length<=65537/\S.rel.length<=65537/\0<=S.fresh/\S.fresh<=(S.used.length:Int)-1/\∀ o:List Int,o=orderL S.used S.rel S.fresh->∃ x:Unit,True/\(True/\True/\True/\True)/\(True/\True/\True/\VW (S.reads)=VW (S.reads)/\True)/\(True/\True/\True/\VU (S.fresh)=VU (S.fresh)/\True)/\S.nodes=S.nodes/\S.counts=S.counts/\S.used=S.used/\S.gen=S.gen/\S.rel=S.rel/\(True/\True/\True)/\List.replicate S.cap.toNat SlotT.zero=fillS S 0/\o=orderOf S/\(True/\True/\True)/\([]:List SlotT)=[]/\([]:List Int)=[]/\True)/\(1<=S.used.length/\S.used.length<=65537/\S.rel.length<=65537/\0<=S.fresh/\S.fresh<=(S.used.length:Int)-1/\∀ o:List Int,o=orderL S.used S.rel S.fresh->(0<=S.cap/\S.cap<=S.cap/\S.cap*(↑(bytesOf C0 EC.slot):Int)<=140737488355328/\∃ x:Unit,True/\
 (True/\True/\True/\True)/\(True/\True/\True/\VW (S.reads)=VW (S.reads)/\True)/\(True/\True/\True/\VU (S.fresh)=VU (S.fresh)/\True)/\S.nodes=S.nodes/\S.counts=S.counts/\S.used=S.used/\S.gen=S.gen/\S.rel=S.rel/\(True/\True/\True)/\List.replicate S.cap.toNat SlotT.zero=fillS S 0/\o=orderOf S/\(True/\True/\True)/\([]:List SlotT)=[]/\([]:List Int)=[]/\True)/\0<=S.cap/\S.cap<=S.cap/\S.cap*(↑(bytesOf C0 EC.slot):Int)<=140737488355328/\∃ x:Unit,True/\(True/\True/\True/\True)/\(True/\True/\True/\VW (S.reads)=VW (S.reads)/\True)/\(True/\True/\True/\VU (S.fresh)=VU (S.fresh)/\True)/\S.nodes=S.nodes/\S.counts=S.counts/\S.used=S.used/\S.gen=S.gen/\S.rel=S.rel/\(True/\True/\True)/\List.replicate S.cap.toNat SlotT.zero=fillS S 0/\o=orderOf S/\(True/\True/\True)/\([]:List SlotT)=[]/\([]:List Int)=[]/\True)/\(0<=S.cap/\S.cap<=S.cap/\S.cap*(↑(bytesOf C0 EC.slot):Int)<=140737488355328/\1<=S.used.length/\S.used.length<=65537/\S.rel.length<=65537/\0<=S.fresh/\S.fresh<=(S.used.length:Int)-1/\∀ o:List Int,o=orderL S.used S.rel S.fresh->∃ x:Unit,True/\(True/\True/\True/\True)/\(True/\True/\True/\VW (S.reads)=VW (S.reads)/\True)/\(True/\True/\True/\VU (S.fresh)=VU (S.fresh)/\True)/\S.nodes=S.nodes/\S.counts=S.counts/\S.used=S.used/\S.gen=S.gen/\S.rel=S.rel/\(True/\True/\True)/\List.replicate S.cap.toNat SlotT.zero=fillS S 0/\o=orderOf S/\(True/\True/\True)/\([]:List SlotT)=[]/\([]:List Int)=[]/\True)/\1<=S.used.length/\S.used.length<=65537/\S.rel.length<=65537/\0<=S.fresh/\S.fresh<=(S.used.length:Int)-1/\
 ∀ o:List Int,o=orderL S.used S.rel S.fresh->0<=S.cap/\S.cap<=S.cap/\S.cap*(↑(bytesOf C0 EC.slot):Int)<=140737488355328/\∃ x:Unit,True/\(True/\True/\True/\True)/\(True/\True/\True/\VW (S.reads)=VW (S.reads)/\True)/\(True/\True/\True/\VU (S.fresh)=VU (S.fresh)/\True)/\S.nodes=S.nodes/\S.counts=S.counts/\S.used=S.used/\S.gen=S.gen/\S.rel=S.rel/\(True/\True/\True)/\List.replicate S.cap.toNat SlotT.zero=fillS S 0/\o=orderOf S/\(True/\True/\True)/\([]:List SlotT)=[]/\([]:List Int)=[]/\True)/\(0<=S.cap/\S.cap<=S.cap/\S.cap*(↑(bytesOf C0 EC.slot):Int)<=140737488355328/\1<=S.used.length/\S.used.length<=65537/\S.rel.length<=65537/\0<=S.fresh/\S.fresh<=(S.used.length:Int)-1/\∀ o:List Int,o=orderL S.used S.rel S.fresh->∃ x:Unit,True/\(True/\True/\True/\True)/\(True/\True/\True/\VW (S.reads)=VW (S.reads)/\True)/\(True/\True/\True/\VU (S.fresh)=VU (S.fresh)/\True)/\S.nodes=S.nodes/\S.counts=S.counts/\S.used=S.used/\S.gen=S.gen/\S.rel=S.rel/\(True/\True/\True)/\List.replicate S.cap.toNat SlotT.zero=fillS S 0/\o=orderOf S/\(True/\True/\True)/\([]:List SlotT)=[]/\([]:List Int)=[]/\True)/\(0<=S.cap/\S.cap<=S.cap/\S.cap*(↑(bytesOf C0 EC.slot):Int)<=140737488355328/\1<=S.used.length/\S.used.length<=65537/\S.rel.length<=65537/\0<=S.fresh/\S.fresh<=(S.used.length:Int)-1/\∀ o:List Int,o=orderL S.used S.rel S.fresh->∃ x:Unit,True/\(True/\True/\True/\True)/\(True/\True/\True/\VW (S.reads)=VW (S.reads)/\True)/\(True/\True/\True/\VU (S.fresh)=VU (S.fresh)/\True)/\S.nodes=S.nodes/\S.counts=S.counts/\S.used=S.used/\
 S.gen=S.gen/\S.rel=S.rel/\(True/\True/\True)/\List.replicate S.cap.toNat SlotT.zero=fillS S 0/\o=orderOf S/\(True/\True/\True)/\([]:List SlotT)=[]/\([]:List Int)=[]/\True)/\1<=S.used.length/\S.used.length<=65537/\S.rel.length<=65537/\0<=S.fresh/\S.fresh<=(S.used.length:Int)-1/\∀ o:List Int,o=orderL S.used S.rel S.fresh->0<=S.cap/\S.cap<=S.cap/\S.cap*(↑(bytesOf C0 EC.slot):Int)<=140737488355328/\∃ x:Unit,True/\(True/\True/\True/\True)/\(True/\True/\True/\VW (S.reads)=VW (S.reads)/\True)/\(True/\True/\True/\VU (S.fresh)=VU (S.fresh)/\True)/\S.nodes=S.nodes/\S.counts=S.counts/\S.used=S.used/\S.gen=S.gen/\S.rel=S.rel/\(True/\True/\True)/\List.replicate S.cap.toNat SlotT.zero=fillS S 0/\o=orderOf S/\(True/\True/\True)/\([]:List SlotT)=[]/\([]:List Int)=[]/\True)/\((exW S/\(0<=S.cap/\S.cap<=S.cap/\S.cap*(↑(bytesOf C0 EC.slot):Int)<=140737488355328/\(1<=S.used.length/\S.used.length<=65537/\S.rel.length<=65537/\0<=S.fresh/\S.fresh<=(S.used.length:Int)-1/\∀ o:List Int,o=orderL S.used S.rel S.fresh->∃ x:Unit,True/\(True/\True/\True/\True)/\(True/\True/\True/\VW (S.reads)=VW (S.reads)/\True)/\(True/\True/\True/\VU (S.fresh)=VU (S.fresh)/\True)/\S.nodes=S.nodes/\S.counts=S.counts/\S.used=S.used/\S.gen=S.gen/\S.rel=S.rel/\(True/\True/\True)/\List.replicate S.cap.toNat SlotT.zero=fillS S 0/\o=orderOf S/\(True/\True/\True)/\([]:List SlotT)=[]/\([]:List Int)=[]/\True)/\1<=S.used.length/\S.used.length<=65537/\S.rel.length<=65537/\0<=S.fresh/\S.fresh<=(S.used.length:Int)-1/\∀ o:List Int,o=orderL S.used S.rel S.fresh->∃ x:Unit,True/\
 (True/\True/\True/\True)/\(True/\True/\True/\VW (S.reads)=VW (S.reads)/\True)/\(True/\True/\True/\VU (S.fresh)=VU (S.fresh)/\True)/\S.nodes=S.nodes/\S.counts=S.counts/\S.used=S.used/\S.gen=S.gen/\S.rel=S.rel/\(True/\True/\True)/\List.replicate S.cap.toNat SlotT.zero=fillS S 0/\o=orderOf S/\(True/\True/\True)/\([]:List SlotT)=[]/\([]:List Int)=[]/\True)/\(1<=S.used.length/\S.used.length<=65537/\S.rel.length<=65537/\0<=S.fresh/\S.fresh<=(S.used.length:Int)-1/\∀ o:List Int,o=orderL S.used S.rel S.fresh->(0<=S.cap/\S.cap<=S.cap/\S.cap*(↑(bytesOf C0 EC.slot):Int)<=140737488355328/\∃ x:Unit,True/\(True/\True/\True/\True)/\(True/\True/\True/\VW (S.reads)=VW (S.reads)/\True)/\(True/\True/\True/\VU (S.fresh)=VU (S.fresh)/\True)/\S.nodes=S.nodes/\S.counts=S.counts/\S.used=S.used/\S.gen=S.gen/\S.rel=S.rel/\(True/\True/\True)/\List.replicate S.cap.toNat SlotT.zero=fillS S 0/\o=orderOf S/\(True/\True/\True)/\([]:List SlotT)=[]/\([]:List Int)=[]/\True)/\0<=S.cap/\S.cap<=S.cap/\S.cap*(↑(bytesOf C0 EC.slot):Int)<=140737488355328/\∃ x:Unit,True/\(True/\True/\True/\True)/\(True/\True/\True/\VW (S.reads)=VW (S.reads)/\True)/\(True/\True/\True/\VU (S.fresh)=VU (S.fresh)/\True)/\S.nodes=S.nodes/\S.counts=S.counts/\S.used=S.used/\S.gen=S.gen/\S.rel=S.rel/\(True/\True/\True)/\List.replicate S.cap.toNat SlotT.zero=fillS S 0/\o=orderOf S/\(True/\True/\True)/\([]:List SlotT)=[]/\([]:List Int)=[]/\True)/\(0<=S.cap/\S.cap<=S.cap/\S.cap*(↑(bytesOf C0 EC.slot):Int)<=140737488355328/\1<=S.used.length/\S.used.length<=65537/\
 S.rel.length<=65537/\0<=S.fresh/\S.fresh<=(S.used.length:Int)-1/\∀ o:List Int,o=orderL S.used S.rel S.fresh->∃ x:Unit,True/\(True/\True/\True/\True)/\(True/\True/\True/\VW (S.reads)=VW (S.reads)/\True)/\(True/\True/\True/\VU (S.fresh)=VU (S.fresh)/\True)/\S.nodes=S.nodes/\S.counts=S.counts/\S.used=S.used/\S.gen=S.gen/\S.rel=S.rel/\(True/\True/\True)/\List.replicate S.cap.toNat SlotT.zero=fillS S 0/\o=orderOf S/\(True/\True/\True)/\([]:List SlotT)=[]/\([]:List Int)=[]/\True)/\1<=S.used.length/\S.used.length<=65537/\S.rel.length<=65537/\0<=S.fresh/\S.fresh<=(S.used.length:Int)-1/\∀ o:List Int,o=orderL S.used S.rel S.fresh->0<=S.cap/\S.cap<=S.cap/\S.cap*(↑(bytesOf C0 EC.slot):Int)<=140737488355328/\∃ x:Unit,True/\(True/\True/\True/\True)/\(True/\True/\True/\VW (S.reads)=VW (S.reads)/\True)/\(True/\True/\True/\VU (S.fresh)=VU (S.fresh)/\True)/\S.nodes=S.nodes/\S.counts=S.counts/\S.used=S.used/\S.gen=S.gen/\S.rel=S.rel/\(True/\True/\True)/\List.replicate S.cap.toNat SlotT.zero=fillS S 0/\o=orderOf S/\(True/\True/\True)/\([]:List SlotT)=[]/\([]:List Int)=[]/\True)/\exW S/\(0<=S.cap/\S.cap<=S.cap/\S.cap*(↑(bytesOf C0 EC.slot):Int)<=140737488355328/\1<=S.used.length/\S.used.length<=65537/\S.rel.length<=65537/\0<=S.fresh/\S.fresh<=(S.used.length:Int)-1/\∀ o:List Int,o=orderL S.used S.rel S.fresh->∃ x:Unit,True/\(True/\True/\True/\True)/\(True/\True/\True/\VW (S.reads)=VW (S.reads)/\True)/\(True/\True/\True/\VU (S.fresh)=VU (S.fresh)/\True)/\S.nodes=S.nodes/\S.counts=S.counts/\S.used=S.used/\
 S.gen=S.gen/\S.rel=S.rel/\(True/\True/\True)/\List.replicate S.cap.toNat SlotT.zero=fillS S 0/\o=orderOf S/\(True/\True/\True)/\([]:List SlotT)=[]/\([]:List Int)=[]/\True)/\1<=S.used.length/\S.used.length<=65537/\S.rel.length<=65537/\0<=S.fresh/\S.fresh<=(S.used.length:Int)-1/\∀ o:List Int,o=orderL S.used S.rel S.fresh->0<=S.cap/\S.cap<=S.cap/\S.cap*(↑(bytesOf C0 EC.slot):Int)<=140737488355328/\∃ x:Unit,True/\(True/\True/\True/\True)/\(True/\True/\True/\VW (S.reads)=VW (S.reads)/\True)/\(True/\True/\True/\VU (S.fresh)=VU (S.fresh)/\True)/\S.nodes=S.nodes/\S.counts=S.counts/\S.used=S.used/\S.gen=S.gen/\S.rel=S.rel/\(True/\True/\True)/\List.replicate S.cap.toNat SlotT.zero=fillS S 0/\o=orderOf S/\(True/\True/\True)/\([]:List SlotT)=[]/\([]:List Int)=[]/\True)/\(exW S/\(0<=S.cap/\S.cap<=S.cap/\S.cap*(↑(bytesOf C0 EC.slot):Int)<=140737488355328/\1<=S.used.length/\S.used.length<=65537/\S.rel.length<=65537/\0<=S.fresh/\S.fresh<=(S.used.length:Int)-1/\∀ o:List Int,o=orderL S.used S.rel S.fresh->∃ x:Unit,True/\(True/\True/\True/\True)/\(True/\True/\True/\VW (S.reads)=VW (S.reads)/\True)/\(True/\True/\True/\VU (S.fresh)=VU (S.fresh)/\True)/\S.nodes=S.nodes/\S.counts=S.counts/\S.used=S.used/\S.gen=S.gen/\S.rel=S.rel/\(True/\True/\True)/\List.replicate S.cap.toNat SlotT.zero=fillS S 0/\o=orderOf S/\(True/\True/\True)/\([]:List SlotT)=[]/\([]:List Int)=[]/\True)/\(0<=S.cap/\S.cap<=S.cap/\S.cap*(↑(bytesOf C0 EC.slot):Int)<=140737488355328/\1<=S.used.length/\S.used.length<=65537/\S.rel.length<=65537/\
 0<=S.fresh/\S.fresh<=(S.used.length:Int)-1/\∀ o:List Int,o=orderL S.used S.rel S.fresh->∃ x:Unit,True/\(True/\True/\True/\True)/\(True/\True/\True/\VW (S.reads)=VW (S.reads)/\True)/\(True/\True/\True/\VU (S.fresh)=VU (S.fresh)/\True)/\S.nodes=S.nodes/\S.counts=S.counts/\S.used=S.used/\S.gen=S.gen/\S.rel=S.rel/\(True/\True/\True)/\List.replicate S.cap.toNat SlotT.zero=fillS S 0/\o=orderOf S/\(True/\True/\True)/\([]:List SlotT)=[]/\([]:List Int)=[]/\True)/\1<=S.used.length/\S.used.length<=65537/\S.rel.length<=65537/\0<=S.fresh/\S.fresh<=(S.used.length:Int)-1/\∀ o:List Int,o=orderL S.used S.rel S.fresh->0<=S.cap/\S.cap<=S.cap/\S.cap*(↑(bytesOf C0 EC.slot):Int)<=140737488355328/\∃ x:Unit,True/\(True/\True/\True/\True)/\(True/\True/\True/\VW (S.reads)=VW (S.reads)/\True)/\(True/\True/\True/\VU (S.fresh)=VU (S.fresh)/\True)/\S.nodes=S.nodes/\S.counts=S.counts/\S.used=S.used/\S.gen=S.gen/\S.rel=S.rel/\(True/\True/\True)/\List.replicate S.cap.toNat SlotT.zero=fillS S 0/\o=orderOf S/\(True/\True/\True)/\([]:List SlotT)=[]/\([]:List Int)=[]/\True)/\exW S/\(0<=S.cap/\S.cap<=S.cap/\S.cap*(↑(bytesOf C0 EC.slot):Int)<=140737488355328/\1<=S.used.length/\S.used.length<=65537/\S.rel.length<=65537/\0<=S.fresh/\S.fresh<=(S.used.length:Int)-1/\∀ o:List Int,o=orderL S.used S.rel S.fresh->∃ x:Unit,True/\(True/\True/\True/\True)/\(True/\True/\True/\VW (S.reads)=VW (S.reads)/\True)/\(True/\True/\True/\VU (S.fresh)=VU (S.fresh)/\True)/\S.nodes=S.nodes/\S.counts=S.counts/\S.used=S.used/\S.gen=S.gen/\S.rel=S.rel/\
 (True/\True/\True)/\List.replicate S.cap.toNat SlotT.zero=fillS S 0/\o=orderOf S/\(True/\True/\True)/\([]:List SlotT)=[]/\([]:List Int)=[]/\True)/\1<=S.used.length/\S.used.length<=65537/\S.rel.length<=65537/\0<=S.fresh/\S.fresh<=(S.used.length:Int)-1/\∀ o:List Int,o=orderL S.used S.rel S.fresh->0<=S.cap/\S.cap<=S.cap/\S.cap*(↑(bytesOf C0 EC.slot):Int)<=140737488355328/\∃ x:Unit,True/\(True/\True/\True/\True)/\(True/\True/\True/\VW (S.reads)=VW (S.reads)/\True)/\(True/\True/\True/\VU (S.fresh)=VU (S.fresh)/\True)/\S.nodes=S.nodes/\S.counts=S.counts/\S.used=S.used/\S.gen=S.gen/\S.rel=S.rel/\(True/\True/\True)/\List.replicate S.cap.toNat SlotT.zero=fillS S 0/\o=orderOf S/\(True/\True/\True)/\([]:List SlotT)=[]/\([]:List Int)=[]/\True)/\∀ x:Unit,True->(∃ x1:XDu S,True/\(True/\True/\True/\(VI ((↑(fillS S 0).length:Int)))=(VI ((↑(fillS S 0).length:Int)))/\VI 0=(VI (x1.i:Int))/\True)/\(True/\True/\True/\VW (S.reads)=VW (S.reads)/\True)/\(True/\True/\True/\VU (S.fresh)=VU (S.fresh)/\True)/\S.nodes=S.nodes/\S.counts=S.counts/\S.used=S.used/\S.gen=S.gen/\S.rel=S.rel/\(True/\True/\True)/\fillS S 0=fillS S x1.i/\orderOf S=orderOf S/\(True/\True/\True)/\([]:List SlotT)=[]/\([]:List Int)=[]/\True)/\∀ x1:XDu S,True->brS (decide ((x1.i:Int)<(↑(fillS S 0).length:Int))) (0<=IntKind.u32.wrap (IntKind.i64.wrap ((x1.i:Int)+1))/\IntKind.u32.wrap (IntKind.i64.wrap ((x1.i:Int)+1))<(S.nodes.length:Int)/\0<=IntKind.u32.wrap (IntKind.i64.wrap ((x1.i:Int)+1))/\IntKind.u32.wrap (IntKind.i64.wrap ((x1.i:Int)+1))<4294967296/\
 S.used.length<=65537/\inU (IntKind.u32.wrap (IntKind.i64.wrap ((x1.i:Int)+1)))/\exW S/\inU (IntKind.u32.wrap (IntKind.i64.wrap ((x1.i:Int)+1)))/\exW S/\0<=(x1.i:Int)/\(x1.i:Int)<(↑(fillS S x1.i).length:Int)/\∃ x':XDu S,True/\((True/\True/\True/\(VI ((↑(fillS S 0).length:Int)))=(VI ((↑(fillS S 0).length:Int)))/\(VI (IntKind.i64.wrap ((x1.i:Int)+1)))=(VI (x'.i:Int))/\True)/\(True/\True/\True/\VW (S.reads)=VW (S.reads)/\True)/\(True/\True/\True/\VU (S.fresh)=VU (S.fresh)/\True)/\S.nodes=S.nodes/\S.counts=S.counts/\S.used=S.used/\S.gen=S.gen/\S.rel=S.rel/\(True/\True/\True)/\((fillS S x1.i).set (x1.i:Int).toNat { alloc:=S.us (IntKind.u32.wrap (IntKind.i64.wrap ((x1.i:Int)+1))),count:=if S.us (IntKind.u32.wrap (IntKind.i64.wrap ((x1.i:Int)+1)))=true then S.ct (IntKind.u32.wrap (IntKind.i64.wrap ((x1.i:Int)+1))) else 0,gen:=S.gn (IntKind.u32.wrap (IntKind.i64.wrap ((x1.i:Int)+1))),node:=S.nd (IntKind.u32.wrap (IntKind.i64.wrap ((x1.i:Int)+1))):SlotT })=fillS S x'.i/\orderOf S=orderOf S/\(True/\True/\True)/\([]:List SlotT)=[]/\([]:List Int)=[]/\True)/\ncap S-x'.i<ncap S-x1.i) (K (.one (TV.agg [(.slc 7),(.slc 8)])) [(.box [(.ptr 1 0),(.slc 2),(.slc 3),(.val (VW (S.reads)))]),(.box [(.slc 4),(.slc 5),(.slc 6),(.val (VU (S.fresh)))]),(.row true EC.node (S.nodes)),(.row true EC.int (S.counts)),(.row true EC.bool (S.used)),(.row true EC.u32 (S.gen)),(.row true EC.u32 (S.rel)),(.row true EC.slot (fillS S x1.i)),(.row true EC.u32 (orderOf S))] []))=_ by kernel_rfl) ?_
 rw[bytes_slot]
 have hw0:=hw
 obtain⟨hs,hw⟩:=hw
 have hn1:=hw.n1;have hn2:=hw.n2;have hnn:=hw.nnod;have hfr:=hw.fr;have hfree:=hw.free_nonneg
 have hcap:S.cap=(ncap S:Int):=by unfold Arn.cap ncap;omega
 have hc1:(ncap S:Int)+1=S.used.length:=by unfold ncap;omega
 have z1:List.replicate S.cap.toNat SlotT.zero=fillS S 0:=by rw[hcap,← fill_zero];rfl
 refine⟨?_,fun x _=>⟨⟨⟨0,Nat.zero_le _⟩,?_⟩,fun y _=>brS_of (fun c=>?_) fun c=>?_⟩⟩
 ·(repeat' first|exact trivial|exact hw0|exact z1|assumption|exact rfl|omega|refine And.intro ?_ ?_|refine fun o ho=>?_|refine⟨(),?_⟩)
 ·(repeat' first|exact trivial|exact rfl|refine And.intro ?_ ?_)
 ·rw[fill_len S 0 (Nat.zero_le _)] at c
  have c:y.i<ncap S:=by have:=of_decide_eq_true c;omega
  rw[wrap_id (x:=(y.i:Int)+1) (by omega) (by omega),wrap_u32 (by omega) (by omega)]
  refine⟨by omega,by omega,by omega,by omega,hn2,⟨by omega,by omega⟩,hw0,⟨by omega,by omega⟩,hw0,by omega,by rw[fill_len S y.i y.h];omega,⟨y.i+1,c⟩,trivial,⟨⟨trivial,trivial,trivial,rfl,by congr 1,trivial⟩,⟨trivial,trivial,trivial,rfl,trivial⟩,⟨trivial,trivial,trivial,rfl,trivial⟩,rfl,rfl,rfl,rfl,rfl,⟨trivial,trivial,trivial⟩,fill_next S c,rfl,⟨trivial,trivial,trivial⟩,rfl,rfl,trivial⟩,?_⟩
  show ncap S-(y.i+1)<_;omega
 ·rw[fill_len S 0 (Nat.zero_le _)] at c
  have c:y.i=ncap S:=by have:=of_decide_eq_false c;have:=y.h;omega
  exact h _ _ (by rw[c,fill_all]) rfl
theorem s_dump:SoundT C0 17 tDump:=by
 refine .of Tryz.func17 (by decide) rfl fun args H K h hB=>?_
 unfold tDump at h
 split at h<;>try exact h.elim
 unfold arM at h
 split at h<;>try exact h.elim
 rename_i rd fr nd ct us gn rl
 exact⟨aDump ⟨us,gn,rl,fr,nd,ct,rd⟩,⟨frame C0.ok s_cap _,frame C0.ok s_order _,frame C0.ok s_slAllocated _,frame C0.ok s_count _,frame C0.ok s_gen _,trivial⟩,vc_dump ⟨us,gn,rl,fr,nd,ct,rd⟩ K h.1 h.2⟩
end Go.Proofs.YtedfbafngmicpaaGreat.Sx
end
