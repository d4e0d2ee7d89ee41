/- A part of the proof. -/
import Derived.Test.YtedfbafngmicpaaGreatG6
import Derived.Test.YtedfbafngmicpaaGreatG5
section
/- reserve, ref8: how many slots an operation may need; lookup.Get. -/
namespace Go.Proofs.YtedfbafngmicpaaGreat.Sx
open Go

/-KEEP okI Wf exW inU live Rep rdS Tr.size Tr.list getE Asc ht wt Hn-/
theorem htr_size:∀ t:Tr,ht t<=t.size
 | .nil=>Nat.le_refl _
 | .node l k v r=>by
  have h1:=htr_size l
  have h2:=htr_size r
  rw[ht,Tr.size]
  split<;>omega
structure XGe (S:Arn) (t:Tr) (q:Int) where
 i:Int
 t':Tr
 m:Nat
 h:Rep S t' i/\getE t.list q=getE t'.list q/\Asc t'.list/\m+ht t'<=ht t/\t'.size<=t.size
noncomputable def aGetT (S:Arn)(t:Tr)(q:Int):Ann C0:={ Γ:=[(86,frameT [] tNode)],inv:=fun n=>match n with
 | 2=>some { X:=XGe S t q,sl:=[8],tf:=fun x=>[vi .u32 x.i],hf:=fun x=>chS (rdS S x.m),μ:=fun x=>x.t'.size,wr:=[0] }
 | _=>none }
def tGetT:Tfm C0:=fun args H K=>match args with
 | [.at (.ptr 0 0),.at (.val (.int .u32 i)),.at (.val (.int .i64 q))]=>arM H fun S=>∃ hs t,Wf S hs/\Rep S t i/\Asc t.list/\t.size<=1000000/\S.reads+t.size<=3000000000000000000 ∧
  ∀ S' m o,S'=rdS S m->m<=ht t->o=getE t.list q->K (.tup [.at (vI (o.getD 0)),.at (vB o.isSome)]) (chS S') [0]
 | _=>False
structure XMx (n:Int) where
 h:Nat
 p:h<=80/\wt h<=n+1
noncomputable def aMxh (n:Int):Ann C0:={ Γ:=[],inv:=fun k=>match k with
 | 4=>some { X:=XMx n,sl:=[3,4],tf:=fun x=>[vi .i64 x.h,vi .i64 (wt x.h)],hf:=fun _=>[],μ:=fun x=>80-x.h }
 | _=>none }
def tMxh:Tfm C0:=fun args H K=>match args,H with
 | [.at (.val (.int .i64 n))],[]=>0<=n/\n<=1000000/\∀ h,h=Hn n->K (.one (.at (vI h))) [] []
 | _,_=>False
def okI (l:List Int):Prop:=∀ i:Nat,i<l.length->0<=l.getD i 0/\l.getD i 0<=65536
structure XVd (l:List Int) where
 i:Nat
 h:i<=l.length
noncomputable def aVld (l:List Int):Ann C0:={ Γ:=[],inv:=fun k=>match k with
 | 2=>some { X:=XVd l,sl:=[7],tf:=fun x=>[vi .i64 x.i],hf:=fun _=>[.row false EC.int l],μ:=fun x=>l.length-x.i }
 | _=>none }
def tVld:Tfm C0:=fun args H K=>match args,H with
 | [.at (.slc 0)],[.row false .int l]=>okI l/\l.length<=100/\K (.one (.at (vB true))) [.row false EC.int l] []
 | _,_=>False
noncomputable def aPath:Ann C0:={ Γ:=[(121,frameT [] tMxh)] }
def tPath:Tfm C0:=fun args H K=>match args,H with
 | [.at (.val (.int .i64 f)),.at (.val (.int .i64 n))],[]=>0<=f/\f<=100/\0<=n/\n<=1000000/\∀ p,p=f*(Hn n+2)->K (.one (.at (vI p))) [] []
 | _,_=>False
noncomputable def aRes:Ann C0:={ Γ:=[(88,frameT [] tVld),(89,frameT [] tPath)] }
def tRes1 (f d:Int):Tfm C0:=fun args H K=>match args,H with
 | [.at (.val (.int .i64 n))],[]=>0<=n/\n<=65536/\∀ p,p=f*(Hn (n+d)+2)->K (.one (.at (vI p))) [] []
 | _,_=>False
noncomputable def aNeed:Ann C0:={ Γ:=[(100,frameT [] tMh)] }
def tNeed:Tfm C0:=fun args H K=>match args,H with
 | [.at (.val (.int .i64 a)),.at (.val (.int .i64 b)),.at (.val (.int .i64 c)),.at (.val (.int .i64 m)),.at (.val (.int .i64 e)),.at (.val (.int .i64 f))],[]=>0<=a/\a<=65536/\0<=b/\b<=65536/\0<=c/\c<=65536/\0<=m/\m<=10/\0<=e/\e<=200000/\0<=f/\f<=100/\∀ p,p=e+f*(Hn (a+b+c+m)+2)->K (.one (.at (vI p))) [] []
 | _,_=>False
noncomputable def aN8:Ann C0:={ Γ:=[(52,frameT [] tNeed)] }
theorem vc_getT (S:Arn)(i q:Int)(K:KT)(hs:List Int)(t:Tr)(hw:Wf S hs)(hr:Rep S t i)(ha:Asc t.list)(_:t.size<=1000000)(h2:S.reads+t.size<=3000000000000000000)(h:∀ S' m o,S'=rdS S m->m<=ht t->o=getE t.list q->K (.tup [.at (vI (o.getD 0)),.at (vB o.isSome)]) (chS S') [0]) :
  vc C0 (aGetT S t q) Tryz.f42 [.at (.ptr 0 0),.at (vU i),.at (vI q)] (chS S) (normK 7 (wideK [0] K)):=by
 refine Eq.mp (show ((∃ x:XGe S t q,True/\(True/\VI (q)=VI (q)/\VU (i)=VU (x.i)/\True)/\(True/\True/\True/\(VW (S.reads))=(VW ((rdS S x.m).reads))/\True)/\(True/\True/\True/\(VU (S.fresh))=(VU ((rdS S x.m).fresh))/\True)/\S.nodes=((rdS S x.m).nodes)/\S.counts=((rdS S x.m).counts)/\S.used=((rdS S x.m).used)/\S.gen=((rdS S x.m).gen)/\S.rel=((rdS S x.m).rel)/\True)/\∀ x:XGe S t q,True->brS (x.i != 0) (inU x.i/\exW (rdS S x.m)/\(rdS S x.m).reads<4000000000000000000/\∀ S':Arn,S'=(rdS (rdS S x.m) ((rdS S x.m).us x.i).toNat)->brS (!(rdS S x.m).us x.i) (K (.tup [(.at (.val (VI 0))),(.at (.val (Value.bool false)))]) [(.box [(.ptr 1 0),(.slc 2),(.slc 3),(.val (VW (S'.reads)))]),(.box [(.slc 4),(.slc 5),(.slc 6),(.val (VU (S'.fresh)))]),(.row true EC.node (S'.nodes)),(.row true EC.int (S'.counts)),(.row true EC.bool (S'.used)),(.row true EC.u32 (S'.gen)),(.row true EC.u32 (S'.rel))] [0]) (brS (decide (q<((rdS S x.m).nd x.i).key)) (∃ x':XGe S t q,True/\((True/\VI (q)=VI (q)/\(VU (((rdS S x.m).nd x.i).left))=(VU (x'.i))/\True)/\(True/\True/\True/\(VW (S'.reads))=(VW ((rdS S x'.m).reads))/\True)/\(True/\True/\True/\(VU (S'.fresh))=(VU ((rdS S x'.m).fresh))/\True)/\S'.nodes=((rdS S x'.m).nodes)/\S'.counts=((rdS S x'.m).counts)/\S'.used=((rdS S x'.m).used)/\S'.gen=((rdS S x'.m).gen)/\S'.rel=((rdS S x'.m).rel)/\True)/\x'.t'.size<x.t'.size) (brS (decide (q>((rdS S x.m).nd x.i).key)) (∃ x':XGe S t q,True/\((True/\VI (q)=VI (q)/\(VU (((rdS S x.m).nd x.i).right))=(VU (x'.i))/\True)/\(True/\True/\True/\(VW (S'.reads))=(VW ((rdS S x'.m).reads))/\
 True)/\(True/\True/\True/\(VU (S'.fresh))=(VU ((rdS S x'.m).fresh))/\True)/\S'.nodes=((rdS S x'.m).nodes)/\S'.counts=((rdS S x'.m).counts)/\S'.used=((rdS S x'.m).used)/\S'.gen=((rdS S x'.m).gen)/\S'.rel=((rdS S x'.m).rel)/\True)/\x'.t'.size<x.t'.size) (K (.tup [(.at (.val (VI (((rdS S x.m).nd x.i).value)))),(.at (.val (Value.bool true)))]) [(.box [(.ptr 1 0),(.slc 2),(.slc 3),(.val (VW (S'.reads)))]),(.box [(.slc 4),(.slc 5),(.slc 6),(.val (VU (S'.fresh)))]),(.row true EC.node (S'.nodes)),(.row true EC.int (S'.counts)),(.row true EC.bool (S'.used)),(.row true EC.u32 (S'.gen)),(.row true EC.u32 (S'.rel))] [0])))) (K (.tup [(.at (.val (VI 0))),(.at (.val (Value.bool false)))]) [(.box [(.ptr 1 0),(.slc 2),(.slc 3),(.val (VW ((rdS S x.m).reads)))]),(.box [(.slc 4),(.slc 5),(.slc 6),(.val (VU ((rdS S x.m).fresh)))]),(.row true EC.node ((rdS S x.m).nodes)),(.row true EC.int ((rdS S x.m).counts)),(.row true EC.bool ((rdS S x.m).used)),(.row true EC.u32 ((rdS S x.m).gen)),(.row true EC.u32 ((rdS S x.m).rel))] [0]))=_ by kernel_rfl) ?_
 have hrd:=hw.rds
 have hts:=htr_size t
 refine⟨⟨⟨i,t,0,hr,rfl,ha,by omega,Nat.le_refl _⟩,?_⟩,fun x _=>?_⟩
 ·(repeat' first|exact trivial|exact rfl|refine And.intro ?_ ?_)
  rw[rdS_zero]
 obtain⟨xi,xt,xm,h1',h2',h3',h4',h5'⟩:=x
 dsimp only
 have hwx:Wf (rdS S xm) hs:=hw.rd (by omega)
 refine brS_of (fun c=>?_) fun c=>?_
 ·have c:xi≠0:=by simpa using c
  cases xt with
  | nil=>exact absurd h1' c
  | node l k v r =>
   obtain⟨r1,r2,r3,r4,r5⟩:=h1'
   have q1:=ht_l l r k v
   have q2:=ht_r l r k v
   have hsz:l.size+r.size+1=(Tr.node l k v r).size:=by simp[Tr.size];omega
   have asc':Asc (l.list++(k,v)::r.list):=h3'
   obtain⟨al,ar,_,_⟩:=asc_parts asc'
   refine⟨inU_of hw (.inr r1),⟨_,hwx⟩,by show S.reads+(xm:Int)<_;omega,fun S1 e1=>brS_of (fun d=>?_) fun _=>?_⟩
   ·have d:(!S.us xi)=true:=d
    rw[r1] at d;cases d
   have e1:S1=rdS S (xm+1):=by rw[e1,rdS_rdS];show rdS S (xm+(S.us xi).toNat)=_;rw[r1];rfl
   subst e1
   have ek:((rdS S xm).nd xi).key=k:=r2
   have ev:((rdS S xm).nd xi).value=v:=r3
   rw[ek]
   refine brS_of (fun d=>?_) fun d=>brS_of (fun d2=>?_) fun d2=>?_
   ·have d:q<k:=of_decide_eq_true d
    refine⟨⟨(S.nd xi).left,l,xm+1,r4,by rw[h2'];exact getE_left asc' d,al,by omega,by omega⟩,?_⟩
    (repeat' first|exact trivial|exact rfl|refine And.intro ?_ ?_)
    show l.size<(Tr.node l k v r).size;omega
   ·have d2:k<q:=of_decide_eq_true d2
    refine⟨⟨(S.nd xi).right,r,xm+1,r5,by rw[h2'];exact getE_right asc' d2,ar,by omega,by omega⟩,?_⟩
    (repeat' first|exact trivial|exact rfl|refine And.intro ?_ ?_)
    show r.size<(Tr.node l k v r).size;omega
   ·have d:¬ q<k:=of_decide_eq_false d
    have d2:¬ k<q:=of_decide_eq_false d2
    have eq:k=q:=by omega
    subst eq
    rw[ev]
    exact h _ (xm+1) (some v) rfl (by omega) (by rw[h2'];exact (getE_at asc').symm)
 ·have c:xi=0:=by simpa using c
  subst c
  have e:=h1'.zero hw
  subst e
  exact h _ xm none rfl (by omega) (by rw[h2'];rfl)
theorem s_getT:SoundT C0 42 tGetT:=by
 refine .ofW [0] Tryz.func42 (by decide) rfl fun args H K h hB=>?_
 unfold tGetT at h
 split at h<;>try exact h.elim
 unfold arM at h
 split at h<;>try exact h.elim
 rename_i i q _ rd fr nd ct us gn rl
 obtain⟨hs,t,h1,h2,h3,h4,h5,h6⟩:=h
 exact⟨aGetT ⟨us,gn,rl,fr,nd,ct,rd⟩ t q,⟨frame C0.ok s_node _,trivial⟩,vc_getT ⟨us,gn,rl,fr,nd,ct,rd⟩ i q K hs t h1 h2 h3 h4 h5 h6⟩
theorem tdiv3 {x:Int}(h:0<=x):x.tdiv 3=x / 3:=Int.tdiv_eq_ediv_of_nonneg h
theorem Hn_top {n:Int}(h:0<=n){k:Nat}(h1:k<=80)(h2:wt k<=n+1)(h3:k=80∨n+1<wt (k+1)):(k:Int)=Hn n:=by
 have e:=gN_size n.toNat
 rw[show ((n.toNat:Nat):Int)=n by omega] at e
 have a:=gN_le (w:=n.toNat+1) h1 (by omega)
 have b:=gN_wt (w:=n.toNat+1) (by omega)
 have c:=gN_rng (n.toNat+1)
 rcases h3 with h3|h3
 ·omega
 ·by_cases d:k+1<=gN (n.toNat+1)
  ·have:=wt_mono d c;omega
  ·omega
theorem vc_mxh (n:Int)(K:KT)(h1:0<=n)(h2:n<=1000000)(h:∀ h,h=Hn n->K (.one (.at (vI h))) [] []):vc C0 (aMxh n) Tryz.f121 [.at (vI n)] [] (normK 0 K):=by
 refine Eq.mp (show (brS (decide (n<0)) (K (.one (.at (.val (VI (-1))))) [] []) (brS (decide (n>2147483647)) (K (.one (.at (.val (VI (-1))))) [] []) ((∃ x:XMx n,True/\(VI (n)=VI (n)/\VI 0=(VI (x.h:Int))/\VI 1=(VI (wt x.h))/\True)/\True)/\∀ x:XMx n,True->brS (decide ((x.h:Int)<80)) (brS (decide (IntKind.i64.wrap (IntKind.i64.wrap (wt x.h+IntKind.i64.wrap ((IntKind.i64.wrap (wt x.h+2)).tdiv 3))-1)>n)) (K (.one (.at (.val (VI (x.h:Int))))) [] []) (∃ x':XMx n,True/\((VI (n)=VI (n)/\(VI (IntKind.i64.wrap ((x.h:Int)+1)))=(VI (x'.h:Int))/\(VI (IntKind.i64.wrap (wt x.h+IntKind.i64.wrap ((IntKind.i64.wrap (wt x.h+2)).tdiv 3))))=(VI (wt x'.h))/\True)/\True)/\80-x'.h<80-x.h)) (K (.one (.at (.val (VI (x.h:Int))))) [] []))))=_ by kernel_rfl) ?_
 refine brS_of (fun c=>by have:=of_decide_eq_true c;omega) fun _=>brS_of (fun c=>by have:n>2147483647:=of_decide_eq_true c;omega) fun _=>⟨⟨⟨0,by decide,by rw[w0];omega⟩,?_⟩,fun x _=>brS_of (fun c=>?_) fun c=>?_⟩
 ·(repeat' first|exact trivial|exact rfl|refine And.intro ?_ ?_)
 ·obtain⟨k,p1,p2⟩:=x
  have c:(k:Int)<80:=of_decide_eq_true c
  have c:k<80:=by omega
  have st:=wt_step k c
  have lo:1<=wt k:=by have:=wt_mono (Nat.zero_le k) p1;rw[w0] at this;exact this
  dsimp only
  rw[wrap_id (x:=wt k+2) (by omega) (by omega),tdiv3 (by omega),wrap_id (x:=(wt k+2) / 3) (by omega) (by omega),wrap_id (x:=wt k+(wt k+2) / 3) (by omega) (by omega),wrap_id (x:=wt k+(wt k+2) / 3-1) (by omega) (by omega),← st]
  refine brS_of (fun d=>?_) fun d=>?_
  ·have d:wt (k+1)-1>n:=of_decide_eq_true d
   exact h _ (Hn_top h1 p1 p2 (.inr (by omega)))
  ·have d:¬ wt (k+1)-1>n:=of_decide_eq_false d
   refine⟨⟨k+1,c,by omega⟩,?_⟩
   (repeat' first|exact trivial|exact rfl|refine And.intro ?_ ?_)
   ·rw[wrap_id (x:=(k:Int)+1) (by omega) (by omega)];congr 1
   ·show 80-(k+1)<80-k;omega
 ·obtain⟨k,p1,p2⟩:=x
  have c:¬ (k:Int)<80:=of_decide_eq_false c
  have c:k=80:=by omega
  exact h _ (Hn_top h1 p1 p2 (.inl c))
theorem s_mxh:SoundT C0 121 tMxh:=by
 refine .of Tryz.func121 (by decide) rfl fun args H K h hB=>?_
 unfold tMxh at h
 split at h<;>try exact h.elim
 rename_i n
 exact⟨aMxh n,trivial,vc_mxh n K h.1 h.2.1 h.2.2⟩
theorem vc_vld (l:List Int)(K:KT)(h1:okI l)(h2:l.length<=100)(h:K (.one (.at (vB true))) [.row false EC.int l] []):vc C0 (aVld l) Tryz.f88 [.at (.slc 0)] [.row false EC.int l] (normK 1 K):=by
 refine Eq.mp (show ((∃ x:XVd l,True/\(True/\VI (l.length:Int)=VI (l.length:Int)/\VI 0=(VI (x.i:Int))/\True)/\l=l/\True)/\∀ x:XVd l,True->brS (decide ((x.i:Int)<(l.length:Int))) (0<=(x.i:Int)/\(x.i:Int)<(l.length:Int)/\brS (decide (l.getD (x.i:Int).toNat 0<0)) (K (.one (.at (.val (Value.bool false)))) [(.row false EC.int (l))] []) (brS (decide (l.getD (x.i:Int).toNat 0>65536)) (K (.one (.at (.val (Value.bool false)))) [(.row false EC.int (l))] []) (∃ x':XVd l,True/\((True/\VI (l.length:Int)=VI (l.length:Int)/\(VI (IntKind.i64.wrap ((x.i:Int)+1)))=(VI (x'.i:Int))/\True)/\l=l/\True)/\l.length-x'.i<l.length-x.i))) (K (.one (.at (.val (Value.bool true)))) [(.row false EC.int (l))] []))=_ by kernel_rfl) ?_
 refine⟨⟨⟨0,Nat.zero_le _⟩,?_⟩,fun x _=>brS_of (fun c=>?_) fun c=>h⟩
 ·(repeat' first|exact trivial|exact rfl|refine And.intro ?_ ?_)
 ·obtain⟨i,hi⟩:=x
  have c:(i:Int)<l.length:=of_decide_eq_true c
  have c:i<l.length:=by omega
  obtain⟨a,b⟩:=h1 i c
  refine⟨by omega,by omega,brS_of (fun d=>?_) fun _=>brS_of (fun d=>?_) fun _=>⟨⟨i+1,c⟩,?_⟩⟩
  ·have d:l.getD i 0<0:=of_decide_eq_true d
   omega
  ·have d:l.getD i 0>65536:=of_decide_eq_true d
   omega
  ·(repeat' first|exact trivial|exact rfl|refine And.intro ?_ ?_)
   ·rw[wrap_id (x:=(i:Int)+1) (by omega) (by omega)];congr 1
   ·show l.length-(i+1)<l.length-i;omega
theorem s_vld:SoundT C0 88 tVld:=by
 refine .of Tryz.func88 (by decide) rfl fun args H K h hB=>?_
 unfold tVld at h
 split at h<;>try exact h.elim
 rename_i l
 exact⟨aVld l,trivial,vc_vld l K h.1 h.2.1 h.2.2⟩
theorem s_path:SoundT C0 89 tPath:=by
 refine .of Tryz.func89 (by decide) rfl fun args H K h hB=>?_
 unfold tPath at h
 split at h<;>try exact h.elim
 rename_i f n
 obtain⟨h1,h2,h3,h4,h5⟩:=h
 refine⟨aPath,⟨frame C0.ok s_mxh _,trivial⟩,Eq.mp (show (0<=n/\n<=1000000/\∀ h:Int,h=Hn n->K (.one (.at (.val (VI (IntKind.i64.wrap (f*IntKind.i64.wrap (h+2))))))) [] [])=_ by kernel_rfl) ⟨h3,h4,fun p e=>?_⟩⟩
 have r:=Hn_rng n
 subst e
 have hb:f*(Hn n+2)<=100*82:=Int.mul_le_mul h2 (by omega) (by omega) (by omega)
 have ha:0<=f*(Hn n+2):=Int.mul_nonneg h1 (by omega)
 rw[wrap_id (x:=Hn n+2) (by omega) (by omega),wrap_id (x:=f*(Hn n+2)) (by omega) (by omega)]
 exact h5 _ rfl
theorem okI_one {n:Int}(h1:0<=n)(h2:n<=65536):okI [n]:=by
 intro i hi
 have:i=0:=by simpa using hi
 subst this
 exact⟨h1,h2⟩
theorem s_rIns:SoundT C0 45 (tRes1 4 1):=by
 refine .of Tryz.func45 (by decide) rfl fun args H K h hB=>?_
 unfold tRes1 at h
 split at h<;>try exact h.elim
 rename_i n
 obtain⟨h1,h2,h3⟩:=h
 refine⟨aRes,⟨frame C0.ok s_vld _,frame C0.ok s_path _,trivial⟩,Eq.mp (show (okI [n]/\[n].length<=100/\(0:Int)<=4/\(4:Int)<=100/\0<=IntKind.i64.wrap (n+1)/\IntKind.i64.wrap (n+1)<=1000000/\∀ p:Int,p=(4*(Hn (IntKind.i64.wrap (n+1))+2))->K (.one (.at (.val (VI (p))))) [] [])=_ by kernel_rfl) ?_⟩
 rw[wrap_id (x:=n+1) (by omega) (by omega)]
 exact⟨okI_one h1 h2,by simp,by decide,by decide,by omega,by omega,h3⟩
theorem s_need:SoundT C0 52 tNeed:=by
 refine .of Tryz.func52 (by decide) rfl fun args H K h hB=>?_
 unfold tNeed at h
 split at h<;>try exact h.elim
 rename_i a b c m e f
 obtain⟨a1,a2,b1,b2,c1,c2,m1,m2,e1,e2,f1,f2,h⟩:=h
 refine⟨aNeed,⟨frame C0.ok s_mh _,trivial⟩,Eq.mp (show (brS (decide (a<0)) (K (.one (.at (.val (VI (-1))))) [] []) (brS (decide (a>65536)) (K (.one (.at (.val (VI (-1))))) [] []) (brS (decide (b<0)) (K (.one (.at (.val (VI (-1))))) [] []) (brS (decide (b>65536)) (K (.one (.at (.val (VI (-1))))) [] []) (brS (decide (c<0)) (K (.one (.at (.val (VI (-1))))) [] []) (brS (decide (c>65536)) (K (.one (.at (.val (VI (-1))))) [] []) (0<=IntKind.i64.wrap (IntKind.i64.wrap (IntKind.i64.wrap (a+b)+c)+m)/\IntKind.i64.wrap (IntKind.i64.wrap (IntKind.i64.wrap (a+b)+c)+m)<=2147483647/\∀ h:Int,h=(Hn (IntKind.i64.wrap (IntKind.i64.wrap (IntKind.i64.wrap (a+b)+c)+m)))->K (.one (.at (.val (VI (IntKind.i64.wrap (e+IntKind.i64.wrap (f*IntKind.i64.wrap (h+2)))))))) [] [])))))))=_ by kernel_rfl) ?_⟩
 rw[wrap_id (x:=a+b) (by omega) (by omega),wrap_id (x:=a+b+c) (by omega) (by omega),wrap_id (x:=a+b+c+m) (by omega) (by omega)]
 refine brS_of (fun q=>by have:=of_decide_eq_true q;omega) fun _=>brS_of (fun q=>by have:a>65536:=of_decide_eq_true q;omega) fun _=>brS_of (fun q=>by have:=of_decide_eq_true q;omega) fun _=>brS_of (fun q=>by have:b>65536:=of_decide_eq_true q;omega) fun _ =>
  brS_of (fun q=>by have:=of_decide_eq_true q;omega) fun _=>brS_of (fun q=>by have:c>65536:=of_decide_eq_true q;omega) fun _=>⟨by omega,by omega,fun p ep=>?_⟩
 have r:=Hn_rng (a+b+c+m)
 subst ep
 have hb:f*(Hn (a+b+c+m)+2)<=100*82:=Int.mul_le_mul f2 (by omega) (by omega) (by omega)
 have ha:0<=f*(Hn (a+b+c+m)+2):=Int.mul_nonneg f1 (by omega)
 rw[wrap_id (x:=Hn (a+b+c+m)+2) (by omega) (by omega),wrap_id (x:=f*(Hn (a+b+c+m)+2)) (by omega) (by omega),wrap_id (by omega) (by omega)]
 exact h _ rfl
theorem s_nIns:SoundT C0 14 (tRes1 4 1):=by
 refine .of Tryz.func14 (by decide) rfl fun args H K h hB=>?_
 unfold tRes1 at h
 split at h<;>try exact h.elim
 rename_i n
 obtain⟨h1,h2,h3⟩:=h
 refine⟨aN8,⟨frame C0.ok s_need _,trivial⟩,Eq.mp (show (0<=n/\n<=65536/\(0:Int)<=0/\(0:Int)<=65536/\(0:Int)<=0/\(0:Int)<=65536/\(0:Int)<=1/\(1:Int)<=10/\(0:Int)<=0/\(0:Int)<=200000/\(0:Int)<=4/\(4:Int)<=100/\∀ p:Int,p=(0+4*(Hn (n+0+0+1)+2))->K (.one (.at (.val (VI (p))))) [] [])=_ by kernel_rfl) ?_⟩
 exact⟨h1,h2,by decide,by decide,by decide,by decide,by decide,by decide,by decide,by decide,by decide,by decide,fun p e=>h3 p (by rw[e];simp)⟩
end Go.Proofs.YtedfbafngmicpaaGreat.Sx
end
section
/- The first and the last entry of a tree. -/
namespace Go.Proofs.YtedfbafngmicpaaGreat.Sx
open Go

/-KEEP Wf exW inU live Arn.cap Arn.free Rep rdS Tr.size Tr.list ht entO List.head? List.getLast?-/
def tEvery:Tfm C0:=fun args H K=>match args,H with
 | [.at (.val (.int .i64 _))],[]=>K (.one (.at (vB true))) [] []
 | _,_=>False
theorem s_every:SoundT C0 144 tEvery:=by
 refine .of Tryz.func144 (by decide) rfl fun args H K h hB=>⟨A0,trivial,?_⟩
 unfold tEvery at h
 split at h<;>try exact h.elim
 exact Eq.mp (show _=_ by kernel_rfl) h
structure XNfst (S:Arn) (t:Tr) where
 i:Int
 t':Tr
 b:Option Ent
 m:Nat
 h:Rep S t' i/\(t'.list.head?).or b=t.list.head?/\m+ht t'<=ht t/\t'.size<=t.size
theorem step_fst (l r:Tr)(k v:Int)(b:Option Ent):((Tr.node l k v r).list.head?).or b=(l.list.head?).or (some (k,v)):=by
 have e:(Tr.node l k v r).list=l.list++(k,v)::r.list:=rfl
 rw[e]
 cases l.list<;>simp
noncomputable def aNfst (S:Arn)(t:Tr):Ann C0:={ Γ:=[(86,frameT [] tNode),(144,frameT [] tEvery),(148,frameT [] tEntry)],inv:=fun n=>match n with
 | 4=>some { X:=XNfst S t,sl:=[10,9,8,6],tf:=fun x=>[vi .u32 x.i,vb x.b.isSome,.one (.at (.ptr 7 0)),.one (.at (.ptr 8 0))],hf:=fun x=>chS (rdS S x.m)++[.box [vI (x.b.getD (0,0)).1,vI (x.b.getD (0,0)).2],.box [vI 0,vI 0]],μ:=fun x=>x.t'.size,wr:=[0] }
 | _=>none }
def tNfst:Tfm C0:=fun args H K=>match args with
 | [.at (.ptr 0 0),.at (.val (.int .u32 i)),.at (.fn 144 [])]=>arM H fun S=>∃ hs t,Wf S hs/\Rep S t i/\t.size<=1000000/\S.reads+t.size<=3000000000000000000 ∧
  ∀ S' m o,S'=rdS S m->m<=ht t->o=t.list.head?->K (.tup [entO o,.at (vB o.isSome)]) (chS S') [0]
 | _=>False
noncomputable def aLfst:Ann C0:={ Γ:=[(143,frameT [] tNfst)] }
def tLfst:Tfm C0:=fun args H K=>match args with
 | [.at (.ptr 0 0),.at (.val (.int .u32 i))]=>arM H fun S=>∃ hs t,Wf S hs/\Rep S t i/\t.size<=1000000/\S.reads+t.size<=3000000000000000000 ∧
  ∀ S' m o,S'=rdS S m->m<=ht t->o=t.list.head?->K (.tup [entO o,.at (vB o.isSome)]) (chS S') [0]
 | _=>False
theorem vc_nfst (S : Arn) (i : Int) (K : KT) (hs : List Int) (t : Tr) (hw : Wf S hs) (hr : Rep S t i) (_ : t.size ≤ 1000000) (h2 : S.reads + t.size ≤ 3000000000000000000)
    (h : ∀ S' m o, S' = rdS S m → m ≤ ht t → o = t.list.head? → K (.tup [entO o, .at (vB o.isSome)]) (chS S') [0]) :
    vc C0 (aNfst S t) Tryz.f143 [.at (.ptr 0 0), .at (vU i), .at (.fn 144 [])] (chS S) (normK 7 (wideK [0] K)) := by
  refine Eq.mp (show ((∃ x : XNfst S t, (True ∧ (True ∧ ((At.fn 144 []) = (At.fn 144 [])) ∧ True ∧ True ∧ ((Value.bool false) = (Value.bool (x.b.isSome))) ∧ ((Value.int IntKind.u32 (i)) = (Value.int IntKind.u32 (x.i))) ∧ True) ∧ (True ∧ True ∧ True ∧ ((Value.int IntKind.u64 (S.reads)) = (Value.int IntKind.u64 ((rdS S x.m).reads))) ∧ True) ∧ (True ∧ True ∧ True ∧ ((Value.int IntKind.u32 (S.fresh)) = (Value.int IntKind.u32 ((rdS S x.m).fresh))) ∧ True) ∧ ((S.nodes) = ((rdS S x.m).nodes)) ∧ ((S.counts) = ((rdS S x.m).counts)) ∧ ((S.used) = ((rdS S x.m).used)) ∧ ((S.gen) = ((rdS S x.m).gen)) ∧ ((S.rel) = ((rdS S x.m).rel)) ∧ (((Value.int IntKind.i64 0) = (Value.int IntKind.i64 ((x.b.getD (0, 0)).fst))) ∧ ((Value.int IntKind.i64 0) = (Value.int IntKind.i64 ((x.b.getD (0, 0)).snd))) ∧ True) ∧ (((Value.int IntKind.i64 0) = (Value.int IntKind.i64 0)) ∧ ((Value.int IntKind.i64 0) = (Value.int IntKind.i64 0)) ∧ True) ∧ True)) ∧
(∀ x : XNfst S t, (True → (brS (x.i != 0) (((inU x.i) ∧ (exW (rdS S x.m)) ∧ ((rdS S x.m).reads < 4000000000000000000) ∧ (∀ S' : Arn, (((S') = (rdS (rdS S x.m) ((rdS S x.m).us x.i).toNat)) → (brS (!(rdS S x.m).us x.i)
    ((K (SV.tup [(TV.agg [(At.val (Value.int IntKind.i64 ((x.b.getD (0, 0)).fst))), (At.val (Value.int IntKind.i64 ((x.b.getD (0, 0)).snd)))]), (TV.at (At.val (Value.bool (x.b.isSome))))]) [(Chunk.box [(At.ptr 1 0), (At.slc 2), (At.slc 3), (At.val (Value.int IntKind.u64 (S'.reads)))]), (Chunk.box [(At.slc 4), (At.slc 5), (At.slc 6), (At.val (Value.int IntKind.u32 (S'.fresh)))]), (Chunk.row true (EC.node) (S'.nodes)), (Chunk.row true (EC.int) (S'.counts)), (Chunk.row true (EC.bool) (S'.used)), (Chunk.row true (EC.u32) (S'.gen)), (Chunk.row true (EC.u32) (S'.rel))] [0])) ((∃ x' : XNfst S t, (True ∧ ((True ∧ ((At.fn 144 []) = (At.fn 144 [])) ∧ True ∧ True ∧ ((Value.bool true) = (Value.bool (x'.b.isSome))) ∧ ((Value.int IntKind.u32 (((rdS S x.m).nd x.i).left)) = (Value.int IntKind.u32 (x'.i))) ∧ True) ∧ (True ∧ True ∧ True ∧ ((Value.int IntKind.u64 (S'.reads)) = (Value.int IntKind.u64 ((rdS S x'.m).reads))) ∧ True) ∧ (True ∧ True ∧ True ∧ ((Value.int IntKind.u32 (S'.fresh)) = (Value.int IntKind.u32 ((rdS S x'.m).fresh))) ∧ True) ∧ ((S'.nodes) = ((rdS S x'.m).nodes)) ∧ ((S'.counts) = ((rdS S x'.m).counts)) ∧ ((S'.used) = ((rdS S x'.m).used)) ∧ ((S'.gen) = ((rdS S x'.m).gen)) ∧ ((S'.rel) = ((rdS S x'.m).rel)) ∧ (((Value.int IntKind.i64 (((rdS S x.m).nd x.i).key)) = (Value.int IntKind.i64 ((x'.b.getD (0, 0)).fst))) ∧ ((Value.int IntKind.i64 (((rdS S x.m).nd x.i).value)) = (Value.int IntKind.i64 ((x'.b.getD (0, 0)).snd))) ∧ True) ∧
    (((Value.int IntKind.i64 0) = (Value.int IntKind.i64 0)) ∧ ((Value.int IntKind.i64 0) = (Value.int IntKind.i64 0)) ∧ True) ∧ True) ∧ (x'.t'.size < x.t'.size))))))))) ((K (SV.tup [(TV.agg [(At.val (Value.int IntKind.i64 ((x.b.getD (0, 0)).fst))), (At.val (Value.int IntKind.i64 ((x.b.getD (0, 0)).snd)))]), (TV.at (At.val (Value.bool (x.b.isSome))))]) [(Chunk.box [(At.ptr 1 0), (At.slc 2), (At.slc 3), (At.val (Value.int IntKind.u64 ((rdS S x.m).reads)))]), (Chunk.box [(At.slc 4), (At.slc 5), (At.slc 6), (At.val (Value.int IntKind.u32 ((rdS S x.m).fresh)))]), (Chunk.row true (EC.node) ((rdS S x.m).nodes)), (Chunk.row true (EC.int) ((rdS S x.m).counts)), (Chunk.row true (EC.bool) ((rdS S x.m).used)), (Chunk.row true (EC.u32) ((rdS S x.m).gen)), (Chunk.row true (EC.u32) ((rdS S x.m).rel))] [0])))))) = _ by kernel_rfl) ?_
  have hrd := hw.rds
  have hb := htr_size t
  refine ⟨⟨⟨i, t, none, 0, hr, by simp, by omega, Nat.le_refl _⟩, ?_⟩, fun x _ => ?_⟩
  · (repeat' first | exact trivial | exact rfl | refine And.intro ?_ ?_)
    rw [rdS_zero]
  obtain ⟨xi, xt, xb, xm, h1', hb2, h3, h4⟩ := x
  dsimp only
  have hwx : Wf (rdS S xm) hs := hw.rd (by omega)
  refine brS_of (fun c => ?_) fun c => ?_
  · have c : xi ≠ 0 := by simpa using c
    cases xt with
    | nil => exact absurd h1' c
    | node l k v r =>
      obtain ⟨r1, r2, r3, r4, r5⟩ := h1'
      have hsz : l.size + r.size + 1 = (Tr.node l k v r).size := by simp [Tr.size]; omega
      have q1 := ht_l l r k v
      refine ⟨inU_of hw (.inr r1), ⟨_, hwx⟩, by show S.reads + (xm : Int) < _; omega, fun S1 e1 => brS_of (fun d => ?_) fun _ => ?_⟩
      · have d : (!S.us xi) = true := d
        have d : S.us xi = false := by simpa using d
        rw [r1] at d; cases d
      have e1 : S1 = rdS S (xm + 1) := by rw [e1, rdS_rdS]; show rdS S (xm + (S.us xi).toNat) = _; rw [r1]; rfl
      subst e1
      have ek : ((rdS S xm).nd xi).key = k := r2
      have ev : ((rdS S xm).nd xi).value = v := r3
      rw [ek, ev]
      refine ⟨⟨(S.nd xi).left, l, some (k, v), xm + 1, r4, by rw [← hb2, step_fst], by omega, by omega⟩, ?_⟩
      (repeat' first | exact trivial | exact rfl | refine And.intro ?_ ?_)
      show l.size < (Tr.node l k v r).size; omega
  · have c : xi = 0 := by simpa using c
    subst c
    have e := h1'.zero hw
    subst e
    exact h _ xm xb rfl (by omega) (by rw [← hb2]; simp [Tr.list])
theorem s_nfst:SoundT C0 143 tNfst:=by
 refine .ofW [0] Tryz.func143 (by decide) rfl fun args H K h hB=>?_
 unfold tNfst at h
 split at h<;>try exact h.elim
 unfold arM at h
 split at h<;>try exact h.elim
 rename_i i _ rd fr nd ct us gn rl
 obtain⟨hs,t,h1,h2,h3,h4,h5⟩:=h
 exact⟨aNfst ⟨us,gn,rl,fr,nd,ct,rd⟩ t,⟨frame C0.ok s_node _,frame C0.ok s_every _,frame C0.ok s_entry _,trivial⟩,vc_nfst ⟨us,gn,rl,fr,nd,ct,rd⟩ i K hs t h1 h2 h3 h4 h5⟩
theorem s_lfst:SoundT C0 132 tLfst:=by
 refine .ofW [0] Tryz.func132 (by decide) rfl fun args H K h hB=>?_
 unfold tLfst at h
 split at h<;>try exact h.elim
 unfold arM at h
 split at h<;>try exact h.elim
 rename_i i _ rd fr nd ct us gn rl
 have key:∀ S:Arn,(∃ hs t,Wf S hs/\Rep S t i/\t.size<=1000000/\S.reads+t.size<=3000000000000000000 ∧
  ∀ S' m o,S'=rdS S m->m<=ht t->o=t.list.head?->K (.tup [entO o,.at (vB o.isSome)]) (chS S') [0])->vc C0 aLfst Tryz.f132 [.at (.ptr 0 0),.at (vU i)] (chS S) (normK 7 (wideK [0] K)):=fun S h=>Eq.mp (show (∃ hs:List Int,∃ t:Tr,Wf S hs/\Rep S t i/\t.size<=1000000/\S.reads+(t.size:Int)<=3000000000000000000/\∀ S':Arn,∀ m:Nat,∀ o:Option Ent,S'=rdS S m->m<=ht t->o=t.list.head?->K (.tup [(TV.agg [(.val (VI ((o.getD (0,0)).fst))),(.val (VI ((o.getD (0,0)).snd)))]),(.at (.val (Value.bool (o.isSome))))]) [(.box [(.ptr 1 0),(.slc 2),(.slc 3),(.val (VW (S'.reads)))]),(.box [(.slc 4),(.slc 5),(.slc 6),(.val (VU (S'.fresh)))]),(.row true EC.node (S'.nodes)),(.row true EC.int (S'.counts)),(.row true EC.bool (S'.used)),(.row true EC.u32 (S'.gen)),(.row true EC.u32 (S'.rel))] [0])=_ by kernel_rfl) h
 exact⟨aLfst,⟨frame C0.ok s_nfst _,trivial⟩,key ⟨us,gn,rl,fr,nd,ct,rd⟩ h⟩
structure XNlst (S:Arn) (t:Tr) where
 i:Int
 t':Tr
 b:Option Ent
 m:Nat
 h:Rep S t' i/\(t'.list.getLast?).or b=t.list.getLast?/\m+ht t'<=ht t/\t'.size<=t.size
theorem step_lst (l r:Tr)(k v:Int)(b:Option Ent):((Tr.node l k v r).list.getLast?).or b=(r.list.getLast?).or (some (k,v)):=by
 have e:(Tr.node l k v r).list=l.list++(k,v)::r.list:=rfl
 rw[e]
 rw[List.getLast?_append,List.getLast?_cons];cases r.list.getLast?<;>simp
noncomputable def aNlst (S:Arn)(t:Tr):Ann C0:={ Γ:=[(86,frameT [] tNode),(144,frameT [] tEvery),(148,frameT [] tEntry)],inv:=fun n=>match n with
 | 4=>some { X:=XNlst S t,sl:=[10,9,8,6],tf:=fun x=>[vi .u32 x.i,vb x.b.isSome,.one (.at (.ptr 7 0)),.one (.at (.ptr 8 0))],hf:=fun x=>chS (rdS S x.m)++[.box [vI (x.b.getD (0,0)).1,vI (x.b.getD (0,0)).2],.box [vI 0,vI 0]],μ:=fun x=>x.t'.size,wr:=[0] }
 | _=>none }
def tNlst:Tfm C0:=fun args H K=>match args with
 | [.at (.ptr 0 0),.at (.val (.int .u32 i)),.at (.fn 144 [])]=>arM H fun S=>∃ hs t,Wf S hs/\Rep S t i/\t.size<=1000000/\S.reads+t.size<=3000000000000000000 ∧
  ∀ S' m o,S'=rdS S m->m<=ht t->o=t.list.getLast?->K (.tup [entO o,.at (vB o.isSome)]) (chS S') [0]
 | _=>False
noncomputable def aLlst:Ann C0:={ Γ:=[(145,frameT [] tNlst)] }
def tLlst:Tfm C0:=fun args H K=>match args with
 | [.at (.ptr 0 0),.at (.val (.int .u32 i))]=>arM H fun S=>∃ hs t,Wf S hs/\Rep S t i/\t.size<=1000000/\S.reads+t.size<=3000000000000000000 ∧
  ∀ S' m o,S'=rdS S m->m<=ht t->o=t.list.getLast?->K (.tup [entO o,.at (vB o.isSome)]) (chS S') [0]
 | _=>False
theorem vc_nlst (S : Arn) (i : Int) (K : KT) (hs : List Int) (t : Tr) (hw : Wf S hs) (hr : Rep S t i) (_ : t.size ≤ 1000000) (h2 : S.reads + t.size ≤ 3000000000000000000)
    (h : ∀ S' m o, S' = rdS S m → m ≤ ht t → o = t.list.getLast? → K (.tup [entO o, .at (vB o.isSome)]) (chS S') [0]) :
    vc C0 (aNlst S t) Tryz.f145 [.at (.ptr 0 0), .at (vU i), .at (.fn 144 [])] (chS S) (normK 7 (wideK [0] K)) := by
  refine Eq.mp (show ((∃ x : XNlst S t, (True ∧ (True ∧ ((At.fn 144 []) = (At.fn 144 [])) ∧ True ∧ True ∧ ((Value.bool false) = (Value.bool (x.b.isSome))) ∧ ((Value.int IntKind.u32 (i)) = (Value.int IntKind.u32 (x.i))) ∧ True) ∧ (True ∧ True ∧ True ∧ ((Value.int IntKind.u64 (S.reads)) = (Value.int IntKind.u64 ((rdS S x.m).reads))) ∧ True) ∧ (True ∧ True ∧ True ∧ ((Value.int IntKind.u32 (S.fresh)) = (Value.int IntKind.u32 ((rdS S x.m).fresh))) ∧ True) ∧ ((S.nodes) = ((rdS S x.m).nodes)) ∧ ((S.counts) = ((rdS S x.m).counts)) ∧ ((S.used) = ((rdS S x.m).used)) ∧ ((S.gen) = ((rdS S x.m).gen)) ∧ ((S.rel) = ((rdS S x.m).rel)) ∧ (((Value.int IntKind.i64 0) = (Value.int IntKind.i64 ((x.b.getD (0, 0)).fst))) ∧ ((Value.int IntKind.i64 0) = (Value.int IntKind.i64 ((x.b.getD (0, 0)).snd))) ∧ True) ∧ (((Value.int IntKind.i64 0) = (Value.int IntKind.i64 0)) ∧ ((Value.int IntKind.i64 0) = (Value.int IntKind.i64 0)) ∧ True) ∧ True)) ∧
(∀ x : XNlst S t, (True → (brS (x.i != 0) (((inU x.i) ∧ (exW (rdS S x.m)) ∧ ((rdS S x.m).reads < 4000000000000000000) ∧ (∀ S' : Arn, (((S') = (rdS (rdS S x.m) ((rdS S x.m).us x.i).toNat)) → (brS (!(rdS S x.m).us x.i)
    ((K (SV.tup [(TV.agg [(At.val (Value.int IntKind.i64 ((x.b.getD (0, 0)).fst))), (At.val (Value.int IntKind.i64 ((x.b.getD (0, 0)).snd)))]), (TV.at (At.val (Value.bool (x.b.isSome))))]) [(Chunk.box [(At.ptr 1 0), (At.slc 2), (At.slc 3), (At.val (Value.int IntKind.u64 (S'.reads)))]), (Chunk.box [(At.slc 4), (At.slc 5), (At.slc 6), (At.val (Value.int IntKind.u32 (S'.fresh)))]), (Chunk.row true (EC.node) (S'.nodes)), (Chunk.row true (EC.int) (S'.counts)), (Chunk.row true (EC.bool) (S'.used)), (Chunk.row true (EC.u32) (S'.gen)), (Chunk.row true (EC.u32) (S'.rel))] [0])) ((∃ x' : XNlst S t, (True ∧ ((True ∧ ((At.fn 144 []) = (At.fn 144 [])) ∧ True ∧ True ∧ ((Value.bool true) = (Value.bool (x'.b.isSome))) ∧ ((Value.int IntKind.u32 (((rdS S x.m).nd x.i).right)) = (Value.int IntKind.u32 (x'.i))) ∧ True) ∧ (True ∧ True ∧ True ∧ ((Value.int IntKind.u64 (S'.reads)) = (Value.int IntKind.u64 ((rdS S x'.m).reads))) ∧ True) ∧ (True ∧ True ∧ True ∧ ((Value.int IntKind.u32 (S'.fresh)) = (Value.int IntKind.u32 ((rdS S x'.m).fresh))) ∧ True) ∧ ((S'.nodes) = ((rdS S x'.m).nodes)) ∧ ((S'.counts) = ((rdS S x'.m).counts)) ∧ ((S'.used) = ((rdS S x'.m).used)) ∧ ((S'.gen) = ((rdS S x'.m).gen)) ∧ ((S'.rel) = ((rdS S x'.m).rel)) ∧ (((Value.int IntKind.i64 (((rdS S x.m).nd x.i).key)) = (Value.int IntKind.i64 ((x'.b.getD (0, 0)).fst))) ∧ ((Value.int IntKind.i64 (((rdS S x.m).nd x.i).value)) = (Value.int IntKind.i64 ((x'.b.getD (0, 0)).snd))) ∧ True) ∧
    (((Value.int IntKind.i64 0) = (Value.int IntKind.i64 0)) ∧ ((Value.int IntKind.i64 0) = (Value.int IntKind.i64 0)) ∧ True) ∧ True) ∧ (x'.t'.size < x.t'.size))))))))) ((K (SV.tup [(TV.agg [(At.val (Value.int IntKind.i64 ((x.b.getD (0, 0)).fst))), (At.val (Value.int IntKind.i64 ((x.b.getD (0, 0)).snd)))]), (TV.at (At.val (Value.bool (x.b.isSome))))]) [(Chunk.box [(At.ptr 1 0), (At.slc 2), (At.slc 3), (At.val (Value.int IntKind.u64 ((rdS S x.m).reads)))]), (Chunk.box [(At.slc 4), (At.slc 5), (At.slc 6), (At.val (Value.int IntKind.u32 ((rdS S x.m).fresh)))]), (Chunk.row true (EC.node) ((rdS S x.m).nodes)), (Chunk.row true (EC.int) ((rdS S x.m).counts)), (Chunk.row true (EC.bool) ((rdS S x.m).used)), (Chunk.row true (EC.u32) ((rdS S x.m).gen)), (Chunk.row true (EC.u32) ((rdS S x.m).rel))] [0])))))) = _ by kernel_rfl) ?_
  have hrd := hw.rds
  have hb := htr_size t
  refine ⟨⟨⟨i, t, none, 0, hr, by simp, by omega, Nat.le_refl _⟩, ?_⟩, fun x _ => ?_⟩
  · (repeat' first | exact trivial | exact rfl | refine And.intro ?_ ?_)
    rw [rdS_zero]
  obtain ⟨xi, xt, xb, xm, h1', hb2, h3, h4⟩ := x
  dsimp only
  have hwx : Wf (rdS S xm) hs := hw.rd (by omega)
  refine brS_of (fun c => ?_) fun c => ?_
  · have c : xi ≠ 0 := by simpa using c
    cases xt with
    | nil => exact absurd h1' c
    | node l k v r =>
      obtain ⟨r1, r2, r3, r4, r5⟩ := h1'
      have hsz : l.size + r.size + 1 = (Tr.node l k v r).size := by simp [Tr.size]; omega
      have q1 := ht_r l r k v
      refine ⟨inU_of hw (.inr r1), ⟨_, hwx⟩, by show S.reads + (xm : Int) < _; omega, fun S1 e1 => brS_of (fun d => ?_) fun _ => ?_⟩
      · have d : (!S.us xi) = true := d
        have d : S.us xi = false := by simpa using d
        rw [r1] at d; cases d
      have e1 : S1 = rdS S (xm + 1) := by rw [e1, rdS_rdS]; show rdS S (xm + (S.us xi).toNat) = _; rw [r1]; rfl
      subst e1
      have ek : ((rdS S xm).nd xi).key = k := r2
      have ev : ((rdS S xm).nd xi).value = v := r3
      rw [ek, ev]
      refine ⟨⟨(S.nd xi).right, r, some (k, v), xm + 1, r5, by rw [← hb2, step_lst], by omega, by omega⟩, ?_⟩
      (repeat' first | exact trivial | exact rfl | refine And.intro ?_ ?_)
      show r.size < (Tr.node l k v r).size; omega
  · have c : xi = 0 := by simpa using c
    subst c
    have e := h1'.zero hw
    subst e
    exact h _ xm xb rfl (by omega) (by rw [← hb2]; simp [Tr.list])
theorem s_nlst:SoundT C0 145 tNlst:=by
 refine .ofW [0] Tryz.func145 (by decide) rfl fun args H K h hB=>?_
 unfold tNlst at h
 split at h<;>try exact h.elim
 unfold arM at h
 split at h<;>try exact h.elim
 rename_i i _ rd fr nd ct us gn rl
 obtain⟨hs,t,h1,h2,h3,h4,h5⟩:=h
 exact⟨aNlst ⟨us,gn,rl,fr,nd,ct,rd⟩ t,⟨frame C0.ok s_node _,frame C0.ok s_every _,frame C0.ok s_entry _,trivial⟩,vc_nlst ⟨us,gn,rl,fr,nd,ct,rd⟩ i K hs t h1 h2 h3 h4 h5⟩
theorem s_llst:SoundT C0 133 tLlst:=by
 refine .ofW [0] Tryz.func133 (by decide) rfl fun args H K h hB=>?_
 unfold tLlst at h
 split at h<;>try exact h.elim
 unfold arM at h
 split at h<;>try exact h.elim
 rename_i i _ rd fr nd ct us gn rl
 have key:∀ S:Arn,(∃ hs t,Wf S hs/\Rep S t i/\t.size<=1000000/\S.reads+t.size<=3000000000000000000 ∧
  ∀ S' m o,S'=rdS S m->m<=ht t->o=t.list.getLast?->K (.tup [entO o,.at (vB o.isSome)]) (chS S') [0])->vc C0 aLlst Tryz.f133 [.at (.ptr 0 0),.at (vU i)] (chS S) (normK 7 (wideK [0] K)):=fun S h=>Eq.mp (show (∃ hs:List Int,∃ t:Tr,Wf S hs/\Rep S t i/\t.size<=1000000/\S.reads+(t.size:Int)<=3000000000000000000/\∀ S':Arn,∀ m:Nat,∀ o:Option Ent,S'=rdS S m->m<=ht t->o=t.list.getLast?->K (.tup [(TV.agg [(.val (VI ((o.getD (0,0)).fst))),(.val (VI ((o.getD (0,0)).snd)))]),(.at (.val (Value.bool (o.isSome))))]) [(.box [(.ptr 1 0),(.slc 2),(.slc 3),(.val (VW (S'.reads)))]),(.box [(.slc 4),(.slc 5),(.slc 6),(.val (VU (S'.fresh)))]),(.row true EC.node (S'.nodes)),(.row true EC.int (S'.counts)),(.row true EC.bool (S'.used)),(.row true EC.u32 (S'.gen)),(.row true EC.u32 (S'.rel))] [0])=_ by kernel_rfl) h
 exact⟨aLlst,⟨frame C0.ok s_nlst _,trivial⟩,key ⟨us,gn,rl,fr,nd,ct,rd⟩ h⟩
end Go.Proofs.YtedfbafngmicpaaGreat.Sx
end
section
/- treework: Node, Open, balance, the rotations, Join. -/
namespace Go.Proofs.YtedfbafngmicpaaGreat.Sx
open Go

/-KEEP Wf exW inU live Arn.cap Arn.free maxSize mkNode makeS relA nxt NodeR Rep Kept rdS retL Tr.size Tr.list Tr.Bal balN balB near jB OpnR TrR Got-/
def tBalS:Tfm C0:=fun args H K=>match args,H with
 | [.at (.val (.int .i64 l)),.at (.val (.int .i64 r))],[]=>0<=l/\l<=1000000/\0<=r/\r<=1000000/\∀ b,b=balB l r->K (.one (.at (vB b))) [] []
 | _,_=>False
def tNodeX:Tfm C0:=fun args H K=>match args with
 | [.at (.ptr 0 0),.at (.val (.int .u32 l)),.agg [.val (.int .i64 k),.val (.int .i64 v)],.at (.val (.int .u32 r))]=>arM H fun S=>∃ hs tl tr,Wf S (l::r::hs)/\Rep S tl l/\Rep S tr r/\tl.size+tr.size<=1000000/\0<S.free/\hs.length<=900000000 ∧
  ∀ S' i,NodeR S hs k v tl tr S' i->(S'.nd i).left=l->(S'.nd i).right=r->K (.one (.at (vU i))) (chS S') W7
 | _=>False
noncomputable def aNodeX:Ann C0:={ Γ:=[(32,frameT [] tMakeOk),(26,frameT [] tGive)] }
def tRetL:Tfm C0:=fun args H K=>match args with
 | [.at (.ptr 0 0),.at (.val (.int .u32 i))]=>arM H fun S=>live S i/\exW S/\∀ S',S'=retL S i->K (.one (.at (vI 0))) (chS S') [3]
 | _=>False
def tRel:Tfm C0:=fun args H K=>match args with
 | [.at (.ptr 0 0),.at (.val (.int .u32 i))]=>arM H fun S=>∃ hs,Wf S (i::hs)/\∀ S' (fr:Int),Wf S' hs->Kept S S'->K (.tup [.at (vI fr),.at (vI 0)]) (chS S') W7
 | _=>False
noncomputable def aOpn:Ann C0:={ Γ:=[(86,frameT [] tNode),(87,frameT [] tRetL),(26,frameT [] tRel)] }
def tOpn:Tfm C0:=fun args H K=>match args with
 | [.at (.ptr 0 0),.at (.val (.int .u32 i))]=>arM H fun S=>∃ hs a k v b,Wf S (i::hs)/\Rep S (.node a k v b) i/\hs.length<=900000000/\S.reads<=3000000000000000000 ∧
  ∀ S' l r,OpnR S hs a k v b S' l r->K (.tup [.at (vU l),.agg [vI k,vI v],.at (vU r)]) (chS S') W7
 | _=>False
structure XLl (P:Arn->Int->Int->Bool->Prop) where
 S:Arn
 m:Int
 s:Int
 c:Bool
 h:P S m s c
noncomputable def aLl (P:Arn->Int->Int->Bool->Prop)(k v k2 v2:Int):Ann C0:={ Γ:=[(91,frameT [] tOpn),(41,frameT [] tSize),(122,frameT [] tBalS),(90,frameT [] tNodeX)],inv:=fun n=>match n with
 | 1004=>some { X:=XLl P,sl:=[8,11,12,13,45],tf:=fun x=>[.one (.at (.ptr 7 0)),vi .u32 x.m,.one (.at (.ptr 8 0)),vi .u32 x.s,vb x.c],hf:=fun x=>chS x.S++[.box [vI k,vI v],.box [vI k2,vI v2]],wr:=W7 }
 | _=>none }
noncomputable def aLr (P:Arn->Int->Int->Bool->Prop)(k v k2 v2:Int):Ann C0:={ Γ:=[(91,frameT [] tOpn),(41,frameT [] tSize),(122,frameT [] tBalS),(90,frameT [] tNodeX)],inv:=fun n=>match n with
 | 1004=>some { X:=XLl P,sl:=[8,13,12,11,45],tf:=fun x=>[.one (.at (.ptr 7 0)),vi .u32 x.m,.one (.at (.ptr 8 0)),vi .u32 x.s,vb x.c],hf:=fun x=>chS x.S++[.box [vI k,vI v],.box [vI k2,vI v2]],wr:=W7 }
 | _=>none }
def tLl:Tfm C0:=fun args H K=>match args with
 | [.at (.ptr 0 0),.at (.val (.int .i64 sl)),.at (.val (.int .u32 l)),.agg [.val (.int .i64 k),.val (.int .i64 v)],.at (.val (.int .u32 r))]=>arM H fun S=>∃ hs ta tb,Wf S (l::r::hs)/\Rep S ta l/\Rep S tb r/\ta.Bal/\tb.Bal/\near ta.size tb.size/\¬ balN ta.size tb.size/\ta.size<tb.size/\sl=ta.size ∧
  ta.size+tb.size<=900000/\3<=S.free/\hs.length<=800000000/\S.reads<=2000000000000000000/\∀ S' i,TrR S hs (ta.list++(k,v)::tb.list) 3 4 S' i->K (.one (.at (vU i))) (chS S') W7
 | _=>False
def tLr:Tfm C0:=fun args H K=>match args with
 | [.at (.ptr 0 0),.at (.val (.int .i64 sr)),.at (.val (.int .u32 l)),.agg [.val (.int .i64 k),.val (.int .i64 v)],.at (.val (.int .u32 r))]=>arM H fun S=>∃ hs ta tb,Wf S (l::r::hs)/\Rep S ta l/\Rep S tb r/\ta.Bal/\tb.Bal/\near ta.size tb.size/\¬ balN ta.size tb.size/\tb.size<ta.size/\sr=tb.size ∧
  ta.size+tb.size<=900000/\3<=S.free/\hs.length<=800000000/\S.reads<=2000000000000000000/\∀ S' i,TrR S hs (ta.list++(k,v)::tb.list) 3 4 S' i->K (.one (.at (vU i))) (chS S') W7
 | _=>False
noncomputable def aBlc:Ann C0:={ Γ:=[(41,frameT [] tSize),(122,frameT [] tBalS),(90,frameT [] tNodeX),(140,frameT [] tLl),(141,frameT [] tLr)] }
def tBlc:Tfm C0:=fun args H K=>match args with
 | [.at (.ptr 0 0),.at (.val (.int .u32 l)),.agg [.val (.int .i64 k),.val (.int .i64 v)],.at (.val (.int .u32 r))]=>arM H fun S=>∃ hs ta tb,Wf S (l::r::hs)/\Rep S ta l/\Rep S tb r/\ta.Bal/\tb.Bal/\near ta.size tb.size ∧
  ta.size+tb.size<=900000/\3<=S.free/\hs.length<=800000000/\S.reads<=1900000000000000000/\∀ S' i,TrR S hs (ta.list++(k,v)::tb.list) 3 6 S' i->K (.one (.at (vU i))) (chS S') W7
 | _=>False
def tJn (n:Nat):Tfm C0:=fun args H K=>match args with
 | [.at (.ptr 0 0),.at (.val (.int .u32 l)),.agg [.val (.int .i64 k),.val (.int .i64 v)],.at (.val (.int .u32 r))]=>arM H fun S=>∃ hs ta tb,Wf S (l::r::hs)/\Rep S ta l/\Rep S tb r/\ta.Bal/\tb.Bal/\ta.size+tb.size<n ∧
  ta.size+tb.size<=900000/\(jB ta.size tb.size:Int)<=S.free/\hs.length+(ta.size+tb.size)<=800000000/\S.reads+5*(jB ta.size tb.size)<=1800000000000000000 ∧
  ∀ S' i,TrR S hs (ta.list++(k,v)::tb.list) (jB ta.size tb.size) (4*jB ta.size tb.size) S' i->(balN ta.size tb.size->(S'.nd i).left=l/\(S'.nd i).right=r/\S'.nu=S.nu+1)->K (.one (.at (vU i))) (chS S') W7
 | _=>False
noncomputable def aJn (n:Nat):Ann C0:={ Γ:=[(41,frameT [] tSize),(122,frameT [] tBalS),(90,frameT [] tNodeX),(91,frameT [] tOpn),(92,frameT [] (tJn n)),(123,frameT [] tBlc)] }
theorem vc_balS (l r:Int)(K:KT)(h1:0<=l)(h2:l<=1000000)(h3:0<=r)(h4:r<=1000000)(h:∀ b,b=balB l r->K (.one (.at (vB b))) [] []):vc C0 A0 Tryz.f122 [.at (vI l),.at (vI r)] [] (normK 0 K):=by
 refine Eq.mp (show (brS (decide (l<0)) (K (.one (.at (.val (Value.bool false)))) [] []) (brS (decide (r<0)) (K (.one (.at (.val (Value.bool false)))) [] []) (brS (decide (l>2147483647)) (K (.one (.at (.val (Value.bool false)))) [] []) (brS (decide (r>2147483647)) (K (.one (.at (.val (Value.bool false)))) [] []) (brS (decide (IntKind.i64.wrap (l+1)<=IntKind.i64.wrap (3*IntKind.i64.wrap (r+1)))) (K (.one (.at (.val (Value.bool (decide (IntKind.i64.wrap (r+1)<=IntKind.i64.wrap (3*IntKind.i64.wrap (l+1)))))))) [] []) (K (.one (.at (.val (Value.bool false)))) [] []))))))=_ by kernel_rfl) ?_
 rw[wrap_id (x:=l+1) (by omega) (by omega),wrap_id (x:=r+1) (by omega) (by omega),wrap_id (x:=3*(l+1)) (by omega) (by omega),wrap_id (x:=3*(r+1)) (by omega) (by omega)]
 refine brS_of (fun c=>?_) fun _=>brS_of (fun c=>?_) fun _=>brS_of (fun c=>?_) fun _=>brS_of (fun c=>?_) fun _=>brS_of (fun c=>?_) fun c=>?_
 ·have:=of_decide_eq_true c;omega
 ·have:=of_decide_eq_true c;omega
 ·have:l>2147483647:=of_decide_eq_true c;omega
 ·have:r>2147483647:=of_decide_eq_true c;omega
 ·have c:l+1<=3*(r+1):=of_decide_eq_true c
  exact h _ (by unfold balB balN;simp[c])
 ·have c:¬ l+1<=3*(r+1):=of_decide_eq_false c
  exact h _ (by unfold balB balN;simp[c])
theorem s_balS:SoundT C0 122 tBalS:=by
 refine .of Tryz.func122 (by decide) rfl fun args H K h hB=>?_
 unfold tBalS at h
 split at h<;>try exact h.elim
 rename_i l r
 exact⟨A0,trivial,vc_balS l r K h.1 h.2.1 h.2.2.1 h.2.2.2.1 h.2.2.2.2⟩
theorem nodeS_kids {S:Arn}{hs:List Int}{k v l r:Int}(h:Wf S hs)(hf:0<S.free):((nodeS S k v l r).nd (nxt S)).left=l/\((nodeS S k v l r).nd (nxt S)).right=r:=by
 obtain⟨_,_,m1,m2⟩:=mkNode_flds S k v l r
 unfold nodeS
 rw[(relA_same _ _ _).2.1,(relA_same _ _ _).2.1,make_nd h hf,if_pos rfl]
 exact⟨m1,m2⟩
theorem vc_nodeX (S:Arn)(l k v r:Int)(K:KT)(hs:List Int)(tl tr:Tr)(hw:Wf S (l::r::hs))(h1:Rep S tl l)(h2:Rep S tr r)(h3:tl.size+tr.size<=1000000)(h4:0<S.free)(h5:hs.length<=900000000)(h:∀ S' i,NodeR S hs k v tl tr S' i->(S'.nd i).left=l->(S'.nd i).right=r->K (.one (.at (vU i))) (chS S') W7) :
  vc C0 aNodeX Tryz.f90 [.at (.ptr 0 0),.at (vU l),.agg [vI k,vI v],.at (vU r)] (chS S) (normK 7 (wideK W7 K)):=by
 refine Eq.mp (show (exW S/\live S l/\live S r/\(mkNode S k v l r).size<=maxSize/\0<S.free/\∀ S':Arn,∀ i:Int,S'=makeS S k v l r->i=nxt S->∃ hs:List Int,Wf S' (l::hs)/\(S'.us l=true->1<=S'.indeg l)/\∀ S'1:Arn,S'1=relA S' l->∃ hs1:List Int,Wf S'1 (r::hs1)/\(S'1.us r=true->1<=S'1.indeg r)/\∀ S'2:Arn,S'2=relA S'1 r->K (.one (.at (.val (VU (i))))) [(.box [(.ptr 1 0),(.slc 2),(.slc 3),(.val (VW (S'2.reads)))]),(.box [(.slc 4),(.slc 5),(.slc 6),(.val (VU (S'2.fresh)))]),(.row true EC.node (S'2.nodes)),(.row true EC.int (S'2.counts)),(.row true EC.bool (S'2.used)),(.row true EC.u32 (S'2.gen)),(.row true EC.u32 (S'2.rel))] [0,1,2,3,4,5,6])=_ by kernel_rfl) ?_
 have hz:(mkNode S k v l r).size<=maxSize:=by rw[mk_size hw h1 h2];unfold maxSize;omega
 obtain⟨t1,t2,t3,t4⟩:=node_two (k:=k) (v:=v) hw h4 hz (by omega)
 refine⟨⟨_,hw⟩,hw.held l (by simp),hw.held r (by simp),hz,h4,fun S1 i e1 e2=>?_⟩
 subst e1
 refine⟨_,t1,t2,fun S2 e3=>?_⟩
 subst e3
 refine⟨_,t3,t4,fun S3 e4=>?_⟩
 have e4:S3=nodeS S k v l r:=e4
 subst e4 e2
 obtain⟨q1,q2⟩:=nodeS_kids (k:=k) (v:=v) (l:=l) (r:=r) hw h4
 exact h _ _ (node_ok hw h4 hz (by omega) h1 h2) q1 q2
theorem s_nodeX:SoundT C0 90 tNodeX:=by
 refine .ofW W7 Tryz.func90 (by decide) rfl fun args H K h hB=>?_
 unfold tNodeX at h
 split at h<;>try exact h.elim
 unfold arM at h
 split at h<;>try exact h.elim
 rename_i l k v r _ rd fr nd ct us gn rl
 obtain⟨hs,tl,tr,h1,h2,h3,h4,h5,h6,h7⟩:=h
 exact⟨aNodeX,⟨frame C0.ok s_makeOk _,frame C0.ok s_give _,trivial⟩,vc_nodeX ⟨us,gn,rl,fr,nd,ct,rd⟩ l k v r K hs tl tr h1 h2 h3 h4 h5 h6 h7⟩
theorem s_retL:SoundT C0 87 tRetL:=s_retain.weak fun args H K h=>by
 unfold tRetL at h
 unfold tRetain
 split at h<;>try exact h.elim
 unfold arM at h ⊢
 split at h<;>try exact h.elim
 rename_i i _ rd fr nd ct us gn rl
 obtain⟨h1,⟨hs,h2⟩,h3⟩:=h
 refine⟨inU_of h2 h1,⟨hs,h2⟩,fun e=>?_,fun e1 e2=>?_,fun e S' e2=>?_⟩
 ·exact h3 _ (if_pos e).symm
 ·exact absurd (h1.resolve_left e1) (by rw[e2];decide)
 ·refine h3 S' (e2.trans (if_neg fun e3=>?_).symm)
  rw[e3,h2.us0 (Int.le_refl 0)] at e
  cases e
theorem s_rel:SoundT C0 26 tRel:=s_release.weak fun args H K h=>by
 unfold tRel at h
 unfold tRelease
 split at h<;>try exact h.elim
 unfold arM at h ⊢
 split at h<;>try exact h.elim
 obtain⟨hs,h1,h2⟩:=h
 exact⟨hs,h1,fun S' fr a1 a2 _ _ _=>h2 S' fr a1 a2⟩
theorem vc_opn (S:Arn)(i:Int)(K:KT)(hs:List Int)(a:Tr)(k v:Int)(b:Tr)(h1:Wf S (i::hs))(h2:Rep S (.node a k v b) i)(h3:hs.length<=900000000)(h4:S.reads<=3000000000000000000)(h:∀ S' l r,OpnR S hs a k v b S' l r->K (.tup [.at (vU l),.agg [vI k,vI v],.at (vU r)]) (chS S') W7) :
  vc C0 aOpn Tryz.f91 [.at (.ptr 0 0),.at (vU i)] (chS S) (normK 7 (wideK W7 K)):=by
 refine Eq.mp (show (inU i/\exW S/\S.reads<4000000000000000000/\∀ S':Arn,S'=(rdS S (S.us i).toNat)->brS (!S.us i) (K (.tup [(.at (.val (VU 0))),(TV.agg [(.val (VI 0)),(.val (VI 0))]),(.at (.val (VU 0)))]) [(.box [(.ptr 1 0),(.slc 2),(.slc 3),(.val (VW (S'.reads)))]),(.box [(.slc 4),(.slc 5),(.slc 6),(.val (VU (S'.fresh)))]),(.row true EC.node (S'.nodes)),(.row true EC.int (S'.counts)),(.row true EC.bool (S'.used)),(.row true EC.u32 (S'.gen)),(.row true EC.u32 (S'.rel))] [0,1,2,3,4,5,6]) (live S' (S.nd i).left/\exW S'/\∀ S'1:Arn,S'1=(retL S' (S.nd i).left)->live S'1 (S.nd i).right/\exW S'1/\∀ S'2:Arn,S'2=(retL S'1 (S.nd i).right)->∃ hs:List Int,Wf S'2 (i::hs)/\∀ S'3:Arn,∀ fr:Int,Wf S'3 hs->Kept S'2 S'3->K (.tup [(.at (.val (VU ((S.nd i).left)))),(TV.agg [(.val (VI ((S.nd i).key))),(.val (VI ((S.nd i).value)))]),(.at (.val (VU ((S.nd i).right))))]) [(.box [(.ptr 1 0),(.slc 2),(.slc 3),(.val (VW (S'3.reads)))]),(.box [(.slc 4),(.slc 5),(.slc 6),(.val (VU (S'3.fresh)))]),(.row true EC.node (S'3.nodes)),(.row true EC.int (S'3.counts)),(.row true EC.bool (S'3.used)),(.row true EC.u32 (S'3.gen)),(.row true EC.u32 (S'3.rel))] [0,1,2,3,4,5,6]))=_ by kernel_rfl) ?_
 obtain⟨w1,w2,w3⟩:=opn_wf h1 h2 h3 (by omega)
 have hu:=h2.1
 have hk:=h1.kid i hu
 refine⟨inU_of h1 (.inr hu),⟨_,h1⟩,by omega,fun S1 e1=>?_⟩
 have e1:S1=rdS S 1:=by rw[e1,hu];rfl
 subst e1
 refine brS_of (fun d=>?_) fun _=>?_
 ·have d:(!S.us i)=true:=d
  rw[hu] at d;cases d
 refine⟨hk.1,⟨_,w1⟩,fun S2 e2=>?_⟩
 subst e2
 refine⟨(by rcases hk.2 with c|c;exact .inl c;exact .inr (((retL_flds _ _).2.2.1 _).trans c)),⟨_,w2⟩,fun S3 e3=>?_⟩
 subst e3
 refine⟨_,w3,fun S4 fr w4 kp=>?_⟩
 have o:=opn_ok h1 h2 h3 (by omega) w4 kp
 have ek:=h2.2.1
 have ev:=h2.2.2.1
 subst ek ev
 exact h S4 _ _ o
theorem s_opn:SoundT C0 91 tOpn:=by
 refine .ofW W7 Tryz.func91 (by decide) rfl fun args H K h hB=>?_
 unfold tOpn at h
 split at h<;>try exact h.elim
 unfold arM at h
 split at h<;>try exact h.elim
 rename_i i _ rd fr nd ct us gn rl
 obtain⟨hs,a,k,v,b,h1,h2,h3,h4,h5⟩:=h
 exact⟨aOpn,⟨frame C0.ok s_node _,frame C0.ok s_retL _,frame C0.ok s_rel _,trivial⟩,vc_opn ⟨us,gn,rl,fr,nd,ct,rd⟩ i K hs a k v b h1 h2 h3 h4 h5⟩
def PLl (S0:Arn)(hs:List Int)(u w:Int->Int->Int)(A M B:Tr)(cnd:Prop):Arn->Int->Int->Bool->Prop:=fun S m s c =>
 Got S0 hs 0 3 S (u m s::m::w m s::hs)/\Rep S A (u m s)/\Rep S M m/\Rep S B (w m s)/\(c=true->M = .nil∨cnd)/\(c=false->M≠.nil/\¬ cnd)
theorem vc_ll (S:Arn)(l k v r:Int)(K:KT)(hs:List Int)(ta tm:Tr)(k2 v2:Int)(ts:Tr)(hw:Wf S (l::r::hs))(h1:Rep S ta l)(h2:Rep S (.node tm k2 v2 ts) r)(b1:ta.Bal)(b2:(Tr.node tm k2 v2 ts).Bal)(hn:near ta.size (tm.size+ts.size+1))(hb:¬ balN ta.size ((tm.size+ts.size+1:Nat):Int))(hlt:ta.size<tm.size+ts.size+1)(hz:ta.size+(tm.size+ts.size+1)<=900000)(hf:3<=S.free)(hl:hs.length<=800000000)(hr:S.reads<=2000000000000000000)(h:∀ S' i,TrR S hs (ta.list++(k,v)::(tm.list++(k2,v2)::ts.list)) 3 4 S' i->K (.one (.at (vU i))) (chS S') W7) :
  vc C0 (aLl (PLl S hs (fun _ _=>l) (fun _ s=>s) ta tm ts (balN ta.size tm.size/\balN ((ta.size+tm.size+1:Nat):Int) ts.size)) k v k2 v2) Tryz.f140 [.at (.ptr 0 0),.at (vI ta.size),.at (vU l),.agg [vI k,vI v],.at (vU r)] (chS S) (normK 7 (wideK W7 K)):=by
 generalize hP:PLl S hs (fun _ _=>l) (fun _ s=>s) ta tm ts (balN ta.size tm.size/\balN ((ta.size+tm.size+1:Nat):Int) ts.size)=P
 generalize hsl:(ta.size:Int)=sl
 refine Eq.mp (show (∃ hs:List Int,∃ a:Tr,∃ k1:Int,∃ v1:Int,∃ b:Tr,Wf S (r::hs)/\Rep S (a.node k1 v1 b) r/\hs.length<=900000000/\S.reads<=3000000000000000000/\∀ S':Arn,∀ l1:Int,∀ r1:Int,OpnR S hs a k1 v1 b S' l1 r1->inU l1/\exW S'/\S'.reads<4000000000000000000/\∀ S'1:Arn,S'1=(rdS S' (S'.us l1).toNat)->brS (l1==0) (∃ x:XLl P,True/\(True/\VU (l)=VU (l)/\True/\VU (l1)=VU (x.m)/\True/\VU (r1)=VU (x.s)/\Value.bool true=(Value.bool (x.c))/\True)/\(True/\True/\True/\VW (S'1.reads)=VW (x.S.reads)/\True)/\(True/\True/\True/\VU (S'1.fresh)=VU (x.S.fresh)/\True)/\S'1.nodes=x.S.nodes/\S'1.counts=x.S.counts/\S'1.used=x.S.used/\S'1.gen=x.S.gen/\S'1.rel=x.S.rel/\(VI (k)=VI (k)/\VI (v)=VI (v)/\True)/\(VI (k1)=VI (k2)/\VI (v1)=VI (v2)/\True)/\True) (0<=sl/\sl<=1000000/\0<=(S'.nd l1).size/\(S'.nd l1).size<=1000000/\∀ b1:Bool,b1=(balB sl (S'.nd l1).size)->brS (b1) (inU r1/\exW S'1/\S'1.reads<4000000000000000000/\∀ S'2:Arn,S'2=(rdS S'1 (S'1.us r1).toNat)->0<=IntKind.i64.wrap (IntKind.i64.wrap (sl+(S'.nd l1).size)+1)/\IntKind.i64.wrap (IntKind.i64.wrap (sl+(S'.nd l1).size)+1)<=1000000/\0<=(S'1.nd r1).size/\(S'1.nd r1).size<=1000000/\∀ b2:Bool,b2=(balB (IntKind.i64.wrap (IntKind.i64.wrap (sl+(S'.nd l1).size)+1)) (S'1.nd r1).size)->∃ x:XLl P,True/\(True/\VU (l)=VU (l)/\True/\VU (l1)=VU (x.m)/\True/\VU (r1)=VU (x.s)/\(Value.bool (b2))=(Value.bool (x.c))/\True)/\(True/\True/\True/\VW (S'2.reads)=VW (x.S.reads)/\True)/\(True/\True/\True/\VU (S'2.fresh)=VU (x.S.fresh)/\True)/\S'2.nodes=x.S.nodes/\S'2.counts=x.S.counts/\S'2.used=x.S.used/\
 S'2.gen=x.S.gen/\S'2.rel=x.S.rel/\(VI (k)=VI (k)/\VI (v)=VI (v)/\True)/\(VI (k1)=VI (k2)/\VI (v1)=VI (v2)/\True)/\True) (∃ x:XLl P,True/\(True/\VU (l)=VU (l)/\True/\VU (l1)=VU (x.m)/\True/\VU (r1)=VU (x.s)/\Value.bool false=(Value.bool (x.c))/\True)/\(True/\True/\True/\VW (S'1.reads)=VW (x.S.reads)/\True)/\(True/\True/\True/\VU (S'1.fresh)=VU (x.S.fresh)/\True)/\S'1.nodes=x.S.nodes/\S'1.counts=x.S.counts/\S'1.used=x.S.used/\S'1.gen=x.S.gen/\S'1.rel=x.S.rel/\(VI (k)=VI (k)/\VI (v)=VI (v)/\True)/\(VI (k1)=VI (k2)/\VI (v1)=VI (v2)/\True)/\True))/\∀ x:XLl P,True->brS (x.c) (((∃ hs1:List Int,∃ tl:Tr,∃ tr:Tr,Wf x.S (l::x.m::hs1)/\Rep x.S tl l/\Rep x.S tr x.m/\tl.size+tr.size<=1000000/\0<x.S.free/\hs1.length<=900000000/\∀ S'2:Arn,∀ i:Int,NodeR x.S hs1 k v tl tr S'2 i->((S'2.nd i).left)=l->((S'2.nd i).right)=x.m->∃ hs2:List Int,∃ tl1:Tr,∃ tr1:Tr,Wf S'2 (i::x.s::hs2)/\Rep S'2 tl1 i/\Rep S'2 tr1 x.s/\tl1.size+tr1.size<=1000000/\0<S'2.free/\hs2.length<=900000000/\∀ S'3:Arn,∀ i1:Int,NodeR S'2 hs2 k2 v2 tl1 tr1 S'3 i1->((S'3.nd i1).left)=i->((S'3.nd i1).right)=x.s->K (.one (.at (.val (VU (i1))))) [(.box [(.ptr 1 0),(.slc 2),(.slc 3),(.val (VW (S'3.reads)))]),(.box [(.slc 4),(.slc 5),(.slc 6),(.val (VU (S'3.fresh)))]),(.row true EC.node (S'3.nodes)),(.row true EC.int (S'3.counts)),(.row true EC.bool (S'3.used)),(.row true EC.u32 (S'3.gen)),(.row true EC.u32 (S'3.rel))] [0,1,2,3,4,5,6])/\∃ hs1:List Int,∃ tl:Tr,∃ tr:Tr,Wf x.S (l::x.m::hs1)/\Rep x.S tl l/\Rep x.S tr x.m/\tl.size+tr.size<=1000000/\
 0<x.S.free/\hs1.length<=900000000/\∀ S'2:Arn,∀ i:Int,NodeR x.S hs1 k v tl tr S'2 i->((S'2.nd i).left)=l->((S'2.nd i).right)=x.m->∃ hs2:List Int,∃ tl1:Tr,∃ tr1:Tr,Wf S'2 (i::x.s::hs2)/\Rep S'2 tl1 i/\Rep S'2 tr1 x.s/\tl1.size+tr1.size<=1000000/\0<S'2.free/\hs2.length<=900000000/\∀ S'3:Arn,∀ i1:Int,NodeR S'2 hs2 k2 v2 tl1 tr1 S'3 i1->((S'3.nd i1).left)=i->((S'3.nd i1).right)=x.s->K (.one (.at (.val (VU (i1))))) [(.box [(.ptr 1 0),(.slc 2),(.slc 3),(.val (VW (S'3.reads)))]),(.box [(.slc 4),(.slc 5),(.slc 6),(.val (VU (S'3.fresh)))]),(.row true EC.node (S'3.nodes)),(.row true EC.int (S'3.counts)),(.row true EC.bool (S'3.used)),(.row true EC.u32 (S'3.gen)),(.row true EC.u32 (S'3.rel))] [0,1,2,3,4,5,6])/\∃ hs1:List Int,∃ tl:Tr,∃ tr:Tr,Wf x.S (l::x.m::hs1)/\Rep x.S tl l/\Rep x.S tr x.m/\tl.size+tr.size<=1000000/\0<x.S.free/\hs1.length<=900000000/\∀ S'2:Arn,∀ i:Int,NodeR x.S hs1 k v tl tr S'2 i->((S'2.nd i).left)=l->((S'2.nd i).right)=x.m->∃ hs2:List Int,∃ tl1:Tr,∃ tr1:Tr,Wf S'2 (i::x.s::hs2)/\Rep S'2 tl1 i/\Rep S'2 tr1 x.s/\tl1.size+tr1.size<=1000000/\0<S'2.free/\hs2.length<=900000000/\∀ S'3:Arn,∀ i1:Int,NodeR S'2 hs2 k2 v2 tl1 tr1 S'3 i1->((S'3.nd i1).left)=i->((S'3.nd i1).right)=x.s->K (.one (.at (.val (VU (i1))))) [(.box [(.ptr 1 0),(.slc 2),(.slc 3),(.val (VW (S'3.reads)))]),(.box [(.slc 4),(.slc 5),(.slc 6),(.val (VU (S'3.fresh)))]),(.row true EC.node (S'3.nodes)),(.row true EC.int (S'3.counts)),(.row true EC.bool (S'3.used)),(.row true EC.u32 (S'3.gen)),(.row true EC.u32 (S'3.rel))] [0,1,2,3,4,5,6]) (∃ hs1:List Int,∃ a1:Tr,∃ k3:Int,∃ v3:Int,∃ b1:Tr,Wf x.S (x.m::hs1)/\
 Rep x.S (a1.node k3 v3 b1) x.m/\hs1.length<=900000000/\x.S.reads<=3000000000000000000/\∀ S'2:Arn,∀ l2:Int,∀ r2:Int,OpnR x.S hs1 a1 k3 v3 b1 S'2 l2 r2->∃ hs2:List Int,∃ tl:Tr,∃ tr:Tr,Wf S'2 (l::l2::hs2)/\Rep S'2 tl l/\Rep S'2 tr l2/\tl.size+tr.size<=1000000/\0<S'2.free/\hs2.length<=900000000/\∀ S'3:Arn,∀ i:Int,NodeR S'2 hs2 k v tl tr S'3 i->((S'3.nd i).left)=l->((S'3.nd i).right)=l2->(∃ hs3:List Int,∃ tl1:Tr,∃ tr1:Tr,Wf S'3 (r2::x.s::hs3)/\Rep S'3 tl1 r2/\Rep S'3 tr1 x.s/\tl1.size+tr1.size<=1000000/\0<S'3.free/\hs3.length<=900000000/\∀ S'4:Arn,∀ i1:Int,NodeR S'3 hs3 k2 v2 tl1 tr1 S'4 i1->((S'4.nd i1).left)=r2->((S'4.nd i1).right)=x.s->∃ hs4:List Int,∃ tl2:Tr,∃ tr2:Tr,Wf S'4 (i::i1::hs4)/\Rep S'4 tl2 i/\Rep S'4 tr2 i1/\tl2.size+tr2.size<=1000000/\0<S'4.free/\hs4.length<=900000000/\∀ S'5:Arn,∀ i2:Int,NodeR S'4 hs4 k3 v3 tl2 tr2 S'5 i2->((S'5.nd i2).left)=i->((S'5.nd i2).right)=i1->K (.one (.at (.val (VU (i2))))) [(.box [(.ptr 1 0),(.slc 2),(.slc 3),(.val (VW (S'5.reads)))]),(.box [(.slc 4),(.slc 5),(.slc 6),(.val (VU (S'5.fresh)))]),(.row true EC.node (S'5.nodes)),(.row true EC.int (S'5.counts)),(.row true EC.bool (S'5.used)),(.row true EC.u32 (S'5.gen)),(.row true EC.u32 (S'5.rel))] [0,1,2,3,4,5,6])/\(∃ hs3:List Int,∃ tl1:Tr,∃ tr1:Tr,Wf S'3 (r2::x.s::hs3)/\Rep S'3 tl1 r2/\Rep S'3 tr1 x.s/\tl1.size+tr1.size<=1000000/\0<S'3.free/\hs3.length<=900000000/\∀ S'4:Arn,∀ i1:Int,NodeR S'3 hs3 k2 v2 tl1 tr1 S'4 i1->((S'4.nd i1).left)=r2->((S'4.nd i1).right)=x.s->∃ hs4:List Int,∃ tl2:Tr,∃ tr2:Tr,Wf S'4 (i::i1::hs4)/\
 Rep S'4 tl2 i/\Rep S'4 tr2 i1/\tl2.size+tr2.size<=1000000/\0<S'4.free/\hs4.length<=900000000/\∀ S'5:Arn,∀ i2:Int,NodeR S'4 hs4 k3 v3 tl2 tr2 S'5 i2->((S'5.nd i2).left)=i->((S'5.nd i2).right)=i1->K (.one (.at (.val (VU (i2))))) [(.box [(.ptr 1 0),(.slc 2),(.slc 3),(.val (VW (S'5.reads)))]),(.box [(.slc 4),(.slc 5),(.slc 6),(.val (VU (S'5.fresh)))]),(.row true EC.node (S'5.nodes)),(.row true EC.int (S'5.counts)),(.row true EC.bool (S'5.used)),(.row true EC.u32 (S'5.gen)),(.row true EC.u32 (S'5.rel))] [0,1,2,3,4,5,6])/\∃ hs3:List Int,∃ tl1:Tr,∃ tr1:Tr,Wf S'3 (r2::x.s::hs3)/\Rep S'3 tl1 r2/\Rep S'3 tr1 x.s/\tl1.size+tr1.size<=1000000/\0<S'3.free/\hs3.length<=900000000/\∀ S'4:Arn,∀ i1:Int,NodeR S'3 hs3 k2 v2 tl1 tr1 S'4 i1->((S'4.nd i1).left)=r2->((S'4.nd i1).right)=x.s->∃ hs4:List Int,∃ tl2:Tr,∃ tr2:Tr,Wf S'4 (i::i1::hs4)/\Rep S'4 tl2 i/\Rep S'4 tr2 i1/\tl2.size+tr2.size<=1000000/\0<S'4.free/\hs4.length<=900000000/\∀ S'5:Arn,∀ i2:Int,NodeR S'4 hs4 k3 v3 tl2 tr2 S'5 i2->((S'5.nd i2).left)=i->((S'5.nd i2).right)=i1->K (.one (.at (.val (VU (i2))))) [(.box [(.ptr 1 0),(.slc 2),(.slc 3),(.val (VW (S'5.reads)))]),(.box [(.slc 4),(.slc 5),(.slc 6),(.val (VU (S'5.fresh)))]),(.row true EC.node (S'5.nodes)),(.row true EC.int (S'5.counts)),(.row true EC.bool (S'5.used)),(.row true EC.u32 (S'5.gen)),(.row true EC.u32 (S'5.rel))] [0,1,2,3,4,5,6]))=_ by kernel_rfl) ?_
 subst hP
 have w0:Wf S (r::l::hs):=hw.perm (List.Perm.swap _ _ _)
 have hrd:=hw.rds
 refine⟨l::hs,tm,k2,v2,ts,w0,h2,by simp;omega,by omega,fun S1 m s o=>?_⟩
 have g1:Got S hs 0 1 S1 (l::m::s::hs):=((o.got.seq (Got.refl (hs:=hs) o.got.wf) (fun _ h=>by simp[h]) (fun _ h=>h)).perm (perm_rot m s l hs)).mono (by omega) (by omega)
 have rA:Rep S1 ta l:=h1.held hw o.got.stay (.inr (by simp))
 have rM:=o.repl
 have rB:=o.repr
 have zM:=rM.size g1.wf
 have zB:=rB.size g1.wf
 have q1:=g1.rd
 have q0:=g1.rd0
 refine⟨inU_of g1.wf rM.us,⟨_,g1.wf⟩,by omega,fun S2 e2=>⟨brS_of (fun d=>⟨⟨S2,m,s,true,?_⟩,?_⟩) fun d=>?_,fun x _=>?_⟩⟩
 ·have d:m=0:=by simpa using d
  subst d
  have:=rM.zero g1.wf
  subst e2
  exact⟨(g1.rdn (k:=2) (by cases S1.us 0<;>decide) (by cases S1.us 0<;>simp<;>omega)),rA.rdn,rM.rdn,rB.rdn,fun _=>.inl this,fun e=>by cases e⟩
 ·(repeat' first|exact trivial|exact rfl|refine And.intro ?_ ?_)
 ·have d:m≠0:=by simpa using d
  have um:S1.us m=true:=rM.us.resolve_left d
  have e2:S2=rdS S1 1:=by rw[e2,um];rfl
  subst e2
  have nM:tm≠.nil:=fun e=>by subst e;exact d rM
  have g2:Got S hs 0 2 (rdS S1 1) (l::m::s::hs):=g1.rdn (k:=1) (by omega) (by omega)
  rw[zM]
  refine⟨by omega,by omega,by omega,by omega,fun c1 ec1=>brS_of (fun d1=>?_) fun d1=>⟨⟨rdS S1 1,m,s,false,?_⟩,?_⟩⟩
  ·subst d1
   have q2:=g2.rd
   have wr:IntKind.i64.wrap (IntKind.i64.wrap (sl+(tm.size:Int))+1)=((ta.size+tm.size+1:Nat):Int):=by
    rw[wrap_id (x:=sl+(tm.size:Int)) (by omega) (by omega),wrap_id (by omega) (by omega)];omega
   rw[wr,show ((rdS S1 1).nd s).size=_ from zB]
   refine⟨inU_of g2.wf (rB.rdn (n:=1)).us,⟨_,g2.wf⟩,by omega,fun S3 e3=>⟨by omega,by omega,by omega,by omega,fun c2 ec2=>⟨⟨S3,m,s,c2,?_⟩,?_⟩⟩⟩
   ·subst e3
    have c1b:balN ta.size tm.size:=by rw[← hsl] at ec1;exact of_decide_eq_true ec1.symm
    refine⟨g2.rdn (k:=1) (by cases (rdS S1 1).us s<;>decide) (by cases (rdS S1 1).us s<;>simp<;>omega),rA.rdn.rdn,rM.rdn.rdn,rB.rdn.rdn,fun e=>.inr ⟨c1b,?_⟩,fun e=>⟨nM,fun q=>?_⟩⟩
    ·rw[e] at ec2;exact of_decide_eq_true ec2.symm
    ·rw[e] at ec2;exact absurd q.2 (of_decide_eq_false ec2.symm)
   ·(repeat' first|exact trivial|exact rfl|refine And.intro ?_ ?_)
  ·refine⟨g2.mono (by omega) (by omega),rA.rdn,rM.rdn,rB.rdn,(fun e=>by cases e),fun _=>⟨nM,fun q=>?_⟩⟩
   rw[d1,← hsl] at ec1
   exact absurd q.1 (of_decide_eq_false ec1.symm)
  ·(repeat' first|exact trivial|exact rfl|refine And.intro ?_ ?_)
 obtain⟨S2,m,s,c,g,rA,rM,rB,hc1,hc2⟩:=x
 dsimp only at g rA rM rB ⊢
 have fr:=g.free hw
 have grd:=g.rd
 obtain⟨bb,bM,bB⟩:=b2
 refine brS_of (fun d=>?_) fun d=>?_
 ·have cnd:balN ta.size tm.size/\balN ((ta.size+tm.size+1:Nat):Int) ts.size:=by
   rcases hc1 d with e|e
   ·subst e
    exact rot_nil hn bb hb hlt
   ·exact e
  (repeat' apply And.intro)
  all_goals
   refine⟨s::hs,ta,tm,g.wf,rA,rM,by omega,by omega,by simp;omega,fun S3 i n1 _ _=>?_⟩
   have f3:=(Got.node n1).free g.wf
   refine⟨hs,_,ts,n1.wf,n1.rep,rB.held g.wf n1.stay (.inr (by simp)),by simp[Tr.size];omega,by omega,by omega,fun S4 j n2 _ _=>h S4 j (single_okL g n1 n2 b1 bM bB cnd.1 cnd.2)⟩
 ·obtain⟨nM,ncnd⟩:=hc2 d
  cases tm with
  | nil=>exact absurd rfl nM
  | node x k3 v3 y =>
   have zz:(Tr.node x k3 v3 y).size=x.size+y.size+1:=by simp[Tr.size];omega
   rw[zz] at hn hb hlt ncnd bb hz
   obtain⟨bxy,bx,bY⟩:=bM
   obtain⟨c1,c2,c3⟩:=rot_two hn bb bxy hb hlt ncnd
   refine⟨l::s::hs,x,k3,v3,y,g.wf.perm (List.Perm.swap _ _ _),rM,by simp;omega,by omega,fun S3 ix iy o2=>?_⟩
   have f3:=o2.got.free g.wf
   have rA3:Rep S3 ta l:=rA.held g.wf o2.got.stay (.inr (by simp))
   have rB3:Rep S3 ts s:=rB.held g.wf o2.got.stay (.inr (by simp))
   refine⟨iy::s::hs,ta,x,o2.got.wf.perm (perm_rot ix iy l (s::hs)),rA3,o2.repl,by omega,by omega,by simp;omega,fun S4 i n1 _ _=>?_⟩
   have f4:=(Got.node n1).free (o2.got.wf)
   have ry:Rep S4 y iy:=o2.repr.held o2.got.wf n1.stay (.inr (by simp))
   have rB4:Rep S4 ts s:=rB3.held o2.got.wf n1.stay (.inr (by simp))
   (repeat' apply And.intro)
   all_goals
    refine⟨i::hs,y,ts,n1.wf.perm (perm_tor i iy s hs),ry,rB4,by omega,by omega,by simp;omega,fun S5 j n2 _ _=>?_⟩
    have f5:=(Got.node n2).free n1.wf
    refine⟨hs,_,_,n2.wf.perm (List.Perm.swap _ _ _),n1.rep.held n1.wf n2.stay (.inr (by simp)),n2.rep,by simp[Tr.size];omega,by omega,by omega,fun S6 q n3 _ _=>h S6 q ?_⟩
    have:=double_ok g o2 n1 n2 n3 b1 bx bY bB c1 c2 c3
    simpa [Tr.list] using this
theorem s_ll:SoundT C0 140 tLl:=by
 refine .ofW W7 Tryz.func140 (by decide) rfl fun args H K h hB=>?_
 unfold tLl at h
 split at h<;>try exact h.elim
 unfold arM at h
 split at h<;>try exact h.elim
 rename_i sl l k v r _ rd fr nd ct us gn rl
 obtain⟨hs,ta,tb,h1,h2,h3,h4,h5,h6,h7,h8,h9,h10,h11,h12,h13,h14⟩:=h
 subst h9
 cases tb with
 | nil=>exact absurd h8 (Nat.not_lt_zero _)
 | node tm k2 v2 ts =>
  have zz:(Tr.node tm k2 v2 ts).size=tm.size+ts.size+1:=by simp[Tr.size];omega
  rw[zz] at h6 h7 h8 h10
  refine⟨_,?_,vc_ll ⟨us,gn,rl,fr,nd,ct,rd⟩ l k v r K hs ta tm k2 v2 ts h1 h2 h3 h4 h5 h6 h7 h8 h10 h11 h12 h13 h14⟩
  exact⟨frame C0.ok s_opn _,frame C0.ok s_size _,frame C0.ok s_balS _,frame C0.ok s_nodeX _,trivial⟩
theorem vc_lr (S:Arn)(l k v r:Int)(K:KT)(hs:List Int)(tb tm:Tr)(k2 v2:Int)(ts:Tr)(hw:Wf S (l::r::hs))(h1:Rep S (.node ts k2 v2 tm) l)(h2:Rep S tb r)(b1:(Tr.node ts k2 v2 tm).Bal)(b2:tb.Bal)(hn:near tb.size (tm.size+ts.size+1))(hb:¬ balN tb.size ((tm.size+ts.size+1:Nat):Int))(hlt:tb.size<tm.size+ts.size+1)(hz:tb.size+(tm.size+ts.size+1)<=900000)(hf:3<=S.free)(hl:hs.length<=800000000)(hr:S.reads<=2000000000000000000)(h:∀ S' i,TrR S hs (ts.list++(k2,v2)::(tm.list++(k,v)::tb.list)) 3 4 S' i->K (.one (.at (vU i))) (chS S') W7) :
  vc C0 (aLr (PLl S hs (fun _ s=>s) (fun _ _=>r) ts tm tb (balN tm.size tb.size/\balN ts.size ((tm.size+tb.size+1:Nat):Int))) k v k2 v2) Tryz.f141 [.at (.ptr 0 0),.at (vI tb.size),.at (vU l),.agg [vI k,vI v],.at (vU r)] (chS S) (normK 7 (wideK W7 K)):=by
 generalize hP:PLl S hs (fun _ s=>s) (fun _ _=>r) ts tm tb (balN tm.size tb.size/\balN ts.size ((tm.size+tb.size+1:Nat):Int))=P
 generalize hsl:(tb.size:Int)=sr
 refine Eq.mp (show (∃ hs:List Int,∃ a:Tr,∃ k1:Int,∃ v1:Int,∃ b:Tr,Wf S (l::hs)/\Rep S (a.node k1 v1 b) l/\hs.length<=900000000/\S.reads<=3000000000000000000/\∀ S':Arn,∀ l1:Int,∀ r1:Int,OpnR S hs a k1 v1 b S' l1 r1->inU r1/\exW S'/\S'.reads<4000000000000000000/\∀ S'1:Arn,S'1=(rdS S' (S'.us r1).toNat)->brS (r1==0) (∃ x:XLl P,True/\(True/\VU (r)=VU (r)/\True/\VU (l1)=VU (x.s)/\True/\VU (r1)=VU (x.m)/\Value.bool true=(Value.bool (x.c))/\True)/\(True/\True/\True/\VW (S'1.reads)=VW (x.S.reads)/\True)/\(True/\True/\True/\VU (S'1.fresh)=VU (x.S.fresh)/\True)/\S'1.nodes=x.S.nodes/\S'1.counts=x.S.counts/\S'1.used=x.S.used/\S'1.gen=x.S.gen/\S'1.rel=x.S.rel/\(VI (k)=VI (k)/\VI (v)=VI (v)/\True)/\(VI (k1)=VI (k2)/\VI (v1)=VI (v2)/\True)/\True) (0<=(S'.nd r1).size/\(S'.nd r1).size<=1000000/\0<=sr/\sr<=1000000/\∀ b1:Bool,b1=(balB (S'.nd r1).size sr)->brS (b1) (inU l1/\exW S'1/\S'1.reads<4000000000000000000/\∀ S'2:Arn,S'2=(rdS S'1 (S'1.us l1).toNat)->0<=(S'1.nd l1).size/\(S'1.nd l1).size<=1000000/\0<=IntKind.i64.wrap (IntKind.i64.wrap ((S'.nd r1).size+sr)+1)/\IntKind.i64.wrap (IntKind.i64.wrap ((S'.nd r1).size+sr)+1)<=1000000/\∀ b2:Bool,b2=(balB (S'1.nd l1).size (IntKind.i64.wrap (IntKind.i64.wrap ((S'.nd r1).size+sr)+1)))->∃ x:XLl P,True/\(True/\VU (r)=VU (r)/\True/\VU (l1)=VU (x.s)/\True/\VU (r1)=VU (x.m)/\(Value.bool (b2))=(Value.bool (x.c))/\True)/\(True/\True/\True/\VW (S'2.reads)=VW (x.S.reads)/\True)/\(True/\True/\True/\VU (S'2.fresh)=VU (x.S.fresh)/\True)/\S'2.nodes=x.S.nodes/\S'2.counts=x.S.counts/\S'2.used=x.S.used/\
 S'2.gen=x.S.gen/\S'2.rel=x.S.rel/\(VI (k)=VI (k)/\VI (v)=VI (v)/\True)/\(VI (k1)=VI (k2)/\VI (v1)=VI (v2)/\True)/\True) (∃ x:XLl P,True/\(True/\VU (r)=VU (r)/\True/\VU (l1)=VU (x.s)/\True/\VU (r1)=VU (x.m)/\Value.bool false=(Value.bool (x.c))/\True)/\(True/\True/\True/\VW (S'1.reads)=VW (x.S.reads)/\True)/\(True/\True/\True/\VU (S'1.fresh)=VU (x.S.fresh)/\True)/\S'1.nodes=x.S.nodes/\S'1.counts=x.S.counts/\S'1.used=x.S.used/\S'1.gen=x.S.gen/\S'1.rel=x.S.rel/\(VI (k)=VI (k)/\VI (v)=VI (v)/\True)/\(VI (k1)=VI (k2)/\VI (v1)=VI (v2)/\True)/\True))/\∀ x:XLl P,True->brS (x.c) ((∃ hs1:List Int,∃ tl:Tr,∃ tr:Tr,Wf x.S (x.m::r::hs1)/\Rep x.S tl x.m/\Rep x.S tr r/\tl.size+tr.size<=1000000/\0<x.S.free/\hs1.length<=900000000/\∀ S'2:Arn,∀ i:Int,NodeR x.S hs1 k v tl tr S'2 i->((S'2.nd i).left)=x.m->((S'2.nd i).right)=r->∃ hs2:List Int,∃ tl1:Tr,∃ tr1:Tr,Wf S'2 (x.s::i::hs2)/\Rep S'2 tl1 x.s/\Rep S'2 tr1 i/\tl1.size+tr1.size<=1000000/\0<S'2.free/\hs2.length<=900000000/\∀ S'3:Arn,∀ i1:Int,NodeR S'2 hs2 k2 v2 tl1 tr1 S'3 i1->((S'3.nd i1).left)=x.s->((S'3.nd i1).right)=i->K (.one (.at (.val (VU (i1))))) [(.box [(.ptr 1 0),(.slc 2),(.slc 3),(.val (VW (S'3.reads)))]),(.box [(.slc 4),(.slc 5),(.slc 6),(.val (VU (S'3.fresh)))]),(.row true EC.node (S'3.nodes)),(.row true EC.int (S'3.counts)),(.row true EC.bool (S'3.used)),(.row true EC.u32 (S'3.gen)),(.row true EC.u32 (S'3.rel))] [0,1,2,3,4,5,6])/\(∃ hs1:List Int,∃ tl:Tr,∃ tr:Tr,Wf x.S (x.m::r::hs1)/\Rep x.S tl x.m/\Rep x.S tr r/\tl.size+tr.size<=1000000/\
 0<x.S.free/\hs1.length<=900000000/\∀ S'2:Arn,∀ i:Int,NodeR x.S hs1 k v tl tr S'2 i->((S'2.nd i).left)=x.m->((S'2.nd i).right)=r->∃ hs2:List Int,∃ tl1:Tr,∃ tr1:Tr,Wf S'2 (x.s::i::hs2)/\Rep S'2 tl1 x.s/\Rep S'2 tr1 i/\tl1.size+tr1.size<=1000000/\0<S'2.free/\hs2.length<=900000000/\∀ S'3:Arn,∀ i1:Int,NodeR S'2 hs2 k2 v2 tl1 tr1 S'3 i1->((S'3.nd i1).left)=x.s->((S'3.nd i1).right)=i->K (.one (.at (.val (VU (i1))))) [(.box [(.ptr 1 0),(.slc 2),(.slc 3),(.val (VW (S'3.reads)))]),(.box [(.slc 4),(.slc 5),(.slc 6),(.val (VU (S'3.fresh)))]),(.row true EC.node (S'3.nodes)),(.row true EC.int (S'3.counts)),(.row true EC.bool (S'3.used)),(.row true EC.u32 (S'3.gen)),(.row true EC.u32 (S'3.rel))] [0,1,2,3,4,5,6])/\∃ hs1:List Int,∃ tl:Tr,∃ tr:Tr,Wf x.S (x.m::r::hs1)/\Rep x.S tl x.m/\Rep x.S tr r/\tl.size+tr.size<=1000000/\0<x.S.free/\hs1.length<=900000000/\∀ S'2:Arn,∀ i:Int,NodeR x.S hs1 k v tl tr S'2 i->((S'2.nd i).left)=x.m->((S'2.nd i).right)=r->∃ hs2:List Int,∃ tl1:Tr,∃ tr1:Tr,Wf S'2 (x.s::i::hs2)/\Rep S'2 tl1 x.s/\Rep S'2 tr1 i/\tl1.size+tr1.size<=1000000/\0<S'2.free/\hs2.length<=900000000/\∀ S'3:Arn,∀ i1:Int,NodeR S'2 hs2 k2 v2 tl1 tr1 S'3 i1->((S'3.nd i1).left)=x.s->((S'3.nd i1).right)=i->K (.one (.at (.val (VU (i1))))) [(.box [(.ptr 1 0),(.slc 2),(.slc 3),(.val (VW (S'3.reads)))]),(.box [(.slc 4),(.slc 5),(.slc 6),(.val (VU (S'3.fresh)))]),(.row true EC.node (S'3.nodes)),(.row true EC.int (S'3.counts)),(.row true EC.bool (S'3.used)),(.row true EC.u32 (S'3.gen)),(.row true EC.u32 (S'3.rel))] [0,1,2,3,4,5,6]) (∃ hs1:List Int,∃ a1:Tr,∃ k3:Int,∃ v3:Int,∃ b1:Tr,Wf x.S (x.m::hs1)/\
 Rep x.S (a1.node k3 v3 b1) x.m/\hs1.length<=900000000/\x.S.reads<=3000000000000000000/\∀ S'2:Arn,∀ l2:Int,∀ r2:Int,OpnR x.S hs1 a1 k3 v3 b1 S'2 l2 r2->∃ hs2:List Int,∃ tl:Tr,∃ tr:Tr,Wf S'2 (x.s::l2::hs2)/\Rep S'2 tl x.s/\Rep S'2 tr l2/\tl.size+tr.size<=1000000/\0<S'2.free/\hs2.length<=900000000/\∀ S'3:Arn,∀ i:Int,NodeR S'2 hs2 k2 v2 tl tr S'3 i->((S'3.nd i).left)=x.s->((S'3.nd i).right)=l2->(∃ hs3:List Int,∃ tl1:Tr,∃ tr1:Tr,Wf S'3 (r2::r::hs3)/\Rep S'3 tl1 r2/\Rep S'3 tr1 r/\tl1.size+tr1.size<=1000000/\0<S'3.free/\hs3.length<=900000000/\∀ S'4:Arn,∀ i1:Int,NodeR S'3 hs3 k v tl1 tr1 S'4 i1->((S'4.nd i1).left)=r2->((S'4.nd i1).right)=r->∃ hs4:List Int,∃ tl2:Tr,∃ tr2:Tr,Wf S'4 (i::i1::hs4)/\Rep S'4 tl2 i/\Rep S'4 tr2 i1/\tl2.size+tr2.size<=1000000/\0<S'4.free/\hs4.length<=900000000/\∀ S'5:Arn,∀ i2:Int,NodeR S'4 hs4 k3 v3 tl2 tr2 S'5 i2->((S'5.nd i2).left)=i->((S'5.nd i2).right)=i1->K (.one (.at (.val (VU (i2))))) [(.box [(.ptr 1 0),(.slc 2),(.slc 3),(.val (VW (S'5.reads)))]),(.box [(.slc 4),(.slc 5),(.slc 6),(.val (VU (S'5.fresh)))]),(.row true EC.node (S'5.nodes)),(.row true EC.int (S'5.counts)),(.row true EC.bool (S'5.used)),(.row true EC.u32 (S'5.gen)),(.row true EC.u32 (S'5.rel))] [0,1,2,3,4,5,6])/\(∃ hs3:List Int,∃ tl1:Tr,∃ tr1:Tr,Wf S'3 (r2::r::hs3)/\Rep S'3 tl1 r2/\Rep S'3 tr1 r/\tl1.size+tr1.size<=1000000/\0<S'3.free/\hs3.length<=900000000/\∀ S'4:Arn,∀ i1:Int,NodeR S'3 hs3 k v tl1 tr1 S'4 i1->((S'4.nd i1).left)=r2->((S'4.nd i1).right)=r->∃ hs4:List Int,∃ tl2:Tr,∃ tr2:Tr,Wf S'4 (i::i1::hs4)/\
 Rep S'4 tl2 i/\Rep S'4 tr2 i1/\tl2.size+tr2.size<=1000000/\0<S'4.free/\hs4.length<=900000000/\∀ S'5:Arn,∀ i2:Int,NodeR S'4 hs4 k3 v3 tl2 tr2 S'5 i2->((S'5.nd i2).left)=i->((S'5.nd i2).right)=i1->K (.one (.at (.val (VU (i2))))) [(.box [(.ptr 1 0),(.slc 2),(.slc 3),(.val (VW (S'5.reads)))]),(.box [(.slc 4),(.slc 5),(.slc 6),(.val (VU (S'5.fresh)))]),(.row true EC.node (S'5.nodes)),(.row true EC.int (S'5.counts)),(.row true EC.bool (S'5.used)),(.row true EC.u32 (S'5.gen)),(.row true EC.u32 (S'5.rel))] [0,1,2,3,4,5,6])/\∃ hs3:List Int,∃ tl1:Tr,∃ tr1:Tr,Wf S'3 (r2::r::hs3)/\Rep S'3 tl1 r2/\Rep S'3 tr1 r/\tl1.size+tr1.size<=1000000/\0<S'3.free/\hs3.length<=900000000/\∀ S'4:Arn,∀ i1:Int,NodeR S'3 hs3 k v tl1 tr1 S'4 i1->((S'4.nd i1).left)=r2->((S'4.nd i1).right)=r->∃ hs4:List Int,∃ tl2:Tr,∃ tr2:Tr,Wf S'4 (i::i1::hs4)/\Rep S'4 tl2 i/\Rep S'4 tr2 i1/\tl2.size+tr2.size<=1000000/\0<S'4.free/\hs4.length<=900000000/\∀ S'5:Arn,∀ i2:Int,NodeR S'4 hs4 k3 v3 tl2 tr2 S'5 i2->((S'5.nd i2).left)=i->((S'5.nd i2).right)=i1->K (.one (.at (.val (VU (i2))))) [(.box [(.ptr 1 0),(.slc 2),(.slc 3),(.val (VW (S'5.reads)))]),(.box [(.slc 4),(.slc 5),(.slc 6),(.val (VU (S'5.fresh)))]),(.row true EC.node (S'5.nodes)),(.row true EC.int (S'5.counts)),(.row true EC.bool (S'5.used)),(.row true EC.u32 (S'5.gen)),(.row true EC.u32 (S'5.rel))] [0,1,2,3,4,5,6]))=_ by kernel_rfl) ?_
 subst hP
 have hrd:=hw.rds
 refine⟨r::hs,ts,k2,v2,tm,hw,h1,by simp;omega,by omega,fun S1 s m o=>?_⟩
 have g1:Got S hs 0 1 S1 (s::m::r::hs):=(o.got.seq (Got.refl (hs:=hs) o.got.wf) (fun _ h=>by simp[h]) (fun _ h=>h)).mono (by omega) (by omega)
 have rB:Rep S1 tb r:=h2.held hw o.got.stay (.inr (by simp))
 have rM:=o.repr
 have rA:=o.repl
 have zM:=rM.size g1.wf
 have zA:=rA.size g1.wf
 have q1:=g1.rd
 have q0:=g1.rd0
 refine⟨inU_of g1.wf rM.us,⟨_,g1.wf⟩,by omega,fun S2 e2=>⟨brS_of (fun d=>⟨⟨S2,m,s,true,?_⟩,?_⟩) fun d=>?_,fun x _=>?_⟩⟩
 ·have d:m=0:=by simpa using d
  subst d
  have:=rM.zero g1.wf
  subst e2
  exact⟨(g1.rdn (k:=2) (by cases S1.us 0<;>decide) (by cases S1.us 0<;>simp<;>omega)),rA.rdn,rM.rdn,rB.rdn,fun _=>.inl this,fun e=>by cases e⟩
 ·(repeat' first|exact trivial|exact rfl|refine And.intro ?_ ?_)
 ·have d:m≠0:=by simpa using d
  have um:S1.us m=true:=rM.us.resolve_left d
  have e2:S2=rdS S1 1:=by rw[e2,um];rfl
  subst e2
  have nM:tm≠.nil:=fun e=>by subst e;exact d rM
  have g2:Got S hs 0 2 (rdS S1 1) (s::m::r::hs):=g1.rdn (k:=1) (by omega) (by omega)
  rw[zM]
  refine⟨by omega,by omega,by omega,by omega,fun c1 ec1=>brS_of (fun d1=>?_) fun d1=>⟨⟨rdS S1 1,m,s,false,?_⟩,?_⟩⟩
  ·subst d1
   have q2:=g2.rd
   have wr:IntKind.i64.wrap (IntKind.i64.wrap ((tm.size:Int)+sr)+1)=((tm.size+tb.size+1:Nat):Int):=by
    rw[wrap_id (x:=(tm.size:Int)+sr) (by omega) (by omega),wrap_id (by omega) (by omega)];omega
   rw[wr,show ((rdS S1 1).nd s).size=_ from zA]
   refine⟨inU_of g2.wf (rA.rdn (n:=1)).us,⟨_,g2.wf⟩,by omega,fun S3 e3=>⟨by omega,by omega,by omega,by omega,fun c2 ec2=>⟨⟨S3,m,s,c2,?_⟩,?_⟩⟩⟩
   ·subst e3
    have c1b:balN tm.size tb.size:=by rw[← hsl] at ec1;exact of_decide_eq_true ec1.symm
    refine⟨g2.rdn (k:=1) (by cases (rdS S1 1).us s<;>decide) (by cases (rdS S1 1).us s<;>simp<;>omega),rA.rdn.rdn,rM.rdn.rdn,rB.rdn.rdn,fun e=>.inr ⟨c1b,?_⟩,fun e=>⟨nM,fun q=>?_⟩⟩
    ·rw[e] at ec2;exact of_decide_eq_true ec2.symm
    ·rw[e] at ec2;exact absurd q.2 (of_decide_eq_false ec2.symm)
   ·(repeat' first|exact trivial|exact rfl|refine And.intro ?_ ?_)
  ·refine⟨g2.mono (by omega) (by omega),rA.rdn,rM.rdn,rB.rdn,(fun e=>by cases e),fun _=>⟨nM,fun q=>?_⟩⟩
   rw[d1,← hsl] at ec1
   exact absurd q.1 (of_decide_eq_false ec1.symm)
  ·(repeat' first|exact trivial|exact rfl|refine And.intro ?_ ?_)
 obtain⟨S2,m,s,c,g,rA,rM,rB,hc1,hc2⟩:=x
 dsimp only at g rA rM rB ⊢
 have fr:=g.free hw
 have grd:=g.rd
 obtain⟨bb,bA,bM⟩:=b1
 have bb':=balN_comm bb
 refine brS_of (fun d=>?_) fun d=>?_
 ·have cnd:balN tm.size tb.size/\balN ts.size ((tm.size+tb.size+1:Nat):Int):=by
   rcases hc1 d with e|e
   ·subst e
    have:=rot_nil hn bb' hb hlt
    refine⟨balN_comm this.1,balN_comm ?_⟩
    have e2:((tb.size+0+1:Nat):Int)=(((Tr.nil).size+tb.size+1:Nat):Int):=by simp[Tr.size]
    rw[← e2];exact this.2
   ·exact e
  (repeat' apply And.intro)
  all_goals
   refine⟨s::hs,tm,tb,g.wf.perm (perm_tor s m r hs),rM,rB,by omega,by omega,by simp;omega,fun S3 i n1 _ _=>?_⟩
   have f3:=(Got.node n1).free g.wf
   refine⟨hs,ts,_,n1.wf.perm (List.Perm.swap _ _ _),rA.held g.wf n1.stay (.inr (by simp)),n1.rep,by simp[Tr.size];omega,by omega,by omega,fun S4 j n2 _ _=>h S4 j (single_okR g n1 n2 bA bM b2 cnd.1 cnd.2)⟩
 ·obtain⟨nM,ncnd⟩:=hc2 d
  cases tm with
  | nil=>exact absurd rfl nM
  | node x k3 v3 y =>
   have zz:(Tr.node x k3 v3 y).size=y.size+x.size+1:=by simp[Tr.size];omega
   rw[zz] at hn hb hlt ncnd bb' hz
   obtain⟨bxy,bx,bY⟩:=bM
   have ncnd':¬ (balN tb.size ((y.size+x.size+1:Nat):Int)/\balN ((tb.size+(y.size+x.size+1)+1:Nat):Int) ts.size):=fun q=>ncnd ⟨balN_comm q.1,by
    have e:((y.size+x.size+1+tb.size+1:Nat):Int)=((tb.size+(y.size+x.size+1)+1:Nat):Int):=by omega
    rw[e];exact balN_comm q.2⟩
   obtain⟨c1,c2,c3⟩:=rot_two hn bb' (balN_comm bxy) hb hlt ncnd'
   refine⟨s::r::hs,x,k3,v3,y,g.wf.perm (List.Perm.swap _ _ _),rM,by simp;omega,by omega,fun S3 ix iy o2=>?_⟩
   have f3:=o2.got.free g.wf
   have rA3:Rep S3 ts s:=rA.held g.wf o2.got.stay (.inr (by simp))
   have rB3:Rep S3 tb r:=rB.held g.wf o2.got.stay (.inr (by simp))
   refine⟨iy::r::hs,ts,x,o2.got.wf.perm (perm_rot ix iy s (r::hs)),rA3,o2.repl,by omega,by omega,by simp;omega,fun S4 i n1 _ _=>?_⟩
   have f4:=(Got.node n1).free (o2.got.wf)
   have ry:Rep S4 y iy:=o2.repr.held o2.got.wf n1.stay (.inr (by simp))
   have rB4:Rep S4 tb r:=rB3.held o2.got.wf n1.stay (.inr (by simp))
   (repeat' apply And.intro)
   all_goals
    refine⟨i::hs,y,tb,n1.wf.perm (perm_tor i iy r hs),ry,rB4,by omega,by omega,by simp;omega,fun S5 j n2 _ _=>?_⟩
    have f5:=(Got.node n2).free n1.wf
    refine⟨hs,_,_,n2.wf.perm (List.Perm.swap _ _ _),n1.rep.held n1.wf n2.stay (.inr (by simp)),n2.rep,by simp[Tr.size];omega,by omega,by omega,fun S6 q n3 _ _=>h S6 q ?_⟩
    have:=double_ok g o2 n1 n2 n3 bA bx bY b2 (balN_comm c2) (balN_comm c1) (by
     have e1:((ts.size+x.size+1:Nat):Int)=((x.size+ts.size+1:Nat):Int):=by omega
     have e2:((y.size+tb.size+1:Nat):Int)=((tb.size+y.size+1:Nat):Int):=by omega
     rw[e1,e2];exact balN_comm c3)
    simpa [Tr.list] using this
theorem s_lr:SoundT C0 141 tLr:=by
 refine .ofW W7 Tryz.func141 (by decide) rfl fun args H K h hB=>?_
 unfold tLr at h
 split at h<;>try exact h.elim
 unfold arM at h
 split at h<;>try exact h.elim
 rename_i sl l k v r _ rd fr nd ct us gn rl
 obtain⟨hs,ta,tb,h1,h2,h3,h4,h5,h6,h7,h8,h9,h10,h11,h12,h13,h14⟩:=h
 subst h9
 cases ta with
 | nil=>exact absurd h8 (Nat.not_lt_zero _)
 | node ts k2 v2 tm =>
  have zz:(Tr.node ts k2 v2 tm).size=tm.size+ts.size+1:=by simp[Tr.size];omega
  rw[zz] at h6 h7 h8 h10
  refine⟨_,?_,vc_lr ⟨us,gn,rl,fr,nd,ct,rd⟩ l k v r K hs tb tm k2 v2 ts h1 h2 h3 h4 h5 (near_comm h6) (fun q=>h7 (balN_comm q)) h8 (by omega) h11 h12 h13 (fun S' i q=>h14 S' i (by simpa [Tr.list] using q))⟩
  exact⟨frame C0.ok s_opn _,frame C0.ok s_size _,frame C0.ok s_balS _,frame C0.ok s_nodeX _,trivial⟩
theorem us_le (S:Arn)(i:Int):(S.us i).toNat<=1:=by cases S.us i<;>decide
theorem vc_blc (S : Arn) (l k v r : Int) (K : KT) (hs : List Int) (ta tb : Tr) (hw : Wf S (l :: r :: hs)) (h1 : Rep S ta l) (h2 : Rep S tb r) (b1 : ta.Bal) (b2 : tb.Bal) (hn : near ta.size tb.size) (hz : ta.size + tb.size ≤ 900000) (hf : 3 ≤ S.free) (hl : hs.length ≤ 800000000) (hr : S.reads ≤ 1900000000000000000)
    (h : ∀ S' i, TrR S hs (ta.list ++ (k, v) :: tb.list) 3 6 S' i → K (.one (.at (vU i))) (chS S') W7) :
    vc C0 aBlc Tryz.f123 [.at (.ptr 0 0), .at (vU l), .agg [vI k, vI v], .at (vU r)] (chS S) (normK 7 (wideK W7 K)) := by
  refine Eq.mp (show ((inU l) ∧
(exW S) ∧
(S.reads < 4000000000000000000) ∧
(∀ S' : Arn, (((S') = (rdS S (S.us l).toNat)) → ((inU r) ∧ (exW S') ∧ (S'.reads < 4000000000000000000) ∧ (∀ S'1 : Arn, (((S'1) = (rdS S' (S'.us r).toNat)) → ((0 ≤ (S.nd l).size) ∧ ((S.nd l).size ≤ 1000000) ∧ (0 ≤ (S'.nd r).size) ∧ ((S'.nd r).size ≤ 1000000) ∧ (∀ b : Bool, (((b) = (balB (S.nd l).size (S'.nd r).size)) → (brS (b) ((∃ hs : List Int, (∃ tl : Tr, (∃ tr : Tr, ((Wf S'1 (l :: r :: hs)) ∧ (Rep S'1 tl l) ∧ (Rep S'1 tr r) ∧ (tl.size + tr.size ≤ 1000000) ∧ (0 < S'1.free) ∧ (hs.length ≤ 900000000) ∧ (∀ S'2 : Arn, (∀ i : Int, ((NodeR S'1 hs k v tl tr S'2 i) → ((((S'2.nd i).left) = (l)) → ((((S'2.nd i).right) = (r)) → (K (SV.one (TV.at (At.val (Value.int IntKind.u32 (i))))) [(Chunk.box [(At.ptr 1 0), (At.slc 2), (At.slc 3), (At.val (Value.int IntKind.u64 (S'2.reads)))]), (Chunk.box [(At.slc 4), (At.slc 5), (At.slc 6), (At.val (Value.int IntKind.u32 (S'2.fresh)))]), (Chunk.row true (EC.node) (S'2.nodes)), (Chunk.row true (EC.int) (S'2.counts)), (Chunk.row true (EC.bool) (S'2.used)), (Chunk.row true (EC.u32) (S'2.gen)), (Chunk.row true (EC.u32) (S'2.rel))] [0, 1, 2, 3, 4, 5, 6]))))))))))) ((brS (decide ((S.nd l).size < (S'.nd r).size)) ((∃ hs : List Int, (∃ ta : Tr, (∃ tb : Tr, ((Wf S'1 (l :: r :: hs)) ∧ (Rep S'1 ta l) ∧ (Rep S'1 tb r) ∧ (ta.Bal) ∧ (tb.Bal) ∧ (near ta.size tb.size) ∧ (¬balN (↑ta.size : Int) (↑tb.size : Int)) ∧ (ta.size < tb.size) ∧ (((S.nd l).size) = ((↑ta.size : Int))) ∧ (ta.size + tb.size ≤ 900000) ∧
    (3 ≤ S'1.free) ∧ (hs.length ≤ 800000000) ∧ (S'1.reads ≤ 2000000000000000000) ∧ (∀ S'2 : Arn, (∀ i : Int, ((TrR S'1 hs (ta.list ++ (k, v) :: tb.list) 3 4 S'2 i) → (K (SV.one (TV.at (At.val (Value.int IntKind.u32 (i))))) [(Chunk.box [(At.ptr 1 0), (At.slc 2), (At.slc 3), (At.val (Value.int IntKind.u64 (S'2.reads)))]), (Chunk.box [(At.slc 4), (At.slc 5), (At.slc 6), (At.val (Value.int IntKind.u32 (S'2.fresh)))]), (Chunk.row true (EC.node) (S'2.nodes)), (Chunk.row true (EC.int) (S'2.counts)), (Chunk.row true (EC.bool) (S'2.used)), (Chunk.row true (EC.u32) (S'2.gen)), (Chunk.row true (EC.u32) (S'2.rel))] [0, 1, 2, 3, 4, 5, 6]))))))))) ((∃ hs : List Int, (∃ ta : Tr, (∃ tb : Tr, ((Wf S'1 (l :: r :: hs)) ∧ (Rep S'1 ta l) ∧ (Rep S'1 tb r) ∧ (ta.Bal) ∧ (tb.Bal) ∧ (near ta.size tb.size) ∧ (¬balN (↑ta.size : Int) (↑tb.size : Int)) ∧ (tb.size < ta.size) ∧ (((S'.nd r).size) = ((↑tb.size : Int))) ∧ (ta.size + tb.size ≤ 900000) ∧ (3 ≤ S'1.free) ∧ (hs.length ≤ 800000000) ∧ (S'1.reads ≤ 2000000000000000000) ∧ (∀ S'2 : Arn, (∀ i : Int, ((TrR S'1 hs (ta.list ++ (k, v) :: tb.list) 3 4 S'2 i) →
    (K (SV.one (TV.at (At.val (Value.int IntKind.u32 (i))))) [(Chunk.box [(At.ptr 1 0), (At.slc 2), (At.slc 3), (At.val (Value.int IntKind.u64 (S'2.reads)))]), (Chunk.box [(At.slc 4), (At.slc 5), (At.slc 6), (At.val (Value.int IntKind.u32 (S'2.fresh)))]), (Chunk.row true (EC.node) (S'2.nodes)), (Chunk.row true (EC.int) (S'2.counts)), (Chunk.row true (EC.bool) (S'2.used)), (Chunk.row true (EC.u32) (S'2.gen)), (Chunk.row true (EC.u32) (S'2.rel))] [0, 1, 2, 3, 4, 5, 6]))))))))))))))))))))) = _ by kernel_rfl) ?_
  have z1 := h1.size hw
  have z2 := h2.size hw
  have u1 := us_le S l
  have hrd := hw.rds
  refine ⟨inU_of hw h1.us, ⟨_, hw⟩, by omega, fun S1 e1 => ?_⟩
  have g1 : Got S hs 0 1 S1 (l :: r :: hs) := by subst e1; exact ((Got.refl (hs := hs) hw).rdn (k := 1) u1 (by omega)).mono (by omega) (by omega)
  have r1 : Rep S1 ta l := by subst e1; exact h1.rdn
  have r2 : Rep S1 tb r := by subst e1; exact h2.rdn
  have z3 := r2.size g1.wf
  have q1 := g1.rd
  have u2 := us_le S1 r
  refine ⟨inU_of g1.wf r2.us, ⟨_, g1.wf⟩, by omega, fun S2 e2 => ?_⟩
  have g2 : Got S hs 0 2 S2 (l :: r :: hs) := by subst e2; exact (g1.rdn (k := 1) u2 (by omega)).mono (by omega) (by omega)
  have r3 : Rep S2 ta l := by subst e2; exact r1.rdn
  have r4 : Rep S2 tb r := by subst e2; exact r2.rdn
  have q2 := g2.rd
  have f2 := g2.free hw
  rw [z1, z3]
  refine ⟨by omega, by omega, by omega, by omega, fun b eb => brS_of (fun d => ?_) fun d => brS_of (fun e => ?_) fun e => ?_⟩
  · have c : balN ta.size tb.size := by rw [d] at eb; exact of_decide_eq_true eb.symm
    refine ⟨hs, ta, tb, g2.wf, r3, r4, by omega, by omega, by omega, fun S3 i n _ _ => h S3 i ⟨(g2.seq (Got.node n) (h := hs) (fun _ h => h) (fun _ h => h)).mono (by omega) (by omega), _, n.rep, rfl, c, b1, b2⟩⟩
  · have c : ¬ balN ta.size tb.size := by rw [d] at eb; exact of_decide_eq_false eb.symm
    have e : ta.size < tb.size := by have : (ta.size : Int) < tb.size := of_decide_eq_true e
                                     omega
    exact ⟨hs, ta, tb, g2.wf, r3, r4, b1, b2, hn, c, e, rfl, hz, by omega, hl, by omega, fun S3 i n => h S3 i ⟨(g2.seq n.got (h := hs) (fun _ h => h) (fun _ h => h)).mono (by omega) (by omega), n.tree⟩⟩
  · have c : ¬ balN ta.size tb.size := by rw [d] at eb; exact of_decide_eq_false eb.symm
    have e : tb.size < ta.size := by
      have : ¬ (ta.size : Int) < tb.size := of_decide_eq_false e
      unfold balN at c
      omega
    exact ⟨hs, ta, tb, g2.wf, r3, r4, b1, b2, hn, c, e, rfl, hz, by omega, hl, by omega, fun S3 i n => h S3 i ⟨(g2.seq n.got (h := hs) (fun _ h => h) (fun _ h => h)).mono (by omega) (by omega), n.tree⟩⟩
theorem s_blc:SoundT C0 123 tBlc:=by
 refine .ofW W7 Tryz.func123 (by decide) rfl fun args H K h hB=>?_
 unfold tBlc at h
 split at h<;>try exact h.elim
 unfold arM at h
 split at h<;>try exact h.elim
 rename_i l k v r _ rd fr nd ct us gn rl
 obtain⟨hs,ta,tb,h1,h2,h3,h4,h5,h6,h7,h8,h9,h10,h11⟩:=h
 exact⟨aBlc,⟨frame C0.ok s_size _,frame C0.ok s_balS _,frame C0.ok s_nodeX _,frame C0.ok s_ll _,frame C0.ok s_lr _,trivial⟩,vc_blc ⟨us,gn,rl,fr,nd,ct,rd⟩ l k v r K hs ta tb h1 h2 h3 h4 h5 h6 h7 h8 h9 h10 h11⟩
theorem vc_jn (n : Nat) (S : Arn) (l k v r : Int) (K : KT) (hs : List Int) (ta tb : Tr) (hw : Wf S (l :: r :: hs)) (h1 : Rep S ta l) (h2 : Rep S tb r) (b1 : ta.Bal) (b2 : tb.Bal) (hfu : ta.size + tb.size < n + 1) (hz : ta.size + tb.size ≤ 900000) (hf : (jB ta.size tb.size : Int) ≤ S.free)
    (hl : hs.length + (ta.size + tb.size) ≤ 800000000) (hr : S.reads + 5 * (jB ta.size tb.size) ≤ 1800000000000000000)
    (h : ∀ S' i, TrR S hs (ta.list ++ (k, v) :: tb.list) (jB ta.size tb.size) (4 * jB ta.size tb.size) S' i → (balN ta.size tb.size → (S'.nd i).left = l ∧ (S'.nd i).right = r ∧ S'.nu = S.nu + 1) → K (.one (.at (vU i))) (chS S') W7) :
    vc C0 (aJn n) Tryz.f92 [.at (.ptr 0 0), .at (vU l), .agg [vI k, vI v], .at (vU r)] (chS S) (normK 7 (wideK W7 K)) := by
  refine Eq.mp (show ((inU l) ∧
(exW S) ∧
(S.reads < 4000000000000000000) ∧
(∀ S' : Arn, (((S') = (rdS S (S.us l).toNat)) → ((inU r) ∧ (exW S') ∧ (S'.reads < 4000000000000000000) ∧ (∀ S'1 : Arn, (((S'1) = (rdS S' (S'.us r).toNat)) → ((0 ≤ (S.nd l).size) ∧ ((S.nd l).size ≤ 1000000) ∧ (0 ≤ (S'.nd r).size) ∧ ((S'.nd r).size ≤ 1000000) ∧ (∀ b : Bool, (((b) = (balB (S.nd l).size (S'.nd r).size)) → (brS (b) ((∃ hs : List Int, (∃ tl : Tr, (∃ tr : Tr, ((Wf S'1 (l :: r :: hs)) ∧ (Rep S'1 tl l) ∧ (Rep S'1 tr r) ∧ (tl.size + tr.size ≤ 1000000) ∧ (0 < S'1.free) ∧ (hs.length ≤ 900000000) ∧ (∀ S'2 : Arn, (∀ i : Int, ((NodeR S'1 hs k v tl tr S'2 i) → ((((S'2.nd i).left) = (l)) → ((((S'2.nd i).right) = (r)) → (K (SV.one (TV.at (At.val (Value.int IntKind.u32 (i))))) [(Chunk.box [(At.ptr 1 0), (At.slc 2), (At.slc 3), (At.val (Value.int IntKind.u64 (S'2.reads)))]), (Chunk.box [(At.slc 4), (At.slc 5), (At.slc 6), (At.val (Value.int IntKind.u32 (S'2.fresh)))]), (Chunk.row true (EC.node) (S'2.nodes)), (Chunk.row true (EC.int) (S'2.counts)), (Chunk.row true (EC.bool) (S'2.used)), (Chunk.row true (EC.u32) (S'2.gen)), (Chunk.row true (EC.u32) (S'2.rel))] [0, 1, 2, 3, 4, 5, 6]))))))))))) ((brS (decide ((S.nd l).size > (S'.nd r).size)) ((∃ hs : List Int, (∃ a : Tr, (∃ k1 : Int, (∃ v1 : Int, (∃ b1 : Tr, ((Wf S'1 (l :: hs)) ∧ (Rep S'1 (a.node k1 v1 b1) l) ∧ (hs.length ≤ 900000000) ∧ (S'1.reads ≤ 3000000000000000000) ∧ (∀ S'2 : Arn, (∀ l1 : Int, (∀ r1 : Int, ((OpnR S'1 hs a k1 v1 b1 S'2 l1 r1) → ((∃ hs1 : List Int, (∃ ta : Tr,
    (∃ tb : Tr, ((Wf S'2 (r1 :: r :: hs1)) ∧ (Rep S'2 ta r1) ∧ (Rep S'2 tb r) ∧ (ta.Bal) ∧ (tb.Bal) ∧ (ta.size + tb.size < n) ∧ (ta.size + tb.size ≤ 900000) ∧ ((↑(jB ta.size tb.size) : Int) ≤ S'2.free) ∧ (hs1.length + (ta.size + tb.size) ≤ 800000000) ∧ (S'2.reads + 5 * (↑(jB ta.size tb.size) : Int) ≤ 1800000000000000000) ∧ (∀ S'3 : Arn, (∀ i : Int, ((TrR S'2 hs1 (ta.list ++ (k, v) :: tb.list) (jB ta.size tb.size) (4 * jB ta.size tb.size) S'3 i) → (((balN (↑ta.size : Int) (↑tb.size : Int)) → ((((S'3.nd i).left) = (r1)) ∧ (((S'3.nd i).right) = (r)) ∧ ((S'3.nu) = (S'2.nu + 1)))) → (∃ hs2 : List Int, (∃ ta1 : Tr, (∃ tb1 : Tr, ((Wf S'3 (l1 :: i :: hs2)) ∧ (Rep S'3 ta1 l1) ∧ (Rep S'3 tb1 i) ∧ (ta1.Bal) ∧ (tb1.Bal) ∧ (near ta1.size tb1.size) ∧ (ta1.size + tb1.size ≤ 900000) ∧ (3 ≤ S'3.free) ∧ (hs2.length ≤ 800000000) ∧ (S'3.reads ≤ 1900000000000000000) ∧ (∀ S'4 : Arn, (∀ i1 : Int, ((TrR S'3 hs2 (ta1.list ++ (k1, v1) :: tb1.list) 3 6 S'4 i1) → (K (SV.one (TV.at (At.val (Value.int IntKind.u32 (i1))))) [(Chunk.box [(At.ptr 1 0), (At.slc 2), (At.slc 3), (At.val (Value.int IntKind.u64 (S'4.reads)))]), (Chunk.box [(At.slc 4), (At.slc 5), (At.slc 6), (At.val (Value.int IntKind.u32 (S'4.fresh)))]), (Chunk.row true (EC.node) (S'4.nodes)), (Chunk.row true (EC.int) (S'4.counts)), (Chunk.row true (EC.bool) (S'4.used)), (Chunk.row true (EC.u32) (S'4.gen)), (Chunk.row true (EC.u32) (S'4.rel))] [0, 1, 2, 3, 4, 5, 6])))))))))))))))) ∧ (∃ hs1 : List Int, (∃ ta : Tr, (∃ tb : Tr,
    ((Wf S'2 (r1 :: r :: hs1)) ∧ (Rep S'2 ta r1) ∧ (Rep S'2 tb r) ∧ (ta.Bal) ∧ (tb.Bal) ∧ (ta.size + tb.size < n) ∧ (ta.size + tb.size ≤ 900000) ∧ ((↑(jB ta.size tb.size) : Int) ≤ S'2.free) ∧ (hs1.length + (ta.size + tb.size) ≤ 800000000) ∧ (S'2.reads + 5 * (↑(jB ta.size tb.size) : Int) ≤ 1800000000000000000) ∧ (∀ S'3 : Arn, (∀ i : Int, ((TrR S'2 hs1 (ta.list ++ (k, v) :: tb.list) (jB ta.size tb.size) (4 * jB ta.size tb.size) S'3 i) → (((balN (↑ta.size : Int) (↑tb.size : Int)) → ((((S'3.nd i).left) = (r1)) ∧ (((S'3.nd i).right) = (r)) ∧ ((S'3.nu) = (S'2.nu + 1)))) → (∃ hs2 : List Int, (∃ ta1 : Tr, (∃ tb1 : Tr, ((Wf S'3 (l1 :: i :: hs2)) ∧ (Rep S'3 ta1 l1) ∧ (Rep S'3 tb1 i) ∧ (ta1.Bal) ∧ (tb1.Bal) ∧ (near ta1.size tb1.size) ∧ (ta1.size + tb1.size ≤ 900000) ∧ (3 ≤ S'3.free) ∧ (hs2.length ≤ 800000000) ∧ (S'3.reads ≤ 1900000000000000000) ∧ (∀ S'4 : Arn, (∀ i1 : Int, ((TrR S'3 hs2 (ta1.list ++ (k1, v1) :: tb1.list) 3 6 S'4 i1) → (K (SV.one (TV.at (At.val (Value.int IntKind.u32 (i1))))) [(Chunk.box [(At.ptr 1 0), (At.slc 2), (At.slc 3), (At.val (Value.int IntKind.u64 (S'4.reads)))]), (Chunk.box [(At.slc 4), (At.slc 5), (At.slc 6), (At.val (Value.int IntKind.u32 (S'4.fresh)))]), (Chunk.row true (EC.node) (S'4.nodes)), (Chunk.row true (EC.int) (S'4.counts)), (Chunk.row true (EC.bool) (S'4.used)), (Chunk.row true (EC.u32) (S'4.gen)), (Chunk.row true (EC.u32) (S'4.rel))] [0, 1, 2, 3, 4, 5, 6])))))))))))))))) ∧ (∃ hs1 : List Int, (∃ ta : Tr, (∃ tb : Tr, ((Wf S'2 (r1 :: r :: hs1)) ∧
    (Rep S'2 ta r1) ∧ (Rep S'2 tb r) ∧ (ta.Bal) ∧ (tb.Bal) ∧ (ta.size + tb.size < n) ∧ (ta.size + tb.size ≤ 900000) ∧ ((↑(jB ta.size tb.size) : Int) ≤ S'2.free) ∧ (hs1.length + (ta.size + tb.size) ≤ 800000000) ∧ (S'2.reads + 5 * (↑(jB ta.size tb.size) : Int) ≤ 1800000000000000000) ∧ (∀ S'3 : Arn, (∀ i : Int, ((TrR S'2 hs1 (ta.list ++ (k, v) :: tb.list) (jB ta.size tb.size) (4 * jB ta.size tb.size) S'3 i) → (((balN (↑ta.size : Int) (↑tb.size : Int)) → ((((S'3.nd i).left) = (r1)) ∧ (((S'3.nd i).right) = (r)) ∧ ((S'3.nu) = (S'2.nu + 1)))) → (∃ hs2 : List Int, (∃ ta1 : Tr, (∃ tb1 : Tr, ((Wf S'3 (l1 :: i :: hs2)) ∧ (Rep S'3 ta1 l1) ∧ (Rep S'3 tb1 i) ∧ (ta1.Bal) ∧ (tb1.Bal) ∧ (near ta1.size tb1.size) ∧ (ta1.size + tb1.size ≤ 900000) ∧ (3 ≤ S'3.free) ∧ (hs2.length ≤ 800000000) ∧ (S'3.reads ≤ 1900000000000000000) ∧ (∀ S'4 : Arn, (∀ i1 : Int, ((TrR S'3 hs2 (ta1.list ++ (k1, v1) :: tb1.list) 3 6 S'4 i1) → (K (SV.one (TV.at (At.val (Value.int IntKind.u32 (i1))))) [(Chunk.box [(At.ptr 1 0), (At.slc 2), (At.slc 3), (At.val (Value.int IntKind.u64 (S'4.reads)))]), (Chunk.box [(At.slc 4), (At.slc 5), (At.slc 6), (At.val (Value.int IntKind.u32 (S'4.fresh)))]), (Chunk.row true (EC.node) (S'4.nodes)), (Chunk.row true (EC.int) (S'4.counts)), (Chunk.row true (EC.bool) (S'4.used)), (Chunk.row true (EC.u32) (S'4.gen)), (Chunk.row true (EC.u32) (S'4.rel))] [0, 1, 2, 3, 4, 5, 6])))))))))))))))))))))))))))) ((∃ hs : List Int, (∃ a : Tr, (∃ k1 : Int, (∃ v1 : Int, (∃ b1 : Tr, ((Wf S'1 (r :: hs)) ∧
    (Rep S'1 (a.node k1 v1 b1) r) ∧ (hs.length ≤ 900000000) ∧ (S'1.reads ≤ 3000000000000000000) ∧ (∀ S'2 : Arn, (∀ l1 : Int, (∀ r1 : Int, ((OpnR S'1 hs a k1 v1 b1 S'2 l1 r1) → (((∃ hs1 : List Int, (∃ ta : Tr, (∃ tb : Tr, ((Wf S'2 (l :: l1 :: hs1)) ∧ (Rep S'2 ta l) ∧ (Rep S'2 tb l1) ∧ (ta.Bal) ∧ (tb.Bal) ∧ (ta.size + tb.size < n) ∧ (ta.size + tb.size ≤ 900000) ∧ ((↑(jB ta.size tb.size) : Int) ≤ S'2.free) ∧ (hs1.length + (ta.size + tb.size) ≤ 800000000) ∧ (S'2.reads + 5 * (↑(jB ta.size tb.size) : Int) ≤ 1800000000000000000) ∧ (∀ S'3 : Arn, (∀ i : Int, ((TrR S'2 hs1 (ta.list ++ (k, v) :: tb.list) (jB ta.size tb.size) (4 * jB ta.size tb.size) S'3 i) → (((balN (↑ta.size : Int) (↑tb.size : Int)) → ((((S'3.nd i).left) = (l)) ∧ (((S'3.nd i).right) = (l1)) ∧ ((S'3.nu) = (S'2.nu + 1)))) → (∃ hs2 : List Int, (∃ ta1 : Tr, (∃ tb1 : Tr, ((Wf S'3 (i :: r1 :: hs2)) ∧ (Rep S'3 ta1 i) ∧ (Rep S'3 tb1 r1) ∧ (ta1.Bal) ∧ (tb1.Bal) ∧ (near ta1.size tb1.size) ∧ (ta1.size + tb1.size ≤ 900000) ∧ (3 ≤ S'3.free) ∧ (hs2.length ≤ 800000000) ∧ (S'3.reads ≤ 1900000000000000000) ∧ (∀ S'4 : Arn, (∀ i1 : Int, ((TrR S'3 hs2 (ta1.list ++ (k1, v1) :: tb1.list) 3 6 S'4 i1) →
    (K (SV.one (TV.at (At.val (Value.int IntKind.u32 (i1))))) [(Chunk.box [(At.ptr 1 0), (At.slc 2), (At.slc 3), (At.val (Value.int IntKind.u64 (S'4.reads)))]), (Chunk.box [(At.slc 4), (At.slc 5), (At.slc 6), (At.val (Value.int IntKind.u32 (S'4.fresh)))]), (Chunk.row true (EC.node) (S'4.nodes)), (Chunk.row true (EC.int) (S'4.counts)), (Chunk.row true (EC.bool) (S'4.used)), (Chunk.row true (EC.u32) (S'4.gen)), (Chunk.row true (EC.u32) (S'4.rel))] [0, 1, 2, 3, 4, 5, 6])))))))))))))))) ∧ (∃ hs1 : List Int, (∃ ta : Tr, (∃ tb : Tr, ((Wf S'2 (l :: l1 :: hs1)) ∧ (Rep S'2 ta l) ∧ (Rep S'2 tb l1) ∧ (ta.Bal) ∧ (tb.Bal) ∧ (ta.size + tb.size < n) ∧ (ta.size + tb.size ≤ 900000) ∧ ((↑(jB ta.size tb.size) : Int) ≤ S'2.free) ∧ (hs1.length + (ta.size + tb.size) ≤ 800000000) ∧ (S'2.reads + 5 * (↑(jB ta.size tb.size) : Int) ≤ 1800000000000000000) ∧ (∀ S'3 : Arn, (∀ i : Int, ((TrR S'2 hs1 (ta.list ++ (k, v) :: tb.list) (jB ta.size tb.size) (4 * jB ta.size tb.size) S'3 i) → (((balN (↑ta.size : Int) (↑tb.size : Int)) → ((((S'3.nd i).left) = (l)) ∧ (((S'3.nd i).right) = (l1)) ∧ ((S'3.nu) = (S'2.nu + 1)))) → (∃ hs2 : List Int, (∃ ta1 : Tr, (∃ tb1 : Tr, ((Wf S'3 (i :: r1 :: hs2)) ∧ (Rep S'3 ta1 i) ∧ (Rep S'3 tb1 r1) ∧ (ta1.Bal) ∧ (tb1.Bal) ∧ (near ta1.size tb1.size) ∧ (ta1.size + tb1.size ≤ 900000) ∧ (3 ≤ S'3.free) ∧ (hs2.length ≤ 800000000) ∧ (S'3.reads ≤ 1900000000000000000) ∧ (∀ S'4 : Arn, (∀ i1 : Int, ((TrR S'3 hs2 (ta1.list ++ (k1, v1) :: tb1.list) 3 6 S'4 i1) →
    (K (SV.one (TV.at (At.val (Value.int IntKind.u32 (i1))))) [(Chunk.box [(At.ptr 1 0), (At.slc 2), (At.slc 3), (At.val (Value.int IntKind.u64 (S'4.reads)))]), (Chunk.box [(At.slc 4), (At.slc 5), (At.slc 6), (At.val (Value.int IntKind.u32 (S'4.fresh)))]), (Chunk.row true (EC.node) (S'4.nodes)), (Chunk.row true (EC.int) (S'4.counts)), (Chunk.row true (EC.bool) (S'4.used)), (Chunk.row true (EC.u32) (S'4.gen)), (Chunk.row true (EC.u32) (S'4.rel))] [0, 1, 2, 3, 4, 5, 6]))))))))))))))))) ∧ (∃ hs1 : List Int, (∃ ta : Tr, (∃ tb : Tr, ((Wf S'2 (l :: l1 :: hs1)) ∧ (Rep S'2 ta l) ∧ (Rep S'2 tb l1) ∧ (ta.Bal) ∧ (tb.Bal) ∧ (ta.size + tb.size < n) ∧ (ta.size + tb.size ≤ 900000) ∧ ((↑(jB ta.size tb.size) : Int) ≤ S'2.free) ∧ (hs1.length + (ta.size + tb.size) ≤ 800000000) ∧ (S'2.reads + 5 * (↑(jB ta.size tb.size) : Int) ≤ 1800000000000000000) ∧ (∀ S'3 : Arn, (∀ i : Int, ((TrR S'2 hs1 (ta.list ++ (k, v) :: tb.list) (jB ta.size tb.size) (4 * jB ta.size tb.size) S'3 i) → (((balN (↑ta.size : Int) (↑tb.size : Int)) → ((((S'3.nd i).left) = (l)) ∧ (((S'3.nd i).right) = (l1)) ∧ ((S'3.nu) = (S'2.nu + 1)))) → (∃ hs2 : List Int, (∃ ta1 : Tr, (∃ tb1 : Tr, ((Wf S'3 (i :: r1 :: hs2)) ∧ (Rep S'3 ta1 i) ∧ (Rep S'3 tb1 r1) ∧ (ta1.Bal) ∧ (tb1.Bal) ∧ (near ta1.size tb1.size) ∧ (ta1.size + tb1.size ≤ 900000) ∧ (3 ≤ S'3.free) ∧ (hs2.length ≤ 800000000) ∧ (S'3.reads ≤ 1900000000000000000) ∧ (∀ S'4 : Arn, (∀ i1 : Int, ((TrR S'3 hs2 (ta1.list ++ (k1, v1) :: tb1.list) 3 6 S'4 i1) →
    (K (SV.one (TV.at (At.val (Value.int IntKind.u32 (i1))))) [(Chunk.box [(At.ptr 1 0), (At.slc 2), (At.slc 3), (At.val (Value.int IntKind.u64 (S'4.reads)))]), (Chunk.box [(At.slc 4), (At.slc 5), (At.slc 6), (At.val (Value.int IntKind.u32 (S'4.fresh)))]), (Chunk.row true (EC.node) (S'4.nodes)), (Chunk.row true (EC.int) (S'4.counts)), (Chunk.row true (EC.bool) (S'4.used)), (Chunk.row true (EC.u32) (S'4.gen)), (Chunk.row true (EC.u32) (S'4.rel))] [0, 1, 2, 3, 4, 5, 6])))))))))))))))))))))))))))))))))))))))) = _ by kernel_rfl) ?_
  have z1 := h1.size hw
  have z2 := h2.size hw
  have u1 := us_le S l
  have hrd := hw.rds
  have jp := jB_pos ta.size tb.size
  refine ⟨inU_of hw h1.us, ⟨_, hw⟩, by omega, fun S1 e1 => ?_⟩
  have g1 : Got S hs 0 1 S1 (l :: r :: hs) := by subst e1; exact ((Got.refl (hs := hs) hw).rdn (k := 1) u1 (by omega)).mono (by omega) (by omega)
  have r1 : Rep S1 ta l := by subst e1; exact h1.rdn
  have r2 : Rep S1 tb r := by subst e1; exact h2.rdn
  have nu1 : S1.nu = S.nu := by subst e1; rfl
  have z3 := r2.size g1.wf
  have q1 := g1.rd
  have u2 := us_le S1 r
  refine ⟨inU_of g1.wf r2.us, ⟨_, g1.wf⟩, by omega, fun S2 e2 => ?_⟩
  have g2 : Got S hs 0 2 S2 (l :: r :: hs) := by subst e2; exact (g1.rdn (k := 1) u2 (by omega)).mono (by omega) (by omega)
  have r3 : Rep S2 ta l := by subst e2; exact r1.rdn
  have r4 : Rep S2 tb r := by subst e2; exact r2.rdn
  have nu2 : S2.nu = S.nu := by subst e2; exact nu1
  have q2 := g2.rd
  have f2 := g2.free hw
  rw [z1, z3]
  refine ⟨by omega, by omega, by omega, by omega, fun b eb => brS_of (fun d => ?_) fun d => brS_of (fun e => ?_) fun e => ?_⟩
  · have c : balN ta.size tb.size := by rw [d] at eb; exact of_decide_eq_true eb.symm
    refine ⟨hs, ta, tb, g2.wf, r3, r4, by omega, by omega, by omega, fun S3 i nn lft rgt => h S3 i ⟨(g2.seq (Got.node nn) (h := hs) (fun _ h => h) (fun _ h => h)).mono (by omega) (by omega), _, nn.rep, rfl, c, b1, b2⟩ fun _ => ⟨lft, rgt, by rw [nn.nu, nu2]⟩⟩
  · have c : ¬ balN ta.size tb.size := by rw [d] at eb; exact of_decide_eq_false eb.symm
    have e : tb.size < ta.size := by have : (ta.size : Int) > tb.size := of_decide_eq_true e
                                     omega
    cases ta with
    | nil => exact absurd e (Nat.not_lt_zero _)
    | node s k1 v1 m =>
      have zz : (Tr.node s k1 v1 m).size = s.size + m.size + 1 := by simp [Tr.size]; omega
      rw [zz] at hz hl hfu hf hr e c jp
      obtain ⟨bb, bs, bm⟩ := b1
      have jd := jB_down bb c e
      have jn := join_near bb c e
      refine ⟨r :: hs, s, k1, v1, m, g2.wf, r3, by simp; omega, by omega, fun S3 l1 m1 o => ?_⟩
      have f3 := o.got.free g2.wf
      have q3 := o.got.rd
      have rB : Rep S3 tb r := r4.held g2.wf o.got.stay (.inr (by simp))
      (repeat' apply And.intro)
      all_goals
        refine ⟨l1 :: hs, m, tb, o.got.wf.perm (perm_tor l1 m1 r hs), o.repr, rB, bm, b2, by omega, by omega, by omega, by simp; omega, by omega, fun S4 i tr _ => ?_⟩
        obtain ⟨t, rt, lt, bt⟩ := tr.tree
        have zt : t.size = m.size + tb.size + 1 := by rw [← t.list_len, lt]; simp [Tr.list_len]; omega
        have f4 := tr.got.free o.got.wf
        have q4 := tr.got.rd
        refine ⟨hs, s, t, tr.got.wf.perm (List.Perm.swap _ _ _), o.repl.held o.got.wf tr.got.stay (.inr (by simp)), rt, bs, bt, by rw [zt]; exact jn, by omega, by omega, by omega, by omega, fun S5 j tj => h S5 j ⟨?_, ?_⟩ fun c' => ?_⟩
        · rw [zz]
          exact (((g2.seq o.got (h := hs) (fun _ h => h) (fun _ h => by simp [h])).seq tr.got (h := hs) (fun _ h => h) (fun _ h => by simp [h])).seq tj.got (fun _ h => h) (fun _ h => h)).mono (by omega) (by omega)
        · obtain ⟨t', rt', lt', bt'⟩ := tj.tree
          exact ⟨t', rt', by rw [lt', lt]; simp [Tr.list], bt'⟩
        · rw [zz] at c'; exact absurd c' c
  · have c : ¬ balN ta.size tb.size := by rw [d] at eb; exact of_decide_eq_false eb.symm
    have e : ta.size < tb.size := by
      have : ¬ (ta.size : Int) > tb.size := of_decide_eq_false e
      unfold balN at c
      omega
    cases tb with
    | nil => exact absurd e (Nat.not_lt_zero _)
    | node m k1 v1 s =>
      have zz : (Tr.node m k1 v1 s).size = s.size + m.size + 1 := by simp [Tr.size]; omega
      rw [zz] at hz hl hfu hf hr e c jp
      obtain ⟨bb, bm, bs⟩ := b2
      have bb := balN_comm bb
      have c2 : ¬ balN ((s.size + m.size + 1 : Nat) : Int) ta.size := fun q => c (balN_comm q)
      have jd := jB_down bb c2 e
      have jn := near_comm (join_near bb c2 e)
      rw [jB_comm m.size, jB_comm (s.size + m.size + 1)] at jd
      refine ⟨l :: hs, m, k1, v1, s, g2.wf.perm (List.Perm.swap _ _ _), r4, by simp; omega, by omega, fun S3 m1 s1 o => ?_⟩
      have f3 := o.got.free g2.wf
      have q3 := o.got.rd
      have rA : Rep S3 ta l := r3.held g2.wf o.got.stay (.inr (by simp))
      (repeat' apply And.intro)
      all_goals
        refine ⟨s1 :: hs, ta, m, o.got.wf.perm (perm_rot m1 s1 l hs), rA, o.repl, b1, bm, by omega, by omega, by omega, by simp; omega, by omega, fun S4 i tr _ => ?_⟩
        obtain ⟨t, rt, lt, bt⟩ := tr.tree
        have zt : t.size = m.size + ta.size + 1 := by rw [← t.list_len, lt]; simp [Tr.list_len]; omega
        have f4 := tr.got.free o.got.wf
        have q4 := tr.got.rd
        refine ⟨hs, t, s, tr.got.wf, rt, o.repr.held o.got.wf tr.got.stay (.inr (by simp)), bt, bs, by rw [zt]; exact jn, by omega, by omega, by omega, by omega, fun S5 j tj => h S5 j ⟨?_, ?_⟩ fun c' => ?_⟩
        · rw [zz]
          exact (((g2.seq o.got (h := hs) (fun _ h => h) (fun _ h => by simp [h])).seq tr.got (h := hs) (fun _ h => h) (fun _ h => by simp [h])).seq tj.got (fun _ h => h) (fun _ h => h)).mono (by omega) (by omega)
        · obtain ⟨t', rt', lt', bt'⟩ := tj.tree
          exact ⟨t', rt', by rw [lt', lt]; simp [Tr.list], bt'⟩
        · rw [zz] at c'; exact absurd c' c
theorem s_jn:∀ n,SoundT C0 92 (tJn n):=by
 intro n
 induction n with
 | zero =>
  refine .of Tryz.func92 (by decide) rfl fun args H K h hB=>?_
  exfalso
  unfold tJn at h
  split at h<;>try exact h.elim
  unfold arM at h
  split at h<;>try exact h.elim
  obtain⟨_,_,_,_,_,_,_,_,h1,_⟩:=h
  omega
 | succ n ih =>
  refine .ofW W7 Tryz.func92 (by decide) rfl fun args H K h hB=>?_
  unfold tJn at h
  split at h<;>try exact h.elim
  unfold arM at h
  split at h<;>try exact h.elim
  rename_i l k v r _ rd fr nd ct us gn rl
  obtain⟨hs,ta,tb,h1,h2,h3,h4,h5,h6,h7,h8,h9,h10,h11⟩:=h
  exact⟨aJn n,⟨frame C0.ok s_size _,frame C0.ok s_balS _,frame C0.ok s_nodeX _,frame C0.ok s_opn _,frame C0.ok ih _,frame C0.ok s_blc _,trivial⟩,vc_jn n ⟨us,gn,rl,fr,nd,ct,rd⟩ l k v r K hs ta tb h1 h2 h3 h4 h5 h6 h7 h8 h9 h10 h11⟩
def tJoin:Tfm C0:=fun args H K=>match args with
 | [.at (.ptr 0 0),.at (.val (.int .u32 l)),.agg [.val (.int .i64 k),.val (.int .i64 v)],.at (.val (.int .u32 r))]=>arM H fun S=>∃ hs ta tb,Wf S (l::r::hs)/\Rep S ta l/\Rep S tb r/\ta.Bal/\tb.Bal ∧
  ta.size+tb.size<=900000/\(jB ta.size tb.size:Int)<=S.free/\hs.length<=700000000/\S.reads+5*(jB ta.size tb.size)<=1800000000000000000 ∧
  ∀ S' i,TrR S hs (ta.list++(k,v)::tb.list) (jB ta.size tb.size) (4*jB ta.size tb.size) S' i->(balN ta.size tb.size->(S'.nd i).left=l/\(S'.nd i).right=r/\S'.nu=S.nu+1)->K (.one (.at (vU i))) (chS S') W7
 | _=>False
theorem s_join:SoundT C0 92 tJoin:=(s_jn 1000000).weak fun args H K h=>by
 unfold tJoin at h
 unfold tJn
 split at h<;>try exact h.elim
 unfold arM at h ⊢
 split at h<;>try exact h.elim
 obtain⟨hs,ta,tb,h1,h2,h3,h4,h5,h7,h8,h9,h10,h11⟩:=h
 exact⟨hs,ta,tb,h1,h2,h3,h4,h5,by omega,h7,h8,by omega,h10,h11⟩
end Go.Proofs.YtedfbafngmicpaaGreat.Sx
end
