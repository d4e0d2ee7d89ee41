/- packwork: Digest, and Write without a rest. -/
import Derived.Test.YtedfbafngmicpaaGreatG0
import Derived.Test.YtedfbafngmicpaaGreatG7
import Derived.Test.YtedfbafngmicpaaGreatG6
import Derived.Test.YtedfbafngmicpaaGreatG5
noncomputable section
open Go.IntKind renaming i64 → Za,u32 → Ze,u64 → Zd
open Go.Value renaming bool → Zi,int → Zm
namespace Go.Proofs.YtedfbafngmicpaaGreat.Sx
open Go
theorem Ycj:∀ t:Tr,ht t<=t.size
 | .nil=>Zw _
 | .node l k v r=>by
  have h1:=Ycj l;have h2:=Ycj r;rw[ht,Tr.size];split<;>omega
structure XGe (S:Arn) (t:Tr) (q:Int) where
 i:Int
 t':Tr
 m:Nat
 h:Rep S t' i/\getE t.list q=getE t'.list q/\Asc t'.list/\m+ht t'<=ht t/\t'.size<=t.size
def YvL (S:Arn)(t:Tr)(q:Int):Ann C0:={ Γ:=[(86,Yc [] Yid)],inv:=fun n=>match n with
 | 2=>some { X:=XGe S t q,sl:=[8],tf:=fun x=>[vi .u32 x.i],hf:=fun x=>chS (rdS S x.m),μ:=fun x=>x.t'.size,wr:=[0] }
 | _=>none }
def YpY:Tfm C0:=fun args H K=>match args with
 | [.at (.ptr 0 0),.at (.val (.int .u32 i)),.at (.val (.int .i64 q))]=>arM H fun S=>∃ hs t,Wf S hs/\Rep S t i/\Asc t.list/\t.size<=1000000/\S.reads+t.size<=3000000000000000000 ∧
  ∀ S' m o,S'=rdS S m->m<=ht t->o=getE t.list q->K (.tup [.at (vI (o.getD 0)),.at (vB o.isSome)]) (chS S') [0]
 | _=>False
structure XMx (n:Int) where
 h:Nat
 p:h<=80/\wt h<=n+1
def aMxh (n:Int):Ann C0:={ Γ:=[],inv:=fun k=>match k with
 | 4=>some { X:=XMx n,sl:=[3,4],tf:=fun x=>[vi .i64 x.h,vi .i64 (wt x.h)],hf:=fun _=>[],μ:=fun x=>80-x.h }
 | _=>none }
def tMxh:Tfm C0:=fun args H K=>match args,H with
 | [.at (.val (.int .i64 n))],[]=>0<=n/\n<=1000000/\∀ h,h=Hn n->K (.one (.at (vI h))) [] []
 | _,_=>False
def okI (l:LI):Prop:=∀ i:Nat,i<l.length->0<=l.getD i 0/\l.getD i 0<=65536
structure XVd (l:LI) where
 i:Nat
 h:i<=l.length
def aVld (l:LI):Ann C0:={ Γ:=[],inv:=fun k=>match k with
 | 2=>some { X:=XVd l,sl:=[7],tf:=fun x=>[vi .i64 x.i],hf:=fun _=>[.row false .int l],μ:=fun x=>l.length-x.i }
 | _=>none }
def tVld:Tfm C0:=fun args H K=>match args,H with
 | [.at (.slc 0)],[.row false .int l]=>okI l/\l.length<=100/\K (.one (.at (vB true))) [.row false .int l] []
 | _,_=>False
def Yyt:Ann C0:={ Γ:=[(121,Yc [] tMxh)] }
def YsW:Tfm C0:=fun args H K=>match args,H with
 | [.at (.val (.int .i64 f)),.at (.val (.int .i64 n))],[]=>0<=f/\f<=100/\0<=n/\n<=1000000/\∀ p,p=f*(Hn n+2)->K (.one (.at (vI p))) [] []
 | _,_=>False
def aRes:Ann C0:={ Γ:=[(88,Yc [] tVld),(89,Yc [] YsW)] }
def YgZ (f d:Int):Tfm C0:=fun args H K=>match args,H with
 | [.at (.val (.int .i64 n))],[]=>0<=n/\n<=65536/\∀ p,p=f*(Hn (n+d)+2)->K (.one (.at (vI p))) [] []
 | _,_=>False
def Yyu:Ann C0:={ Γ:=[(100,Yc [] tMh)] }
def YsX:Tfm C0:=fun args H K=>match args,H with
 | [.at (.val (.int .i64 a)),.at (.val (.int .i64 b)),.at (.val (.int .i64 c)),.at (.val (.int .i64 m)),.at (.val (.int .i64 e)),.at (.val (.int .i64 f))],[]=>0<=a/\a<=65536/\0<=b/\b<=65536/\0<=c/\c<=65536/\0<=m/\m<=10/\0<=e/\e<=200000/\0<=f/\f<=100/\∀ p,p=e+f*(Hn (a+b+c+m)+2)->K (.one (.at (vI p))) [] []
 | _,_=>False
def aN8:Ann C0:={ Γ:=[(52,Yc [] YsX)] }
abbrev O56 (S:Arn){t:Tr}{q:Int}(S':Arn)(x':XGe S t q):Prop:=(True/\True/\True/\(VW (S'.reads))=(VW ((rdS S x'.m).reads))/\True)/\(True/\True/\True/\(VU (S'.fresh))=(VU ((rdS S x'.m).fresh))/\True)/\S'.nodes=((rdS S x'.m).nodes)/\S'.counts=((rdS S x'.m).counts)/\S'.used=((rdS S x'.m).used)/\S'.gen=((rdS S x'.m).gen)/\S'.rel=((rdS S x'.m).rel)/\True
theorem YsY (S:Arn)(i q:Int)(K:KT)(hs:LI)(t:Tr)(hw:Wf S hs)(hr:Rep S t i)(ha:Asc t.list)(_:t.size<=1000000)(h2:S.reads+t.size<=3000000000000000000)(h:∀ S' m o,S'=rdS S m->m<=ht t->o=getE t.list q->K (.tup [.at (vI (o.getD 0)),.at (vB o.isSome)]) (chS S') [0]) :
  vc C0 (YvL S t q) Tryz.f42 [.at (.ptr 0 0),.at (vU i),.at (vI q)] (chS S) (Yh 7 (YG [0] K)):=by
 refine Eq.mp (show ((∃ x:XGe S t q,True/\(True/\VI (q)=VI (q)/\VU (i)=VU (x.i)/\True)/\(True/\True/\True/\(VW (S.reads))=(VW ((rdS S x.m).reads))/\True)/\(True/\True/\True/\(VU (S.fresh))=(VU ((rdS S x.m).fresh))/\True)/\S.nodes=((rdS S x.m).nodes)/\S.counts=((rdS S x.m).counts)/\S.used=((rdS S x.m).used)/\S.gen=((rdS S x.m).gen)/\S.rel=((rdS S x.m).rel)/\True)/\∀ x:XGe S t q,True->brS (x.i != 0) (inU x.i/\exW (rdS S x.m)/\(rdS S x.m).reads<4000000000000000000/\∀ S':Arn,S'=(rdS (rdS S x.m) ((rdS S x.m).us x.i).toNat)->brS (!(rdS S x.m).us x.i) (K (.tup [(.at (.val (VI 0))),(.at (.val (Zi false)))]) [(.box [(.ptr 1 0),(.slc 2),(.slc 3),(.val (VW (S'.reads)))]),(.box [(.slc 4),(.slc 5),(.slc 6),(.val (VU (S'.fresh)))]),(.row true .node (S'.nodes)),(.row true .int (S'.counts)),(.row true .bool (S'.used)),(.row true .u32 (S'.gen)),(.row true .u32 (S'.rel))] [0]) (brS (decide (q<((rdS S x.m).nd x.i).key)) (∃ x':XGe S t q,True/\((True/\VI (q)=VI (q)/\(VU (((rdS S x.m).nd x.i).left))=(VU (x'.i))/\True)/\O56 S S' x')/\x'.t'.size<x.t'.size) (brS (decide (q>((rdS S x.m).nd x.i).key)) (∃ x':XGe S t q,True/\((True/\VI (q)=VI (q)/\(VU (((rdS S x.m).nd x.i).right))=(VU (x'.i))/\True)/\O56 S S' x')/\x'.t'.size<x.t'.size) (K (.tup [(.at (.val (VI (((rdS S x.m).nd x.i).value)))),(.at (.val (Zi true)))]) [(.box [(.ptr 1 0),(.slc 2),(.slc 3),(.val (VW (S'.reads)))]),(.box [(.slc 4),(.slc 5),(.slc 6),(.val (VU (S'.fresh)))]),(.row true .node (S'.nodes)),(.row true .int (S'.counts)),(.row true .bool (S'.used)),(.row true .u32 (S'.gen)),(.row true .u32 (S'.rel))] [0])))) (K (.tup [(.at (.val (VI 0))),(.at (.val (Zi false)))]) [(.box [(.ptr 1 0),(.slc 2),(.slc 3),(.val (VW ((rdS S x.m).reads)))]),(.box [(.slc 4),(.slc 5),(.slc 6),(.val (VU ((rdS S x.m).fresh)))]),(.row true .node ((rdS S x.m).nodes)),(.row true .int ((rdS S x.m).counts)),(.row true .bool ((rdS S x.m).used)),(.row true .u32 ((rdS S x.m).gen)),(.row true .u32 ((rdS S x.m).rel))] [0]))=_ by kernel_rfl) ?_
 delta O56;have hrd:=hw.rds;have hts:=Ycj t;refine⟨⟨⟨i,t,0,hr,rfl,ha,by omega,Zw _⟩,?_⟩,fun x _=>?_⟩
 ·repeat' constructor
  rw[Ybb]
 obtain⟨xi,xt,xm,h1',h2',h3',h4',h5'⟩:=x;dsimp only;have hwx:Wf (rdS S xm) hs:=hw.rd (by omega);refine Ya (fun c=>?_) fun c=>?_
 .have c:xi≠0:=by simpa using c
  cases xt with
  | nil=>exact absurd h1' c
  | node l k v r =>
   obtain⟨r1,r2,r3,r4,r5⟩:=h1';have q1:=ht_l l r k v;have q2:=ht_r l r k v;have hsz:l.size+r.size+1=(Tr.node l k v r).size:=by simp[Tr.size];omega
   have asc':Asc (l.list++(k,v)::r.list):=h3';obtain⟨al,ar,_,_⟩:=YO asc';refine⟨YW hw (.inr r1),⟨_,hwx⟩,by show S.reads+(xm:Int)<_;omega,fun S1 e1=>Ya (fun d=>?_) fun _=>?_⟩
   .have d:(!S.us xi)=true:=d;rw[r1] at d;cases d
   have e1:S1=rdS S (xm+1):=by rw[e1,YR];show rdS S (xm+(S.us xi).toNat)=_;rw[r1];rfl
   subst e1;have ek:((rdS S xm).nd xi).key=k:=r2;have ev:((rdS S xm).nd xi).value=v:=r3;rw[ek];refine Ya (fun d=>?_) fun d=>Ya (fun d2=>?_) fun d2=>?_
   .have d:q<k:=Zc d;refine⟨⟨(S.nd xi).left,l,xm+1,r4,by rw[h2'];exact Yfe asc' d,al,by omega,by omega⟩,?_⟩
    repeat' constructor
    show l.size<(Tr.node l k v r).size;omega
   .have d2:k<q:=Zc d2;refine⟨⟨(S.nd xi).right,r,xm+1,r5,by rw[h2'];exact YdM asc' d2,ar,by omega,by omega⟩,?_⟩
    repeat' constructor
    show r.size<(Tr.node l k v r).size;omega
   .have d:¬ q<k:=Zg d;have d2:¬ k<q:=Zg d2;have eq:k=q:=by omega
    subst eq;rw[ev];exact h _ (xm+1) (some v) rfl (by omega) (by rw[h2'];exact (Yff asc').symm)
 .have c:xi=0:=by simpa using c
  subst c;have e:=h1'.zero hw;subst e;exact h _ xm none rfl (by omega) (by rw[h2'];rfl)
theorem Yrm:Tb C0 42 YpY:=by
 refine .ofW [0] Tryz.func42 (by decide) rfl fun args H K h hB=>?_
 unfold YpY at h;split at h<;>try exact h.elim
 unfold arM at h;split at h<;>try exact h.elim
 rename_i i q _ rd fr nd ct us gn rl;obtain⟨hs,t,h1,h2,h3,h4,h5,h6⟩:=h;exact⟨YvL ⟨us,gn,rl,fr,nd,ct,rd⟩ t q,⟨Ye C0.ok YfM _,trivial⟩,YsY ⟨us,gn,rl,fr,nd,ct,rd⟩ i q K hs t h1 h2 h3 h4 h5 h6⟩
theorem Yyv {x:Int}(h:0<=x):x.tdiv 3=x / 3:=Zaq h
theorem Yrn {n:Int}(h:0<=n){k:Nat}(h1:k<=80)(h2:wt k<=n+1)(h3:k=80∨n+1<wt (k+1)):(k:Int)=Hn n:=by
 have e:=YdJ n.toNat;rw[show ((n.toNat:Nat):Int)=n by omega] at e;have a:=YdK (w:=n.toNat+1) h1 (by omega);have b:=YnA (w:=n.toNat+1) (by omega);have c:=Ykv (n.toNat+1);rcases h3 with h3|h3
 .omega
 .by_cases d:k+1<=gN (n.toNat+1)
  .have:=YgR d c;omega
  .omega
theorem YvM (n:Int)(K:KT)(h1:0<=n)(h2:n<=1000000)(h:∀ h,h=Hn n->K (.one (.at (vI h))) [] []):vc C0 (aMxh n) Tryz.f121 [.at (vI n)] [] (Yh 0 K):=by
 refine Eq.mp (show (brS (decide (n<0)) (K (.one (.at (.val (VI (-1))))) [] []) (brS (decide (n>2147483647)) (K (.one (.at (.val (VI (-1))))) [] []) ((∃ x:XMx n,True/\(VI (n)=VI (n)/\VI 0=(VI (x.h:Int))/\VI 1=(VI (wt x.h))/\True)/\True)/\∀ x:XMx n,True->brS (decide ((x.h:Int)<80)) (brS (decide (Za.wrap (Za.wrap (wt x.h+Za.wrap ((Za.wrap (wt x.h+2)).tdiv 3))-1)>n)) (K (.one (.at (.val (VI (x.h:Int))))) [] []) (∃ x':XMx n,True/\((VI (n)=VI (n)/\(VI (Za.wrap ((x.h:Int)+1)))=(VI (x'.h:Int))/\(VI (Za.wrap (wt x.h+Za.wrap ((Za.wrap (wt x.h+2)).tdiv 3))))=(VI (wt x'.h))/\True)/\True)/\80-x'.h<80-x.h)) (K (.one (.at (.val (VI (x.h:Int))))) [] []))))=_ by kernel_rfl) ?_;refine Ya (fun c=>by have:=Zc c;omega) fun _=>Ya (fun c=>by have:n>2147483647:=Zc c;omega) fun _=>⟨⟨⟨0,by decide,by rw[w0];omega⟩,?_⟩,fun x _=>Ya (fun c=>?_) fun c=>?_⟩
 ·repeat' constructor
 .obtain⟨k,p1,p2⟩:=x;have c:(k:Int)<80:=Zc c;have c:k<80:=by omega
  have st:=Yjv k c;have lo:1<=wt k:=by have:=YgR (ZC k) p1;rw[w0] at this;exact this
  dsimp only;rw[Yb (x:=wt k+2) (by omega) (by omega),Yyv (by omega),Yb (x:=(wt k+2) / 3) (by omega) (by omega),Yb (x:=wt k+(wt k+2) / 3) (by omega) (by omega),Yb (x:=wt k+(wt k+2) / 3-1) (by omega) (by omega),<-st];refine Ya (fun d=>?_) fun d=>?_
  .have d:wt (k+1)-1>n:=Zc d;exact h _ (Yrn h1 p1 p2 (.inr (by omega)))
  .have d:¬ wt (k+1)-1>n:=Zg d;refine⟨⟨k+1,c,by omega⟩,?_⟩
   repeat' constructor
   .rw[Yb (x:=(k:Int)+1) (by omega) (by omega)];congr 1
   .show 80-(k+1)<80-k;omega
 .obtain⟨k,p1,p2⟩:=x;have c:¬ (k:Int)<80:=Zg c;have c:k=80:=by omega
  exact h _ (Yrn h1 p1 p2 (.inl c))
theorem Yyw:Tb C0 121 tMxh:=by
 refine .of Tryz.func121 (by decide) rfl fun args H K h hB=>?_
 unfold tMxh at h;split at h<;>try exact h.elim
 rename_i n;exact⟨aMxh n,trivial,YvM n K h.1 h.2.1 h.2.2⟩
theorem YvN (l:LI)(K:KT)(h1:okI l)(h2:l.length<=100)(h:K (.one (.at (vB true))) [.row false .int l] []):vc C0 (aVld l) Tryz.f88 [.at (.slc 0)] [.row false .int l] (Yh 1 K):=by
 refine Eq.mp (show ((∃ x:XVd l,True/\(True/\VI (l.length:Int)=VI (l.length:Int)/\VI 0=(VI (x.i:Int))/\True)/\l=l/\True)/\∀ x:XVd l,True->brS (decide ((x.i:Int)<(l.length:Int))) (0<=(x.i:Int)/\(x.i:Int)<(l.length:Int)/\brS (decide (l.getD (x.i:Int).toNat 0<0)) (K (.one (.at (.val (Zi false)))) [(.row false .int (l))] []) (brS (decide (l.getD (x.i:Int).toNat 0>65536)) (K (.one (.at (.val (Zi false)))) [(.row false .int (l))] []) (∃ x':XVd l,True/\((True/\VI (l.length:Int)=VI (l.length:Int)/\(VI (Za.wrap ((x.i:Int)+1)))=(VI (x'.i:Int))/\True)/\l=l/\True)/\l.length-x'.i<l.length-x.i))) (K (.one (.at (.val (Zi true)))) [(.row false .int (l))] []))=_ by kernel_rfl) ?_;refine⟨⟨⟨0,ZC _⟩,?_⟩,fun x _=>Ya (fun c=>?_) fun c=>h⟩
 ·repeat' constructor
 .obtain⟨i,hi⟩:=x;have c:(i:Int)<l.length:=Zc c;have c:i<l.length:=by omega
  obtain⟨a,b⟩:=h1 i c;refine⟨by omega,by omega,Ya (fun d=>?_) fun _=>Ya (fun d=>?_) fun _=>⟨⟨i+1,c⟩,?_⟩⟩
  .have d:l.getD i 0<0:=Zc d;omega
  .have d:l.getD i 0>65536:=Zc d;omega
  ·repeat' constructor
   .rw[Yb (x:=(i:Int)+1) (by omega) (by omega)];congr 1
   .show l.length-(i+1)<l.length-i;omega
theorem YvO:Tb C0 88 tVld:=by
 refine .of Tryz.func88 (by decide) rfl fun args H K h hB=>?_
 unfold tVld at h;split at h<;>try exact h.elim
 rename_i l;exact⟨aVld l,trivial,YvN l K h.1 h.2.1 h.2.2⟩
theorem Yro:Tb C0 89 YsW:=by
 refine .of Tryz.func89 (by decide) rfl fun args H K h hB=>?_
 unfold YsW at h;split at h<;>try exact h.elim
 rename_i f n;obtain⟨h1,h2,h3,h4,h5⟩:=h;refine⟨Yyt,⟨Ye C0.ok Yyw _,trivial⟩,Eq.mp (show (0<=n/\n<=1000000/\∀ h:Int,h=Hn n->K (.one (.at (.val (VI (Za.wrap (f*Za.wrap (h+2))))))) [] [])=_ by kernel_rfl) ⟨h3,h4,fun p e=>?_⟩⟩;have r:=YbE n;subst e;have hb:f*(Hn n+2)<=100*82:=Zcd h2 (by omega) (by omega) (by omega);have ha:0<=f*(Hn n+2):=ZaY h1 (by omega);rw[Yb (x:=Hn n+2) (by omega) (by omega),Yb (x:=f*(Hn n+2)) (by omega) (by omega)];exact h5 _ rfl
theorem Yoa {n:Int}(h1:0<=n)(h2:n<=65536):okI [n]:=by
 intro i hi;have:i=0:=by simpa using hi
 subst this;exact⟨h1,h2⟩
theorem YvP:Tb C0 45 (YgZ 4 1):=by
 refine .of Tryz.func45 (by decide) rfl fun args H K h hB=>?_
 unfold YgZ at h;split at h<;>try exact h.elim
 rename_i n;obtain⟨h1,h2,h3⟩:=h;refine⟨aRes,⟨Ye C0.ok YvO _,Ye C0.ok Yro _,trivial⟩,Eq.mp (show (okI [n]/\[n].length<=100/\(0:Int)<=4/\(4:Int)<=100/\0<=Za.wrap (n+1)/\Za.wrap (n+1)<=1000000/\∀ p:Int,p=(4*(Hn (Za.wrap (n+1))+2))->K (.one (.at (.val (VI (p))))) [] [])=_ by kernel_rfl) ?_⟩;rw[Yb (x:=n+1) (by omega) (by omega)];exact⟨Yoa h1 h2,by simp,by decide,by decide,by omega,by omega,h3⟩
theorem YvQ:Tb C0 112 (YgZ 4 0):=by
 refine .of Tryz.func112 (by decide) rfl fun args H K h hB=>?_
 unfold YgZ at h;split at h<;>try exact h.elim
 rename_i n;obtain⟨h1,h2,h3⟩:=h;refine⟨aRes,⟨Ye C0.ok YvO _,Ye C0.ok Yro _,trivial⟩,Eq.mp (show (okI [n]/\[n].length<=100/\(0:Int)<=4/\(4:Int)<=100/\0<=n/\n<=1000000/\∀ p:Int,p=(4*(Hn n+2))->K (.one (.at (.val (VI (p))))) [] [])=_ by kernel_rfl) ?_⟩;exact⟨Yoa h1 h2,by simp,by decide,by decide,by omega,by omega,fun p e=>h3 p (by rw[e,Zcz])⟩
theorem YvR:Tb C0 52 YsX:=by
 refine .of Tryz.func52 (by decide) rfl fun args H K h hB=>?_
 unfold YsX at h;split at h<;>try exact h.elim
 rename_i a b c m e f;obtain⟨a1,a2,b1,b2,c1,c2,m1,m2,e1,e2,f1,f2,h⟩:=h;refine⟨Yyu,⟨Ye C0.ok s_mh _,trivial⟩,Eq.mp (show (brS (decide (a<0)) (K (.one (.at (.val (VI (-1))))) [] []) (brS (decide (a>65536)) (K (.one (.at (.val (VI (-1))))) [] []) (brS (decide (b<0)) (K (.one (.at (.val (VI (-1))))) [] []) (brS (decide (b>65536)) (K (.one (.at (.val (VI (-1))))) [] []) (brS (decide (c<0)) (K (.one (.at (.val (VI (-1))))) [] []) (brS (decide (c>65536)) (K (.one (.at (.val (VI (-1))))) [] []) (0<=Za.wrap (Za.wrap (Za.wrap (a+b)+c)+m)/\Za.wrap (Za.wrap (Za.wrap (a+b)+c)+m)<=2147483647/\∀ h:Int,h=(Hn (Za.wrap (Za.wrap (Za.wrap (a+b)+c)+m)))->K (.one (.at (.val (VI (Za.wrap (e+Za.wrap (f*Za.wrap (h+2)))))))) [] [])))))))=_ by kernel_rfl) ?_⟩;rw[Yb (x:=a+b) (by omega) (by omega),Yb (x:=a+b+c) (by omega) (by omega),Yb (x:=a+b+c+m) (by omega) (by omega)]
 refine Ya (fun q=>by have:=Zc q;omega) fun _=>Ya (fun q=>by have:a>65536:=Zc q;omega) fun _=>Ya (fun q=>by have:=Zc q;omega) fun _=>Ya (fun q=>by have:b>65536:=Zc q;omega) fun _ =>
  Ya (fun q=>by have:=Zc q;omega) fun _=>Ya (fun q=>by have:c>65536:=Zc q;omega) fun _=>⟨by omega,by omega,fun p ep=>?_⟩
 have r:=YbE (a+b+c+m);subst ep;have hb:f*(Hn (a+b+c+m)+2)<=100*82:=Zcd f2 (by omega) (by omega) (by omega);have ha:0<=f*(Hn (a+b+c+m)+2):=ZaY f1 (by omega);rw[Yb (x:=Hn (a+b+c+m)+2) (by omega) (by omega),Yb (x:=f*(Hn (a+b+c+m)+2)) (by omega) (by omega),Yb (by omega) (by omega)];exact h _ rfl
theorem YvS:Tb C0 14 (YgZ 4 1):=by
 refine .of Tryz.func14 (by decide) rfl fun args H K h hB=>?_
 unfold YgZ at h;split at h<;>try exact h.elim
 rename_i n;obtain⟨h1,h2,h3⟩:=h;refine⟨aN8,⟨Ye C0.ok YvR _,trivial⟩,Eq.mp (show (0<=n/\n<=65536/\(0:Int)<=0/\(0:Int)<=65536/\(0:Int)<=0/\(0:Int)<=65536/\(0:Int)<=1/\(1:Int)<=10/\(0:Int)<=0/\(0:Int)<=200000/\(0:Int)<=4/\(4:Int)<=100/\∀ p:Int,p=(0+4*(Hn (n+0+0+1)+2))->K (.one (.at (.val (VI (p))))) [] [])=_ by kernel_rfl) ?_⟩;exact⟨h1,h2,by decide,by decide,by decide,by decide,by decide,by decide,by decide,by decide,by decide,by decide,fun p e=>h3 p (by rw[e];simp)⟩
def YkB:Tfm C0:=fun args H K=>match args,H with
 | [.at (.val (.int .i64 _))],[]=>K (.one (.at (vB true))) [] []
 | _,_=>False
theorem Yob:Tb C0 144 YkB:=by
 refine .of Tryz.func144 (by decide) rfl fun args H K h hB=>⟨A0,trivial,?_⟩
 unfold YkB at h;split at h<;>try exact h.elim
 exact Eq.mp (show _=_ by kernel_rfl) h
structure XNfst (S:Arn) (t:Tr) where
 i:Int
 t':Tr
 b:Option Ent
 m:Nat
 h:Rep S t' i/\(t'.list.head?).or b=t.list.head?/\m+ht t'<=ht t/\t'.size<=t.size
theorem YpZ (l r:Tr)(k v:Int)(b:Option Ent):((Tr.node l k v r).list.head?).or b=(l.list.head?).or (some (k,v)):=by
 have e:(Tr.node l k v r).list=l.list++(k,v)::r.list:=rfl;rw[e];cases l.list<;>simp
def YvT (S:Arn)(t:Tr):Ann C0:={ Γ:=[(86,Yc [] Yid),(144,Yc [] YkB),(148,Yc [] Ykz)],inv:=fun n=>match n with
 | 4=>some { X:=XNfst S t,sl:=[10,9,8,6],tf:=fun x=>[vi .u32 x.i,vb x.b.isSome,.one (.at (.ptr 7 0)),.one (.at (.ptr 8 0))],hf:=fun x=>chS (rdS S x.m)++[.box [vI (x.b.getD (0,0)).1,vI (x.b.getD (0,0)).2],.box [vI 0,vI 0]],μ:=fun x=>x.t'.size,wr:=[0] }
 | _=>none }
def YsZ:Tfm C0:=fun args H K=>match args with
 | [.at (.ptr 0 0),.at (.val (.int .u32 i)),.at (.fn 144 [])]=>arM H fun S=>∃ hs t,Wf S hs/\Rep S t i/\t.size<=1000000/\S.reads+t.size<=3000000000000000000 ∧
  ∀ S' m o,S'=rdS S m->m<=ht t->o=t.list.head?->K (.tup [entO o,.at (vB o.isSome)]) (chS S') [0]
 | _=>False
def YvU:Ann C0:={ Γ:=[(143,Yc [] YsZ)] }
def Yta:Tfm C0:=fun args H K=>match args with
 | [.at (.ptr 0 0),.at (.val (.int .u32 i))]=>arM H fun S=>∃ hs t,Wf S hs/\Rep S t i/\t.size<=1000000/\S.reads+t.size<=3000000000000000000 ∧
  ∀ S' m o,S'=rdS S m->m<=ht t->o=t.list.head?->K (.tup [entO o,.at (vB o.isSome)]) (chS S') [0]
 | _=>False
theorem     Ytb (S : Arn) (i : Int) (K : KT) (hs : LI) (t : Tr) (hw : Wf S hs) (hr : Rep S t i) (_ : t.size ≤ 1000000) (h2 : S.reads + t.size ≤ 3000000000000000000)
    (h : ∀ S' m o, S' = rdS S m → m ≤ ht t → o = t.list.head? → K (.tup [entO o, .at (vB o.isSome)]) (chS S') [0]) :
    vc C0 (  YvT S t) Tryz.f143 [.at (.ptr 0 0), .at (vU i), .at (.fn 144 [])] (chS S) (   Yh 7 (   YG [0] K)) := by
  refine Eq.mp (show ((∃ x : XNfst S t, (True ∧ (True ∧ ((At.fn 144 []) = (At.fn 144 [])) ∧ True ∧ True ∧ ((        Zi false) = (        Zi (x.b.isSome))) ∧ ((       Zm          Ze (i)) = (       Zm          Ze (x.i))) ∧ True) ∧ (True ∧ True ∧ True ∧ ((       Zm          Zd (S.reads)) = (       Zm          Zd ((rdS S x.m).reads))) ∧ True) ∧ (True ∧ True ∧ True ∧ ((       Zm          Ze (S.fresh)) = (       Zm          Ze ((rdS S x.m).fresh))) ∧ True) ∧ ((S.nodes) = ((rdS S x.m).nodes)) ∧ ((S.counts) = ((rdS S x.m).counts)) ∧ ((S.used) = ((rdS S x.m).used)) ∧ ((S.gen) = ((rdS S x.m).gen)) ∧ ((S.rel) = ((rdS S x.m).rel)) ∧ (((       Zm          Za 0) = (       Zm          Za ((x.b.getD (0, 0)).fst))) ∧ ((       Zm          Za 0) = (       Zm          Za ((x.b.getD (0, 0)).snd))) ∧ True) ∧ (((       Zm          Za 0) = (       Zm          Za 0)) ∧ ((       Zm          Za 0) = (       Zm          Za 0)) ∧ True) ∧ True)) ∧
(∀ x : XNfst S t, (True → (brS (x.i != 0) (((inU x.i) ∧ (exW (rdS S x.m)) ∧ ((rdS S x.m).reads < 4000000000000000000) ∧ (∀ S' : Arn, (((S') = (rdS (rdS S x.m) ((rdS S x.m).us x.i).toNat)) → (brS (!(rdS S x.m).us x.i)
    ((K (SV.tup [(TV.agg [(At.val (       Zm          Za ((x.b.getD (0, 0)).fst))), (At.val (       Zm          Za ((x.b.getD (0, 0)).snd)))]), (TV.at (At.val (        Zi (x.b.isSome))))]) [(   Ta.box [(At.ptr 1 0), (At.slc 2), (At.slc 3), (At.val (       Zm          Zd (S'.reads)))]), (   Ta.box [(At.slc 4), (At.slc 5), (At.slc 6), (At.val (       Zm          Ze (S'.fresh)))]), (   Ta.row true (EC.node) (S'.nodes)), (   Ta.row true (EC.int) (S'.counts)), (   Ta.row true (EC.bool) (S'.used)), (   Ta.row true (EC.u32) (S'.gen)), (   Ta.row true (EC.u32) (S'.rel))] [0])) ((∃ x' : XNfst S t, (True ∧ ((True ∧ ((At.fn 144 []) = (At.fn 144 [])) ∧ True ∧ True ∧ ((        Zi true) = (        Zi (x'.b.isSome))) ∧ ((       Zm          Ze (((rdS S x.m).nd x.i).left)) = (       Zm          Ze (x'.i))) ∧ True) ∧ (True ∧ True ∧ True ∧ ((       Zm          Zd (S'.reads)) = (       Zm          Zd ((rdS S x'.m).reads))) ∧ True) ∧ (True ∧ True ∧ True ∧ ((       Zm          Ze (S'.fresh)) = (       Zm          Ze ((rdS S x'.m).fresh))) ∧ True) ∧ ((S'.nodes) = ((rdS S x'.m).nodes)) ∧ ((S'.counts) = ((rdS S x'.m).counts)) ∧ ((S'.used) = ((rdS S x'.m).used)) ∧ ((S'.gen) = ((rdS S x'.m).gen)) ∧ ((S'.rel) = ((rdS S x'.m).rel)) ∧ (((       Zm          Za (((rdS S x.m).nd x.i).key)) = (       Zm          Za ((x'.b.getD (0, 0)).fst))) ∧ ((       Zm          Za (((rdS S x.m).nd x.i).value)) = (       Zm          Za ((x'.b.getD (0, 0)).snd))) ∧ True) ∧
    (((       Zm          Za 0) = (       Zm          Za 0)) ∧ ((       Zm          Za 0) = (       Zm          Za 0)) ∧ True) ∧ True) ∧ (x'.t'.size < x.t'.size))))))))) ((K (SV.tup [(TV.agg [(At.val (       Zm          Za ((x.b.getD (0, 0)).fst))), (At.val (       Zm          Za ((x.b.getD (0, 0)).snd)))]), (TV.at (At.val (        Zi (x.b.isSome))))]) [(   Ta.box [(At.ptr 1 0), (At.slc 2), (At.slc 3), (At.val (       Zm          Zd ((rdS S x.m).reads)))]), (   Ta.box [(At.slc 4), (At.slc 5), (At.slc 6), (At.val (       Zm          Ze ((rdS S x.m).fresh)))]), (   Ta.row true (EC.node) ((rdS S x.m).nodes)), (   Ta.row true (EC.int) ((rdS S x.m).counts)), (   Ta.row true (EC.bool) ((rdS S x.m).used)), (   Ta.row true (EC.u32) ((rdS S x.m).gen)), (   Ta.row true (EC.u32) ((rdS S x.m).rel))] [0])))))) = _ by kernel_rfl) ?_
  have hrd := hw.rds;have hb :=      Ycj t;refine ⟨⟨⟨i, t, none, 0, hr, by simp, by omega,          Zw _⟩, ?_⟩, fun x _ => ?_⟩
  . (repeat' first | exact trivial | exact rfl | refine And.intro ?_ ?_)
    rw [     Ybb]
  obtain ⟨xi, xt, xb, xm, h1', hb2, h3, h4⟩ := x;dsimp only;have hwx : Wf (rdS S xm) hs := hw.rd (by omega);refine     Ya (fun c => ?_) fun c => ?_
  . have c : xi ≠ 0 := by simpa using c
    cases xt with
    | nil => exact absurd h1' c
    | node l k v r =>
      obtain ⟨r1, r2, r3, r4, r5⟩ := h1';have hsz : l.size + r.size + 1 = (Tr.node l k v r).size := by simp [Tr.size]; omega
      have q1 := ht_l l r k v;refine ⟨    YW hw (.inr r1), ⟨_, hwx⟩, by show S.reads + (xm : Int) < _; omega, fun S1 e1 =>     Ya (fun d => ?_) fun _ => ?_⟩
      . have d : (!S.us xi) = true := d
        have d : S.us xi = false := by simpa using d
        rw [r1] at d; cases d
      have e1 : S1 = rdS S (xm + 1) := by rw [e1,      YR]; show rdS S (xm + (S.us xi).toNat) = _; rw [r1]; rfl
      subst e1;have ek : ((rdS S xm).nd xi).key = k := r2;have ev : ((rdS S xm).nd xi).value = v := r3;rw [ek, ev];refine ⟨⟨(S.nd xi).left, l, some (k, v), xm + 1, r4, by rw [<-hb2,      YpZ], by omega, by omega⟩, ?_⟩
      (repeat' first | exact trivial | exact rfl | refine And.intro ?_ ?_)
      show l.size < (Tr.node l k v r).size; omega
  . have c : xi = 0 := by simpa using c
    subst c;have e := h1'.zero hw;subst e;exact h _ xm xb rfl (by omega) (by rw [<-hb2]; simp [Tr.list])
theorem YvV:Tb C0 143 YsZ:=by
 refine .ofW [0] Tryz.func143 (by decide) rfl fun args H K h hB=>?_
 unfold YsZ at h;split at h<;>try exact h.elim
 unfold arM at h;split at h<;>try exact h.elim
 rename_i i _ rd fr nd ct us gn rl;obtain⟨hs,t,h1,h2,h3,h4,h5⟩:=h;exact⟨YvT ⟨us,gn,rl,fr,nd,ct,rd⟩ t,⟨Ye C0.ok YfM _,Ye C0.ok Yob _,Ye C0.ok YnV _,trivial⟩,Ytb ⟨us,gn,rl,fr,nd,ct,rd⟩ i K hs t h1 h2 h3 h4 h5⟩
theorem YvW:Tb C0 132 Yta:=by
 refine .ofW [0] Tryz.func132 (by decide) rfl fun args H K h hB=>?_
 unfold Yta at h;split at h<;>try exact h.elim
 unfold arM at h;split at h<;>try exact h.elim
 rename_i i _ rd fr nd ct us gn rl
 have key:∀ S:Arn,(∃ hs t,Wf S hs/\Rep S t i/\t.size<=1000000/\S.reads+t.size<=3000000000000000000 ∧
  ∀ S' m o,S'=rdS S m->m<=ht t->o=t.list.head?->K (.tup [entO o,.at (vB o.isSome)]) (chS S') [0])->vc C0 YvU Tryz.f132 [.at (.ptr 0 0),.at (vU i)] (chS S) (Yh 7 (YG [0] K)):=fun S h=>Eq.mp (show (∃ hs:LI,∃ t:Tr,Wf S hs/\Rep S t i/\t.size<=1000000/\S.reads+(t.size:Int)<=3000000000000000000/\∀ S':Arn,∀ m:Nat,∀ o:Option Ent,S'=rdS S m->m<=ht t->o=t.list.head?->K (.tup [(TV.agg [(.val (VI ((o.getD (0,0)).fst))),(.val (VI ((o.getD (0,0)).snd)))]),(.at (.val (Zi (o.isSome))))]) [(.box [(.ptr 1 0),(.slc 2),(.slc 3),(.val (VW (S'.reads)))]),(.box [(.slc 4),(.slc 5),(.slc 6),(.val (VU (S'.fresh)))]),(.row true .node (S'.nodes)),(.row true .int (S'.counts)),(.row true .bool (S'.used)),(.row true .u32 (S'.gen)),(.row true .u32 (S'.rel))] [0])=_ by kernel_rfl) h
 exact⟨YvU,⟨Ye C0.ok YvV _,trivial⟩,key ⟨us,gn,rl,fr,nd,ct,rd⟩ h⟩
structure XNlst (S:Arn) (t:Tr) where
 i:Int
 t':Tr
 b:Option Ent
 m:Nat
 h:Rep S t' i/\(t'.list.getLast?).or b=t.list.getLast?/\m+ht t'<=ht t/\t'.size<=t.size
theorem Yqa (l r:Tr)(k v:Int)(b:Option Ent):((Tr.node l k v r).list.getLast?).or b=(r.list.getLast?).or (some (k,v)):=by
 have e:(Tr.node l k v r).list=l.list++(k,v)::r.list:=rfl;rw[e];rw[ZcA,Zca];cases r.list.getLast?<;>simp
def YvX (S:Arn)(t:Tr):Ann C0:={ Γ:=[(86,Yc [] Yid),(144,Yc [] YkB),(148,Yc [] Ykz)],inv:=fun n=>match n with
 | 4=>some { X:=XNlst S t,sl:=[10,9,8,6],tf:=fun x=>[vi .u32 x.i,vb x.b.isSome,.one (.at (.ptr 7 0)),.one (.at (.ptr 8 0))],hf:=fun x=>chS (rdS S x.m)++[.box [vI (x.b.getD (0,0)).1,vI (x.b.getD (0,0)).2],.box [vI 0,vI 0]],μ:=fun x=>x.t'.size,wr:=[0] }
 | _=>none }
def Ytc:Tfm C0:=fun args H K=>match args with
 | [.at (.ptr 0 0),.at (.val (.int .u32 i)),.at (.fn 144 [])]=>arM H fun S=>∃ hs t,Wf S hs/\Rep S t i/\t.size<=1000000/\S.reads+t.size<=3000000000000000000 ∧
  ∀ S' m o,S'=rdS S m->m<=ht t->o=t.list.getLast?->K (.tup [entO o,.at (vB o.isSome)]) (chS S') [0]
 | _=>False
def YvY:Ann C0:={ Γ:=[(145,Yc [] Ytc)] }
def Ytd:Tfm C0:=fun args H K=>match args with
 | [.at (.ptr 0 0),.at (.val (.int .u32 i))]=>arM H fun S=>∃ hs t,Wf S hs/\Rep S t i/\t.size<=1000000/\S.reads+t.size<=3000000000000000000 ∧
  ∀ S' m o,S'=rdS S m->m<=ht t->o=t.list.getLast?->K (.tup [entO o,.at (vB o.isSome)]) (chS S') [0]
 | _=>False
theorem     Yte (S : Arn) (i : Int) (K : KT) (hs : LI) (t : Tr) (hw : Wf S hs) (hr : Rep S t i) (_ : t.size ≤ 1000000) (h2 : S.reads + t.size ≤ 3000000000000000000)
    (h : ∀ S' m o, S' = rdS S m → m ≤ ht t → o = t.list.getLast? → K (.tup [entO o, .at (vB o.isSome)]) (chS S') [0]) :
    vc C0 (  YvX S t) Tryz.f145 [.at (.ptr 0 0), .at (vU i), .at (.fn 144 [])] (chS S) (   Yh 7 (   YG [0] K)) := by
  refine Eq.mp (show ((∃ x : XNlst S t, (True ∧ (True ∧ ((At.fn 144 []) = (At.fn 144 [])) ∧ True ∧ True ∧ ((        Zi false) = (        Zi (x.b.isSome))) ∧ ((       Zm          Ze (i)) = (       Zm          Ze (x.i))) ∧ True) ∧ (True ∧ True ∧ True ∧ ((       Zm          Zd (S.reads)) = (       Zm          Zd ((rdS S x.m).reads))) ∧ True) ∧ (True ∧ True ∧ True ∧ ((       Zm          Ze (S.fresh)) = (       Zm          Ze ((rdS S x.m).fresh))) ∧ True) ∧ ((S.nodes) = ((rdS S x.m).nodes)) ∧ ((S.counts) = ((rdS S x.m).counts)) ∧ ((S.used) = ((rdS S x.m).used)) ∧ ((S.gen) = ((rdS S x.m).gen)) ∧ ((S.rel) = ((rdS S x.m).rel)) ∧ (((       Zm          Za 0) = (       Zm          Za ((x.b.getD (0, 0)).fst))) ∧ ((       Zm          Za 0) = (       Zm          Za ((x.b.getD (0, 0)).snd))) ∧ True) ∧ (((       Zm          Za 0) = (       Zm          Za 0)) ∧ ((       Zm          Za 0) = (       Zm          Za 0)) ∧ True) ∧ True)) ∧
(∀ x : XNlst S t, (True → (brS (x.i != 0) (((inU x.i) ∧ (exW (rdS S x.m)) ∧ ((rdS S x.m).reads < 4000000000000000000) ∧ (∀ S' : Arn, (((S') = (rdS (rdS S x.m) ((rdS S x.m).us x.i).toNat)) → (brS (!(rdS S x.m).us x.i)
    ((K (SV.tup [(TV.agg [(At.val (       Zm          Za ((x.b.getD (0, 0)).fst))), (At.val (       Zm          Za ((x.b.getD (0, 0)).snd)))]), (TV.at (At.val (        Zi (x.b.isSome))))]) [(   Ta.box [(At.ptr 1 0), (At.slc 2), (At.slc 3), (At.val (       Zm          Zd (S'.reads)))]), (   Ta.box [(At.slc 4), (At.slc 5), (At.slc 6), (At.val (       Zm          Ze (S'.fresh)))]), (   Ta.row true (EC.node) (S'.nodes)), (   Ta.row true (EC.int) (S'.counts)), (   Ta.row true (EC.bool) (S'.used)), (   Ta.row true (EC.u32) (S'.gen)), (   Ta.row true (EC.u32) (S'.rel))] [0])) ((∃ x' : XNlst S t, (True ∧ ((True ∧ ((At.fn 144 []) = (At.fn 144 [])) ∧ True ∧ True ∧ ((        Zi true) = (        Zi (x'.b.isSome))) ∧ ((       Zm          Ze (((rdS S x.m).nd x.i).right)) = (       Zm          Ze (x'.i))) ∧ True) ∧ (True ∧ True ∧ True ∧ ((       Zm          Zd (S'.reads)) = (       Zm          Zd ((rdS S x'.m).reads))) ∧ True) ∧ (True ∧ True ∧ True ∧ ((       Zm          Ze (S'.fresh)) = (       Zm          Ze ((rdS S x'.m).fresh))) ∧ True) ∧ ((S'.nodes) = ((rdS S x'.m).nodes)) ∧ ((S'.counts) = ((rdS S x'.m).counts)) ∧ ((S'.used) = ((rdS S x'.m).used)) ∧ ((S'.gen) = ((rdS S x'.m).gen)) ∧ ((S'.rel) = ((rdS S x'.m).rel)) ∧ (((       Zm          Za (((rdS S x.m).nd x.i).key)) = (       Zm          Za ((x'.b.getD (0, 0)).fst))) ∧ ((       Zm          Za (((rdS S x.m).nd x.i).value)) = (       Zm          Za ((x'.b.getD (0, 0)).snd))) ∧ True) ∧
    (((       Zm          Za 0) = (       Zm          Za 0)) ∧ ((       Zm          Za 0) = (       Zm          Za 0)) ∧ True) ∧ True) ∧ (x'.t'.size < x.t'.size))))))))) ((K (SV.tup [(TV.agg [(At.val (       Zm          Za ((x.b.getD (0, 0)).fst))), (At.val (       Zm          Za ((x.b.getD (0, 0)).snd)))]), (TV.at (At.val (        Zi (x.b.isSome))))]) [(   Ta.box [(At.ptr 1 0), (At.slc 2), (At.slc 3), (At.val (       Zm          Zd ((rdS S x.m).reads)))]), (   Ta.box [(At.slc 4), (At.slc 5), (At.slc 6), (At.val (       Zm          Ze ((rdS S x.m).fresh)))]), (   Ta.row true (EC.node) ((rdS S x.m).nodes)), (   Ta.row true (EC.int) ((rdS S x.m).counts)), (   Ta.row true (EC.bool) ((rdS S x.m).used)), (   Ta.row true (EC.u32) ((rdS S x.m).gen)), (   Ta.row true (EC.u32) ((rdS S x.m).rel))] [0])))))) = _ by kernel_rfl) ?_
  have hrd := hw.rds;have hb :=      Ycj t;refine ⟨⟨⟨i, t, none, 0, hr, by simp, by omega,          Zw _⟩, ?_⟩, fun x _ => ?_⟩
  . (repeat' first | exact trivial | exact rfl | refine And.intro ?_ ?_)
    rw [     Ybb]
  obtain ⟨xi, xt, xb, xm, h1', hb2, h3, h4⟩ := x;dsimp only;have hwx : Wf (rdS S xm) hs := hw.rd (by omega);refine     Ya (fun c => ?_) fun c => ?_
  . have c : xi ≠ 0 := by simpa using c
    cases xt with
    | nil => exact absurd h1' c
    | node l k v r =>
      obtain ⟨r1, r2, r3, r4, r5⟩ := h1';have hsz : l.size + r.size + 1 = (Tr.node l k v r).size := by simp [Tr.size]; omega
      have q1 := ht_r l r k v;refine ⟨    YW hw (.inr r1), ⟨_, hwx⟩, by show S.reads + (xm : Int) < _; omega, fun S1 e1 =>     Ya (fun d => ?_) fun _ => ?_⟩
      . have d : (!S.us xi) = true := d
        have d : S.us xi = false := by simpa using d
        rw [r1] at d; cases d
      have e1 : S1 = rdS S (xm + 1) := by rw [e1,      YR]; show rdS S (xm + (S.us xi).toNat) = _; rw [r1]; rfl
      subst e1;have ek : ((rdS S xm).nd xi).key = k := r2;have ev : ((rdS S xm).nd xi).value = v := r3;rw [ek, ev];refine ⟨⟨(S.nd xi).right, r, some (k, v), xm + 1, r5, by rw [<-hb2,      Yqa], by omega, by omega⟩, ?_⟩
      (repeat' first | exact trivial | exact rfl | refine And.intro ?_ ?_)
      show r.size < (Tr.node l k v r).size; omega
  . have c : xi = 0 := by simpa using c
    subst c;have e := h1'.zero hw;subst e;exact h _ xm xb rfl (by omega) (by rw [<-hb2]; simp [Tr.list])
theorem YvZ:Tb C0 145 Ytc:=by
 refine .ofW [0] Tryz.func145 (by decide) rfl fun args H K h hB=>?_
 unfold Ytc at h;split at h<;>try exact h.elim
 unfold arM at h;split at h<;>try exact h.elim
 rename_i i _ rd fr nd ct us gn rl;obtain⟨hs,t,h1,h2,h3,h4,h5⟩:=h;exact⟨YvX ⟨us,gn,rl,fr,nd,ct,rd⟩ t,⟨Ye C0.ok YfM _,Ye C0.ok Yob _,Ye C0.ok YnV _,trivial⟩,Yte ⟨us,gn,rl,fr,nd,ct,rd⟩ i K hs t h1 h2 h3 h4 h5⟩
theorem Ywa:Tb C0 133 Ytd:=by
 refine .ofW [0] Tryz.func133 (by decide) rfl fun args H K h hB=>?_
 unfold Ytd at h;split at h<;>try exact h.elim
 unfold arM at h;split at h<;>try exact h.elim
 rename_i i _ rd fr nd ct us gn rl
 have key:∀ S:Arn,(∃ hs t,Wf S hs/\Rep S t i/\t.size<=1000000/\S.reads+t.size<=3000000000000000000 ∧
  ∀ S' m o,S'=rdS S m->m<=ht t->o=t.list.getLast?->K (.tup [entO o,.at (vB o.isSome)]) (chS S') [0])->vc C0 YvY Tryz.f133 [.at (.ptr 0 0),.at (vU i)] (chS S) (Yh 7 (YG [0] K)):=fun S h=>Eq.mp (show (∃ hs:LI,∃ t:Tr,Wf S hs/\Rep S t i/\t.size<=1000000/\S.reads+(t.size:Int)<=3000000000000000000/\∀ S':Arn,∀ m:Nat,∀ o:Option Ent,S'=rdS S m->m<=ht t->o=t.list.getLast?->K (.tup [(TV.agg [(.val (VI ((o.getD (0,0)).fst))),(.val (VI ((o.getD (0,0)).snd)))]),(.at (.val (Zi (o.isSome))))]) [(.box [(.ptr 1 0),(.slc 2),(.slc 3),(.val (VW (S'.reads)))]),(.box [(.slc 4),(.slc 5),(.slc 6),(.val (VU (S'.fresh)))]),(.row true .node (S'.nodes)),(.row true .int (S'.counts)),(.row true .bool (S'.used)),(.row true .u32 (S'.gen)),(.row true .u32 (S'.rel))] [0])=_ by kernel_rfl) h
 exact⟨YvY,⟨Ye C0.ok YvZ _,trivial⟩,key ⟨us,gn,rl,fr,nd,ct,rd⟩ h⟩
def YjD:Tfm C0:=fun args H K=>match args,H with
 | [.at (.val (.int .i64 l)),.at (.val (.int .i64 r))],[]=>0<=l/\l<=1000000/\0<=r/\r<=1000000/\∀ b,b=balB l r->K (.one (.at (vB b))) [] []
 | _,_=>False
def Yfg:Tfm C0:=fun args H K=>match args with
 | [.at (.ptr 0 0),.at (.val (.int .u32 l)),.agg [.val (.int .i64 k),.val (.int .i64 v)],.at (.val (.int .u32 r))]=>arM H fun S=>∃ hs tl tr,Wf S (l::r::hs)/\Rep S tl l/\Rep S tr r/\tl.size+tr.size<=1000000/\0<S.free/\hs.length<=900000000 ∧
  ∀ S' i,NodeR S hs k v tl tr S' i->(S'.nd i).left=l->(S'.nd i).right=r->K (.one (.at (vU i))) (chS S') W7
 | _=>False
def Yrp:Ann C0:={ Γ:=[(32,Yc [] YdH),(26,Yc [] Yps)] }
def Yqb:Tfm C0:=fun args H K=>match args with
 | [.at (.ptr 0 0),.at (.val (.int .u32 i))]=>arM H fun S=>live S i/\exW S/\∀ S',S'=retL S i->K (.one (.at (vI 0))) (chS S') [3]
 | _=>False
def tRel:Tfm C0:=fun args H K=>match args with
 | [.at (.ptr 0 0),.at (.val (.int .u32 i))]=>arM H fun S=>∃ hs,Wf S (i::hs)/\∀ S' (fr:Int),Wf S' hs->Kept S S'->K (.tup [.at (vI fr),.at (vI 0)]) (chS S') W7
 | _=>False
def aOpn:Ann C0:={ Γ:=[(86,Yc [] Yid),(87,Yc [] Yqb),(26,Yc [] tRel)] }
def tOpn:Tfm C0:=fun args H K=>match args with
 | [.at (.ptr 0 0),.at (.val (.int .u32 i))]=>arM H fun S=>∃ hs a k v b,Wf S (i::hs)/\Rep S (.node a k v b) i/\hs.length<=900000000/\S.reads<=3000000000000000000 ∧
  ∀ S' l r,OpnR S hs a k v b S' l r->K (.tup [.at (vU l),.agg [vI k,vI v],.at (vU r)]) (chS S') W7
 | _=>False
structure XLl (P:Arn->Int->Int->Bool->Prop) where
 S:Arn
 m:Int
 s:Int
 c:Bool
 h:P S m s c
def aLl (P:Arn->Int->Int->Bool->Prop)(k v k2 v2:Int):Ann C0:={ Γ:=[(91,Yc [] tOpn),(41,Yc [] Yfy),(122,Yc [] YjD),(90,Yc [] Yfg)],inv:=fun n=>match n with
 | 1004=>some { X:=XLl P,sl:=[8,11,12,13,45],tf:=fun x=>[.one (.at (.ptr 7 0)),vi .u32 x.m,.one (.at (.ptr 8 0)),vi .u32 x.s,vb x.c],hf:=fun x=>chS x.S++[.box [vI k,vI v],.box [vI k2,vI v2]],wr:=W7 }
 | _=>none }
def aLr (P:Arn->Int->Int->Bool->Prop)(k v k2 v2:Int):Ann C0:={ Γ:=[(91,Yc [] tOpn),(41,Yc [] Yfy),(122,Yc [] YjD),(90,Yc [] Yfg)],inv:=fun n=>match n with
 | 1004=>some { X:=XLl P,sl:=[8,13,12,11,45],tf:=fun x=>[.one (.at (.ptr 7 0)),vi .u32 x.m,.one (.at (.ptr 8 0)),vi .u32 x.s,vb x.c],hf:=fun x=>chS x.S++[.box [vI k,vI v],.box [vI k2,vI v2]],wr:=W7 }
 | _=>none }
def tLl:Tfm C0:=fun args H K=>match args with
 | [.at (.ptr 0 0),.at (.val (.int .i64 sl)),.at (.val (.int .u32 l)),.agg [.val (.int .i64 k),.val (.int .i64 v)],.at (.val (.int .u32 r))]=>arM H fun S=>∃ hs ta tb,Wf S (l::r::hs)/\Rep S ta l/\Rep S tb r/\ta.Bal/\tb.Bal/\near ta.size tb.size/\¬ balN ta.size tb.size/\ta.size<tb.size/\sl=ta.size ∧
  ta.size+tb.size<=900000/\3<=S.free/\hs.length<=800000000/\S.reads<=2000000000000000000/\∀ S' i,TrR S hs (ta.list++(k,v)::tb.list) 3 4 S' i->K (.one (.at (vU i))) (chS S') W7
 | _=>False
def tLr:Tfm C0:=fun args H K=>match args with
 | [.at (.ptr 0 0),.at (.val (.int .i64 sr)),.at (.val (.int .u32 l)),.agg [.val (.int .i64 k),.val (.int .i64 v)],.at (.val (.int .u32 r))]=>arM H fun S=>∃ hs ta tb,Wf S (l::r::hs)/\Rep S ta l/\Rep S tb r/\ta.Bal/\tb.Bal/\near ta.size tb.size/\¬ balN ta.size tb.size/\tb.size<ta.size/\sr=tb.size ∧
  ta.size+tb.size<=900000/\3<=S.free/\hs.length<=800000000/\S.reads<=2000000000000000000/\∀ S' i,TrR S hs (ta.list++(k,v)::tb.list) 3 4 S' i->K (.one (.at (vU i))) (chS S') W7
 | _=>False
def aBlc:Ann C0:={ Γ:=[(41,Yc [] Yfy),(122,Yc [] YjD),(90,Yc [] Yfg),(140,Yc [] tLl),(141,Yc [] tLr)] }
def tBlc:Tfm C0:=fun args H K=>match args with
 | [.at (.ptr 0 0),.at (.val (.int .u32 l)),.agg [.val (.int .i64 k),.val (.int .i64 v)],.at (.val (.int .u32 r))]=>arM H fun S=>∃ hs ta tb,Wf S (l::r::hs)/\Rep S ta l/\Rep S tb r/\ta.Bal/\tb.Bal/\near ta.size tb.size ∧
  ta.size+tb.size<=900000/\3<=S.free/\hs.length<=800000000/\S.reads<=1900000000000000000/\∀ S' i,TrR S hs (ta.list++(k,v)::tb.list) 3 6 S' i->K (.one (.at (vU i))) (chS S') W7
 | _=>False
def tJn (n:Nat):Tfm C0:=fun args H K=>match args with
 | [.at (.ptr 0 0),.at (.val (.int .u32 l)),.agg [.val (.int .i64 k),.val (.int .i64 v)],.at (.val (.int .u32 r))]=>arM H fun S=>∃ hs ta tb,Wf S (l::r::hs)/\Rep S ta l/\Rep S tb r/\ta.Bal/\tb.Bal/\ta.size+tb.size<n ∧
  ta.size+tb.size<=900000/\(jB ta.size tb.size:Int)<=S.free/\hs.length+(ta.size+tb.size)<=800000000/\S.reads+5*(jB ta.size tb.size)<=1800000000000000000 ∧
  ∀ S' i,TrR S hs (ta.list++(k,v)::tb.list) (jB ta.size tb.size) (4*jB ta.size tb.size) S' i->(balN ta.size tb.size->(S'.nd i).left=l/\(S'.nd i).right=r/\S'.nu=S.nu+1)->K (.one (.at (vU i))) (chS S') W7
 | _=>False
def aJn (n:Nat):Ann C0:={ Γ:=[(41,Yc [] Yfy),(122,Yc [] YjD),(90,Yc [] Yfg),(91,Yc [] tOpn),(92,Yc [] (tJn n)),(123,Yc [] tBlc)] }
abbrev O57 (K:SV → LH C0 → LN → Prop)(i:Int)(S'2:Arn):Prop:=K (.one (.at (.val (VU (i))))) [(.box [(.ptr 1 0),(.slc 2),(.slc 3),(.val (VW (S'2.reads)))]),(.box [(.slc 4),(.slc 5),(.slc 6),(.val (VU (S'2.fresh)))]),(.row true .node (S'2.nodes)),(.row true .int (S'2.counts)),(.row true .bool (S'2.used)),(.row true .u32 (S'2.gen)),(.row true .u32 (S'2.rel))] [0,1,2,3,4,5,6]
abbrev O58 (K:SV → LH C0 → LN → Prop)(k3 v3 i:Int)(S'4:Arn)(i1:Int):Prop:=∃ w0_:LI,∃ w1_:Tr,∃ w2_:Tr,Wf S'4 (i::i1::w0_)/\Rep S'4 w1_ i/\Rep S'4 w2_ i1/\w1_.size+w2_.size<=1000000/\0<S'4.free/\w0_.length<=900000000/\∀ w3_:Arn,∀ w4_:Int,NodeR S'4 w0_ k3 v3 w1_ w2_ w3_ w4_->((w3_.nd w4_).left)=i->((w3_.nd w4_).right)=i1->O57 K w4_ w3_
abbrev O59 (n:Nat)(k v r:Int)(K:SV → LH C0 → LN → Prop)(k1 v1:Int)(S'2:Arn)(l1 r1:Int):Prop:=∃ w0_:LI,∃ w1_:Tr,∃ w2_:Tr,Wf S'2 (r1::r::w0_)/\Rep S'2 w1_ r1/\Rep S'2 w2_ r/\w1_.Bal/\w2_.Bal/\w1_.size+w2_.size<n/\w1_.size+w2_.size<=900000/\(↑(jB w1_.size w2_.size):Int)<=S'2.free/\w0_.length+(w1_.size+w2_.size)<=800000000/\S'2.reads+5*(↑(jB w1_.size w2_.size):Int)<=1800000000000000000/\∀ w3_:Arn,∀ w4_:Int,TrR S'2 w0_ (w1_.list++(k,v)::w2_.list) (jB w1_.size w2_.size) (4*jB w1_.size w2_.size) w3_ w4_->(balN (w1_.size:Int) (w2_.size:Int)->((w3_.nd w4_).left)=r1/\((w3_.nd w4_).right)=r/\w3_.nu=(S'2.nu+1))->∃ w5_:LI,∃ w6_:Tr,∃ w7_:Tr,Wf w3_ (l1::w4_::w5_)/\Rep w3_ w6_ l1/\Rep w3_ w7_ w4_/\w6_.Bal/\w7_.Bal/\near w6_.size w7_.size/\w6_.size+w7_.size<=900000/\3<=w3_.free/\w5_.length<=800000000/\w3_.reads<=1900000000000000000/\∀ w8_:Arn,∀ w9_:Int,TrR w3_ w5_ (w6_.list++(k1,v1)::w7_.list) 3 6 w8_ w9_->O57 K w9_ w8_
abbrev O60 (n:Nat)(l k v:Int)(K:SV → LH C0 → LN → Prop)(k1 v1:Int)(S'2:Arn)(l1 r1:Int):Prop:=∃ w0_:LI,∃ w1_:Tr,∃ w2_:Tr,Wf S'2 (l::l1::w0_)/\Rep S'2 w1_ l/\Rep S'2 w2_ l1/\w1_.Bal/\w2_.Bal/\w1_.size+w2_.size<n/\w1_.size+w2_.size<=900000/\(↑(jB w1_.size w2_.size):Int)<=S'2.free/\w0_.length+(w1_.size+w2_.size)<=800000000/\S'2.reads+5*(↑(jB w1_.size w2_.size):Int)<=1800000000000000000/\∀ w3_:Arn,∀ w4_:Int,TrR S'2 w0_ (w1_.list++(k,v)::w2_.list) (jB w1_.size w2_.size) (4*jB w1_.size w2_.size) w3_ w4_->(balN (w1_.size:Int) (w2_.size:Int)->((w3_.nd w4_).left)=l/\((w3_.nd w4_).right)=l1/\w3_.nu=(S'2.nu+1))->∃ w5_:LI,∃ w6_:Tr,∃ w7_:Tr,Wf w3_ (w4_::r1::w5_)/\Rep w3_ w6_ w4_/\Rep w3_ w7_ r1/\w6_.Bal/\w7_.Bal/\near w6_.size w7_.size/\w6_.size+w7_.size<=900000/\3<=w3_.free/\w5_.length<=800000000/\w3_.reads<=1900000000000000000/\∀ w8_:Arn,∀ w9_:Int,TrR w3_ w5_ (w6_.list++(k1,v1)::w7_.list) 3 6 w8_ w9_->O57 K w9_ w8_
abbrev O61 {P:Arn → Int → Int → Bool → Prop}(k v k2 v2 k1 v1:Int)(S'1:Arn)(x:XLl P):Prop:=(True/\True/\True/\VW (S'1.reads)=VW (x.S.reads)/\True)/\(True/\True/\True/\VU (S'1.fresh)=VU (x.S.fresh)/\True)/\S'1.nodes=x.S.nodes/\S'1.counts=x.S.counts/\S'1.used=x.S.used/\S'1.gen=x.S.gen/\S'1.rel=x.S.rel/\(VI (k)=VI (k)/\VI (v)=VI (v)/\True)/\(VI (k1)=VI (k2)/\VI (v1)=VI (v2)/\True)/\True
abbrev O62 {P:Arn → Int → Int → Bool → Prop}(l k v k2 v2:Int)(K:SV → LH C0 → LN → Prop)(x:XLl P):Prop:=∃ w0_:LI,∃ w1_:Tr,∃ w2_:Tr,Wf x.S (l::x.m::w0_)/\Rep x.S w1_ l/\Rep x.S w2_ x.m/\w1_.size+w2_.size<=1000000/\0<x.S.free/\w0_.length<=900000000/\∀ w3_:Arn,∀ w4_:Int,NodeR x.S w0_ k v w1_ w2_ w3_ w4_->((w3_.nd w4_).left)=l->((w3_.nd w4_).right)=x.m->∃ w5_:LI,∃ w6_:Tr,∃ w7_:Tr,Wf w3_ (w4_::x.s::w5_)/\Rep w3_ w6_ w4_/\Rep w3_ w7_ x.s/\w6_.size+w7_.size<=1000000/\0<w3_.free/\w5_.length<=900000000/\∀ w8_:Arn,∀ w9_:Int,NodeR w3_ w5_ k2 v2 w6_ w7_ w8_ w9_->((w8_.nd w9_).left)=w4_->((w8_.nd w9_).right)=x.s->O57 K w9_ w8_
abbrev O63 {P:Arn → Int → Int → Bool → Prop}(k v k2 v2 r:Int)(K:SV → LH C0 → LN → Prop)(x:XLl P):Prop:=∃ w0_:LI,∃ w1_:Tr,∃ w2_:Tr,Wf x.S (x.m::r::w0_)/\Rep x.S w1_ x.m/\Rep x.S w2_ r/\w1_.size+w2_.size<=1000000/\0<x.S.free/\w0_.length<=900000000/\∀ w3_:Arn,∀ w4_:Int,NodeR x.S w0_ k v w1_ w2_ w3_ w4_->((w3_.nd w4_).left)=x.m->((w3_.nd w4_).right)=r->∃ w5_:LI,∃ w6_:Tr,∃ w7_:Tr,Wf w3_ (x.s::w4_::w5_)/\Rep w3_ w6_ x.s/\Rep w3_ w7_ w4_/\w6_.size+w7_.size<=1000000/\0<w3_.free/\w5_.length<=900000000/\∀ w8_:Arn,∀ w9_:Int,NodeR w3_ w5_ k2 v2 w6_ w7_ w8_ w9_->((w8_.nd w9_).left)=x.s->((w8_.nd w9_).right)=w4_->O57 K w9_ w8_
abbrev O64 (k v r:Int)(K:SV → LH C0 → LN → Prop)(k3 v3 r2:Int)(S'3:Arn)(i:Int):Prop:=∃ w0_:LI,∃ w1_:Tr,∃ w2_:Tr,Wf S'3 (r2::r::w0_)/\Rep S'3 w1_ r2/\Rep S'3 w2_ r/\w1_.size+w2_.size<=1000000/\0<S'3.free/\w0_.length<=900000000/\∀ w3_:Arn,∀ w4_:Int,NodeR S'3 w0_ k v w1_ w2_ w3_ w4_->((w3_.nd w4_).left)=r2->((w3_.nd w4_).right)=r->O58 K k3 v3 i w3_ w4_
abbrev O65 {P:Arn → Int → Int → Bool → Prop}(k2 v2:Int)(K:SV → LH C0 → LN → Prop)(x:XLl P)(k3 v3 r2:Int)(S'3:Arn)(i:Int):Prop:=∃ w0_:LI,∃ w1_:Tr,∃ w2_:Tr,Wf S'3 (r2::x.s::w0_)/\Rep S'3 w1_ r2/\Rep S'3 w2_ x.s/\w1_.size+w2_.size<=1000000/\0<S'3.free/\w0_.length<=900000000/\∀ w3_:Arn,∀ w4_:Int,NodeR S'3 w0_ k2 v2 w1_ w2_ w3_ w4_->((w3_.nd w4_).left)=r2->((w3_.nd w4_).right)=x.s->O58 K k3 v3 i w3_ w4_
abbrev O66 (S:Arn)(i:Int)(Z_:Prop):Prop:=inU i/\exW S/\S.reads<4000000000000000000/\Z_
abbrev O67 (S':Arn)(l1:Int)(Z_:Prop):Prop:=0<=(S'.nd l1).size/\(S'.nd l1).size<=1000000/\Z_
abbrev O68 (S:Arn)(r:Int)(hs:LI)(a:Tr)(k1 v1:Int)(b:Tr)(Z_:Prop):Prop:=Wf S (r::hs)/\Rep S (a.node k1 v1 b) r/\hs.length<=900000000/\S.reads<=3000000000000000000/\Z_
abbrev O69 (K:SV → LH C0 → LN → Prop):Prop:=K (.one (.at (.val (Zi false)))) [] []
theorem Ytf (l r:Int)(K:KT)(h1:0<=l)(h2:l<=1000000)(h3:0<=r)(h4:r<=1000000)(h:∀ b,b=balB l r->K (.one (.at (vB b))) [] []):vc C0 A0 Tryz.f122 [.at (vI l),.at (vI r)] [] (Yh 0 K):=by
 refine Eq.mp (show (brS (decide (l<0)) (O69 K) (brS (decide (r<0)) (O69 K) (brS (decide (l>2147483647)) (O69 K) (brS (decide (r>2147483647)) (O69 K) (brS (decide (Za.wrap (l+1)<=Za.wrap (3*Za.wrap (r+1)))) (K (.one (.at (.val (Zi (decide (Za.wrap (r+1)<=Za.wrap (3*Za.wrap (l+1)))))))) [] []) (O69 K))))))=_ by kernel_rfl) ?_;delta O69;rw[Yb (x:=l+1) (by omega) (by omega),Yb (x:=r+1) (by omega) (by omega),Yb (x:=3*(l+1)) (by omega) (by omega),Yb (x:=3*(r+1)) (by omega) (by omega)];refine Ya (fun c=>?_) fun _=>Ya (fun c=>?_) fun _=>Ya (fun c=>?_) fun _=>Ya (fun c=>?_) fun _=>Ya (fun c=>?_) fun c=>?_
 .have:=Zc c;omega
 .have:=Zc c;omega
 .have:l>2147483647:=Zc c;omega
 .have:r>2147483647:=Zc c;omega
 .have c:l+1<=3*(r+1):=Zc c;exact h _ (by unfold balB balN;simp[c])
 .have c:¬ l+1<=3*(r+1):=Zg c;exact h _ (by unfold balB balN;simp[c])
theorem Yiw:Tb C0 122 YjD:=by
 refine .of Tryz.func122 (by decide) rfl fun args H K h hB=>?_
 unfold YjD at h;split at h<;>try exact h.elim
 rename_i l r;exact⟨A0,trivial,Ytf l r K h.1 h.2.1 h.2.2.1 h.2.2.2.1 h.2.2.2.2⟩
theorem YlT {S:Arn}{hs:LI}{k v l r:Int}(h:Wf S hs)(hf:0<S.free):((Ydi S k v l r).nd (nxt S)).left=l/\((Ydi S k v l r).nd (nxt S)).right=r:=by
 obtain⟨_,_,m1,m2⟩:=Yad S k v l r;unfold Ydi;rw[(Yav _ _ _).2.1,(Yav _ _ _).2.1,Yau h hf,Zj rfl];exact⟨m1,m2⟩
theorem Yqc (S:Arn)(l k v r:Int)(K:KT)(hs:LI)(tl tr:Tr)(hw:Wf S (l::r::hs))(h1:Rep S tl l)(h2:Rep S tr r)(h3:tl.size+tr.size<=1000000)(h4:0<S.free)(h5:hs.length<=900000000)(h:∀ S' i,NodeR S hs k v tl tr S' i->(S'.nd i).left=l->(S'.nd i).right=r->K (.one (.at (vU i))) (chS S') W7) :
  vc C0 Yrp Tryz.f90 [.at (.ptr 0 0),.at (vU l),.agg [vI k,vI v],.at (vU r)] (chS S) (Yh 7 (YG W7 K)):=by
 refine Eq.mp (show (exW S/\live S l/\live S r/\(Yk S k v l r).size<=Ym/\0<S.free/\∀ S':Arn,∀ i:Int,S'=Yt S k v l r->i=nxt S->∃ hs:LI,Wf S' (l::hs)/\(S'.us l=true->1<=S'.indeg l)/\∀ S'1:Arn,S'1=relA S' l->∃ hs1:LI,Wf S'1 (r::hs1)/\(S'1.us r=true->1<=S'1.indeg r)/\∀ S'2:Arn,S'2=relA S'1 r->O57 K i S'2)=_ by kernel_rfl) ?_;delta O57;have hz:(Yk S k v l r).size<=Ym:=by rw[YgD hw h1 h2];unfold Ym;omega
 obtain⟨t1,t2,t3,t4⟩:=YgC (k:=k) (v:=v) hw h4 hz (by omega);refine⟨⟨_,hw⟩,hw.held l (by simp),hw.held r (by simp),hz,h4,fun S1 i e1 e2=>?_⟩;subst e1;refine⟨_,t1,t2,fun S2 e3=>?_⟩;subst e3;refine⟨_,t3,t4,fun S3 e4=>?_⟩;have e4:S3=Ydi S k v l r:=e4;subst e4 e2;obtain⟨q1,q2⟩:=YlT (k:=k) (v:=v) (l:=l) (r:=r) hw h4;exact h _ _ (Ynh hw h4 hz (by omega) h1 h2) q1 q2
theorem Yfh:Tb C0 90 Yfg:=by
 refine .ofW W7 Tryz.func90 (by decide) rfl fun args H K h hB=>?_
 unfold Yfg at h;split at h<;>try exact h.elim
 unfold arM at h;split at h<;>try exact h.elim
 rename_i l k v r _ rd fr nd ct us gn rl;obtain⟨hs,tl,tr,h1,h2,h3,h4,h5,h6,h7⟩:=h;exact⟨Yrp,⟨Ye C0.ok Yeb _,Ye C0.ok YqW _,trivial⟩,Yqc ⟨us,gn,rl,fr,nd,ct,rd⟩ l k v r K hs tl tr h1 h2 h3 h4 h5 h6 h7⟩
theorem Yrq:Tb C0 87 Yqb:=s_retain.weak fun args H K h=>by
 unfold Yqb at h;unfold YgA;split at h<;>try exact h.elim
 unfold arM at h ⊢;split at h<;>try exact h.elim
 rename_i i _ rd fr nd ct us gn rl;obtain⟨h1,⟨hs,h2⟩,h3⟩:=h;refine⟨YW h2 h1,⟨hs,h2⟩,fun e=>?_,fun e1 e2=>?_,fun e S' e2=>?_⟩
 .exact h3 _ (Zj e).symm
 .exact absurd (h1.resolve_left e1) (by rw[e2];decide)
 .refine h3 S' (e2.trans (Zf fun e3=>?_).symm);rw[e3,h2.us0 (ZE 0)] at e;cases e
theorem Yyx:Tb C0 26 tRel:=s_release.weak fun args H K h=>by
 unfold tRel at h;unfold Ydd;split at h<;>try exact h.elim
 unfold arM at h ⊢;split at h<;>try exact h.elim
 obtain⟨hs,h1,h2⟩:=h;exact⟨hs,h1,fun S' fr a1 a2 _ _ _=>h2 S' fr a1 a2⟩
theorem Ywb (S:Arn)(i:Int)(K:KT)(hs:LI)(a:Tr)(k v:Int)(b:Tr)(h1:Wf S (i::hs))(h2:Rep S (.node a k v b) i)(h3:hs.length<=900000000)(h4:S.reads<=3000000000000000000)(h:∀ S' l r,OpnR S hs a k v b S' l r->K (.tup [.at (vU l),.agg [vI k,vI v],.at (vU r)]) (chS S') W7) :
  vc C0 aOpn Tryz.f91 [.at (.ptr 0 0),.at (vU i)] (chS S) (Yh 7 (YG W7 K)):=by
 refine Eq.mp (show (O66 S i (∀ S':Arn,S'=(rdS S (S.us i).toNat)->brS (!S.us i) (K (.tup [(.at (.val (VU 0))),(TV.agg [(.val (VI 0)),(.val (VI 0))]),(.at (.val (VU 0)))]) [(.box [(.ptr 1 0),(.slc 2),(.slc 3),(.val (VW (S'.reads)))]),(.box [(.slc 4),(.slc 5),(.slc 6),(.val (VU (S'.fresh)))]),(.row true .node (S'.nodes)),(.row true .int (S'.counts)),(.row true .bool (S'.used)),(.row true .u32 (S'.gen)),(.row true .u32 (S'.rel))] [0,1,2,3,4,5,6]) (live S' (S.nd i).left/\exW S'/\∀ S'1:Arn,S'1=(retL S' (S.nd i).left)->live S'1 (S.nd i).right/\exW S'1/\∀ S'2:Arn,S'2=(retL S'1 (S.nd i).right)->∃ hs:LI,Wf S'2 (i::hs)/\∀ S'3:Arn,∀ fr:Int,Wf S'3 hs->Kept S'2 S'3->K (.tup [(.at (.val (VU ((S.nd i).left)))),(TV.agg [(.val (VI ((S.nd i).key))),(.val (VI ((S.nd i).value)))]),(.at (.val (VU ((S.nd i).right))))]) [(.box [(.ptr 1 0),(.slc 2),(.slc 3),(.val (VW (S'3.reads)))]),(.box [(.slc 4),(.slc 5),(.slc 6),(.val (VU (S'3.fresh)))]),(.row true .node (S'3.nodes)),(.row true .int (S'3.counts)),(.row true .bool (S'3.used)),(.row true .u32 (S'3.gen)),(.row true .u32 (S'3.rel))] [0,1,2,3,4,5,6])))=_ by kernel_rfl) ?_;delta O66;obtain⟨w1,w2,w3⟩:=Yrg h1 h2 h3 (by omega);have hu:=h2.1;have hk:=h1.kid i hu;refine⟨YW h1 (.inr hu),⟨_,h1⟩,by omega,fun S1 e1=>?_⟩;have e1:S1=rdS S 1:=by rw[e1,hu];rfl
 subst e1;refine Ya (fun d=>?_) fun _=>?_
 .have d:(!S.us i)=true:=d;rw[hu] at d;cases d
 refine⟨hk.1,⟨_,w1⟩,fun S2 e2=>?_⟩;subst e2;refine⟨(by rcases hk.2 with c|c;exact .inl c;exact .inr (((Yan _ _).2.2.1 _).trans c)),⟨_,w2⟩,fun S3 e3=>?_⟩;subst e3;refine⟨_,w3,fun S4 fr w4 kp=>?_⟩;have o:=Yvw h1 h2 h3 (by omega) w4 kp;have ek:=h2.2.1;have ev:=h2.2.2.1;subst ek ev;exact h S4 _ _ o
theorem YlU:Tb C0 91 tOpn:=by
 refine .ofW W7 Tryz.func91 (by decide) rfl fun args H K h hB=>?_
 unfold tOpn at h;split at h<;>try exact h.elim
 unfold arM at h;split at h<;>try exact h.elim
 rename_i i _ rd fr nd ct us gn rl;obtain⟨hs,a,k,v,b,h1,h2,h3,h4,h5⟩:=h;exact⟨aOpn,⟨Ye C0.ok YfM _,Ye C0.ok Yrq _,Ye C0.ok Yyx _,trivial⟩,Ywb ⟨us,gn,rl,fr,nd,ct,rd⟩ i K hs a k v b h1 h2 h3 h4 h5⟩
def PLl (S0:Arn)(hs:LI)(u w:Int->Int->Int)(A M B:Tr)(cnd:Prop):Arn->Int->Int->Bool->Prop:=fun S m s c =>
 Got S0 hs 0 3 S (u m s::m::w m s::hs)/\Rep S A (u m s)/\Rep S M m/\Rep S B (w m s)/\(c=true->M = .nil∨cnd)/\(c=false->M≠.nil/\¬ cnd)
theorem Yyy (S:Arn)(l k v r:Int)(K:KT)(hs:LI)(ta tm:Tr)(k2 v2:Int)(ts:Tr)(hw:Wf S (l::r::hs))(h1:Rep S ta l)(h2:Rep S (.node tm k2 v2 ts) r)(b1:ta.Bal)(b2:(Tr.node tm k2 v2 ts).Bal)(hn:near ta.size (tm.size+ts.size+1))(hb:¬ balN ta.size ((tm.size+ts.size+1:Nat):Int))(hlt:ta.size<tm.size+ts.size+1)(hz:ta.size+(tm.size+ts.size+1)<=900000)(hf:3<=S.free)(hl:hs.length<=800000000)(hr:S.reads<=2000000000000000000)(h:∀ S' i,TrR S hs (ta.list++(k,v)::(tm.list++(k2,v2)::ts.list)) 3 4 S' i->K (.one (.at (vU i))) (chS S') W7) :
  vc C0 (aLl (PLl S hs (fun _ _=>l) (fun _ s=>s) ta tm ts (balN ta.size tm.size/\balN ((ta.size+tm.size+1:Nat):Int) ts.size)) k v k2 v2) Tryz.f140 [.at (.ptr 0 0),.at (vI ta.size),.at (vU l),.agg [vI k,vI v],.at (vU r)] (chS S) (Yh 7 (YG W7 K)):=by
 generalize hP:PLl S hs (fun _ _=>l) (fun _ s=>s) ta tm ts (balN ta.size tm.size/\balN ((ta.size+tm.size+1:Nat):Int) ts.size)=P;generalize hsl:(ta.size:Int)=sl
 refine Eq.mp (show (∃ hs:LI,∃ a:Tr,∃ k1:Int,∃ v1:Int,∃ b:Tr,O68 S r hs a k1 v1 b (∀ S':Arn,∀ l1:Int,∀ r1:Int,OpnR S hs a k1 v1 b S' l1 r1->O66 S' l1 (∀ S'1:Arn,S'1=(rdS S' (S'.us l1).toNat)->brS (l1==0) (∃ x:XLl P,True/\(True/\VU (l)=VU (l)/\True/\VU (l1)=VU (x.m)/\True/\VU (r1)=VU (x.s)/\Zi true=(Zi (x.c))/\True)/\O61 k v k2 v2 k1 v1 S'1 x) (0<=sl/\sl<=1000000/\O67 S' l1 (∀ b1:Bool,b1=(balB sl (S'.nd l1).size)->brS (b1) (O66 S'1 r1 (∀ S'2:Arn,S'2=(rdS S'1 (S'1.us r1).toNat)->0<=Za.wrap (Za.wrap (sl+(S'.nd l1).size)+1)/\Za.wrap (Za.wrap (sl+(S'.nd l1).size)+1)<=1000000/\O67 S'1 r1 (∀ b2:Bool,b2=(balB (Za.wrap (Za.wrap (sl+(S'.nd l1).size)+1)) (S'1.nd r1).size)->∃ x:XLl P,True/\(True/\VU (l)=VU (l)/\True/\VU (l1)=VU (x.m)/\True/\VU (r1)=VU (x.s)/\(Zi (b2))=(Zi (x.c))/\True)/\O61 k v k2 v2 k1 v1 S'2 x))) (∃ x:XLl P,True/\(True/\VU (l)=VU (l)/\True/\VU (l1)=VU (x.m)/\True/\VU (r1)=VU (x.s)/\Zi false=(Zi (x.c))/\True)/\O61 k v k2 v2 k1 v1 S'1 x)))/\∀ x:XLl P,True->brS (x.c) ((O62 l k v k2 v2 K x/\O62 l k v k2 v2 K x)/\O62 l k v k2 v2 K x) (∃ hs1:LI,∃ a1:Tr,∃ k3:Int,∃ v3:Int,∃ b1:Tr,Wf x.S (x.m::hs1)/\Rep x.S (a1.node k3 v3 b1) x.m/\hs1.length<=900000000/\x.S.reads<=3000000000000000000/\∀ S'2:Arn,∀ l2:Int,∀ r2:Int,OpnR x.S hs1 a1 k3 v3 b1 S'2 l2 r2->∃ hs2:LI,∃ tl:Tr,∃ tr:Tr,Wf S'2 (l::l2::hs2)/\Rep S'2 tl l/\Rep S'2 tr l2/\tl.size+tr.size<=1000000/\0<S'2.free/\hs2.length<=900000000/\
  ∀ S'3:Arn,∀ i:Int,NodeR S'2 hs2 k v tl tr S'3 i->((S'3.nd i).left)=l->((S'3.nd i).right)=l2->O65 k2 v2 K x k3 v3 r2 S'3 i/\O65 k2 v2 K x k3 v3 r2 S'3 i/\O65 k2 v2 K x k3 v3 r2 S'3 i))))=_ by kernel_rfl) ?_
 delta O57 O58 O61 O62 O65 O66 O67 O68;subst hP;have w0:Wf S (r::l::hs):=hw.perm (List.Perm.swap _ _ _);have hrd:=hw.rds;refine⟨l::hs,tm,k2,v2,ts,w0,h2,by simp;omega,by omega,fun S1 m s o=>?_⟩;have g1:Got S hs 0 1 S1 (l::m::s::hs):=((o.got.seq (Got.refl (hs:=hs) o.got.wf) (fun _ h=>by simp[h]) (fun _ h=>h)).perm (Ydp m s l hs)).mono (by omega) (by omega);have rA:Rep S1 ta l:=h1.held hw o.got.stay (.inr (by simp));have rM:=o.repl;have rB:=o.repr;have zM:=rM.size g1.wf;have zB:=rB.size g1.wf;have q1:=g1.rd;have q0:=g1.rd0;refine⟨YW g1.wf rM.us,⟨_,g1.wf⟩,by omega,fun S2 e2=>⟨Ya (fun d=>⟨⟨S2,m,s,true,?_⟩,?_⟩) fun d=>?_,fun x _=>?_⟩⟩
 .have d:m=0:=by simpa using d
  subst d;have:=rM.zero g1.wf;subst e2;exact⟨(g1.rdn (k:=2) (by cases S1.us 0<;>decide) (by cases S1.us 0<;>simp<;>omega)),rA.rdn,rM.rdn,rB.rdn,fun _=>.inl this,fun e=>by cases e⟩
 ·repeat' constructor
 .have d:m≠0:=by simpa using d
  have um:S1.us m=true:=rM.us.resolve_left d;have e2:S2=rdS S1 1:=by rw[e2,um];rfl
  subst e2;have nM:tm≠.nil:=fun e=>by subst e;exact d rM
  have g2:Got S hs 0 2 (rdS S1 1) (l::m::s::hs):=g1.rdn (k:=1) (by omega) (by omega);rw[zM];refine⟨by omega,by omega,by omega,by omega,fun c1 ec1=>Ya (fun d1=>?_) fun d1=>⟨⟨rdS S1 1,m,s,false,?_⟩,?_⟩⟩
  .subst d1;have q2:=g2.rd
   have wr:Za.wrap (Za.wrap (sl+(tm.size:Int))+1)=((ta.size+tm.size+1:Nat):Int):=by
    rw[Yb (x:=sl+(tm.size:Int)) (by omega) (by omega),Yb (by omega) (by omega)];omega
   rw[wr,show ((rdS S1 1).nd s).size=_ from zB];refine⟨YW g2.wf (rB.rdn (n:=1)).us,⟨_,g2.wf⟩,by omega,fun S3 e3=>⟨by omega,by omega,by omega,by omega,fun c2 ec2=>⟨⟨S3,m,s,c2,?_⟩,?_⟩⟩⟩
   .subst e3;have c1b:balN ta.size tm.size:=by rw[<-hsl] at ec1;exact Zc ec1.symm
    refine⟨g2.rdn (k:=1) (by cases (rdS S1 1).us s<;>decide) (by cases (rdS S1 1).us s<;>simp<;>omega),rA.rdn.rdn,rM.rdn.rdn,rB.rdn.rdn,fun e=>.inr ⟨c1b,?_⟩,fun e=>⟨nM,fun q=>?_⟩⟩
    .rw[e] at ec2;exact Zc ec2.symm
    .rw[e] at ec2;exact absurd q.2 (Zg ec2.symm)
   ·repeat' constructor
  .refine⟨g2.mono (by omega) (by omega),rA.rdn,rM.rdn,rB.rdn,(fun e=>by cases e),fun _=>⟨nM,fun q=>?_⟩⟩;rw[d1,<-hsl] at ec1;exact absurd q.1 (Zg ec1.symm)
  ·repeat' constructor
 obtain⟨S2,m,s,c,g,rA,rM,rB,hc1,hc2⟩:=x;dsimp only at g rA rM rB ⊢;have fr:=g.free hw;have grd:=g.rd;obtain⟨bb,bM,bB⟩:=b2;refine Ya (fun d=>?_) fun d=>?_
 .have cnd:balN ta.size tm.size/\balN ((ta.size+tm.size+1:Nat):Int) ts.size:=by
   rcases hc1 d with e|e
   .subst e;exact YnE hn bb hb hlt
   .exact e
  (repeat' apply And.intro)
  all_goals
   refine⟨s::hs,ta,tm,g.wf,rA,rM,by omega,by omega,by simp;omega,fun S3 i n1 _ _=>?_⟩;have f3:=(Got.node n1).free g.wf;refine⟨hs,_,ts,n1.wf,n1.rep,rB.held g.wf n1.stay (.inr (by simp)),by simp[Tr.size];omega,by omega,by omega,fun S4 j n2 _ _=>h S4 j (YlP g n1 n2 b1 bM bB cnd.1 cnd.2)⟩
 .obtain⟨nM,ncnd⟩:=hc2 d;cases tm with
  | nil=>exact absurd rfl nM
  | node x k3 v3 y =>
   have zz:(Tr.node x k3 v3 y).size=x.size+y.size+1:=by simp[Tr.size];omega
   rw[zz] at hn hb hlt ncnd bb hz;obtain⟨bxy,bx,bY⟩:=bM;obtain⟨c1,c2,c3⟩:=YnF hn bb bxy hb hlt ncnd;refine⟨l::s::hs,x,k3,v3,y,g.wf.perm (List.Perm.swap _ _ _),rM,by simp;omega,by omega,fun S3 ix iy o2=>?_⟩;have f3:=o2.got.free g.wf;have rA3:Rep S3 ta l:=rA.held g.wf o2.got.stay (.inr (by simp));have rB3:Rep S3 ts s:=rB.held g.wf o2.got.stay (.inr (by simp));refine⟨iy::s::hs,ta,x,o2.got.wf.perm (Ydp ix iy l (s::hs)),rA3,o2.repl,by omega,by omega,by simp;omega,fun S4 i n1 _ _=>?_⟩;have f4:=(Got.node n1).free (o2.got.wf);have ry:Rep S4 y iy:=o2.repr.held o2.got.wf n1.stay (.inr (by simp));have rB4:Rep S4 ts s:=rB3.held o2.got.wf n1.stay (.inr (by simp))
   (repeat' apply And.intro)
   all_goals
    refine⟨i::hs,y,ts,n1.wf.perm (Yee i iy s hs),ry,rB4,by omega,by omega,by simp;omega,fun S5 j n2 _ _=>?_⟩;have f5:=(Got.node n2).free n1.wf;refine⟨hs,_,_,n2.wf.perm (List.Perm.swap _ _ _),n1.rep.held n1.wf n2.stay (.inr (by simp)),n2.rep,by simp[Tr.size];omega,by omega,by omega,fun S6 q n3 _ _=>h S6 q ?_⟩;have:=Yir g o2 n1 n2 n3 b1 bx bY bB c1 c2 c3
    simpa [Tr.list] using this
theorem s_ll:Tb C0 140 tLl:=by
 refine .ofW W7 Tryz.func140 (by decide) rfl fun args H K h hB=>?_
 unfold tLl at h;split at h<;>try exact h.elim
 unfold arM at h;split at h<;>try exact h.elim
 rename_i sl l k v r _ rd fr nd ct us gn rl;obtain⟨hs,ta,tb,h1,h2,h3,h4,h5,h6,h7,h8,h9,h10,h11,h12,h13,h14⟩:=h;subst h9;cases tb with
 | nil=>exact absurd h8 (Zbv _)
 | node tm k2 v2 ts =>
  have zz:(Tr.node tm k2 v2 ts).size=tm.size+ts.size+1:=by simp[Tr.size];omega
  rw[zz] at h6 h7 h8 h10;refine⟨_,?_,Yyy ⟨us,gn,rl,fr,nd,ct,rd⟩ l k v r K hs ta tm k2 v2 ts h1 h2 h3 h4 h5 h6 h7 h8 h10 h11 h12 h13 h14⟩;exact⟨Ye C0.ok YlU _,Ye C0.ok YdU _,Ye C0.ok Yiw _,Ye C0.ok Yfh _,trivial⟩
theorem Yyz (S:Arn)(l k v r:Int)(K:KT)(hs:LI)(tb tm:Tr)(k2 v2:Int)(ts:Tr)(hw:Wf S (l::r::hs))(h1:Rep S (.node ts k2 v2 tm) l)(h2:Rep S tb r)(b1:(Tr.node ts k2 v2 tm).Bal)(b2:tb.Bal)(hn:near tb.size (tm.size+ts.size+1))(hb:¬ balN tb.size ((tm.size+ts.size+1:Nat):Int))(hlt:tb.size<tm.size+ts.size+1)(hz:tb.size+(tm.size+ts.size+1)<=900000)(hf:3<=S.free)(hl:hs.length<=800000000)(hr:S.reads<=2000000000000000000)(h:∀ S' i,TrR S hs (ts.list++(k2,v2)::(tm.list++(k,v)::tb.list)) 3 4 S' i->K (.one (.at (vU i))) (chS S') W7) :
  vc C0 (aLr (PLl S hs (fun _ s=>s) (fun _ _=>r) ts tm tb (balN tm.size tb.size/\balN ts.size ((tm.size+tb.size+1:Nat):Int))) k v k2 v2) Tryz.f141 [.at (.ptr 0 0),.at (vI tb.size),.at (vU l),.agg [vI k,vI v],.at (vU r)] (chS S) (Yh 7 (YG W7 K)):=by
 generalize hP:PLl S hs (fun _ s=>s) (fun _ _=>r) ts tm tb (balN tm.size tb.size/\balN ts.size ((tm.size+tb.size+1:Nat):Int))=P;generalize hsl:(tb.size:Int)=sr
 refine Eq.mp (show (∃ hs:LI,∃ a:Tr,∃ k1:Int,∃ v1:Int,∃ b:Tr,O68 S l hs a k1 v1 b (∀ S':Arn,∀ l1:Int,∀ r1:Int,OpnR S hs a k1 v1 b S' l1 r1->O66 S' r1 (∀ S'1:Arn,S'1=(rdS S' (S'.us r1).toNat)->brS (r1==0) (∃ x:XLl P,True/\(True/\VU (r)=VU (r)/\True/\VU (l1)=VU (x.s)/\True/\VU (r1)=VU (x.m)/\Zi true=(Zi (x.c))/\True)/\O61 k v k2 v2 k1 v1 S'1 x) (O67 S' r1 (0<=sr/\sr<=1000000/\∀ b1:Bool,b1=(balB (S'.nd r1).size sr)->brS (b1) (O66 S'1 l1 (∀ S'2:Arn,S'2=(rdS S'1 (S'1.us l1).toNat)->O67 S'1 l1 (0<=Za.wrap (Za.wrap ((S'.nd r1).size+sr)+1)/\Za.wrap (Za.wrap ((S'.nd r1).size+sr)+1)<=1000000/\∀ b2:Bool,b2=(balB (S'1.nd l1).size (Za.wrap (Za.wrap ((S'.nd r1).size+sr)+1)))->∃ x:XLl P,True/\(True/\VU (r)=VU (r)/\True/\VU (l1)=VU (x.s)/\True/\VU (r1)=VU (x.m)/\(Zi (b2))=(Zi (x.c))/\True)/\O61 k v k2 v2 k1 v1 S'2 x))) (∃ x:XLl P,True/\(True/\VU (r)=VU (r)/\True/\VU (l1)=VU (x.s)/\True/\VU (r1)=VU (x.m)/\Zi false=(Zi (x.c))/\True)/\O61 k v k2 v2 k1 v1 S'1 x)))/\∀ x:XLl P,True->brS (x.c) (O63 k v k2 v2 r K x/\O63 k v k2 v2 r K x/\O63 k v k2 v2 r K x) (∃ hs1:LI,∃ a1:Tr,∃ k3:Int,∃ v3:Int,∃ b1:Tr,Wf x.S (x.m::hs1)/\Rep x.S (a1.node k3 v3 b1) x.m/\hs1.length<=900000000/\x.S.reads<=3000000000000000000/\∀ S'2:Arn,∀ l2:Int,∀ r2:Int,OpnR x.S hs1 a1 k3 v3 b1 S'2 l2 r2->∃ hs2:LI,∃ tl:Tr,∃ tr:Tr,Wf S'2 (x.s::l2::hs2)/\Rep S'2 tl x.s/\Rep S'2 tr l2/\tl.size+tr.size<=1000000/\0<S'2.free/\hs2.length<=900000000/\
  ∀ S'3:Arn,∀ i:Int,NodeR S'2 hs2 k2 v2 tl tr S'3 i->((S'3.nd i).left)=x.s->((S'3.nd i).right)=l2->O64 k v r K k3 v3 r2 S'3 i/\O64 k v r K k3 v3 r2 S'3 i/\O64 k v r K k3 v3 r2 S'3 i))))=_ by kernel_rfl) ?_
 delta O57 O58 O61 O63 O64 O66 O67 O68;subst hP;have hrd:=hw.rds;refine⟨r::hs,ts,k2,v2,tm,hw,h1,by simp;omega,by omega,fun S1 s m o=>?_⟩;have g1:Got S hs 0 1 S1 (s::m::r::hs):=(o.got.seq (Got.refl (hs:=hs) o.got.wf) (fun _ h=>by simp[h]) (fun _ h=>h)).mono (by omega) (by omega);have rB:Rep S1 tb r:=h2.held hw o.got.stay (.inr (by simp));have rM:=o.repr;have rA:=o.repl;have zM:=rM.size g1.wf;have zA:=rA.size g1.wf;have q1:=g1.rd;have q0:=g1.rd0;refine⟨YW g1.wf rM.us,⟨_,g1.wf⟩,by omega,fun S2 e2=>⟨Ya (fun d=>⟨⟨S2,m,s,true,?_⟩,?_⟩) fun d=>?_,fun x _=>?_⟩⟩
 .have d:m=0:=by simpa using d
  subst d;have:=rM.zero g1.wf;subst e2;exact⟨(g1.rdn (k:=2) (by cases S1.us 0<;>decide) (by cases S1.us 0<;>simp<;>omega)),rA.rdn,rM.rdn,rB.rdn,fun _=>.inl this,fun e=>by cases e⟩
 ·repeat' constructor
 .have d:m≠0:=by simpa using d
  have um:S1.us m=true:=rM.us.resolve_left d;have e2:S2=rdS S1 1:=by rw[e2,um];rfl
  subst e2;have nM:tm≠.nil:=fun e=>by subst e;exact d rM
  have g2:Got S hs 0 2 (rdS S1 1) (s::m::r::hs):=g1.rdn (k:=1) (by omega) (by omega);rw[zM];refine⟨by omega,by omega,by omega,by omega,fun c1 ec1=>Ya (fun d1=>?_) fun d1=>⟨⟨rdS S1 1,m,s,false,?_⟩,?_⟩⟩
  .subst d1;have q2:=g2.rd
   have wr:Za.wrap (Za.wrap ((tm.size:Int)+sr)+1)=((tm.size+tb.size+1:Nat):Int):=by
    rw[Yb (x:=(tm.size:Int)+sr) (by omega) (by omega),Yb (by omega) (by omega)];omega
   rw[wr,show ((rdS S1 1).nd s).size=_ from zA];refine⟨YW g2.wf (rA.rdn (n:=1)).us,⟨_,g2.wf⟩,by omega,fun S3 e3=>⟨by omega,by omega,by omega,by omega,fun c2 ec2=>⟨⟨S3,m,s,c2,?_⟩,?_⟩⟩⟩
   .subst e3;have c1b:balN tm.size tb.size:=by rw[<-hsl] at ec1;exact Zc ec1.symm
    refine⟨g2.rdn (k:=1) (by cases (rdS S1 1).us s<;>decide) (by cases (rdS S1 1).us s<;>simp<;>omega),rA.rdn.rdn,rM.rdn.rdn,rB.rdn.rdn,fun e=>.inr ⟨c1b,?_⟩,fun e=>⟨nM,fun q=>?_⟩⟩
    .rw[e] at ec2;exact Zc ec2.symm
    .rw[e] at ec2;exact absurd q.2 (Zg ec2.symm)
   ·repeat' constructor
  .refine⟨g2.mono (by omega) (by omega),rA.rdn,rM.rdn,rB.rdn,(fun e=>by cases e),fun _=>⟨nM,fun q=>?_⟩⟩;rw[d1,<-hsl] at ec1;exact absurd q.1 (Zg ec1.symm)
  ·repeat' constructor
 obtain⟨S2,m,s,c,g,rA,rM,rB,hc1,hc2⟩:=x;dsimp only at g rA rM rB ⊢;have fr:=g.free hw;have grd:=g.rd;obtain⟨bb,bA,bM⟩:=b1;have bb':=YA bb;refine Ya (fun d=>?_) fun d=>?_
 .have cnd:balN tm.size tb.size/\balN ts.size ((tm.size+tb.size+1:Nat):Int):=by
   rcases hc1 d with e|e
   .subst e;have:=YnE hn bb' hb hlt;refine⟨YA this.1,YA ?_⟩;have e2:((tb.size+0+1:Nat):Int)=(((Tr.nil).size+tb.size+1:Nat):Int):=by simp[Tr.size]
    rw[<-e2];exact this.2
   .exact e
  (repeat' apply And.intro)
  all_goals
   refine⟨s::hs,tm,tb,g.wf.perm (Yee s m r hs),rM,rB,by omega,by omega,by simp;omega,fun S3 i n1 _ _=>?_⟩;have f3:=(Got.node n1).free g.wf;refine⟨hs,ts,_,n1.wf.perm (List.Perm.swap _ _ _),rA.held g.wf n1.stay (.inr (by simp)),n1.rep,by simp[Tr.size];omega,by omega,by omega,fun S4 j n2 _ _=>h S4 j (YlQ g n1 n2 bA bM b2 cnd.1 cnd.2)⟩
 .obtain⟨nM,ncnd⟩:=hc2 d;cases tm with
  | nil=>exact absurd rfl nM
  | node x k3 v3 y =>
   have zz:(Tr.node x k3 v3 y).size=y.size+x.size+1:=by simp[Tr.size];omega
   rw[zz] at hn hb hlt ncnd bb' hz;obtain⟨bxy,bx,bY⟩:=bM
   have ncnd':¬ (balN tb.size ((y.size+x.size+1:Nat):Int)/\balN ((tb.size+(y.size+x.size+1)+1:Nat):Int) ts.size):=fun q=>ncnd ⟨YA q.1,by
    have e:((y.size+x.size+1+tb.size+1:Nat):Int)=((tb.size+(y.size+x.size+1)+1:Nat):Int):=by omega
    rw[e];exact YA q.2⟩
   obtain⟨c1,c2,c3⟩:=YnF hn bb' (YA bxy) hb hlt ncnd';refine⟨s::r::hs,x,k3,v3,y,g.wf.perm (List.Perm.swap _ _ _),rM,by simp;omega,by omega,fun S3 ix iy o2=>?_⟩;have f3:=o2.got.free g.wf;have rA3:Rep S3 ts s:=rA.held g.wf o2.got.stay (.inr (by simp));have rB3:Rep S3 tb r:=rB.held g.wf o2.got.stay (.inr (by simp));refine⟨iy::r::hs,ts,x,o2.got.wf.perm (Ydp ix iy s (r::hs)),rA3,o2.repl,by omega,by omega,by simp;omega,fun S4 i n1 _ _=>?_⟩;have f4:=(Got.node n1).free (o2.got.wf);have ry:Rep S4 y iy:=o2.repr.held o2.got.wf n1.stay (.inr (by simp));have rB4:Rep S4 tb r:=rB3.held o2.got.wf n1.stay (.inr (by simp))
   (repeat' apply And.intro)
   all_goals
    refine⟨i::hs,y,tb,n1.wf.perm (Yee i iy r hs),ry,rB4,by omega,by omega,by simp;omega,fun S5 j n2 _ _=>?_⟩;have f5:=(Got.node n2).free n1.wf;refine⟨hs,_,_,n2.wf.perm (List.Perm.swap _ _ _),n1.rep.held n1.wf n2.stay (.inr (by simp)),n2.rep,by simp[Tr.size];omega,by omega,by omega,fun S6 q n3 _ _=>h S6 q ?_⟩
    have:=Yir g o2 n1 n2 n3 bA bx bY b2 (YA c2) (YA c1) (by
     have e1:((ts.size+x.size+1:Nat):Int)=((x.size+ts.size+1:Nat):Int):=by omega
     have e2:((y.size+tb.size+1:Nat):Int)=((tb.size+y.size+1:Nat):Int):=by omega
     rw[e1,e2];exact YA c3)
    simpa [Tr.list] using this
theorem s_lr:Tb C0 141 tLr:=by
 refine .ofW W7 Tryz.func141 (by decide) rfl fun args H K h hB=>?_
 unfold tLr at h;split at h<;>try exact h.elim
 unfold arM at h;split at h<;>try exact h.elim
 rename_i sl l k v r _ rd fr nd ct us gn rl;obtain⟨hs,ta,tb,h1,h2,h3,h4,h5,h6,h7,h8,h9,h10,h11,h12,h13,h14⟩:=h;subst h9;cases ta with
 | nil=>exact absurd h8 (Zbv _)
 | node ts k2 v2 tm =>
  have zz:(Tr.node ts k2 v2 tm).size=tm.size+ts.size+1:=by simp[Tr.size];omega
  rw[zz] at h6 h7 h8 h10;refine⟨_,?_,Yyz ⟨us,gn,rl,fr,nd,ct,rd⟩ l k v r K hs tb tm k2 v2 ts h1 h2 h3 h4 h5 (Yip h6) (fun q=>h7 (YA q)) h8 (by omega) h11 h12 h13 (fun S' i q=>h14 S' i (by simpa [Tr.list] using q))⟩;exact⟨Ye C0.ok YlU _,Ye C0.ok YdU _,Ye C0.ok Yiw _,Ye C0.ok Yfh _,trivial⟩
theorem Yqd (S:Arn)(i:Int):(S.us i).toNat<=1:=by cases S.us i<;>decide
theorem    Ywc (S : Arn) (l k v r : Int) (K : KT) (hs : LI) (ta tb : Tr) (hw : Wf S (l :: r :: hs)) (h1 : Rep S ta l) (h2 : Rep S tb r) (b1 : ta.Bal) (b2 : tb.Bal) (hn : near ta.size tb.size) (hz : ta.size + tb.size ≤ 900000) (hf : 3 ≤ S.free) (hl : hs.length ≤ 800000000) (hr : S.reads ≤ 1900000000000000000)
    (h : ∀ S' i, TrR S hs (ta.list ++ (k, v) :: tb.list) 3 6 S' i → K (.one (.at (vU i))) (chS S') W7) :
    vc C0 aBlc Tryz.f123 [.at (.ptr 0 0), .at (vU l), .agg [vI k, vI v], .at (vU r)] (chS S) (   Yh 7 (   YG W7 K)) := by
  refine Eq.mp (show (O66 S l (∀ S':Arn,S'=(rdS S (S.us l).toNat)->O66 S' r (∀ S'1:Arn,S'1=(rdS S' (S'.us r).toNat)->O67 S l (O67 S' r (∀ b:Bool,b=(balB (S.nd l).size (S'.nd r).size)->brS (b) (O58 K k v l S'1 r) (brS (decide ((S.nd l).size<(S'.nd r).size)) (∃ hs:LI,∃ ta:Tr,∃ tb:Tr,Wf S'1 (l::r::hs)/\Rep S'1 ta l/\Rep S'1 tb r/\ta.Bal/\tb.Bal/\near ta.size tb.size/\¬balN (ta.size:Int) (tb.size:Int)/\ta.size<tb.size/\((S.nd l).size)=((ta.size:Int))/\ta.size+tb.size<=900000/\3<=S'1.free/\hs.length<=800000000/\S'1.reads<=2000000000000000000/\∀ S'2:Arn,∀ i:Int,TrR S'1 hs (ta.list++(k,v)::tb.list) 3 4 S'2 i->O57 K i S'2) (∃ hs:LI,∃ ta:Tr,∃ tb:Tr,Wf S'1 (l::r::hs)/\Rep S'1 ta l/\Rep S'1 tb r/\ta.Bal/\tb.Bal/\near ta.size tb.size/\¬balN (ta.size:Int) (tb.size:Int)/\tb.size<ta.size/\((S'.nd r).size)=((tb.size:Int))/\ta.size+tb.size<=900000/\3<=S'1.free/\hs.length<=800000000/\S'1.reads<=2000000000000000000/\∀ S'2:Arn,∀ i:Int,TrR S'1 hs (ta.list++(k,v)::tb.list) 3 4 S'2 i->O57 K i S'2))))))) = _ by kernel_rfl) ?_;delta O57 O58 O66 O67;have z1 := h1.size hw;have z2 := h2.size hw;have u1 :=   Yqd S l;have hrd := hw.rds;refine ⟨    YW hw h1.us, ⟨_, hw⟩, by omega, fun S1 e1 => ?_⟩;have g1 : Got S hs 0 1 S1 (l :: r :: hs) := by subst e1; exact ((Got.refl (hs := hs) hw).rdn (k := 1) u1 (by omega)).mono (by omega) (by omega)
  have r1 : Rep S1 ta l := by subst e1; exact h1.rdn
  have r2 : Rep S1 tb r := by subst e1; exact h2.rdn
  have z3 := r2.size g1.wf;have q1 := g1.rd;have u2 :=   Yqd S1 r;refine ⟨    YW g1.wf r2.us, ⟨_, g1.wf⟩, by omega, fun S2 e2 => ?_⟩;have g2 : Got S hs 0 2 S2 (l :: r :: hs) := by subst e2; exact (g1.rdn (k := 1) u2 (by omega)).mono (by omega) (by omega)
  have r3 : Rep S2 ta l := by subst e2; exact r1.rdn
  have r4 : Rep S2 tb r := by subst e2; exact r2.rdn
  have q2 := g2.rd;have f2 := g2.free hw;rw [z1, z3];refine ⟨by omega, by omega, by omega, by omega, fun b eb =>     Ya (fun d => ?_) fun d =>     Ya (fun e => ?_) fun e => ?_⟩
  . have c : balN ta.size tb.size := by rw [d] at eb; exact                Zc eb.symm
    refine ⟨hs, ta, tb, g2.wf, r3, r4, by omega, by omega, by omega, fun S3 i n _ _ => h S3 i ⟨(g2.seq (Got.node n) (h := hs) (fun _ h => h) (fun _ h => h)).mono (by omega) (by omega), _, n.rep, rfl, c, b1, b2⟩⟩
  . have c : ¬ balN ta.size tb.size := by rw [d] at eb; exact                 Zg eb.symm
    have e : ta.size < tb.size := by have : (ta.size : Int) < tb.size :=                Zc e
                                     omega
    exact ⟨hs, ta, tb, g2.wf, r3, r4, b1, b2, hn, c, e, rfl, hz, by omega, hl, by omega, fun S3 i n => h S3 i ⟨(g2.seq n.got (h := hs) (fun _ h => h) (fun _ h => h)).mono (by omega) (by omega), n.tree⟩⟩
  . have c : ¬ balN ta.size tb.size := by rw [d] at eb; exact                 Zg eb.symm
    have e : tb.size < ta.size := by
      have : ¬ (ta.size : Int) < tb.size :=                 Zg e;unfold balN at c;omega
    exact ⟨hs, ta, tb, g2.wf, r3, r4, b1, b2, hn, c, e, rfl, hz, by omega, hl, by omega, fun S3 i n => h S3 i ⟨(g2.seq n.got (h := hs) (fun _ h => h) (fun _ h => h)).mono (by omega) (by omega), n.tree⟩⟩
theorem YyA:Tb C0 123 tBlc:=by
 refine .ofW W7 Tryz.func123 (by decide) rfl fun args H K h hB=>?_
 unfold tBlc at h;split at h<;>try exact h.elim
 unfold arM at h;split at h<;>try exact h.elim
 rename_i l k v r _ rd fr nd ct us gn rl;obtain⟨hs,ta,tb,h1,h2,h3,h4,h5,h6,h7,h8,h9,h10,h11⟩:=h;exact⟨aBlc,⟨Ye C0.ok YdU _,Ye C0.ok Yiw _,Ye C0.ok Yfh _,Ye C0.ok s_ll _,Ye C0.ok s_lr _,trivial⟩,Ywc ⟨us,gn,rl,fr,nd,ct,rd⟩ l k v r K hs ta tb h1 h2 h3 h4 h5 h6 h7 h8 h9 h10 h11⟩
theorem   YyB (n : Nat) (S : Arn) (l k v r : Int) (K : KT) (hs : LI) (ta tb : Tr) (hw : Wf S (l :: r :: hs)) (h1 : Rep S ta l) (h2 : Rep S tb r) (b1 : ta.Bal) (b2 : tb.Bal) (hfu : ta.size + tb.size < n + 1) (hz : ta.size + tb.size ≤ 900000) (hf : (jB ta.size tb.size : Int) ≤ S.free)
    (hl : hs.length + (ta.size + tb.size) ≤ 800000000) (hr : S.reads + 5 * (jB ta.size tb.size) ≤ 1800000000000000000)
    (h : ∀ S' i, TrR S hs (ta.list ++ (k, v) :: tb.list) (jB ta.size tb.size) (4 * jB ta.size tb.size) S' i → (balN ta.size tb.size → (S'.nd i).left = l ∧ (S'.nd i).right = r ∧ S'.nu = S.nu + 1) → K (.one (.at (vU i))) (chS S') W7) :
    vc C0 (aJn n) Tryz.f92 [.at (.ptr 0 0), .at (vU l), .agg [vI k, vI v], .at (vU r)] (chS S) (   Yh 7 (   YG W7 K)) := by
  refine Eq.mp (show (O66 S l (∀ S':Arn,S'=(rdS S (S.us l).toNat)->O66 S' r (∀ S'1:Arn,S'1=(rdS S' (S'.us r).toNat)->O67 S l (O67 S' r (∀ b:Bool,b=(balB (S.nd l).size (S'.nd r).size)->brS (b) (O58 K k v l S'1 r) (brS (decide ((S.nd l).size>(S'.nd r).size)) (∃ hs:LI,∃ a:Tr,∃ k1:Int,∃ v1:Int,∃ b1:Tr,O68 S'1 l hs a k1 v1 b1 (∀ S'2:Arn,∀ l1:Int,∀ r1:Int,OpnR S'1 hs a k1 v1 b1 S'2 l1 r1->O59 n k v r K k1 v1 S'2 l1 r1/\O59 n k v r K k1 v1 S'2 l1 r1/\O59 n k v r K k1 v1 S'2 l1 r1)) (∃ hs:LI,∃ a:Tr,∃ k1:Int,∃ v1:Int,∃ b1:Tr,O68 S'1 r hs a k1 v1 b1 (∀ S'2:Arn,∀ l1:Int,∀ r1:Int,OpnR S'1 hs a k1 v1 b1 S'2 l1 r1->(O60 n l k v K k1 v1 S'2 l1 r1/\O60 n l k v K k1 v1 S'2 l1 r1)/\O60 n l k v K k1 v1 S'2 l1 r1)))))))) = _ by kernel_rfl) ?_;delta O57 O58 O59 O60 O66 O67 O68;have z1 := h1.size hw;have z2 := h2.size hw;have u1 :=   Yqd S l;have hrd := hw.rds;have jp :=    Yfb ta.size tb.size;refine ⟨    YW hw h1.us, ⟨_, hw⟩, by omega, fun S1 e1 => ?_⟩;have g1 : Got S hs 0 1 S1 (l :: r :: hs) := by subst e1; exact ((Got.refl (hs := hs) hw).rdn (k := 1) u1 (by omega)).mono (by omega) (by omega)
  have r1 : Rep S1 ta l := by subst e1; exact h1.rdn
  have r2 : Rep S1 tb r := by subst e1; exact h2.rdn
  have nu1 : S1.nu = S.nu := by subst e1; rfl
  have z3 := r2.size g1.wf;have q1 := g1.rd;have u2 :=   Yqd S1 r;refine ⟨    YW g1.wf r2.us, ⟨_, g1.wf⟩, by omega, fun S2 e2 => ?_⟩;have g2 : Got S hs 0 2 S2 (l :: r :: hs) := by subst e2; exact (g1.rdn (k := 1) u2 (by omega)).mono (by omega) (by omega)
  have r3 : Rep S2 ta l := by subst e2; exact r1.rdn
  have r4 : Rep S2 tb r := by subst e2; exact r2.rdn
  have nu2 : S2.nu = S.nu := by subst e2; exact nu1
  have q2 := g2.rd;have f2 := g2.free hw;rw [z1, z3];refine ⟨by omega, by omega, by omega, by omega, fun b eb =>     Ya (fun d => ?_) fun d =>     Ya (fun e => ?_) fun e => ?_⟩
  . have c : balN ta.size tb.size := by rw [d] at eb; exact                Zc eb.symm
    refine ⟨hs, ta, tb, g2.wf, r3, r4, by omega, by omega, by omega, fun S3 i nn lft rgt => h S3 i ⟨(g2.seq (Got.node nn) (h := hs) (fun _ h => h) (fun _ h => h)).mono (by omega) (by omega), _, nn.rep, rfl, c, b1, b2⟩ fun _ => ⟨lft, rgt, by rw [nn.nu, nu2]⟩⟩
  . have c : ¬ balN ta.size tb.size := by rw [d] at eb; exact                 Zg eb.symm
    have e : tb.size < ta.size := by have : (ta.size : Int) > tb.size :=                Zc e
                                     omega
    cases ta with
    | nil => exact absurd e (            Zbv _)
    | node s k1 v1 m =>
      have zz : (Tr.node s k1 v1 m).size = s.size + m.size + 1 := by simp [Tr.size]; omega
      rw [zz] at hz hl hfu hf hr e c jp;obtain ⟨bb, bs, bm⟩ := b1;have jd :=     YnD bb c e;have jn :=       Yio bb c e;refine ⟨r :: hs, s, k1, v1, m, g2.wf, r3, by simp; omega, by omega, fun S3 l1 m1 o => ?_⟩;have f3 := o.got.free g2.wf;have q3 := o.got.rd;have rB : Rep S3 tb r := r4.held g2.wf o.got.stay (.inr (by simp))
      (repeat' apply And.intro)
      all_goals
        refine ⟨l1 :: hs, m, tb, o.got.wf.perm (     Yee l1 m1 r hs), o.repr, rB, bm, b2, by omega, by omega, by omega, by simp; omega, by omega, fun S4 i tr _ => ?_⟩;obtain ⟨t, rt, lt, bt⟩ := tr.tree;have zt : t.size = m.size + tb.size + 1 := by rw [<-t.list_len, lt]; simp [Tr.list_len]; omega
        have f4 := tr.got.free o.got.wf;have q4 := tr.got.rd;refine ⟨hs, s, t, tr.got.wf.perm (List.Perm.swap _ _ _), o.repl.held o.got.wf tr.got.stay (.inr (by simp)), rt, bs, bt, by rw [zt]; exact jn, by omega, by omega, by omega, by omega, fun S5 j tj => h S5 j ⟨?_, ?_⟩ fun c' => ?_⟩
        . rw [zz]
          exact (((g2.seq o.got (h := hs) (fun _ h => h) (fun _ h => by simp [h])).seq tr.got (h := hs) (fun _ h => h) (fun _ h => by simp [h])).seq tj.got (fun _ h => h) (fun _ h => h)).mono (by omega) (by omega)
        . obtain ⟨t', rt', lt', bt'⟩ := tj.tree
          exact ⟨t', rt', by rw [lt', lt]; simp [Tr.list], bt'⟩
        . rw [zz] at c'; exact absurd c' c
  . have c : ¬ balN ta.size tb.size := by rw [d] at eb; exact                 Zg eb.symm
    have e : ta.size < tb.size := by
      have : ¬ (ta.size : Int) > tb.size :=                 Zg e;unfold balN at c;omega
    cases tb with
    | nil => exact absurd e (            Zbv _)
    | node m k1 v1 s =>
      have zz : (Tr.node m k1 v1 s).size = s.size + m.size + 1 := by simp [Tr.size]; omega
      rw [zz] at hz hl hfu hf hr e c jp;obtain ⟨bb, bm, bs⟩ := b2;have bb :=        YA bb;have c2 : ¬ balN ((s.size + m.size + 1 : Nat) : Int) ta.size := fun q => c (       YA q)
      have jd :=     YnD bb c2 e;have jn :=       Yip (      Yio bb c2 e);rw [    YdL m.size,     YdL (s.size + m.size + 1)] at jd;refine ⟨l :: hs, m, k1, v1, s, g2.wf.perm (List.Perm.swap _ _ _), r4, by simp; omega, by omega, fun S3 m1 s1 o => ?_⟩;have f3 := o.got.free g2.wf;have q3 := o.got.rd;have rA : Rep S3 ta l := r3.held g2.wf o.got.stay (.inr (by simp))
      (repeat' apply And.intro)
      all_goals
        refine ⟨s1 :: hs, ta, m, o.got.wf.perm (     Ydp m1 s1 l hs), rA, o.repl, b1, bm, by omega, by omega, by omega, by simp; omega, by omega, fun S4 i tr _ => ?_⟩;obtain ⟨t, rt, lt, bt⟩ := tr.tree;have zt : t.size = m.size + ta.size + 1 := by rw [<-t.list_len, lt]; simp [Tr.list_len]; omega
        have f4 := tr.got.free o.got.wf;have q4 := tr.got.rd;refine ⟨hs, t, s, tr.got.wf, rt, o.repr.held o.got.wf tr.got.stay (.inr (by simp)), bt, bs, by rw [zt]; exact jn, by omega, by omega, by omega, by omega, fun S5 j tj => h S5 j ⟨?_, ?_⟩ fun c' => ?_⟩
        . rw [zz]
          exact (((g2.seq o.got (h := hs) (fun _ h => h) (fun _ h => by simp [h])).seq tr.got (h := hs) (fun _ h => h) (fun _ h => by simp [h])).seq tj.got (fun _ h => h) (fun _ h => h)).mono (by omega) (by omega)
        . obtain ⟨t', rt', lt', bt'⟩ := tj.tree
          exact ⟨t', rt', by rw [lt', lt]; simp [Tr.list], bt'⟩
        . rw [zz] at c'; exact absurd c' c
theorem s_jn:∀ n,Tb C0 92 (tJn n):=by
 intro n
 induction n with
 | zero =>
  refine .of Tryz.func92 (by decide) rfl fun args H K h hB=>?_
  exfalso
  unfold tJn at h;split at h<;>try exact h.elim
  unfold arM at h;split at h<;>try exact h.elim
  obtain⟨_,_,_,_,_,_,_,_,h1,_⟩:=h;omega
 | succ n ih =>
  refine .ofW W7 Tryz.func92 (by decide) rfl fun args H K h hB=>?_
  unfold tJn at h;split at h<;>try exact h.elim
  unfold arM at h;split at h<;>try exact h.elim
  rename_i l k v r _ rd fr nd ct us gn rl;obtain⟨hs,ta,tb,h1,h2,h3,h4,h5,h6,h7,h8,h9,h10,h11⟩:=h;exact⟨aJn n,⟨Ye C0.ok YdU _,Ye C0.ok Yiw _,Ye C0.ok Yfh _,Ye C0.ok YlU _,Ye C0.ok ih _,Ye C0.ok YyA _,trivial⟩,YyB n ⟨us,gn,rl,fr,nd,ct,rd⟩ l k v r K hs ta tb h1 h2 h3 h4 h5 h6 h7 h8 h9 h10 h11⟩
def YlV:Tfm C0:=fun args H K=>match args with
 | [.at (.ptr 0 0),.at (.val (.int .u32 l)),.agg [.val (.int .i64 k),.val (.int .i64 v)],.at (.val (.int .u32 r))]=>arM H fun S=>∃ hs ta tb,Wf S (l::r::hs)/\Rep S ta l/\Rep S tb r/\ta.Bal/\tb.Bal ∧
  ta.size+tb.size<=900000/\(jB ta.size tb.size:Int)<=S.free/\hs.length<=700000000/\S.reads+5*(jB ta.size tb.size)<=1800000000000000000 ∧
  ∀ S' i,TrR S hs (ta.list++(k,v)::tb.list) (jB ta.size tb.size) (4*jB ta.size tb.size) S' i->(balN ta.size tb.size->(S'.nd i).left=l/\(S'.nd i).right=r/\S'.nu=S.nu+1)->K (.one (.at (vU i))) (chS S') W7
 | _=>False
theorem YkC:Tb C0 92 YlV:=(s_jn 1000000).weak fun args H K h=>by
 unfold YlV at h;unfold tJn;split at h<;>try exact h.elim
 unfold arM at h ⊢;split at h<;>try exact h.elim
 obtain⟨hs,ta,tb,h1,h2,h3,h4,h5,h7,h8,h9,h10,h11⟩:=h;exact⟨hs,ta,tb,h1,h2,h3,h4,h5,by omega,h7,h8,by omega,h10,h11⟩
def ExtT.none:ExtT:=⟨false,0,0,0⟩
abbrev getX (l:List ExtT)(i:Nat):ExtT:=l.getD i ⟨false,0,0,0⟩
abbrev getN (l:LP)(i:Nat):PNT:=l.getD i ⟨0,0,0,0⟩
def hdKy (l:LE):Int:=(l.head?.getD (0,0)).1
def lsKy (l:LE):Int:=(l.getLast?.getD (0,0)).1
def refX (xs:List ExtT)(r:Int):ExtT:=if r=0 then .none else getX xs (r-1).toNat
def bT1 (xs:List ExtT)(x:PNT):Bool:=if x.left=0 then true else (refX xs x.left).tree && decide ((refX xs x.left).last<x.key)
def bT2 (xs:List ExtT)(x:PNT):Bool:=if x.right=0 then bT1 xs x else bT1 xs x && ((refX xs x.right).tree && decide (x.key<(refX xs x.right).first))
def bT3 (xs:List ExtT)(x:PNT):Bool:=bT2 xs x && balB (refX xs x.left).size (refX xs x.right).size
def bFs (xs:List ExtT)(x:PNT):Int:=if x.left=0 then x.key else (refX xs x.left).first
def bLs (xs:List ExtT)(x:PNT):Int:=if x.right=0 then x.key else (refX xs x.right).last
def bldX (xs:List ExtT)(x:PNT):ExtT:=⟨bT3 xs x,if bT3 xs x then 1+((refX xs x.left).size+(refX xs x.right).size) else 1,bFs xs x,bLs xs x⟩
def vsG (k:Int)(ns:LP):Nat->Int->Int->Bool × Int
 | 0,nx,_=>(false,nx)
 | f+1,nx,ref=>if ref<nx then (true,nx) else match vsG k ns f nx (getN ns (ref-k-1).toNat).left with
  | (false,n1)=>(false,n1)
  | (true,n1)=>match vsG k ns f n1 (getN ns (ref-k-1).toNat).right with
   | (false,n2)=>(false,n2)
   | (true,n2)=>if n2=ref then (true,n2+1) else (false,n2)
def OrdP (k:Int)(ns:LP):Prop:=∀ i,i<ns.length->(0<=(getN ns i).left/\(getN ns i).left<=k+i)/\0<=(getN ns i).right/\(getN ns i).right<=k+i
def szX (l:List ExtT):Prop:=∀ e∈l,0<=e.size/\e.size<=1000000
structure KxR (S:Arn) (kn:LI) (kx:List ExtT):Prop where
 len:kx.length=kn.length
 at_:∀ i,i<kn.length->∃ t,Rep S t (getB kn i)/\1<=t.size/\t.size<=65536/\getX kx i=⟨true,t.size,hdKy t.list,lsKy t.list⟩
abbrev chC (k D:Int)(ns:LP)(rs:LI)(S:Arn)(kn:LI)(ex:List ExtT)(nx:Int):LH C0:=[.box [vU64 k,vU D,.slc 1,.slc 2,.ptr 3 0,.slc 4,.slc 5,vU64 nx],.row false .pn ns,.row false .u64 rs,.box [.ptr 6 0,.slc 7,.slc 8,vU64 S.reads],.row true .u32 kn,.row true .ext ex,.box [.slc 9,.slc 10,.slc 11,vU S.fresh],.row true .node S.nodes,.row true .int S.counts,.row true .bool S.used,.row true .u32 S.gen,.row true .u32 S.rel]
abbrev cM (H:LH C0)(q:Int->Int->LP->LI->Arn->LI->List ExtT->Int->Prop):Prop:=match H with
 | [.box [.val (.int .u64 k),.val (.int .u32 D),.slc 1,.slc 2,.ptr 3 0,.slc 4,.slc 5,.val (.int .u64 nx)],.row false .pn ns,.row false .u64 rs,.box [.ptr 6 0,.slc 7,.slc 8,.val (.int .u64 rd)],.row true .u32 kn,.row true .ext ex,.box [.slc 9,.slc 10,.slc 11,.val (.int .u32 fr)],.row true .node nd,.row true .int ct,.row true .bool us,.row true .u32 gn,.row true .u32 rl]=>q k D ns rs ⟨us,gn,rl,fr,nd,ct,rd⟩ kn ex nx
 | _=>False
abbrev extA (e:ExtT):TV:=.agg [vB e.tree,vI e.size,vI e.first,vI e.last]
def aXt:Ann C0:={ quiet:=[9999999],Γ:=[(132,Yc [] Yta),(133,Yc [] Ytd),(41,Yc [] Yfy)] }
def XtB (k:Int)(S:Arn)(kn:LI)(kx:List ExtT):Prop:=exW S/\S.reads<=2000000000000000000/\(kn.length:Int)=k/\k<=65536/\KxR S kn kx
def tXt:Tfm C0:=fun args H K=>match args with
 | [.at (.ptr 0 0),.at (.val (.int .u64 ref))]=>cM H fun k D ns rs S kn ex nx=>∃ kx,XtB k S kn kx/\ex.length<=65536/\1<=ref/\ref<=k+ex.length ∧
   ∀ S' m e,S'=rdS S m->m<=140000->e=getX (kx++ex) (ref-1).toNat->K (.one (extA e)) (chC k D ns rs S' kn ex nx) [3]
 | _=>False
structure XBd (P:Arn->ExtT->ExtT->Prop) where
 S:Arn
 o:ExtT
 l:ExtT
 h:P S o l
structure XBe (P:Arn->ExtT->ExtT->ExtT->Prop) where
 S:Arn
 o:ExtT
 l:ExtT
 r:ExtT
 h:P S o l r
abbrev bxE (e:ExtT):Ta C0:=.box [vB e.tree,vI e.size,vI e.first,vI e.last]
def aBd (P1:Arn->ExtT->ExtT->Prop)(P2 P3:Arn->ExtT->ExtT->ExtT->Prop)(k D:Int)(ns:LP)(rs:LI)(kn:LI)(ex:List ExtT)(nx:Int)(x:PNT):Ann C0:={ quiet:=[9999999,122],Γ:=[(106,Yc [] tXt),(122,Yc [] YjD)],inv:=fun n=>match n with
 | 1007=>some { X:=XBd P1,sl:=[3,4,5,6,7],tf:=fun _=>[.one (.at (.ptr 12 0)),.one (.at (.ptr 13 0)),.one (.at (.ptr 14 0)),.one (.at (.ptr 15 0)),.one (.at (.ptr 16 0))],hf:=fun y=>chC k D ns rs y.S kn ex nx++[.box [vI x.key,vI x.value,vU64 x.left,vU64 x.right],bxE .none,bxE y.o,bxE y.l,bxE .none],wr:=[3] }
 | 1011=>some { X:=XBe P2,sl:=[4,5,6,7],tf:=fun _=>[.one (.at (.ptr 12 0)),.one (.at (.ptr 13 0)),.one (.at (.ptr 14 0)),.one (.at (.ptr 15 0))],hf:=fun y=>chC k D ns rs y.S kn ex nx++[bxE .none,bxE y.o,bxE y.l,bxE y.r],wr:=[3] }
 | 1012=>some { X:=XBe P3,sl:=[4,5,6,7],tf:=fun _=>[.one (.at (.ptr 12 0)),.one (.at (.ptr 13 0)),.one (.at (.ptr 14 0)),.one (.at (.ptr 15 0))],hf:=fun y=>chC k D ns rs y.S kn ex nx++[bxE .none,bxE y.o,bxE y.l,bxE y.r],wr:=[3] }
 | _=>none }
def tBd:Tfm C0:=fun args H K=>match args with
 | [.at (.ptr 0 0),.agg [.val (.int .i64 xk),.val (.int .i64 xv),.val (.int .u64 xl),.val (.int .u64 xr)]]=>cM H fun k D ns rs S kn ex nx=>∃ kx,XtB k S kn kx/\S.reads<=1900000000000000000/\ex.length<=65536/\0<=xl/\xl<=k+ex.length/\0<=xr/\xr<=k+ex.length/\szX (kx++ex) ∧
   ∀ S' m e,S'=rdS S m->m<=280000->e=bldX (kx++ex) ⟨xk,xv,xl,xr⟩->K (.one (extA e)) (chC k D ns rs S' kn ex nx) [3]
 | _=>False
def tVi (f:Nat):Tfm C0:=fun args H K=>match args with
 | [.at (.ptr 0 0),.at (.val (.int .u64 ref))]=>cM H fun k D ns rs S kn ex nx=>0<=k/\k<=65536/\ns.length<=65536/\OrdP k ns/\k<nx/\nx<=k+ns.length+1/\0<=ref/\ref<=k+ns.length/\ref<f ∧
   ∀ b n,vsG k ns f nx ref=(b,n)->K (.one (.at (vB b))) (chC k D ns rs S kn ex n) [0]
 | _=>False
def aVi (f:Nat):Ann C0:={ quiet:=[9999999],Γ:=[(107,Yc [] (tVi f))] }
theorem KxR.rd {S:Arn}{kn:LI}{kx:List ExtT}(h:KxR S kn kx)(n:Nat):KxR (rdS S n) kn kx :=
 ⟨h.len,fun i hi=>by obtain⟨t,h1,h2,h3,h4⟩:=h.at_ i hi;exact⟨t,YdW h1 n,h2,h3,h4⟩⟩
theorem Yix {a b:List ExtT}{i:Nat}(h:i<a.length):getX (a++b) i=getX a i:=by
 show (a++b).getD i _=a.getD i _;rw[Zb,Zb,ZB h]
theorem YlW {a b:List ExtT}{i:Nat}(h:a.length<=i):getX (a++b) i=getX b (i-a.length):=by
 show (a++b).getD i _=b.getD _ _;rw[Zb,Zb,ZU h]
theorem Yqe {a:List ExtT}{i:Nat}(h:i<a.length):getX a i∈a:=by
 show a.getD i _∈a;rw[Zb,Zk h];exact Zaa h
theorem YyC (ref k D:Int)(ns:LP)(rs:LI)(S:Arn)(kn:LI)(ex:List ExtT)(nx:Int)(K:KT)(kx:List ExtT)(hb:XtB k S kn kx)(h1:ex.length<=65536)(r1:1<=ref)(r2:ref<=k+ex.length)(h:∀ S' m e,S'=rdS S m->m<=140000->e=getX (kx++ex) (ref-1).toNat->K (.one (extA e)) (chC k D ns rs S' kn ex nx) [3]) :
  vc C0 aXt Tryz.f106 [.at (.ptr 0 0),.at (vU64 ref)] (chC k D ns rs S kn ex nx) (Yh 12 (YG [3] K)):=by
 refine Eq.mp (show (brS (decide (ref>k)) (0<=Zd.wrap (Zd.wrap (ref-k)-1)/\Zd.wrap (Zd.wrap (ref-k)-1)<(ex.length:Int)/\K (.one (TV.agg [(.val (Zi ((getX ex (Zd.wrap (Zd.wrap (ref-k)-1)).toNat).tree))),(.val (VI ((getX ex (Zd.wrap (Zd.wrap (ref-k)-1)).toNat).size))),(.val (VI ((getX ex (Zd.wrap (Zd.wrap (ref-k)-1)).toNat).first))),(.val (VI ((getX ex (Zd.wrap (Zd.wrap (ref-k)-1)).toNat).last)))])) [(.box [(.val (VW (k))),(.val (VU (D))),(.slc 1),(.slc 2),(.ptr 3 0),(.slc 4),(.slc 5),(.val (VW (nx)))]),(.row false .pn (ns)),(.row false .u64 (rs)),(.box [(.ptr 6 0),(.slc 7),(.slc 8),(.val (VW (S.reads)))]),(.row true .u32 (kn)),(.row true .ext (ex)),(.box [(.slc 9),(.slc 10),(.slc 11),(.val (VU (S.fresh)))]),(.row true .node (S.nodes)),(.row true .int (S.counts)),(.row true .bool (S.used)),(.row true .u32 (S.gen)),(.row true .u32 (S.rel))] [3]) (0<=Zd.wrap (ref-1)/\Zd.wrap (ref-1)<(kn.length:Int)/\∃ hs:LI,∃ t:Tr,Wf S hs/\Rep S t (getB kn (Zd.wrap (ref-1)).toNat)/\t.size<=1000000/\S.reads+(t.size:Int)<=3000000000000000000/\∀ S':Arn,∀ m:Nat,∀ o:Option Ent,S'=rdS S m->m<=ht t->o=t.list.head?->∃ hs1:LI,∃ t1:Tr,Wf S' hs1/\Rep S' t1 (getB kn (Zd.wrap (ref-1)).toNat)/\t1.size<=1000000/\S'.reads+(t1.size:Int)<=3000000000000000000/\∀ S'1:Arn,∀ m1:Nat,∀ o1:Option Ent,S'1=rdS S' m1->m1<=ht t1->o1=t1.list.getLast?->inU (getB kn (Zd.wrap (ref-1)).toNat)/\
 exW S'1/\S'1.reads<4000000000000000000/\∀ S'2:Arn,S'2=(rdS S'1 (S'1.us (getB kn (Zd.wrap (ref-1)).toNat)).toNat)->K (.one (TV.agg [(.val (Zi true)),(.val (VI ((S'1.nd (getB kn (Zd.wrap (ref-1)).toNat)).size))),(.val (VI ((o.getD (0,0)).fst))),(.val (VI ((o1.getD (0,0)).fst)))])) [(.box [(.val (VW (k))),(.val (VU (D))),(.slc 1),(.slc 2),(.ptr 3 0),(.slc 4),(.slc 5),(.val (VW (nx)))]),(.row false .pn (ns)),(.row false .u64 (rs)),(.box [(.ptr 6 0),(.slc 7),(.slc 8),(.val (VW (S'2.reads)))]),(.row true .u32 (kn)),(.row true .ext (ex)),(.box [(.slc 9),(.slc 10),(.slc 11),(.val (VU (S'2.fresh)))]),(.row true .node (S'2.nodes)),(.row true .int (S'2.counts)),(.row true .bool (S'2.used)),(.row true .u32 (S'2.gen)),(.row true .u32 (S'2.rel))] [3]))=_ by kernel_rfl) ?_
 obtain⟨⟨hs,hw⟩,hr,hk,hk2,kr⟩:=hb;have kl:=kr.len;refine Ya (fun z=>?_) fun z=>?_
 .have z:k<ref:=Zc z;rw[Yf (x:=ref-k) (by omega) (by omega),Yf (by omega) (by omega)];refine⟨by omega,by omega,?_⟩;have e:=h (rdS S 0) 0 _ rfl (by decide) rfl;rw[Ybb,YlW (by omega),show (ref-1).toNat-kx.length=(ref-k-1).toNat by omega] at e;exact e
 .have z:ref<=k:=by have:=Zg z;omega
  rw[Yf (by omega) (by omega)];obtain⟨t,rp,t1,t2,te⟩:=kr.at_ (ref-1).toNat (by omega);have hh:=Ycj t;refine⟨by omega,by omega,hs,t,hw,rp,by omega,by omega,fun S' m o e1 m1 eo=>?_⟩;subst e1;have hw1:Wf (rdS S m) hs:=hw.rd (by omega);refine⟨hs,t,hw1,YdW rp m,by omega,by show S.reads+(m:Int)+_<=_;omega,fun S' m' o' e1 m2 eo'=>?_⟩;subst e1;rw[YR];have hw2:Wf (rdS S (m+m')) hs:=hw.rd (by omega);have us:=rp.us;refine⟨YW hw us,⟨hs,hw2⟩,by show S.reads+((m+m':Nat):Int)<_;omega,fun S' e1=>?_⟩;subst e1;rw[YR];have ub:((rdS S (m+m')).us (getB kn (ref-1).toNat)).toNat<=1:=by cases (rdS S (m+m')).us (getB kn (ref-1).toNat)<;>decide
  have sz:((rdS S (m+m')).nd (getB kn (ref-1).toNat)).size=t.size:=Rep.size hw rp;have e:=h _ (m+m'+((rdS S (m+m')).us (getB kn (ref-1).toNat)).toNat) _ rfl (by omega) rfl;rw[Yix (by omega),te] at e;rw[sz,eo,eo'];exact e
theorem s_xt:Tb C0 106 tXt:=by
 refine .ofW [3] Tryz.func106 (by decide) rfl fun args H K h hB=>?_
 unfold tXt cM at h;iterate 2 (split at h<;>try exact h.elim)
 rename_i ref _ k D nx ns rs rd kn ex fr nd ct us gn rl;obtain⟨kx,h1,h2,h3,h4,h5⟩:=h;refine⟨_,?_,YyC ref k D ns rs ⟨us,gn,rl,fr,nd,ct,rd⟩ kn ex nx K kx h1 h2 h3 h4 h5⟩;exact⟨Ye C0.ok YvW _,Ye C0.ok Ywa _,Ye C0.ok YdU _,trivial⟩
def PB1 (S0:Arn)(xs:List ExtT)(x:PNT):Arn->ExtT->ExtT->Prop:=fun S o l=>l=refX xs x.left/\o=⟨bT1 xs x,1,bFs xs x,x.key⟩/\∃ m,S=rdS S0 m/\m<=140000
def PB2 (S0:Arn)(xs:List ExtT)(x:PNT):Arn->ExtT->ExtT->ExtT->Prop:=fun S o l r=>l=refX xs x.left/\r=refX xs x.right/\o=⟨bT2 xs x,1,bFs xs x,bLs xs x⟩/\∃ m,S=rdS S0 m/\m<=280000
def PB3 (S0:Arn)(xs:List ExtT)(x:PNT):Arn->ExtT->ExtT->ExtT->Prop:=fun S o l r=>l=refX xs x.left/\r=refX xs x.right/\o=⟨bT3 xs x,1,bFs xs x,bLs xs x⟩/\∃ m,S=rdS S0 m/\m<=280000
abbrev O70 {P1:Arn → ExtT → ExtT → Prop}(x:PNT)(k D:Int)(ns:LP)(rs:LI)(S:Arn)(kn:LI)(ex:List ExtT)(nx:Int)(x1:XBd P1)(Z_:Prop):Prop:=True/\(True/\True/\True/\True/\True/\True/\True)/\(VW (k)=VW (k)/\VU (D)=VU (D)/\True/\True/\True/\True/\True/\VW (nx)=VW (nx)/\True)/\ns=ns/\rs=rs/\(True/\True/\True/\VW (S.reads)=VW (x1.S.reads)/\True)/\kn=kn/\ex=ex/\(True/\True/\True/\VU (S.fresh)=VU (x1.S.fresh)/\True)/\S.nodes=x1.S.nodes/\S.counts=x1.S.counts/\S.used=x1.S.used/\S.gen=x1.S.gen/\S.rel=x1.S.rel/\(VI (x.key)=VI (x.key)/\VI (x.value)=VI (x.value)/\VW (x.left)=VW (x.left)/\VW (x.right)=VW (x.right)/\True)/\(Zi false=Zi false/\VI 0=VI 0/\VI 0=VI 0/\VI 0=VI 0/\True)/\Z_
abbrev O71 (k D:Int)(ns:LP)(rs:LI)(S:Arn)(kn:LI)(ex:List ExtT)(K:SV → LH C0 → LN → Prop)(n:Int):Prop:=K (.one (.at (.val (Zi false)))) [(.box [(.val (VW (k))),(.val (VU (D))),(.slc 1),(.slc 2),(.ptr 3 0),(.slc 4),(.slc 5),(.val (VW (n)))]),(.row false .pn (ns)),(.row false .u64 (rs)),(.box [(.ptr 6 0),(.slc 7),(.slc 8),(.val (VW (S.reads)))]),(.row true .u32 (kn)),(.row true .ext (ex)),(.box [(.slc 9),(.slc 10),(.slc 11),(.val (VU (S.fresh)))]),(.row true .node (S.nodes)),(.row true .int (S.counts)),(.row true .bool (S.used)),(.row true .u32 (S.gen)),(.row true .u32 (S.rel))] [0]
abbrev O72 {P1:Arn → ExtT → ExtT → Prop}(P2:Arn → ExtT → ExtT → ExtT → Prop)(k D:Int)(ns:LP)(rs kn:LI)(ex:List ExtT)(nx:Int)(x1:XBd P1)(S':Arn)(e:ExtT):Prop:=∃ w0_:XBe P2,True/\(True/\True/\True/\True/\True)/\(VW (k)=VW (k)/\VU (D)=VU (D)/\True/\True/\True/\True/\True/\VW (nx)=VW (nx)/\True)/\ns=ns/\rs=rs/\(True/\True/\True/\VW (S'.reads)=VW (w0_.S.reads)/\True)/\kn=kn/\ex=ex/\(True/\True/\True/\VU (S'.fresh)=VU (w0_.S.fresh)/\True)/\S'.nodes=w0_.S.nodes/\S'.counts=w0_.S.counts/\S'.used=w0_.S.used/\S'.gen=w0_.S.gen/\S'.rel=w0_.S.rel/\(Zi false=Zi false/\VI 0=VI 0/\VI 0=VI 0/\VI 0=VI 0/\True)/\(Zi false=(Zi (w0_.o.tree))/\VI (x1.o.size)=VI (w0_.o.size)/\VI (x1.o.first)=VI (w0_.o.first)/\VI (e.last)=VI (w0_.o.last)/\True)/\((Zi (x1.l.tree))=(Zi (w0_.l.tree))/\VI (x1.l.size)=VI (w0_.l.size)/\VI (x1.l.first)=VI (w0_.l.first)/\VI (x1.l.last)=VI (w0_.l.last)/\True)/\((Zi (e.tree))=(Zi (w0_.r.tree))/\VI (e.size)=VI (w0_.r.size)/\VI (e.first)=VI (w0_.r.first)/\VI (e.last)=VI (w0_.r.last)/\True)/\True
abbrev O73 :Prop:=Zi false=Zi false/\VI 0=VI 0/\VI 0=VI 0/\VI 0=VI 0/\True
abbrev O74 (k D nx:Int)(Z_:Prop):Prop:=True/\(True/\True/\True/\True/\True)/\(VW (k)=VW (k)/\VU (D)=VU (D)/\True/\True/\True/\True/\True/\VW (nx)=VW (nx)/\True)/\Z_
abbrev O75 {P2 P3:Arn → ExtT → ExtT → ExtT → Prop}(x2:XBe P2)(x3:XBe P3):Prop:=((Zi (x2.l.tree))=(Zi (x3.l.tree))/\VI (x2.l.size)=VI (x3.l.size)/\VI (x2.l.first)=VI (x3.l.first)/\VI (x2.l.last)=VI (x3.l.last)/\True)/\((Zi (x2.r.tree))=(Zi (x3.r.tree))/\VI (x2.r.size)=VI (x3.r.size)/\VI (x2.r.first)=VI (x3.r.first)/\VI (x2.r.last)=VI (x3.r.last)/\True)/\True
abbrev O76 {P1:Arn → ExtT → ExtT → Prop}(e:ExtT)(x1:XBd P1):Prop:=((Zi (e.tree))=(Zi (x1.l.tree))/\VI (e.size)=VI (x1.l.size)/\VI (e.first)=VI (x1.l.first)/\VI (e.last)=VI (x1.l.last)/\True)/\O73/\True
abbrev O77 {P2 P3:Arn → ExtT → ExtT → ExtT → Prop}(kn:LI)(ex:List ExtT)(x2:XBe P2)(x3:XBe P3)(Z_:Prop):Prop:=(True/\True/\True/\VW (x2.S.reads)=VW (x3.S.reads)/\True)/\kn=kn/\ex=ex/\(True/\True/\True/\VU (x2.S.fresh)=VU (x3.S.fresh)/\True)/\x2.S.nodes=x3.S.nodes/\x2.S.counts=x3.S.counts/\x2.S.used=x3.S.used/\x2.S.gen=x3.S.gen/\x2.S.rel=x3.S.rel/\O73/\Z_
theorem YyD (x:PNT)(k D:Int)(ns:LP)(rs:LI)(S:Arn)(kn:LI)(ex:List ExtT)(nx:Int)(K:KT)(kx:List ExtT)(hb:XtB k S kn kx)(hr2:S.reads<=1900000000000000000)(h1:ex.length<=65536)(l0:0<=x.left)(l1:x.left<=k+ex.length)(r0:0<=x.right)(r1:x.right<=k+ex.length)(hsz:szX (kx++ex))(h:∀ S' m e,S'=rdS S m->m<=280000->e=bldX (kx++ex) x->K (.one (extA e)) (chC k D ns rs S' kn ex nx) [3]) :
  vc C0 (aBd (PB1 S (kx++ex) x) (PB2 S (kx++ex) x) (PB3 S (kx++ex) x) k D ns rs kn ex nx x) Tryz.f105 [.at (.ptr 0 0),.agg [vI x.key,vI x.value,vU64 x.left,vU64 x.right]] (chC k D ns rs S kn ex nx) (Yh 12 (YG [3] K)):=by
 generalize hP1:PB1 S (kx++ex) x=P1;generalize hP2:PB2 S (kx++ex) x=P2;generalize hP3:PB3 S (kx++ex) x=P3
 refine Eq.mp (show (brS (x.left != 0) (∃ kx:List ExtT,(exW S/\S.reads<=2000000000000000000/\((kn.length:Int))=k/\k<=65536/\KxR S kn kx)/\ex.length<=65536/\1<=x.left/\x.left<=k+(ex.length:Int)/\∀ S':Arn,∀ m:Nat,∀ e:ExtT,S'=rdS S m->m<=140000->e=(getX (kx++ex) (x.left-1).toNat)->brS (e.tree) (∃ x1:XBd P1,O70 x k D ns rs S' kn ex nx x1 (((Zi (decide (e.last<x.key)))=(Zi (x1.o.tree))/\VI 1=(VI (x1.o.size))/\VI (e.first)=VI (x1.o.first)/\VI (x.key)=VI (x1.o.last)/\True)/\O76 e x1)) (∃ x1:XBd P1,O70 x k D ns rs S' kn ex nx x1 ((Zi false=(Zi (x1.o.tree))/\VI 1=(VI (x1.o.size))/\VI (e.first)=VI (x1.o.first)/\VI (x.key)=VI (x1.o.last)/\True)/\O76 e x1))) (∃ x1:XBd P1,O70 x k D ns rs S kn ex nx x1 ((Zi true=(Zi (x1.o.tree))/\VI 1=(VI (x1.o.size))/\VI (x.key)=VI (x1.o.first)/\VI (x.key)=VI (x1.o.last)/\True)/\(Zi false=(Zi (x1.l.tree))/\VI 0=(VI (x1.l.size))/\VI 0=(VI (x1.l.first))/\VI 0=(VI (x1.l.last))/\True)/\O73/\True))/\∀ x1:XBd P1,True->brS (x.right != 0) (∃ kx:List ExtT,(exW x1.S/\x1.S.reads<=2000000000000000000/\((kn.length:Int))=k/\k<=65536/\KxR x1.S kn kx)/\ex.length<=65536/\1<=x.right/\x.right<=k+(ex.length:Int)/\∀ S':Arn,∀ m:Nat,∀ e:ExtT,S'=rdS x1.S m->m<=140000->e=(getX (kx++ex) (x.right-1).toNat)->brS (x1.o.tree) (brS (e.tree) (∃ x2:XBe P2,O74 k D nx (ns=ns/\rs=rs/\(True/\True/\True/\VW (S'.reads)=VW (x2.S.reads)/\True)/\kn=kn/\ex=ex/\(True/\True/\True/\VU (S'.fresh)=VU (x2.S.fresh)/\True)/\S'.nodes=x2.S.nodes/\S'.counts=x2.S.counts/\
  S'.used=x2.S.used/\S'.gen=x2.S.gen/\S'.rel=x2.S.rel/\O73/\((Zi (decide (x.key<e.first)))=(Zi (x2.o.tree))/\VI (x1.o.size)=VI (x2.o.size)/\VI (x1.o.first)=VI (x2.o.first)/\VI (e.last)=VI (x2.o.last)/\True)/\((Zi (x1.l.tree))=(Zi (x2.l.tree))/\VI (x1.l.size)=VI (x2.l.size)/\VI (x1.l.first)=VI (x2.l.first)/\VI (x1.l.last)=VI (x2.l.last)/\True)/\((Zi (e.tree))=(Zi (x2.r.tree))/\VI (e.size)=VI (x2.r.size)/\VI (e.first)=VI (x2.r.first)/\VI (e.last)=VI (x2.r.last)/\True)/\True)) (O72 P2 k D ns rs kn ex nx x1 S' e)) (O72 P2 k D ns rs kn ex nx x1 S' e)) (∃ x2:XBe P2,O74 k D nx (ns=ns/\rs=rs/\(True/\True/\True/\VW (x1.S.reads)=VW (x2.S.reads)/\True)/\kn=kn/\ex=ex/\(True/\True/\True/\VU (x1.S.fresh)=VU (x2.S.fresh)/\True)/\x1.S.nodes=x2.S.nodes/\x1.S.counts=x2.S.counts/\x1.S.used=x2.S.used/\x1.S.gen=x2.S.gen/\x1.S.rel=x2.S.rel/\O73/\((Zi (x1.o.tree))=(Zi (x2.o.tree))/\VI (x1.o.size)=VI (x2.o.size)/\VI (x1.o.first)=VI (x2.o.first)/\VI (x1.o.last)=VI (x2.o.last)/\True)/\((Zi (x1.l.tree))=(Zi (x2.l.tree))/\VI (x1.l.size)=VI (x2.l.size)/\VI (x1.l.first)=VI (x2.l.first)/\VI (x1.l.last)=VI (x2.l.last)/\True)/\(Zi false=(Zi (x2.r.tree))/\VI 0=(VI (x2.r.size))/\VI 0=(VI (x2.r.first))/\VI 0=(VI (x2.r.last))/\True)/\True))/\∀ x2:XBe P2,True->brS (x2.o.tree) (0<=x2.l.size/\x2.l.size<=1000000/\0<=x2.r.size/\x2.r.size<=1000000/\∀ b:Bool,b=balB x2.l.size x2.r.size->∃ x3:XBe P3,O74 k D nx (ns=ns/\rs=rs/\O77 kn ex x2 x3 (((Zi (b))=(Zi (x3.o.tree))/\
  VI (x2.o.size)=VI (x3.o.size)/\VI (x2.o.first)=VI (x3.o.first)/\VI (x2.o.last)=VI (x3.o.last)/\True)/\O75 x2 x3))) (∃ x3:XBe P3,O74 k D nx (ns=ns/\rs=rs/\O77 kn ex x2 x3 ((Zi false=(Zi (x3.o.tree))/\VI (x2.o.size)=VI (x3.o.size)/\VI (x2.o.first)=VI (x3.o.first)/\VI (x2.o.last)=VI (x3.o.last)/\True)/\O75 x2 x3)))/\∀ x3:XBe P3,True->brS (x3.o.tree) (K (.one (TV.agg [(.val (Zi (x3.o.tree))),(.val (VI (Za.wrap (x3.o.size+Za.wrap (x3.l.size+x3.r.size))))),(.val (VI (x3.o.first))),(.val (VI (x3.o.last)))])) [(.box [(.val (VW (k))),(.val (VU (D))),(.slc 1),(.slc 2),(.ptr 3 0),(.slc 4),(.slc 5),(.val (VW (nx)))]),(.row false .pn (ns)),(.row false .u64 (rs)),(.box [(.ptr 6 0),(.slc 7),(.slc 8),(.val (VW (x3.S.reads)))]),(.row true .u32 (kn)),(.row true .ext (ex)),(.box [(.slc 9),(.slc 10),(.slc 11),(.val (VU (x3.S.fresh)))]),(.row true .node (x3.S.nodes)),(.row true .int (x3.S.counts)),(.row true .bool (x3.S.used)),(.row true .u32 (x3.S.gen)),(.row true .u32 (x3.S.rel))] [3]) (K (.one (TV.agg [(.val (Zi (x3.o.tree))),(.val (VI (x3.o.size))),(.val (VI (x3.o.first))),(.val (VI (x3.o.last)))])) [(.box [(.val (VW (k))),(.val (VU (D))),(.slc 1),(.slc 2),(.ptr 3 0),(.slc 4),(.slc 5),(.val (VW (nx)))]),(.row false .pn (ns)),(.row false .u64 (rs)),(.box [(.ptr 6 0),(.slc 7),(.slc 8),(.val (VW (x3.S.reads)))]),(.row true .u32 (kn)),(.row true .ext (ex)),(.box [(.slc 9),(.slc 10),(.slc 11),(.val (VU (x3.S.fresh)))]),(.row true .node (x3.S.nodes)),(.row true .int (x3.S.counts)),(.row true .bool (x3.S.used)),(.row true .u32 (x3.S.gen)),(.row true .u32 (x3.S.rel))] [3]))=_ by kernel_rfl) ?_
 delta O70 O72 O73 O74 O75 O76 O77;subst hP1 hP2 hP3;obtain⟨⟨hs,hw⟩,hr,hk,hk2,kr⟩:=hb;have kl:=kr.len;have ne_of:∀ {x y:Int},(x != y)=true->x≠y:=fun {x y} q e=>by rw[e] at q;simp at q
 have eq_of:∀ {x y:Int},(x != y)=false->x=y:=fun {x y} q=>by simpa using q
 have rsz:∀ r:Int,0<=r->r<=k+ex.length->0<=(refX (kx++ex) r).size/\(refX (kx++ex) r).size<=1000000:=fun r q0 q1=>by
  unfold refX;split
  .exact⟨ZE 0,by decide⟩
  .exact hsz _ (Yqe (by rw[Zh];omega))
 refine⟨Ya (fun z=>?_) fun z=>?_,fun x1 _=>⟨Ya (fun z=>?_) fun z=>?_,fun x2 _=>⟨Ya (fun z=>?_) fun z=>?_,fun x3 _=>Ya (fun z=>?_) fun z=>?_⟩⟩⟩
 .have z:=ne_of z;refine⟨kx,⟨⟨hs,hw⟩,hr,hk,hk2,kr⟩,h1,by omega,l1,fun S' m e e1 m1 ee=>?_⟩;have er:e=refX (kx++ex) x.left:=by rw[ee];unfold refX;rw[Zf z]
  have ef:bFs (kx++ex) x=e.first:=by unfold bFs;rw[Zf z,er]
  refine Ya (fun y=>?_) fun y=>?_
  .refine⟨⟨S',⟨_,1,_,x.key⟩,e,er,rfl,m,e1,m1⟩,trivial,?_⟩;have eb:decide (e.last<x.key)=bT1 (kx++ex) x:=by unfold bT1;rw[Zf z,<-er,y];rfl
   (repeat' first|exact trivial|exact rfl|exact ZT Zi eb|exact ZT (Zm .i64) ef.symm|refine And.intro ?_ ?_)
  .refine⟨⟨S',⟨_,1,_,x.key⟩,e,er,rfl,m,e1,m1⟩,trivial,?_⟩;have eb:false=bT1 (kx++ex) x:=by unfold bT1;rw[Zf z,<-er,y];rfl
   (repeat' first|exact trivial|exact rfl|exact ZT Zi eb|exact ZT (Zm .i64) ef.symm|refine And.intro ?_ ?_)
 .have z:=eq_of z;have eb:true=bT1 (kx++ex) x:=by unfold bT1;rw[Zj z]
  have ef:bFs (kx++ex) x=x.key:=by unfold bFs;rw[Zj z]
  refine⟨⟨S,⟨_,1,_,x.key⟩,.none,by unfold refX;rw[Zj z],rfl,0,(Ybb S).symm,by decide⟩,trivial,?_⟩
  (repeat' first|exact trivial|exact rfl|exact ZT Zi eb|exact ZT (Zm .i64) ef.symm|refine And.intro ?_ ?_)
 .obtain⟨S1,o,l,el,eo,m,e1,m1⟩:=x1;dsimp only;have z:=ne_of z;subst e1;refine⟨kx,⟨⟨hs,hw.rd (by omega)⟩,by show S.reads+(m:Int)<=_;omega,hk,hk2,kr.rd m⟩,h1,by omega,r1,fun S' m' e e1 m2 ee=>?_⟩;rw[YR] at e1;have er:e=refX (kx++ex) x.right:=by rw[ee];unfold refX;rw[Zf z]
  have ef:bLs (kx++ex) x=e.last:=by unfold bLs;rw[Zf z,er]
  have o1:o.tree=bT1 (kx++ex) x:=by rw[eo]
  have o2:o.size=1:=by rw[eo]
  have o3:o.first=bFs (kx++ex) x:=by rw[eo]
  refine Ya (fun y=>Ya (fun w=>?_) fun w=>?_) fun y=>?_
  .refine⟨⟨S',⟨_,1,_,_⟩,l,e,el,er,rfl,m+m',e1,by omega⟩,trivial,?_⟩;have eb:decide (x.key<e.first)=bT2 (kx++ex) x:=by unfold bT2;rw[Zf z,<-er,w,<-o1,y];rfl
   (repeat' first|exact trivial|exact rfl|exact ZT Zi eb|exact ZT (Zm .i64) ef.symm|exact ZT (Zm .i64) o2|exact ZT (Zm .i64) o3|refine And.intro ?_ ?_)
  .refine⟨⟨S',⟨_,1,_,_⟩,l,e,el,er,rfl,m+m',e1,by omega⟩,trivial,?_⟩;have eb:false=bT2 (kx++ex) x:=by unfold bT2;rw[Zf z,<-er,w,<-o1,y];rfl
   (repeat' first|exact trivial|exact rfl|exact ZT Zi eb|exact ZT (Zm .i64) ef.symm|exact ZT (Zm .i64) o2|exact ZT (Zm .i64) o3|refine And.intro ?_ ?_)
  .refine⟨⟨S',⟨_,1,_,_⟩,l,e,el,er,rfl,m+m',e1,by omega⟩,trivial,?_⟩;have eb:false=bT2 (kx++ex) x:=by unfold bT2;rw[Zf z,<-o1,y];rfl
   (repeat' first|exact trivial|exact rfl|exact ZT Zi eb|exact ZT (Zm .i64) ef.symm|exact ZT (Zm .i64) o2|exact ZT (Zm .i64) o3|refine And.intro ?_ ?_)
 .obtain⟨S1,o,l,el,eo,m,e1,m1⟩:=x1;dsimp only;have z:=eq_of z;have o1:o.tree=bT2 (kx++ex) x:=by rw[eo];unfold bT2;rw[Zj z]
  have o2:o.size=1:=by rw[eo]
  have o3:o.first=bFs (kx++ex) x:=by rw[eo]
  have o4:o.last=bLs (kx++ex) x:=by rw[eo];unfold bLs;rw[Zj z]
  refine⟨⟨S1,⟨_,1,_,_⟩,l,.none,el,by unfold refX;rw[Zj z],rfl,m,e1,by omega⟩,trivial,?_⟩
  (repeat' first|exact trivial|exact rfl|exact ZT Zi o1|exact ZT (Zm .i64) o2|exact ZT (Zm .i64) o3|exact ZT (Zm .i64) o4|refine And.intro ?_ ?_)
 .obtain⟨S1,o,l,r,el,er,eo,m,e1,m1⟩:=x2;dsimp only at z ⊢;have z:bT2 (kx++ex) x=true:=by rw[eo] at z;exact z
  have sl:=rsz _ l0 l1;have sr:=rsz _ r0 r1;rw[<-el] at sl;rw[<-er] at sr;have o2:o.size=1:=by rw[eo]
  have o3:o.first=bFs (kx++ex) x:=by rw[eo]
  have o4:o.last=bLs (kx++ex) x:=by rw[eo]
  refine⟨sl.1,sl.2,sr.1,sr.2,fun b eb=>⟨⟨S1,⟨_,1,_,_⟩,l,r,el,er,rfl,m,e1,m1⟩,trivial,?_⟩⟩;have eb:b=bT3 (kx++ex) x:=by unfold bT3;rw[z,<-el,<-er,eb];rfl
  (repeat' first|exact trivial|exact rfl|exact ZT Zi eb|exact ZT (Zm .i64) o2|exact ZT (Zm .i64) o3|exact ZT (Zm .i64) o4|refine And.intro ?_ ?_)
 .obtain⟨S1,o,l,r,el,er,eo,m,e1,m1⟩:=x2;dsimp only at z ⊢;have z:bT2 (kx++ex) x=false:=by rw[eo] at z;exact z
  have o2:o.size=1:=by rw[eo]
  have o3:o.first=bFs (kx++ex) x:=by rw[eo]
  have o4:o.last=bLs (kx++ex) x:=by rw[eo]
  refine⟨⟨S1,⟨_,1,_,_⟩,l,r,el,er,rfl,m,e1,m1⟩,trivial,?_⟩;have eb:false=bT3 (kx++ex) x:=by unfold bT3;rw[z];rfl
  (repeat' first|exact trivial|exact rfl|exact ZT Zi eb|exact ZT (Zm .i64) o2|exact ZT (Zm .i64) o3|exact ZT (Zm .i64) o4|refine And.intro ?_ ?_)
 .obtain⟨S1,o,l,r,el,er,eo,m,e1,m1⟩:=x3;dsimp only at z ⊢;have z:bT3 (kx++ex) x=true:=by rw[eo] at z;exact z
  have sl:=rsz _ l0 l1;have sr:=rsz _ r0 r1;rw[<-el] at sl;rw[<-er] at sr;have e:=h S1 m (bldX (kx++ex) x) e1 m1 rfl;rw[eo];dsimp only;rw[Yb (x:=l.size+r.size) (by omega) (by omega),Yb (by omega) (by omega)]
  have ez:(bldX (kx++ex) x).size=1+(l.size+r.size):=by
   show (if bT3 (kx++ex) x=true then _ else _)=_;rw[Zj z,el,er]
  rw[<-ez];exact e
 .obtain⟨S1,o,l,r,el,er,eo,m,e1,m1⟩:=x3;dsimp only at z ⊢;have z:bT3 (kx++ex) x=false:=by rw[eo] at z;exact z
  have e:=h S1 m (bldX (kx++ex) x) e1 m1 rfl;rw[eo];dsimp only
  have ez:(bldX (kx++ex) x).size=1:=by
   show (if bT3 (kx++ex) x=true then _ else _)=_;rw[Zf (by rw[z];simp)]
  rw[<-ez];exact e
theorem s_bd:Tb C0 105 tBd:=by
 refine .ofW [3] Tryz.func105 (by decide) rfl fun args H K h hB=>?_
 unfold tBd cM at h;iterate 2 (split at h<;>try exact h.elim)
 rename_i xk xv xl xr _ k D nx ns rs rd kn ex fr nd ct us gn rl;obtain⟨kx,h1,hr2,h2,h3,h4,h5,h6,h7,h8⟩:=h;refine⟨_,?_,YyD ⟨xk,xv,xl,xr⟩ k D ns rs ⟨us,gn,rl,fr,nd,ct,rd⟩ kn ex nx K kx h1 hr2 h2 h3 h4 h5 h6 h7 h8⟩;exact⟨Ye C0.ok s_xt _,Ye C0.ok Yiw _,trivial⟩
theorem Yfi (k:Int)(ns:LP):∀ (f:Nat) (nx ref:Int) (b:Bool) (n:Int),ref<=k+ns.length->nx<=k+ns.length+1->OrdP k ns->k<nx->vsG k ns f nx ref=(b,n)->nx<=n/\n<=k+ns.length+1
 | 0,nx,ref,b,n,_,h2,_,_,h=>by
  simp only[vsG,Zs] at h;omega
 | f+1,nx,ref,b,n,h1,h2,ho,h3,h=>by
  unfold vsG at h;split at h
  .simp only[Zs] at h;omega
  .rename_i c;have o:=ho (ref-k-1).toNat (by omega);obtain⟨b1,n1,e1⟩:∃ b n,vsG k ns f nx (getN ns (ref-k-1).toNat).left=(b,n):=⟨_,_,rfl⟩
   have q1:=Yfi k ns f nx _ b1 n1 (by omega) h2 ho h3 e1;rw[e1] at h;cases b1 with
   | false=>simp only[Zs] at h;omega
   | true =>
    obtain⟨b2,n2,e2⟩:∃ b n,vsG k ns f n1 (getN ns (ref-k-1).toNat).right=(b,n):=⟨_,_,rfl⟩
    have q2:=Yfi k ns f n1 _ b2 n2 (by omega) q1.2 ho (by omega) e2;simp only[e2] at h;cases b2 with
    | false=>simp only[Zs] at h;omega
    | true =>
     simp only at h;split at h
     .simp only[Zs] at h;omega
     .simp only[Zs] at h;omega
theorem YyE (f:Nat)(ref k D:Int)(ns:LP)(rs:LI)(S:Arn)(kn:LI)(ex:List ExtT)(nx:Int)(K:KT)(k0:0<=k)(k1:k<=65536)(hn:ns.length<=65536)(ho:OrdP k ns)(n1:k<nx)(n2:nx<=k+ns.length+1)(_:0<=ref)(r1:ref<=k+ns.length)(hf:ref<(f:Int)+1)(h:∀ b n,vsG k ns (f+1) nx ref=(b,n)->K (.one (.at (vB b))) (chC k D ns rs S kn ex n) [0]) :
  vc C0 (aVi f) Tryz.f107 [.at (.ptr 0 0),.at (vU64 ref)] (chC k D ns rs S kn ex nx) (Yh 12 (YG [0] K)):=by
 refine Eq.mp (show (brS (decide (ref<nx)) (K (.one (.at (.val (Zi true)))) [(.box [(.val (VW (k))),(.val (VU (D))),(.slc 1),(.slc 2),(.ptr 3 0),(.slc 4),(.slc 5),(.val (VW (nx)))]),(.row false .pn (ns)),(.row false .u64 (rs)),(.box [(.ptr 6 0),(.slc 7),(.slc 8),(.val (VW (S.reads)))]),(.row true .u32 (kn)),(.row true .ext (ex)),(.box [(.slc 9),(.slc 10),(.slc 11),(.val (VU (S.fresh)))]),(.row true .node (S.nodes)),(.row true .int (S.counts)),(.row true .bool (S.used)),(.row true .u32 (S.gen)),(.row true .u32 (S.rel))] [0]) (0<=Zd.wrap (Zd.wrap (ref-k)-1)/\Zd.wrap (Zd.wrap (ref-k)-1)<(ns.length:Int)/\0<=k/\k<=65536/\ns.length<=65536/\OrdP k ns/\k<nx/\nx<=k+(ns.length:Int)+1/\0<=(getN ns (Zd.wrap (Zd.wrap (ref-k)-1)).toNat).left/\(getN ns (Zd.wrap (Zd.wrap (ref-k)-1)).toNat).left<=k+(ns.length:Int)/\(getN ns (Zd.wrap (Zd.wrap (ref-k)-1)).toNat).left<(f:Int)/\∀ b:Bool,∀ n:Int,(vsG k ns f nx (getN ns (Zd.wrap (Zd.wrap (ref-k)-1)).toNat).left)=(Prod.mk (b) (n))->brS (!b) (O71 k D ns rs S kn ex K n) (0<=k/\k<=65536/\ns.length<=65536/\OrdP k ns/\k<n/\n<=k+(ns.length:Int)+1/\0<=(getN ns (Zd.wrap (Zd.wrap (ref-k)-1)).toNat).right/\(getN ns (Zd.wrap (Zd.wrap (ref-k)-1)).toNat).right<=k+(ns.length:Int)/\(getN ns (Zd.wrap (Zd.wrap (ref-k)-1)).toNat).right<(f:Int)/\∀ b1:Bool,∀ n1:Int,(vsG k ns f n (getN ns (Zd.wrap (Zd.wrap (ref-k)-1)).toNat).right)=(Prod.mk (b1) (n1))->brS (!b1) (O71 k D ns rs S kn ex K n1) (brS (n1 != ref) (O71 k D ns rs S kn ex K n1) (K (.one (.at (.val (Zi true)))) [(.box [(.val (VW (k))),(.val (VU (D))),(.slc 1),(.slc 2),(.ptr 3 0),(.slc 4),(.slc 5),(.val (VW (Zd.wrap (n1+1))))]),(.row false .pn (ns)),(.row false .u64 (rs)),(.box [(.ptr 6 0),(.slc 7),(.slc 8),(.val (VW (S.reads)))]),(.row true .u32 (kn)),(.row true .ext (ex)),(.box [(.slc 9),(.slc 10),(.slc 11),(.val (VU (S.fresh)))]),(.row true .node (S.nodes)),(.row true .int (S.counts)),(.row true .bool (S.used)),(.row true .u32 (S.gen)),(.row true .u32 (S.rel))] [0])))))=_ by kernel_rfl) ?_
 delta O71;refine Ya (fun z=>?_) fun z=>?_
 .have z:ref<nx:=Zc z;exact h _ _ (by unfold vsG;rw[Zj z])
 .have z:¬ ref<nx:=Zg z
  have hv:vsG k ns (f+1) nx ref=match vsG k ns f nx (getN ns (ref-k-1).toNat).left with
   | (false,n1)=>(false,n1)
   | (true,n1)=>match vsG k ns f n1 (getN ns (ref-k-1).toNat).right with
    | (false,n2)=>(false,n2)
    | (true,n2)=>if n2=ref then (true,n2+1) else (false,n2):=by
   conv=>lhs;unfold vsG
   rw[Zf z]
  rw[Yf (x:=ref-k) (by omega) (by omega),Yf (x:=ref-k-1) (by omega) (by omega)];have o:=ho (ref-k-1).toNat (by omega);have ne_of:∀ {x y:Int},(x != y)=true->x≠y:=fun {x y} q e=>by rw[e] at q;simp at q
  have eq_of:∀ {x y:Int},(x != y)=false->x=y:=fun {x y} q=>by simpa using q
  refine⟨by omega,by omega,k0,k1,hn,ho,n1,n2,o.1.1,by omega,by omega,fun b m e1=>?_⟩;have q1:=Yfi k ns f nx _ b m (by omega) n2 ho n1 e1;rw[e1] at hv;refine Ya (fun y=>?_) fun y=>⟨k0,k1,hn,ho,by omega,q1.2,o.2.1,by omega,by omega,fun b2 m2 e2=>Ya (fun w=>?_) fun w=>Ya (fun v=>?_) fun v=>?_⟩
  .have y:b=false:=by simpa using y
   subst y;exact h _ _ hv
  all_goals have y:b=true:=by simpa using y
  all_goals subst y
  all_goals simp only[e2] at hv
  .have w:b2=false:=by simpa using w
   subst w;exact h _ _ hv
  all_goals have w:b2=true:=by simpa using w
  all_goals subst w
  all_goals simp only at hv
  .rw[Zf (ne_of v)] at hv;exact h _ _ hv
  .rw[Zj (eq_of v)] at hv;have q2:=Yfi k ns f m _ true m2 (by omega) q1.2 ho (by omega) e2;rw[Yf (x:=m2+1) (by omega) (by omega)];exact h _ _ hv
theorem s_vi:∀ f:Nat,Tb C0 107 (tVi f)
 | 0=>by
  refine .ofW [0] Tryz.func107 (by decide) rfl fun args H K h hB=>?_
  unfold tVi cM at h;iterate 2 (split at h<;>try exact h.elim)
  obtain⟨_,_,_,_,_,_,h7,_,h9,_⟩:=h;omega
 | f+1=>by
  refine .ofW [0] Tryz.func107 (by decide) rfl fun args H K h hB=>?_
  unfold tVi cM at h;iterate 2 (split at h<;>try exact h.elim)
  rename_i ref _ k D nx ns rs rd kn ex fr nd ct us gn rl;obtain⟨h1,h2,h3,h4,h5,h6,h7,h8,h9,h10⟩:=h;refine⟨_,?_,YyE f ref k D ns rs ⟨us,gn,rl,fr,nd,ct,rd⟩ kn ex nx K h1 h2 h3 h4 h5 h6 h7 h8 (by omega) h10⟩;exact⟨Ye C0.ok (s_vi f) _,trivial⟩
def aDg (B:Arn->LI->LI->Prop)(n:Nat):Ann C0:={ Γ:=[(47,Yc [] (tWrq B n)),(117,Yc [] tCk)] }
structure DgS (n:Nat) (S:Arn) (rs:LI) (S':Arn) (D:Int):Prop where
 dg:DgR S rs D
 rng:0<=D/\D<4294967296
 st:∃ m,S'=rdS S m/\m<=n
theorem YyF (B:Arn->LI->LI->Prop)(n:Nat)(S:Arn)(rs:LI)(K:KT)(hB:rs≠[]->B S rs [])(h:∀ S' D,DgS n S rs S' D->K (.one (.at (vU D))) (chS S'++[.row false .u32 rs]) [0]) :
  vc C0 (aDg B n) Tryz.f82 [.at (.ptr 0 0),.at (.slc 7)] (chS S++[.row false .u32 rs]) (Yh 8 (YG [0] K)):=by
 refine Eq.mp (show (brS ((rs.length:Int)==0) (K (.one (.at (.val (VU 0)))) [(.box [(.ptr 1 0),(.slc 2),(.slc 3),(.val (VW (S.reads)))]),(.box [(.slc 4),(.slc 5),(.slc 6),(.val (VU (S.fresh)))]),(.row true .node (S.nodes)),(.row true .int (S.counts)),(.row true .bool (S.used)),(.row true .u32 (S.gen)),(.row true .u32 (S.rel)),(.row false .u32 (rs))] [0]) (B (S) (rs) []/\∀ S':Arn,∀ o:LI,WrR S rs [] n S' o->allB o/\o.length<=1000000000000/\∀ r:Int,r=crc o->K (.one (.at (.val (VU (r))))) [(.box [(.ptr 1 0),(.slc 2),(.slc 3),(.val (VW (S'.reads)))]),(.box [(.slc 4),(.slc 5),(.slc 6),(.val (VU (S'.fresh)))]),(.row true .node (S'.nodes)),(.row true .int (S'.counts)),(.row true .bool (S'.used)),(.row true .u32 (S'.gen)),(.row true .u32 (S'.rel)),(.row false .u32 (rs))] [0]))=_ by kernel_rfl) ?_;refine Ya (fun z=>?_) fun z=>?_
 .have z:rs=[]:=ZM (by have:=eq_of_beq z;omega);exact h S 0 ⟨.inl ⟨z,rfl⟩,⟨by decide,by decide⟩,0,(Ybb S).symm,ZC _⟩
 .have z:rs≠[]:=fun e=>by rw[e] at z;exact absurd z (by decide)
  refine⟨hB z,fun S' o w=>⟨w.ab.1,by have:=w.ab.2;omega,fun r er=>h S' r ⟨.inr ⟨z,?_⟩,?_,w.st⟩⟩⟩
  .obtain⟨lk,la,D,n1,n2,d,eo⟩:=w.ex;cases n1
   rcases d with ⟨_,d⟩|⟨d,_⟩
   .subst d;exact⟨la,n2,by rw[er,eo]⟩
   .exact absurd rfl d
  .rw[er];exact YcI o
theorem Ywd (B:Arn->LI->LI->Prop)(n:Nat)(sW:Tb C0 47 (tWrq B n))(Q:Arn->LI->Prop)(hB:∀ S rs,Q S rs->rs≠[]->B S rs []):Tb C0 82 (tDgq Q (DgS n)):=by
 refine .ofW [0] Tryz.func82 (by decide) rfl fun args H K h hC=>?_
 unfold tDgq at h;split at h<;>try exact h.elim
 unfold nbM arMr at h;iterate 2 (split at h<;>try exact h.elim)
 rename_i _ rd fr nd ct us gn rl _ rs;refine⟨_,?_,YyF B n ⟨us,gn,rl,fr,nd,ct,rd⟩ rs K (hB _ _ h.1) h.2⟩;exact⟨Ye C0.ok sW _,Ye C0.ok s_ck _,trivial⟩
theorem YyG:Tb C0 47 (tWrq (fun _ _ _=>False) 0):=by
 refine .ofW [0] Tryz.func47 (by decide) rfl fun args H K h hC=>?_
 unfold tWrq at h;split at h<;>try exact h.elim
 unfold wrM arMr at h;iterate 2 (split at h<;>try exact h.elim)
 exact h.1.elim
theorem YyH:Tb C0 82 (tDgq (fun _ rs=>rs=[]) (DgS 0)):=Ywd _ 0 YyG _ fun _ _ h n=>absurd h n
theorem DgS.go {n m:Nat}{S S':Arn}{rs:LI}{D:Int}(h:DgS n (rdS S m) rs S' D):DgR S rs D/\0<=D/\D<4294967296/\∃ k,S'=rdS S (m+k)/\k<=n:=by
 obtain⟨k,e,hk⟩:=h.st;exact⟨h.dg,h.rng.1,h.rng.2,k,by rw[e,YR],hk⟩
theorem YyI:Tb C0 47 (tWrq (fun S rs ks=>ks=[]/\WrB S rs ks) 200000):=Yvn (fun _ rs=>rs=[]) (DgS 0) 0 (by decide) YyH (fun S rs ks=>ks=[]/\WrB S rs ks) fun S rs ks hb=>⟨hb.2,fun _ _=>hb.1,fun m S' D h=>h.go⟩
def DgB (S:Arn)(rs:LI):Prop:=exW S/\S.reads<=2000000000000000000/\rs.length<=90000/\allV rs/\KyN S rs
def tDg:Tfm C0:=tDgq DgB (DgS 200000)
theorem s_dg:Tb C0 82 tDg:=Ywd _ 200000 YyI _ fun S rs h _=>⟨rfl,h.1,h.2.1,h.2.2.1,by decide,h.2.2.2.1,fun x hx=>by simp at hx,h.2.2.2.2⟩
def tWr:Tfm C0:=tWrq (fun S rs ks=>WrB S rs ks/\S.reads<=1000000000000000000) 400000
theorem s_wr:Tb C0 47 tWr:=Yvn DgB (DgS 200000) 200000 (by decide) s_dg _ fun S rs ks hb=>by
 obtain⟨⟨⟨hs,hw⟩,h2,h3,h4,h5,h6,h7⟩,hr⟩:=hb;have k7:KyN S ks:=KyN.left hw h7;exact⟨⟨⟨hs,hw⟩,h2,h3,h4,h5,h6,h7⟩,fun m hm=>⟨⟨hs,hw.rd (by omega)⟩,by show S.reads+(m:Int)<=_;omega,h4,h6,k7⟩,fun m S' D h=>h.go⟩
end Go.Proofs.YtedfbafngmicpaaGreat.Sx
