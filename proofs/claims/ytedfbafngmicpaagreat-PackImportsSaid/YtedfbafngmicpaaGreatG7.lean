/- The greatest height of a balanced tree, and few reads. -/
import Derived.Test.YtedfbafngmicpaaGreatG0
import Derived.Test.YtedfbafngmicpaaGreatG4
import Derived.Test.YtedfbafngmicpaaGreatG6
import Derived.Test.YtedfbafngmicpaaGreatG5
noncomputable section
open Go.IntKind renaming i64 → Za,u32 → Ze,u64 → Zd
open Go.Value renaming bool → Zi
open Int renaming toNat → Zq
open List renaming drop → Zp,take → Zn
namespace Go.Proofs.YtedfbafngmicpaaGreat.Sx
open Go
section
def lfD (d:LS)(i:Int):Int:=(sltD d i).node.left
def rgD (d:LS)(i:Int):Int:=(sltD d i).node.right
abbrev NumD (d:LS):=NumG (alcD d) (lfD d) (rgD d)
abbrev NumsD (d:LS):=NumsG (alcD d) (lfD d) (rgD d)
def Yby (l:LI):Prop:=∀ x∈l,inU x
def szT (d:LS)(i:Int):Nat:=if alcD d i=true then (sltD d i).node.size.toNat else 0
structure DgK (d:LS) (rk:Int->Nat):Prop where
 sz:∀ i,alcD d i=true->rk (lfD d i)<rk i/\rk (rgD d i)<rk i
 top:∃ n,∀ i,rk i<n
structure DgW (d:LS):Prop where
 len:d.length<=100000
 kid:∀ i,alcD d i=true->inU (lfD d i)/\inU (rgD d i)
 ex:∃ rk,DgK d rk
structure SeenR (d:LS) (m:List Bool) (l:LI) (A:Int->Prop):Prop where
 len:m.length=d.length
 nd:l.Nodup
 us:∀ j∈l,alcD d j=true
 sn:∀ j,mkd m j↔(j∈l∨A j)
def tVis (n:Nat):Tfm C0:=fun args H K=>match args,H with
 | [.at (.ptr 0 0),.at (.val (.int .u32 i))],[.box [.slc 1,.slc 2,.slc 3,.slc 4],.row false .slot d,.row false .u32 fl,.row true .bool m,.row true .u32 l]=>DgW d/\inU i/\∃ rk,DgK d rk/\rk i<n/\∃ A,(∀ j,A j->rk i<rk j)/\SeenR d m l A/\∀ m' l',NumD d i l l'->SeenR d m' l' A->K (.tup []) [.box [.slc 1,.slc 2,.slc 3,.slc 4],.row false .slot d,.row false .u32 fl,.row true .bool m',.row true .u32 l'] [0,3,4]
 | _,_=>False
def aVis (n:Nat):Ann C0:={ quiet:=[108],Γ:=[(108,Yc [] tAlc),(66,Yc [] (tVis n))] }
structure XNb (P:List Bool->LI->Nat->Prop) where
 m:List Bool
 l:LI
 i:Nat
 h:P m l i
def aN28 (n:Nat)(P:List Bool->LI->Nat->Prop)(d:LS)(fl rs:LI):Ann C0:={ Γ:=[(66,Yc [] (tVis n))],inv:=fun k=>match k with
 | 3=>some { X:=XNb P,sl:=[5,6],tf:=fun x=>[.one (.at (.ptr 3 0)),vi .i64 x.i],hf:=fun x=>[.row false .slot d,.row false .u32 fl,.row false .u32 rs,.box [.slc 0,.slc 1,.slc 4,.slc 5],.row true .bool x.m,.row true .u32 x.l],μ:=fun x=>rs.length-x.i }
 | _=>none }
def tN28:Tfm C0:=fun args H K=>match args,H with
 | [.agg [.slc 0,.slc 1],.at (.slc 2)],[.row false .slot d,.row false .u32 fl,.row false .u32 rs]=>DgW d/\rs.length<=1000000/\Yby rs/\∀ l,NumsD d rs [] l->K (.one (.at (.slc 3))) [.row false .slot d,.row false .u32 fl,.row false .u32 rs,.row true .u32 l] []
 | _,_=>False
theorem SeenR.few {d:LS}{m:List Bool}{l:LI}{A:Int->Prop}(h:SeenR d m l A):l.length<=d.length:=by
 have q:=YfT l ((List.range d.length).map fun (n:Nat)=>(n:Int)+1) h.nd fun x hx=>by
  have p:=Yw (h.us x hx);exact ZF.2 ⟨(x-1).toNat,ZaK.2 (by omega),by omega⟩
 rw[Zu,ZaF] at q;exact q
theorem Yvr (n:Nat)(d:LS)(fl:LI)(m:List Bool)(l:LI)(i:Int)(K:KT)(hd:DgW d)(iu:inU i)(rk:Int->Nat)(hk:DgK d rk)(hz:rk i<n+1)(A:Int->Prop)(hA:∀ j,A j->rk i<rk j)(sn:SeenR d m l A)(h:∀ m' l',NumD d i l l'->SeenR d m' l' A->K (.tup []) [.box [.slc 1,.slc 2,.slc 3,.slc 4],.row false .slot d,.row false .u32 fl,.row true .bool m',.row true .u32 l'] [0,3,4]) :
  vc C0 (aVis n) Tryz.f66 [.at (.ptr 0 0),.at (vU i)] [.box [.slc 1,.slc 2,.slc 3,.slc 4],.row false .slot d,.row false .u32 fl,.row true .bool m,.row true .u32 l] (Yh 5 (YG [0,3,4] K)):=by
 refine Eq.mp (show (inU i/\d.length<=1000000/\brS (!alcD d i) (K (.tup []) [(.box [(.slc 1),(.slc 2),(.slc 3),(.slc 4)]),(.row false .slot (d)),(.row false .u32 (fl)),(.row true .bool (m)),(.row true .u32 (l))] [0,3,4]) (0<=Ze.wrap (i-1)/\Ze.wrap (i-1)<(m.length:Int)/\brS (m.getD (Ze.wrap (i-1)).toNat false) (K (.tup []) [(.box [(.slc 1),(.slc 2),(.slc 3),(.slc 4)]),(.row false .slot (d)),(.row false .u32 (fl)),(.row true .bool (m)),(.row true .u32 (l))] [0,3,4]) (0<=Ze.wrap (i-1)/\Ze.wrap (i-1)<(m.length:Int)/\0<=Ze.wrap (i-1)/\Ze.wrap (i-1)<(d.length:Int)/\DgW d/\inU (eS d (Ze.wrap (i-1)).toNat).node.left/\∃ rk:Int->Nat,DgK d rk/\rk (eS d (Ze.wrap (i-1)).toNat).node.left<n/\∃ A:Int->Prop,(∀ j:Int,A (j)->rk (eS d (Ze.wrap (i-1)).toNat).node.left<rk j)/\SeenR d (m.set (Ze.wrap (i-1)).toNat true) l A/\∀ m':List Bool,∀ l':LI,NumD d (eS d (Ze.wrap (i-1)).toNat).node.left l l'->SeenR d m' l' A->DgW d/\inU (eS d (Ze.wrap (i-1)).toNat).node.right/\∃ rk1:Int->Nat,DgK d rk1/\rk1 (eS d (Ze.wrap (i-1)).toNat).node.right<n/\∃ A1:Int->Prop,(∀ j:Int,A1 (j)->rk1 (eS d (Ze.wrap (i-1)).toNat).node.right<rk1 j)/\SeenR d m' l' A1/\∀ m'1:List Bool,∀ l'1:LI,NumD d (eS d (Ze.wrap (i-1)).toNat).node.right l' l'1->SeenR d m'1 l'1 A1->(l'1.length+[i].length)*Yd C0 EC.u32<=140737488355328/\K (.tup []) [(.box [(.slc 1),(.slc 2),(.slc 3),(.slc 4)]),(.row false .slot (d)),(.row false .u32 (fl)),(.row true .bool (m'1)),(.row true .u32 (l'1++[i]))] [0,3,4])))=_ by kernel_rfl) ?_
 have dl:=hd.len;refine⟨iu,by omega,Ya (fun c=>?_) fun c=>?_⟩
 .exact h m l (.skip (.inl (by simpa using c))) sn
 have u:alcD d i=true:=by simpa using c
 have rg:=Yw u;rw[Yz (x:=i-1) (by omega) (by omega)];have ml:=sn.len;refine⟨by omega,by omega,Ya (fun c=>?_) fun c=>?_⟩
 .refine h m l (.skip (.inr ?_)) sn;rcases (sn.sn i).1 ⟨rg.1,c⟩ with q|q
  .exact q
  .exact absurd (hA i q) (Nat.lt_irrefl _)
 have ni:i∉l:=fun q=>by
  have:=((sn.sn i).2 (.inl q)).2;rw[c] at this;cases this
 have sz:=hk.sz i u;have kd:=hd.kid i u
 have s1:SeenR d (m.set (i-1).toNat true) l (fun j=>A j∨j=i):=⟨by rw[ZaB];exact ml,sn.nd,sn.us,fun j=>by
  unfold mkd;rw[YQ]
  by_cases e:j=i
  .subst e;rw[Zj ⟨rfl,by omega⟩];exact⟨fun _=>.inr (.inr rfl),fun _=>⟨rg.1,rfl⟩⟩
  .by_cases j1:1<=j
   .rw[Zf (by omega)];have:=sn.sn j;unfold mkd at this;rw[this];exact⟨fun q=>q.imp id .inl,fun q=>q.imp id fun q=>q.resolve_right e⟩
   .have:=sn.sn j;unfold mkd at this;constructor
    .intro q;exact absurd q.1 j1
    .intro q;exact absurd (this.2 (q.imp id fun q=>q.resolve_right e)).1 j1⟩
 refine⟨by omega,by omega,by omega,by omega,hd,kd.1,rk,hk,ZN sz.1 (Nat.le_of_lt_succ hz),_,fun j hj=>?_,s1,fun m1 l1 n1 r1=>⟨hd,kd.2,rk,hk,ZN sz.2 (Nat.le_of_lt_succ hz),_,fun j hj=>?_,r1,fun m2 l2 n2 r2=>⟨?_,?_⟩⟩⟩
 .rcases hj with q|q
  .exact Nat.lt_trans sz.1 (hA j q)
  .rw[q];exact sz.1
 .rcases hj with q|q
  .exact Nat.lt_trans sz.2 (hA j q)
  .rw[q];exact sz.2
 .have:=r2.few;rw[Ys,Zr];omega
 .have n1:NumD d (lfD d i) l l1:=n1;have n2:NumD d (rgD d i) l1 l2:=n2;have f:=NumG.fresh hk.sz u ni n1 n2;refine h m2 _ (.go u ni n1 n2) ⟨r2.len,?_,fun j hj=>?_,fun j=>?_⟩
  .refine ZaN.2 ⟨r2.nd,by simp,fun a ha b hb e=>?_⟩;rw[ZL.1 hb] at e;exact f (e ▸ ha)
  .rcases Zx.1 hj with hj|hj
   .exact r2.us j hj
   .rw[ZL.1 hj];exact u
  .rw[r2.sn,Zx,ZL];constructor
   .rintro (q|q|q)
    .exact .inl (.inl q)
    .exact .inr q
    .exact .inl (.inr q)
   .rintro ((q|q)|q)
    .exact .inl q
    .exact .inr (.inr q)
    .exact .inr (.inl q)
theorem Yvs:∀ n:Nat,Tb C0 66 (tVis n)
 | 0=>by
  refine .of Tryz.func66 (by decide) rfl fun args H K h hB=>?_
  unfold tVis at h;split at h<;>try exact h.elim
  obtain⟨_,_,_,_,h3,_⟩:=h;exact absurd h3 (Zbv _)
 | n+1=>by
  refine .ofW [0,3,4] Tryz.func66 (by decide) rfl fun args H K h hB=>?_
  unfold tVis at h;split at h<;>try exact h.elim
  rename_i i d fl m l;obtain⟨h1,h2,rk,hk,h3,A,h4,h5,h6⟩:=h;refine⟨_,?_,Yvr n d fl m l i K h1 h2 rk hk h3 A h4 h5 h6⟩;exact⟨Ye C0.ok YlH _,Ye C0.ok (Yvs n) _,trivial⟩
def PN28 (d:LS)(rs:LI):List Bool->LI->Nat->Prop:=fun m l i=>i<=rs.length/\NumsD d (rs.take i) [] l/\SeenR d m l fun _=>False
theorem Yvt (n:Nat)(d:LS)(fl rs:LI)(K:KT)(hd:DgW d)(rk:Int->Nat)(hk:DgK d rk)(hN:∀ i,rk i<n)(hr:rs.length<=1000000)(hv:Yby rs)(h:∀ l,NumsD d rs [] l->K (.one (.at (.slc 3))) [.row false .slot d,.row false .u32 fl,.row false .u32 rs,.row true .u32 l] []) :
  vc C0 (aN28 n (PN28 d rs) d fl rs) Tryz.f23 [.agg [.slc 0,.slc 1],.at (.slc 2)] [.row false .slot d,.row false .u32 fl,.row false .u32 rs] (Yh 3 K):=by
 generalize hP:PN28 d rs=P;refine Eq.mp (show (0<=(d.length:Int)/\(d.length:Int)<=(d.length:Int)/\(d.length:Int)*(↑(Yd C0 EC.bool):Int)<=140737488355328/\(∃ x:XNb P,True/\(True/\True/\VI 0=(VI (x.i:Int))/\True)/\d=d/\fl=fl/\rs=rs/\(True/\True/\True/\True/\True)/\(List.replicate (d.length:Int).toNat false)=x.m/\[]=x.l/\True)/\∀ x:XNb P,True->brS (decide ((x.i:Int)<(rs.length:Int))) (0<=(x.i:Int)/\(x.i:Int)<(rs.length:Int)/\DgW d/\inU (rs.getD (x.i:Int).toNat 0)/\∃ rk:Int->Nat,DgK d rk/\rk (rs.getD (x.i:Int).toNat 0)<n/\∃ A:Int->Prop,(∀ j:Int,A (j)->rk (rs.getD (x.i:Int).toNat 0)<rk j)/\SeenR d x.m x.l A/\∀ m':List Bool,∀ l':LI,NumD d (rs.getD (x.i:Int).toNat 0) x.l l'->SeenR d m' l' A->∃ x':XNb P,True/\((True/\True/\(VI (Za.wrap ((x.i:Int)+1)))=(VI (x'.i:Int))/\True)/\d=d/\fl=fl/\rs=rs/\(True/\True/\True/\True/\True)/\m'=x'.m/\l'=x'.l/\True)/\rs.length-x'.i<rs.length-x.i) (K (.one (.at (.slc 3))) [(.row false .slot (d)),(.row false .u32 (fl)),(.row false .u32 (rs)),(.row true .u32 (x.l))] []))=_ by kernel_rfl) ?_;subst hP;have dl:=hd.len;rw[YdD];refine⟨by omega,by omega,by omega,⟨⟨List.replicate ((d.length:Int)).toNat false,[],0,ZC _,.nil,?_⟩,?_⟩,fun x _=>Ya (fun z=>?_) fun z=>?_⟩
 .refine⟨by rw[Zan];omega,ZaX,by simp,fun j=>?_⟩;unfold mkd;rw[Yak];simp
 ·repeat' constructor
 .obtain⟨m,l,i,hi,nn,sn⟩:=x;dsimp only at z ⊢;have z:i<rs.length:=by have:=Zc z;omega
  rw[show ((i:Int)).toNat=i from rfl,Yb (x:=(i:Int)+1) (by omega) (by omega)];have hm:rs.getD i 0∈rs:=by rw[Zb,Zk z];exact Zaa z
  have ts:rs.take (i+1)=rs.take i++[rs.getD i 0]:=YdG z;refine⟨by omega,by omega,hd,hv _ hm,rk,hk,hN _,fun _=>False,fun j hj=>hj.elim,sn,fun m1 l1 n1 r1=>⟨⟨m1,l1,i+1,z,?_,r1⟩,trivial,?_,ZI z (ZO i)⟩⟩
  .rw[ts];exact nn.app (NumsG.one n1)
  ·repeat' constructor
 .obtain⟨m,l,i,hi,nn,sn⟩:=x;dsimp only at z;have z:i=rs.length:=by have:=Zg z;omega
  rw[z,ZJ] at nn;exact h l nn
theorem Yvu:Tb C0 23 tN28:=by
 refine .of Tryz.func23 (by decide) rfl fun args H K h hB=>?_
 unfold tN28 at h;split at h<;>try exact h.elim
 rename_i d fl rs;obtain⟨rk,hk⟩:=h.1.ex;obtain⟨n,hn⟩:=hk.top;refine⟨_,?_,Yvt n d fl rs K h.1 rk hk hn h.2.1 h.2.2.1 h.2.2.2⟩;exact⟨Ye C0.ok (Yvs n) _,trivial⟩
section
variable {S:Arn} {hs:LI}
theorem Yam (w:Wf S hs){i:Int}(u:S.us i=true):lfD (Yg S) i=lfA S i/\rgD (Yg S) i=rgA S i:=by
 unfold lfD rgD lfA rgA;rw[YX w u];exact⟨rfl,rfl⟩
theorem Ydo (w:Wf S hs)(i:Int):szT (Yg S) i=(S.nd i).size.toNat:=by
 unfold szT;rw[Yl w];cases u:S.us i with
 | true=>rw[Zj rfl,YX w u]
 | false=>rw[w.zero i u];rfl
theorem Yim (w:Wf S hs):DgW (Yg S) where
 len:=by have:=w.n2;rw[YB];unfold ncap;omega
 kid i u:=by
  rw[Yl w] at u;obtain⟨e1,e2⟩:=Yam w u;rw[e1,e2];have k:=w.kid i u;exact⟨YW w k.1,YW w k.2⟩
 ex:=⟨szT (Yg S),fun i u=>by
  rw[Yl w] at u;obtain⟨e1,e2⟩:=Yam w u;rw[e1,e2,Ydo w,Ydo w,Ydo w];exact YgL w i u,2147483648,fun i=>by
  rw[Ydo w];have:=w.size_nonneg i;unfold Ym at this;omega⟩
theorem Yrf (w:Wf S hs){rs l:LI}(h:NumsD (Yg S) rs [] l):Yx S rs [] l :=
 h.congr (fun i=>(Yl w i).symm) (fun _ u=>((Yam w (by rw[Yl w] at u;exact u)).1).symm) fun _ u=>((Yam w (by rw[Yl w] at u;exact u)).2).symm
end
end
end Go.Proofs.YtedfbafngmicpaaGreat.Sx
namespace Go.Proofs.YtedfbafngmicpaaGreat
open Go
section
def gN (w:Nat):Nat:=(Hn ((w:Int)-1)).toNat
theorem Yku:∀ (l:LI) (h k:Int) (i:Nat),(i:Int)<hnC l h k-h->l.getD i 0-1<=k
 | [],h,k,i,hi=>by simp[hnC] at hi;omega
 | w::l,h,k,i,hi=>by
  unfold hnC at hi;split at hi
  .rename_i c;cases i with
   | zero=>simpa using c
   | succ i=>have:=Yku l (h+1) k i (by omega);simpa using this
  .omega
theorem Yin (i:Nat):(wtsL.drop 1).getD i 0=wt (i+1):=by simp[wt,Zb]
theorem Ykv (w:Nat):gN w<=80:=by have:=YbE ((w:Int)-1);unfold gN;omega
theorem YsI (w:Nat):(gN w:Int)=Hn ((w:Int)-1):=by have:=YbE ((w:Int)-1);unfold gN;omega
theorem YdJ (n:Nat):(gN (n+1):Int)=Hn n:=by rw[YsI];congr 1;omega
theorem   YnA {w : Nat} (hw : 1 ≤ w) : wt (gN w) ≤ w := by
  have h0 :=    YbE ((w : Int) - 1);have e :=   YsI w;cases h : gN w with
  | zero => have : wt 0 = 1 := rfl
            rw [this]; omega
  | succ g =>
    have :=      Yku (wtsL.drop 1) 0 ((w : Int) - 1) g (by unfold Hn at e; omega);rw [      Yin] at this;omega
theorem YpN:∀ h<80,wt h<wt (h+1):=by decide
theorem YgR:∀ {i j:Nat},i<=j->j<=80->wt i<=wt j:=by
 intro i j h
 induction h with
 | refl=>intro _;exact ZE _
 | @step m h ih=>intro hj;have:=ih (by omega);have:=YpN m (by omega);show wt i<=wt (m+1);omega
theorem YdK {w h:Nat}(h8:h<=80)(hw:wt h<=w):h<=gN w:=by
 have hl:(wtsL.drop 1).length=80:=rfl
 have:=Ynn (wtsL.drop 1) 0 ((w:Int)-1) h (by omega) (fun i hi=>by
  rw[Yin];have:=YgR (show i+1<=h by omega) h8;omega)
 have e:=YsI w;unfold Hn at e;omega
theorem YsJ {v w:Nat}(hv:1<=v)(h:v<=w):gN v<=gN w:=YdK (Ykv v) (by have:=YnA hv;omega)
theorem Ykw {w:Nat}(hw:1<=w)(h:w<=1000000):gN w<=60:=by
 by_cases c:gN w<=60
 .exact c
 .have h1:=YnA hw;have h2:=YgR (show 61<=gN w by omega) (Ykv w);have:wt 61=86810659:=rfl;omega
theorem YgS {m w:Nat}(hm:1<=m)(h:4*m<=3*w)(hw:w<=1000000):gN m+1<=gN w:=by
 have h1:=Ykw hm (by omega);have h2:=YnA hm;have h3:=Yjv (gN m) (by omega);exact YdK (by omega) (by omega)
theorem YpO:∀ h<77,4<=h->wt (h+4)<=4*wt h-2:=by decide
theorem      YpP {r w : Nat} (hr : 5 ≤ r) (h : 4 * r ≤ w + 2) (hw : w ≤ 1000000) : gN r + 4 ≤ gN w := by
  have h1 :=      Ykw (w := r) (by omega) (by omega);have h2 :=   YnA (w := r) (by omega)
  have h3 : 3 ≤ gN r :=   YdK (by decide) (by have : wt 3 = 4 := rfl
                                              omega)
  by_cases c : gN r = 3
  . rw [c]; exact   YdK (by decide) (by have : wt (3 + 4) = 15 := rfl
                                        omega)
  . have :=      YpO (gN r) (by omega) (by omega)
    exact   YdK (by omega) (by omega)

def dsc (w v:Nat):Nat:=if h:w<=3*v then 0 else 1+dsc (3*w / 4) v
termination_by w
decreasing_by omega
theorem YI {w v:Nat}(h:w<=3*v):dsc w v=0:=by rw[dsc,dif_pos h]
theorem Ybz {w v:Nat}(h:¬ w<=3*v):dsc w v=1+dsc (3*w / 4) v:=by rw[dsc,dif_neg h]
theorem YpQ (v:Nat):∀ (n w w':Nat),w'<n->w<=w'->dsc w v<=dsc w' v:=by
 intro n
 induction n with
 | zero=>intro w w' h;omega
 | succ n ih =>
  intro w w' hn h
  by_cases c:w<=3*v
  .rw[YI c];exact ZC _
  .rw[Ybz c,Ybz (show ¬ w'<=3*v by omega)];have:=ih (3*w / 4) (3*w' / 4) (by omega) (by omega);omega
theorem YnB {w v:Nat}(h:w<=3*v+3)(hv:2<=v):dsc w v<=1:=by
 by_cases c:w<=3*v
 .rw[YI c];omega
 .rw[Ybz c,YI (by omega)];omega
theorem YnC {w:Nat}(h:w<=6):dsc w 1<=2:=by
 by_cases c:w<=3
 .rw[YI (by omega)];omega
 .rw[Ybz (by omega)]
  by_cases d:3*w / 4<=3
  .rw[YI (by omega)];omega
  .rw[Ybz (by omega),YI (by omega)];omega
theorem Ykx {w:Nat}(h:w<=5):dsc w 1<=1:=by
 by_cases c:w<=3
 .rw[YI (by omega)];omega
 .rw[Ybz (by omega),YI (by omega)];omega
def jB (a b:Nat):Nat:=1+3*(dsc (a+1) (b+1)+dsc (b+1) (a+1))
theorem Yfb (a b:Nat):1<=jB a b:=by unfold jB;omega
theorem YdL (a b:Nat):jB a b=jB b a:=by unfold jB;omega
theorem Yvv {a b:Nat}(h:balN a b):jB a b=1:=by
 unfold balN at h;unfold jB;rw[YI (by omega),YI (by omega)]
theorem YnD {s m r:Nat}(h:balN s m)(hb:¬ balN ((s+m+1:Nat):Int) r)(hg:r<s+m+1):jB m r+3<=jB (s+m+1) r:=by
 unfold balN at h hb;unfold jB;rw[YI (w:=r+1) (by omega),YI (w:=r+1) (by omega),Ybz (w:=s+m+1+1) (by omega)];have:=YpQ (r+1) (3*(s+m+1+1) / 4+1) (m+1) (3*(s+m+1+1) / 4) (by omega) (by omega);omega
def near (a b:Nat):Prop:=3*(b+1)<=13*(a+1)/\3*(a+1)<=13*(b+1)
theorem Yio {s m r:Nat}(h:balN s m)(hb:¬ balN ((s+m+1:Nat):Int) r)(hg:r<s+m+1):near s (m+r+1):=by
 unfold balN at h hb;unfold near;omega
theorem YnE {a s:Nat}(hn:near a (0+s+1))(h1:balN (0:Nat) s)(_:¬ balN a ((0+s+1:Nat):Int))(hlt:a<0+s+1):balN a (0:Nat)/\balN ((a+0+1:Nat):Int) s:=by
 unfold balN at *;unfold near at hn;omega
theorem YnF {a s x y:Nat}(hn:near a (x+y+1+s+1))(h1:balN ((x+y+1:Nat):Int) s)(h2:balN x y)(hb:¬ balN a ((x+y+1+s+1:Nat):Int))(hlt:a<x+y+1+s+1)(hc:¬ (balN a ((x+y+1:Nat):Int)/\balN ((a+(x+y+1)+1:Nat):Int) s)):balN a x/\balN y s/\balN ((a+x+1:Nat):Int) ((y+s+1:Nat):Int):=by
 unfold balN at *;unfold near at hn;omega
theorem Yip {a b:Nat}(h:near a b):near b a:=⟨h.2,h.1⟩
theorem YA {a b:Int}(h:balN a b):balN b a:=⟨h.2,h.1⟩
variable {S S' S1 S2:Arn} {hs h1 h2 hs1 hs2:LI}
structure Got (S:Arn) (hs:LI) (mk rd:Nat) (S':Arn) (hs':LI):Prop where
 wf:Wf S' hs'
 stay:Stay S S' hs
 len:S'.used.length=S.used.length
 nu:S'.nu<=S.nu+mk
 rd0:S.reads<=S'.reads
 rd:S'.reads<=S.reads+rd
theorem Got.free {m r:Nat}(h:Got S hs m r S' hs1)(w:Wf S hs2):S.free<=S'.free+m:=by
 have a:=w.free_nonneg.2.2.2;have b:=h.wf.free_nonneg.2.2.2;have c:S'.cap=S.cap:=by unfold Arn.cap;rw[h.len]
 have:=h.nu;omega
theorem Got.seq {h:LI}{m1 r1 m2 r2:Nat}(a:Got S h1 m1 r1 S1 hs1)(b:Got S1 h2 m2 r2 S2 hs2)(e1:∀ i∈h,i∈h1)(e2:∀ i∈h,i∈h2):Got S h (m1+m2) (r1+r2) S2 hs2 where
 wf:=b.wf
 stay:=(a.stay.mono e1).trans (b.stay.mono e2)
 len:=b.len.trans a.len
 nu:=by have:=a.nu;have:=b.nu;omega
 rd0:=Int.le_trans a.rd0 b.rd0
 rd:=by have:=a.rd;have:=b.rd;omega
theorem Got.mono {m r m' r':Nat}(a:Got S hs m r S' hs1)(h1:m<=m')(h2:r<=r'):Got S hs m' r' S' hs1 where
 wf:=a.wf
 stay:=a.stay
 len:=a.len
 nu:=by have:=a.nu;omega
 rd0:=a.rd0
 rd:=by have:=a.rd;omega
theorem Got.perm {m r:Nat}(a:Got S hs m r S' hs1)(p:hs1.Perm hs2):Got S hs m r S' hs2:=⟨a.wf.perm p,a.stay,a.len,a.nu,a.rd0,a.rd⟩
theorem Got.rds (w:Wf S hs1){n:Nat}(hn:S.reads+n<=4000000000000000000):Got S hs 0 n (rdS S n) hs1 where
 wf:=w.rd hn
 stay:=YmI S n hs
 len:=rfl
 nu:=Zw _
 rd0:=by show S.reads<=S.reads+n;omega
 rd:=ZE _
theorem Got.refl (w:Wf S hs1):Got S hs 0 0 S hs1:=⟨w,Stay.refl _ _,rfl,Zw _,ZE _,by omega⟩
theorem Got.node {k v:Int}{tl tr:Tr}{i:Int}(n:NodeR S hs k v tl tr S' i):Got S hs 1 0 S' (i::hs):=⟨n.wf,n.stay,n.len,by rw[n.nu];exact Zw _,by rw[n.rds];exact ZE _,by rw[n.rds];omega⟩
structure TrR (S:Arn) (hs:LI) (L:LE) (mk rd:Nat) (S':Arn) (i:Int):Prop where
 got:Got S hs mk rd S' (i::hs)
 tree:∃ t,Rep S' t i/\t.list=L/\t.Bal
theorem TrR.mono {L:LE}{m r m' r':Nat}{i:Int}(a:TrR S hs L m r S' i)(h1:m<=m')(h2:r<=r'):TrR S hs L m' r' S' i:=⟨a.got.mono h1 h2,a.tree⟩
end
section
variable {S S' S1 S2:Arn} {hs h1 h2 hs1 hs2:LI}

theorem Yiq:∀ (l m:List Bool),l.length=m.length->(∀ i:Nat,m.getD i false=true->l.getD i false=true)->m.countP id<=l.countP id
 | [],[],_,_=>Zw _
 | [],_::_,h,_=>by simp at h
 | _::_,[],h,_=>by simp at h
 | a::l,b::m,h,hi=>by
  have h0:=hi 0;have ih:=Yiq l m (by simpa using h) (fun i=>by simpa using hi (i+1));simp at h0;rw[Zbc,Zbc];cases a<;>cases b<;>simp_all<;>omega
theorem Kept.nu_le (k:Kept S S'):S'.nu<=S.nu:=by
 unfold Arn.nu;refine Yiq _ _ k.len.symm fun i hi=>?_
 have:=(k.kp (i:Int) (by unfold Arn.us;simpa using hi)).1;unfold Arn.us at this
 simpa using this
def retL (S:Arn)(i:Int):Arn:=if i=0 then S else retA S i
theorem Yan (S:Arn)(i:Int):(retL S i).reads=S.reads/\(retL S i).used=S.used/\(∀ j,(retL S i).us j=S.us j)/\(∀ j,(retL S i).nd j=S.nd j)/\(∀ j,(retL S i).gn j=S.gn j):=by
 unfold retL;split<;>exact⟨rfl,rfl,fun _=>rfl,fun _=>rfl,fun _=>rfl⟩
theorem Yfc (w:Wf S hs){i:Int}(hi:i=0∨S.us i=true)(hl:hs.length<=999999990):Wf (retL S i) (i::hs):=by
 unfold retL;split
 .rename_i e;subst e;exact w.zero_cons (by omega)
 .rename_i e;exact w.ret (hi.resolve_left e) (by omega)
theorem YbA (w:Wf S hs1){i:Int}(hi:i=0∨S.us i=true)(hl:hs1.length<=999999990):Got S hs 0 0 (retL S i) (i::hs1):=by
 obtain⟨a,b,c,d,e⟩:=Yan S i;exact⟨Yfc w hi hl,YeO c d e hs,by rw[b],by unfold Arn.nu;rw[b];exact Zw _,by rw[a];exact ZE _,by rw[a];omega⟩
theorem Rep.retL {t:Tr}{i j:Int}(h:Rep S t i):Rep (retL S j) t i:=Rep.same (Yan S j).2.2.1 (Yan S j).2.2.2.1 h
theorem YnG {i:Int}(w:Wf S (i::hs1))(w':Wf S' hs1)(k:Kept S S'):Got S hs1 0 0 S' hs1:=⟨w',k.stay w w',k.len,k.nu_le,by rw[k.rds];exact ZE _,by rw[k.rds];omega⟩
structure OpnR (S:Arn) (hs:LI) (a:Tr) (k v:Int) (b:Tr) (S':Arn) (l r:Int):Prop where
 got:Got S hs 0 1 S' (l::r::hs)
 repl:Rep S' a l
 repr:Rep S' b r
theorem Yrg {i:Int}{a b:Tr}{k v:Int}(w:Wf S (i::hs))(hr:Rep S (.node a k v b) i)(hl:hs.length<=900000000)(hrd:S.reads+1<=4000000000000000000) :
  Wf (rdS S 1) (i::hs)/\Wf (retL (rdS S 1) (S.nd i).left) ((S.nd i).left::i::hs)/\Wf (retL (retL (rdS S 1) (S.nd i).left) (S.nd i).right) (i::(S.nd i).left::(S.nd i).right::hs):=by
 have w1:Wf (rdS S 1) (i::hs):=w.rd (by omega);have hk:=w.kid i hr.1;have w2:=Yfc w1 (i:=(S.nd i).left) hk.1 (by simp;omega);have w3:=Yfc w2 (i:=(S.nd i).right) (by rw[(Yan _ _).2.2.1];exact hk.2) (by simp;omega);refine⟨w1,w2,w3.perm ?_⟩;refine (List.Perm.swap _ _ _).trans ?_;refine ((List.Perm.swap _ _ _).cons _).trans ?_;exact List.Perm.swap _ _ _
theorem Yvw {i:Int}{a b:Tr}{k v:Int}(w:Wf S (i::hs))(hr:Rep S (.node a k v b) i)(hl:hs.length<=900000000)(hrd:S.reads+1<=4000000000000000000)(w':Wf S' ((S.nd i).left::(S.nd i).right::hs))(kp:Kept (retL (retL (rdS S 1) (S.nd i).left) (S.nd i).right) S'):OpnR S hs a k v b S' (S.nd i).left (S.nd i).right:=by
 obtain⟨w1,w2,w3⟩:=Yrg w hr hl hrd;have hk:=w.kid i hr.1;have g1:Got S hs 0 1 (rdS S 1) (i::hs):=Got.rds w (by omega);have g2:Got (rdS S 1) hs 0 0 _ _:=YbA (hs:=hs) w1 (i:=(S.nd i).left) hk.1 (by simp;omega);have g3:Got (retL (rdS S 1) (S.nd i).left) hs 0 0 _ _:=YbA (hs:=hs) w2 (i:=(S.nd i).right) (by rw[(Yan _ _).2.2.1];exact hk.2) (by simp;omega);have g4:=YnG w3 w' kp;refine⟨(((g1.seq g2 (h:=hs) (fun _ h=>h) (fun _ h=>h)).seq g3 (fun _ h=>h) (fun _ h=>h)).seq g4 (fun _ h=>h) (fun _ h=>by simp[h])),?_,?_⟩
 .have h1:Rep (retL (retL (rdS S 1) (S.nd i).left) (S.nd i).right) a (S.nd i).left:=(Rep.same (S:=S) (S':=rdS S 1) (fun _=>rfl) (fun _=>rfl) hr.2.2.2.1).retL.retL;exact h1.held w3 (kp.stay w3 w') (.inr (by simp))
 .have h1:Rep (retL (retL (rdS S 1) (S.nd i).left) (S.nd i).right) b (S.nd i).right:=(Rep.same (S:=S) (S':=rdS S 1) (fun _=>rfl) (fun _=>rfl) hr.2.2.2.2).retL.retL;exact h1.held w3 (kp.stay w3 w') (.inr (by simp))
theorem Ydp {α:Type}(a b c:α)(l:List α):(a::b::c::l).Perm (c::a::b::l):=((List.Perm.swap c b l).cons a).trans (List.Perm.swap c a (b::l))
theorem Yee {α:Type}(a b c:α)(l:List α):(a::b::c::l).Perm (b::c::a::l):=(Ydp b c a l).symm
theorem Got.rdn {m r n k:Nat}(a:Got S hs m r S1 hs1)(hn:n<=k)(hb:S1.reads+n<=4000000000000000000):Got S hs m (r+k) (rdS S1 n) hs1 :=
 (a.seq (Got.rds (hs:=hs) a.wf hb) (fun _ h=>h) (fun _ h=>h)).mono (by omega) (by omega)
theorem Rep.rdn {t:Tr}{i:Int}{n:Nat}(h:Rep S t i):Rep (rdS S n) t i:=Rep.same (S:=S) (S':=rdS S n) (fun _=>rfl) (fun _=>rfl) h
section
variable {S0 S3 S4:Arn} {A M B x y:Tr} {k1 v1 k2 v2 k3 v3 u m w i j q ix iy:Int} {r0:Nat}
theorem YlP (g:Got S0 hs 0 r0 S (u::m::w::hs))(n1:NodeR S (w::hs) k1 v1 A M S2 i)(n2:NodeR S2 hs k2 v2 (.node A k1 v1 M) B S3 j)(bA:A.Bal)(bM:M.Bal)(bB:B.Bal)(c1:balN A.size M.size)(c2:balN ((A.size+M.size+1:Nat):Int) B.size):TrR S0 hs (A.list++(k1,v1)::(M.list++(k2,v2)::B.list)) 3 (r0+1) S3 j where
 got:=((g.seq (Got.node n1) (h:=hs) (fun _ h=>h) (fun _ h=>by simp[h])).seq (Got.node n2) (fun _ h=>h) (fun _ h=>h)).mono (by omega) (by omega)
 tree:=⟨_,n2.rep,by simp[Tr.list],by
  refine⟨?_,⟨c1,bA,bM⟩,bB⟩;have e:((Tr.node A k1 v1 M).size:Int)=((A.size+M.size+1:Nat):Int):=by simp[Tr.size];omega
  rw[e];exact c2⟩
theorem YlQ (g:Got S0 hs 0 r0 S (u::m::w::hs))(n1:NodeR S (u::hs) k2 v2 M B S2 i)(n2:NodeR S2 hs k1 v1 A (.node M k2 v2 B) S3 j)(bA:A.Bal)(bM:M.Bal)(bB:B.Bal)(c1:balN M.size B.size)(c2:balN A.size ((M.size+B.size+1:Nat):Int)):TrR S0 hs (A.list++(k1,v1)::(M.list++(k2,v2)::B.list)) 3 (r0+1) S3 j where
 got:=((g.seq (Got.node n1) (h:=hs) (fun _ h=>h) (fun _ h=>by simp[h])).seq (Got.node n2) (fun _ h=>h) (fun _ h=>h)).mono (by omega) (by omega)
 tree:=⟨_,n2.rep,by simp[Tr.list],by
  refine⟨?_,bA,⟨c1,bM,bB⟩⟩;have e:((Tr.node M k2 v2 B).size:Int)=((M.size+B.size+1:Nat):Int):=by simp[Tr.size];omega
  rw[e];exact c2⟩
theorem Yir (g:Got S0 hs 0 r0 S (u::m::w::hs))(o:OpnR S (u::w::hs) x k3 v3 y S1 ix iy)(n1:NodeR S1 (iy::w::hs) k1 v1 A x S2 i)(n2:NodeR S2 (i::hs) k2 v2 y B S3 j)(n3:NodeR S3 hs k3 v3 (.node A k1 v1 x) (.node y k2 v2 B) S4 q)(bA:A.Bal)(bx:x.Bal)(bY:y.Bal)(bB:B.Bal)(c1:balN A.size x.size)(c2:balN y.size B.size)(c3:balN ((A.size+x.size+1:Nat):Int) ((y.size+B.size+1:Nat):Int)) :
  TrR S0 hs (A.list++(k1,v1)::(x.list++(k3,v3)::(y.list++(k2,v2)::B.list))) 3 (r0+1) S4 q where
 got:=((((g.seq o.got (h:=hs) (fun _ h=>h) (fun _ h=>by simp[h])).seq (Got.node n1) (h:=hs) (fun _ h=>h) (fun _ h=>by simp[h])).seq (Got.node n2) (h:=hs) (fun _ h=>h) (fun _ h=>by simp[h])).seq (Got.node n3) (fun _ h=>h) (fun _ h=>h)).mono (by omega) (by omega)
 tree:=⟨_,n3.rep,by simp[Tr.list],by
  refine⟨?_,⟨c1,bA,bx⟩,⟨c2,bY,bB⟩⟩;have e:((Tr.node A k1 v1 x).size:Int)=((A.size+x.size+1:Nat):Int):=by simp[Tr.size];omega
  have e2:((Tr.node y k2 v2 B).size:Int)=((y.size+B.size+1:Nat):Int):=by simp[Tr.size];omega
  rw[e,e2];exact c3⟩
end
end
section
section
variable {us:Int->Bool} {lf rg:Int->Int}
theorem NumG.par {i:Int}{acc a:LI}(h:NumG us lf rg i acc a):∀ j∈a,j∈acc∨j=i∨∃ k∈a,lf k=j∨rg k=j:=by
 induction h with
 | skip _=>exact fun j hj=>.inl hj
 | @go i acc a1 a2 u n h1 h2 ih1 ih2 =>
  intro j hj;have me:i∈a2++[i]:=by simp
  rcases Zx.1 hj with hj|hj
  .rcases ih2 j hj with q|q|⟨k,hk,q⟩
   .rcases ih1 j q with q|q|⟨k,hk,q⟩
    .exact .inl q
    .exact .inr (.inr ⟨i,me,.inl q.symm⟩)
    .exact .inr (.inr ⟨k,Zx.2 (.inl (h2.sub hk)),q⟩)
   .exact .inr (.inr ⟨i,me,.inr q.symm⟩)
   .exact .inr (.inr ⟨k,Zx.2 (.inl hk),q⟩)
  .exact .inr (.inl (ZL.1 hj))
theorem NumsG.par {r acc a:LI}(h:NumsG us lf rg r acc a):∀ j∈a,j∈acc∨j∈r∨∃ k∈a,lf k=j∨rg k=j:=by
 induction h with
 | nil=>exact fun j hj=>.inl hj
 | @cons i r acc a1 a2 h1 h2 ih =>
  intro j hj;rcases ih j hj with q|q|q
  .rcases h1.par j q with q|q|⟨k,hk,q⟩
   .exact .inl q
   .exact .inr (.inl (by rw[q];exact ZP ..))
   .exact .inr (.inr ⟨k,h2.sub hk,q⟩)
  .exact .inr (.inl (Zz _ q))
  .exact .inr (.inr q)
end
def cpN (S:Arn)(l:LI)(j:Int):Td:={ S.nd j with left:=plcN l (lfA S j),right:=plcN l (rgA S j) }
def hsI (i n:Nat):LI:=((List.range n).drop i).map fun (p:Nat)=>(p:Int)+1
structure CpB (S:Arn) (l:LI) (c:Int) (k:Nat) (hs:LI) (B:Arn):Prop where
 wf:Wf B hs
 fresh:B.fresh=k
 rel:B.rel=[]
 len:(B.used.length:Int)=c+1
 rd:B.reads=0
 nd:∀ (p:Nat) (j:Int),p<k->l[p]?=some j->B.nd ((p:Int)+1)=cpN S l j
 gn:∀ p:Int,1<=p->B.gn p=if p<=k then 1 else 0
structure LsN (S:Arn) (l:LI):Prop where
 nd:l.Nodup
 ord:OrdG S.us (lfA S) (rgA S) l
variable {S B:Arn} {hs hb l:LI} {c:Int} {k:Nat}
theorem LsN.used (h:LsN S l):∀ j∈l,S.us j=true:=fun j hj=>by
 obtain⟨k,hk⟩:=ZaS.1 hj;exact (h.ord k j hk).1
theorem LsN.of (hw:Wf S hs){rs:LI}(h:Yx S rs [] l):LsN S l:=⟨h.nodup (Ybc hw) ZaX,h.ord .nil⟩
theorem LsN.plc0 (h:LsN S l)(hw:Wf S hs):plcN l 0=0:=YaI fun q=>by
 have:=h.used 0 q;rw[hw.us0 (ZE 0)] at this;cases this
theorem CpB.us (h:CpB S l c k hb B)(i:Int):B.us i=true↔1<=i/\i<=k:=by
 rw[h.wf.use,h.fresh,h.rel];simp
theorem CpB.free (h:CpB S l c k hb B):B.free=c-k:=by
 unfold Arn.free Arn.cap;rw[h.rel,h.fresh];have:=h.len;show ((0:Nat):Int)+(_-1)-_=_;omega
theorem CpB.new (h1:1<=c)(h2:c<=65536):CpB S l c 0 [] (newS c.toNat) where
 wf:=Wf.new (by omega) (by omega)
 fresh:=rfl
 rel:=rfl
 len:=by show ((List.replicate (c.toNat+1) false).length:Int)=c+1;rw[Zan];omega
 rd:=rfl
 nd:=fun p j hp _=>absurd hp (Zbv _)
 gn:=fun p hp=>by
  rw[Zf (by omega)];exact Yak _ _ _
theorem YgT {q:Nat}{x:Int}(hn:l.Nodup)(hx:x∈l.take q):∃ p,p<q/\l[p]?=some x/\plcN l x=(p:Int)+1:=by
 obtain⟨p,hp⟩:=ZaS.1 hx;rw[Zae] at hp;split at hp
 .rename_i z;exact⟨p,z,hp,Yax hn hp⟩
 .cases hp
def KidN (l:LI)(k:Nat)(x:Int):Prop:=(x=0/\plcN l x=0)∨(x≠0/\∃ p,p<k/\l[p]?=some x/\plcN l x=(p:Int)+1)
theorem LsN.kid (h:LsN S l)(hw:Wf S hs){q:Nat}{x:Int}(h0:x=0∨S.us x=true)(hx:S.us x=true->x∈l.take q):KidN l q x:=by
 rcases h0 with rfl|u
 .exact .inl ⟨rfl,h.plc0 hw⟩
 .exact .inr ⟨fun e=>(by rw[e,hw.us0 (ZE 0)] at u;cases u),YgT h.nd (hx u)⟩
theorem LsN.kids (h:LsN S l)(hw:Wf S hs){q:Nat}{j:Int}(hj:l[q]?=some j):S.us j=true/\KidN l q (lfA S j)/\KidN l q (rgA S j):=by
 obtain⟨u,h1,h2⟩:=h.ord q j hj;have k:=hw.kid j u;exact⟨u,h.kid hw k.1 h1,h.kid hw k.2 h2⟩
theorem YnH (h:CpB S l c k hb B){x:Int}(hx:KidN l k x)(n:Td):addC B n (plcN l x)=addC S n x:=by
 unfold addC;rcases hx with ⟨e,z⟩|⟨x0,p,hp,e,z⟩
 .rw[Zj z,Zj e]
 .rw[Zf (by omega),Zf x0,z,h.nd p x hp e]
  rfl
theorem YnI (S:Arn)(n:Td)(x a b:Int):addC S { n with left:=a,right:=b } x={ addC S n x with left:=a,right:=b }:=by
 unfold addC;split<;>rfl
theorem YnJ (S:Arn)(k v l r a b:Int):addC S (addC S ⟨k,v,a,b,1,v,v,v⟩ l) r={ Yk S k v l r with left:=a,right:=b }:=by
 unfold Yk;have e1:=YnI S ⟨k,v,l,r,1,v,v,v⟩ l a b;have e2:=YnI S (addC S ⟨k,v,l,r,1,v,v,v⟩ l) r a b;rw[<-e2,<-e1]
theorem YnK (h:CpB S l c k hb B)(ll:LsN S l)(hw:Wf S hs){j:Int}(hj:l[k]?=some j):Yk B (S.nd j).key (S.nd j).value (plcN l (lfA S j)) (plcN l (rgA S j))=cpN S l j:=by
 obtain⟨u,h1,h2⟩:=ll.kids hw hj
 have e:Yk B (S.nd j).key (S.nd j).value (plcN l (lfA S j)) (plcN l (rgA S j))={ Yk S (S.nd j).key (S.nd j).value (lfA S j) (rgA S j) with left:=plcN l (lfA S j),right:=plcN l (rgA S j) }:=by
  rw[<-YnJ];show addC B (addC B _ _) _=_;rw[YnH h h1,YnH h h2]
 rw[e];have a:=hw.agg j u;unfold cpN;show { Yk S (S.nd j).key (S.nd j).value (S.nd j).left (S.nd j).right with left:=plcN l (lfA S j),right:=plcN l (rgA S j) }=_;rw[<-a]
theorem YnL (i n:Nat):(hsI i n).length=n-i:=by simp[hsI]
theorem YpR (k:Nat):hsI 0 (k+1)=hsI 0 k++[(k:Int)+1]:=by
 simp[hsI,List.range_succ]
theorem YpS {i n:Nat}(h:i<n):hsI i n=((i:Int)+1)::hsI (i+1) n:=by
 unfold hsI;rw[Zbg (by simpa using h),ZaA,ZcG]
theorem YsK (n:Nat):hsI n n=[]:=by simp[hsI]
theorem KidN.live (h:CpB S l c k hb B){x:Int}(hx:KidN l k x):plcN l x=0∨B.us (plcN l x)=true:=by
 rcases hx with ⟨_,z⟩|⟨_,p,hp,_,z⟩
 .exact .inl z
 .exact .inr ((h.us _).2 (by omega))
theorem CpB.nxt (h:CpB S l c k hb B):nxt B=(k:Int)+1:=by
 unfold Go.Proofs.YtedfbafngmicpaaGreat.nxt Yaq Yda;rw[h.rel,h.fresh];rfl
structure MkR (S B:Arn) (l:LI) (c:Int) (k:Nat) (j:Int):Prop where
 fl:plcN l (lfA S j)=0∨B.us (plcN l (lfA S j))=true
 fr:plcN l (rgA S j)=0∨B.us (plcN l (rgA S j))=true
 size:(Yk B (S.nd j).key (S.nd j).value (plcN l (lfA S j)) (plcN l (rgA S j))).size<=Ym
 free:0<B.free
 next:CpB S l c (k+1) (hsI 0 (k+1)) (Yt B (S.nd j).key (S.nd j).value (plcN l (lfA S j)) (plcN l (rgA S j)))
theorem CpB.make (h:CpB S l c k (hsI 0 k) B)(ll:LsN S l)(hw:Wf S hs){j:Int}(hj:l[k]?=some j)(hc:(l.length:Int)<=c):MkR S B l c k j:=by
 obtain⟨u,h1,h2⟩:=ll.kids hw hj;have kl:k<l.length:=(Zt.1 hj).1;have em:=YnK h ll hw hj;have z:=hw.siz j u;have fr:0<B.free:=by rw[h.free];omega
 have l1:=h1.live h;have l2:=h2.live h;have sz:(Yk B (S.nd j).key (S.nd j).value (plcN l (lfA S j)) (plcN l (rgA S j))).size<=Ym:=by rw[em];exact z.2.1
 have b2:=h.wf.n2;have ln:=h.len;have nx:=h.nxt;have wf:=h.wf.make (k:=(S.nd j).key) (v:=(S.nd j).value) l1 l2 fr sz (by rw[YnL];omega);have fs:Yaq B=((k:Int)+1,[],(k:Int)+1):=by unfold Yaq Yda;rw[h.rel,h.fresh];rfl
 refine⟨l1,l2,sz,fr,?_,?_,?_,?_,h.rd,fun p i hp hi=>?_,fun p hp=>?_⟩
 .rw[nx] at wf;rw[YpR];exact wf.perm (ZbP _ _).symm
 .show (Yaq B).2.2=_;rw[fs];simp
 .show (Yaq B).2.1=_;rw[fs]
 .show ((B.used.set _ true).length:Int)=_;rw[ZaB];exact ln
 .show (B.nodes.set (Go.Proofs.YtedfbafngmicpaaGreat.nxt B).toNat (Yk B _ _ _ _)).getD ((p:Int)+1).toNat Td.zero=_;rw[YQ,nx,em]
  by_cases e:p=k
  .subst e;rw[Zj ⟨rfl,by rw[h.wf.nnod];omega⟩];rw[hj] at hi;rw[Zai hi]
  .rw[Zf (by omega)];exact h.nd p i (by omega) hi
 .show (B.gen.set (Go.Proofs.YtedfbafngmicpaaGreat.nxt B).toNat (Ze.wrap (B.gn (Go.Proofs.YtedfbafngmicpaaGreat.nxt B)+1))).getD p.toNat 0=_;rw[YQ,nx]
  by_cases e:p=(k:Int)+1
  .rw[Zj ⟨by omega,by rw[h.wf.ngen];omega⟩,h.gn _ (by omega),Zf (by omega),Zj (by omega)];decide
  .rw[Zf (by omega)];have q:=h.gn p hp;unfold Arn.gn at q;rw[q]
   by_cases y:p<=(k:Int)
   .rw[Zj y,Zj (by omega)]
   .rw[Zf y,Zf (by omega)]
theorem CpB.perm {hb':LI}(h:CpB S l c k hb B)(p:hb.Perm hb'):CpB S l c k hb' B:={ h with wf:=h.wf.perm p }
theorem CpB.ret (h:CpB S l c k hb B){i:Int}(hi:i=0∨B.us i=true)(hl:hb.length<=999999990):CpB S l c k (i::hb) (retL B i):=by
 obtain⟨f1,f2,f3,f4,f5⟩:=Yan B i;refine⟨Yfc h.wf hi hl,?_,?_,by rw[f2];exact h.len,by rw[f1];exact h.rd,fun p j hp hj=>by rw[f4];exact h.nd p j hp hj,fun p hp=>by rw[f5];exact h.gn p hp⟩
 .rw[<-h.fresh];unfold retL;split<;>rfl
 .rw[<-h.rel];unfold retL;split<;>rfl
theorem CpB.dec {i:Int}(h:CpB S l c k (i::hb) B)(u:B.us i=true)(h1:1<B.ct i):CpB S l c k hb (decS B i) :=
 ⟨h.wf.dec u h1,h.fresh,h.rel,h.len,h.rd,h.nd,h.gn⟩
theorem CpB.two {rs:LI}{i:Nat}(hn:Yx S rs [] l)(ll:LsN S l)(hi:i<l.length)(h:CpB S l c l.length (((i:Int)+1)::(rs.map (plcN l)++hb)) B):B.us ((i:Int)+1)=true/\1<B.ct ((i:Int)+1):=by
 have u:B.us ((i:Int)+1)=true:=(h.us _).2 (by omega);refine⟨u,?_⟩;obtain⟨h1,_⟩:=h.wf.cnt _ u;rw[Zby,Zbm] at h1;obtain⟨j,hj⟩:∃ j,l[i]?=some j:=⟨_,Zk hi⟩
 have pj:=Yax ll.nd hj;rcases hn.par j (ZD hj) with q|q|⟨x,hx,q⟩
 .cases q
 .have:0<(rs.map (plcN l)).count ((i:Int)+1):=ZbX.2 (by rw[<-pj];exact ZF.2 ⟨j,q,rfl⟩);omega
 .obtain⟨m,hm⟩:=ZaS.1 hx;have ml:m<l.length:=(Zt.1 hm).1;have en:=h.nd m x ml hm;have ln:=h.wf.nnod
  have le:(m:Int)+1<B.used.length:=by
   have:=h.wf.pos ((h.us ((m:Int)+1)).2 (by omega));omega
  have mem:B.nd ((m:Int)+1)∈B.nodes:=by
   unfold Arn.nd;rw[Zb,Zk (by omega)];exact Zaa _
  have:0<B.indeg ((i:Int)+1):=by
   unfold Arn.indeg;rcases q with q|q
   .have:0<B.nodes.countP (fun x=>x.left==(i:Int)+1):=Zbp.2 ⟨_,mem,by rw[en];show (plcN l (lfA S x)==_)=true;rw[q,pj];simp⟩;omega
   .have:0<B.nodes.countP (fun x=>x.right==(i:Int)+1):=Zbp.2 ⟨_,mem,by rw[en];show (plcN l (rgA S x)==_)=true;rw[q,pj];simp⟩;omega
  omega
end
end Go.Proofs.YtedfbafngmicpaaGreat
namespace Go.Proofs.YtedfbafngmicpaaGreat.Sx
open Go
section
section
variable {us:Int->Bool} {lf rg:Int->Int}
def notI (K acc:LI):LI:=acc.filter fun j=>!K.contains j
theorem YgU {K acc:LI}{j:Int}:j∈notI K acc↔j∈acc/\j∉K:=by
 unfold notI;rw[Zcv];simp
theorem Yis (K acc:LI)(i:Int):notI K (acc++[i])=notI K acc++if i∈K then [] else [i]:=by
 unfold notI;rw[ZcH]
 congr 1
 by_cases h:i∈K
 .simp[h]
 .simp[h]
theorem YpT {K:LI}(hK:∀ j∈K,(us (lf j)=true->lf j∈K)/\(us (rg j)=true->rg j∈K)){i:Int}{acc a:LI}(h:NumG us lf rg i acc a):NumG us lf rg i (K++notI K acc) (K++notI K a):=by
 have old:∀ {x:Int} {b c:LI},(us x=true->x∈K)->NumG us lf rg x (K++notI K b) (K++notI K c)->K++notI K c=K++notI K b:=fun {x b c} hx q=>by
  refine q.det (.skip ?_);cases u:us x with
  | false=>exact .inl rfl
  | true=>exact .inr (ZZ _ (hx u))
 induction h with
 | @skip i acc c =>
  refine .skip (c.imp id fun c=>?_)
  by_cases k:i∈K
  .exact ZZ _ k
  .exact Zaf _ (YgU.2 ⟨c,k⟩)
 | @go i acc a1 a2 u c n1 n2 ih1 ih2 =>
  rw[Yis]
  by_cases k:i∈K
  .rw[Zj k,ZR,old (hK i k).2 ih2,old (hK i k).1 ih1];exact .skip (.inr (ZZ _ k))
  .rw[Zf k,<-Zo];refine .go u (fun q=>?_) ih1 ih2;rcases Zx.1 q with q|q
   .exact k q
   .exact c (YgU.1 q).1
theorem YnM {K:LI}(hK:∀ j∈K,(us (lf j)=true->lf j∈K)/\(us (rg j)=true->rg j∈K)){r:LI}{acc a:LI}(h:NumsG us lf rg r acc a):NumsG us lf rg r (K++notI K acc) (K++notI K a):=by
 induction h with
 | nil=>exact .nil
 | cons n1 _ ih=>exact .cons (YpT hK n1) ih
end
end
def refL (n:Nat)(la:LI):LI:=(List.range (n+1)).map fun (j:Nat)=>plcN la j
theorem YaO (n:Nat)(la:LI):(refL n la).length=n+1:=by unfold refL;rw[Zu,ZaF]
theorem YgV {n:Nat}{la:LI}{j:Int}(h0:0<=j)(h:j<=n):getB (refL n la) j.toNat=plcN la j:=by
 unfold refL getB;rw[Zb,Zv,ZaD (by omega)];show plcN la (j.toNat:Int)=_;rw[ZcB h0]
theorem YjA {n:Nat}{la:LI}{i:Nat}(h:i<(refL n la).length):(refL n la)[i]=plcN la (i:Int):=by simp[refL]
theorem YpU (n:Nat):List.replicate (n+1) (0:Int)=refL n []:=by
 refine Zbd (by rw[Zan,YaO]) fun i h1 h2=>?_
 rw[List.getElem_replicate,YjA];rfl
theorem Yit {n:Nat}{la:LI}{i v:Int}(h0:0<=i)(h1:i<=n)(hi:i∉la)(e:v=(la.length:Int)+1):(refL n la).set i.toNat v=refL n (la++[i]):=by
 refine Zbd (by rw[ZaB,YaO,YaO]) fun k h2 h3=>?_
 have h4:=h3;rw[YaO] at h4;rw[List.getElem_set,YjA,YjA,Ydk la i k hi,e]
 by_cases c:i.toNat=k
 .rw[Zj c,Zj (by omega)]
 .rw[Zf c,Zf (by omega)]
theorem NumsD.few {d:LS}(hd:DgW d){rs l:LI}(h:NumsD d rs [] l):l.length<=d.length/\l.Nodup/\∀ j∈l,1<=j/\j<=d.length:=by
 obtain⟨rk,hk⟩:=hd.ex;have nd:=h.nodup (sz:=rk) hk.sz ZaX;have us:=h.used (fun j hj=>by cases hj);have rg:∀ j∈l,1<=j/\j<=(d.length:Int):=fun j hj=>Yw (us j hj)
 have q:=YfT l ((List.range d.length).map fun (n:Nat)=>(n:Int)+1) nd fun x hx=>by
  have p:=rg x hx;exact ZF.2 ⟨(x-1).toNat,ZaK.2 (by omega),by omega⟩
 rw[Zu,ZaF] at q;exact⟨q,nd,rg⟩
theorem YnN {d:LS}{ks rs lk al:LI}(n1:NumsD d ks [] lk)(n3:NumsD d rs [] al):NumsD d rs lk (lk++notI lk al):=by
 have o:=n1.ord OrdG.nil
 have hK:∀ j∈lk,(alcD d (lfD d j)=true->lfD d j∈lk)/\(alcD d (rgD d j)=true->rgD d j∈lk):=fun j hj=>by
  obtain⟨p,hp⟩:=ZaZ hj;obtain⟨_,a,b⟩:=o p j hp;exact⟨fun u=>Zac (a u),fun u=>Zac (b u)⟩
 have q:=YnM hK n3;rw[show notI lk []=[] from rfl,ZR] at q;exact q
structure XRe (P:LI->Nat->Prop) where
 lk:LI
 i:Nat
 h:P lk i
structure XRf (P:LI->LI->LI->Nat->Prop) where
 lk:LI
 al:LI
 f:LI
 i:Nat
 h:P lk al f i
def aRf (P1:LI->Nat->Prop)(P2:LI->LI->LI->Nat->Prop)(d:LS)(fl rs ks:LI):Ann C0:={ quiet:=[9999999],Γ:=[(23,Yc [] tN28)],inv:=fun m=>match m with
 | 4=>some { X:=XRe P1,sl:=[3,9,10,11],tf:=fun x=>[.one (.at (.ptr 4 0)),.one (.at (.slc 5)),.one (.at (.slc 6)),vi .i64 x.i],hf:=fun x=>[.row false .slot d,.row false .u32 fl,.row false .u32 rs,.row false .u32 ks,.box [.slc 0,.slc 1],.row true .u64 (refL d.length (x.lk.take x.i)),.row true .u32 x.lk],μ:=fun x=>x.lk.length-x.i }
 | 10=>some { X:=XRf P2,sl:=[9,10,12,13,14],tf:=fun x=>[.one (.at (.slc 4)),.one (.at (.slc 5)),.one (.at (.slc 6)),.one (.at (.slc 7)),vi .i64 x.i],hf:=fun x=>[.row false .slot d,.row false .u32 fl,.row false .u32 rs,.row false .u32 ks,.row true .u64 (refL d.length (x.lk++x.f)),.row true .u32 x.lk,.row true .u32 x.f,.row true .u32 x.al],μ:=fun x=>x.al.length-x.i }
 | _=>none }
abbrev dgM (H:LH C0)(k:LS->LI->LI->LI->Prop):Prop:=match H with
 | [.row false .slot d,.row false .u32 fl,.row false .u32 rs,.row false .u32 ks]=>k d fl rs ks
 | _=>False
abbrev hD4 (d:LS)(fl rs ks:LI):LH C0:=[.row false .slot d,.row false .u32 fl,.row false .u32 rs,.row false .u32 ks]
def tRf:Tfm C0:=fun args H K=>match args with
 | [.agg [.slc 0,.slc 1],.at (.slc 2),.at (.slc 3)]=>dgM H fun d fl rs ks=>DgW d/\rs.length<=1000000/\ks.length<=1000000/\Yby rs/\Yby ks/\∀ lk la,NumsD d ks [] lk->NumsD d rs lk la->∀ r f n,r=refL d.length la->f=la.drop lk.length->n=(lk.length:Int)->K (.tup [.at (.slc 4),.at (.slc 5),.at (vI n)]) (hD4 d fl rs ks++[.row true .u64 r,.row true .u32 f]) []
 | _=>False
def PRe (d:LS)(ks:LI):LI->Nat->Prop:=fun lk i=>i<=lk.length/\NumsD d ks [] lk
def PRf (d:LS)(ks rs:LI):LI->LI->LI->Nat->Prop:=fun lk al f i=>i<=al.length/\NumsD d ks [] lk/\NumsD d rs [] al/\f=notI lk (al.take i)
theorem YfV {l:LI}(nd:l.Nodup){i:Nat}(h:i<l.length):getB l i∉l.take i:=fun c=>by
 obtain⟨j,hj,e⟩:=Zbx.1 c;rw[ZG] at hj;rw[List.getElem_take] at e;have e2:getB l i=l[i]:=by unfold getB;rw[Zb,Zk h];rfl
 rw[e2] at e;have:=(List.getElem_inj nd).1 e;omega
theorem Yyi (d:LS)(fl rs ks:LI)(K:KT)(hd:DgW d)(hr:rs.length<=1000000)(hk:ks.length<=1000000)(vr:Yby rs)(vk:Yby ks)(h:∀ lk la,NumsD d ks [] lk->NumsD d rs lk la->∀ r f n,r=refL d.length la->f=la.drop lk.length->n=(lk.length:Int)->K (.tup [.at (.slc 4),.at (.slc 5),.at (vI n)]) (hD4 d fl rs ks++[.row true .u64 r,.row true .u32 f]) []) :
  vc C0 (aRf (PRe d ks) (PRf d ks rs) d fl rs ks) Tryz.f67 [.agg [.slc 0,.slc 1],.at (.slc 2),.at (.slc 3)] (hD4 d fl rs ks) (Yh 4 K):=by
 generalize hP1:PRe d ks=P1;generalize hP2:PRf d ks rs=P2
 refine Eq.mp (show (0<=Za.wrap ((d.length:Int)+1)/\Za.wrap ((d.length:Int)+1)<=Za.wrap ((d.length:Int)+1)/\Za.wrap ((d.length:Int)+1)*(↑(Yd C0 EC.u64):Int)<=140737488355328/\DgW d/\ks.length<=1000000/\Yby ks/\∀ l:LI,NumsD d ks [] l->(∃ x:XRe P1,True/\(True/\True/\True/\True/\VI 0=(VI (x.i:Int))/\True)/\d=d/\fl=fl/\rs=rs/\ks=ks/\(True/\True/\True)/\(List.replicate (Za.wrap ((d.length:Int)+1)).toNat (0:Int))=(refL d.length (Zn x.i x.lk))/\l=x.lk/\True)/\∀ x:XRe P1,True->brS (decide ((x.i:Int)<(x.lk.length:Int))) (0<=(x.i:Int)/\(x.i:Int)<(x.lk.length:Int)/\0<=getB x.lk (x.i:Int).toNat/\getB x.lk (x.i:Int).toNat<(↑(refL d.length (Zn x.i x.lk)).length:Int)/\∃ x':XRe P1,True/\((True/\True/\True/\True/\(VI (Za.wrap ((x.i:Int)+1)))=(VI (x'.i:Int))/\True)/\d=d/\fl=fl/\rs=rs/\ks=ks/\(True/\True/\True)/\((refL d.length (Zn x.i x.lk)).set (getB x.lk (x.i:Int).toNat).toNat (Zd.wrap (Za.wrap ((x.i:Int)+1))))=(refL d.length (Zn x'.i x'.lk))/\x.lk=x'.lk/\True)/\x'.lk.length-x'.i<x.lk.length-x.i) (DgW d/\rs.length<=1000000/\Yby rs/\∀ l1:LI,NumsD d rs [] l1->(∃ x1:XRf P2,True/\(True/\True/\True/\True/\VI 0=(VI (x1.i:Int))/\True)/\d=d/\fl=fl/\rs=rs/\ks=ks/\(refL d.length (Zn x.i x.lk))=(refL d.length (x1.lk++x1.f))/\x.lk=x1.lk/\[]=x1.f/\l1=x1.al/\True)/\∀ x1:XRf P2,True->brS (decide ((x1.i:Int)<(x1.al.length:Int))) (0<=(x1.i:Int)/\(x1.i:Int)<(x1.al.length:Int)/\0<=getB x1.al (x1.i:Int).toNat/\
 getB x1.al (x1.i:Int).toNat<(↑(refL d.length (x1.lk++x1.f)).length:Int)/\brS (getB (refL d.length (x1.lk++x1.f)) (getB x1.al (x1.i:Int).toNat).toNat==0) (0<=(x1.i:Int)/\(x1.i:Int)<(x1.al.length:Int)/\(x1.f.length+[getB x1.al (x1.i:Int).toNat].length)*Yd C0 EC.u32<=140737488355328/\0<=(x1.i:Int)/\(x1.i:Int)<(x1.al.length:Int)/\0<=getB x1.al (x1.i:Int).toNat/\getB x1.al (x1.i:Int).toNat<(↑(refL d.length (x1.lk++x1.f)).length:Int)/\∃ x':XRf P2,True/\((True/\True/\True/\True/\(VI (Za.wrap ((x1.i:Int)+1)))=(VI (x'.i:Int))/\True)/\d=d/\fl=fl/\rs=rs/\ks=ks/\((refL d.length (x1.lk++x1.f)).set (getB x1.al (x1.i:Int).toNat).toNat (Zd.wrap (Za.wrap ((x1.lk.length:Int)+(↑(x1.f++[getB x1.al (x1.i:Int).toNat]).length:Int)))))=(refL d.length (x'.lk++x'.f))/\x1.lk=x'.lk/\(x1.f++[getB x1.al (x1.i:Int).toNat])=x'.f/\x1.al=x'.al/\True)/\x'.al.length-x'.i<x1.al.length-x1.i) (∃ x':XRf P2,True/\((True/\True/\True/\True/\(VI (Za.wrap ((x1.i:Int)+1)))=(VI (x'.i:Int))/\True)/\d=d/\fl=fl/\rs=rs/\ks=ks/\(refL d.length (x1.lk++x1.f))=(refL d.length (x'.lk++x'.f))/\x1.lk=x'.lk/\x1.f=x'.f/\x1.al=x'.al/\True)/\x'.al.length-x'.i<x1.al.length-x1.i)) (K (.tup [(.at (.slc 4)),(.at (.slc 5)),(.at (.val (VI (x1.lk.length:Int))))]) [(.row false .slot (d)),(.row false .u32 (fl)),(.row false .u32 (rs)),(.row false .u32 (ks)),(.row true .u64 (refL d.length (x1.lk++x1.f))),(.row true .u32 (x1.f))] [])))=_ by kernel_rfl) ?_
 subst hP1 hP2;have dl:=hd.len;rw[Yb (x:=(d.length:Int)+1) (by omega) (by omega),Ydc,show ((d.length:Int)+1).toNat=d.length+1 by omega];refine⟨by omega,ZE _,by omega,hd,hk,vk,fun l nl=>⟨⟨⟨l,0,ZC _,nl⟩,trivial,⟨trivial,trivial,trivial,trivial,rfl,trivial⟩,rfl,rfl,rfl,rfl,⟨trivial,trivial,trivial⟩,YpU _,rfl,trivial⟩,fun x _=>Ya (fun z=>?_) fun z=>?_⟩⟩
 .obtain⟨lk,i,hi,nk⟩:=x;dsimp only at z ⊢;have zi:i<lk.length:=by have:=Zc z;omega
  clear z;obtain⟨f1,f2,f3⟩:=nk.few hd;obtain⟨g1,g2⟩:=f3 _ (Yj zi);rw[show ((i:Int)).toNat=i from rfl,Yb (x:=(i:Int)+1) (by omega) (by omega),Yf (x:=(i:Int)+1) (by omega) (by omega)];refine⟨by omega,by omega,by omega,by rw[YaO];omega,⟨lk,i+1,zi,nk⟩,trivial,⟨⟨trivial,trivial,trivial,trivial,rfl,trivial⟩,rfl,rfl,rfl,rfl,⟨trivial,trivial,trivial⟩,?_,rfl,trivial⟩,ZI zi (ZO i)⟩;rw[Yo zi];exact Yit (by omega) g2 (YfV f2 zi) (by rw[ZG];omega)
 .obtain⟨lk,i,hi,nk⟩:=x;dsimp only at z ⊢;have z:i=lk.length:=by have:=Zg z;omega
  subst z;rw[ZJ];refine⟨hd,hr,vr,fun al nal=>⟨⟨⟨lk,al,[],0,ZC _,nk,nal,rfl⟩,trivial,⟨trivial,trivial,trivial,trivial,rfl,trivial⟩,rfl,rfl,rfl,rfl,by rw[ZR],rfl,rfl,rfl,trivial⟩,fun x _=>Ya (fun z=>?_) fun z=>?_⟩⟩
  .obtain⟨lk,al,f,i,hi,nk,nal,ef⟩:=x;dsimp only at z ⊢;have zi:i<al.length:=by have:=Zc z;omega
   clear z;obtain⟨f1,f2,f3⟩:=nal.few hd;obtain⟨q1,q2,q3⟩:=nk.few hd;obtain⟨g1,g2⟩:=f3 _ (Yj zi);have fr:=YfV f2 zi;have sn:=Yis lk (al.take i) (getB al i);rw[<-Yo zi,<-ef] at sn;have nf:getB al i∉f:=fun c=>by rw[ef] at c;exact fr (YgU.1 c).1
   have fl_:f.length<=al.length:=by
    rw[ef];have:=Zcs (fun j=>!lk.contains j) (al.take i);rw[ZG] at this;unfold notI;omega
   rw[show ((i:Int)).toNat=i from rfl,Yb (x:=(i:Int)+1) (by omega) (by omega)];rw[YgV (by omega) g2];refine⟨by omega,by omega,by omega,by rw[YaO];omega,Ya (fun y=>?_) fun y=>?_⟩
   .have y:plcN (lk++f) (getB al i)=0:=eq_of_beq y;have ny:getB al i∉lk++f:=fun c=>by have:=Ycg.2 c;omega
    have nl:getB al i∉lk:=fun c=>ny (ZZ _ c)
    rw[Zf nl] at sn;have ll:((f++[getB al i]).length:Int)=(f.length:Int)+1:=by rw[Zh];rfl
    have ll2:((lk++f).length:Int)=(lk.length:Int)+f.length:=by rw[Zh];omega
    rw[ll,Yb (x:=(lk.length:Int)+((f.length:Int)+1)) (by omega) (by omega),Yf (x:=(lk.length:Int)+((f.length:Int)+1)) (by omega) (by omega)];refine⟨by omega,by omega,by rw[Ys,Zr];omega,by omega,by omega,by omega,by rw[YaO];omega,⟨lk,al,f++[getB al i],i+1,zi,nk,nal,sn.symm⟩,trivial,⟨⟨trivial,trivial,trivial,trivial,rfl,trivial⟩,rfl,rfl,rfl,rfl,?_,rfl,rfl,rfl,trivial⟩,ZI zi (ZO i)⟩;show _=refL d.length (lk++(f++[getB al i]));rw[<-Zo];exact Yit (by omega) g2 ny (by rw[ll2];omega)
   .have y:plcN (lk++f) (getB al i)≠0:=fun c=>by rw[c] at y;exact absurd y (by decide)
    have pr:=YD (lk++f) (getB al i);have iy:getB al i∈lk:=(Zx.1 (Ycg.1 (show 0<plcN (lk++f) (getB al i) by omega))).resolve_right nf;rw[Zj iy,ZR] at sn;refine⟨⟨lk,al,f,i+1,zi,nk,nal,sn.symm⟩,trivial,⟨⟨trivial,trivial,trivial,trivial,rfl,trivial⟩,rfl,rfl,rfl,rfl,rfl,rfl,rfl,rfl,trivial⟩,ZI zi (ZO i)⟩
  .obtain⟨lk,al,f,i,hi,nk,nal,ef⟩:=x;dsimp only at z ⊢;have z:i=al.length:=by have:=Zg z;omega
   rw[z,ZJ] at ef;subst ef;exact h lk _ nk (YnN nk nal) _ _ _ rfl (by rw[Zcc]) rfl
theorem s_rf:Tb C0 67 tRf:=by
 refine .of Tryz.func67 (by decide) rfl fun args H K h hB=>?_
 unfold tRf at h;split at h<;>try exact h.elim
 unfold dgM at h;split at h<;>try exact h.elim
 rename_i _ d fl rs ks;obtain⟨h1,h2,h3,h4,h5,h6⟩:=h;exact⟨aRf (PRe d ks) (PRf d ks rs) d fl rs ks,⟨Ye C0.ok Yvu _,trivial⟩,Yyi d fl rs ks K h1 h2 h3 h4 h5 h6⟩
section
def nodQ (d:LS)(la:LI)(i:Int):PNT:=⟨(sltD d i).node.key,(sltD d i).node.value,plcN la (lfD d i),plcN la (rgD d i)⟩
def pkQ (d:LS)(lk la rs:LI)(D:Int):LI:=pkE lk.length D ((la.drop lk.length).map (nodQ d la)) (rs.map (plcN la))
def DgD (d:LS)(rs:LI)(D:Int):Prop:=(rs=[]/\D=0)∨(rs≠[]/\∃ l,NumsD d rs [] l/\D=crc (pkQ d [] l rs 0))
structure ExD (d:LS) (rs ks o:LI):Prop where
 ex:∃ lk la D,NumsD d ks [] lk/\NumsD d rs lk la/\DgD d ks D/\o=pkQ d lk la rs D
 ab:allB o
 bl:o.length<=8000000
def InD (d:LS)(l:LI):Prop:=∀ i∈l,rngI (sltD d i).node.key/\rngI (sltD d i).node.value
def KyD (d:LS)(rs:LI):Prop:=∀ l,NumsD d rs [] l->InD d l
def inL (d:LS)(l:LI):Prop:=∀ x∈l,0<=x/\x<=(d.length:Int)
def KdD (d:LS):Prop:=∀ i,alcD d i=true->(0<=lfD d i/\lfD d i<=(d.length:Int))/\0<=rgD d i/\rgD d i<=(d.length:Int)
structure ExB8 (d:LS) (rs ks:LI):Prop where
 w:DgW d
 kd:KdD d
 rl:rs.length<=90000
 kl:ks.length<=90000
 ri:inL d rs
 ki:inL d ks
 ky:KyD d (ks++rs)
def tExQ (B:LS->LI->LI->Prop):Tfm C0:=fun args H K=>match args with
 | [.agg [.slc 0,.slc 1],.at (.slc 2),.at (.slc 3)]=>dgM H fun d fl rs ks=>B d rs ks/\∀ o,ExD d rs ks o->K (.one (.at (.slc 4))) (hD4 d fl rs ks++[.row true .u8 o]) []
 | _=>False
def tDgD (Q:LS->LI->Prop):Tfm C0:=fun args H K=>match args,H with
 | [.agg [.slc 0,.slc 1],.at (.slc 2)],[.row false .slot d,.row false .u32 fl,.row false .u32 rs]=>Q d rs/\∀ D,DgD d rs D->0<=D->D<4294967296->K (.one (.at (vU D))) [.row false .slot d,.row false .u32 fl,.row false .u32 rs] []
 | _,_=>False
abbrev bxN8 (x:Td):Ta C0:=.box [vI x.key,vI x.value,vU x.left,vU x.right,vI x.size,vI x.sum,vI x.min,vI x.max]
def eNq (d:LS)(lk la:LI)(i:Nat):Td:=(eS d (getB (la.drop lk.length) i-1).toNat).node
structure XE8a (P:LI->LI->LI->Nat->Prop) where
 lk:LI
 la:LI
 o:LI
 i:Nat
 h:P lk la o i
structure XE8b (P:LI->LI->LI->LI->Nat->Prop) where
 lk:LI
 la:LI
 o:LI
 q:LI
 i:Nat
 h:P lk la o q i
def Yyj (B:LS->LI->Prop)(P1 P0 P3:LI->LI->LI->Nat->Prop)(P4 P2:LI->LI->LI->LI->Nat->Prop)(d:LS)(fl rs ks:LI):Ann C0:={ quiet:=[9999999,68,69,72,73],Γ:=[(67,Yc [] tRf),(68,Yc [] tVr),(69,Yc [] tFr8),(72,Yc [] tKb),(73,Yc [] tZr),(70,Yc [] tJnR),(71,Yc [] tWd),(37,Yc [] (tDgD B))],inv:=fun m=>match m with
 | 5=>some { X:=XE8a P1,sl:=[3,7,8,11,12],tf:=fun x=>[.one (.at (.ptr 4 0)),.one (.at (.slc 5)),.one (.at (.slc 6)),.one (.at (.slc 7)),vi .i64 x.i],hf:=fun x=>hD4 d fl rs ks++[.box [.slc 0,.slc 1],.row true .u64 (refL d.length x.la),.row true .u32 (x.la.drop x.lk.length),.row true .u8 x.o],μ:=fun x=>200000-x.i }
 | 1008=>some { X:=XE8a P0,sl:=[3,7,8,11,12,13],tf:=fun x=>[.one (.at (.ptr 4 0)),.one (.at (.slc 5)),.one (.at (.slc 6)),.one (.at (.slc 7)),vi .i64 x.i,.one (.at (.ptr 8 0))],hf:=fun x=>hD4 d fl rs ks++[.box [.slc 0,.slc 1],.row true .u64 (refL d.length x.la),.row true .u32 (x.la.drop x.lk.length),.row true .u8 x.o,bxN8 (eNq d x.lk x.la x.i)],rel:=fun T _ x=>YaM T 12 x.i }
 | 1009=>some { X:=XE8b P2,sl:=[3,7,8,11,12,13,14],tf:=fun x=>[.one (.at (.ptr 4 0)),.one (.at (.slc 5)),.one (.at (.slc 6)),.one (.at (.slc 7)),vi .i64 x.i,.one (.at (.ptr 8 0)),.one (.at (.slc 9))],hf:=fun x=>hD4 d fl rs ks++[.box [.slc 0,.slc 1],.row true .u64 (refL d.length x.la),.row true .u32 (x.la.drop x.lk.length),.row true .u8 x.o,bxN8 (eNq d x.lk x.la x.i),.row true .u8 x.q],rel:=fun T _ x=>YaM T 12 x.i }
 | 1006=>some { X:=XE8a P3,sl:=[3,7,8,11,12],tf:=fun x=>[.one (.at (.ptr 4 0)),.one (.at (.slc 5)),.one (.at (.slc 6)),.one (.at (.slc 7)),vi .i64 x.i],hf:=fun x=>hD4 d fl rs ks++[.box [.slc 0,.slc 1],.row true .u64 (refL d.length x.la),.row true .u32 (x.la.drop x.lk.length),.row true .u8 x.o],rel:=fun T _ x=>YaM T 12 x.i }
 | 12=>some { X:=XE8b P4,sl:=[7,10,11,15],tf:=fun x=>[.one (.at (.slc 4)),.one (.at (.slc 5)),.one (.at (.slc 6)),vi .i64 x.i],hf:=fun x=>hD4 d fl rs ks++[.row true .u64 (refL d.length x.la),.row true .u8 x.q,.row true .u8 x.o],μ:=fun x=>rs.length-x.i }
 | _=>none }
def Yvx (B:LS->LI->LI->Prop):Ann C0:={ Γ:=[(25,Yc [] (tExQ B)),(83,Yc [] tCk)] }
theorem inL.v {d:LS}(hd:DgW d){l:LI}(h:inL d l):Yby l:=fun x hx=>by
 have:=h x hx;have:=hd.len;exact⟨by omega,by omega⟩
theorem YnO {d:LS}{rk:Int->Nat}(hd:DgK d rk):∀ (n:Nat) (i:Int),rk i<=n->RepG (alcD d) (lfD d) (rgD d) n i
 | 0,i,h=>by
  cases u:alcD d i with
  | false=>exact u
  | true=>have:=hd.sz i u;omega
 | n+1,i,h=>by
  cases u:alcD d i with
  | false=>exact .inl u
  | true =>
   have:=hd.sz i u;exact .inr ⟨YnO hd n _ (by omega),YnO hd n _ (by omega)⟩
theorem YpV {d:LS}(hd:DgW d)(r acc:LI):∃ a,NumsD d r acc a:=by
 obtain⟨rk,hk⟩:=hd.ex;exact NumsG.ex r acc fun i _=>⟨_,YnO hk _ i (Zw _)⟩
theorem KyD.left {d:LS}(hd:DgW d){ks rs:LI}(h:KyD d (ks++rs)):KyD d ks:=fun l nl=>by
 obtain⟨la,na⟩:=YpV hd rs l;intro i hi;exact h la (nl.app na) i (na.sub hi)
def woF (f:Int->PNT)(l:LI)(D:Int)(k nr i:Nat):LI:=(((l.drop k).take i).map f).foldl (fun o x=>rcE o (encN x)) (YgQ k ((l.drop k).length:Nat) nr D)
theorem YnP (f:Int->PNT)(l:LI)(D:Int)(k nr i:Nat):(woF f l D k nr i).length<=56+56*l.length:=by
 have h1:=YeY (((l.drop k).take i).map f) (YgQ k ((l.drop k).length:Nat) nr D);have h2:=Yil k ((l.drop k).length:Nat) nr D;have h3:(((l.drop k).take i).map f).length<=l.length:=by rw[Zu,ZG,Zy];omega
 exact Zap h1 (by omega)
theorem Yvy (f:Int->PNT){l:LI}(D:Int){k nr i:Nat}(h:i<(l.drop k).length):woF f l D k nr (i+1)=rcE (woF f l D k nr i) (encN (f (getB (l.drop k) i))):=by
 unfold woF;rw[Yo h,ZX,ZaO];rfl
theorem YjB {d:LS}{l:LI}(hk:InD d l)(hl:l.length<=100000){i:Int}(hi:i∈l):okP (nodQ d l i):=by
 have a:=YD l (lfD d i);have b:=YD l (rgD d i);exact⟨(hk i hi).1,(hk i hi).2,⟨a.1,by show plcN l (lfD d i)<_;omega⟩,b.1,by show plcN l (rgD d i)<_;omega⟩
theorem YpW {d:LS}{l:LI}{D:Int}{k nr i:Nat}(hk:InD d l)(hl:l.length<=100000)(h1:k<=1000000)(h2:nr<=1000000):allB (woF (nodQ d l) l D k nr i):=by
 refine YdI _ _ (YfU D h1 (by rw[Zy];omega) h2) fun x hx=>?_
 obtain⟨j,hj,rfl⟩:=ZF.1 hx;exact YjB hk hl (Zaj (Zac hj))
structure ExF8 (d:LS) (rs ks lk la:LI) (D:Int):Prop where
 nk:NumsD d ks [] lk
 na:NumsD d rs lk la
 dg:DgD d ks D
 kin:InD d la
 len:la.length<=100000
 us:∀ j∈la,alcD d j=true
 le:lk.length<=la.length
def PE1 (d:LS)(rs ks:LI):LI->LI->LI->Nat->Prop:=fun lk la o i=>∃ D,ExF8 d rs ks lk la D/\i<=(la.drop lk.length).length/\o=woF (nodQ d la) la D lk.length rs.length i
def PE0 (d:LS)(rs ks:LI):LI->LI->LI->Nat->Prop:=fun lk la o i=>∃ D,ExF8 d rs ks lk la D/\i<(la.drop lk.length).length/\o=woF (nodQ d la) la D lk.length rs.length i
def PE3 (d:LS)(rs ks:LI):LI->LI->LI->Nat->Prop:=fun lk la o i=>∃ D,ExF8 d rs ks lk la D/\i<(la.drop lk.length).length/\o=woF (nodQ d la) la D lk.length rs.length (i+1)
def PE2 (d:LS)(rs ks:LI):LI->LI->LI->LI->Nat->Prop:=fun lk la o q i=>PE0 d rs ks lk la o i/\q=uvA (kB (eNq d lk la i).key) (zz (eNq d lk la i).value)
def PE4 (d:LS)(rs ks:LI):LI->LI->LI->LI->Nat->Prop:=fun lk la o q i=>i<=rs.length/\PE1 d rs ks lk la o (la.drop lk.length).length/\q=vsE [] ((rs.take i).map (plcN la))
theorem Yvz (x:PNT):uvA (uvA (uvA (kB x.key) (zz x.value)) x.left) x.right=encN x:=by
 unfold uvA encN vsE;simp[Zo]
theorem Yyk (k m r D:Int):jnA (uvA (uvA (uvA [] k) m) r) (wB 4 D)=hdE k m r D:=by
 unfold jnA uvA hdE vsE;simp[Zo]
theorem Yyl (l:LI)(u:Int):uvA (vsE [] l) u=vsE [] (l++[u]):=by
 unfold uvA vsE;rw[Zbn,Zo];simp
theorem Yrh (l:LI):(vsE [] l).length<=11*l.length:=by
 have:=YcK l;unfold vsE;rw[ZS];exact this
theorem YvA {l r:LI}(h:l.length<=100000):allB (vsE [] (r.map (plcN l))):=Ydm Yci fun u hu=>by
 obtain⟨r,_,rfl⟩:=ZF.1 hu;have pr:=YD l r;omega
abbrev O48 (f o:LI)(Z_:Prop):Prop:=0<=Zd.wrap (f.length:Int)/\Zd.wrap (f.length:Int)<18446744073709551616/\o.length<=900000000/\Z_
theorem YsL (B:LS->LI->Prop)(d:LS)(fl rs ks:LI)(K:KT)(hb:ExB8 d rs ks)(hB:B d ks)(h:∀ o,ExD d rs ks o->K (.one (.at (.slc 4))) (hD4 d fl rs ks++[.row true .u8 o]) []) :
  vc C0 (Yyj B (PE1 d rs ks) (PE0 d rs ks) (PE3 d rs ks) (PE4 d rs ks) (PE2 d rs ks) d fl rs ks) Tryz.f25 [.agg [.slc 0,.slc 1],.at (.slc 2),.at (.slc 3)] (hD4 d fl rs ks) (Yh 4 K):=by
 generalize hP1:PE1 d rs ks=P1;generalize hP0:PE0 d rs ks=P0;generalize hP3:PE3 d rs ks=P3;generalize hP4:PE4 d rs ks=P4;generalize hP2:PE2 d rs ks=P2
 refine Eq.mp (show (DgW d/\rs.length<=1000000/\ks.length<=1000000/\Yby rs/\Yby ks/\∀ lk:LI,∀ la:LI,NumsD d ks [] lk->NumsD d rs lk la->∀ r:LI,∀ f:LI,∀ n:Int,r=refL d.length la->f=Zp lk.length la->n=((lk.length:Int))->0<=Zd.wrap n/\Zd.wrap n<18446744073709551616/\([]:LE).length<=900000000/\∀ o:LI,o=(uvA [] (Zd.wrap n))->O48 f o (∀ o1:LI,o1=(uvA o (Zd.wrap (f.length:Int)))->O48 rs o1 (∀ o2:LI,o2=(uvA o1 (Zd.wrap (rs.length:Int)))->0<[86,77,80,49].length/\B (d) (ks)/\∀ D:Int,DgD d ks D->0<=D->D<4294967296->0<=Zd.wrap D/\Zd.wrap D<18446744073709551616/\(0:Int)<=4/\(4:Int)<=8/\∀ o3:LI,o3=(wB (Zq 4) (Zd.wrap D))->o2.length<=1000000000/\o3.length<=1000000000/\∀ o4:LI,o4=jnA o2 o3->allB o4/\o4.length<=900000000/\[86,77,80,49].length<=900000000/\∀ o5:LI,o5=(rcE [86,77,80,49] o4)->(∃ x:XE8a P1,True/\(True/\True/\True/\True/\True/\VI 0=(VI (x.i:Int))/\True)/\d=d/\fl=fl/\rs=rs/\ks=ks/\(True/\True/\True)/\r=refL d.length x.la/\f=Zp x.lk.length x.la/\o5=x.o/\True)/\∀ x:XE8a P1,True->brS (decide ((x.i:Int)<(↑(Zp x.lk.length x.la).length:Int))) (((0<=(x.i:Int)/\(x.i:Int)<(↑(Zp x.lk.length x.la).length:Int)/\0<=Ze.wrap (getB (Zp x.lk.length x.la) (x.i:Int).toNat-1)/\Ze.wrap (getB (Zp x.lk.length x.la) (x.i:Int).toNat-1)<(d.length:Int)/\∃ x1:XE8a P0,((x.i:Int))=((x1.i:Int))/\(True/\True/\True/\True/\True/\VI (x.i:Int)=VI (x1.i:Int)/\
  True/\True)/\d=d/\fl=fl/\rs=rs/\ks=ks/\(True/\True/\True)/\refL d.length x.la=refL d.length x1.la/\Zp x.lk.length x.la=Zp x1.lk.length x1.la/\x.o=x1.o/\((VI ((eS d (Ze.wrap (getB (Zp x.lk.length x.la) (x.i:Int).toNat-1)).toNat).node.key))=(VI ((eNq d x1.lk x1.la x1.i).key))/\(VI ((eS d (Ze.wrap (getB (Zp x.lk.length x.la) (x.i:Int).toNat-1)).toNat).node.value))=(VI ((eNq d x1.lk x1.la x1.i).value))/\(VU ((eS d (Ze.wrap (getB (Zp x.lk.length x.la) (x.i:Int).toNat-1)).toNat).node.left))=(VU ((eNq d x1.lk x1.la x1.i).left))/\(VU ((eS d (Ze.wrap (getB (Zp x.lk.length x.la) (x.i:Int).toNat-1)).toNat).node.right))=(VU ((eNq d x1.lk x1.la x1.i).right))/\(VI ((eS d (Ze.wrap (getB (Zp x.lk.length x.la) (x.i:Int).toNat-1)).toNat).node.size))=(VI ((eNq d x1.lk x1.la x1.i).size))/\(VI ((eS d (Ze.wrap (getB (Zp x.lk.length x.la) (x.i:Int).toNat-1)).toNat).node.sum))=(VI ((eNq d x1.lk x1.la x1.i).sum))/\(VI ((eS d (Ze.wrap (getB (Zp x.lk.length x.la) (x.i:Int).toNat-1)).toNat).node.min))=(VI ((eNq d x1.lk x1.la x1.i).min))/\(VI ((eS d (Ze.wrap (getB (Zp x.lk.length x.la) (x.i:Int).toNat-1)).toNat).node.max))=(VI ((eNq d x1.lk x1.la x1.i).max))/\True)/\True)/\∀ x1:XE8a P0,((x.i:Int))=((x1.i:Int))->((-9223372036854775808<=(eNq d x1.lk x1.la x1.i).key/\(eNq d x1.lk x1.la x1.i).key<=9223372036854775807)/\∀ o6:LI,o6=(kB (eNq d x1.lk x1.la x1.i).key)->(-9223372036854775808<=(eNq d x1.lk x1.la x1.i).value/\
  (eNq d x1.lk x1.la x1.i).value<=9223372036854775807)/\∀ u:Int,u=(zz (eNq d x1.lk x1.la x1.i).value)->0<=u/\u<18446744073709551616/\o6.length<=900000000/\∀ o7:LI,o7=uvA o6 u->∃ x2:XE8b P2,((x1.i:Int))=((x2.i:Int))/\(True/\True/\True/\True/\True/\VI (x1.i:Int)=VI (x2.i:Int)/\True/\True/\True)/\d=d/\fl=fl/\rs=rs/\ks=ks/\(True/\True/\True)/\refL d.length x1.la=refL d.length x2.la/\Zp x1.lk.length x1.la=Zp x2.lk.length x2.la/\x1.o=x2.o/\((VI ((eNq d x1.lk x1.la x1.i).key))=(VI ((eNq d x2.lk x2.la x2.i).key))/\(VI ((eNq d x1.lk x1.la x1.i).value))=(VI ((eNq d x2.lk x2.la x2.i).value))/\(VU ((eNq d x1.lk x1.la x1.i).left))=(VU ((eNq d x2.lk x2.la x2.i).left))/\(VU ((eNq d x1.lk x1.la x1.i).right))=(VU ((eNq d x2.lk x2.la x2.i).right))/\(VI ((eNq d x1.lk x1.la x1.i).size))=(VI ((eNq d x2.lk x2.la x2.i).size))/\(VI ((eNq d x1.lk x1.la x1.i).sum))=(VI ((eNq d x2.lk x2.la x2.i).sum))/\(VI ((eNq d x1.lk x1.la x1.i).min))=(VI ((eNq d x2.lk x2.la x2.i).min))/\(VI ((eNq d x1.lk x1.la x1.i).max))=(VI ((eNq d x2.lk x2.la x2.i).max))/\True)/\o7=x2.q/\True)/\∀ x2:XE8b P2,((x1.i:Int))=((x2.i:Int))->0<=(eNq d x2.lk x2.la x2.i).left/\(eNq d x2.lk x2.la x2.i).left<(↑(refL d.length x2.la).length:Int)/\0<=(eNq d x2.lk x2.la x2.i).right/\(eNq d x2.lk x2.la x2.i).right<(↑(refL d.length x2.la).length:Int)/\0<=getB (refL d.length x2.la) (eNq d x2.lk x2.la x2.i).left.toNat/\getB (refL d.length x2.la) (eNq d x2.lk x2.la x2.i).left.toNat<18446744073709551616/\x2.q.length<=900000000/\∀ o6:LI,o6=(uvA x2.q (getB (refL d.length x2.la) (eNq d x2.lk x2.la x2.i).left.toNat))->0<=getB (refL d.length x2.la) (eNq d x2.lk x2.la x2.i).right.toNat/\
  getB (refL d.length x2.la) (eNq d x2.lk x2.la x2.i).right.toNat<18446744073709551616/\o6.length<=900000000/\∀ o7:LI,o7=(uvA o6 (getB (refL d.length x2.la) (eNq d x2.lk x2.la x2.i).right.toNat))->allB o7/\o7.length<=900000000/\x2.o.length<=900000000/\∀ o8:LI,o8=rcE x2.o o7->∃ x3:XE8a P3,((x.i:Int))=((x3.i:Int))/\(True/\True/\True/\True/\True/\VI (x2.i:Int)=VI (x3.i:Int)/\True)/\d=d/\fl=fl/\rs=rs/\ks=ks/\(True/\True/\True)/\refL d.length x2.la=refL d.length x3.la/\Zp x2.lk.length x2.la=Zp x3.lk.length x3.la/\o8=x3.o/\True)/\∀ x1:XE8a P3,((x.i:Int))=((x1.i:Int))->∃ x':XE8a P1,True/\((True/\True/\True/\True/\True/\(VI (Za.wrap ((x1.i:Int)+1)))=(VI (x'.i:Int))/\True)/\d=d/\fl=fl/\rs=rs/\ks=ks/\(True/\True/\True)/\refL d.length x1.la=refL d.length x'.la/\Zp x1.lk.length x1.la=Zp x'.lk.length x'.la/\x1.o=x'.o/\True)/\200000-x'.i<200000-x.i) ((∃ x1:XE8b P4,True/\(True/\True/\True/\True/\VI 0=(VI (x1.i:Int))/\True)/\d=d/\fl=fl/\rs=rs/\ks=ks/\refL d.length x.la=refL d.length x1.la/\[]=x1.q/\x.o=x1.o/\True)/\∀ x1:XE8b P4,True->brS (decide ((x1.i:Int)<(rs.length:Int))) (0<=(x1.i:Int)/\(x1.i:Int)<(rs.length:Int)/\0<=getB rs (x1.i:Int).toNat/\getB rs (x1.i:Int).toNat<(↑(refL d.length x1.la).length:Int)/\0<=getB (refL d.length x1.la) (getB rs (x1.i:Int).toNat).toNat/\getB (refL d.length x1.la) (getB rs (x1.i:Int).toNat).toNat<18446744073709551616/\x1.q.length<=900000000/\∀ o6:LI,o6=(uvA x1.q (getB (refL d.length x1.la) (getB rs (x1.i:Int).toNat).toNat))->∃ x':XE8b P4,True/\
  ((True/\True/\True/\True/\(VI (Za.wrap ((x1.i:Int)+1)))=(VI (x'.i:Int))/\True)/\d=d/\fl=fl/\rs=rs/\ks=ks/\refL d.length x1.la=refL d.length x'.la/\o6=x'.q/\x1.o=x'.o/\True)/\rs.length-x'.i<rs.length-x1.i) (allB x1.q/\x1.q.length<=900000000/\x1.o.length<=900000000/\∀ o6:LI,o6=rcE x1.o x1.q->K (.one (.at (.slc 4))) [(.row false .slot (d)),(.row false .u32 (fl)),(.row false .u32 (rs)),(.row false .u32 (ks)),(.row true .u8 (o6))] [])))))=_ by kernel_rfl) ?_
 delta O48;subst hP1 hP0 hP3 hP4 hP2;have dl:=hb.w.len;have hrl:=hb.rl;have hkl:=hb.kl;have ri:=hb.ri;refine⟨hb.w,by omega,by omega,ri.v hb.w,hb.ki.v hb.w,fun lk la nk na r f n er ef en=>?_⟩;obtain⟨y,hy⟩:=na.pre;have all:NumsD d (ks++rs) [] la:=nk.app na;obtain⟨q1,q2,q3⟩:=all.few hb.w;have lle:lk.length<=la.length:=by rw[hy,Zh];omega
 have us:=all.used (fun j hj=>by cases hj);have fl_:f.length=(la.drop lk.length).length:=by rw[ef]
 have fl2:(la.drop lk.length).length<=100000:=by rw[Zy];omega
 subst en;rw[Yf (x:=(lk.length:Int)) (by omega) (by omega),Yf (x:=(f.length:Int)) (by omega) (by omega),Yf (x:=(rs.length:Int)) (by omega) (by omega)];have v1:=YaG (lk.length:Int);have v2:=YaG (f.length:Int);have v3:=YaG (rs.length:Int)
 have uvl:∀ b u,(uvA b u).length<=b.length+11:=fun b u=>by
  have:=YaG u;unfold uvA;rw[Zh];omega
 refine⟨by omega,by omega,by decide,fun o eo=>⟨by omega,by omega,by have:=uvl [] (lk.length:Int);rw[<-eo] at this;simp at this;omega,fun o1 e1=>⟨by omega,by omega,?_,fun o2 e2=>⟨by decide,hB,fun D hD D0 D1=>?_⟩⟩⟩⟩
 .have a1:=uvl [] (lk.length:Int);have a2:=uvl o (f.length:Int);rw[<-eo] at a1;rw[<-e1] at a2;simp at a1;omega
 rw[Yf (x:=D) (by omega) (by omega)];have a1:=uvl [] (lk.length:Int);have a2:=uvl o (f.length:Int);have a3:=uvl o1 (rs.length:Int);rw[<-eo] at a1;rw[<-e1] at a2;rw[<-e2] at a3;have a0:([]:LI).length=0:=rfl;refine⟨by omega,by omega,by decide,by decide,fun o3 e3=>⟨by omega,by rw[e3,Yay];decide,fun o4 e4=>?_⟩⟩;have e4:o4=hdE lk.length ((la.drop lk.length).length:Nat) rs.length D:=by rw[e4,e3,e2,e1,eo,fl_];exact Yyk _ _ _ _
 have hl:=Yfa lk.length ((la.drop lk.length).length:Nat) rs.length D
 have h3:allQ [(lk.length:Int),((la.drop lk.length).length:Nat),(rs.length:Int)]:=fun u hu=>by
  simp only[ZH,Zcq,or_false] at hu;rcases hu with rfl|rfl|rfl<;>omega
 rw[<-e4] at hl;refine⟨by rw[e4];exact YgP h3,by omega,by decide,fun o5 e5=>⟨⟨⟨lk,la,o5,0,D,⟨nk,na,hD,hb.ky la all,by omega,us,lle⟩,ZC _,by rw[e5,e4];rfl⟩,trivial,?_⟩,fun x _=>Ya (fun z=>?_) fun z=>?_⟩⟩
 .rw[er,ef]
  repeat' constructor
 .obtain⟨lk,la,o,i,D,F,hi,eo⟩:=x;dsimp only at z ⊢;have zi:i<(la.drop lk.length).length:=by have:=Zc z;omega
  clear z;have ll:=F.len;have jm:getB (la.drop lk.length) i∈la:=Zaj (Yj zi);have uj:=F.us _ jm;have rg:=Yw uj;rw[show ((i:Int)).toNat=i from rfl,Yz (x:=getB (la.drop lk.length) i-1) (by omega) (by omega)];refine⟨⟨⟨by omega,by omega,by omega,by omega,⟨lk,la,o,i,D,F,zi,eo⟩,rfl,?_⟩,fun x1 e1=>?_⟩,fun x1 e1=>?_⟩
  ·repeat' constructor
  .obtain⟨lk,la,o,i',D,F,zi,eo⟩:=x1;dsimp only at e1 ⊢;obtain rfl:i=i':=by omega
   have ll:=F.len;have jm:getB (la.drop lk.length) i∈la:=Zaj (Yj zi);have kj:=F.kin _ jm;refine⟨⟨⟨kj.1.1,kj.1.2⟩,fun o6 e6=>⟨⟨kj.2.1,kj.2.2⟩,fun u eu=>?_⟩⟩,fun x2 e2=>?_⟩
   .have zr:=Go.Proofs.YtedfbafngmicpaaGreat.zz_rng kj.2.1 kj.2.2;have eu:u=zz (sltD d (getB (la.drop lk.length) i)).node.value:=eu;refine⟨by omega,by omega,by rw[e6];unfold kB;rw[Yay];decide,fun o7 e7=>⟨⟨lk,la,o,o7,i,⟨D,F,zi,eo⟩,by rw[e7,e6,eu];rfl⟩,rfl,?_⟩⟩
    repeat' constructor
   .obtain⟨lk,la,o,q,i',⟨D,F,zi,eo⟩,eq⟩:=x2;dsimp only at e2 ⊢;obtain rfl:i=i':=by omega
    have ll:=F.len;have jm:getB (la.drop lk.length) i∈la:=Zaj (Yj zi);have uj:=F.us _ jm;have kd:=hb.kd _ uj;have ok:=YjB F.kin ll jm;have eg:=Yvy (nodQ d la) (nr:=rs.length) D zi;have ol:=YnP (nodQ d la) la D lk.length rs.length i;rw[<-eo] at ol;have ev:=Yvz (nodQ d la (getB (la.drop lk.length) i));have el:=Ydl (nodQ d la (getB (la.drop lk.length) i));have ea:=YeZ ok;have n1:(eNq d lk la i).left=lfD d (getB (la.drop lk.length) i):=rfl;have n2:(eNq d lk la i).right=rgD d (getB (la.drop lk.length) i):=rfl;have eq:q=uvA (kB (nodQ d la (getB (la.drop lk.length) i)).key) (zz (nodQ d la (getB (la.drop lk.length) i)).value):=eq;have ql:=uvl (kB (nodQ d la (getB (la.drop lk.length) i)).key) (zz (nodQ d la (getB (la.drop lk.length) i)).value);rw[<-eq,show (kB (nodQ d la (getB (la.drop lk.length) i)).key).length=8 from Yay _ _] at ql;have okl:=ok.2.2.1;have okr:=ok.2.2.2;rw[n1,n2,YgV kd.1.1 kd.1.2,YgV kd.2.1 kd.2.2,YaO];show 0<=lfD d (getB (la.drop lk.length) i)/\lfD d (getB (la.drop lk.length) i)<_/\0<=rgD d (getB (la.drop lk.length) i)/\rgD d (getB (la.drop lk.length) i)<_/\0<=(nodQ d la (getB (la.drop lk.length) i)).left/\_;refine⟨kd.1.1,by omega,kd.2.1,by omega,okl.1,okl.2,by omega,fun o6 e6=>⟨okr.1,okr.2,?_,fun o7 e7=>?_⟩⟩
    .have:=uvl q (plcN la (lfD d (getB (la.drop lk.length) i)));rw[<-e6] at this;omega
    .have e7:o7=encN (nodQ d la (getB (la.drop lk.length) i)):=by rw[<-ev,e7,e6,eq];rfl
     rw[e7];refine⟨ea,by omega,by omega,fun o8 e8=>⟨⟨lk,la,o8,i,D,F,zi,by rw[e8,eo];exact eg.symm⟩,rfl,?_⟩⟩
     repeat' constructor
  .obtain⟨lk1,la1,o,i',D,F,zi1,eo⟩:=x1;dsimp only at e1 ⊢;obtain rfl:i=i':=by omega
   have ll1:=F.len;have zl1:=zi1;rw[Zy] at zl1;rw[Yb (x:=(i:Int)+1) (by omega) (by omega)];refine⟨⟨lk1,la1,o,i+1,D,F,zi1,eo⟩,trivial,?_,by show 200000-(i+1)<200000-i;omega⟩
   repeat' constructor
 .obtain⟨lk,la,o,i,D,F,hi,eo⟩:=x;dsimp only at z ⊢;have z:i=(la.drop lk.length).length:=by have:=Zg z;omega
  subst z;refine⟨⟨⟨lk,la,o,[],0,ZC _,⟨D,F,Zw _,eo⟩,rfl⟩,trivial,?_⟩,fun x1 _=>Ya (fun z=>?_) fun z=>?_⟩
  ·repeat' constructor
  .obtain⟨lk,la,o,q,i,hi,⟨D,F,hl,eo⟩,eq⟩:=x1;dsimp only at z ⊢;have zi:i<rs.length:=by have:=Zc z;omega
   clear z;have ll:=F.len;have rr:=ri _ (Yj zi);have pr:=YD la (getB rs i);rw[show ((i:Int)).toNat=i from rfl,Yb (x:=(i:Int)+1) (by omega) (by omega),YgV rr.1 rr.2,YaO];have ql:=Yrh ((rs.take i).map (plcN la));rw[Zu,ZG,<-eq] at ql;refine⟨by omega,by omega,rr.1,by omega,pr.1,by omega,by omega,fun o6 e6=>⟨⟨lk,la,o,o6,i+1,zi,⟨D,F,hl,eo⟩,?_⟩,trivial,?_,ZI zi (ZO i)⟩⟩
   .rw[e6,eq,Yyl,Yo zi,ZX];rfl
   ·repeat' constructor
  .obtain⟨lk,la,o,q,i,hi,⟨D,F,hl,eo⟩,eq⟩:=x1;dsimp only at z ⊢;have z:i=rs.length:=by have:=Zg z;omega
   rw[z,ZJ] at eq;have ll:=F.len;have ql:=Yrh (rs.map (plcN la));rw[Zu,<-eq] at ql;have ol:=YnP (nodQ d la) la D lk.length rs.length (la.drop lk.length).length;rw[<-eo] at ol;have qa:allB q:=by rw[eq];exact YvA ll
   have fa:=F.le;refine⟨qa,by omega,by omega,fun o6 e6=>h o6 ⟨⟨lk,la,D,F.nk,F.na,F.dg,?_⟩,?_,?_⟩⟩
   .rw[e6,eo,eq];unfold pkQ pkE woF YgQ;rw[ZJ,Zu,Zu]
   .rw[e6,eo];exact Ydn qa (by omega) (YpW F.kin ll (by omega) (by omega))
   .have:=YgO o q;rw[e6];omega
theorem YvB (Q:LS->LI->Prop)(sD:Tb C0 37 (tDgD Q))(B:LS->LI->LI->Prop)(hB:∀ d rs ks,B d rs ks->ExB8 d rs ks/\Q d ks):Tb C0 25 (tExQ B):=by
 refine .of Tryz.func25 (by decide) rfl fun args H K h hC=>?_
 unfold tExQ at h;split at h<;>try exact h.elim
 unfold dgM at h;split at h<;>try exact h.elim
 rename_i _ d fl rs ks;obtain⟨h1,h2⟩:=hB _ _ _ h.1;refine⟨_,?_,YsL Q d fl rs ks K h1 h2 h.2⟩;exact⟨Ye C0.ok s_rf _,Ye C0.ok s_vr _,Ye C0.ok Yyh _,Ye C0.ok s_kb _,Ye C0.ok s_zr _,Ye C0.ok Yjy _,Ye C0.ok s_wd _,Ye C0.ok sD _,trivial⟩
theorem YsM (B:LS->LI->LI->Prop)(d:LS)(fl rs:LI)(K:KT)(hB:rs≠[]->B d rs [])(h:∀ D,DgD d rs D->0<=D->D<4294967296->K (.one (.at (vU D))) [.row false .slot d,.row false .u32 fl,.row false .u32 rs] []) :
  vc C0 (Yvx B) Tryz.f37 [.agg [.slc 0,.slc 1],.at (.slc 2)] [.row false .slot d,.row false .u32 fl,.row false .u32 rs] (Yh 3 K):=by
 refine Eq.mp (show (brS ((rs.length:Int)==0) (K (.one (.at (.val (VU 0)))) [(.row false .slot (d)),(.row false .u32 (fl)),(.row false .u32 (rs))] []) (B (d) (rs) []/\∀ o:LI,ExD d rs [] o->allB o/\o.length<=1000000000000/\∀ r:Int,r=crc o->K (.one (.at (.val (VU (r))))) [(.row false .slot (d)),(.row false .u32 (fl)),(.row false .u32 (rs))] []))=_ by kernel_rfl) ?_;refine Ya (fun z=>?_) fun z=>?_
 .have z:rs=[]:=ZM (by have:=eq_of_beq z;omega);exact h 0 (.inl ⟨z,rfl⟩) (by decide) (by decide)
 .have z:rs≠[]:=fun e=>by rw[e] at z;exact absurd z (by decide)
  refine⟨hB z,fun o w=>⟨w.ab,by have:=w.bl;omega,fun r er=>?_⟩⟩;have rr:=YcI o;rw[<-er] at rr;refine h r (.inr ⟨z,?_⟩) rr.1 rr.2;obtain⟨lk,la,D,n1,n2,d,eo⟩:=w.ex;cases n1
  rcases d with ⟨_,d⟩|⟨d,_⟩
  .subst d;exact⟨la,n2,by rw[er,eo]⟩
  .exact absurd rfl d
theorem YvC (B:LS->LI->LI->Prop)(sW:Tb C0 25 (tExQ B))(Q:LS->LI->Prop)(hB:∀ d rs,Q d rs->rs≠[]->B d rs []):Tb C0 37 (tDgD Q):=by
 refine .of Tryz.func37 (by decide) rfl fun args H K h hC=>?_
 unfold tDgD at h;split at h<;>try exact h.elim
 rename_i d fl rs;exact⟨Yvx B,⟨Ye C0.ok sW _,Ye C0.ok s_cr _,trivial⟩,YsM B d fl rs K (hB _ _ h.1) h.2⟩
theorem Yym:Tb C0 25 (tExQ fun _ _ _=>False):=by
 refine .of Tryz.func25 (by decide) rfl fun args H K h hC=>?_
 unfold tExQ at h;split at h<;>try exact h.elim
 unfold dgM at h;split at h<;>try exact h.elim
 exact h.1.elim
theorem YvD:Tb C0 37 (tDgD fun _ rs=>rs=[]):=YvC _ Yym _ fun _ _ h n=>absurd h n
theorem YvE:Tb C0 25 (tExQ fun d rs ks=>ks=[]/\ExB8 d rs ks):=YvB _ YvD _ fun _ _ _ h=>⟨h.2,h.1⟩
def YvF:Tfm C0:=tDgD fun d rs=>ExB8 d rs []
theorem Yri:Tb C0 37 YvF:=YvC _ YvE _ fun _ _ h _=>⟨rfl,h⟩
def YsN:Tfm C0:=tExQ ExB8
theorem Yrj:Tb C0 25 YsN:=YvB _ Yri _ fun d rs ks h=>⟨h,⟨h.w,h.kd,h.kl,by simp,h.ki,fun x hx=>by simp at hx,by rw[ZS];exact KyD.left h.w h.ky⟩⟩
section
variable {S:Arn} {hs:LI}
theorem Yiu (w:Wf S hs):KdD (Yg S):=fun i u=>by
 have u':=u;rw[Yl w] at u';obtain⟨e1,e2⟩:=Yam w u';have k:=w.kid i u';rw[e1,e2]
 have q:∀ j,j=0∨S.us j=true->0<=j/\j<=((Yg S).length:Int):=fun j hj=>by
  rcases hj with rfl|hj
  .omega
  .rw[<-Yl w] at hj;have:=Yw hj;omega
 exact⟨q _ k.1,q _ k.2⟩
theorem Yfd (w:Wf S hs){l:LI}(h:∀ j∈l,j=0∨S.us j=true):inL (Yg S) l:=fun j hj=>by
 rcases h j hj with rfl|hj
 .omega
 .rw[<-Yl w] at hj;have:=Yw hj;omega
theorem YlR (w:Wf S hs){l:LI}{i:Int}(u:S.us i=true):nodQ (Yg S) l i=nodP S l i:=by
 obtain⟨e1,e2⟩:=Yam w u;unfold nodQ nodP;rw[e1,e2,YX w u]
theorem YnQ (w:Wf S hs){lk la rs:LI}{D:Int}(u:∀ j∈la,S.us j=true):pkQ (Yg S) lk la rs D=pkS S lk la rs D:=by
 unfold pkQ pkS
 congr 1
 refine ZaP fun i hi=>YlR w (u i (Zaj hi))
theorem YvG (w:Wf S hs){rs a l:LI}(h:NumsD (Yg S) rs a l):Yx S rs a l :=
 h.congr (fun i=>(Yl w i).symm) (fun _ u=>((Yam w (by rw[Yl w] at u;exact u)).1).symm) fun _ u=>((Yam w (by rw[Yl w] at u;exact u)).2).symm
theorem YnR (w:Wf S hs){rs:LI}{D:Int}(h:DgD (Yg S) rs D):DgR S rs D:=by
 rcases h with h|⟨a,l,n,e⟩
 .exact .inl h
 .have n':=Yrf w n;exact .inr ⟨a,l,n',by rw[e,YnQ w (n'.used (fun j hj=>by cases hj))]⟩
theorem Yiv (w:Wf S hs){rs:LI}(h:KyN S rs):KyD (Yg S) rs:=fun l n=>by
 have n':=YvG w n;have us:=n'.used (fun j hj=>by cases hj);intro i hi;have:=h l n' i hi;rw[YX w (us i hi)];exact this
theorem YnS (w:Wf S hs){rs ks:LI}(rl:rs.length<=90000)(kl:ks.length<=90000)(hr:∀ j∈rs,j=0∨S.us j=true)(hk:∀ j∈ks,j=0∨S.us j=true)(ky:KyN S (ks++rs)):ExB8 (Yg S) rs ks :=
 ⟨Yim w,Yiu w,rl,kl,Yfd w hr,Yfd w hk,Yiv w ky⟩
end
end
def hdD (b:LI):Option (Int × Int × Int × Int):=match rvD b 0 false with
 | (k,n1,f1)=>match rvD b n1 f1 with
  | (m,n2,f2)=>match rvD b n2 f2 with
   | (r,n3,f3)=>if f3=true∨(b.length:Int)-n3≠4∨65536<k∨65536<m∨4096<r then none else some (k,m,r,wD (b.drop n3.toNat))
def ndQ (own:Int)(b:LI):Option PNT:=match ryD b 0 false with
 | (k,n1,f1)=>match rvD b n1 f1 with
  | (v,n2,f2)=>match rvD b n2 f2 with
   | (l,n3,f3)=>match rvD b n3 f3 with
    | (r,n4,f4)=>if f4=true∨n4≠(b.length:Int)∨own<=l∨own<=r then none else some ⟨k,uz v,l,r⟩
def tlG (top:Int)(b:LI):Nat->Int->Option (LI × Int)
 | 0,at_=>some ([],at_)
 | n+1,at_=>match rvD b at_ false with
  | (u,n1,f)=>if f=true∨top<u then none else (tlG top b n n1).map fun q=>(u::q.1,q.2)
def tlD (top:Int)(n:Nat)(b:LI):Option LI:=match tlG top b n 0 with
 | some (l,at_)=>if at_=(b.length:Int) then some l else none
 | none=>none
abbrev chP (k D:Int)(ns:LP)(rs:LI)(b:LI):LH C0:=[.box [vU64 k,vU D,.slc 1,.slc 2],.row true .pn ns,.row true .u64 rs,.row false .u8 b]
abbrev pkM (H:LH C0)(k:Int->Int->LP->LI->LI->Prop):Prop:=match H with
 | [.box [.val (.int .u64 kn),.val (.int .u32 D),.slc 1,.slc 2],.row true .pn ns,.row true .u64 rs,.row false .u8 b]=>k kn D ns rs b
 | _=>False
structure XHd (P:Nat->Int->Prop) where
 i:Nat
 D:Int
 h:P i D
structure XHe (P:Int->Int->Int->Int->Prop) where
 k:Int
 m:Int
 r:Int
 n:Int
 h:P k m r n
def aHd (P0:Int->Int->Int->Int->Prop)(P:Nat->Int->Prop)(k n:Int)(ns:LP)(rs b:LI):Ann C0:={ Γ:=[(128,Yc [] tRv)],inv:=fun j=>match j with
 | 1006=>some { X:=XHe P0,sl:=[7,8,9],tf:=fun x=>[.one (.at (.ptr 4 0)),vi .u64 x.m,vi .u64 x.r],hf:=fun x=>chP x.k 0 ns rs b++[.box [.slc 3,vI x.n,vB false]],wr:=[0] }
 | 7=>some { X:=XHd P,sl:=[58,60],tf:=fun x=>[.one (.at (.slc 4)),vi .i64 x.i],hf:=fun x=>chP k x.D ns rs b++[.row false .u8 (b.drop n.toNat)],μ:=fun x=>4-x.i,wr:=[0] }
 | _=>none }
def tHd:Tfm C0:=fun args H K=>match args with
 | [.at (.ptr 0 0),.at (.slc 3)]=>pkM H fun _ D0 ns rs b=>D0=0/\allB b/\b.length<=1000000000/\(hdD b=none->∀ kk,K (.tup [.at (vU64 0),.at (vU64 0),.at (vB false)]) (chP kk 0 ns rs b) [0]) ∧
   ∀ k m r D,hdD b=some (k,m,r,D)->K (.tup [.at (vU64 m),.at (vU64 r),.at (vB true)]) (chP k D ns rs b) [0]
 | _=>False
def aNo:Ann C0:={ quiet:=[9999999],Γ:=[(128,Yc [] tRv),(129,Yc [] tRy),(131,Yc [] tRd),(130,Yc [] tUz)] }
def tNo:Tfm C0:=fun args H K=>match args with
 | [.at (.ptr 0 0),.at (.slc 3)]=>pkM H fun k D ns rs b=>0<=k/\k<=65536/\ns.length<=65536/\allB b/\b.length<=1000000000/\(ndQ (k+ns.length+1) b=none->K (.one (.at (vB false))) (chP k D ns rs b) [0,1]) ∧
   ∀ x,ndQ (k+ns.length+1) b=some x->K (.one (.at (vB true))) (chP k D (ns++[x]) rs b) [0,1]
 | _=>False
structure XTl (P:Nat->LI->Int->Prop) where
 i:Nat
 rs:LI
 n:Int
 h:P i rs n
def aTl (P:Nat->LI->Int->Prop)(c:Nat)(k D:Int)(ns:LP)(b:LI):Ann C0:={ quiet:=[9999999],Γ:=[(128,Yc [] tRv),(131,Yc [] tRd)],inv:=fun j=>match j with
 | 3=>some { X:=XTl P,sl:=[7,8],tf:=fun x=>[.one (.at (.ptr 4 0)),vi .u64 x.i],hf:=fun x=>chP k D ns x.rs b++[.box [.slc 3,vI x.n,vB false]],μ:=fun x=>c-x.i,wr:=[0,2] }
 | _=>none }
def tTl:Tfm C0:=fun args H K=>match args with
 | [.at (.ptr 0 0),.at (.slc 3),.at (.val (.int .u64 c))]=>pkM H fun k D ns rs b=>rs=[]/\0<=k/\k<=65536/\ns.length<=65536/\0<=c/\c<=1000000/\allB b/\b.length<=1000000000/\(tlD (k+ns.length) c.toNat b=none->∀ r,K (.one (.at (vB false))) (chP k D ns r b) [0,2]) ∧
   ∀ r,tlD (k+ns.length) c.toNat b=some r->K (.one (.at (vB true))) (chP k D ns r b) [0,2]
 | _=>False
theorem YsO:∀ (l:LI) (i:Nat) (a u k:Int),allB l->i<=9->0<=a->a<128 ^ i->vD 12 13 i l a=(u,k,0)->u<18446744073709551616
 | [],_,_,_,_,_,_,_,_,h=>by simp[vD] at h
 | c::r,i,a,u,k,hb,hi,h0,h1,h=>by
  obtain⟨c0,c1⟩:=hb c ZP;have pp:(1:Int)<=128 ^ i:=ZbQ (by decide)
  have q9:(128:Int) ^ i*2<=18446744073709551616/\(i<=8->(128:Int) ^ i*256<=18446744073709551616):=by
   have:i=0∨i=1∨i=2∨i=3∨i=4∨i=5∨i=6∨i=7∨i=8∨i=9:=by omega
   rcases this with e|e|e|e|e|e|e|e|e|e<;>subst e<;>decide +kernel
  unfold vD at h;split at h
  .simp at h
  .rename_i hc;have w1:=Zas (a:=c % 128) (b:=127) (c:=128 ^ i) (by omega) (by omega);split at h
   .rename_i c8;simp only[Zs] at h;obtain⟨h1,h2,_⟩:=h
    by_cases i8:i<=8
    .have:=q9.2 i8;omega
    .obtain rfl:i=9:=by omega
     have c2:¬ 1<c:=fun q=>hc (.inl ⟨rfl,q⟩)
     have:=Zas (a:=c % 128) (b:=1) (c:=128 ^ 9) (by omega) (by omega);have:=q9.1;omega
   .rename_i c8;refine YsO r (i+1) _ u k (fun x hx=>hb x (Zz _ hx)) ?_ ?_ ?_ h
    .apply ZY;intro n;obtain rfl:i=9:=by omega
     exact hc (.inl ⟨rfl,by omega⟩)
    .have:=ZaY (a:=c % 128) (b:=128 ^ i) (by omega) (by omega);omega
    .rw[ZaC];omega
theorem YgW {b:LI}{at_ u n e:Int}(hb:allB b)(h:uvD b at_=(u,n,e)):(0<=u/\u<18446744073709551616)/\(e=0->0<=at_/\at_+1<=n/\n<=b.length)/\(e≠0->u=0/\n=0)/\0<=n/\n<=b.length:=by
 by_cases c:at_<0∨(b.length:Int)<at_
 .unfold uvD at h;rw[Zj c] at h;simp only[Zs] at h;obtain⟨rfl,rfl,rfl⟩:=h;exact⟨by decide,fun e=>absurd e (by decide),fun _=>⟨rfl,rfl⟩,ZE 0,by omega⟩
 .obtain⟨v,k,e',hv⟩:∃ v k e',vD 12 13 0 (b.drop at_.toNat) 0=(v,k,e'):=⟨_,_,_,rfl⟩
  have ue:=YaY (by omega) (by omega) hv;rw[h] at ue
  by_cases q:e'=0
  .rw[Zj q] at ue;simp only[Zs] at ue;obtain⟨rfl,rfl,rfl⟩:=ue;rw[q] at hv;have hr:=YE hb at_.toNat;have a:=Yik _ 0 0 _ k hr (ZE 0) hv;have b':=YsO _ 0 0 _ k hr (by decide) (ZE 0) (by decide) hv;rw[Zy] at a;exact⟨⟨a.1,b'⟩,fun _=>⟨by omega,by omega,by omega⟩,fun e=>absurd rfl e,by omega,by omega⟩
  .rw[Zf q] at ue;simp only[Zs] at ue;obtain⟨rfl,rfl,rfl⟩:=ue;exact⟨by decide,fun e=>absurd e q,fun _=>⟨rfl,rfl⟩,ZE 0,by omega⟩
theorem YcL {b:LI}{at_ u n:Int}{f g:Bool}(hb:allB b)(h:rvD b at_ g=(u,n,f)):(0<=u/\u<18446744073709551616)/\(f=false->g=false/\0<=at_/\at_+1<=n/\n<=b.length)/\(0<=at_->at_<=b.length->0<=n/\n<=b.length):=by
 unfold rvD at h;cases g with
 | true =>
  simp only[if_true,Zs] at h;obtain⟨rfl,rfl,rfl⟩:=h;exact⟨by decide,fun e=>(by cases e),fun a b=>⟨a,b⟩⟩
 | false =>
  obtain⟨u',n',e,he⟩:∃ u n e,uvD b at_=(u,n,e):=⟨_,_,_,rfl⟩
  rw[he] at h;simp only[Zbf,if_false,Zs] at h;obtain⟨rfl,rfl,rfl⟩:=h;have r:=YgW hb he;refine⟨r.1,fun e=>⟨rfl,r.2.1 (by simpa using e)⟩,fun _ _=>r.2.2.2⟩
theorem YnT {b:LI}{u n:Int}{f:Bool}(hb:allB b)(h:ryD b 0 false=(u,n,f)):rngI u/\0<=n/\n<=b.length:=by
 obtain⟨x,y,z,he⟩:∃ x y z,kyD b 0=(x,y,z):=⟨_,_,_,rfl⟩
 unfold ryD at h;rw[he] at h;simp only[Zbf,if_false,Zs] at h;obtain⟨rfl,rfl,rfl⟩:=h;unfold kyD at he;rw[Zf (by omega)] at he;split at he
 .simp only[Zs] at he;obtain⟨rfl,rfl,rfl⟩:=he;exact⟨by unfold rngI;decide,ZE 0,by omega⟩
 .simp only[Zs] at he;obtain⟨rfl,rfl,rfl⟩:=he;refine⟨?_,by omega,by omega⟩
  have w:∀ (l:LI),allB l->0<=wD l/\wD l<256 ^ l.length:=by
   intro l
   have:∀ (l:LI) (a:Int) (m:Nat),allB l->0<=a->a<256 ^ m->0<=l.foldl (fun a c=>256*a+c) a/\l.foldl (fun a c=>256*a+c) a<256 ^ (m+l.length):=by
    intro l
    induction l with
    | nil=>intro a m _ h0 h1;exact⟨h0,h1⟩
    | cons c l ih =>
     intro a m hb h0 h1;obtain⟨c0,c1⟩:=hb c ZP;have:=ih (256*a+c) (m+1) (fun x hx=>hb x (Zz _ hx)) (by omega) (by rw[ZaC];omega);rw[ZQ,show m+(l.length+1)=m+1+l.length by omega];exact this
   intro hb;have:=this l 0 0 hb (ZE 0) (by decide);rw[ZaM] at this;exact this
  have h8:=w _ (Yaw (YE hb (Zq 0)) 8);have l8:((b.drop (Zq 0)).take 8).length=8:=by rw[ZG,Zy];simp;omega
  rw[l8,show (256:Int) ^ 8=18446744073709551616 from by decide +kernel] at h8;unfold rngI;omega
theorem YnU {D c:Int}(D0:0<=D)(D1:D<16777216)(c0:0<=c)(c1:c<256):orI .u32 (Ze.wrap (D*2 ^ min (Zq 8) Ze.bits)) (Ze.wrap c)=256*D+c:=by
 rw[show (2:Int) ^ min (Zq 8) Ze.bits=256 from rfl,Yz (x:=D*256) (by omega) (by omega),Yz (x:=c) c0 (by omega)];show Ze.wrap ((BitVec.ofInt 32 (D*256) ||| BitVec.ofInt 32 c).toNat:Int)=_;rw[Yce (Zbh _),BitVec.toNat_or,YH 32 (by omega) (by omega),YH 32 c0 (by omega)];have e:(D*256).toNat=2 ^ 8*D.toNat:=by omega
 rw[e,<-Nat.two_pow_add_eq_or_of_lt (show c.toNat<2 ^ 8 by omega)];omega
def PHd0 (b:LI):Int->Int->Int->Int->Prop:=fun k m r n=>k=(rvD b 0 false).1/\n=(rvD b (rvD b (rvD b 0 false).2.1 (rvD b 0 false).2.2).2.1 (rvD b (rvD b 0 false).2.1 (rvD b 0 false).2.2).2.2).2.1/\0<=n/\n+4=b.length/\hdD b=some (k,m,r,wD (b.drop n.toNat))
def PHd (b:LI)(n:Int):Nat->Int->Prop:=fun i D=>i<=4/\D=wD ((b.drop n.toNat).take i)/\0<=D/\D<256 ^ i
abbrev O49 (ns:LP)(rs b:LI)(K:SV → LH C0 → LN → Prop)(u:Int):Prop:=K (.tup [(.at (.val (VW 0))),(.at (.val (VW 0))),(.at (.val (Zi false)))]) [(.box [(.val (VW (u))),(.val (VU 0)),(.slc 1),(.slc 2)]),(.row true .pn (ns)),(.row true .u64 (rs)),(.row false .u8 (b))] [0]
abbrev O50 (k D:Int)(ns:LP)(rs b:LI)(K:SV → LH C0 → LN → Prop):Prop:=K (.one (.at (.val (Zi false)))) [(.box [(.val (VW (k))),(.val (VU (D))),(.slc 1),(.slc 2)]),(.row true .pn (ns)),(.row true .u64 (rs)),(.row false .u8 (b))] [0,1]
abbrev O51 {P0:Int → Int → Int → Int → Prop}(b:LI)(x:XHe P0)(Z_:Prop):Prop:=True/\VW (x.m)=VW (x.m)/\VW (x.r)=VW (x.r)/\True/\(VI ((↑(Zp x.n.toNat (Zn (b.length:Int).toNat b)).length:Int)))=(VI ((↑(Zp x.n.toNat (Zn (b.length:Int).toNat b)).length:Int)))/\Z_
theorem Yyn (kn:Int)(ns:LP)(rs b:LI)(K:KT)(hb:allB b)(hl:b.length<=1000000000)(hf:hdD b=none->∀ kk,K (.tup [.at (vU64 0),.at (vU64 0),.at (vB false)]) (chP kk 0 ns rs b) [0])(h:∀ k m r D,hdD b=some (k,m,r,D)->K (.tup [.at (vU64 m),.at (vU64 r),.at (vB true)]) (chP k D ns rs b) [0]) :
  vc C0 (aHd (PHd0 b) (PHd b (rvD b (rvD b (rvD b 0 false).2.1 (rvD b 0 false).2.2).2.1 (rvD b (rvD b 0 false).2.1 (rvD b 0 false).2.2).2.2).2.1) (rvD b 0 false).1 (rvD b (rvD b (rvD b 0 false).2.1 (rvD b 0 false).2.2).2.1 (rvD b (rvD b 0 false).2.1 (rvD b 0 false).2.2).2.2).2.1 ns rs b) Tryz.f102 [.at (.ptr 0 0),.at (.slc 3)] (chP kn 0 ns rs b) (Yh 4 (YG [0] K)):=by
 obtain⟨k,n1,f1,e1⟩:∃ k n f,rvD b 0 false=(k,n,f):=⟨_,_,_,rfl⟩
 obtain⟨m,n2,f2,e2⟩:∃ k n f,rvD b n1 f1=(k,n,f):=⟨_,_,_,rfl⟩
 obtain⟨r,n,f3,e3⟩:∃ k n f,rvD b n2 f2=(k,n,f):=⟨_,_,_,rfl⟩
 have hP0:PHd0 b=fun k' m' r' n'=>k'=k/\n'=n/\0<=n'/\n'+4=b.length/\hdD b=some (k',m',r',wD (b.drop n'.toNat)):=by
  unfold PHd0;simp only[e1,e2,e3]
 rw[hP0];simp only[e1,e2,e3]
 have hD:hdD b=if f3=true∨(b.length:Int)-n≠4∨65536<k∨65536<m∨4096<r then none else some (k,m,r,wD (b.drop n.toNat)):=by
  unfold hdD;simp only[e1,e2,e3]
 have g1:=YcL hb e1;have g2:=YcL hb e2;have g3:=YcL hb e3;have i1:=g1.2.2 (ZE 0) (by omega);have i2:=g2.2.2 i1.1 i1.2;have i3:=g3.2.2 i2.1 i2.2;generalize hP:PHd b n=P;generalize hQ:(fun k' m' r' n':Int=>k'=k/\n'=n/\0<=n'/\n'+4=b.length/\hdD b=some (k',m',r',wD (b.drop n'.toNat)))=P0
 refine Eq.mp (show (allB b/\b.length<=1000000000000/\∀ u:Int,∀ n1:Int,∀ f:Bool,rvD b 0 false=(Prod.mk (u) (Prod.mk (n1) (f)))->allB b/\b.length<=1000000000000/\∀ u1:Int,∀ n2:Int,∀ f1:Bool,rvD b n1 f=(Prod.mk (u1) (Prod.mk (n2) (f1)))->allB b/\b.length<=1000000000000/\∀ u2:Int,∀ n3:Int,∀ f2:Bool,rvD b n2 f1=(Prod.mk (u2) (Prod.mk (n3) (f2)))->brS (f2) (O49 ns rs b K u) (brS (Za.wrap ((b.length:Int)-n3) != 4) (O49 ns rs b K u) (brS (decide (u>65536)) (O49 ns rs b K u) (brS (decide (u1>65536)) (O49 ns rs b K u) (brS (decide (u2>4096)) (O49 ns rs b K u) (∃ x:XHe P0,True/\(True/\True/\True/\VW (u1)=VW (x.m)/\VW (u2)=VW (x.r)/\True)/\(VW (u)=VW (x.k)/\VU 0=VU 0/\True/\True/\True)/\ns=ns/\rs=rs/\b=b/\(True/\VI (n3)=VI (x.n)/\(Zi (f2))=Zi false/\True)/\True)))))/\∀ x:XHe P0,True->0<=x.n/\x.n<=(b.length:Int)/\(b.length:Int)<=(b.length:Int)/\(∃ x1:XHd P,True/\O51 b x (VI 0=(VI (x1.i:Int))/\True)/\(VW (x.k)=VW (k)/\VU 0=(VU (x1.D))/\True/\True/\True)/\ns=ns/\rs=rs/\b=b/\(Zp x.n.toNat (Zn (b.length:Int).toNat b))=Zp n.toNat b/\True)/\∀ x1:XHd P,True->brS (decide ((x1.i:Int)<(↑(Zp x.n.toNat (Zn (b.length:Int).toNat b)).length:Int))) (0<=(x1.i:Int)/\(x1.i:Int)<(↑(Zp n.toNat b).length:Int)/\∃ x':XHd P,True/\(O51 b x ((VI (Za.wrap ((x1.i:Int)+1)))=(VI (x'.i:Int))/\True)/\(VW (k)=VW (k)/\(VU (orI Ze (Ze.wrap (x1.D*2 ^ min (Zq 8) Ze.bits)) (Ze.wrap (getB (Zp n.toNat b) (x1.i:Int).toNat))))=(VU (x'.D))/\
  True/\True/\True)/\ns=ns/\rs=rs/\b=b/\Zp n.toNat b=Zp n.toNat b/\True)/\4-x'.i<4-x1.i) (K (.tup [(.at (.val (VW (x.m)))),(.at (.val (VW (x.r)))),(.at (.val (Zi true)))]) [(.box [(.val (VW (k))),(.val (VU (x1.D))),(.slc 1),(.slc 2)]),(.row true .pn (ns)),(.row true .u64 (rs)),(.row false .u8 (b))] [0]))=_ by kernel_rfl) ?_
 delta O49 O51;subst hP hQ;have tk:Zn (b.length:Int).toNat b=b:=by rw[Zau];exact ZJ
 refine⟨hb,by omega,fun u y1 y2 ye1=>?_⟩;rw[e1] at ye1;simp only[Zs] at ye1;obtain⟨rfl,rfl,rfl⟩:=ye1;refine⟨hb,by omega,fun u y1 y2 ye2=>?_⟩;rw[e2] at ye2;simp only[Zs] at ye2;obtain⟨rfl,rfl,rfl⟩:=ye2;refine⟨hb,by omega,fun u y1 y2 ye3=>?_⟩;rw[e3] at ye3;simp only[Zs] at ye3;obtain⟨rfl,rfl,rfl⟩:=ye3;rw[Yb (x:=(b.length:Int)-n) (by omega) (by omega)];have ne_of:∀ {x y:Int},(x != y)=true->x≠y:=fun {x y} q e=>by rw[e] at q;simp at q
 have eq_of:∀ {x y:Int},(x != y)=false->x=y:=fun {x y} q=>by simpa using q
 have bad:(f3=true∨(b.length:Int)-n≠4∨65536<k∨65536<m∨4096<r)->K (.tup [.at (vU64 0),.at (vU64 0),.at (vB false)]) (chP k 0 ns rs b) [0]:=fun q=>hf (by rw[hD,Zj q]) k
 refine⟨Ya (fun z1=>bad (.inl z1)) fun z1=>Ya (fun z2=>bad (.inr (.inl (ne_of z2)))) fun z2=>Ya (fun z3=>bad (.inr (.inr (.inl (Zc z3))))) fun z3=>Ya (fun z4=>bad (.inr (.inr (.inr (.inl (Zc z4)))))) fun z4=>Ya (fun z5=>bad (.inr (.inr (.inr (.inr (Zc z5)))))) fun z5=>?_,fun x _=>?_⟩
 .have q2:=eq_of z2;have q3:=Zg z3;have q4:=Zg z4;have q5:=Zg z5;refine⟨⟨k,m,r,n,rfl,rfl,i3.1,by omega,?_⟩,trivial,?_⟩
  .rw[hD,Zf]
   rintro (q|q|q|q|q)
   .rw[z1] at q;cases q
   .exact q q2
   .exact q3 q
   .exact q4 q
   .exact q5 q
  ·(repeat' first|exact trivial|exact rfl|exact ZT Zi z1|refine And.intro ?_ ?_)
 .obtain⟨k',m',r',n',rfl,rfl,h0,h4,hd⟩:=x;dsimp only;rw[tk];have hr:=YE hb n'.toNat;have rl:(b.drop n'.toNat).length=4:=by rw[Zy];omega
  refine⟨h0,by omega,by omega,⟨⟨0,0,by decide,rfl,by decide,by decide⟩,?_⟩,fun x1 _=>Ya (fun z=>?_) fun z=>?_⟩
  ·repeat' constructor
  .obtain⟨i,D,hi,hDi,d0,d1⟩:=x1;dsimp only at z ⊢;have z:i<(b.drop n'.toNat).length:=by have:=Zc z;omega
   rw[show ((i:Int)).toNat=i from rfl,Yb (x:=(i:Int)+1) (by omega) (by omega)];obtain⟨c0,c1⟩:=hr _ (Yj z)
   have p3:(256:Int) ^ i<=16777216:=by
    have:i=0∨i=1∨i=2∨i=3:=by omega
    rcases this with e|e|e|e<;>subst e<;>decide
   rw[YnU d0 (by omega) c0 c1];refine⟨by omega,by omega,⟨i+1,256*D+getB (b.drop n'.toNat) i,by omega,?_,by omega,by rw[ZaC];omega⟩,trivial,?_,by show 4-(i+1)<4-i;omega⟩
   .rw[Yo z,YcH,<-hDi]
   ·repeat' constructor
  .obtain⟨i,D,hi,hDi,d0,d1⟩:=x1;dsimp only at z ⊢;have z:i=4:=by have:=Zg z;omega
   rw[z,Zay (by omega)] at hDi;rw[hDi];exact h _ _ _ _ hd
theorem s_hd:Tb C0 102 tHd:=by
 refine .ofW [0] Tryz.func102 (by decide) rfl fun args H K h hB=>?_
 unfold tHd pkM at h;iterate 2 (split at h<;>try exact h.elim)
 rename_i _ kn D ns rs b;obtain⟨rfl,h1,h2,h3,h4⟩:=h;refine⟨_,?_,Yyn kn ns rs b K h1 h2 h3 h4⟩;exact⟨Ye C0.ok s_rv _,trivial⟩
theorem Yyo (k D:Int)(ns:LP)(rs b:LI)(K:KT)(k0:0<=k)(k1:k<=65536)(hn:ns.length<=65536)(hb:allB b)(hl:b.length<=1000000000)(hf:ndQ (k+ns.length+1) b=none->K (.one (.at (vB false))) (chP k D ns rs b) [0,1])(h:∀ x,ndQ (k+ns.length+1) b=some x->K (.one (.at (vB true))) (chP k D (ns++[x]) rs b) [0,1]) :
  vc C0 aNo Tryz.f103 [.at (.ptr 0 0),.at (.slc 3)] (chP k D ns rs b) (Yh 4 (YG [0,1] K)):=by
 refine Eq.mp (show (allB b/\b.length<=1000000000000/\∀ u:Int,∀ n:Int,∀ f:Bool,ryD b 0 false=(Prod.mk (u) (Prod.mk (n) (f)))->allB b/\b.length<=1000000000000/\∀ u1:Int,∀ n1:Int,∀ f1:Bool,rvD b n f=(Prod.mk (u1) (Prod.mk (n1) (f1)))->0<=u1/\u1<18446744073709551616/\∀ n2:Int,n2=uz u1->allB b/\b.length<=1000000000000/\∀ u2:Int,∀ n3:Int,∀ f2:Bool,rvD b n1 f1=(Prod.mk (u2) (Prod.mk (n3) (f2)))->allB b/\b.length<=1000000000000/\∀ u3:Int,∀ n4:Int,∀ f3:Bool,rvD b n3 f2=(Prod.mk (u3) (Prod.mk (n4) (f3)))->∀ r:Bool,r=(!f3 && n4==(b.length:Int))->brS (!r) (O50 k D ns rs b K) (brS (decide (u2≥Zd.wrap (Zd.wrap (k+Zd.wrap (ns.length:Int))+1))) (O50 k D ns rs b K) (brS (decide (u3≥Zd.wrap (Zd.wrap (k+Zd.wrap (ns.length:Int))+1))) (O50 k D ns rs b K) ((ns.length+[{ key:=u,value:=n2,left:=u2,right:=u3:PNT }].length)*Yd C0 EC.pn<=140737488355328/\K (.one (.at (.val (Zi true)))) [(.box [(.val (VW (k))),(.val (VU (D))),(.slc 1),(.slc 2)]),(.row true .pn (ns++[{ key:=u,value:=n2,left:=u2,right:=u3:PNT }])),(.row true .u64 (rs)),(.row false .u8 (b))] [0,1]))))=_ by kernel_rfl) ?_;delta O50;refine⟨hb,by omega,fun q1 n1 f1 e1=>⟨hb,by omega,fun q2 n2 f2 e2=>?_⟩⟩;have g1:=YnT hb e1;have g2:=YcL hb e2;refine⟨g2.1.1,g2.1.2,fun q2' e2'=>⟨hb,by omega,fun q3 n3 f3 e3=>⟨hb,by omega,fun q4 n4 f4 e4=>fun r er=>?_⟩⟩⟩
 have i2:=g2.2.2 g1.2.1 g1.2.2
 have hD:ndQ (k+ns.length+1) b=if f4=true∨n4≠(b.length:Int)∨k+ns.length+1<=q3∨k+ns.length+1<=q4 then none else some ⟨q1,uz q2,q3,q4⟩:=by
  unfold ndQ;simp only[e1,e2,e3,e4]
 rw[Yf (x:=(ns.length:Int)) (by omega) (by omega),Yf (x:=k+(ns.length:Int)) (by omega) (by omega),Yf (by omega) (by omega)];refine Ya (fun z=>hf ?_) fun z1=>Ya (fun z=>hf ?_) fun z2=>Ya (fun z=>hf ?_) fun z3=>⟨?_,h _ ?_⟩
 .rw[hD,Zj];rw[er] at z;cases f4 with
  | true=>exact .inl rfl
  | false =>
   refine .inr (.inl fun e=>?_);rw[e] at z;simp at z
 .rw[hD,Zj (.inr (.inr (.inl (Zc z))))]
 .rw[hD,Zj (.inr (.inr (.inr (Zc z))))]
 .rw[Ypj,Zr];omega
 .rw[hD,Zf,e2'];rw[er] at z1
  rintro (q|q|q|q)
  .rw[q] at z1;simp at z1
  .cases f4<;>simp at z1
   exact q z1
  .exact Zg z2 q
  .exact Zg z3 q
theorem s_no:Tb C0 103 tNo:=by
 refine .ofW [0,1] Tryz.func103 (by decide) rfl fun args H K h hB=>?_
 unfold tNo pkM at h;iterate 2 (split at h<;>try exact h.elim)
 rename_i _ k D ns rs b;obtain⟨h1,h2,h3,h4,h5,h6,h7⟩:=h;refine⟨_,?_,Yyo k D ns rs b K h1 h2 h3 h4 h5 h6 h7⟩;exact⟨Ye C0.ok s_rv _,Ye C0.ok s_ry _,Ye C0.ok s_rd _,Ye C0.ok s_uz _,trivial⟩
def PTl (top:Int)(c:Nat)(b:LI):Nat->LI->Int->Prop:=fun i rs n=>i<=c/\rs.length=i/\tlG top b c 0=(tlG top b (c-i) n).map fun q=>(rs++q.1,q.2)
theorem Yyp (c:Nat)(k D:Int)(ns:LP)(b:LI)(K:KT)(k0:0<=k)(k1:k<=65536)(hn:ns.length<=65536)(hc:c<=1000000)(hb:allB b)(hl:b.length<=1000000000)(hf:tlD (k+ns.length) c b=none->∀ r,K (.one (.at (vB false))) (chP k D ns r b) [0,2])(h:∀ r,tlD (k+ns.length) c b=some r->K (.one (.at (vB true))) (chP k D ns r b) [0,2]) :
  vc C0 (aTl (PTl (k+ns.length) c b) c k D ns b) Tryz.f104 [.at (.ptr 0 0),.at (.slc 3),.at (vU64 c)] (chP k D ns [] b) (Yh 4 (YG [0,2] K)):=by
 generalize hP:PTl (k+ns.length) c b=P
 refine Eq.mp (show ((∃ x:XTl P,True/\(True/\VW (c:Int)=VW (c:Int)/\True/\VW 0=(VW (x.i:Int))/\True)/\(VW (k)=VW (k)/\VU (D)=VU (D)/\True/\True/\True)/\ns=ns/\[]=x.rs/\b=b/\(True/\VI 0=(VI (x.n))/\Zi false=Zi false/\True)/\True)/\∀ x:XTl P,True->brS (decide ((x.i:Int)<(c:Int))) (allB b/\b.length<=1000000000000/\∀ u:Int,∀ n:Int,∀ f:Bool,rvD b x.n false=(Prod.mk (u) (Prod.mk (n) (f)))->(x.rs.length+[u].length)*Yd C0 EC.u64<=140737488355328/\brS (f) (K (.one (.at (.val (Zi false)))) [(.box [(.val (VW (k))),(.val (VU (D))),(.slc 1),(.slc 2)]),(.row true .pn (ns)),(.row true .u64 (x.rs++[u])),(.row false .u8 (b))] [0,2]) (0<=(x.i:Int)/\(x.i:Int)<(↑(x.rs++[u]).length:Int)/\brS (decide (getB (x.rs++[u]) (x.i:Int).toNat>Zd.wrap (k+Zd.wrap (ns.length:Int)))) (K (.one (.at (.val (Zi false)))) [(.box [(.val (VW (k))),(.val (VU (D))),(.slc 1),(.slc 2)]),(.row true .pn (ns)),(.row true .u64 (x.rs++[u])),(.row false .u8 (b))] [0,2]) (∃ x':XTl P,True/\((True/\VW (c:Int)=VW (c:Int)/\True/\(VW (Zd.wrap ((x.i:Int)+1)))=(VW (x'.i:Int))/\True)/\(VW (k)=VW (k)/\VU (D)=VU (D)/\True/\True/\True)/\ns=ns/\(x.rs++[u])=x'.rs/\b=b/\(True/\VI (n)=VI (x'.n)/\(Zi (f))=Zi false/\True)/\True)/\c-x'.i<c-x.i))) (∀ r:Bool,r=(!false && x.n==(b.length:Int))->K (.one (.at (.val (Zi (r))))) [(.box [(.val (VW (k))),(.val (VU (D))),(.slc 1),(.slc 2)]),(.row true .pn (ns)),(.row true .u64 (x.rs)),(.row false .u8 (b))] [0,2]))=_ by kernel_rfl) ?_
 subst hP;refine⟨⟨⟨0,[],0,ZC _,rfl,?_⟩,?_⟩,fun x _=>Ya (fun z=>?_) fun z=>?_⟩
 .rw[ZcO];cases tlG (k+ns.length) b c 0<;>rfl
 ·repeat' constructor
 .obtain⟨i,rs,n,hi,hr,hp⟩:=x;dsimp only at z ⊢;have z:i<c:=by have:=Zc z;omega
  obtain⟨d,ed⟩:∃ d,c-i=d+1:=⟨c-i-1,by omega⟩
  refine⟨hb,by omega,fun u n1 f e=>⟨by rw[Ydc,Zr];omega,?_⟩⟩;rw[Yf (x:=(ns.length:Int)) (by omega) (by omega),Yf (x:=k+(ns.length:Int)) (by omega) (by omega),Yf (x:=(i:Int)+1) (by omega) (by omega),show ((i:Int)).toNat=i from rfl];have gi:getB (rs++[u]) i=u:=by unfold getB;rw[<-hr];simp
  have hs:tlG (k+ns.length) b (d+1) n=if f=true∨k+ns.length<u then none else (tlG (k+ns.length) b d n1).map fun q=>(u::q.1,q.2):=by
   conv=>lhs;unfold tlG
   simp only[e]
  rw[ed,hs] at hp
  have bad:(f=true∨k+ns.length<u)->K (.one (.at (vB false))) (chP k D ns (rs++[u]) b) [0,2]:=fun q=>by
   rw[Zj q] at hp;exact hf (by unfold tlD;rw[hp];rfl) _
  rw[gi];refine Ya (fun q=>bad (.inl q)) fun q1=>⟨by omega,by rw[Zh,Zr];omega,Ya (fun q=>bad (.inr (Zc q))) fun q2=>?_⟩
  have q2:=Zg q2;rw[Zf (by rintro (q|q);(rw[q1] at q;cases q);exact q2 q)] at hp;refine⟨⟨i+1,rs++[u],n1,z,by rw[Zh,hr];rfl,?_⟩,trivial,?_,ZI z (ZO i)⟩
  .rw[hp,show c-(i+1)=d by omega];cases tlG (k+ns.length) b d n1 with
   | none=>rfl
   | some v=>simp
  ·(repeat' first|exact trivial|exact rfl|exact ZT Zi q1|refine And.intro ?_ ?_)
 .obtain⟨i,rs,n,hi,hr,hp⟩:=x;dsimp only at z ⊢;have z:i=c:=by have:=Zg z;omega
  intro r er;rw[z,Nat.sub_self] at hp;have hp:tlG (k+ns.length) b c 0=some (rs,n):=by rw[hp];simp[tlG]
  by_cases q:n=(b.length:Int)
  .rw[show r=true by rw[er,q];simp];exact h _ (by unfold tlD;rw[hp];simp[q])
  .rw[show r=false by rw[er];simp[q]];exact hf (by unfold tlD;rw[hp];simp[q]) _
theorem s_tl:Tb C0 104 tTl:=by
 refine .ofW [0,2] Tryz.func104 (by decide) rfl fun args H K h hB=>?_
 unfold tTl pkM at h;iterate 2 (split at h<;>try exact h.elim)
 rename_i c _ k D ns rs b;obtain⟨rfl,h1,h2,h3,c0,c1,h4,h5,h6,h7⟩:=h;obtain⟨c,rfl⟩:=Int.eq_ofNat_of_zero_le c0;refine⟨_,?_,Yyp c k D ns b K h1 h2 h3 (by omega) h4 h5 h6 h7⟩;exact⟨Ye C0.ok s_rv _,Ye C0.ok s_rd _,trivial⟩
structure PKT where
 known:Int
 digest:Int
 nodes:LP
 roots:LI
def PKT.zero:PKT:=⟨0,0,[],[]⟩
def mgD:LI->LI->Int
 | [],_=>0
 | _::_,[]=>12
 | m::ms,c::cs=>if c=m then mgD ms cs else 13
def nsD (b:LI)(k:Int):Nat->Int->LP->Int × LP × Int
 | 0,at_,ns=>(0,ns,at_)
 | n+1,at_,ns=>match nxD b at_ with
  | (p,n1,e)=>if e≠0 then (e,[],0) else match ndQ (k+ns.length+1) p with
   | none=>(13,[],0)
   | some x=>nsD b k n n1 (ns++[x])
def pkD (b:LI):Int × PKT:=if mgD magB b≠0 then (mgD magB b,.zero) else
 match nxD b 4 with
 | (p,n1,e)=>if e≠0 then (e,.zero) else match hdD p with
  | none=>(13,.zero)
  | some (k,m,r,D)=>match nsD b k m.toNat n1 [] with
   | (e2,ns,n2)=>if e2≠0 then (e2,.zero) else match nxD b n2 with
    | (p2,n3,e3)=>if e3≠0 then (e3,.zero) else match tlD (k+ns.length) r.toNat p2 with
     | none=>(13,.zero)
     | some rs=>if n3=(b.length:Int) then (0,⟨k,D,ns,rs⟩) else (13,.zero)
structure XRa (P:LI->Int->Prop) where
 p:LI
 n:Int
 h:P p n
structure XRb (P:Int->Int->Int->Int->LP->Int->Nat->Prop) where
 k:Int
 m:Int
 r:Int
 D:Int
 ns:LP
 n:Int
 i:Nat
 h:P k m r D ns n i
structure XRd (P:Bool->Int->Int->Int->Int->Int->Prop) where
 ok:Bool
 k:Int
 m:Int
 r:Int
 D:Int
 n:Int
 h:P ok k m r D n
structure XRc (P:Int->Int->Int->Int->LP->Int->LI->Prop) where
 k:Int
 m:Int
 r:Int
 D:Int
 ns:LP
 n:Int
 p:LI
 h:P k m r D ns n p
abbrev hfR (b:LI)(k D:Int)(ns:LP):LH C0:=[.row false .u8 b,.box [vU64 0,vU 0,.slc 2,.slc 3],.row true .pn [],.row true .u64 [],.box [vU64 k,vU D,.slc 5,.slc 6],.row true .pn ns,.row true .u64 []]
def aRe (P1:LI->Int->Prop)(P0:Bool->Int->Int->Int->Int->Int->Prop)(P2 P3 P4:Int->Int->Int->Int->LP->Int->Nat->Prop)(P5:Int->Int->Int->Int->LP->Int->LI->Prop)(b:LI):Ann C0:={ quiet:=[9999999,101],Γ:=[(101,Yc [] tNx),(102,Yc [] tHd),(103,Yc [] tNo),(104,Yc [] tTl)],rounds:=fun n=>if n=2 then 5 else 0,inv:=fun j=>match j with
 | 1008=>some { X:=PLift (mgD magB b=0),sl:=[2],tf:=fun _=>[.one (.at (.ptr 1 0))],hf:=fun _=>[.row false .u8 b,.box [vU64 0,vU 0,.slc 2,.slc 3],.row true .pn [],.row true .u64 []] }
 | 1011=>some { X:=XRa P1,sl:=[2,5,6],tf:=fun x=>[.one (.at (.ptr 1 0)),.one (.at (.slc 4)),vi .i64 x.n],hf:=fun x=>[.row false .u8 b,.box [vU64 0,vU 0,.slc 2,.slc 3],.row true .pn [],.row true .u64 [],.row true .u8 x.p] }
 | 1013=>some { X:=XRd P0,sl:=[2,6,8,9,10,11],tf:=fun x=>[.one (.at (.ptr 1 0)),vi .i64 x.n,.one (.at (.ptr 4 0)),vi .u64 x.m,vi .u64 x.r,vb x.ok],hf:=fun x=>hfR b x.k x.D [] }
 | 1015=>some { X:=XRb P2,sl:=[2,6,8,9,10],tf:=fun x=>[.one (.at (.ptr 1 0)),vi .i64 x.n,.one (.at (.ptr 4 0)),vi .u64 x.m,vi .u64 x.r],hf:=fun x=>hfR b x.k x.D x.ns }
 | 16=>some { X:=XRb P3,sl:=[2,6,8,9,10,12],tf:=fun x=>[.one (.at (.ptr 1 0)),vi .i64 x.n,.one (.at (.ptr 4 0)),vi .u64 x.m,vi .u64 x.r,vi .u64 x.i],hf:=fun x=>hfR b x.k x.D x.ns,μ:=fun x=>x.m.toNat-x.i }
 | 1023=>some { X:=XRb P4,sl:=[2,6,8,10],tf:=fun x=>[.one (.at (.ptr 1 0)),vi .i64 x.n,.one (.at (.ptr 4 0)),vi .u64 x.r],hf:=fun x=>hfR b x.k x.D x.ns }
 | 1026=>some { X:=XRc P5,sl:=[2,5,6,8,10],tf:=fun x=>[.one (.at (.ptr 1 0)),.one (.at (.slc 7)),vi .i64 x.n,.one (.at (.ptr 4 0)),vi .u64 x.r],hf:=fun x=>hfR b x.k x.D x.ns++[.row true .u8 x.p] }
 | _=>none }
def tRe:Tfm C0:=fun args H K=>match args,H with
 | [.at (.slc 0)],[.row false .u8 b]=>allB b/\b.length<=1000000000/\∀ e p,pkD b=(e,p)->K (.tup [.agg [vU64 p.known,vU p.digest,.slc 1,.slc 2],.at (vI e)]) [.row false .u8 b,.row true .pn p.nodes,.row true .u64 p.roots] []
 | _,_=>False
theorem Yky (b:LI):(b.length=0->mgD magB b=12)/\(0<b.length->getB b 0≠86->mgD magB b=13)/\(getB b 0=86->b.length=1->mgD magB b=12)/\(getB b 0=86->1<b.length->getB b 1≠77->mgD magB b=13) ∧
  (getB b 0=86->getB b 1=77->b.length=2->mgD magB b=12)/\(getB b 0=86->getB b 1=77->2<b.length->getB b 2≠80->mgD magB b=13)/\(getB b 0=86->getB b 1=77->getB b 2=80->b.length=3->mgD magB b=12) ∧
  (getB b 0=86->getB b 1=77->getB b 2=80->3<b.length->getB b 3≠49->mgD magB b=13)/\(getB b 0=86->getB b 1=77->getB b 2=80->getB b 3=49->3<b.length->mgD magB b=0):=by
 rcases b with _|⟨c0,_|⟨c1,_|⟨c2,_|⟨c3,t⟩⟩⟩⟩<;>simp +contextual [mgD,magB,getB]
theorem YbX {b p:LI}{at_ n e:Int}(hb:allB b)(h:nxD b at_=(p,n,e)):allB p/\p.length<=b.length:=by
 by_cases c:at_<0∨(b.length:Int)<at_
 .unfold nxD at h;rw[Zj c] at h;simp only[Zs] at h;rw[<-h.1];exact⟨Yci,ZC _⟩
 .obtain⟨q,k,e',hv⟩:∃ v k e',frD 12 13 14 1048576 (b.drop at_.toNat)=(v,k,e'):=⟨_,_,_,rfl⟩
  have ue:=Yba (by omega) (by omega) hv;rw[h] at ue
  by_cases z:e'=0
  .rw[Zj z] at ue;simp only[Zs] at ue;obtain⟨v,k',e2,h2⟩:∃ v k e',vD 12 13 0 (b.drop at_.toNat) 0=(v,k,e'):=⟨_,_,_,rfl⟩
   have ef:=YbW h2;rw[hv] at ef;split at ef
   .simp only[Zs] at ef;omega
   .split at ef
    .simp only[Zs] at ef;omega
    .split at ef
     .simp only[Zs] at ef;omega
     .split at ef
      .simp only[Zs] at ef;rw[ue.1,ef.1];refine⟨YE (Yaw (YE hb _) _) _,?_⟩;rw[Zy,ZG,Zy];omega
      .simp only[Zs] at ef;omega
  .rw[Zf z] at ue;simp only[Zs] at ue;rw[ue.1];exact⟨Yci,ZC _⟩
theorem YsP {p:LI}{k m r D:Int}(hb:allB p)(h:hdD p=some (k,m,r,D)):(0<=k/\k<=65536)/\(0<=m/\m<=65536)/\0<=r/\r<=4096:=by
 obtain⟨k1,n1,f1,e1⟩:∃ k n f,rvD p 0 false=(k,n,f):=⟨_,_,_,rfl⟩
 obtain⟨m1,n2,f2,e2⟩:∃ k n f,rvD p n1 f1=(k,n,f):=⟨_,_,_,rfl⟩
 obtain⟨r1,n3,f3,e3⟩:∃ k n f,rvD p n2 f2=(k,n,f):=⟨_,_,_,rfl⟩
 unfold hdD at h;simp only[e1,e2,e3] at h;split at h
 .cases h
 .rename_i c;simp only[Zl,Zs] at h;have g1:=(YcL hb e1).1;have g2:=(YcL hb e2).1;have g3:=(YcL hb e3).1;omega
structure ReF (b:LI) (k m r D n:Int):Prop where
 mg:mgD magB b=0
 ex:∃ p,nxD b 4=(p,n,0)/\allB p/\hdD p=some (k,m,r,D)
theorem ReF.rng {b:LI}{k m r D n:Int}(h:ReF b k m r D n):(0<=k/\k<=65536)/\(0<=m/\m<=65536)/\0<=r/\r<=4096:=by
 obtain⟨p,_,h1,h2⟩:=h.ex;exact YsP h1 h2
theorem ReF.pk {b:LI}{k m r D n:Int}(h:ReF b k m r D n){e2 n2:Int}{ns:LP}(hn:nsD b k m.toNat n []=(e2,ns,n2)):pkD b=if e2≠0 then (e2,.zero) else match nxD b n2 with
    | (p2,n3,e3)=>if e3≠0 then (e3,.zero) else match tlD (k+ns.length) r.toNat p2 with
     | none=>(13,.zero)
     | some rs=>if n3=(b.length:Int) then (0,⟨k,D,ns,rs⟩) else (13,.zero):=by
 obtain⟨p,h0,h1,h2⟩:=h.ex;unfold pkD;rw[Zf (by rw[h.mg];simp),h0];simp only[ne_eq,not_true_eq_false,if_false,h2,hn]
theorem Ydq {b:LI}{k:Int}{d:Nat}{n:Int}{ns:LP}{p2:LI}{n2 e2:Int}(h:nxD b n=(p2,n2,e2)):nsD b k (d+1) n ns=if e2≠0 then (e2,[],0) else match ndQ (k+ns.length+1) p2 with
    | none=>(13,[],0)
    | some x=>nsD b k d n2 (ns++[x]):=by
 show (match nxD b n with
  | (p,n1,e)=>if e≠0 then (e,[],0) else match ndQ (k+ns.length+1) p with
   | none=>(13,[],0)
   | some x=>nsD b k d n1 (ns++[x]))=_
 rw[h]
def PR1 (b:LI):LI->Int->Prop:=fun p n=>mgD magB b=0/\nxD b 4=(p,n,0)
def PR0 (b:LI):Bool->Int->Int->Int->Int->Int->Prop:=fun ok k m r D n=>mgD magB b=0/\∃ p,nxD b 4=(p,n,0)/\allB p/\(ok=false->hdD p=none)/\(ok=true->hdD p=some (k,m,r,D))
def PR2 (b:LI):Int->Int->Int->Int->LP->Int->Nat->Prop:=fun k m r D ns n _=>ReF b k m r D n/\ns=[]
def PR3 (b:LI):Int->Int->Int->Int->LP->Int->Nat->Prop:=fun k m r D ns n i=>∃ n0,ReF b k m r D n0/\i<=m.toNat/\ns.length=i/\nsD b k m.toNat n0 []=nsD b k (m.toNat-i) n ns
def PR4 (b:LI):Int->Int->Int->Int->LP->Int->Nat->Prop:=fun k m r D ns n _=>∃ n0,ReF b k m r D n0/\ns.length<=65536/\nsD b k m.toNat n0 []=(0,ns,n)
def PR5 (b:LI):Int->Int->Int->Int->LP->Int->LI->Prop:=fun k m r D ns n p=>∃ n0 n1,ReF b k m r D n0/\ns.length<=65536/\nsD b k m.toNat n0 []=(0,ns,n1)/\nxD b n1=(p,n,0)
abbrev O52 (b:LI)(K:SV → LH C0 → LN → Prop):Prop:=K (.tup [(TV.agg [(.val (VW 0)),(.val (VU 0)),(.slc 1),(.slc 2)]),(.at (.val (VI 13)))]) [(.row false .u8 (b)),(.row true .pn []),(.row true .u64 [])] []
abbrev O53 (b:LI)(Z_:Prop):Prop:=b=b/\(VW 0=VW 0/\VU 0=VU 0/\True/\True/\True)/\([]:LP)=[]/\([]:LI)=[]/\Z_
abbrev O54 (b:LI)(K:SV → LH C0 → LN → Prop):Prop:=K (.tup [(TV.agg [(.val (VW 0)),(.val (VU 0)),(.slc 1),(.slc 2)]),(.at (.val (VI 12)))]) [(.row false .u8 (b)),(.row true .pn []),(.row true .u64 [])] []
abbrev O55 (b:LI)(K:SV → LH C0 → LN → Prop)(e:Int):Prop:=K (.tup [(TV.agg [(.val (VW 0)),(.val (VU 0)),(.slc 1),(.slc 2)]),(.at (.val (VI (e))))]) [(.row false .u8 (b)),(.row true .pn []),(.row true .u64 [])] []
theorem Yyq (b:LI)(K:KT)(hb:allB b)(hl:b.length<=1000000000)(h:∀ e p,pkD b=(e,p)->K (.tup [.agg [vU64 p.known,vU p.digest,.slc 1,.slc 2],.at (vI e)]) [.row false .u8 b,.row true .pn p.nodes,.row true .u64 p.roots] []) :
  vc C0 (aRe (PR1 b) (PR0 b) (PR2 b) (PR3 b) (PR4 b) (PR5 b) b) Tryz.f53 [.at (.slc 0)] [.row false .u8 b] (Yh 1 K):=by
 generalize hP1:PR1 b=P1;generalize hP0:PR0 b=P0;generalize hP2:PR2 b=P2;generalize hP3:PR3 b=P3;generalize hP4:PR4 b=P4;generalize hP5:PR5 b=P5
 refine Eq.mp (show (brS (0==(b.length:Int)) (O54 b K) ((0:Int)<=0/\0<(b.length:Int)/\brS (getB b (Zq 0) != 86) (O52 b K) (brS (Za.wrap (0+1)==(b.length:Int)) (O54 b K) (0<=Za.wrap (0+1)/\Za.wrap (0+1)<(b.length:Int)/\brS (getB b (Za.wrap (0+1)).toNat != 77) (O52 b K) (brS (Za.wrap (Za.wrap (0+1)+1)==(b.length:Int)) (O54 b K) (0<=Za.wrap (Za.wrap (0+1)+1)/\Za.wrap (Za.wrap (0+1)+1)<(b.length:Int)/\brS (getB b (Za.wrap (Za.wrap (0+1)+1)).toNat != 80) (O52 b K) (brS (Za.wrap (Za.wrap (Za.wrap (0+1)+1)+1)==(b.length:Int)) (O54 b K) (0<=Za.wrap (Za.wrap (Za.wrap (0+1)+1)+1)/\Za.wrap (Za.wrap (Za.wrap (0+1)+1)+1)<(b.length:Int)/\brS (getB b (Za.wrap (Za.wrap (Za.wrap (0+1)+1)+1)).toNat != 49) (O52 b K) (∃ x:PLift (mgD magB b=0),True/\(True/\True/\True)/\O53 b (True)))))))))/\∀ x:PLift (mgD magB b=0),True->allB b/\b.length<=1000000000/\∀ p:LI,∀ n:Int,∀ e:Int,nxD b 4=(Prod.mk (p) (Prod.mk (n) (e)))->brS (e != 0) (O55 b K e) (∃ x1:XRa P1,True/\(True/\True/\True/\VI (n)=VI (x1.n)/\True)/\O53 b (p=x1.p/\True))/\∀ x1:XRa P1,True->((0:Int)=0/\allB x1.p/\x1.p.length<=1000000000/\(hdD x1.p=none->∀ kk:Int,∃ x2:XRd P0,True/\(True/\True/\VI (x1.n)=VI (x2.n)/\True/\VW 0=(VW (x2.m))/\VW 0=(VW (x2.r))/\Zi false=(Zi (x2.ok))/\True)/\O53 b ((VW (kk)=VW (x2.k)/\VU 0=(VU (x2.D))/\
  True/\True/\True)/\([]:LP)=[]/\([]:LI)=[]/\True))/\∀ k:Int,∀ m:Int,∀ r:Int,∀ D:Int,hdD x1.p=(some (Prod.mk (k) (Prod.mk (m) (Prod.mk (r) (D)))))->∃ x2:XRd P0,True/\(True/\True/\VI (x1.n)=VI (x2.n)/\True/\VW (m)=VW (x2.m)/\VW (r)=VW (x2.r)/\Zi true=(Zi (x2.ok))/\True)/\O53 b ((VW (k)=VW (x2.k)/\VU (D)=VU (x2.D)/\True/\True/\True)/\([]:LP)=[]/\([]:LI)=[]/\True))/\∀ x2:XRd P0,True->brS (!x2.ok) (O52 b K) (∃ x3:XRb P2,True/\(True/\True/\VI (x2.n)=VI (x3.n)/\True/\VW (x2.m)=VW (x3.m)/\VW (x2.r)=VW (x3.r)/\True)/\O53 b ((VW (x2.k)=VW (x3.k)/\VU (x2.D)=VU (x3.D)/\True/\True/\True)/\[]=x3.ns/\([]:LI)=[]/\True))/\∀ x3:XRb P2,True->((∃ x4:XRb P3,True/\(True/\True/\VI (x3.n)=VI (x4.n)/\True/\VW (x3.m)=VW (x4.m)/\VW (x3.r)=VW (x4.r)/\VW 0=(VW (x4.i:Int))/\True)/\O53 b ((VW (x3.k)=VW (x4.k)/\VU (x3.D)=VU (x4.D)/\True/\True/\True)/\x3.ns=x4.ns/\([]:LI)=[]/\True))/\∀ x4:XRb P3,True->brS (decide ((x4.i:Int)<x4.m)) (allB b/\b.length<=1000000000/\∀ p1:LI,∀ n1:Int,∀ e1:Int,nxD b x4.n=(Prod.mk (p1) (Prod.mk (n1) (e1)))->brS (e1 != 0) (O55 b K e1) (0<=x4.k/\x4.k<=65536/\x4.ns.length<=65536/\allB p1/\p1.length<=1000000000/\((ndQ (x4.k+(x4.ns.length:Int)+1) p1)=none->O52 b K)/\∀ x5:PNT,(ndQ (x4.k+(x4.ns.length:Int)+1) p1)=(some (x5))->∃ x':XRb P3,True/\((True/\True/\VI (n1)=VI (x'.n)/\True/\VW (x4.m)=VW (x'.m)/\VW (x4.r)=VW (x'.r)/\(VW (Zd.wrap ((x4.i:Int)+1)))=(VW (x'.i:Int))/\True)/\O53 b ((VW (x4.k)=VW (x'.k)/\VU (x4.D)=VU (x'.D)/\
  True/\True/\True)/\(x4.ns++[x5])=x'.ns/\([]:LI)=[]/\True))/\x'.m.toNat-x'.i<x4.m.toNat-x4.i)) (∃ x5:XRb P4,True/\(True/\True/\VI (x4.n)=VI (x5.n)/\True/\VW (x4.r)=VW (x5.r)/\True)/\O53 b ((VW (x4.k)=VW (x5.k)/\VU (x4.D)=VU (x5.D)/\True/\True/\True)/\x4.ns=x5.ns/\([]:LI)=[]/\True)))/\∀ x4:XRb P4,True->(allB b/\b.length<=1000000000/\∀ p1:LI,∀ n1:Int,∀ e1:Int,nxD b x4.n=(Prod.mk (p1) (Prod.mk (n1) (e1)))->brS (e1 != 0) (O55 b K e1) (∃ x5:XRc P5,True/\(True/\True/\True/\VI (n1)=VI (x5.n)/\True/\VW (x4.r)=VW (x5.r)/\True)/\O53 b ((VW (x4.k)=VW (x5.k)/\VU (x4.D)=VU (x5.D)/\True/\True/\True)/\x4.ns=x5.ns/\([]:LI)=[]/\p1=x5.p/\True)))/\∀ x5:XRc P5,True->([]:LI)=[]/\0<=x5.k/\x5.k<=65536/\x5.ns.length<=65536/\0<=x5.r/\x5.r<=1000000/\allB x5.p/\x5.p.length<=1000000000/\((tlD (x5.k+(x5.ns.length:Int)) x5.r.toNat x5.p)=none->∀ r:LI,O52 b K)/\∀ r:LI,(tlD (x5.k+(x5.ns.length:Int)) x5.r.toNat x5.p)=(some (r))->brS (x5.n != (b.length:Int)) (O52 b K) (K (.tup [(TV.agg [(.val (VW (x5.k))),(.val (VU (x5.D))),(.slc 1),(.slc 2)]),(.at (.val (VI 0)))]) [(.row false .u8 (b)),(.row true .pn (x5.ns)),(.row true .u64 (r))] []))=_ by kernel_rfl) ?_
 delta O52 O53 O54 O55;subst hP1 hP0 hP2 hP3 hP4 hP5;have er:∀ e,pkD b=(e,.zero)->K (.tup [.agg [vU64 0,vU 0,.slc 1,.slc 2],.at (vI e)]) [.row false .u8 b,.row true .pn [],.row true .u64 []] []:=fun e q=>h e .zero q
 have em:∀ e:Int,e≠0->mgD magB b=e->K (.tup [.agg [vU64 0,vU 0,.slc 1,.slc 2],.at (vI e)]) [.row false .u8 b,.row true .pn [],.row true .u64 []] []:=fun e e0 q=>er e (by unfold pkD;rw[Zj (by rw[q];exact e0),q])
 obtain⟨m1,m2,m3,m4,m5,m6,m7,m8,m9⟩:=Yky b;have ne_of:∀ {x y:Int},(x != y)=true->x≠y:=fun {x y} q e=>by rw[e] at q;simp at q
 have eq_of:∀ {x y:Int},(x != y)=false->x=y:=fun {x y} q=>by simpa using q
 have bn:∀ {x y:Int},(x==y)=false->x≠y:=fun {x y} q e=>by rw[e] at q;simp at q
 have w1:Za.wrap (0+1)=1:=by decide
 have w2:Za.wrap (1+1)=2:=by decide
 have w3:Za.wrap (2+1)=3:=by decide
 rw[w1,w2,w3,show Zq 0=0 from rfl,show Zq 1=1 from rfl,show Zq 2=2 from rfl,show Zq 3=3 from rfl]
 refine⟨Ya (fun z=>em 12 (by decide) (m1 (by have:=eq_of_beq z;omega))) fun z0=>⟨by decide,by have:=bn z0;omega,Ya (fun z=>em 13 (by decide) (m2 (by have:=bn z0;omega) (ne_of z))) fun y0 =>
  Ya (fun z=>em 12 (by decide) (m3 (eq_of y0) (by have:=eq_of_beq z;omega))) fun z1=>⟨by decide,by have:=bn z0;have:=bn z1;omega,Ya (fun z=>em 13 (by decide) (m4 (eq_of y0) (by have:=bn z0;have:=bn z1;omega) (ne_of z))) fun y1 =>
  Ya (fun z=>em 12 (by decide) (m5 (eq_of y0) (eq_of y1) (by have:=eq_of_beq z;omega))) fun z2=>⟨by decide,by have:=bn z0;have:=bn z1;have:=bn z2;omega,Ya (fun z=>em 13 (by decide) (m6 (eq_of y0) (eq_of y1) (by have:=bn z0;have:=bn z1;have:=bn z2;omega) (ne_of z))) fun y2 =>
  Ya (fun z=>em 12 (by decide) (m7 (eq_of y0) (eq_of y1) (eq_of y2) (by have:=eq_of_beq z;omega))) fun z3=>⟨by decide,by have:=bn z0;have:=bn z1;have:=bn z2;have:=bn z3;omega,Ya (fun z=>em 13 (by decide) (m8 (eq_of y0) (eq_of y1) (eq_of y2) (by have:=bn z0;have:=bn z1;have:=bn z2;have:=bn z3;omega) (ne_of z))) fun y3=>?_⟩⟩⟩⟩,fun x _=>?_⟩
 .refine⟨⟨m9 (eq_of y0) (eq_of y1) (eq_of y2) (eq_of y3) (by have:=bn z0;have:=bn z1;have:=bn z2;have:=bn z3;omega)⟩,?_⟩
  repeat' constructor
 obtain⟨mg⟩:=x;clear m1 m2 m3 m4 m5 m6 m7 m8 m9;refine⟨hb,by omega,fun p n e he=>⟨Ya (fun z=>er e ?_) fun z=>⟨⟨p,n,mg,?_⟩,?_⟩,fun x1 _=>?_⟩⟩
 .have z:=ne_of z;unfold pkD;rw[Zf (by rw[mg];simp),he];simp only[ne_eq,z,not_false_eq_true,if_true]
 .rw[he,eq_of z]
 ·repeat' constructor
 obtain⟨p,n,mg,he⟩:=x1;have pr:=YbX hb he;refine⟨⟨rfl,pr.1,by show p.length<=_;omega,fun hd kk=>⟨⟨false,kk,0,0,0,n,mg,p,he,pr.1,fun _=>hd,fun e=>(by cases e)⟩,?_⟩,fun k m r D hd=>⟨⟨true,k,m,r,D,n,mg,p,he,pr.1,fun e=>(by cases e),fun _=>hd⟩,?_⟩⟩,fun x2 _=>⟨Ya (fun z=>?_) fun z=>?_,fun x3 _=>⟨⟨?_,fun x4 _=>Ya (fun y=>?_) fun y=>?_⟩,fun x4 _=>⟨?_,fun x5 _=>?_⟩⟩⟩⟩
 ·repeat' constructor
 ·repeat' constructor
 .obtain⟨ok,k,m,r,D,n,mg,p,he,pb,h1,h2⟩:=x2;dsimp only at z;have z:ok=false:=by simpa using z
  refine er 13 ?_;unfold pkD;rw[Zf (by rw[mg];simp),he];simp only[ne_eq,not_true_eq_false,if_false,h1 z]
 .obtain⟨ok,k,m,r,D,n,mg,p,he,pb,h1,h2⟩:=x2;dsimp only at z ⊢;have z:ok=true:=by simpa using z
  refine⟨⟨k,m,r,D,[],n,0,⟨mg,p,he,pb,h2 z⟩,rfl⟩,?_⟩
  repeat' constructor
 .obtain⟨k,m,r,D,ns,n,_,F,rfl⟩:=x3;refine⟨⟨k,m,r,D,[],n,0,n,F,ZC _,rfl,by rw[ZcO]⟩,?_⟩
  repeat' constructor
 .obtain⟨k,m,r,D,ns,n,i,n0,F,hi,hn,hq⟩:=x4;dsimp only at y ⊢;obtain⟨k2,m2,r2⟩:=F.rng;have y:i<m.toNat:=by have:=Zc y;omega
  obtain⟨d,ed⟩:∃ d,m.toNat-i=d+1:=⟨m.toNat-i-1,by omega⟩
  refine⟨hb,by omega,fun p2 n2 e2 he2=>?_⟩;have pr2:=YbX hb he2;have hs:=Ydq (k:=k) (d:=d) (ns:=ns) he2;rw[ed,hs] at hq;refine Ya (fun q=>er e2 ?_) fun q=>⟨k2.1,k2.2,by omega,pr2.1,by omega,fun hx=>er 13 ?_,fun x hx=>?_⟩
  .have q:=ne_of q;rw[Zj q] at hq;rw[F.pk hq,Zj q]
  .rw[Zf (by rw[eq_of q];simp),hx] at hq;rw[F.pk hq,Zj (by decide)]
  .rw[Zf (by rw[eq_of q];simp),hx] at hq;rw[Yf (x:=(i:Int)+1) (by omega) (by omega)];refine⟨⟨k,m,r,D,ns++[x],n2,i+1,n0,F,y,by rw[Zh,hn];rfl,by rw[hq,show m.toNat-(i+1)=d by omega]⟩,trivial,?_,by show m.toNat-(i+1)<m.toNat-i;omega⟩
   repeat' constructor
 .obtain⟨k,m,r,D,ns,n,i,n0,F,hi,hn,hq⟩:=x4;dsimp only at y ⊢;obtain⟨k2,m2,r2⟩:=F.rng;have y:m.toNat-i=0:=by have:=Zg y;omega
  rw[y] at hq;refine⟨⟨k,m,r,D,ns,n,0,n0,F,by omega,hq⟩,trivial,?_⟩
  repeat' constructor
 .obtain⟨k,m,r,D,ns,n,_,n0,F,hn,hq⟩:=x4;dsimp only;refine⟨hb,by omega,fun p2 n2 e2 he2=>Ya (fun q=>er e2 ?_) fun q=>⟨⟨k,m,r,D,ns,n2,p2,n0,n,F,hn,hq,by rw[he2,eq_of q]⟩,?_⟩⟩
  .rw[F.pk hq,Zf (by simp),he2];simp only[ne_eq,ne_of q,not_false_eq_true,if_true]
  ·repeat' constructor
 .obtain⟨k,m,r,D,ns,n,p2,n0,n1,F,hn,hq,he2⟩:=x5;dsimp only;obtain⟨k2,m2,r2⟩:=F.rng;have pr2:=YbX hb he2;have pk:=F.pk hq;rw[Zf (by simp),he2] at pk;simp only[ne_eq,not_true_eq_false,if_false] at pk;refine⟨rfl,k2.1,k2.2,hn,r2.1,by omega,pr2.1,by omega,fun ht rr=>er 13 ?_,fun rs ht=>Ya (fun q=>er 13 ?_) fun q=>h 0 ⟨k,D,ns,rs⟩ ?_⟩
  .rw[pk,ht]
  .rw[pk,ht];simp only[ne_of q,if_false]
  .rw[pk,ht];simp only[eq_of q,if_true]
theorem s_re:Tb C0 53 tRe:=by
 refine .of Tryz.func53 (by decide) rfl fun args H K h hB=>?_
 unfold tRe at h;split at h<;>try exact h.elim
 rename_i b;refine⟨_,?_,Yyq b K h.1 h.2.1 h.2.2⟩;exact⟨Ye C0.ok s_nx _,Ye C0.ok s_hd _,Ye C0.ok s_no _,Ye C0.ok s_tl _,trivial⟩
def entO (o:Option Ent):TV:=.agg [vI (o.getD (0,0)).1,vI (o.getD (0,0)).2]
end Go.Proofs.YtedfbafngmicpaaGreat.Sx
namespace Go.Proofs.YtedfbafngmicpaaGreat
open Go

end Go.Proofs.YtedfbafngmicpaaGreat
namespace Go.Proofs.YtedfbafngmicpaaGreat.Sx
open Go
def Ykz:Tfm C0:=fun args H K=>match args,H with
 | [.agg [.val (.int .i64 k),.val (.int .i64 v),.val (.int .u32 _),.val (.int .u32 _),.val (.int .i64 _),.val (.int .i64 _),.val (.int .i64 _),.val (.int .i64 _)]],[]=>K (.one (.agg [vI k,vI v])) [] []
 | _,_=>False
theorem YnV:Tb C0 148 Ykz:=by
 refine .of Tryz.func148 (by decide) rfl fun args H K h hB=>⟨A0,trivial,?_⟩
 unfold Ykz at h;split at h<;>try exact h.elim
 exact Eq.mp (show _=_ by kernel_rfl) h
end Go.Proofs.YtedfbafngmicpaaGreat.Sx
namespace Go.Proofs.YtedfbafngmicpaaGreat
open Go
theorem YO {a b:LE}{k v:Int}(h:Asc (a++(k,v)::b)):Asc a/\Asc b/\(∀ x∈a,x.1<k)/\(∀ x∈b,k<x.1) :=
 ⟨Srt.left h,(Srt.right h).tail,fun x hx=>(ZaG.1 h).2.2 x hx (k,v) (by simp),fun x hx=>(Srt.right h).head x hx⟩
theorem YkA {a b:LE}{k v:Int}(h1:Asc a)(h2:Asc b)(h3:∀ x∈a,x.1<k)(h4:∀ x∈b,k<x.1):Asc (a++(k,v)::b):=by
 refine ZaG.2 ⟨h1,Srt.cons h2 h4,fun x hx y hy=>?_⟩;rcases ZH.1 hy with rfl|hy
 .exact h3 x hx
 .have:=h3 x hx;have:=h4 y hy;omega
theorem YnW {a b:LE}{k v:Int}{e:Ent}(h:Asc (a++(k,v)::b))(he:e.1<k):insE (a++(k,v)::b) e=insE a e++(k,v)::b:=by
 induction a with
 | nil =>
  rw[ZS,Yag h,Zj he];simp[insE,Ybm]
 | cons x a ih =>
  have ha:Asc (x::a):=Srt.left h;have h':Asc (x::(a++(k,v)::b)):=h;rw[ZaW,Yag h',Yag ha,ih h'.tail];split
  .rfl
  .split<;>rfl
theorem YlS {a b:LE}{k v:Int}{e:Ent}(h:Asc (a++(k,v)::b))(he:k<e.1):insE (a++(k,v)::b) e=a++(k,v)::insE b e:=by
 induction a with
 | nil =>
  rw[ZS,Yag h,Zf (by show ¬ e.1<k;omega),Zf (by show ¬ k=e.1;omega)]
  rfl
 | cons x a ih =>
  have h':Asc (x::(a++(k,v)::b)):=h;have hx:x.1<k:=(YO h).2.2.1 x (by simp);rw[ZaW,Yag h',Zf (by omega),Zf (by omega),ih h'.tail]
  rfl
theorem YsQ {a b:LE}{v:Int}{e:Ent}(h:Asc (a++(e.1,v)::b)):insE (a++(e.1,v)::b) e=a++e::b:=by
 induction a with
 | nil =>
  rw[ZS,Yag h,Zf (by show ¬ e.1<e.1;omega),Zj rfl]
  rfl
 | cons x a ih =>
  have h':Asc (x::(a++(e.1,v)::b)):=h;have hx:x.1<e.1:=(YO h).2.2.1 x (by simp);rw[ZaW,Yag h',Zf (by omega),Zf (by omega),ih h'.tail]
  rfl
def flt (p:Int->Bool)(l:LE):LE:=l.filter fun x=>p x.1
theorem YgX {p:Int->Bool}{l:LE}(h:∀ x∈l,p x.1=true):flt p l=l:=List.filter_eq_self.2 h
theorem YgY {p:Int->Bool}(a b:LE)(k v:Int):flt p (a++(k,v)::b)=flt p a++(if p k then (k,v)::flt p b else flt p b):=by
 unfold flt;rw[ZcH,ZbB]
theorem YsR {p:Int->Bool}{l:LE}(h:Asc l):Asc (flt p l):=List.Pairwise.filter _ h
theorem Yfe {a b:LE}{k v q:Int}(h:Asc (a++(k,v)::b))(hq:q<k):getE (a++(k,v)::b) q=getE a q:=by
 obtain⟨_,_,_,h4⟩:=YO h;rw[Ycb,Ycb,Ydw,YY,Zf (by show ¬ k=q;omega),YbG (l:=b) (fun x hx=>by have:=h4 x hx;omega)];simp
theorem YdM {a b:LE}{k v q:Int}(h:Asc (a++(k,v)::b))(hq:k<q):getE (a++(k,v)::b) q=getE b q:=by
 obtain⟨_,_,h3,_⟩:=YO h;rw[Ycb,Ycb,Ydw,YY,Zf (by show ¬ k=q;omega),Yhw (l:=a) (fun x hx=>by have:=h3 x hx;omega)];simp
theorem Yff {a b:LE}{k v:Int}(h:Asc (a++(k,v)::b)):getE (a++(k,v)::b) k=some v:=by
 obtain⟨_,_,h3,_⟩:=YO h;rw[Ycb,Ydw,YY,Zj rfl,Yhw (l:=a) (fun x hx=>by have:=h3 x hx;omega)];simp

theorem w0:wt 0=1:=rfl
theorem w2:wt 2=3:=rfl
theorem w3:wt 3=4:=rfl
theorem w4:wt 4=6:=rfl
theorem w5:wt 5=8:=rfl
theorem w6:wt 6=11:=rfl
theorem YjC {l c:Nat}(h:balN l c)(hc:2<=c):jB l (c-1)<=4:=by
 unfold balN at h;unfold jB;rw[YI (w:=c-1+1) (by omega)];have:=YnB (w:=l+1) (v:=c-1+1) (by omega) (by omega);omega
theorem Yrk {l:Nat}(h:balN l 1):jB l 0<=7:=by
 unfold balN at h;unfold jB;rw[YI (w:=0+1) (by omega)];have:=YnC (w:=l+1) (by omega);show 1+3*(dsc (l+1) 1+0)<=7;omega
theorem YsS {l c:Nat}(h:balN l c):jB l (c+1)<=4:=by
 unfold balN at h;unfold jB;rw[YI (w:=l+1) (by omega)]
 by_cases hl:l=0
 .subst hl;have:=Ykx (w:=c+1+1) (by omega);show 1+3*(0+dsc (c+1+1) 1)<=4;omega
 .have:=YnB (w:=c+1+1) (v:=l+1) (by omega) (by omega);omega
def pB (n:Nat):Nat:=if n<=3 then n else gN (n+1)+3
theorem pB_g (n:Nat):pB n<=gN (n+1)+3:=by
 unfold pB;split<;>omega
theorem YvH {n:Nat}(h:1<=n):1<=pB n:=by unfold pB;split<;>omega
theorem YsT {l r:Nat}(h:balN l r)(hr:1<=r)(hz:l+r+1<=900000):pB r+jB l (r-1)<=pB (l+r+1):=by
 have hb:=h;unfold balN at hb
 by_cases r1:r=1
 .subst r1;have p1:pB 1=1:=rfl;rw[p1];have j:jB l (1-1)=1+3*(dsc (l+1) 1+dsc 1 (l+1)):=rfl;rw[j,YI (w:=1) (by omega)]
  by_cases c1:l<=2
  .rw[YI (by omega)];unfold pB;split
   .omega
   .omega
  .have:pB (l+1+1)=gN (l+1+1+1)+3:=by unfold pB;rw[Zf (by omega)]
   rw[this]
   by_cases c2:l<=4
   .have:=Ykx (w:=l+1) (by omega);have:=YdK (w:=l+1+1+1) (h:=4) (by decide) (by rw[w4];omega);omega
   .have:=YnC (w:=l+1) (by omega);have:=YdK (w:=l+1+1+1) (h:=5) (by decide) (by rw[w5];omega);omega
 .by_cases c:l+1<=3*r
  .have j:jB l (r-1)=1:=by
    unfold jB;rw[YI (by omega),YI (by omega)]
   rw[j]
   by_cases r3:r<=3
   .have:pB r=r:=by unfold pB;rw[Zj r3]
    rw[this];unfold pB;split
    .omega
    .have:=YdK (w:=l+r+1+1) (h:=3) (by decide) (by rw[w3];omega);omega
   .have e1:pB r=gN (r+1)+3:=by unfold pB;rw[Zf r3]
    have e2:pB (l+r+1)=gN (l+r+1+1)+3:=by unfold pB;rw[Zf (by omega)]
    have:=YgS (m:=r+1) (w:=l+r+1+1) (by omega) (by omega) (by omega);omega
  .have j:=YjC h (show 2<=r by omega);have e2:pB (l+r+1)=gN (l+r+1+1)+3:=by unfold pB;rw[Zf (by omega)]
   by_cases r3:r<=3
   .have e1:pB r=r:=by unfold pB;rw[Zj r3]
    by_cases r2:r=2
    .have:=YdK (w:=l+r+1+1) (h:=5) (by decide) (by rw[w5];omega);omega
    .have:=YdK (w:=l+r+1+1) (h:=6) (by decide) (by rw[w6];omega);omega
   .have e1:pB r=gN (r+1)+3:=by unfold pB;rw[Zf r3]
    have:=YpP (r:=r+1) (w:=l+r+1+1) (by omega) (by omega) (by omega);omega
def cB (l r:Nat):Nat:=if l=0∨r=0 then 0 else pB l+jB (l-1) r
theorem YvI {l r:Nat}(h:balN l r)(hz:l+r<=800000):cB l r<=4*gN (l+r+2):=by
 unfold cB;split
 .omega
 .have h1:=pB_g l
  have h5:jB (l-1) r<=7:=by
   rw[YdL]
   by_cases c:l=1
   .subst c;exact Yrk (YA h)
   .have:=YjC (YA h) (show 2<=l by omega);omega
  have hb:=h;unfold balN at hb;have h3:=YgS (m:=l+1) (w:=l+r+2) (by omega) (by omega) (by omega);have h4:=YdK (w:=l+r+2) (h:=3) (by decide) (by rw[w3];omega);omega
def iB (n:Nat):Nat:=4*gN (n+1)+1
def dB (n:Nat):Nat:=if n<=1 then 1 else 4*gN (n+1)+4
theorem YnX {l c:Nat}(h:balN l c)(hz:l+c<=800000):iB c+4<=iB (l+c+1):=by
 unfold balN at h;unfold iB;have:=YgS (m:=c+1) (w:=l+c+1+1) (by omega) (by omega) (by omega);omega
theorem Yyr (n:Nat):dB n<=4*gN (n+1)+4:=by unfold dB;split<;>omega
theorem YvJ (n:Nat):1<=dB n:=by unfold dB;split<;>omega
theorem YnY {l c:Nat}(h:balN l c)(hc:1<=c)(hz:l+c<=800000):dB c+jB l (c-1)<=dB (l+c+1):=by
 have hb:=h;unfold balN at hb;have e:dB (l+c+1)=4*gN (l+c+1+1)+4:=by unfold dB;rw[Zf (by omega)]
 rw[e]
 by_cases c1:c=1
 .subst c1;have j:=Yrk h;have e1:dB 1=1:=rfl;have:=YdK (w:=l+1+1+1) (h:=2) (by decide) (by rw[w2];omega);rw[e1];show 1+jB l 0<=_;omega
 .have j:=YjC h (show 2<=c by omega);have e1:dB c=4*gN (c+1)+4:=by unfold dB;rw[Zf (by omega)]
  have:=YgS (m:=c+1) (w:=l+c+1+1) (by omega) (by omega) (by omega);omega
theorem YpX {l r:Nat}(h:balN l r)(hz:l+r<=800000):cB l r+1<=dB (l+r+1):=by
 unfold dB;split
 .have e1:l=0:=by omega
  subst e1;unfold cB;simp
 .have:=YvI h hz;have e:l+r+1+1=l+r+2:=rfl;rw[e];omega
theorem YnZ {l:LE}(e:Ent)(h:Asc l):l.length<=(insE l e).length:=by
 induction l with
 | nil=>exact ZC _
 | cons x l ih =>
  rw[Yag h];have:=ih h.tail;split
  .simp
  .split<;>simp<;>omega
def hasK (l:LE)(k:Int):Prop:=∃ v,(k,v)∈l
def neK (key:Int)(q:Int):Bool:=decide (q≠key)
theorem YfW {l:LE}{k:Int}(h:Asc l)(hk:hasK l k):(flt (neK k) l).length+1=l.length:=by
 induction l with
 | nil=>obtain⟨v,hv⟩:=hk;simp at hv
 | cons x l ih =>
  obtain⟨v,hv⟩:=hk;have hh:=h.head;unfold flt at ih ⊢;rw[ZbB]
  by_cases e:x.1=k
  .have:(l.filter fun x=>neK k x.1)=l:=List.filter_eq_self.2 fun y hy=>by have:=hh y hy;simp[neK];omega
   simp[neK,e]
   simpa [neK] using this
  .have hm:(k,v)∈l:=by
    rcases ZH.1 hv with q|q
    .exact absurd (ZT Prod.fst q).symm e
    .exact q
   have:=ih h.tail ⟨v,hm⟩;simp[neK,e] at this ⊢;omega
theorem Got.of_zero {S S':Arn}{hs hs1:LI}{m r:Nat}(a:Got S hs m r S' (0::hs1)):Got S hs m r S' hs1:=⟨a.wf.of_zero,a.stay,a.len,a.nu,a.rd0,a.rd⟩
theorem YsU {p:Int->Bool}{a b:LE}{k v:Int}(hb:∀ x∈b,p x.1=true)(hk:p k=true):flt p (a++(k,v)::b)=flt p a++(k,v)::b:=by
 rw[YgY,YgX hb,hk];simp
theorem YsV {p:Int->Bool}{a b:LE}{k v:Int}(ha:∀ x∈a,p x.1=true)(hk:p k=true):flt p (a++(k,v)::b)=a++(k,v)::flt p b:=by
 rw[YgY,YgX ha,hk];simp
end Go.Proofs.YtedfbafngmicpaaGreat
namespace Go.Proofs.YtedfbafngmicpaaGreat.Sx
open Go
def aWts:Ann C0:={ Γ:=[],rounds:=fun n=>if n=4 then 82 else 0 }
def tWts:Tfm C0:=fun args H K=>match args,H with
 | [],[]=>K (.one (.agg (wtsL.map fun n=>vI n))) [] []
 | _,_=>False
def wC:Nat->Int->Prop->Prop
 | 0,_,Q=>Q
 | n+1,h,Q=>(0<=Za.wrap (h-1))/\(Za.wrap (h-1)<((81:Nat):Int))/\(0<=Za.wrap (h-1))/\(Za.wrap (h-1)<((81:Nat):Int))/\(0<=h)/\(h<((81:Nat):Int))/\wC n (Za.wrap (h+1)) Q
theorem YvK:∀ (n:Nat) (h:Int) (Q:Prop),1<=h->h+n<=81->Q->wC n h Q
 | 0,_,_,_,_,q=>q
 | n+1,h,Q,h1,h2,q=>by
  have e1:=Yb (x:=h-1) (by omega) (by omega);have e2:=Yb (x:=h+1) (by omega) (by omega);unfold wC;rw[e1,e2];exact⟨by omega,by omega,by omega,by omega,by omega,by omega,YvK n (h+1) Q (by omega) (by omega) q⟩
theorem Yys:Tb C0 126 tWts:=by
 refine .of Tryz.func126 (by decide) rfl fun args H K h hB=>?_
 unfold tWts at h;split at h<;>try exact h.elim
 refine⟨aWts,trivial,Eq.mp (show ((0:Int)<=0/\(0:Int)<((81:Nat):Int)/\wC 80 1 (K (.one (.agg (wtsL.map fun n=>vI n))) [] []))=_ by kernel_rfl) ?_⟩;exact⟨by decide,by decide,YvK 80 1 _ (by decide) (by decide) h⟩
def aMh:Ann C0:={ Γ:=[(126,Yc [] tWts)],rounds:=fun n=>if n=5 then 82 else 0 }
def mhC (k:Int)(Q:Int->Prop):LI->Int->Prop
 | [],h=>Q h
 | w::l,h=>(0<=Za.wrap (h+1))/\(Za.wrap (h+1)<((81:Nat):Int))/\brS (decide (Za.wrap (w-1)<=k)) (mhC k Q l (Za.wrap (h+1))) (Q h)
theorem Yrl {k:Int}{Q:Int->Prop}:∀ (l:LI) (h:Int),0<=h->h+l.length<=80->(∀ w∈l,0<=w/\w<=1000000000000)->Q (hnC l h k)->mhC k Q l h
 | [],_,_,_,_,q=>q
 | w::l,h,h1,h2,h3,q=>by
  have hw:=h3 w (by simp);have hl:(w::l).length=l.length+1:=rfl;unfold mhC;rw[Yb (x:=h+1) (by omega) (by omega),Yb (x:=w-1) (by omega) (by omega)];unfold hnC at q;refine⟨by omega,by omega,Ya (fun c=>?_) fun c=>?_⟩
  .rw[Zj (Zc c)] at q;exact Yrl l (h+1) (by omega) (by omega) (fun x hx=>h3 x (by simp[hx])) q
  .rw[Zf (Zg c)] at q;exact q
def tMh:Tfm C0:=fun args H K=>match args,H with
 | [.at (.val (.int .i64 k))],[]=>0<=k/\k<=2147483647/\∀ h,h=Hn k->K (.one (.at (vI h))) [] []
 | _,_=>False
theorem s_mh:Tb C0 100 tMh:=by
 refine .of Tryz.func100 (by decide) rfl fun args H K h hB=>?_
 unfold tMh at h;split at h<;>try exact h.elim
 rename_i k;obtain⟨h1,h2,h⟩:=h;refine⟨aMh,⟨Ye C0.ok Yys _,trivial⟩,Eq.mp (show (brS (decide (k<0)) (K (.one (.at (vI (-1)))) [] []) (brS (decide (k>2147483647)) (K (.one (.at (vI (-1)))) [] []) (mhC k (fun h=>K (.one (.at (vI h))) [] []) (wtsL.drop 1) 0)))=_ by kernel_rfl) ?_⟩;refine Ya (fun c=>by have:=Zc c;omega) fun _=>Ya (fun c=>by have:=Zc c;omega) fun _=>Yrl _ 0 (by decide) (by decide) (by decide) (h _ rfl)
end Go.Proofs.YtedfbafngmicpaaGreat.Sx
