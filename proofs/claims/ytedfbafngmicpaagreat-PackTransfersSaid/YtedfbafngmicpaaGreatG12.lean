/- A part of the proof. -/
import Derived.Test.YtedfbafngmicpaaGreatG11
import Derived.Test.YtedfbafngmicpaaGreatG5
import Derived.Test.YtedfbafngmicpaaGreatG6
import Derived.Test.YtedfbafngmicpaaGreatG10
import Derived.Test.YtedfbafngmicpaaGreatG9
import Derived.Test.YtedfbafngmicpaaGreatProg
import Derived.Test.YtedfbafngmicpaaGreatChecked
import Derived.WalkKit
import Derived.ProofKit
import Derived.OpenShut
import Derived.SizedLaws
import Derived.Carry
import Derived.Test.YtedfbafngmicpaaGreatG4
import Derived.Deep.Slices
import Derived.Lib.SmallJoins
import Derived.Deep.Strs
import Derived.Test.YtedfbafngmicpaaGreatRows
section
/- The reference's trees over a dump: nodes, balance, height, list, order, Check, Tree. -/
namespace Go.Proofs.YtedfbafngmicpaaGreat.Sx
open Go

/-KEEP Wf exW inU alcD slotsOf orderOf ndD RepD Asc Tr.Bal Tr.size Tr.list ht balB lastK anyK gtL ShpT-/
def ndD (d:List SlotT)(i:Int):NodeT:=if alcD d i=true then (sltD d i).node else NodeT.zero
def lastK:Tr->Int->Int
 | .nil,x=>x
 | .node _ k _ r,_=>lastK r k
def anyK:Tr->Bool->Bool
 | .nil,b=>b
 | .node _ _ _ _,_=>true
def gtL (x:Int)(l:List Ent):Prop:=∀ y∈l,x<y.1
def RepD (d:List SlotT):Tr->Int->Prop
 | .nil,i=>i=0
 | .node l k v r,i=>alcD d i=true/\(ndD d i).key=k/\(ndD d i).value=v/\(ndD d i).size=1+l.size+r.size/\RepD d l (ndD d i).left/\RepD d r (ndD d i).right
noncomputable def aAlcG:Ann C0:={ Γ:=[(108,frameT [] tAlc)] }
def tNd:Tfm C0:=fun args H K=>match args,H with
 | [.agg [.slc 0,.slc 1],.at (.val (.int .u32 i))],[.row false .slot d,.row false .u32 fl]=>inU i/\d.length<=1000000/\∀ n,n=ndD d i->K (.one (nodeA n)) [.row false EC.slot d,.row false EC.u32 fl] []
 | _,_=>False
def tBl7 (n:Nat):Tfm C0:=fun args H K=>match args,H with
 | [.agg [.slc 0,.slc 1],.at (.val (.int .u32 i))],[.row false .slot d,.row false .u32 fl]=>d.length<=1000000/\(∃ t,RepD d t i/\t.Bal/\t.size<n/\t.size<=1000000)/\K (.one (.at (vB true))) [.row false EC.slot d,.row false EC.u32 fl] []
 | _,_=>False
noncomputable def aBl7 (n:Nat):Ann C0:={ quiet:=[57,120,110],Γ:=[(57,frameT [] tNd),(120,frameT [] tBal),(110,frameT [] (tBl7 n))] }
def tLi7 (n:Nat):Tfm C0:=fun args H K=>match args,H with
 | [.agg [.slc 0,.slc 1],.at (.val (.int .u32 i))],[.row false .slot d,.row false .u32 fl]=>d.length<=1000000/\∃ t,RepD d t i/\t.size<n/\t.size<=1000000/\∀ r,r=t.list->K (.one (.at (.slc 2))) [.row false EC.slot d,.row false EC.u32 fl,.row true EC.ent r] []
 | _,_=>False
noncomputable def aLi7 (n:Nat):Ann C0:={ quiet:=[57,35],Γ:=[(57,frameT [] tNd),(35,frameT [] (tLi7 n))] }
def tOr7 (n:Nat):Tfm C0:=fun args H K=>match args,H with
 | [.at (.ptr 0 0),.at (.val (.int .u32 i))],[.box [.slc 1,.slc 2,.val (.int .i64 last),.val (.bool any),.val (.int .i64 most)],.row false .slot d,.row false .u32 fl]=>d.length<=1000000/\∃ t,RepD d t i/\Asc t.list/\t.size<n/\(t.size:Int)<=most/\most<=10000000/\(any=true->gtL last t.list) ∧
  ∀ la an mo,la=lastK t last->an=anyK t any->mo=most-t.size->K (.one (.at (vB true))) [.box [.slc 1,.slc 2,vI la,vB an,vI mo],.row false EC.slot d,.row false EC.u32 fl] [0]
 | _,_=>False
noncomputable def aOr7 (n:Nat):Ann C0:={ Γ:=[(57,frameT [] tNd),(109,frameT [] (tOr7 n))] }
noncomputable def aCk7 (n:Nat):Ann C0:={ Γ:=[(108,frameT [] tAlc),(109,frameT [] (tOr7 n)),(110,frameT [] (tBl7 n))] }
def tCk7:Tfm C0:=fun args H K=>match args,H with
 | [.agg [.slc 0,.slc 1],.at (.val (.int .u32 i))],[.row false .slot d,.row false .u32 fl]=>d.length<=1000000/\(∃ t,RepD d t i/\Asc t.list/\t.Bal/\t.size<=2*d.length+2/\t.size<=1000000)/\K (.one (.at (vI 0))) [.row false EC.slot d,.row false EC.u32 fl] []
 | _,_=>False
noncomputable def aTr7 (n:Nat)(l:List Ent)(d:List SlotT)(fl:List Int):Ann C0:={ Γ:=[(56,frameT [] tCk7),(57,frameT [] tNd),(35,frameT [] (tLi7 n))],inv:=fun k=>match k with
 | 7=>some { X:=XIx l.length,sl:=[8,3,7],tf:=fun x=>[vi .i64 x.i,.one (.at (.ptr 3 0)),.one (.at (.slc 4))],hf:=fun _=>[.row false EC.slot d,.row false EC.u32 fl,.row false EC.ent l,.box [.slc 0,.slc 1],.row true EC.ent l],μ:=fun x=>l.length-x.i }
 | _=>none }
def tTr7:Tfm C0:=fun args H K=>match args,H with
 | [.agg [.slc 0,.slc 1],.at (.val (.int .u32 i)),.at (.slc 2)],[.row false .slot d,.row false .u32 fl,.row false .ent l]=>d.length<=1000000/\(∃ t,RepD d t i/\Asc t.list/\t.Bal/\t.size<=2*d.length+2/\t.size<=1000000/\t.list=l)/\K (.one (.at (vB true))) [.row false EC.slot d,.row false EC.u32 fl,.row false EC.ent l] []
 | _,_=>False
theorem bt7 {b:Bool}{t f:Prop}(h:b=true)(ht:t):brS b t f:=by rw[h];exact ht
theorem bf7 {b:Bool}{t f:Prop}(h:b=false)(hf:f):brS b t f:=by rw[h];exact hf
theorem RepD.inU {d:List SlotT}{t:Tr}{i:Int}(h:RepD d t i)(hl:d.length<=1000000):inU i:=by
 cases t with
 | nil=>have:i=0:=h;rw[this];exact⟨by omega,by omega⟩
 | node l k v r=>have:=alcD_rng h.1;exact⟨by omega,by omega⟩
theorem RepD.sz {d:List SlotT}{t:Tr}{i:Int}(h:RepD d t i):(ndD d i).size=t.size:=by
 cases t with
 | nil =>
  have:i=0:=h
  unfold ndD
  rw[this,alcD_lo (by omega)];rfl
 | node l k v r=>rw[h.2.2.2.1];simp[Tr.size]
theorem RepD.ne {d:List SlotT}{l r:Tr}{k v i:Int}(h:RepD d (.node l k v r) i):i≠0:=by have:=alcD_rng h.1;omega
theorem s_nd7:SoundT C0 57 tNd:=by
 refine .of Tryz.func57 (by decide) rfl fun args H K h hB=>?_
 unfold tNd at h
 split at h<;>try exact h.elim
 rename_i i d fl
 obtain⟨h1,h2,h⟩:=h
 have key:∀ d:List SlotT,d.length<=1000000->(∀ n,n=ndD d i->K (.one (nodeA n)) [.row false EC.slot d,.row false EC.u32 fl] [])->vc C0 aAlcG Tryz.f57 [.agg [.slc 0,.slc 1],.at (vU i)] [.row false EC.slot d,.row false EC.u32 fl] (normK 2 K):=fun d h2 h=>by
  refine Eq.mp (show (inU i/\d.length<=1000000/\brS (!alcD d i) (K (.one (TV.agg [(.val (VI 0)),(.val (VI 0)),(.val (VU 0)),(.val (VU 0)),(.val (VI 0)),(.val (VI 0)),(.val (VI 0)),(.val (VI 0))])) [(.row false EC.slot (d)),(.row false EC.u32 (fl))] []) (0<=IntKind.u32.wrap (i-1)/\IntKind.u32.wrap (i-1)<(d.length:Int)/\K (.one (TV.agg [(.val (VI ((eS d (IntKind.u32.wrap (i-1)).toNat).node.key))),(.val (VI ((eS d (IntKind.u32.wrap (i-1)).toNat).node.value))),(.val (VU ((eS d (IntKind.u32.wrap (i-1)).toNat).node.left))),(.val (VU ((eS d (IntKind.u32.wrap (i-1)).toNat).node.right))),(.val (VI ((eS d (IntKind.u32.wrap (i-1)).toNat).node.size))),(.val (VI ((eS d (IntKind.u32.wrap (i-1)).toNat).node.sum))),(.val (VI ((eS d (IntKind.u32.wrap (i-1)).toNat).node.min))),(.val (VI ((eS d (IntKind.u32.wrap (i-1)).toNat).node.max)))])) [(.row false EC.slot (d)),(.row false EC.u32 (fl))] []))=_ by kernel_rfl) ?_
  refine⟨h1,h2,brS_of (fun c=>?_) fun c=>?_⟩
  ·have c:alcD d i=false:=by simpa using c
   exact h NodeT.zero (by unfold ndD;rw[c];rfl)
  ·have c:alcD d i=true:=by simpa using c
   obtain⟨a,b⟩:=alcD_rng c
   obtain⟨u1,u2⟩:=h1
   rw[wrap_u32 (x:=i-1) (by omega) (by omega)]
   exact⟨by omega,by omega,h (eS d (i-1).toNat).node (by unfold ndD;rw[if_pos c];rfl)⟩
 exact⟨aAlcG,⟨frame C0.ok s_alc _,trivial⟩,key d h2 h⟩
theorem vc_bl7 (n:Nat)(d:List SlotT)(fl:List Int)(i:Int)(K:KT)(hl:d.length<=1000000)(t:Tr)(rp:RepD d t i)(bal:t.Bal)(hn:t.size<n+1)(hs:t.size<=1000000)(h:K (.one (.at (vB true))) [.row false EC.slot d,.row false EC.u32 fl] []) :
  vc C0 (aBl7 n) Tryz.f110 [.agg [.slc 0,.slc 1],.at (vU i)] [.row false EC.slot d,.row false EC.u32 fl] (normK 2 K):=by
 refine Eq.mp (show (brS (i==0) (K (.one (.at (.val (Value.bool true)))) [(.row false EC.slot (d)),(.row false EC.u32 (fl))] []) (inU i/\d.length<=1000000/\∀ n1:NodeT,n1=ndD d i->inU n1.left/\d.length<=1000000/\∀ n2:NodeT,n2=ndD d n1.left->inU n1.right/\d.length<=1000000/\∀ n3:NodeT,n3=ndD d n1.right->0<=n2.size/\n2.size<=1000000/\0<=n3.size/\n3.size<=1000000/\∀ b:Bool,b=balB n2.size n3.size->brS (b) (d.length<=1000000/\(∃ t:Tr,RepD d t n1.left/\t.Bal/\t.size<n/\t.size<=1000000)/\d.length<=1000000/\(∃ t:Tr,RepD d t n1.right/\t.Bal/\t.size<n/\t.size<=1000000)/\K (.one (.at (.val (Value.bool true)))) [(.row false EC.slot (d)),(.row false EC.u32 (fl))] []) (K (.one (.at (.val (Value.bool false)))) [(.row false EC.slot (d)),(.row false EC.u32 (fl))] [])))=_ by kernel_rfl) ?_
 cases t with
 | nil=>have e:i=0:=rp;exact bt7 (by rw[e];rfl) h
 | node l k v r =>
  have hi:=rp.inU hl
  have hne:=rp.ne
  obtain⟨h1,h2,h3,h4,h5,h6⟩:=rp
  obtain⟨b0,bl,br⟩:=bal
  have hz:(Tr.node l k v r).size=1+l.size+r.size:=rfl
  refine bf7 (by simp[hne]) ⟨hi,hl,fun n1 e1=>?_⟩
  subst e1
  refine⟨h5.inU hl,hl,fun n2 e2=>⟨h6.inU hl,hl,fun n3 e3=>?_⟩⟩
  have s2:n2.size=l.size:=by rw[e2,h5.sz]
  have s3:n3.size=r.size:=by rw[e3,h6.sz]
  refine⟨by omega,by omega,by omega,by omega,fun b eb=>bt7 (by rw[eb,s2,s3];exact decide_eq_true b0) ⟨hl,⟨l,h5,bl,by omega,by omega⟩,hl,⟨r,h6,br,by omega,by omega⟩,h⟩⟩
theorem s_bl7:∀ n:Nat,SoundT C0 110 (tBl7 n)
 | 0=>by
  refine .of Tryz.func110 (by decide) rfl fun args H K h hB=>?_
  unfold tBl7 at h
  split at h<;>try exact h.elim
  obtain⟨_,⟨t,_,_,hn,_⟩,_⟩:=h
  omega
 | n+1=>by
  refine .of Tryz.func110 (by decide) rfl fun args H K h hB=>?_
  unfold tBl7 at h
  split at h<;>try exact h.elim
  rename_i i d fl
  obtain⟨hl,⟨t,rp,bal,hn,hs⟩,h⟩:=h
  exact⟨aBl7 n,⟨frame C0.ok s_nd7 _,frame C0.ok s_bal _,frame C0.ok (s_bl7 n) _,trivial⟩,vc_bl7 n d fl i K hl t rp bal hn hs h⟩
theorem vc_li7 (n:Nat)(d:List SlotT)(fl:List Int)(i:Int)(K:KT)(hl:d.length<=1000000)(t:Tr)(rp:RepD d t i)(hn:t.size<n+1)(hs:t.size<=1000000)(h:∀ r,r=t.list->K (.one (.at (.slc 2))) [.row false EC.slot d,.row false EC.u32 fl,.row true EC.ent r] []) :
  vc C0 (aLi7 n) Tryz.f35 [.agg [.slc 0,.slc 1],.at (vU i)] [.row false EC.slot d,.row false EC.u32 fl] (normK 2 K):=by
 refine Eq.mp (show (brS (i==0) (K (.one (.at (.slc 2))) [(.row false EC.slot (d)),(.row false EC.u32 (fl)),(.row true EC.ent [])] []) (inU i/\d.length<=1000000/\∀ n1:NodeT,n1=ndD d i->(d.length<=1000000/\∃ t:Tr,RepD d t n1.left/\t.size<n/\t.size<=1000000/\∀ r:List Ent,r=t.list->(r.length+[(n1.key,n1.value)].length)*bytesOf C0 EC.ent<=140737488355328/\d.length<=1000000/\∃ t1:Tr,RepD d t1 n1.right/\t1.size<n/\t1.size<=1000000/\∀ r1:List Ent,r1=t1.list->((r++[(n1.key,n1.value)]).length+r1.length)*bytesOf C0 EC.ent<=140737488355328/\K (.one (.at (.slc 2))) [(.row false EC.slot (d)),(.row false EC.u32 (fl)),(.row true EC.ent (r++[(n1.key,n1.value)]++r1))] [])/\d.length<=1000000/\∃ t:Tr,RepD d t n1.left/\t.size<n/\t.size<=1000000/\∀ r:List Ent,r=t.list->(r.length+[(n1.key,n1.value)].length)*bytesOf C0 EC.ent<=140737488355328/\d.length<=1000000/\∃ t1:Tr,RepD d t1 n1.right/\t1.size<n/\t1.size<=1000000/\∀ r1:List Ent,r1=t1.list->((r++[(n1.key,n1.value)]).length+r1.length)*bytesOf C0 EC.ent<=140737488355328/\K (.one (.at (.slc 2))) [(.row false EC.slot (d)),(.row false EC.u32 (fl)),(.row true EC.ent (r++[(n1.key,n1.value)]++r1))] []))=_ by kernel_rfl) ?_
 rw[bytes_ent]
 cases t with
 | nil=>have e:i=0:=rp;exact bt7 (by rw[e];rfl) (h [] rfl)
 | node l k v r =>
  have hi:=rp.inU hl
  have hne:=rp.ne
  obtain⟨h1,h2,h3,h4,h5,h6⟩:=rp
  have hz:(Tr.node l k v r).size=1+l.size+r.size:=rfl
  refine bf7 (by simp[hne]) ⟨hi,hl,fun n1 e1=>?_⟩
  subst e1
  have ll:=l.list_len
  have lr:=r.list_len
  constructor
  all_goals
   refine⟨hl,l,h5,by omega,by omega,fun a ea=>⟨?_,hl,r,h6,by omega,by omega,fun b eb=>⟨?_,h _ ?_⟩⟩⟩
   ·rw[ea,ll];show (l.size+1)*16<=140737488355328;omega
   ·rw[List.length_append,ea,eb,ll,lr];show (l.size+1+r.size)*16<=140737488355328;omega
   ·rw[ea,eb,h2,h3];simp[Tr.list]
theorem s_li7:∀ n:Nat,SoundT C0 35 (tLi7 n)
 | 0=>by
  refine .of Tryz.func35 (by decide) rfl fun args H K h hB=>?_
  unfold tLi7 at h
  split at h<;>try exact h.elim
  obtain⟨_,t,_,hn,_⟩:=h
  omega
 | n+1=>by
  refine .of Tryz.func35 (by decide) rfl fun args H K h hB=>?_
  unfold tLi7 at h
  split at h<;>try exact h.elim
  rename_i i d fl
  obtain⟨hl,t,rp,hn,hs,h⟩:=h
  exact⟨aLi7 n,⟨frame C0.ok s_nd7 _,frame C0.ok (s_li7 n) _,trivial⟩,vc_li7 n d fl i K hl t rp hn hs h⟩
theorem lastK_mem:∀ (t:Tr) (x:Int),lastK t x=x∨∃ y∈t.list,y.1=lastK t x
 | .nil,x=>.inl rfl
 | .node l k v r,x=>by
  rcases lastK_mem r k with e|⟨y,hy,e⟩
  ·exact .inr ⟨(k,v),by simp[Tr.list],e.symm⟩
  ·exact .inr ⟨y,by simp[Tr.list,hy],e⟩
theorem lastK_lt {t:Tr}{any:Bool}{last k:Int}(h1:any=true->last<k)(h2:∀ x∈t.list,x.1<k)(h3:anyK t any=true):lastK t last<k:=by
 cases t with
 | nil=>exact h1 h3
 | node l k' v r =>
  show lastK r k'<k
  rcases lastK_mem r k' with e|⟨y,hy,e⟩
  ·rw[e];exact h2 (k',v) (by simp[Tr.list])
  ·rw[← e];exact h2 y (by simp[Tr.list,hy])
theorem anyK_true (t:Tr):anyK t true=true:=by cases t<;>rfl
theorem vc_or7 (n:Nat)(d:List SlotT)(fl:List Int)(last most i:Int)(any:Bool)(K:KT)(hl:d.length<=1000000)(t:Tr)(rp:RepD d t i)(hasc:Asc t.list)(hn:t.size<n+1)(hm:(t.size:Int)<=most)(hm2:most<=10000000)(hg:any=true->gtL last t.list)(h:∀ la an mo,la=lastK t last->an=anyK t any->mo=most-t.size->K (.one (.at (vB true))) [.box [.slc 1,.slc 2,vI la,vB an,vI mo],.row false EC.slot d,.row false EC.u32 fl] [0]) :
  vc C0 (aOr7 n) Tryz.f109 [.at (.ptr 0 0),.at (vU i)] [.box [.slc 1,.slc 2,vI last,vB any,vI most],.row false EC.slot d,.row false EC.u32 fl] (normK 3 (wideK [0] K)):=by
 refine Eq.mp (show (brS (i==0) (K (.one (.at (.val (Value.bool true)))) [(.box [(.slc 1),(.slc 2),(.val (VI (last))),(.val (Value.bool (any))),(.val (VI (most)))]),(.row false EC.slot (d)),(.row false EC.u32 (fl))] [0]) (brS (most==0) (K (.one (.at (.val (Value.bool false)))) [(.box [(.slc 1),(.slc 2),(.val (VI (last))),(.val (Value.bool (any))),(.val (VI (most)))]),(.row false EC.slot (d)),(.row false EC.u32 (fl))] [0]) (inU i/\d.length<=1000000/\∀ n1:NodeT,n1=ndD d i->d.length<=1000000/\∃ t:Tr,RepD d t n1.left/\Asc t.list/\t.size<n/\(t.size:Int)<=IntKind.i64.wrap (most-1)/\IntKind.i64.wrap (most-1)<=10000000/\(any=true->gtL last t.list)/\∀ la:Int,∀ an:Bool,∀ mo:Int,la=lastK t last->an=anyK t any->mo=(IntKind.i64.wrap (most-1)-(t.size:Int))->brS (an) (brS (decide (n1.key<=la)) (K (.one (.at (.val (Value.bool false)))) [(.box [(.slc 1),(.slc 2),(.val (VI (la))),(.val (Value.bool (an))),(.val (VI (mo)))]),(.row false EC.slot (d)),(.row false EC.u32 (fl))] [0]) (d.length<=1000000/\∃ t1:Tr,RepD d t1 n1.right/\Asc t1.list/\t1.size<n/\(t1.size:Int)<=mo/\mo<=10000000/\(true=true->gtL n1.key t1.list)/\∀ la1:Int,∀ an1:Bool,∀ mo1:Int,la1=lastK t1 n1.key->an1=anyK t1 true->mo1=(mo-(t1.size:Int))->K (.one (.at (.val (Value.bool true)))) [(.box [(.slc 1),(.slc 2),(.val (VI (la1))),(.val (Value.bool (an1))),(.val (VI (mo1)))]),(.row false EC.slot (d)),(.row false EC.u32 (fl))] [0])) (d.length<=1000000/\∃ t1:Tr,RepD d t1 n1.right/\Asc t1.list/\t1.size<n/\(t1.size:Int)<=mo/\mo<=10000000/\(true=true->gtL n1.key t1.list)/\
 ∀ la1:Int,∀ an1:Bool,∀ mo1:Int,la1=lastK t1 n1.key->an1=anyK t1 true->mo1=(mo-(t1.size:Int))->K (.one (.at (.val (Value.bool true)))) [(.box [(.slc 1),(.slc 2),(.val (VI (la1))),(.val (Value.bool (an1))),(.val (VI (mo1)))]),(.row false EC.slot (d)),(.row false EC.u32 (fl))] [0]))))=_ by kernel_rfl) ?_
 cases t with
 | nil=>have e:i=0:=rp;exact bt7 (by rw[e];rfl) (h last any most rfl rfl (by simp[Tr.size]))
 | node l k v r =>
  have hi:=rp.inU hl
  have hne:=rp.ne
  obtain⟨h1,h2,h3,h4,h5,h6⟩:=rp
  have hz:(Tr.node l k v r).size=1+l.size+r.size:=rfl
  obtain⟨al,ar,lk,kr⟩:=node_asc hasc
  have mz:most≠0:=by omega
  refine bf7 (by simp[hne]) (bf7 (by simp[mz]) ⟨hi,hl,fun n1 e1=>?_⟩)
  subst e1
  rw[wrap_id (x:=most-1) (by omega) (by omega)]
  refine⟨hl,l,h5,al,by omega,by omega,by omega,fun a x hx=>hg a x (by simp[Tr.list,hx]),fun la an mo e1 e2 e3=>?_⟩
  have gr:gtL (ndD d i).key r.list:=fun x hx=>by rw[h2];exact kr x hx
  have fin:∀ la1 an1 mo1,la1=lastK r (ndD d i).key->an1=anyK r true->mo1=mo-r.size->K (.one (.at (vB true))) [.box [.slc 1,.slc 2,vI la1,vB an1,vI mo1],.row false EC.slot d,.row false EC.u32 fl] [0]:=fun la1 an1 mo1 f1 f2 f3=>h la1 an1 mo1 (by rw[f1,h2];rfl) (by rw[f2,anyK_true];rfl) (by omega)
  refine brS_of (fun ha=>bf7 ?_ ⟨hl,r,h6,ar,by omega,by omega,by omega,fun _=>gr,fin⟩) fun _=>⟨hl,r,h6,ar,by omega,by omega,by omega,fun _=>gr,fin⟩
  have hlt:la<k:=by
   rw[e1]
   refine lastK_lt (any:=any) (fun a=>?_) lk (by rw[← e2];exact ha)
   exact hg a (k,v) (by simp[Tr.list])
  rw[h2]
  exact decide_eq_false (by omega)
theorem s_or7:∀ n:Nat,SoundT C0 109 (tOr7 n)
 | 0=>by
  refine .ofW [0] Tryz.func109 (by decide) rfl fun args H K h hB=>?_
  unfold tOr7 at h
  split at h<;>try exact h.elim
  obtain⟨_,t,_,_,hn,_⟩:=h
  omega
 | n+1=>by
  refine .ofW [0] Tryz.func109 (by decide) rfl fun args H K h hB=>?_
  unfold tOr7 at h
  split at h<;>try exact h.elim
  rename_i i last any most d fl
  obtain⟨hl,t,rp,hasc,hn,hm,hm2,hg,h⟩:=h
  exact⟨aOr7 n,⟨frame C0.ok s_nd7 _,frame C0.ok (s_or7 n) _,trivial⟩,vc_or7 n d fl last most i any K hl t rp hasc hn hm hm2 hg h⟩
theorem vc_ck7 (d:List SlotT)(fl:List Int)(i:Int)(K:KT)(hl:d.length<=1000000)(t:Tr)(rp:RepD d t i)(hasc:Asc t.list)(bal:t.Bal)(h2:t.size<=2*d.length+2)(hs:t.size<=1000000)(h:K (.one (.at (vI 0))) [.row false EC.slot d,.row false EC.u32 fl] []) :
  vc C0 (aCk7 1000001) Tryz.f56 [.agg [.slc 0,.slc 1],.at (vU i)] [.row false EC.slot d,.row false EC.u32 fl] (normK 2 K):=by
 generalize hn:1000001=n
 refine Eq.mp (show (brS (i != 0) (inU i/\d.length<=1000000/\brS (!alcD d i) (K (.one (.at (.val (VI 1)))) [(.row false EC.slot (d)),(.row false EC.u32 (fl))] []) (d.length<=1000000/\∃ t:Tr,RepD d t i/\Asc t.list/\t.size<n/\(t.size:Int)<=IntKind.i64.wrap (IntKind.i64.wrap (2*(d.length:Int))+2)/\IntKind.i64.wrap (IntKind.i64.wrap (2*(d.length:Int))+2)<=10000000/\(false=true->gtL 0 t.list)/\∀ la:Int,∀ an:Bool,∀ mo:Int,la=lastK t 0->an=anyK t false->mo=(IntKind.i64.wrap (IntKind.i64.wrap (2*(d.length:Int))+2)-(t.size:Int))->d.length<=1000000/\(∃ t1:Tr,RepD d t1 i/\t1.Bal/\t1.size<n/\t1.size<=1000000)/\K (.one (.at (.val (VI 0)))) [(.row false EC.slot (d)),(.row false EC.u32 (fl))] [])) (d.length<=1000000/\∃ t:Tr,RepD d t i/\Asc t.list/\t.size<n/\(t.size:Int)<=IntKind.i64.wrap (IntKind.i64.wrap (2*(d.length:Int))+2)/\IntKind.i64.wrap (IntKind.i64.wrap (2*(d.length:Int))+2)<=10000000/\(false=true->gtL 0 t.list)/\∀ la:Int,∀ an:Bool,∀ mo:Int,la=lastK t 0->an=anyK t false->mo=(IntKind.i64.wrap (IntKind.i64.wrap (2*(d.length:Int))+2)-(t.size:Int))->d.length<=1000000/\(∃ t1:Tr,RepD d t1 i/\t1.Bal/\t1.size<n/\t1.size<=1000000)/\K (.one (.at (.val (VI 0)))) [(.row false EC.slot (d)),(.row false EC.u32 (fl))] []))=_ by kernel_rfl) ?_
 have hi:=rp.inU hl
 rw[wrap_id (x:=2*(d.length:Int)) (by omega) (by omega),wrap_id (x:=2*(d.length:Int)+2) (by omega) (by omega)]
 have hz:i≠0->alcD d i=true:=fun z=>by
  cases t with
  | nil=>exact absurd rp z
  | node l k v r=>exact rp.1
 refine brS_of (fun c=>?_) fun _=>⟨hl,t,rp,hasc,by omega,by omega,by omega,(fun z=>by cases z),fun _ _ _ _ _ _=>⟨hl,⟨t,rp,bal,by omega,hs⟩,h⟩⟩
 have c:i≠0:=by simpa using c
 exact⟨hi,hl,bf7 (by rw[hz c];rfl) ⟨hl,t,rp,hasc,by omega,by omega,by omega,(fun z=>by cases z),fun _ _ _ _ _ _=>⟨hl,⟨t,rp,bal,by omega,hs⟩,h⟩⟩⟩
theorem s_ck7:SoundT C0 56 tCk7:=by
 refine .of Tryz.func56 (by decide) rfl fun args H K h hB=>?_
 unfold tCk7 at h
 split at h<;>try exact h.elim
 rename_i i d fl
 obtain⟨hl,⟨t,rp,hasc,bal,h2,hs⟩,h⟩:=h
 exact⟨aCk7 1000001,⟨frame C0.ok s_alc _,frame C0.ok (s_or7 _) _,frame C0.ok (s_bl7 _) _,trivial⟩,vc_ck7 d fl i K hl t rp hasc bal h2 hs h⟩
theorem vc_tr7 (d:List SlotT)(fl:List Int)(i:Int)(l:List Ent)(K:KT)(hl:d.length<=1000000)(t:Tr)(rp:RepD d t i)(hasc:Asc t.list)(bal:t.Bal)(h2:t.size<=2*d.length+2)(hs:t.size<=1000000)(e:t.list=l)(h:K (.one (.at (vB true))) [.row false EC.slot d,.row false EC.u32 fl,.row false EC.ent l] []) :
  vc C0 (aTr7 1000001 l d fl) Tryz.f16 [.agg [.slc 0,.slc 1],.at (vU i),.at (.slc 2)] [.row false EC.slot d,.row false EC.u32 fl,.row false EC.ent l] (normK 3 K):=by
 generalize hn:1000001=n
 refine Eq.mp (show (d.length<=1000000/\(∃ t:Tr,RepD d t i/\Asc t.list/\t.Bal/\t.size<=2*d.length+2/\t.size<=1000000)/\inU i/\d.length<=1000000/\∀ n1:NodeT,n1=ndD d i->brS (n1.size != (l.length:Int)) (K (.one (.at (.val (Value.bool false)))) [(.row false EC.slot (d)),(.row false EC.u32 (fl)),(.row false EC.ent (l))] []) (d.length<=1000000/\∃ t:Tr,RepD d t i/\t.size<n/\t.size<=1000000/\∀ r:List Ent,r=t.list->brS ((r.length:Int) != (l.length:Int)) (K (.one (.at (.val (Value.bool false)))) [(.row false EC.slot (d)),(.row false EC.u32 (fl)),(.row false EC.ent (l))] []) ((∃ x:XIx l.length,True/\(True/\True/\True/\VI 0=(VI (x.i:Int))/\True)/\d=d/\fl=fl/\l=l/\(True/\True/\True)/\r=l/\True)/\∀ x:XIx l.length,True->brS (decide ((x.i:Int)<(l.length:Int))) (0<=(x.i:Int)/\(x.i:Int)<(l.length:Int)/\0<=(x.i:Int)/\(x.i:Int)<(l.length:Int)/\brS (!((eA l x.i).fst==(eA l x.i).fst && ((eA l x.i).snd==(eA l x.i).snd && true))) (K (.one (.at (.val (Value.bool false)))) [(.row false EC.slot (d)),(.row false EC.u32 (fl)),(.row false EC.ent (l))] []) (∃ x':XIx l.length,True/\((True/\True/\True/\(VI (IntKind.i64.wrap ((x.i:Int)+1)))=(VI (x'.i:Int))/\True)/\d=d/\fl=fl/\l=l/\(True/\True/\True)/\l=l/\True)/\l.length-x'.i<l.length-x.i)) (K (.one (.at (.val (Value.bool true)))) [(.row false EC.slot (d)),(.row false EC.u32 (fl)),(.row false EC.ent (l))] []))))=_ by kernel_rfl) ?_
 have hi:=rp.inU hl
 have sz:t.size=l.length:=by rw[← e,t.list_len]
 refine⟨hl,⟨t,rp,hasc,bal,h2,hs⟩,hi,hl,fun n1 e1=>bf7 (by rw[e1,rp.sz,sz];simp) ⟨hl,t,rp,by omega,hs,fun r er=>bf7 (by rw[er,e];simp) ⟨⟨⟨0,Nat.zero_le _⟩,?_⟩,fun x _=>brS_of (fun c=>?_) fun _=>h⟩⟩⟩
 ·have er:r=l:=er.trans e
  (repeat' first|exact trivial|exact rfl|exact er|refine And.intro ?_ ?_)
 have c:x.i<l.length:=by have:=of_decide_eq_true c;omega
 refine⟨by omega,by omega,by omega,by omega,bf7 (by simp) ⟨⟨x.i+1,c⟩,?_⟩⟩
 have v:IntKind.i64.wrap ((x.i:Int)+1)=((x.i+1:Nat):Int):=by rw[wrap_id (by omega) (by omega)];rfl
 (repeat' first|exact trivial|exact rfl|exact congrArg (Value.int IntKind.i64) v|refine And.intro ?_ ?_)
 show l.length-(x.i+1)<l.length-x.i
 omega
theorem s_tr7:SoundT C0 16 tTr7:=by
 refine .of Tryz.func16 (by decide) rfl fun args H K h hB=>?_
 unfold tTr7 at h
 split at h<;>try exact h.elim
 rename_i i d fl l
 obtain⟨hl,⟨t,rp,hasc,bal,h2,hs,e⟩,h⟩:=h
 exact⟨aTr7 1000001 l d fl,⟨frame C0.ok s_ck7 _,frame C0.ok s_nd7 _,frame C0.ok (s_li7 _) _,trivial⟩,vc_tr7 d fl i l K hl t rp hasc bal h2 hs e h⟩

/-! ### From the arena to its dump -/
theorem ndD_slots {S:Arn}{hs:List Int}(w:Wf S hs)(i:Int):ndD (slotsOf S) i=S.nd i:=by
 unfold ndD
 rw[alcD_slots w]
 cases hb:S.us i with
 | false=>rw[w.zero i hb];rfl
 | true=>rw[if_pos rfl,sltD_slots w hb]
theorem repD_of {S:Arn}{hs:List Int}(w:Wf S hs):∀ {t:Tr} {i:Int},Rep S t i->RepD (slotsOf S) t i
 | .nil,i,h=>h
 | .node l k v r,i,h=>by
  have sz:=Rep.size w h
  obtain⟨h1,h2,h3,h4,h5⟩:=h
  refine⟨by rw[alcD_slots w];exact h1,?_⟩
  rw[ndD_slots w]
  exact⟨h2,h3,by rw[sz];simp[Tr.size],repD_of w h4,repD_of w h5⟩
theorem len_of_nodup {α:Type}[DecidableEq α]:∀ (a b:List α),a.Nodup->(∀ x∈a,x∈b)->a.length<=b.length
 | [],_,_,_=>Nat.zero_le _
 | x::a,b,hn,hs=>by
  obtain⟨h1,h2⟩:=List.pairwise_cons.1 hn
  have hx:=hs x (by simp)
  have:=len_of_nodup a (b.erase x) h2 fun y hy=>(List.mem_erase_of_ne (Ne.symm (h1 y hy))).2 (hs y (by simp[hy]))
  rw[List.length_erase_of_mem hx] at this
  have:0<b.length:=List.length_pos_of_mem hx
  simp;omega
theorem rep_keys {S:Arn}{hs:List Int}(w:Wf S hs):∀ {t:Tr} {i:Int},Rep S t i->∀ x∈t.list,x.1∈(slotsOf S).map fun s=>s.node.key
 | .nil,_,_,x,hx=>by simp[Tr.list] at hx
 | .node l k v r,i,h,x,hx=>by
  obtain⟨h1,h2,h3,h4,h5⟩:=h
  simp only[Tr.list,List.mem_append,List.mem_cons] at hx
  rcases hx with hx|rfl|hx
  ·exact rep_keys w h4 x hx
  ·have hp:=w.pos h1
   have hi:(i-1).toNat<ncap S:=by unfold ncap;omega
   refine List.mem_map.2 ⟨slotAt S (i-1).toNat,?_,?_⟩
   ·unfold slotsOf;exact List.mem_map.2 ⟨_,List.mem_range.2 hi,rfl⟩
   ·show (S.nd (((i-1).toNat:Int)+1)).key=k
    rw[show (((i-1).toNat:Nat):Int)+1=i by omega];exact h2
  ·exact rep_keys w h5 x hx
theorem rep_few {S:Arn}{hs:List Int}(w:Wf S hs){t:Tr}{i:Int}(h:Rep S t i)(hasc:Asc t.list):t.size<=(slotsOf S).length:=by
 have:=len_of_nodup (t.list.map Prod.fst) ((slotsOf S).map fun s=>s.node.key) (List.pairwise_map.2 ((show List.Pairwise (fun (a b:Ent)=>a.1<b.1) t.list from hasc).imp fun c e=>by omega)) (fun x hx=>by
  obtain⟨y,hy,rfl⟩:=List.mem_map.1 hx
  exact rep_keys w h y hy)
 rw[List.length_map,List.length_map,t.list_len] at this
 exact this
end Go.Proofs.YtedfbafngmicpaaGreat.Sx
end
section
/- Kept, lengths of dumps, what is planted. -/
namespace Go.Proofs.YtedfbafngmicpaaGreat.Sx
open Go

/-KEEP Wf exW inU live Arn.cap Arn.free Rep rdS Tr.size Tr.list alcD slotsOf orderOf PlantR newS insE flt getE TrR upM Hn-/
theorem newS_free (c:Nat):(newS c).free=c:=by
 unfold Arn.free Arn.cap newS
 simp
theorem slots_le {S:Arn}{hs:List Int}(w:Wf S hs):(slotsOf S).length<=65537:=by have:=w.n2;rw[slotsOf_len];unfold ncap;omega
theorem tr_tree {S:Arn}{hs:List Int}{t:Tr}{j:Int}{L:List Ent}(w:Wf S hs)(rp:Rep S t j)(hL:t.list=L)(bal:t.Bal)(asc:Asc L) :
  ∃ t,RepD (slotsOf S) t j/\Asc t.list/\t.Bal/\t.size<=2*(slotsOf S).length+2/\t.size<=1000000/\t.list=L:=by
 have asc':Asc t.list:=by rw[hL];exact asc
 have few:=rep_few w rp asc'
 have:=slots_le w
 exact⟨t,repD_of w rp,asc',bal,by omega,by omega,hL⟩
end Go.Proofs.YtedfbafngmicpaaGreat.Sx
end
section
/- Law PackExports. -/
namespace Go.Proofs.YtedfbafngmicpaaGreat.Sx
open Go

/-KEEP Wf exW inU allV allB rdS Arn.free RtB ExO ImR FrB RngL RngS FoR pkZ slotsOf orderOf DgW ExB8 ExD DgD DgB DgS NmB NmR NumsD allVb-/
theorem FoR.own {sp:Int}{S:Arn}{rs:List Int}{ll:List (List Ent)}(h:FoR sp S rs ll){b:Int}{r:List Int}(er:r=(pkZ b (rs.zip ll)).map Prod.fst):r.length<=8/\(∀ j∈r,j=0∨S.us j=true)/\allV r/\allVb r/\KyN S r:=by
 have l1:=pkZ_len b (rs.zip ll)
 have us:∀ j∈r,j=0∨S.us j=true:=fun j hj=>by
  rw[er] at hj
  obtain⟨q,hq,rfl⟩:=List.mem_map.1 hj
  obtain⟨⟨t,rp,_⟩,_⟩:=h.ok (pkZ_mem hq)
  exact rp.us
 have rt:=h.rt 0 b
 rw[← er] at rt
 exact⟨by rw[er,List.length_map];exact l1,us,fun j hj=>inU_of h.wf (us j hj),fun j hj=>inU_of h.wf (us j hj),by
  obtain h0:=h.rt b 0
  rw[← er] at h0
  exact KyN.left h.wf h0.ky⟩
end Go.Proofs.YtedfbafngmicpaaGreat.Sx
end
section
/- What comes back is numbered as what was written. No program in sight. -/
namespace Go.Proofs.YtedfbafngmicpaaGreat.Sx
open Go

section
variable {us us':Int->Bool} {lf rg lf' rg':Int->Int} {P:Int->Prop} {f:Int->Int}
structure IsoG (us us':Int->Bool) (lf rg lf' rg':Int->Int) (P:Int->Prop) (f:Int->Int):Prop where
 usd:∀ i,P i->us' (f i)=us i
 kid:∀ i,P i->us i=true->(P (lf i)/\P (rg i))/\lf' (f i)=f (lf i)/\rg' (f i)=f (rg i)
 inj:∀ i j,P i->P j->us i=true->us j=true->f i=f j->i=j
theorem numG_iso (I:IsoG us us' lf rg lf' rg' P f){i:Int}{acc a:List Int}(h:NumG us lf rg i acc a):P i->(∀ j∈acc,P j/\us j=true)->NumG us' lf' rg' (f i) (acc.map f) (a.map f)/\∀ j∈a,P j/\us j=true:=by
 induction h with
 | @skip i acc c =>
  intro pi pa
  exact⟨.skip (c.imp (fun c=>(I.usd i pi).trans c) fun c=>List.mem_map.2 ⟨i,c,rfl⟩),pa⟩
 | @go i acc a1 a2 u c n1 n2 ih1 ih2 =>
  intro pi pa
  obtain⟨⟨pl,pr⟩,el,er⟩:=I.kid i pi u
  obtain⟨m1,p1⟩:=ih1 pl pa
  obtain⟨m2,p2⟩:=ih2 pr p1
  rw[List.map_append]
  refine⟨.go ((I.usd i pi).trans u) (fun q=>?_) (by rw[el];exact m1) (by rw[er];exact m2),fun j hj=>?_⟩
  ·obtain⟨j,hj,e⟩:=List.mem_map.1 q
   have:=I.inj j i (pa j hj).1 pi (pa j hj).2 u e
   exact c (this ▸ hj)
  ·rcases List.mem_append.1 hj with q|q
   ·exact p2 j q
   ·rw[List.mem_singleton.1 q];exact⟨pi,u⟩
theorem numsG_iso (I:IsoG us us' lf rg lf' rg' P f){r acc a:List Int}(h:NumsG us lf rg r acc a):(∀ j∈r,P j)->(∀ j∈acc,P j/\us j=true)->NumsG us' lf' rg' (r.map f) (acc.map f) (a.map f):=by
 induction h with
 | nil=>intro _ _;exact .nil
 | @cons i r acc a1 a2 n1 n2 ih =>
  intro pr pa
  obtain⟨m1,p1⟩:=numG_iso I n1 (pr i (by simp)) pa
  exact .cons m1 (ih (fun j hj=>pr j (List.mem_cons_of_mem _ hj)) p1)
end
variable {S S2:Arn} {hs ks rs lk la nw x:List Int} {m:Nat}
def imF (lk la nw:List Int)(i:Int):Int:=getB (0::(lk++nw)) (plcN la i).toNat
theorem ImO.la0 (h:ImO S hs ks rs lk la nw m S2 x):(0:Int)∉la:=fun c=>by
 have:=h.ex.ls.used 0 c
 rw[h.ex.wf.us0 (Int.le_refl 0)] at this;cases this
theorem ImO.len (h:ImO S hs ks rs lk la nw m S2 x):la.length=(lk++nw).length:=by
 obtain⟨z,e,l⟩:=h.ax
 rw[e,List.length_append,List.length_append,l]
theorem ImO.f0 (h:ImO S hs ks rs lk la nw m S2 x):imF lk la nw 0=0:=by
 unfold imF
 rw[plcN_none h.la0];rfl
theorem ImO.at_ (h:ImO S hs ks rs lk la nw m S2 x){p:Nat}(hp:p<la.length):imF lk la nw (getB la p)=getB (lk++nw) p:=by
 unfold imF
 rw[plcN_at h.ex.ls.nd (getB_get hp)]
 rw[show ((p:Int)+1).toNat=p+1 by omega];rfl
theorem ImO.all_nd (h:ImO S hs ks rs lk la nw m S2 x):(lk++nw).Nodup:=by
 have ls:=LsN.of h.ex.wf h.ex.nk
 refine List.nodup_append.2 ⟨ls.nd,h.nod,fun a ha b hb e=>?_⟩
 have u:=ls.used a ha
 rw[e,h.fresh b hb] at u;cases u
theorem ImO.map_la (h:ImO S hs ks rs lk la nw m S2 x):la.map (imF lk la nw)=lk++nw:=by
 refine List.ext_getElem (by rw[List.length_map,h.len]) fun p h1 h2=>?_
 rw[List.length_map] at h1
 rw[List.getElem_map]
 have e1:getB la p=la[p]:=by show la.getD p 0=_;rw[List.getD_eq_getElem?_getD,List.getElem?_eq_getElem h1];rfl
 have e2:getB (lk++nw) p=(lk++nw)[p]:=by show (lk++nw).getD p 0=_;rw[List.getD_eq_getElem?_getD,List.getElem?_eq_getElem h2];rfl
 rw[← e1,← e2,h.at_ h1]
theorem ImO.map_lk (h:ImO S hs ks rs lk la nw m S2 x):lk.map (imF lk la nw)=lk:=by
 have a:=h.map_la
 obtain⟨z,e,l⟩:=h.ax
 have b:(lk++z).map (imF lk la nw)=lk++nw:=e ▸ a
 rw[List.map_append] at b
 exact (List.append_inj b (by simp)).1
theorem ImO.fk (h:ImO S hs ks rs lk la nw m S2 x){i:Int}(hi:i∈lk):imF lk la nw i=i:=by
 have a:=h.map_lk
 obtain⟨p,hp,e⟩:=List.mem_iff_getElem.1 hi
 have b:(lk.map (imF lk la nw))[p]'(by simpa using hp)=lk[p]:=by
  have:=congrArg (fun l=>l[p]?) a
  simp only[List.getElem?_map,List.getElem?_eq_getElem hp,Option.map_some] at this
  rw[List.getElem_map]
  exact Option.some.inj this
 rw[List.getElem_map,e] at b
 exact b
theorem ImO.iso (h:ImO S hs ks rs lk la nw m S2 x):IsoG S.us S2.us (lfA S) (rgA S) (lfA S2) (rgA S2) (fun i=>i=0∨i∈la) (imF lk la nw):=by
 have w:=h.ex.wf
 have u0:S.us 0=false:=w.us0 (Int.le_refl 0)
 have ls:=LsN.of w h.ex.nk
 refine⟨fun i hi=>?_,fun i hi u=>?_,fun i j hi hj ui uj e=>?_⟩
 ·rcases hi with c|c
  ·rw[c,h.f0,u0,h.wf.us0 (Int.le_refl 0)]
  ·rw[h.ex.ls.used i c]
   have:imF lk la nw i∈lk++nw:=by rw[← h.map_la];exact List.mem_map.2 ⟨i,c,rfl⟩
   rcases List.mem_append.1 this with q|q
   ·exact (h.us _).2 (.inl (ls.used _ q))
   ·exact (h.us _).2 (.inr q)
 ·have hi:i∈la:=hi.resolve_left fun c=>by rw[c,u0] at u;cases u
  obtain⟨p,hp⟩:=List.getElem?_of_mem hi
  have pl:=(List.getElem?_eq_some_iff.1 hp).1
  have gp:getB la p=i:=getB_some hp
  obtain⟨_,k1,k2⟩:=h.ex.ls.kids w hp
  have kd:∀ {y:Int},KidN la p y->y=0∨y∈la:=fun {y} k=>by
   rcases k with ⟨q,_⟩|⟨_,r,_,q,_⟩
   ·exact .inl q
   ·exact .inr (List.mem_of_getElem? q)
  refine⟨⟨kd k1,kd k2⟩,?_⟩
  rcases Nat.lt_or_ge p lk.length with c|c
  ·have ik:i∈lk:=by rw[← gp,h.ex.old c];exact getB_mem c
   obtain⟨q,hq⟩:=List.getElem?_of_mem ik
   obtain⟨_,o1,o2⟩:=ls.kids w hq
   have fix:∀ {y:Int},KidN lk q y->y=imF lk la nw y:=fun {y} k=>by
    rcases k with ⟨e,_⟩|⟨_,r,_,e,_⟩
    ·rw[e,h.f0]
    ·exact (h.fk (List.mem_of_getElem? e)).symm
   have nd:=(h.old i u).1
   rw[h.fk ik]
   refine⟨?_,?_⟩
   ·show (S2.nd i).left=_
    rw[nd];exact fix o1
   ·show (S2.nd i).right=_
    rw[nd];exact fix o2
  ·have hl:=h.len
   rw[List.length_append] at hl
   have nd:=h.nd (p-lk.length) (by omega)
   rw[show lk.length+(p-lk.length)=p by omega,gp] at nd
   have e:imF lk la nw i=getB nw (p-lk.length):=by
    rw[← gp,h.at_ pl,show p=lk.length+(p-lk.length) by omega,getB_right]
    rw[show lk.length+(p-lk.length)-lk.length=p-lk.length by omega]
   rw[e]
   exact nd
 ·have mem:∀ {y:Int},(y=0∨y∈la)->S.us y=true->y∈la:=fun {y} hy uy=>hy.resolve_left fun c=>by rw[c,u0] at uy;cases uy
  obtain⟨p,hp⟩:=List.getElem?_of_mem (mem hi ui)
  obtain⟨q,hq⟩:=List.getElem?_of_mem (mem hj uj)
  have pl:=(List.getElem?_eq_some_iff.1 hp).1
  have ql:=(List.getElem?_eq_some_iff.1 hq).1
  rw[← getB_some hp,← getB_some hq,h.at_ pl,h.at_ ql] at e
  have hl:=h.len
  have a:=getB_get (l:=lk++nw) (p:=p) (by omega)
  have b:=getB_get (l:=lk++nw) (p:=q) (by omega)
  have pq:p=q:=by
   have e2:(lk++nw)[p]?=(lk++nw)[q]?:=by rw[a,b,e]
   exact (List.getElem?_inj (by omega) h.all_nd).1 e2
  rw[pq,hq] at hp
  exact (Option.some.inj hp).symm
theorem ImO.xs (h:ImO S hs ks rs lk la nw m S2 x):x=rs.map (imF lk la nw):=h.ex_
theorem ImO.rs_in (h:ImO S hs ks rs lk la nw m S2 x):∀ i∈rs,i=0∨i∈la:=fun i hi=>by
 rcases h.ex.live i (List.mem_append_right _ hi) with c|c
 ·exact .inl c
 ·exact .inr (h.ex.na.roots i hi c)
theorem ImO.num (h:ImO S hs ks rs lk la nw m S2 x):NumsA S2 x lk (lk++nw):=by
 have:=numsG_iso h.iso h.ex.na h.rs_in fun j hj=>by
  obtain⟨z,e,_⟩:=h.ax
  exact⟨.inr (by rw[e];exact List.mem_append_left _ hj),(LsN.of h.ex.wf h.ex.nk).used j hj⟩
 rw[h.map_la,h.map_lk,← h.xs] at this
 exact this
theorem ImO.num0 (h:ImO S hs ks rs lk la nw m S2 x){al:List Int}(n:NumsA S rs [] al):NumsA S2 x [] (al.map (imF lk la nw)):=by
 have:=numsG_iso h.iso n h.rs_in fun j hj=>by cases hj
 rw[← h.xs] at this
 exact this
theorem ImO.numk (h:ImO S hs ks rs lk la nw m S2 x)(hk:∀ i∈ks,i=0∨S.us i=true):NumsA S2 ks [] lk:=by
 have kin:∀ i∈ks,i=0∨i∈lk:=fun i hi=>by
  rcases hk i hi with c|c
  ·exact .inl c
  ·exact .inr (h.ex.nk.roots i hi c)
 have:=numsG_iso h.iso h.ex.nk (fun i hi=>(kin i hi).imp id fun q=>by
  obtain⟨z,e,_⟩:=h.ax
  rw[e];exact List.mem_append_left _ q) fun j hj=>by cases hj
 have e:ks.map (imF lk la nw)=ks:=by
  refine (List.map_congr_left fun i hi=>?_).trans (List.map_id _)
  rcases kin i hi with c|c
  ·rw[c,h.f0];rfl
  ·exact h.fk c
 rw[e,h.map_lk] at this
 exact this
end Go.Proofs.YtedfbafngmicpaaGreat.Sx
end
section
/- What comes back is written as what was written. No program in sight. -/
namespace Go.Proofs.YtedfbafngmicpaaGreat.Sx
open Go

variable {S S2:Arn} {hs ks rs lk la nw x:List Int} {m:Nat} {D:Int}
theorem ImO.plc (h:ImO S hs ks rs lk la nw m S2 x){y:Int}(hy:y=0∨y∈la):plcN (lk++nw) (imF lk la nw y)=plcN la y:=by
 rcases hy with c|c
 ·rw[c,h.f0,plcN_none h.la0]
  refine plcN_none fun q=>?_
  have u0:=h.wf.us0 (Int.le_refl 0)
  rcases List.mem_append.1 q with q|q
  ·have:=(h.us 0).2 (.inl ((LsN.of h.ex.wf h.ex.nk).used 0 q))
   rw[u0] at this;cases this
  ·have:=(h.us 0).2 (.inr q)
   rw[u0] at this;cases this
 ·obtain⟨p,hp⟩:=List.getElem?_of_mem c
  have pl:=(List.getElem?_eq_some_iff.1 hp).1
  rw[plcN_at h.ex.ls.nd hp,← getB_some hp,h.at_ pl]
  exact plcN_at h.all_nd (getB_get (by rw[← h.len];exact pl))
theorem ImO.nod_ (h:ImO S hs ks rs lk la nw m S2 x){i:Int}(hi:i∈la):nodP S2 (lk++nw) (imF lk la nw i)=nodP S la i:=by
 have w:=h.ex.wf
 have u:=h.ex.ls.used i hi
 obtain⟨⟨p1,p2⟩,e1,e2⟩:=h.iso.kid i (.inr hi) u
 have r:=h.rep i (.inr hi)
 rw[trA_node w u (h.ex.good hi).rep] at r
 obtain⟨_,k,v,_,_⟩:=r
 have k:(S2.nd (imF lk la nw i)).key=(S.nd i).key:=k
 have v:(S2.nd (imF lk la nw i)).value=(S.nd i).value:=v
 show PNT.mk _ _ _ _=PNT.mk _ _ _ _
 rw[k,v,e1,e2,h.plc p1,h.plc p2]
theorem ImO.ns (h:ImO S hs ks rs lk la nw m S2 x):((lk++nw).drop lk.length).map (nodP S2 (lk++nw))=(la.drop lk.length).map (nodP S la):=by
 have e:(lk++nw).drop lk.length=(la.drop lk.length).map (imF lk la nw):=by rw[← h.map_la,List.map_drop]
 rw[e,List.map_map]
 exact List.map_congr_left fun i hi=>h.nod_ (List.mem_of_mem_drop hi)
theorem ImO.roots (h:ImO S hs ks rs lk la nw m S2 x):x.map (plcN (lk++nw))=rs.map (plcN la):=by
 rw[h.xs,List.map_map]
 exact List.map_congr_left fun i hi=>h.plc (h.rs_in i hi)
theorem nodP_old (w:Wf S hs){l:List Int}(hn:∀ i,S.us i=true->S2.nd i=S.nd i)(hu:∀ i∈l,S.us i=true):l.map (nodP S2 l)=l.map (nodP S l):=List.map_congr_left fun i hi=>by
 have e:=hn i (hu i hi)
 show PNT.mk _ _ _ _=PNT.mk _ _ _ _
 unfold lfA rgA
 rw[e]
theorem ImO.dg (h:ImO S hs ks rs lk la nw m S2 x)(hk:∀ i∈ks,i=0∨S.us i=true)(d:DgR S ks D):DgR S2 ks D:=by
 rcases d with d|⟨a,l,n,e⟩
 ·exact .inl d
 ·refine .inr ⟨a,l,?_,?_⟩
  ·obtain rfl:=n.det h.ex.nk
   exact h.numk hk
  ·rw[e]
   unfold pkS
   rw[List.length_nil,List.drop_zero,nodP_old h.ex.wf (fun i u=>(h.old i u).1) (n.used fun j hj=>by cases hj)]
end Go.Proofs.YtedfbafngmicpaaGreat.Sx
end
section
/- Written in one arena, imported in another. No program in sight. -/
namespace Go.Proofs.YtedfbafngmicpaaGreat.Sx
open Go

variable {A B S1 S2:Arn} {ha hb ks kb rs lk la lkB x o:List Int} {D e:Int} {m:Nat}
structure KnI (A:Arn) (lk:List Int) (B:Arn) (lkB:List Int):Prop where
 len:lkB.length=lk.length
 ns:lkB.map (nodP B lkB)=lk.map (nodP A lk)
theorem KnI.at_ (h:KnI A lk B lkB){p:Nat}(hp:p<lk.length):nodP B lkB (getB lkB p)=nodP A lk (getB lk p):=by
 have q:getN (lkB.map (nodP B lkB)) p=getN (lk.map (nodP A lk)) p:=congrArg (fun l=>getN l p) h.ns
 rwa [getN_map (by rw[h.len];exact hp),getN_map hp] at q
theorem KnI.kid (h:KnI A lk B lkB){p:Nat}{x y:Int}(hx:KidN lkB p x)(hy:KidN lk p y)(e:plcN lkB x=plcN lk y):(x=0/\y=0)∨∃ r,r<p/\getB lkB r=x/\getB lk r=y/\lkB[r]?=some x/\lk[r]?=some y:=by
 rcases hx with ⟨x0,xp⟩|⟨xn,r,hr,xr,xp⟩
 ·rcases hy with ⟨y0,_⟩|⟨_,s,_,_,yp⟩
  ·exact .inl ⟨x0,y0⟩
  ·omega
 ·rcases hy with ⟨_,yp⟩|⟨_,s,hs,ys,yp⟩
  ·omega
  ·have:r=s:=by omega
   subst this
   exact .inr ⟨r,hr,getB_some xr,getB_some ys,xr,ys⟩
theorem KnI.tr (h:KnI A lk B lkB)(wA:Wf A ha)(wB:Wf B hb)(nA:NumsA A ks [] lk)(nB:NumsA B kb [] lkB)(kA:KnV A ks)(kB:KnV B kb):∀ n p,p<n->p<lk.length->trA B (getB lkB p)=trA A (getB lk p)
 | 0,_,hn,_=>by omega
 | n+1,p,hn,hp=>by
  have lA:=LsN.of wA nA
  have lB:=LsN.of wB nB
  have gA:=getB_get (l:=lk) (p:=p) hp
  have gB:=getB_get (l:=lkB) (p:=p) (by rw[h.len];exact hp)
  obtain⟨uA,a1,a2⟩:=lA.kids wA gA
  obtain⟨uB,b1,b2⟩:=lB.kids wB gB
  have q:=h.at_ hp
  unfold nodP at q
  injection q with q1 q2 q3 q4
  have go:∀ {x y:Int},KidN lkB p x->KidN lk p y->plcN lkB x=plcN lk y->trA B x=trA A y:=fun {x y} hx hy e=>by
   rcases h.kid hx hy e with ⟨x0,y0⟩|⟨r,hr,xr,yr,_,_⟩
   ·rw[x0,y0,trA_zero wA,trA_zero wB]
   ·rw[← xr,← yr]
    exact KnI.tr h wA wB nA nB kA kB n r (by omega) (by omega)
  rw[trA_node wA uA (kA.tree wA nA (List.mem_of_getElem? gA)).rep,trA_node wB uB (kB.tree wB nB (List.mem_of_getElem? gB)).rep,q1,q2,go b1 a1 q3,go b2 a2 q4]
structure RtI (A B:Arn) (ha hb ks kb rs lk la lkB:List Int) (D:Int) (o:List Int):Prop where
 p:RtP A ha ks rs lk la D o
 kn:KnB B hb kb
 nB:NumsA B kb [] lkB
 ki:KnI A lk B lkB
 kr:kb.map (plcN lkB)=ks.map (plcN lk)
theorem RtI.trs (h:RtI A B ha hb ks kb rs lk la lkB D o):lkB.map (trA B)=lk.map (trA A):=by
 refine List.ext_getElem (by rw[List.length_map,List.length_map,h.ki.len]) fun p h1 h2=>?_
 rw[List.length_map] at h1 h2
 have q:=h.ki.tr h.p.ex.wf h.kn.wf h.p.ex.nk h.nB (fun r hr=>h.p.ex.kv r (List.mem_append_left _ hr)) h.kn.kv (p+1) p (by omega) h2
 rw[List.getElem_map,List.getElem_map]
 have e1:getB lkB p=lkB[p]:=by show lkB.getD p 0=_;rw[List.getD_eq_getElem?_getD,List.getElem?_eq_getElem h1];rfl
 have e2:getB lk p=lk[p]:=by show lk.getD p 0=_;rw[List.getD_eq_getElem?_getD,List.getElem?_eq_getElem h2];rfl
 rw[← e1,← e2];exact q
theorem RtI.dg (h:RtI A B ha hb ks kb rs lk la lkB D o):DgR B kb D:=by
 rcases h.p.dg with ⟨a,b⟩|⟨a,l,n,b⟩
 ·refine .inl ⟨?_,b⟩
  have:=congrArg List.length h.kr
  rw[List.length_map,List.length_map,a] at this
  exact List.length_eq_zero_iff.1 this
 ·obtain rfl:=n.det h.p.ex.nk
  refine .inr ⟨fun c=>a ?_,lkB,h.nB,?_⟩
  ·have:=congrArg List.length h.kr
   rw[List.length_map,List.length_map,c] at this
   exact List.length_eq_zero_iff.1 this.symm
  ·rw[b]
   unfold pkS
   rw[List.length_nil,List.drop_zero,List.drop_zero,h.ki.ns,h.kr]
theorem RtI.imB (h:RtI A B ha hb ks kb rs lk la lkB D o)(hm:B.reads+m<=100000000000000000)(ab:allB o)(bl:o.length<=8000000):ImB (rdS B m) o kb :=
 im_b (h.kn.rdm hm) h.p.pk h.p.eo ab (by omega)
theorem RtI.fit (h:RtI A B ha hb ks kb rs lk la lkB D o)(fr:((la.length-lk.length:Nat):Int)<=B.free)(f:FtR lk.length D (nsA A lk la) (rs.map (plcN la)) (rdS B m) kb S1 e):e=0:=by
 obtain⟨lk',dg,kx,n',d,kr,ee⟩:=f.ex
 have n2:NumsA B kb [] lk':=n'
 obtain rfl:=h.nB.det n2
 have d2:DgR B kb dg:=d
 obtain rfl:=h.dg.det d2
 have kr2:KxR B lkB kx:=by
  have q:=kr (by rw[h.ki.len])
  exact⟨q.len,fun i hi=>by
   obtain⟨t,r,a,b,c⟩:=q.at_ i hi
   exact⟨t,Rep.same (S:=rdS B m) (S':=B) (fun _=>rfl) (fun _=>rfl) r,a,b,c⟩⟩
 have ex:ExA B hb kb [] lkB lkB:=⟨h.kn.wf,fun r hr=>h.kn.kv r (by simpa using hr),h.nB,.nil⟩
 have kx2:=KxR.is ex kr2
 have e2:kx=lk.map fun i=>exO (trA A i):=by
  rw[kx2]
  have:=congrArg (List.map exO) h.trs
  rw[List.map_map,List.map_map] at this
  exact this
 rw[ee]
 exact h.p.ex.fits h.ki.len e2 fr
structure ImQ (A B:Arn) (ha hb ks kb rs lk la lkB nw:List Int) (m:Nat) (S2:Arn) (x:List Int):Prop where
 ex:ExA A ha ks rs lk la
 ax:∃ z,la=lk++z/\z.length=nw.length
 ki:KnI A lk B lkB
 nB:NumsA B kb [] lkB
 wB:Wf B hb
 ex_:x=rs.map (imF lkB la nw)
 wf:Wf S2 (x.reverse++hb)
 rep:∀ i,i=0∨i∈la->Rep S2 (trA A i) (imF lkB la nw i)
 nd:∀ p,p<nw.length->(S2.nd (getB nw p)).left=imF lkB la nw (lfA A (getB la (lk.length+p)))/\(S2.nd (getB nw p)).right=imF lkB la nw (rgA A (getB la (lk.length+p)))
 us:∀ i,S2.us i=true↔B.us i=true∨i∈nw
 fresh:∀ i∈nw,B.us i=false
 nod:nw.Nodup
 old:∀ i,B.us i=true->S2.nd i=B.nd i/\S2.gn i=B.gn i
 stay:Stay B S2 hb
 nu:S2.nu=B.nu+nw.length
 ul:S2.used.length=B.used.length
 rd:S2.reads=B.reads+m
 hm:m<=300000000000
theorem RtI.imQ (h:RtI A B ha hb ks kb rs lk la lkB D o)(hm:B.reads+m<=90000000000000000)(hm2:m<=1000000000)(f:FtR lk.length D (nsA A lk la) (rs.map (plcN la)) (rdS B m) kb S1 0)(r:MkR lk.length (nsA A lk la) (rs.map (plcN la)) S1 kb S2 x) :
  ∃ nw q,ImQ A B ha hb ks kb rs lk la lkB nw q S2 x:=by
 obtain⟨lk',ix,q,n',_,mo,hq,kx,_⟩:=mk_r (h.kn.rdm (by omega)) h.p.pk f r
 have n2:NumsA B kb [] lk':=n'
 obtain rfl:=h.nB.det n2
 rw[rdS_rdS] at mo
 have ex:=h.p.ex
 obtain⟨nw,e,l,us,fresh,nod⟩:=mo.ix_
 have le:=ex.le
 have l0:(0:Int)∉la:=fun c=>by
  have:=ex.ls.used 0 c
  rw[ex.wf.us0 (Int.le_refl 0)] at this;cases this
 have nl:=nsA_len (S:=A) (lk:=lk) (la:=la)
 have kl:=h.ki.len
 obtain⟨z,ez⟩:=ex.na.pre
 have zl:z.length=nw.length:=by rw[l,nl,ez,List.length_append];omega
 have tt:=ex.trs (la.length-lk.length) (by omega)
 rw[show lk.length+(la.length-lk.length)=la.length by omega,List.take_length] at tt
 have kt:ktA B lkB=ktA A lk:=h.trs
 have hn:∀ c,c<nw.length->getB ix (lkB.length+1+c)=getB nw c:=fun c hc=>by
  rw[e,show lkB.length+1+c=(lkB.length+c)+1 by omega]
  exact getB_right
 refine⟨nw,m+q,ex,⟨z,ez,zl⟩,h.ki,h.nB,h.kn.wf,?_,mo.wf,fun i hi=>?_,fun c hc=>?_,us,fresh,nod,mo.old,?_,?_,mo.ul,?_,by omega⟩
 ·rw[mo.eo,e]
  unfold rtG
  rw[List.map_map];rfl
 ·have pr:=plcN_rng la i
  have:=mo.rep (plcN la i) pr.1 (by rw[nl,kl];omega)
  rw[ktA_rd,kt,nl,tt,e] at this
  rw[ex.ref (plcN_kid l0 hi) (Nat.le_refl _) (Nat.le_refl _) (by rw[List.take_length])] at this
  exact this
 ·have:=mo.nd c (by rw[← l];exact hc)
  rw[hn c hc,e,show getN (nsA A lk la) c=nodP A la (getB la (lk.length+c)) from by rw[getN_map (by rw[List.length_drop];omega),getB_drop]] at this
  exact this
 ·exact Stay.trans (stay_rd B (m+q) hb) mo.stay
 ·rw[mo.nu,← l];rfl
 ·rw[mo.rd];rfl
end Go.Proofs.YtedfbafngmicpaaGreat.Sx
end
section
/- What comes back in another arena is numbered and written as what was written. No program in sight. -/
namespace Go.Proofs.YtedfbafngmicpaaGreat.Sx
open Go

variable {A B S2:Arn} {ha hb ks kb rs lk la lkB nw x:List Int} {m:Nat} {D:Int}
theorem ImQ.la0 (h:ImQ A B ha hb ks kb rs lk la lkB nw m S2 x):(0:Int)∉la:=fun c=>by
 have:=h.ex.ls.used 0 c
 rw[h.ex.wf.us0 (Int.le_refl 0)] at this;cases this
theorem ImQ.len (h:ImQ A B ha hb ks kb rs lk la lkB nw m S2 x):la.length=(lkB++nw).length:=by
 obtain⟨z,e,l⟩:=h.ax
 rw[e,List.length_append,List.length_append,l,h.ki.len]
theorem ImQ.f0 (h:ImQ A B ha hb ks kb rs lk la lkB nw m S2 x):imF lkB la nw 0=0:=by
 unfold imF
 rw[plcN_none h.la0];rfl
theorem ImQ.at_ (h:ImQ A B ha hb ks kb rs lk la lkB nw m S2 x){p:Nat}(hp:p<la.length):imF lkB la nw (getB la p)=getB (lkB++nw) p:=by
 unfold imF
 rw[plcN_at h.ex.ls.nd (getB_get hp)]
 rw[show ((p:Int)+1).toNat=p+1 by omega];rfl
theorem ImQ.lsB (h:ImQ A B ha hb ks kb rs lk la lkB nw m S2 x):LsN B lkB:=LsN.of h.wB h.nB
theorem ImQ.all_nd (h:ImQ A B ha hb ks kb rs lk la lkB nw m S2 x):(lkB++nw).Nodup:=by
 have ls:=h.lsB
 refine List.nodup_append.2 ⟨ls.nd,h.nod,fun a ha b hb e=>?_⟩
 have u:=ls.used a ha
 rw[e,h.fresh b hb] at u;cases u
theorem ImQ.map_la (h:ImQ A B ha hb ks kb rs lk la lkB nw m S2 x):la.map (imF lkB la nw)=lkB++nw:=by
 refine List.ext_getElem (by rw[List.length_map,h.len]) fun p h1 h2=>?_
 rw[List.length_map] at h1
 rw[List.getElem_map]
 have e1:getB la p=la[p]:=by show la.getD p 0=_;rw[List.getD_eq_getElem?_getD,List.getElem?_eq_getElem h1];rfl
 have e2:getB (lkB++nw) p=(lkB++nw)[p]:=by show (lkB++nw).getD p 0=_;rw[List.getD_eq_getElem?_getD,List.getElem?_eq_getElem h2];rfl
 rw[← e1,← e2,h.at_ h1]
theorem ImQ.map_lk (h:ImQ A B ha hb ks kb rs lk la lkB nw m S2 x):lk.map (imF lkB la nw)=lkB:=by
 have a:=h.map_la
 obtain⟨z,e,l⟩:=h.ax
 have b:(lk++z).map (imF lkB la nw)=lkB++nw:=e ▸ a
 rw[List.map_append] at b
 exact (List.append_inj b (by rw[List.length_map,h.ki.len])).1
theorem ImQ.fk (h:ImQ A B ha hb ks kb rs lk la lkB nw m S2 x){p:Nat}(hp:p<lk.length):imF lkB la nw (getB lk p)=getB lkB p:=by
 have le:=h.ex.le
 rw[← h.ex.old hp,h.at_ (by omega),getB_left (by rw[h.ki.len];exact hp)]
theorem ImQ.iso (h:ImQ A B ha hb ks kb rs lk la lkB nw m S2 x):IsoG A.us S2.us (lfA A) (rgA A) (lfA S2) (rgA S2) (fun i=>i=0∨i∈la) (imF lkB la nw):=by
 have w:=h.ex.wf
 have u0:A.us 0=false:=w.us0 (Int.le_refl 0)
 have ls:=LsN.of w h.ex.nk
 have lsB:=h.lsB
 have klen:=h.ki.len
 refine⟨fun i hi=>?_,fun i hi u=>?_,fun i j hi hj ui uj e=>?_⟩
 ·rcases hi with c|c
  ·rw[c,h.f0,u0,h.wf.us0 (Int.le_refl 0)]
  ·rw[h.ex.ls.used i c]
   have:imF lkB la nw i∈lkB++nw:=by rw[← h.map_la];exact List.mem_map.2 ⟨i,c,rfl⟩
   rcases List.mem_append.1 this with q|q
   ·exact (h.us _).2 (.inl (lsB.used _ q))
   ·exact (h.us _).2 (.inr q)
 ·have hi:i∈la:=hi.resolve_left fun c=>by rw[c,u0] at u;cases u
  obtain⟨p,hp⟩:=List.getElem?_of_mem hi
  have pl:=(List.getElem?_eq_some_iff.1 hp).1
  have gp:getB la p=i:=getB_some hp
  obtain⟨_,k1,k2⟩:=h.ex.ls.kids w hp
  have kd:∀ {y:Int},KidN la p y->y=0∨y∈la:=fun {y} k=>by
   rcases k with ⟨q,_⟩|⟨_,r,_,q,_⟩
   ·exact .inl q
   ·exact .inr (List.mem_of_getElem? q)
  refine⟨⟨kd k1,kd k2⟩,?_⟩
  rcases Nat.lt_or_ge p lk.length with c|c
  ·have ik:getB lk p=i:=by rw[← gp,h.ex.old c]
   have hq:lk[p]?=some i:=by rw[← ik];exact getB_get c
   have hB:lkB[p]?=some (getB lkB p):=getB_get (by rw[klen];exact c)
   obtain⟨_,o1,o2⟩:=ls.kids w hq
   obtain⟨uB,b1,b2⟩:=lsB.kids h.wB hB
   have q:=h.ki.at_ c
   rw[ik] at q
   unfold nodP at q
   injection q with _ _ q3 q4
   have fix:∀ {y z:Int},KidN lkB p z->KidN lk p y->plcN lkB z=plcN lk y->z=imF lkB la nw y:=fun {y z} hz hy e=>by
    rcases h.ki.kid hz hy e with ⟨z0,y0⟩|⟨r,hr,zr,yr,_,_⟩
    ·rw[z0,y0,h.f0]
    ·rw[← zr,← yr,h.fk (by omega)]
   have nd:=(h.old _ uB).1
   rw[← ik,h.fk c,ik]
   refine⟨?_,?_⟩
   ·show (S2.nd (getB lkB p)).left=_
    rw[nd];exact fix b1 o1 q3
   ·show (S2.nd (getB lkB p)).right=_
    rw[nd];exact fix b2 o2 q4
  ·have hl:=h.len
   rw[List.length_append] at hl
   have nd:=h.nd (p-lk.length) (by omega)
   rw[show lk.length+(p-lk.length)=p by omega,gp] at nd
   have e:imF lkB la nw i=getB nw (p-lk.length):=by
    rw[← gp,h.at_ pl,show p=lkB.length+(p-lk.length) by omega,getB_right]
    rw[show lkB.length+(p-lk.length)-lk.length=p-lk.length by omega]
   rw[e]
   exact nd
 ·have mem:∀ {y:Int},(y=0∨y∈la)->A.us y=true->y∈la:=fun {y} hy uy=>hy.resolve_left fun c=>by rw[c,u0] at uy;cases uy
  obtain⟨p,hp⟩:=List.getElem?_of_mem (mem hi ui)
  obtain⟨q,hq⟩:=List.getElem?_of_mem (mem hj uj)
  have pl:=(List.getElem?_eq_some_iff.1 hp).1
  have ql:=(List.getElem?_eq_some_iff.1 hq).1
  rw[← getB_some hp,← getB_some hq,h.at_ pl,h.at_ ql] at e
  have hl:=h.len
  have a:=getB_get (l:=lkB++nw) (p:=p) (by omega)
  have b:=getB_get (l:=lkB++nw) (p:=q) (by omega)
  have pq:p=q:=by
   have e2:(lkB++nw)[p]?=(lkB++nw)[q]?:=by rw[a,b,e]
   exact (List.getElem?_inj (by omega) h.all_nd).1 e2
  rw[pq,hq] at hp
  exact (Option.some.inj hp).symm
theorem ImQ.rs_in (h:ImQ A B ha hb ks kb rs lk la lkB nw m S2 x):∀ i∈rs,i=0∨i∈la:=fun i hi=>by
 rcases h.ex.live i (List.mem_append_right _ hi) with c|c
 ·exact .inl c
 ·exact .inr (h.ex.na.roots i hi c)
theorem ImQ.num (h:ImQ A B ha hb ks kb rs lk la lkB nw m S2 x):NumsA S2 x lkB (lkB++nw):=by
 have:=numsG_iso h.iso h.ex.na h.rs_in fun j hj=>by
  obtain⟨z,e,_⟩:=h.ax
  exact⟨.inr (by rw[e];exact List.mem_append_left _ hj),(LsN.of h.ex.wf h.ex.nk).used j hj⟩
 rw[h.map_la,h.map_lk,← h.ex_] at this
 exact this
theorem ImQ.num0 (h:ImQ A B ha hb ks kb rs lk la lkB nw m S2 x){al:List Int}(n:NumsA A rs [] al):NumsA S2 x [] (al.map (imF lkB la nw)):=by
 have:=numsG_iso h.iso n h.rs_in fun j hj=>by cases hj
 rw[← h.ex_] at this
 exact this
theorem ImQ.plc (h:ImQ A B ha hb ks kb rs lk la lkB nw m S2 x){y:Int}(hy:y=0∨y∈la):plcN (lkB++nw) (imF lkB la nw y)=plcN la y:=by
 rcases hy with c|c
 ·rw[c,h.f0,plcN_none h.la0]
  refine plcN_none fun q=>?_
  have u0:=h.wf.us0 (Int.le_refl 0)
  rcases List.mem_append.1 q with q|q
  ·have:=(h.us 0).2 (.inl (h.lsB.used 0 q))
   rw[u0] at this;cases this
  ·have:=(h.us 0).2 (.inr q)
   rw[u0] at this;cases this
 ·obtain⟨p,hp⟩:=List.getElem?_of_mem c
  have pl:=(List.getElem?_eq_some_iff.1 hp).1
  rw[plcN_at h.ex.ls.nd hp,← getB_some hp,h.at_ pl]
  exact plcN_at h.all_nd (getB_get (by rw[← h.len];exact pl))
theorem ImQ.nod_ (h:ImQ A B ha hb ks kb rs lk la lkB nw m S2 x){i:Int}(hi:i∈la):nodP S2 (lkB++nw) (imF lkB la nw i)=nodP A la i:=by
 have w:=h.ex.wf
 have u:=h.ex.ls.used i hi
 obtain⟨⟨p1,p2⟩,e1,e2⟩:=h.iso.kid i (.inr hi) u
 have r:=h.rep i (.inr hi)
 rw[trA_node w u (h.ex.good hi).rep] at r
 obtain⟨_,k,v,_,_⟩:=r
 have k:(S2.nd (imF lkB la nw i)).key=(A.nd i).key:=k
 have v:(S2.nd (imF lkB la nw i)).value=(A.nd i).value:=v
 show PNT.mk _ _ _ _=PNT.mk _ _ _ _
 rw[k,v,e1,e2,h.plc p1,h.plc p2]
theorem ImQ.kni (h:ImQ A B ha hb ks kb rs lk la lkB nw m S2 x):KnI A la S2 (lkB++nw):=by
 refine⟨h.len.symm,?_⟩
 rw[← h.map_la,List.map_map]
 refine List.map_congr_left fun i hi=>?_
 rw[h.map_la]
 exact h.nod_ hi
theorem ImQ.roots (h:ImQ A B ha hb ks kb rs lk la lkB nw m S2 x):x.map (plcN (lkB++nw))=rs.map (plcN la):=by
 rw[h.ex_,List.map_map]
 exact List.map_congr_left fun i hi=>h.plc (h.rs_in i hi)
theorem ImQ.full (h:ImQ A B ha hb [] [] rs [] la [] nw m S2 x):NumsA A rs [] la/\NumsA S2 x [] nw/\KnI A la S2 nw/\x.map (plcN nw)=rs.map (plcN la):=by
 have a:=h.num;have b:=h.kni;have c:=h.roots
 rw[List.nil_append] at a b c
 exact⟨h.ex.na,a,b,c⟩
end Go.Proofs.YtedfbafngmicpaaGreat.Sx
end
section
/- From one arena to another, twice: a complete pack, then one relative to it (row 55). No program in sight. -/
namespace Go.Proofs.YtedfbafngmicpaaGreat.Sx
open Go

variable {A B S2:Arn} {ha hb ks kb rs lk la lkB nw x:List Int} {m:Nat}
theorem ImQ.okT (h:ImQ A B ha hb ks kb rs lk la lkB nw m S2 x)(ok:∀ i∈rs,OkT A i):∀ r∈x,OkT S2 r:=fun r hr=>by
 rw[h.ex_] at hr
 obtain⟨i,hi,rfl⟩:=List.mem_map.1 hr
 obtain⟨t,rp,a,b,g⟩:=ok i hi
 have q:=h.rep i (h.rs_in i hi)
 rw[trA_eq h.ex.wf rp] at q
 exact⟨t,q,a,b,g⟩
theorem ImQ.next (h:ImQ A B ha hb [] [] rs [] la [] nw m S2 x)(ok:∀ i∈rs,OkT A i)(hl:hb.length<=800000)(rl:rs.length<=4096)(hr:S2.reads<=10000000000000000) :
  KnB S2 (x.reverse++hb) x/\NumsA S2 x [] nw/\KnI A la S2 nw/\x.map (plcN nw)=rs.map (plcN la)/\NumsA A rs [] la:=by
 obtain⟨a,b,c,d⟩:=h.full
 have xl:x.length=rs.length:=by rw[h.ex_,List.length_map]
 have rt:RtB S2 (x.reverse++hb) x []:=rtB_of h.wf (by rw[List.length_append,List.length_reverse];omega) hr (by omega) (by simp) fun r hr=>h.okT ok r (by simpa using hr)
 exact⟨rt.kn,b,c,d,a⟩
structure IxB (A:Arn) (ha ks rs:List Int) (B:Arn) (hb kb:List Int) (S:Arn) (b:List Int):Prop where
 ab:allB b
 bl:b.length<=8000000
 st:∃ m,S=rdS B m/\m<=400000
 rd:B.reads<=10000000000000000
 p:∃ lk la lkB D,RtI A B ha hb ks kb rs lk la lkB D b/\((la.length-lk.length:Nat):Int)<=B.free
def ImX (A:Arn)(ha ks rs:List Int)(B:Arn)(hb kb:List Int)(S2:Arn)(x:List Int):Prop:=∃ lk la lkB nw m,ImQ A B ha hb ks kb rs lk la lkB nw m S2 x
def tImx:Tfm C0:=fun args H K=>match args with
 | [.at (.ptr 0 0),.at (.slc 7),.at (.slc 8)]=>imM H fun S b kb=>∃ A ha ks rs B hb,IxB A ha ks rs B hb kb S b/\∀ S2 x,ImX A ha ks rs B hb kb S2 x->K (.tup [.at (.slc 9),.at (vI 0)]) (chS S2++[.row false EC.u8 b,.row false EC.u32 kb,.row true EC.u32 x]) W7
 | _=>False
theorem s_imx:SoundT C0 15 tImx:=s_imp.weak fun args H K h=>by
 unfold tImx at h
 unfold tImp
 split at h<;>try exact h.elim
 unfold imM arMr at h ⊢
 split at h<;>try exact h.elim
 split at h<;>try exact h.elim
 obtain⟨A,ha,ks,rs,B,hb,hx,h5⟩:=h
 obtain⟨lk,la,lkB,D,q,fr⟩:=hx.p
 obtain⟨m,es,hm⟩:=hx.st
 have rd:=hx.rd
 rw[es]
 refine⟨q.imB (by omega) hx.ab hx.bl,fun e p hp ne=>?_,fun e p S' hp f ne=>?_,fun p S' S2 o hp f r=>h5 S2 o ?_⟩
 ·rw[q.p.dec] at hp
  injection hp with hp _
  exact absurd hp.symm ne
 ·rw[q.p.dec] at hp
  injection hp with _ hp
  subst hp
  exact absurd (q.fit fr f) ne
 ·rw[q.p.dec] at hp
  injection hp with _ hp
  subst hp
  obtain⟨nw,c,w⟩:=q.imQ (by omega) (by omega) f r
  exact⟨lk,la,lkB,nw,c,w⟩
end Go.Proofs.YtedfbafngmicpaaGreat.Sx
end
section
/- Law PackTransfers. -/
namespace Go.Proofs.YtedfbafngmicpaaGreat.Sx
open Go

/-KEEP Wf exW inU allV allB rdS Arn.free Arn.cap RtB ExO ImR FrB IxB ImX RngL RngS FoR pkZ slotsOf orderOf DgW NumsD allVb RepD Asc Tr.Bal Tr.size Tr.list List.Perm newS-/
structure ZTf where
 A:Arn
 rs:List Int
 L:List (List Ent)
 O:Arn
 x:List Int
 y:List Int
 d:List SlotT
 o:List Int
 i:Nat
structure XTf (P:ZTf->Prop) where
 z:ZTf
 h:P z
abbrev hfU (raw:List Ent)(l:List StpT)(z:ZTf):List (Chunk C0):=[.row false EC.ent raw,.row false EC.stp l]++chSk 2 z.A++[.row false EC.u32 z.rs,.rows EC.hent EC.ent z.L]++chSk 11 z.O++[.row true EC.u32 z.x,.row true EC.u32 z.y]
noncomputable def aTf (P0 P1:ZTf->Prop)(raw:List Ent)(l:List StpT):Ann C0:={ quiet:=[9999999,17,29,22,16,23],Γ:=[(19,tFo),(10,frameT [] tAw28),(12,frameT [] tExr),(15,frameT [] tImx),(28,frameT [] tNew),(29,frameT [] tCap),(17,frameT [] tDump),(22,frameT [] tSound),(23,frameT [] tN28),(16,frameT [] tTr7)],inv:=fun m=>match m with
 | 1013=>some { X:=XTf P0,sl:=[7,8,9,15,17,19],tf:=fun _=>[.one (.at (.ptr 2 0)),.one (.at (.slc 9)),.one (.at (.slc 10)),.one (.at (.ptr 11 0)),.one (.at (.slc 18)),.one (.at (.slc 19))],hf:=fun x=>hfU raw l x.z }
 | 15=>some { X:=XTf P1,sl:=[7,8,9,15,17,19,21,22],tf:=fun x=>[.one (.at (.ptr 2 0)),.one (.at (.slc 9)),.one (.at (.slc 10)),.one (.at (.ptr 11 0)),.one (.at (.slc 18)),.one (.at (.slc 19)),.one (.at (.ptr 20 0)),vi .i64 x.z.i],hf:=fun x=>hfU raw l x.z++[.box [.slc 21,.slc 22],.row true EC.slot x.z.d,.row true EC.u32 x.z.o],μ:=fun x=>x.z.y.length-x.z.i }
 | _=>none }
def tTf:Tfm C0:=fun args H K=>match args,H with
 | [.at (.slc 0),.at (.val (.int .u64 t)),.at (.slc 1)],[.row false .ent raw,.row false .stp l]=>0<=t/\RngL raw/\RngS l/\K (.one (.at (vB true))) [.row false EC.ent raw,.row false EC.stp l] []
 | _,_=>False
structure TfF (z:ZTf):Prop where
 wo:Wf z.O (z.y.reverse++(z.x.reverse++[]))
 wa:Wf z.A z.rs
 yl:z.y.length=z.rs.length
 xl:z.x.length=1
 rl:z.rs.length=z.L.length
 r8:z.rs.length<=7
 tr:∀ i,i<z.rs.length->∃ t,Rep z.O t (getB z.y i)/\t.list=rowG z.L i/\t.Bal/\Asc t.list
 nm:∀ a b,NumsA z.O z.y [] a->NumsA z.A z.rs [] b->a.length=b.length
def PTf0:ZTf->Prop:=fun z=>TfF z
def PTf1:ZTf->Prop:=fun z=>TfF z/\z.i<=z.y.length/\z.d=slotsOf z.O
theorem TfF.yu {z:ZTf}(h:TfF z):∀ j∈z.y,j=0∨z.O.us j=true:=fun j hj=>h.wo.held j (List.mem_append_left _ (List.mem_reverse.2 hj))
theorem num_nil {S:Arn}{l:List Int}(h:NumsA S [] [] l):l=[]:=by cases h;rfl
theorem fo_tree {sp:Int}{S:Arn}{rs:List Int}{ll:List (List Ent)}(h:FoR sp S rs ll){i:Nat}(hi:i<rs.length):OkT S (getB rs i)/\∃ t,Rep S t (getB rs i)/\t.list=rowG ll i/\t.Bal/\Asc t.list:=by
 have z:=zip_getD h.len hi
 have m:(getB rs i,rowG ll i)∈rs.zip ll:=by
  rw[← z,List.getD_eq_getElem?_getD,List.getElem?_eq_getElem (by rw[List.length_zip,← h.len];omega)]
  exact List.getElem_mem _
 obtain⟨a,t,b,c,d,e,_⟩:=h.ok (.inl m)
 exact⟨a,t,b,c,d,by rw[c];exact e⟩
theorem fo_okT {sp:Int}{S:Arn}{rs:List Int}{ll:List (List Ent)}(h:FoR sp S rs ll):∀ r∈rs,OkT S r:=fun r hr=>by
 obtain⟨i,hi,e⟩:=List.mem_iff_getElem.1 hr
 have:=(fo_tree h hi).1
 rwa [show getB rs i=r from by unfold getB;rw[List.getD_eq_getElem?_getD,List.getElem?_eq_getElem hi];exact e] at this
theorem okT_rd {S:Arn}{m:Nat}{r:Int}(h:OkT S r):OkT (rdS S m) r:=by
 obtain⟨t,a,b⟩:=h
 exact⟨t,rep_rd a m,b⟩
theorem ix_new {A:Arn}{ha R o:List Int}{S':Arn}{c:Nat}(w:Wf A ha)(hc:(c:Int)=A.cap)(c1:1<=c)(c2:c<=65536)(ex:ExO A ha [] R S' o):IxB A ha [] R (newS c) [] [] (newS c) o:=by
 obtain⟨lk,la,D,p⟩:=ex.p
 have e:=num_nil p.ex.nk
 subst e
 have wn:Wf (newS c) []:=Wf.new (by omega) (by omega)
 have few:=used_few w p.ex.ls.nd p.ex.ls.used
 have ky:KyN (newS c) []:=fun l n=>by
  rw[num_nil n]
  intro i hi
  cases hi
 have kn:KnB (newS c) [] []:=⟨wn,by simp,(fun r hr=>by cases hr),(fun r hr=>by cases hr),ky,by simp,by show (0:Int)<=_;decide⟩
 refine⟨ex.ab,ex.bl,⟨0,(rdS_zero _).symm,by decide⟩,by show (0:Int)<=_;decide,[],la,[],D,⟨p,kn,.nil,⟨rfl,rfl⟩,rfl⟩,?_⟩
 rw[newS_free]
 unfold Arn.cap at hc
 show ((la.length-0:Nat):Int)<=_
 omega
theorem ix_two {A:Arn}{ha rs o1 x:List Int}{S' S2:Arn}{c m1 m2:Nat}{la nw:List Int}(w:Wf A ha)(hc:(c:Int)=A.cap)(ok:∀ r∈rs,OkT A r)(rl:rs.length<=4096)(im:ImQ A (newS c) ha [] [] [] (rs.take 1) [] la [] nw m2 S2 x)(ex:ExO (rdS A m1) ha (rs.take 1) rs S' o1) :
  IxB (rdS A m1) ha (rs.take 1) rs S2 (x.reverse++[]) x S2 o1:=by
 obtain⟨lk2,la2,D,p⟩:=ex.p
 have ok1:∀ r∈rs.take 1,OkT A r:=fun r hr=>ok r (List.mem_of_mem_take hr)
 have rd2:=im.rd
 have hm2:=im.hm
 have r0:(newS c).reads=0:=rfl
 have xl:x.length=(rs.take 1).length:=by rw[im.ex_,List.length_map]
 have x1:x.length<=1:=by rw[xl,List.length_take];omega
 obtain⟨kn,nB,ki,kr,nA⟩:=im.next ok1 (by simp) (by rw[List.length_take];omega) (by omega)
 have e:lk2=la:=p.ex.nk.det (show NumsA (rdS A m1) (rs.take 1) [] la from nA)
 subst e
 have few:=used_few p.ex.wf p.ex.ls.nd p.ex.ls.used
 have le:=p.ex.le
 refine⟨ex.ab,ex.bl,⟨0,(rdS_zero _).symm,by decide⟩,by omega,lk2,la2,nw,D,⟨p,kn,nB,⟨ki.len,ki.ns⟩,kr⟩,?_⟩
 have g:=im.wf.free_nonneg.2.2.2
 have nu:=im.nu
 have ul:=im.ul
 have kl:=ki.len
 have f0:=newS_free c
 have n0:(newS c).nu=0:=by simp[Arn.nu,newS,List.countP_replicate]
 have u0:(newS c).used.length=c+1:=by simp[newS]
 have few:la2.length+1<=A.used.length:=few
 unfold Arn.cap at hc g
 omega
theorem tf_same {A B S2:Arn}{ha hb kb rs lk la lkB nw x y:List Int}{A1 B1 S1:Arn}{ha1 hb1:List Int}{m m1:Nat}(h:ImQ A B ha hb (rs.take 1) kb rs lk la lkB nw m S2 y)(h1:ImQ A1 B1 ha1 hb1 [] [] (rs.take 1) [] lk [] lkB m1 S1 x)(l1:1<=rs.length):getB y 0=getB x 0:=by
 have ey:=h.ex_
 have ex:=h1.ex_
 have z:getB rs 0∈rs.take 1:=by
  cases rs with
  | nil=>simp at l1
  | cons a r=>show a∈[a];simp
 have gx:getB x 0=imF [] lk lkB (getB rs 0):=by
  rw[ex]
  cases rs with
  | nil=>simp at l1
  | cons a r=>rfl
 have gy:getB y 0=imF lkB la nw (getB rs 0):=by
  rw[ey]
  cases rs with
  | nil=>simp at l1
  | cons a r=>rfl
 rw[gx,gy]
 rcases h1.rs_in _ z with e|e
 ·rw[e,h.f0,h1.f0]
 ·obtain⟨p,hp⟩:=List.getElem?_of_mem e
  have pl:=(List.getElem?_eq_some_iff.1 hp).1
  rw[← getB_some hp,h.fk pl,h1.at_ pl,List.nil_append]
theorem vc_tf (raw:List Ent)(l:List StpT)(t:Int)(K:KT)(h0:0<=t)(hraw:RngL raw)(hl:RngS l)(h:K (.one (.at (vB true))) [.row false EC.ent raw,.row false EC.stp l] []) :
  vc C0 (aTf PTf0 PTf1 raw l) Tryz.f5 [.at (.slc 0),.at (vU64 t),.at (.slc 1)] [.row false EC.ent raw,.row false EC.stp l] (normK 2 K):=by
 generalize hP0:PTf0=P0
 generalize hP1:PTf1=P1
 refine Eq.mp (show (0<=t/\(1:Int)<=1/\(1:Int)<=1000/\RngL raw/\RngS l/\∀ S:Arn,∀ rs:List Int,∀ ll:List (List Ent),FoR 1 S rs ll->(0:Int)<=0/\(0:Int)<=1/\1<=(rs.length:Int)/\∃ hs:List Int,RtB S hs [] (List.drop (Int.toNat 0) (List.take (Int.toNat 1) rs))/\∀ S':Arn,∀ o:List Int,ExO S hs [] (List.drop (Int.toNat 0) (List.take (Int.toNat 1) rs)) S' o->(0:Int)<=0/\(0:Int)<=1/\1<=(rs.length:Int)/\∃ hs1:List Int,RtB S' hs1 (List.drop (Int.toNat 0) (List.take (Int.toNat 1) rs)) rs/\∀ S'1:Arn,∀ o1:List Int,ExO S' hs1 (List.drop (Int.toNat 0) (List.take (Int.toNat 1) rs)) rs S'1 o1->exW S'1/\(S'1.cap<1∨65536<S'1.cap->K (.one (.at (.val (Value.bool false)))) [(.row false EC.ent (raw)),(.row false EC.stp (l))] [])/\(1<=S'1.cap->S'1.cap<=65536->∀ S1:Arn,S1=newS S'1.cap.toNat->∃ A:Arn,∃ ha:List Int,∃ ks:List Int,∃ rs1:List Int,∃ B:Arn,∃ hb:List Int,IxB A ha ks rs1 B hb [] S1 o/\∀ S2:Arn,∀ x:List Int,ImX A ha ks rs1 B hb [] S2 x->∃ A1:Arn,∃ ha1:List Int,∃ ks1:List Int,∃ rs2:List Int,∃ B1:Arn,∃ hb1:List Int,IxB A1 ha1 ks1 rs2 B1 hb1 x S2 o1/\∀ S21:Arn,∀ x1:List Int,ImX A1 ha1 ks1 rs2 B1 hb1 x S21 x1->brS ((x.length:Int) != 1) (K (.one (.at (.val (Value.bool false)))) [(.row false EC.ent (raw)),(.row false EC.stp (l))] []) (brS ((x1.length:Int) != (rs.length:Int)) (K (.one (.at (.val (Value.bool false)))) [(.row false EC.ent (raw)),(.row false EC.stp (l))] []) ((0:Int)<=0/\0<(x1.length:Int)/\(0:Int)<=0/\0<(x.length:Int)/\brS (getB x1 (Int.toNat 0) != getB x (Int.toNat 0)) (K (.one (.at (.val (Value.bool false)))) [(.row false EC.ent (raw)),(.row false EC.stp (l))] []) (∃ x2:XTf P0,True/\
 (True/\True/\True/\True/\True/\True/\True)/\raw=raw/\l=l/\(True/\True/\True/\VW (S'1.reads)=VW (x2.z.A.reads)/\True)/\(True/\True/\True/\VU (S'1.fresh)=VU (x2.z.A.fresh)/\True)/\S'1.nodes=x2.z.A.nodes/\S'1.counts=x2.z.A.counts/\S'1.used=x2.z.A.used/\S'1.gen=x2.z.A.gen/\S'1.rel=x2.z.A.rel/\rs=x2.z.rs/\ll=x2.z.L/\(True/\True/\True/\VW (S21.reads)=VW (x2.z.O.reads)/\True)/\(True/\True/\True/\VU (S21.fresh)=VU (x2.z.O.fresh)/\True)/\S21.nodes=x2.z.O.nodes/\S21.counts=x2.z.O.counts/\S21.used=x2.z.O.used/\S21.gen=x2.z.O.gen/\S21.rel=x2.z.O.rel/\x=x2.z.x/\x1=x2.z.y/\True)))/\∀ x2:XTf P0,True->exW x2.z.O/\∀ d:List SlotT,∀ o2:List Int,d=slotsOf x2.z.O->o2=orderOf x2.z.O->(∃ x3:XTf P1,True/\(True/\True/\True/\True/\True/\True/\True/\VI 0=(VI (x3.z.i:Int))/\True)/\raw=raw/\l=l/\(True/\True/\True/\VW (x2.z.A.reads)=VW (x3.z.A.reads)/\True)/\(True/\True/\True/\VU (x2.z.A.fresh)=VU (x3.z.A.fresh)/\True)/\x2.z.A.nodes=x3.z.A.nodes/\x2.z.A.counts=x3.z.A.counts/\x2.z.A.used=x3.z.A.used/\x2.z.A.gen=x3.z.A.gen/\x2.z.A.rel=x3.z.A.rel/\x2.z.rs=x3.z.rs/\x2.z.L=x3.z.L/\(True/\True/\True/\VW (x2.z.O.reads)=VW (x3.z.O.reads)/\True)/\(True/\True/\True/\VU (x2.z.O.fresh)=VU (x3.z.O.fresh)/\True)/\x2.z.O.nodes=x3.z.O.nodes/\x2.z.O.counts=x3.z.O.counts/\x2.z.O.used=x3.z.O.used/\x2.z.O.gen=x3.z.O.gen/\x2.z.O.rel=x3.z.O.rel/\x2.z.x=x3.z.x/\x2.z.y=x3.z.y/\(True/\True/\True)/\d=x3.z.d/\o2=x3.z.o/\True)/\∀ x3:XTf P1,True->brS (decide ((x3.z.i:Int)<(x3.z.y.length:Int))) (0<=(x3.z.i:Int)/\(x3.z.i:Int)<(x3.z.y.length:Int)/\
 0<=(x3.z.i:Int)/\(x3.z.i:Int)<(x3.z.L.length:Int)/\x3.z.d.length<=1000000/\(∃ t1:Tr,RepD x3.z.d t1 (getB x3.z.y (x3.z.i:Int).toNat)/\Asc t1.list/\t1.Bal/\t1.size<=2*x3.z.d.length+2/\t1.size<=1000000/\t1.list=(rowG x3.z.L (x3.z.i:Int).toNat))/\∃ x':XTf P1,True/\((True/\True/\True/\True/\True/\True/\True/\(VI (IntKind.i64.wrap ((x3.z.i:Int)+1)))=(VI (x'.z.i:Int))/\True)/\raw=raw/\l=l/\(True/\True/\True/\VW (x3.z.A.reads)=VW (x'.z.A.reads)/\True)/\(True/\True/\True/\VU (x3.z.A.fresh)=VU (x'.z.A.fresh)/\True)/\x3.z.A.nodes=x'.z.A.nodes/\x3.z.A.counts=x'.z.A.counts/\x3.z.A.used=x'.z.A.used/\x3.z.A.gen=x'.z.A.gen/\x3.z.A.rel=x'.z.A.rel/\x3.z.rs=x'.z.rs/\x3.z.L=x'.z.L/\(True/\True/\True/\VW (x3.z.O.reads)=VW (x'.z.O.reads)/\True)/\(True/\True/\True/\VU (x3.z.O.fresh)=VU (x'.z.O.fresh)/\True)/\x3.z.O.nodes=x'.z.O.nodes/\x3.z.O.counts=x'.z.O.counts/\x3.z.O.used=x'.z.O.used/\x3.z.O.gen=x'.z.O.gen/\x3.z.O.rel=x'.z.O.rel/\x3.z.x=x'.z.x/\x3.z.y=x'.z.y/\(True/\True/\True)/\x3.z.d=x'.z.d/\x3.z.o=x'.z.o/\True)/\x'.z.y.length-x'.z.i<x3.z.y.length-x3.z.i) ((([]:List Ent).length+x3.z.x.length)*bytesOf C0 EC.u32<=140737488355328/\(([]++x3.z.x).length+x3.z.y.length)*bytesOf C0 EC.u32<=140737488355328/\∃ hs2:List Int,Wf x3.z.O hs2/\([]++x3.z.x++x3.z.y).Perm hs2/\([]++x3.z.x++x3.z.y).length<=1000000/\DgW x3.z.d/\x3.z.y.length<=1000000/\allVb x3.z.y/\∀ l1:List Int,NumsD x3.z.d x3.z.y [] l1->exW x3.z.A/\∀ d1:List SlotT,∀ o3:List Int,d1=slotsOf x3.z.A->o3=orderOf x3.z.A->DgW d1/\x3.z.rs.length<=1000000/\
 allVb x3.z.rs/\∀ l2:List Int,NumsD d1 x3.z.rs [] l2->K (.one (.at (.val (Value.bool ((l1.length:Int)==(l2.length:Int)))))) [(.row false EC.ent (raw)),(.row false EC.stp (l))] [])))=_ by kernel_rfl) ?_
 subst hP0 hP1
 refine⟨h0,by decide,by decide,hraw,hl,fun S rs ll fo=>?_⟩
 have w:=fo.wf
 have rd:=fo.rd
 have one:=fo.one
 have ok:=fo_okT fo
 have ok1:∀ r∈rs.take 1,OkT S r:=fun r hr=>ok r (List.mem_of_mem_take hr)
 rw[show List.drop (Int.toNat 0) (List.take (Int.toNat 1) rs)=rs.take 1 from rfl]
 have t1:(rs.take 1).length=1:=by rw[List.length_take];omega
 have rt1:RtB S rs [] (rs.take 1):=rtB_of w (by omega) (by omega) (by simp) (by omega) fun r hr=>ok1 r (by simpa using hr)
 refine⟨by decide,by decide,by omega,rs,rt1,fun S1 o1 ex1=>⟨by decide,by decide,by omega,rs,?_⟩⟩
 obtain⟨m,es,hm⟩:=ex1.st
 subst es
 have w1:Wf (rdS S m) rs:=w.rd (by omega)
 have rt2:RtB (rdS S m) rs (rs.take 1) rs:=rtB_of w1 (by omega) (by show S.reads+(m:Int)<=_;omega) (by omega) (by omega) fun r hr=>by
  rcases List.mem_append.1 hr with c|c
  ·exact okT_rd (ok1 r c)
  ·exact okT_rd (ok r c)
 refine⟨rt2,fun S2 o2 ex2=>?_⟩
 obtain⟨m2,es2,hm2⟩:=ex2.st
 rw[rdS_rdS] at es2
 subst es2
 have w2:Wf (rdS S (m+m2)) rs:=w.rd (by omega)
 have ec:(rdS S (m+m2)).cap=S.cap:=rfl
 have fr:=fo.fr
 have fn:=w.free_nonneg
 have u2:=w.n2
 have cn:S.cap=(S.used.length:Int)-1:=rfl
 rw[ec]
 refine⟨⟨_,w2⟩,fun q=>by omega,fun c1 c2 O eO=>?_⟩
 obtain⟨c,hc⟩:=Int.eq_ofNat_of_zero_le (show 0<=S.cap by omega)
 rw[hc,Int.toNat_natCast] at eO
 subst eO
 refine⟨S,rs,[],rs.take 1,newS c,[],ix_new w hc.symm (by omega) (by omega) ex1,fun S3 x im1=>?_⟩
 obtain⟨lk,la,lkB,nw,q,im1⟩:=im1
 have e1:=num_nil im1.ex.nk
 have e2:=num_nil im1.nB
 subst e1 e2
 refine⟨rdS S m,rs,rs.take 1,rs,S3,x.reverse++[],ix_two w hc.symm ok (by omega) im1 ex2,fun S4 y im2=>?_⟩
 obtain⟨lk2,la2,lkB2,nw2,q2,im2⟩:=im2
 have rd2:=im1.rd
 have hq:=im1.hm
 have r0:(newS c).reads=0:=rfl
 obtain⟨kn,nB,ki,kr,nA⟩:=im1.next ok1 (by simp) (by omega) (by omega)
 obtain rfl:=im2.ex.nk.det (show NumsA (rdS S m) (rs.take 1) [] la from nA)
 obtain rfl:=im2.nB.det nB
 have xl:x.length=1:=by rw[im1.ex_,List.length_map,t1]
 have yl:y.length=rs.length:=by rw[im2.ex_,List.length_map]
 have sm:=tf_same im2 im1 (by omega)
 refine⟨bf7 (by rw[xl];rfl) (bf7 (by rw[yl];simp) ⟨by decide,by omega,by decide,by omega,bf7 (by rw[show Int.toNat 0=0 from rfl,sm];simp) ⟨⟨⟨rdS S (m+m2),rs,ll,S4,x,y,[],[],0⟩,⟨im2.wf,w2,yl,xl,fo.len,one.2,fun i hi=>?_,fun a b na nb=>?_⟩⟩,?_⟩⟩),fun x2 _=>?_⟩
 ·obtain⟨_,t,rp,tl,bal,asc⟩:=fo_tree fo hi
  have rp':Rep (rdS S m) t (getB rs i):=rep_rd rp m
  have mi:getB rs i∈rs:=getB_mem hi
  have q:=im2.rep (getB rs i) (im2.rs_in _ mi)
  rw[trA_eq w1 rp'] at q
  have gy:getB y i=imF lkB2 la2 nw2 (getB rs i):=by
   rw[im2.ex_]
   show ((rs.map (imF lkB2 la2 nw2)).getD i 0)=_
   rw[List.getD_eq_getElem?_getD,List.getElem?_map,getB_get hi];rfl
  exact⟨t,by rw[gy];exact q,tl,bal,asc⟩
 ·have nb':NumsA (rdS S m) rs [] b:=nb
  have na':NumsA S4 y [] a:=na
  rw[na'.det (im2.num0 nb'),List.length_map]
 ·(repeat' first|exact trivial|exact rfl|refine And.intro ?_ ?_)
 clear sm yl xl kn nB ki kr nA im2 im1 ex2 ex1 rt1 rt2 ok ok1 t1 w w1 w2 fo one rd fr fn u2 cn ec
 obtain⟨z,F⟩:=x2
 dsimp only
 have F:TfF z:=F
 have wo:=F.wo
 refine⟨⟨_,wo⟩,fun d o ed eo=>⟨⟨⟨{ z with d:=d,o:=o,i:=0 },⟨F.wo,F.wa,F.yl,F.xl,F.rl,F.r8,F.tr,F.nm⟩,Nat.zero_le _,ed⟩,?_⟩,fun x3 _=>?_⟩⟩
 ·(repeat' first|exact trivial|exact rfl|refine And.intro ?_ ?_)
 clear ed eo F wo
 obtain⟨z,F,hi,ed⟩:=x3
 dsimp only
 have r8:=F.r8
 have yl:=F.yl
 have xl:=F.xl
 have rl:=F.rl
 have sl:=slots_le F.wo
 rw[← ed] at sl
 refine brS_of (fun y=>?_) fun y=>?_
 ·have yi:z.i<z.y.length:=by have:=of_decide_eq_true y;omega
  clear y
  rw[show ((z.i:Int)).toNat=z.i from rfl,wrap_id (x:=(z.i:Int)+1) (by omega) (by omega)]
  obtain⟨t,rp,tl,bal,asc⟩:=F.tr z.i (by omega)
  have tr:=tr_tree F.wo rp tl bal (by rw[← tl];exact asc)
  rw[← ed] at tr
  refine⟨by omega,by omega,by omega,by omega,by omega,tr,⟨{ z with i:=z.i+1 },⟨F.wo,F.wa,F.yl,F.xl,F.rl,F.r8,F.tr,F.nm⟩,yi,ed⟩,trivial,?_,Nat.sub_lt_sub_left yi (Nat.lt_succ_self z.i)⟩
  (repeat' first|exact trivial|exact rfl|refine And.intro ?_ ?_)
 ·clear y
  have dw:DgW z.d:=by rw[ed];exact dgW_slots F.wo
  have vy:allVb z.y:=fun j hj=>inU_of F.wo (F.yu j hj)
  have vr:allVb z.rs:=fun j hj=>inU_of F.wa (F.wa.held j hj)
  have pm:([]++z.x++z.y).Perm (z.y.reverse++(z.x.reverse++[])):=by
   rw[List.nil_append,List.append_nil]
   exact List.perm_append_comm.trans ((List.reverse_perm z.y).symm.append (List.reverse_perm z.x).symm)
  refine⟨?_,?_,_,F.wo,pm,by rw[List.nil_append,List.length_append];omega,dw,by omega,vy,fun l1 n1=>⟨⟨_,F.wa⟩,fun d1 o3 e1 _=>⟨by rw[e1];exact dgW_slots F.wa,by omega,vr,fun l2 n2=>?_⟩⟩⟩
  ·rw[bytes_u32];show (0+z.x.length)*4<=_;omega
  ·rw[bytes_u32,List.nil_append];omega
  rw[ed] at n1
  rw[e1] at n2
  rw[F.nm _ _ (numD_A F.wo n1) (numD_A F.wa n2),beq_self_eq_true]
  exact h
theorem s_tf:SoundT C0 5 tTf:=by
 refine .of Tryz.func5 (by decide) rfl fun args H K h hB=>?_
 unfold tTf at h
 split at h<;>try exact h.elim
 refine⟨_,?_,vc_tf _ _ _ K h.1 h.2.1 h.2.2.1 h.2.2.2⟩
 exact⟨s_fo,frame C0.ok s_aw28 _,frame C0.ok s_exr _,frame C0.ok s_imx _,frame C0.ok s_new _,frame C0.ok s_cap _,frame C0.ok s_dump _,frame C0.ok s_sound _,frame C0.ok s_n28 _,frame C0.ok s_tr7 _,trivial⟩
end Go.Proofs.YtedfbafngmicpaaGreat.Sx
end
section
/- What every law's last step leans on. -/
namespace Go.Proofs.YtedfbafngmicpaaGreat
open Go.ChangeShapes Go.WideShapes Go.ChangeAt Go.RowKit

theorem ownK:ownKnob Tryz.prog.godebug=none:=by kernel_rfl
theorem laidO:laidOutB Tryz.prog=true:=by kernel_rfl

theorem lit_i64 {a:Int}(h:(Lit.int .i64 a).wf=true) : -9223372036854775808<=a/\a<=9223372036854775807:=by
 have h1:IntKind.i64.min = -9223372036854775808:=rfl
 have h2:IntKind.i64.max=9223372036854775807:=rfl
 simp only[Lit.wf,Bool.and_eq_true,decide_eq_true_eq] at h
 omega
theorem lit_u64 {a:Int}(h:(Lit.int .u64 a).wf=true):0<=a/\a<=18446744073709551615:=by
 have h1:IntKind.u64.min=0:=rfl
 have h2:IntKind.u64.max=18446744073709551615:=rfl
 simp only[Lit.wf,Bool.and_eq_true,decide_eq_true_eq] at h
 omega
end Go.Proofs.YtedfbafngmicpaaGreat
end
section
/- From contracts to laws: the arguments as they come, what a law's call leaves. -/
namespace Go.Proofs.YtedfbafngmicpaaGreat.Sx
open Go Go.Joins Go.ChangeShapes Go.WideShapes Go.ChangeAt Go.RowKit

theorem Sat.imms {C:Ctx}{w:World}(vs:List Value)(H:List (Chunk C))(h:∀ (n:Nat) (c:Chunk C),H[n]?=some c->∃ e l,c = .row false e l/\Imm C w (vs.getD n undef) e l):Sat C (fun n=>vs.getD n undef) (fun _ _=>False) w H where
 holds n c hc:=by
  obtain⟨e,l,rfl,hi⟩:=h n c hc
  exact⟨hi,fun _ hh=>hh⟩
 dis _ _ _ hh:=hh.elim
 bd _ _ hh:=hh.elim
 imm _ _ _ _ _ _ hh:=hh
 out _ _ _ hh:=hh
 cl n c hc m hm:=by
  obtain⟨e,l,rfl,_⟩:=h n c hc
  simp[Chunk.names] at hm

theorem lawOf {f:FuncId}{t:Tfm C0}(hs:SoundT C0 f t){args:List TV}{H:List (Chunk C0)}{vs:List Value}{σ:Nat->Value}{w:World}(ht:∀ K:KT,K (.one (.at (vB true))) H []->t args H K)(hsat:Sat C0 σ (fun _ _=>False) w H)(hr:Rels (TV.rel σ) args vs)(hn:∀ x∈args,∀ m∈x.names,m<H.length):Calls Tryz.prog f vs.toArray w (fun e w'=>e = .returned (.bool true)/\Below w.heap.size w w'):=by
 have hc:=hs.call args H (fun r _ _=>r = .one (.at (vB true))) (ht _ rfl) σ _ w vs hsat hr hn
 refine Calls.mono hc fun e w' hh=>?_
 cases e with
 | panicked ch=>exact hh.elim
 | outgrown=>exact hh.elim
 | returned v =>
  obtain⟨r,H',ts,σ',φ',hout,rfl⟩:=hh
  have hv:v = .bool true:=hout.rel
  exact⟨by rw[hv],hout.adv.os,hout.adv.tape,hout.adv.output,hout.adv.size,fun k hk=>hout.adv.fr k hk fun n hh=>hh⟩

section
variable {HH:Type} {enc:TypeId × Value->HH} {P:Program} {w:World} {base b0:Nat} {spare:Nat->Bool} {held:Bool} {r:Reach}
theorem openRowQ {α:Type}[Inhabited α]{t e:TypeId}{f:α->List Value}{Q:α->Prop}{sz:Nat}{v:Value}{d:DataW HH}{p:List MemPlace}(ht:P.underlying t=some (.slice e))(hC:P.cellsOf e=sz)(hpos:0<sz)(hf:∀ x,(f x).length=sz)(hel:∀ {n:Nat} {cs:List Value} {x:DataW HH × List MemPlace},DataW.trod enc P w base spare held n e cs=some x->∃ a,cs=f a/\Q a)(hv:Value.okWide P w r b0 t v)(h:DataW.Trod enc P w base spare held t v d p) :
  ∃ A n c l,v = .slice A n c/\Rd f sz w A n c l/\∀ x∈l,Q x:=by
 obtain⟨A,n,c,rfl⟩:=okWide_slice ht hv
 obtain⟨fuel,hh⟩:=h
 have hh:DataW.trod enc P w base spare held fuel t [.slice A n c]=some (d,p):=by simpa [Value.cells] using hh
 rcases Go.Deep.open_slice ht hh with ⟨h1,_⟩|⟨a,len,cap,m,k,D,Pl,h1,hb,hle,hm,hmm,hx,hall⟩
 ·simp only[List.cons.injEq,Value.slice.injEq,and_true] at h1
  obtain⟨rfl,rfl,rfl⟩:=h1
  exact⟨none,0,0,[],rfl,Rd.nil hf,fun x hx=>by simp at hx⟩
 ·simp only[List.cons.injEq,Value.slice.injEq,and_true] at h1
  obtain⟨rfl,rfl,rfl⟩:=h1
  have hlm:n<=m:=by rw[hmm];split<;>omega
  have hel':∀ i,i<n->∃ x:α,w.cells? base (a.add (i*P.cellsOf e)) (P.cellsOf e)=some (f x)/\Q x:=fun i hi=>by
   obtain⟨cs',hc1,hc2⟩:=hall i (by omega)
   obtain⟨x,rfl,hq⟩:=hel hc2
   exact⟨x,hc1,hq⟩
  obtain⟨F,hF⟩:=Go.Deep.choose_lt hel'
  have cell:∀ i,i<n->∀ j,j<sz->w.cell? ((a.add (i*sz)).add j)=(f (F i))[j]?:=fun i hi j hj=>by
   have h2:=(hF i hi).1
   rw[hC] at h2
   unfold World.cells? at h2
   split at h2
   ·exact mapM_some_get h2 j j (by simp[hj])
   ·cases h2
  refine⟨some a,n,c,(List.range n).map F,rfl,⟨by simp,hle,hm,hf,fun h=>(by cases h),fun hn=>?_⟩,fun x hx=>by obtain⟨i,hi,rfl⟩:=List.mem_map.1 hx;exact (hF i (List.mem_range.1 hi)).2⟩
  obtain⟨b,o,sp⟩:=a
  have hsome:∀ i,i<n->∀ j,j<sz->∃ u,w.cell? (((⟨b,o,sp⟩:Addr).add (i*sz)).add j)=some u:=fun i hi j hj=>by
   rw[cell i hi j hj]
   exact⟨_,List.getElem?_eq_getElem (by rw[hf];exact hj)⟩
  obtain⟨u0,hu0⟩:=hsome 0 hn 0 hpos
  have hspot:sp=none:=by simpa [Addr.add] using World.cell?_spot hu0
  subst hspot
  refine⟨b,o,rfl,?_,fun k x hx j u hu=>?_⟩
  ·have hu1:w.cell? ⟨b,o,none⟩=some u0:=by simpa [Addr.add] using hu0
   unfold World.cell? at hu1
   split at hu1
   ·rename_i hb2
    exact (Array.getElem?_eq_some_iff.1 hb2).1
   ·cases hu1
  ·rw[List.getElem?_map] at hx
   have hk:k<n:=by
    rcases Nat.lt_or_ge k n with h2|h2
    ·exact h2
    ·rw[List.getElem?_eq_none (by simpa using h2)] at hx;cases hx
   rw[List.getElem?_range hk] at hx
   simp only[Option.map_some,Option.some.injEq] at hx
   subst hx
   have hj:j<sz:=by
    have:=(List.getElem?_eq_some_iff.1 hu).1
    rwa [hf] at this
   have h3:=cell k hk j hj
   rw[hu] at h3
   rw[← h3]
   congr 1
   rw[Go.WideShapes.add_plain,Go.WideShapes.add_plain]
end

section
variable {HH:Type} {enc:TypeId × Value->HH} {w:World} {base b0:Nat} {spare:Nat->Bool} {held:Bool} {r:Reach}
set_option maxRecDepth 100000 in
theorem elEw {n:Nat}{cs:List Value}{x:DataW HH × List MemPlace}(h:DataW.trod enc Tryz.prog w base spare held n 24 cs=some x) :
  ∃ a:Ent,cs=EC.enc .ent a/\((-9223372036854775808<=a.1/\a.1<=9223372036854775807)/\(-9223372036854775808<=a.2/\a.2<=9223372036854775807)):=by
 obtain⟨y0,y1,m,_,hl,h0,h1⟩:=trod_struct2 Tryz.underlying24 h
 obtain⟨k,e0,_,w0⟩:=DataW.trod_int Tryz.underlying2 h0
 obtain⟨v,e1,_,w1⟩:=DataW.trod_int Tryz.underlying2 h1
 have hl:cs.length=2:=hl.trans (by kernel_rfl)
 have c1:Tryz.prog.cellsOf 2=1:=by kernel_rfl
 match cs,hl with
 | [a,b],_ =>
  simp[c1] at e0 e1
  exact⟨(k,v),by rw[e0,e1];rfl,lit_i64 w0,lit_i64 w1⟩
set_option maxRecDepth 100000 in
theorem openEw {v:Value}{d:DataW HH}{p:List MemPlace}(hv:Value.okWide Tryz.prog w r b0 26 v)(h:DataW.Trod enc Tryz.prog w base spare held 26 v d p) :
  ∃ (l:List Ent),Imm C0 w v EC.ent l/\∀ x∈l,(-9223372036854775808<=x.1/\x.1<=9223372036854775807)/\(-9223372036854775808<=x.2/\x.2<=9223372036854775807):=by
 obtain⟨A,n,c,l,rfl,hr,hq⟩:=openRowQ (α:=Ent) (f:=fun x=>EC.enc .ent x) (sz:=2) Tryz.underlying26 (by kernel_rfl) (by decide) (fun _=>rfl) (fun h=>elEw h) hv h
 obtain rfl:=hr.len
 exact⟨l,⟨A,c,rfl,hr⟩,hq⟩
instance:Inhabited Chg:=⟨⟨0,0,0,0⟩⟩
end
end Go.Proofs.YtedfbafngmicpaaGreat.Sx
end
section
/- Opening arguments that are slices of steps of the laws of pack. -/
namespace Go.Proofs.YtedfbafngmicpaaGreat.Sx
open Go Go.Joins Go.ChangeShapes Go.WideShapes Go.ChangeAt Go.RowKit

section
variable {HH:Type} {enc:TypeId × Value->HH} {w:World} {base b0:Nat} {spare:Nat->Bool} {held:Bool} {r:Reach}
instance:Inhabited StpT:=⟨⟨0,(0,0),false,false⟩⟩
set_option maxRecDepth 100000 in
theorem elP {n:Nat}{cs:List Value}{x:DataW HH × List MemPlace}(h:DataW.trod enc Tryz.prog w base spare held n 123 cs=some x):∃ a:StpT,cs=EC.enc .stp a/\(rngI a.at_/\rngI a.ent.1/\rngI a.ent.2):=by
 obtain⟨y0,y1,y2,y3,m,_,hl,h0,h1,h2,h3⟩:=trod_struct4 Tryz.underlying123 h
 obtain⟨u,e0,q0⟩:=DataW.trod_int Tryz.underlying3 h0
 obtain⟨s,e1,q1⟩:=elEw h1
 obtain⟨k,e2,_⟩:=DataW.trod_bool Tryz.underlying4 h2
 obtain⟨v,e3,_⟩:=DataW.trod_bool Tryz.underlying4 h3
 have hl:cs.length=5:=hl.trans (by kernel_rfl)
 have c1:Tryz.prog.cellsOf 4=1:=by kernel_rfl
 have c2:Tryz.prog.cellsOf 3=1:=by kernel_rfl
 have c3:Tryz.prog.cellsOf 24=2:=by kernel_rfl
 match cs,hl with
 | [a,b,c,d,e],_ =>
  simp[c1,c2,c3] at e0 e1 e2 e3
  have e1:[b,c]=[Value.int .i64 s.1,Value.int .i64 s.2]:=e1
  simp only[List.cons.injEq,and_true] at e1
  exact⟨⟨u,s,k,v⟩,by rw[e0,e1.1,e1.2,e2,e3];rfl,lit_i64 q0.2,q1⟩
set_option maxRecDepth 100000 in
theorem openP {v:Value}{d:DataW HH}{p:List MemPlace}(hv:Value.okWide Tryz.prog w r b0 55 v)(h:DataW.Trod enc Tryz.prog w base spare held 55 v d p) :
  ∃ (l:List StpT),Imm C0 w v EC.stp l/\RngS l:=by
 obtain⟨A,n,c,l,rfl,hr,hq⟩:=openRowQ (α:=StpT) (f:=fun x=>EC.enc .stp x) (sz:=5) Tryz.underlying55 (by kernel_rfl) (by decide) (fun _=>rfl) (fun h=>elP h) hv h
 obtain rfl:=hr.len
 exact⟨l,⟨A,c,rfl,hr⟩,hq⟩
end
end Go.Proofs.YtedfbafngmicpaaGreat.Sx
end
section
/- 'PackTransfers': the law returns true for every input, and its arguments read afterwards as they read before. -/
namespace Go.Proofs.YtedfbafngmicpaaGreat.packTransfers
open Go.ChangeShapes Go.WideShapes Go.ChangeAt Go.RowKit Sx

set_option maxRecDepth 100000 in
theorem lifted (os:Os)(started:os.Started)(H:Type)(enc:TypeId × Value->H) :
  ReturnsInHanded {} Tryz.checked os 5 .any (Rows.packTransfersSpec.pre6 enc Tryz.prog Tryz.f5 Rows.packTransfersRow.domain false) (Rows.packTransfersSpec.post enc Tryz.prog Tryz.f5 false true false false):=by
 refine returnsInHanded_of_change (C:=Tryz.checked) ownK started (by kernel_rfl) Tryz.func5
  (ChangeSpec.witness6 (enc:=enc) (C:=Tryz.checked) false ⟨#[],#[.slice none 0 0,.int .u64 0,.slice none 0 0],[]⟩ 8 (by kernel_rfl) (by kernel_rfl) (by kernel_rfl) (by kernel_rfl)) ?_
 intro W base args ds gs before hval0 hW hcnd _
 have hval:∀ (j:Nat) t v,Tryz.f5.params[j]?=some t->args[j]?=some v->Value.okWide Tryz.prog W .any base t v:=hval0
 have hW':=hW
 obtain⟨p,q,hA0,hV,rfl,hfz,hnd⟩:=hW
 have hA:DataW.TrodAll enc Tryz.prog W 0 (fun _=>true) true Tryz.f5.params.toList args.toList ds p:=hA0
 rw[Tryz.params5] at hA hval
 obtain⟨v0,vs0,d0,ds0,p0,q0,hargs,rfl,rfl,h0,r0⟩:=trodAll_cons hA
 obtain⟨v1,vs1,d1,ds1,p1,q1,rfl,rfl,rfl,h1,r1⟩:=trodAll_cons r0
 obtain⟨v2,vs2,d2,ds2,p2,q2,rfl,rfl,rfl,h2,r2⟩:=trodAll_cons r1
 obtain⟨rfl,rfl,rfl⟩:=trodAll_nil r2
 obtain rfl:args=#[v0,v1,v2]:=by cases args;simp_all
 obtain⟨rfl,rfl⟩:=trodVars_none hV
 have k0:=h0
 have k1:=h1
 have k2:=h2
 clear hA0 hval0
 simp only[List.append_nil] at hW'
 have hlt:∀ x∈p0++(p1++(p2)),x.block<W.heap.size:=fun x hx=>by simpa using hW'.lt x (by simpa using hx)
 have l0:∀ x∈p0,x.block<W.heap.size:=fun x hx=>hlt x (by simp[hx])
 have l1:∀ x∈p1,x.block<W.heap.size:=fun x hx=>hlt x (by simp[hx])
 have l2:∀ x∈p2,x.block<W.heap.size:=fun x hx=>hlt x (by simp[hx])
 obtain⟨L0,R0,Q0⟩:=openEw (hval 0 26 v0 rfl rfl) h0
 obtain⟨a1,rfl,rfl,rfl,w1⟩:=open_int Tryz.underlying22 (hval 1 22 v1 rfl rfl) h1
 have b1:=lit_u64 w1
 obtain⟨L2,R2,Q2⟩:=openP (hval 2 55 v2 rfl rfl) h2
 refine (lawOf s_tf (args:=[.at (.slc 0),.at (.val (.int .u64 a1)),.at (.slc 1)]) (H:=[Chunk.row false EC.ent L0,Chunk.row false EC.stp L2]) (vs:=[v0,.int .u64 a1,v2]) (σ:=fun n=>[v0,v2].getD n undef) (w:=W) (fun K h=>⟨b1.1,Q0,Q2,h⟩)
  (Sat.imms [v0,v2] _ fun n c hc=>by match n,hc with|0,hc=>exact⟨_,_,(Option.some.inj hc).symm,R0⟩|1,hc=>exact⟨_,_,(Option.some.inj hc).symm,R2⟩|n+2,hc=>simp at hc) (Rels.cons rfl (Rels.cons rfl (Rels.cons rfl Rels.nil))) (by simp[TV.names,At.names])).mono fun e W' ⟨he,hg⟩=>?_
 subst he
 exact⟨_,rfl,_,_,_,[]++[],_,[],hW',(trodAll_cons_mk (shut_bool Tryz.underlying4 true) trodAll_mk0),(trodAll_cons_mk (Below.trod laidO (by kernel_rfl) (of_decide_eq_true (by kernel_rfl)) k0 hg l0) (trodAll_cons_mk (Below.trod laidO (by kernel_rfl) (of_decide_eq_true (by kernel_rfl)) k1 hg l1) (trodAll_cons_mk (Below.trod laidO (by kernel_rfl) (of_decide_eq_true (by kernel_rfl)) k2 hg l2) trodAll_mk0))),rfl,hg.frame _,fun h=>by cases h⟩

theorem over:Rows.packTransfersRow.holds Tryz.pinned (OpenSpec.ofChange Rows.packTransfersSpec) :=
 OpenClaim.holds_of_wide 5 Tryz.f5 rfl rfl rfl rfl rfl rfl rfl ⟨rfl,rfl,rfl,rfl,rfl⟩ rfl rfl rfl rfl rfl (by kernel_rfl) Tryz.func5 (by kernel_rfl)
  (of_decide_eq_true (by kernel_rfl)) (by unfold Func.isWrapper;first|(rw[if_pos (by decide +kernel)];kernel_rfl)|(rw[if_neg (by decide +kernel)];exact⟨rfl,rfl⟩))
  (fun os started H enc _=>lifted os started H enc)

theorem proved:Rows.PackTransfersSaid:=over
#print axioms proved
end Go.Proofs.YtedfbafngmicpaaGreat.packTransfers
end
