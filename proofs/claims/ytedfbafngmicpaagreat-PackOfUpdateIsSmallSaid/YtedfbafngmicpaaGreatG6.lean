/- A part of the proof. -/
import Derived.Test.YtedfbafngmicpaaGreatG5
import Derived.Test.YtedfbafngmicpaaGreatG4
section
/- packwork extend, number, Nodes; pack.Nodes; compact.Needed. -/
namespace Go.Proofs.YtedfbafngmicpaaGreat.Sx
open Go

/-KEEP Wf exW inU allV rdS NumsA NumA ExtR opN StkN NmR NmB NumK-/
def allV (l:List Int):Prop:=∀ x∈l,inU x
abbrev chX (l:List Int)(pm:List (Int × Int))(rs:List Int)(S:Arn):List (Chunk C0):=[.box [.slc 2,.slc 3],.box [.ptr 4 0,.slc 5,.slc 6,vU64 S.reads],.row true EC.u32 l,.map .u32 .u64 pm,.box [.slc 7,.slc 8,.slc 9,vU S.fresh],.row true EC.node S.nodes,.row true EC.int S.counts,.row true EC.bool S.used,.row true EC.u32 S.gen,.row true EC.u32 S.rel,.row false EC.u32 rs]
def exM (H:List (Chunk C0))(k:List Int->List (Int × Int)->List Int->Arn->Prop):Prop:=match H with
 | [.box [.slc 2,.slc 3],.box [.ptr 4 0,.slc 5,.slc 6,.val (.int .u64 rd)],.row true .u32 l,.map .u32 .u64 pm,.box [.slc 7,.slc 8,.slc 9,.val (.int .u32 fr)],.row true .node nd,.row true .int ct,.row true .bool us,.row true .u32 gn,.row true .u32 rl,.row false .u32 rs]=>k l pm rs ⟨us,gn,rl,fr,nd,ct,rd⟩
 | _=>False
structure ExtR (S:Arn) (l rs:List Int) (S':Arn) (l':List Int) (pm':List (Int × Int)):Prop where
 num:NumsA S rs l l'
 map:∀ j,lookM pm' j=plcN l' j
 st:S'=rdS S (l'.length-l.length)
def NmB (S:Arn)(rs:List Int):Prop:=exW S/\S.reads<=3000000000000000000/\rs.length<=1000000/\allV rs
structure NmR (S:Arn) (rs:List Int) (S':Arn) (l:List Int):Prop where
 num:NumsA S rs [] l
 st:S'=rdS S l.length
structure NumK (S:Arn) (l:List Int) (pm:List (Int × Int)):Prop where
 nd:l.Nodup
 us:∀ j∈l,S.us j=true
 map:∀ j,lookM pm j=plcN l j
inductive StkN (us:Int->Bool) (lf rg:Int->Int):List PStepT->List Int->List Int->Prop where
 | nil {acc:List Int}:StkN us lf rg [] acc acc
 | open {i:Int} {r:List PStepT} {acc tgt:List Int}:us i=true->i∉acc->StkN us lf rg r (acc++[i]) tgt->StkN us lf rg (⟨i,true⟩::r) acc tgt
 | closed {i:Int} {r:List PStepT} {acc a tgt:List Int}:inU i->NumG us lf rg i acc a->StkN us lf rg r a tgt->StkN us lf rg (⟨i,false⟩::r) acc tgt
def opN (w:List PStepT):Nat:=w.countP fun x=>x.open_
structure XEa (P:Arn->List Int->List (Int × Int)->Nat->Prop) where
 S:Arn
 l:List Int
 pm:List (Int × Int)
 i:Nat
 h:P S l pm i
structure XEb (P:Arn->List Int->List (Int × Int)->Nat->List PStepT->Prop) where
 S:Arn
 l:List Int
 pm:List (Int × Int)
 i:Nat
 w:List PStepT
 h:P S l pm i w
def wtP (S:Arn)(w:List PStepT):Nat:=(w.map fun x=>if x.open_ then 1 else 3*(S.nd x.index).size.toNat+1).sum
noncomputable def aExt (P1:Arn->List Int->List (Int × Int)->Nat->Prop)(P2:Arn->List Int->List (Int × Int)->Nat->List PStepT->Prop)(rs:List Int):Ann C0:={ Γ:=[(86,frameT [] tNode)],trunc:=fun n=>n=34,inv:=fun n=>match n with
 | 1=>some { X:=XEa P1,sl:=[14],tf:=fun x=>[vi .i64 x.i],hf:=fun x=>chX x.l x.pm rs x.S,μ:=fun x=>rs.length-x.i,wr:=[0,1,2,3] }
 | 4=>some { X:=XEb P2,sl:=[8],tf:=fun _=>[.one (.at (.slc 11))],hf:=fun x=>chX x.l x.pm rs x.S++[.row true EC.pstep x.w],μ:=fun x=>wtP x.S x.w,wr:=[0,1,2,3],rel:=fun T _ x=>slotI T 14 x.i }
 | _=>none }
def tExt:Tfm C0:=fun args H K=>match args with
 | [.at (.ptr 0 0),.at (.ptr 1 0),.at (.slc 10)]=>exM H fun l pm rs S=>exW S/\S.reads<=3000000000000000000/\rs.length<=1000000/\allV rs/\NumK S l pm/\∀ S' l' pm',ExtR S l rs S' l' pm'->K (.tup []) (chX l' pm' rs S') [0,1,2,3]
 | _=>False
noncomputable def aNmb:Ann C0:={ Γ:=[(94,frameT [] tExt)] }
abbrev nbM (H:List (Chunk C0))(k:Arn->List Int->Prop):Prop:=arMr H fun S rest=>match rest with
 | [.row false .u32 rs]=>k S rs
 | _=>False
def tNmb:Tfm C0:=fun args H K=>match args with
 | [.at (.ptr 0 0),.at (.slc 7)]=>nbM H fun S rs=>NmB S rs/\∀ S' l pm,NmR S rs S' l->K (.one (.at (.ptr 8 0))) (chS S'++[.row false EC.u32 rs,.box [.slc 9,.slc 10],.row true EC.u32 l,.map .u32 .u64 pm]) [0]
 | _=>False
noncomputable def aNds:Ann C0:={ Γ:=[(93,frameT [] tNmb)] }
def tNds:Tfm C0:=fun args H K=>match args with
 | [.at (.ptr 0 0),.at (.slc 7)]=>nbM H fun S rs=>NmB S rs/\∀ S' l,NmR S rs S' l->K (.one (.at (.slc 8))) (chS S'++[.row false EC.u32 rs,.row true EC.u32 l]) [0]
 | _=>False
theorem lookM_set:∀ (l:List (Int × Int)) (k v j:Int),lookM (setM l k v) j=if k=j then v else lookM l j
 | [],k,v,j=>rfl
 | p::r,k,v,j=>by
  have ih:=lookM_set r k v j
  unfold setM
  by_cases c:p.1=k
  ·rw[if_pos c]
   show (if k=j then v else lookM r j)=if k=j then v else (if p.1=j then p.2 else lookM r j)
   by_cases d:k=j
   ·rw[if_pos d,if_pos d]
   ·rw[if_neg d,if_neg d,if_neg (by omega)]
  ·rw[if_neg c]
   show (if p.1=j then p.2 else lookM (setM r k v) j)=if k=j then v else (if p.1=j then p.2 else lookM r j)
   rw[ih]
   by_cases d:p.1=j
   ·rw[if_pos d,if_pos d,if_neg (by omega)]
   ·rw[if_neg d,if_neg d]
theorem opN_snoc (w:List PStepT)(x:PStepT):opN (w++[x])=opN w+if x.open_ then 1 else 0:=by
 unfold opN;rw[List.countP_append,List.countP_singleton]
theorem opN_app (w v:List PStepT):opN (w++v)=opN w+opN v:=by unfold opN;rw[List.countP_append]
theorem wtP_app (S:Arn)(w v:List PStepT):wtP S (w++v)=wtP S w+wtP S v:=by unfold wtP;simp
theorem StkN.opens {us:Int->Bool}{lf rg:Int->Int}{w:List PStepT}{acc tgt:List Int}(h:StkN us lf rg w acc tgt):acc.length+opN w<=tgt.length:=by
 induction h with
 | nil=>exact Nat.le_refl _
 | @«open» i r acc tgt _ _ _ ih =>
  have e:opN (⟨i,true⟩::r)=opN r+1:=by unfold opN;simp
  rw[List.length_append,List.length_singleton] at ih
  omega
 | @closed i r acc a tgt _ k _ ih =>
  have e:opN (⟨i,false⟩::r)=opN r:=by unfold opN;simp
  obtain⟨x,rfl⟩:=k.pre
  rw[List.length_append] at ih
  omega
structure InR (S0:Arn) (l0 rs:List Int) (S:Arn) (l:List Int) (pm:List (Int × Int)) (i:Nat) (w:List PStepT):Prop where
 lt:i<rs.length
 tgt:∃ l1 t,NumsA S0 (rs.take i) l0 l1/\NumA S0 (rs.getD i 0) l1 t/\StkN S0.us (lfA S0) (rgA S0) w.reverse l t
 map:∀ j,lookM pm j=plcN l j
 nd:l.Nodup
 us:∀ j∈l,S0.us j=true
 m:∃ m,S=rdS S0 m/\m+l0.length=l.length+opN w/\w.length<=3*m+1
theorem takeD_one {α:Type}{l:List α}{i:Nat}{dft:α}(h:i<l.length):l.take (i+1)=l.take i++[l.getD i dft]:=by
 rw[List.take_add_one,List.getD_eq_getElem?_getD,List.getElem?_eq_getElem h];rfl
section
variable {S0 S:Arn} {hs l0 rs l:List Int} {pm:List (Int × Int)} {i:Nat} {w:List PStepT}
theorem InR.bd (hw:Wf S0 hs)(hn:l0.Nodup)(hu:∀ j∈l0,S0.us j=true)(h:InR S0 l0 rs S l pm i w):l.length<=65536/\∃ m,S=rdS S0 m/\m<=65536/\w.length<=3*m+1:=by
 obtain⟨l1,t,n1,n2,st⟩:=h.tgt
 obtain⟨m,m1,m2,m3⟩:=h.m
 have q:=used_few hw (n2.nodup (szA_kids hw) (n1.nodup (szA_kids hw) hn)) (n2.used (n1.used hu))
 have o:=st.opens
 rw[show opN w.reverse=opN w by unfold opN;rw[List.countP_reverse]] at o
 have u2:=hw.n2
 exact⟨by omega,m,m1,by omega,m3⟩
theorem ExtR.more (hw:Wf S0 hs)(hi:i<rs.length)(hv:allV rs)(hn:l0.Nodup)(hu:∀ j∈l0,S0.us j=true)(h:ExtR S0 l0 (rs.take i) S l pm):InR S0 l0 rs S l pm i [⟨rs.getD i 0,false⟩]:=by
 obtain⟨t,ht⟩:=numA_ex hw (rs.getD i 0) l
 have hm:rs.getD i 0∈rs:=by rw[List.getD_eq_getElem?_getD,List.getElem?_eq_getElem hi];exact List.getElem_mem hi
 obtain⟨y,hy⟩:=h.num.pre
 exact⟨hi,⟨l,t,h.num,ht,.closed (hv _ hm) ht .nil⟩,h.map,h.num.nodup (szA_kids hw) hn,h.num.used hu,_,h.st,by rw[hy,List.length_append];show _=_+0;omega,by simp⟩
theorem InR.done (h:InR S0 l0 rs S l pm i []):ExtR S0 l0 (rs.take (i+1)) S l pm:=by
 obtain⟨l1,t,n1,n2,st⟩:=h.tgt
 obtain⟨m,m1,m2,m3⟩:=h.m
 cases st
 refine⟨?_,h.map,?_⟩
 ·rw[takeD_one (dft:=(0:Int)) h.lt];exact n1.app (NumsG.one n2)
 ·rw[m1]
  have:opN []=0:=rfl
  congr 1;omega
theorem InR.pop {j v:Int}(h:InR S0 l0 rs S l pm i (w++[⟨j,true⟩]))(hv:v=(l.length:Int)+1):InR S0 l0 rs S (l++[j]) (setM pm j v) i w:=by
 obtain⟨l1,t,n1,n2,st⟩:=h.tgt
 obtain⟨m,m1,m2,m3⟩:=h.m
 rw[List.reverse_append] at st
 have st:StkN S0.us (lfA S0) (rgA S0) (⟨j,true⟩::w.reverse) l t:=st
 cases st with
 | «open» u n st =>
  refine⟨h.lt,⟨l1,t,n1,n2,st⟩,fun k=>?_,?_,?_,m,m1,?_,?_⟩
  ·rw[lookM_set,plcN_snoc _ _ _ n,h.map,hv]
  ·refine List.nodup_append.2 ⟨h.nd,by simp,fun a ha b hb e=>?_⟩
   rw[List.mem_singleton.1 hb] at e
   exact n (e ▸ ha)
  ·intro k hk
   rcases List.mem_append.1 hk with hk|hk
   ·exact h.us k hk
   ·rw[List.mem_singleton.1 hk];exact u
  ·rw[opN_snoc,if_pos rfl] at m2
   rw[List.length_append,List.length_singleton];omega
  ·rw[List.length_append,List.length_singleton] at m3;omega
theorem InR.inu {j:Int}(h:InR S0 l0 rs S l pm i (w++[⟨j,false⟩])):inU j:=by
 obtain⟨l1,t,n1,n2,st⟩:=h.tgt
 rw[List.reverse_append] at st
 have st:StkN S0.us (lfA S0) (rgA S0) (⟨j,false⟩::w.reverse) l t:=st
 cases st with
 | closed u _ _=>exact u
theorem InR.skip {j:Int}(h:InR S0 l0 rs S l pm i (w++[⟨j,false⟩]))(hj:S0.us j=false∨j∈l):InR S0 l0 rs S l pm i w:=by
 obtain⟨l1,t,n1,n2,st⟩:=h.tgt
 obtain⟨m,m1,m2,m3⟩:=h.m
 rw[List.reverse_append] at st
 have st:StkN S0.us (lfA S0) (rgA S0) (⟨j,false⟩::w.reverse) l t:=st
 cases st with
 | closed _ n st =>
  have e:=n.det (.skip hj)
  rw[e] at st
  refine⟨h.lt,⟨l1,t,n1,n2,st⟩,h.map,h.nd,h.us,m,m1,?_,?_⟩
  ·rw[opN_snoc] at m2
   simpa using m2
  ·rw[List.length_append,List.length_singleton] at m3;omega
theorem InR.push {j:Int}(hw:Wf S0 hs)(h:InR S0 l0 rs S l pm i (w++[⟨j,false⟩]))(u:S0.us j=true)(hj:j∉l):InR S0 l0 rs (rdS S 1) l pm i (w++[⟨j,true⟩,⟨(S0.nd j).right,false⟩,⟨(S0.nd j).left,false⟩]):=by
 obtain⟨l1,t,n1,n2,st⟩:=h.tgt
 obtain⟨m,m1,m2,m3⟩:=h.m
 rw[List.reverse_append] at st
 have st:StkN S0.us (lfA S0) (rgA S0) (⟨j,false⟩::w.reverse) l t:=st
 cases st with
 | closed _ n st =>
  cases n with
  | skip q=>exact absurd q (by rw[u];simp[hj])
  | go _ _ k1 k2 =>
   have kd:=hw.kid j u
   refine⟨h.lt,⟨l1,t,n1,n2,?_⟩,h.map,h.nd,h.us,m+1,?_,?_,?_⟩
   ·rw[List.reverse_append]
    exact .closed (inU_of hw kd.1) k1 (.closed (inU_of hw kd.2) k2 (.open u (NumG.fresh (szA_kids hw) u hj k1 k2) st))
   ·rw[m1,rdS_rdS]
   ·rw[opN_snoc] at m2
    rw[opN_app,show opN [⟨j,true⟩,⟨(S0.nd j).right,false⟩,⟨(S0.nd j).left,false⟩]=1 from rfl]
    have:(if (⟨j,false⟩:PStepT).open_=true then 1 else 0)=0:=rfl
    omega
   ·rw[List.length_append] at m3 ⊢
    simp at m3 ⊢;omega
end
def PX1 (S0:Arn)(l0 rs:List Int):Arn->List Int->List (Int × Int)->Nat->Prop:=fun S l pm i=>i<=rs.length/\ExtR S0 l0 (rs.take i) S l pm
theorem vc_ext (l:List Int)(pm:List (Int × Int))(rs:List Int)(S:Arn)(K:KT)(hx:exW S)(hr:S.reads<=3000000000000000000)(h1:rs.length<=1000000)(hv:allV rs)(hk:NumK S l pm)(h:∀ S' l' pm',ExtR S l rs S' l' pm'->K (.tup []) (chX l' pm' rs S') [0,1,2,3]) :
  vc C0 (aExt (PX1 S l rs) (InR S l rs) rs) Tryz.f94 [.at (.ptr 0 0),.at (.ptr 1 0),.at (.slc 10)] (chX l pm rs S) (normK 11 (wideK [0,1,2,3] K)):=by
 generalize hP1:PX1 S l rs=P1
 generalize hP2:InR S l rs=P2
 refine Eq.mp (show ((∃ x:XEa P1,True/\(True/\True/\True/\VI (rs.length:Int)=VI (rs.length:Int)/\VI 0=(VI (x.i:Int))/\True)/\(True/\True/\True)/\(True/\True/\True/\VW (S.reads)=VW (x.S.reads)/\True)/\l=x.l/\pm=x.pm/\(True/\True/\True/\VU (S.fresh)=VU (x.S.fresh)/\True)/\S.nodes=x.S.nodes/\S.counts=x.S.counts/\S.used=x.S.used/\S.gen=x.S.gen/\S.rel=x.S.rel/\rs=rs/\True)/\∀ x:XEa P1,True->brS (decide ((x.i:Int)<(rs.length:Int))) (0<=(x.i:Int)/\(x.i:Int)<(rs.length:Int)/\(∃ x1:XEb P2,((x.i:Int))=((x1.i:Int))/\(True/\True/\True/\True/\VI (rs.length:Int)=VI (rs.length:Int)/\VI (x.i:Int)=VI (x.i:Int)/\True)/\(True/\True/\True)/\(True/\True/\True/\VW (x.S.reads)=VW (x1.S.reads)/\True)/\x.l=x1.l/\x.pm=x1.pm/\(True/\True/\True/\VU (x.S.fresh)=VU (x1.S.fresh)/\True)/\x.S.nodes=x1.S.nodes/\x.S.counts=x1.S.counts/\x.S.used=x1.S.used/\x.S.gen=x1.S.gen/\x.S.rel=x1.S.rel/\rs=rs/\[({ index:=rs.getD (x.i:Int).toNat 0,open_:=false:PStepT })]=x1.w/\True)/\∀ x1:XEb P2,((x.i:Int))=((x1.i:Int))->brS (decide ((x1.w.length:Int)>0)) (0<=IntKind.i64.wrap ((x1.w.length:Int)-1)/\IntKind.i64.wrap ((x1.w.length:Int)-1)<(x1.w.length:Int)/\0<=IntKind.i64.wrap ((x1.w.length:Int)-1)/\IntKind.i64.wrap ((x1.w.length:Int)-1)<=(x1.w.length:Int)/\brS ((x1.w.getD (IntKind.i64.wrap ((x1.w.length:Int)-1)).toNat { index:=0,open_:=false:PStepT }).open_) (((x1.l.length+[(x1.w.getD (IntKind.i64.wrap ((x1.w.length:Int)-1)).toNat { index:=0,open_:=false:PStepT }).index].length)*bytesOf C0 EC.u32<=140737488355328/\∃ x':XEb P2,((x.i:Int))=((x'.i:Int))/\
 ((True/\True/\True/\True/\VI (rs.length:Int)=VI (rs.length:Int)/\VI (x.i:Int)=VI (x.i:Int)/\True)/\(True/\True/\True)/\(True/\True/\True/\VW (x1.S.reads)=VW (x'.S.reads)/\True)/\(x1.l++[(x1.w.getD (IntKind.i64.wrap ((x1.w.length:Int)-1)).toNat { index:=0,open_:=false:PStepT }).index])=x'.l/\(setM x1.pm (x1.w.getD (IntKind.i64.wrap ((x1.w.length:Int)-1)).toNat { index:=0,open_:=false:PStepT }).index (IntKind.u64.wrap (↑(x1.l++[(x1.w.getD (IntKind.i64.wrap ((x1.w.length:Int)-1)).toNat { index:=0,open_:=false:PStepT }).index]).length:Int)))=x'.pm/\(True/\True/\True/\VU (x1.S.fresh)=VU (x'.S.fresh)/\True)/\x1.S.nodes=x'.S.nodes/\x1.S.counts=x'.S.counts/\x1.S.used=x'.S.used/\x1.S.gen=x'.S.gen/\x1.S.rel=x'.S.rel/\rs=rs/\(List.take (IntKind.i64.wrap ((x1.w.length:Int)-1)).toNat x1.w)=x'.w/\True)/\wtP x'.S x'.w<wtP x1.S x1.w)/\(x1.l.length+[(x1.w.getD (IntKind.i64.wrap ((x1.w.length:Int)-1)).toNat { index:=0,open_:=false:PStepT }).index].length)*bytesOf C0 EC.u32<=140737488355328/\∃ x':XEb P2,((x.i:Int))=((x'.i:Int))/\((True/\True/\True/\True/\VI (rs.length:Int)=VI (rs.length:Int)/\VI (x.i:Int)=VI (x.i:Int)/\True)/\(True/\True/\True)/\(True/\True/\True/\VW (x1.S.reads)=VW (x'.S.reads)/\True)/\(x1.l++[(x1.w.getD (IntKind.i64.wrap ((x1.w.length:Int)-1)).toNat { index:=0,open_:=false:PStepT }).index])=x'.l/\(setM x1.pm (x1.w.getD (IntKind.i64.wrap ((x1.w.length:Int)-1)).toNat { index:=0,open_:=false:PStepT }).index (IntKind.u64.wrap (↑(x1.l++[(x1.w.getD (IntKind.i64.wrap ((x1.w.length:Int)-1)).toNat { index:=0,open_:=false:PStepT }).index]).length:Int)))=x'.pm/\
 (True/\True/\True/\VU (x1.S.fresh)=VU (x'.S.fresh)/\True)/\x1.S.nodes=x'.S.nodes/\x1.S.counts=x'.S.counts/\x1.S.used=x'.S.used/\x1.S.gen=x'.S.gen/\x1.S.rel=x'.S.rel/\rs=rs/\(List.take (IntKind.i64.wrap ((x1.w.length:Int)-1)).toNat x1.w)=x'.w/\True)/\wtP x'.S x'.w<wtP x1.S x1.w) (brS (decide (lookM x1.pm (x1.w.getD (IntKind.i64.wrap ((x1.w.length:Int)-1)).toNat { index:=0,open_:=false:PStepT }).index>0)) (∃ x':XEb P2,((x.i:Int))=((x'.i:Int))/\((True/\True/\True/\True/\VI (rs.length:Int)=VI (rs.length:Int)/\VI (x.i:Int)=VI (x.i:Int)/\True)/\(True/\True/\True)/\(True/\True/\True/\VW (x1.S.reads)=VW (x'.S.reads)/\True)/\x1.l=x'.l/\x1.pm=x'.pm/\(True/\True/\True/\VU (x1.S.fresh)=VU (x'.S.fresh)/\True)/\x1.S.nodes=x'.S.nodes/\x1.S.counts=x'.S.counts/\x1.S.used=x'.S.used/\x1.S.gen=x'.S.gen/\x1.S.rel=x'.S.rel/\rs=rs/\(List.take (IntKind.i64.wrap ((x1.w.length:Int)-1)).toNat x1.w)=x'.w/\True)/\wtP x'.S x'.w<wtP x1.S x1.w) (inU (x1.w.getD (IntKind.i64.wrap ((x1.w.length:Int)-1)).toNat { index:=0,open_:=false:PStepT }).index/\exW x1.S/\x1.S.reads<4000000000000000000/\∀ S':Arn,S'=(rdS x1.S (x1.S.us (x1.w.getD (IntKind.i64.wrap ((x1.w.length:Int)-1)).toNat { index:=0,open_:=false:PStepT }).index).toNat)->brS (x1.S.us (x1.w.getD (IntKind.i64.wrap ((x1.w.length:Int)-1)).toNat { index:=0,open_:=false:PStepT }).index) (((List.take (IntKind.i64.wrap ((x1.w.length:Int)-1)).toNat x1.w).length+[{ index:=(x1.w.getD (IntKind.i64.wrap ((x1.w.length:Int)-1)).toNat { index:=0,open_:=false:PStepT }).index,open_:=true:PStepT },{ index:=(x1.S.nd (x1.w.getD (IntKind.i64.wrap ((x1.w.length:Int)-1)).toNat { index:=0,open_:=false:PStepT }).index).right,open_:=false:PStepT },{ index:=(x1.S.nd (x1.w.getD (IntKind.i64.wrap ((x1.w.length:Int)-1)).toNat { index:=0,open_:=false:PStepT }).index).left,open_:=false:PStepT }].length)*bytesOf C0 EC.pstep<=140737488355328/\
 ∃ x':XEb P2,((x.i:Int))=((x'.i:Int))/\((True/\True/\True/\True/\VI (rs.length:Int)=VI (rs.length:Int)/\VI (x.i:Int)=VI (x.i:Int)/\True)/\(True/\True/\True)/\(True/\True/\True/\VW (S'.reads)=VW (x'.S.reads)/\True)/\x1.l=x'.l/\x1.pm=x'.pm/\(True/\True/\True/\VU (S'.fresh)=VU (x'.S.fresh)/\True)/\S'.nodes=x'.S.nodes/\S'.counts=x'.S.counts/\S'.used=x'.S.used/\S'.gen=x'.S.gen/\S'.rel=x'.S.rel/\rs=rs/\(List.take (IntKind.i64.wrap ((x1.w.length:Int)-1)).toNat x1.w++[{ index:=(x1.w.getD (IntKind.i64.wrap ((x1.w.length:Int)-1)).toNat { index:=0,open_:=false:PStepT }).index,open_:=true:PStepT },{ index:=(x1.S.nd (x1.w.getD (IntKind.i64.wrap ((x1.w.length:Int)-1)).toNat { index:=0,open_:=false:PStepT }).index).right,open_:=false:PStepT },{ index:=(x1.S.nd (x1.w.getD (IntKind.i64.wrap ((x1.w.length:Int)-1)).toNat { index:=0,open_:=false:PStepT }).index).left,open_:=false:PStepT }])=x'.w/\True)/\wtP x'.S x'.w<wtP x1.S x1.w) (∃ x':XEb P2,((x.i:Int))=((x'.i:Int))/\((True/\True/\True/\True/\VI (rs.length:Int)=VI (rs.length:Int)/\VI (x.i:Int)=VI (x.i:Int)/\True)/\(True/\True/\True)/\(True/\True/\True/\VW (S'.reads)=VW (x'.S.reads)/\True)/\x1.l=x'.l/\x1.pm=x'.pm/\(True/\True/\True/\VU (S'.fresh)=VU (x'.S.fresh)/\True)/\S'.nodes=x'.S.nodes/\S'.counts=x'.S.counts/\S'.used=x'.S.used/\S'.gen=x'.S.gen/\S'.rel=x'.S.rel/\rs=rs/\(List.take (IntKind.i64.wrap ((x1.w.length:Int)-1)).toNat x1.w)=x'.w/\True)/\wtP x'.S x'.w<wtP x1.S x1.w)))) (∃ x':XEa P1,True/\((True/\True/\True/\VI (rs.length:Int)=VI (rs.length:Int)/\
 (VI (IntKind.i64.wrap ((x.i:Int)+1)))=(VI (x'.i:Int))/\True)/\(True/\True/\True)/\(True/\True/\True/\VW (x1.S.reads)=VW (x'.S.reads)/\True)/\x1.l=x'.l/\x1.pm=x'.pm/\(True/\True/\True/\VU (x1.S.fresh)=VU (x'.S.fresh)/\True)/\x1.S.nodes=x'.S.nodes/\x1.S.counts=x'.S.counts/\x1.S.used=x'.S.used/\x1.S.gen=x'.S.gen/\x1.S.rel=x'.S.rel/\rs=rs/\True)/\rs.length-x'.i<rs.length-x.i)) (K (.tup []) [(.box [(.slc 2),(.slc 3)]),(.box [(.ptr 4 0),(.slc 5),(.slc 6),(.val (VW (x.S.reads)))]),(.row true EC.u32 (x.l)),(Chunk.map IntKind.u32 IntKind.u64 (x.pm)),(.box [(.slc 7),(.slc 8),(.slc 9),(.val (VU (x.S.fresh)))]),(.row true EC.node (x.S.nodes)),(.row true EC.int (x.S.counts)),(.row true EC.bool (x.S.used)),(.row true EC.u32 (x.S.gen)),(.row true EC.u32 (x.S.rel)),(.row false EC.u32 (rs))] [0,1,2,3]))=_ by kernel_rfl) ?_
 subst hP1 hP2
 obtain⟨hs,hw⟩:=hx
 obtain⟨hn,hu,hm⟩:=hk
 refine⟨⟨⟨S,l,pm,0,Nat.zero_le _,.nil,hm,?_⟩,?_⟩,fun x _=>brS_of (fun c=>?_) fun c=>?_⟩
 ·rw[Nat.sub_self,rdS_zero]
 ·(repeat' first|exact trivial|exact rfl|refine And.intro ?_ ?_)
 ·obtain⟨Sa,la,pa,i,hi,ha⟩:=x
  dsimp only at c ⊢
  have c:i<rs.length:=by have:=of_decide_eq_true c;omega
  refine⟨by omega,by omega,⟨⟨Sa,la,pa,i,_,ha.more hw c hv hn hu⟩,rfl,?_⟩,fun x ex=>brS_of (fun d=>?_) fun d=>?_⟩
  ·(repeat' first|exact trivial|exact rfl|refine And.intro ?_ ?_)
  ·skip
   obtain⟨Sb,lb,pb,i',w,hb⟩:=x
   dsimp only at d ex ⊢
   obtain rfl:i=i':=by omega
   have d:0<w.length:=by have:=of_decide_eq_true d;omega
   obtain⟨w',x,rfl⟩:∃ w' x,w=w'++[x]:=by
    rcases List.eq_nil_or_concat w with e|⟨w',x,e⟩
    ·rw[e] at d;exact absurd d (by decide)
    ·exact⟨w',x,by rw[e,List.concat_eq_append]⟩
   obtain⟨b1,m,b2,b3,b4⟩:=hb.bd hw hn hu
   have e1:IntKind.i64.wrap (((w'++[x]).length:Int)-1)=(w'.length:Int):=by
    rw[wrap_id (by omega) (by omega),List.length_append,List.length_singleton];omega
   rw[e1]
   have e2:(w'++[x]).getD ((w'.length:Int)).toNat { index:=0,open_:=false:PStepT }=x:=by
    show (w'++[x]).getD w'.length _=x
    simp[List.getD_eq_getElem?_getD]
   have e3:List.take ((w'.length:Int)).toNat (w'++[x])=w':=by
    show List.take w'.length (w'++[x])=w'
    simp
   rw[e2,e3]
   have e4:(w'++[x]).length=w'.length+1:=by simp
   obtain⟨j,o⟩:=x
   dsimp only
   refine⟨by omega,by omega,by omega,by omega,brS_of (fun z=>?_) fun z=>brS_of (fun y=>?_) fun y=>⟨?_,⟨hs,?_⟩,?_,fun S' es=>brS_of (fun v=>?_) fun v=>?_⟩⟩
   ·subst z
    have hp:=hb.pop (v:=IntKind.u64.wrap ((lb++[j]).length:Int)) (by rw[wrap_u64 (by omega) (by rw[List.length_append,List.length_singleton];omega),List.length_append,List.length_singleton];omega)
    have hz:(lb.length+[j].length)*bytesOf C0 EC.u32<=140737488355328:=by rw[bytes_u32,List.length_singleton];omega
    have hμ:wtP Sb w'<wtP Sb (w'++[⟨j,true⟩]):=by rw[wtP_app];show _<_+1;omega
    refine⟨⟨hz,⟨⟨Sb,lb++[j],_,i,w',hp⟩,rfl,?_,hμ⟩⟩,hz,⟨⟨Sb,lb++[j],_,i,w',hp⟩,rfl,?_,hμ⟩⟩
    ·(repeat' first|exact trivial|exact rfl|refine And.intro ?_ ?_)
    ·(repeat' first|exact trivial|exact rfl|refine And.intro ?_ ?_)
   ·subst z
    have y:j∈lb:=plcN_mem.1 (by rw[← hb.map];exact of_decide_eq_true y)
    refine⟨⟨Sb,lb,pb,i,w',hb.skip (.inr y)⟩,rfl,?_,?_⟩
    ·(repeat' first|exact trivial|exact rfl|refine And.intro ?_ ?_)
    ·rw[wtP_app];show wtP Sb w'<_+(3*_+1+0);omega
   ·subst z;exact hb.inu
   ·rw[b2];exact hw.rd (by omega)
   ·rw[b2];show S.reads+(m:Int)<_;omega
   ·subst z
    have y:j∉lb:=fun q=>by
     have q:=plcN_mem.2 q
     rw[← hb.map] at q
     exact of_decide_eq_false y q
    rw[b2] at v
    have v:S.us j=true:=v
    have hp:=hb.push hw v y
    have es:S'=rdS Sb 1:=by rw[es,b2];show rdS _ (S.us j).toNat=_;rw[v];rfl
    subst es
    have en:∀ k,Sb.nd k=S.nd k:=fun k=>by rw[b2];rfl
    refine⟨by rw[bytes_pstep];simp;omega,⟨⟨rdS Sb 1,lb,pb,i,_,hp⟩,rfl,?_,?_⟩⟩
    ·rw[en]
     (repeat' first|exact trivial|exact rfl|refine And.intro ?_ ?_)
    ·rw[wtP_app,wtP_app]
     have k:=sz_kids hw j v
     unfold lfA rgA at k
     show _+(1+(3*((rdS Sb 1).nd (S.nd j).right).size.toNat+1+(3*((rdS Sb 1).nd (S.nd j).left).size.toNat+1+0)))<_+(3*(Sb.nd j).size.toNat+1+0)
     have f1:wtP (rdS Sb 1) w'=wtP Sb w':=rfl
     have f2:∀ k,(rdS Sb 1).nd k=S.nd k:=fun k=>en k
     rw[f1,f2,f2,en]
     have s0:=hw.siz j v
     have s1:=hw.size_nonneg (S.nd j).left
     have s2:=hw.size_nonneg (S.nd j).right
     omega
   ·subst z
    rw[b2] at v
    have v:S.us j=false:=v
    have es:S'=Sb:=by rw[es,b2];show rdS _ (S.us j).toNat=_;rw[v];exact rdS_zero _
    subst es
    refine⟨⟨S',lb,pb,i,w',hb.skip (.inl v)⟩,rfl,?_,?_⟩
    ·(repeat' first|exact trivial|exact rfl|refine And.intro ?_ ?_)
    ·rw[wtP_app];show wtP S' w'<_+(3*_+1+0);omega
  ·obtain⟨Sb,lb,pb,i',w,hb⟩:=x
   dsimp only at d ex ⊢
   obtain rfl:i=i':=by omega
   have d:w=[]:=List.eq_nil_of_length_eq_zero (by have:=of_decide_eq_false d;omega)
   subst d
   rw[wrap_id (by omega) (by omega)]
   refine⟨⟨Sb,lb,pb,i+1,c,hb.done⟩,trivial,?_,Nat.sub_lt_sub_left c (Nat.lt_succ_self i)⟩
   (repeat' first|exact trivial|exact rfl|refine And.intro ?_ ?_)
 ·obtain⟨Sa,la,pa,i,hi,ha⟩:=x
  dsimp only at c
  have c:i=rs.length:=by have:=of_decide_eq_false c;omega
  rw[c,List.take_length] at ha
  exact h _ _ _ ha
theorem s_ext:SoundT C0 94 tExt:=by
 refine .ofW [0,1,2,3] Tryz.func94 (by decide) rfl fun args H K h hB=>?_
 unfold tExt at h
 split at h<;>try exact h.elim
 unfold exM at h
 split at h<;>try exact h.elim
 rename_i _ rd l pm fr nd ct us gn rl rs
 refine⟨_,?_,vc_ext l pm rs ⟨us,gn,rl,fr,nd,ct,rd⟩ K h.1 h.2.1 h.2.2.1 h.2.2.2.1 h.2.2.2.2.1 h.2.2.2.2.2⟩
 exact⟨frame C0.ok s_node _,trivial⟩
theorem NmR.of {S S':Arn}{rs l:List Int}{pm:List (Int × Int)}(h:ExtR S [] rs S' l pm):NmR S rs S' l:=⟨h.num,by rw[h.st];rfl⟩
theorem vc_nmb (S:Arn)(rs:List Int)(K:KT)(hb:NmB S rs)(h:∀ S' l pm,NmR S rs S' l->K (.one (.at (.ptr 8 0))) (chS S'++[.row false EC.u32 rs,.box [.slc 9,.slc 10],.row true EC.u32 l,.map .u32 .u64 pm]) [0]) :
  vc C0 aNmb Tryz.f93 [.at (.ptr 0 0),.at (.slc 7)] (chS S++[.row false EC.u32 rs]) (normK 8 (wideK [0] K)):=by
 refine Eq.mp (show (exW S/\S.reads<=3000000000000000000/\rs.length<=1000000/\allV rs/\NumK S [] []/\∀ S':Arn,∀ l':List Int,∀ pm':List (Int × Int),ExtR S [] rs S' l' pm'->K (.one (.at (.ptr 8 0))) [(.box [(.ptr 1 0),(.slc 2),(.slc 3),(.val (VW (S'.reads)))]),(.box [(.slc 4),(.slc 5),(.slc 6),(.val (VU (S'.fresh)))]),(.row true EC.node (S'.nodes)),(.row true EC.int (S'.counts)),(.row true EC.bool (S'.used)),(.row true EC.u32 (S'.gen)),(.row true EC.u32 (S'.rel)),(.row false EC.u32 (rs)),(.box [(.slc 9),(.slc 10)]),(.row true EC.u32 (l')),(Chunk.map IntKind.u32 IntKind.u64 (pm'))] [0])=_ by kernel_rfl) ?_
 obtain⟨h1,h2,h3,h4⟩:=hb
 exact⟨h1,h2,h3,h4,⟨List.nodup_nil,by simp,fun _=>rfl⟩,fun S' l pm e=>h S' l pm (.of e)⟩
theorem s_nmb:SoundT C0 93 tNmb:=by
 refine .ofW [0] Tryz.func93 (by decide) rfl fun args H K h hB=>?_
 unfold tNmb at h
 split at h<;>try exact h.elim
 unfold nbM arMr at h
 split at h<;>try exact h.elim
 split at h<;>try exact h.elim
 rename_i _ rd fr nd ct us gn rl _ rs
 refine⟨_,?_,vc_nmb ⟨us,gn,rl,fr,nd,ct,rd⟩ rs K h.1 h.2⟩
 exact⟨frame C0.ok s_ext _,trivial⟩
theorem vc_nds (S:Arn)(rs:List Int)(K:KT)(hb:NmB S rs)(h:∀ S' l,NmR S rs S' l->K (.one (.at (.slc 8))) (chS S'++[.row false EC.u32 rs,.row true EC.u32 l]) [0]) :
  vc C0 aNds Tryz.f84 [.at (.ptr 0 0),.at (.slc 7)] (chS S++[.row false EC.u32 rs]) (normK 8 (wideK [0] K)):=by
 refine Eq.mp (show (NmB S rs/\∀ S':Arn,∀ l:List Int,∀ pm:List (Int × Int),NmR S rs S' l->K (.one (.at (.slc 8))) [(.box [(.ptr 1 0),(.slc 2),(.slc 3),(.val (VW (S'.reads)))]),(.box [(.slc 4),(.slc 5),(.slc 6),(.val (VU (S'.fresh)))]),(.row true EC.node (S'.nodes)),(.row true EC.int (S'.counts)),(.row true EC.bool (S'.used)),(.row true EC.u32 (S'.gen)),(.row true EC.u32 (S'.rel)),(.row false EC.u32 (rs)),(.row true EC.u32 (l))] [0])=_ by kernel_rfl) ?_
 exact⟨hb,fun S' l pm e=>h S' l e⟩
theorem s_nds:SoundT C0 84 tNds:=by
 refine .ofW [0] Tryz.func84 (by decide) rfl fun args H K h hB=>?_
 unfold tNds at h
 split at h<;>try exact h.elim
 unfold nbM arMr at h
 split at h<;>try exact h.elim
 split at h<;>try exact h.elim
 rename_i _ rd fr nd ct us gn rl _ rs
 refine⟨_,?_,vc_nds ⟨us,gn,rl,fr,nd,ct,rd⟩ rs K h.1 h.2⟩
 exact⟨frame C0.ok s_nmb _,trivial⟩
end Go.Proofs.YtedfbafngmicpaaGreat.Sx
end
section
/- packwork: Write, Digest. -/
namespace Go.Proofs.YtedfbafngmicpaaGreat.Sx
open Go

/-KEEP Wf exW inU allV live rdS NumsA NumA ExtR NmB NmR NumK vE vsE frE kB kyA zz wB crc encN hdE pkE rcE magB allB allQ uvA plcN getB DgR WrR NmK-/
def rngI (x:Int):Prop:=-9223372036854775808<=x/\x<=9223372036854775807
def InA (S:Arn)(l:List Int):Prop:=∀ i∈l,rngI (S.nd i).key/\rngI (S.nd i).value
def KyN (S:Arn)(rs:List Int):Prop:=∀ l,NumsA S rs [] l->InA S l
def magB:List Int:=[86,77,80,49]
def encN (x:PNT):List Int:=vsE (kB x.key) [zz x.value,x.left,x.right]
def hdE (k m r D:Int):List Int:=vsE [] [k,m,r]++wB 4 D
def pkE (k D:Int)(nodes:List PNT)(rts:List Int):List Int:=rcE (nodes.foldl (fun o x=>rcE o (encN x)) (rcE magB (hdE k nodes.length rts.length D))) (vsE [] rts)
def nodP (S:Arn)(la:List Int)(i:Int):PNT:=⟨(S.nd i).key,(S.nd i).value,plcN la (lfA S i),plcN la (rgA S i)⟩
def pkS (S:Arn)(lk la rs:List Int)(D:Int):List Int:=pkE lk.length D ((la.drop lk.length).map (nodP S la)) (rs.map (plcN la))
def DgR (S:Arn)(rs:List Int)(D:Int):Prop:=(rs=[]/\D=0)∨(rs≠[]/\∃ l,NumsA S rs [] l/\D=crc (pkS S [] l rs 0))
structure WrR (S:Arn) (rs ks:List Int) (n:Nat) (S':Arn) (o:List Int):Prop where
 ex:∃ lk la D,NumsA S ks [] lk/\NumsA S rs lk la/\DgR S ks D/\o=pkS S lk la rs D
 st:∃ m,S'=rdS S m/\m<=n
 ab:allB o/\o.length<=8000000
structure NmK (S:Arn) (rs:List Int) (S':Arn) (l:List Int) (pm:List (Int × Int)):Prop where
 num:NumsA S rs [] l
 st:S'=rdS S l.length
 map:∀ j,lookM pm j=plcN l j
def tNmk:Tfm C0:=fun args H K=>match args with
 | [.at (.ptr 0 0),.at (.slc 7)]=>nbM H fun S rs=>NmB S rs/\∀ S' l pm,NmK S rs S' l pm->K (.one (.at (.ptr 8 0))) (chS S'++[.row false EC.u32 rs,.box [.slc 9,.slc 10],.row true EC.u32 l,.map .u32 .u64 pm]) [0]
 | _=>False
def tDgq (Q:Arn->List Int->Prop)(R:Arn->List Int->Arn->Int->Prop):Tfm C0:=fun args H K=>match args with
 | [.at (.ptr 0 0),.at (.slc 7)]=>nbM H fun S rs=>Q S rs/\∀ S' D,R S rs S' D->K (.one (.at (vU D))) (chS S'++[.row false EC.u32 rs]) [0]
 | _=>False
structure XWa (P:Arn->List Int->List (Int × Int)->List Int->Nat->Prop) where
 S:Arn
 l:List Int
 pm:List (Int × Int)
 o:List Int
 k:Nat
 h:P S l pm o k
structure XWb (P:Arn->List Int->List (Int × Int)->List Int->Nat->Nat->Prop) where
 S:Arn
 l:List Int
 pm:List (Int × Int)
 o:List Int
 k:Nat
 i:Nat
 h:P S l pm o k i
structure XWc (P:Arn->List Int->List (Int × Int)->List Int->List Int->Nat->Prop) where
 S:Arn
 l:List Int
 pm:List (Int × Int)
 o:List Int
 z:List Int
 i:Nat
 h:P S l pm o z i
abbrev hfW (rs ks:List Int)(S:Arn)(l:List Int)(own:Bool)(pm:List (Int × Int)):List (Chunk C0):=chS S++[.row false EC.u32 rs,.row false EC.u32 ks,.box [.slc 10,.slc 11],.row own EC.u32 l,.map .u32 .u64 pm]
noncomputable def aWr (Q:Arn->List Int->Prop)(R:Arn->List Int->Arn->Int->Prop)(P0 P3:Arn->List Int->List (Int × Int)->List Int->Nat->Prop)(P1:Arn->List Int->List (Int × Int)->List Int->Nat->Nat->Prop)(P2:Arn->List Int->List (Int × Int)->List Int->List Int->Nat->Prop)(rs ks:List Int):Ann C0:={ quiet:=[9999999,98],Γ:=[(93,frameT [] tNmk),(94,frameT [] tExt),(95,frameT [true] tVs),(82,frameT [] (tDgq Q R)),(96,frameT [true] tRc),(86,frameT [] tNode),(97,frameT [] tKe),(98,frameT [] tZz)],inv:=fun n=>match n with
 | 1007=>some { X:=XWa P0,sl:=[7,8,11],tf:=fun x=>[.one (.at (.ptr 9 0)),vi .i64 x.k,.one (.at (.slc 12))],hf:=fun x=>hfW rs ks x.S x.l true x.pm++[.row true EC.u8 x.o],wr:=[0] }
 | 8=>some { X:=XWb P1,sl:=[7,11,72,73,74],tf:=fun x=>[.one (.at (.ptr 9 0)),.one (.at (.slc 12)),.one (.at (.slc 13)),vi .i64 ((x.l.drop x.k).length:Int),vi .i64 x.i],hf:=fun x=>hfW rs ks x.S x.l false x.pm++[.row true EC.u8 x.o,.row false EC.u32 (x.l.drop x.k)],μ:=fun x=>(x.l.drop x.k).length-x.i,wr:=[0] }
 | 1014=>some { X:=XWa P3,sl:=[7,11],tf:=fun _=>[.one (.at (.ptr 9 0)),.one (.at (.slc 12))],hf:=fun x=>hfW rs ks x.S x.l false x.pm++[.row true EC.u8 x.o],wr:=[0] }
 | 16=>some { X:=XWc P2,sl:=[7,11,17,112],tf:=fun x=>[.one (.at (.ptr 9 0)),.one (.at (.slc 12)),.one (.at (.slc 13)),vi .i64 x.i],hf:=fun x=>hfW rs ks x.S x.l false x.pm++[.row true EC.u8 x.o,.row true EC.u8 x.z],μ:=fun x=>rs.length-x.i,wr:=[0] }
 | _=>none }
abbrev wrM (H:List (Chunk C0))(k:Arn->List Int->List Int->Prop):Prop:=arMr H fun S rest=>match rest with
 | [.row false .u32 rs,.row false .u32 ks]=>k S rs ks
 | _=>False
def WrB (S:Arn)(rs ks:List Int):Prop:=exW S/\S.reads<=2000000000000000000/\rs.length<=90000/\ks.length<=90000/\allV rs/\allV ks/\KyN S (ks++rs)
theorem vc_nmk (S:Arn)(rs:List Int)(K:KT)(hb:NmB S rs)(h:∀ S' l pm,NmK S rs S' l pm->K (.one (.at (.ptr 8 0))) (chS S'++[.row false EC.u32 rs,.box [.slc 9,.slc 10],.row true EC.u32 l,.map .u32 .u64 pm]) [0]) :
  vc C0 aNmb Tryz.f93 [.at (.ptr 0 0),.at (.slc 7)] (chS S++[.row false EC.u32 rs]) (normK 8 (wideK [0] K)):=by
 refine Eq.mp (show (exW S/\S.reads<=3000000000000000000/\rs.length<=1000000/\allV rs/\NumK S [] []/\∀ S':Arn,∀ l':List Int,∀ pm':List (Int × Int),ExtR S [] rs S' l' pm'->K (.one (.at (.ptr 8 0))) [(.box [(.ptr 1 0),(.slc 2),(.slc 3),(.val (VW (S'.reads)))]),(.box [(.slc 4),(.slc 5),(.slc 6),(.val (VU (S'.fresh)))]),(.row true EC.node (S'.nodes)),(.row true EC.int (S'.counts)),(.row true EC.bool (S'.used)),(.row true EC.u32 (S'.gen)),(.row true EC.u32 (S'.rel)),(.row false EC.u32 (rs)),(.box [(.slc 9),(.slc 10)]),(.row true EC.u32 (l')),(Chunk.map IntKind.u32 IntKind.u64 (pm'))] [0])=_ by kernel_rfl) ?_
 obtain⟨h1,h2,h3,h4⟩:=hb
 exact⟨h1,h2,h3,h4,⟨List.nodup_nil,by simp,fun _=>rfl⟩,fun S' l pm e=>h S' l pm ⟨e.num,by rw[e.st];rfl,e.map⟩⟩
theorem s_nmk:SoundT C0 93 tNmk:=by
 refine .ofW [0] Tryz.func93 (by decide) rfl fun args H K h hB=>?_
 unfold tNmk at h
 split at h<;>try exact h.elim
 unfold nbM arMr at h
 split at h<;>try exact h.elim
 split at h<;>try exact h.elim
 rename_i _ rd fr nd ct us gn rl _ rs
 refine⟨_,?_,vc_nmk ⟨us,gn,rl,fr,nd,ct,rd⟩ rs K h.1 h.2⟩
 exact⟨frame C0.ok s_ext _,trivial⟩
theorem encN_len (x:PNT):(encN x).length<=41:=by
 have:=vsE_len [zz x.value,x.left,x.right]
 unfold encN vsE kB
 rw[List.length_append,wB_len]
 simp only[List.length_cons,List.length_nil] at this
 omega
theorem rcE_len (o p:List Int):(rcE o p).length<=o.length+p.length+15:=by
 have:=frE_len p
 unfold rcE
 rw[List.length_append];omega
theorem foldE_len:∀ (xs:List PNT) (o:List Int),(xs.foldl (fun o x=>rcE o (encN x)) o).length<=o.length+56*xs.length
 | [],o=>by show o.length<=_;omega
 | x::xs,o=>by
  have h1:=foldE_len xs (rcE o (encN x))
  have h2:=rcE_len o (encN x)
  have h3:=encN_len x
  rw[List.foldl_cons,List.length_cons];omega
theorem vsE_allB {b l:List Int}(hb:allB b)(hl:allQ l):allB (vsE b l):=by
 refine allB_app hb fun c hc=>?_
 obtain⟨u,hu,hc⟩:=List.mem_flatMap.1 hc
 have:=hl u hu
 exact allB_vE this.1 this.2 c hc
theorem allB_nil:allB []:=fun c hc=>by simp at hc
def okP (x:PNT):Prop:=rngI x.key/\rngI x.value/\(0<=x.left/\x.left<18446744073709551616)/\0<=x.right/\x.right<18446744073709551616
theorem okP.us {x:PNT}(h:okP x):allQ [zz x.value,x.left,x.right]:=by
 intro u hu
 have z:=zz_rng h.2.1.1 h.2.1.2
 simp only[List.mem_cons,List.not_mem_nil,or_false] at hu
 rcases hu with rfl|rfl|rfl
 ·omega
 ·exact h.2.2.1
 ·exact h.2.2.2
theorem encN_allB {x:PNT}(h:okP x):allB (encN x):=vsE_allB (allB_wB _ _) h.us
theorem hdE_len (k m r D:Int):(hdE k m r D).length<=37:=by
 have:=vsE_len [k,m,r]
 unfold hdE vsE
 rw[List.length_append,List.length_append,wB_len]
 simp only[List.length_cons,List.length_nil] at this ⊢
 omega
theorem hdE_allB {k m r D:Int}(h:allQ [k,m,r]):allB (hdE k m r D):=allB_app (vsE_allB allB_nil h) (allB_wB _ _)
theorem vsE_snoc (l:List Int)(u:Int):vsE (vsE [] l) [u]=vsE [] (l++[u]):=by
 unfold vsE
 rw[List.flatMap_append,List.append_assoc]
def headS (k m r D:Int):List Int:=rcE magB (hdE k m r D)
def wo (S:Arn)(l:List Int)(D:Int)(k nr i:Nat):List Int:=(((l.drop k).take i).map (nodP S l)).foldl (fun o x=>rcE o (encN x)) (headS k ((l.drop k).length:Nat) nr D)
theorem headS_len (k m r D:Int):(headS k m r D).length<=56:=by
 have h1:=rcE_len magB (hdE k m r D)
 have h2:=hdE_len k m r D
 have h3:magB.length=4:=rfl
 unfold headS;omega
theorem wo_len (S:Arn)(l:List Int)(D:Int)(k nr i:Nat):(wo S l D k nr i).length<=56+56*l.length:=by
 have h1:=foldE_len (((l.drop k).take i).map (nodP S l)) (headS k ((l.drop k).length:Nat) nr D)
 have h2:=headS_len k ((l.drop k).length:Nat) nr D
 have h3:(((l.drop k).take i).map (nodP S l)).length<=l.length:=by rw[List.length_map,List.length_take,List.length_drop];omega
 unfold wo;omega
theorem wo_go (S:Arn){l:List Int}(D:Int){k nr i:Nat}(h:i<(l.drop k).length):wo S l D k nr (i+1)=rcE (wo S l D k nr i) (encN (nodP S l (getB (l.drop k) i))):=by
 unfold wo
 rw[take_getB h,List.map_append,List.foldl_append];rfl
theorem nodP_ok {S:Arn}{l:List Int}(hk:InA S l)(hl:l.length<=65536){i:Int}(hi:i∈l):okP (nodP S l i):=by
 have a:=plcN_rng l (lfA S i)
 have b:=plcN_rng l (rgA S i)
 exact⟨(hk i hi).1,(hk i hi).2,⟨a.1,by show plcN l (lfA S i)<_;omega⟩,b.1,by show plcN l (rgA S i)<_;omega⟩
theorem frE_allB' {p:List Int}(h:allB p)(hl:p.length<=1048576){o:List Int}(ho:allB o):allB (rcE o p):=allB_app ho (frE_allB h hl)
theorem foldE_allB:∀ (xs:List PNT) (o:List Int),allB o->(∀ x∈xs,okP x)->allB (xs.foldl (fun o x=>rcE o (encN x)) o)
 | [],o,ho,_=>ho
 | x::xs,o,ho,hx=>by
  have l2:=encN_len x
  exact foldE_allB xs _ (frE_allB' (encN_allB (hx x List.mem_cons_self)) (by omega) ho) fun y hy=>hx y (List.mem_cons_of_mem _ hy)
theorem magB_allB:allB magB:=by unfold allB magB;decide
theorem headS_allB {k m r:Nat}(D:Int)(hk:k<=1000000)(hm:m<=1000000)(hr:r<=1000000):allB (headS k m r D):=by
 have:=hdE_len k m r D
 refine frE_allB' (hdE_allB fun u hu=>?_) (by omega) magB_allB
 simp only[List.mem_cons,List.not_mem_nil,or_false] at hu
 rcases hu with rfl|rfl|rfl<;>omega
theorem wo_allB {S:Arn}{l:List Int}{D:Int}{k nr i:Nat}(hk:InA S l)(hl:l.length<=65536)(h1:k<=1000000)(h2:nr<=1000000):allB (wo S l D k nr i):=by
 refine foldE_allB _ _ (headS_allB D h1 (by rw[List.length_drop];omega) h2) fun x hx=>?_
 obtain⟨j,hj,rfl⟩:=List.mem_map.1 hx
 exact nodP_ok hk hl (List.mem_of_mem_drop (List.mem_of_mem_take hj))
structure WrF (S0:Arn) (rs ks lk la:List Int) (D:Int):Prop where
 nk:NumsA S0 ks [] lk
 na:NumsA S0 rs lk la
 dg:DgR S0 ks D
 kin:InA S0 la
 len:la.length<=65536
 us:∀ j∈la,S0.us j=true
 le:lk.length<=la.length
def PW0 (S0:Arn)(rs ks:List Int)(n:Nat):Arn->List Int->List (Int × Int)->List Int->Nat->Prop:=fun S l pm o k=>∃ lk D m,WrF S0 rs ks lk l D/\k=lk.length/\S=rdS S0 m/\m<=n/\(∀ j,lookM pm j=plcN l j)/\o=wo S0 l D k rs.length 0
def PW1 (S0:Arn)(rs ks:List Int)(n:Nat):Arn->List Int->List (Int × Int)->List Int->Nat->Nat->Prop:=fun S l pm o k i=>∃ lk D m,WrF S0 rs ks lk l D/\k=lk.length/\S=rdS S0 m/\m<=n+i/\(∀ j,lookM pm j=plcN l j)/\i<=(l.drop k).length/\o=wo S0 l D k rs.length i
def PW3 (S0:Arn)(rs ks:List Int)(n:Nat):Arn->List Int->List (Int × Int)->List Int->Nat->Prop:=fun S l pm o _=>∃ lk D m,WrF S0 rs ks lk l D/\S=rdS S0 m/\m<=n+65536/\(∀ j,lookM pm j=plcN l j)/\o=wo S0 l D lk.length rs.length (l.drop lk.length).length
def PW2 (S0:Arn)(rs ks:List Int)(n:Nat):Arn->List Int->List (Int × Int)->List Int->List Int->Nat->Prop:=fun S l pm o z i=>i<=rs.length/\PW3 S0 rs ks n S l pm o 0/\z=vsE [] ((rs.take i).map (plcN l))
theorem KyN.sub {S:Arn}{ks rs:List Int}(h:KyN S (ks++rs)){lk la:List Int}(nk:NumsA S ks [] lk)(na:NumsA S rs lk la):InA S la:=h la (nk.app na)
theorem KyN.left {S:Arn}{hs ks rs:List Int}(hw:Wf S hs)(h:KyN S (ks++rs)):KyN S ks:=fun l nl=>by
 obtain⟨la,na⟩:=numsA_ex hw rs l
 intro i hi
 exact h la (nl.app na) i (na.sub hi)
theorem vc_wr (Q:Arn->List Int->Prop)(R:Arn->List Int->Arn->Int->Prop)(nD:Nat)(S:Arn)(rs ks:List Int)(K:KT)(hb:WrB S rs ks)(hD:nD<=1000000)(hQ:∀ m,m<=200000->Q (rdS S m) ks)(hR:∀ m S' D,R (rdS S m) ks S' D->DgR S ks D/\0<=D/\D<4294967296/\∃ n,S'=rdS S (m+n)/\n<=nD)(h:∀ S' o,WrR S rs ks (nD+200000) S' o->K (.one (.at (.slc 9))) (chS S'++[.row false EC.u32 rs,.row false EC.u32 ks,.row true EC.u8 o]) [0]) :
  vc C0 (aWr Q R (PW0 S rs ks (nD+65536)) (PW3 S rs ks (nD+65536)) (PW1 S rs ks (nD+65536)) (PW2 S rs ks (nD+65536)) rs ks) Tryz.f47 [.at (.ptr 0 0),.at (.slc 7),.at (.slc 8)] (chS S++[.row false EC.u32 rs,.row false EC.u32 ks]) (normK 9 (wideK [0] K)):=by
 generalize hP0:PW0 S rs ks (nD+65536)=P0
 generalize hP1:PW1 S rs ks (nD+65536)=P1
 generalize hP2:PW2 S rs ks (nD+65536)=P2
 generalize hP3:PW3 S rs ks (nD+65536)=P3
 refine Eq.mp (show (NmB S ks/\∀ S':Arn,∀ l:List Int,∀ pm:List (Int × Int),NmK S ks S' l pm->exW S'/\S'.reads<=3000000000000000000/\rs.length<=1000000/\allV rs/\NumK S' l pm/\∀ S'1:Arn,∀ l':List Int,∀ pm':List (Int × Int),ExtR S' l rs S'1 l' pm'->allQ [IntKind.u64.wrap (l.length:Int),IntKind.u64.wrap (IntKind.i64.wrap ((l'.length:Int)-(l.length:Int))),IntKind.u64.wrap (rs.length:Int)]/\[IntKind.u64.wrap (l.length:Int),IntKind.u64.wrap (IntKind.i64.wrap ((l'.length:Int)-(l.length:Int))),IntKind.u64.wrap (rs.length:Int)].length<=1000000/\([]:List Ent).length<=1000000000/\∀ o:List Int,o=(vsE [] [IntKind.u64.wrap (l.length:Int),IntKind.u64.wrap (IntKind.i64.wrap ((l'.length:Int)-(l.length:Int))),IntKind.u64.wrap (rs.length:Int)])->Q (S'1) (ks)/\∀ S'2:Arn,∀ D:Int,R (S'1) (ks) (S'2) (D)->(0<[86,77,80,49].length/\(o.length+[IntKind.u8.wrap (D.fdiv (2 ^ min (Int.toNat 24) IntKind.u32.bits)),IntKind.u8.wrap (D.fdiv (2 ^ min (Int.toNat 16) IntKind.u32.bits)),IntKind.u8.wrap (D.fdiv (2 ^ min (Int.toNat 8) IntKind.u32.bits)),IntKind.u8.wrap D].length)*bytesOf C0 EC.u8<=140737488355328/\allB (o++[IntKind.u8.wrap (D.fdiv (2 ^ min (Int.toNat 24) IntKind.u32.bits)),IntKind.u8.wrap (D.fdiv (2 ^ min (Int.toNat 16) IntKind.u32.bits)),IntKind.u8.wrap (D.fdiv (2 ^ min (Int.toNat 8) IntKind.u32.bits)),IntKind.u8.wrap D])/\(o++[IntKind.u8.wrap (D.fdiv (2 ^ min (Int.toNat 24) IntKind.u32.bits)),IntKind.u8.wrap (D.fdiv (2 ^ min (Int.toNat 16) IntKind.u32.bits)),IntKind.u8.wrap (D.fdiv (2 ^ min (Int.toNat 8) IntKind.u32.bits)),IntKind.u8.wrap D]).length<=1048576/\
 [86,77,80,49].length<=1000000000/\∀ o1:List Int,o1=(rcE [86,77,80,49] (o++[IntKind.u8.wrap (D.fdiv (2 ^ min (Int.toNat 24) IntKind.u32.bits)),IntKind.u8.wrap (D.fdiv (2 ^ min (Int.toNat 16) IntKind.u32.bits)),IntKind.u8.wrap (D.fdiv (2 ^ min (Int.toNat 8) IntKind.u32.bits)),IntKind.u8.wrap D]))->∃ x:XWa P0,True/\(True/\True/\True/\VI (l.length:Int)=VI (x.k:Int)/\True/\True)/\(True/\True/\True/\VW (S'2.reads)=VW (x.S.reads)/\True)/\(True/\True/\True/\VU (S'2.fresh)=VU (x.S.fresh)/\True)/\S'2.nodes=x.S.nodes/\S'2.counts=x.S.counts/\S'2.used=x.S.used/\S'2.gen=x.S.gen/\S'2.rel=x.S.rel/\rs=rs/\ks=ks/\(True/\True/\True)/\l'=x.l/\pm'=x.pm/\o1=x.o/\True)/\∀ x:XWa P0,True->(0<=(x.k:Int)/\(x.k:Int)<=(x.l.length:Int)/\(x.l.length:Int)<=(x.l.length:Int)/\(∃ x1:XWb P1,True/\(True/\True/\True/\True/\True/\(VI ((↑(List.drop (x.k:Int).toNat (List.take (x.l.length:Int).toNat x.l)).length:Int)))=(VI ((↑(List.drop x1.k x1.l).length:Int)))/\VI 0=(VI (x1.i:Int))/\True)/\(True/\True/\True/\VW (x.S.reads)=VW (x1.S.reads)/\True)/\(True/\True/\True/\VU (x.S.fresh)=VU (x1.S.fresh)/\True)/\x.S.nodes=x1.S.nodes/\x.S.counts=x1.S.counts/\x.S.used=x1.S.used/\x.S.gen=x1.S.gen/\x.S.rel=x1.S.rel/\rs=rs/\ks=ks/\(True/\True/\True)/\x.l=x1.l/\x.pm=x1.pm/\x.o=x1.o/\(List.drop (x.k:Int).toNat (List.take (x.l.length:Int).toNat x.l))=List.drop x1.k x1.l/\True)/\∀ x1:XWb P1,True->brS (decide ((x1.i:Int)<(↑(List.drop x1.k x1.l).length:Int))) (0<=(x1.i:Int)/\(x1.i:Int)<(↑(List.drop x1.k x1.l).length:Int)/\inU (getB (List.drop x1.k x1.l) (x1.i:Int).toNat)/\
 exW x1.S/\x1.S.reads<4000000000000000000/\∀ S'3:Arn,S'3=(rdS x1.S (x1.S.us (getB (List.drop x1.k x1.l) (x1.i:Int).toNat)).toNat)->-9223372036854775808<=(x1.S.nd (getB (List.drop x1.k x1.l) (x1.i:Int).toNat)).key/\(x1.S.nd (getB (List.drop x1.k x1.l) (x1.i:Int).toNat)).key<=9223372036854775807/\([]:List Ent).length<=1000000000/\∀ o1:List Int,o1=(kyA [] (x1.S.nd (getB (List.drop x1.k x1.l) (x1.i:Int).toNat)).key)->-9223372036854775808<=(x1.S.nd (getB (List.drop x1.k x1.l) (x1.i:Int).toNat)).value/\(x1.S.nd (getB (List.drop x1.k x1.l) (x1.i:Int).toNat)).value<=9223372036854775807/\∀ u:Int,u=(zz (x1.S.nd (getB (List.drop x1.k x1.l) (x1.i:Int).toNat)).value)->allQ [u,lookM x1.pm (x1.S.nd (getB (List.drop x1.k x1.l) (x1.i:Int).toNat)).left,lookM x1.pm (x1.S.nd (getB (List.drop x1.k x1.l) (x1.i:Int).toNat)).right]/\[u,lookM x1.pm (x1.S.nd (getB (List.drop x1.k x1.l) (x1.i:Int).toNat)).left,lookM x1.pm (x1.S.nd (getB (List.drop x1.k x1.l) (x1.i:Int).toNat)).right].length<=1000000/\o1.length<=1000000000/\∀ o2:List Int,o2=(vsE o1 [u,lookM x1.pm (x1.S.nd (getB (List.drop x1.k x1.l) (x1.i:Int).toNat)).left,lookM x1.pm (x1.S.nd (getB (List.drop x1.k x1.l) (x1.i:Int).toNat)).right])->allB o2/\o2.length<=1048576/\x1.o.length<=1000000000/\∀ o3:List Int,o3=rcE x1.o o2->∃ x':XWb P1,True/\((True/\True/\True/\True/\True/\(VI ((↑(List.drop x1.k x1.l).length:Int)))=(VI ((↑(List.drop x'.k x'.l).length:Int)))/\(VI (IntKind.i64.wrap ((x1.i:Int)+1)))=(VI (x'.i:Int))/\True)/\(True/\True/\True/\VW (S'3.reads)=VW (x'.S.reads)/\
 True)/\(True/\True/\True/\VU (S'3.fresh)=VU (x'.S.fresh)/\True)/\S'3.nodes=x'.S.nodes/\S'3.counts=x'.S.counts/\S'3.used=x'.S.used/\S'3.gen=x'.S.gen/\S'3.rel=x'.S.rel/\rs=rs/\ks=ks/\(True/\True/\True)/\x1.l=x'.l/\x1.pm=x'.pm/\o3=x'.o/\List.drop x1.k x1.l=List.drop x'.k x'.l/\True)/\(List.drop x'.k x'.l).length-x'.i<(List.drop x1.k x1.l).length-x1.i) (∃ x2:XWa P3,True/\(True/\True/\True/\True)/\(True/\True/\True/\VW (x1.S.reads)=VW (x2.S.reads)/\True)/\(True/\True/\True/\VU (x1.S.fresh)=VU (x2.S.fresh)/\True)/\x1.S.nodes=x2.S.nodes/\x1.S.counts=x2.S.counts/\x1.S.used=x2.S.used/\x1.S.gen=x2.S.gen/\x1.S.rel=x2.S.rel/\rs=rs/\ks=ks/\(True/\True/\True)/\x1.l=x2.l/\x1.pm=x2.pm/\x1.o=x2.o/\True))/\∀ x1:XWa P3,True->(∃ x2:XWc P2,True/\(True/\True/\True/\True/\VI (rs.length:Int)=VI (rs.length:Int)/\VI 0=(VI (x2.i:Int))/\True)/\(True/\True/\True/\VW (x1.S.reads)=VW (x2.S.reads)/\True)/\(True/\True/\True/\VU (x1.S.fresh)=VU (x2.S.fresh)/\True)/\x1.S.nodes=x2.S.nodes/\x1.S.counts=x2.S.counts/\x1.S.used=x2.S.used/\x1.S.gen=x2.S.gen/\x1.S.rel=x2.S.rel/\rs=rs/\ks=ks/\(True/\True/\True)/\x1.l=x2.l/\x1.pm=x2.pm/\x1.o=x2.o/\[]=x2.z/\True)/\∀ x2:XWc P2,True->brS (decide ((x2.i:Int)<(rs.length:Int))) (0<=(x2.i:Int)/\(x2.i:Int)<(rs.length:Int)/\allQ [lookM x2.pm (getB rs (x2.i:Int).toNat)]/\[lookM x2.pm (getB rs (x2.i:Int).toNat)].length<=1000000/\x2.z.length<=1000000000/\∀ o1:List Int,o1=(vsE x2.z [lookM x2.pm (getB rs (x2.i:Int).toNat)])->∃ x':XWc P2,True/\((True/\True/\True/\True/\VI (rs.length:Int)=VI (rs.length:Int)/\
 (VI (IntKind.i64.wrap ((x2.i:Int)+1)))=(VI (x'.i:Int))/\True)/\(True/\True/\True/\VW (x2.S.reads)=VW (x'.S.reads)/\True)/\(True/\True/\True/\VU (x2.S.fresh)=VU (x'.S.fresh)/\True)/\x2.S.nodes=x'.S.nodes/\x2.S.counts=x'.S.counts/\x2.S.used=x'.S.used/\x2.S.gen=x'.S.gen/\x2.S.rel=x'.S.rel/\rs=rs/\ks=ks/\(True/\True/\True)/\x2.l=x'.l/\x2.pm=x'.pm/\x2.o=x'.o/\o1=x'.z/\True)/\rs.length-x'.i<rs.length-x2.i) (allB x2.z/\x2.z.length<=1048576/\x2.o.length<=1000000000/\∀ o1:List Int,o1=rcE x2.o x2.z->K (.one (.at (.slc 9))) [(.box [(.ptr 1 0),(.slc 2),(.slc 3),(.val (VW (x2.S.reads)))]),(.box [(.slc 4),(.slc 5),(.slc 6),(.val (VU (x2.S.fresh)))]),(.row true EC.node (x2.S.nodes)),(.row true EC.int (x2.S.counts)),(.row true EC.bool (x2.S.used)),(.row true EC.u32 (x2.S.gen)),(.row true EC.u32 (x2.S.rel)),(.row false EC.u32 (rs)),(.row false EC.u32 (ks)),(.row true EC.u8 (o1))] [0]))=_ by kernel_rfl) ?_
 subst hP0 hP1 hP2 hP3
 obtain⟨⟨hs,hw⟩,hr,hrs,hks,vr,vk,ky⟩:=hb
 refine⟨⟨⟨hs,hw⟩,by omega,by omega,vk⟩,fun S1 lk pm1 nk=>?_⟩
 have ndk:=nk.num.nodup (szA_kids hw) List.nodup_nil
 have usk:=nk.num.used (by simp)
 have ukl:=used_few hw ndk usk
 have n2:=hw.n2
 have e1:=nk.st
 subst e1
 have hw1:Wf (rdS S lk.length) hs:=hw.rd (by omega)
 refine⟨⟨hs,hw1⟩,by show S.reads+(lk.length:Int)<=_;omega,by omega,vr,⟨ndk,usk,nk.map⟩,fun S2 la pm ex=>?_⟩
 have nn:NumsA S rs lk la:=ex.num
 have nda:=nn.nodup (szA_kids hw) ndk
 have usa:=nn.used usk
 have ual:=used_few hw nda usa
 have kin:=ky.sub nk.num nn
 obtain⟨yy,hyy⟩:=nn.pre
 have lle:lk.length<=la.length:=by rw[hyy,List.length_append];omega
 have e2:=ex.st
 rw[rdS_rdS,show lk.length+(la.length-lk.length)=la.length by omega] at e2
 subst e2
 have us3:allQ [IntKind.u64.wrap (lk.length:Int),IntKind.u64.wrap (IntKind.i64.wrap ((la.length:Int)-(lk.length:Int))),IntKind.u64.wrap (rs.length:Int)]/\[IntKind.u64.wrap (lk.length:Int),IntKind.u64.wrap (IntKind.i64.wrap ((la.length:Int)-(lk.length:Int))),IntKind.u64.wrap (rs.length:Int)]=[(lk.length:Int),((la.drop lk.length).length:Nat),(rs.length:Int)]:=by
  rw[wrap_id (x:=(la.length:Int)-(lk.length:Int)) (by omega) (by omega),wrap_u64 (x:=(lk.length:Int)) (by omega) (by omega),wrap_u64 (x:=(la.length:Int)-(lk.length:Int)) (by omega) (by omega),wrap_u64 (x:=(rs.length:Int)) (by omega) (by omega)]
  refine⟨fun u hu=>?_,?_⟩
  ·simp only[List.mem_cons,List.not_mem_nil,or_false] at hu
   rcases hu with rfl|rfl|rfl<;>omega
  ·rw[List.length_drop]
   congr 2
   omega
 obtain⟨us3,ue3⟩:=us3
 rw[ue3] at us3
 rw[ue3]
 refine⟨us3,by simp,by simp,fun o eo=>⟨hQ _ (by omega),fun S3 D hRD=>?_⟩⟩
 obtain⟨dg,D0,D1,n,e3,hn⟩:=hR _ _ _ hRD
 subst e3
 have ew:o++wB 4 D=hdE lk.length ((la.drop lk.length).length:Nat) rs.length D:=by rw[eo];rfl
 rw[w4_num D0,ew]
 have hl:=hdE_len lk.length ((la.drop lk.length).length:Nat) rs.length D
 have ol:o.length<=37:=by rw[← ew,List.length_append] at hl;omega
 refine⟨⟨by decide,by rw[wB_len,bytes_u8];omega,hdE_allB us3,by omega,by decide,fun o1 eo1=>⟨⟨_,la,pm,o1,lk.length,lk,D,la.length+n,⟨nk.num,nn,dg,kin,by omega,usa,lle⟩,rfl,rfl,by omega,ex.map,?_⟩,?_⟩⟩,fun x _=>?_⟩
 ·rw[eo1];rfl
 ·(repeat' first|exact trivial|exact rfl|refine And.intro ?_ ?_)
 obtain⟨S4,l,pm,o,k,lk,D,m,F,ek,es,hm,mp,eo⟩:=x
 dsimp only
 have ll:=F.len
 have lk':=F.le
 have tk:List.take (l.length:Int).toNat l=l:=by rw[Int.toNat_natCast];exact List.take_length
 rw[tk]
 refine⟨⟨by omega,by omega,by omega,⟨⟨S4,l,pm,o,k,0,lk,D,m,F,ek,es,hm,mp,Nat.zero_le _,eo⟩,?_⟩,fun x1 _=>brS_of (fun z=>?_) fun z=>?_⟩,fun x1 _=>?_⟩
 ·(repeat' first|exact trivial|exact rfl|refine And.intro ?_ ?_)
 ·obtain⟨S5,l,pm,o,k,i,lk,D,m,F,ek,es,hm,mp,hi,eo⟩:=x1
  dsimp only at z ⊢
  have zi:i<(l.drop k).length:=by have:=of_decide_eq_true z;omega
  clear z
  have ll:=F.len
  have il:i<=65536:=by rw[List.length_drop] at zi;omega
  rw[show ((i:Int)).toNat=i from rfl,wrap_id (x:=(i:Int)+1) (by omega) (by omega)]
  have jm:getB (l.drop k) i∈l:=List.mem_of_mem_drop (getB_mem zi)
  have eg:=wo_go S (nr:=rs.length) D zi
  generalize getB (l.drop k) i=j at *
  have uj:=F.us j jm
  have ok:=nodP_ok F.kin ll jm
  subst es
  have ol:=wo_len S l D k rs.length i
  rw[← eo] at ol
  refine⟨by omega,by omega,inU_of hw (.inr uj),⟨hs,hw.rd (by omega)⟩,by show S.reads+(m:Int)<_;omega,fun S6 es6=>?_⟩
  have es6:S6=rdS S (m+1):=by rw[es6];show rdS _ (S.us j).toNat=_;rw[uj,rdS_rdS];rfl
  subst es6
  have kj:=F.kin j jm
  rw[mp,mp]
  show -9223372036854775808<=(S.nd j).key/\(S.nd j).key<=9223372036854775807/\_
  refine⟨kj.1.1,kj.1.2,by simp,fun q1 eq1=>⟨kj.2.1,kj.2.2,fun u eu=>?_⟩⟩
  have eq1:q1=kB (S.nd j).key:=eq1.trans (List.nil_append _)
  have eu:u=zz (S.nd j).value:=eu
  rw[eq1,eu]
  refine⟨ok.us,by simp,by unfold kB;rw[wB_len];decide,fun q2 eq2=>?_⟩
  have eq2:q2=encN (nodP S l j):=eq2
  have l2:=encN_len (nodP S l j)
  rw[eq2]
  refine⟨encN_allB ok,by omega,by omega,fun q3 eq3=>⟨⟨rdS S (m+1),l,pm,q3,k,i+1,lk,D,m+1,F,ek,rfl,by omega,mp,zi,by rw[eq3,eo];exact eg.symm⟩,trivial,?_,Nat.sub_lt_sub_left zi (Nat.lt_succ_self i)⟩⟩
  (repeat' first|exact trivial|exact rfl|refine And.intro ?_ ?_)
 ·obtain⟨S5,l,pm,o,k,i,lk,D,m,F,ek,es,hm,mp,hi,eo⟩:=x1
  dsimp only at z ⊢
  have z:i=(l.drop k).length:=by have:=of_decide_eq_false z;omega
  have ll:=F.len
  have il:i<=65536:=by rw[z,List.length_drop];omega
  refine⟨⟨S5,l,pm,o,k,lk,D,m,F,es,by omega,mp,by rw[eo,z,ek]⟩,trivial,?_⟩
  (repeat' first|exact trivial|exact rfl|refine And.intro ?_ ?_)
 ·obtain⟨S5,l,pm,o,k,lk,D,m,F,es,hm,mp,eo⟩:=x1
  dsimp only
  refine⟨⟨⟨S5,l,pm,o,[],0,Nat.zero_le _,⟨lk,D,m,F,es,hm,mp,eo⟩,rfl⟩,?_⟩,fun x2 _=>brS_of (fun z=>?_) fun z=>?_⟩
  ·(repeat' first|exact trivial|exact rfl|refine And.intro ?_ ?_)
  ·obtain⟨S6,l,pm,o,zl,i,hi,⟨lk,D,m,F,es,hm,mp,eo⟩,ez⟩:=x2
   dsimp only at z ⊢
   have z:i<rs.length:=by have:=of_decide_eq_true z;omega
   rw[show ((i:Int)).toNat=i from rfl,wrap_id (x:=(i:Int)+1) (by omega) (by omega),mp]
   have zlen:zl.length<=11*rs.length:=by
    have:=vsE_len ((rs.take i).map (plcN l))
    rw[List.length_map,List.length_take] at this
    rw[ez]
    unfold vsE
    rw[List.nil_append];omega
   have pr:=plcN_rng l (getB rs i)
   have ll:=F.len
   refine⟨by omega,by omega,fun u hu=>?_,by simp,by omega,fun q1 eq1=>⟨⟨S6,l,pm,o,q1,i+1,z,⟨lk,D,m,F,es,hm,mp,eo⟩,?_⟩,trivial,?_,Nat.sub_lt_sub_left z (Nat.lt_succ_self i)⟩⟩
   ·rw[List.mem_singleton.1 hu];omega
   ·rw[eq1,ez,vsE_snoc,take_getB z,List.map_append];rfl
   ·(repeat' first|exact trivial|exact rfl|refine And.intro ?_ ?_)
  ·obtain⟨S6,l,pm,o,zl,i,hi,⟨lk,D,m,F,es,hm,mp,eo⟩,ez⟩:=x2
   dsimp only at z ⊢
   have z:i=rs.length:=by have:=of_decide_eq_false z;omega
   rw[z,List.take_length] at ez
   have ll:=F.len
   have zlen:zl.length<=11*rs.length:=by
    have:=vsE_len (rs.map (plcN l))
    rw[List.length_map] at this
    rw[ez]
    unfold vsE
    rw[List.nil_append];omega
   have ol:=wo_len S l D lk.length rs.length (l.drop lk.length).length
   rw[← eo] at ol
   refine⟨?_,by omega,by omega,fun q eq=>h _ _ ⟨⟨lk,l,D,F.nk,F.na,F.dg,?_⟩,⟨m,es,by omega⟩,?_⟩⟩
   ·rw[ez]
    refine vsE_allB allB_nil fun u hu=>?_
    obtain⟨r,_,rfl⟩:=List.mem_map.1 hu
    have pr:=plcN_rng l r
    omega
   ·rw[eq,eo,ez]
    unfold pkS pkE wo headS
    rw[List.take_length,List.length_map,List.length_map]
   ·have zb:allB zl:=by
     rw[ez]
     refine vsE_allB allB_nil fun u hu=>?_
     obtain⟨r,_,rfl⟩:=List.mem_map.1 hu
     have pr:=plcN_rng l r
     omega
    have:=rcE_len o zl
    refine⟨?_,by rw[eq];omega⟩
    rw[eq]
    refine frE_allB' zb (by omega) ?_
    rw[eo]
    exact wo_allB F.kin ll (by have:=F.le;omega) (by omega)
def tWrq (B:Arn->List Int->List Int->Prop)(n:Nat):Tfm C0:=fun args H K=>match args with
 | [.at (.ptr 0 0),.at (.slc 7),.at (.slc 8)]=>wrM H fun S rs ks=>B S rs ks/\∀ S' o,WrR S rs ks n S' o->K (.one (.at (.slc 9))) (chS S'++[.row false EC.u32 rs,.row false EC.u32 ks,.row true EC.u8 o]) [0]
 | _=>False
theorem s_wrq (Q:Arn->List Int->Prop)(R:Arn->List Int->Arn->Int->Prop)(nD:Nat)(hD:nD<=1000000)(sD:SoundT C0 82 (tDgq Q R))(B:Arn->List Int->List Int->Prop)(hQ:∀ S rs ks,B S rs ks->WrB S rs ks/\(∀ m,m<=200000->Q (rdS S m) ks)/\∀ m S' D,R (rdS S m) ks S' D->DgR S ks D/\0<=D/\D<4294967296/\∃ n,S'=rdS S (m+n)/\n<=nD) :
  SoundT C0 47 (tWrq B (nD+200000)):=by
 refine .ofW [0] Tryz.func47 (by decide) rfl fun args H K h hB=>?_
 unfold tWrq at h
 split at h<;>try exact h.elim
 unfold wrM arMr at h
 split at h<;>try exact h.elim
 split at h<;>try exact h.elim
 rename_i _ rd fr nd ct us gn rl _ rs ks
 obtain⟨h1,h2,h3⟩:=hQ _ _ _ h.1
 refine⟨_,?_,vc_wr Q R nD ⟨us,gn,rl,fr,nd,ct,rd⟩ rs ks K h1 hD h2 h3 h.2⟩
 exact⟨frame C0.ok s_nmk _,frame C0.ok s_ext _,frame C0.ok s_vs _,frame C0.ok sD _,frame C0.ok s_rc _,frame C0.ok s_node _,frame C0.ok s_ke _,frame C0.ok s_zz _,trivial⟩
end Go.Proofs.YtedfbafngmicpaaGreat.Sx
end
section
/- packwork: the parts of Read. -/
namespace Go.Proofs.YtedfbafngmicpaaGreat.Sx
open Go

/-KEEP allB allQ rvD ryD hdD ndQ tlG getB uz wD orI-/
def hdD (b:List Int):Option (Int × Int × Int × Int):=match rvD b 0 false with
 | (k,n1,f1)=>match rvD b n1 f1 with
  | (m,n2,f2)=>match rvD b n2 f2 with
   | (r,n3,f3)=>if f3=true∨(b.length:Int)-n3≠4∨65536<k∨65536<m∨4096<r then none else some (k,m,r,wD (b.drop n3.toNat))
def ndQ (own:Int)(b:List Int):Option PNT:=match ryD b 0 false with
 | (k,n1,f1)=>match rvD b n1 f1 with
  | (v,n2,f2)=>match rvD b n2 f2 with
   | (l,n3,f3)=>match rvD b n3 f3 with
    | (r,n4,f4)=>if f4=true∨n4≠(b.length:Int)∨own<=l∨own<=r then none else some ⟨k,uz v,l,r⟩
def tlG (top:Int)(b:List Int):Nat->Int->Option (List Int × Int)
 | 0,at_=>some ([],at_)
 | n+1,at_=>match rvD b at_ false with
  | (u,n1,f)=>if f=true∨top<u then none else (tlG top b n n1).map fun q=>(u::q.1,q.2)
def tlD (top:Int)(n:Nat)(b:List Int):Option (List Int):=match tlG top b n 0 with
 | some (l,at_)=>if at_=(b.length:Int) then some l else none
 | none=>none
abbrev chP (k D:Int)(ns:List PNT)(rs:List Int)(b:List Int):List (Chunk C0):=[.box [vU64 k,vU D,.slc 1,.slc 2],.row true EC.pn ns,.row true EC.u64 rs,.row false EC.u8 b]
abbrev pkM (H:List (Chunk C0))(k:Int->Int->List PNT->List Int->List Int->Prop):Prop:=match H with
 | [.box [.val (.int .u64 kn),.val (.int .u32 D),.slc 1,.slc 2],.row true .pn ns,.row true .u64 rs,.row false .u8 b]=>k kn D ns rs b
 | _=>False
structure XHd (P:Nat->Int->Prop) where
 i:Nat
 D:Int
 h:P i D
structure XHe (P:Int->Int->Int->Int->Prop) where
 k:Int
 m:Int
 r:Int
 n:Int
 h:P k m r n
noncomputable def aHd (P0:Int->Int->Int->Int->Prop)(P:Nat->Int->Prop)(k n:Int)(ns:List PNT)(rs b:List Int):Ann C0:={ Γ:=[(128,frameT [] tRv)],inv:=fun j=>match j with
 | 1006=>some { X:=XHe P0,sl:=[7,8,9],tf:=fun x=>[.one (.at (.ptr 4 0)),vi .u64 x.m,vi .u64 x.r],hf:=fun x=>chP x.k 0 ns rs b++[.box [.slc 3,vI x.n,vB false]],wr:=[0] }
 | 7=>some { X:=XHd P,sl:=[58,60],tf:=fun x=>[.one (.at (.slc 4)),vi .i64 x.i],hf:=fun x=>chP k x.D ns rs b++[.row false EC.u8 (b.drop n.toNat)],μ:=fun x=>4-x.i,wr:=[0] }
 | _=>none }
def tHd:Tfm C0:=fun args H K=>match args with
 | [.at (.ptr 0 0),.at (.slc 3)]=>pkM H fun _ D0 ns rs b=>D0=0/\allB b/\b.length<=1000000000/\(hdD b=none->∀ kk,K (.tup [.at (vU64 0),.at (vU64 0),.at (vB false)]) (chP kk 0 ns rs b) [0]) ∧
   ∀ k m r D,hdD b=some (k,m,r,D)->K (.tup [.at (vU64 m),.at (vU64 r),.at (vB true)]) (chP k D ns rs b) [0]
 | _=>False
noncomputable def aNo:Ann C0:={ quiet:=[9999999],Γ:=[(128,frameT [] tRv),(129,frameT [] tRy),(131,frameT [] tRd),(130,frameT [] tUz)] }
def tNo:Tfm C0:=fun args H K=>match args with
 | [.at (.ptr 0 0),.at (.slc 3)]=>pkM H fun k D ns rs b=>0<=k/\k<=65536/\ns.length<=65536/\allB b/\b.length<=1000000000/\(ndQ (k+ns.length+1) b=none->K (.one (.at (vB false))) (chP k D ns rs b) [0,1]) ∧
   ∀ x,ndQ (k+ns.length+1) b=some x->K (.one (.at (vB true))) (chP k D (ns++[x]) rs b) [0,1]
 | _=>False
structure XTl (P:Nat->List Int->Int->Prop) where
 i:Nat
 rs:List Int
 n:Int
 h:P i rs n
noncomputable def aTl (P:Nat->List Int->Int->Prop)(c:Nat)(k D:Int)(ns:List PNT)(b:List Int):Ann C0:={ quiet:=[9999999],Γ:=[(128,frameT [] tRv),(131,frameT [] tRd)],inv:=fun j=>match j with
 | 3=>some { X:=XTl P,sl:=[7,8],tf:=fun x=>[.one (.at (.ptr 4 0)),vi .u64 x.i],hf:=fun x=>chP k D ns x.rs b++[.box [.slc 3,vI x.n,vB false]],μ:=fun x=>c-x.i,wr:=[0,2] }
 | _=>none }
def tTl:Tfm C0:=fun args H K=>match args with
 | [.at (.ptr 0 0),.at (.slc 3),.at (.val (.int .u64 c))]=>pkM H fun k D ns rs b=>rs=[]/\0<=k/\k<=65536/\ns.length<=65536/\0<=c/\c<=1000000/\allB b/\b.length<=1000000000/\(tlD (k+ns.length) c.toNat b=none->∀ r,K (.one (.at (vB false))) (chP k D ns r b) [0,2]) ∧
   ∀ r,tlD (k+ns.length) c.toNat b=some r->K (.one (.at (vB true))) (chP k D ns r b) [0,2]
 | _=>False
theorem vD_lt:∀ (l:List Int) (i:Nat) (a u k:Int),allB l->i<=9->0<=a->a<128 ^ i->vD 12 13 i l a=(u,k,0)->u<18446744073709551616
 | [],_,_,_,_,_,_,_,_,h=>by simp[vD] at h
 | c::r,i,a,u,k,hb,hi,h0,h1,h=>by
  obtain⟨c0,c1⟩:=hb c List.mem_cons_self
  have pp:(1:Int)<=128 ^ i:=Int.pow_pos (by decide)
  have q9:(128:Int) ^ i*2<=18446744073709551616/\(i<=8->(128:Int) ^ i*256<=18446744073709551616):=by
   have:i=0∨i=1∨i=2∨i=3∨i=4∨i=5∨i=6∨i=7∨i=8∨i=9:=by omega
   rcases this with e|e|e|e|e|e|e|e|e|e<;>subst e<;>decide +kernel
  unfold vD at h
  split at h
  ·simp at h
  ·rename_i hc
   have w1:=Int.mul_le_mul_of_nonneg_right (a:=c % 128) (b:=127) (c:=128 ^ i) (by omega) (by omega)
   split at h
   ·rename_i c8
    simp only[Prod.mk.injEq] at h
    obtain⟨h1,h2,_⟩:=h
    by_cases i8:i<=8
    ·have:=q9.2 i8;omega
    ·obtain rfl:i=9:=by omega
     have c2:¬ 1<c:=fun q=>hc (.inl ⟨rfl,q⟩)
     have:=Int.mul_le_mul_of_nonneg_right (a:=c % 128) (b:=1) (c:=128 ^ 9) (by omega) (by omega)
     have:=q9.1
     omega
   ·rename_i c8
    refine vD_lt r (i+1) _ u k (fun x hx=>hb x (List.mem_cons_of_mem _ hx)) ?_ ?_ ?_ h
    ·apply Classical.byContradiction
     intro n
     obtain rfl:i=9:=by omega
     exact hc (.inl ⟨rfl,by omega⟩)
    ·have:=Int.mul_nonneg (a:=c % 128) (b:=128 ^ i) (by omega) (by omega)
     omega
    ·rw[Int.pow_succ];omega
theorem uvD_rng {b:List Int}{at_ u n e:Int}(hb:allB b)(h:uvD b at_=(u,n,e)):(0<=u/\u<18446744073709551616)/\(e=0->0<=at_/\at_+1<=n/\n<=b.length)/\(e≠0->u=0/\n=0)/\0<=n/\n<=b.length:=by
 by_cases c:at_<0∨(b.length:Int)<at_
 ·unfold uvD at h
  rw[if_pos c] at h
  simp only[Prod.mk.injEq] at h
  obtain⟨rfl,rfl,rfl⟩:=h
  exact⟨by decide,fun e=>absurd e (by decide),fun _=>⟨rfl,rfl⟩,Int.le_refl 0,by omega⟩
 ·obtain⟨v,k,e',hv⟩:∃ v k e',vD 12 13 0 (b.drop at_.toNat) 0=(v,k,e'):=⟨_,_,_,rfl⟩
  have ue:=uvD_eq (by omega) (by omega) hv
  rw[h] at ue
  by_cases q:e'=0
  ·rw[if_pos q] at ue
   simp only[Prod.mk.injEq] at ue
   obtain⟨rfl,rfl,rfl⟩:=ue
   rw[q] at hv
   have hr:=allB_drop hb at_.toNat
   have a:=vD_ok _ 0 0 _ k hr (Int.le_refl 0) hv
   have b':=vD_lt _ 0 0 _ k hr (by decide) (Int.le_refl 0) (by decide) hv
   rw[List.length_drop] at a
   exact⟨⟨a.1,b'⟩,fun _=>⟨by omega,by omega,by omega⟩,fun e=>absurd rfl e,by omega,by omega⟩
  ·rw[if_neg q] at ue
   simp only[Prod.mk.injEq] at ue
   obtain⟨rfl,rfl,rfl⟩:=ue
   exact⟨by decide,fun e=>absurd e q,fun _=>⟨rfl,rfl⟩,Int.le_refl 0,by omega⟩
theorem rvD_rng {b:List Int}{at_ u n:Int}{f g:Bool}(hb:allB b)(h:rvD b at_ g=(u,n,f)):(0<=u/\u<18446744073709551616)/\(f=false->g=false/\0<=at_/\at_+1<=n/\n<=b.length)/\(0<=at_->at_<=b.length->0<=n/\n<=b.length):=by
 unfold rvD at h
 cases g with
 | true =>
  simp only[if_true,Prod.mk.injEq] at h
  obtain⟨rfl,rfl,rfl⟩:=h
  exact⟨by decide,fun e=>(by cases e),fun a b=>⟨a,b⟩⟩
 | false =>
  obtain⟨u',n',e,he⟩:∃ u n e,uvD b at_=(u,n,e):=⟨_,_,_,rfl⟩
  rw[he] at h
  simp only[Bool.false_eq_true,if_false,Prod.mk.injEq] at h
  obtain⟨rfl,rfl,rfl⟩:=h
  have r:=uvD_rng hb he
  refine⟨r.1,fun e=>⟨rfl,r.2.1 (by simpa using e)⟩,fun _ _=>r.2.2.2⟩
theorem ryD_rng {b:List Int}{u n:Int}{f:Bool}(hb:allB b)(h:ryD b 0 false=(u,n,f)):rngI u/\0<=n/\n<=b.length:=by
 obtain⟨x,y,z,he⟩:∃ x y z,kyD b 0=(x,y,z):=⟨_,_,_,rfl⟩
 unfold ryD at h
 rw[he] at h
 simp only[Bool.false_eq_true,if_false,Prod.mk.injEq] at h
 obtain⟨rfl,rfl,rfl⟩:=h
 unfold kyD at he
 rw[if_neg (by omega)] at he
 split at he
 ·simp only[Prod.mk.injEq] at he
  obtain⟨rfl,rfl,rfl⟩:=he
  exact⟨by unfold rngI;decide,Int.le_refl 0,by omega⟩
 ·simp only[Prod.mk.injEq] at he
  obtain⟨rfl,rfl,rfl⟩:=he
  refine⟨?_,by omega,by omega⟩
  have w:∀ (l:List Int),allB l->0<=wD l/\wD l<256 ^ l.length:=by
   intro l
   have:∀ (l:List Int) (a:Int) (m:Nat),allB l->0<=a->a<256 ^ m->0<=l.foldl (fun a c=>256*a+c) a/\l.foldl (fun a c=>256*a+c) a<256 ^ (m+l.length):=by
    intro l
    induction l with
    | nil=>intro a m _ h0 h1;exact⟨h0,h1⟩
    | cons c l ih =>
     intro a m hb h0 h1
     obtain⟨c0,c1⟩:=hb c List.mem_cons_self
     have:=ih (256*a+c) (m+1) (fun x hx=>hb x (List.mem_cons_of_mem _ hx)) (by omega) (by rw[Int.pow_succ];omega)
     rw[List.length_cons,show m+(l.length+1)=m+1+l.length by omega]
     exact this
   intro hb
   have:=this l 0 0 hb (Int.le_refl 0) (by decide)
   rw[Nat.zero_add] at this
   exact this
  have h8:=w _ (allB_take (allB_drop hb (Int.toNat 0)) 8)
  have l8:((b.drop (Int.toNat 0)).take 8).length=8:=by rw[List.length_take,List.length_drop];simp;omega
  rw[l8,show (256:Int) ^ 8=18446744073709551616 from by decide +kernel] at h8
  unfold rngI
  omega
theorem orI32_low {D c:Int}(D0:0<=D)(D1:D<16777216)(c0:0<=c)(c1:c<256):orI .u32 (IntKind.u32.wrap (D*2 ^ min (Int.toNat 8) IntKind.u32.bits)) (IntKind.u32.wrap c)=256*D+c:=by
 rw[show (2:Int) ^ min (Int.toNat 8) IntKind.u32.bits=256 from rfl,wrap_u32 (x:=D*256) (by omega) (by omega),wrap_u32 (x:=c) c0 (by omega)]
 show IntKind.u32.wrap ((BitVec.ofInt 32 (D*256) ||| BitVec.ofInt 32 c).toNat:Int)=_
 rw[wrap_nat32 (BitVec.isLt _),BitVec.toNat_or,toNat_of 32 (by omega) (by omega),toNat_of 32 c0 (by omega)]
 have e:(D*256).toNat=2 ^ 8*D.toNat:=by omega
 rw[e,← Nat.two_pow_add_eq_or_of_lt (show c.toNat<2 ^ 8 by omega)]
 omega
def PHd0 (b:List Int):Int->Int->Int->Int->Prop:=fun k m r n=>k=(rvD b 0 false).1/\n=(rvD b (rvD b (rvD b 0 false).2.1 (rvD b 0 false).2.2).2.1 (rvD b (rvD b 0 false).2.1 (rvD b 0 false).2.2).2.2).2.1/\0<=n/\n+4=b.length/\hdD b=some (k,m,r,wD (b.drop n.toNat))
def PHd (b:List Int)(n:Int):Nat->Int->Prop:=fun i D=>i<=4/\D=wD ((b.drop n.toNat).take i)/\0<=D/\D<256 ^ i
theorem vc_hd (kn:Int)(ns:List PNT)(rs b:List Int)(K:KT)(hb:allB b)(hl:b.length<=1000000000)(hf:hdD b=none->∀ kk,K (.tup [.at (vU64 0),.at (vU64 0),.at (vB false)]) (chP kk 0 ns rs b) [0])(h:∀ k m r D,hdD b=some (k,m,r,D)->K (.tup [.at (vU64 m),.at (vU64 r),.at (vB true)]) (chP k D ns rs b) [0]) :
  vc C0 (aHd (PHd0 b) (PHd b (rvD b (rvD b (rvD b 0 false).2.1 (rvD b 0 false).2.2).2.1 (rvD b (rvD b 0 false).2.1 (rvD b 0 false).2.2).2.2).2.1) (rvD b 0 false).1 (rvD b (rvD b (rvD b 0 false).2.1 (rvD b 0 false).2.2).2.1 (rvD b (rvD b 0 false).2.1 (rvD b 0 false).2.2).2.2).2.1 ns rs b) Tryz.f102 [.at (.ptr 0 0),.at (.slc 3)] (chP kn 0 ns rs b) (normK 4 (wideK [0] K)):=by
 obtain⟨k,n1,f1,e1⟩:∃ k n f,rvD b 0 false=(k,n,f):=⟨_,_,_,rfl⟩
 obtain⟨m,n2,f2,e2⟩:∃ k n f,rvD b n1 f1=(k,n,f):=⟨_,_,_,rfl⟩
 obtain⟨r,n,f3,e3⟩:∃ k n f,rvD b n2 f2=(k,n,f):=⟨_,_,_,rfl⟩
 have hP0:PHd0 b=fun k' m' r' n'=>k'=k/\n'=n/\0<=n'/\n'+4=b.length/\hdD b=some (k',m',r',wD (b.drop n'.toNat)):=by
  unfold PHd0;simp only[e1,e2,e3]
 rw[hP0]
 simp only[e1,e2,e3]
 have hD:hdD b=if f3=true∨(b.length:Int)-n≠4∨65536<k∨65536<m∨4096<r then none else some (k,m,r,wD (b.drop n.toNat)):=by
  unfold hdD;simp only[e1,e2,e3]
 have g1:=rvD_rng hb e1
 have g2:=rvD_rng hb e2
 have g3:=rvD_rng hb e3
 have i1:=g1.2.2 (Int.le_refl 0) (by omega)
 have i2:=g2.2.2 i1.1 i1.2
 have i3:=g3.2.2 i2.1 i2.2
 generalize hP:PHd b n=P
 generalize hQ:(fun k' m' r' n':Int=>k'=k/\n'=n/\0<=n'/\n'+4=b.length/\hdD b=some (k',m',r',wD (b.drop n'.toNat)))=P0
 refine Eq.mp (show (allB b/\b.length<=1000000000000/\∀ u:Int,∀ n1:Int,∀ f:Bool,rvD b 0 false=(Prod.mk (u) (Prod.mk (n1) (f)))->allB b/\b.length<=1000000000000/\∀ u1:Int,∀ n2:Int,∀ f1:Bool,rvD b n1 f=(Prod.mk (u1) (Prod.mk (n2) (f1)))->allB b/\b.length<=1000000000000/\∀ u2:Int,∀ n3:Int,∀ f2:Bool,rvD b n2 f1=(Prod.mk (u2) (Prod.mk (n3) (f2)))->brS (f2) (K (.tup [(.at (.val (VW 0))),(.at (.val (VW 0))),(.at (.val (Value.bool false)))]) [(.box [(.val (VW (u))),(.val (VU 0)),(.slc 1),(.slc 2)]),(.row true EC.pn (ns)),(.row true EC.u64 (rs)),(.row false EC.u8 (b))] [0]) (brS (IntKind.i64.wrap ((b.length:Int)-n3) != 4) (K (.tup [(.at (.val (VW 0))),(.at (.val (VW 0))),(.at (.val (Value.bool false)))]) [(.box [(.val (VW (u))),(.val (VU 0)),(.slc 1),(.slc 2)]),(.row true EC.pn (ns)),(.row true EC.u64 (rs)),(.row false EC.u8 (b))] [0]) (brS (decide (u>65536)) (K (.tup [(.at (.val (VW 0))),(.at (.val (VW 0))),(.at (.val (Value.bool false)))]) [(.box [(.val (VW (u))),(.val (VU 0)),(.slc 1),(.slc 2)]),(.row true EC.pn (ns)),(.row true EC.u64 (rs)),(.row false EC.u8 (b))] [0]) (brS (decide (u1>65536)) (K (.tup [(.at (.val (VW 0))),(.at (.val (VW 0))),(.at (.val (Value.bool false)))]) [(.box [(.val (VW (u))),(.val (VU 0)),(.slc 1),(.slc 2)]),(.row true EC.pn (ns)),(.row true EC.u64 (rs)),(.row false EC.u8 (b))] [0]) (brS (decide (u2>4096)) (K (.tup [(.at (.val (VW 0))),(.at (.val (VW 0))),(.at (.val (Value.bool false)))]) [(.box [(.val (VW (u))),(.val (VU 0)),(.slc 1),(.slc 2)]),(.row true EC.pn (ns)),(.row true EC.u64 (rs)),(.row false EC.u8 (b))] [0]) (∃ x:XHe P0,True/\
 (True/\True/\True/\VW (u1)=VW (x.m)/\VW (u2)=VW (x.r)/\True)/\(VW (u)=VW (x.k)/\VU 0=VU 0/\True/\True/\True)/\ns=ns/\rs=rs/\b=b/\(True/\VI (n3)=VI (x.n)/\(Value.bool (f2))=Value.bool false/\True)/\True)))))/\∀ x:XHe P0,True->0<=x.n/\x.n<=(b.length:Int)/\(b.length:Int)<=(b.length:Int)/\(∃ x1:XHd P,True/\(True/\VW (x.m)=VW (x.m)/\VW (x.r)=VW (x.r)/\True/\(VI ((↑(List.drop x.n.toNat (List.take (b.length:Int).toNat b)).length:Int)))=(VI ((↑(List.drop x.n.toNat (List.take (b.length:Int).toNat b)).length:Int)))/\VI 0=(VI (x1.i:Int))/\True)/\(VW (x.k)=VW (k)/\VU 0=(VU (x1.D))/\True/\True/\True)/\ns=ns/\rs=rs/\b=b/\(List.drop x.n.toNat (List.take (b.length:Int).toNat b))=List.drop n.toNat b/\True)/\∀ x1:XHd P,True->brS (decide ((x1.i:Int)<(↑(List.drop x.n.toNat (List.take (b.length:Int).toNat b)).length:Int))) (0<=(x1.i:Int)/\(x1.i:Int)<(↑(List.drop n.toNat b).length:Int)/\∃ x':XHd P,True/\((True/\VW (x.m)=VW (x.m)/\VW (x.r)=VW (x.r)/\True/\(VI ((↑(List.drop x.n.toNat (List.take (b.length:Int).toNat b)).length:Int)))=(VI ((↑(List.drop x.n.toNat (List.take (b.length:Int).toNat b)).length:Int)))/\(VI (IntKind.i64.wrap ((x1.i:Int)+1)))=(VI (x'.i:Int))/\True)/\(VW (k)=VW (k)/\(VU (orI IntKind.u32 (IntKind.u32.wrap (x1.D*2 ^ min (Int.toNat 8) IntKind.u32.bits)) (IntKind.u32.wrap (getB (List.drop n.toNat b) (x1.i:Int).toNat))))=(VU (x'.D))/\True/\True/\True)/\ns=ns/\rs=rs/\b=b/\List.drop n.toNat b=List.drop n.toNat b/\True)/\4-x'.i<4-x1.i) (K (.tup [(.at (.val (VW (x.m)))),(.at (.val (VW (x.r)))),(.at (.val (Value.bool true)))]) [(.box [(.val (VW (k))),(.val (VU (x1.D))),(.slc 1),(.slc 2)]),(.row true EC.pn (ns)),(.row true EC.u64 (rs)),(.row false EC.u8 (b))] [0]))=_ by kernel_rfl) ?_
 subst hP hQ
 have tk:List.take (b.length:Int).toNat b=b:=by rw[Int.toNat_natCast];exact List.take_length
 refine⟨hb,by omega,fun u y1 y2 ye1=>?_⟩
 rw[e1] at ye1
 simp only[Prod.mk.injEq] at ye1
 obtain⟨rfl,rfl,rfl⟩:=ye1
 refine⟨hb,by omega,fun u y1 y2 ye2=>?_⟩
 rw[e2] at ye2
 simp only[Prod.mk.injEq] at ye2
 obtain⟨rfl,rfl,rfl⟩:=ye2
 refine⟨hb,by omega,fun u y1 y2 ye3=>?_⟩
 rw[e3] at ye3
 simp only[Prod.mk.injEq] at ye3
 obtain⟨rfl,rfl,rfl⟩:=ye3
 rw[wrap_id (x:=(b.length:Int)-n) (by omega) (by omega)]
 have ne_of:∀ {x y:Int},(x != y)=true->x≠y:=fun {x y} q e=>by rw[e] at q;simp at q
 have eq_of:∀ {x y:Int},(x != y)=false->x=y:=fun {x y} q=>by simpa using q
 have bad:(f3=true∨(b.length:Int)-n≠4∨65536<k∨65536<m∨4096<r)->K (.tup [.at (vU64 0),.at (vU64 0),.at (vB false)]) (chP k 0 ns rs b) [0]:=fun q=>hf (by rw[hD,if_pos q]) k
 refine⟨brS_of (fun z1=>bad (.inl z1)) fun z1=>brS_of (fun z2=>bad (.inr (.inl (ne_of z2)))) fun z2=>brS_of (fun z3=>bad (.inr (.inr (.inl (of_decide_eq_true z3))))) fun z3=>brS_of (fun z4=>bad (.inr (.inr (.inr (.inl (of_decide_eq_true z4)))))) fun z4=>brS_of (fun z5=>bad (.inr (.inr (.inr (.inr (of_decide_eq_true z5)))))) fun z5=>?_,fun x _=>?_⟩
 ·have q2:=eq_of z2
  have q3:=of_decide_eq_false z3
  have q4:=of_decide_eq_false z4
  have q5:=of_decide_eq_false z5
  refine⟨⟨k,m,r,n,rfl,rfl,i3.1,by omega,?_⟩,trivial,?_⟩
  ·rw[hD,if_neg]
   rintro (q|q|q|q|q)
   ·rw[z1] at q;cases q
   ·exact q q2
   ·exact q3 q
   ·exact q4 q
   ·exact q5 q
  ·(repeat' first|exact trivial|exact rfl|exact congrArg Value.bool z1|refine And.intro ?_ ?_)
 ·obtain⟨k',m',r',n',rfl,rfl,h0,h4,hd⟩:=x
  dsimp only
  rw[tk]
  have hr:=allB_drop hb n'.toNat
  have rl:(b.drop n'.toNat).length=4:=by rw[List.length_drop];omega
  refine⟨h0,by omega,by omega,⟨⟨0,0,by decide,rfl,by decide,by decide⟩,?_⟩,fun x1 _=>brS_of (fun z=>?_) fun z=>?_⟩
  ·(repeat' first|exact trivial|exact rfl|refine And.intro ?_ ?_)
  ·obtain⟨i,D,hi,hDi,d0,d1⟩:=x1
   dsimp only at z ⊢
   have z:i<(b.drop n'.toNat).length:=by have:=of_decide_eq_true z;omega
   rw[show ((i:Int)).toNat=i from rfl,wrap_id (x:=(i:Int)+1) (by omega) (by omega)]
   obtain⟨c0,c1⟩:=hr _ (getB_mem z)
   have p3:(256:Int) ^ i<=16777216:=by
    have:i=0∨i=1∨i=2∨i=3:=by omega
    rcases this with e|e|e|e<;>subst e<;>decide
   rw[orI32_low d0 (by omega) c0 c1]
   refine⟨by omega,by omega,⟨i+1,256*D+getB (b.drop n'.toNat) i,by omega,?_,by omega,by rw[Int.pow_succ];omega⟩,trivial,?_,by show 4-(i+1)<4-i;omega⟩
   ·rw[take_getB z,wD_snoc,← hDi]
   ·(repeat' first|exact trivial|exact rfl|refine And.intro ?_ ?_)
  ·obtain⟨i,D,hi,hDi,d0,d1⟩:=x1
   dsimp only at z ⊢
   have z:i=4:=by have:=of_decide_eq_false z;omega
   rw[z,List.take_of_length_le (by omega)] at hDi
   rw[hDi]
   exact h _ _ _ _ hd
theorem s_hd:SoundT C0 102 tHd:=by
 refine .ofW [0] Tryz.func102 (by decide) rfl fun args H K h hB=>?_
 unfold tHd pkM at h
 split at h<;>try exact h.elim
 split at h<;>try exact h.elim
 rename_i _ kn D ns rs b
 obtain⟨rfl,h1,h2,h3,h4⟩:=h
 refine⟨_,?_,vc_hd kn ns rs b K h1 h2 h3 h4⟩
 exact⟨frame C0.ok s_rv _,trivial⟩
theorem vc_no (k D:Int)(ns:List PNT)(rs b:List Int)(K:KT)(k0:0<=k)(k1:k<=65536)(hn:ns.length<=65536)(hb:allB b)(hl:b.length<=1000000000)(hf:ndQ (k+ns.length+1) b=none->K (.one (.at (vB false))) (chP k D ns rs b) [0,1])(h:∀ x,ndQ (k+ns.length+1) b=some x->K (.one (.at (vB true))) (chP k D (ns++[x]) rs b) [0,1]) :
  vc C0 aNo Tryz.f103 [.at (.ptr 0 0),.at (.slc 3)] (chP k D ns rs b) (normK 4 (wideK [0,1] K)):=by
 refine Eq.mp (show (allB b/\b.length<=1000000000000/\∀ u:Int,∀ n:Int,∀ f:Bool,ryD b 0 false=(Prod.mk (u) (Prod.mk (n) (f)))->allB b/\b.length<=1000000000000/\∀ u1:Int,∀ n1:Int,∀ f1:Bool,rvD b n f=(Prod.mk (u1) (Prod.mk (n1) (f1)))->0<=u1/\u1<18446744073709551616/\∀ n2:Int,n2=uz u1->allB b/\b.length<=1000000000000/\∀ u2:Int,∀ n3:Int,∀ f2:Bool,rvD b n1 f1=(Prod.mk (u2) (Prod.mk (n3) (f2)))->allB b/\b.length<=1000000000000/\∀ u3:Int,∀ n4:Int,∀ f3:Bool,rvD b n3 f2=(Prod.mk (u3) (Prod.mk (n4) (f3)))->∀ r:Bool,r=(!f3 && n4==(b.length:Int))->brS (!r) (K (.one (.at (.val (Value.bool false)))) [(.box [(.val (VW (k))),(.val (VU (D))),(.slc 1),(.slc 2)]),(.row true EC.pn (ns)),(.row true EC.u64 (rs)),(.row false EC.u8 (b))] [0,1]) (brS (decide (u2≥IntKind.u64.wrap (IntKind.u64.wrap (k+IntKind.u64.wrap (ns.length:Int))+1))) (K (.one (.at (.val (Value.bool false)))) [(.box [(.val (VW (k))),(.val (VU (D))),(.slc 1),(.slc 2)]),(.row true EC.pn (ns)),(.row true EC.u64 (rs)),(.row false EC.u8 (b))] [0,1]) (brS (decide (u3≥IntKind.u64.wrap (IntKind.u64.wrap (k+IntKind.u64.wrap (ns.length:Int))+1))) (K (.one (.at (.val (Value.bool false)))) [(.box [(.val (VW (k))),(.val (VU (D))),(.slc 1),(.slc 2)]),(.row true EC.pn (ns)),(.row true EC.u64 (rs)),(.row false EC.u8 (b))] [0,1]) ((ns.length+[{ key:=u,value:=n2,left:=u2,right:=u3:PNT }].length)*bytesOf C0 EC.pn<=140737488355328/\K (.one (.at (.val (Value.bool true)))) [(.box [(.val (VW (k))),(.val (VU (D))),(.slc 1),(.slc 2)]),(.row true EC.pn (ns++[{ key:=u,value:=n2,left:=u2,right:=u3:PNT }])),(.row true EC.u64 (rs)),(.row false EC.u8 (b))] [0,1]))))=_ by kernel_rfl) ?_
 refine⟨hb,by omega,fun q1 n1 f1 e1=>⟨hb,by omega,fun q2 n2 f2 e2=>?_⟩⟩
 have g1:=ryD_rng hb e1
 have g2:=rvD_rng hb e2
 refine⟨g2.1.1,g2.1.2,fun q2' e2'=>⟨hb,by omega,fun q3 n3 f3 e3=>⟨hb,by omega,fun q4 n4 f4 e4=>fun r er=>?_⟩⟩⟩
 have i2:=g2.2.2 g1.2.1 g1.2.2
 have hD:ndQ (k+ns.length+1) b=if f4=true∨n4≠(b.length:Int)∨k+ns.length+1<=q3∨k+ns.length+1<=q4 then none else some ⟨q1,uz q2,q3,q4⟩:=by
  unfold ndQ;simp only[e1,e2,e3,e4]
 rw[wrap_u64 (x:=(ns.length:Int)) (by omega) (by omega),wrap_u64 (x:=k+(ns.length:Int)) (by omega) (by omega),wrap_u64 (by omega) (by omega)]
 refine brS_of (fun z=>hf ?_) fun z1=>brS_of (fun z=>hf ?_) fun z2=>brS_of (fun z=>hf ?_) fun z3=>⟨?_,h _ ?_⟩
 ·rw[hD,if_pos]
  rw[er] at z
  cases f4 with
  | true=>exact .inl rfl
  | false =>
   refine .inr (.inl fun e=>?_)
   rw[e] at z
   simp at z
 ·rw[hD,if_pos (.inr (.inr (.inl (of_decide_eq_true z))))]
 ·rw[hD,if_pos (.inr (.inr (.inr (of_decide_eq_true z))))]
 ·rw[bytes_pn,List.length_singleton];omega
 ·rw[hD,if_neg,e2']
  rw[er] at z1
  rintro (q|q|q|q)
  ·rw[q] at z1;simp at z1
  ·cases f4<;>simp at z1
   exact q z1
  ·exact of_decide_eq_false z2 q
  ·exact of_decide_eq_false z3 q
theorem s_no:SoundT C0 103 tNo:=by
 refine .ofW [0,1] Tryz.func103 (by decide) rfl fun args H K h hB=>?_
 unfold tNo pkM at h
 split at h<;>try exact h.elim
 split at h<;>try exact h.elim
 rename_i _ k D ns rs b
 obtain⟨h1,h2,h3,h4,h5,h6,h7⟩:=h
 refine⟨_,?_,vc_no k D ns rs b K h1 h2 h3 h4 h5 h6 h7⟩
 exact⟨frame C0.ok s_rv _,frame C0.ok s_ry _,frame C0.ok s_rd _,frame C0.ok s_uz _,trivial⟩
def PTl (top:Int)(c:Nat)(b:List Int):Nat->List Int->Int->Prop:=fun i rs n=>i<=c/\rs.length=i/\tlG top b c 0=(tlG top b (c-i) n).map fun q=>(rs++q.1,q.2)
theorem vc_tl (c:Nat)(k D:Int)(ns:List PNT)(b:List Int)(K:KT)(k0:0<=k)(k1:k<=65536)(hn:ns.length<=65536)(hc:c<=1000000)(hb:allB b)(hl:b.length<=1000000000)(hf:tlD (k+ns.length) c b=none->∀ r,K (.one (.at (vB false))) (chP k D ns r b) [0,2])(h:∀ r,tlD (k+ns.length) c b=some r->K (.one (.at (vB true))) (chP k D ns r b) [0,2]) :
  vc C0 (aTl (PTl (k+ns.length) c b) c k D ns b) Tryz.f104 [.at (.ptr 0 0),.at (.slc 3),.at (vU64 c)] (chP k D ns [] b) (normK 4 (wideK [0,2] K)):=by
 generalize hP:PTl (k+ns.length) c b=P
 refine Eq.mp (show ((∃ x:XTl P,True/\(True/\VW (c:Int)=VW (c:Int)/\True/\VW 0=(VW (x.i:Int))/\True)/\(VW (k)=VW (k)/\VU (D)=VU (D)/\True/\True/\True)/\ns=ns/\[]=x.rs/\b=b/\(True/\VI 0=(VI (x.n))/\Value.bool false=Value.bool false/\True)/\True)/\∀ x:XTl P,True->brS (decide ((x.i:Int)<(c:Int))) (allB b/\b.length<=1000000000000/\∀ u:Int,∀ n:Int,∀ f:Bool,rvD b x.n false=(Prod.mk (u) (Prod.mk (n) (f)))->(x.rs.length+[u].length)*bytesOf C0 EC.u64<=140737488355328/\brS (f) (K (.one (.at (.val (Value.bool false)))) [(.box [(.val (VW (k))),(.val (VU (D))),(.slc 1),(.slc 2)]),(.row true EC.pn (ns)),(.row true EC.u64 (x.rs++[u])),(.row false EC.u8 (b))] [0,2]) (0<=(x.i:Int)/\(x.i:Int)<(↑(x.rs++[u]).length:Int)/\brS (decide (getB (x.rs++[u]) (x.i:Int).toNat>IntKind.u64.wrap (k+IntKind.u64.wrap (ns.length:Int)))) (K (.one (.at (.val (Value.bool false)))) [(.box [(.val (VW (k))),(.val (VU (D))),(.slc 1),(.slc 2)]),(.row true EC.pn (ns)),(.row true EC.u64 (x.rs++[u])),(.row false EC.u8 (b))] [0,2]) (∃ x':XTl P,True/\((True/\VW (c:Int)=VW (c:Int)/\True/\(VW (IntKind.u64.wrap ((x.i:Int)+1)))=(VW (x'.i:Int))/\True)/\(VW (k)=VW (k)/\VU (D)=VU (D)/\True/\True/\True)/\ns=ns/\(x.rs++[u])=x'.rs/\b=b/\(True/\VI (n)=VI (x'.n)/\(Value.bool (f))=Value.bool false/\True)/\True)/\c-x'.i<c-x.i))) (∀ r:Bool,r=(!false && x.n==(b.length:Int))->K (.one (.at (.val (Value.bool (r))))) [(.box [(.val (VW (k))),(.val (VU (D))),(.slc 1),(.slc 2)]),(.row true EC.pn (ns)),(.row true EC.u64 (x.rs)),(.row false EC.u8 (b))] [0,2]))=_ by kernel_rfl) ?_
 subst hP
 refine⟨⟨⟨0,[],0,Nat.zero_le _,rfl,?_⟩,?_⟩,fun x _=>brS_of (fun z=>?_) fun z=>?_⟩
 ·rw[Nat.sub_zero]
  cases tlG (k+ns.length) b c 0<;>rfl
 ·(repeat' first|exact trivial|exact rfl|refine And.intro ?_ ?_)
 ·obtain⟨i,rs,n,hi,hr,hp⟩:=x
  dsimp only at z ⊢
  have z:i<c:=by have:=of_decide_eq_true z;omega
  obtain⟨d,ed⟩:∃ d,c-i=d+1:=⟨c-i-1,by omega⟩
  refine⟨hb,by omega,fun u n1 f e=>⟨by rw[bytes_u64,List.length_singleton];omega,?_⟩⟩
  rw[wrap_u64 (x:=(ns.length:Int)) (by omega) (by omega),wrap_u64 (x:=k+(ns.length:Int)) (by omega) (by omega),wrap_u64 (x:=(i:Int)+1) (by omega) (by omega),show ((i:Int)).toNat=i from rfl]
  have gi:getB (rs++[u]) i=u:=by unfold getB;rw[← hr];simp
  have hs:tlG (k+ns.length) b (d+1) n=if f=true∨k+ns.length<u then none else (tlG (k+ns.length) b d n1).map fun q=>(u::q.1,q.2):=by
   conv=>lhs;unfold tlG
   simp only[e]
  rw[ed,hs] at hp
  have bad:(f=true∨k+ns.length<u)->K (.one (.at (vB false))) (chP k D ns (rs++[u]) b) [0,2]:=fun q=>by
   rw[if_pos q] at hp
   exact hf (by unfold tlD;rw[hp];rfl) _
  rw[gi]
  refine brS_of (fun q=>bad (.inl q)) fun q1=>⟨by omega,by rw[List.length_append,List.length_singleton];omega,brS_of (fun q=>bad (.inr (of_decide_eq_true q))) fun q2=>?_⟩
  have q2:=of_decide_eq_false q2
  rw[if_neg (by rintro (q|q);(rw[q1] at q;cases q);exact q2 q)] at hp
  refine⟨⟨i+1,rs++[u],n1,z,by rw[List.length_append,hr];rfl,?_⟩,trivial,?_,Nat.sub_lt_sub_left z (Nat.lt_succ_self i)⟩
  ·rw[hp,show c-(i+1)=d by omega]
   cases tlG (k+ns.length) b d n1 with
   | none=>rfl
   | some v=>simp
  ·(repeat' first|exact trivial|exact rfl|exact congrArg Value.bool q1|refine And.intro ?_ ?_)
 ·obtain⟨i,rs,n,hi,hr,hp⟩:=x
  dsimp only at z ⊢
  have z:i=c:=by have:=of_decide_eq_false z;omega
  intro r er
  rw[z,Nat.sub_self] at hp
  have hp:tlG (k+ns.length) b c 0=some (rs,n):=by rw[hp];simp[tlG]
  by_cases q:n=(b.length:Int)
  ·rw[show r=true by rw[er,q];simp]
   exact h _ (by unfold tlD;rw[hp];simp[q])
  ·rw[show r=false by rw[er];simp[q]]
   exact hf (by unfold tlD;rw[hp];simp[q]) _
theorem s_tl:SoundT C0 104 tTl:=by
 refine .ofW [0,2] Tryz.func104 (by decide) rfl fun args H K h hB=>?_
 unfold tTl pkM at h
 split at h<;>try exact h.elim
 split at h<;>try exact h.elim
 rename_i c _ k D ns rs b
 obtain⟨rfl,h1,h2,h3,c0,c1,h4,h5,h6,h7⟩:=h
 obtain⟨c,rfl⟩:=Int.eq_ofNat_of_zero_le c0
 refine⟨_,?_,vc_tl c k D ns b K h1 h2 h3 (by omega) h4 h5 h6 h7⟩
 exact⟨frame C0.ok s_rv _,frame C0.ok s_rd _,trivial⟩
end Go.Proofs.YtedfbafngmicpaaGreat.Sx
end
section
/- packwork: Read. -/
namespace Go.Proofs.YtedfbafngmicpaaGreat.Sx
open Go

/-KEEP allB nxD hdD tlD nsD pkD mgD getB magB-/
structure PKT where
 known:Int
 digest:Int
 nodes:List PNT
 roots:List Int
def PKT.zero:PKT:=⟨0,0,[],[]⟩
def mgD:List Int->List Int->Int
 | [],_=>0
 | _::_,[]=>12
 | m::ms,c::cs=>if c=m then mgD ms cs else 13
def nsD (b:List Int)(k:Int):Nat->Int->List PNT->Int × List PNT × Int
 | 0,at_,ns=>(0,ns,at_)
 | n+1,at_,ns=>match nxD b at_ with
  | (p,n1,e)=>if e≠0 then (e,[],0) else match ndQ (k+ns.length+1) p with
   | none=>(13,[],0)
   | some x=>nsD b k n n1 (ns++[x])
def pkD (b:List Int):Int × PKT:=if mgD magB b≠0 then (mgD magB b,.zero) else
 match nxD b 4 with
 | (p,n1,e)=>if e≠0 then (e,.zero) else match hdD p with
  | none=>(13,.zero)
  | some (k,m,r,D)=>match nsD b k m.toNat n1 [] with
   | (e2,ns,n2)=>if e2≠0 then (e2,.zero) else match nxD b n2 with
    | (p2,n3,e3)=>if e3≠0 then (e3,.zero) else match tlD (k+ns.length) r.toNat p2 with
     | none=>(13,.zero)
     | some rs=>if n3=(b.length:Int) then (0,⟨k,D,ns,rs⟩) else (13,.zero)
structure XRa (P:List Int->Int->Prop) where
 p:List Int
 n:Int
 h:P p n
structure XRb (P:Int->Int->Int->Int->List PNT->Int->Nat->Prop) where
 k:Int
 m:Int
 r:Int
 D:Int
 ns:List PNT
 n:Int
 i:Nat
 h:P k m r D ns n i
structure XRd (P:Bool->Int->Int->Int->Int->Int->Prop) where
 ok:Bool
 k:Int
 m:Int
 r:Int
 D:Int
 n:Int
 h:P ok k m r D n
structure XRc (P:Int->Int->Int->Int->List PNT->Int->List Int->Prop) where
 k:Int
 m:Int
 r:Int
 D:Int
 ns:List PNT
 n:Int
 p:List Int
 h:P k m r D ns n p
abbrev hfR (b:List Int)(k D:Int)(ns:List PNT):List (Chunk C0):=[.row false EC.u8 b,.box [vU64 0,vU 0,.slc 2,.slc 3],.row true EC.pn [],.row true EC.u64 [],.box [vU64 k,vU D,.slc 5,.slc 6],.row true EC.pn ns,.row true EC.u64 []]
noncomputable def aRe (P1:List Int->Int->Prop)(P0:Bool->Int->Int->Int->Int->Int->Prop)(P2 P3 P4:Int->Int->Int->Int->List PNT->Int->Nat->Prop)(P5:Int->Int->Int->Int->List PNT->Int->List Int->Prop)(b:List Int):Ann C0:={ quiet:=[9999999,101],Γ:=[(101,frameT [] tNx),(102,frameT [] tHd),(103,frameT [] tNo),(104,frameT [] tTl)],rounds:=fun n=>if n=2 then 5 else 0,inv:=fun j=>match j with
 | 1008=>some { X:=PLift (mgD magB b=0),sl:=[2],tf:=fun _=>[.one (.at (.ptr 1 0))],hf:=fun _=>[.row false EC.u8 b,.box [vU64 0,vU 0,.slc 2,.slc 3],.row true EC.pn [],.row true EC.u64 []] }
 | 1011=>some { X:=XRa P1,sl:=[2,5,6],tf:=fun x=>[.one (.at (.ptr 1 0)),.one (.at (.slc 4)),vi .i64 x.n],hf:=fun x=>[.row false EC.u8 b,.box [vU64 0,vU 0,.slc 2,.slc 3],.row true EC.pn [],.row true EC.u64 [],.row true EC.u8 x.p] }
 | 1013=>some { X:=XRd P0,sl:=[2,6,8,9,10,11],tf:=fun x=>[.one (.at (.ptr 1 0)),vi .i64 x.n,.one (.at (.ptr 4 0)),vi .u64 x.m,vi .u64 x.r,vb x.ok],hf:=fun x=>hfR b x.k x.D [] }
 | 1015=>some { X:=XRb P2,sl:=[2,6,8,9,10],tf:=fun x=>[.one (.at (.ptr 1 0)),vi .i64 x.n,.one (.at (.ptr 4 0)),vi .u64 x.m,vi .u64 x.r],hf:=fun x=>hfR b x.k x.D x.ns }
 | 16=>some { X:=XRb P3,sl:=[2,6,8,9,10,12],tf:=fun x=>[.one (.at (.ptr 1 0)),vi .i64 x.n,.one (.at (.ptr 4 0)),vi .u64 x.m,vi .u64 x.r,vi .u64 x.i],hf:=fun x=>hfR b x.k x.D x.ns,μ:=fun x=>x.m.toNat-x.i }
 | 1023=>some { X:=XRb P4,sl:=[2,6,8,10],tf:=fun x=>[.one (.at (.ptr 1 0)),vi .i64 x.n,.one (.at (.ptr 4 0)),vi .u64 x.r],hf:=fun x=>hfR b x.k x.D x.ns }
 | 1026=>some { X:=XRc P5,sl:=[2,5,6,8,10],tf:=fun x=>[.one (.at (.ptr 1 0)),.one (.at (.slc 7)),vi .i64 x.n,.one (.at (.ptr 4 0)),vi .u64 x.r],hf:=fun x=>hfR b x.k x.D x.ns++[.row true EC.u8 x.p] }
 | _=>none }
def tRe:Tfm C0:=fun args H K=>match args,H with
 | [.at (.slc 0)],[.row false .u8 b]=>allB b/\b.length<=1000000000/\∀ e p,pkD b=(e,p)->K (.tup [.agg [vU64 p.known,vU p.digest,.slc 1,.slc 2],.at (vI e)]) [.row false EC.u8 b,.row true EC.pn p.nodes,.row true EC.u64 p.roots] []
 | _,_=>False
theorem mg_cases (b:List Int):(b.length=0->mgD magB b=12)/\(0<b.length->getB b 0≠86->mgD magB b=13)/\(getB b 0=86->b.length=1->mgD magB b=12)/\(getB b 0=86->1<b.length->getB b 1≠77->mgD magB b=13) ∧
  (getB b 0=86->getB b 1=77->b.length=2->mgD magB b=12)/\(getB b 0=86->getB b 1=77->2<b.length->getB b 2≠80->mgD magB b=13)/\(getB b 0=86->getB b 1=77->getB b 2=80->b.length=3->mgD magB b=12) ∧
  (getB b 0=86->getB b 1=77->getB b 2=80->3<b.length->getB b 3≠49->mgD magB b=13)/\(getB b 0=86->getB b 1=77->getB b 2=80->getB b 3=49->3<b.length->mgD magB b=0):=by
 rcases b with _|⟨c0,_|⟨c1,_|⟨c2,_|⟨c3,t⟩⟩⟩⟩<;>simp +contextual [mgD,magB,getB]
theorem nxD_rng {b p:List Int}{at_ n e:Int}(hb:allB b)(h:nxD b at_=(p,n,e)):allB p/\p.length<=b.length:=by
 by_cases c:at_<0∨(b.length:Int)<at_
 ·unfold nxD at h
  rw[if_pos c] at h
  simp only[Prod.mk.injEq] at h
  rw[← h.1]
  exact⟨allB_nil,Nat.zero_le _⟩
 ·obtain⟨q,k,e',hv⟩:∃ v k e',frD 12 13 14 1048576 (b.drop at_.toNat)=(v,k,e'):=⟨_,_,_,rfl⟩
  have ue:=nxD_eq (by omega) (by omega) hv
  rw[h] at ue
  by_cases z:e'=0
  ·rw[if_pos z] at ue
   simp only[Prod.mk.injEq] at ue
   obtain⟨v,k',e2,h2⟩:∃ v k e',vD 12 13 0 (b.drop at_.toNat) 0=(v,k,e'):=⟨_,_,_,rfl⟩
   have ef:=frD_eq h2
   rw[hv] at ef
   split at ef
   ·simp only[Prod.mk.injEq] at ef;omega
   ·split at ef
    ·simp only[Prod.mk.injEq] at ef;omega
    ·split at ef
     ·simp only[Prod.mk.injEq] at ef;omega
     ·split at ef
      ·simp only[Prod.mk.injEq] at ef
       rw[ue.1,ef.1]
       refine⟨allB_drop (allB_take (allB_drop hb _) _) _,?_⟩
       rw[List.length_drop,List.length_take,List.length_drop];omega
      ·simp only[Prod.mk.injEq] at ef;omega
  ·rw[if_neg z] at ue
   simp only[Prod.mk.injEq] at ue
   rw[ue.1]
   exact⟨allB_nil,Nat.zero_le _⟩
theorem hdD_rng {p:List Int}{k m r D:Int}(hb:allB p)(h:hdD p=some (k,m,r,D)):(0<=k/\k<=65536)/\(0<=m/\m<=65536)/\0<=r/\r<=4096:=by
 obtain⟨k1,n1,f1,e1⟩:∃ k n f,rvD p 0 false=(k,n,f):=⟨_,_,_,rfl⟩
 obtain⟨m1,n2,f2,e2⟩:∃ k n f,rvD p n1 f1=(k,n,f):=⟨_,_,_,rfl⟩
 obtain⟨r1,n3,f3,e3⟩:∃ k n f,rvD p n2 f2=(k,n,f):=⟨_,_,_,rfl⟩
 unfold hdD at h
 simp only[e1,e2,e3] at h
 split at h
 ·cases h
 ·rename_i c
  simp only[Option.some.injEq,Prod.mk.injEq] at h
  have g1:=(rvD_rng hb e1).1
  have g2:=(rvD_rng hb e2).1
  have g3:=(rvD_rng hb e3).1
  omega
structure ReF (b:List Int) (k m r D n:Int):Prop where
 mg:mgD magB b=0
 ex:∃ p,nxD b 4=(p,n,0)/\allB p/\hdD p=some (k,m,r,D)
theorem ReF.rng {b:List Int}{k m r D n:Int}(h:ReF b k m r D n):(0<=k/\k<=65536)/\(0<=m/\m<=65536)/\0<=r/\r<=4096:=by
 obtain⟨p,_,h1,h2⟩:=h.ex
 exact hdD_rng h1 h2
theorem ReF.pk {b:List Int}{k m r D n:Int}(h:ReF b k m r D n){e2 n2:Int}{ns:List PNT}(hn:nsD b k m.toNat n []=(e2,ns,n2)):pkD b=if e2≠0 then (e2,.zero) else match nxD b n2 with
    | (p2,n3,e3)=>if e3≠0 then (e3,.zero) else match tlD (k+ns.length) r.toNat p2 with
     | none=>(13,.zero)
     | some rs=>if n3=(b.length:Int) then (0,⟨k,D,ns,rs⟩) else (13,.zero):=by
 obtain⟨p,h0,h1,h2⟩:=h.ex
 unfold pkD
 rw[if_neg (by rw[h.mg];simp),h0]
 simp only[ne_eq,not_true_eq_false,if_false,h2,hn]
theorem nsD_succ {b:List Int}{k:Int}{d:Nat}{n:Int}{ns:List PNT}{p2:List Int}{n2 e2:Int}(h:nxD b n=(p2,n2,e2)):nsD b k (d+1) n ns=if e2≠0 then (e2,[],0) else match ndQ (k+ns.length+1) p2 with
    | none=>(13,[],0)
    | some x=>nsD b k d n2 (ns++[x]):=by
 show (match nxD b n with
  | (p,n1,e)=>if e≠0 then (e,[],0) else match ndQ (k+ns.length+1) p with
   | none=>(13,[],0)
   | some x=>nsD b k d n1 (ns++[x]))=_
 rw[h]
def PR1 (b:List Int):List Int->Int->Prop:=fun p n=>mgD magB b=0/\nxD b 4=(p,n,0)
def PR0 (b:List Int):Bool->Int->Int->Int->Int->Int->Prop:=fun ok k m r D n=>mgD magB b=0/\∃ p,nxD b 4=(p,n,0)/\allB p/\(ok=false->hdD p=none)/\(ok=true->hdD p=some (k,m,r,D))
def PR2 (b:List Int):Int->Int->Int->Int->List PNT->Int->Nat->Prop:=fun k m r D ns n _=>ReF b k m r D n/\ns=[]
def PR3 (b:List Int):Int->Int->Int->Int->List PNT->Int->Nat->Prop:=fun k m r D ns n i=>∃ n0,ReF b k m r D n0/\i<=m.toNat/\ns.length=i/\nsD b k m.toNat n0 []=nsD b k (m.toNat-i) n ns
def PR4 (b:List Int):Int->Int->Int->Int->List PNT->Int->Nat->Prop:=fun k m r D ns n _=>∃ n0,ReF b k m r D n0/\ns.length<=65536/\nsD b k m.toNat n0 []=(0,ns,n)
def PR5 (b:List Int):Int->Int->Int->Int->List PNT->Int->List Int->Prop:=fun k m r D ns n p=>∃ n0 n1,ReF b k m r D n0/\ns.length<=65536/\nsD b k m.toNat n0 []=(0,ns,n1)/\nxD b n1=(p,n,0)
theorem vc_re (b:List Int)(K:KT)(hb:allB b)(hl:b.length<=1000000000)(h:∀ e p,pkD b=(e,p)->K (.tup [.agg [vU64 p.known,vU p.digest,.slc 1,.slc 2],.at (vI e)]) [.row false EC.u8 b,.row true EC.pn p.nodes,.row true EC.u64 p.roots] []) :
  vc C0 (aRe (PR1 b) (PR0 b) (PR2 b) (PR3 b) (PR4 b) (PR5 b) b) Tryz.f53 [.at (.slc 0)] [.row false EC.u8 b] (normK 1 K):=by
 generalize hP1:PR1 b=P1
 generalize hP0:PR0 b=P0
 generalize hP2:PR2 b=P2
 generalize hP3:PR3 b=P3
 generalize hP4:PR4 b=P4
 generalize hP5:PR5 b=P5
 refine Eq.mp (show (brS (0==(b.length:Int)) (K (.tup [(TV.agg [(.val (VW 0)),(.val (VU 0)),(.slc 1),(.slc 2)]),(.at (.val (VI 12)))]) [(.row false EC.u8 (b)),(.row true EC.pn []),(.row true EC.u64 [])] []) ((0:Int)<=0/\0<(b.length:Int)/\brS (getB b (Int.toNat 0) != 86) (K (.tup [(TV.agg [(.val (VW 0)),(.val (VU 0)),(.slc 1),(.slc 2)]),(.at (.val (VI 13)))]) [(.row false EC.u8 (b)),(.row true EC.pn []),(.row true EC.u64 [])] []) (brS (IntKind.i64.wrap (0+1)==(b.length:Int)) (K (.tup [(TV.agg [(.val (VW 0)),(.val (VU 0)),(.slc 1),(.slc 2)]),(.at (.val (VI 12)))]) [(.row false EC.u8 (b)),(.row true EC.pn []),(.row true EC.u64 [])] []) (0<=IntKind.i64.wrap (0+1)/\IntKind.i64.wrap (0+1)<(b.length:Int)/\brS (getB b (IntKind.i64.wrap (0+1)).toNat != 77) (K (.tup [(TV.agg [(.val (VW 0)),(.val (VU 0)),(.slc 1),(.slc 2)]),(.at (.val (VI 13)))]) [(.row false EC.u8 (b)),(.row true EC.pn []),(.row true EC.u64 [])] []) (brS (IntKind.i64.wrap (IntKind.i64.wrap (0+1)+1)==(b.length:Int)) (K (.tup [(TV.agg [(.val (VW 0)),(.val (VU 0)),(.slc 1),(.slc 2)]),(.at (.val (VI 12)))]) [(.row false EC.u8 (b)),(.row true EC.pn []),(.row true EC.u64 [])] []) (0<=IntKind.i64.wrap (IntKind.i64.wrap (0+1)+1)/\IntKind.i64.wrap (IntKind.i64.wrap (0+1)+1)<(b.length:Int)/\brS (getB b (IntKind.i64.wrap (IntKind.i64.wrap (0+1)+1)).toNat != 80) (K (.tup [(TV.agg [(.val (VW 0)),(.val (VU 0)),(.slc 1),(.slc 2)]),(.at (.val (VI 13)))]) [(.row false EC.u8 (b)),(.row true EC.pn []),(.row true EC.u64 [])] []) (brS (IntKind.i64.wrap (IntKind.i64.wrap (IntKind.i64.wrap (0+1)+1)+1)==(b.length:Int)) (K (.tup [(TV.agg [(.val (VW 0)),(.val (VU 0)),(.slc 1),(.slc 2)]),(.at (.val (VI 12)))]) [(.row false EC.u8 (b)),(.row true EC.pn []),(.row true EC.u64 [])] []) (0<=IntKind.i64.wrap (IntKind.i64.wrap (IntKind.i64.wrap (0+1)+1)+1)/\
 IntKind.i64.wrap (IntKind.i64.wrap (IntKind.i64.wrap (0+1)+1)+1)<(b.length:Int)/\brS (getB b (IntKind.i64.wrap (IntKind.i64.wrap (IntKind.i64.wrap (0+1)+1)+1)).toNat != 49) (K (.tup [(TV.agg [(.val (VW 0)),(.val (VU 0)),(.slc 1),(.slc 2)]),(.at (.val (VI 13)))]) [(.row false EC.u8 (b)),(.row true EC.pn []),(.row true EC.u64 [])] []) (∃ x:PLift (mgD magB b=0),True/\(True/\True/\True)/\b=b/\(VW 0=VW 0/\VU 0=VU 0/\True/\True/\True)/\([]:List PNT)=[]/\([]:List Int)=[]/\True))))))))/\∀ x:PLift (mgD magB b=0),True->allB b/\b.length<=1000000000/\∀ p:List Int,∀ n:Int,∀ e:Int,nxD b 4=(Prod.mk (p) (Prod.mk (n) (e)))->brS (e != 0) (K (.tup [(TV.agg [(.val (VW 0)),(.val (VU 0)),(.slc 1),(.slc 2)]),(.at (.val (VI (e))))]) [(.row false EC.u8 (b)),(.row true EC.pn []),(.row true EC.u64 [])] []) (∃ x1:XRa P1,True/\(True/\True/\True/\VI (n)=VI (x1.n)/\True)/\b=b/\(VW 0=VW 0/\VU 0=VU 0/\True/\True/\True)/\([]:List PNT)=[]/\([]:List Int)=[]/\p=x1.p/\True)/\∀ x1:XRa P1,True->((0:Int)=0/\allB x1.p/\x1.p.length<=1000000000/\(hdD x1.p=none->∀ kk:Int,∃ x2:XRd P0,True/\(True/\True/\VI (x1.n)=VI (x2.n)/\True/\VW 0=(VW (x2.m))/\VW 0=(VW (x2.r))/\Value.bool false=(Value.bool (x2.ok))/\True)/\b=b/\(VW 0=VW 0/\VU 0=VU 0/\True/\True/\True)/\([]:List PNT)=[]/\([]:List Int)=[]/\(VW (kk)=VW (x2.k)/\VU 0=(VU (x2.D))/\True/\True/\True)/\([]:List PNT)=[]/\([]:List Int)=[]/\True)/\∀ k:Int,∀ m:Int,∀ r:Int,∀ D:Int,hdD x1.p=(some (Prod.mk (k) (Prod.mk (m) (Prod.mk (r) (D)))))->∃ x2:XRd P0,True/\(True/\True/\VI (x1.n)=VI (x2.n)/\
 True/\VW (m)=VW (x2.m)/\VW (r)=VW (x2.r)/\Value.bool true=(Value.bool (x2.ok))/\True)/\b=b/\(VW 0=VW 0/\VU 0=VU 0/\True/\True/\True)/\([]:List PNT)=[]/\([]:List Int)=[]/\(VW (k)=VW (x2.k)/\VU (D)=VU (x2.D)/\True/\True/\True)/\([]:List PNT)=[]/\([]:List Int)=[]/\True)/\∀ x2:XRd P0,True->brS (!x2.ok) (K (.tup [(TV.agg [(.val (VW 0)),(.val (VU 0)),(.slc 1),(.slc 2)]),(.at (.val (VI 13)))]) [(.row false EC.u8 (b)),(.row true EC.pn []),(.row true EC.u64 [])] []) (∃ x3:XRb P2,True/\(True/\True/\VI (x2.n)=VI (x3.n)/\True/\VW (x2.m)=VW (x3.m)/\VW (x2.r)=VW (x3.r)/\True)/\b=b/\(VW 0=VW 0/\VU 0=VU 0/\True/\True/\True)/\([]:List PNT)=[]/\([]:List Int)=[]/\(VW (x2.k)=VW (x3.k)/\VU (x2.D)=VU (x3.D)/\True/\True/\True)/\[]=x3.ns/\([]:List Int)=[]/\True)/\∀ x3:XRb P2,True->((∃ x4:XRb P3,True/\(True/\True/\VI (x3.n)=VI (x4.n)/\True/\VW (x3.m)=VW (x4.m)/\VW (x3.r)=VW (x4.r)/\VW 0=(VW (x4.i:Int))/\True)/\b=b/\(VW 0=VW 0/\VU 0=VU 0/\True/\True/\True)/\([]:List PNT)=[]/\([]:List Int)=[]/\(VW (x3.k)=VW (x4.k)/\VU (x3.D)=VU (x4.D)/\True/\True/\True)/\x3.ns=x4.ns/\([]:List Int)=[]/\True)/\∀ x4:XRb P3,True->brS (decide ((x4.i:Int)<x4.m)) (allB b/\b.length<=1000000000/\∀ p1:List Int,∀ n1:Int,∀ e1:Int,nxD b x4.n=(Prod.mk (p1) (Prod.mk (n1) (e1)))->brS (e1 != 0) (K (.tup [(TV.agg [(.val (VW 0)),(.val (VU 0)),(.slc 1),(.slc 2)]),(.at (.val (VI (e1))))]) [(.row false EC.u8 (b)),(.row true EC.pn []),(.row true EC.u64 [])] []) (0<=x4.k/\x4.k<=65536/\x4.ns.length<=65536/\allB p1/\p1.length<=1000000000/\((ndQ (x4.k+(x4.ns.length:Int)+1) p1)=none->K (.tup [(TV.agg [(.val (VW 0)),(.val (VU 0)),(.slc 1),(.slc 2)]),(.at (.val (VI 13)))]) [(.row false EC.u8 (b)),(.row true EC.pn []),(.row true EC.u64 [])] [])/\
 ∀ x5:PNT,(ndQ (x4.k+(x4.ns.length:Int)+1) p1)=(some (x5))->∃ x':XRb P3,True/\((True/\True/\VI (n1)=VI (x'.n)/\True/\VW (x4.m)=VW (x'.m)/\VW (x4.r)=VW (x'.r)/\(VW (IntKind.u64.wrap ((x4.i:Int)+1)))=(VW (x'.i:Int))/\True)/\b=b/\(VW 0=VW 0/\VU 0=VU 0/\True/\True/\True)/\([]:List PNT)=[]/\([]:List Int)=[]/\(VW (x4.k)=VW (x'.k)/\VU (x4.D)=VU (x'.D)/\True/\True/\True)/\(x4.ns++[x5])=x'.ns/\([]:List Int)=[]/\True)/\x'.m.toNat-x'.i<x4.m.toNat-x4.i)) (∃ x5:XRb P4,True/\(True/\True/\VI (x4.n)=VI (x5.n)/\True/\VW (x4.r)=VW (x5.r)/\True)/\b=b/\(VW 0=VW 0/\VU 0=VU 0/\True/\True/\True)/\([]:List PNT)=[]/\([]:List Int)=[]/\(VW (x4.k)=VW (x5.k)/\VU (x4.D)=VU (x5.D)/\True/\True/\True)/\x4.ns=x5.ns/\([]:List Int)=[]/\True))/\∀ x4:XRb P4,True->(allB b/\b.length<=1000000000/\∀ p1:List Int,∀ n1:Int,∀ e1:Int,nxD b x4.n=(Prod.mk (p1) (Prod.mk (n1) (e1)))->brS (e1 != 0) (K (.tup [(TV.agg [(.val (VW 0)),(.val (VU 0)),(.slc 1),(.slc 2)]),(.at (.val (VI (e1))))]) [(.row false EC.u8 (b)),(.row true EC.pn []),(.row true EC.u64 [])] []) (∃ x5:XRc P5,True/\(True/\True/\True/\VI (n1)=VI (x5.n)/\True/\VW (x4.r)=VW (x5.r)/\True)/\b=b/\(VW 0=VW 0/\VU 0=VU 0/\True/\True/\True)/\([]:List PNT)=[]/\([]:List Int)=[]/\(VW (x4.k)=VW (x5.k)/\VU (x4.D)=VU (x5.D)/\True/\True/\True)/\x4.ns=x5.ns/\([]:List Int)=[]/\p1=x5.p/\True))/\∀ x5:XRc P5,True->([]:List Int)=[]/\0<=x5.k/\x5.k<=65536/\x5.ns.length<=65536/\0<=x5.r/\x5.r<=1000000/\allB x5.p/\x5.p.length<=1000000000/\((tlD (x5.k+(x5.ns.length:Int)) x5.r.toNat x5.p)=none->∀ r:List Int,K (.tup [(TV.agg [(.val (VW 0)),(.val (VU 0)),(.slc 1),(.slc 2)]),(.at (.val (VI 13)))]) [(.row false EC.u8 (b)),(.row true EC.pn []),(.row true EC.u64 [])] [])/\
 ∀ r:List Int,(tlD (x5.k+(x5.ns.length:Int)) x5.r.toNat x5.p)=(some (r))->brS (x5.n != (b.length:Int)) (K (.tup [(TV.agg [(.val (VW 0)),(.val (VU 0)),(.slc 1),(.slc 2)]),(.at (.val (VI 13)))]) [(.row false EC.u8 (b)),(.row true EC.pn []),(.row true EC.u64 [])] []) (K (.tup [(TV.agg [(.val (VW (x5.k))),(.val (VU (x5.D))),(.slc 1),(.slc 2)]),(.at (.val (VI 0)))]) [(.row false EC.u8 (b)),(.row true EC.pn (x5.ns)),(.row true EC.u64 (r))] []))=_ by kernel_rfl) ?_
 subst hP1 hP0 hP2 hP3 hP4 hP5
 have er:∀ e,pkD b=(e,.zero)->K (.tup [.agg [vU64 0,vU 0,.slc 1,.slc 2],.at (vI e)]) [.row false EC.u8 b,.row true EC.pn [],.row true EC.u64 []] []:=fun e q=>h e .zero q
 have em:∀ e:Int,e≠0->mgD magB b=e->K (.tup [.agg [vU64 0,vU 0,.slc 1,.slc 2],.at (vI e)]) [.row false EC.u8 b,.row true EC.pn [],.row true EC.u64 []] []:=fun e e0 q=>er e (by unfold pkD;rw[if_pos (by rw[q];exact e0),q])
 obtain⟨m1,m2,m3,m4,m5,m6,m7,m8,m9⟩:=mg_cases b
 have ne_of:∀ {x y:Int},(x != y)=true->x≠y:=fun {x y} q e=>by rw[e] at q;simp at q
 have eq_of:∀ {x y:Int},(x != y)=false->x=y:=fun {x y} q=>by simpa using q
 have bn:∀ {x y:Int},(x==y)=false->x≠y:=fun {x y} q e=>by rw[e] at q;simp at q
 have w1:IntKind.i64.wrap (0+1)=1:=by decide
 have w2:IntKind.i64.wrap (1+1)=2:=by decide
 have w3:IntKind.i64.wrap (2+1)=3:=by decide
 rw[w1,w2,w3,show Int.toNat 0=0 from rfl,show Int.toNat 1=1 from rfl,show Int.toNat 2=2 from rfl,show Int.toNat 3=3 from rfl]
 refine⟨brS_of (fun z=>em 12 (by decide) (m1 (by have:=eq_of_beq z;omega))) fun z0=>⟨by decide,by have:=bn z0;omega,brS_of (fun z=>em 13 (by decide) (m2 (by have:=bn z0;omega) (ne_of z))) fun y0 =>
  brS_of (fun z=>em 12 (by decide) (m3 (eq_of y0) (by have:=eq_of_beq z;omega))) fun z1=>⟨by decide,by have:=bn z0;have:=bn z1;omega,brS_of (fun z=>em 13 (by decide) (m4 (eq_of y0) (by have:=bn z0;have:=bn z1;omega) (ne_of z))) fun y1 =>
  brS_of (fun z=>em 12 (by decide) (m5 (eq_of y0) (eq_of y1) (by have:=eq_of_beq z;omega))) fun z2=>⟨by decide,by have:=bn z0;have:=bn z1;have:=bn z2;omega,brS_of (fun z=>em 13 (by decide) (m6 (eq_of y0) (eq_of y1) (by have:=bn z0;have:=bn z1;have:=bn z2;omega) (ne_of z))) fun y2 =>
  brS_of (fun z=>em 12 (by decide) (m7 (eq_of y0) (eq_of y1) (eq_of y2) (by have:=eq_of_beq z;omega))) fun z3=>⟨by decide,by have:=bn z0;have:=bn z1;have:=bn z2;have:=bn z3;omega,brS_of (fun z=>em 13 (by decide) (m8 (eq_of y0) (eq_of y1) (eq_of y2) (by have:=bn z0;have:=bn z1;have:=bn z2;have:=bn z3;omega) (ne_of z))) fun y3=>?_⟩⟩⟩⟩,fun x _=>?_⟩
 ·refine⟨⟨m9 (eq_of y0) (eq_of y1) (eq_of y2) (eq_of y3) (by have:=bn z0;have:=bn z1;have:=bn z2;have:=bn z3;omega)⟩,?_⟩
  (repeat' first|exact trivial|exact rfl|refine And.intro ?_ ?_)
 obtain⟨mg⟩:=x
 clear m1 m2 m3 m4 m5 m6 m7 m8 m9
 refine⟨hb,by omega,fun p n e he=>⟨brS_of (fun z=>er e ?_) fun z=>⟨⟨p,n,mg,?_⟩,?_⟩,fun x1 _=>?_⟩⟩
 ·have z:=ne_of z
  unfold pkD
  rw[if_neg (by rw[mg];simp),he]
  simp only[ne_eq,z,not_false_eq_true,if_true]
 ·rw[he,eq_of z]
 ·(repeat' first|exact trivial|exact rfl|refine And.intro ?_ ?_)
 obtain⟨p,n,mg,he⟩:=x1
 have pr:=nxD_rng hb he
 refine⟨⟨rfl,pr.1,by show p.length<=_;omega,fun hd kk=>⟨⟨false,kk,0,0,0,n,mg,p,he,pr.1,fun _=>hd,fun e=>(by cases e)⟩,?_⟩,fun k m r D hd=>⟨⟨true,k,m,r,D,n,mg,p,he,pr.1,fun e=>(by cases e),fun _=>hd⟩,?_⟩⟩,fun x2 _=>⟨brS_of (fun z=>?_) fun z=>?_,fun x3 _=>⟨⟨?_,fun x4 _=>brS_of (fun y=>?_) fun y=>?_⟩,fun x4 _=>⟨?_,fun x5 _=>?_⟩⟩⟩⟩
 ·(repeat' first|exact trivial|exact rfl|refine And.intro ?_ ?_)
 ·(repeat' first|exact trivial|exact rfl|refine And.intro ?_ ?_)
 ·obtain⟨ok,k,m,r,D,n,mg,p,he,pb,h1,h2⟩:=x2
  dsimp only at z
  have z:ok=false:=by simpa using z
  refine er 13 ?_
  unfold pkD
  rw[if_neg (by rw[mg];simp),he]
  simp only[ne_eq,not_true_eq_false,if_false,h1 z]
 ·obtain⟨ok,k,m,r,D,n,mg,p,he,pb,h1,h2⟩:=x2
  dsimp only at z ⊢
  have z:ok=true:=by simpa using z
  refine⟨⟨k,m,r,D,[],n,0,⟨mg,p,he,pb,h2 z⟩,rfl⟩,?_⟩
  (repeat' first|exact trivial|exact rfl|refine And.intro ?_ ?_)
 ·obtain⟨k,m,r,D,ns,n,_,F,rfl⟩:=x3
  refine⟨⟨k,m,r,D,[],n,0,n,F,Nat.zero_le _,rfl,by rw[Nat.sub_zero]⟩,?_⟩
  (repeat' first|exact trivial|exact rfl|refine And.intro ?_ ?_)
 ·obtain⟨k,m,r,D,ns,n,i,n0,F,hi,hn,hq⟩:=x4
  dsimp only at y ⊢
  obtain⟨k2,m2,r2⟩:=F.rng
  have y:i<m.toNat:=by have:=of_decide_eq_true y;omega
  obtain⟨d,ed⟩:∃ d,m.toNat-i=d+1:=⟨m.toNat-i-1,by omega⟩
  refine⟨hb,by omega,fun p2 n2 e2 he2=>?_⟩
  have pr2:=nxD_rng hb he2
  have hs:=nsD_succ (k:=k) (d:=d) (ns:=ns) he2
  rw[ed,hs] at hq
  refine brS_of (fun q=>er e2 ?_) fun q=>⟨k2.1,k2.2,by omega,pr2.1,by omega,fun hx=>er 13 ?_,fun x hx=>?_⟩
  ·have q:=ne_of q
   rw[if_pos q] at hq
   rw[F.pk hq,if_pos q]
  ·rw[if_neg (by rw[eq_of q];simp),hx] at hq
   rw[F.pk hq,if_pos (by decide)]
  ·rw[if_neg (by rw[eq_of q];simp),hx] at hq
   rw[wrap_u64 (x:=(i:Int)+1) (by omega) (by omega)]
   refine⟨⟨k,m,r,D,ns++[x],n2,i+1,n0,F,y,by rw[List.length_append,hn];rfl,by rw[hq,show m.toNat-(i+1)=d by omega]⟩,trivial,?_,by show m.toNat-(i+1)<m.toNat-i;omega⟩
   (repeat' first|exact trivial|exact rfl|refine And.intro ?_ ?_)
 ·obtain⟨k,m,r,D,ns,n,i,n0,F,hi,hn,hq⟩:=x4
  dsimp only at y ⊢
  obtain⟨k2,m2,r2⟩:=F.rng
  have y:m.toNat-i=0:=by have:=of_decide_eq_false y;omega
  rw[y] at hq
  refine⟨⟨k,m,r,D,ns,n,0,n0,F,by omega,hq⟩,trivial,?_⟩
  (repeat' first|exact trivial|exact rfl|refine And.intro ?_ ?_)
 ·obtain⟨k,m,r,D,ns,n,_,n0,F,hn,hq⟩:=x4
  dsimp only
  refine⟨hb,by omega,fun p2 n2 e2 he2=>brS_of (fun q=>er e2 ?_) fun q=>⟨⟨k,m,r,D,ns,n2,p2,n0,n,F,hn,hq,by rw[he2,eq_of q]⟩,?_⟩⟩
  ·rw[F.pk hq,if_neg (by simp),he2]
   simp only[ne_eq,ne_of q,not_false_eq_true,if_true]
  ·(repeat' first|exact trivial|exact rfl|refine And.intro ?_ ?_)
 ·obtain⟨k,m,r,D,ns,n,p2,n0,n1,F,hn,hq,he2⟩:=x5
  dsimp only
  obtain⟨k2,m2,r2⟩:=F.rng
  have pr2:=nxD_rng hb he2
  have pk:=F.pk hq
  rw[if_neg (by simp),he2] at pk
  simp only[ne_eq,not_true_eq_false,if_false] at pk
  refine⟨rfl,k2.1,k2.2,hn,r2.1,by omega,pr2.1,by omega,fun ht rr=>er 13 ?_,fun rs ht=>brS_of (fun q=>er 13 ?_) fun q=>h 0 ⟨k,D,ns,rs⟩ ?_⟩
  ·rw[pk,ht]
  ·rw[pk,ht]
   simp only[ne_of q,if_false]
  ·rw[pk,ht]
   simp only[eq_of q,if_true]
theorem s_re:SoundT C0 53 tRe:=by
 refine .of Tryz.func53 (by decide) rfl fun args H K h hB=>?_
 unfold tRe at h
 split at h<;>try exact h.elim
 rename_i b
 refine⟨_,?_,vc_re b K h.1 h.2.1 h.2.2⟩
 exact⟨frame C0.ok s_nx _,frame C0.ok s_hd _,frame C0.ok s_no _,frame C0.ok s_tl _,trivial⟩
end Go.Proofs.YtedfbafngmicpaaGreat.Sx
end
section
/- Ranks and positions. -/
namespace Go.Proofs.YtedfbafngmicpaaGreat.Sx
open Go

/-KEEP Wf exW inU live Arn.cap Arn.free Rep rdS Tr.size ne0 bf sel selR-/
def entO (o:Option Ent):TV:=.agg [vI (o.getD (0,0)).1,vI (o.getD (0,0)).2]
end Go.Proofs.YtedfbafngmicpaaGreat.Sx
end
section
/- The nearest entries of a tree. No program in sight. -/
namespace Go.Proofs.YtedfbafngmicpaaGreat
open Go

end Go.Proofs.YtedfbafngmicpaaGreat
end
section
/- The nearest entries of a tree: lookup's functions. -/
namespace Go.Proofs.YtedfbafngmicpaaGreat.Sx
open Go

/-KEEP Wf exW inU live Arn.cap Arn.free Rep rdS Tr.size lsT gtT entO-/
def tEntry:Tfm C0:=fun args H K=>match args,H with
 | [.agg [.val (.int .i64 k),.val (.int .i64 v),.val (.int .u32 _),.val (.int .u32 _),.val (.int .i64 _),.val (.int .i64 _),.val (.int .i64 _),.val (.int .i64 _)]],[]=>K (.one (.agg [vI k,vI v])) [] []
 | _,_=>False
theorem s_entry:SoundT C0 148 tEntry:=by
 refine .of Tryz.func148 (by decide) rfl fun args H K h hB=>⟨A0,trivial,?_⟩
 unfold tEntry at h
 split at h<;>try exact h.elim
 exact Eq.mp (show _=_ by kernel_rfl) h
end Go.Proofs.YtedfbafngmicpaaGreat.Sx
end
section
/- How high a balanced tree is at most, and how many nodes a listing reads. No program in sight. -/
namespace Go.Proofs.YtedfbafngmicpaaGreat
open Go

def wtsL:List Int:=[1,2,3,4,6,8,11,15,20,27,36,48,64,86,115,154,206,275,367,490,654,872,1163,1551,2068,2758,3678,4904,6539,8719,11626,15502,20670,27560,36747,48996,65328,87104,116139,154852,206470,275294,367059,489412,652550,870067,1160090,1546787,2062383,2749844,3666459,4888612,6518150,8690867,11587823,15450431,20600575,27467434,36623246,48830995,65107994,86810659,115747546,154330062,205773416,274364555,365819407,487759210,650345614,867127486,1156169982,1541559976,2055413302,2740551070,3654068094,4872090792,6496121056,8661494742,11548659656,15398212875,20530950500]
def wt (h:Nat):Int:=wtsL.getD h 0
def hnC:List Int->Int->Int->Int
 | [],h,_=>h
 | w::l,h,k=>if w-1<=k then hnC l (h+1) k else h
def Hn (k:Int):Int:=hnC (wtsL.drop 1) 0 k
theorem wt_step:∀ h<80,wt (h+1)=wt h+(wt h+2) / 3:=by decide
theorem hnC_le:∀ (l:List Int) (h k:Int),h<=hnC l h k
 | [],_,_=>Int.le_refl _
 | w::l,h,k=>by
  unfold hnC
  split
  ·have:=hnC_le l (h+1) k;omega
  ·exact Int.le_refl _
theorem hnC_ge : ∀ (l : List Int) (h k : Int) (m : Nat), m ≤ l.length → (∀ i < m, l.getD i 0 - 1 ≤ k) → h + m ≤ hnC l h k
  | [], h, k, m, hm, _ => by have : m = 0 := by simpa using hm
                             subst this; show h + 0 ≤ h; omega
  | w :: l, h, k, 0, _, _ => by have := hnC_le (w :: l) h k; show h + 0 ≤ _; omega
  | w :: l, h, k, m + 1, hm, hk => by
    have h0 := hk 0 (by omega)
    unfold hnC
    rw [if_pos (by simpa using h0)]
    have := hnC_ge l (h + 1) k m (by simpa using hm) (fun i hi => by have := hk (i + 1) (by omega); simpa using this)
    omega
theorem hnC_up:∀ (l:List Int) (h k:Int),hnC l h k<=h+l.length
 | [],h,k=>by show h<=h+0;omega
 | w::l,h,k=>by
  unfold hnC
  have:=hnC_up l (h+1) k
  rw[List.length_cons]
  split<;>omega
theorem Hn_rng (k:Int):0<=Hn k/\Hn k<=80:=by
 have h1:=hnC_le (wtsL.drop 1) 0 k
 have h2:=hnC_up (wtsL.drop 1) 0 k
 have h3:(wtsL.drop 1).length=80:=rfl
 unfold Hn
 omega
def ht:Tr->Nat
 | .nil=>0
 | .node l _ _ r=>1+(if ht l<=ht r then ht r else ht l)
theorem bal_wt : ∀ (t : Tr) (h : Nat), t.Bal → h ≤ 80 → h ≤ ht t → wt h ≤ t.size + 1
  | t, 0, _, _, _ => by have : wt 0 = 1 := rfl
                        rw [this]; omega
  | .nil, h + 1, _, _, hh => by simp [ht] at hh
  | .node l k v r, h + 1, hb, h8, hh => by
    obtain ⟨b0, bl, br⟩ := hb
    unfold balN at b0
    have hs : ((Tr.node l k v r).size : Int) = 1 + l.size + r.size := by simp [Tr.size]
    have st := wt_step h (by omega)
    have hh : h + 1 ≤ 1 + (if ht l ≤ ht r then ht r else ht l) := hh
    by_cases c : ht l ≤ ht r
    · rw [if_pos c] at hh
      have := bal_wt r h br (by omega) (by omega)
      omega
    · rw [if_neg c] at hh
      have := bal_wt l h bl (by omega) (by omega)
      omega
theorem Bal.height {t:Tr}(hb:t.Bal)(hs:t.size<=1000000):(ht t:Int)<=Hn t.size:=by
 have h80:ht t<=80:=by
  by_cases c:ht t<=80
  ·exact c
  ·have:=bal_wt t 80 hb (Nat.le_refl _) (by omega)
   have e:wt 80=20530950500:=rfl
   omega
 have hl:(wtsL.drop 1).length=80:=rfl
 have:=hnC_ge (wtsL.drop 1) 0 t.size (ht t) (by omega) (fun i hi=>by
  have e:(wtsL.drop 1).getD i 0=wt (i+1):=by simp[wt,List.getD_eq_getElem?_getD]
  have:=bal_wt t (i+1) hb (by omega) (by omega)
  rw[e];omega)
 unfold Hn
 omega

/-! ### Reads of a listing by keys -/
theorem ht_l (l r:Tr)(k v:Int):1+ht l<=ht (.node l k v r):=by rw[ht];split<;>omega
theorem ht_r (l r:Tr)(k v:Int):1+ht r<=ht (.node l k v r):=by rw[ht];split<;>omega
/-! ### Reads of a listing by places -/
end Go.Proofs.YtedfbafngmicpaaGreat
end
section
/- What joining trees costs, and that one rotation is enough. No program in sight. -/
namespace Go.Proofs.YtedfbafngmicpaaGreat
open Go

/-! ### The greatest height of a weight -/
def gN (w:Nat):Nat:=(Hn ((w:Int)-1)).toNat
theorem hnC_spec:∀ (l:List Int) (h k:Int) (i:Nat),(i:Int)<hnC l h k-h->l.getD i 0-1<=k
 | [],h,k,i,hi=>by simp[hnC] at hi;omega
 | w::l,h,k,i,hi=>by
  unfold hnC at hi
  split at hi
  ·rename_i c
   cases i with
   | zero=>simpa using c
   | succ i=>have:=hnC_spec l (h+1) k i (by omega);simpa using this
  ·omega
theorem wtsL_drop (i:Nat):(wtsL.drop 1).getD i 0=wt (i+1):=by simp[wt,List.getD_eq_getElem?_getD]
theorem gN_rng (w:Nat):gN w<=80:=by have:=Hn_rng ((w:Int)-1);unfold gN;omega
theorem gN_Hn (w:Nat):(gN w:Int)=Hn ((w:Int)-1):=by have:=Hn_rng ((w:Int)-1);unfold gN;omega
theorem gN_size (n:Nat):(gN (n+1):Int)=Hn n:=by rw[gN_Hn];congr 1;omega
theorem gN_wt {w : Nat} (hw : 1 ≤ w) : wt (gN w) ≤ w := by
  have h0 := Hn_rng ((w : Int) - 1)
  have e := gN_Hn w
  cases h : gN w with
  | zero => have : wt 0 = 1 := rfl
            rw [this]; omega
  | succ g =>
    have := hnC_spec (wtsL.drop 1) 0 ((w : Int) - 1) g (by unfold Hn at e; omega)
    rw [wtsL_drop] at this
    omega
theorem wt_mono1:∀ h<80,wt h<wt (h+1):=by decide
theorem wt_mono:∀ {i j:Nat},i<=j->j<=80->wt i<=wt j:=by
 intro i j h
 induction h with
 | refl=>intro _;exact Int.le_refl _
 | @step m h ih=>intro hj;have:=ih (by omega);have:=wt_mono1 m (by omega);show wt i<=wt (m+1);omega
theorem gN_le {w h:Nat}(h8:h<=80)(hw:wt h<=w):h<=gN w:=by
 have hl:(wtsL.drop 1).length=80:=rfl
 have:=hnC_ge (wtsL.drop 1) 0 ((w:Int)-1) h (by omega) (fun i hi=>by
  rw[wtsL_drop]
  have:=wt_mono (show i+1<=h by omega) h8
  omega)
 have e:=gN_Hn w
 unfold Hn at e
 omega
theorem gN_mono {v w:Nat}(hv:1<=v)(h:v<=w):gN v<=gN w:=gN_le (gN_rng v) (by have:=gN_wt hv;omega)
theorem gN_small {w:Nat}(hw:1<=w)(h:w<=1000000):gN w<=60:=by
 by_cases c:gN w<=60
 ·exact c
 ·have h1:=gN_wt hw
  have h2:=wt_mono (show 61<=gN w by omega) (gN_rng w)
  have:wt 61=86810659:=rfl
  omega
theorem gN_step {m w:Nat}(hm:1<=m)(h:4*m<=3*w)(hw:w<=1000000):gN m+1<=gN w:=by
 have h1:=gN_small hm (by omega)
 have h2:=gN_wt hm
 have h3:=wt_step (gN m) (by omega)
 exact gN_le (by omega) (by omega)
/-! ### How often a join goes down -/
def dsc (w v:Nat):Nat:=if h:w<=3*v then 0 else 1+dsc (3*w / 4) v
termination_by w
decreasing_by omega
theorem dsc_zero {w v:Nat}(h:w<=3*v):dsc w v=0:=by rw[dsc,dif_pos h]
theorem dsc_succ {w v:Nat}(h:¬ w<=3*v):dsc w v=1+dsc (3*w / 4) v:=by rw[dsc,dif_neg h]
theorem dsc_mono (v:Nat):∀ (n w w':Nat),w'<n->w<=w'->dsc w v<=dsc w' v:=by
 intro n
 induction n with
 | zero=>intro w w' h;omega
 | succ n ih =>
  intro w w' hn h
  by_cases c:w<=3*v
  ·rw[dsc_zero c];exact Nat.zero_le _
  ·rw[dsc_succ c,dsc_succ (show ¬ w'<=3*v by omega)]
   have:=ih (3*w / 4) (3*w' / 4) (by omega) (by omega)
   omega
theorem dsc_one {w v:Nat}(h:w<=3*v+3)(hv:2<=v):dsc w v<=1:=by
 by_cases c:w<=3*v
 ·rw[dsc_zero c];omega
 ·rw[dsc_succ c,dsc_zero (by omega)];omega
theorem dsc_tiny {w:Nat}(h:w<=5):dsc w 1<=1:=by
 by_cases c:w<=3
 ·rw[dsc_zero (by omega)];omega
 ·rw[dsc_succ (by omega),dsc_zero (by omega)];omega
def jB (a b:Nat):Nat:=1+3*(dsc (a+1) (b+1)+dsc (b+1) (a+1))
theorem jB_pos (a b:Nat):1<=jB a b:=by unfold jB;omega
theorem jB_comm (a b:Nat):jB a b=jB b a:=by unfold jB;omega
theorem jB_bal {a b:Nat}(h:balN a b):jB a b=1:=by
 unfold balN at h
 unfold jB
 rw[dsc_zero (by omega),dsc_zero (by omega)]
theorem jB_down {s m r:Nat}(h:balN s m)(hb:¬ balN ((s+m+1:Nat):Int) r)(hg:r<s+m+1):jB m r+3<=jB (s+m+1) r:=by
 unfold balN at h hb
 unfold jB
 rw[dsc_zero (w:=r+1) (by omega),dsc_zero (w:=r+1) (by omega),dsc_succ (w:=s+m+1+1) (by omega)]
 have:=dsc_mono (r+1) (3*(s+m+1+1) / 4+1) (m+1) (3*(s+m+1+1) / 4) (by omega) (by omega)
 omega
/-! ### Rotations -/
def near (a b:Nat):Prop:=3*(b+1)<=13*(a+1)/\3*(a+1)<=13*(b+1)
theorem join_near {s m r:Nat}(h:balN s m)(hb:¬ balN ((s+m+1:Nat):Int) r)(hg:r<s+m+1):near s (m+r+1):=by
 unfold balN at h hb
 unfold near
 omega
theorem rot_nil {a s:Nat}(hn:near a (0+s+1))(h1:balN (0:Nat) s)(_:¬ balN a ((0+s+1:Nat):Int))(hlt:a<0+s+1):balN a (0:Nat)/\balN ((a+0+1:Nat):Int) s:=by
 unfold balN at *
 unfold near at hn
 omega
theorem rot_two {a s x y:Nat}(hn:near a (x+y+1+s+1))(h1:balN ((x+y+1:Nat):Int) s)(h2:balN x y)(hb:¬ balN a ((x+y+1+s+1:Nat):Int))(hlt:a<x+y+1+s+1)(hc:¬ (balN a ((x+y+1:Nat):Int)/\balN ((a+(x+y+1)+1:Nat):Int) s)):balN a x/\balN y s/\balN ((a+x+1:Nat):Int) ((y+s+1:Nat):Int):=by
 unfold balN at *
 unfold near at hn
 omega
theorem near_comm {a b:Nat}(h:near a b):near b a:=⟨h.2,h.1⟩
theorem balN_comm {a b:Int}(h:balN a b):balN b a:=⟨h.2,h.1⟩
/-! ### States between -/
variable {S S' S1 S2:Arn} {hs h1 h2 hs1 hs2:List Int}
structure Got (S:Arn) (hs:List Int) (mk rd:Nat) (S':Arn) (hs':List Int):Prop where
 wf:Wf S' hs'
 stay:Stay S S' hs
 len:S'.used.length=S.used.length
 nu:S'.nu<=S.nu+mk
 rd0:S.reads<=S'.reads
 rd:S'.reads<=S.reads+rd
theorem Got.free {m r:Nat}(h:Got S hs m r S' hs1)(w:Wf S hs2):S.free<=S'.free+m:=by
 have a:=w.free_nonneg.2.2.2
 have b:=h.wf.free_nonneg.2.2.2
 have c:S'.cap=S.cap:=by unfold Arn.cap;rw[h.len]
 have:=h.nu
 omega
theorem Got.seq {h:List Int}{m1 r1 m2 r2:Nat}(a:Got S h1 m1 r1 S1 hs1)(b:Got S1 h2 m2 r2 S2 hs2)(e1:∀ i∈h,i∈h1)(e2:∀ i∈h,i∈h2):Got S h (m1+m2) (r1+r2) S2 hs2 where
 wf:=b.wf
 stay:=(a.stay.mono e1).trans (b.stay.mono e2)
 len:=b.len.trans a.len
 nu:=by have:=a.nu;have:=b.nu;omega
 rd0:=Int.le_trans a.rd0 b.rd0
 rd:=by have:=a.rd;have:=b.rd;omega
theorem Got.mono {m r m' r':Nat}(a:Got S hs m r S' hs1)(h1:m<=m')(h2:r<=r'):Got S hs m' r' S' hs1 where
 wf:=a.wf
 stay:=a.stay
 len:=a.len
 nu:=by have:=a.nu;omega
 rd0:=a.rd0
 rd:=by have:=a.rd;omega
theorem Got.perm {m r:Nat}(a:Got S hs m r S' hs1)(p:hs1.Perm hs2):Got S hs m r S' hs2:=⟨a.wf.perm p,a.stay,a.len,a.nu,a.rd0,a.rd⟩
theorem Got.rds (w:Wf S hs1){n:Nat}(hn:S.reads+n<=4000000000000000000):Got S hs 0 n (rdS S n) hs1 where
 wf:=w.rd hn
 stay:=stay_rd S n hs
 len:=rfl
 nu:=Nat.le_refl _
 rd0:=by show S.reads<=S.reads+n;omega
 rd:=Int.le_refl _
theorem Got.refl (w:Wf S hs1):Got S hs 0 0 S hs1:=⟨w,Stay.refl _ _,rfl,Nat.le_refl _,Int.le_refl _,by omega⟩
theorem Got.node {k v:Int}{tl tr:Tr}{i:Int}(n:NodeR S hs k v tl tr S' i):Got S hs 1 0 S' (i::hs):=⟨n.wf,n.stay,n.len,by rw[n.nu];exact Nat.le_refl _,by rw[n.rds];exact Int.le_refl _,by rw[n.rds];omega⟩
structure TrR (S:Arn) (hs:List Int) (L:List Ent) (mk rd:Nat) (S':Arn) (i:Int):Prop where
 got:Got S hs mk rd S' (i::hs)
 tree:∃ t,Rep S' t i/\t.list=L/\t.Bal
theorem TrR.mono {L:List Ent}{m r m' r':Nat}{i:Int}(a:TrR S hs L m r S' i)(h1:m<=m')(h2:r<=r'):TrR S hs L m' r' S' i:=⟨a.got.mono h1 h2,a.tree⟩
end Go.Proofs.YtedfbafngmicpaaGreat
end
section
/- Taking a node apart, holding and giving back a tree. No program in sight. -/
namespace Go.Proofs.YtedfbafngmicpaaGreat
open Go

variable {S S' S1 S2:Arn} {hs h1 h2 hs1 hs2:List Int}

theorem countP_le:∀ (l m:List Bool),l.length=m.length->(∀ i:Nat,m.getD i false=true->l.getD i false=true)->m.countP id<=l.countP id
 | [],[],_,_=>Nat.le_refl _
 | [],_::_,h,_=>by simp at h
 | _::_,[],h,_=>by simp at h
 | a::l,b::m,h,hi=>by
  have h0:=hi 0
  have ih:=countP_le l m (by simpa using h) (fun i=>by simpa using hi (i+1))
  simp at h0
  rw[List.countP_cons,List.countP_cons]
  cases a<;>cases b<;>simp_all<;>omega
theorem Kept.nu_le (k:Kept S S'):S'.nu<=S.nu:=by
 unfold Arn.nu
 refine countP_le _ _ k.len.symm fun i hi=>?_
 have:=(k.kp (i:Int) (by unfold Arn.us;simpa using hi)).1
 unfold Arn.us at this
 simpa using this
def retL (S:Arn)(i:Int):Arn:=if i=0 then S else retA S i
theorem retL_flds (S:Arn)(i:Int):(retL S i).reads=S.reads/\(retL S i).used=S.used/\(∀ j,(retL S i).us j=S.us j)/\(∀ j,(retL S i).nd j=S.nd j)/\(∀ j,(retL S i).gn j=S.gn j):=by
 unfold retL;split<;>exact⟨rfl,rfl,fun _=>rfl,fun _=>rfl,fun _=>rfl⟩
theorem retL_wf (w:Wf S hs){i:Int}(hi:i=0∨S.us i=true)(hl:hs.length<=999999990):Wf (retL S i) (i::hs):=by
 unfold retL
 split
 ·rename_i e;subst e;exact w.zero_cons (by omega)
 ·rename_i e;exact w.ret (hi.resolve_left e) (by omega)
theorem retL_got (w:Wf S hs1){i:Int}(hi:i=0∨S.us i=true)(hl:hs1.length<=999999990):Got S hs 0 0 (retL S i) (i::hs1):=by
 obtain⟨a,b,c,d,e⟩:=retL_flds S i
 exact⟨retL_wf w hi hl,stay_same c d e hs,by rw[b],by unfold Arn.nu;rw[b];exact Nat.le_refl _,by rw[a];exact Int.le_refl _,by rw[a];omega⟩
theorem Rep.retL {t:Tr}{i j:Int}(h:Rep S t i):Rep (retL S j) t i:=Rep.same (retL_flds S j).2.2.1 (retL_flds S j).2.2.2.1 h
theorem rel_got {i:Int}(w:Wf S (i::hs1))(w':Wf S' hs1)(k:Kept S S'):Got S hs1 0 0 S' hs1:=⟨w',k.stay w w',k.len,k.nu_le,by rw[k.rds];exact Int.le_refl _,by rw[k.rds];omega⟩
structure OpnR (S:Arn) (hs:List Int) (a:Tr) (k v:Int) (b:Tr) (S':Arn) (l r:Int):Prop where
 got:Got S hs 0 1 S' (l::r::hs)
 repl:Rep S' a l
 repr:Rep S' b r
theorem opn_wf {i:Int}{a b:Tr}{k v:Int}(w:Wf S (i::hs))(hr:Rep S (.node a k v b) i)(hl:hs.length<=900000000)(hrd:S.reads+1<=4000000000000000000) :
  Wf (rdS S 1) (i::hs)/\Wf (retL (rdS S 1) (S.nd i).left) ((S.nd i).left::i::hs)/\Wf (retL (retL (rdS S 1) (S.nd i).left) (S.nd i).right) (i::(S.nd i).left::(S.nd i).right::hs):=by
 have w1:Wf (rdS S 1) (i::hs):=w.rd (by omega)
 have hk:=w.kid i hr.1
 have w2:=retL_wf w1 (i:=(S.nd i).left) hk.1 (by simp;omega)
 have w3:=retL_wf w2 (i:=(S.nd i).right) (by rw[(retL_flds _ _).2.2.1];exact hk.2) (by simp;omega)
 refine⟨w1,w2,w3.perm ?_⟩
 refine (List.Perm.swap _ _ _).trans ?_
 refine ((List.Perm.swap _ _ _).cons _).trans ?_
 exact List.Perm.swap _ _ _
theorem opn_ok {i:Int}{a b:Tr}{k v:Int}(w:Wf S (i::hs))(hr:Rep S (.node a k v b) i)(hl:hs.length<=900000000)(hrd:S.reads+1<=4000000000000000000)(w':Wf S' ((S.nd i).left::(S.nd i).right::hs))(kp:Kept (retL (retL (rdS S 1) (S.nd i).left) (S.nd i).right) S'):OpnR S hs a k v b S' (S.nd i).left (S.nd i).right:=by
 obtain⟨w1,w2,w3⟩:=opn_wf w hr hl hrd
 have hk:=w.kid i hr.1
 have g1:Got S hs 0 1 (rdS S 1) (i::hs):=Got.rds w (by omega)
 have g2:Got (rdS S 1) hs 0 0 _ _:=retL_got (hs:=hs) w1 (i:=(S.nd i).left) hk.1 (by simp;omega)
 have g3:Got (retL (rdS S 1) (S.nd i).left) hs 0 0 _ _:=retL_got (hs:=hs) w2 (i:=(S.nd i).right) (by rw[(retL_flds _ _).2.2.1];exact hk.2) (by simp;omega)
 have g4:=rel_got w3 w' kp
 refine⟨(((g1.seq g2 (h:=hs) (fun _ h=>h) (fun _ h=>h)).seq g3 (fun _ h=>h) (fun _ h=>h)).seq g4 (fun _ h=>h) (fun _ h=>by simp[h])),?_,?_⟩
 ·have h1:Rep (retL (retL (rdS S 1) (S.nd i).left) (S.nd i).right) a (S.nd i).left:=(Rep.same (S:=S) (S':=rdS S 1) (fun _=>rfl) (fun _=>rfl) hr.2.2.2.1).retL.retL
  exact h1.held w3 (kp.stay w3 w') (.inr (by simp))
 ·have h1:Rep (retL (retL (rdS S 1) (S.nd i).left) (S.nd i).right) b (S.nd i).right:=(Rep.same (S:=S) (S':=rdS S 1) (fun _=>rfl) (fun _=>rfl) hr.2.2.2.2).retL.retL
  exact h1.held w3 (kp.stay w3 w') (.inr (by simp))
theorem perm_rot {α:Type}(a b c:α)(l:List α):(a::b::c::l).Perm (c::a::b::l):=((List.Perm.swap c b l).cons a).trans (List.Perm.swap c a (b::l))
theorem perm_tor {α:Type}(a b c:α)(l:List α):(a::b::c::l).Perm (b::c::a::l):=(perm_rot b c a l).symm
theorem Got.rdn {m r n k:Nat}(a:Got S hs m r S1 hs1)(hn:n<=k)(hb:S1.reads+n<=4000000000000000000):Got S hs m (r+k) (rdS S1 n) hs1 :=
 (a.seq (Got.rds (hs:=hs) a.wf hb) (fun _ h=>h) (fun _ h=>h)).mono (by omega) (by omega)
theorem Rep.rdn {t:Tr}{i:Int}{n:Nat}(h:Rep S t i):Rep (rdS S n) t i:=Rep.same (S:=S) (S':=rdS S n) (fun _=>rfl) (fun _=>rfl) h
/-! ### Rotations on the arena -/
section
variable {S0 S3 S4:Arn} {A M B x y:Tr} {k1 v1 k2 v2 k3 v3 u m w i j q ix iy:Int} {r0:Nat}
theorem single_okL (g:Got S0 hs 0 r0 S (u::m::w::hs))(n1:NodeR S (w::hs) k1 v1 A M S2 i)(n2:NodeR S2 hs k2 v2 (.node A k1 v1 M) B S3 j)(bA:A.Bal)(bM:M.Bal)(bB:B.Bal)(c1:balN A.size M.size)(c2:balN ((A.size+M.size+1:Nat):Int) B.size):TrR S0 hs (A.list++(k1,v1)::(M.list++(k2,v2)::B.list)) 3 (r0+1) S3 j where
 got:=((g.seq (Got.node n1) (h:=hs) (fun _ h=>h) (fun _ h=>by simp[h])).seq (Got.node n2) (fun _ h=>h) (fun _ h=>h)).mono (by omega) (by omega)
 tree:=⟨_,n2.rep,by simp[Tr.list],by
  refine⟨?_,⟨c1,bA,bM⟩,bB⟩
  have e:((Tr.node A k1 v1 M).size:Int)=((A.size+M.size+1:Nat):Int):=by simp[Tr.size];omega
  rw[e];exact c2⟩
theorem single_okR (g:Got S0 hs 0 r0 S (u::m::w::hs))(n1:NodeR S (u::hs) k2 v2 M B S2 i)(n2:NodeR S2 hs k1 v1 A (.node M k2 v2 B) S3 j)(bA:A.Bal)(bM:M.Bal)(bB:B.Bal)(c1:balN M.size B.size)(c2:balN A.size ((M.size+B.size+1:Nat):Int)):TrR S0 hs (A.list++(k1,v1)::(M.list++(k2,v2)::B.list)) 3 (r0+1) S3 j where
 got:=((g.seq (Got.node n1) (h:=hs) (fun _ h=>h) (fun _ h=>by simp[h])).seq (Got.node n2) (fun _ h=>h) (fun _ h=>h)).mono (by omega) (by omega)
 tree:=⟨_,n2.rep,by simp[Tr.list],by
  refine⟨?_,bA,⟨c1,bM,bB⟩⟩
  have e:((Tr.node M k2 v2 B).size:Int)=((M.size+B.size+1:Nat):Int):=by simp[Tr.size];omega
  rw[e];exact c2⟩
theorem double_ok (g:Got S0 hs 0 r0 S (u::m::w::hs))(o:OpnR S (u::w::hs) x k3 v3 y S1 ix iy)(n1:NodeR S1 (iy::w::hs) k1 v1 A x S2 i)(n2:NodeR S2 (i::hs) k2 v2 y B S3 j)(n3:NodeR S3 hs k3 v3 (.node A k1 v1 x) (.node y k2 v2 B) S4 q)(bA:A.Bal)(bx:x.Bal)(bY:y.Bal)(bB:B.Bal)(c1:balN A.size x.size)(c2:balN y.size B.size)(c3:balN ((A.size+x.size+1:Nat):Int) ((y.size+B.size+1:Nat):Int)) :
  TrR S0 hs (A.list++(k1,v1)::(x.list++(k3,v3)::(y.list++(k2,v2)::B.list))) 3 (r0+1) S4 q where
 got:=((((g.seq o.got (h:=hs) (fun _ h=>h) (fun _ h=>by simp[h])).seq (Got.node n1) (h:=hs) (fun _ h=>h) (fun _ h=>by simp[h])).seq (Got.node n2) (h:=hs) (fun _ h=>h) (fun _ h=>by simp[h])).seq (Got.node n3) (fun _ h=>h) (fun _ h=>h)).mono (by omega) (by omega)
 tree:=⟨_,n3.rep,by simp[Tr.list],by
  refine⟨?_,⟨c1,bA,bx⟩,⟨c2,bY,bB⟩⟩
  have e:((Tr.node A k1 v1 x).size:Int)=((A.size+x.size+1:Nat):Int):=by simp[Tr.size];omega
  have e2:((Tr.node y k2 v2 B).size:Int)=((y.size+B.size+1:Nat):Int):=by simp[Tr.size];omega
  rw[e,e2];exact c3⟩
end
end Go.Proofs.YtedfbafngmicpaaGreat
end
section
/- Lists and costs of taking trees apart and putting them together. No program in sight. -/
namespace Go.Proofs.YtedfbafngmicpaaGreat
open Go

/-! ### Lists -/
theorem asc_parts {a b:List Ent}{k v:Int}(h:Asc (a++(k,v)::b)):Asc a/\Asc b/\(∀ x∈a,x.1<k)/\(∀ x∈b,k<x.1) :=
 ⟨Srt.left h,(Srt.right h).tail,fun x hx=>(List.pairwise_append.1 h).2.2 x hx (k,v) (by simp),fun x hx=>(Srt.right h).head x hx⟩
theorem asc_join {a b:List Ent}{k v:Int}(h1:Asc a)(h2:Asc b)(h3:∀ x∈a,x.1<k)(h4:∀ x∈b,k<x.1):Asc (a++(k,v)::b):=by
 refine List.pairwise_append.2 ⟨h1,Srt.cons h2 h4,fun x hx y hy=>?_⟩
 rcases List.mem_cons.1 hy with rfl|hy
 ·exact h3 x hx
 ·have:=h3 x hx;have:=h4 y hy;omega
theorem insE_left {a b:List Ent}{k v:Int}{e:Ent}(h:Asc (a++(k,v)::b))(he:e.1<k):insE (a++(k,v)::b) e=insE a e++(k,v)::b:=by
 induction a with
 | nil =>
  rw[List.nil_append,insE_cons h,if_pos he]
  simp[insE,insGo]
 | cons x a ih =>
  have ha:Asc (x::a):=Srt.left h
  have h':Asc (x::(a++(k,v)::b)):=h
  rw[List.cons_append,insE_cons h',insE_cons ha,ih h'.tail]
  split
  ·rfl
  ·split<;>rfl
theorem insE_right {a b:List Ent}{k v:Int}{e:Ent}(h:Asc (a++(k,v)::b))(he:k<e.1):insE (a++(k,v)::b) e=a++(k,v)::insE b e:=by
 induction a with
 | nil =>
  rw[List.nil_append,insE_cons h,if_neg (by show ¬ e.1<k;omega),if_neg (by show ¬ k=e.1;omega)]
  rfl
 | cons x a ih =>
  have h':Asc (x::(a++(k,v)::b)):=h
  have hx:x.1<k:=(asc_parts h).2.2.1 x (by simp)
  rw[List.cons_append,insE_cons h',if_neg (by omega),if_neg (by omega),ih h'.tail]
  rfl
theorem insE_at {a b:List Ent}{v:Int}{e:Ent}(h:Asc (a++(e.1,v)::b)):insE (a++(e.1,v)::b) e=a++e::b:=by
 induction a with
 | nil =>
  rw[List.nil_append,insE_cons h,if_neg (by show ¬ e.1<e.1;omega),if_pos rfl]
  rfl
 | cons x a ih =>
  have h':Asc (x::(a++(e.1,v)::b)):=h
  have hx:x.1<e.1:=(asc_parts h).2.2.1 x (by simp)
  rw[List.cons_append,insE_cons h',if_neg (by omega),if_neg (by omega),ih h'.tail]
  rfl
def flt (p:Int->Bool)(l:List Ent):List Ent:=l.filter fun x=>p x.1
theorem getE_left {a b:List Ent}{k v q:Int}(h:Asc (a++(k,v)::b))(hq:q<k):getE (a++(k,v)::b) q=getE a q:=by
 obtain⟨_,_,_,h4⟩:=asc_parts h
 rw[getE_fnd,getE_fnd,fnd_append,fnd_cons,if_neg (by show ¬ k=q;omega),fnd_of_lt (l:=b) (fun x hx=>by have:=h4 x hx;omega)]
 simp
theorem getE_right {a b:List Ent}{k v q:Int}(h:Asc (a++(k,v)::b))(hq:k<q):getE (a++(k,v)::b) q=getE b q:=by
 obtain⟨_,_,h3,_⟩:=asc_parts h
 rw[getE_fnd,getE_fnd,fnd_append,fnd_cons,if_neg (by show ¬ k=q;omega),fnd_of_gt (l:=a) (fun x hx=>by have:=h3 x hx;omega)]
 simp
theorem getE_at {a b:List Ent}{k v:Int}(h:Asc (a++(k,v)::b)):getE (a++(k,v)::b) k=some v:=by
 obtain⟨_,_,h3,_⟩:=asc_parts h
 rw[getE_fnd,fnd_append,fnd_cons,if_pos rfl,fnd_of_gt (l:=a) (fun x hx=>by have:=h3 x hx;omega)]
 simp

/-! ### Costs -/
theorem w0:wt 0=1:=rfl
theorem w2:wt 2=3:=rfl
theorem w3:wt 3=4:=rfl
theorem w4:wt 4=6:=rfl
theorem jB_more {l c:Nat}(h:balN l c):jB l (c+1)<=4:=by
 unfold balN at h
 unfold jB
 rw[dsc_zero (w:=l+1) (by omega)]
 by_cases hl:l=0
 ·subst hl
  have:=dsc_tiny (w:=c+1+1) (by omega)
  show 1+3*(0+dsc (c+1+1) 1)<=4
  omega
 ·have:=dsc_one (w:=c+1+1) (v:=l+1) (by omega) (by omega)
  omega
def iB (n:Nat):Nat:=4*gN (n+1)+1
theorem iB_step {l c:Nat}(h:balN l c)(hz:l+c<=800000):iB c+4<=iB (l+c+1):=by
 unfold balN at h
 unfold iB
 have:=gN_step (m:=c+1) (w:=l+c+1+1) (by omega) (by omega) (by omega)
 omega
theorem insE_ge {l:List Ent}(e:Ent)(h:Asc l):l.length<=(insE l e).length:=by
 induction l with
 | nil=>exact Nat.zero_le _
 | cons x l ih =>
  rw[insE_cons h]
  have:=ih h.tail
  split
  ·simp
  ·split<;>simp<;>omega
theorem Got.of_zero {S S':Arn}{hs hs1:List Int}{m r:Nat}(a:Got S hs m r S' (0::hs1)):Got S hs m r S' hs1:=⟨a.wf.of_zero,a.stay,a.len,a.nu,a.rd0,a.rd⟩
end Go.Proofs.YtedfbafngmicpaaGreat
end
section
/- The greatest height of a balanced tree, and few reads. -/
namespace Go.Proofs.YtedfbafngmicpaaGreat.Sx
open Go

/-KEEP Wf exW inU wtsL-/
noncomputable def aWts:Ann C0:={ Γ:=[],rounds:=fun n=>if n=4 then 82 else 0 }
def tWts:Tfm C0:=fun args H K=>match args,H with
 | [],[]=>K (.one (.agg (wtsL.map fun n=>vI n))) [] []
 | _,_=>False
def wC:Nat->Int->Prop->Prop
 | 0,_,Q=>Q
 | n+1,h,Q=>(0<=IntKind.i64.wrap (h-1))/\(IntKind.i64.wrap (h-1)<((81:Nat):Int))/\(0<=IntKind.i64.wrap (h-1))/\(IntKind.i64.wrap (h-1)<((81:Nat):Int))/\(0<=h)/\(h<((81:Nat):Int))/\wC n (IntKind.i64.wrap (h+1)) Q
theorem wC_of:∀ (n:Nat) (h:Int) (Q:Prop),1<=h->h+n<=81->Q->wC n h Q
 | 0,_,_,_,_,q=>q
 | n+1,h,Q,h1,h2,q=>by
  have e1:=wrap_id (x:=h-1) (by omega) (by omega)
  have e2:=wrap_id (x:=h+1) (by omega) (by omega)
  unfold wC
  rw[e1,e2]
  exact⟨by omega,by omega,by omega,by omega,by omega,by omega,wC_of n (h+1) Q (by omega) (by omega) q⟩
theorem s_wts:SoundT C0 126 tWts:=by
 refine .of Tryz.func126 (by decide) rfl fun args H K h hB=>?_
 unfold tWts at h
 split at h<;>try exact h.elim
 refine⟨aWts,trivial,Eq.mp (show ((0:Int)<=0/\(0:Int)<((81:Nat):Int)/\wC 80 1 (K (.one (.agg (wtsL.map fun n=>vI n))) [] []))=_ by kernel_rfl) ?_⟩
 exact⟨by decide,by decide,wC_of 80 1 _ (by decide) (by decide) h⟩
noncomputable def aMh:Ann C0:={ Γ:=[(126,frameT [] tWts)],rounds:=fun n=>if n=5 then 82 else 0 }
def mhC (k:Int)(Q:Int->Prop):List Int->Int->Prop
 | [],h=>Q h
 | w::l,h=>(0<=IntKind.i64.wrap (h+1))/\(IntKind.i64.wrap (h+1)<((81:Nat):Int))/\brS (decide (IntKind.i64.wrap (w-1)<=k)) (mhC k Q l (IntKind.i64.wrap (h+1))) (Q h)
theorem mhC_of {k:Int}{Q:Int->Prop}:∀ (l:List Int) (h:Int),0<=h->h+l.length<=80->(∀ w∈l,0<=w/\w<=1000000000000)->Q (hnC l h k)->mhC k Q l h
 | [],_,_,_,_,q=>q
 | w::l,h,h1,h2,h3,q=>by
  have hw:=h3 w (by simp)
  have hl:(w::l).length=l.length+1:=rfl
  unfold mhC
  rw[wrap_id (x:=h+1) (by omega) (by omega),wrap_id (x:=w-1) (by omega) (by omega)]
  unfold hnC at q
  refine⟨by omega,by omega,brS_of (fun c=>?_) fun c=>?_⟩
  ·rw[if_pos (of_decide_eq_true c)] at q
   exact mhC_of l (h+1) (by omega) (by omega) (fun x hx=>h3 x (by simp[hx])) q
  ·rw[if_neg (of_decide_eq_false c)] at q;exact q
def tMh:Tfm C0:=fun args H K=>match args,H with
 | [.at (.val (.int .i64 k))],[]=>0<=k/\k<=2147483647/\∀ h,h=Hn k->K (.one (.at (vI h))) [] []
 | _,_=>False
theorem s_mh:SoundT C0 100 tMh:=by
 refine .of Tryz.func100 (by decide) rfl fun args H K h hB=>?_
 unfold tMh at h
 split at h<;>try exact h.elim
 rename_i k
 obtain⟨h1,h2,h⟩:=h
 refine⟨aMh,⟨frame C0.ok s_wts _,trivial⟩,Eq.mp (show (brS (decide (k<0)) (K (.one (.at (vI (-1)))) [] []) (brS (decide (k>2147483647)) (K (.one (.at (vI (-1)))) [] []) (mhC k (fun h=>K (.one (.at (vI h))) [] []) (wtsL.drop 1) 0)))=_ by kernel_rfl) ?_⟩
 refine brS_of (fun c=>by have:=of_decide_eq_true c;omega) fun _=>brS_of (fun c=>by have:=of_decide_eq_true c;omega) fun _=>mhC_of _ 0 (by decide) (by decide) (by decide) (h _ rfl)
end Go.Proofs.YtedfbafngmicpaaGreat.Sx
end
