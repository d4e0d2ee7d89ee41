/- A part of the proof. -/
import Derived.Test.YtedfbafngmicpaaGreatG8
import Derived.Test.YtedfbafngmicpaaGreatG6
import Derived.Test.YtedfbafngmicpaaGreatG5
import Derived.Test.YtedfbafngmicpaaGreatG7
import Derived.Test.YtedfbafngmicpaaGreatG3
import Derived.Test.YtedfbafngmicpaaGreatG4
section
/- packwork: Make. -/
namespace Go.Proofs.YtedfbafngmicpaaGreat.Sx
open Go

/-KEEP Wf exW inU allV rdS Arn.free NumsA NmB NmR mkJ rtJ dcJ MkQ MkB live mkNode makeS nxt retL decS-/
def mkJ (S:Arn)(ix:List Int)(xs:List PNT):Arn × List Int:=xs.foldl (fun p x=>(makeS p.1 x.key x.value (getB p.2 x.left.toNat) (getB p.2 x.right.toNat),p.2++[nxt p.1])) (S,ix)
def rtJ (S:Arn)(l:List Int):Arn:=l.foldl retL S
def dcJ (S:Arn)(l:List Int):Arn:=l.foldl decS S
def rtG (ix rs:List Int):List Int:=rs.map fun r=>getB ix r.toNat
structure MkQ (k:Int) (ns:List PNT) (rs:List Int) (S:Arn) (lk:List Int):Prop where
 len:(lk.length:Int)=k
 k1:k<=65536
 ma:∀ j,j<ns.length->exW (mkJ S (0::lk) (ns.take j)).1/\live (mkJ S (0::lk) (ns.take j)).1 (getB (mkJ S (0::lk) (ns.take j)).2 (getN ns j).left.toNat)/\live (mkJ S (0::lk) (ns.take j)).1 (getB (mkJ S (0::lk) (ns.take j)).2 (getN ns j).right.toNat) ∧
  (mkNode (mkJ S (0::lk) (ns.take j)).1 (getN ns j).key (getN ns j).value (getB (mkJ S (0::lk) (ns.take j)).2 (getN ns j).left.toNat) (getB (mkJ S (0::lk) (ns.take j)).2 (getN ns j).right.toNat)).size<=maxSize/\0<(mkJ S (0::lk) (ns.take j)).1.free
 rt:∀ j,j<rs.length->exW (rtJ (mkJ S (0::lk) ns).1 (rtG (mkJ S (0::lk) ns).2 (rs.take j)))/\inU (getB (mkJ S (0::lk) ns).2 (getB rs j).toNat)/\live (rtJ (mkJ S (0::lk) ns).1 (rtG (mkJ S (0::lk) ns).2 (rs.take j))) (getB (mkJ S (0::lk) ns).2 (getB rs j).toNat)
 dc:∀ j,j<ns.length->∃ hs,Wf (dcJ (rtJ (mkJ S (0::lk) ns).1 (rtG (mkJ S (0::lk) ns).2 rs)) (((mkJ S (0::lk) ns).2.drop (k.toNat+1)).take j)) (getB ((mkJ S (0::lk) ns).2.drop (k.toNat+1)) j::hs) ∧
  (dcJ (rtJ (mkJ S (0::lk) ns).1 (rtG (mkJ S (0::lk) ns).2 rs)) (((mkJ S (0::lk) ns).2.drop (k.toNat+1)).take j)).us (getB ((mkJ S (0::lk) ns).2.drop (k.toNat+1)) j)=true ∧
  1<(dcJ (rtJ (mkJ S (0::lk) ns).1 (rtG (mkJ S (0::lk) ns).2 rs)) (((mkJ S (0::lk) ns).2.drop (k.toNat+1)).take j)).ct (getB ((mkJ S (0::lk) ns).2.drop (k.toNat+1)) j)
structure MkB (k:Int) (ns:List PNT) (rs:List Int) (S:Arn) (ks:List Int):Prop where
 ex:exW S
 rd:S.reads<=1000000000000000000
 kl:ks.length<=90000
 kv:allV ks
 nl:ns.length<=65536
 od:OrdP k ns
 rl:rs.length<=90000
 rr:∀ r∈rs,0<=r/\r<=k+ns.length
 q:∀ lk,NumsA S ks [] lk->MkQ k ns rs (rdS S lk.length) lk
structure MkR (k:Int) (ns:List PNT) (rs:List Int) (S:Arn) (ks:List Int) (S':Arn) (o:List Int):Prop where
 ex:∃ lk,NumsA S ks [] lk/\o=rtG (mkJ (rdS S lk.length) (0::lk) ns).2 rs/\S'=dcJ (rtJ (mkJ (rdS S lk.length) (0::lk) ns).1 o) ((mkJ (rdS S lk.length) (0::lk) ns).2.drop (k.toNat+1))
structure XPm (P:Arn->List Int->List Int->Nat->Prop) where
 S:Arn
 ix:List Int
 o:List Int
 i:Nat
 h:P S ix o i
abbrev hfM (k D:Int)(ns:List PNT)(rs ks:List Int)(S:Arn)(ix:List Int):List (Chunk C0):=chS S++[.row false EC.pn ns,.row false EC.u64 rs,.row false EC.u32 ks,.box [vU64 k,vU D,.slc 7,.slc 8],.row true EC.u32 ix]
noncomputable def aPmk (P1 P2 P3:Arn->List Int->List Int->Nat->Prop)(k D:Int)(ns:List PNT)(rs ks:List Int):Ann C0:={ quiet:=[9999999],Γ:=[(84,frameT [] tNds),(32,frameT [] tMakeOk),(87,frameT [] tRtC),(26,frameT [] tDcC)],inv:=fun n=>match n with
 | 3=>some { X:=XPm P1,sl:=[3,7,25],tf:=fun x=>[.one (.at (.ptr 10 0)),.one (.at (.slc 11)),vi .i64 x.i],hf:=fun x=>hfM k D ns rs ks x.S x.ix,μ:=fun x=>ns.length-x.i,wr:=W7 }
 | 10=>some { X:=XPm P2,sl:=[3,7,12,58],tf:=fun x=>[.one (.at (.ptr 10 0)),.one (.at (.slc 11)),.one (.at (.slc 12)),vi .i64 x.i],hf:=fun x=>hfM k D ns rs ks x.S x.ix++[.row true EC.u32 x.o],μ:=fun x=>rs.length-x.i,wr:=W7 }
 | 16=>some { X:=XPm P3,sl:=[3,12,80,81,82],tf:=fun x=>[.one (.at (.ptr 10 0)),.one (.at (.slc 11)),.one (.at (.slc 12)),vi .i64 (x.ix.length:Int),vi .i64 x.i],hf:=fun x=>chS x.S++[.row false EC.pn ns,.row false EC.u64 rs,.row false EC.u32 ks,.box [vU64 k,vU D,.slc 7,.slc 8],.row true EC.u32 x.o,.row false EC.u32 x.ix],μ:=fun x=>x.ix.length-x.i,wr:=W7 }
 | _=>none }
def tPmk:Tfm C0:=fun args H K=>match args with
 | [.agg [.val (.int .u64 k),.val (.int .u32 _),.slc 7,.slc 8],.at (.ptr 0 0),.at (.slc 9)]=>ftM H fun S ns rs ks=>MkB k ns rs S ks/\∀ S' o,MkR k ns rs S ks S' o->K (.one (.at (.slc 10))) (chS S'++[.row false EC.pn ns,.row false EC.u64 rs,.row false EC.u32 ks,.row true EC.u32 o]) W7
 | _=>False
theorem mkJ_snoc (S:Arn)(ix:List Int)(xs:List PNT)(x:PNT):mkJ S ix (xs++[x])=(makeS (mkJ S ix xs).1 x.key x.value (getB (mkJ S ix xs).2 x.left.toNat) (getB (mkJ S ix xs).2 x.right.toNat),(mkJ S ix xs).2++[nxt (mkJ S ix xs).1]):=by
 unfold mkJ
 rw[List.foldl_append];rfl
theorem mkJ_len (S:Arn)(ix:List Int)(ns:List PNT):∀ i,i<=ns.length->(mkJ S ix (ns.take i)).2.length=ix.length+i
 | 0,_=>rfl
 | i+1,h=>by
  rw[take_getN (by omega),mkJ_snoc]
  show (_++[_]).length=_
  rw[List.length_append,mkJ_len S ix ns i (by omega)];rfl
theorem rtJ_snoc (S:Arn)(l:List Int)(i:Int):rtJ S (l++[i])=retL (rtJ S l) i:=by unfold rtJ;rw[List.foldl_append];rfl
theorem dcJ_snoc (S:Arn)(l:List Int)(i:Int):dcJ S (l++[i])=decS (dcJ S l) i:=by unfold dcJ;rw[List.foldl_append];rfl
theorem rtG_snoc (ix l:List Int)(i:Int):rtG ix (l++[i])=rtG ix l++[getB ix i.toNat]:=by unfold rtG;rw[List.map_append];rfl
section
variable (k:Int) (ns:List PNT) (rs ks:List Int) (S0:Arn)
def PM1:Arn->List Int->List Int->Nat->Prop:=fun S ix _ i=>∃ lk,NumsA S0 ks [] lk/\MkQ k ns rs (rdS S0 lk.length) lk/\S=(mkJ (rdS S0 lk.length) (0::lk) (ns.take i)).1/\ix=(mkJ (rdS S0 lk.length) (0::lk) (ns.take i)).2/\i<=ns.length
def PM2:Arn->List Int->List Int->Nat->Prop:=fun S ix o i=>∃ lk,NumsA S0 ks [] lk/\MkQ k ns rs (rdS S0 lk.length) lk/\ix=(mkJ (rdS S0 lk.length) (0::lk) ns).2/\S=rtJ (mkJ (rdS S0 lk.length) (0::lk) ns).1 o/\o=rtG ix (rs.take i)/\i<=rs.length
def PM3:Arn->List Int->List Int->Nat->Prop:=fun S ix o i=>∃ lk,NumsA S0 ks [] lk/\MkQ k ns rs (rdS S0 lk.length) lk/\o=rtG (mkJ (rdS S0 lk.length) (0::lk) ns).2 rs/\ix=(mkJ (rdS S0 lk.length) (0::lk) ns).2.drop (k.toNat+1)/\S=dcJ (rtJ (mkJ (rdS S0 lk.length) (0::lk) ns).1 o) (ix.take i)/\i<=ix.length
end
theorem vc_pmk (k D:Int)(ns:List PNT)(rs ks:List Int)(S:Arn)(K:KT)(hb:MkB k ns rs S ks)(h:∀ S' o,MkR k ns rs S ks S' o->K (.one (.at (.slc 10))) (chS S'++[.row false EC.pn ns,.row false EC.u64 rs,.row false EC.u32 ks,.row true EC.u32 o]) W7) :
  vc C0 (aPmk (PM1 k ns rs ks S) (PM2 k ns rs ks S) (PM3 k ns rs ks S) k D ns rs ks) Tryz.f55 [.agg [vU64 k,vU D,.slc 7,.slc 8],.at (.ptr 0 0),.at (.slc 9)] (chS S++[.row false EC.pn ns,.row false EC.u64 rs,.row false EC.u32 ks]) (normK 10 (wideK W7 K)):=by
 generalize hP1:PM1 k ns rs ks S=P1
 generalize hP2:PM2 k ns rs ks S=P2
 generalize hP3:PM3 k ns rs ks S=P3
 refine Eq.mp (show (NmB S ks/\∀ S':Arn,∀ l:List Int,NmR S ks S' l->([0].length+l.length)*bytesOf C0 EC.u32<=140737488355328/\(∃ x:XPm P1,True/\(True/\True/\True/\True/\VI (ns.length:Int)=VI (ns.length:Int)/\VI 0=(VI (x.i:Int))/\True)/\(True/\True/\True/\VW (S'.reads)=VW (x.S.reads)/\True)/\(True/\True/\True/\VU (S'.fresh)=VU (x.S.fresh)/\True)/\S'.nodes=x.S.nodes/\S'.counts=x.S.counts/\S'.used=x.S.used/\S'.gen=x.S.gen/\S'.rel=x.S.rel/\ns=ns/\rs=rs/\ks=ks/\(VW (k)=VW (k)/\VU (D)=VU (D)/\True/\True/\True)/\(0::l)=x.ix/\True)/\∀ x:XPm P1,True->brS (decide ((x.i:Int)<(ns.length:Int))) (0<=(x.i:Int)/\(x.i:Int)<(ns.length:Int)/\0<=(getN ns (x.i:Int).toNat).left/\(getN ns (x.i:Int).toNat).left<(x.ix.length:Int)/\0<=(getN ns (x.i:Int).toNat).right/\(getN ns (x.i:Int).toNat).right<(x.ix.length:Int)/\exW x.S/\live x.S (getB x.ix (getN ns (x.i:Int).toNat).left.toNat)/\live x.S (getB x.ix (getN ns (x.i:Int).toNat).right.toNat)/\(mkNode x.S (getN ns (x.i:Int).toNat).key (getN ns (x.i:Int).toNat).value (getB x.ix (getN ns (x.i:Int).toNat).left.toNat) (getB x.ix (getN ns (x.i:Int).toNat).right.toNat)).size<=maxSize/\0<x.S.free/\∀ S'1:Arn,∀ i:Int,S'1=(makeS x.S (getN ns (x.i:Int).toNat).key (getN ns (x.i:Int).toNat).value (getB x.ix (getN ns (x.i:Int).toNat).left.toNat) (getB x.ix (getN ns (x.i:Int).toNat).right.toNat))->i=nxt x.S->(x.ix.length+[i].length)*bytesOf C0 EC.u32<=140737488355328/\∃ x':XPm P1,True/\((True/\True/\True/\True/\VI (ns.length:Int)=VI (ns.length:Int)/\(VI (IntKind.i64.wrap ((x.i:Int)+1)))=(VI (x'.i:Int))/\
 True)/\(True/\True/\True/\VW (S'1.reads)=VW (x'.S.reads)/\True)/\(True/\True/\True/\VU (S'1.fresh)=VU (x'.S.fresh)/\True)/\S'1.nodes=x'.S.nodes/\S'1.counts=x'.S.counts/\S'1.used=x'.S.used/\S'1.gen=x'.S.gen/\S'1.rel=x'.S.rel/\ns=ns/\rs=rs/\ks=ks/\(VW (k)=VW (k)/\VU (D)=VU (D)/\True/\True/\True)/\(x.ix++[i])=x'.ix/\True)/\ns.length-x'.i<ns.length-x.i) ((∃ x1:XPm P2,True/\(True/\True/\True/\True/\True/\VI (rs.length:Int)=VI (rs.length:Int)/\VI 0=(VI (x1.i:Int))/\True)/\(True/\True/\True/\VW (x.S.reads)=VW (x1.S.reads)/\True)/\(True/\True/\True/\VU (x.S.fresh)=VU (x1.S.fresh)/\True)/\x.S.nodes=x1.S.nodes/\x.S.counts=x1.S.counts/\x.S.used=x1.S.used/\x.S.gen=x1.S.gen/\x.S.rel=x1.S.rel/\ns=ns/\rs=rs/\ks=ks/\(VW (k)=VW (k)/\VU (D)=VU (D)/\True/\True/\True)/\x.ix=x1.ix/\[]=x1.o/\True)/\∀ x1:XPm P2,True->brS (decide ((x1.i:Int)<(rs.length:Int))) (0<=(x1.i:Int)/\(x1.i:Int)<(rs.length:Int)/\0<=getB rs (x1.i:Int).toNat/\getB rs (x1.i:Int).toNat<(x1.ix.length:Int)/\inU (getB x1.ix (getB rs (x1.i:Int).toNat).toNat)/\exW x1.S/\live x1.S (getB x1.ix (getB rs (x1.i:Int).toNat).toNat)/\∀ S'1:Arn,S'1=(retL x1.S (getB x1.ix (getB rs (x1.i:Int).toNat).toNat))->0<=getB rs (x1.i:Int).toNat/\getB rs (x1.i:Int).toNat<(x1.ix.length:Int)/\(x1.o.length+[getB x1.ix (getB rs (x1.i:Int).toNat).toNat].length)*bytesOf C0 EC.u32<=140737488355328/\∃ x':XPm P2,True/\((True/\True/\True/\True/\True/\VI (rs.length:Int)=VI (rs.length:Int)/\(VI (IntKind.i64.wrap ((x1.i:Int)+1)))=(VI (x'.i:Int))/\True)/\(True/\True/\True/\
 VW (S'1.reads)=VW (x'.S.reads)/\True)/\(True/\True/\True/\VU (S'1.fresh)=VU (x'.S.fresh)/\True)/\S'1.nodes=x'.S.nodes/\S'1.counts=x'.S.counts/\S'1.used=x'.S.used/\S'1.gen=x'.S.gen/\S'1.rel=x'.S.rel/\ns=ns/\rs=rs/\ks=ks/\(VW (k)=VW (k)/\VU (D)=VU (D)/\True/\True/\True)/\x1.ix=x'.ix/\(x1.o++[getB x1.ix (getB rs (x1.i:Int).toNat).toNat])=x'.o/\True)/\rs.length-x'.i<rs.length-x1.i) (0<=IntKind.u64.wrap (k+1)/\IntKind.u64.wrap (k+1)<=(x1.ix.length:Int)/\(x1.ix.length:Int)<=(x1.ix.length:Int)/\(∃ x2:XPm P3,True/\(True/\True/\True/\True/\(VI ((↑(List.drop (IntKind.u64.wrap (k+1)).toNat (List.take (x1.ix.length:Int).toNat x1.ix)).length:Int)))=(VI (x2.ix.length:Int))/\VI 0=(VI (x2.i:Int))/\True)/\(True/\True/\True/\VW (x1.S.reads)=VW (x2.S.reads)/\True)/\(True/\True/\True/\VU (x1.S.fresh)=VU (x2.S.fresh)/\True)/\x1.S.nodes=x2.S.nodes/\x1.S.counts=x2.S.counts/\x1.S.used=x2.S.used/\x1.S.gen=x2.S.gen/\x1.S.rel=x2.S.rel/\ns=ns/\rs=rs/\ks=ks/\(VW (k)=VW (k)/\VU (D)=VU (D)/\True/\True/\True)/\x1.o=x2.o/\(List.drop (IntKind.u64.wrap (k+1)).toNat (List.take (x1.ix.length:Int).toNat x1.ix))=x2.ix/\True)/\∀ x2:XPm P3,True->brS (decide ((x2.i:Int)<(x2.ix.length:Int))) (0<=(x2.i:Int)/\(x2.i:Int)<(x2.ix.length:Int)/\∃ hs:List Int,Wf x2.S (getB x2.ix (x2.i:Int).toNat::hs)/\(x2.S.us (getB x2.ix (x2.i:Int).toNat))=true/\1<x2.S.ct (getB x2.ix (x2.i:Int).toNat)/\∀ S'1:Arn,S'1=(decS x2.S (getB x2.ix (x2.i:Int).toNat))->∃ x':XPm P3,True/\((True/\True/\True/\True/\VI (x2.ix.length:Int)=VI (x'.ix.length:Int)/\
 (VI (IntKind.i64.wrap ((x2.i:Int)+1)))=(VI (x'.i:Int))/\True)/\(True/\True/\True/\VW (S'1.reads)=VW (x'.S.reads)/\True)/\(True/\True/\True/\VU (S'1.fresh)=VU (x'.S.fresh)/\True)/\S'1.nodes=x'.S.nodes/\S'1.counts=x'.S.counts/\S'1.used=x'.S.used/\S'1.gen=x'.S.gen/\S'1.rel=x'.S.rel/\ns=ns/\rs=rs/\ks=ks/\(VW (k)=VW (k)/\VU (D)=VU (D)/\True/\True/\True)/\x2.o=x'.o/\x2.ix=x'.ix/\True)/\x'.ix.length-x'.i<x2.ix.length-x2.i) (K (.one (.at (.slc 10))) [(.box [(.ptr 1 0),(.slc 2),(.slc 3),(.val (VW (x2.S.reads)))]),(.box [(.slc 4),(.slc 5),(.slc 6),(.val (VU (x2.S.fresh)))]),(.row true EC.node (x2.S.nodes)),(.row true EC.int (x2.S.counts)),(.row true EC.bool (x2.S.used)),(.row true EC.u32 (x2.S.gen)),(.row true EC.u32 (x2.S.rel)),(.row false EC.pn (ns)),(.row false EC.u64 (rs)),(.row false EC.u32 (ks)),(.row true EC.u32 (x2.o))] [0,1,2,3,4,5,6]))))=_ by kernel_rfl) ?_
 subst hP1 hP2 hP3
 obtain⟨hx,hr,kl,kv,nl,od,rl,rr,hq⟩:=hb
 refine⟨⟨hx,by omega,by omega,kv⟩,fun S' l nr=>⟨?_,?_,fun x _=>brS_of (fun y=>?_) fun y=>⟨?_,fun x1 _=>brS_of (fun y=>?_) fun y=>⟨?_,?_,?_,?_,fun x2 _=>brS_of (fun y=>?_) fun y=>?_⟩⟩⟩⟩
 ·rw[bytes_u32,List.length_singleton]
  have:=(hq l nr.num).len;have:=(hq l nr.num).k1
  omega
 ·refine⟨⟨S',0::l,[],0,l,nr.num,hq l nr.num,nr.st,rfl,Nat.zero_le _⟩,trivial,?_⟩
  (repeat' first|exact trivial|exact rfl|refine And.intro ?_ ?_)
 ·obtain⟨S1,ix,o,i,lk,nk,q,e1,e2,hi⟩:=x
  dsimp only at y ⊢
  have yi:i<ns.length:=by have:=of_decide_eq_true y;omega
  clear y
  rw[show ((i:Int)).toNat=i from rfl,wrap_id (x:=(i:Int)+1) (by omega) (by omega)]
  obtain⟨m1,m2,m3,m4,m5⟩:=q.ma i yi
  rw[← e1,← e2] at m2 m3 m4
  rw[← e1] at m1 m5
  have il:ix.length=lk.length+1+i:=by rw[e2,mkJ_len _ _ _ _ hi];rfl
  have o:=od i yi
  have ll:=q.len;have k1:=q.k1
  refine⟨by omega,by omega,o.1.1,by omega,o.2.1,by omega,m1,m2,m3,m4,m5,fun S' i' es ei=>⟨by rw[bytes_u32,List.length_singleton];omega,⟨S',ix++[i'],[],i+1,lk,nk,q,?_,?_,yi⟩,trivial,?_,Nat.sub_lt_sub_left yi (Nat.lt_succ_self i)⟩⟩
  ·rw[take_getN yi,mkJ_snoc,← e1,← e2];exact es
  ·rw[take_getN yi,mkJ_snoc,← e1,← e2,ei]
  ·(repeat' first|exact trivial|exact rfl|refine And.intro ?_ ?_)
 ·obtain⟨S1,ix,o,i,lk,nk,q,e1,e2,hi⟩:=x
  dsimp only at y ⊢
  have yi:i=ns.length:=by have:=of_decide_eq_false y;omega
  subst yi
  rw[List.take_length] at e1 e2
  refine⟨⟨S1,ix,[],0,lk,nk,q,e2,e1,rfl,Nat.zero_le _⟩,trivial,?_⟩
  (repeat' first|exact trivial|exact rfl|refine And.intro ?_ ?_)
 ·obtain⟨S1,ix,o,i,lk,nk,q,e1,e2,e3,hi⟩:=x1
  dsimp only at y ⊢
  have yi:i<rs.length:=by have:=of_decide_eq_true y;omega
  clear y
  rw[show ((i:Int)).toNat=i from rfl,wrap_id (x:=(i:Int)+1) (by omega) (by omega)]
  have m:=q.rt i yi
  rw[← e1,← e3,← e2] at m
  obtain⟨m1,m2,m3⟩:=m
  have il:ix.length=lk.length+1+ns.length:=by have:=mkJ_len (rdS S lk.length) (0::lk) ns ns.length (Nat.le_refl _);rw[List.take_length,← e1] at this;exact this
  have ol:o.length=i:=by rw[e3];unfold rtG;rw[List.length_map,List.length_take];omega
  have r:=rr _ (getB_mem yi)
  have ll:=q.len;have k1:=q.k1
  refine⟨by omega,by omega,r.1,by omega,m2,m1,m3,fun S' es=>⟨r.1,by omega,by rw[bytes_u32,List.length_singleton];omega,⟨S',ix,o++[getB ix (getB rs i).toNat],i+1,lk,nk,q,e1,?_,?_,yi⟩,trivial,?_,Nat.sub_lt_sub_left yi (Nat.lt_succ_self i)⟩⟩
  ·rw[rtJ_snoc,← e2];exact es
  ·rw[take_getB yi,rtG_snoc,← e3]
  ·(repeat' first|exact trivial|exact rfl|refine And.intro ?_ ?_)
 ·obtain⟨S1,ix,o,i,lk,nk,q,e1,e2,e3,hi⟩:=x1
  have ll:=q.len;have k1:=q.k1
  rw[wrap_u64 (x:=k+1) (by omega) (by omega)];omega
 ·obtain⟨S1,ix,o,i,lk,nk,q,e1,e2,e3,hi⟩:=x1
  have ll:=q.len;have k1:=q.k1
  have il:ix.length=lk.length+1+ns.length:=by have:=mkJ_len (rdS S lk.length) (0::lk) ns ns.length (Nat.le_refl _);rw[List.take_length,← e1] at this;exact this
  dsimp only
  rw[wrap_u64 (x:=k+1) (by omega) (by omega)];omega
 ·exact Int.le_refl _
 ·obtain⟨S1,ix,o,i,lk,nk,q,e1,e2,e3,hi⟩:=x1
  dsimp only at y ⊢
  have yi:i=rs.length:=by have:=of_decide_eq_false y;omega
  subst yi
  have ll:=q.len;have k1:=q.k1
  rw[List.take_length] at e3
  rw[wrap_u64 (x:=k+1) (by omega) (by omega),show (k+1).toNat=k.toNat+1 by omega,Int.toNat_natCast,List.take_length]
  refine⟨⟨S1,ix.drop (k.toNat+1),o,0,lk,nk,q,by rw[e3,e1],by rw[e1],by rw[e2];rfl,Nat.zero_le _⟩,trivial,?_⟩
  (repeat' first|exact trivial|exact rfl|refine And.intro ?_ ?_)
 ·obtain⟨S1,ix,o,i,lk,nk,q,e1,e2,e3,hi⟩:=x2
  dsimp only at y ⊢
  have yi:i<ix.length:=by have:=of_decide_eq_true y;omega
  clear y
  have ll:=q.len;have k1:=q.k1
  have il:ix.length=ns.length:=by have:=mkJ_len (rdS S lk.length) (0::lk) ns ns.length (Nat.le_refl _);rw[List.take_length] at this;rw[e2,List.length_drop,this,List.length_cons];omega
  rw[show ((i:Int)).toNat=i from rfl,wrap_id (x:=(i:Int)+1) (by omega) (by omega)]
  have m:=q.dc i (by omega)
  rw[← e1,← e2,← e3] at m
  obtain⟨hs,m1,m2,m3⟩:=m
  refine⟨by omega,by omega,hs,m1,m2,m3,fun S' es=>⟨⟨S',ix,o,i+1,lk,nk,q,e1,e2,?_,yi⟩,trivial,?_,Nat.sub_lt_sub_left yi (Nat.lt_succ_self i)⟩⟩
  ·rw[take_getB yi,dcJ_snoc,← e3];exact es
  ·(repeat' first|exact trivial|exact rfl|refine And.intro ?_ ?_)
 ·obtain⟨S1,ix,o,i,lk,nk,q,e1,e2,e3,hi⟩:=x2
  dsimp only at y ⊢
  have yi:i=ix.length:=by have:=of_decide_eq_false y;omega
  subst yi
  rw[List.take_length] at e3
  exact h _ _ ⟨⟨lk,nk,e1,by rw[e3,e2]⟩⟩
theorem s_pmk:SoundT C0 55 tPmk:=by
 refine .ofW W7 Tryz.func55 (by decide) rfl fun args H K h hB=>?_
 unfold tPmk ftM arMr at h
 split at h<;>try exact h.elim
 split at h<;>try exact h.elim
 split at h<;>try exact h.elim
 rename_i k D _ rd fr nd ct us gn rl _ ns rs ks
 refine⟨_,?_,vc_pmk k D ns rs ks ⟨us,gn,rl,fr,nd,ct,rd⟩ K h.1 h.2⟩
 exact⟨frame C0.ok s_nds _,frame C0.ok s_makeOk _,frame C0.ok s_rtC _,frame C0.ok s_dcC _,trivial⟩
end Go.Proofs.YtedfbafngmicpaaGreat.Sx
end
section
/- Make's nodes are the trees of the pack. No program in sight. -/
namespace Go.Proofs.YtedfbafngmicpaaGreat.Sx
open Go

structure MkP (S0:Arn) (hs:List Int) (k:Int) (lk:List Int) (ns:List PNT) (rs:List Int) (kx:List ExtT):Prop where
 wf:Wf S0 hs
 hl:hs.length<=900000
 k0:(lk.length:Int)=k
 k1:k<=65536
 nl:ns.length<=65536
 rl:rs.length<=4096
 kn:∀ i∈lk,Rep S0 (trA S0 i) i
 ku:∀ i∈lk,S0.us i=true
 xl:kx.length=lk.length
 od:OrdP k ns
 rr:∀ r∈rs,0<=r/\r<=k+ns.length
 fit:FitN k ns rs kx
 px:∀ j,j<=ns.length->PX (poolA S0 lk ns) (bldL kx ns j) (bldTs (ktA S0 lk) ns j)
 fr:(ns.length:Int)<=S0.free
structure MkI (S0:Arn) (hs:List Int) (lk:List Int) (ns:List PNT) (j:Nat) (S:Arn) (ix:List Int) (nw:List Int):Prop where
 ix_:ix=0::(lk++nw)
 len:nw.length=j
 wf:Wf S (nw.reverse++hs)
 rep:∀ p,p<lk.length+j->Rep S (getT (bldTs (ktA S0 lk) ns j) p) (getB ix (p+1))
 us:∀ i∈nw,S.us i=true
 nd:∀ i,i<j->(S.nd (getB ix (lk.length+1+i))).left=getB ix (getN ns i).left.toNat/\(S.nd (getB ix (lk.length+1+i))).right=getB ix (getN ns i).right.toNat
 stay:Stay S0 S hs
 us_:∀ i,S.us i=true↔S0.us i=true∨i∈nw
 fresh:∀ i∈nw,S0.us i=false
 nod:nw.Nodup
 old:∀ i,S0.us i=true->S.nd i=S0.nd i/\S.gn i=S0.gn i
 nu:S.nu=S0.nu+j
 ul:S.used.length=S0.used.length
 rd:S.reads=S0.reads
theorem getB_left {a b:List Int}{i:Nat}(h:i<a.length):getB (a++b) i=getB a i:=by
 show (a++b).getD i _=a.getD i _
 rw[List.getD_eq_getElem?_getD,List.getD_eq_getElem?_getD,List.getElem?_append_left h]
theorem getB_right {a b:List Int}{i:Nat}:getB (a++b) (a.length+i)=getB b i:=by
 show (a++b).getD _ _=b.getD i _
 rw[List.getD_eq_getElem?_getD,List.getD_eq_getElem?_getD,List.getElem?_append_right (Nat.le_add_right _ _),Nat.add_sub_cancel_left]
theorem getB_last {a:List Int}{x:Int}:getB (a++[x]) a.length=x:=by
 have:=getB_right (a:=a) (b:=[x]) (i:=0)
 rw[Nat.add_zero] at this
 rw[this];rfl
variable {S0 S:Arn} {hs lk rs ix nw:List Int} {k:Int} {ns:List PNT} {kx:List ExtT} {j:Nat}
theorem MkI.ref (h:MkI S0 hs lk ns j S ix nw)(k0:(lk.length:Int)=k){r:Int}(h0:0<=r)(h1:r<=k+j):Rep S (refT (bldTs (ktA S0 lk) ns j) r) (getB ix r.toNat):=by
 by_cases c:r=0
 ·subst c
  rw[h.ix_];exact rfl
 ·have:=h.rep (r-1).toNat (by omega)
  rw[show (r-1).toNat+1=r.toNat by omega] at this
  rw[show refT (bldTs (ktA S0 lk) ns j) r=getT (bldTs (ktA S0 lk) ns j) (r-1).toNat from if_neg c]
  exact this
theorem MkI.free (p:MkP S0 hs k lk ns rs kx)(h:MkI S0 hs lk ns j S ix nw):S.free=S0.free-j:=by
 have a:=h.wf.free_nonneg.2.2.2
 have b:=p.wf.free_nonneg.2.2.2
 have:=h.nu;have:=h.ul
 unfold Arn.cap at a b
 omega
theorem MkI.size (p:MkP S0 hs k lk ns rs kx)(h:MkI S0 hs lk ns j S ix nw)(hj:j<ns.length) :
  (mkNode S (getN ns j).key (getN ns j).value (getB ix (getN ns j).left.toNat) (getB ix (getN ns j).right.toNat)).size<=maxSize:=by
 have o:=p.od j hj
 rw[mk_size h.wf (h.ref p.k0 o.1.1 o.1.2) (h.ref p.k0 o.2.1 o.2.2)]
 have t:=(p.px ns.length (Nat.le_refl _)).at_ (kx.length+j) (by rw[bldL_len kx ns _ (Nat.le_refl _)];omega)
 have e:kx.length+j=(ktA S0 lk).length+j:=by rw[p.xl];unfold ktA;rw[List.length_map]
 obtain⟨a,_,_,_,q⟩:=t.ok (p.fit.fl j hj)
 rw[e,bldTs_at hj] at a q
 have l:=asc_few a q
 rw[Tr.list_len,pool_len] at l
 have l:1+(refT (bldTs (ktA S0 lk) ns j) (getN ns j).left).size+(refT (bldTs (ktA S0 lk) ns j) (getN ns j).right).size<=lk.length+ns.length:=l
 have:=p.k0;have:=p.k1;have:=p.nl
 unfold maxSize
 omega
theorem MkI.go (p:MkP S0 hs k lk ns rs kx)(h:MkI S0 hs lk ns j S ix nw)(hj:j<ns.length) :
  MkI S0 hs lk ns (j+1) (makeS S (getN ns j).key (getN ns j).value (getB ix (getN ns j).left.toNat) (getB ix (getN ns j).right.toNat)) (ix++[nxt S]) (nw++[nxt S]):=by
 have o:=p.od j hj
 have fr:0<S.free:=by rw[h.free p];have:=p.fr;omega
 have r1:=h.ref p.k0 o.1.1 o.1.2
 have r2:=h.ref p.k0 o.2.1 o.2.2
 have sz:=h.size p hj
 obtain⟨x1,x2,x3,_⟩:=h.wf.nxt_spec fr
 have hl:=p.hl;have nl:=p.nl
 have il:ix.length=lk.length+1+j:=by rw[h.ix_,List.length_cons,List.length_append,h.len];omega
 obtain⟨m3,m4,m1,m2⟩:=mkNode_flds S (getN ns j).key (getN ns j).value (getB ix (getN ns j).left.toNat) (getB ix (getN ns j).right.toNat)
 obtain⟨f1,f2,f3⟩:=make_flds h.wf fr (k:=(getN ns j).key) (v:=(getN ns j).value) (l:=getB ix (getN ns j).left.toNat) (r:=getB ix (getN ns j).right.toNat)
 have k0:=p.k0
 have kl:(ktA S0 lk).length=lk.length:=by unfold ktA;rw[List.length_map]
 have bl:(bldTs (ktA S0 lk) ns j).length=lk.length+j:=by rw[bldTs_len _ _ _ (by omega),kl]
 have hn:∀ {l r kk v},(makeS S kk v l r).nd (nxt S)=mkNode S kk v l r:=fun {l r kk v}=>by rw[make_nd h.wf fr,if_pos rfl]
 refine⟨by rw[h.ix_,List.cons_append,List.append_assoc],by rw[List.length_append,h.len];rfl,?_,fun q hq=>?_,fun i hi=>?_,fun i hi=>?_,h.stay.trans (stay_make h.wf fr hs),fun i=>?_,fun i hi=>?_,?_,fun i hi=>?_,?_,?_,?_⟩
 ·rw[List.reverse_append,List.append_assoc]
  exact h.wf.make r1.us r2.us fr sz (by rw[List.length_append,List.length_reverse,h.len];omega)
 ·rw[bldTs_go _ hj]
  rcases Nat.lt_or_ge q (lk.length+j) with c|c
  ·rw[getT_left (by rw[bl];exact c),getB_left (by omega)]
   exact make_rep h.wf fr (h.rep q c)
  ·have e:q=(bldTs (ktA S0 lk) ns j).length:=by omega
   rw[e,getT_last,show (bldTs (ktA S0 lk) ns j).length+1=ix.length by omega,getB_last]
   refine⟨(make_us h.wf fr _).2 (.inl rfl),by rw[hn,m3],by rw[hn,m4],?_,?_⟩
   ·rw[hn,m1];exact make_rep h.wf fr r1
   ·rw[hn,m2];exact make_rep h.wf fr r2
 ·rcases List.mem_append.1 hi with c|c
  ·exact (make_us h.wf fr _).2 (.inr (h.us i c))
  ·rw[List.mem_singleton.1 c];exact (make_us h.wf fr _).2 (.inl rfl)
 ·have oi:=p.od i (by omega)
  rw[getB_left (a:=ix) (i:=(getN ns i).left.toNat) (by omega),getB_left (a:=ix) (i:=(getN ns i).right.toNat) (by omega)]
  rcases Nat.lt_or_ge i j with c|c
  ·rw[getB_left (by omega)]
   have u:S.us (getB ix (lk.length+1+i))=true:=h.us _ (by
    rw[h.ix_,show lk.length+1+i=(lk.length+i)+1 by omega]
    show getB (lk++nw) (lk.length+i)∈nw
    rw[getB_right]
    exact getB_mem (by rw[h.len];exact c))
   rw[make_nd h.wf fr,if_neg (fun q=>by rw[q,x3] at u;cases u)]
   exact h.nd i c
  ·have e:i=j:=by omega
   subst e
   rw[show lk.length+1+i=ix.length by omega,getB_last,hn]
   exact⟨m1,m2⟩
 ·rw[make_us h.wf fr,h.us_,List.mem_append,List.mem_singleton]
  constructor
  ·rintro (q|q|q)
   ·exact .inr (.inr q)
   ·exact .inl q
   ·exact .inr (.inl q)
  ·rintro (q|q|q)
   ·exact .inr (.inl q)
   ·exact .inr (.inr q)
   ·exact .inl q
 ·rcases List.mem_append.1 hi with c|c
  ·exact h.fresh i c
  ·rw[List.mem_singleton.1 c]
   cases u:S0.us (nxt S) with
   | false=>rfl
   | true=>rw[(h.us_ _).2 (.inl u)] at x3;cases x3
 ·refine List.nodup_append.2 ⟨h.nod,by simp,fun a ha b hb e=>?_⟩
  rw[List.mem_singleton.1 hb] at e
  rw[e] at ha
  rw[(h.us_ _).2 (.inr ha)] at x3;cases x3
 ·have u:=(h.us_ i).2 (.inl hi)
  have ne:i≠nxt S:=fun q=>by rw[← q,u] at x3;cases x3
  have o:=h.old i hi
  refine⟨by rw[make_nd h.wf fr,if_neg ne];exact o.1,?_⟩
  rw[← o.2]
  unfold Arn.gn makeS
  simp only[]
  rw[getD_set,if_neg (by have:=(h.wf.pos u).1;omega)]
 ·rw[f3,h.nu];rfl
 ·rw[f2,h.ul]
 ·rw[f1,h.rd]
theorem mkI_all (p:MkP S0 hs k lk ns rs kx):∀ j,j<=ns.length->∃ nw,MkI S0 hs lk ns j (mkJ S0 (0::lk) (ns.take j)).1 (mkJ S0 (0::lk) (ns.take j)).2 nw
 | 0,_=>⟨[],by rw[List.append_nil];rfl,rfl,p.wf,fun q hq=>by
   have hq:q<lk.length:=hq
   rw[show bldTs (ktA S0 lk) ns 0=ktA S0 lk from rfl,ktA_get hq]
   exact p.kn _ (getB_mem hq),fun i hi=>by simp at hi,fun i hi=>by omega,Stay.refl _ _,fun i=>by simp;rfl,fun i hi=>by simp at hi,List.nodup_nil,fun i hi=>⟨rfl,rfl⟩,rfl,rfl,rfl⟩
 | j+1,hj=>by
  obtain⟨nw,h⟩:=mkI_all p j (by omega)
  rw[take_getN (by omega),mkJ_snoc]
  exact⟨_,h.go p (by omega)⟩
theorem rtJ_ok:∀ (l:List Int) {S:Arn} {hs:List Int},Wf S hs->(∀ i∈l,i=0∨S.us i=true)->hs.length+l.length<=999999990 →
  Wf (rtJ S l) (l.reverse++hs)/\(rtJ S l).reads=S.reads/\(rtJ S l).used=S.used/\(∀ j,(rtJ S l).us j=S.us j)/\(∀ j,(rtJ S l).nd j=S.nd j)/\∀ j,(rtJ S l).gn j=S.gn j
 | [],_,_,w,_,_=>⟨w,rfl,rfl,fun _=>rfl,fun _=>rfl,fun _=>rfl⟩
 | i::l,S,hs,w,h,hl=>by
  rw[List.length_cons] at hl
  obtain⟨f1,f2,f3,f4,f5⟩:=retL_flds S i
  obtain⟨a,b,c,d,e,f⟩:=rtJ_ok l (retL_wf w (h i (by simp)) (by omega)) (fun x hx=>by rw[f3];exact h x (List.mem_cons_of_mem _ hx)) (by rw[List.length_cons];omega)
  refine⟨?_,b.trans f1,c.trans f2,fun j=>(d j).trans (f3 j),fun j=>(e j).trans (f4 j),fun j=>(f j).trans (f5 j)⟩
  rw[List.reverse_cons,List.append_assoc]
  exact a
theorem dcJ_one {S:Arn}{hs:List Int}{i:Int}{l:List Int}(w:Wf S ((i::l)++hs))(u:S.us i=true)(h:1<=S.indeg i∨i∈hs):1<S.ct i:=by
 have c:=(w.cnt i u).1
 rw[List.cons_append,List.count_cons_self,List.count_append] at c
 rcases h with h|h
 ·omega
 ·have:=List.count_pos_iff.2 h
  omega
theorem dcJ_ok:∀ (l:List Int) {S:Arn} {hs:List Int},Wf S (l++hs)->(∀ i∈l,S.us i=true/\(1<=S.indeg i∨i∈hs)) →
  (Wf (dcJ S l) hs/\(dcJ S l).reads=S.reads/\(dcJ S l).used=S.used/\(∀ j,(dcJ S l).us j=S.us j)/\(∀ j,(dcJ S l).nd j=S.nd j)/\∀ j,(dcJ S l).gn j=S.gn j) ∧
  ∀ j,j<l.length->∃ hs',Wf (dcJ S (l.take j)) (getB l j::hs')/\(dcJ S (l.take j)).us (getB l j)=true/\1<(dcJ S (l.take j)).ct (getB l j)
 | [],_,_,w,_=>⟨⟨w,rfl,rfl,fun _=>rfl,fun _=>rfl,fun _=>rfl⟩,fun j hj=>by simp at hj⟩
 | i::l,S,hs,w,h=>by
  have hi:=h i (by simp)
  have ct:=dcJ_one w hi.1 hi.2
  obtain⟨⟨a,b,c,d,e,f⟩,g⟩:=dcJ_ok l (S:=decS S i) (hs:=hs) (w.dec hi.1 ct) fun x hx=>h x (List.mem_cons_of_mem _ hx)
  refine⟨⟨a,b,c,d,e,f⟩,fun j hj=>?_⟩
  cases j with
  | zero=>exact⟨_,w,hi.1,ct⟩
  | succ j=>exact g j (by simpa using hj)
structure MkO (S0:Arn) (hs:List Int) (lk:List Int) (ns:List PNT) (rs:List Int) (S':Arn) (ix o:List Int):Prop where
 ix_:∃ nw,ix=0::(lk++nw)/\nw.length=ns.length/\(∀ i,S'.us i=true↔S0.us i=true∨i∈nw)/\(∀ i∈nw,S0.us i=false)/\nw.Nodup
 old:∀ i,S0.us i=true->S'.nd i=S0.nd i/\S'.gn i=S0.gn i
 eo:o=rtG ix rs
 wf:Wf S' (o.reverse++hs)
 rep:∀ r:Int,0<=r->r<=lk.length+ns.length->Rep S' (refT (bldTs (ktA S0 lk) ns ns.length) r) (getB ix r.toNat)
 nd:∀ i,i<ns.length->(S'.nd (getB ix (lk.length+1+i))).left=getB ix (getN ns i).left.toNat/\(S'.nd (getB ix (lk.length+1+i))).right=getB ix (getN ns i).right.toNat
 stay:Stay S0 S' hs
 nu:S'.nu=S0.nu+ns.length
 ul:S'.used.length=S0.used.length
 rd:S'.reads=S0.reads
theorem mk_ma (p:MkP S0 hs k lk ns rs kx){j:Nat}(hj:j<ns.length):exW (mkJ S0 (0::lk) (ns.take j)).1/\live (mkJ S0 (0::lk) (ns.take j)).1 (getB (mkJ S0 (0::lk) (ns.take j)).2 (getN ns j).left.toNat)/\live (mkJ S0 (0::lk) (ns.take j)).1 (getB (mkJ S0 (0::lk) (ns.take j)).2 (getN ns j).right.toNat) ∧
  (mkNode (mkJ S0 (0::lk) (ns.take j)).1 (getN ns j).key (getN ns j).value (getB (mkJ S0 (0::lk) (ns.take j)).2 (getN ns j).left.toNat) (getB (mkJ S0 (0::lk) (ns.take j)).2 (getN ns j).right.toNat)).size<=maxSize/\0<(mkJ S0 (0::lk) (ns.take j)).1.free:=by
 obtain⟨nw,h⟩:=mkI_all p j (by omega)
 have o:=p.od j hj
 exact⟨⟨_,h.wf⟩,(h.ref p.k0 o.1.1 o.1.2).us,(h.ref p.k0 o.2.1 o.2.2).us,h.size p hj,by rw[h.free p];have:=p.fr;omega⟩
theorem mk_all (p:MkP S0 hs k lk ns rs kx):MkQ k ns rs S0 lk/\MkO S0 hs lk ns rs (dcJ (rtJ (mkJ S0 (0::lk) ns).1 (rtG (mkJ S0 (0::lk) ns).2 rs)) ((mkJ S0 (0::lk) ns).2.drop (k.toNat+1))) (mkJ S0 (0::lk) ns).2 (rtG (mkJ S0 (0::lk) ns).2 rs):=by
 obtain⟨nw,h⟩:=mkI_all p ns.length (Nat.le_refl _)
 rw[List.take_length] at h
 have k0:=p.k0;have hl:=p.hl;have rl:=p.rl;have nl:=p.nl
 have hmk:=fun j hj=>mk_ma p (j:=j) hj
 generalize hS:(mkJ S0 (0::lk) ns).1=S1 at h ⊢
 generalize hX:(mkJ S0 (0::lk) ns).2=ix at h ⊢
 have live_:∀ r∈rs,getB ix r.toNat=0∨S1.us (getB ix r.toNat)=true:=fun r hr=>(h.ref k0 (p.rr r hr).1 (p.rr r hr).2).us
 have lv:∀ i∈rtG ix rs,i=0∨S1.us i=true:=fun i hi=>by
  obtain⟨r,hr,rfl⟩:=List.mem_map.1 hi
  exact live_ r hr
 have ll:∀ l:List Int,l.length<=rs.length->(nw.reverse++hs).length+(rtG ix l).length<=999999990:=fun l hl2=>by
  rw[List.length_append,List.length_reverse,h.len];unfold rtG;rw[List.length_map];omega
 have ed:ix.drop (k.toNat+1)=nw:=by
  rw[h.ix_,List.drop_succ_cons,show k.toNat=lk.length by omega,List.drop_left]
 obtain⟨w2,r2,u2,us2,nd2,gn2⟩:=rtJ_ok (rtG ix rs) h.wf lv (ll rs (Nat.le_refl _))
 have w3:Wf (rtJ S1 (rtG ix rs)) (nw++((rtG ix rs).reverse++hs)):=w2.perm (by
  refine (List.Perm.append_left _ (List.Perm.append_right hs nw.reverse_perm)).trans ?_
  rw[← List.append_assoc,← List.append_assoc]
  exact List.Perm.append_right hs List.perm_append_comm)
 have hn:∀ q,q<ns.length->getB ix (lk.length+1+q)=getB nw q:=fun q hq=>by
  rw[h.ix_,show lk.length+1+q=(lk.length+q)+1 by omega]
  exact getB_right
 have hmem:∀ i∈nw,∃ q,q<ns.length/\getB nw q=i:=fun i hi=>by
  obtain⟨q,hq,e⟩:=List.mem_iff_getElem.1 hi
  refine⟨q,by rw[← h.len];exact hq,?_⟩
  show nw.getD q _=i
  rw[List.getD_eq_getElem?_getD,List.getElem?_eq_getElem hq];exact e
 obtain⟨⟨w4,r4,u4,us4,nd4,gn4⟩,dc⟩:=dcJ_ok nw w3 fun i hi=>by
  refine⟨by rw[us2];exact h.us i hi,?_⟩
  obtain⟨q,hq,e⟩:=hmem i hi
  have ei:getB ix (k+1+q).toNat=i:=by rw[show (k+1+(q:Int)).toNat=lk.length+1+q by omega,hn q hq,e]
  rcases p.fit.re q hq with c|⟨x,hx,c⟩
  ·exact .inr (List.mem_append_left _ (List.mem_reverse.2 (List.mem_map.2 ⟨_,c,ei⟩)))
  ·refine .inl (indeg_pos w3 (j:=getB ix (lk.length+1+x)) ?_ ?_)
   ·rw[us2,hn x hx]
    exact h.us _ (getB_mem (by rw[h.len];exact hx))
   ·have nn:=h.nd x hx
    rw[nd2]
    rcases c with c|c
    ·exact .inl (by rw[nn.1,c,ei])
    ·exact .inr (by rw[nn.2,c,ei])
 refine⟨⟨k0,p.k1,hmk,fun j hj=>?_,fun j hj=>?_⟩,?_⟩
 ·rw[hS,hX]
  have sub:∀ i∈rtG ix (rs.take j),i=0∨S1.us i=true:=fun i hi=>by
   obtain⟨r,hr,rfl⟩:=List.mem_map.1 hi
   exact live_ r (List.mem_of_mem_take hr)
  obtain⟨w,_,u,us,_,_⟩:=rtJ_ok (rtG ix (rs.take j)) h.wf sub (ll _ (by rw[List.length_take];omega))
  have l1:=live_ _ (getB_mem hj)
  refine⟨⟨_,w⟩,?_,l1.imp_right fun q=>by rw[us];exact q⟩
  rcases l1 with q|q
  ·rw[q];unfold inU;omega
  ·have a:=h.wf.pos q
   have b:=h.wf.n2
   unfold inU
   omega
 ·rw[hS,hX,ed]
  have:=dc j (by rw[h.len];exact hj)
  exact this
 ·rw[ed]
  have us':∀ j,(dcJ (rtJ S1 (rtG ix rs)) nw).us j=S1.us j:=fun j=>(us4 j).trans (us2 j)
  have nd':∀ j,(dcJ (rtJ S1 (rtG ix rs)) nw).nd j=S1.nd j:=fun j=>(nd4 j).trans (nd2 j)
  have gn':∀ j,(dcJ (rtJ S1 (rtG ix rs)) nw).gn j=S1.gn j:=fun j=>(gn4 j).trans (gn2 j)
  have uu:(dcJ (rtJ S1 (rtG ix rs)) nw).used=S1.used:=u4.trans u2
  refine⟨⟨nw,h.ix_,h.len,fun i=>by rw[us'];exact h.us_ i,h.fresh,h.nod⟩,fun i hi=>by rw[nd',gn'];exact h.old i hi,rfl,w4,fun r a b=>(h.ref k0 a (by omega)).same us' nd',fun i hi=>by rw[nd'];exact h.nd i hi,h.stay.trans (stay_same us' nd' gn' hs),?_,by rw[uu];exact h.ul,(r4.trans r2).trans h.rd⟩
  ·have:(dcJ (rtJ S1 (rtG ix rs)) nw).nu=S1.nu:=by unfold Arn.nu;rw[uu]
   rw[this];exact h.nu
end Go.Proofs.YtedfbafngmicpaaGreat.Sx
end
section
/- pack.Export, pack.Import. -/
namespace Go.Proofs.YtedfbafngmicpaaGreat.Sx
open Go

/-KEEP Wf exW inU allV allB rdS NumsA WrB WrR FtB FtR MkB MkR pkD-/
noncomputable def aExp:Ann C0:={ Γ:=[(47,frameT [] tWr)] }
def tExp:Tfm C0:=fun args H K=>match args with
 | [.at (.ptr 0 0),.at (.slc 7),.at (.slc 8)]=>wrM H fun S rs ks=>WrB S rs ks/\S.reads<=1000000000000000000/\rs.length<=4096/\∀ S' o,WrR S rs ks 400000 S' o->K (.tup [.at (.slc 9),.at (vI 0)]) (chS S'++[.row false EC.u32 rs,.row false EC.u32 ks,.row true EC.u8 o]) [0]
 | _=>False
abbrev imM (H:List (Chunk C0))(k:Arn->List Int->List Int->Prop):Prop:=arMr H fun S rest=>match rest with
 | [.row false .u8 b,.row false .u32 ks]=>k S b ks
 | _=>False
structure ImB (S:Arn) (b ks:List Int):Prop where
 ab:allB b
 bl:b.length<=1000000000
 ft:∀ p,pkD b=(0,p)->FtB p.known p.digest p.nodes p.roots S ks
 mk_:∀ p S',pkD b=(0,p)->FtR p.known p.digest p.nodes p.roots S ks S' 0->MkB p.known p.nodes p.roots S' ks
def tImp:Tfm C0:=fun args H K=>match args with
 | [.at (.ptr 0 0),.at (.slc 7),.at (.slc 8)]=>imM H fun S b ks=>ImB S b ks ∧
  (∀ e p,pkD b=(e,p)->e≠0->K (.tup [.at (.slc 9),.at (vI e)]) (chS S++[.row false EC.u8 b,.row false EC.u32 ks,.row true EC.u32 []]) W7) ∧
  (∀ e p S',pkD b=(0,p)->FtR p.known p.digest p.nodes p.roots S ks S' e->e≠0->K (.tup [.at (.slc 9),.at (vI e)]) (chS S'++[.row false EC.u8 b,.row false EC.u32 ks,.row true EC.u32 []]) W7) ∧
  (∀ p S' S2 o,pkD b=(0,p)->FtR p.known p.digest p.nodes p.roots S ks S' 0->MkR p.known p.nodes p.roots S' ks S2 o->K (.tup [.at (.slc 9),.at (vI 0)]) (chS S2++[.row false EC.u8 b,.row false EC.u32 ks,.row true EC.u32 o]) W7)
 | _=>False
noncomputable def aImp:Ann C0:={ Γ:=[(53,frameT [] tRe),(54,frameT [] tFt),(55,frameT [] tPmk)] }
theorem vc_exp (S:Arn)(rs ks:List Int)(K:KT)(hb:WrB S rs ks)(hr:S.reads<=1000000000000000000)(hl:rs.length<=4096)(h:∀ S' o,WrR S rs ks 400000 S' o->K (.tup [.at (.slc 9),.at (vI 0)]) (chS S'++[.row false EC.u32 rs,.row false EC.u32 ks,.row true EC.u8 o]) [0]) :
  vc C0 aExp Tryz.f12 [.at (.ptr 0 0),.at (.slc 7),.at (.slc 8)] (chS S++[.row false EC.u32 rs,.row false EC.u32 ks]) (normK 9 (wideK [0] K)):=by
 refine Eq.mp (show (brS (decide ((rs.length:Int)>4096)) (K (.tup [(.at (.slc 9)),(.at (.val (VI 1)))]) [(.box [(.ptr 1 0),(.slc 2),(.slc 3),(.val (VW (S.reads)))]),(.box [(.slc 4),(.slc 5),(.slc 6),(.val (VU (S.fresh)))]),(.row true EC.node (S.nodes)),(.row true EC.int (S.counts)),(.row true EC.bool (S.used)),(.row true EC.u32 (S.gen)),(.row true EC.u32 (S.rel)),(.row false EC.u32 (rs)),(.row false EC.u32 (ks)),(.row true EC.u8 [])] [0]) ((WrB S rs ks/\S.reads<=1000000000000000000)/\∀ S':Arn,∀ o:List Int,WrR S rs ks 400000 S' o->K (.tup [(.at (.slc 9)),(.at (.val (VI 0)))]) [(.box [(.ptr 1 0),(.slc 2),(.slc 3),(.val (VW (S'.reads)))]),(.box [(.slc 4),(.slc 5),(.slc 6),(.val (VU (S'.fresh)))]),(.row true EC.node (S'.nodes)),(.row true EC.int (S'.counts)),(.row true EC.bool (S'.used)),(.row true EC.u32 (S'.gen)),(.row true EC.u32 (S'.rel)),(.row false EC.u32 (rs)),(.row false EC.u32 (ks)),(.row true EC.u8 (o))] [0]))=_ by kernel_rfl) ?_
 exact brS_of (fun y=>by have:=of_decide_eq_true y;omega) fun _=>⟨⟨hb,hr⟩,h⟩
theorem s_exp:SoundT C0 12 tExp:=by
 refine .ofW [0] Tryz.func12 (by decide) rfl fun args H K h hB=>?_
 unfold tExp wrM arMr at h
 split at h<;>try exact h.elim
 split at h<;>try exact h.elim
 split at h<;>try exact h.elim
 rename_i _ rd fr nd ct us gn rl _ rs ks
 refine⟨_,?_,vc_exp ⟨us,gn,rl,fr,nd,ct,rd⟩ rs ks K h.1 h.2.1 h.2.2.1 h.2.2.2⟩
 exact⟨frame C0.ok s_wr _,trivial⟩
theorem vc_imp (S:Arn)(b ks:List Int)(K:KT)(hb:ImB S b ks)(h1:∀ e p,pkD b=(e,p)->e≠0->K (.tup [.at (.slc 9),.at (vI e)]) (chS S++[.row false EC.u8 b,.row false EC.u32 ks,.row true EC.u32 []]) W7)(h2:∀ e p S',pkD b=(0,p)->FtR p.known p.digest p.nodes p.roots S ks S' e->e≠0->K (.tup [.at (.slc 9),.at (vI e)]) (chS S'++[.row false EC.u8 b,.row false EC.u32 ks,.row true EC.u32 []]) W7)(h3:∀ p S' S2 o,pkD b=(0,p)->FtR p.known p.digest p.nodes p.roots S ks S' 0->MkR p.known p.nodes p.roots S' ks S2 o->K (.tup [.at (.slc 9),.at (vI 0)]) (chS S2++[.row false EC.u8 b,.row false EC.u32 ks,.row true EC.u32 o]) W7) :
  vc C0 aImp Tryz.f15 [.at (.ptr 0 0),.at (.slc 7),.at (.slc 8)] (chS S++[.row false EC.u8 b,.row false EC.u32 ks]) (normK 9 (wideK W7 K)):=by
 refine Eq.mp (show (allB b/\b.length<=1000000000/\∀ e:Int,∀ p:PKT,pkD b=(Prod.mk (e) (p))->brS (e != 0) (K (.tup [(.at (.slc 9)),(.at (.val (VI (e))))]) [(.box [(.ptr 1 0),(.slc 2),(.slc 3),(.val (VW (S.reads)))]),(.box [(.slc 4),(.slc 5),(.slc 6),(.val (VU (S.fresh)))]),(.row true EC.node (S.nodes)),(.row true EC.int (S.counts)),(.row true EC.bool (S.used)),(.row true EC.u32 (S.gen)),(.row true EC.u32 (S.rel)),(.row false EC.u8 (b)),(.row false EC.u32 (ks)),(.row true EC.u32 [])] [0,1,2,3,4,5,6]) (FtB p.known p.digest p.nodes p.roots S ks/\∀ S':Arn,∀ e1:Int,FtR p.known p.digest p.nodes p.roots S ks S' e1->brS (e1 != 0) (K (.tup [(.at (.slc 9)),(.at (.val (VI (e1))))]) [(.box [(.ptr 1 0),(.slc 2),(.slc 3),(.val (VW (S'.reads)))]),(.box [(.slc 4),(.slc 5),(.slc 6),(.val (VU (S'.fresh)))]),(.row true EC.node (S'.nodes)),(.row true EC.int (S'.counts)),(.row true EC.bool (S'.used)),(.row true EC.u32 (S'.gen)),(.row true EC.u32 (S'.rel)),(.row false EC.u8 (b)),(.row false EC.u32 (ks)),(.row true EC.u32 [])] [0,1,2,3,4,5,6]) (MkB p.known p.nodes p.roots S' ks/\∀ S'1:Arn,∀ o:List Int,MkR p.known p.nodes p.roots S' ks S'1 o->K (.tup [(.at (.slc 9)),(.at (.val (VI 0)))]) [(.box [(.ptr 1 0),(.slc 2),(.slc 3),(.val (VW (S'1.reads)))]),(.box [(.slc 4),(.slc 5),(.slc 6),(.val (VU (S'1.fresh)))]),(.row true EC.node (S'1.nodes)),(.row true EC.int (S'1.counts)),(.row true EC.bool (S'1.used)),(.row true EC.u32 (S'1.gen)),(.row true EC.u32 (S'1.rel)),(.row false EC.u8 (b)),(.row false EC.u32 (ks)),(.row true EC.u32 (o))] [0,1,2,3,4,5,6])))=_ by kernel_rfl) ?_
 have ne_of:∀ {x y:Int},(x != y)=true->x≠y:=fun {x y} q e=>by rw[e] at q;simp at q
 have eq_of:∀ {x y:Int},(x != y)=false->x=y:=fun {x y} q=>by simpa using q
 refine⟨hb.ab,hb.bl,fun e p ep=>brS_of (fun y=>h1 e p ep (ne_of y)) fun y=>?_⟩
 rw[eq_of y] at ep
 refine⟨hb.ft p ep,fun S' e1 f=>brS_of (fun z=>h2 e1 p S' ep f (ne_of z)) fun z=>?_⟩
 rw[eq_of z] at f
 exact⟨hb.mk_ p S' ep f,fun S2 o m=>h3 p S' S2 o ep f m⟩
theorem s_imp:SoundT C0 15 tImp:=by
 refine .ofW W7 Tryz.func15 (by decide) rfl fun args H K h hB=>?_
 unfold tImp imM arMr at h
 split at h<;>try exact h.elim
 split at h<;>try exact h.elim
 split at h<;>try exact h.elim
 rename_i _ rd fr nd ct us gn rl _ b ks
 refine⟨_,?_,vc_imp ⟨us,gn,rl,fr,nd,ct,rd⟩ b ks K h.1 h.2.1 h.2.2.1 h.2.2.2⟩
 exact⟨frame C0.ok s_re _,frame C0.ok s_ft _,frame C0.ok s_pmk _,trivial⟩
end Go.Proofs.YtedfbafngmicpaaGreat.Sx
end
section
/- A pack that is imported: what is asked, and what is left. No program in sight. -/
namespace Go.Proofs.YtedfbafngmicpaaGreat.Sx
open Go

variable {S S':Arn} {hs ks rs lk:List Int} {k D:Int} {ns:List PNT}
theorem PkOk.ord (h:PkOk k D ns rs):OrdP k ns:=fun i hi=>by
 obtain⟨⟨_,_,⟨a,_⟩,b,_⟩,c,d⟩:=h.ok i hi
 exact⟨⟨a,c⟩,b,d⟩
theorem KnV.rd {m:Nat}(h:KnV S ks):KnV (rdS S m) ks:=fun r hr=>by
 obtain⟨t,a,b,c⟩:=h r hr
 exact⟨t,rep_rd a _,b,c⟩
structure KnB (S:Arn) (hs ks:List Int):Prop where
 wf:Wf S hs
 hl:hs.length<=900000
 kv:KnV S ks
 av:allV ks
 ky:KyN S ks
 kl:ks.length<=90000
 rd:S.reads<=100000000000000000
theorem ft_pre (h:KnB S hs ks)(pk:PkOk k D ns rs):FtB k D ns rs S ks :=
 ⟨⟨hs,h.wf⟩,by have:=h.rd;omega,h.kl,h.av,h.ky,pk.k0,pk.nl,pk.ord,by have:=pk.rl;omega,pk.rr,fun lk n e=>by
  obtain⟨kx,kr⟩:=KxR.ex h.wf h.kv n
  refine⟨kx,kr,fun j hj=>(pool_px h.wf h.kv n kr e pk.ord hj).szX ?_⟩
  rw[pool_len]
  have:=pk.k0;have:=pk.nl
  omega⟩
theorem ft_ok (pk:PkOk k D ns rs)(f:FtR k D ns rs S ks S' 0):∃ lk kx m,NumsA S ks [] lk/\(lk.length:Int)=k/\DgR S ks D/\KxR S lk kx/\FitN k ns rs kx/\(ns.length:Int)<=S.free/\S'=rdS S m/\m<=100000000000:=by
 obtain⟨lk,dg,kx,n,d,kr,e⟩:=f.ex
 obtain⟨m,es,hm⟩:=f.st
 have c:(lk.length:Int)=k:=Classical.byContradiction fun c=>by
  unfold ftE at e
  rw[if_pos (.inl c)] at e;cases e
 have kr:=kr c
 obtain⟨_,e2,e3,e4⟩:=ftE_ok pk.k0.1 (by rw[kr.len];exact c) pk.ord pk.rr e.symm
 exact⟨lk,kx,m,n,c,e2 ▸ d,kr,e4,e3,es,hm⟩
theorem mk_pre (h:KnB S hs ks)(pk:PkOk k D ns rs){kx:List ExtT}(n:NumsA S ks [] lk)(e:(lk.length:Int)=k)(kr:KxR S lk kx)(ft:FitN k ns rs kx)(fr:(ns.length:Int)<=S.free){m:Nat}(hm:m<=100000000000000000):MkP (rdS S m) hs k lk ns rs kx:=by
 have w:Wf (rdS S m) hs:=h.wf.rd (by have:=h.rd;omega)
 have n':NumsA (rdS S m) ks [] lk:=n
 refine⟨w,h.hl,e,pk.k0.2,pk.nl,pk.rl,fun i hi=>?_,fun i hi=>?_,kr.len,pk.ord,pk.rr,ft,fun j hj=>pool_px w h.kv.rd n' (kr.rd m) e pk.ord hj,fr⟩
 ·exact (h.kv.rd.tree w n' hi).rep
 ·exact n.used (fun j hj=>by simp at hj) i hi
theorem mk_b (h:KnB S hs ks)(pk:PkOk k D ns rs)(f:FtR k D ns rs S ks S' 0):MkB k ns rs S' ks:=by
 obtain⟨lk,kx,m,n,e,d,kr,ft,fr,es,hm⟩:=ft_ok pk f
 subst es
 have w:Wf (rdS S m) hs:=h.wf.rd (by have:=h.rd;omega)
 refine⟨⟨hs,w⟩,by show S.reads+(m:Int)<=_;have:=h.rd;omega,h.kl,h.av,pk.nl,pk.ord,by have:=pk.rl;omega,pk.rr,fun lk' n'=>?_⟩
 have n2:NumsA S ks [] lk':=n'
 obtain rfl:=n.det n2
 rw[rdS_rdS]
 exact (mk_all (mk_pre h pk n e kr ft fr (by have:=pk.k0;omega))).1
theorem mk_r (h:KnB S hs ks)(pk:PkOk k D ns rs)(f:FtR k D ns rs S ks S' 0){S2:Arn}{o:List Int}(r:MkR k ns rs S' ks S2 o) :
  ∃ lk ix m,NumsA S ks [] lk/\(lk.length:Int)=k/\MkO (rdS S m) hs lk ns rs S2 ix o/\m<=200000000000/\∃ kx,MkP (rdS S m) hs k lk ns rs kx:=by
 obtain⟨lk,kx,m,n,e,d,kr,ft,fr,es,hm⟩:=ft_ok pk f
 subst es
 obtain⟨lk',n',eo,e2⟩:=r.ex
 have n2:NumsA S ks [] lk':=n'
 obtain rfl:=n.det n2
 rw[rdS_rdS] at eo e2
 have p:=mk_pre h pk n e kr ft fr (m:=m+lk.length) (by have:=pk.k0;omega)
 have q:=(mk_all p).2
 rw[← eo,← e2] at q
 exact⟨lk,_,_,n,e,q,by have:=pk.k0;omega,kx,p⟩
theorem im_b (h:KnB S hs ks)(pk:PkOk k D ns rs){b:List Int}(eb:b=pkE k D ns rs)(ab:allB b)(bl:b.length<=1000000000):ImB S b ks:=by
 have e:pkD b=(0,⟨k,D,ns,rs⟩):=by rw[eb];exact pkD_pkE pk
 refine⟨ab,bl,fun p hp=>?_,fun p S' hp f=>?_⟩
 ·rw[e] at hp
  injection hp with _ hp
  subst hp
  exact ft_pre h pk
 ·rw[e] at hp
  injection hp with _ hp
  subst hp
  exact mk_b h pk f
end Go.Proofs.YtedfbafngmicpaaGreat.Sx
end
section
/- A pack that was written from trees fits. No program in sight. -/
namespace Go.Proofs.YtedfbafngmicpaaGreat.Sx
open Go

/-! ### The extent of a tree -/
def exO (t:Tr):ExtT:=⟨true,t.size,hdKy t.list,lsKy t.list⟩
theorem ls_mem:∀ {l:List Ent},l≠[]->∃ z∈l,z.1=lsKy l:=by
 intro l h
 cases e:l.getLast? with
 | none=>exact absurd (List.getLast?_eq_none_iff.1 e) h
 | some y=>exact⟨y,List.mem_of_getLast? e,by unfold lsKy;rw[e];rfl⟩
theorem hd_mem:∀ {l:List Ent},l≠[]->∃ z∈l,z.1=hdKy l
 | [],h=>absurd rfl h
 | y::_,_=>⟨y,List.mem_cons_self ..,rfl⟩
def KdX (xs:List ExtT)(r:Int)(a:Tr):Prop:=(r=0/\a = .nil)∨(r≠0/\a.list≠[]/\refX xs r=exO a)
theorem KdX.size {xs:List ExtT}{r:Int}{a:Tr}(h:KdX xs r a):(refX xs r).size=a.size:=by
 rcases h with ⟨rfl,rfl⟩|⟨_,_,e⟩
 ·rfl
 ·rw[e];rfl
theorem bldX_ext {xs:List ExtT}{x:PNT}{a b:Tr}{v:Int}(ha:KdX xs x.left a)(hb:KdX xs x.right b)(asc:Asc (Tr.node a x.key v b).list)(bal:(Tr.node a x.key v b).Bal):bldX xs x=exO (.node a x.key v b):=by
 obtain⟨_,_,la,lb⟩:=asc_parts asc
 have t1:bT1 xs x=true:=by
  unfold bT1
  rcases ha with ⟨c,_⟩|⟨c,n,e⟩
  ·rw[if_pos c]
  ·rw[if_neg c,e]
   obtain⟨z,hz,ez⟩:=ls_mem n
   have:=la z hz
   show (true && decide (lsKy a.list<x.key))=true
   rw[Bool.true_and]
   exact decide_eq_true (by omega)
 have t2:bT2 xs x=true:=by
  unfold bT2
  rcases hb with ⟨c,_⟩|⟨c,n,e⟩
  ·rw[if_pos c];exact t1
  ·rw[if_neg c,e,t1]
   obtain⟨z,hz,ez⟩:=hd_mem n
   have:=lb z hz
   show (true && (true && decide (x.key<hdKy b.list)))=true
   rw[Bool.true_and,Bool.true_and]
   exact decide_eq_true (by omega)
 have t3:bT3 xs x=true:=by
  unfold bT3
  rw[t2,Bool.true_and,ha.size,hb.size]
  exact decide_eq_true bal.1
 unfold bldX
 rw[t3,if_pos rfl,ha.size,hb.size]
 unfold exO
 show ExtT.mk _ _ _ _=ExtT.mk _ ((1+a.size+b.size:Nat):Int) (hdKy (_++_::_)) (lsKy (_++_::_))
 rw[hd_app,ls_app]
 congr 1
 ·omega
 ·unfold bFs
  rcases ha with ⟨c,e⟩|⟨c,n,e⟩
  ·rw[if_pos c,e];rfl
  ·rw[if_neg c,if_neg n,e];rfl
 ·unfold bLs
  rcases hb with ⟨c,e⟩|⟨c,n,e⟩
  ·rw[if_pos c,e];rfl
  ·rw[if_neg c,if_neg n,e];rfl
variable {A:Arn} {hs ks rs lk la:List Int}
theorem trA_node (w:Wf A hs){i:Int}{t:Tr}(u:A.us i=true)(r:Rep A t i):trA A i = .node (trA A (lfA A i)) (A.nd i).key (A.nd i).value (trA A (rgA A i)):=by
 rw[trA_eq w r]
 cases t with
 | nil =>
  have e:i=0:=r
  rw[e,w.us0 (Int.le_refl 0)] at u;cases u
 | node a k v b =>
  obtain⟨_,e1,e2,ra,rb⟩:=r
  rw[← e1,← e2,show lfA A i=(A.nd i).left from rfl,show rgA A i=(A.nd i).right from rfl,trA_eq w ra,trA_eq w rb]
theorem trA_zero (w:Wf A hs):trA A 0 = .nil:=trA_eq w (show Rep A .nil 0 from rfl)
theorem getB_some {l:List Int}{p:Nat}{x:Int}(h:l[p]?=some x):getB l p=x:=by
 show l.getD p 0=x
 rw[List.getD_eq_getElem?_getD,h];rfl
theorem getB_get {l:List Int}{p:Nat}(h:p<l.length):l[p]?=some (getB l p):=by
 show l[p]?=some (l.getD p 0)
 rw[List.getD_eq_getElem?_getD,List.getElem?_eq_getElem h];rfl
theorem getX_map {l:List Int}{f:Int->ExtT}{p:Nat}(h:p<l.length):getX (l.map f) p=f (getB l p):=by
 show (l.map f).getD p _=f (l.getD p 0)
 rw[List.getD_eq_getElem?_getD,List.getD_eq_getElem?_getD,List.getElem?_map,List.getElem?_eq_getElem h];rfl
theorem getN_map {l:List Int}{f:Int->PNT}{p:Nat}(h:p<l.length):getN (l.map f) p=f (getB l p):=by
 show (l.map f).getD p _=f (l.getD p 0)
 rw[List.getD_eq_getElem?_getD,List.getD_eq_getElem?_getD,List.getElem?_map,List.getElem?_eq_getElem h];rfl
theorem getB_drop {l:List Int}{k i:Nat}:getB (l.drop k) i=getB l (k+i):=by
 show (l.drop k).getD i 0=l.getD (k+i) 0
 rw[List.getD_eq_getElem?_getD,List.getD_eq_getElem?_getD,List.getElem?_drop]
theorem getB_take {l:List Int}{k i:Nat}(h:i<k):getB (l.take k) i=getB l i:=by
 show (l.take k).getD i 0=l.getD i 0
 rw[List.getD_eq_getElem?_getD,List.getD_eq_getElem?_getD,List.getElem?_take,if_pos h]
structure ExA (A:Arn) (hs ks rs lk la:List Int):Prop where
 wf:Wf A hs
 kv:KnV A (ks++rs)
 nk:NumsA A ks [] lk
 na:NumsA A rs lk la
theorem ExA.all (h:ExA A hs ks rs lk la):NumsA A (ks++rs) [] la:=h.nk.app h.na
theorem ExA.ls (h:ExA A hs ks rs lk la):LsN A la:=LsN.of h.wf h.all
theorem ExA.few (h:ExA A hs ks rs lk la):la.length<=65536:=by
 have:=used_few h.wf h.ls.nd h.ls.used
 have:=h.wf.n2
 omega
theorem ExA.le (h:ExA A hs ks rs lk la):lk.length<=la.length:=by
 obtain⟨x,e⟩:=h.na.pre
 rw[e,List.length_append];omega
theorem ExA.old (h:ExA A hs ks rs lk la){p:Nat}(hp:p<lk.length):getB la p=getB lk p:=by
 obtain⟨x,e⟩:=h.na.pre
 rw[e,getB_left hp]
theorem ExA.good (h:ExA A hs ks rs lk la){i:Int}(hi:i∈la):KnT A la (trA A i) i:=h.kv.tree h.wf h.all hi
theorem ExA.kd (h:ExA A hs ks rs lk la){p q:Nat}{x:Int}{xs:List ExtT}(hx:KidN la p x)(hq:p<=q)(hl:q<=la.length)(e:xs=(la.take q).map fun i=>exO (trA A i)):KdX xs (plcN la x) (trA A x):=by
 rcases hx with ⟨e1,e2⟩|⟨c,r,hr,e1,e2⟩
 ·exact .inl ⟨e2,by rw[e1,trA_zero h.wf]⟩
 ·have g:=h.good (List.mem_of_getElem? e1)
  refine .inr ⟨by omega,fun q=>?_,?_⟩
  ·have:=size_pos.1 q
   have:=g.pos
   omega
  ·rw[show refX xs (plcN la x)=getX xs (plcN la x-1).toNat from if_neg (by omega),e2,show ((r:Int)+1-1).toNat=r by omega,e,getX_map (by rw[List.length_take];omega),getB_take (by omega),getB_some e1]
theorem ExA.ext (h:ExA A hs ks rs lk la){kx:List ExtT}(hk:kx=lk.map fun i=>exO (trA A i)):∀ j,lk.length+j<=la.length->bldL kx ((la.drop lk.length).map (nodP A la)) j=(la.take (lk.length+j)).map fun i=>exO (trA A i)
 | 0,_=>by
  obtain⟨x,e⟩:=h.na.pre
  show kx=_
  rw[hk,Nat.add_zero,e,List.take_left]
 | j+1,hj=>by
  have ih:=ExA.ext h hk j (by omega)
  have hj2:j<((la.drop lk.length).map (nodP A la)).length:=by rw[List.length_map,List.length_drop];omega
  have e1:getN ((la.drop lk.length).map (nodP A la)) j=nodP A la (getB la (lk.length+j)):=by
   rw[getN_map (by rw[List.length_drop];omega),getB_drop]
  rw[bldL_go kx hj2,e1,ih,show lk.length+(j+1)=lk.length+j+1 by omega,take_getB (by omega),List.map_append]
  congr 1
  have hg:=getB_get (l:=la) (p:=lk.length+j) (by omega)
  obtain⟨u,k1,k2⟩:=h.ls.kids h.wf hg
  have g:=h.good (List.mem_of_getElem? hg)
  have tn:=trA_node h.wf u g.rep
  rw[List.map_singleton]
  congr 1
  have ga:=g.asc;have gb:=g.bal
  rw[tn] at ga gb ⊢
  exact bldX_ext (x:=nodP A la (getB la (lk.length+j))) (h.kd k1 (Nat.le_refl _) (by omega) rfl) (h.kd k2 (Nat.le_refl _) (by omega) rfl) ga gb
theorem vsG_num (h:ExA A hs ks rs lk la){i:Int}{acc a:List Int}(n:NumG A.us (lfA A) (rgA A) i acc a):(∃ z,la=a++z)->lk.length<=acc.length->(i=0∨A.us i=true)->∀ f,(plcN la i-lk.length).toNat<f →
  vsG lk.length ((la.drop lk.length).map (nodP A la)) f (acc.length+1) (plcN la i)=(true,(a.length:Int)+1):=by
 induction n with
 | @skip i acc c =>
  intro ⟨z,ez⟩ hl hi f hf
  cases f with
  | zero=>omega
  | succ f =>
  refine if_pos ?_
  rcases c with c|c
  ·have:i∉la:=fun q=>by rw[h.ls.used i q] at c;cases c
   rw[plcN_none this];omega
  ·obtain⟨p,hp⟩:=List.getElem?_of_mem c
   have pl:p<acc.length:=(List.getElem?_eq_some_iff.1 hp).1
   rw[plcN_at h.ls.nd (show la[p]?=some i by rw[ez,List.getElem?_append_left pl];exact hp)]
   omega
 | @go i acc a1 a2 u c n1 n2 ih1 ih2 =>
  intro ⟨z,ez⟩ hl hi f hf
  obtain⟨x1,e1⟩:=n1.pre
  obtain⟨x2,e2⟩:=n2.pre
  have l2:lk.length<=a2.length:=by rw[e2,e1];simp only[List.length_append];omega
  have l1:lk.length<=a1.length:=by rw[e1];simp only[List.length_append];omega
  have la12:acc.length<=a2.length:=by rw[e2,e1];simp only[List.length_append];omega
  have hg:la[a2.length]?=some i:=by rw[ez,List.getElem?_append_left (by simp),List.getElem?_concat_length]
  have pl:=plcN_at h.ls.nd hg
  have al:a2.length<la.length:=(List.getElem?_eq_some_iff.1 hg).1
  cases f with
  | zero=>omega
  | succ f =>
  obtain⟨_,k1,k2⟩:=h.ls.kids h.wf hg
  have ec:getN ((la.drop lk.length).map (nodP A la)) (plcN la i-lk.length-1).toNat=nodP A la i:=by
   rw[getN_map (by rw[List.length_drop];omega),getB_drop,show lk.length+(plcN la i-lk.length-1).toNat=a2.length by omega,getB_some hg]
  have kp:∀ {x:Int},KidN la a2.length x->plcN la x<=a2.length/\(x=0∨A.us x=true):=fun {x} k=>by
   rcases k with ⟨q1,q2⟩|⟨_,p,hp,q1,q2⟩
   ·exact⟨by omega,.inl q1⟩
   ·exact⟨by omega,.inr (h.ls.used x (List.mem_of_getElem? q1))⟩
  have v1:=ih1 ⟨x2++([i]++z),by rw[ez,e2];simp⟩ hl (kp k1).2 f (by have:=(kp k1).1;omega)
  have v2:=ih2 ⟨[i]++z,by rw[ez];simp⟩ l1 (kp k2).2 f (by have:=(kp k2).1;omega)
  have e:vsG lk.length ((la.drop lk.length).map (nodP A la)) (f+1) (acc.length+1) (plcN la i)=match vsG lk.length ((la.drop lk.length).map (nodP A la)) f (acc.length+1) (getN ((la.drop lk.length).map (nodP A la)) (plcN la i-lk.length-1).toNat).left with
     | (false,n1)=>(false,n1)
     | (true,n1)=>match vsG lk.length ((la.drop lk.length).map (nodP A la)) f n1 (getN ((la.drop lk.length).map (nodP A la)) (plcN la i-lk.length-1).toNat).right with
      | (false,n2)=>(false,n2)
      | (true,n2)=>if n2=plcN la i then (true,n2+1) else (false,n2):=if_neg (by omega)
  rw[e,ec]
  rw[show (nodP A la i).left=plcN la (lfA A i) from rfl,show (nodP A la i).right=plcN la (rgA A i) from rfl,v1]
  dsimp only
  rw[v2]
  dsimp only
  rw[if_pos (by omega),List.length_append,List.length_singleton]
  rfl
theorem vsL_num (h:ExA A hs ks rs lk la){f:Nat}(hf:la.length-lk.length<f){r acc a:List Int}(n:NumsG A.us (lfA A) (rgA A) r acc a):(∃ z,la=a++z)->lk.length<=acc.length->(∀ i∈r,i=0∨A.us i=true) →
  vsL lk.length ((la.drop lk.length).map (nodP A la)) f (r.map (plcN la)) (acc.length+1)=(true,(a.length:Int)+1):=by
 induction n with
 | nil=>intro _ _ _;rfl
 | @cons i r acc a1 a2 n1 n2 ih =>
  intro ⟨z,ez⟩ hl hr
  obtain⟨x1,e1⟩:=n1.pre
  obtain⟨x2,e2⟩:=n2.pre
  have pr:=(plcN_rng la i).2
  have v:=vsG_num h n1 ⟨x2++z,by rw[ez,e2];simp⟩ hl (hr i (by simp)) f (by omega)
  rw[List.map_cons]
  unfold vsL
  rw[v]
  exact ih ⟨z,ez⟩ (by rw[e1,List.length_append];omega) fun x hx=>hr x (List.mem_cons_of_mem _ hx)
theorem ExA.live (h:ExA A hs ks rs lk la):∀ i∈ks++rs,i=0∨A.us i=true:=fun i hi=>by
 obtain⟨t,r,_⟩:=h.kv i hi
 exact r.us
theorem ExA.fits (h:ExA A hs ks rs lk la){lkB:List Int}{kx:List ExtT}{D fr:Int}(hl:lkB.length=lk.length)(hk:kx=lk.map fun i=>exO (trA A i))(hf:((la.length-lk.length:Nat):Int)<=fr) :
  ftE lk.length D ((la.drop lk.length).map (nodP A la)) (rs.map (plcN la)) lkB D fr kx=0:=by
 have le:=h.le
 have nl:((la.drop lk.length).map (nodP A la)).length=la.length-lk.length:=by rw[List.length_map,List.length_drop]
 unfold ftE
 rw[if_neg (by rw[hl];simp),if_neg (by rw[nl];omega)]
 have ex:=h.ext hk (la.length-lk.length) (by omega)
 rw[show lk.length+(la.length-lk.length)=la.length by omega,List.take_length] at ex
 have rt:rtX lk.length (bldL kx ((la.drop lk.length).map (nodP A la)) ((la.drop lk.length).map (nodP A la)).length) (rs.map (plcN la))=true:=by
  unfold rtX
  rw[nl,ex]
  refine List.all_eq_true.2 fun r hr=>?_
  obtain⟨i,_,rfl⟩:=List.mem_map.1 hr
  by_cases c:(lk.length:Int)<plcN la i
  ·rw[getX_map (by have:=(plcN_rng la i).2;omega)]
   show (_ || true)=true
   rw[Bool.or_true]
  ·rw[decide_eq_false c];rfl
 rw[if_neg (by rw[rt];simp)]
 have vl:=vsL_num h (f:=fuP lk.length ((la.drop lk.length).map (nodP A la))) (by unfold fuP;rw[nl];omega) h.na ⟨[],by simp⟩ (Nat.le_refl _) fun i hi=>h.live i (List.mem_append_right _ hi)
 rw[if_pos (by rw[vl,nl];congr 1;omega)]
theorem KxR.is (h:ExA A hs ks rs lk la){kx:List ExtT}(kr:KxR A lk kx):kx=lk.map fun i=>exO (trA A i):=by
 refine List.ext_getElem (by rw[kr.len,List.length_map]) fun p h1 h2=>?_
 have hp:p<lk.length:=by rw[← kr.len];exact h1
 obtain⟨t,r,_,_,e⟩:=kr.at_ p hp
 rw[List.getElem_map]
 have e1:getX kx p=kx[p]:=by show kx.getD p _=_;rw[List.getD_eq_getElem?_getD,List.getElem?_eq_getElem h1];rfl
 have e2:getB lk p=lk[p]:=by show lk.getD p _=_;rw[List.getD_eq_getElem?_getD,List.getElem?_eq_getElem hp];rfl
 rw[← e1,← e2,e]
 unfold exO
 rw[trA_eq h.wf r]
end Go.Proofs.YtedfbafngmicpaaGreat.Sx
end
section
/- Exported and imported in the same arena. No program in sight. -/
namespace Go.Proofs.YtedfbafngmicpaaGreat.Sx
open Go

variable {S S1 S2:Arn} {hs ks rs lk la x o:List Int} {D D' e:Int} {m n:Nat}
theorem DgR.det (h:DgR S ks D)(h':DgR S ks D'):D=D':=by
 rcases h with ⟨a,b⟩|⟨a,l,nl,b⟩
 ·rcases h' with ⟨_,d⟩|⟨c,_⟩
  ·rw[b,d]
  ·exact absurd a c
 ·rcases h' with ⟨c,_⟩|⟨_,l',nl',d⟩
  ·exact absurd c a
  ·obtain rfl:=nl.det nl'
   rw[b,d]
theorem DgR.rng (h:DgR S ks D):0<=D/\D<4294967296:=by
 rcases h with ⟨_,b⟩|⟨_,l,_,b⟩
 ·rw[b];omega
 ·rw[b];exact crc_rng _
abbrev nsA (S:Arn)(lk la:List Int):List PNT:=(la.drop lk.length).map (nodP S la)
theorem nsA_len:(nsA S lk la).length=la.length-lk.length:=by unfold nsA;rw[List.length_map,List.length_drop]
theorem ExA.pk (h:ExA S hs ks rs lk la)(ky:KyN S (ks++rs))(hD:0<=D/\D<4294967296)(rl:rs.length<=4096):PkOk lk.length D (nsA S lk la) (rs.map (plcN la)):=by
 have few:=h.few
 have le:=h.le
 refine⟨by omega,by rw[nsA_len];omega,by rw[List.length_map];exact rl,hD,fun i hi=>?_,fun r hr=>?_⟩
 ·rw[nsA_len] at hi
  have hg:=getB_get (l:=la) (p:=lk.length+i) (by omega)
  rw[show getN (nsA S lk la) i=nodP S la (getB la (lk.length+i)) from by rw[getN_map (by rw[List.length_drop];omega),getB_drop]]
  obtain⟨_,k1,k2⟩:=h.ls.kids h.wf hg
  have kp:∀ {x:Int},KidN la (lk.length+i) x->plcN la x<=(lk.length:Int)+i:=fun {x} k=>by
   rcases k with ⟨_,q⟩|⟨_,p,hp,_,q⟩<;>omega
  exact⟨nodP_ok (ky la h.all) few (List.mem_of_getElem? hg),kp k1,kp k2⟩
 ·obtain⟨i,_,rfl⟩:=List.mem_map.1 hr
  have:=plcN_rng la i
  rw[nsA_len];omega
structure RtB (S:Arn) (hs ks rs:List Int):Prop where
 kn:KnB S hs ks
 kv:KnV S (ks++rs)
 ky:KyN S (ks++rs)
 av:allV rs
 rl:rs.length<=4096
theorem RtB.wr (h:RtB S hs ks rs):WrB S rs ks/\S.reads<=1000000000000000000/\rs.length<=4096 :=
 ⟨⟨⟨hs,h.kn.wf⟩,by have:=h.kn.rd;omega,by have:=h.rl;omega,h.kn.kl,h.av,h.kn.av,h.ky⟩,by have:=h.kn.rd;omega,h.rl⟩
theorem KnB.rdm (h:KnB S hs ks)(hm:S.reads+m<=100000000000000000):KnB (rdS S m) hs ks :=
 ⟨h.wf.rd (by omega),h.hl,h.kv.rd,h.av,h.ky,h.kl,hm⟩
structure RtP (S:Arn) (hs ks rs lk la:List Int) (D:Int) (o:List Int):Prop where
 ex:ExA S hs ks rs lk la
 dg:DgR S ks D
 eo:o=pkE lk.length D (nsA S lk la) (rs.map (plcN la))
 pk:PkOk lk.length D (nsA S lk la) (rs.map (plcN la))
 dec:pkD o=(0,⟨lk.length,D,nsA S lk la,rs.map (plcN la)⟩)
theorem RtB.out (h:RtB S hs ks rs)(w:WrR S rs ks n S1 o):(∃ m,S1=rdS S m/\m<=n)/\allB o/\o.length<=8000000/\∃ lk la D,RtP S hs ks rs lk la D o:=by
 obtain⟨lk,la,D,n1,n2,d,eo⟩:=w.ex
 have ex:ExA S hs ks rs lk la:=⟨h.kn.wf,h.kv,n1,n2⟩
 have pk:=ex.pk h.ky d.rng h.rl
 have eo':o=pkE lk.length D (nsA S lk la) (rs.map (plcN la)):=eo
 exact⟨w.st,w.ab.1,w.ab.2,lk,la,D,ex,d,eo',pk,by rw[eo'];exact pkD_pkE pk⟩
theorem RtP.imB (p:RtP S hs ks rs lk la D o)(h:RtB S hs ks rs)(hm:S.reads+m<=100000000000000000)(ab:allB o)(bl:o.length<=8000000):ImB (rdS S m) o ks :=
 im_b (h.kn.rdm hm) p.pk p.eo ab (by omega)
theorem RtP.fit (p:RtP S hs ks rs lk la D o)(fr:((la.length-lk.length:Nat):Int)<=S.free)(f:FtR lk.length D (nsA S lk la) (rs.map (plcN la)) (rdS S m) ks S1 e):e=0:=by
 obtain⟨lk',dg,kx,n',d,kr,ee⟩:=f.ex
 have n2:NumsA S ks [] lk':=n'
 obtain rfl:=p.ex.nk.det n2
 have d2:DgR S ks dg:=d
 obtain rfl:=p.dg.det d2
 have kr2:KxR S lk kx:=by
  have q:=kr rfl
  exact⟨q.len,fun i hi=>by
   obtain⟨t,r,a,b,c⟩:=q.at_ i hi
   exact⟨t,Rep.same (S:=rdS S m) (S':=S) (fun _=>rfl) (fun _=>rfl) r,a,b,c⟩⟩
 rw[ee]
 exact p.ex.fits rfl (KxR.is p.ex kr2) fr
theorem RtP.done (p:RtP S hs ks rs lk la D o)(h:RtB S hs ks rs)(hm:S.reads+m<=100000000000000000)(f:FtR lk.length D (nsA S lk la) (rs.map (plcN la)) (rdS S m) ks S1 0)(r:MkR lk.length (nsA S lk la) (rs.map (plcN la)) S1 ks S2 x) :
  ∃ ix q,MkO (rdS S (m+q)) hs lk (nsA S lk la) (rs.map (plcN la)) S2 ix x/\q<=200000000000/\∃ kx,MkP (rdS S (m+q)) hs lk.length lk (nsA S lk la) (rs.map (plcN la)) kx:=by
 obtain⟨lk',ix,q,n',_,mo,hq,kx,mp⟩:=mk_r (h.kn.rdm hm) p.pk f r
 have n2:NumsA S ks [] lk':=n'
 obtain rfl:=p.ex.nk.det n2
 rw[rdS_rdS] at mo mp
 exact⟨ix,q,mo,hq,kx,mp⟩
theorem ExA.self (h:ExA S hs ks ks lk la):la=lk:=by
 have:∀ {r acc:List Int},(∀ i∈r,S.us i=true->i∈acc)->NumsA S r acc acc:=by
  intro r
  induction r with
  | nil=>intro acc _;exact .nil
  | cons i r ih =>
   intro acc hi
   refine .cons (.skip ?_) (ih fun x hx=>hi x (List.mem_cons_of_mem _ hx))
   cases u:S.us i with
   | false=>exact .inl rfl
   | true=>exact .inr (hi i (by simp) u)
 exact (h.na.det (this fun i hi u=>h.nk.roots i hi u))
end Go.Proofs.YtedfbafngmicpaaGreat.Sx
end
section
/- Exported and imported in the same arena: what comes back. No program in sight. -/
namespace Go.Proofs.YtedfbafngmicpaaGreat.Sx
open Go

variable {S S1 S2:Arn} {hs ks rs lk la x o:List Int} {D:Int} {m:Nat}
theorem trA_rd (S:Arn)(m:Nat):trA (rdS S m)=trA S:=by
 funext i
 unfold trA
 have:(fun t=>Rep (rdS S m) t i)=fun t=>Rep S t i:=by
  funext t
  exact propext ⟨fun h=>Rep.same (S:=rdS S m) (S':=S) (fun _=>rfl) (fun _=>rfl) h,fun h=>Rep.same (S:=S) (S':=rdS S m) (fun _=>rfl) (fun _=>rfl) h⟩
 rw[this]
theorem ktA_rd (S:Arn)(m:Nat)(l:List Int):ktA (rdS S m) l=ktA S l:=by unfold ktA;rw[trA_rd]
theorem getT_map {l:List Int}{f:Int->Tr}{p:Nat}(h:p<l.length):getT (l.map f) p=f (getB l p):=by
 show (l.map f).getD p _=f (l.getD p 0)
 rw[List.getD_eq_getElem?_getD,List.getD_eq_getElem?_getD,List.getElem?_map,List.getElem?_eq_getElem h];rfl
theorem ExA.ref (h:ExA S hs ks rs lk la){p q:Nat}{x:Int}{ts:List Tr}(hx:KidN la p x)(hq:p<=q)(hl:q<=la.length)(e:ts=(la.take q).map (trA S)):refT ts (plcN la x)=trA S x:=by
 rcases hx with ⟨e1,e2⟩|⟨c,r,hr,e1,e2⟩
 ·rw[e2,e1,trA_zero h.wf];rfl
 ·rw[show refT ts (plcN la x)=getT ts (plcN la x-1).toNat from if_neg (by omega),e2,show ((r:Int)+1-1).toNat=r by omega,e,getT_map (by rw[List.length_take];omega),getB_take (by omega),getB_some e1]
theorem ExA.trs (h:ExA S hs ks rs lk la):∀ j,lk.length+j<=la.length->bldTs (ktA S lk) (nsA S lk la) j=(la.take (lk.length+j)).map (trA S)
 | 0,_=>by
  obtain⟨x,e⟩:=h.na.pre
  show lk.map (trA S)=_
  rw[Nat.add_zero,e,List.take_left]
 | j+1,hj=>by
  have ih:=ExA.trs h j (by omega)
  have e1:getN (nsA S lk la) j=nodP S la (getB la (lk.length+j)):=by
   rw[getN_map (by rw[List.length_drop];omega),getB_drop]
  rw[bldTs_go _ (by rw[nsA_len];omega),e1,ih,show lk.length+(j+1)=lk.length+j+1 by omega,take_getB (by omega),List.map_append]
  congr 1
  have hg:=getB_get (l:=la) (p:=lk.length+j) (by omega)
  obtain⟨u,k1,k2⟩:=h.ls.kids h.wf hg
  have g:=h.good (List.mem_of_getElem? hg)
  rw[List.map_singleton]
  congr 1
  rw[trA_node h.wf u g.rep]
  unfold bldT
  rw[show (nodP S la (getB la (lk.length+j))).left=plcN la (lfA S (getB la (lk.length+j))) from rfl,show (nodP S la (getB la (lk.length+j))).right=plcN la (rgA S (getB la (lk.length+j))) from rfl,
   h.ref k1 (Nat.le_refl _) (by omega) rfl,h.ref k2 (Nat.le_refl _) (by omega) rfl]
  rfl
theorem num_len {i:Int}{acc a:List Int}(n:NumA S i acc a):∀ {t:Tr},Rep S t i->S.us 0=false->a.length<=acc.length+t.size:=by
 induction n with
 | skip _=>intro t _ _;omega
 | @go i acc a1 a2 u c n1 n2 ih1 ih2 =>
  intro t r z
  cases t with
  | nil =>
   have e:i=0:=r
   rw[e,z] at u;cases u
  | node l k v m =>
   have h1:=ih1 r.2.2.2.1 z
   have h2:=ih2 r.2.2.2.2 z
   show (a2++[i]).length<=acc.length+(1+l.size+m.size)
   rw[List.length_append,List.length_singleton]
   omega
theorem nums_len {acc a:List Int}(n:NumsA S rs acc a)(z:S.us 0=false)(h:∀ r∈rs,∃ t,Rep S t r):a.length<=acc.length+(rs.map fun r=>(trA S r).size).sum:=by
 induction n with
 | nil=>simp
 | @cons i r acc a1 a2 n1 n2 ih =>
  obtain⟨t,rp⟩:=h i (by simp)
  have h1:=num_len n1 rp z
  have h2:=ih fun x hx=>h x (List.mem_cons_of_mem _ hx)
  have e:trA S i=t:=Rep.inj z (Classical.epsilon_spec (p:=fun t=>Rep S t i) ⟨t,rp⟩) rp
  rw[List.map_cons,List.sum_cons,e]
  omega
def RngL (l:List Ent):Prop:=∀ z∈l,rngI z.1/\rngI z.2
theorem kyN_of (w:Wf S hs)(h:∀ r∈rs,∃ t,Rep S t r/\RngL t.list):KyN S rs:=fun l n=>by
 have q:∀ i∈l,∃ t,Rep S t i/\RngL t.list:=NumsG.reach (P:=fun i=>∃ t,Rep S t i/\RngL t.list) (fun i ⟨t,r,g⟩ u=>by
  cases t with
  | nil =>
   have e:i=0:=r
   rw[e,w.us0 (Int.le_refl 0)] at u;cases u
  | node a k v b =>
   obtain⟨_,_,_,ra,rb⟩:=r
   exact⟨⟨a,ra,fun z hz=>g z (List.mem_append_left _ hz)⟩,⟨b,rb,fun z hz=>g z (List.mem_append_right _ (List.mem_cons_of_mem _ hz))⟩⟩) n h (fun j hj=>by simp at hj)
 intro i hi
 have u:=n.used (fun j hj=>by simp at hj) i hi
 obtain⟨t,r,g⟩:=q i hi
 cases t with
 | nil =>
  have e:i=0:=r
  rw[e,w.us0 (Int.le_refl 0)] at u;cases u
 | node a k v b =>
  obtain⟨_,e1,e2,_⟩:=r
  have:=g (k,v) (List.mem_append_right _ (List.mem_cons_self ..))
  rw[e1,e2]
  exact this
structure ImO (S:Arn) (hs ks rs lk la nw:List Int) (m:Nat) (S2:Arn) (x:List Int):Prop where
 ex:ExA S hs ks rs lk la
 ax:∃ z,la=lk++z/\z.length=nw.length
 ex_:x=rs.map fun i=>getB (0::(lk++nw)) (plcN la i).toNat
 wf:Wf S2 (x.reverse++hs)
 rep:∀ i,i=0∨i∈la->Rep S2 (trA S i) (getB (0::(lk++nw)) (plcN la i).toNat)
 nd:∀ p,p<nw.length->(S2.nd (getB nw p)).left=getB (0::(lk++nw)) (plcN la (lfA S (getB la (lk.length+p)))).toNat/\(S2.nd (getB nw p)).right=getB (0::(lk++nw)) (plcN la (rgA S (getB la (lk.length+p)))).toNat
 us:∀ i,S2.us i=true↔S.us i=true∨i∈nw
 fresh:∀ i∈nw,S.us i=false
 nod:nw.Nodup
 old:∀ i,S.us i=true->S2.nd i=S.nd i/\S2.gn i=S.gn i
 stay:Stay S S2 hs
 nu:S2.nu=S.nu+nw.length
 ul:S2.used.length=S.used.length
 rd:S2.reads=S.reads+m
 hm:m<=300000000000
theorem plcN_kid {l:List Int}{i:Int}(h0:(0:Int)∉l)(h:i=0∨i∈l):KidN l l.length i:=by
 rcases h with h|h
 ·exact .inl ⟨h,by rw[h];exact plcN_none h0⟩
 ·obtain⟨a,b⟩:=plcN_get h
  have:=(plcN_rng l i).2
  refine .inr ⟨fun q=>h0 (q ▸ h),(plcN l i-1).toNat,by omega,a,by omega⟩
theorem RtP.imO (p:RtP S hs ks rs lk la D o)(h:RtB S hs ks rs)(hm:S.reads+m<=90000000000000000)(hm2:m<=1000000000)(f:FtR lk.length D (nsA S lk la) (rs.map (plcN la)) (rdS S m) ks S1 0)(r:MkR lk.length (nsA S lk la) (rs.map (plcN la)) S1 ks S2 x) :
  ∃ nw q,ImO S hs ks rs lk la nw q S2 x:=by
 obtain⟨ix,q,mo,hq,_⟩:=p.done h (by omega) f r
 obtain⟨nw,e,l,us,fresh,nod⟩:=mo.ix_
 have le:=p.ex.le
 have l0:(0:Int)∉la:=fun c=>by
  have:=p.ex.ls.used 0 c
  rw[p.ex.wf.us0 (Int.le_refl 0)] at this;cases this
 have nl:=nsA_len (S:=S) (lk:=lk) (la:=la)
 obtain⟨z,ez⟩:=p.ex.na.pre
 have zl:z.length=nw.length:=by rw[l,nl,ez,List.length_append];omega
 have tt:=p.ex.trs (la.length-lk.length) (by omega)
 rw[show lk.length+(la.length-lk.length)=la.length by omega,List.take_length] at tt
 have hn:∀ c,c<nw.length->getB ix (lk.length+1+c)=getB nw c:=fun c hc=>by
  rw[e,show lk.length+1+c=(lk.length+c)+1 by omega]
  exact getB_right
 refine⟨nw,m+q,p.ex,⟨z,ez,zl⟩,?_,mo.wf,fun i hi=>?_,fun c hc=>?_,us,fresh,nod,mo.old,?_,?_,mo.ul,?_,by omega⟩
 ·rw[mo.eo,e]
  unfold rtG
  rw[List.map_map];rfl
 ·have pr:=plcN_rng la i
  have:=mo.rep (plcN la i) pr.1 (by rw[nl];omega)
  rw[ktA_rd,nl,tt,e] at this
  rw[p.ex.ref (plcN_kid l0 hi) (Nat.le_refl _) (Nat.le_refl _) (by rw[List.take_length])] at this
  exact this
 ·have:=mo.nd c (by rw[← l];exact hc)
  rw[hn c hc,e,show getN (nsA S lk la) c=nodP S la (getB la (lk.length+c)) from by rw[getN_map (by rw[List.length_drop];omega),getB_drop]] at this
  exact this
 ·exact Stay.trans (stay_rd S (m+q) hs) mo.stay
 ·rw[mo.nu,← l];rfl
 ·rw[mo.rd];rfl
end Go.Proofs.YtedfbafngmicpaaGreat.Sx
end
section
/- Export and Import of trees in one arena, as contracts; awake of the laws of pack. -/
namespace Go.Proofs.YtedfbafngmicpaaGreat.Sx
open Go

/-KEEP Wf exW inU allV allB rdS Arn.free NumsA RtB ExO ImR FrB PlantR newS Asc RngL-/
structure ExO (S:Arn) (hs ks rs:List Int) (S':Arn) (o:List Int):Prop where
 st:∃ m,S'=rdS S m/\m<=400000
 ab:allB o
 bl:o.length<=8000000
 p:∃ lk la D,RtP S hs ks rs lk la D o
def tExr:Tfm C0:=fun args H K=>match args with
 | [.at (.ptr 0 0),.at (.slc 7),.at (.slc 8)]=>wrM H fun S rs ks=>∃ hs,RtB S hs ks rs/\∀ S' o,ExO S hs ks rs S' o->K (.tup [.at (.slc 9),.at (vI 0)]) (chS S'++[.row false EC.u32 rs,.row false EC.u32 ks,.row true EC.u8 o]) [0]
 | _=>False
theorem s_exr:SoundT C0 12 tExr:=s_exp.weak fun args H K h=>by
 unfold tExr at h
 unfold tExp
 split at h<;>try exact h.elim
 unfold wrM arMr at h ⊢
 split at h<;>try exact h.elim
 split at h<;>try exact h.elim
 obtain⟨hs,h1,h2⟩:=h
 obtain⟨w1,w2,w3⟩:=h1.wr
 refine⟨w1,w2,w3,fun S' o w=>h2 S' o ?_⟩
 obtain⟨a,b,c,d⟩:=h1.out w
 exact⟨a,b,c,d⟩
def FrB (S:Arn)(ks rs:List Int):Prop:=∀ lk la,NumsA S ks [] lk->NumsA S rs lk la->((la.length-lk.length:Nat):Int)<=S.free
def ImR (S:Arn)(hs ks rs:List Int)(S2:Arn)(x:List Int):Prop:=∃ lk la nw m,ImO S hs ks rs lk la nw m S2 x
def tImr:Tfm C0:=fun args H K=>match args with
 | [.at (.ptr 0 0),.at (.slc 7),.at (.slc 8)]=>imM H fun S b ks=>∃ S0 hs rs,RtB S0 hs ks rs/\S0.reads<=10000000000000000/\ExO S0 hs ks rs S b/\FrB S0 ks rs/\∀ S2 x,ImR S0 hs ks rs S2 x->K (.tup [.at (.slc 9),.at (vI 0)]) (chS S2++[.row false EC.u8 b,.row false EC.u32 ks,.row true EC.u32 x]) W7
 | _=>False
theorem s_imr:SoundT C0 15 tImr:=s_imp.weak fun args H K h=>by
 unfold tImr at h
 unfold tImp
 split at h<;>try exact h.elim
 unfold imM arMr at h ⊢
 split at h<;>try exact h.elim
 split at h<;>try exact h.elim
 obtain⟨S0,hs,rs,h1,h2,h3,h4,h5⟩:=h
 obtain⟨lk,la,D,p⟩:=h3.p
 obtain⟨m,es,hm⟩:=h3.st
 have fr:=h4 lk la p.ex.nk p.ex.na
 rw[es]
 refine⟨p.imB h1 (by omega) h3.ab h3.bl,fun e q hq ne=>?_,fun e q S' hq f ne=>?_,fun q S' S2 o hq f r=>h5 S2 o ?_⟩
 ·rw[p.dec] at hq
  injection hq with hq _
  exact absurd hq.symm ne
 ·rw[p.dec] at hq
  injection hq with _ hq
  subst hq
  exact absurd (p.fit fr f) ne
 ·rw[p.dec] at hq
  injection hq with _ hq
  subst hq
  obtain⟨nw,q,w⟩:=p.imO h1 (by omega) (by omega) f r
  exact⟨lk,la,nw,q,w⟩
def OkT (S:Arn)(r:Int):Prop:=∃ t,Rep S t r/\Asc t.list/\t.Bal/\RngL t.list
theorem rtB_of {S:Arn}{hs ks rs:List Int}(w:Wf S hs)(hl:hs.length<=900000)(hr:S.reads<=10000000000000000)(kl:ks.length<=4096)(rl:rs.length<=4096)(h:∀ r∈ks++rs,OkT S r):RtB S hs ks rs:=by
 have kv:KnV S (ks++rs):=fun r hm=>by
  obtain⟨t,a,b,c,_⟩:=h r hm
  exact⟨t,a,b,c⟩
 have ky:KyN S (ks++rs):=kyN_of w fun r hm=>by
  obtain⟨t,a,_,_,d⟩:=h r hm
  exact⟨t,a,d⟩
 have av:∀ r∈ks++rs,inU r:=fun r hm=>by
  obtain⟨t,a,_⟩:=h r hm
  exact inU_of w a.us
 exact⟨⟨w,hl,fun r hm=>kv r (List.mem_append_left _ hm),fun r hm=>av r (List.mem_append_left _ hm),KyN.left w ky,by omega,by omega⟩,kv,ky,fun r hm=>av r (List.mem_append_right _ hm),rl⟩
theorem frB_of {S:Arn}{hs ks rs:List Int}(w:Wf S hs)(h:∀ r∈rs,OkT S r)(hf:(((rs.map fun r=>(trA S r).size).sum:Nat):Int)<=S.free):FrB S ks rs:=fun lk la n1 n2=>by
 have:=nums_len n2 (w.us0 (Int.le_refl 0)) fun r hm=>by
  obtain⟨t,a,_⟩:=h r hm
  exact⟨t,a⟩
 omega
noncomputable def aAw28:Ann C0:={ Γ:=[(9,frameT [] tGrow),(12,frameT [] tExr),(15,frameT [] tImr),(41,frameT [] tSize)] }
def tAw28:Tfm C0:=fun args H K=>match args,H with
 | [],[]=>K (.one (.at (vB true))) [] []
 | _,_=>False
theorem ImO.new {S:Arn}{hs ks rs lk la nw:List Int}{m:Nat}{S2:Arn}{x:List Int}(h:ImO S hs ks rs lk la nw m S2 x){i:Int}(hi:i∈la)(hn:i∉lk):getB (0::(lk++nw)) (plcN la i).toNat∈nw:=by
 obtain⟨z,ez,zl⟩:=h.ax
 obtain⟨a,b⟩:=plcN_get hi
 generalize plcN la i=P at a b ⊢
 have hp:=(List.getElem?_eq_some_iff.1 a).1
 rw[ez,List.length_append] at hp
 have ge:lk.length<=(P-1).toNat:=Classical.byContradiction fun q=>by
  rw[ez,List.getElem?_append_left (by omega)] at a
  exact hn (List.mem_of_getElem? a)
 rw[show P.toNat=(P-1).toNat+1 by omega]
 show getB (lk++nw) (P-1).toNat∈nw
 rw[show (P-1).toNat=lk.length+((P-1).toNat-lk.length) by omega,getB_right]
 exact getB_mem (by omega)
theorem btY {b:Bool}{t f:Prop}(h:b=true)(ht:t):brS b t f:=by rw[h];exact ht
theorem vc_aw28 (K:KT)(h:K (.one (.at (vB true))) [] []):vc C0 aAw28 Tryz.f10 [] [] (normK 0 K):=by
 refine Eq.mp (show ((0:Int)<=0/\(1:Int)<=1/\(1:Int)<=30000/\([(1,10)]:List Ent).length<=30000/\∀ S':Arn,∀ i:Int,PlantR (newS ((↑([(1,10)]:List Ent).length:Int)+1).toNat) [] ([(1,10)]:List Ent) S' i->∃ hs:List Int,RtB S' hs [] [i]/\∀ S'1:Arn,∀ o:List Int,ExO S' hs [] [i] S'1 o->∃ S0:Arn,∃ hs1:List Int,∃ rs:List Int,RtB S0 hs1 [] rs/\S0.reads<=10000000000000000/\ExO S0 hs1 [] rs S'1 o/\FrB S0 [] rs/\∀ S2:Arn,∀ x:List Int,ImR S0 hs1 [] rs S2 x->brS ((x.length:Int)==1) ((0:Int)<=0/\0<(x.length:Int)/\brS (getB x (Int.toNat 0) != i) ((0:Int)<=0/\0<(x.length:Int)/\inU (getB x (Int.toNat 0))/\exW S2/\S2.reads<4000000000000000000/\∀ S'2:Arn,S'2=(rdS S2 (S2.us (getB x (Int.toNat 0))).toNat)->K (.one (.at (.val (Value.bool ((S2.nd (getB x (Int.toNat 0))).size==1))))) [] []) (K (.one (.at (.val (Value.bool false)))) [] [])) (K (.one (.at (.val (Value.bool false)))) [] []))=_ by kernel_rfl) ?_
 refine⟨by decide,by decide,by decide,by decide,fun S i pl=>?_⟩
 have hw:=pl.wf
 obtain⟨t,rp,tl,bal⟩:=pl.rep
 have t1:t.size=1:=by rw[← t.list_len,tl];rfl
 have ui:S.us i=true:=by
  cases t with
  | nil=>cases t1
  | node _ _ _ _=>exact rp.1
 have hr:S.reads=0:=by rw[pl.rds];rfl
 have fr:S.free=1:=by
  have a:=hw.free_nonneg.2.2.2
  have b:=pl.len
  have c:=pl.nu
  unfold Arn.cap at a
  rw[b,c] at a
  exact a
 have ok:OkT S i:=⟨t,rp,by rw[tl];exact List.pairwise_singleton _ _,bal,by rw[tl];intro z hz;rw[List.mem_singleton.1 hz];unfold rngI;exact⟨⟨by decide,by decide⟩,by decide,by decide⟩⟩
 have oks:∀ r∈[i],OkT S r:=fun r hr=>by rw[List.mem_singleton.1 hr];exact ok
 have et:trA S i=t:=trA_eq hw rp
 have rt:RtB S [i] [] [i]:=rtB_of hw (by simp) (by rw[hr];decide) (by simp) (by simp) oks
 refine⟨[i],rt,fun S1 o ex=>⟨S,[i],[i],rt,by rw[hr];decide,ex,frB_of hw oks (by rw[fr];show (((trA S i).size+0:Nat):Int)<=1;rw[et,t1];decide),fun S2 x im=>?_⟩⟩
 obtain⟨lk,la,nw,m,im⟩:=im
 have e0:lk=[]:=by cases im.ex.nk;rfl
 subst e0
 have hi:i∈la:=im.ex.na.roots i (by simp) ui
 have xe:=im.ex_
 rw[List.map_singleton] at xe
 have hnew:=im.new hi (by simp)
 have rr:=im.rep i (.inr hi)
 generalize getB (0::([]++nw)) (plcN la i).toNat=x0 at xe hnew rr
 subst xe
 have ne:(x0 != i)=true:=by
  refine bne_iff_ne.2 fun q=>?_
  have:=im.fresh x0 hnew
  rw[q,ui] at this;cases this
 have u2:S2.us x0=true:=(im.us x0).2 (.inr hnew)
 have sz:(S2.nd x0).size=1:=by rw[rr.size im.wf,et,t1];rfl
 have rd:=im.rd
 have hm:=im.hm
 show brS ((([x0]:List Int).length:Int)==1) _ _
 refine btY rfl ⟨by decide,by show (0:Int)<1;decide,?_⟩
 rw[show getB [x0] (Int.toNat 0)=x0 from rfl]
 refine btY ne ⟨by decide,by show (0:Int)<1;decide,inU_of im.wf (.inr u2),⟨_,im.wf⟩,by rw[rd,hr];omega,fun S3 _=>?_⟩
 rw[sz]
 exact h
theorem s_aw28:SoundT C0 10 tAw28:=by
 refine .of Tryz.func10 (by decide) rfl fun args H K h hB=>?_
 unfold tAw28 at h
 split at h<;>try exact h.elim
 refine⟨_,?_,vc_aw28 K h⟩
 exact⟨frame C0.ok s_grow _,frame C0.ok s_exr _,frame C0.ok s_imr _,frame C0.ok s_size _,trivial⟩
end Go.Proofs.YtedfbafngmicpaaGreat.Sx
end
section
/- treework: popLast, Concat, Split, From, To, Insert, Delete, Hold, Room. -/
namespace Go.Proofs.YtedfbafngmicpaaGreat.Sx
open Go

/-KEEP Wf exW inU live Arn.cap Arn.free NodeR Rep Kept rdS retL Tr.size Tr.list Tr.Bal balN balB jB pB cB iB dB sB gN OpnR TrR Got flt insE getE Asc-/
def tInsT (n:Nat):Tfm C0:=fun args H K=>match args with
 | [.at (.ptr 0 0),.at (.val (.int .u32 i)),.agg [.val (.int .i64 k),.val (.int .i64 v)]]=>arM H fun S=>∃ hs t,Wf S (i::hs)/\Rep S t i/\t.Bal/\Asc t.list/\t.size<n/\t.size<=700000/\(iB t.size:Int)<=S.free/\hs.length+t.size<=600000000/\S.reads+5*iB t.size<=1600000000000000000 ∧
  ∀ S' j,TrR S hs (insE t.list (k,v)) (iB t.size) (5*iB t.size) S' j->K (.one (.at (vU j))) (chS S') W7
 | _=>False
noncomputable def aIns' (n:Nat):Ann C0:={ Γ:=[(91,frameT [] tOpn),(46,frameT [] (tInsT n)),(92,frameT [] tJoin),(90,frameT [] tNodeX)] }
noncomputable def aHold:Ann C0:={ Γ:=[(87,frameT [] tRetL)] }
def tHold:Tfm C0:=fun args H K=>match args with
 | [.at (.ptr 0 0),.at (.val (.int .u32 i))]=>arM H fun S=>live S i/\exW S/\∀ S',S'=retL S i->K (.one (.at (vU i))) (chS S') [3]
 | _=>False
noncomputable def aRoom:Ann C0:={ Γ:=[(27,frameT [] tFree)] }
def tRoom:Tfm C0:=fun args H K=>match args with
 | [.at (.ptr 0 0),.at (.val (.int .i64 n))]=>arM H fun S=>exW S/\∀ b,b=(decide (0<=n) && decide (n<=S.free))->K (.one (.at (vB b))) (chS S) []
 | _=>False
theorem rep_ne {S:Arn}{b:Tr}{r:Int}(h:Rep S b r)(hr:r≠0):∃ a2 k2 v2 b2,b = .node a2 k2 v2 b2:=by
 cases b with
 | nil=>exact absurd h hr
 | node a2 k2 v2 b2=>exact⟨a2,k2,v2,b2,rfl⟩
theorem node_size (a b:Tr)(k v:Int):(Tr.node a k v b).size=a.size+b.size+1:=by simp[Tr.size];omega
theorem vc_hold (S:Arn)(i:Int)(K:KT)(h1:live S i)(h2:exW S)(h:∀ S',S'=retL S i->K (.one (.at (vU i))) (chS S') [3]) :
  vc C0 aHold Tryz.f43 [.at (.ptr 0 0),.at (vU i)] (chS S) (normK 7 (wideK [3] K)):=by
 refine Eq.mp (show (live S i/\exW S/\∀ S':Arn,S'=retL S i->K (.one (.at (.val (VU (i))))) [(.box [(.ptr 1 0),(.slc 2),(.slc 3),(.val (VW (S'.reads)))]),(.box [(.slc 4),(.slc 5),(.slc 6),(.val (VU (S'.fresh)))]),(.row true EC.node (S'.nodes)),(.row true EC.int (S'.counts)),(.row true EC.bool (S'.used)),(.row true EC.u32 (S'.gen)),(.row true EC.u32 (S'.rel))] [3])=_ by kernel_rfl) ?_
 exact⟨h1,h2,h⟩
theorem s_hold:SoundT C0 43 tHold:=by
 refine .ofW [3] Tryz.func43 (by decide) rfl fun args H K h hB=>?_
 unfold tHold at h
 split at h<;>try exact h.elim
 unfold arM at h
 split at h<;>try exact h.elim
 rename_i i _ rd fr nd ct us gn rl
 exact⟨aHold,⟨frame C0.ok s_retL _,trivial⟩,vc_hold ⟨us,gn,rl,fr,nd,ct,rd⟩ i K h.1 h.2.1 h.2.2⟩
theorem vc_room (S:Arn)(n:Int)(K:KT)(h1:exW S)(h:∀ b,b=(decide (0<=n) && decide (n<=S.free))->K (.one (.at (vB b))) (chS S) []) :
  vc C0 aRoom Tryz.f44 [.at (.ptr 0 0),.at (vI n)] (chS S) (normK 7 K):=by
 refine Eq.mp (show (brS (decide (n≥0)) (exW S/\K (.one (.at (.val (Value.bool (decide (S.free≥n)))))) [(.box [(.ptr 1 0),(.slc 2),(.slc 3),(.val (VW (S.reads)))]),(.box [(.slc 4),(.slc 5),(.slc 6),(.val (VU (S.fresh)))]),(.row true EC.node (S.nodes)),(.row true EC.int (S.counts)),(.row true EC.bool (S.used)),(.row true EC.u32 (S.gen)),(.row true EC.u32 (S.rel))] []) (K (.one (.at (.val (Value.bool false)))) [(.box [(.ptr 1 0),(.slc 2),(.slc 3),(.val (VW (S.reads)))]),(.box [(.slc 4),(.slc 5),(.slc 6),(.val (VU (S.fresh)))]),(.row true EC.node (S.nodes)),(.row true EC.int (S.counts)),(.row true EC.bool (S.used)),(.row true EC.u32 (S.gen)),(.row true EC.u32 (S.rel))] []))=_ by kernel_rfl) ?_
 refine brS_of (fun d=>⟨h1,h _ ?_⟩) fun d=>h _ ?_
 ·have d:0<=n:=of_decide_eq_true d
  rw[decide_eq_true d];rfl
 ·have d:¬ 0<=n:=of_decide_eq_false d
  rw[decide_eq_false d];rfl
theorem s_room:SoundT C0 44 tRoom:=by
 refine .of Tryz.func44 (by decide) rfl fun args H K h hB=>?_
 unfold tRoom at h
 split at h<;>try exact h.elim
 unfold arM at h
 split at h<;>try exact h.elim
 rename_i n _ rd fr nd ct us gn rl
 exact⟨aRoom,⟨frame C0.ok s_free _,trivial⟩,vc_room ⟨us,gn,rl,fr,nd,ct,rd⟩ n K h.1 h.2⟩
theorem jB_ins {a b t:Nat}(h:balN a b)(h1:a<=t)(h2:t<=a+1):jB t b<=4:=by
 rcases Nat.lt_or_ge a t with c|c
 ·have:t=a+1:=by omega
  subst this
  rw[jB_comm];exact jB_more (balN_comm h)
 ·have:t=a:=by omega
  subst this
  rw[jB_bal h];decide
theorem jB_ins' {a b t:Nat}(h:balN a b)(h1:b<=t)(h2:t<=b+1):jB a t<=4:=by
 rw[jB_comm];exact jB_ins (balN_comm h) h1 h2
theorem vc_insr (n:Nat)(S:Arn)(i k v:Int)(K:KT)(hs:List Int)(t:Tr)(hw:Wf S (i::hs))(h1:Rep S t i)(bal:t.Bal)(asc:Asc t.list)(hfu:t.size<n+1)(hz:t.size<=700000)(hf:(iB t.size:Int)<=S.free)(hl:hs.length+t.size<=600000000)(hr:S.reads+5*iB t.size<=1600000000000000000)(h:∀ S' j,TrR S hs (insE t.list (k,v)) (iB t.size) (5*iB t.size) S' j->K (.one (.at (vU j))) (chS S') W7) :
  vc C0 (aIns' n) Tryz.f46 [.at (.ptr 0 0),.at (vU i),.agg [vI k,vI v]] (chS S) (normK 7 (wideK W7 K)):=by
 refine Eq.mp (show (brS (i==0) (∃ hs:List Int,∃ tl:Tr,∃ tr:Tr,Wf S (0::0::hs)/\Rep S tl 0/\Rep S tr 0/\tl.size+tr.size<=1000000/\0<S.free/\hs.length<=900000000/\∀ S':Arn,∀ i1:Int,NodeR S hs k v tl tr S' i1->((S'.nd i1).left)=0->((S'.nd i1).right)=0->K (.one (.at (.val (VU (i1))))) [(.box [(.ptr 1 0),(.slc 2),(.slc 3),(.val (VW (S'.reads)))]),(.box [(.slc 4),(.slc 5),(.slc 6),(.val (VU (S'.fresh)))]),(.row true EC.node (S'.nodes)),(.row true EC.int (S'.counts)),(.row true EC.bool (S'.used)),(.row true EC.u32 (S'.gen)),(.row true EC.u32 (S'.rel))] [0,1,2,3,4,5,6]) (∃ hs:List Int,∃ a:Tr,∃ k1:Int,∃ v1:Int,∃ b:Tr,Wf S (i::hs)/\Rep S (a.node k1 v1 b) i/\hs.length<=900000000/\S.reads<=3000000000000000000/\∀ S':Arn,∀ l:Int,∀ r:Int,OpnR S hs a k1 v1 b S' l r->brS (decide (k<k1)) (((∃ hs1:List Int,∃ t:Tr,Wf S' (l::hs1)/\Rep S' t l/\t.Bal/\Asc t.list/\t.size<n/\t.size<=700000/\(↑(iB t.size):Int)<=S'.free/\hs1.length+t.size<=600000000/\S'.reads+5*(↑(iB t.size):Int)<=1600000000000000000/\∀ S'1:Arn,∀ j:Int,TrR S' hs1 (insE t.list (k,v)) (iB t.size) (5*iB t.size) S'1 j->∃ hs2:List Int,∃ ta:Tr,∃ tb:Tr,Wf S'1 (j::r::hs2)/\Rep S'1 ta j/\Rep S'1 tb r/\ta.Bal/\tb.Bal/\ta.size+tb.size<=900000/\(↑(jB ta.size tb.size):Int)<=S'1.free/\hs2.length<=700000000/\S'1.reads+5*(↑(jB ta.size tb.size):Int)<=1800000000000000000/\∀ S'2:Arn,∀ i1:Int,TrR S'1 hs2 (ta.list++(k1,v1)::tb.list) (jB ta.size tb.size) (4*jB ta.size tb.size) S'2 i1->(balN (ta.size:Int) (tb.size:Int)->((S'2.nd i1).left)=j/\((S'2.nd i1).right)=r/\S'2.nu=(S'1.nu+1))->K (.one (.at (.val (VU (i1))))) [(.box [(.ptr 1 0),(.slc 2),(.slc 3),(.val (VW (S'2.reads)))]),(.box [(.slc 4),(.slc 5),(.slc 6),(.val (VU (S'2.fresh)))]),(.row true EC.node (S'2.nodes)),(.row true EC.int (S'2.counts)),(.row true EC.bool (S'2.used)),(.row true EC.u32 (S'2.gen)),(.row true EC.u32 (S'2.rel))] [0,1,2,3,4,5,6])/\
 ∃ hs1:List Int,∃ t:Tr,Wf S' (l::hs1)/\Rep S' t l/\t.Bal/\Asc t.list/\t.size<n/\t.size<=700000/\(↑(iB t.size):Int)<=S'.free/\hs1.length+t.size<=600000000/\S'.reads+5*(↑(iB t.size):Int)<=1600000000000000000/\∀ S'1:Arn,∀ j:Int,TrR S' hs1 (insE t.list (k,v)) (iB t.size) (5*iB t.size) S'1 j->∃ hs2:List Int,∃ ta:Tr,∃ tb:Tr,Wf S'1 (j::r::hs2)/\Rep S'1 ta j/\Rep S'1 tb r/\ta.Bal/\tb.Bal/\ta.size+tb.size<=900000/\(↑(jB ta.size tb.size):Int)<=S'1.free/\hs2.length<=700000000/\S'1.reads+5*(↑(jB ta.size tb.size):Int)<=1800000000000000000/\∀ S'2:Arn,∀ i1:Int,TrR S'1 hs2 (ta.list++(k1,v1)::tb.list) (jB ta.size tb.size) (4*jB ta.size tb.size) S'2 i1->(balN (ta.size:Int) (tb.size:Int)->((S'2.nd i1).left)=j/\((S'2.nd i1).right)=r/\S'2.nu=(S'1.nu+1))->K (.one (.at (.val (VU (i1))))) [(.box [(.ptr 1 0),(.slc 2),(.slc 3),(.val (VW (S'2.reads)))]),(.box [(.slc 4),(.slc 5),(.slc 6),(.val (VU (S'2.fresh)))]),(.row true EC.node (S'2.nodes)),(.row true EC.int (S'2.counts)),(.row true EC.bool (S'2.used)),(.row true EC.u32 (S'2.gen)),(.row true EC.u32 (S'2.rel))] [0,1,2,3,4,5,6])/\∃ hs1:List Int,∃ t:Tr,Wf S' (l::hs1)/\Rep S' t l/\t.Bal/\Asc t.list/\t.size<n/\t.size<=700000/\(↑(iB t.size):Int)<=S'.free/\hs1.length+t.size<=600000000/\S'.reads+5*(↑(iB t.size):Int)<=1600000000000000000/\∀ S'1:Arn,∀ j:Int,TrR S' hs1 (insE t.list (k,v)) (iB t.size) (5*iB t.size) S'1 j->∃ hs2:List Int,∃ ta:Tr,∃ tb:Tr,Wf S'1 (j::r::hs2)/\Rep S'1 ta j/\Rep S'1 tb r/\ta.Bal/\tb.Bal/\ta.size+tb.size<=900000/\(↑(jB ta.size tb.size):Int)<=S'1.free/\
 hs2.length<=700000000/\S'1.reads+5*(↑(jB ta.size tb.size):Int)<=1800000000000000000/\∀ S'2:Arn,∀ i1:Int,TrR S'1 hs2 (ta.list++(k1,v1)::tb.list) (jB ta.size tb.size) (4*jB ta.size tb.size) S'2 i1->(balN (ta.size:Int) (tb.size:Int)->((S'2.nd i1).left)=j/\((S'2.nd i1).right)=r/\S'2.nu=(S'1.nu+1))->K (.one (.at (.val (VU (i1))))) [(.box [(.ptr 1 0),(.slc 2),(.slc 3),(.val (VW (S'2.reads)))]),(.box [(.slc 4),(.slc 5),(.slc 6),(.val (VU (S'2.fresh)))]),(.row true EC.node (S'2.nodes)),(.row true EC.int (S'2.counts)),(.row true EC.bool (S'2.used)),(.row true EC.u32 (S'2.gen)),(.row true EC.u32 (S'2.rel))] [0,1,2,3,4,5,6]) (brS (decide (k>k1)) ((∃ hs1:List Int,∃ t:Tr,Wf S' (r::hs1)/\Rep S' t r/\t.Bal/\Asc t.list/\t.size<n/\t.size<=700000/\(↑(iB t.size):Int)<=S'.free/\hs1.length+t.size<=600000000/\S'.reads+5*(↑(iB t.size):Int)<=1600000000000000000/\∀ S'1:Arn,∀ j:Int,TrR S' hs1 (insE t.list (k,v)) (iB t.size) (5*iB t.size) S'1 j->∃ hs2:List Int,∃ ta:Tr,∃ tb:Tr,Wf S'1 (l::j::hs2)/\Rep S'1 ta l/\Rep S'1 tb j/\ta.Bal/\tb.Bal/\ta.size+tb.size<=900000/\(↑(jB ta.size tb.size):Int)<=S'1.free/\hs2.length<=700000000/\S'1.reads+5*(↑(jB ta.size tb.size):Int)<=1800000000000000000/\∀ S'2:Arn,∀ i1:Int,TrR S'1 hs2 (ta.list++(k1,v1)::tb.list) (jB ta.size tb.size) (4*jB ta.size tb.size) S'2 i1->(balN (ta.size:Int) (tb.size:Int)->((S'2.nd i1).left)=l/\((S'2.nd i1).right)=j/\S'2.nu=(S'1.nu+1))->K (.one (.at (.val (VU (i1))))) [(.box [(.ptr 1 0),(.slc 2),(.slc 3),(.val (VW (S'2.reads)))]),(.box [(.slc 4),(.slc 5),(.slc 6),(.val (VU (S'2.fresh)))]),(.row true EC.node (S'2.nodes)),(.row true EC.int (S'2.counts)),(.row true EC.bool (S'2.used)),(.row true EC.u32 (S'2.gen)),(.row true EC.u32 (S'2.rel))] [0,1,2,3,4,5,6])/\
 (∃ hs1:List Int,∃ t:Tr,Wf S' (r::hs1)/\Rep S' t r/\t.Bal/\Asc t.list/\t.size<n/\t.size<=700000/\(↑(iB t.size):Int)<=S'.free/\hs1.length+t.size<=600000000/\S'.reads+5*(↑(iB t.size):Int)<=1600000000000000000/\∀ S'1:Arn,∀ j:Int,TrR S' hs1 (insE t.list (k,v)) (iB t.size) (5*iB t.size) S'1 j->∃ hs2:List Int,∃ ta:Tr,∃ tb:Tr,Wf S'1 (l::j::hs2)/\Rep S'1 ta l/\Rep S'1 tb j/\ta.Bal/\tb.Bal/\ta.size+tb.size<=900000/\(↑(jB ta.size tb.size):Int)<=S'1.free/\hs2.length<=700000000/\S'1.reads+5*(↑(jB ta.size tb.size):Int)<=1800000000000000000/\∀ S'2:Arn,∀ i1:Int,TrR S'1 hs2 (ta.list++(k1,v1)::tb.list) (jB ta.size tb.size) (4*jB ta.size tb.size) S'2 i1->(balN (ta.size:Int) (tb.size:Int)->((S'2.nd i1).left)=l/\((S'2.nd i1).right)=j/\S'2.nu=(S'1.nu+1))->K (.one (.at (.val (VU (i1))))) [(.box [(.ptr 1 0),(.slc 2),(.slc 3),(.val (VW (S'2.reads)))]),(.box [(.slc 4),(.slc 5),(.slc 6),(.val (VU (S'2.fresh)))]),(.row true EC.node (S'2.nodes)),(.row true EC.int (S'2.counts)),(.row true EC.bool (S'2.used)),(.row true EC.u32 (S'2.gen)),(.row true EC.u32 (S'2.rel))] [0,1,2,3,4,5,6])/\∃ hs1:List Int,∃ t:Tr,Wf S' (r::hs1)/\Rep S' t r/\t.Bal/\Asc t.list/\t.size<n/\t.size<=700000/\(↑(iB t.size):Int)<=S'.free/\hs1.length+t.size<=600000000/\S'.reads+5*(↑(iB t.size):Int)<=1600000000000000000/\∀ S'1:Arn,∀ j:Int,TrR S' hs1 (insE t.list (k,v)) (iB t.size) (5*iB t.size) S'1 j->∃ hs2:List Int,∃ ta:Tr,∃ tb:Tr,Wf S'1 (l::j::hs2)/\Rep S'1 ta l/\Rep S'1 tb j/\ta.Bal/\tb.Bal/\ta.size+tb.size<=900000/\(↑(jB ta.size tb.size):Int)<=S'1.free/\
 hs2.length<=700000000/\S'1.reads+5*(↑(jB ta.size tb.size):Int)<=1800000000000000000/\∀ S'2:Arn,∀ i1:Int,TrR S'1 hs2 (ta.list++(k1,v1)::tb.list) (jB ta.size tb.size) (4*jB ta.size tb.size) S'2 i1->(balN (ta.size:Int) (tb.size:Int)->((S'2.nd i1).left)=l/\((S'2.nd i1).right)=j/\S'2.nu=(S'1.nu+1))->K (.one (.at (.val (VU (i1))))) [(.box [(.ptr 1 0),(.slc 2),(.slc 3),(.val (VW (S'2.reads)))]),(.box [(.slc 4),(.slc 5),(.slc 6),(.val (VU (S'2.fresh)))]),(.row true EC.node (S'2.nodes)),(.row true EC.int (S'2.counts)),(.row true EC.bool (S'2.used)),(.row true EC.u32 (S'2.gen)),(.row true EC.u32 (S'2.rel))] [0,1,2,3,4,5,6]) (∃ hs1:List Int,∃ tl:Tr,∃ tr:Tr,Wf S' (l::r::hs1)/\Rep S' tl l/\Rep S' tr r/\tl.size+tr.size<=1000000/\0<S'.free/\hs1.length<=900000000/\∀ S'1:Arn,∀ i1:Int,NodeR S' hs1 k v tl tr S'1 i1->((S'1.nd i1).left)=l->((S'1.nd i1).right)=r->K (.one (.at (.val (VU (i1))))) [(.box [(.ptr 1 0),(.slc 2),(.slc 3),(.val (VW (S'1.reads)))]),(.box [(.slc 4),(.slc 5),(.slc 6),(.val (VU (S'1.fresh)))]),(.row true EC.node (S'1.nodes)),(.row true EC.int (S'1.counts)),(.row true EC.bool (S'1.used)),(.row true EC.u32 (S'1.gen)),(.row true EC.u32 (S'1.rel))] [0,1,2,3,4,5,6]))))=_ by kernel_rfl) ?_
 have hrd:=hw.rds
 refine brS_of (fun d=>?_) fun d=>?_
 ·have d:i=0:=by simpa using d
  subst d
  have e:=h1.zero hw
  subst e
  have ep:1<=iB Tr.nil.size:=by unfold iB;omega
  refine⟨hs,.nil,.nil,hw.zero_cons (by simp;omega),rfl,rfl,by decide,by omega,by omega,fun S1 j nn _ _=>h S1 j ⟨(Got.node nn).mono (by omega) (by omega),_,nn.rep,?_,?_⟩⟩
  ·simp[Tr.list,insE,insGo]
  ·exact⟨by decide,trivial,trivial⟩
 ·have d:i≠0:=by simpa using d
  obtain⟨a,k1,v1,b,e⟩:=rep_ne h1 d
  subst e
  have zz:=node_size a b k1 v1
  rw[zz] at hfu hz hf hl hr h
  obtain⟨bb,ba,bbb⟩:=bal
  have asc':Asc (a.list++(k1,v1)::b.list):=asc
  obtain⟨asca,ascb,ltk,gtk⟩:=asc_parts asc'
  have isa:=iB_step (balN_comm bb) (by omega)
  have isb:=iB_step bb (by omega)
  rw[show b.size+a.size+1=a.size+b.size+1 by omega] at isa
  refine⟨hs,a,k1,v1,b,hw,h1,by omega,by omega,fun S1 l r o=>?_⟩
  have f1:=o.got.free hw
  have q1:=o.got.rd
  refine brS_of (fun d=>?_) fun d=>brS_of (fun e=>?_) fun e=>?_
  ·have d:k<k1:=of_decide_eq_true d
   (repeat' apply And.intro)
   all_goals
    refine⟨r::hs,a,o.got.wf,o.repl,ba,asca,by omega,by omega,by omega,by simp;omega,by omega,fun S2 j tr=>?_⟩
    obtain⟨t,rt,lt,bt⟩:=tr.tree
    have z1:=insE_ge (k,v) asca
    have z2:=insE_len a.list (k,v)
    rw[← lt,a.list_len,t.list_len] at z1 z2
    have jb:=jB_ins bb z1 z2
    have jp:=jB_pos t.size b.size
    have f2:=tr.got.free o.got.wf
    have q2:=tr.got.rd
    refine⟨hs,t,b,tr.got.wf,rt,o.repr.held o.got.wf tr.got.stay (.inr (by simp)),bt,bbb,by omega,by omega,by omega,by omega,fun S3 q tj _=>h S3 q ⟨?_,?_⟩⟩
    ·exact ((o.got.seq tr.got (h:=hs) (fun _ h=>h) (fun _ h=>by simp[h])).seq tj.got (fun _ h=>h) (fun _ h=>h)).mono (by omega) (by omega)
    ·obtain⟨t',rt',lt',bt'⟩:=tj.tree
     exact⟨t',rt',by rw[lt',lt];exact (insE_left asc' d).symm,bt'⟩
  ·have e:k1<k:=of_decide_eq_true e
   (repeat' apply And.intro)
   all_goals
    refine⟨l::hs,b,o.got.wf.perm (List.Perm.swap _ _ _),o.repr,bbb,ascb,by omega,by omega,by omega,by simp;omega,by omega,fun S2 j tr=>?_⟩
    obtain⟨t,rt,lt,bt⟩:=tr.tree
    have z1:=insE_ge (k,v) ascb
    have z2:=insE_len b.list (k,v)
    rw[← lt,b.list_len,t.list_len] at z1 z2
    have jb:=jB_ins' bb z1 z2
    have jp:=jB_pos a.size t.size
    have f2:=tr.got.free o.got.wf
    have q2:=tr.got.rd
    refine⟨hs,a,t,tr.got.wf.perm (List.Perm.swap _ _ _),o.repl.held o.got.wf tr.got.stay (.inr (by simp)),rt,ba,bt,by omega,by omega,by omega,by omega,fun S3 q tj _=>h S3 q ⟨?_,?_⟩⟩
    ·exact ((o.got.seq tr.got (h:=hs) (fun _ h=>h) (fun _ h=>by simp[h])).seq tj.got (fun _ h=>h) (fun _ h=>h)).mono (by omega) (by omega)
    ·obtain⟨t',rt',lt',bt'⟩:=tj.tree
     exact⟨t',rt',by rw[lt',lt];exact (insE_right asc' e).symm,bt'⟩
  ·have d:¬ k<k1:=of_decide_eq_false d
   have e:¬ k>k1:=of_decide_eq_false e
   have ek:k1=k:=by omega
   subst ek
   have ip:1<=iB (a.size+b.size+1):=by unfold iB;omega
   refine⟨hs,a,b,o.got.wf,o.repl,o.repr,by omega,by omega,by omega,fun S2 j nn _ _=>h S2 j ⟨(o.got.seq (Got.node nn) (h:=hs) (fun _ h=>h) (fun _ h=>h)).mono (by omega) (by omega),_,nn.rep,?_,bb,ba,bbb⟩⟩
   exact (insE_at (e:=(k1,v)) asc').symm
theorem s_insr:∀ n,SoundT C0 46 (tInsT n):=by
 intro n
 induction n with
 | zero =>
  refine .of Tryz.func46 (by decide) rfl fun args H K h hB=>?_
  exfalso
  unfold tInsT at h
  split at h<;>try exact h.elim
  unfold arM at h
  split at h<;>try exact h.elim
  obtain⟨_,_,_,_,_,_,h1,_⟩:=h
  omega
 | succ n ih =>
  refine .ofW W7 Tryz.func46 (by decide) rfl fun args H K h hB=>?_
  unfold tInsT at h
  split at h<;>try exact h.elim
  unfold arM at h
  split at h<;>try exact h.elim
  rename_i i k v _ rd fr nd ct us gn rl
  obtain⟨hs,t,h1,h2,h3,h4,h5,h6,h7,h8,h9,h10⟩:=h
  exact⟨aIns' n,⟨frame C0.ok s_opn _,frame C0.ok ih _,frame C0.ok s_join _,frame C0.ok s_nodeX _,trivial⟩,vc_insr n ⟨us,gn,rl,fr,nd,ct,rd⟩ i k v K hs t h1 h2 h3 h4 h5 h6 h7 h8 h9 h10⟩
end Go.Proofs.YtedfbafngmicpaaGreat.Sx
end
section
/- update.Insert, Delete, Increase. -/
namespace Go.Proofs.YtedfbafngmicpaaGreat.Sx
open Go

/-KEEP Wf exW inU live Arn.free Rep rdS retL Tr.size Tr.list Tr.Bal getE Asc ht Hn gN iB dB insE flt neK hasK TrR Got-/
def tIn:Tfm C0:=fun args H K=>match args with
 | [.at (.ptr 0 0),.at (.val (.int .u32 i)),.agg [.val (.int .i64 k),.val (.int .i64 v)]]=>arM H fun S=>∃ hs t,Wf S (i::hs)/\Rep S t i/\t.Bal/\Asc t.list/\t.size<=700000/\(iB t.size:Int)<=S.free/\hs.length<=500000000/\S.reads+5*iB t.size<=1600000000000000000 ∧
  ∀ S' j,TrR S hs (insE t.list (k,v)) (iB t.size) (5*iB t.size) S' j->K (.one (.at (vU j))) (chS S') W7
 | _=>False
theorem s_in:SoundT C0 46 tIn:=(s_insr 1000000).weak fun args H K h=>by
 unfold tIn at h
 unfold tInsT
 split at h<;>try exact h.elim
 unfold arM at h ⊢
 split at h<;>try exact h.elim
 obtain⟨hs,t,h1,h2,h3,h4,h6,h7,h8,h9,h10⟩:=h
 exact⟨hs,t,h1,h2,h3,h4,by omega,h6,h7,by omega,h9,h10⟩
def upM (S:Arn)(hs:List Int)(t:Tr)(root:Int):Prop:=Wf S hs/\Rep S t root/\t.Bal/\Asc t.list/\t.size<=60000/\hs.length<=100000000/\S.reads<=1000000000000000000
noncomputable def aUpI:Ann C0:={ Γ:=[(42,frameT [] tGetT),(43,frameT [] tHold),(41,frameT [] tSize),(45,frameT [] (tRes1 4 1)),(44,frameT [] tRoom),(46,frameT [] tIn)] }
def tUpI:Tfm C0:=fun args H K=>match args with
 | [.at (.ptr 0 0),.at (.val (.int .u32 r)),.agg [.val (.int .i64 k),.val (.int .i64 v)]]=>arM H fun S=>∃ hs t,upM S hs t r ∧
  (getE t.list k=some v->∀ S' m,S'=retL (rdS S m) r->m<=ht t->K (.tup [.at (vU r),.at (vI v),.at (vB true),.at (vI 0)]) (chS S') W7) ∧
  (getE t.list k≠some v->S.free<4*(Hn (t.size+1)+2)->∀ S' m,S'=rdS S m->m<=ht t+1->K (.tup [.at (vU 0),.at (vI 0),.at (vB false),.at (vI 2)]) (chS S') W7) ∧
  (getE t.list k≠some v->4*(Hn (t.size+1)+2)<=S.free->∀ S' j (o:Option Int),o=getE t.list k->TrR S hs (insE t.list (k,v)) (iB t.size) (5*iB t.size+ht t+1) S' j->K (.tup [.at (vU j),.at (vI (o.getD 0)),.at (vB o.isSome),.at (vI 0)]) (chS S') W7)
 | _=>False
theorem Hn_mono1 (n:Nat):Hn n<=Hn ((n:Int)+1):=by
 have a:=gN_size n
 have b:=gN_size (n+1)
 have c:=gN_mono (v:=n+1) (w:=n+1+1) (by omega) (by omega)
 rw[show ((n+1:Nat):Int)=(n:Int)+1 by omega] at b
 omega
theorem retL_free (S:Arn)(i:Int):(retL S i).free=S.free:=by unfold retL;split<;>rfl
theorem us_one (b:Bool):b.toNat<=1:=by cases b<;>decide
theorem iB_Hn (n:Nat):(iB n:Int)=4*Hn n+1:=by have:=gN_size n;unfold iB;omega
theorem vc_upI (S:Arn)(r k v:Int)(K:KT)(hs:List Int)(t:Tr)(hm:upM S hs t r)(h1:getE t.list k=some v->∀ S' m,S'=retL (rdS S m) r->m<=ht t->K (.tup [.at (vU r),.at (vI v),.at (vB true),.at (vI 0)]) (chS S') W7)(h2:getE t.list k≠some v->S.free<4*(Hn (t.size+1)+2)->∀ S' m,S'=rdS S m->m<=ht t+1->K (.tup [.at (vU 0),.at (vI 0),.at (vB false),.at (vI 2)]) (chS S') W7)(h3:getE t.list k≠some v->4*(Hn (t.size+1)+2)<=S.free->∀ S' j (o:Option Int),o=getE t.list k->TrR S hs (insE t.list (k,v)) (iB t.size) (5*iB t.size+ht t+1) S' j->K (.tup [.at (vU j),.at (vI (o.getD 0)),.at (vB o.isSome),.at (vI 0)]) (chS S') W7) :
  vc C0 aUpI Tryz.f11 [.at (.ptr 0 0),.at (vU r),.agg [vI k,vI v]] (chS S) (normK 7 (wideK W7 K)):=by
 refine Eq.mp (show (∃ hs:List Int,∃ t:Tr,Wf S hs/\Rep S t r/\Asc t.list/\t.size<=1000000/\S.reads+(t.size:Int)<=3000000000000000000/\∀ S':Arn,∀ m:Nat,∀ o:Option Int,S'=rdS S m->m<=ht t->o=getE t.list k->brS (o.isSome) (brS (o.getD 0==v) (live S' r/\exW S'/\∀ S'1:Arn,S'1=retL S' r->K (.tup [(.at (.val (VU (r)))),(.at (.val (VI (o.getD 0)))),(.at (.val (Value.bool true))),(.at (.val (VI 0)))]) [(.box [(.ptr 1 0),(.slc 2),(.slc 3),(.val (VW (S'1.reads)))]),(.box [(.slc 4),(.slc 5),(.slc 6),(.val (VU (S'1.fresh)))]),(.row true EC.node (S'1.nodes)),(.row true EC.int (S'1.counts)),(.row true EC.bool (S'1.used)),(.row true EC.u32 (S'1.gen)),(.row true EC.u32 (S'1.rel))] [0,1,2,3,4,5,6]) (inU r/\exW S'/\S'.reads<4000000000000000000/\∀ S'1:Arn,S'1=(rdS S' (S'.us r).toNat)->0<=(S'.nd r).size/\(S'.nd r).size<=65536/\∀ p:Int,p=(4*(Hn ((S'.nd r).size+1)+2))->exW S'1/\∀ b:Bool,b=(decide (0<=p) && decide (p<=S'1.free))->brS (!b) (K (.tup [(.at (.val (VU 0))),(.at (.val (VI 0))),(.at (.val (Value.bool false))),(.at (.val (VI 2)))]) [(.box [(.ptr 1 0),(.slc 2),(.slc 3),(.val (VW (S'1.reads)))]),(.box [(.slc 4),(.slc 5),(.slc 6),(.val (VU (S'1.fresh)))]),(.row true EC.node (S'1.nodes)),(.row true EC.int (S'1.counts)),(.row true EC.bool (S'1.used)),(.row true EC.u32 (S'1.gen)),(.row true EC.u32 (S'1.rel))] [0,1,2,3,4,5,6]) ((live S'1 r/\exW S'1/\∀ S'2:Arn,S'2=retL S'1 r->∃ hs1:List Int,∃ t1:Tr,Wf S'2 (r::hs1)/\Rep S'2 t1 r/\t1.Bal/\Asc t1.list/\t1.size<=700000/\(↑(iB t1.size):Int)<=S'2.free/\hs1.length<=500000000/\
 S'2.reads+5*(↑(iB t1.size):Int)<=1600000000000000000/\∀ S'3:Arn,∀ j:Int,TrR S'2 hs1 (insE t1.list (k,v)) (iB t1.size) (5*iB t1.size) S'3 j->K (.tup [(.at (.val (VU (j)))),(.at (.val (VI (o.getD 0)))),(.at (.val (Value.bool (o.isSome)))),(.at (.val (VI 0)))]) [(.box [(.ptr 1 0),(.slc 2),(.slc 3),(.val (VW (S'3.reads)))]),(.box [(.slc 4),(.slc 5),(.slc 6),(.val (VU (S'3.fresh)))]),(.row true EC.node (S'3.nodes)),(.row true EC.int (S'3.counts)),(.row true EC.bool (S'3.used)),(.row true EC.u32 (S'3.gen)),(.row true EC.u32 (S'3.rel))] [0,1,2,3,4,5,6])/\live S'1 r/\exW S'1/\∀ S'2:Arn,S'2=retL S'1 r->∃ hs1:List Int,∃ t1:Tr,Wf S'2 (r::hs1)/\Rep S'2 t1 r/\t1.Bal/\Asc t1.list/\t1.size<=700000/\(↑(iB t1.size):Int)<=S'2.free/\hs1.length<=500000000/\S'2.reads+5*(↑(iB t1.size):Int)<=1600000000000000000/\∀ S'3:Arn,∀ j:Int,TrR S'2 hs1 (insE t1.list (k,v)) (iB t1.size) (5*iB t1.size) S'3 j->K (.tup [(.at (.val (VU (j)))),(.at (.val (VI (o.getD 0)))),(.at (.val (Value.bool (o.isSome)))),(.at (.val (VI 0)))]) [(.box [(.ptr 1 0),(.slc 2),(.slc 3),(.val (VW (S'3.reads)))]),(.box [(.slc 4),(.slc 5),(.slc 6),(.val (VU (S'3.fresh)))]),(.row true EC.node (S'3.nodes)),(.row true EC.int (S'3.counts)),(.row true EC.bool (S'3.used)),(.row true EC.u32 (S'3.gen)),(.row true EC.u32 (S'3.rel))] [0,1,2,3,4,5,6]))) (inU r/\exW S'/\S'.reads<4000000000000000000/\∀ S'1:Arn,S'1=(rdS S' (S'.us r).toNat)->0<=(S'.nd r).size/\(S'.nd r).size<=65536/\∀ p:Int,p=(4*(Hn ((S'.nd r).size+1)+2))->exW S'1/\∀ b:Bool,b=(decide (0<=p) && decide (p<=S'1.free))->brS (!b) (K (.tup [(.at (.val (VU 0))),(.at (.val (VI 0))),(.at (.val (Value.bool false))),(.at (.val (VI 2)))]) [(.box [(.ptr 1 0),(.slc 2),(.slc 3),(.val (VW (S'1.reads)))]),(.box [(.slc 4),(.slc 5),(.slc 6),(.val (VU (S'1.fresh)))]),(.row true EC.node (S'1.nodes)),(.row true EC.int (S'1.counts)),(.row true EC.bool (S'1.used)),(.row true EC.u32 (S'1.gen)),(.row true EC.u32 (S'1.rel))] [0,1,2,3,4,5,6]) ((live S'1 r/\
 exW S'1/\∀ S'2:Arn,S'2=retL S'1 r->∃ hs1:List Int,∃ t1:Tr,Wf S'2 (r::hs1)/\Rep S'2 t1 r/\t1.Bal/\Asc t1.list/\t1.size<=700000/\(↑(iB t1.size):Int)<=S'2.free/\hs1.length<=500000000/\S'2.reads+5*(↑(iB t1.size):Int)<=1600000000000000000/\∀ S'3:Arn,∀ j:Int,TrR S'2 hs1 (insE t1.list (k,v)) (iB t1.size) (5*iB t1.size) S'3 j->K (.tup [(.at (.val (VU (j)))),(.at (.val (VI (o.getD 0)))),(.at (.val (Value.bool (o.isSome)))),(.at (.val (VI 0)))]) [(.box [(.ptr 1 0),(.slc 2),(.slc 3),(.val (VW (S'3.reads)))]),(.box [(.slc 4),(.slc 5),(.slc 6),(.val (VU (S'3.fresh)))]),(.row true EC.node (S'3.nodes)),(.row true EC.int (S'3.counts)),(.row true EC.bool (S'3.used)),(.row true EC.u32 (S'3.gen)),(.row true EC.u32 (S'3.rel))] [0,1,2,3,4,5,6])/\live S'1 r/\exW S'1/\∀ S'2:Arn,S'2=retL S'1 r->∃ hs1:List Int,∃ t1:Tr,Wf S'2 (r::hs1)/\Rep S'2 t1 r/\t1.Bal/\Asc t1.list/\t1.size<=700000/\(↑(iB t1.size):Int)<=S'2.free/\hs1.length<=500000000/\S'2.reads+5*(↑(iB t1.size):Int)<=1600000000000000000/\∀ S'3:Arn,∀ j:Int,TrR S'2 hs1 (insE t1.list (k,v)) (iB t1.size) (5*iB t1.size) S'3 j->K (.tup [(.at (.val (VU (j)))),(.at (.val (VI (o.getD 0)))),(.at (.val (Value.bool (o.isSome)))),(.at (.val (VI 0)))]) [(.box [(.ptr 1 0),(.slc 2),(.slc 3),(.val (VW (S'3.reads)))]),(.box [(.slc 4),(.slc 5),(.slc 6),(.val (VU (S'3.fresh)))]),(.row true EC.node (S'3.nodes)),(.row true EC.int (S'3.counts)),(.row true EC.bool (S'3.used)),(.row true EC.u32 (S'3.gen)),(.row true EC.u32 (S'3.rel))] [0,1,2,3,4,5,6])))=_ by kernel_rfl) ?_
 obtain⟨w,rp,bal,asc,sz,hl,rd⟩:=hm
 have hrd:=w.rds
 have hb:=Bal.height bal (by omega)
 have hH:=Hn_rng t.size
 have hH1:=Hn_rng ((t.size:Int)+1)
 have hmo:=Hn_mono1 t.size
 have hi:=iB_Hn t.size
 refine⟨hs,t,w,rp,asc,by omega,by omega,fun S1 m o e1 hm1 eo=>?_⟩
 have wl:Wf S1 hs:=by rw[e1];exact w.rd (by omega)
 have rp1:Rep S1 t r:=by rw[e1];exact rep_rd rp m
 have lv:live S1 r:=rp1.us
 have q1:S1.reads=S.reads+m:=by rw[e1];rfl
 have f1:S1.free=S.free:=by rw[e1];rfl
 have z1:(S1.nd r).size=t.size:=rp1.size wl
 refine brS_of (fun c=>brS_of (fun d=>?_) fun d=>?_) fun c=>?_
 ·have d:o.getD 0=v:=by simpa using d
  obtain⟨x,ex⟩:=Option.isSome_iff_exists.1 c
  have ev:x=v:=by rw[ex] at d;exact d
  have he:getE t.list k=some v:=by rw[← eo,ex,ev]
  refine⟨lv,⟨hs,wl⟩,fun S2 e2=>?_⟩
  rw[d]
  exact h1 he S2 m (by rw[e2,e1]) hm1
 all_goals
  have hne:getE t.list k≠some v:=by
   intro he
   rw[he] at eo
   subst eo
   first
    | (simp at d;done)
    | (simp at c;done)
  refine⟨inU_of wl lv,⟨hs,wl⟩,by omega,fun S2 e2=>?_⟩
  have hu:=us_one (S1.us r)
  have wl2:Wf S2 hs:=by rw[e2];exact wl.rd (by omega)
  have rp2:Rep S2 t r:=by rw[e2];exact rep_rd rp1 _
  have lv2:live S2 r:=rp2.us
  have f2:S2.free=S.free:=by rw[e2];exact f1
  have q2:S2.reads=S.reads+m+(S1.us r).toNat:=by rw[e2,← q1];rfl
  have gA:Got S hs 0 (ht t+1) S2 hs:=by
   rw[e2,e1,rdS_rdS]
   rw[e1] at hu
   exact (Got.rds w (by omega)).mono (by omega) (by omega)
  rw[z1]
  refine⟨by omega,by omega,fun p ep=>⟨⟨hs,wl2⟩,fun b eb=>brS_of (fun d2=>?_) fun d2=>?_⟩⟩
  ·have d2:b=false:=by simpa using d2
   rw[d2] at eb
   have hf:¬ p<=S2.free:=fun hp=>by
    rw[decide_eq_true hp,decide_eq_true (show 0<=p by omega)] at eb;cases eb
   exact h2 hne (by omega) S2 (m+(S1.us r).toNat) (by rw[e2,e1,rdS_rdS]) (by omega)
  ·have d2:b=true:=by simpa using d2
   rw[d2] at eb
   have hf:p<=S2.free:=by
    by_cases hp:p<=S2.free
    ·exact hp
    ·rw[decide_eq_false hp,Bool.and_false] at eb;cases eb
   refine⟨⟨lv2,⟨hs,wl2⟩,?_⟩,lv2,⟨hs,wl2⟩,?_⟩
   all_goals
    intro S3 e3
    have g3:=retL_got (hs:=hs) wl2 lv2 (by omega)
    rw[← e3] at g3
    have rp3:Rep S3 t r:=by rw[e3];exact rp2.retL
    have f3:S3.free=S2.free:=by rw[e3];exact retL_free _ _
    have q3:S3.reads=S2.reads:=by rw[e3];exact (retL_flds _ _).1
    refine⟨hs,t,g3.wf,rp3,bal,asc,by omega,by omega,by omega,by omega,fun S4 j tr=>h3 hne (by omega) S4 j o eo ⟨?_,tr.tree⟩⟩
    exact ((gA.seq g3 (h:=hs) (fun _ h=>h) (fun _ h=>h)).seq tr.got (fun _ h=>h) (fun _ h=>h)).mono (by omega) (by omega)
theorem s_upI:SoundT C0 11 tUpI:=by
 refine .ofW W7 Tryz.func11 (by decide) rfl fun args H K h hB=>?_
 unfold tUpI at h
 split at h<;>try exact h.elim
 unfold arM at h
 split at h<;>try exact h.elim
 rename_i r k v _ rd fr nd ct us gn rl
 obtain⟨hs,t,h1,h2,h3,h4⟩:=h
 exact⟨aUpI,⟨frame C0.ok s_getT _,frame C0.ok s_hold _,frame C0.ok s_size _,frame C0.ok s_rIns _,frame C0.ok s_room _,frame C0.ok s_in _,trivial⟩,vc_upI ⟨us,gn,rl,fr,nd,ct,rd⟩ r k v K hs t h1 h2 h3 h4⟩
/-! ### Where there is room -/
theorem insE_same {l:List Ent}{k v:Int}(ha:Asc l)(h:getE l k=some v):insE l (k,v)=l :=
 Asc.ext (insE_asc _ ha) ha fun q=>by
  rw[insE_get _ ha]
  show (if k=q then some v else getE l q)=_
  split
  ·rename_i e;rw[← e,h]
  ·rfl
def tUpIn:Tfm C0:=fun args H K=>match args with
 | [.at (.ptr 0 0),.at (.val (.int .u32 r)),.agg [.val (.int .i64 k),.val (.int .i64 v)]]=>arM H fun S=>∃ hs t,upM S hs t r/\4*(Hn (t.size+1)+2)<=S.free ∧
  ∀ S' j (o:Option Int),o=getE t.list k->TrR S hs (insE t.list (k,v)) (iB t.size) (5*iB t.size+ht t+1) S' j->K (.tup [.at (vU j),.at (vI (o.getD 0)),.at (vB o.isSome),.at (vI 0)]) (chS S') W7
 | _=>False
theorem hold_tr {S S':Arn}{hs:List Int}{t:Tr}{r:Int}{m a b:Nat}{L:List Ent}(w:Wf S hs)(rp:Rep S t r)(bal:t.Bal)(hl:hs.length<=900000000)(hr:S.reads+m<=4000000000000000000)(e:S'=retL (rdS S m) r)(hb:m<=b)(hL:t.list=L):TrR S hs L a b S' r:=by
 have g:=Got.rds (hs:=hs) w hr
 have rp1:Rep (rdS S m) t r:=rep_rd rp m
 have g2:=retL_got (hs:=hs) g.wf rp1.us (by omega)
 rw[← e] at g2
 exact⟨(g.seq g2 (h:=hs) (fun _ h=>h) (fun _ h=>h)).mono (by omega) (by omega),t,by rw[e];exact rp1.retL,hL,bal⟩
theorem s_upIn:SoundT C0 11 tUpIn:=s_upI.weak fun args H K h=>by
 unfold tUpIn at h
 unfold tUpI
 split at h<;>try exact h.elim
 unfold arM at h ⊢
 split at h<;>try exact h.elim
 obtain⟨hs,t,hm,hf,h⟩:=h
 refine⟨hs,t,hm,fun he S' m e hm'=>?_,fun _ hf'=>absurd hf (by omega),fun _ _=>h⟩
 obtain⟨w,rp,bal,asc,sz,hl,rd⟩:=hm
 have hb:=Bal.height bal (by omega)
 have hH:=Hn_rng t.size
 exact h S' _ (some _) he.symm (hold_tr w rp bal (by omega) (by omega) e (by omega) (insE_same asc he).symm)
end Go.Proofs.YtedfbafngmicpaaGreat.Sx
end
section
/- Lists whose keys are numbers of the machine. No program in sight. -/
namespace Go.Proofs.YtedfbafngmicpaaGreat.Sx
open Go

def Kin (l:List Ent):Prop:=∀ x∈l, -9223372036854775808<=x.1/\x.1<=9223372036854775807
end Go.Proofs.YtedfbafngmicpaaGreat.Sx
end
section
/- How many slots can be reached: the bound for what set operations need. No program in sight. -/
namespace Go.Proofs.YtedfbafngmicpaaGreat
open Go

variable {S S' S1 S2:Arn} {hs h1 h2 hs1 hs2:List Int}

theorem countP_or {α:Type}(p q:α->Bool):∀ l:List α,l.countP (fun x=>p x || q x)<=l.countP p+l.countP q
 | []=>by simp
 | a::l=>by
  have ih:=countP_or p q l
  simp only[List.countP_cons]
  cases p a<;>cases q a<;>simp<;>omega
theorem countP_imp {α:Type}(p q:α->Bool):∀ l:List α,(∀ x∈l,p x=true->q x=true)->l.countP p<=l.countP q
 | [],_=>by simp
 | a::l,h=>by
  have ih:=countP_imp p q l fun x hx=>h x (List.mem_cons_of_mem _ hx)
  have h0:=h a (List.mem_cons_self ..)
  simp only[List.countP_cons]
  cases e:p a<;>cases f:q a<;>simp_all<;>omega
theorem countP_eqr (n:Nat)(a:Int):(List.range n).countP (fun i:Nat=>decide ((i:Int)=a))<=1:=by
 have h:=List.nodup_iff_count.1 (List.nodup_range (n:=n)) a.toNat
 refine Nat.le_trans (countP_imp _ (fun i=>i==a.toNat) _ fun x _ hx=>?_) h
 have:(x:Int)=a:=of_decide_eq_true hx
 simp;omega
theorem countP_mem (n:Nat):∀ L:List Int,(List.range n).countP (fun i:Nat=>decide ((i:Int)∈L))<=L.length
 | []=>by simp
 | a::L=>by
  have ih:=countP_mem n L
  have h1:=countP_eqr n a
  have h2:=countP_or (fun i:Nat=>decide ((i:Int)=a)) (fun i:Nat=>decide ((i:Int)∈L)) (List.range n)
  refine Nat.le_trans (countP_imp _ (fun i:Nat=>decide ((i:Int)=a) || decide ((i:Int)∈L)) _ fun x _ hx=>?_) (Nat.le_trans h2 (by simp;omega))
  have hx:=of_decide_eq_true hx
  rcases List.mem_cons.1 hx with e|e<;>simp[e]
theorem countP_range_getD:∀ (l:List Bool),l.countP id=(List.range l.length).countP (fun i=>l.getD i false):=by
 intro l
 conv=>lhs;rw[show l=(List.range l.length).map (fun i=>l.getD i false) from (List.ext_getElem (by simp) fun i h1 h2=>by simp[List.getD_eq_getElem?_getD,h1])]
 rw[List.countP_map];rfl

open Classical in
noncomputable def nuR (S:Arn)(hs:List Int):Nat:=(List.range S.used.length).countP fun i:Nat=>decide (Rch S hs (i:Int))
open Classical in
theorem nuR_le (h:∀ i:Int,Rch S hs1 i->Rch S' hs2 i)(hl:S.used.length=S'.used.length):nuR S hs1<=nuR S' hs2:=by
 unfold nuR
 rw[hl]
 exact countP_imp _ _ _ fun x _ hx=>decide_eq_true (h _ (of_decide_eq_true hx))
open Classical in
theorem Wf.nuR (w:Wf S hs):S.nu<=nuR S hs:=by
 unfold Arn.nu Proofs.YtedfbafngmicpaaGreat.nuR
 rw[countP_range_getD]
 refine countP_imp _ _ _ fun x _ hx=>decide_eq_true (w.reached ?_)
 unfold Arn.us;simpa using hx
theorem Rch.back (w:Wf S hs1)(w':Wf S' hs2)(hh:∀ i∈hs,i∈hs1)(st:Stay S S' hs){i:Int}(h:Rch S' hs i):Rch S hs i:=by
 have n0:S'.us 0=false:=w'.us0 (Int.le_refl 0)
 induction h with
 | root a b=>exact .root a ((w.held _ (hh _ a)).resolve_left fun e=>by rw[e,n0] at b;cases b)
 | left a b ih =>
  have e:=(st _ ih).2.1
  rw[e] at b ⊢
  exact .left ih ((w.kid _ ih.us).1.resolve_left fun e=>by rw[e,n0] at b;cases b)
 | right a b ih =>
  have e:=(st _ ih).2.1
  rw[e] at b ⊢
  exact .right ih ((w.kid _ ih.us).2.resolve_left fun e=>by rw[e,n0] at b;cases b)
theorem Got.nuR {m r:Nat}(g:Got S hs m r S' hs2)(w:Wf S hs1)(hh:∀ i∈hs,i∈hs1):nuR S' hs<=nuR S hs:=nuR_le (fun _ h=>h.back w g.wf hh g.stay) g.len
def inT (S:Arn):Tr->Int->List Int
 | .nil,_=>[]
 | .node l _ _ r,i=>i::(inT S l (S.nd i).left++inT S r (S.nd i).right)
theorem inT_len:∀ (t:Tr) (i:Int),(inT S t i).length=t.size
 | .nil,_=>rfl
 | .node l _ _ r,i=>by simp[inT,Tr.size,inT_len l,inT_len r];omega
theorem inT_root (h0:S.us 0=false){t:Tr}{i:Int}(h:Rep S t i)(hu:S.us i=true):i∈inT S t i:=by
 cases t with
 | nil=>have e:i=0:=h;rw[e,h0] at hu;cases hu
 | node l k v r=>simp[inT]
theorem inT_kid (h0:S.us 0=false):∀ {t:Tr} {i j:Int},Rep S t i->j∈inT S t i->(S.us (S.nd j).left=true->(S.nd j).left∈inT S t i)/\(S.us (S.nd j).right=true->(S.nd j).right∈inT S t i)
 | .nil,_,_,_,hj=>by simp[inT] at hj
 | .node l k v r,i,j,h,hj=>by
  obtain⟨_,_,_,h4,h5⟩:=h
  simp only[inT,List.mem_cons,List.mem_append] at hj ⊢
  rcases hj with rfl|hj|hj
  ·exact⟨fun hu=>.inr (.inl (inT_root h0 h4 hu)),fun hu=>.inr (.inr (inT_root h0 h5 hu))⟩
  ·obtain⟨a,b⟩:=inT_kid h0 h4 hj
   exact⟨fun hu=>.inr (.inl (a hu)),fun hu=>.inr (.inl (b hu))⟩
  ·obtain⟨a,b⟩:=inT_kid h0 h5 hj
   exact⟨fun hu=>.inr (.inr (a hu)),fun hu=>.inr (.inr (b hu))⟩
theorem rch_cons (h0:S.us 0=false){t:Tr}{x i:Int}(h:Rep S t x)(hr:Rch S (x::hs) i):Rch S hs i∨i∈inT S t x:=by
 induction hr with
 | root a b =>
  rcases List.mem_cons.1 a with rfl|a
  ·exact .inr (inT_root h0 h b)
  ·exact .inl (.root a b)
 | left a b ih=>exact ih.imp (fun c=>.left c b) fun c=>(inT_kid h0 h c).1 b
 | right a b ih=>exact ih.imp (fun c=>.right c b) fun c=>(inT_kid h0 h c).2 b
open Classical in
theorem nuR_cons (w:Wf S hs1){t:Tr}{x:Int}(h:Rep S t x):nuR S (x::hs)<=nuR S hs+t.size:=by
 unfold nuR
 have h0:S.us 0=false:=w.us0 (Int.le_refl 0)
 have h1:=countP_mem S.used.length (inT S t x)
 rw[inT_len] at h1
 have h2:=countP_or (fun i:Nat=>decide (Rch S hs (i:Int))) (fun i:Nat=>decide ((i:Int)∈inT S t x)) (List.range S.used.length)
 refine Nat.le_trans (countP_imp _ (fun i:Nat=>decide (Rch S hs (i:Int)) || decide ((i:Int)∈inT S t x)) _ fun i _ hi=>?_) (by omega)
 rcases rch_cons h0 h (of_decide_eq_true hi) with e|e<;>simp[e]
theorem free_two {x y:Int}(w:Wf S (x::y::hs)){t u:Tr}(h:Rep S t x)(h':Rep S u y):S.cap<=S.free+nuR S hs+t.size+u.size:=by
 have a:=w.free_nonneg.2.2.2
 have b:=w.nuR
 have c:=nuR_cons (hs:=y::hs) w h
 have d:=nuR_cons (hs:=hs) w h'
 omega
theorem Got.loose {m r:Nat}(g:Got S hs m r S' hs2):Got S hs 65537 r S' hs2:=⟨g.wf,g.stay,g.len,by have:=g.wf.nu_le;omega,g.rd0,g.rd⟩
theorem TrR.loose {m r:Nat}{L:List Ent}{i:Int}(g:TrR S hs L m r S' i):TrR S hs L 65537 r S' i:=⟨g.got.loose,g.tree⟩
end Go.Proofs.YtedfbafngmicpaaGreat
end
section
/- Set operations on ascending lists: one step at the key of the first tree's root. No program in sight. -/
namespace Go.Proofs.YtedfbafngmicpaaGreat
open Go

theorem getE_app (a b:List Ent)(q:Int):getE (a++b) q=(getE a q).or (getE b q):=by
 induction a with
 | nil=>simp[getE]
 | cons x a ih =>
  have e:∀ (l:List Ent),getE (x::l) q=if x.1=q then some x.2 else getE l q:=fun l=>rfl
  rw[List.cons_append,e,e]
  split
  ·rfl
  ·exact ih
theorem getE_no {l:List Ent}{q:Int}(h:∀ x∈l,x.1≠q):getE l q=none:=by
 induction l with
 | nil=>rfl
 | cons x l ih =>
  unfold getE
  rw[if_neg (h x (List.mem_cons_self ..)),ih fun y hy=>h y (List.mem_cons_of_mem _ hy)]
theorem getE_in {l:List Ent}{x:Ent}(h:x∈l):getE l x.1≠none:=by
 induction l with
 | nil=>cases h
 | cons y l ih =>
  unfold getE
  split
  ·simp
  ·rename_i c
   rcases List.mem_cons.1 h with rfl|h
   ·exact absurd rfl c
   ·exact ih h
theorem getE_some {l:List Ent}{q v:Int}(h:getE l q=some v):(q,v)∈l:=by
 induction l with
 | nil=>cases h
 | cons y l ih =>
  unfold getE at h
  split at h
  ·rename_i c;cases h;subst c;exact List.mem_cons_self ..
  ·exact List.mem_cons_of_mem _ (ih h)
theorem getE_flt (p:Int->Bool)(l:List Ent)(q:Int):getE (flt p l) q=if p q=true then getE l q else none:=by
 induction l with
 | nil=>simp[flt,getE]
 | cons x l ih =>
  have ih':getE (l.filter fun x=>p x.1) q=_:=ih
  unfold flt
  rw[List.filter_cons]
  conv=>rhs;unfold getE
  split
  ·rename_i c
   conv=>lhs;unfold getE
   rw[ih']
   by_cases e:x.1=q
   ·rw[if_pos e,if_pos (by rw[← e];exact c),if_pos e]
   ·rw[if_neg e,if_neg e]
  ·rename_i c
   rw[ih']
   by_cases e:x.1=q
   ·rw[if_neg (by rw[← e];exact c),if_neg (by rw[← e];exact c)]
   ·rw[if_neg e]
theorem flt_two (p q:Int->Bool)(h:∀ k,p k=true->q k=false)(l:List Ent):(flt p l).length+(flt q l).length<=l.length:=by
 induction l with
 | nil=>simp[flt]
 | cons x l ih =>
  unfold flt at *
  rw[List.filter_cons,List.filter_cons]
  have:=h x.1
  cases e:p x.1<;>cases e':q x.1<;>simp_all<;>omega

structure SetR (f:Option Int->Option Int->Option Int) (l m out:List Ent):Prop where
 asc:Asc out
 get:∀ k,getE out k=f (getE l k) (getE m k)
 len:out.length<=l.length+m.length
variable {f:Option Int->Option Int->Option Int} {a b m p q:List Ent} {k v:Int}
def ltB (key:Int)(q:Int):Bool:=decide (q<key)
def gtB (key:Int)(q:Int):Bool:=decide (key<q)
theorem SetR.low (h0:f none none=none)(hl:∀ x∈a,x.1<k)(h:SetR f a (flt (ltB k) m) p):∀ x∈p,x.1<k:=fun x hx=>by
 have e:=getE_in hx
 rw[h.get] at e
 cases ea:getE a x.1 with
 | some w=>exact hl (x.1,w) (getE_some ea)
 | none =>
  rw[ea,getE_flt] at e
  split at e
  ·rename_i c;exact of_decide_eq_true c
  ·exact absurd h0 e
theorem SetR.high (h0:f none none=none)(hl:∀ x∈b,k<x.1)(h:SetR f b (flt (gtB k) m) q):∀ x∈q,k<x.1:=fun x hx=>by
 have e:=getE_in hx
 rw[h.get] at e
 cases ea:getE b x.1 with
 | some w=>exact hl (x.1,w) (getE_some ea)
 | none =>
  rw[ea,getE_flt] at e
  split at e
  ·rename_i c;exact of_decide_eq_true c
  ·exact absurd h0 e
theorem SetR.step (h0:f none none=none)(hl:Asc (a++(k,v)::b))(hp:SetR f a (flt (ltB k) m) p)(hq:SetR f b (flt (gtB k) m) q) :
  (∀ w,f (some v) (getE m k)=some w->SetR f (a++(k,v)::b) m (p++(k,w)::q))/\(f (some v) (getE m k)=none->SetR f (a++(k,v)::b) m (p++q)):=by
 obtain⟨_,_,la,lb⟩:=asc_parts hl
 have lp:=hp.low h0 la
 have lq:=hq.high h0 lb
 have two:=flt_two (ltB k) (gtB k) (fun x hx=>by unfold ltB gtB at *;simp at *;omega) m
 have hpl:=hp.len
 have hql:=hq.len
 have pl:∀ r,r<k->getE p r=f (getE (a++(k,v)::b) r) (getE m r):=fun r hr=>by
  rw[hp.get,getE_left hl hr,getE_flt,if_pos (by simp[ltB,hr])]
 have pr:∀ r,k<r->getE q r=f (getE (a++(k,v)::b) r) (getE m r):=fun r hr=>by
  rw[hq.get,getE_right hl hr,getE_flt,if_pos (by simp[gtB,hr])]
 refine⟨fun w hw=>?_,fun hn=>?_⟩
 ·have ha:Asc (p++(k,w)::q):=asc_join hp.asc hq.asc lp lq
  refine⟨ha,fun r=>?_,by simp;omega⟩
  rcases Int.lt_trichotomy r k with c|c|c
  ·rw[getE_left ha c,pl r c]
  ·rw[c,getE_at ha,getE_at hl,hw]
  ·rw[getE_right ha c,pr r c]
 ·refine⟨Srt.append hp.asc hq.asc fun x hx y hy=>Int.lt_trans (lp x hx) (lq y hy),fun r=>?_,by simp;omega⟩
  rw[getE_app]
  rcases Int.lt_trichotomy r k with c|c|c
  ·rw[getE_no (l:=q) fun x hx=>by have:=lq x hx;omega,Option.or_none,pl r c]
  ·rw[c,getE_no (l:=q) fun x hx=>by have:=lq x hx;omega,getE_no (l:=p) fun x hx=>by have:=lp x hx;omega,getE_at hl,hn];rfl
  ·rw[getE_no (l:=p) fun x hx=>by have:=lp x hx;omega,Option.none_or,pr r c]
theorem SetR.left {l:List Ent}(ha:Asc l)(h:∀ x,f x none=x):SetR f l [] l:=⟨ha,fun k=>by simp[getE,h],by simp⟩
theorem SetR.right {l:List Ent}(ha:Asc l)(h:∀ x,f none x=x):SetR f [] l l:=⟨ha,fun k=>by simp[getE,h],by simp⟩
theorem SetR.same {l:List Ent}(ha:Asc l)(h:∀ x,f x x=x):SetR f l l l:=⟨ha,fun k=>by rw[h],by omega⟩
theorem SetR.none {l m:List Ent}(h:∀ k,f (getE l k) (getE m k)=none):SetR f l m []:=⟨Srt.nil,fun k=>by rw[h];rfl,by simp⟩
theorem SetR.ext {l m x y:List Ent}(h:SetR f l m x)(h':SetR f l m y):x=y:=Asc.ext h.asc h'.asc fun q=>by rw[h.get,h'.get]
end Go.Proofs.YtedfbafngmicpaaGreat
end
section
/- The recursion of the set operations: what each call finds. No program in sight. -/
namespace Go.Proofs.YtedfbafngmicpaaGreat
open Go

variable {S S' S1 S2 S3:Arn} {hs:List Int} {a b tx ty tl tr u w:Tr} {k v x y xl yl xr yr i j:Int} {N:Nat}

def rdW (N s:Nat):Nat:=(60*gN (N+1)+40)*s
theorem rdW_node (N a b:Nat):rdW N (a+b+1)=rdW N a+rdW N b+(60*gN (N+1)+40):=by unfold rdW;rw[Nat.mul_add,Nat.mul_add,Nat.mul_one]
def dW (N:Nat):Nat:=7*gN (N+1)+4
structure StM (S:Arn) (hs:List Int) (tx ty:Tr) (x y:Int) (N:Nat):Prop where
 wf:Wf S (x::y::hs)
 rx:Rep S tx x
 ry:Rep S ty y
 bx:tx.Bal
 bY:ty.Bal
 ax:Asc tx.list
 ay:Asc ty.list
 sz:tx.size+ty.size<=N
 big:N<=140000
 room:nuR S hs+tx.size+ty.size+dW N<=S.cap
 hl:hs.length+2*tx.size<=300000000
 rd:S.reads+rdW N tx.size<=1200000000000000000
theorem cap_len (h:S'.used.length=S.used.length):S'.cap=S.cap:=by unfold Arn.cap;rw[h]
theorem StM.free (h:StM S hs tx ty x y N):(dW N:Int)<=S.free:=by
 have e:=free_two h.wf h.rx h.ry
 have:=h.room
 omega
structure Mid (S0 S1:Arn) (hs:List Int) (a:Tr) (k v:Int) (b ty tl tr:Tr) (xl yl xr yr:Int) (N:Nat):Prop where
 h0:∃ x y,StM S0 hs (.node a k v b) ty x y N
 first:StM S1 (xr::yr::hs) a tl xl yl N
 rb:Rep S1 b xr
 rr:Rep S1 tr yr
 el:tl.list=flt (ltB k) ty.list
 er:tr.list=flt (gtB k) ty.list
 br:tr.Bal
 got:Got S0 hs 65537 (35*gN (N+1)+6) S1 (xl::yl::xr::yr::hs)
variable {f:Option Int->Option Int->Option Int} {L R:List Ent}
theorem Mid.fin {S0 S4:Arn}{q:Int}{M:List Ent}{mk rd:Nat}{hs3:List Int}(g:Got S0 hs 65537 (35*gN (N+1)+6+rdW N a.size+rdW N b.size) S3 hs3)(t:TrR S3 hs M mk rd S4 q)(hrd:rd<=20*gN (N+1)+20) :
  TrR S0 hs M 65537 (rdW N (Tr.node a k v b).size) S4 q:=by
 have zz:(Tr.node a k v b).size=a.size+b.size+1:=by simp[Tr.size];omega
 refine⟨((g.seq t.got (h:=hs) (fun _ h=>h) (fun _ h=>h)).mono (m':=65537+mk) (Nat.le_refl _) ?_).loose,t.tree⟩
 rw[zz,rdW_node];omega
open Classical in
theorem nuR_nu:nuR S hs<=S.nu:=by
 unfold Arn.nu nuR
 rw[countP_range_getD]
 refine countP_imp _ _ _ fun z _ hz=>?_
 have:=(of_decide_eq_true hz:Rch S hs (z:Int)).us
 unfold Arn.us at this
 simpa using this
theorem StM.start (w:Wf S hs)(rx:Rep S tx x)(ry:Rep S ty y)(bx:tx.Bal)(bY:ty.Bal)(ax:Asc tx.list)(ay:Asc ty.list)(sz:tx.size+ty.size<=140000)(hl:hs.length<=1000000)(rd:S.reads<=1000000000000000000)(need:(tx.size:Int)+ty.size+12*(Hn ((tx.size+ty.size:Nat):Int)+2)<=S.free) :
  StM (retL (retL S x) y) hs tx ty x y (tx.size+ty.size)/\Got S hs 0 0 (retL (retL S x) y) (x::y::hs):=by
 have g1:Got S hs 0 0 (retL S x) (x::hs):=retL_got w rx.us (by omega)
 have g2:Got (retL S x) hs 0 0 (retL (retL S x) y) (y::x::hs):=retL_got g1.wf (ry.retL (j:=x)).us (by simp;omega)
 have g:=((g1.seq g2 (h:=hs) (fun _ h=>h) (fun _ h=>h)).perm (List.Perm.swap x y hs))
 have n0:=g.nuR w (fun _ h=>h)
 have n1:=nuR_nu (S:=S) (hs:=hs)
 have c:=w.free_nonneg.2.2.2
 have ec:=cap_len g.len
 have gs:=gN_size (tx.size+ty.size)
 have g8:=gN_rng (tx.size+ty.size+1)
 have rr:=g.rd
 have lt:rdW (tx.size+ty.size) tx.size<=4840*140000:=by
  unfold rdW
  exact Nat.mul_le_mul (by omega) (by omega)
 refine⟨⟨g.wf,rx.retL.retL,ry.retL.retL,bx,bY,ax,ay,Nat.le_refl _,sz,?_,by omega,by omega⟩,g.mono (Nat.le_refl _) (Nat.le_refl _)⟩
 unfold dW;omega
end Go.Proofs.YtedfbafngmicpaaGreat
end
section
/- Trees that are held, with their entries: what is free. No program in sight. -/
namespace Go.Proofs.YtedfbafngmicpaaGreat.Sx
open Go

variable {S S':Arn} {hs:List Int}
def sumL (E:List (Int × List Ent)):Nat:=(E.map fun p=>p.2.length).sum
structure Hld (S:Arn) (E:List (Int × List Ent)):Prop where
 wf:Wf S (E.map Prod.fst)
 rep:∀ p∈E,∃ t,Rep S t p.1/\t.list=p.2/\t.Bal
 asc:∀ p∈E,Asc p.2
 kin:∀ p∈E,Kin p.2
theorem nuR_sum (w:Wf S hs):∀ E:List (Int × List Ent),(∀ p∈E,∃ t,Rep S t p.1/\t.list=p.2/\t.Bal)->nuR S (E.map Prod.fst)<=nuR S []+sumL E
 | [],_=>by simp[sumL]
 | p::E,h=>by
  obtain⟨t,rp,lt,_⟩:=h p (List.mem_cons_self ..)
  have a:=nuR_cons (hs:=E.map Prod.fst) w rp
  have b:=nuR_sum w E fun q hq=>h q (List.mem_cons_of_mem _ hq)
  have c:t.size=p.2.length:=by rw[← t.list_len,lt]
  rw[List.map_cons]
  unfold sumL at *
  rw[List.map_cons,List.sum_cons]
  omega
open Classical in
theorem nuR_nil (_:Wf S hs):nuR S []=0:=by
 unfold nuR
 refine List.countP_eq_zero.2 fun i _ hi=>?_
 have hr:Rch S [] (i:Int):=of_decide_eq_true hi
 clear hi
 generalize (i:Int)=j at hr
 induction hr with
 | root a _=>cases a
 | left _ _ ih=>exact ih
 | right _ _ ih=>exact ih
theorem Hld.room {E:List (Int × List Ent)}(h:Hld S E):S.cap<=S.free+sumL E:=by
 have a:=h.wf.free_nonneg.2.2.2
 have b:=h.wf.nuR
 have c:=nuR_sum h.wf E h.rep
 have d:=nuR_nil h.wf
 omega
theorem Hld.step {E:List (Int × List Ent)}{L:List Ent}{m r:Nat}{j:Int}(e:Hld S E)(tr:TrR S (E.map Prod.fst) L m r S' j)(ha:Asc L)(hk:Kin L):Hld S' ((j,L)::E) where
 wf:=tr.got.wf
 rep p hp:=by
  rcases List.mem_cons.1 hp with rfl|hp
  ·exact tr.tree
  ·obtain⟨t,rp,lt,bt⟩:=e.rep p hp
   exact⟨t,rp.held e.wf tr.got.stay (.inr (List.mem_map.2 ⟨p,hp,rfl⟩)),lt,bt⟩
 asc p hp:=by
  rcases List.mem_cons.1 hp with rfl|hp
  ·exact ha
  ·exact e.asc p hp
 kin p hp:=by
  rcases List.mem_cons.1 hp with rfl|hp
  ·exact hk
  ·exact e.kin p hp
theorem Hld.rd {E:List (Int × List Ent)}{n:Nat}(e:Hld S E)(h:S.reads+n<=4000000000000000000):Hld (rdS S n) E where
 wf:=e.wf.rd h
 rep p hp:=by
  obtain⟨t,rp,lt,bt⟩:=e.rep p hp
  exact⟨t,rp.rdn,lt,bt⟩
 asc:=e.asc
 kin:=e.kin
theorem Hld.ls {E:List (Int × List Ent)}{x:Int}{l:List Ent}(e:Hld S E)(hx:(x,l)∈E)(hl:l.length<=60000):∃ t,Rep S t x/\Asc t.list/\Kin t.list/\t.size<=60000/\t.list=l:=by
 obtain⟨t,rp,lt,_⟩:=e.rep _ hx
 have lt:t.list=l:=lt
 have sz:t.size=l.length:=by rw[← t.list_len,lt]
 exact⟨t,rp,by rw[lt];exact e.asc _ hx,by rw[lt];exact e.kin _ hx,by omega,lt⟩
theorem sumL_cons (j:Int)(L:List Ent)(E:List (Int × List Ent)):sumL ((j,L)::E)=L.length+sumL E:=by
 unfold sumL;rw[List.map_cons,List.sum_cons]
theorem tr_cap {L:List Ent}{m r:Nat}{j:Int}(tr:TrR S hs L m r S' j):S'.cap=S.cap:=cap_len tr.got.len
end Go.Proofs.YtedfbafngmicpaaGreat.Sx
end
section
/- Updates where there is room, whether the key is there or not; held trees that are given back. -/
namespace Go.Proofs.YtedfbafngmicpaaGreat.Sx
open Go

variable {S S':Arn} {E:List (Int × List Ent)} {x:Int} {l:List Ent}
theorem Hld.drop (h:Hld S ((x,l)::E))(w:Wf S' (E.map Prod.fst))(kp:Kept S S'):Hld S' E where
 wf:=w
 rep p hp:=by
  obtain⟨t,rp,lt,bt⟩:=h.rep p (List.mem_cons_of_mem _ hp)
  have w0:Wf S (x::E.map Prod.fst):=h.wf
  have g:=rel_got w0 w kp
  exact⟨t,rp.held w0 g.stay (.inr (List.mem_map.2 ⟨p,hp,rfl⟩)),lt,bt⟩
 asc p hp:=h.asc p (List.mem_cons_of_mem _ hp)
 kin p hp:=h.kin p (List.mem_cons_of_mem _ hp)
theorem Hld.perm {E':List (Int × List Ent)}(h:Hld S E)(p:E.Perm E'):Hld S E' where
 wf:=h.wf.perm (p.map _)
 rep q hq:=h.rep q (p.mem_iff.2 hq)
 asc q hq:=h.asc q (p.mem_iff.2 hq)
 kin q hq:=h.kin q (p.mem_iff.2 hq)
end Go.Proofs.YtedfbafngmicpaaGreat.Sx
end
section
/- The trees of the laws of pack: forest. -/
namespace Go.Proofs.YtedfbafngmicpaaGreat.Sx
open Go

/-KEEP Wf exW inU allV live rdS Arn.cap Arn.free Rep Tr.size Tr.list Tr.Bal Asc Kin listE insE outE getE TrR UpdR Got Hn ht upM PlantR newS Hld RngS FoR RngL stpG enG rowG-/
abbrev rowG (l:List (List Ent))(i:Nat):List Ent:=l.getD i []
structure FoR (sp:Int) (S:Arn) (rs:List Int) (ll:List (List Ent)):Prop where
 hld:Hld S (rs.zip ll)
 len:rs.length=ll.length
 one:1<=rs.length/\rs.length<=7
 ls:∀ L∈ll,L.length<=36/\RngL L
 rd:S.reads<=1000000
 fr:sp<=S.free
theorem Hn_up (n:Nat):∀ d:Nat,Hn (n:Int)<=Hn ((n+d:Nat):Int)
 | 0=>Int.le_refl _
 | d+1=>by
  have a:=Hn_up n d
  have b:=Hn_mono1 (n+d)
  rw[show ((n+(d+1):Nat):Int)=((n+d:Nat):Int)+1 by omega]
  omega
theorem Hn_leq {n m:Nat}(h:n<=m):Hn (n:Int)<=Hn (m:Int):=by
 have:=Hn_up n (m-n)
 rwa [show n+(m-n)=m by omega] at this
structure FoI (sp:Int) (L0:List Ent) (n:Nat) (p:Int) (S:Arn) (rs:List Int) (ll:List (List Ent)) (k:Nat):Prop where
 kn:k<=n
 n6:n<=6
 l30:L0.length<=30
 lr:rs.length=k+1
 lL:ll.length=k+1
 hld:Hld S (rs.zip ll)
 ls:∀ L∈ll,L.length<=L0.length+k/\RngL L
 rd:S.reads<=20000*k
 cap:S.cap=(L0.length:Int)+1+((n:Int)+1)*(p+((L0.length:Int)+n))+sp
section
variable {sp p:Int} {L0:List Ent} {n:Nat} {S S':Arn} {rs:List Int} {ll:List (List Ent)} {k:Nat}
theorem zip_fst (h:rs.length=ll.length):(rs.zip ll).map Prod.fst=rs:=List.map_fst_zip (by omega)
theorem sumL_zip {c:Nat}:∀ {rs:List Int} {ll:List (List Ent)},(∀ L∈ll,L.length<=c)->sumL (rs.zip ll)<=ll.length*c
 | [],ll,_=>by simp[sumL]
 | r::rs,[],_=>by simp[sumL]
 | r::rs,L::ll,h=>by
  have a:=sumL_zip (rs:=rs) fun x hx=>h x (List.mem_cons_of_mem L hx)
  have b:=h L (by simp)
  rw[List.zip_cons_cons,sumL_cons,List.length_cons,Nat.succ_mul]
  show L.length+_<=_
  omega
theorem FoI.eq (h:FoI sp L0 n p S rs ll k):rs.length=ll.length:=by have:=h.lr;have:=h.lL;omega
theorem FoI.mem (h:FoI sp L0 n p S rs ll k){i:Nat}(hi:i<rs.length):(rs.getD i 0,rowG ll i)∈rs.zip ll:=by
 have e:=h.eq
 refine List.mem_iff_getElem?.2 ⟨i,?_⟩
 rw[List.getElem?_zip_eq_some]
 refine⟨?_,?_⟩
 ·rw[List.getD_eq_getElem?_getD,List.getElem?_eq_getElem hi];rfl
 ·show ll[i]?=some (ll.getD i [])
  rw[List.getD_eq_getElem?_getD,List.getElem?_eq_getElem (e ▸ hi)];rfl
theorem FoI.row (h:FoI sp L0 n p S rs ll k){i:Nat}(hi:i<rs.length):rowG ll i∈ll:=by
 have e:=h.eq
 show ll.getD i []∈ll
 rw[List.getD_eq_getElem?_getD,List.getElem?_eq_getElem (e ▸ hi)]
 exact List.getElem_mem _
theorem FoI.room (h:FoI sp L0 n p S rs ll k):(sumL (rs.zip ll):Int)<=((k:Int)+1)*((L0.length:Int)+k)/\S.cap<=S.free+sumL (rs.zip ll):=by
 have a:=sumL_zip (rs:=rs) (ll:=ll) (c:=L0.length+k) fun L hL=>(h.ls L hL).1
 rw[h.lL] at a
 refine⟨?_,h.hld.room⟩
 have b:((sumL (rs.zip ll):Nat):Int)<=(((k+1)*(L0.length+k):Nat):Int):=by exact_mod_cast a
 rw[Int.natCast_mul] at b
 exact_mod_cast b
theorem FoI.done (h:FoI sp L0 n p S rs ll n)(hp:0<=p)(_:0<=sp):FoR sp S rs ll:=by
 obtain⟨a,b⟩:=h.room
 have c:=h.cap
 have e:((n:Int)+1)*(p+((L0.length:Int)+n))=((n:Int)+1)*p+((n:Int)+1)*((L0.length:Int)+n):=Int.mul_add _ _ _
 have f:0<=((n:Int)+1)*p:=Int.mul_nonneg (by omega) hp
 have:=h.n6;have:=h.lr;have:=h.l30;have:=h.rd
 exact⟨h.hld,h.eq,by omega,fun L hL=>⟨by have:=(h.ls L hL).1;omega,(h.ls L hL).2⟩,by omega,by omega⟩
theorem FoI.go (h:FoI sp L0 n p S rs ll k)(hk:k<n){L:List Ent}{m r:Nat}{j:Int}(tr:TrR S rs L m r S' j)(asc:Asc L)(hl:L.length<=L0.length+(k+1))(rg:RngL L)(hr:r<=20000):FoI sp L0 n p S' (rs++[j]) (ll++[L]) (k+1):=by
 have tr':TrR S ((rs.zip ll).map Prod.fst) L m r S' j:=by rw[zip_fst h.eq];exact tr
 have hh:=h.hld.step tr' asc fun x hx=>(rg x hx).1
 refine⟨hk,h.n6,h.l30,by rw[List.length_append,h.lr];rfl,by rw[List.length_append,h.lL];rfl,?_,fun M hM=>?_,?_,?_⟩
 ·rw[List.zip_append h.eq]
  exact hh.perm (List.perm_append_singleton _ _).symm
 ·rcases List.mem_append.1 hM with c|c
  ·have:=h.ls M c
   exact⟨by omega,this.2⟩
  ·rw[List.mem_singleton.1 c];exact⟨hl,rg⟩
 ·have a:=tr.got.rd
  have:=h.rd
  omega
 ·rw[tr_cap tr];exact h.cap
end
end Go.Proofs.YtedfbafngmicpaaGreat.Sx
end
section
/- The choice of trees in the laws of pack: pick. -/
namespace Go.Proofs.YtedfbafngmicpaaGreat.Sx
open Go

/-KEEP rowG-/
def bitB (b:Int)(i:Nat):Bool:=(b.fdiv (2 ^ min i IntKind.u8.bits)).tmod 2==1
def pkG (b:Int)(E:List (Int × List Ent)):Nat->List (Int × List Ent)
 | 0=>[]
 | i+1=>if bitB b i then pkG b E i++[E.getD i (0,[])] else pkG b E i
def pkZ (b:Int)(E:List (Int × List Ent)):List (Int × List Ent):=pkG b E (min E.length 7)++if 128<=b then [(0,[])] else []
theorem pkG_len (b:Int)(E:List (Int × List Ent)):∀ i,(pkG b E i).length<=i
 | 0=>Nat.le_refl _
 | i+1=>by
  have:=pkG_len b E i
  unfold pkG
  split
  ·rw[List.length_append,List.length_singleton];omega
  ·omega
end Go.Proofs.YtedfbafngmicpaaGreat.Sx
end
section
/- kit.Same[uint32], alone. -/
namespace Go.Proofs.YtedfbafngmicpaaGreat.Sx
open Go

end Go.Proofs.YtedfbafngmicpaaGreat.Sx
end
