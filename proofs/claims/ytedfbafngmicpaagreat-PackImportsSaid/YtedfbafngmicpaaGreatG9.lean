/- Exported and imported in the same arena: what comes back. No program in sight. -/
import Derived.Test.YtedfbafngmicpaaGreatG0
import Derived.Test.YtedfbafngmicpaaGreatG8
import Derived.Test.YtedfbafngmicpaaGreatG7
import Derived.Test.YtedfbafngmicpaaGreatG6
import Derived.Test.YtedfbafngmicpaaGreatG4
noncomputable section
open Go.IntKind renaming i64 → Za,u64 → Zd
open List renaming drop → Zp,take → Zn
namespace Go.Proofs.YtedfbafngmicpaaGreat.Sx
open Go
section
def bldL (kx:List ExtT)(ns:LP)(j:Nat):List ExtT:=(ns.take j).foldl (fun xs x=>xs++[bldX xs x]) kx
def rtX (k:Int)(xs:List ExtT)(rs:LI):Bool:=rs.all fun r=>!decide (k<r) || (getX xs (r-1).toNat).tree
def vsL (k:Int)(ns:LP)(f:Nat):LI->Int->Bool × Int
 | [],nx=>(true,nx)
 | r::rs,nx=>match vsG k ns f nx r with
  | (false,n)=>(false,n)
  | (true,n)=>vsL k ns f rs n
def fuP (k:Int)(ns:LP):Nat:=k.toNat+ns.length+1
def ftE (k D:Int)(ns:LP)(rs lk:LI)(dg free:Int)(kx:List ExtT):Int :=
 if (lk.length:Int)≠k∨dg≠D then 11 else if free<ns.length then 2 else if rtX k (bldL kx ns ns.length) rs=false then 13 else
 if vsL k ns (fuP k ns) rs (k+1)=(true,k+ns.length+1) then 0 else 13
structure FtR (k D:Int) (ns:LP) (rs:LI) (S:Arn) (ks:LI) (S':Arn) (e:Int):Prop where
 ex:∃ lk dg kx,Yx S ks [] lk/\DgR S ks dg/\((lk.length:Int)=k->KxR S lk kx)/\e=ftE k D ns rs lk dg S.free kx
 st:∃ m,S'=rdS S m/\m<=100000000000
structure FtB (k D:Int) (ns:LP) (rs:LI) (S:Arn) (ks:LI):Prop where
 ex:exW S
 rd:S.reads<=1000000000000000000
 kl:ks.length<=90000
 kv:allV ks
 ky:KyN S ks
 k0:0<=k/\k<=65536
 nl:ns.length<=65536
 od:OrdP k ns
 rl:rs.length<=90000
 rr:∀ r∈rs,0<=r/\r<=k+ns.length
 kx:∀ lk,Yx S ks [] lk->(lk.length:Int)=k->∃ kx,KxR S lk kx/\∀ j,j<=ns.length->szX (bldL kx ns j)
structure XFt (P:Arn->LI->List ExtT->Int->Nat->Prop) where
 S:Arn
 kn:LI
 ex:List ExtT
 nx:Int
 i:Nat
 h:P S kn ex nx i
abbrev hfF (k D:Int)(ns:LP)(rs ks:LI)(S:Arn)(kn:LI)(ex:List ExtT)(nx:Int):LH C0:=chS S++[.row false .pn ns,.row false .u64 rs,.row false .u32 ks,.box [vU64 k,vU D,.slc 7,.slc 8],.box [vU64 k,vU D,.slc 7,.slc 8,.ptr 0 0,.slc 12,.slc 13,vU64 nx],.row true .u32 kn,.row true .ext ex]
def aFt (P0 P1 P2 P3 P4 P5 P6 P7:Arn->LI->List ExtT->Int->Nat->Prop)(k D:Int)(ns:LP)(rs ks:LI)(f:Nat):Ann C0:={ quiet:=[9999999,27],Γ:=[(84,Yc [] tNds),(82,Yc [] tDg),(27,Yc [] YmS),(105,Yc [] tBd),(106,Yc [] tXt),(107,Yc [] (tVi f))],inv:=fun n=>match n with
 | 1002=>some { X:=XFt P0,sl:=[3,7],tf:=fun _=>[.one (.at (.ptr 10 0)),.one (.at (.ptr 11 0))],hf:=fun x=>hfF k D ns rs ks x.S x.kn x.ex x.nx,wr:=[0] }
 | 1004=>some { X:=XFt P1,sl:=[3,7],tf:=fun _=>[.one (.at (.ptr 10 0)),.one (.at (.ptr 11 0))],hf:=fun x=>hfF k D ns rs ks x.S x.kn x.ex x.nx,wr:=[0] }
 | 1006=>some { X:=XFt P2,sl:=[3,7],tf:=fun _=>[.one (.at (.ptr 10 0)),.one (.at (.ptr 11 0))],hf:=fun x=>hfF k D ns rs ks x.S x.kn x.ex x.nx,wr:=[0] }
 | 7=>some { X:=XFt P3,sl:=[3,7,50],tf:=fun x=>[.one (.at (.ptr 10 0)),.one (.at (.ptr 11 0)),vi .i64 x.i],hf:=fun x=>hfF k D ns rs ks x.S x.kn x.ex x.nx,μ:=fun x=>ns.length-x.i,wr:=[0] }
 | 1011=>some { X:=XFt P4,sl:=[3,7],tf:=fun _=>[.one (.at (.ptr 10 0)),.one (.at (.ptr 11 0))],hf:=fun x=>hfF k D ns rs ks x.S x.kn x.ex x.nx,wr:=[0] }
 | 12=>some { X:=XFt P5,sl:=[3,7,70],tf:=fun x=>[.one (.at (.ptr 10 0)),.one (.at (.ptr 11 0)),vi .i64 x.i],hf:=fun x=>hfF k D ns rs ks x.S x.kn x.ex x.nx,μ:=fun x=>rs.length-x.i,wr:=[0] }
 | 1017=>some { X:=XFt P6,sl:=[3,7],tf:=fun _=>[.one (.at (.ptr 10 0)),.one (.at (.ptr 11 0))],hf:=fun x=>hfF k D ns rs ks x.S x.kn x.ex x.nx,wr:=[0] }
 | 18=>some { X:=XFt P7,sl:=[3,7,89],tf:=fun x=>[.one (.at (.ptr 10 0)),.one (.at (.ptr 11 0)),vi .i64 x.i],hf:=fun x=>hfF k D ns rs ks x.S x.kn x.ex x.nx,μ:=fun x=>rs.length-x.i,wr:=[0] }
 | _=>none }
abbrev ftM (H:LH C0)(q:Arn->LP->LI->LI->Prop):Prop:=arMr H fun S rest=>match rest with
 | [.row false .pn ns,.row false .u64 rs,.row false .u32 ks]=>q S ns rs ks
 | _=>False
def tFt:Tfm C0:=fun args H K=>match args with
 | [.agg [.val (.int .u64 k),.val (.int .u32 D),.slc 7,.slc 8],.at (.ptr 0 0),.at (.slc 9)]=>ftM H fun S ns rs ks=>FtB k D ns rs S ks/\∀ S' e,FtR k D ns rs S ks S' e->K (.one (.at (vI e))) (chS S'++[.row false .pn ns,.row false .u64 rs,.row false .u32 ks]) [0]
 | _=>False
theorem Ybn {r:LP}{i:Nat}(h:i<r.length):r.take (i+1)=r.take i++[getN r i]:=by
 rw[ZbK];show _=_++[r.getD i _];rw[Zb,Zk h];rfl
theorem YcM (kx:List ExtT){ns:LP}{i:Nat}(h:i<ns.length):bldL kx ns (i+1)=bldL kx ns i++[bldX (bldL kx ns i) (getN ns i)]:=by
 unfold bldL;rw[Ybn h,ZaO];rfl
theorem Yoc (kx:List ExtT)(ns:LP):bldL kx ns 0=kx:=rfl
theorem Ybd (kx:List ExtT)(ns:LP):∀ i,i<=ns.length->(bldL kx ns i).length=kx.length+i
 | 0,_=>rfl
 | i+1,h=>by rw[YcM kx (by omega),Zh,Ybd kx ns i (by omega)];rfl
structure FtC (k D:Int) (ns:LP) (S0:Arn) (ks kn:LI) (kx:List ExtT):Prop where
 num:Yx S0 ks [] kn
 len:(kn.length:Int)=k
 dg:DgR S0 ks D
 free:(ns.length:Int)<=S0.free
 kr:KxR S0 kn kx
 sz:∀ j,j<=ns.length->szX (bldL kx ns j)
section
variable (k D:Int) (ns:LP) (rs ks:LI) (S0:Arn)
def PF0:Arn->LI->List ExtT->Int->Nat->Prop:=fun S kn ex nx _=>∃ m,S=rdS S0 m/\m<=65536/\Yx S0 ks [] kn/\ex=[]/\nx=k+1
def PF1:Arn->LI->List ExtT->Int->Nat->Prop:=fun S kn ex nx _=>∃ m,S=rdS S0 m/\m<=300000/\Yx S0 ks [] kn/\(kn.length:Int)=k/\DgR S0 ks D/\ex=[]/\nx=k+1
def PF2:Arn->LI->List ExtT->Int->Nat->Prop:=fun S kn ex nx i=>PF1 k D ks S0 S kn ex nx i/\(ns.length:Int)<=S0.free
def PF3:Arn->LI->List ExtT->Int->Nat->Prop:=fun S kn ex nx i=>∃ kx m,FtC k D ns S0 ks kn kx/\S=rdS S0 m/\m<=300000+280000*i/\i<=ns.length/\kx++ex=bldL kx ns i/\nx=k+1
def PF4:Arn->LI->List ExtT->Int->Nat->Prop:=fun S kn ex nx _=>∃ kx m,FtC k D ns S0 ks kn kx/\S=rdS S0 m/\m<=20000000000/\kx++ex=bldL kx ns ns.length/\nx=k+1
def PF5:Arn->LI->List ExtT->Int->Nat->Prop:=fun S kn ex nx i=>∃ kx m,FtC k D ns S0 ks kn kx/\S=rdS S0 m/\m<=20000000000+140000*i/\kx++ex=bldL kx ns ns.length/\nx=k+1/\i<=rs.length/\rtX k (bldL kx ns ns.length) (rs.take i)=true
def PF6:Arn->LI->List ExtT->Int->Nat->Prop:=fun S kn _ nx _=>∃ kx m,FtC k D ns S0 ks kn kx/\S=rdS S0 m/\m<=60000000000/\nx=k+1/\rtX k (bldL kx ns ns.length) rs=true
def PF7:Arn->LI->List ExtT->Int->Nat->Prop:=fun S kn _ nx i=>∃ kx m,FtC k D ns S0 ks kn kx/\S=rdS S0 m/\m<=60000000000/\rtX k (bldL kx ns ns.length) rs=true/\i<=rs.length/\k<nx/\nx<=k+ns.length+1/\vsL k ns (fuP k ns) rs (k+1)=vsL k ns (fuP k ns) (rs.drop i) nx
end
theorem FtC.out {k D:Int}{ns:LP}{rs ks:LI}{S0:Arn}{kn:LI}{kx:List ExtT}(c:FtC k D ns S0 ks kn kx){m:Nat}(hm:m<=100000000000){e:Int}(he:(if rtX k (bldL kx ns ns.length) rs=false then 13 else if vsL k ns (fuP k ns) rs (k+1)=(true,k+ns.length+1) then 0 else 13)=e):FtR k D ns rs S0 ks (rdS S0 m) e :=
 ⟨⟨kn,D,kx,c.num,c.dg,fun _=>c.kr,by
  unfold ftE;rw[Zf (by have:=c.len;simp[this]),Zf (by have:=c.free;omega)];exact he.symm⟩,m,rfl,hm⟩
theorem Yqf (k:Int)(xs:List ExtT)(rs:LI)(r:Int):rtX k xs (rs++[r])=(rtX k xs rs && (!decide (k<r) || (getX xs (r-1).toNat).tree)):=by
 unfold rtX;rw[List.all_append];simp
abbrev O78 {P1 P2:Arn → LI → List ExtT → Int → Nat → Prop}(k D:Int)(ns:LP)(rs ks:LI)(x1:XFt P1)(x2:XFt P2):Prop:=(True/\True/\True/\VW (x1.S.reads)=VW (x2.S.reads)/\True)/\(True/\True/\True/\VU (x1.S.fresh)=VU (x2.S.fresh)/\True)/\x1.S.nodes=x2.S.nodes/\x1.S.counts=x2.S.counts/\x1.S.used=x2.S.used/\x1.S.gen=x2.S.gen/\x1.S.rel=x2.S.rel/\ns=ns/\rs=rs/\ks=ks/\(VW (k)=VW (k)/\VU (D)=VU (D)/\True/\True/\True)/\(VW (k)=VW (k)/\VU (D)=VU (D)/\True/\True/\True/\True/\True/\VW (x1.nx)=VW (x2.nx)/\True)/\x1.kn=x2.kn/\x1.ex=x2.ex/\True
abbrev O79 {P0:Arn → LI → List ExtT → Int → Nat → Prop}(k D:Int)(ns:LP)(rs ks:LI)(S':Arn)(x:XFt P0)(Z_:Prop):Prop:=(True/\True/\True/\VW (S'.reads)=VW (x.S.reads)/\True)/\(True/\True/\True/\VU (S'.fresh)=VU (x.S.fresh)/\True)/\S'.nodes=x.S.nodes/\S'.counts=x.S.counts/\S'.used=x.S.used/\S'.gen=x.S.gen/\S'.rel=x.S.rel/\ns=ns/\rs=rs/\ks=ks/\(VW (k)=VW (k)/\VU (D)=VU (D)/\True/\True/\True)/\Z_
abbrev O80 (P3:Arn → LI → List ExtT → Int → Nat → Prop)(k D:Int)(ns:LP)(rs ks:LI)(x3:XFt P3)(S':Arn)(e:ExtT):Prop:=(x3.ex.length+[e].length)*Yd C0 EC.ext<=140737488355328/\∃ w0_:XFt P3,True/\((True/\True/\True/\VI (ns.length:Int)=VI (ns.length:Int)/\(VI (Za.wrap ((x3.i:Int)+1)))=(VI (w0_.i:Int))/\True)/\O79 k D ns rs ks S' w0_ ((VW (k)=VW (k)/\VU (D)=VU (D)/\True/\True/\True/\True/\True/\VW (x3.nx)=VW (w0_.nx)/\True)/\x3.kn=w0_.kn/\(x3.ex++[e])=w0_.ex/\True))/\ns.length-w0_.i<ns.length-x3.i
abbrev O81 {P5:Arn → LI → List ExtT → Int → Nat → Prop}(rs:LI)(x4 x':XFt P5)(Z_:Prop):Prop:=(True/\True/\True/\VI (rs.length:Int)=VI (rs.length:Int)/\(VI (Za.wrap ((x4.i:Int)+1)))=(VI (x'.i:Int))/\True)/\(True/\True/\True/\VW (x4.S.reads)=VW (x'.S.reads)/\True)/\(True/\True/\True/\VU (x4.S.fresh)=VU (x'.S.fresh)/\True)/\x4.S.nodes=x'.S.nodes/\x4.S.counts=x'.S.counts/\x4.S.used=x'.S.used/\x4.S.gen=x'.S.gen/\x4.S.rel=x'.S.rel/\Z_
abbrev O82 {P7:Arn → LI → List ExtT → Int → Nat → Prop}(ns:LP)(rs ks:LI)(K:SV → LH C0 → LN → Prop)(x5:XFt P7):Prop:=K (.one (.at (.val (VI 13)))) [(.box [(.ptr 1 0),(.slc 2),(.slc 3),(.val (VW (x5.S.reads)))]),(.box [(.slc 4),(.slc 5),(.slc 6),(.val (VU (x5.S.fresh)))]),(.row true .node (x5.S.nodes)),(.row true .int (x5.S.counts)),(.row true .bool (x5.S.used)),(.row true .u32 (x5.S.gen)),(.row true .u32 (x5.S.rel)),(.row false .pn (ns)),(.row false .u64 (rs)),(.row false .u32 (ks))] [0]
abbrev O83 (k D:Int)(Z_:Prop):Prop:=VW (k)=VW (k)/\VU (D)=VU (D)/\True/\True/\True/\True/\True/\Z_
abbrev O84 {P3:Arn → LI → List ExtT → Int → Nat → Prop}(k:Int)(ns:LP)(x3:XFt P3)(kx:List ExtT)(Z_:Prop):Prop:=XtB k x3.S x3.kn kx/\x3.S.reads<=1900000000000000000/\x3.ex.length<=65536/\0<=(getN ns (x3.i:Int).toNat).left/\(getN ns (x3.i:Int).toNat).left<=k+(x3.ex.length:Int)/\0<=(getN ns (x3.i:Int).toNat).right/\(getN ns (x3.i:Int).toNat).right<=k+(x3.ex.length:Int)/\szX (kx++x3.ex)/\Z_
abbrev O85 (rs:LI)(Z_:Prop):Prop:=True/\True/\True/\VI (rs.length:Int)=VI (rs.length:Int)/\Z_
theorem YyJ (k D:Int)(ns:LP)(rs ks:LI)(S:Arn)(K:KT)(hb:FtB k D ns rs S ks)(h:∀ S' e,FtR k D ns rs S ks S' e->K (.one (.at (vI e))) (chS S'++[.row false .pn ns,.row false .u64 rs,.row false .u32 ks]) [0]) :
  vc C0 (aFt (PF0 k ks S) (PF1 k D ks S) (PF2 k D ns ks S) (PF3 k D ns ks S) (PF4 k D ns ks S) (PF5 k D ns rs ks S) (PF6 k D ns rs ks S) (PF7 k D ns rs ks S) k D ns rs ks (fuP k ns)) Tryz.f54 [.agg [vU64 k,vU D,.slc 7,.slc 8],.at (.ptr 0 0),.at (.slc 9)] (chS S++[.row false .pn ns,.row false .u64 rs,.row false .u32 ks]) (Yh 10 (YG [0] K)):=by
 generalize hP0:PF0 k ks S=P0;generalize hP1:PF1 k D ks S=P1;generalize hP2:PF2 k D ns ks S=P2;generalize hP3:PF3 k D ns ks S=P3;generalize hP4:PF4 k D ns ks S=P4;generalize hP5:PF5 k D ns rs ks S=P5;generalize hP6:PF6 k D ns rs ks S=P6;generalize hP7:PF7 k D ns rs ks S=P7;generalize hf:fuP k ns=f
 refine Eq.mp (show ((NmB S ks/\∀ S':Arn,∀ l:LI,NmR S ks S' l->∃ x:XFt P0,True/\(True/\True/\True/\True/\True)/\O79 k D ns rs ks S' x (O83 k D ((VW (Zd.wrap (k+1)))=(VW (x.nx))/\True)/\l=x.kn/\[]=x.ex/\True))/\∀ x:XFt P0,True->brS (Zd.wrap (x.kn.length:Int) != k) (K (.one (.at (.val (VI 11)))) [(.box [(.ptr 1 0),(.slc 2),(.slc 3),(.val (VW (x.S.reads)))]),(.box [(.slc 4),(.slc 5),(.slc 6),(.val (VU (x.S.fresh)))]),(.row true .node (x.S.nodes)),(.row true .int (x.S.counts)),(.row true .bool (x.S.used)),(.row true .u32 (x.S.gen)),(.row true .u32 (x.S.rel)),(.row false .pn (ns)),(.row false .u64 (rs)),(.row false .u32 (ks))] [0]) (DgB x.S ks/\∀ S':Arn,∀ D1:Int,DgS 200000 x.S ks S' D1->brS (D1 != D) (K (.one (.at (.val (VI 11)))) [(.box [(.ptr 1 0),(.slc 2),(.slc 3),(.val (VW (S'.reads)))]),(.box [(.slc 4),(.slc 5),(.slc 6),(.val (VU (S'.fresh)))]),(.row true .node (S'.nodes)),(.row true .int (S'.counts)),(.row true .bool (S'.used)),(.row true .u32 (S'.gen)),(.row true .u32 (S'.rel)),(.row false .pn (ns)),(.row false .u64 (rs)),(.row false .u32 (ks))] [0]) (∃ x1:XFt P1,True/\(True/\True/\True/\True)/\O79 k D ns rs ks S' x1 (O83 k D (VW (x.nx)=VW (x1.nx)/\True)/\x.kn=x1.kn/\x.ex=x1.ex/\True)))/\∀ x1:XFt P1,True->(exW x1.S/\brS (decide (x1.S.free<(ns.length:Int))) (K (.one (.at (.val (VI 2)))) [(.box [(.ptr 1 0),(.slc 2),(.slc 3),(.val (VW (x1.S.reads)))]),(.box [(.slc 4),(.slc 5),(.slc 6),(.val (VU (x1.S.fresh)))]),(.row true .node (x1.S.nodes)),(.row true .int (x1.S.counts)),(.row true .bool (x1.S.used)),(.row true .u32 (x1.S.gen)),(.row true .u32 (x1.S.rel)),(.row false .pn (ns)),(.row false .u64 (rs)),(.row false .u32 (ks))] [0]) (∃ x2:XFt P2,True/\
  (True/\True/\True)/\O78 k D ns rs ks x1 x2))/\∀ x2:XFt P2,True->((∃ x3:XFt P3,True/\(True/\True/\True/\VI (ns.length:Int)=VI (ns.length:Int)/\VI 0=(VI (x3.i:Int))/\True)/\O78 k D ns rs ks x2 x3)/\∀ x3:XFt P3,True->brS (decide ((x3.i:Int)<(ns.length:Int))) (0<=(x3.i:Int)/\(x3.i:Int)<(ns.length:Int)/\(∃ kx:List ExtT,O84 k ns x3 kx (∀ S':Arn,∀ m:Nat,∀ e:ExtT,S'=rdS x3.S m->m<=280000->e=(bldX (kx++x3.ex) (getN ns (x3.i:Int).toNat))->O80 P3 k D ns rs ks x3 S' e))/\∃ kx:List ExtT,O84 k ns x3 kx (∀ S':Arn,∀ m:Nat,∀ e:ExtT,S'=rdS x3.S m->m<=280000->e=(bldX (kx++x3.ex) (getN ns (x3.i:Int).toNat))->O80 P3 k D ns rs ks x3 S' e/\O80 P3 k D ns rs ks x3 S' e)) (∃ x4:XFt P4,True/\(True/\True/\True)/\O78 k D ns rs ks x3 x4))/\∀ x3:XFt P4,True->((∃ x4:XFt P5,True/\O85 rs (VI 0=(VI (x4.i:Int))/\True)/\O78 k D ns rs ks x3 x4)/\∀ x4:XFt P5,True->brS (decide ((x4.i:Int)<(rs.length:Int))) (0<=(x4.i:Int)/\(x4.i:Int)<(rs.length:Int)/\brS (decide (getB rs (x4.i:Int).toNat>k)) (∃ kx:List ExtT,XtB k x4.S x4.kn kx/\x4.ex.length<=65536/\1<=getB rs (x4.i:Int).toNat/\getB rs (x4.i:Int).toNat<=k+(x4.ex.length:Int)/\∀ S':Arn,∀ m:Nat,∀ e:ExtT,S'=rdS x4.S m->m<=140000->e=(getX (kx++x4.ex) (getB rs (x4.i:Int).toNat-1).toNat)->brS (!e.tree) (K (.one (.at (.val (VI 13)))) [(.box [(.ptr 1 0),(.slc 2),(.slc 3),(.val (VW (S'.reads)))]),(.box [(.slc 4),(.slc 5),(.slc 6),(.val (VU (S'.fresh)))]),(.row true .node (S'.nodes)),(.row true .int (S'.counts)),(.row true .bool (S'.used)),(.row true .u32 (S'.gen)),(.row true .u32 (S'.rel)),(.row false .pn (ns)),(.row false .u64 (rs)),(.row false .u32 (ks))] [0]) (∃ x':XFt P5,True/\
  (O85 rs ((VI (Za.wrap ((x4.i:Int)+1)))=(VI (x'.i:Int))/\True)/\O79 k D ns rs ks S' x' (O83 k D (VW (x4.nx)=VW (x'.nx)/\True)/\x4.kn=x'.kn/\x4.ex=x'.ex/\True))/\rs.length-x'.i<rs.length-x4.i)) (∃ x':XFt P5,True/\O81 rs x4 x' (ns=ns/\rs=rs/\ks=ks/\(VW (k)=VW (k)/\VU (D)=VU (D)/\True/\True/\True)/\O83 k D (VW (x4.nx)=VW (x'.nx)/\True)/\x4.kn=x'.kn/\x4.ex=x'.ex/\True)/\rs.length-x'.i<rs.length-x4.i)) (∃ x5:XFt P6,True/\(True/\True/\True)/\O78 k D ns rs ks x4 x5))/\∀ x4:XFt P6,True->(∃ x5:XFt P7,True/\O85 rs (VI 0=(VI (x5.i:Int))/\True)/\O78 k D ns rs ks x4 x5)/\∀ x5:XFt P7,True->brS (decide ((x5.i:Int)<(rs.length:Int))) (0<=(x5.i:Int)/\(x5.i:Int)<(rs.length:Int)/\0<=k/\k<=65536/\ns.length<=65536/\OrdP k ns/\k<x5.nx/\x5.nx<=k+(ns.length:Int)+1/\0<=getB rs (x5.i:Int).toNat/\getB rs (x5.i:Int).toNat<=k+(ns.length:Int)/\getB rs (x5.i:Int).toNat<(f:Int)/\∀ b:Bool,∀ n:Int,(vsG k ns f x5.nx (getB rs (x5.i:Int).toNat))=(Prod.mk (b) (n))->brS (!b) (O82 ns rs ks K x5) (∃ x':XFt P7,True/\O81 rs x5 x' (ns=ns/\rs=rs/\ks=ks/\(VW (k)=VW (k)/\VU (D)=VU (D)/\True/\True/\True)/\O83 k D (VW (n)=VW (x'.nx)/\True)/\x5.kn=x'.kn/\x5.ex=x'.ex/\True)/\rs.length-x'.i<rs.length-x5.i)) (brS (x5.nx != Zd.wrap (Zd.wrap (k+Zd.wrap (ns.length:Int))+1)) (O82 ns rs ks K x5) (K (.one (.at (.val (VI 0)))) [(.box [(.ptr 1 0),(.slc 2),(.slc 3),(.val (VW (x5.S.reads)))]),(.box [(.slc 4),(.slc 5),(.slc 6),(.val (VU (x5.S.fresh)))]),(.row true .node (x5.S.nodes)),(.row true .int (x5.S.counts)),(.row true .bool (x5.S.used)),(.row true .u32 (x5.S.gen)),(.row true .u32 (x5.S.rel)),(.row false .pn (ns)),(.row false .u64 (rs)),(.row false .u32 (ks))] [0])))=_ by kernel_rfl) ?_
 delta O78 O79 O80 O81 O82 O83 O84 O85;subst hP0 hP1 hP2 hP3 hP4 hP5 hP6 hP7 hf;obtain⟨⟨hs,hw⟩,hr,kl,kv,ky,⟨k0,k1⟩,nl,od,rl,rr,hkx⟩:=hb;have ne_of:∀ {x y:Int},(x != y)=true->x≠y:=fun {x y} q e=>by rw[e] at q;simp at q
 have eq_of:∀ {x y:Int},(x != y)=false->x=y:=fun {x y} q=>by simpa using q
 have n2:=hw.n2;have fu:((fuP k ns:Nat):Int)=k+ns.length+1:=by unfold fuP;omega
 have dgx:∀ lk,Yx S ks [] lk->lk.length<=65536:=fun lk nk=>by
  have:=Ych hw (nk.nodup (Ybc hw) ZaX) (nk.used (by simp));omega
 refine⟨⟨⟨⟨hs,hw⟩,by omega,by omega,kv⟩,fun S' l nr=>?_⟩,fun x _=>⟨Ya (fun z=>?_) fun z=>⟨?_,fun S' D1 hd=>Ya (fun y=>?_) fun y=>?_⟩,fun x1 _=>⟨⟨?_,Ya (fun y=>?_) fun y=>?_⟩,fun x2 _=>⟨⟨?_,fun x3 _=>Ya (fun y=>?_) fun y=>?_⟩,fun x4 _=>⟨⟨?_,fun x5 _=>Ya (fun y=>?_) fun y=>?_⟩,fun x6 _=>⟨?_,fun x7 _=>Ya (fun y=>?_) fun y=>?_⟩⟩⟩⟩⟩⟩
 .obtain⟨m,hm⟩:∃ m,m=l.length:=⟨_,rfl⟩
  have ll:=dgx l nr.num;refine⟨⟨S',l,[],k+1,0,l.length,nr.st,ll,nr.num,rfl,rfl⟩,trivial,?_⟩;rw[Yf (x:=k+1) (by omega) (by omega)]
  repeat' constructor
 .obtain⟨S1,kn,ex,nx,i,m,es,hm,nk,rfl,rfl⟩:=x;dsimp only at z ⊢;have ll:=dgx kn nk;rw[Yf (x:=(kn.length:Int)) (by omega) (by omega)] at z
  obtain⟨dg,hdg⟩:∃ dg,DgR S ks dg:=by
   by_cases q:ks=[]
   .exact⟨0,.inl ⟨q,rfl⟩⟩
   .exact⟨_,.inr ⟨q,kn,nk,rfl⟩⟩
  refine h _ _ ⟨⟨kn,dg,[],nk,hdg,fun e=>absurd e (ne_of z),?_⟩,m,es,by omega⟩;unfold ftE;rw[Zj (.inl (ne_of z))]
 .obtain⟨S1,kn,ex,nx,i,m,es,hm,nk,rfl,rfl⟩:=x;dsimp only;subst es;exact⟨⟨hs,hw.rd (by omega)⟩,by show S.reads+(m:Int)<=_;omega,kl,kv,ky⟩
 .obtain⟨S1,kn,ex,nx,i,m,es,hm,nk,rfl,rfl⟩:=x;dsimp only at z hd;subst es;have ll:=dgx kn nk;rw[Yf (x:=(kn.length:Int)) (by omega) (by omega)] at z;obtain⟨g1,g2,g3,m2,e2,hm2⟩:=hd.go;obtain⟨kx,hk1,hk2⟩:=hkx kn nk (eq_of z);refine h _ _ ⟨⟨kn,D1,kx,nk,g1,fun _=>hk1,?_⟩,_,e2,by omega⟩;unfold ftE;rw[Zj (.inr (ne_of y))]
 .obtain⟨S1,kn,ex,nx,i,m,es,hm,nk,rfl,rfl⟩:=x;dsimp only at z hd ⊢;subst es;have ll:=dgx kn nk;rw[Yf (x:=(kn.length:Int)) (by omega) (by omega)] at z;obtain⟨g1,g2,g3,m2,e2,hm2⟩:=hd.go;refine⟨⟨S',kn,[],k+1,0,m+m2,e2,by omega,nk,eq_of z,eq_of y ▸ g1,rfl,rfl⟩,trivial,?_⟩
  repeat' constructor
 .obtain⟨S1,kn,ex,nx,i,m,es,hm,nk,kl',dg,rfl,rfl⟩:=x1;dsimp only;subst es;exact⟨hs,hw.rd (by omega)⟩
 .obtain⟨S1,kn,ex,nx,i,m,es,hm,nk,kl',dg,rfl,rfl⟩:=x1;dsimp only at y ⊢;have y:S1.free<(ns.length:Int):=Zc y;have fe:S1.free=S.free:=by rw[es];rfl
  obtain⟨kx,hk1,hk2⟩:=hkx kn nk kl';refine h _ _ ⟨⟨kn,D,kx,nk,dg,fun _=>hk1,?_⟩,m,es,by omega⟩;unfold ftE;rw[Zf (by simp[kl']),Zj (by omega)]
 .obtain⟨S1,kn,ex,nx,i,m,es,hm,nk,kl',dg,rfl,rfl⟩:=x1;dsimp only at y ⊢;have y:¬ S1.free<(ns.length:Int):=Zg y;have fe:S1.free=S.free:=by rw[es];rfl
  refine⟨⟨S1,kn,[],k+1,0,⟨m,es,hm,nk,kl',dg,rfl,rfl⟩,by omega⟩,trivial,?_⟩
  repeat' constructor
 .obtain⟨S1,kn,ex,nx,i,⟨m,es,hm,nk,kl',dg,rfl,rfl⟩,fr⟩:=x2;dsimp only;obtain⟨kx,hk1,hk2⟩:=hkx kn nk kl';refine⟨⟨S1,kn,[],k+1,0,kx,m,⟨nk,kl',dg,fr,hk1,hk2⟩,es,by omega,ZC _,by rw[ZR,Yoc],rfl⟩,trivial,?_⟩
  repeat' constructor
 .obtain⟨S1,kn,ex,nx,i,kx,m,c,es,hm,hi,ex',rfl⟩:=x3;dsimp only at y ⊢;have yi:i<ns.length:=by have:=Zc y;omega
  clear y;rw[show ((i:Int)).toNat=i from rfl,Yb (x:=(i:Int)+1) (by omega) (by omega)];subst es;have bl:=Ybd kx ns i hi;rw[<-ex',Zh] at bl;have el:ex.length=i:=by omega
  have o:=od i yi;have cl:=c.len;have sz:=c.sz i hi;rw[<-ex'] at sz;refine (fun leaf=>⟨by omega,by omega,⟨kx,⟨⟨hs,hw.rd (by omega)⟩,by show S.reads+(m:Int)<=_;omega,c.len,k1,c.kr.rd m⟩,by show S.reads+(m:Int)<=_;omega,by omega,o.1.1,by omega,o.2.1,by omega,sz,leaf⟩,⟨kx,⟨⟨hs,hw.rd (by omega)⟩,by show S.reads+(m:Int)<=_;omega,c.len,k1,c.kr.rd m⟩,by show S.reads+(m:Int)<=_;omega,by omega,o.1.1,by omega,o.2.1,by omega,sz,fun S' m' e a b d=>⟨leaf S' m' e a b d,leaf S' m' e a b d⟩⟩⟩) ?_;intro S' m' e es' hm' ee;rw[YR] at es';have en:kx++(ex++[e])=bldL kx ns (i+1):=by rw[YcM kx yi,<-Zo,<-ex',ee]
  refine⟨by rw[YmM,Zr];omega,⟨S',kn,ex++[e],k+1,i+1,kx,m+m',c,es',by omega,yi,en,rfl⟩,trivial,?_,ZI yi (ZO i)⟩;subst es'
  repeat' constructor
 .obtain⟨S1,kn,ex,nx,i,kx,m,c,es,hm,hi,ex',rfl⟩:=x3;dsimp only at y ⊢;have y:i=ns.length:=by have:=Zg y;omega
  refine⟨⟨S1,kn,ex,k+1,0,kx,m,c,es,by omega,by rw[ex',y],rfl⟩,trivial,?_⟩
  repeat' constructor
 .obtain⟨S1,kn,ex,nx,i,kx,m,c,es,hm,ex',rfl⟩:=x4;dsimp only;refine⟨⟨S1,kn,ex,k+1,0,kx,m,c,es,by omega,ex',rfl,ZC _,rfl⟩,trivial,?_⟩
  repeat' constructor
 .obtain⟨S1,kn,ex,nx,i,kx,m,c,es,hm,ex',rfl,hi,rt⟩:=x5;dsimp only at y ⊢;have yi:i<rs.length:=by have:=Zc y;omega
  clear y;rw[show ((i:Int)).toNat=i from rfl,Yb (x:=(i:Int)+1) (by omega) (by omega)];have rm:=rr _ (Yj yi);have bl:=Ybd kx ns ns.length (Zw _);rw[<-ex',Zh] at bl;have cl:=c.len;have kl2:=c.kr.len;have el:ex.length=ns.length:=by omega
  have st:=Yqf k (bldL kx ns ns.length) (rs.take i) (getB rs i);rw[<-Yo yi,rt] at st;refine⟨by omega,by omega,Ya (fun w=>?_) fun w=>?_⟩
  .have w:k<getB rs i:=Zc w;rw[Zat w] at st;subst es;refine⟨kx,⟨⟨hs,hw.rd (by omega)⟩,by show S.reads+(m:Int)<=_;omega,c.len,k1,c.kr.rd m⟩,by omega,by omega,by omega,fun S' m' e es' hm' ee=>?_⟩;rw[YR] at es';rw[ex'] at ee;rw[<-ee] at st;refine Ya (fun v=>?_) fun v=>?_
   .have v:e.tree=false:=by simpa using v
    rw[v] at st
    have:rtX k (bldL kx ns ns.length) rs=false:=by
     have h2:rtX k (bldL kx ns ns.length) (rs.take (i+1)++rs.drop (i+1))=false:=by
      unfold rtX at st ⊢;rw[List.all_append,st];rfl
     rw[Zaw] at h2;exact h2
    subst es';exact h _ _ (c.out (by omega) (by rw[Zj this]))
   .have v:e.tree=true:=by simpa using v
    rw[v] at st;refine⟨⟨S',kn,ex,k+1,i+1,kx,m+m',c,es',by omega,ex',rfl,yi,st⟩,trivial,?_,ZI yi (ZO i)⟩;subst es'
    repeat' constructor
  .rw[w] at st;refine⟨⟨S1,kn,ex,k+1,i+1,kx,m,c,es,by omega,ex',rfl,yi,st⟩,trivial,?_,ZI yi (ZO i)⟩
   repeat' constructor
 .obtain⟨S1,kn,ex,nx,i,kx,m,c,es,hm,ex',rfl,hi,rt⟩:=x5;dsimp only at y ⊢;have y:i=rs.length:=by have:=Zg y;omega
  rw[y,ZJ] at rt;refine⟨⟨S1,kn,ex,k+1,0,kx,m,c,es,by omega,rfl,rt⟩,trivial,?_⟩
  repeat' constructor
 .obtain⟨S1,kn,ex,nx,i,kx,m,c,es,hm,rfl,rt⟩:=x6;dsimp only;refine⟨⟨S1,kn,ex,k+1,0,kx,m,c,es,hm,rt,ZC _,by omega,by omega,rfl⟩,trivial,?_⟩
  repeat' constructor
 .obtain⟨S1,kn,ex,nx,i,kx,m,c,es,hm,rt,hi,n1,n2',vl⟩:=x7;dsimp only at y ⊢;have yi:i<rs.length:=by have:=Zc y;omega
  clear y;rw[show ((i:Int)).toNat=i from rfl,Yb (x:=(i:Int)+1) (by omega) (by omega)];have rm:=rr _ (Yj yi);rw[Ydj yi] at vl;refine⟨by omega,by omega,k0,k1,nl,od,n1,n2',rm.1,rm.2,by omega,fun b n hv=>Ya (fun w=>?_) fun w=>?_⟩
  .have w:b=false:=by simpa using w
   subst w
   have:vsL k ns (fuP k ns) (getB rs i::rs.drop (i+1)) nx=(false,n):=by
    show (match vsG k ns (fuP k ns) nx (getB rs i) with
     | (false,n)=>(false,n)
     | (true,n)=>vsL k ns (fuP k ns) (rs.drop (i+1)) n)=_
    rw[hv]
   rw[this] at vl;subst es;exact h _ _ (c.out (by omega) (by rw[Zf (by rw[rt];simp),Zf (by rw[vl];simp)]))
  .have w:b=true:=by simpa using w
   subst w
   have:vsL k ns (fuP k ns) (getB rs i::rs.drop (i+1)) nx=vsL k ns (fuP k ns) (rs.drop (i+1)) n:=by
    show (match vsG k ns (fuP k ns) nx (getB rs i) with
     | (false,n)=>(false,n)
     | (true,n)=>vsL k ns (fuP k ns) (rs.drop (i+1)) n)=_
    rw[hv]
   rw[this] at vl;have vr:=Yfi k ns _ nx _ true n rm.2 n2' od n1 hv;refine⟨⟨S1,kn,ex,n,i+1,kx,m,c,es,hm,rt,yi,by omega,vr.2,vl⟩,trivial,?_,ZI yi (ZO i)⟩
   repeat' constructor
 .obtain⟨S1,kn,ex,nx,i,kx,m,c,es,hm,rt,hi,n1,n2',vl⟩:=x7;dsimp only at y ⊢;have y:i=rs.length:=by have:=Zg y;omega
  rw[y,Zco] at vl;have vl:vsL k ns (fuP k ns) rs (k+1)=(true,nx):=vl;rw[Yf (x:=(ns.length:Int)) (by omega) (by omega),Yf (x:=k+(ns.length:Int)) (by omega) (by omega),Yf (x:=k+(ns.length:Int)+1) (by omega) (by omega)];subst es;refine Ya (fun w=>h _ _ (c.out (by omega) ?_)) fun w=>h _ _ (c.out (by omega) ?_)
  .rw[Zf (by rw[rt];simp),Zf (by rw[vl];intro q;injection q with _ q;exact ne_of w q)]
  .rw[Zf (by rw[rt];simp),Zj (by rw[vl,eq_of w])]
theorem s_ft:Tb C0 54 tFt:=by
 refine .ofW [0] Tryz.func54 (by decide) rfl fun args H K h hB=>?_
 unfold tFt ftM arMr at h;iterate 2 (split at h<;>try exact h.elim)
 split at h<;>try exact h.elim
 rename_i k D _ rd fr nd ct us gn rl _ ns rs ks;refine⟨_,?_,YyJ k D ns rs ks ⟨us,gn,rl,fr,nd,ct,rd⟩ K h.1 h.2⟩;exact⟨Ye C0.ok Yvl _,Ye C0.ok s_dg _,Ye C0.ok YmX _,Ye C0.ok s_bd _,Ye C0.ok s_xt _,Ye C0.ok (s_vi _) _,trivial⟩
end
abbrev getT (ts:List Tr)(i:Nat):Tr:=ts.getD i .nil
def refT (ts:List Tr)(r:Int):Tr:=if r=0 then .nil else getT ts (r-1).toNat
def bldT (ts:List Tr)(x:PNT):Tr:=.node (refT ts x.left) x.key x.value (refT ts x.right)
def YK (kt:List Tr)(ns:LP)(j:Nat):List Tr:=(ns.take j).foldl (fun ts x=>ts++[bldT ts x]) kt
theorem YaP (kt:List Tr){ns:LP}{i:Nat}(h:i<ns.length):YK kt ns (i+1)=YK kt ns i++[bldT (YK kt ns i) (getN ns i)]:=by
 unfold YK;rw[Ybn h,ZaO];rfl
theorem YaJ (kt:List Tr)(ns:LP):∀ i,i<=ns.length->(YK kt ns i).length=kt.length+i
 | 0,_=>rfl
 | i+1,h=>by rw[YaP kt (by omega),Zh,YaJ kt ns i (by omega)];rfl
theorem YyK:∀ {l:LE},Asc l->∀ z∈l,z.1<=lsKy l:=by
 intro l h z hz;obtain⟨a,b,rfl⟩:=List.append_of_mem hz;unfold lsKy;rw[ZcA,Zca];show z.1<=(((some ((b.getLast?).getD z)).or _).getD (0,0)).1;cases hb:b.getLast? with
 | none=>exact ZE _
 | some y =>
  show z.1<=y.1;have hy:y∈b:=List.mem_of_getLast? hb;have h2:=(ZaG.1 h).2.1;exact ZbZ ((ZaT.1 h2).1 y hy)
theorem YyL:∀ {l:LE},Asc l->∀ z∈l,hdKy l<=z.1
 | y::l,h,z,hz=>by
  show y.1<=z.1;rcases ZH.1 hz with e|e
  .rw[e];exact ZE _
  .exact ZbZ ((ZaT.1 h).1 z e)
theorem Yrr {a b:LE}{k v:Int}:hdKy (a++(k,v)::b)=if a=[] then k else hdKy a:=by
 cases a<;>rfl
theorem Yrs {a b:LE}{k v:Int}:lsKy (a++(k,v)::b)=if b=[] then k else lsKy b:=by
 unfold lsKy;rw[ZcA,Zca];cases b with
 | nil=>rfl
 | cons y b =>
  rw[Zf (by simp),Zca];rfl
structure TX (pool:LI) (e:ExtT) (t:Tr):Prop where
 ok:e.tree=true->Asc t.list/\t.Bal/\1<=t.size/\e=⟨true,t.size,hdKy t.list,lsKy t.list⟩/\∀ z∈t.list,z.1∈pool
 no:e.tree=false->e.size=1
structure PX (pool:LI) (xs:List ExtT) (ts:List Tr):Prop where
 len:xs.length=ts.length
 at_:∀ i,i<xs.length->TX pool (getX xs i) (getT ts i)
theorem Yha {t:Tr}:t.list=[]↔t.size=0:=by rw[<-t.list_len,Zaz]
structure KX (pool:LI) (xs:List ExtT) (ts:List Tr) (r:Int):Prop where
 asc:Asc (refT ts r).list
 bal:(refT ts r).Bal
 sz:(refX xs r).size=(refT ts r).size
 z:(refT ts r).list=[]↔r=0
 hd:r≠0->(refX xs r).first=hdKy (refT ts r).list
 ls:r≠0->(refX xs r).last=lsKy (refT ts r).list
 pl:∀ z∈(refT ts r).list,z.1∈pool
theorem PX.kid {pool:LI}{xs:List ExtT}{ts:List Tr}(h:PX pool xs ts){r:Int}(h0:0<=r)(h1:r<=xs.length)(hf:r=0∨(refX xs r).tree=true):KX pool xs ts r:=by
 by_cases c:r=0
 .subst c;have e:refT ts 0 = .nil:=rfl;exact⟨by rw[e];exact List.Pairwise.nil,by rw[e];trivial,by rw[e];rfl,by rw[e];exact⟨fun _=>rfl,fun _=>rfl⟩,fun q=>absurd rfl q,fun q=>absurd rfl q,by rw[e];intro z hz;cases hz⟩
 .have hf:=hf.resolve_left c;have e1:refX xs r=getX xs (r-1).toNat:=Zf c;have e2:refT ts r=getT ts (r-1).toNat:=Zf c;rw[e1] at hf;obtain⟨a,b,s,e,p⟩:=(h.at_ (r-1).toNat (by omega)).ok hf;refine⟨by rw[e2];exact a,by rw[e2];exact b,by rw[e1,e2,e],?_,fun _=>by rw[e1,e2,e],fun _=>by rw[e1,e2,e],by rw[e2];exact p⟩;rw[e2,Yha];exact⟨fun q=>by omega,fun q=>absurd q c⟩
theorem YkD {xs:List ExtT}{x:PNT}(h:bT3 xs x=true):(x.left=0∨((refX xs x.left).tree=true/\(refX xs x.left).last<x.key))/\(x.right=0∨((refX xs x.right).tree=true/\x.key<(refX xs x.right).first))/\balN (refX xs x.left).size (refX xs x.right).size:=by
 unfold bT3 at h;obtain⟨h2,h3⟩:=(Zar _ _).mp h;have h3:balN (refX xs x.left).size (refX xs x.right).size:=Zc h3
 have hl:∀ {q:Bool},q=bT1 xs x->q=true->x.left=0∨((refX xs x.left).tree=true/\(refX xs x.left).last<x.key):=fun {q} e t=>by
  unfold bT1 at e
  by_cases c:x.left=0
  .exact .inl c
  .rw[Zf c] at e;rw[e] at t;obtain⟨a,b⟩:=(Zar _ _).mp t;exact .inr ⟨a,Zc b⟩
 unfold bT2 at h2
 by_cases c:x.right=0
 .rw[Zj c] at h2;exact⟨hl rfl h2,.inl c,h3⟩
 .rw[Zf c] at h2;obtain⟨a,b⟩:=(Zar _ _).mp h2;obtain⟨b,d⟩:=(Zar _ _).mp b;exact⟨hl rfl a,.inr ⟨b,Zc d⟩,h3⟩
theorem PX.one {pool:LI}{xs:List ExtT}{ts:List Tr}(h:PX pool xs ts){x:PNT}(hl:0<=x.left/\x.left<=xs.length)(hr:0<=x.right/\x.right<=xs.length)(hk:x.key∈pool):TX pool (bldX xs x) (bldT ts x):=by
 unfold bldX;refine⟨fun t=>?_,fun t=>?_⟩
 .dsimp only at t;obtain⟨kl,kr,kb⟩:=YkD t;have L:=h.kid hl.1 hl.2 (kl.imp_right And.left);have R:=h.kid hr.1 hr.2 (kr.imp_right And.left)
  have lt:∀ z∈(refT ts x.left).list,z.1<x.key:=fun z hz=>by
   have c:x.left≠0:=fun c=>by rw[L.z.2 c] at hz;cases hz
   have:=YyK L.asc z hz;rw[<-L.ls c] at this;have:=(kl.resolve_left c).2;omega
  have gt:∀ z∈(refT ts x.right).list,x.key<z.1:=fun z hz=>by
   have c:x.right≠0:=fun c=>by rw[R.z.2 c] at hz;cases hz
   have:=YyL R.asc z hz;rw[<-R.hd c] at this;have:=(kr.resolve_left c).2;omega
  refine⟨YkA L.asc R.asc lt gt,⟨by rw[<-L.sz,<-R.sz];exact kb,L.bal,R.bal⟩,by show 1<=1+_+_;omega,?_,?_⟩
  .rw[t,Zj rfl];show ExtT.mk _ _ _ _=ExtT.mk _ ((1+(refT ts x.left).size+(refT ts x.right).size:Nat):Int) (hdKy (_++_::_)) (lsKy (_++_::_));rw[L.sz,R.sz,Yrr,Yrs]
   congr 1
   .omega
   .unfold bFs
    by_cases c:x.left=0
    .rw[Zj c,Zj (L.z.2 c)]
    .rw[Zf c,Zf (fun q=>c (L.z.1 q)),L.hd c]
   .unfold bLs
    by_cases c:x.right=0
    .rw[Zj c,Zj (R.z.2 c)]
    .rw[Zf c,Zf (fun q=>c (R.z.1 q)),R.ls c]
  .intro z hz;rcases Zx.1 hz with q|q
   .exact L.pl z q
   .rcases ZH.1 q with q|q
    .rw[q];exact hk
    .exact R.pl z q
 .dsimp only at t ⊢;rw[t];rfl
theorem YkE {a b:List ExtT}{i:Nat}(h:i<a.length):getX (a++b) i=getX a i:=by
 show (a++b).getD i _=a.getD i _;rw[Zb,Zb,ZB h]
theorem Ybo {a b:List Tr}{i:Nat}(h:i<a.length):getT (a++b) i=getT a i:=by
 show (a++b).getD i _=a.getD i _;rw[Zb,Zb,ZB h]
theorem Yhb {a:List ExtT}{x:ExtT}:getX (a++[x]) a.length=x:=by
 show (a++[x]).getD a.length _=x;rw[Zb,Zba];rfl
theorem YbY {a:List Tr}{x:Tr}:getT (a++[x]) a.length=x:=by
 show (a++[x]).getD a.length _=x;rw[Zb,Zba];rfl
theorem PX.snoc {pool:LI}{xs:List ExtT}{ts:List Tr}(h:PX pool xs ts){e:ExtT}{t:Tr}(he:TX pool e t):PX pool (xs++[e]) (ts++[t]):=by
 refine⟨by simp[h.len],fun i hi=>?_⟩;rw[Zh,Zr] at hi;rcases Zad i xs.length with q|q
 .rw[YkE q,Ybo (h.len ▸ q)];exact h.at_ i q
 .have:i=xs.length:=by omega
  subst this;rw[Yhb,h.len,YbY];exact he
theorem PX.all {pool:LI}{kx:List ExtT}{kt:List Tr}(h:PX pool kx kt){k:Int}{ns:LP}(hk:(kx.length:Int)=k)(od:OrdP k ns)(hp:∀ i,i<ns.length->(getN ns i).key∈pool) :
  ∀ j,j<=ns.length->PX pool (bldL kx ns j) (YK kt ns j)
 | 0,_=>h
 | j+1,hj=>by
  have ih:=PX.all h hk od hp j (by omega);have l:=Ybd kx ns j (by omega);have o:=od j (by omega);rw[YcM kx (by omega),YaP kt (by omega)];exact ih.snoc (ih.one ⟨o.1.1,by omega⟩ ⟨o.2.1,by omega⟩ (hp j (by omega)))
theorem Yhc {pool:LI}{l:LE}(h:Asc l)(hp:∀ z∈l,z.1∈pool):l.length<=pool.length:=by
 have nd:(l.map Prod.fst).Nodup:=List.pairwise_map.2 (List.Pairwise.imp (fun {a b} q=>Int.ne_of_lt q) h)
 have:=YfT _ pool nd fun x hx=>by
  obtain⟨z,hz,rfl⟩:=ZF.1 hx;exact hp z hz
 rwa [Zu] at this
theorem PX.szX {pool:LI}{xs:List ExtT}{ts:List Tr}(h:PX pool xs ts)(hp:pool.length<=1000000):szX xs:=fun e he=>by
 obtain⟨i,hi,rfl⟩:=Zbx.1 he;have t:=h.at_ i hi;have ee:getX xs i=xs[i]:=by show xs.getD i _=_;rw[Zb,Zk hi];rfl
 rw[ee] at t;cases c:xs[i].tree with
 | false=>rw[t.no c];omega
 | true =>
  obtain⟨a,_,s,e,p⟩:=t.ok c;have:=Yhc a p;rw[Tr.list_len] at this;rw[e];dsimp only;omega
def u64R (u:Int):Prop:=0<=u/\u<18446744073709551616
theorem Yck {α:Type}(p s:List α):(p++s).drop ((p.length:Int)).toNat=s:=by rw[Zau,Zcc]
theorem Ywe (p s:LI){u:Int}(h:u64R u):uvD (p++(vE 10 u++s)) p.length=(u,(p.length:Int)+(vE 10 u).length,0):=by
 have v:=Yst 12 13 10 0 u 0 s rfl h.1 (fun q=>absurd q (Nat.lt_irrefl _)) h.2;rw[show (0:Int)+u*128 ^ 0=u by omega,show ((0:Nat):Int)+((vE 10 u).length:Int)=(vE 10 u).length by omega] at v;rw[YaY (u:=u) (k:=((vE 10 u).length:Int)) (e:=0) (by omega) (by rw[Zh];omega) (by rw[Yck];exact v),Zj rfl]
theorem Yfj (p s:LI){u:Int}(h:u64R u):rvD (p++(vE 10 u++s)) p.length false=(u,(p.length:Int)+(vE 10 u).length,false):=by
 unfold rvD;rw[Ywe p s h];rfl
theorem Ywf (p s:LI){k:Int}(h:rngI k):kyD (p++(kB k++s)) p.length=(k,(p.length:Int)+8,0):=by
 have l8:(kB k).length=8:=Yay 8 _;unfold rngI at h;unfold kyD;rw[Zf (by rw[Zh];omega),Zf (by simp only[Zh,l8];omega),Yck,show (8:Nat)=(kB k).length from l8.symm,Zbz];rw[show wD (kB k)=k+9223372036854775808 from YpB 8 _ (by omega) (by omega),show k+9223372036854775808-9223372036854775808=k by omega]
theorem Ywg (p s:LI){k:Int}(h:rngI k):ryD (p++(kB k++s)) p.length false=(k,(p.length:Int)+8,false):=by
 unfold ryD;rw[Ywf p s h];rfl
theorem Yod (p s:LI){q:LI}(h:q.length<=1048576):nxD (p++(frE q++s)) p.length=(q,(p.length:Int)+(frE q).length,0):=by
 rw[Yba (p:=q) (k:=((frE q).length:Int)) (e:=0) (by omega) (by rw[Zh];omega) (by rw[Yck];exact Ysu (by omega) (by omega)),Zj rfl]
theorem Ytg {k m r D:Int}(hk:0<=k/\k<=65536)(hm:0<=m/\m<=65536)(hr:0<=r/\r<=4096)(hD:0<=D/\D<4294967296):hdD (hdE k m r D)=some (k,m,r,D):=by
 have e:hdE k m r D=vE 10 k++(vE 10 m++(vE 10 r++wB 4 D)):=by unfold hdE vsE;simp[Zab,Zo]
 have h1:=Yfj [] (vE 10 m++(vE 10 r++wB 4 D)) (u:=k) ⟨by omega,by omega⟩;have h2:=Yfj (vE 10 k) (vE 10 r++wB 4 D) (u:=m) ⟨by omega,by omega⟩;have h3:=Yfj (vE 10 k++vE 10 m) (wB 4 D) (u:=r) ⟨by omega,by omega⟩;have l4:(wB 4 D).length=4:=Yay 4 _;rw[ZS,<-e] at h1;rw[<-e] at h2;rw[Zo,<-e] at h3
 have h1':rvD (hdE k m r D) 0 false=(k,((vE 10 k).length:Int),false):=by
  refine h1.trans ?_;rw[show ((([]:LI).length:Nat):Int)=0 from rfl,Int.zero_add]
 rw[show (((vE 10 k++vE 10 m).length:Nat):Int)=(vE 10 k).length+(vE 10 m).length by rw[Zh];omega] at h3;have el:((hdE k m r D).length:Int)=(vE 10 k).length+(vE 10 m).length+(vE 10 r).length+4:=by rw[e];simp only[Zh,l4];omega
 have ed:(hdE k m r D).drop ((vE 10 k).length+(vE 10 m).length+(vE 10 r).length)=wB 4 D:=by
  rw[e,show vE 10 k++(vE 10 m++(vE 10 r++wB 4 D))=(vE 10 k++vE 10 m++vE 10 r)++wB 4 D by simp[Zo],show (vE 10 k).length+(vE 10 m).length+(vE 10 r).length=(vE 10 k++vE 10 m++vE 10 r).length by simp only[Zh],Zcc]
 unfold hdD;rw[h1'];dsimp only;rw[h2];dsimp only;rw[h3];dsimp only;rw[Zf (by rintro (q|q|q|q|q)<;>first|cases q|omega),show (((vE 10 k).length:Int)+(vE 10 m).length+(vE 10 r).length).toNat=(vE 10 k).length+(vE 10 m).length+(vE 10 r).length by omega,ed,YpB 4 D hD.1 (by exact hD.2)]
theorem zz_rng {v:Int}(h:rngI v):u64R (zz v):=by
 unfold rngI at h;unfold zz u64R;split<;>omega
theorem Yqg {x:PNT}{own:Int}(h:okP x)(hl:x.left<own)(hr:x.right<own):ndQ own (encN x)=some x:=by
 obtain⟨hk,hv,⟨a1,a2⟩,b1,b2⟩:=h;have e:encN x=kB x.key++(vE 10 (zz x.value)++(vE 10 x.left++vE 10 x.right)):=by unfold encN vsE;simp[Zab]
 have l8:(kB x.key).length=8:=Yay 8 _;have h0:=Ywg [] (vE 10 (zz x.value)++(vE 10 x.left++vE 10 x.right)) hk;have h1:=Yfj (kB x.key) (vE 10 x.left++vE 10 x.right) (zz_rng hv);have h2:=Yfj (kB x.key++vE 10 (zz x.value)) (vE 10 x.right) (u:=x.left) ⟨a1,a2⟩;have h3:=Yfj (kB x.key++vE 10 (zz x.value)++vE 10 x.left) [] (u:=x.right) ⟨b1,b2⟩;rw[ZS,<-e] at h0;rw[<-e,l8] at h1;rw[Zo,<-e] at h2;rw[ZR,Zo,Zo,<-e] at h3;rw[show (((kB x.key++vE 10 (zz x.value)).length:Nat):Int)=((8:Nat):Int)+(vE 10 (zz x.value)).length by rw[Zh,l8];omega] at h2;rw[show (((kB x.key++vE 10 (zz x.value)++vE 10 x.left).length:Nat):Int)=((8:Nat):Int)+(vE 10 (zz x.value)).length+(vE 10 x.left).length by rw[Zh,Zh,l8];omega] at h3;have h0':ryD (encN x) 0 false=(x.key,((8:Nat):Int),false):=h0;have el:((encN x).length:Int)=((8:Nat):Int)+(vE 10 (zz x.value)).length+(vE 10 x.left).length+(vE 10 x.right).length:=by rw[e];simp only[Zh,l8];omega
 unfold ndQ;rw[h0'];dsimp only;rw[h1];dsimp only;rw[h2];dsimp only;rw[h3];dsimp only;rw[Zf (by rintro (q|q|q|q)<;>first|cases q|omega),YxA]
theorem Yrt (top:Int)(ht:top<18446744073709551616):∀ (rs p:LI),(∀ r∈rs,0<=r/\r<=top)->tlG top (p++rs.flatMap (vE 10)) rs.length p.length=some (rs,((p++rs.flatMap (vE 10)).length:Int))
 | [],p,_=>by simp[tlG]
 | r::rs,p,h=>by
  have r1:=h r (by simp);have e:p++(r::rs).flatMap (vE 10)=p++(vE 10 r++rs.flatMap (vE 10)):=by rw[Zab]
  have ih:=Yrt top ht rs (p++vE 10 r) fun x hx=>h x (Zz _ hx)
  rw[Zo] at ih;rw[e,ZQ];unfold tlG;rw[Yfj p _ (u:=r) ⟨by omega,by omega⟩];dsimp only;rw[Zf (by rintro (q|q);cases q;omega),show (p.length:Int)+(vE 10 r).length=((p++vE 10 r).length:Nat) by rw[Zh];omega,ih]
  rfl
theorem Yth {top:Int}(ht:top<18446744073709551616){rs:LI}(h:∀ r∈rs,0<=r/\r<=top):tlD top rs.length (vsE [] rs)=some rs:=by
 have t:=Yrt top ht rs [] h;rw[ZS] at t;unfold tlD vsE;rw[ZS];rw[show tlG top (rs.flatMap (vE 10)) rs.length 0=some (rs,((rs.flatMap (vE 10)).length:Int)) from t];exact Zj rfl
def fsN (xs:LP):LI:=xs.flatMap fun x=>frE (encN x)
theorem Yhd:∀ (xs:LP) (o:LI),xs.foldl (fun o x=>rcE o (encN x)) o=o++fsN xs
 | [],o=>by simp[fsN]
 | x::xs,o=>by
  rw[ZbS,Yhd xs];unfold rcE fsN;rw[Zab,Zo]
theorem Yiy (x:PNT)(xs:LP)(i:Nat):getN (x::xs) (i+1)=getN xs i:=rfl
theorem Ywh (k:Int)(xs:LP):∀ (p s:LI) (ns:LP),(∀ i,i<xs.length->okP (getN xs i)/\(getN xs i).left<=k+ns.length+i/\(getN xs i).right<=k+ns.length+i) →
  nsD (p++(fsN xs++s)) k xs.length p.length ns=(0,ns++xs,((p++fsN xs).length:Int)):=by
 induction xs with
 | nil =>
  intro p s ns _;show (0,ns,(p.length:Int))=_;rw[ZR,show fsN []=[] from rfl,ZR]
 | cons x xs ih =>
  intro p s ns h;have h0:=h 0 (by simp);rw[show getN (x::xs) 0=x from rfl] at h0
  have ih:=ih (p++frE (encN x)) s (ns++[x]) fun i hi=>by
   have:=h (i+1) (by simpa using hi);rw[Yiy] at this;refine⟨this.1,?_,?_⟩
   .rw[Zh,Zr];omega
   .rw[Zh,Zr];omega
  have e:p++(fsN (x::xs)++s)=p++(frE (encN x)++(fsN xs++s)):=by unfold fsN;rw[Zab,Zo]
  have e2:p++fsN (x::xs)=p++frE (encN x)++fsN xs:=by unfold fsN;rw[Zab,Zo]
  rw[e,ZQ];rw[Ydq (Yod p _ (by have:=Ydl x;omega)),Zf (fun q=>q rfl),Yqg h0.1 (by omega) (by omega)];dsimp only;rw[Zo] at ih;rw[show (p.length:Int)+(frE (encN x)).length=((p++frE (encN x)).length:Nat) by rw[Zh];omega,ih,e2,Zo,List.singleton_append]
theorem YkF:∀ (m s:LI),mgD m (m++s)=0
 | [],_=>rfl
 | c::m,s=>by
  rw[ZaW];unfold mgD;rw[Zj rfl];exact YkF m s
structure PkOk (k D:Int) (ns:LP) (rs:LI):Prop where
 k0:0<=k/\k<=65536
 nl:ns.length<=65536
 rl:rs.length<=4096
 D0:0<=D/\D<4294967296
 ok:∀ i,i<ns.length->okP (getN ns i)/\(getN ns i).left<=k+i/\(getN ns i).right<=k+i
 rr:∀ r∈rs,0<=r/\r<=k+ns.length
theorem Yiz:∀ (l b:LI),(vsE b l).length<=b.length+11*l.length
 | [],b=>by simp[vsE]
 | u::l,b=>by
  have:=Yiz l b;have v:=(Ynr 10 u).2;unfold vsE at this ⊢;rw[Zab];simp only[Zh,ZQ] at this ⊢;omega
theorem Yhe {k D:Int}{ns:LP}{rs:LI}(h:PkOk k D ns rs):pkD (pkE k D ns rs)=(0,⟨k,D,ns,rs⟩):=by
 obtain⟨hk,nl,rl,hD,ok,rr⟩:=h;have hl:=Yfa k ns.length rs.length D;have tl:=Yiz rs []
 have e:pkE k D ns rs=magB++(frE (hdE k ns.length rs.length D)++(fsN ns++frE (vsE [] rs))):=by
  unfold pkE;rw[Yhd];unfold rcE;simp only[Zo]
 have h1:=Yod magB (fsN ns++frE (vsE [] rs)) (q:=hdE k ns.length rs.length D) (by omega)
 have h2:=Ywh k ns (magB++frE (hdE k ns.length rs.length D)) (frE (vsE [] rs)) [] fun i hi=>by
  have:=ok i hi;rw[show (([]:LP).length:Int)=0 from rfl,Zcz];exact this
 have h3:=Yod (magB++(frE (hdE k ns.length rs.length D)++fsN ns)) [] (q:=vsE [] rs) (by simp only[ZbE] at tl;omega);rw[<-e] at h1;rw[Zo,<-e,Zo,ZS,show ((magB++frE (hdE k ns.length rs.length D)).length:Int)=((magB.length:Nat):Int)+(frE (hdE k ns.length rs.length D)).length by rw[Zh];omega] at h2;rw[ZR,Zo,Zo,<-e] at h3;unfold pkD;rw[show mgD magB (pkE k D ns rs)=0 by rw[e];exact YkF _ _,Zf (fun q=>q rfl)];rw[show nxD (pkE k D ns rs) 4=_ from h1];dsimp only;rw[Zf (fun q=>q rfl),Ytg hk ⟨by omega,by omega⟩ ⟨by omega,by omega⟩ hD];dsimp only;rw[Zau,h2];dsimp only;rw[Zf (fun q=>q rfl),h3];dsimp only;rw[Zf (fun q=>q rfl),Zau,Yth (by omega) rr];dsimp only;rw[Zj (by rw[e];simp only[Zh];omega)]
section
variable {S:Arn} {hs:LI}
def trA (S:Arn)(i:Int):Tr:=@Classical.epsilon Tr ⟨.nil⟩ fun t=>Rep S t i
theorem Ycs (h:Wf S hs){t:Tr}{i:Int}(hr:Rep S t i):trA S i=t :=
 Rep.inj (h.us0 (ZE 0)) (Classical.epsilon_spec (p:=fun t=>Rep S t i) ⟨t,hr⟩) hr
def ktA (S:Arn)(lk:LI):List Tr:=lk.map (trA S)
theorem YjE {lk:LI}{i:Nat}(h:i<lk.length):getT (ktA S lk) i=trA S (getB lk i):=by
 show (lk.map (trA S)).getD i _=trA S (lk.getD i 0);rw[Zb,Zb,Zv,Zk h];rfl
def KnV (S:Arn)(ks:LI):Prop:=∀ r∈ks,∃ t,Rep S t r/\Asc t.list/\t.Bal
def YlX (S:Arn)(l:LI):LI:=l.map fun i=>(S.nd i).key
theorem YcN {l:LI}(ll:LsN S l):∀ {t:Tr} {i:Int},Rep S t i->(S.us i=true->i∈l)->∀ z∈t.list,z.1∈YlX S l
 | .nil,_,_,_,z,hz=>by cases hz
 | .node a k v b,i,hr,hi,z,hz=>by
  obtain⟨u,ek,ev,ra,rb⟩:=hr;have hi:=hi u;obtain⟨q,hq⟩:=ZaZ hi;obtain⟨_,ol,or⟩:=ll.ord q i hq;rcases Zx.1 hz with h|h
  .exact YcN ll ra (fun c=>Zac (ol c)) z h
  .rcases ZH.1 h with h|h
   .rw[h];exact ZF.2 ⟨i,hi,ek⟩
   .exact YcN ll rb (fun c=>Zac (or c)) z h
theorem KnV.all {ks lk:LI}(w:Wf S hs)(h:KnV S ks)(n:Yx S ks [] lk):∀ i∈lk,∃ t,Rep S t i/\Asc t.list/\t.Bal:=by
 refine NumsG.reach (P:=fun i=>∃ t,Rep S t i/\Asc t.list/\t.Bal) (fun i ⟨t,r,a,b⟩ u=>?_) n h (fun j hj=>by simp at hj);cases t with
 | nil =>
  have e:i=0:=r;rw[e,w.us0 (ZE 0)] at u;cases u
 | node l k v m =>
  obtain⟨_,_,_,ra,rb⟩:=r;obtain⟨p1,p2,_,_⟩:=YO a;exact⟨⟨l,ra,p1,b.2.1⟩,⟨m,rb,p2,b.2.2⟩⟩
structure KnT (S:Arn) (lk:LI) (t:Tr) (i:Int):Prop where
 rep:Rep S t i
 asc:Asc t.list
 bal:t.Bal
 pos:1<=t.size
 pl:∀ z∈t.list,z.1∈YlX S lk
theorem KnV.tree {ks lk:LI}(w:Wf S hs)(h:KnV S ks)(n:Yx S ks [] lk){i:Int}(hi:i∈lk):KnT S lk (trA S i) i:=by
 obtain⟨t,r,a,b⟩:=h.all w n i hi;have us:S.us i=true:=n.used (fun j hj=>by simp at hj) i hi;rw[Ycs w r];refine⟨r,a,b,?_,YcN (LsN.of w n) r fun _=>hi⟩;cases t with
 | nil =>
  have e:i=0:=r;rw[e,w.us0 (ZE 0)] at us;cases us
 | node l k v m=>show 1<=1+_+_;omega
theorem KxR.px {ks lk:LI}{kx:List ExtT}(w:Wf S hs)(h:KnV S ks)(n:Yx S ks [] lk)(kr:KxR S lk kx):PX (YlX S lk) kx (ktA S lk):=by
 refine⟨by rw[kr.len];unfold ktA;simp,fun i hi=>?_⟩;rw[kr.len] at hi;obtain⟨t,r,t1,t2,e⟩:=kr.at_ i hi;have q:=h.tree w n (Yj hi);rw[Ycs w r] at q;rw[YjE hi,Ycs w r];refine⟨fun _=>⟨q.asc,q.bal,t1,e,q.pl⟩,fun c=>?_⟩;rw[e] at c;cases c
theorem KxR.ex {ks lk:LI}(w:Wf S hs)(h:KnV S ks)(n:Yx S ks [] lk):∃ kx,KxR S lk kx:=by
 refine⟨lk.map fun i=>⟨true,(trA S i).size,hdKy (trA S i).list,lsKy (trA S i).list⟩,by simp,fun i hi=>?_⟩;have q:=h.tree w n (Yj hi);have nd:=(LsN.of w n).nd;have us:=(LsN.of w n).used;have f:=Ych w nd us;have n2:=w.n2;have l:=Yhc q.asc q.pl;rw[Tr.list_len] at l;unfold YlX at l;rw[Zu] at l;refine⟨_,q.rep,q.pos,by omega,?_⟩;show (lk.map _).getD i _=_;rw[Zb,Zv];show ((lk[i]?.map _).getD _)=_;rw[Zk hi];show ExtT.mk _ _ _ _=_;rw[show getB lk i=lk[i] by show lk.getD i _=_;rw[Zb,Zk hi];rfl]
def Yqh (S:Arn)(lk:LI)(ns:LP):LI:=YlX S lk++ns.map fun x=>x.key
theorem PX.more {p q:LI}{xs:List ExtT}{ts:List Tr}(h:PX p xs ts):PX (p++q) xs ts :=
 ⟨h.len,fun i hi=>⟨fun c=>by
  obtain⟨a,b,d,e,f⟩:=(h.at_ i hi).ok c;exact⟨a,b,d,e,fun z hz=>ZZ _ (f z hz)⟩,(h.at_ i hi).no⟩⟩
theorem Yqi {ns:LP}{i:Nat}(h:i<ns.length):getN ns i∈ns:=by
 show ns.getD i _∈ns;rw[Zb,Zk h];exact Zaa h
theorem YjF {ks lk:LI}{kx:List ExtT}{k:Int}{ns:LP}(w:Wf S hs)(h:KnV S ks)(n:Yx S ks [] lk)(kr:KxR S lk kx)(hk:(lk.length:Int)=k)(od:OrdP k ns){j:Nat}(hj:j<=ns.length) :
  PX (Yqh S lk ns) (bldL kx ns j) (YK (ktA S lk) ns j) :=
 PX.all (KxR.px w h n kr).more (by rw[kr.len];exact hk) od (fun i hi=>Zaf _ (ZF.2 ⟨_,Yqi hi,rfl⟩)) j hj
theorem YkG {lk:LI}{ns:LP}:(Yqh S lk ns).length=lk.length+ns.length:=by
 unfold Yqh YlX;simp
def KidP (ns:LP)(u:Int):Prop:=∃ i,i<ns.length/\((getN ns i).left=u∨(getN ns i).right=u)
theorem YjG {k:Int}{ns:LP}(fl:Int->Prop)(od:OrdP k ns)(hf:∀ i,i<ns.length->fl (k+1+i)->(k<(getN ns i).left->fl (getN ns i).left)/\(k<(getN ns i).right->fl (getN ns i).right)) :
  ∀ (f:Nat) (nx ref n:Int),vsG k ns f nx ref=(true,n)->k<nx->(k<ref->fl ref)->ref<=k+ns.length->nx<=n/\∀ u,nx<=u->u<n->fl u/\(u=ref∨KidP ns u)
 | 0,nx,ref,n,h,_,_,_=>by cases h
 | f+1,nx,ref,n,h,h0,h1,h2=>by
  by_cases c:ref<nx
  .have e:vsG k ns (f+1) nx ref=(true,nx):=Zj c;rw[e] at h;injection h with _ h
   subst h;exact⟨ZE _,fun u a b=>by omega⟩
  .have e:vsG k ns (f+1) nx ref=match vsG k ns f nx (getN ns (ref-k-1).toNat).left with
     | (false,n1)=>(false,n1)
     | (true,n1)=>match vsG k ns f n1 (getN ns (ref-k-1).toNat).right with
      | (false,n2)=>(false,n2)
      | (true,n2)=>if n2=ref then (true,n2+1) else (false,n2):=Zf c
   rw[e] at h;obtain⟨i,hi⟩:∃ i:Nat,i=(ref-k-1).toNat:=⟨_,rfl⟩
   rw[<-hi] at h;have il:i<ns.length:=by omega
   have er:ref=k+1+i:=by omega
   have o:=od i il;have g:=hf i il (by rw[<-er];exact h1 (by omega));cases v1:vsG k ns f nx (getN ns i).left with
   | mk b1 n1 =>
   rw[v1] at h;cases b1 with
   | false=>cases h
   | true =>
   dsimp only at h;have a1:=YjG fl od hf f nx _ n1 v1 h0 g.1 (by omega);cases v2:vsG k ns f n1 (getN ns i).right with
   | mk b2 n2 =>
   rw[v2] at h;cases b2 with
   | false=>cases h
   | true =>
   dsimp only at h;have a2:=YjG fl od hf f n1 _ n2 v2 (by omega) g.2 (by omega)
   by_cases d:n2=ref
   .rw[Zj d] at h;injection h with _ h
    refine⟨by omega,fun u p q=>?_⟩
    by_cases c1:u<n1
    .obtain⟨x,y⟩:=a1.2 u p c1;exact⟨x,.inr (y.elim (fun y=>⟨i,il,.inl y.symm⟩) id)⟩
    .by_cases c2:u<n2
     .obtain⟨x,y⟩:=a2.2 u (by omega) c2;exact⟨x,.inr (y.elim (fun y=>⟨i,il,.inr y.symm⟩) id)⟩
     .have:u=ref:=by omega
      rw[this];exact⟨h1 (by omega),.inl rfl⟩
   .rw[Zf d] at h;cases h
theorem Yoe {k:Int}{ns:LP}(fl:Int->Prop)(od:OrdP k ns)(hf:∀ i,i<ns.length->fl (k+1+i)->(k<(getN ns i).left->fl (getN ns i).left)/\(k<(getN ns i).right->fl (getN ns i).right))(f:Nat) :
  ∀ (rs:LI) (nx n:Int),vsL k ns f rs nx=(true,n)->k<nx->(∀ r∈rs,(k<r->fl r)/\r<=k+ns.length)->nx<=n/\∀ u,nx<=u->u<n->fl u/\(u∈rs∨KidP ns u)
 | [],nx,n,h,_,_=>by
  injection h with _ h
  subst h;exact⟨ZE _,fun u a b=>by omega⟩
 | r::rs,nx,n,h,h0,hr=>by
  unfold vsL at h;cases v1:vsG k ns f nx r with
  | mk b1 n1 =>
  rw[v1] at h;cases b1 with
  | false=>cases h
  | true =>
  dsimp only at h;have r1:=hr r (by simp);have a1:=YjG fl od hf f nx r n1 v1 h0 r1.1 r1.2;have a2:=Yoe fl od hf f rs n1 n h (by omega) fun x hx=>hr x (Zz _ hx)
  refine⟨by omega,fun u p q=>?_⟩
  by_cases c1:u<n1
  .obtain⟨x,y⟩:=a1.2 u p c1;exact⟨x,y.elim (fun y=>.inl (by rw[y];exact ZP ..)) .inr⟩
  .obtain⟨x,y⟩:=a2.2 u (by omega) q;exact⟨x,y.elim (fun y=>.inl (Zz _ y)) .inr⟩
theorem YkH (kx:List ExtT)(ns:LP):∀ d i,i+d<=ns.length->∃ r,bldL kx ns (i+d)=bldL kx ns i++r
 | 0,i,_=>⟨[],by simp⟩
 | d+1,i,h=>by
  obtain⟨r,e⟩:=YkH kx ns d i (by omega);exact⟨r++[bldX (bldL kx ns (i+d)) (getN ns (i+d))],by rw[show i+(d+1)=i+d+1 by omega,YcM kx (by omega),e,Zo]⟩
theorem YiA (kt:List Tr)(ns:LP):∀ d i,i+d<=ns.length->∃ r,YK kt ns (i+d)=YK kt ns i++r
 | 0,i,_=>⟨[],by simp⟩
 | d+1,i,h=>by
  obtain⟨r,e⟩:=YiA kt ns d i (by omega);exact⟨r++[bldT (YK kt ns (i+d)) (getN ns (i+d))],by rw[show i+(d+1)=i+d+1 by omega,YaP kt (by omega),e,Zo]⟩
theorem Yhf {kx:List ExtT}{ns:LP}{i j p:Nat}(hi:i<=j)(hj:j<=ns.length)(hp:p<kx.length+i):getX (bldL kx ns j) p=getX (bldL kx ns i) p:=by
 obtain⟨r,e⟩:=YkH kx ns (j-i) i (by omega);rw[show i+(j-i)=j by omega] at e;rw[e,Yix (by rw[Ybd kx ns i (by omega)];exact hp)]
theorem Yof {kt:List Tr}{ns:LP}{i j p:Nat}(hi:i<=j)(hj:j<=ns.length)(hp:p<kt.length+i):getT (YK kt ns j) p=getT (YK kt ns i) p:=by
 obtain⟨r,e⟩:=YiA kt ns (j-i) i (by omega);rw[show i+(j-i)=j by omega] at e;rw[e,Ybo (by rw[YaJ kt ns i (by omega)];exact hp)]
theorem Yti {kx:List ExtT}{ns:LP}{i:Nat}(h:i<ns.length):getX (bldL kx ns ns.length) (kx.length+i)=bldX (bldL kx ns i) (getN ns i):=by
 rw[Yhf (i:=i+1) (by omega) (Zw _) (by omega),YcM kx h,show kx.length+i=(bldL kx ns i).length from (Ybd kx ns i (by omega)).symm,Yhb]
theorem Yqj {kt:List Tr}{ns:LP}{i:Nat}(h:i<ns.length):getT (YK kt ns ns.length) (kt.length+i)=bldT (YK kt ns i) (getN ns i):=by
 rw[Yof (i:=i+1) (by omega) (Zw _) (by omega),YaP kt h,show kt.length+i=(YK kt ns i).length from (YaJ kt ns i (by omega)).symm,YbY]
structure FitN (k:Int) (ns:LP) (rs:LI) (kx:List ExtT):Prop where
 fl:∀ i,i<ns.length->(getX (bldL kx ns ns.length) (kx.length+i)).tree=true
 re:∀ i:Nat,i<ns.length->(k+1+i)∈rs∨KidP ns (k+1+i)
theorem Ywi {k D:Int}{ns:LP}{rs lk:LI}{dg free:Int}{kx:List ExtT}(hk0:0<=k)(hk:(kx.length:Int)=k)(od:OrdP k ns)(hr:∀ r∈rs,0<=r/\r<=k+ns.length)(h:ftE k D ns rs lk dg free kx=0) :
  (lk.length:Int)=k/\dg=D/\(ns.length:Int)<=free/\FitN k ns rs kx:=by
 unfold ftE at h
 by_cases c1:(lk.length:Int)≠k∨dg≠D
 .rw[Zj c1] at h;cases h
 rw[Zf c1] at h
 by_cases c2:free<ns.length
 .rw[Zj c2] at h;cases h
 rw[Zf c2] at h
 by_cases c3:rtX k (bldL kx ns ns.length) rs=false
 .rw[Zj c3] at h;cases h
 rw[Zf c3] at h
 by_cases c4:vsL k ns (fuP k ns) rs (k+1)=(true,k+ns.length+1)
 .have c1:(lk.length:Int)=k/\dg=D:=by
   refine⟨ZY fun q=>c1 (.inl q),ZY fun q=>c1 (.inr q)⟩
  have rt:∀ r∈rs,k<r->(getX (bldL kx ns ns.length) (r-1).toNat).tree=true:=fun r hr' hk=>by
   have c3:rtX k (bldL kx ns ns.length) rs=true:=by cases q:rtX k (bldL kx ns ns.length) rs<;>simp_all
   unfold rtX at c3;have:=(Zao.1 c3) r hr';rw[Zat hk] at this;exact this
  have all:=Yoe (fun u=>(getX (bldL kx ns ns.length) (u-1).toNat).tree=true) od (fun i hi hfl=>by
   rw[show (k+1+(i:Int)-1).toNat=kx.length+i by omega,Yti hi] at hfl;have hk3:=YkD (show bT3 _ _=true from hfl);have o:=od i hi;refine⟨fun c=>?_,fun c=>?_⟩
   .have:=(hk3.1.resolve_left (by omega)).1;rw[show refX (bldL kx ns i) (getN ns i).left=getX (bldL kx ns i) ((getN ns i).left-1).toNat from Zf (by omega)] at this;rw[Yhf (i:=i) (by omega) (Zw _) (by omega)];exact this
   .have:=(hk3.2.1.resolve_left (by omega)).1;rw[show refX (bldL kx ns i) (getN ns i).right=getX (bldL kx ns i) ((getN ns i).right-1).toNat from Zf (by omega)] at this;rw[Yhf (i:=i) (by omega) (Zw _) (by omega)];exact this) (fuP k ns) rs (k+1) (k+ns.length+1) c4 (by omega) fun r hr'=>⟨rt r hr',(hr r hr').2⟩
  refine⟨c1.1,c1.2,by omega,fun i hi=>?_,fun i hi=>?_⟩
  .have:=(all.2 (k+1+i) (by omega) (by omega)).1;rw[show (k+1+(i:Int)-1).toNat=kx.length+i by omega] at this;exact this
  .exact (all.2 (k+1+i) (by omega) (by omega)).2
 .rw[Zf c4] at h;cases h
end
section
def tRtC:Tfm C0:=fun args H K=>match args with
 | [.at (.ptr 0 0),.at (.val (.int .u32 i))]=>arM H fun S=>inU i/\exW S/\live S i/\∀ S',S'=retL S i->K (.one (.at (vI 0))) (chS S') [3]
 | _=>False
theorem YyM:Tb C0 87 tRtC:=s_retain.weak fun args H K h=>by
 unfold tRtC at h;unfold YgA;split at h<;>try exact h.elim
 unfold arM at h ⊢;split at h<;>try exact h.elim
 rename_i rd fr nd ct us gn rl;obtain⟨h1,⟨hs,hw⟩,h3,h4⟩:=h;refine⟨h1,⟨hs,hw⟩,fun e=>h4 _ (by unfold retL;rw[Zj e]),fun e u=>?_,fun u S' e=>?_⟩
 .exact absurd (h3.resolve_left e) (by rw[u];decide)
 .refine h4 S' ?_;have:=(hw.pos u).1;unfold retL;rw[Zf (by omega)];exact e
def tDcC:Tfm C0:=fun args H K=>match args with
 | [.at (.ptr 0 0),.at (.val (.int .u32 i))]=>arM H fun S=>∃ hs,Wf S (i::hs)/\S.us i=true/\1<S.ct i/\∀ S',S'=decS S i->K (.tup [.at (vI 0),.at (vI 0)]) (chS S') W7
 | _=>False
theorem YyN:Tb C0 26 tDcC:=s_release.weak fun args H K h=>by
 unfold tDcC at h;unfold Ydd;split at h<;>try exact h.elim
 unfold arM at h ⊢;split at h<;>try exact h.elim
 obtain⟨hs,h1,h2,h3,h4⟩:=h;refine⟨hs,h1,fun S' fr _ _ a b _=>?_⟩;have e:=b h3 h2;have z:fr=0:=by rw[e] at a;unfold Arn.nu decS at a;dsimp only at a;omega
 subst z;exact h4 S' e
def okRt (S:Arn)(rs:LI):Prop:=∀ r∈rs,r=0∨S.us r=true
structure CpO (S:Arn) (rs:LI) (c:Int) (S' B:Arn) (l o:LI):Prop where
 num:Yx S rs [] l
 st:S'=rdS S (2*l.length)
 cp:CpB S l c l.length o B
 eo:o=rs.map (plcN l)
structure CmF (S0:Arn) (rs:LI) (c:Int) (l:LI):Prop where
 num:Yx S0 rs [] l
 ls:LsN S0 l
 le:(l.length:Int)<=c
 c1:1<=c
 c2:c<=65536
 ok:okRt S0 rs
 rl:rs.length<=1000000
structure CmP3 (S0:Arn) (rs:LI) (c:Int) (S:Arn) (l:LI) (B:Arn) (pm:List (Int × Int)) (i:Nat):Prop where
 f:CmF S0 rs c l
 hi:i<=l.length
 st:S=rdS S0 (l.length+i)
 cp:CpB S0 l c i (hsI 0 i) B
 map:∀ j,YS pm j=plcN (l.take i) j
structure CmP4 (S0:Arn) (rs:LI) (c:Int) (S:Arn) (l:LI) (B:Arn) (pm:List (Int × Int)) (o:LI) (i:Nat):Prop where
 f:CmF S0 rs c l
 hi:i<=rs.length
 st:S=rdS S0 (2*l.length)
 cp:CpB S0 l c l.length ((rs.take i).map (plcN l)++hsI 0 l.length) B
 map:∀ j,YS pm j=plcN l j
 eo:o=(rs.take i).map (plcN l)
structure CmP5 (S0:Arn) (rs:LI) (c:Int) (S:Arn) (l:LI) (B:Arn) (pm:List (Int × Int)) (o:LI) (i:Nat):Prop where
 f:CmF S0 rs c l
 hi:i<=l.length
 st:S=rdS S0 (2*l.length)
 cp:CpB S0 l c l.length (rs.map (plcN l)++hsI i l.length) B
 map:∀ j,YS pm j=plcN l j
 eo:o=rs.map (plcN l)
section
variable {S0 S B:Arn} {hs rs l o:LI} {c:Int} {pm:List (Int × Int)} {i:Nat}
theorem YkI {x:Int}(hl:LsN S0 l)(hw:Wf S0 hs)(h:KidN l i x):plcN (l.take i) x=plcN l x:=by
 rcases h with ⟨e,z⟩|⟨_,p,hp,e,z⟩
 .subst e;rw[z]
  exact YaI fun q=>by
   have:=hl.used 0 (Zac q);rw[hw.us0 (ZE 0)] at this;cases this
 .rw[z];exact Yax (hl.nd.sublist (List.take_sublist ..)) (by rw[Zae,Zj hp];exact e)
theorem YjH {α:Type}{l:List α}{i:Nat}{d:α}(h:i<l.length):l[i]?=some (l.getD i d):=by
 rw[Zb,Zk h];rfl
theorem CmP3.go (hw:Wf S0 hs)(h:CmP3 S0 rs c S l B pm i)(hi:i<l.length){j:Int}(ej:j=l.getD i 0) :
  S0.us j=true/\YS pm (S0.nd j).left=plcN l (lfA S0 j)/\YS pm (S0.nd j).right=plcN l (rgA S0 j)/\MkR S0 B l c i j ∧
  CmP3 S0 rs c (rdS S 1) l (Yt B (S0.nd j).key (S0.nd j).value (plcN l (lfA S0 j)) (plcN l (rgA S0 j))) (setM pm j (nxt B)) (i+1):=by
 have hj:l[i]?=some j:=by rw[ej];exact YjH hi
 obtain⟨u,k1,k2⟩:=h.f.ls.kids hw hj;have mk:=h.cp.make h.f.ls hw hj h.f.le;refine⟨u,?_,?_,mk,h.f,hi,?_,mk.next,fun x=>?_⟩
 .rw[h.map];exact YkI h.f.ls hw k1
 .rw[h.map];exact YkI h.f.ls hw k2
 .rw[h.st,YR];rfl
 .have ts:l.take (i+1)=l.take i++[j]:=by rw[ej];exact YeX hi
  have nd:=h.f.ls.nd
  have nj:j∉l.take i:=fun q=>by
   obtain⟨p,hp,e,z⟩:=YgT nd q;have:=Yax nd hj;omega
  have tl:(l.take i).length=i:=by rw[ZG];omega
  rw[YeV,ts,Ydk _ _ _ nj,h.map,h.cp.nxt,tl]
theorem CmP4.start (h:CmP3 S0 rs c S l B pm l.length):CmP4 S0 rs c S l B pm [] 0:=⟨h.f,ZC _,by rw[h.st,Nat.two_mul],h.cp,fun j=>by rw[h.map,ZJ],rfl⟩
theorem CmF.root (h:CmF S0 rs c l)(hw:Wf S0 hs){r:Int}(hr:r∈rs):plcN l r=0∨(1<=plcN l r/\plcN l r<=l.length):=by
 rcases h.ok r hr with e|u
 .subst e;exact .inl (h.ls.plc0 hw)
 .exact .inr ⟨(YgK (h.num.roots r hr u)).2,(YD l r).2⟩
theorem CmP4.go (hw:Wf S0 hs)(h:CmP4 S0 rs c S l B pm o i)(hi:i<rs.length){r:Int}(er:r=rs.getD i 0) :
  inU (plcN l r)/\live B (plcN l r)/\CmP4 S0 rs c S l (retL B (plcN l r)) pm (o++[plcN l r]) (i+1):=by
 have hm:r∈rs:=by rw[er];exact ZD (YjH hi)
 have rt:=h.f.root hw hm;have c2:=h.f.c2;have le:=h.f.le;have rl:=h.f.rl;have lv:live B (plcN l r):=rt.imp id fun q=>(h.cp.us _).2 q
 have ts:(rs.take (i+1)).map (plcN l)=(rs.take i).map (plcN l)++[plcN l r]:=by rw[YeX (dft:=(0:Int)) hi,<-er,ZX];rfl
 refine⟨⟨by omega,by omega⟩,lv,h.f,hi,h.st,?_,h.map,by rw[ts,h.eo]⟩;have q:=h.cp.ret lv (by rw[Zh,Zu,ZG,YnL];omega);rw[ts,Zo];exact q.perm Zcn.symm
theorem CmP5.start (h:CmP4 S0 rs c S l B pm o rs.length):CmP5 S0 rs c S l B pm o 0:=⟨h.f,ZC _,h.st,by have:=h.cp;rw[ZJ] at this;exact this,h.map,by have:=h.eo;rw[ZJ] at this;exact this⟩
theorem CmP5.go (h:CmP5 S0 rs c S l B pm o i)(hi:i<l.length){j:Int}(ej:j=l.getD i 0) :
  ∃ hs,Wf B (plcN l j::hs)/\B.us (plcN l j)=true/\1<B.ct (plcN l j)/\CmP5 S0 rs c S l (decS B (plcN l j)) pm o (i+1):=by
 have hj:l[i]?=some j:=by rw[ej];exact YjH hi
 have pj:=Yax h.f.ls.nd hj;have q:=h.cp;rw[YpS hi] at q;have q:=q.perm Zcn;obtain⟨u,ct⟩:=q.two h.f.num h.f.ls hi;rw[pj];exact⟨_,q.wf,u,ct,h.f,hi,h.st,q.dec u ct,h.map,h.eo⟩
theorem CmP5.done (h:CmP5 S0 rs c S l B pm o l.length):CpO S0 rs c S B l o:=⟨h.f.num,h.st,by have:=h.cp;rw[YsK,ZR,<-h.eo] at this;exact this,h.eo⟩
end
end
section
def mkJ (S:Arn)(ix:LI)(xs:LP):Arn × LI:=xs.foldl (fun p x=>(Yt p.1 x.key x.value (getB p.2 x.left.toNat) (getB p.2 x.right.toNat),p.2++[nxt p.1])) (S,ix)
def rtJ (S:Arn)(l:LI):Arn:=l.foldl retL S
def dcJ (S:Arn)(l:LI):Arn:=l.foldl decS S
def rtG (ix rs:LI):LI:=rs.map fun r=>getB ix r.toNat
structure MkQ (k:Int) (ns:LP) (rs:LI) (S:Arn) (lk:LI):Prop where
 len:(lk.length:Int)=k
 k1:k<=65536
 ma:∀ j,j<ns.length->exW (mkJ S (0::lk) (ns.take j)).1/\live (mkJ S (0::lk) (ns.take j)).1 (getB (mkJ S (0::lk) (ns.take j)).2 (getN ns j).left.toNat)/\live (mkJ S (0::lk) (ns.take j)).1 (getB (mkJ S (0::lk) (ns.take j)).2 (getN ns j).right.toNat) ∧
  (Yk (mkJ S (0::lk) (ns.take j)).1 (getN ns j).key (getN ns j).value (getB (mkJ S (0::lk) (ns.take j)).2 (getN ns j).left.toNat) (getB (mkJ S (0::lk) (ns.take j)).2 (getN ns j).right.toNat)).size<=Ym/\0<(mkJ S (0::lk) (ns.take j)).1.free
 rt:∀ j,j<rs.length->exW (rtJ (mkJ S (0::lk) ns).1 (rtG (mkJ S (0::lk) ns).2 (rs.take j)))/\inU (getB (mkJ S (0::lk) ns).2 (getB rs j).toNat)/\live (rtJ (mkJ S (0::lk) ns).1 (rtG (mkJ S (0::lk) ns).2 (rs.take j))) (getB (mkJ S (0::lk) ns).2 (getB rs j).toNat)
 dc:∀ j,j<ns.length->∃ hs,Wf (dcJ (rtJ (mkJ S (0::lk) ns).1 (rtG (mkJ S (0::lk) ns).2 rs)) (((mkJ S (0::lk) ns).2.drop (k.toNat+1)).take j)) (getB ((mkJ S (0::lk) ns).2.drop (k.toNat+1)) j::hs) ∧
  (dcJ (rtJ (mkJ S (0::lk) ns).1 (rtG (mkJ S (0::lk) ns).2 rs)) (((mkJ S (0::lk) ns).2.drop (k.toNat+1)).take j)).us (getB ((mkJ S (0::lk) ns).2.drop (k.toNat+1)) j)=true ∧
  1<(dcJ (rtJ (mkJ S (0::lk) ns).1 (rtG (mkJ S (0::lk) ns).2 rs)) (((mkJ S (0::lk) ns).2.drop (k.toNat+1)).take j)).ct (getB ((mkJ S (0::lk) ns).2.drop (k.toNat+1)) j)
structure MkB (k:Int) (ns:LP) (rs:LI) (S:Arn) (ks:LI):Prop where
 ex:exW S
 rd:S.reads<=1000000000000000000
 kl:ks.length<=90000
 kv:allV ks
 nl:ns.length<=65536
 od:OrdP k ns
 rl:rs.length<=90000
 rr:∀ r∈rs,0<=r/\r<=k+ns.length
 q:∀ lk,Yx S ks [] lk->MkQ k ns rs (rdS S lk.length) lk
structure MkR (k:Int) (ns:LP) (rs:LI) (S:Arn) (ks:LI) (S':Arn) (o:LI):Prop where
 ex:∃ lk,Yx S ks [] lk/\o=rtG (mkJ (rdS S lk.length) (0::lk) ns).2 rs/\S'=dcJ (rtJ (mkJ (rdS S lk.length) (0::lk) ns).1 o) ((mkJ (rdS S lk.length) (0::lk) ns).2.drop (k.toNat+1))
structure XPm (P:Arn->LI->LI->Nat->Prop) where
 S:Arn
 ix:LI
 o:LI
 i:Nat
 h:P S ix o i
abbrev hfM (k D:Int)(ns:LP)(rs ks:LI)(S:Arn)(ix:LI):LH C0:=chS S++[.row false .pn ns,.row false .u64 rs,.row false .u32 ks,.box [vU64 k,vU D,.slc 7,.slc 8],.row true .u32 ix]
def aPmk (P1 P2 P3:Arn->LI->LI->Nat->Prop)(k D:Int)(ns:LP)(rs ks:LI):Ann C0:={ quiet:=[9999999],Γ:=[(84,Yc [] tNds),(32,Yc [] YdH),(87,Yc [] tRtC),(26,Yc [] tDcC)],inv:=fun n=>match n with
 | 3=>some { X:=XPm P1,sl:=[3,7,25],tf:=fun x=>[.one (.at (.ptr 10 0)),.one (.at (.slc 11)),vi .i64 x.i],hf:=fun x=>hfM k D ns rs ks x.S x.ix,μ:=fun x=>ns.length-x.i,wr:=W7 }
 | 10=>some { X:=XPm P2,sl:=[3,7,12,58],tf:=fun x=>[.one (.at (.ptr 10 0)),.one (.at (.slc 11)),.one (.at (.slc 12)),vi .i64 x.i],hf:=fun x=>hfM k D ns rs ks x.S x.ix++[.row true .u32 x.o],μ:=fun x=>rs.length-x.i,wr:=W7 }
 | 16=>some { X:=XPm P3,sl:=[3,12,80,81,82],tf:=fun x=>[.one (.at (.ptr 10 0)),.one (.at (.slc 11)),.one (.at (.slc 12)),vi .i64 (x.ix.length:Int),vi .i64 x.i],hf:=fun x=>chS x.S++[.row false .pn ns,.row false .u64 rs,.row false .u32 ks,.box [vU64 k,vU D,.slc 7,.slc 8],.row true .u32 x.o,.row false .u32 x.ix],μ:=fun x=>x.ix.length-x.i,wr:=W7 }
 | _=>none }
def tPmk:Tfm C0:=fun args H K=>match args with
 | [.agg [.val (.int .u64 k),.val (.int .u32 _),.slc 7,.slc 8],.at (.ptr 0 0),.at (.slc 9)]=>ftM H fun S ns rs ks=>MkB k ns rs S ks/\∀ S' o,MkR k ns rs S ks S' o->K (.one (.at (.slc 10))) (chS S'++[.row false .pn ns,.row false .u64 rs,.row false .u32 ks,.row true .u32 o]) W7
 | _=>False
theorem Yef (S:Arn)(ix:LI)(xs:LP)(x:PNT):mkJ S ix (xs++[x])=(Yt (mkJ S ix xs).1 x.key x.value (getB (mkJ S ix xs).2 x.left.toNat) (getB (mkJ S ix xs).2 x.right.toNat),(mkJ S ix xs).2++[nxt (mkJ S ix xs).1]):=by
 unfold mkJ;rw[ZaO];rfl
theorem Yfk (S:Arn)(ix:LI)(ns:LP):∀ i,i<=ns.length->(mkJ S ix (ns.take i)).2.length=ix.length+i
 | 0,_=>rfl
 | i+1,h=>by
  rw[Ybn (by omega),Yef];show (_++[_]).length=_;rw[Zh,Yfk S ix ns i (by omega)];rfl
theorem Yqk (S:Arn)(l:LI)(i:Int):rtJ S (l++[i])=retL (rtJ S l) i:=by unfold rtJ;rw[ZaO];rfl
theorem Yql (S:Arn)(l:LI)(i:Int):dcJ S (l++[i])=decS (dcJ S l) i:=by unfold dcJ;rw[ZaO];rfl
theorem Yqm (ix l:LI)(i:Int):rtG ix (l++[i])=rtG ix l++[getB ix i.toNat]:=by unfold rtG;rw[ZX];rfl
section
variable (k:Int) (ns:LP) (rs ks:LI) (S0:Arn)
def PM1:Arn->LI->LI->Nat->Prop:=fun S ix _ i=>∃ lk,Yx S0 ks [] lk/\MkQ k ns rs (rdS S0 lk.length) lk/\S=(mkJ (rdS S0 lk.length) (0::lk) (ns.take i)).1/\ix=(mkJ (rdS S0 lk.length) (0::lk) (ns.take i)).2/\i<=ns.length
def PM2:Arn->LI->LI->Nat->Prop:=fun S ix o i=>∃ lk,Yx S0 ks [] lk/\MkQ k ns rs (rdS S0 lk.length) lk/\ix=(mkJ (rdS S0 lk.length) (0::lk) ns).2/\S=rtJ (mkJ (rdS S0 lk.length) (0::lk) ns).1 o/\o=rtG ix (rs.take i)/\i<=rs.length
def PM3:Arn->LI->LI->Nat->Prop:=fun S ix o i=>∃ lk,Yx S0 ks [] lk/\MkQ k ns rs (rdS S0 lk.length) lk/\o=rtG (mkJ (rdS S0 lk.length) (0::lk) ns).2 rs/\ix=(mkJ (rdS S0 lk.length) (0::lk) ns).2.drop (k.toNat+1)/\S=dcJ (rtJ (mkJ (rdS S0 lk.length) (0::lk) ns).1 o) (ix.take i)/\i<=ix.length
end
abbrev O86 {P1:Arn → LI → LI → Nat → Prop}(k D:Int)(ns:LP)(rs ks:LI)(S':Arn)(x:XPm P1)(Z_:Prop):Prop:=(True/\True/\True/\VW (S'.reads)=VW (x.S.reads)/\True)/\(True/\True/\True/\VU (S'.fresh)=VU (x.S.fresh)/\True)/\S'.nodes=x.S.nodes/\S'.counts=x.S.counts/\S'.used=x.S.used/\S'.gen=x.S.gen/\S'.rel=x.S.rel/\ns=ns/\rs=rs/\ks=ks/\(VW (k)=VW (k)/\VU (D)=VU (D)/\True/\True/\True)/\Z_
abbrev O87 {P1 P2:Arn → LI → LI → Nat → Prop}(x:XPm P1)(x1:XPm P2)(Z_:Prop):Prop:=(True/\True/\True/\VW (x.S.reads)=VW (x1.S.reads)/\True)/\(True/\True/\True/\VU (x.S.fresh)=VU (x1.S.fresh)/\True)/\x.S.nodes=x1.S.nodes/\x.S.counts=x1.S.counts/\x.S.used=x1.S.used/\x.S.gen=x1.S.gen/\x.S.rel=x1.S.rel/\Z_
theorem Ywj (k D:Int)(ns:LP)(rs ks:LI)(S:Arn)(K:KT)(hb:MkB k ns rs S ks)(h:∀ S' o,MkR k ns rs S ks S' o->K (.one (.at (.slc 10))) (chS S'++[.row false .pn ns,.row false .u64 rs,.row false .u32 ks,.row true .u32 o]) W7) :
  vc C0 (aPmk (PM1 k ns rs ks S) (PM2 k ns rs ks S) (PM3 k ns rs ks S) k D ns rs ks) Tryz.f55 [.agg [vU64 k,vU D,.slc 7,.slc 8],.at (.ptr 0 0),.at (.slc 9)] (chS S++[.row false .pn ns,.row false .u64 rs,.row false .u32 ks]) (Yh 10 (YG W7 K)):=by
 generalize hP1:PM1 k ns rs ks S=P1;generalize hP2:PM2 k ns rs ks S=P2;generalize hP3:PM3 k ns rs ks S=P3
 refine Eq.mp (show (NmB S ks/\∀ S':Arn,∀ l:LI,NmR S ks S' l->([0].length+l.length)*Yd C0 EC.u32<=140737488355328/\(∃ x:XPm P1,True/\(True/\True/\True/\True/\VI (ns.length:Int)=VI (ns.length:Int)/\VI 0=(VI (x.i:Int))/\True)/\O86 k D ns rs ks S' x ((0::l)=x.ix/\True))/\∀ x:XPm P1,True->brS (decide ((x.i:Int)<(ns.length:Int))) (0<=(x.i:Int)/\(x.i:Int)<(ns.length:Int)/\0<=(getN ns (x.i:Int).toNat).left/\(getN ns (x.i:Int).toNat).left<(x.ix.length:Int)/\0<=(getN ns (x.i:Int).toNat).right/\(getN ns (x.i:Int).toNat).right<(x.ix.length:Int)/\exW x.S/\live x.S (getB x.ix (getN ns (x.i:Int).toNat).left.toNat)/\live x.S (getB x.ix (getN ns (x.i:Int).toNat).right.toNat)/\(Yk x.S (getN ns (x.i:Int).toNat).key (getN ns (x.i:Int).toNat).value (getB x.ix (getN ns (x.i:Int).toNat).left.toNat) (getB x.ix (getN ns (x.i:Int).toNat).right.toNat)).size<=Ym/\0<x.S.free/\∀ S'1:Arn,∀ i:Int,S'1=(Yt x.S (getN ns (x.i:Int).toNat).key (getN ns (x.i:Int).toNat).value (getB x.ix (getN ns (x.i:Int).toNat).left.toNat) (getB x.ix (getN ns (x.i:Int).toNat).right.toNat))->i=nxt x.S->(x.ix.length+[i].length)*Yd C0 EC.u32<=140737488355328/\∃ x':XPm P1,True/\((True/\True/\True/\True/\VI (ns.length:Int)=VI (ns.length:Int)/\(VI (Za.wrap ((x.i:Int)+1)))=(VI (x'.i:Int))/\True)/\O86 k D ns rs ks S'1 x' ((x.ix++[i])=x'.ix/\True))/\ns.length-x'.i<ns.length-x.i) ((∃ x1:XPm P2,True/\(True/\True/\True/\True/\True/\VI (rs.length:Int)=VI (rs.length:Int)/\VI 0=(VI (x1.i:Int))/\True)/\O87 x x1 (ns=ns/\rs=rs/\ks=ks/\
  (VW (k)=VW (k)/\VU (D)=VU (D)/\True/\True/\True)/\x.ix=x1.ix/\[]=x1.o/\True))/\∀ x1:XPm P2,True->brS (decide ((x1.i:Int)<(rs.length:Int))) (0<=(x1.i:Int)/\(x1.i:Int)<(rs.length:Int)/\0<=getB rs (x1.i:Int).toNat/\getB rs (x1.i:Int).toNat<(x1.ix.length:Int)/\inU (getB x1.ix (getB rs (x1.i:Int).toNat).toNat)/\exW x1.S/\live x1.S (getB x1.ix (getB rs (x1.i:Int).toNat).toNat)/\∀ S'1:Arn,S'1=(retL x1.S (getB x1.ix (getB rs (x1.i:Int).toNat).toNat))->0<=getB rs (x1.i:Int).toNat/\getB rs (x1.i:Int).toNat<(x1.ix.length:Int)/\(x1.o.length+[getB x1.ix (getB rs (x1.i:Int).toNat).toNat].length)*Yd C0 EC.u32<=140737488355328/\∃ x':XPm P2,True/\((True/\True/\True/\True/\True/\VI (rs.length:Int)=VI (rs.length:Int)/\(VI (Za.wrap ((x1.i:Int)+1)))=(VI (x'.i:Int))/\True)/\O86 k D ns rs ks S'1 x' (x1.ix=x'.ix/\(x1.o++[getB x1.ix (getB rs (x1.i:Int).toNat).toNat])=x'.o/\True))/\rs.length-x'.i<rs.length-x1.i) (0<=Zd.wrap (k+1)/\Zd.wrap (k+1)<=(x1.ix.length:Int)/\(x1.ix.length:Int)<=(x1.ix.length:Int)/\(∃ x2:XPm P3,True/\(True/\True/\True/\True/\(VI ((↑(Zp (Zd.wrap (k+1)).toNat (Zn (x1.ix.length:Int).toNat x1.ix)).length:Int)))=(VI (x2.ix.length:Int))/\VI 0=(VI (x2.i:Int))/\True)/\O87 x1 x2 (ns=ns/\rs=rs/\ks=ks/\(VW (k)=VW (k)/\VU (D)=VU (D)/\True/\True/\True)/\x1.o=x2.o/\(Zp (Zd.wrap (k+1)).toNat (Zn (x1.ix.length:Int).toNat x1.ix))=x2.ix/\True))/\∀ x2:XPm P3,True->brS (decide ((x2.i:Int)<(x2.ix.length:Int))) (0<=(x2.i:Int)/\
  (x2.i:Int)<(x2.ix.length:Int)/\∃ hs:LI,Wf x2.S (getB x2.ix (x2.i:Int).toNat::hs)/\(x2.S.us (getB x2.ix (x2.i:Int).toNat))=true/\1<x2.S.ct (getB x2.ix (x2.i:Int).toNat)/\∀ S'1:Arn,S'1=(decS x2.S (getB x2.ix (x2.i:Int).toNat))->∃ x':XPm P3,True/\((True/\True/\True/\True/\VI (x2.ix.length:Int)=VI (x'.ix.length:Int)/\(VI (Za.wrap ((x2.i:Int)+1)))=(VI (x'.i:Int))/\True)/\O86 k D ns rs ks S'1 x' (x2.o=x'.o/\x2.ix=x'.ix/\True))/\x'.ix.length-x'.i<x2.ix.length-x2.i) (K (.one (.at (.slc 10))) [(.box [(.ptr 1 0),(.slc 2),(.slc 3),(.val (VW (x2.S.reads)))]),(.box [(.slc 4),(.slc 5),(.slc 6),(.val (VU (x2.S.fresh)))]),(.row true .node (x2.S.nodes)),(.row true .int (x2.S.counts)),(.row true .bool (x2.S.used)),(.row true .u32 (x2.S.gen)),(.row true .u32 (x2.S.rel)),(.row false .pn (ns)),(.row false .u64 (rs)),(.row false .u32 (ks)),(.row true .u32 (x2.o))] [0,1,2,3,4,5,6]))))=_ by kernel_rfl) ?_
 delta O86 O87;subst hP1 hP2 hP3;obtain⟨hx,hr,kl,kv,nl,od,rl,rr,hq⟩:=hb;refine⟨⟨hx,by omega,by omega,kv⟩,fun S' l nr=>⟨?_,?_,fun x _=>Ya (fun y=>?_) fun y=>⟨?_,fun x1 _=>Ya (fun y=>?_) fun y=>⟨?_,?_,?_,?_,fun x2 _=>Ya (fun y=>?_) fun y=>?_⟩⟩⟩⟩
 .rw[Ys,Zr];have:=(hq l nr.num).len;have:=(hq l nr.num).k1;omega
 .refine⟨⟨S',0::l,[],0,l,nr.num,hq l nr.num,nr.st,rfl,ZC _⟩,trivial,?_⟩
  repeat' constructor
 .obtain⟨S1,ix,o,i,lk,nk,q,e1,e2,hi⟩:=x;dsimp only at y ⊢;have yi:i<ns.length:=by have:=Zc y;omega
  clear y;rw[show ((i:Int)).toNat=i from rfl,Yb (x:=(i:Int)+1) (by omega) (by omega)];obtain⟨m1,m2,m3,m4,m5⟩:=q.ma i yi;rw[<-e1,<-e2] at m2 m3 m4;rw[<-e1] at m1 m5;have il:ix.length=lk.length+1+i:=by rw[e2,Yfk _ _ _ _ hi];rfl
  have o:=od i yi;have ll:=q.len;have k1:=q.k1;refine⟨by omega,by omega,o.1.1,by omega,o.2.1,by omega,m1,m2,m3,m4,m5,fun S' i' es ei=>⟨by rw[Ys,Zr];omega,⟨S',ix++[i'],[],i+1,lk,nk,q,?_,?_,yi⟩,trivial,?_,ZI yi (ZO i)⟩⟩
  .rw[Ybn yi,Yef,<-e1,<-e2];exact es
  .rw[Ybn yi,Yef,<-e1,<-e2,ei]
  ·repeat' constructor
 .obtain⟨S1,ix,o,i,lk,nk,q,e1,e2,hi⟩:=x;dsimp only at y ⊢;have yi:i=ns.length:=by have:=Zg y;omega
  subst yi;rw[ZJ] at e1 e2;refine⟨⟨S1,ix,[],0,lk,nk,q,e2,e1,rfl,ZC _⟩,trivial,?_⟩
  repeat' constructor
 .obtain⟨S1,ix,o,i,lk,nk,q,e1,e2,e3,hi⟩:=x1;dsimp only at y ⊢;have yi:i<rs.length:=by have:=Zc y;omega
  clear y;rw[show ((i:Int)).toNat=i from rfl,Yb (x:=(i:Int)+1) (by omega) (by omega)];have m:=q.rt i yi;rw[<-e1,<-e3,<-e2] at m;obtain⟨m1,m2,m3⟩:=m;have il:ix.length=lk.length+1+ns.length:=by have:=Yfk (rdS S lk.length) (0::lk) ns ns.length (Zw _);rw[ZJ,<-e1] at this;exact this
  have ol:o.length=i:=by rw[e3];unfold rtG;rw[Zu,ZG];omega
  have r:=rr _ (Yj yi);have ll:=q.len;have k1:=q.k1;refine⟨by omega,by omega,r.1,by omega,m2,m1,m3,fun S' es=>⟨r.1,by omega,by rw[Ys,Zr];omega,⟨S',ix,o++[getB ix (getB rs i).toNat],i+1,lk,nk,q,e1,?_,?_,yi⟩,trivial,?_,ZI yi (ZO i)⟩⟩
  .rw[Yqk,<-e2];exact es
  .rw[Yo yi,Yqm,<-e3]
  ·repeat' constructor
 .obtain⟨S1,ix,o,i,lk,nk,q,e1,e2,e3,hi⟩:=x1;have ll:=q.len;have k1:=q.k1;rw[Yf (x:=k+1) (by omega) (by omega)];omega
 .obtain⟨S1,ix,o,i,lk,nk,q,e1,e2,e3,hi⟩:=x1;have ll:=q.len;have k1:=q.k1;have il:ix.length=lk.length+1+ns.length:=by have:=Yfk (rdS S lk.length) (0::lk) ns ns.length (Zw _);rw[ZJ,<-e1] at this;exact this
  dsimp only;rw[Yf (x:=k+1) (by omega) (by omega)];omega
 .exact ZE _
 .obtain⟨S1,ix,o,i,lk,nk,q,e1,e2,e3,hi⟩:=x1;dsimp only at y ⊢;have yi:i=rs.length:=by have:=Zg y;omega
  subst yi;have ll:=q.len;have k1:=q.k1;rw[ZJ] at e3;rw[Yf (x:=k+1) (by omega) (by omega),show (k+1).toNat=k.toNat+1 by omega,Zau,ZJ];refine⟨⟨S1,ix.drop (k.toNat+1),o,0,lk,nk,q,by rw[e3,e1],by rw[e1],by rw[e2];rfl,ZC _⟩,trivial,?_⟩
  repeat' constructor
 .obtain⟨S1,ix,o,i,lk,nk,q,e1,e2,e3,hi⟩:=x2;dsimp only at y ⊢;have yi:i<ix.length:=by have:=Zc y;omega
  clear y;have ll:=q.len;have k1:=q.k1;have il:ix.length=ns.length:=by have:=Yfk (rdS S lk.length) (0::lk) ns ns.length (Zw _);rw[ZJ] at this;rw[e2,Zy,this,ZQ];omega
  rw[show ((i:Int)).toNat=i from rfl,Yb (x:=(i:Int)+1) (by omega) (by omega)];have m:=q.dc i (by omega);rw[<-e1,<-e2,<-e3] at m;obtain⟨hs,m1,m2,m3⟩:=m;refine⟨by omega,by omega,hs,m1,m2,m3,fun S' es=>⟨⟨S',ix,o,i+1,lk,nk,q,e1,e2,?_,yi⟩,trivial,?_,ZI yi (ZO i)⟩⟩
  .rw[Yo yi,Yql,<-e3];exact es
  ·repeat' constructor
 .obtain⟨S1,ix,o,i,lk,nk,q,e1,e2,e3,hi⟩:=x2;dsimp only at y ⊢;have yi:i=ix.length:=by have:=Zg y;omega
  subst yi;rw[ZJ] at e3;exact h _ _ ⟨⟨lk,nk,e1,by rw[e3,e2]⟩⟩
theorem YyO:Tb C0 55 tPmk:=by
 refine .ofW W7 Tryz.func55 (by decide) rfl fun args H K h hB=>?_
 unfold tPmk ftM arMr at h;iterate 2 (split at h<;>try exact h.elim)
 split at h<;>try exact h.elim
 rename_i k D _ rd fr nd ct us gn rl _ ns rs ks;refine⟨_,?_,Ywj k D ns rs ks ⟨us,gn,rl,fr,nd,ct,rd⟩ K h.1 h.2⟩;exact⟨Ye C0.ok Yvl _,Ye C0.ok Yeb _,Ye C0.ok YyM _,Ye C0.ok YyN _,trivial⟩
end
section
structure MkP (S0:Arn) (hs:LI) (k:Int) (lk:LI) (ns:LP) (rs:LI) (kx:List ExtT):Prop where
 wf:Wf S0 hs
 hl:hs.length<=900000
 k0:(lk.length:Int)=k
 k1:k<=65536
 nl:ns.length<=65536
 rl:rs.length<=4096
 kn:∀ i∈lk,Rep S0 (trA S0 i) i
 ku:∀ i∈lk,S0.us i=true
 xl:kx.length=lk.length
 od:OrdP k ns
 rr:∀ r∈rs,0<=r/\r<=k+ns.length
 fit:FitN k ns rs kx
 px:∀ j,j<=ns.length->PX (Yqh S0 lk ns) (bldL kx ns j) (YK (ktA S0 lk) ns j)
 fr:(ns.length:Int)<=S0.free
structure MkI (S0:Arn) (hs:LI) (lk:LI) (ns:LP) (j:Nat) (S:Arn) (ix:LI) (nw:LI):Prop where
 ix_:ix=0::(lk++nw)
 len:nw.length=j
 wf:Wf S (nw.reverse++hs)
 rep:∀ p,p<lk.length+j->Rep S (getT (YK (ktA S0 lk) ns j) p) (getB ix (p+1))
 us:∀ i∈nw,S.us i=true
 nd:∀ i,i<j->(S.nd (getB ix (lk.length+1+i))).left=getB ix (getN ns i).left.toNat/\(S.nd (getB ix (lk.length+1+i))).right=getB ix (getN ns i).right.toNat
 stay:Stay S0 S hs
 us_:∀ i,S.us i=true↔S0.us i=true∨i∈nw
 fresh:∀ i∈nw,S0.us i=false
 nod:nw.Nodup
 old:∀ i,S0.us i=true->S.nd i=S0.nd i/\S.gn i=S0.gn i
 nu:S.nu=S0.nu+j
 ul:S.used.length=S0.used.length
 rd:S.reads=S0.reads
theorem Ybp {a b:LI}{i:Nat}(h:i<a.length):getB (a++b) i=getB a i:=by
 show (a++b).getD i _=a.getD i _;rw[Zb,Zb,ZB h]
theorem YaD {a b:LI}{i:Nat}:getB (a++b) (a.length+i)=getB b i:=by
 show (a++b).getD _ _=b.getD i _;rw[Zb,Zb,ZU (Nat.le_add_right _ _),Nat.add_sub_cancel_left]
theorem YiB {a:LI}{x:Int}:getB (a++[x]) a.length=x:=by
 have:=YaD (a:=a) (b:=[x]) (i:=0);rw[Zbb] at this;rw[this];rfl
variable {S0 S:Arn} {hs lk rs ix nw:LI} {k:Int} {ns:LP} {kx:List ExtT} {j:Nat}
theorem MkI.ref (h:MkI S0 hs lk ns j S ix nw)(k0:(lk.length:Int)=k){r:Int}(h0:0<=r)(h1:r<=k+j):Rep S (refT (YK (ktA S0 lk) ns j) r) (getB ix r.toNat):=by
 by_cases c:r=0
 .subst c;rw[h.ix_];exact rfl
 .have:=h.rep (r-1).toNat (by omega);rw[show (r-1).toNat+1=r.toNat by omega] at this;rw[show refT (YK (ktA S0 lk) ns j) r=getT (YK (ktA S0 lk) ns j) (r-1).toNat from Zf c];exact this
theorem MkI.free (p:MkP S0 hs k lk ns rs kx)(h:MkI S0 hs lk ns j S ix nw):S.free=S0.free-j:=by
 have a:=h.wf.free_nonneg.2.2.2;have b:=p.wf.free_nonneg.2.2.2;have:=h.nu;have:=h.ul;unfold Arn.cap at a b;omega
theorem MkI.size (p:MkP S0 hs k lk ns rs kx)(h:MkI S0 hs lk ns j S ix nw)(hj:j<ns.length) :
  (Yk S (getN ns j).key (getN ns j).value (getB ix (getN ns j).left.toNat) (getB ix (getN ns j).right.toNat)).size<=Ym:=by
 have o:=p.od j hj;rw[YgD h.wf (h.ref p.k0 o.1.1 o.1.2) (h.ref p.k0 o.2.1 o.2.2)];have t:=(p.px ns.length (Zw _)).at_ (kx.length+j) (by rw[Ybd kx ns _ (Zw _)];omega);have e:kx.length+j=(ktA S0 lk).length+j:=by rw[p.xl];unfold ktA;rw[Zu]
 obtain⟨a,_,_,_,q⟩:=t.ok (p.fit.fl j hj);rw[e,Yqj hj] at a q;have l:=Yhc a q;rw[Tr.list_len,YkG] at l;have l:1+(refT (YK (ktA S0 lk) ns j) (getN ns j).left).size+(refT (YK (ktA S0 lk) ns j) (getN ns j).right).size<=lk.length+ns.length:=l;have:=p.k0;have:=p.k1;have:=p.nl;unfold Ym;omega
theorem MkI.go (p:MkP S0 hs k lk ns rs kx)(h:MkI S0 hs lk ns j S ix nw)(hj:j<ns.length) :
  MkI S0 hs lk ns (j+1) (Yt S (getN ns j).key (getN ns j).value (getB ix (getN ns j).left.toNat) (getB ix (getN ns j).right.toNat)) (ix++[nxt S]) (nw++[nxt S]):=by
 have o:=p.od j hj;have fr:0<S.free:=by rw[h.free p];have:=p.fr;omega
 have r1:=h.ref p.k0 o.1.1 o.1.2;have r2:=h.ref p.k0 o.2.1 o.2.2;have sz:=h.size p hj;obtain⟨x1,x2,x3,_⟩:=h.wf.nxt_spec fr;have hl:=p.hl;have nl:=p.nl;have il:ix.length=lk.length+1+j:=by rw[h.ix_,ZQ,Zh,h.len];omega
 obtain⟨m3,m4,m1,m2⟩:=Yad S (getN ns j).key (getN ns j).value (getB ix (getN ns j).left.toNat) (getB ix (getN ns j).right.toNat);obtain⟨f1,f2,f3⟩:=YeP h.wf fr (k:=(getN ns j).key) (v:=(getN ns j).value) (l:=getB ix (getN ns j).left.toNat) (r:=getB ix (getN ns j).right.toNat);have k0:=p.k0;have kl:(ktA S0 lk).length=lk.length:=by unfold ktA;rw[Zu]
 have bl:(YK (ktA S0 lk) ns j).length=lk.length+j:=by rw[YaJ _ _ _ (by omega),kl]
 have hn:∀ {l r kk v},(Yt S kk v l r).nd (nxt S)=Yk S kk v l r:=fun {l r kk v}=>by rw[Yau h.wf fr,Zj rfl]
 refine⟨by rw[h.ix_,ZaW,Zo],by rw[Zh,h.len];rfl,?_,fun q hq=>?_,fun i hi=>?_,fun i hi=>?_,h.stay.trans (YhR h.wf fr hs),fun i=>?_,fun i hi=>?_,?_,fun i hi=>?_,?_,?_,?_⟩
 .rw[Zbq,Zo];exact h.wf.make r1.us r2.us fr sz (by rw[Zh,ZcC,h.len];omega)
 .rw[YaP _ hj];rcases Zad q (lk.length+j) with c|c
  .rw[Ybo (by rw[bl];exact c),Ybp (by omega)];exact YaX h.wf fr (h.rep q c)
  .have e:q=(YK (ktA S0 lk) ns j).length:=by omega
   rw[e,YbY,show (YK (ktA S0 lk) ns j).length+1=ix.length by omega,YiB];refine⟨(YU h.wf fr _).2 (.inl rfl),by rw[hn,m3],by rw[hn,m4],?_,?_⟩
   .rw[hn,m1];exact YaX h.wf fr r1
   .rw[hn,m2];exact YaX h.wf fr r2
 .rcases Zx.1 hi with c|c
  .exact (YU h.wf fr _).2 (.inr (h.us i c))
  .rw[ZL.1 c];exact (YU h.wf fr _).2 (.inl rfl)
 .have oi:=p.od i (by omega);rw[Ybp (a:=ix) (i:=(getN ns i).left.toNat) (by omega),Ybp (a:=ix) (i:=(getN ns i).right.toNat) (by omega)];rcases Zad i j with c|c
  .rw[Ybp (by omega)]
   have u:S.us (getB ix (lk.length+1+i))=true:=h.us _ (by
    rw[h.ix_,show lk.length+1+i=(lk.length+i)+1 by omega];show getB (lk++nw) (lk.length+i)∈nw;rw[YaD];exact Yj (by rw[h.len];exact c))
   rw[Yau h.wf fr,Zf (fun q=>by rw[q,x3] at u;cases u)];exact h.nd i c
  .have e:i=j:=by omega
   subst e;rw[show lk.length+1+i=ix.length by omega,YiB,hn];exact⟨m1,m2⟩
 .rw[YU h.wf fr,h.us_,Zx,ZL];constructor
  .rintro (q|q|q)
   .exact .inr (.inr q)
   .exact .inl q
   .exact .inr (.inl q)
  .rintro (q|q|q)
   .exact .inr (.inl q)
   .exact .inr (.inr q)
   .exact .inl q
 .rcases Zx.1 hi with c|c
  .exact h.fresh i c
  .rw[ZL.1 c];cases u:S0.us (nxt S) with
   | false=>rfl
   | true=>rw[(h.us_ _).2 (.inl u)] at x3;cases x3
 .refine ZaN.2 ⟨h.nod,by simp,fun a ha b hb e=>?_⟩;rw[ZL.1 hb] at e;rw[e] at ha;rw[(h.us_ _).2 (.inr ha)] at x3;cases x3
 .have u:=(h.us_ i).2 (.inl hi);have ne:i≠nxt S:=fun q=>by rw[<-q,u] at x3;cases x3
  have o:=h.old i hi;refine⟨by rw[Yau h.wf fr,Zf ne];exact o.1,?_⟩;rw[<-o.2];unfold Arn.gn Yt;simp only[];rw[YQ,Zf (by have:=(h.wf.pos u).1;omega)]
 .rw[f3,h.nu];rfl
 .rw[f2,h.ul]
 .rw[f1,h.rd]
theorem YjI (p:MkP S0 hs k lk ns rs kx):∀ j,j<=ns.length->∃ nw,MkI S0 hs lk ns j (mkJ S0 (0::lk) (ns.take j)).1 (mkJ S0 (0::lk) (ns.take j)).2 nw
 | 0,_=>⟨[],by rw[ZR];rfl,rfl,p.wf,fun q hq=>by
   have hq:q<lk.length:=hq;rw[show YK (ktA S0 lk) ns 0=ktA S0 lk from rfl,YjE hq];exact p.kn _ (Yj hq),fun i hi=>by simp at hi,fun i hi=>by omega,Stay.refl _ _,fun i=>by simp;rfl,fun i hi=>by simp at hi,ZaX,fun i hi=>⟨rfl,rfl⟩,rfl,rfl,rfl⟩
 | j+1,hj=>by
  obtain⟨nw,h⟩:=YjI p j (by omega);rw[Ybn (by omega),Yef];exact⟨_,h.go p (by omega)⟩
theorem Yog:∀ (l:LI) {S:Arn} {hs:LI},Wf S hs->(∀ i∈l,i=0∨S.us i=true)->hs.length+l.length<=999999990 →
  Wf (rtJ S l) (l.reverse++hs)/\(rtJ S l).reads=S.reads/\(rtJ S l).used=S.used/\(∀ j,(rtJ S l).us j=S.us j)/\(∀ j,(rtJ S l).nd j=S.nd j)/\∀ j,(rtJ S l).gn j=S.gn j
 | [],_,_,w,_,_=>⟨w,rfl,rfl,fun _=>rfl,fun _=>rfl,fun _=>rfl⟩
 | i::l,S,hs,w,h,hl=>by
  rw[ZQ] at hl;obtain⟨f1,f2,f3,f4,f5⟩:=Yan S i;obtain⟨a,b,c,d,e,f⟩:=Yog l (Yfc w (h i (by simp)) (by omega)) (fun x hx=>by rw[f3];exact h x (Zz _ hx)) (by rw[ZQ];omega);refine⟨?_,b.trans f1,c.trans f2,fun j=>(d j).trans (f3 j),fun j=>(e j).trans (f4 j),fun j=>(f j).trans (f5 j)⟩;rw[ZcL,Zo];exact a
theorem Ytj {S:Arn}{hs:LI}{i:Int}{l:LI}(w:Wf S ((i::l)++hs))(u:S.us i=true)(h:1<=S.indeg i∨i∈hs):1<S.ct i:=by
 have c:=(w.cnt i u).1;rw[ZaW,Zby,Zbm] at c;rcases h with h|h
 .omega
 .have:=ZbX.2 h;omega
theorem Yru:∀ (l:LI) {S:Arn} {hs:LI},Wf S (l++hs)->(∀ i∈l,S.us i=true/\(1<=S.indeg i∨i∈hs)) →
  (Wf (dcJ S l) hs/\(dcJ S l).reads=S.reads/\(dcJ S l).used=S.used/\(∀ j,(dcJ S l).us j=S.us j)/\(∀ j,(dcJ S l).nd j=S.nd j)/\∀ j,(dcJ S l).gn j=S.gn j) ∧
  ∀ j,j<l.length->∃ hs',Wf (dcJ S (l.take j)) (getB l j::hs')/\(dcJ S (l.take j)).us (getB l j)=true/\1<(dcJ S (l.take j)).ct (getB l j)
 | [],_,_,w,_=>⟨⟨w,rfl,rfl,fun _=>rfl,fun _=>rfl,fun _=>rfl⟩,fun j hj=>by simp at hj⟩
 | i::l,S,hs,w,h=>by
  have hi:=h i (by simp);have ct:=Ytj w hi.1 hi.2;obtain⟨⟨a,b,c,d,e,f⟩,g⟩:=Yru l (S:=decS S i) (hs:=hs) (w.dec hi.1 ct) fun x hx=>h x (Zz _ hx)
  refine⟨⟨a,b,c,d,e,f⟩,fun j hj=>?_⟩;cases j with
  | zero=>exact⟨_,w,hi.1,ct⟩
  | succ j=>exact g j (by simpa using hj)
structure MkO (S0:Arn) (hs:LI) (lk:LI) (ns:LP) (rs:LI) (S':Arn) (ix o:LI):Prop where
 ix_:∃ nw,ix=0::(lk++nw)/\nw.length=ns.length/\(∀ i,S'.us i=true↔S0.us i=true∨i∈nw)/\(∀ i∈nw,S0.us i=false)/\nw.Nodup
 old:∀ i,S0.us i=true->S'.nd i=S0.nd i/\S'.gn i=S0.gn i
 eo:o=rtG ix rs
 wf:Wf S' (o.reverse++hs)
 rep:∀ r:Int,0<=r->r<=lk.length+ns.length->Rep S' (refT (YK (ktA S0 lk) ns ns.length) r) (getB ix r.toNat)
 nd:∀ i,i<ns.length->(S'.nd (getB ix (lk.length+1+i))).left=getB ix (getN ns i).left.toNat/\(S'.nd (getB ix (lk.length+1+i))).right=getB ix (getN ns i).right.toNat
 stay:Stay S0 S' hs
 nu:S'.nu=S0.nu+ns.length
 ul:S'.used.length=S0.used.length
 rd:S'.reads=S0.reads
theorem YyP (p:MkP S0 hs k lk ns rs kx){j:Nat}(hj:j<ns.length):exW (mkJ S0 (0::lk) (ns.take j)).1/\live (mkJ S0 (0::lk) (ns.take j)).1 (getB (mkJ S0 (0::lk) (ns.take j)).2 (getN ns j).left.toNat)/\live (mkJ S0 (0::lk) (ns.take j)).1 (getB (mkJ S0 (0::lk) (ns.take j)).2 (getN ns j).right.toNat) ∧
  (Yk (mkJ S0 (0::lk) (ns.take j)).1 (getN ns j).key (getN ns j).value (getB (mkJ S0 (0::lk) (ns.take j)).2 (getN ns j).left.toNat) (getB (mkJ S0 (0::lk) (ns.take j)).2 (getN ns j).right.toNat)).size<=Ym/\0<(mkJ S0 (0::lk) (ns.take j)).1.free:=by
 obtain⟨nw,h⟩:=YjI p j (by omega);have o:=p.od j hj;exact⟨⟨_,h.wf⟩,(h.ref p.k0 o.1.1 o.1.2).us,(h.ref p.k0 o.2.1 o.2.2).us,h.size p hj,by rw[h.free p];have:=p.fr;omega⟩
theorem Yrv (p:MkP S0 hs k lk ns rs kx):MkQ k ns rs S0 lk/\MkO S0 hs lk ns rs (dcJ (rtJ (mkJ S0 (0::lk) ns).1 (rtG (mkJ S0 (0::lk) ns).2 rs)) ((mkJ S0 (0::lk) ns).2.drop (k.toNat+1))) (mkJ S0 (0::lk) ns).2 (rtG (mkJ S0 (0::lk) ns).2 rs):=by
 obtain⟨nw,h⟩:=YjI p ns.length (Zw _);rw[ZJ] at h;have k0:=p.k0;have hl:=p.hl;have rl:=p.rl;have nl:=p.nl;have hmk:=fun j hj=>YyP p (j:=j) hj
 generalize hS:(mkJ S0 (0::lk) ns).1=S1 at h ⊢;generalize hX:(mkJ S0 (0::lk) ns).2=ix at h ⊢;have live_:∀ r∈rs,getB ix r.toNat=0∨S1.us (getB ix r.toNat)=true:=fun r hr=>(h.ref k0 (p.rr r hr).1 (p.rr r hr).2).us
 have lv:∀ i∈rtG ix rs,i=0∨S1.us i=true:=fun i hi=>by
  obtain⟨r,hr,rfl⟩:=ZF.1 hi;exact live_ r hr
 have ll:∀ l:LI,l.length<=rs.length->(nw.reverse++hs).length+(rtG ix l).length<=999999990:=fun l hl2=>by
  rw[Zh,ZcC,h.len];unfold rtG;rw[Zu];omega
 have ed:ix.drop (k.toNat+1)=nw:=by
  rw[h.ix_,List.drop_succ_cons,show k.toNat=lk.length by omega,Zcc]
 obtain⟨w2,r2,u2,us2,nd2,gn2⟩:=Yog (rtG ix rs) h.wf lv (ll rs (Zw _))
 have w3:Wf (rtJ S1 (rtG ix rs)) (nw++((rtG ix rs).reverse++hs)):=w2.perm (by
  refine (List.Perm.append_left _ (Zck hs nw.reverse_perm)).trans ?_;rw[<-Zo,<-Zo];exact Zck hs List.perm_append_comm)
 have hn:∀ q,q<ns.length->getB ix (lk.length+1+q)=getB nw q:=fun q hq=>by
  rw[h.ix_,show lk.length+1+q=(lk.length+q)+1 by omega];exact YaD
 have hmem:∀ i∈nw,∃ q,q<ns.length/\getB nw q=i:=fun i hi=>by
  obtain⟨q,hq,e⟩:=Zbx.1 hi;refine⟨q,by rw[<-h.len];exact hq,?_⟩;show nw.getD q _=i;rw[Zb,Zk hq];exact e
 obtain⟨⟨w4,r4,u4,us4,nd4,gn4⟩,dc⟩:=Yru nw w3 fun i hi=>by
  refine⟨by rw[us2];exact h.us i hi,?_⟩;obtain⟨q,hq,e⟩:=hmem i hi;have ei:getB ix (k+1+q).toNat=i:=by rw[show (k+1+(q:Int)).toNat=lk.length+1+q by omega,hn q hq,e]
  rcases p.fit.re q hq with c|⟨x,hx,c⟩
  .exact .inr (ZZ _ (List.mem_reverse.2 (ZF.2 ⟨_,c,ei⟩)))
  .refine .inl (YeM w3 (j:=getB ix (lk.length+1+x)) ?_ ?_)
   .rw[us2,hn x hx];exact h.us _ (Yj (by rw[h.len];exact hx))
   .have nn:=h.nd x hx;rw[nd2];rcases c with c|c
    .exact .inl (by rw[nn.1,c,ei])
    .exact .inr (by rw[nn.2,c,ei])
 refine⟨⟨k0,p.k1,hmk,fun j hj=>?_,fun j hj=>?_⟩,?_⟩
 .rw[hS,hX]
  have sub:∀ i∈rtG ix (rs.take j),i=0∨S1.us i=true:=fun i hi=>by
   obtain⟨r,hr,rfl⟩:=ZF.1 hi;exact live_ r (Zac hr)
  obtain⟨w,_,u,us,_,_⟩:=Yog (rtG ix (rs.take j)) h.wf sub (ll _ (by rw[ZG];omega));have l1:=live_ _ (Yj hj);refine⟨⟨_,w⟩,?_,l1.imp_right fun q=>by rw[us];exact q⟩;rcases l1 with q|q
  .rw[q];unfold inU;omega
  .have a:=h.wf.pos q;have b:=h.wf.n2;unfold inU;omega
 .rw[hS,hX,ed];have:=dc j (by rw[h.len];exact hj);exact this
 .rw[ed];have us':∀ j,(dcJ (rtJ S1 (rtG ix rs)) nw).us j=S1.us j:=fun j=>(us4 j).trans (us2 j)
  have nd':∀ j,(dcJ (rtJ S1 (rtG ix rs)) nw).nd j=S1.nd j:=fun j=>(nd4 j).trans (nd2 j)
  have gn':∀ j,(dcJ (rtJ S1 (rtG ix rs)) nw).gn j=S1.gn j:=fun j=>(gn4 j).trans (gn2 j)
  have uu:(dcJ (rtJ S1 (rtG ix rs)) nw).used=S1.used:=u4.trans u2;refine⟨⟨nw,h.ix_,h.len,fun i=>by rw[us'];exact h.us_ i,h.fresh,h.nod⟩,fun i hi=>by rw[nd',gn'];exact h.old i hi,rfl,w4,fun r a b=>(h.ref k0 a (by omega)).same us' nd',fun i hi=>by rw[nd'];exact h.nd i hi,h.stay.trans (YeO us' nd' gn' hs),?_,by rw[uu];exact h.ul,(r4.trans r2).trans h.rd⟩
  .have:(dcJ (rtJ S1 (rtG ix rs)) nw).nu=S1.nu:=by unfold Arn.nu;rw[uu]
   rw[this];exact h.nu
end
def aExp:Ann C0:={ Γ:=[(47,Yc [] tWr)] }
def tExp:Tfm C0:=fun args H K=>match args with
 | [.at (.ptr 0 0),.at (.slc 7),.at (.slc 8)]=>wrM H fun S rs ks=>WrB S rs ks/\S.reads<=1000000000000000000/\rs.length<=4096/\∀ S' o,WrR S rs ks 400000 S' o->K (.tup [.at (.slc 9),.at (vI 0)]) (chS S'++[.row false .u32 rs,.row false .u32 ks,.row true .u8 o]) [0]
 | _=>False
abbrev imM (H:LH C0)(k:Arn->LI->LI->Prop):Prop:=arMr H fun S rest=>match rest with
 | [.row false .u8 b,.row false .u32 ks]=>k S b ks
 | _=>False
structure ImB (S:Arn) (b ks:LI):Prop where
 ab:allB b
 bl:b.length<=1000000000
 ft:∀ p,pkD b=(0,p)->FtB p.known p.digest p.nodes p.roots S ks
 mk_:∀ p S',pkD b=(0,p)->FtR p.known p.digest p.nodes p.roots S ks S' 0->MkB p.known p.nodes p.roots S' ks
def tImp:Tfm C0:=fun args H K=>match args with
 | [.at (.ptr 0 0),.at (.slc 7),.at (.slc 8)]=>imM H fun S b ks=>ImB S b ks ∧
  (∀ e p,pkD b=(e,p)->e≠0->K (.tup [.at (.slc 9),.at (vI e)]) (chS S++[.row false .u8 b,.row false .u32 ks,.row true .u32 []]) W7) ∧
  (∀ e p S',pkD b=(0,p)->FtR p.known p.digest p.nodes p.roots S ks S' e->e≠0->K (.tup [.at (.slc 9),.at (vI e)]) (chS S'++[.row false .u8 b,.row false .u32 ks,.row true .u32 []]) W7) ∧
  (∀ p S' S2 o,pkD b=(0,p)->FtR p.known p.digest p.nodes p.roots S ks S' 0->MkR p.known p.nodes p.roots S' ks S2 o->K (.tup [.at (.slc 9),.at (vI 0)]) (chS S2++[.row false .u8 b,.row false .u32 ks,.row true .u32 o]) W7)
 | _=>False
def aImp:Ann C0:={ Γ:=[(53,Yc [] tRe),(54,Yc [] tFt),(55,Yc [] tPmk)] }
theorem Ywk (S:Arn)(rs ks:LI)(K:KT)(hb:WrB S rs ks)(hr:S.reads<=1000000000000000000)(hl:rs.length<=4096)(h:∀ S' o,WrR S rs ks 400000 S' o->K (.tup [.at (.slc 9),.at (vI 0)]) (chS S'++[.row false .u32 rs,.row false .u32 ks,.row true .u8 o]) [0]) :
  vc C0 aExp Tryz.f12 [.at (.ptr 0 0),.at (.slc 7),.at (.slc 8)] (chS S++[.row false .u32 rs,.row false .u32 ks]) (Yh 9 (YG [0] K)):=by
 refine Eq.mp (show (brS (decide ((rs.length:Int)>4096)) (K (.tup [(.at (.slc 9)),(.at (.val (VI 1)))]) [(.box [(.ptr 1 0),(.slc 2),(.slc 3),(.val (VW (S.reads)))]),(.box [(.slc 4),(.slc 5),(.slc 6),(.val (VU (S.fresh)))]),(.row true .node (S.nodes)),(.row true .int (S.counts)),(.row true .bool (S.used)),(.row true .u32 (S.gen)),(.row true .u32 (S.rel)),(.row false .u32 (rs)),(.row false .u32 (ks)),(.row true .u8 [])] [0]) ((WrB S rs ks/\S.reads<=1000000000000000000)/\∀ S':Arn,∀ o:LI,WrR S rs ks 400000 S' o->K (.tup [(.at (.slc 9)),(.at (.val (VI 0)))]) [(.box [(.ptr 1 0),(.slc 2),(.slc 3),(.val (VW (S'.reads)))]),(.box [(.slc 4),(.slc 5),(.slc 6),(.val (VU (S'.fresh)))]),(.row true .node (S'.nodes)),(.row true .int (S'.counts)),(.row true .bool (S'.used)),(.row true .u32 (S'.gen)),(.row true .u32 (S'.rel)),(.row false .u32 (rs)),(.row false .u32 (ks)),(.row true .u8 (o))] [0]))=_ by kernel_rfl) ?_;exact Ya (fun y=>by have:=Zc y;omega) fun _=>⟨⟨hb,hr⟩,h⟩
theorem s_exp:Tb C0 12 tExp:=by
 refine .ofW [0] Tryz.func12 (by decide) rfl fun args H K h hB=>?_
 unfold tExp wrM arMr at h;iterate 2 (split at h<;>try exact h.elim)
 split at h<;>try exact h.elim
 rename_i _ rd fr nd ct us gn rl _ rs ks;refine⟨_,?_,Ywk ⟨us,gn,rl,fr,nd,ct,rd⟩ rs ks K h.1 h.2.1 h.2.2.1 h.2.2.2⟩;exact⟨Ye C0.ok s_wr _,trivial⟩
abbrev O88 (S:Arn)(b ks:LI)(K:SV → LH C0 → LN → Prop)(e:Int):Prop:=K (.tup [(.at (.slc 9)),(.at (.val (VI (e))))]) [(.box [(.ptr 1 0),(.slc 2),(.slc 3),(.val (VW (S.reads)))]),(.box [(.slc 4),(.slc 5),(.slc 6),(.val (VU (S.fresh)))]),(.row true .node (S.nodes)),(.row true .int (S.counts)),(.row true .bool (S.used)),(.row true .u32 (S.gen)),(.row true .u32 (S.rel)),(.row false .u8 (b)),(.row false .u32 (ks)),(.row true .u32 [])] [0,1,2,3,4,5,6]
theorem Ywl (S:Arn)(b ks:LI)(K:KT)(hb:ImB S b ks)(h1:∀ e p,pkD b=(e,p)->e≠0->K (.tup [.at (.slc 9),.at (vI e)]) (chS S++[.row false .u8 b,.row false .u32 ks,.row true .u32 []]) W7)(h2:∀ e p S',pkD b=(0,p)->FtR p.known p.digest p.nodes p.roots S ks S' e->e≠0->K (.tup [.at (.slc 9),.at (vI e)]) (chS S'++[.row false .u8 b,.row false .u32 ks,.row true .u32 []]) W7)(h3:∀ p S' S2 o,pkD b=(0,p)->FtR p.known p.digest p.nodes p.roots S ks S' 0->MkR p.known p.nodes p.roots S' ks S2 o->K (.tup [.at (.slc 9),.at (vI 0)]) (chS S2++[.row false .u8 b,.row false .u32 ks,.row true .u32 o]) W7) :
  vc C0 aImp Tryz.f15 [.at (.ptr 0 0),.at (.slc 7),.at (.slc 8)] (chS S++[.row false .u8 b,.row false .u32 ks]) (Yh 9 (YG W7 K)):=by
 refine Eq.mp (show (allB b/\b.length<=1000000000/\∀ e:Int,∀ p:PKT,pkD b=(Prod.mk (e) (p))->brS (e != 0) (O88 S b ks K e) (FtB p.known p.digest p.nodes p.roots S ks/\∀ S':Arn,∀ e1:Int,FtR p.known p.digest p.nodes p.roots S ks S' e1->brS (e1 != 0) (O88 S' b ks K e1) (MkB p.known p.nodes p.roots S' ks/\∀ S'1:Arn,∀ o:LI,MkR p.known p.nodes p.roots S' ks S'1 o->K (.tup [(.at (.slc 9)),(.at (.val (VI 0)))]) [(.box [(.ptr 1 0),(.slc 2),(.slc 3),(.val (VW (S'1.reads)))]),(.box [(.slc 4),(.slc 5),(.slc 6),(.val (VU (S'1.fresh)))]),(.row true .node (S'1.nodes)),(.row true .int (S'1.counts)),(.row true .bool (S'1.used)),(.row true .u32 (S'1.gen)),(.row true .u32 (S'1.rel)),(.row false .u8 (b)),(.row false .u32 (ks)),(.row true .u32 (o))] [0,1,2,3,4,5,6])))=_ by kernel_rfl) ?_;delta O88;have ne_of:∀ {x y:Int},(x != y)=true->x≠y:=fun {x y} q e=>by rw[e] at q;simp at q
 have eq_of:∀ {x y:Int},(x != y)=false->x=y:=fun {x y} q=>by simpa using q
 refine⟨hb.ab,hb.bl,fun e p ep=>Ya (fun y=>h1 e p ep (ne_of y)) fun y=>?_⟩;rw[eq_of y] at ep;refine⟨hb.ft p ep,fun S' e1 f=>Ya (fun z=>h2 e1 p S' ep f (ne_of z)) fun z=>?_⟩;rw[eq_of z] at f;exact⟨hb.mk_ p S' ep f,fun S2 o m=>h3 p S' S2 o ep f m⟩
theorem s_imp:Tb C0 15 tImp:=by
 refine .ofW W7 Tryz.func15 (by decide) rfl fun args H K h hB=>?_
 unfold tImp imM arMr at h;iterate 2 (split at h<;>try exact h.elim)
 split at h<;>try exact h.elim
 rename_i _ rd fr nd ct us gn rl _ b ks;refine⟨_,?_,Ywl ⟨us,gn,rl,fr,nd,ct,rd⟩ b ks K h.1 h.2.1 h.2.2.1 h.2.2.2⟩;exact⟨Ye C0.ok s_re _,Ye C0.ok s_ft _,Ye C0.ok YyO _,trivial⟩
section
variable {S S':Arn} {hs ks rs lk:LI} {k D:Int} {ns:LP}
theorem PkOk.ord (h:PkOk k D ns rs):OrdP k ns:=fun i hi=>by
 obtain⟨⟨_,_,⟨a,_⟩,b,_⟩,c,d⟩:=h.ok i hi;exact⟨⟨a,c⟩,b,d⟩
theorem KnV.rd {m:Nat}(h:KnV S ks):KnV (rdS S m) ks:=fun r hr=>by
 obtain⟨t,a,b,c⟩:=h r hr;exact⟨t,YdW a _,b,c⟩
structure KnB (S:Arn) (hs ks:LI):Prop where
 wf:Wf S hs
 hl:hs.length<=900000
 kv:KnV S ks
 av:allV ks
 ky:KyN S ks
 kl:ks.length<=90000
 rd:S.reads<=100000000000000000
theorem Ywm (h:KnB S hs ks)(pk:PkOk k D ns rs):FtB k D ns rs S ks :=
 ⟨⟨hs,h.wf⟩,by have:=h.rd;omega,h.kl,h.av,h.ky,pk.k0,pk.nl,pk.ord,by have:=pk.rl;omega,pk.rr,fun lk n e=>by
  obtain⟨kx,kr⟩:=KxR.ex h.wf h.kv n;refine⟨kx,kr,fun j hj=>(YjF h.wf h.kv n kr e pk.ord hj).szX ?_⟩;rw[YkG];have:=pk.k0;have:=pk.nl;omega⟩
theorem Ywn (pk:PkOk k D ns rs)(f:FtR k D ns rs S ks S' 0):∃ lk kx m,Yx S ks [] lk/\(lk.length:Int)=k/\DgR S ks D/\KxR S lk kx/\FitN k ns rs kx/\(ns.length:Int)<=S.free/\S'=rdS S m/\m<=100000000000:=by
 obtain⟨lk,dg,kx,n,d,kr,e⟩:=f.ex;obtain⟨m,es,hm⟩:=f.st
 have c:(lk.length:Int)=k:=ZY fun c=>by
  unfold ftE at e;rw[Zj (.inl c)] at e;cases e
 have kr:=kr c;obtain⟨_,e2,e3,e4⟩:=Ywi pk.k0.1 (by rw[kr.len];exact c) pk.ord pk.rr e.symm;exact⟨lk,kx,m,n,c,e2 ▸ d,kr,e4,e3,es,hm⟩
theorem Yrw (h:KnB S hs ks)(pk:PkOk k D ns rs){kx:List ExtT}(n:Yx S ks [] lk)(e:(lk.length:Int)=k)(kr:KxR S lk kx)(ft:FitN k ns rs kx)(fr:(ns.length:Int)<=S.free){m:Nat}(hm:m<=100000000000000000):MkP (rdS S m) hs k lk ns rs kx:=by
 have w:Wf (rdS S m) hs:=h.wf.rd (by have:=h.rd;omega);have n':Yx (rdS S m) ks [] lk:=n;refine⟨w,h.hl,e,pk.k0.2,pk.nl,pk.rl,fun i hi=>?_,fun i hi=>?_,kr.len,pk.ord,pk.rr,ft,fun j hj=>YjF w h.kv.rd n' (kr.rd m) e pk.ord hj,fr⟩
 .exact (h.kv.rd.tree w n' hi).rep
 .exact n.used (fun j hj=>by simp at hj) i hi
theorem mk_b (h:KnB S hs ks)(pk:PkOk k D ns rs)(f:FtR k D ns rs S ks S' 0):MkB k ns rs S' ks:=by
 obtain⟨lk,kx,m,n,e,d,kr,ft,fr,es,hm⟩:=Ywn pk f;subst es;have w:Wf (rdS S m) hs:=h.wf.rd (by have:=h.rd;omega);refine⟨⟨hs,w⟩,by show S.reads+(m:Int)<=_;have:=h.rd;omega,h.kl,h.av,pk.nl,pk.ord,by have:=pk.rl;omega,pk.rr,fun lk' n'=>?_⟩;have n2:Yx S ks [] lk':=n';obtain rfl:=n.det n2;rw[YR];exact (Yrv (Yrw h pk n e kr ft fr (by have:=pk.k0;omega))).1
theorem mk_r (h:KnB S hs ks)(pk:PkOk k D ns rs)(f:FtR k D ns rs S ks S' 0){S2:Arn}{o:LI}(r:MkR k ns rs S' ks S2 o) :
  ∃ lk ix m,Yx S ks [] lk/\(lk.length:Int)=k/\MkO (rdS S m) hs lk ns rs S2 ix o/\m<=200000000000/\∃ kx,MkP (rdS S m) hs k lk ns rs kx:=by
 obtain⟨lk,kx,m,n,e,d,kr,ft,fr,es,hm⟩:=Ywn pk f;subst es;obtain⟨lk',n',eo,e2⟩:=r.ex;have n2:Yx S ks [] lk':=n';obtain rfl:=n.det n2;rw[YR] at eo e2;have p:=Yrw h pk n e kr ft fr (m:=m+lk.length) (by have:=pk.k0;omega);have q:=(Yrv p).2;rw[<-eo,<-e2] at q;exact⟨lk,_,_,n,e,q,by have:=pk.k0;omega,kx,p⟩
theorem im_b (h:KnB S hs ks)(pk:PkOk k D ns rs){b:LI}(eb:b=pkE k D ns rs)(ab:allB b)(bl:b.length<=1000000000):ImB S b ks:=by
 have e:pkD b=(0,⟨k,D,ns,rs⟩):=by rw[eb];exact Yhe pk
 refine⟨ab,bl,fun p hp=>?_,fun p S' hp f=>?_⟩
 .rw[e] at hp;injection hp with _ hp
  subst hp;exact Ywm h pk
 .rw[e] at hp;injection hp with _ hp
  subst hp;exact mk_b h pk f
end
section
def exO (t:Tr):ExtT:=⟨true,t.size,hdKy t.list,lsKy t.list⟩
theorem Ywo:∀ {l:LE},l≠[]->∃ z∈l,z.1=lsKy l:=by
 intro l h;cases e:l.getLast? with
 | none=>exact absurd (List.getLast?_eq_none_iff.1 e) h
 | some y=>exact⟨y,List.mem_of_getLast? e,by unfold lsKy;rw[e];rfl⟩
theorem Ywp:∀ {l:LE},l≠[]->∃ z∈l,z.1=hdKy l
 | [],h=>absurd rfl h
 | y::_,_=>⟨y,ZP ..,rfl⟩
def KdX (xs:List ExtT)(r:Int)(a:Tr):Prop:=(r=0/\a = .nil)∨(r≠0/\a.list≠[]/\refX xs r=exO a)
theorem KdX.size {xs:List ExtT}{r:Int}{a:Tr}(h:KdX xs r a):(refX xs r).size=a.size:=by
 rcases h with ⟨rfl,rfl⟩|⟨_,_,e⟩
 .rfl
 .rw[e];rfl
theorem YkJ {xs:List ExtT}{x:PNT}{a b:Tr}{v:Int}(ha:KdX xs x.left a)(hb:KdX xs x.right b)(asc:Asc (Tr.node a x.key v b).list)(bal:(Tr.node a x.key v b).Bal):bldX xs x=exO (.node a x.key v b):=by
 obtain⟨_,_,la,lb⟩:=YO asc
 have t1:bT1 xs x=true:=by
  unfold bT1;rcases ha with ⟨c,_⟩|⟨c,n,e⟩
  .rw[Zj c]
  .rw[Zf c,e];obtain⟨z,hz,ez⟩:=Ywo n;have:=la z hz;show (true && decide (lsKy a.list<x.key))=true;rw[ZcK];exact Zat (by omega)
 have t2:bT2 xs x=true:=by
  unfold bT2;rcases hb with ⟨c,_⟩|⟨c,n,e⟩
  .rw[Zj c];exact t1
  .rw[Zf c,e,t1];obtain⟨z,hz,ez⟩:=Ywp n;have:=lb z hz;show (true && (true && decide (x.key<hdKy b.list)))=true;rw[ZcK,ZcK];exact Zat (by omega)
 have t3:bT3 xs x=true:=by
  unfold bT3;rw[t2,ZcK,ha.size,hb.size];exact Zat bal.1
 unfold bldX;rw[t3,Zj rfl,ha.size,hb.size];unfold exO;show ExtT.mk _ _ _ _=ExtT.mk _ ((1+a.size+b.size:Nat):Int) (hdKy (_++_::_)) (lsKy (_++_::_));rw[Yrr,Yrs]
 congr 1
 .omega
 .unfold bFs;rcases ha with ⟨c,e⟩|⟨c,n,e⟩
  .rw[Zj c,e];rfl
  .rw[Zf c,Zf n,e];rfl
 .unfold bLs;rcases hb with ⟨c,e⟩|⟨c,n,e⟩
  .rw[Zj c,e];rfl
  .rw[Zf c,Zf n,e];rfl
variable {A:Arn} {hs ks rs lk la:LI}
theorem YkK (w:Wf A hs){i:Int}{t:Tr}(u:A.us i=true)(r:Rep A t i):trA A i = .node (trA A (lfA A i)) (A.nd i).key (A.nd i).value (trA A (rgA A i)):=by
 rw[Ycs w r];cases t with
 | nil =>
  have e:i=0:=r;rw[e,w.us0 (ZE 0)] at u;cases u
 | node a k v b =>
  obtain⟨_,e1,e2,ra,rb⟩:=r;rw[<-e1,<-e2,show lfA A i=(A.nd i).left from rfl,show rgA A i=(A.nd i).right from rfl,Ycs w ra,Ycs w rb]
theorem YkL (w:Wf A hs):trA A 0 = .nil:=Ycs w (show Rep A .nil 0 from rfl)
theorem Ydr {l:LI}{p:Nat}{x:Int}(h:l[p]?=some x):getB l p=x:=by
 show l.getD p 0=x;rw[Zb,h];rfl
theorem Yds {l:LI}{p:Nat}(h:p<l.length):l[p]?=some (getB l p):=by
 show l[p]?=some (l.getD p 0);rw[Zb,Zk h];rfl
theorem YkM {l:LI}{f:Int->ExtT}{p:Nat}(h:p<l.length):getX (l.map f) p=f (getB l p):=by
 show (l.map f).getD p _=f (l.getD p 0);rw[Zb,Zb,Zv,Zk h];rfl
theorem Ybe {l:LI}{f:Int->PNT}{p:Nat}(h:p<l.length):getN (l.map f) p=f (getB l p):=by
 show (l.map f).getD p _=f (l.getD p 0);rw[Zb,Zb,Zv,Zk h];rfl
theorem YaK {l:LI}{k i:Nat}:getB (l.drop k) i=getB l (k+i):=by
 show (l.drop k).getD i 0=l.getD (k+i) 0;rw[Zb,Zb,ZaV]
theorem YiC {l:LI}{k i:Nat}(h:i<k):getB (l.take k) i=getB l i:=by
 show (l.take k).getD i 0=l.getD i 0;rw[Zb,Zb,Zae,Zj h]
structure ExA (A:Arn) (hs ks rs lk la:LI):Prop where
 wf:Wf A hs
 kv:KnV A (ks++rs)
 nk:Yx A ks [] lk
 na:Yx A rs lk la
theorem ExA.all (h:ExA A hs ks rs lk la):Yx A (ks++rs) [] la:=h.nk.app h.na
theorem ExA.ls (h:ExA A hs ks rs lk la):LsN A la:=LsN.of h.wf h.all
theorem ExA.few (h:ExA A hs ks rs lk la):la.length<=65536:=by
 have:=Ych h.wf h.ls.nd h.ls.used;have:=h.wf.n2;omega
theorem ExA.le (h:ExA A hs ks rs lk la):lk.length<=la.length:=by
 obtain⟨x,e⟩:=h.na.pre;rw[e,Zh];omega
theorem ExA.old (h:ExA A hs ks rs lk la){p:Nat}(hp:p<lk.length):getB la p=getB lk p:=by
 obtain⟨x,e⟩:=h.na.pre;rw[e,Ybp hp]
theorem ExA.good (h:ExA A hs ks rs lk la){i:Int}(hi:i∈la):KnT A la (trA A i) i:=h.kv.tree h.wf h.all hi
theorem ExA.kd (h:ExA A hs ks rs lk la){p q:Nat}{x:Int}{xs:List ExtT}(hx:KidN la p x)(hq:p<=q)(hl:q<=la.length)(e:xs=(la.take q).map fun i=>exO (trA A i)):KdX xs (plcN la x) (trA A x):=by
 rcases hx with ⟨e1,e2⟩|⟨c,r,hr,e1,e2⟩
 .exact .inl ⟨e2,by rw[e1,YkL h.wf]⟩
 .have g:=h.good (ZD e1);refine .inr ⟨by omega,fun q=>?_,?_⟩
  .have:=Yha.1 q;have:=g.pos;omega
  .rw[show refX xs (plcN la x)=getX xs (plcN la x-1).toNat from Zf (by omega),e2,show ((r:Int)+1-1).toNat=r by omega,e,YkM (by rw[ZG];omega),YiC (by omega),Ydr e1]
theorem ExA.ext (h:ExA A hs ks rs lk la){kx:List ExtT}(hk:kx=lk.map fun i=>exO (trA A i)):∀ j,lk.length+j<=la.length->bldL kx ((la.drop lk.length).map (nodP A la)) j=(la.take (lk.length+j)).map fun i=>exO (trA A i)
 | 0,_=>by
  obtain⟨x,e⟩:=h.na.pre;show kx=_;rw[hk,Zbb,e,Zbz]
 | j+1,hj=>by
  have ih:=ExA.ext h hk j (by omega);have hj2:j<((la.drop lk.length).map (nodP A la)).length:=by rw[Zu,Zy];omega
  have e1:getN ((la.drop lk.length).map (nodP A la)) j=nodP A la (getB la (lk.length+j)):=by
   rw[Ybe (by rw[Zy];omega),YaK]
  rw[YcM kx hj2,e1,ih,show lk.length+(j+1)=lk.length+j+1 by omega,Yo (by omega),ZX]
  congr 1
  have hg:=Yds (l:=la) (p:=lk.length+j) (by omega);obtain⟨u,k1,k2⟩:=h.ls.kids h.wf hg;have g:=h.good (ZD hg);have tn:=YkK h.wf u g.rep;rw[ZcI]
  congr 1
  have ga:=g.asc;have gb:=g.bal;rw[tn] at ga gb ⊢;exact YkJ (x:=nodP A la (getB la (lk.length+j))) (h.kd k1 (Zw _) (by omega) rfl) (h.kd k2 (Zw _) (by omega) rfl) ga gb
theorem Ytk (h:ExA A hs ks rs lk la){i:Int}{acc a:LI}(n:NumG A.us (lfA A) (rgA A) i acc a):(∃ z,la=a++z)->lk.length<=acc.length->(i=0∨A.us i=true)->∀ f,(plcN la i-lk.length).toNat<f →
  vsG lk.length ((la.drop lk.length).map (nodP A la)) f (acc.length+1) (plcN la i)=(true,(a.length:Int)+1):=by
 induction n with
 | @skip i acc c =>
  intro ⟨z,ez⟩ hl hi f hf;cases f with
  | zero=>omega
  | succ f =>
  refine Zj ?_;rcases c with c|c
  .have:i∉la:=fun q=>by rw[h.ls.used i q] at c;cases c
   rw[YaI this];omega
  .obtain⟨p,hp⟩:=ZaZ c;have pl:p<acc.length:=(Zt.1 hp).1;rw[Yax h.ls.nd (show la[p]?=some i by rw[ez,ZB pl];exact hp)];omega
 | @go i acc a1 a2 u c n1 n2 ih1 ih2 =>
  intro ⟨z,ez⟩ hl hi f hf;obtain⟨x1,e1⟩:=n1.pre;obtain⟨x2,e2⟩:=n2.pre;have l2:lk.length<=a2.length:=by rw[e2,e1];simp only[Zh];omega
  have l1:lk.length<=a1.length:=by rw[e1];simp only[Zh];omega
  have la12:acc.length<=a2.length:=by rw[e2,e1];simp only[Zh];omega
  have hg:la[a2.length]?=some i:=by rw[ez,ZB (by simp),Zba]
  have pl:=Yax h.ls.nd hg;have al:a2.length<la.length:=(Zt.1 hg).1;cases f with
  | zero=>omega
  | succ f =>
  obtain⟨_,k1,k2⟩:=h.ls.kids h.wf hg
  have ec:getN ((la.drop lk.length).map (nodP A la)) (plcN la i-lk.length-1).toNat=nodP A la i:=by
   rw[Ybe (by rw[Zy];omega),YaK,show lk.length+(plcN la i-lk.length-1).toNat=a2.length by omega,Ydr hg]
  have kp:∀ {x:Int},KidN la a2.length x->plcN la x<=a2.length/\(x=0∨A.us x=true):=fun {x} k=>by
   rcases k with ⟨q1,q2⟩|⟨_,p,hp,q1,q2⟩
   .exact⟨by omega,.inl q1⟩
   .exact⟨by omega,.inr (h.ls.used x (ZD q1))⟩
  have v1:=ih1 ⟨x2++([i]++z),by rw[ez,e2];simp⟩ hl (kp k1).2 f (by have:=(kp k1).1;omega);have v2:=ih2 ⟨[i]++z,by rw[ez];simp⟩ l1 (kp k2).2 f (by have:=(kp k2).1;omega)
  have e:vsG lk.length ((la.drop lk.length).map (nodP A la)) (f+1) (acc.length+1) (plcN la i)=match vsG lk.length ((la.drop lk.length).map (nodP A la)) f (acc.length+1) (getN ((la.drop lk.length).map (nodP A la)) (plcN la i-lk.length-1).toNat).left with
     | (false,n1)=>(false,n1)
     | (true,n1)=>match vsG lk.length ((la.drop lk.length).map (nodP A la)) f n1 (getN ((la.drop lk.length).map (nodP A la)) (plcN la i-lk.length-1).toNat).right with
      | (false,n2)=>(false,n2)
      | (true,n2)=>if n2=plcN la i then (true,n2+1) else (false,n2):=Zf (by omega)
  rw[e,ec];rw[show (nodP A la i).left=plcN la (lfA A i) from rfl,show (nodP A la i).right=plcN la (rgA A i) from rfl,v1];dsimp only;rw[v2];dsimp only;rw[Zj (by omega),Zh,Zr]
  rfl
theorem Ytl (h:ExA A hs ks rs lk la){f:Nat}(hf:la.length-lk.length<f){r acc a:LI}(n:NumsG A.us (lfA A) (rgA A) r acc a):(∃ z,la=a++z)->lk.length<=acc.length->(∀ i∈r,i=0∨A.us i=true) →
  vsL lk.length ((la.drop lk.length).map (nodP A la)) f (r.map (plcN la)) (acc.length+1)=(true,(a.length:Int)+1):=by
 induction n with
 | nil=>intro _ _ _;rfl
 | @cons i r acc a1 a2 n1 n2 ih =>
  intro ⟨z,ez⟩ hl hr;obtain⟨x1,e1⟩:=n1.pre;obtain⟨x2,e2⟩:=n2.pre;have pr:=(YD la i).2;have v:=Ytk h n1 ⟨x2++z,by rw[ez,e2];simp⟩ hl (hr i (by simp)) f (by omega);rw[ZaA];unfold vsL;rw[v];exact ih ⟨z,ez⟩ (by rw[e1,Zh];omega) fun x hx=>hr x (Zz _ hx)
theorem ExA.live (h:ExA A hs ks rs lk la):∀ i∈ks++rs,i=0∨A.us i=true:=fun i hi=>by
 obtain⟨t,r,_⟩:=h.kv i hi;exact r.us
theorem ExA.fits (h:ExA A hs ks rs lk la){lkB:LI}{kx:List ExtT}{D fr:Int}(hl:lkB.length=lk.length)(hk:kx=lk.map fun i=>exO (trA A i))(hf:((la.length-lk.length:Nat):Int)<=fr) :
  ftE lk.length D ((la.drop lk.length).map (nodP A la)) (rs.map (plcN la)) lkB D fr kx=0:=by
 have le:=h.le;have nl:((la.drop lk.length).map (nodP A la)).length=la.length-lk.length:=by rw[Zu,Zy]
 unfold ftE;rw[Zf (by rw[hl];simp),Zf (by rw[nl];omega)];have ex:=h.ext hk (la.length-lk.length) (by omega);rw[show lk.length+(la.length-lk.length)=la.length by omega,ZJ] at ex
 have rt:rtX lk.length (bldL kx ((la.drop lk.length).map (nodP A la)) ((la.drop lk.length).map (nodP A la)).length) (rs.map (plcN la))=true:=by
  unfold rtX;rw[nl,ex];refine Zao.2 fun r hr=>?_
  obtain⟨i,_,rfl⟩:=ZF.1 hr
  by_cases c:(lk.length:Int)<plcN la i
  .rw[YkM (by have:=(YD la i).2;omega)];show (_ || true)=true;rw[Bool.or_true]
  .rw[decide_eq_false c];rfl
 rw[Zf (by rw[rt];simp)];have vl:=Ytl h (f:=fuP lk.length ((la.drop lk.length).map (nodP A la))) (by unfold fuP;rw[nl];omega) h.na ⟨[],by simp⟩ (Zw _) fun i hi=>h.live i (Zaf _ hi)
 rw[Zj (by rw[vl,nl];congr 1;omega)]
theorem KxR.is (h:ExA A hs ks rs lk la){kx:List ExtT}(kr:KxR A lk kx):kx=lk.map fun i=>exO (trA A i):=by
 refine Zbd (by rw[kr.len,Zu]) fun p h1 h2=>?_
 have hp:p<lk.length:=by rw[<-kr.len];exact h1
 obtain⟨t,r,_,_,e⟩:=kr.at_ p hp;rw[List.getElem_map];have e1:getX kx p=kx[p]:=by show kx.getD p _=_;rw[Zb,Zk h1];rfl
 have e2:getB lk p=lk[p]:=by show lk.getD p _=_;rw[Zb,Zk hp];rfl
 rw[<-e1,<-e2,e];unfold exO;rw[Ycs h.wf r]
end
section
variable {S S1 S2:Arn} {hs ks rs lk la x o:LI} {D D' e:Int} {m n:Nat}
theorem DgR.det (h:DgR S ks D)(h':DgR S ks D'):D=D':=by
 rcases h with ⟨a,b⟩|⟨a,l,nl,b⟩
 .rcases h' with ⟨_,d⟩|⟨c,_⟩
  .rw[b,d]
  .exact absurd a c
 .rcases h' with ⟨c,_⟩|⟨_,l',nl',d⟩
  .exact absurd c a
  .obtain rfl:=nl.det nl';rw[b,d]
theorem DgR.rng (h:DgR S ks D):0<=D/\D<4294967296:=by
 rcases h with ⟨_,b⟩|⟨_,l,_,b⟩
 .rw[b];omega
 .rw[b];exact YcI _
abbrev nsA (S:Arn)(lk la:LI):LP:=(la.drop lk.length).map (nodP S la)
theorem Yfl:(nsA S lk la).length=la.length-lk.length:=by unfold nsA;rw[Zu,Zy]
theorem ExA.pk (h:ExA S hs ks rs lk la)(ky:KyN S (ks++rs))(hD:0<=D/\D<4294967296)(rl:rs.length<=4096):PkOk lk.length D (nsA S lk la) (rs.map (plcN la)):=by
 have few:=h.few;have le:=h.le;refine⟨by omega,by rw[Yfl];omega,by rw[Zu];exact rl,hD,fun i hi=>?_,fun r hr=>?_⟩
 .rw[Yfl] at hi;have hg:=Yds (l:=la) (p:=lk.length+i) (by omega);rw[show getN (nsA S lk la) i=nodP S la (getB la (lk.length+i)) from by rw[Ybe (by rw[Zy];omega),YaK]];obtain⟨_,k1,k2⟩:=h.ls.kids h.wf hg
  have kp:∀ {x:Int},KidN la (lk.length+i) x->plcN la x<=(lk.length:Int)+i:=fun {x} k=>by
   rcases k with ⟨_,q⟩|⟨_,p,hp,_,q⟩<;>omega
  exact⟨Yjz (ky la h.all) few (ZD hg),kp k1,kp k2⟩
 .obtain⟨i,_,rfl⟩:=ZF.1 hr;have:=YD la i;rw[Yfl];omega
structure RtB (S:Arn) (hs ks rs:LI):Prop where
 kn:KnB S hs ks
 kv:KnV S (ks++rs)
 ky:KyN S (ks++rs)
 av:allV rs
 rl:rs.length<=4096
theorem RtB.wr (h:RtB S hs ks rs):WrB S rs ks/\S.reads<=1000000000000000000/\rs.length<=4096 :=
 ⟨⟨⟨hs,h.kn.wf⟩,by have:=h.kn.rd;omega,by have:=h.rl;omega,h.kn.kl,h.av,h.kn.av,h.ky⟩,by have:=h.kn.rd;omega,h.rl⟩
theorem KnB.rdm (h:KnB S hs ks)(hm:S.reads+m<=100000000000000000):KnB (rdS S m) hs ks :=
 ⟨h.wf.rd (by omega),h.hl,h.kv.rd,h.av,h.ky,h.kl,hm⟩
structure RtP (S:Arn) (hs ks rs lk la:LI) (D:Int) (o:LI):Prop where
 ex:ExA S hs ks rs lk la
 dg:DgR S ks D
 eo:o=pkE lk.length D (nsA S lk la) (rs.map (plcN la))
 pk:PkOk lk.length D (nsA S lk la) (rs.map (plcN la))
 dec:pkD o=(0,⟨lk.length,D,nsA S lk la,rs.map (plcN la)⟩)
theorem RtB.out (h:RtB S hs ks rs)(w:WrR S rs ks n S1 o):(∃ m,S1=rdS S m/\m<=n)/\allB o/\o.length<=8000000/\∃ lk la D,RtP S hs ks rs lk la D o:=by
 obtain⟨lk,la,D,n1,n2,d,eo⟩:=w.ex;have ex:ExA S hs ks rs lk la:=⟨h.kn.wf,h.kv,n1,n2⟩
 have pk:=ex.pk h.ky d.rng h.rl;have eo':o=pkE lk.length D (nsA S lk la) (rs.map (plcN la)):=eo;exact⟨w.st,w.ab.1,w.ab.2,lk,la,D,ex,d,eo',pk,by rw[eo'];exact Yhe pk⟩
theorem RtP.imB (p:RtP S hs ks rs lk la D o)(h:RtB S hs ks rs)(hm:S.reads+m<=100000000000000000)(ab:allB o)(bl:o.length<=8000000):ImB (rdS S m) o ks :=
 im_b (h.kn.rdm hm) p.pk p.eo ab (by omega)
theorem RtP.fit (p:RtP S hs ks rs lk la D o)(fr:((la.length-lk.length:Nat):Int)<=S.free)(f:FtR lk.length D (nsA S lk la) (rs.map (plcN la)) (rdS S m) ks S1 e):e=0:=by
 obtain⟨lk',dg,kx,n',d,kr,ee⟩:=f.ex;have n2:Yx S ks [] lk':=n';obtain rfl:=p.ex.nk.det n2;have d2:DgR S ks dg:=d;obtain rfl:=p.dg.det d2
 have kr2:KxR S lk kx:=by
  have q:=kr rfl
  exact⟨q.len,fun i hi=>by
   obtain⟨t,r,a,b,c⟩:=q.at_ i hi;exact⟨t,Rep.same (S:=rdS S m) (S':=S) (fun _=>rfl) (fun _=>rfl) r,a,b,c⟩⟩
 rw[ee];exact p.ex.fits rfl (KxR.is p.ex kr2) fr
theorem RtP.done (p:RtP S hs ks rs lk la D o)(h:RtB S hs ks rs)(hm:S.reads+m<=100000000000000000)(f:FtR lk.length D (nsA S lk la) (rs.map (plcN la)) (rdS S m) ks S1 0)(r:MkR lk.length (nsA S lk la) (rs.map (plcN la)) S1 ks S2 x) :
  ∃ ix q,MkO (rdS S (m+q)) hs lk (nsA S lk la) (rs.map (plcN la)) S2 ix x/\q<=200000000000/\∃ kx,MkP (rdS S (m+q)) hs lk.length lk (nsA S lk la) (rs.map (plcN la)) kx:=by
 obtain⟨lk',ix,q,n',_,mo,hq,kx,mp⟩:=mk_r (h.kn.rdm hm) p.pk f r;have n2:Yx S ks [] lk':=n';obtain rfl:=p.ex.nk.det n2;rw[YR] at mo mp;exact⟨ix,q,mo,hq,kx,mp⟩
theorem ExA.self (h:ExA S hs ks ks lk la):la=lk:=by
 have:∀ {r acc:LI},(∀ i∈r,S.us i=true->i∈acc)->Yx S r acc acc:=by
  intro r
  induction r with
  | nil=>intro acc _;exact .nil
  | cons i r ih =>
   intro acc hi;refine .cons (.skip ?_) (ih fun x hx=>hi x (Zz _ hx));cases u:S.us i with
   | false=>exact .inl rfl
   | true=>exact .inr (hi i (by simp) u)
 exact (h.na.det (this fun i hi u=>h.nk.roots i hi u))
end
section
variable {S S1 S2:Arn} {hs ks rs lk la x o:LI} {D:Int} {m:Nat}
theorem Ywq (S:Arn)(m:Nat):trA (rdS S m)=trA S:=by
 funext i
 unfold trA
 have:(fun t=>Rep (rdS S m) t i)=fun t=>Rep S t i:=by
  funext t
  exact propext ⟨fun h=>Rep.same (S:=rdS S m) (S':=S) (fun _=>rfl) (fun _=>rfl) h,fun h=>Rep.same (S:=S) (S':=rdS S m) (fun _=>rfl) (fun _=>rfl) h⟩
 rw[this]
theorem Yrx (S:Arn)(m:Nat)(l:LI):ktA (rdS S m) l=ktA S l:=by unfold ktA;rw[Ywq]
theorem Yqn {l:LI}{f:Int->Tr}{p:Nat}(h:p<l.length):getT (l.map f) p=f (getB l p):=by
 show (l.map f).getD p _=f (l.getD p 0);rw[Zb,Zb,Zv,Zk h];rfl
theorem ExA.ref (h:ExA S hs ks rs lk la){p q:Nat}{x:Int}{ts:List Tr}(hx:KidN la p x)(hq:p<=q)(hl:q<=la.length)(e:ts=(la.take q).map (trA S)):refT ts (plcN la x)=trA S x:=by
 rcases hx with ⟨e1,e2⟩|⟨c,r,hr,e1,e2⟩
 .rw[e2,e1,YkL h.wf];rfl
 .rw[show refT ts (plcN la x)=getT ts (plcN la x-1).toNat from Zf (by omega),e2,show ((r:Int)+1-1).toNat=r by omega,e,Yqn (by rw[ZG];omega),YiC (by omega),Ydr e1]
theorem ExA.trs (h:ExA S hs ks rs lk la):∀ j,lk.length+j<=la.length->YK (ktA S lk) (nsA S lk la) j=(la.take (lk.length+j)).map (trA S)
 | 0,_=>by
  obtain⟨x,e⟩:=h.na.pre;show lk.map (trA S)=_;rw[Zbb,e,Zbz]
 | j+1,hj=>by
  have ih:=ExA.trs h j (by omega)
  have e1:getN (nsA S lk la) j=nodP S la (getB la (lk.length+j)):=by
   rw[Ybe (by rw[Zy];omega),YaK]
  rw[YaP _ (by rw[Yfl];omega),e1,ih,show lk.length+(j+1)=lk.length+j+1 by omega,Yo (by omega),ZX]
  congr 1
  have hg:=Yds (l:=la) (p:=lk.length+j) (by omega);obtain⟨u,k1,k2⟩:=h.ls.kids h.wf hg;have g:=h.good (ZD hg);rw[ZcI]
  congr 1
  rw[YkK h.wf u g.rep];unfold bldT
  rw[show (nodP S la (getB la (lk.length+j))).left=plcN la (lfA S (getB la (lk.length+j))) from rfl,show (nodP S la (getB la (lk.length+j))).right=plcN la (rgA S (getB la (lk.length+j))) from rfl,
   h.ref k1 (Zw _) (by omega) rfl,h.ref k2 (Zw _) (by omega) rfl]
  rfl
theorem Ytm {i:Int}{acc a:LI}(n:NumA S i acc a):∀ {t:Tr},Rep S t i->S.us 0=false->a.length<=acc.length+t.size:=by
 induction n with
 | skip _=>intro t _ _;omega
 | @go i acc a1 a2 u c n1 n2 ih1 ih2 =>
  intro t r z;cases t with
  | nil =>
   have e:i=0:=r;rw[e,z] at u;cases u
  | node l k v m =>
   have h1:=ih1 r.2.2.2.1 z;have h2:=ih2 r.2.2.2.2 z;show (a2++[i]).length<=acc.length+(1+l.size+m.size);rw[Zh,Zr];omega
theorem Yqo {acc a:LI}(n:Yx S rs acc a)(z:S.us 0=false)(h:∀ r∈rs,∃ t,Rep S t r):a.length<=acc.length+(rs.map fun r=>(trA S r).size).sum:=by
 induction n with
 | nil=>simp
 | @cons i r acc a1 a2 n1 n2 ih =>
  obtain⟨t,rp⟩:=h i (by simp);have h1:=Ytm n1 rp z;have h2:=ih fun x hx=>h x (Zz _ hx)
  have e:trA S i=t:=Rep.inj z (Classical.epsilon_spec (p:=fun t=>Rep S t i) ⟨t,rp⟩) rp;rw[ZaA,List.sum_cons,e];omega
def RngL (l:LE):Prop:=∀ z∈l,rngI z.1/\rngI z.2
theorem Ywr (w:Wf S hs)(h:∀ r∈rs,∃ t,Rep S t r/\RngL t.list):KyN S rs:=fun l n=>by
 have q:∀ i∈l,∃ t,Rep S t i/\RngL t.list:=NumsG.reach (P:=fun i=>∃ t,Rep S t i/\RngL t.list) (fun i ⟨t,r,g⟩ u=>by
  cases t with
  | nil =>
   have e:i=0:=r;rw[e,w.us0 (ZE 0)] at u;cases u
  | node a k v b =>
   obtain⟨_,_,_,ra,rb⟩:=r;exact⟨⟨a,ra,fun z hz=>g z (ZZ _ hz)⟩,⟨b,rb,fun z hz=>g z (Zaf _ (Zz _ hz))⟩⟩) n h (fun j hj=>by simp at hj)
 intro i hi;have u:=n.used (fun j hj=>by simp at hj) i hi;obtain⟨t,r,g⟩:=q i hi;cases t with
 | nil =>
  have e:i=0:=r;rw[e,w.us0 (ZE 0)] at u;cases u
 | node a k v b =>
  obtain⟨_,e1,e2,_⟩:=r;have:=g (k,v) (Zaf _ (ZP ..));rw[e1,e2];exact this
structure ImO (S:Arn) (hs ks rs lk la nw:LI) (m:Nat) (S2:Arn) (x:LI):Prop where
 ex:ExA S hs ks rs lk la
 ax:∃ z,la=lk++z/\z.length=nw.length
 ex_:x=rs.map fun i=>getB (0::(lk++nw)) (plcN la i).toNat
 wf:Wf S2 (x.reverse++hs)
 rep:∀ i,i=0∨i∈la->Rep S2 (trA S i) (getB (0::(lk++nw)) (plcN la i).toNat)
 nd:∀ p,p<nw.length->(S2.nd (getB nw p)).left=getB (0::(lk++nw)) (plcN la (lfA S (getB la (lk.length+p)))).toNat/\(S2.nd (getB nw p)).right=getB (0::(lk++nw)) (plcN la (rgA S (getB la (lk.length+p)))).toNat
 us:∀ i,S2.us i=true↔S.us i=true∨i∈nw
 fresh:∀ i∈nw,S.us i=false
 nod:nw.Nodup
 old:∀ i,S.us i=true->S2.nd i=S.nd i/\S2.gn i=S.gn i
 stay:Stay S S2 hs
 nu:S2.nu=S.nu+nw.length
 ul:S2.used.length=S.used.length
 rd:S2.reads=S.reads+m
 hm:m<=300000000000
theorem Yqp {l:LI}{i:Int}(h0:(0:Int)∉l)(h:i=0∨i∈l):KidN l l.length i:=by
 rcases h with h|h
 .exact .inl ⟨h,by rw[h];exact YaI h0⟩
 .obtain⟨a,b⟩:=YgK h;have:=(YD l i).2;refine .inr ⟨fun q=>h0 (q ▸ h),(plcN l i-1).toNat,by omega,a,by omega⟩
theorem RtP.imO (p:RtP S hs ks rs lk la D o)(h:RtB S hs ks rs)(hm:S.reads+m<=90000000000000000)(hm2:m<=1000000000)(f:FtR lk.length D (nsA S lk la) (rs.map (plcN la)) (rdS S m) ks S1 0)(r:MkR lk.length (nsA S lk la) (rs.map (plcN la)) S1 ks S2 x) :
  ∃ nw q,ImO S hs ks rs lk la nw q S2 x:=by
 obtain⟨ix,q,mo,hq,_⟩:=p.done h (by omega) f r;obtain⟨nw,e,l,us,fresh,nod⟩:=mo.ix_;have le:=p.ex.le
 have l0:(0:Int)∉la:=fun c=>by
  have:=p.ex.ls.used 0 c;rw[p.ex.wf.us0 (ZE 0)] at this;cases this
 have nl:=Yfl (S:=S) (lk:=lk) (la:=la);obtain⟨z,ez⟩:=p.ex.na.pre;have zl:z.length=nw.length:=by rw[l,nl,ez,Zh];omega
 have tt:=p.ex.trs (la.length-lk.length) (by omega);rw[show lk.length+(la.length-lk.length)=la.length by omega,ZJ] at tt
 have hn:∀ c,c<nw.length->getB ix (lk.length+1+c)=getB nw c:=fun c hc=>by
  rw[e,show lk.length+1+c=(lk.length+c)+1 by omega];exact YaD
 refine⟨nw,m+q,p.ex,⟨z,ez,zl⟩,?_,mo.wf,fun i hi=>?_,fun c hc=>?_,us,fresh,nod,mo.old,?_,?_,mo.ul,?_,by omega⟩
 .rw[mo.eo,e];unfold rtG;rw[List.map_map];rfl
 .have pr:=YD la i;have:=mo.rep (plcN la i) pr.1 (by rw[nl];omega);rw[Yrx,nl,tt,e] at this;rw[p.ex.ref (Yqp l0 hi) (Zw _) (Zw _) (by rw[ZJ])] at this;exact this
 .have:=mo.nd c (by rw[<-l];exact hc);rw[hn c hc,e,show getN (nsA S lk la) c=nodP S la (getB la (lk.length+c)) from by rw[Ybe (by rw[Zy];omega),YaK]] at this;exact this
 .exact Stay.trans (YmI S (m+q) hs) mo.stay
 .rw[mo.nu,<-l];rfl
 .rw[mo.rd];rfl
end
end Go.Proofs.YtedfbafngmicpaaGreat.Sx
