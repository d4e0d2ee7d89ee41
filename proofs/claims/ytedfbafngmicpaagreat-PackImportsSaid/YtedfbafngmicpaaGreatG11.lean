/- Import of the program and of the reference: the same error. No program in sight. -/
import Derived.Test.YtedfbafngmicpaaGreatG0
import Derived.Test.YtedfbafngmicpaaGreatG10
import Derived.Test.YtedfbafngmicpaaGreatG8
import Derived.Test.YtedfbafngmicpaaGreatG7
import Derived.Test.YtedfbafngmicpaaGreatG4
import Derived.Test.YtedfbafngmicpaaGreatG5
import Derived.Test.YtedfbafngmicpaaGreatG6
import Derived.Test.YtedfbafngmicpaaGreatG9
noncomputable section
open Go.IntKind renaming i64 → Za,u32 → Ze,u64 → Zd
open Go.Value renaming bool → Zi,int → Zm
open List renaming take → Zn
namespace Go.Proofs.YtedfbafngmicpaaGreat.Sx
open Go
section
abbrev eNd (l:List Td)(i:Nat):Td:=l.getD i ⟨0,0,0,0,0,0,0,0⟩
structure ZIm where
 p:PKT
 lk:LI
 i:Nat
 x:Td
structure XIm (P:ZIm->Prop) where
 z:ZIm
 h:P z
structure ImS (d:LS) (b ks:LI) (p:PKT) (lk:LI):Prop where
 pk:pkD b=(0,p)
 nk:NumsD d ks [] lk
 kl:p.known=lk.length
 dg:DgD d ks p.digest
inductive ImP8 (d:LS) (fl b ks:LI):Int->LS->LI->Prop where
 | bad {e:Int} {p:PKT}:pkD b=(e,p)->e≠0->ImP8 d fl b ks e [] []
 | stale {p:PKT} {lk:LI}:pkD b=(0,p)->NumsD d ks [] lk->(p.known≠lk.length∨∃ D,DgD d ks D/\p.digest≠D)->ImP8 d fl b ks 11 [] []
 | full {p:PKT} {lk:LI}:ImS d b ks p lk->(fl.length:Int)<p.nodes.length->ImP8 d fl b ks 2 [] []
 | tree {p:PKT} {lk:LI} {r e:Int}:ImS d b ks p lk->p.nodes.length<=fl.length->r∈p.roots->CkG (allR d lk p.nodes) (ixV lk d.length r) e->e≠0->ImP8 d fl b ks 13 [] []
 | odd {p:PKT} {lk o:LI}:ImS d b ks p lk->p.nodes.length<=fl.length->(∀ r∈p.roots,CkG (allR d lk p.nodes) (ixV lk d.length r) 0)->ExD (allR d lk p.nodes) (rtR d lk p.roots) ks o->o≠b->ImP8 d fl b ks 13 [] []
 | ok {p:PKT} {lk:LI}:ImS d b ks p lk->p.nodes.length<=fl.length->(∀ r∈p.roots,CkG (allR d lk p.nodes) (ixV lk d.length r) 0)->ExD (allR d lk p.nodes) (rtR d lk p.roots) ks b->ImP8 d fl b ks 0 (allR d lk p.nodes) (rtR d lk p.roots)
structure ImB8 (d:LS) (fl b ks:LI):Prop where
 ab:allB b
 bl:b.length<=1000000000
 w:DgW d
 kd:KdD d
 cl:ClD d
 dl:d.length<=50000
 sz:∀ s∈d,0<=s.node.size/\s.node.size<=2147483647
 fl_:fl.length<=50000
 kl:ks.length<=90000
 ki:inL d ks
 ky:KyD d ks
abbrev hIa (d:LS)(fl b ks:LI):LH C0:=[.row false .slot d,.row false .u32 fl,.row false .u8 b,.row false .u32 ks]
abbrev hI0 (d:LS)(fl b ks:LI)(p:PKT):LH C0:=hIa d fl b ks++[.box [.slc 0,.slc 1],.box [.slc 6,.slc 7],.row true .slot [],.row true .u32 [],.box [vU64 p.known,vU64 (p.nodes.length:Int),vU64 (p.roots.length:Int),vU64 p.digest,.slc 9,.slc 10,.slc 11,.slc 12],.row true .node (ndsR p.nodes),.row true .u64 (lfsR p.nodes),.row true .u64 (rgsR p.nodes),.row true .u64 p.roots]
abbrev hI1 (d:LS)(fl b ks:LI)(p:PKT)(A:LS)(ix:LI):LH C0:=hIa d fl b ks++[.box [.slc 5,.slc 6],.row true .slot [],.row true .u32 [],.box [vU64 p.known,vU64 (p.nodes.length:Int),vU64 (p.roots.length:Int),vU64 p.digest,.slc 8,.slc 9,.slc 10,.slc 11],.row true .node (ndsR p.nodes),.row true .u64 (lfsR p.nodes),.row true .u64 (rgsR p.nodes),.row true .u64 p.roots,.box [.slc 13,.slc 14],.row true .slot A,.row true .u32 [],.row true .u32 ix]
def aIm8 (P0 P1 P2 P3 P4 P5:ZIm->Prop)(d:LS)(fl b ks:LI):Ann C0:={ quiet:=[9999999,37,56,25],Γ:=[(13,Yc [] tRdR),(23,Yc [] tN28),(37,Yc [] YvF),(56,Yc [] tCkG),(25,Yc [] YsN)],inv:=fun j=>match j with
 | 1004=>some { X:=XIm P0,sl:=[1,2,3,6,9],tf:=fun _=>[.one (.at (.slc 2)),.one (.at (.slc 3)),.one (.at (.ptr 4 0)),.one (.at (.ptr 5 0)),.one (.at (.ptr 8 0))],hf:=fun x=>hI0 d fl b ks x.z.p }
 | 1007=>some { X:=XIm P1,sl:=[1,2,3,6,9,11],tf:=fun _=>[.one (.at (.slc 2)),.one (.at (.slc 3)),.one (.at (.ptr 4 0)),.one (.at (.ptr 5 0)),.one (.at (.ptr 8 0)),.one (.at (.slc 13))],hf:=fun x=>hI0 d fl b ks x.z.p++[.row true .u32 x.z.lk] }
 | 12=>some { X:=XIm P2,sl:=[1,2,6,9,12,13,14],tf:=fun x=>[.one (.at (.slc 2)),.one (.at (.slc 3)),.one (.at (.ptr 4 0)),.one (.at (.ptr 7 0)),.one (.at (.ptr 12 0)),.one (.at (.slc 15)),vi .i64 x.z.i],hf:=fun x=>hI1 d fl b ks x.z.p (slR d x.z.lk x.z.p.nodes x.z.i) (ixR x.z.lk d.length x.z.i),μ:=fun x=>x.z.p.nodes.length-x.z.i }
 | 1018=>some { X:=XIm P3,sl:=[1,2,6,9,12,13,14,15],tf:=fun x=>[.one (.at (.slc 2)),.one (.at (.slc 3)),.one (.at (.ptr 4 0)),.one (.at (.ptr 7 0)),.one (.at (.ptr 12 0)),.one (.at (.slc 15)),vi .i64 x.z.i,.one (.at (.ptr 16 0))],hf:=fun x=>hI1 d fl b ks x.z.p (slR d x.z.lk x.z.p.nodes x.z.i) (ixR x.z.lk d.length x.z.i)++[bxN8 x.z.x],rel:=fun T _ x=>YaM T 14 x.z.i }
 | 1020=>some { X:=XIm P4,sl:=[1,2,6,9,12,13,14,15],tf:=fun x=>[.one (.at (.slc 2)),.one (.at (.slc 3)),.one (.at (.ptr 4 0)),.one (.at (.ptr 7 0)),.one (.at (.ptr 12 0)),.one (.at (.slc 15)),vi .i64 x.z.i,.one (.at (.ptr 16 0))],hf:=fun x=>hI1 d fl b ks x.z.p (slR d x.z.lk x.z.p.nodes x.z.i) (ixR x.z.lk d.length x.z.i)++[bxN8 x.z.x],rel:=fun T _ x=>YaM T 14 x.z.i }
 | 27=>some { X:=XIm P5,sl:=[1,2,6,9,12,13,18,19],tf:=fun x=>[.one (.at (.slc 2)),.one (.at (.slc 3)),.one (.at (.ptr 4 0)),.one (.at (.ptr 7 0)),.one (.at (.ptr 12 0)),.one (.at (.slc 15)),.one (.at (.slc 16)),vi .i64 x.z.i],hf:=fun x=>hI1 d fl b ks x.z.p (allR d x.z.lk x.z.p.nodes) (ixR x.z.lk d.length x.z.p.nodes.length)++[.row true .u32 ((rtR d x.z.lk x.z.p.roots).take x.z.i)],μ:=fun x=>x.z.p.roots.length-x.z.i }
 | _=>none }
def tIm8:Tfm C0:=fun args H K=>match args,H with
 | [.agg [.slc 0,.slc 1],.at (.slc 2),.at (.slc 3)],[.row false .slot d,.row false .u32 fl,.row false .u8 b,.row false .u32 ks]=>ImB8 d fl b ks/\∀ e A rts,ImP8 d fl b ks e A rts->K (.tup [.agg [.slc 4,.slc 5],.at (.slc 6),.at (vI e)]) (hIa d fl b ks++[.row true .slot A,.row true .u32 [],.row true .u32 rts]) []
 | _,_=>False
theorem     Yor (bs : ByteArray) : ∀ (n i : Nat) (r : List UInt8), bs.size - i = n → ByteArray.toList.loop bs i r = r.reverse ++ bs.data.toList.drop i
  | 0, i, r, h => by
    rw [ByteArray.toList.loop,     Zf (by omega), List.drop_of_length_le (by show bs.data.size ≤ i; show bs.size ≤ i; omega),              ZR]
  | n + 1, i, r, h => by
    have hi : i < bs.data.toList.length := by show i < bs.size; omega
    rw [ByteArray.toList.loop,     Zj (by omega),     Yor bs n (i + 1) _ (by omega),               ZcL,                Zo,                       Zbg hi]
    have e : bs.get! i = bs.data.toList[i] := by
      show bs.data[i]! = _;rw [getElem!_pos bs.data i (by show i < bs.size; omega)]
      rfl
    rw [e]; rfl
theorem YtE (bs:ByteArray):bs.toList=bs.data.toList:=by
 unfold ByteArray.toList;rw[Yor bs _ 0 [] rfl];rfl
theorem YkU:∀ (l:LI) (s:ByteArray),((l.flatMap (EC.enc EC.u8)).foldl Ymg s).data.toList=s.data.toList++l.map fun n=>UInt8.ofNat n.toNat
 | [],s=>by rw[List.map_nil,ZR];rfl
 | x::l,s=>by
  have e:((x::l).flatMap (EC.enc EC.u8)).foldl Ymg s=(l.flatMap (EC.enc EC.u8)).foldl Ymg (s.push (UInt8.ofNat x.toNat)):=rfl;rw[e,YkU l];show (s.data.push (UInt8.ofNat x.toNat)).toList++_=_;rw[Array.toList_push,ZaA,Zo];rfl
theorem YkV (l:LI):(strR (EC.enc EC.u8) l).toList=l.map fun n=>UInt8.ofNat n.toNat:=by
 rw[YtE];unfold strR;rw[YkU];rfl
theorem b8R (l:LI):B8R (EC.enc EC.u8) l:=fun c hc=>by
 obtain⟨x,_,h⟩:=ZK.1 hc;have h:c∈[Zm .u8 x]:=h;rw[ZL.1 h];rfl
theorem YrA:∀ {a b:LI},allB a->allB b->(a.map fun n=>UInt8.ofNat n.toNat)=(b.map fun n=>UInt8.ofNat n.toNat)->a=b
 | [],[],_,_,_=>rfl
 | [],_::_,_,_,h=>by cases h
 | _::_,[],_,_,h=>by cases h
 | x::a,y::b,ha,hb,h=>by
  rw[ZaA,ZaA] at h;injection h with h1 h2
  have e:=ZT UInt8.toNat h1;have hx:=ha x (ZP ..);have hy:=hb y (ZP ..);rw[UInt8.toNat_ofNat',UInt8.toNat_ofNat'] at e;rw[YrA (fun z q=>ha z (Zz _ q)) (fun z q=>hb z (Zz _ q)) h2,show x=y by omega]
theorem YrB {a b:LI}(ha:allB a)(hb:allB b):((!(strR (EC.enc EC.u8) a).toList==(strR (EC.enc EC.u8) b).toList)=true)↔a≠b:=by
 rw[YkV,YkV];constructor
 .intro h e;subst e;simp at h
 .intro h;have:(a.map fun n=>UInt8.ofNat n.toNat)≠(b.map fun n=>UInt8.ofNat n.toNat):=fun q=>h (YrA ha hb q)
  simpa using this
theorem Yqv {ns:LP}{i:Nat}(h:i<ns.length):eNd (ndsR ns) i=⟨(getN ns i).key,(getN ns i).value,0,0,0,0,0,0⟩:=by
 show List.getD (ns.map _) i _=(fun x:PNT=>(⟨x.key,x.value,0,0,0,0,0,0⟩:Td)) (List.getD ns i _);rw[Zb,Zb,Zv,Zk h];rfl
theorem Yqw {ns:LP}{i:Nat}(h:i<ns.length):getB (lfsR ns) i=(getN ns i).left:=by
 show List.getD (ns.map _) i _=PNT.left (List.getD ns i _);rw[Zb,Zb,Zv,Zk h];rfl
theorem Yqx {ns:LP}{i:Nat}(h:i<ns.length):getB (rgsR ns) i=(getN ns i).right:=by
 show List.getD (ns.map _) i _=PNT.right (List.getD ns i _);rw[Zb,Zb,Zv,Zk h];rfl
theorem Yhk (ns:LP):(ndsR ns).length=ns.length:=by unfold ndsR;rw[Zu]
theorem Yqy (ns:LP):(lfsR ns).length=ns.length:=by unfold lfsR;rw[Zu]
theorem Yqz (ns:LP):(rgsR ns).length=ns.length:=by unfold rgsR;rw[Zu]
theorem YjL (lk:LI)(n i:Nat):(ixR lk n i).length=lk.length+i+1:=by
 rw[YkN,ZQ,Zh,YkO]
theorem Yfo {d:LS}(h:∀ s∈d,0<=s.node.size/\s.node.size<=2147483647)(x:Int):0<=szI d x/\szI d x<=2147483647:=by
 unfold szI sltD
 by_cases z:x=0
 .rw[Zj z];decide
 .rw[Zf z,Zb]
  by_cases c:(x-1).toNat<d.length
  .rw[Zk c];exact h _ (Zaa c)
  .rw[ZV (by omega)];decide
theorem Yhl {d:LS}{lk:LI}{ns:LP}(h:∀ s∈d,0<=s.node.size/\s.node.size<=2147483647):∀ i,∀ s∈slR d lk ns i,0<=s.node.size/\s.node.size<=2147483647
 | 0=>h
 | i+1=>fun s hs=>by
  have ih:=Yhl (lk:=lk) (ns:=ns) h i;rcases Zx.1 hs with q|q
  .exact ih s q
  .rw[ZL.1 q];have a:=Yfo ih (getB (ixR lk d.length i) (getN ns i).left.toNat);have b:=Yfo ih (getB (ixR lk d.length i) (getN ns i).right.toNat);show 0<=min (1+_+_) 2147483647/\min (1+_+_) 2147483647<=2147483647;omega
def xN (d:LS)(lk:LI)(ns:LP)(i:Nat)(s:Int):Td:=⟨(getN ns i).key,(getN ns i).value,getB (ixR lk d.length i) (getN ns i).left.toNat,getB (ixR lk d.length i) (getN ns i).right.toNat,s,0,0,0⟩
def szL (d:LS)(lk:LI)(ns:LP)(i:Nat):Int:=szI (slR d lk ns i) (getB (ixR lk d.length i) (getN ns i).left.toNat)
def szR (d:LS)(lk:LI)(ns:LP)(i:Nat):Int:=szI (slR d lk ns i) (getB (ixR lk d.length i) (getN ns i).right.toNat)
theorem YtF (d:LS)(lk:LI)(ns:LP)(i:Nat):slR d lk ns i++[⟨true,0,0,⟨(getN ns i).key,(getN ns i).value,getB (ixR lk d.length i) (getN ns i).left.toNat,getB (ixR lk d.length i) (getN ns i).right.toNat,if 2147483647<1+szL d lk ns i+szR d lk ns i then 2147483647 else 1+szL d lk ns i+szR d lk ns i,0,0,0⟩⟩]=slR d lk ns (i+1):=by
 show _=_++[mkS _ _ _];unfold mkS;rw[show (if 2147483647<1+szL d lk ns i+szR d lk ns i then 2147483647 else 1+szL d lk ns i+szR d lk ns i)=min (1+szL d lk ns i+szR d lk ns i) 2147483647 by split<;>omega]
 rfl
theorem YqA {d:LS}{lk:LI}{ns:LP}{i:Nat}{x:Td}(e:x=xN d lk ns i (1+szL d lk ns i+szR d lk ns i)):slR d lk ns i++[⟨true,0,0,⟨x.key,x.value,x.left,x.right,if 2147483647<x.size then 2147483647 else x.size,x.sum,x.min,x.max⟩⟩]=slR d lk ns (i+1):=by
 subst e;exact YtF d lk ns i
theorem YwA (lk:LI)(n i:Nat):ixR lk n i++[(n:Int)+1+i]=ixR lk n (i+1):=rfl
section
variable {d:LS} {fl b ks:LI} {p:PKT} {lk:LI}
theorem ImS.rf (hB:ImB8 d fl b ks)(h:ImS d b ks p lk)(m:p.nodes.length<=fl.length):RfK d lk ks p.known p.digest p.nodes p.roots:=by
 have pk:=(YcP hB.ab h.pk).2;have fw:=NumsD.few hB.w h.nk;have a:=hB.dl;have c:=hB.fl_;exact⟨⟨hB.w,hB.kd,fw.2.1,h.nk.used (fun j hj=>by cases hj),h.kl.symm,pk.ord,by omega⟩,pk,hB.ki,h.nk,hB.ky,h.dg⟩
theorem RfB.kidU {k:Int}{ns:LP}(h:RfB d lk k ns):YdZ (allR d lk ns):=fun j=>by
 unfold ndD;cases u:alcD (allR d lk ns) j with
 | true=>rw[Zj rfl];exact h.wA.kid j u
 | false=>rw[Zf Bool.false_ne_true];exact⟨⟨ZE 0,by decide⟩,ZE 0,by decide⟩
end
def PI0 (b:LI):ZIm->Prop:=fun z=>pkD b=(0,z.p)
def PI1 (d:LS)(b ks:LI):ZIm->Prop:=fun z=>ImS d b ks z.p z.lk
structure PIa (d:LS) (fl b ks:LI) (z:ZIm):Prop where
 s:ImS d b ks z.p z.lk
 m:z.p.nodes.length<=fl.length
theorem PIa.to {d:LS}{fl b ks:LI}{z:ZIm}(h:PIa d fl b ks z){i:Nat}{x:Td}:PIa d fl b ks { z with i:=i,x:=x }:=⟨h.s,h.m⟩
def PI2 (d:LS)(fl b ks:LI):ZIm->Prop:=fun z=>PIa d fl b ks z/\z.i<=z.p.nodes.length
def PI3 (d:LS)(fl b ks:LI):ZIm->Prop:=fun z=>PIa d fl b ks z/\z.i<z.p.nodes.length/\z.x=xN d z.lk z.p.nodes z.i (1+szL d z.lk z.p.nodes z.i)
def PI4 (d:LS)(fl b ks:LI):ZIm->Prop:=fun z=>PIa d fl b ks z/\z.i<z.p.nodes.length/\z.x=xN d z.lk z.p.nodes z.i (1+szL d z.lk z.p.nodes z.i+szR d z.lk z.p.nodes z.i)
def PI5 (d:LS)(fl b ks:LI):ZIm->Prop:=fun z=>PIa d fl b ks z/\z.i<=z.p.roots.length/\∀ r∈z.p.roots.take z.i,CkG (allR d z.lk z.p.nodes) (ixV z.lk d.length r) 0
abbrev O97 {P1 P2:ZIm → Prop}(x1:XIm P1)(x2:XIm P2)(Z_:Prop):Prop:=(True/\True/\True)/\([]:LS)=[]/\([]:LI)=[]/\(VW (x1.z.p.known)=VW (x2.z.p.known)/\VW (x1.z.p.nodes.length:Int)=VW (x2.z.p.nodes.length:Int)/\VW (x1.z.p.roots.length:Int)=VW (x2.z.p.roots.length:Int)/\VW (x1.z.p.digest)=VW (x2.z.p.digest)/\True/\True/\True/\True/\True)/\ndsR x1.z.p.nodes=ndsR x2.z.p.nodes/\lfsR x1.z.p.nodes=lfsR x2.z.p.nodes/\rgsR x1.z.p.nodes=rgsR x2.z.p.nodes/\x1.z.p.roots=x2.z.p.roots/\Z_
abbrev O98 {P5:ZIm → Prop}(d:LS)(fl b ks:LI)(K:SV → LH C0 → LN → Prop)(x3:XIm P5)(o:LI):Prop:=brS (!(strR EC.u8.enc o).toList==(strR EC.u8.enc b).toList) (K (.tup [(TV.agg [(.slc 4),(.slc 5)]),(.at (.slc 6)),(.at (.val (VI 13)))]) [(.row false .slot (d)),(.row false .u32 (fl)),(.row false .u8 (b)),(.row false .u32 (ks)),(.row true .slot []),(.row true .u32 []),(.row true .u32 [])] []) (K (.tup [(TV.agg [(.slc 4),(.slc 5)]),(.at (.slc 6)),(.at (.val (VI 0)))]) [(.row false .slot (d)),(.row false .u32 (fl)),(.row false .u8 (b)),(.row false .u32 (ks)),(.row true .slot (allR d x3.z.lk x3.z.p.nodes)),(.row true .u32 []),(.row true .u32 (Zn x3.z.i (rtR d x3.z.lk x3.z.p.roots)))] [])
abbrev O99 {P2 P3:ZIm → Prop}(d:LS)(x2:XIm P2)(x3:XIm P3)(Z_:Prop):Prop:=(True/\True/\True)/\slR d x2.z.lk x2.z.p.nodes x2.z.i=slR d x3.z.lk x3.z.p.nodes x3.z.i/\([]:LI)=[]/\ixR x2.z.lk d.length x2.z.i=ixR x3.z.lk d.length x3.z.i/\Z_
abbrev O100 {P2 P3:ZIm → Prop}(d:LS)(x2:XIm P2)(x3:XIm P3)(Z_:Prop):Prop:=(VI ((eNd (ndsR x2.z.p.nodes) (x2.z.i:Int).toNat).key))=(VI (x3.z.x.key))/\(VI ((eNd (ndsR x2.z.p.nodes) (x2.z.i:Int).toNat).value))=(VI (x3.z.x.value))/\(VU (getB (ixR x2.z.lk d.length x2.z.i) (getB (lfsR x2.z.p.nodes) (x2.z.i:Int).toNat).toNat))=(VU (x3.z.x.left))/\(VU (getB (ixR x2.z.lk d.length x2.z.i) (getB (rgsR x2.z.p.nodes) (x2.z.i:Int).toNat).toNat))=(VU (x3.z.x.right))/\Z_
abbrev O101 {P2 P3:ZIm → Prop}(x2:XIm P2)(x3:XIm P3)(Z_:Prop):Prop:=((x2.z.i:Int))=((x3.z.i:Int))/\(True/\True/\True/\True/\True/\True/\VI (x2.z.i:Int)=VI (x3.z.i:Int)/\True/\True)/\Z_
abbrev O102 {P2 P3:ZIm → Prop}(x2:XIm P2)(x3:XIm P3):Prop:=(VI ((eNd (ndsR x2.z.p.nodes) (x2.z.i:Int).toNat).sum))=(VI (x3.z.x.sum))/\(VI ((eNd (ndsR x2.z.p.nodes) (x2.z.i:Int).toNat).min))=(VI (x3.z.x.min))/\(VI ((eNd (ndsR x2.z.p.nodes) (x2.z.i:Int).toNat).max))=(VI (x3.z.x.max))/\True
abbrev O103 {P5:ZIm → Prop}(d:LS)(x3:XIm P5)(Z_:Prop):Prop:=0<=(x3.z.i:Int)/\(x3.z.i:Int)<(x3.z.p.roots.length:Int)/\0<=getB x3.z.p.roots (x3.z.i:Int).toNat/\getB x3.z.p.roots (x3.z.i:Int).toNat<(↑(ixR x3.z.lk d.length x3.z.p.nodes.length).length:Int)/\Z_
abbrev O104 (d:LS)(fl b ks:LI)(K:SV → LH C0 → LN → Prop):Prop:=K (.tup [(TV.agg [(.slc 4),(.slc 5)]),(.at (.slc 6)),(.at (.val (VI 11)))]) [(.row false .slot (d)),(.row false .u32 (fl)),(.row false .u8 (b)),(.row false .u32 (ks)),(.row true .slot []),(.row true .u32 []),(.row true .u32 [])] []
abbrev O105 (Z_:Prop):Prop:=(True/\True/\True)/\([]:LS)=[]/\([]:LI)=[]/\Z_
set_option maxRecDepth 20000 in
theorem YwB (d:LS)(fl b ks:LI)(K:KT)(hB:ImB8 d fl b ks)(h:∀ e A rts,ImP8 d fl b ks e A rts->K (.tup [.agg [.slc 4,.slc 5],.at (.slc 6),.at (vI e)]) (hIa d fl b ks++[.row true .slot A,.row true .u32 [],.row true .u32 rts]) []) :
  vc C0 (aIm8 (PI0 b) (PI1 d b ks) (PI2 d fl b ks) (PI3 d fl b ks) (PI4 d fl b ks) (PI5 d fl b ks) d fl b ks) Tryz.f33 [.agg [.slc 0,.slc 1],.at (.slc 2),.at (.slc 3)] (hIa d fl b ks) (Yh 4 K):=by
 generalize hP0:PI0 b=P0;generalize hP1:PI1 d b ks=P1;generalize hP2:PI2 d fl b ks=P2;generalize hP3:PI3 d fl b ks=P3;generalize hP4:PI4 d fl b ks=P4;generalize hP5:PI5 d fl b ks=P5
 refine Eq.mp (show (allB b/\b.length<=1000000000/\∀ e:Int,∀ p:PKT,∀ m:Int,∀ r:Int,pkD b=(Prod.mk (e) (p))->m=((p.nodes.length:Int))->r=((p.roots.length:Int))->brS (e != 0) (K (.tup [(TV.agg [(.slc 4),(.slc 5)]),(.at (.slc 6)),(.at (.val (VI (e))))]) [(.row false .slot (d)),(.row false .u32 (fl)),(.row false .u8 (b)),(.row false .u32 (ks)),(.row true .slot []),(.row true .u32 []),(.row true .u32 [])] []) (∃ x:XIm P0,True/\(True/\True/\True/\True/\True/\True)/\d=d/\fl=fl/\b=b/\ks=ks/\(True/\True/\True)/\O105 ((VW (p.known)=VW (x.z.p.known)/\VW (m)=VW (x.z.p.nodes.length:Int)/\VW (r)=VW (x.z.p.roots.length:Int)/\VW (p.digest)=VW (x.z.p.digest)/\True/\True/\True/\True/\True)/\ndsR p.nodes=ndsR x.z.p.nodes/\lfsR p.nodes=lfsR x.z.p.nodes/\rgsR p.nodes=rgsR x.z.p.nodes/\p.roots=x.z.p.roots/\True))/\∀ x:XIm P0,True->DgW d/\ks.length<=1000000/\Yby ks/\∀ l:LI,NumsD d ks [] l->brS (x.z.p.known != Zd.wrap (l.length:Int)) (O104 d fl b ks K) (ExB8 d ks []/\∀ D:Int,DgD d ks D->0<=D->D<4294967296->brS (x.z.p.digest != Zd.wrap D) (O104 d fl b ks K) (∃ x1:XIm P1,True/\(True/\True/\True/\True/\True/\True/\True)/\d=d/\fl=fl/\b=b/\ks=ks/\(True/\True/\True)/\O97 x x1 (l=x1.z.lk/\True)))/\∀ x1:XIm P1,True->brS (decide (Zd.wrap (fl.length:Int)<(x1.z.p.nodes.length:Int))) (K (.tup [(TV.agg [(.slc 4),(.slc 5)]),(.at (.slc 6)),(.at (.val (VI 2)))]) [(.row false .slot (d)),(.row false .u32 (fl)),(.row false .u8 (b)),(.row false .u32 (ks)),(.row true .slot []),(.row true .u32 []),(.row true .u32 [])] []) ((([]:LE).length+d.length)*Yd C0 EC.slot<=140737488355328/\
  ([0].length+x1.z.lk.length)*Yd C0 EC.u32<=140737488355328/\(∃ x2:XIm P2,True/\(True/\True/\True/\True/\True/\True/\VI 0=(VI (x2.z.i:Int))/\True)/\d=d/\fl=fl/\b=b/\ks=ks/\O97 x1 x2 ((True/\True/\True)/\([]++d)=slR d x2.z.lk x2.z.p.nodes x2.z.i/\([]:LI)=[]/\(0::x1.z.2)=ixR x2.z.lk d.length x2.z.i/\True))/\∀ x2:XIm P2,True->brS (decide ((x2.z.i:Int)<(↑(ndsR x2.z.p.nodes).length:Int))) (0<=(x2.z.i:Int)/\(x2.z.i:Int)<(↑(ndsR x2.z.p.nodes).length:Int)/\0<=(x2.z.i:Int)/\(x2.z.i:Int)<(↑(lfsR x2.z.p.nodes).length:Int)/\0<=getB (lfsR x2.z.p.nodes) (x2.z.i:Int).toNat/\getB (lfsR x2.z.p.nodes) (x2.z.i:Int).toNat<(↑(ixR x2.z.lk d.length x2.z.i).length:Int)/\0<=(x2.z.i:Int)/\(x2.z.i:Int)<(↑(rgsR x2.z.p.nodes).length:Int)/\0<=getB (rgsR x2.z.p.nodes) (x2.z.i:Int).toNat/\getB (rgsR x2.z.p.nodes) (x2.z.i:Int).toNat<(↑(ixR x2.z.lk d.length x2.z.i).length:Int)/\brS (getB (ixR x2.z.lk d.length x2.z.i) (getB (lfsR x2.z.p.nodes) (x2.z.i:Int).toNat).toNat != 0) (0<=Ze.wrap (getB (ixR x2.z.lk d.length x2.z.i) (getB (lfsR x2.z.p.nodes) (x2.z.i:Int).toNat).toNat-1)/\Ze.wrap (getB (ixR x2.z.lk d.length x2.z.i) (getB (lfsR x2.z.p.nodes) (x2.z.i:Int).toNat).toNat-1)<(↑(slR d x2.z.lk x2.z.p.nodes x2.z.i).length:Int)/\∃ x3:XIm P3,O101 x2 x3 (d=d/\fl=fl/\b=b/\ks=ks/\O97 x2 x3 (O99 d x2 x3 (O100 d x2 x3 ((VI (Za.wrap (1+(eS (slR d x2.z.lk x2.z.p.nodes x2.z.i) (Ze.wrap (getB (ixR x2.z.lk d.length x2.z.i) (getB (lfsR x2.z.p.nodes) (x2.z.i:Int).toNat).toNat-1)).toNat).node.size)))=(VI (x3.z.x.size))/\
  O102 x2 x3)/\True)))) (∃ x3:XIm P3,O101 x2 x3 (d=d/\fl=fl/\b=b/\ks=ks/\O97 x2 x3 (O99 d x2 x3 (O100 d x2 x3 (VI 1=(VI (x3.z.x.size))/\O102 x2 x3)/\True))))/\∀ x3:XIm P3,((x2.z.i:Int))=((x3.z.i:Int))->brS (x3.z.x.right != 0) (0<=Ze.wrap (x3.z.x.right-1)/\Ze.wrap (x3.z.x.right-1)<(↑(slR d x3.z.lk x3.z.p.nodes x3.z.i).length:Int)/\∃ x4:XIm P4,O101 x3 x4 (d=d/\fl=fl/\b=b/\ks=ks/\O97 x3 x4 (O99 d x3 x4 ((VI (x3.z.x.key)=VI (x4.z.x.key)/\VI (x3.z.x.value)=VI (x4.z.x.value)/\VU (x3.z.x.left)=VU (x4.z.x.left)/\VU (x3.z.x.right)=VU (x4.z.x.right)/\(VI (Za.wrap (x3.z.x.size+(eS (slR d x3.z.lk x3.z.p.nodes x3.z.i) (Ze.wrap (x3.z.x.right-1)).toNat).node.size)))=(VI (x4.z.x.size))/\VI (x3.z.x.sum)=VI (x4.z.x.sum)/\VI (x3.z.x.min)=VI (x4.z.x.min)/\VI (x3.z.x.max)=VI (x4.z.x.max)/\True)/\True)))) (∃ x4:XIm P4,O101 x3 x4 (d=d/\fl=fl/\b=b/\ks=ks/\O97 x3 x4 (O99 d x3 x4 ((VI (x3.z.x.key)=VI (x4.z.x.key)/\VI (x3.z.x.value)=VI (x4.z.x.value)/\VU (x3.z.x.left)=VU (x4.z.x.left)/\VU (x3.z.x.right)=VU (x4.z.x.right)/\VI (x3.z.x.size)=VI (x4.z.x.size)/\VI (x3.z.x.sum)=VI (x4.z.x.sum)/\VI (x3.z.x.min)=VI (x4.z.x.min)/\VI (x3.z.x.max)=VI (x4.z.x.max)/\True)/\True))))/\∀ x4:XIm P4,((x3.z.i:Int))=((x4.z.i:Int))->((slR d x4.z.lk x4.z.p.nodes x4.z.i).length+[{ alloc:=true,count:=0,gen:=0,node:={ key:=x4.z.x.key,value:=x4.z.x.value,left:=x4.z.x.left,right:=x4.z.x.right,size:=if 2147483647<x4.z.x.size then 2147483647 else x4.z.x.size,sum:=x4.z.x.sum,min:=x4.z.x.min,max:=x4.z.x.max:Td }:Tc }].length)*Yd C0 EC.slot<=140737488355328/\
  ((ixR x4.z.lk d.length x4.z.i).length+[Ze.wrap (↑(slR d x4.z.lk x4.z.p.nodes x4.z.i++[{ alloc:=true,count:=0,gen:=0,node:={ key:=x4.z.x.key,value:=x4.z.x.value,left:=x4.z.x.left,right:=x4.z.x.right,size:=if 2147483647<x4.z.x.size then 2147483647 else x4.z.x.size,sum:=x4.z.x.sum,min:=x4.z.x.min,max:=x4.z.x.max:Td }:Tc }]).length:Int)].length)*Yd C0 EC.u32<=140737488355328/\∃ x':XIm P2,True/\((True/\True/\True/\True/\True/\True/\(VI (Za.wrap ((x4.z.i:Int)+1)))=(VI (x'.z.i:Int))/\True)/\d=d/\fl=fl/\b=b/\ks=ks/\O105 ((VW (x4.z.p.known)=VW (x'.z.p.known)/\VW (x4.z.p.nodes.length:Int)=VW (x'.z.p.nodes.length:Int)/\VW (x4.z.p.roots.length:Int)=VW (x'.z.p.roots.length:Int)/\VW (x4.z.p.digest)=VW (x'.z.p.digest)/\True/\True/\True/\True/\True)/\ndsR x4.z.p.nodes=ndsR x'.z.p.nodes/\lfsR x4.z.p.nodes=lfsR x'.z.p.nodes/\rgsR x4.z.p.nodes=rgsR x'.z.p.nodes/\x4.z.p.roots=x'.z.p.roots/\(True/\True/\True)/\(slR d x4.z.lk x4.z.p.nodes x4.z.i++[{ alloc:=true,count:=0,gen:=0,node:={ key:=x4.z.x.key,value:=x4.z.x.value,left:=x4.z.x.left,right:=x4.z.x.right,size:=if 2147483647<x4.z.x.size then 2147483647 else x4.z.x.size,sum:=x4.z.x.sum,min:=x4.z.x.min,max:=x4.z.x.max:Td }:Tc }])=slR d x'.z.lk x'.z.p.nodes x'.z.i/\([]:LI)=[]/\(ixR x4.z.lk d.length x4.z.i++[Ze.wrap (↑(slR d x4.z.lk x4.z.p.nodes x4.z.i++[{ alloc:=true,count:=0,gen:=0,node:={ key:=x4.z.x.key,value:=x4.z.x.value,left:=x4.z.x.left,right:=x4.z.x.right,size:=if 2147483647<x4.z.x.size then 2147483647 else x4.z.x.size,sum:=x4.z.x.sum,min:=x4.z.x.min,max:=x4.z.x.max:Td }:Tc }]).length:Int)])=ixR x'.z.lk d.length x'.z.i/\
  True))/\x'.z.p.nodes.length-x'.z.i<x2.z.p.nodes.length-x2.z.i) ((∃ x3:XIm P5,True/\(True/\True/\True/\True/\True/\True/\True/\VI 0=(VI (x3.z.i:Int))/\True)/\d=d/\fl=fl/\b=b/\ks=ks/\O97 x2 x3 ((True/\True/\True)/\slR d x2.z.lk x2.z.p.nodes x2.z.i=allR d x3.z.lk x3.z.p.nodes/\([]:LI)=[]/\ixR x2.z.lk d.length x2.z.i=ixR x3.z.lk d.length x3.z.p.nodes.length/\[]=(Zn x3.z.i (rtR d x3.z.lk x3.z.p.roots))/\True))/\∀ x3:XIm P5,True->brS (decide ((x3.z.i:Int)<(x3.z.p.roots.length:Int))) (O103 d x3 (((Zn x3.z.i (rtR d x3.z.lk x3.z.p.roots)).length+[getB (ixR x3.z.lk d.length x3.z.p.nodes.length) (getB x3.z.p.roots (x3.z.i:Int).toNat).toNat].length)*Yd C0 EC.u32<=140737488355328/\O103 d x3 ((allR d x3.z.lk x3.z.p.nodes).length<=400000/\inU (getB (ixR x3.z.lk d.length x3.z.p.nodes.length) (getB x3.z.p.roots (x3.z.i:Int).toNat).toNat)/\YdZ (allR d x3.z.lk x3.z.p.nodes)/\(getB (ixR x3.z.lk d.length x3.z.p.nodes.length) (getB x3.z.p.roots (x3.z.i:Int).toNat).toNat=0∨alcD (allR d x3.z.lk x3.z.p.nodes) (getB (ixR x3.z.lk d.length x3.z.p.nodes.length) (getB x3.z.p.roots (x3.z.i:Int).toNat).toNat)=true)/\(∀ t:Tr,RepK (allR d x3.z.lk x3.z.p.nodes) t (getB (ixR x3.z.lk d.length x3.z.p.nodes.length) (getB x3.z.p.roots (x3.z.i:Int).toNat).toNat)->t.size<=2*(allR d x3.z.lk x3.z.p.nodes).length+2->RepD (allR d x3.z.lk x3.z.p.nodes) t (getB (ixR x3.z.lk d.length x3.z.p.nodes.length) (getB x3.z.p.roots (x3.z.i:Int).toNat).toNat))/\(∀ t:Tr,RepD (allR d x3.z.lk x3.z.p.nodes) t (getB (ixR x3.z.lk d.length x3.z.p.nodes.length) (getB x3.z.p.roots (x3.z.i:Int).toNat).toNat)->Asc t.list->t.size<=2*(allR d x3.z.lk x3.z.p.nodes).length+2)/\
  ∀ e1:Int,CkG (allR d x3.z.lk x3.z.p.nodes) (getB (ixR x3.z.lk d.length x3.z.p.nodes.length) (getB x3.z.p.roots (x3.z.i:Int).toNat).toNat) e1->brS (e1 != 0) (K (.tup [(TV.agg [(.slc 4),(.slc 5)]),(.at (.slc 6)),(.at (.val (VI 13)))]) [(.row false .slot (d)),(.row false .u32 (fl)),(.row false .u8 (b)),(.row false .u32 (ks)),(.row true .slot []),(.row true .u32 []),(.row true .u32 [])] []) (∃ x':XIm P5,True/\((True/\True/\True/\True/\True/\True/\True/\(VI (Za.wrap ((x3.z.i:Int)+1)))=(VI (x'.z.i:Int))/\True)/\d=d/\fl=fl/\b=b/\ks=ks/\O105 ((VW (x3.z.p.known)=VW (x'.z.p.known)/\VW (x3.z.p.nodes.length:Int)=VW (x'.z.p.nodes.length:Int)/\VW (x3.z.p.roots.length:Int)=VW (x'.z.p.roots.length:Int)/\VW (x3.z.p.digest)=VW (x'.z.p.digest)/\True/\True/\True/\True/\True)/\ndsR x3.z.p.nodes=ndsR x'.z.p.nodes/\lfsR x3.z.p.nodes=lfsR x'.z.p.nodes/\rgsR x3.z.p.nodes=rgsR x'.z.p.nodes/\x3.z.p.roots=x'.z.p.roots/\(True/\True/\True)/\allR d x3.z.lk x3.z.p.nodes=allR d x'.z.lk x'.z.p.nodes/\([]:LI)=[]/\ixR x3.z.lk d.length x3.z.p.nodes.length=ixR x'.z.lk d.length x'.z.p.nodes.length/\(Zn x3.z.i (rtR d x3.z.lk x3.z.p.roots)++[getB (ixR x3.z.lk d.length x3.z.p.nodes.length) (getB x3.z.p.roots (x3.z.i:Int).toNat).toNat])=(Zn x'.z.i (rtR d x'.z.lk x'.z.p.roots))/\True))/\x'.z.p.roots.length-x'.z.i<x3.z.p.roots.length-x3.z.i)))) ((ExB8 (allR d x3.z.lk x3.z.p.nodes) (Zn x3.z.i (rtR d x3.z.lk x3.z.p.roots)) ks/\∀ o:LI,ExD (allR d x3.z.lk x3.z.p.nodes) (Zn x3.z.i (rtR d x3.z.lk x3.z.p.roots)) ks o->(B8R EC.u8.enc o/\
  B8R EC.u8.enc b/\O98 d fl b ks K x3 o)/\B8R EC.u8.enc b/\B8R EC.u8.enc o/\O98 d fl b ks K x3 o)/\B8R EC.u8.enc b/\ExB8 (allR d x3.z.lk x3.z.p.nodes) (Zn x3.z.i (rtR d x3.z.lk x3.z.p.roots)) ks/\∀ o:LI,ExD (allR d x3.z.lk x3.z.p.nodes) (Zn x3.z.i (rtR d x3.z.lk x3.z.p.roots)) ks o->B8R EC.u8.enc o/\O98 d fl b ks K x3 o))))=_ by kernel_rfl) ?_
 delta O97 O98 O99 O100 O101 O102 O103 O104 O105;subst hP0 hP1 hP2 hP3 hP4 hP5;have ne_of:∀ {x y:Int},(x != y)=true->x≠y:=fun {x y} q e=>by rw[e] at q;simp at q
 have eq_of:∀ {x y:Int},(x != y)=false->x=y:=fun {x y} q=>by simpa using q
 have er:∀ e,ImP8 d fl b ks e [] []->K (.tup [.agg [.slc 4,.slc 5],.at (.slc 6),.at (vI e)]) (hIa d fl b ks++[.row true .slot [],.row true .u32 [],.row true .u32 []]) []:=fun e q=>h e [] [] q
 have hdl:=hB.dl;have hfl:=hB.fl_;have hkl:=hB.kl;refine⟨hB.ab,hB.bl,fun e p m r he em er'=>?_⟩;subst em er';refine⟨Ya (fun z=>er e (.bad he (ne_of z))) fun z=>⟨⟨⟨p,[],0,Td.zero⟩,by rw[eq_of z] at he;exact he⟩,?_⟩,fun x _=>?_⟩
 ·repeat' constructor
 obtain⟨z,pk0⟩:=x;have pk0:pkD b=(0,z.p):=pk0;dsimp only;refine⟨hB.w,by omega,hB.ki.v hB.w,fun l nl=>?_⟩;have lf:=(NumsD.few hB.w nl).1;rw[Yf (x:=(l.length:Int)) (by omega) (by omega)];refine⟨Ya (fun y=>er 11 (.stale pk0 nl (.inl (ne_of y)))) fun y=>⟨⟨hB.w,hB.kd,hkl,by simp,hB.ki,fun x hx=>by simp at hx,by rw[ZS];exact hB.ky⟩,fun D dD D0 D1=>?_⟩,fun x1 _=>?_⟩
 .rw[Yf (x:=D) (by omega) (by omega)];refine Ya (fun w=>er 11 (.stale pk0 nl (.inr ⟨D,dD,ne_of w⟩))) fun w=>⟨⟨{ z with lk:=l },pk0,nl,eq_of y,by rw[eq_of w];exact dD⟩,?_⟩
  repeat' constructor
 clear pk0 lf nl;obtain⟨z,s0⟩:=x1;have s0:ImS d b ks z.p z.lk:=s0;dsimp only;have lf:=(NumsD.few hB.w s0.nk).1;rw[Yf (x:=(fl.length:Int)) (by omega) (by omega)];refine Ya (fun y=>er 2 (.full s0 (Zc y))) fun y=>?_
 have y:¬ (fl.length:Int)<z.p.nodes.length:=Zg y;rw[YfK,Ys];have l1:([0]:LI).length=1:=rfl;have l0:([]:LE).length=0:=rfl;refine⟨by omega,by omega,⟨⟨{ z with i:=0 },⟨s0,by show z.p.nodes.length<=fl.length;omega⟩,ZC _⟩,?_⟩,fun x2 _=>Ya (fun y=>?_) fun y=>?_⟩
 ·repeat' constructor
 .clear lf s0;obtain⟨z,Pa,zi⟩:=x2;dsimp only at y ⊢;rw[Yhk] at y;have zi:z.i<z.p.nodes.length:=by have:=Zc y;omega
  have R:=Pa.s.rf hB Pa.m;have o:=R.od z.i zi;have kl:=R.kl;have ml:=R.ml;have il:=YjL z.lk d.length z.i;have sl:=YP d z.lk z.p.nodes z.i;have vl:=Ydt (lk:=z.lk) (n:=d.length) (i:=z.i) o.1.1 (by omega);have vr:=Ydt (lk:=z.lk) (n:=d.length) (i:=z.i) o.2.1 (by omega)
  have bd:∀ r:Int,0<=r->r<=z.p.known+z.i->0<=ixV z.lk d.length r/\ixV z.lk d.length r<=(d.length:Int)+z.i:=fun r r0 r1=>by
   rcases Ydu R.toRfB r0 with ⟨_,q⟩|⟨_,_,q1,q2,_⟩|⟨q1,q2⟩<;>omega
  have bl:=bd _ o.1.1 o.1.2;have br:=bd _ o.2.1 o.2.2;have zs:=fun x=>Yfo (Yhl (lk:=z.lk) (ns:=z.p.nodes) hB.sz z.i) x
  rw[show ((z.i:Int)).toNat=z.i from rfl,Yqw zi,Yqx zi,Yqv zi,Yhk,Yqy,Yqz];have z1:=zs (getB (ixR z.lk d.length z.i) (getN z.p.nodes z.i).left.toNat);refine⟨by omega,by omega,by omega,by omega,o.1.1,by omega,by omega,by omega,o.2.1,by omega,Ya (fun c=>?_) fun c=>?_,fun x3 e3=>?_⟩
  .have c:=ne_of c;rw[Yz (x:=getB (ixR z.lk d.length z.i) (getN z.p.nodes z.i).left.toNat-1) (by omega) (by omega)]
   have es:(eS (slR d z.lk z.p.nodes z.i) (getB (ixR z.lk d.length z.i) (getN z.p.nodes z.i).left.toNat-1).toNat).node.size=szL d z.lk z.p.nodes z.i:=by
    unfold szL szI;rw[Zf c];rfl
   have z1:0<=szL d z.lk z.p.nodes z.i/\szL d z.lk z.p.nodes z.i<=2147483647:=z1;rw[es,Yb (x:=1+szL d z.lk z.p.nodes z.i) (by omega) (by omega)];refine⟨by omega,by omega,⟨{ z with x:=xN d z.lk z.p.nodes z.i (1+szL d z.lk z.p.nodes z.i) },Pa.to,zi,rfl⟩,?_⟩
   repeat' constructor
  .have c:=eq_of c
   have e0:szL d z.lk z.p.nodes z.i=0:=by
    unfold szL szI;rw[Zj c]
   refine⟨⟨{ z with x:=xN d z.lk z.p.nodes z.i (1+szL d z.lk z.p.nodes z.i) },Pa.to,zi,rfl⟩,?_⟩
   repeat' constructor
   show Zm Za 1=Zm Za (1+szL d z.lk z.p.nodes z.i);rw[e0];rfl
  .have pz:=Pa.s.pk;clear R o kl ml il sl vl vr bd bl br zs z1;obtain⟨⟨p3,lk3,i3,x3⟩,Pa3,zi3,ex3⟩:=x3;have ex3:x3=xN d lk3 p3.nodes i3 (1+szL d lk3 p3.nodes i3):=ex3;subst ex3;dsimp only[xN] at e3 zi3 ⊢;have R:=Pa3.s.rf hB Pa3.m;have o:=R.od i3 zi3;have kl:=R.kl;have ml:=R.ml;dsimp only at R o kl ml;have sl:=YP d lk3 p3.nodes i3;have vr:=Ydt (lk:=lk3) (n:=d.length) (i:=i3) o.2.1 (by omega)
   have br:0<=ixV lk3 d.length (getN p3.nodes i3).right/\ixV lk3 d.length (getN p3.nodes i3).right<=(d.length:Int)+i3:=by
    rcases Ydu R.toRfB o.2.1 with ⟨_,q⟩|⟨_,_,q1,q2,_⟩|⟨q1,q2⟩<;>omega
   have zl:0<=szL d lk3 p3.nodes i3/\szL d lk3 p3.nodes i3<=2147483647:=Yfo (Yhl hB.sz i3) _;have zr:0<=szR d lk3 p3.nodes i3/\szR d lk3 p3.nodes i3<=2147483647:=Yfo (Yhl hB.sz i3) _;refine⟨Ya (fun c=>?_) fun c=>?_,fun x4 e4=>?_⟩
   .have c:=ne_of c;rw[Yz (x:=getB (ixR lk3 d.length i3) (getN p3.nodes i3).right.toNat-1) (by omega) (by omega)]
    have es:(eS (slR d lk3 p3.nodes i3) (getB (ixR lk3 d.length i3) (getN p3.nodes i3).right.toNat-1).toNat).node.size=szR d lk3 p3.nodes i3:=by
     unfold szR szI;rw[Zf c];rfl
    rw[es,Yb (x:=1+szL d lk3 p3.nodes i3+szR d lk3 p3.nodes i3) (by omega) (by omega)];refine⟨by omega,by omega,⟨⟨p3,lk3,i3,xN d lk3 p3.nodes i3 (1+szL d lk3 p3.nodes i3+szR d lk3 p3.nodes i3)⟩,Pa3.to,zi3,rfl⟩,?_⟩
    repeat' constructor
   .have c:=eq_of c
    have e0:szR d lk3 p3.nodes i3=0:=by
     unfold szR szI;rw[Zj c]
    refine⟨⟨⟨p3,lk3,i3,xN d lk3 p3.nodes i3 (1+szL d lk3 p3.nodes i3+szR d lk3 p3.nodes i3)⟩,Pa3.to,zi3,rfl⟩,?_⟩
    repeat' constructor
    show Zm Za (1+szL d lk3 p3.nodes i3)=Zm Za (1+szL d lk3 p3.nodes i3+szR d lk3 p3.nodes i3);rw[e0,Zcz]
   .clear R o kl ml sl vr br zl zr;obtain⟨⟨p4,lk4,i4,x4⟩,Pa4,zi4,ex4⟩:=x4;have ex4:x4=xN d lk4 p4.nodes i4 (1+szL d lk4 p4.nodes i4+szR d lk4 p4.nodes i4):=ex4;dsimp only at e4 zi4 ⊢;have R:=Pa4.s.rf hB Pa4.m;have kl:=R.kl;have ml:=R.ml;dsimp only at R kl ml;have k0:=R.pk.k0;have sl:=YP d lk4 p4.nodes i4;have sl1:=YP d lk4 p4.nodes (i4+1);have il:=YjL lk4 d.length i4
    have pe:p4=z.p:=by
     have:=Pa4.s.pk;rw[pz] at this;exact (ZbR this).2.symm
    rw[YqA ex4,sl1,Yz (x:=((d.length+(i4+1):Nat):Int)) (by omega) (by omega),Yb (x:=(i4:Int)+1) (by omega) (by omega)];refine⟨?_,?_,⟨⟨p4,lk4,i4+1,Td.zero⟩,Pa4.to,zi4⟩,trivial,?_,?_⟩
    .rw[Zr];omega
    .rw[Zr];omega
    ·repeat' constructor
     show ixR lk4 d.length i4++[((d.length+(i4+1):Nat):Int)]=ixR lk4 d.length (i4+1);rw[<-YwA,show ((d.length+(i4+1):Nat):Int)=(d.length:Int)+1+i4 by omega]
    .show p4.nodes.length-(i4+1)<z.p.nodes.length-z.i;rw[pe] at zi4 ⊢;omega
 .clear lf s0;obtain⟨⟨p2,lk2,i2,x2⟩,Pa2,zi2⟩:=x2;dsimp only at y zi2 ⊢;rw[Yhk] at y;have zi:i2=p2.nodes.length:=by have:=Zg y;omega
  subst zi;refine⟨⟨⟨⟨p2,lk2,0,x2⟩,Pa2.to,ZC _,fun r hr=>by simp at hr⟩,?_⟩,fun x3 _=>Ya (fun w=>?_) fun w=>?_⟩
  ·repeat' constructor
  .clear Pa2 zi2 y;obtain⟨⟨p,lk,i,x⟩,Pa,zi,Q⟩:=x3;dsimp only at w zi Q ⊢;have zi:i<p.roots.length:=by have:=Zc w;omega
   have R:=Pa.s.rf hB Pa.m;dsimp only at R;have kl:=R.kl;have ml:=R.ml;have rl:=R.pk.rl;have rm:=Yj zi;have rr:=R.pk.rr _ rm;have il:=YjL lk d.length p.nodes.length;have vl:=Ydt (lk:=lk) (n:=d.length) (i:=p.nodes.length) rr.1 (by omega);have al:=R.ref rr.1 rr.2;have cl:=R.clA hB.cl;have bd:=Yqs R.toRfB rr.1 rr.2;have sl:(allR d lk p.nodes).length=d.length+p.nodes.length:=YP d lk p.nodes p.nodes.length;rw[show ((i:Int)).toNat=i from rfl,vl];refine⟨by omega,by omega,rr.1,by omega,?_,by omega,by omega,rr.1,by omega,by omega,⟨bd.1,by omega⟩,R.kidU,al,fun t rk tz=>YiE cl al rk (by omega),fun t rd ta=>by have:=Yhh cl al (YfS rd) ta;omega,fun e1 c1=>Ya (fun q=>er 13 (.tree Pa.s Pa.m rm c1 (ne_of q))) fun q=>?_⟩
   .rw[Zr,ZG,Zu];omega
   .have q:=eq_of q;subst q;rw[Yb (x:=(i:Int)+1) (by omega) (by omega)];refine⟨⟨⟨p,lk,i+1,x⟩,Pa.to,zi,fun r hr=>?_⟩,trivial,?_,?_⟩
    .rw[show p.roots.take (i+1)=p.roots.take i++[getB p.roots i] from Yo zi] at hr;rcases Zx.1 hr with c|c
     .exact Q r c
     .rw[ZL.1 c];exact c1
    ·repeat' constructor
     show Zn i (rtR d lk p.roots)++[ixV lk d.length (getB p.roots i)]=Zn (i+1) (rtR d lk p.roots);rw[<-List.map_take,<-List.map_take,Yo zi,ZX];rfl
    .show p.roots.length-(i+1)<p.roots.length-i;omega
  .clear Pa2 zi2 y;obtain⟨⟨p,lk,i,x⟩,Pa,zi,Q⟩:=x3;dsimp only at w zi Q ⊢;have zi:i=p.roots.length:=by have:=Zg w;omega
   subst zi;have R:=Pa.s.rf hB Pa.m;dsimp only at R;have Q:∀ r∈p.roots,CkG (allR d lk p.nodes) (ixV lk d.length r) 0:=fun r hr=>Q r (by rw[ZJ];exact hr)
   have et:Zn p.roots.length (rtR d lk p.roots)=rtR d lk p.roots:=by rw[<-List.map_take,ZJ]
   have ex:ExB8 (allR d lk p.nodes) (Zn p.roots.length (rtR d lk p.roots)) ks:=by rw[et];exact R.exB hkl
   have fin:∀ o,ExD (allR d lk p.nodes) (Zn p.roots.length (rtR d lk p.roots)) ks o->brS (!(strR (EC.enc EC.u8) o).toList==(strR (EC.enc EC.u8) b).toList) (K (.tup [.agg [.slc 4,.slc 5],.at (.slc 6),.at (vI 13)]) (hIa d fl b ks++[.row true .slot [],.row true .u32 [],.row true .u32 []]) []) (K (.tup [.agg [.slc 4,.slc 5],.at (.slc 6),.at (vI 0)]) (hIa d fl b ks++[.row true .slot (allR d lk p.nodes),.row true .u32 [],.row true .u32 (Zn p.roots.length (rtR d lk p.roots))]) []):=fun o xo=>by
    rw[et] at xo;refine Ya (fun q=>er 13 (.odd Pa.s Pa.m Q xo ((YrB xo.ab hB.ab).1 q))) fun q=>?_
    have e:o=b:=ZY fun c=>by
     have t:=(YrB xo.ab hB.ab).2 c;exact absurd (t.symm.trans q) (by decide)
    rw[e] at xo;exact Eq.mpr (ZT (fun r:LI=>K (.tup [.agg [.slc 4,.slc 5],.at (.slc 6),.at (vI 0)]) (hIa d fl b ks++[.row true .slot (allR d lk p.nodes),.row true .u32 [],.row true .u32 r]) []) et) (h 0 _ _ (.ok Pa.s Pa.m Q xo))
   exact⟨⟨ex,fun o xo=>⟨⟨b8R _,b8R _,fin o xo⟩,b8R _,b8R _,fin o xo⟩⟩,b8R _,ex,fun o xo=>⟨b8R _,fin o xo⟩⟩
theorem YyZ:Tb C0 33 tIm8:=by
 refine .of Tryz.func33 (by decide) rfl fun args H K h hC=>?_
 unfold tIm8 at h;split at h<;>try exact h.elim
 rename_i d fl b ks;refine⟨_,?_,YwB d fl b ks K h.1 h.2⟩;exact⟨Ye C0.ok YyY _,Ye C0.ok Yvu _,Ye C0.ok Yri _,Ye C0.ok Yxz _,Ye C0.ok Yrj _,trivial⟩
end
def Yos (n:Nat):Tfm C0:=fun args H K=>match args with
 | [.at (.ptr 0 0),.at (.val (.int .u32 i))]=>arM H fun S=>∃ hs a kr vr b,Wf S (i::hs)/\Rep S (.node a kr vr b) i/\(Tr.node a kr vr b).Bal/\(Tr.node a kr vr b).size<n/\(Tr.node a kr vr b).size<=800000/\(pB (Tr.node a kr vr b).size:Int)<=S.free ∧
  hs.length+(Tr.node a kr vr b).size<=600000000/\S.reads+5*(pB (Tr.node a kr vr b).size)<=1700000000000000000 ∧
  ∀ S' j k v L,(Tr.node a kr vr b).list=L++[(k,v)]->TrR S hs L (pB (Tr.node a kr vr b).size) (5*pB (Tr.node a kr vr b).size) S' j->K (.tup [.at (vU j),.agg [vI k,vI v]]) (chS S') W7
 | _=>False
def YwC (n:Nat):Ann C0:={ Γ:=[(91,Yc [] tOpn),(146,Yc [] (Yos n)),(92,Yc [] YlV)] }
def YtG:Tfm C0:=fun args H K=>match args with
 | [.at (.ptr 0 0),.at (.val (.int .u32 i))]=>arM H fun S=>∃ hs t,Wf S (i::hs)/\Rep S t i/\t.Bal/\1<=t.size/\t.size<=800000/\(pB t.size:Int)<=S.free/\hs.length<=500000000/\S.reads+5*(pB t.size)<=1700000000000000000 ∧
  ∀ S' j k v L,t.list=L++[(k,v)]->TrR S hs L (pB t.size) (5*pB t.size) S' j->K (.tup [.at (vU j),.agg [vI k,vI v]]) (chS S') W7
 | _=>False
def aCat:Ann C0:={ Γ:=[(146,Yc [] YtG),(92,Yc [] YlV)] }
def tCat:Tfm C0:=fun args H K=>match args with
 | [.at (.ptr 0 0),.at (.val (.int .u32 l)),.at (.val (.int .u32 r))]=>arM H fun S=>∃ hs ta tb,Wf S (l::r::hs)/\Rep S ta l/\Rep S tb r/\ta.Bal/\tb.Bal/\ta.size+tb.size<=800000/\(cB ta.size tb.size:Int)<=S.free/\hs.length<=400000000/\S.reads+5*(cB ta.size tb.size)<=1600000000000000000 ∧
  ∀ S' i,TrR S hs (ta.list++tb.list) (cB ta.size tb.size) (5*cB ta.size tb.size) S' i->K (.one (.at (vU i))) (chS S') W7
 | _=>False
def Yot (n:Nat):Tfm C0:=fun args H K=>match args with
 | [.at (.ptr 0 0),.at (.val (.int .u32 i)),.agg [.val (.int .i64 k),.val (.int .i64 v)]]=>arM H fun S=>∃ hs t,Wf S (i::hs)/\Rep S t i/\t.Bal/\Asc t.list/\t.size<n/\t.size<=700000/\(iB t.size:Int)<=S.free/\hs.length+t.size<=600000000/\S.reads+5*iB t.size<=1600000000000000000 ∧
  ∀ S' j,TrR S hs (insE t.list (k,v)) (iB t.size) (5*iB t.size) S' j->K (.one (.at (vU j))) (chS S') W7
 | _=>False
def YwD (n:Nat):Ann C0:={ Γ:=[(91,Yc [] tOpn),(46,Yc [] (Yot n)),(92,Yc [] YlV),(90,Yc [] Yfg)] }
def tDlt (n:Nat):Tfm C0:=fun args H K=>match args with
 | [.at (.ptr 0 0),.at (.val (.int .u32 i)),.at (.val (.int .i64 key))]=>arM H fun S=>∃ hs t,Wf S (i::hs)/\Rep S t i/\t.Bal/\Asc t.list/\t.size<n/\t.size<=700000/\hasK t.list key/\(dB t.size:Int)<=S.free/\hs.length+t.size<=300000000/\S.reads+5*dB t.size<=1500000000000000000 ∧
  ∀ S' j,TrR S hs (flt (neK key) t.list) (dB t.size) (5*dB t.size) S' j->K (.one (.at (vU j))) (chS S') W7
 | _=>False
def aDlt (n:Nat):Ann C0:={ Γ:=[(91,Yc [] tOpn),(113,Yc [] (tDlt n)),(92,Yc [] YlV),(134,Yc [] tCat)] }
def YwE:Ann C0:={ Γ:=[(87,Yc [] Yqb)] }
def YqB:Tfm C0:=fun args H K=>match args with
 | [.at (.ptr 0 0),.at (.val (.int .u32 i))]=>arM H fun S=>live S i/\exW S/\∀ S',S'=retL S i->K (.one (.at (vU i))) (chS S') [3]
 | _=>False
def YwF:Ann C0:={ Γ:=[(27,Yc [] YmS)] }
def YqC:Tfm C0:=fun args H K=>match args with
 | [.at (.ptr 0 0),.at (.val (.int .i64 n))]=>arM H fun S=>exW S/\∀ b,b=(decide (0<=n) && decide (n<=S.free))->K (.one (.at (vB b))) (chS S) []
 | _=>False
theorem YiG {S:Arn}{b:Tr}{r:Int}(h:Rep S b r)(hr:r≠0):∃ a2 k2 v2 b2,b = .node a2 k2 v2 b2:=by
 cases b with
 | nil=>exact absurd h hr
 | node a2 k2 v2 b2=>exact⟨a2,k2,v2,b2,rfl⟩
theorem Ybq (a b:Tr)(k v:Int):(Tr.node a k v b).size=a.size+b.size+1:=by simp[Tr.size];omega
abbrev O106 (r:Int)(K:SV → LH C0 → LN → Prop)(S':Arn)(j k v:Int):Prop:=∃ w0_:LI,∃ w1_:Tr,∃ w2_:Tr,Wf S' (j::r::w0_)/\Rep S' w1_ j/\Rep S' w2_ r/\w1_.Bal/\w2_.Bal/\w1_.size+w2_.size<=900000/\(↑(jB w1_.size w2_.size):Int)<=S'.free/\w0_.length<=700000000/\S'.reads+5*(↑(jB w1_.size w2_.size):Int)<=1800000000000000000/\∀ w3_:Arn,∀ w4_:Int,TrR S' w0_ (w1_.list++(k,v)::w2_.list) (jB w1_.size w2_.size) (4*jB w1_.size w2_.size) w3_ w4_->(balN (w1_.size:Int) (w2_.size:Int)->((w3_.nd w4_).left)=j/\((w3_.nd w4_).right)=r/\w3_.nu=(S'.nu+1))->K (.one (.at (.val (VU (w4_))))) [(.box [(.ptr 1 0),(.slc 2),(.slc 3),(.val (VW (w3_.reads)))]),(.box [(.slc 4),(.slc 5),(.slc 6),(.val (VU (w3_.fresh)))]),(.row true .node (w3_.nodes)),(.row true .int (w3_.counts)),(.row true .bool (w3_.used)),(.row true .u32 (w3_.gen)),(.row true .u32 (w3_.rel))] [0,1,2,3,4,5,6]
abbrev O107 (S:Arn)(r:Int)(K:SV → LH C0 → LN → Prop):Prop:=K (.one (.at (.val (VU (r))))) [(.box [(.ptr 1 0),(.slc 2),(.slc 3),(.val (VW (S.reads)))]),(.box [(.slc 4),(.slc 5),(.slc 6),(.val (VU (S.fresh)))]),(.row true .node (S.nodes)),(.row true .int (S.counts)),(.row true .bool (S.used)),(.row true .u32 (S.gen)),(.row true .u32 (S.rel))] [0,1,2,3,4,5,6]
abbrev O108 (n:Nat)(S':Arn)(l:Int)(hs1:LI)(t:Tr)(Z_:Prop):Prop:=Wf S' (l::hs1)/\Rep S' t l/\t.Bal/\Asc t.list/\t.size<n/\t.size<=700000/\(↑(iB t.size):Int)<=S'.free/\hs1.length+t.size<=600000000/\S'.reads+5*(↑(iB t.size):Int)<=1600000000000000000/\Z_
abbrev O109 (n:Nat)(key:Int)(S':Arn)(l:Int)(hs1:LI)(t:Tr)(Z_:Prop):Prop:=Wf S' (l::hs1)/\Rep S' t l/\t.Bal/\Asc t.list/\t.size<n/\t.size<=700000/\hasK t.list key/\(↑(dB t.size):Int)<=S'.free/\hs1.length+t.size<=300000000/\S'.reads+5*(↑(dB t.size):Int)<=1500000000000000000/\Z_
abbrev O110 (K:SV → LH C0 → LN → Prop)(k v:Int)(S':Arn)(l:Int):Prop:=K (.tup [(.at (.val (VU (l)))),(TV.agg [(.val (VI (k))),(.val (VI (v)))])]) [(.box [(.ptr 1 0),(.slc 2),(.slc 3),(.val (VW (S'.reads)))]),(.box [(.slc 4),(.slc 5),(.slc 6),(.val (VU (S'.fresh)))]),(.row true .node (S'.nodes)),(.row true .int (S'.counts)),(.row true .bool (S'.used)),(.row true .u32 (S'.gen)),(.row true .u32 (S'.rel))] [0,1,2,3,4,5,6]
abbrev O111 (n:Nat)(k v:Int)(K:SV → LH C0 → LN → Prop)(k1 v1:Int)(S':Arn)(l r:Int):Prop:=∃ w0_:LI,∃ w1_:Tr,O108 n S' l w0_ w1_ (∀ w2_:Arn,∀ w3_:Int,TrR S' w0_ (insE w1_.list (k,v)) (iB w1_.size) (5*iB w1_.size) w2_ w3_->O106 r K w2_ w3_ k1 v1)
abbrev O112 (n:Nat)(k v:Int)(K:SV → LH C0 → LN → Prop)(k1 v1:Int)(S':Arn)(l r:Int):Prop:=∃ w0_:LI,∃ w1_:Tr,O108 n S' r w0_ w1_ (∀ w2_:Arn,∀ w3_:Int,TrR S' w0_ (insE w1_.list (k,v)) (iB w1_.size) (5*iB w1_.size) w2_ w3_->O106 w3_ K w2_ l k1 v1)
theorem YtH (n:Nat)(S:Arn)(i:Int)(K:KT)(hs:LI)(a:Tr)(kr vr:Int)(b:Tr)(hw:Wf S (i::hs))(h2:Rep S (.node a kr vr b) i)(bal:(Tr.node a kr vr b).Bal)(hfu:(Tr.node a kr vr b).size<n+1)(hz:(Tr.node a kr vr b).size<=800000)(hf:(pB (Tr.node a kr vr b).size:Int)<=S.free)(hl:hs.length+(Tr.node a kr vr b).size<=600000000)(hr:S.reads+5*(pB (Tr.node a kr vr b).size)<=1700000000000000000)(h:∀ S' j k v L,(Tr.node a kr vr b).list=L++[(k,v)]->TrR S hs L (pB (Tr.node a kr vr b).size) (5*pB (Tr.node a kr vr b).size) S' j->K (.tup [.at (vU j),.agg [vI k,vI v]]) (chS S') W7) :
  vc C0 (YwC n) Tryz.f146 [.at (.ptr 0 0),.at (vU i)] (chS S) (Yh 7 (YG W7 K)):=by
 refine Eq.mp (show (∃ hs:LI,∃ a:Tr,∃ k:Int,∃ v:Int,∃ b:Tr,Wf S (i::hs)/\Rep S (a.node k v b) i/\hs.length<=900000000/\S.reads<=3000000000000000000/\∀ S':Arn,∀ l:Int,∀ r:Int,OpnR S hs a k v b S' l r->brS (r==0) (O110 K k v S' l) (∃ hs1:LI,∃ a1:Tr,∃ kr:Int,∃ vr:Int,∃ b1:Tr,Wf S' (r::hs1)/\Rep S' (a1.node kr vr b1) r/\(a1.node kr vr b1).Bal/\(a1.node kr vr b1).size<n/\(a1.node kr vr b1).size<=800000/\(↑(pB (a1.node kr vr b1).size):Int)<=S'.free/\hs1.length+(a1.node kr vr b1).size<=600000000/\S'.reads+5*(↑(pB (a1.node kr vr b1).size):Int)<=1700000000000000000/\∀ S'1:Arn,∀ j:Int,∀ k1:Int,∀ v1:Int,∀ L:LE,((a1.node kr vr b1).list)=(L++[(k1,v1)])->TrR S' hs1 L (pB (a1.node kr vr b1).size) (5*pB (a1.node kr vr b1).size) S'1 j->∃ hs2:LI,∃ ta:Tr,∃ tb:Tr,Wf S'1 (l::j::hs2)/\Rep S'1 ta l/\Rep S'1 tb j/\ta.Bal/\tb.Bal/\ta.size+tb.size<=900000/\(↑(jB ta.size tb.size):Int)<=S'1.free/\hs2.length<=700000000/\S'1.reads+5*(↑(jB ta.size tb.size):Int)<=1800000000000000000/\∀ S'2:Arn,∀ i1:Int,TrR S'1 hs2 (ta.list++(k,v)::tb.list) (jB ta.size tb.size) (4*jB ta.size tb.size) S'2 i1->(balN (ta.size:Int) (tb.size:Int)->((S'2.nd i1).left)=l/\((S'2.nd i1).right)=j/\S'2.nu=(S'1.nu+1))->O110 K k1 v1 S'2 i1))=_ by kernel_rfl) ?_;delta O110;have zz:=Ybq a b kr vr;rw[zz] at hfu hz hf hl hr h;obtain⟨bb,ba,bbb⟩:=bal;have hrd:=hw.rds
 refine⟨hs,a,kr,vr,b,hw,h2,by omega,by omega,fun S1 l r o=>Ya (fun d=>?_) fun d=>?_⟩
 .have d:r=0:=by simpa using d
  subst d;have e:=o.repr.zero o.got.wf;subst e;have pp:=YvH (n:=a.size+Tr.nil.size+1) (by omega);exact h S1 l kr vr a.list (by simp[Tr.list]) ⟨((o.got.perm (List.Perm.swap _ _ _)).of_zero).mono (by omega) (by omega),a,o.repl,rfl,ba⟩
 .have d:r≠0:=by simpa using d
  obtain⟨a2,k2,v2,b2,e⟩:=YiG o.repr d;have zb:1<=b.size:=by rw[e,Ybq];omega
  have ps:=YsT bb zb (by omega);have jp0:=Yfb a.size (b.size-1);have f1:=o.got.free hw;have q1:=o.got.rd;have orr:=o.repr;have eb:=e;rw[e] at orr;refine⟨l::hs,a2,k2,v2,b2,o.got.wf.perm (List.Perm.swap _ _ _),orr,?_⟩;rw[<-e];refine⟨bbb,by omega,by omega,by omega,by simp;omega,by omega,fun S2 j k1 v1 L eL tr=>?_⟩;obtain⟨t,rt,lt,bt⟩:=tr.tree;have zt:t.size=b.size-1:=by rw[<-t.list_len,lt,<-b.list_len,eL];simp
  have f2:=tr.got.free o.got.wf;have q2:=tr.got.rd;have jp:=Yfb a.size t.size;rw[<-zt] at ps;refine⟨hs,a,t,tr.got.wf.perm (List.Perm.swap _ _ _),o.repl.held o.got.wf tr.got.stay (.inr (by simp)),rt,ba,bt,by omega,by omega,by omega,by omega,fun S3 q tj _=>h S3 q k1 v1 (a.list++(kr,vr)::L) ?_ ⟨?_,?_⟩⟩
  .show a.list++(kr,vr)::b.list=_;rw[eL];simp
  .exact ((o.got.seq tr.got (h:=hs) (fun _ h=>h) (fun _ h=>by simp[h])).seq tj.got (fun _ h=>h) (fun _ h=>h)).mono (by omega) (by omega)
  .obtain⟨t',rt',lt',bt'⟩:=tj.tree;exact⟨t',rt',by rw[lt',lt],bt'⟩
theorem YwG:∀ n,Tb C0 146 (Yos n):=by
 intro n
 induction n with
 | zero =>
  refine .of Tryz.func146 (by decide) rfl fun args H K h hB=>?_
  exfalso
  unfold Yos at h;split at h<;>try exact h.elim
  unfold arM at h;split at h<;>try exact h.elim
  obtain⟨_,_,_,_,_,_,_,_,h1,_⟩:=h;omega
 | succ n ih =>
  refine .ofW W7 Tryz.func146 (by decide) rfl fun args H K h hB=>?_
  unfold Yos at h;split at h<;>try exact h.elim
  unfold arM at h;split at h<;>try exact h.elim
  rename_i i _ rd fr nd ct us gn rl;obtain⟨hs,a,kr,vr,b,h1,h2,h3,h4,h5,h6,h7,h8,h9⟩:=h;exact⟨YwC n,⟨Ye C0.ok YlU _,Ye C0.ok ih _,Ye C0.ok YkC _,trivial⟩,YtH n ⟨us,gn,rl,fr,nd,ct,rd⟩ i K hs a kr vr b h1 h2 h3 h4 h5 h6 h7 h8 h9⟩
theorem YwH:Tb C0 146 YtG:=(YwG 1000000).weak fun args H K h=>by
 unfold YtG at h;unfold Yos;split at h<;>try exact h.elim
 unfold arM at h ⊢;split at h<;>try exact h.elim
 obtain⟨hs,t,h1,h2,h3,h4,h5,h6,h7,h8,h9⟩:=h;cases t with
 | nil=>exact absurd h4 (by decide)
 | node a k v b=>exact⟨hs,a,k,v,b,h1,h2,h3,by omega,h5,h6,by omega,h8,h9⟩
theorem YwI (S:Arn)(l r:Int)(K:KT)(hs:LI)(ta tb:Tr)(hw:Wf S (l::r::hs))(h1:Rep S ta l)(h2:Rep S tb r)(b1:ta.Bal)(b2:tb.Bal)(hz:ta.size+tb.size<=800000)(hf:(cB ta.size tb.size:Int)<=S.free)(hl:hs.length<=400000000)(hr:S.reads+5*(cB ta.size tb.size)<=1600000000000000000)(h:∀ S' i,TrR S hs (ta.list++tb.list) (cB ta.size tb.size) (5*cB ta.size tb.size) S' i->K (.one (.at (vU i))) (chS S') W7) :
  vc C0 aCat Tryz.f134 [.at (.ptr 0 0),.at (vU l),.at (vU r)] (chS S) (Yh 7 (YG W7 K)):=by
 refine Eq.mp (show (brS (l==0) (O107 S r K) (brS (r==0) (O107 S l K) (∃ hs:LI,∃ t:Tr,Wf S (l::hs)/\Rep S t l/\t.Bal/\1<=t.size/\t.size<=800000/\(↑(pB t.size):Int)<=S.free/\hs.length<=500000000/\S.reads+5*(↑(pB t.size):Int)<=1700000000000000000/\∀ S':Arn,∀ j:Int,∀ k:Int,∀ v:Int,∀ L:LE,t.list=(L++[(k,v)])->TrR S hs L (pB t.size) (5*pB t.size) S' j->O106 r K S' j k v)))=_ by kernel_rfl) ?_;delta O106 O107;refine Ya (fun d=>?_) fun d=>Ya (fun e=>?_) fun e=>?_
 .have d:l=0:=by simpa using d
  subst d;have e:=h1.zero hw;subst e;exact h S r ⟨(Got.refl hw.of_zero).mono (ZC _) (ZC _),tb,h2,rfl,b2⟩
 .have e:r=0:=by simpa using e
  subst e;have e:=h2.zero hw;subst e;exact h S l ⟨(Got.refl (hw.perm (List.Perm.swap _ _ _)).of_zero).mono (ZC _) (ZC _),ta,h1,by simp[Tr.list],b1⟩
 .have d:l≠0:=by simpa using d
  have e:r≠0:=by simpa using e
  obtain⟨_,_,_,_,ea⟩:=YiG h1 d;obtain⟨_,_,_,_,eb⟩:=YiG h2 e;have za:1<=ta.size:=by rw[ea,Ybq];omega
  have zb:1<=tb.size:=by rw[eb,Ybq];omega
  have ec:cB ta.size tb.size=pB ta.size+jB (ta.size-1) tb.size:=by unfold cB;rw[Zf (by omega)]
  rw[ec] at hf hr h;have hrd:=hw.rds;refine⟨r::hs,ta,hw,h1,b1,za,by omega,by omega,by simp;omega,by omega,fun S1 j k v L eL tr=>?_⟩;obtain⟨t,rt,lt,bt⟩:=tr.tree;have zt:t.size=ta.size-1:=by rw[<-t.list_len,lt,<-ta.list_len,eL];simp
  rw[<-zt] at hf hr h;have f2:=tr.got.free hw;have q2:=tr.got.rd;refine⟨hs,t,tb,tr.got.wf,rt,h2.held hw tr.got.stay (.inr (by simp)),bt,b2,by omega,by omega,by omega,by omega,fun S2 q tj _=>h S2 q ⟨?_,?_⟩⟩
  .exact (tr.got.seq tj.got (h:=hs) (fun _ h=>by simp[h]) (fun _ h=>h)).mono (by omega) (by omega)
  .obtain⟨t',rt',lt',bt'⟩:=tj.tree;exact⟨t',rt',by rw[lt',lt,eL];simp,bt'⟩
theorem Yza:Tb C0 134 tCat:=by
 refine .ofW W7 Tryz.func134 (by decide) rfl fun args H K h hB=>?_
 unfold tCat at h;split at h<;>try exact h.elim
 unfold arM at h;split at h<;>try exact h.elim
 rename_i l r _ rd fr nd ct us gn rl;obtain⟨hs,ta,tb,h1,h2,h3,h4,h5,h6,h7,h8,h9,h10⟩:=h;exact⟨aCat,⟨Ye C0.ok YwH _,Ye C0.ok YkC _,trivial⟩,YwI ⟨us,gn,rl,fr,nd,ct,rd⟩ l r K hs ta tb h1 h2 h3 h4 h5 h6 h7 h8 h9 h10⟩
theorem YtI (S:Arn)(i:Int)(K:KT)(h1:live S i)(h2:exW S)(h:∀ S',S'=retL S i->K (.one (.at (vU i))) (chS S') [3]) :
  vc C0 YwE Tryz.f43 [.at (.ptr 0 0),.at (vU i)] (chS S) (Yh 7 (YG [3] K)):=by
 refine Eq.mp (show (live S i/\exW S/\∀ S':Arn,S'=retL S i->K (.one (.at (.val (VU (i))))) [(.box [(.ptr 1 0),(.slc 2),(.slc 3),(.val (VW (S'.reads)))]),(.box [(.slc 4),(.slc 5),(.slc 6),(.val (VU (S'.fresh)))]),(.row true .node (S'.nodes)),(.row true .int (S'.counts)),(.row true .bool (S'.used)),(.row true .u32 (S'.gen)),(.row true .u32 (S'.rel))] [3])=_ by kernel_rfl) ?_;exact⟨h1,h2,h⟩
theorem YrC:Tb C0 43 YqB:=by
 refine .ofW [3] Tryz.func43 (by decide) rfl fun args H K h hB=>?_
 unfold YqB at h;split at h<;>try exact h.elim
 unfold arM at h;split at h<;>try exact h.elim
 rename_i i _ rd fr nd ct us gn rl;exact⟨YwE,⟨Ye C0.ok Yrq _,trivial⟩,YtI ⟨us,gn,rl,fr,nd,ct,rd⟩ i K h.1 h.2.1 h.2.2⟩
theorem YtJ (S:Arn)(n:Int)(K:KT)(h1:exW S)(h:∀ b,b=(decide (0<=n) && decide (n<=S.free))->K (.one (.at (vB b))) (chS S) []) :
  vc C0 YwF Tryz.f44 [.at (.ptr 0 0),.at (vI n)] (chS S) (Yh 7 K):=by
 refine Eq.mp (show (brS (decide (n≥0)) (exW S/\K (.one (.at (.val (Zi (decide (S.free≥n)))))) [(.box [(.ptr 1 0),(.slc 2),(.slc 3),(.val (VW (S.reads)))]),(.box [(.slc 4),(.slc 5),(.slc 6),(.val (VU (S.fresh)))]),(.row true .node (S.nodes)),(.row true .int (S.counts)),(.row true .bool (S.used)),(.row true .u32 (S.gen)),(.row true .u32 (S.rel))] []) (K (.one (.at (.val (Zi false)))) [(.box [(.ptr 1 0),(.slc 2),(.slc 3),(.val (VW (S.reads)))]),(.box [(.slc 4),(.slc 5),(.slc 6),(.val (VU (S.fresh)))]),(.row true .node (S.nodes)),(.row true .int (S.counts)),(.row true .bool (S.used)),(.row true .u32 (S.gen)),(.row true .u32 (S.rel))] []))=_ by kernel_rfl) ?_;refine Ya (fun d=>⟨h1,h _ ?_⟩) fun d=>h _ ?_
 .have d:0<=n:=Zc d;rw[Zat d];rfl
 .have d:¬ 0<=n:=Zg d;rw[decide_eq_false d];rfl
theorem YrD:Tb C0 44 YqC:=by
 refine .of Tryz.func44 (by decide) rfl fun args H K h hB=>?_
 unfold YqC at h;split at h<;>try exact h.elim
 unfold arM at h;split at h<;>try exact h.elim
 rename_i n _ rd fr nd ct us gn rl;exact⟨YwF,⟨Ye C0.ok YmX _,trivial⟩,YtJ ⟨us,gn,rl,fr,nd,ct,rd⟩ n K h.1 h.2⟩
theorem YrE {a b t:Nat}(h:balN a b)(h1:a<=t)(h2:t<=a+1):jB t b<=4:=by
 rcases Zad a t with c|c
 .have:t=a+1:=by omega
  subst this;rw[YdL];exact YsS (YA h)
 .have:t=a:=by omega
  subst this;rw[Yvv h];decide
theorem YtK {a b t:Nat}(h:balN a b)(h1:b<=t)(h2:t<=b+1):jB a t<=4:=by
 rw[YdL];exact YrE (YA h) h1 h2
theorem YtL (n:Nat)(S:Arn)(i k v:Int)(K:KT)(hs:LI)(t:Tr)(hw:Wf S (i::hs))(h1:Rep S t i)(bal:t.Bal)(asc:Asc t.list)(hfu:t.size<n+1)(hz:t.size<=700000)(hf:(iB t.size:Int)<=S.free)(hl:hs.length+t.size<=600000000)(hr:S.reads+5*iB t.size<=1600000000000000000)(h:∀ S' j,TrR S hs (insE t.list (k,v)) (iB t.size) (5*iB t.size) S' j->K (.one (.at (vU j))) (chS S') W7) :
  vc C0 (YwD n) Tryz.f46 [.at (.ptr 0 0),.at (vU i),.agg [vI k,vI v]] (chS S) (Yh 7 (YG W7 K)):=by
 refine Eq.mp (show (brS (i==0) (∃ hs:LI,∃ tl:Tr,∃ tr:Tr,Wf S (0::0::hs)/\Rep S tl 0/\Rep S tr 0/\tl.size+tr.size<=1000000/\0<S.free/\hs.length<=900000000/\∀ S':Arn,∀ i1:Int,NodeR S hs k v tl tr S' i1->((S'.nd i1).left)=0->((S'.nd i1).right)=0->O107 S' i1 K) (∃ hs:LI,∃ a:Tr,∃ k1:Int,∃ v1:Int,∃ b:Tr,Wf S (i::hs)/\Rep S (a.node k1 v1 b) i/\hs.length<=900000000/\S.reads<=3000000000000000000/\∀ S':Arn,∀ l:Int,∀ r:Int,OpnR S hs a k1 v1 b S' l r->brS (decide (k<k1)) ((O111 n k v K k1 v1 S' l r/\O111 n k v K k1 v1 S' l r)/\O111 n k v K k1 v1 S' l r) (brS (decide (k>k1)) (O112 n k v K k1 v1 S' l r/\O112 n k v K k1 v1 S' l r/\O112 n k v K k1 v1 S' l r) (∃ hs1:LI,∃ tl:Tr,∃ tr:Tr,Wf S' (l::r::hs1)/\Rep S' tl l/\Rep S' tr r/\tl.size+tr.size<=1000000/\0<S'.free/\hs1.length<=900000000/\∀ S'1:Arn,∀ i1:Int,NodeR S' hs1 k v tl tr S'1 i1->((S'1.nd i1).left)=l->((S'1.nd i1).right)=r->O107 S'1 i1 K))))=_ by kernel_rfl) ?_;delta O106 O107 O108 O111 O112;have hrd:=hw.rds;refine Ya (fun d=>?_) fun d=>?_
 .have d:i=0:=by simpa using d
  subst d;have e:=h1.zero hw;subst e;have ep:1<=iB Tr.nil.size:=by unfold iB;omega
  refine⟨hs,.nil,.nil,hw.zero_cons (by simp;omega),rfl,rfl,by decide,by omega,by omega,fun S1 j nn _ _=>h S1 j ⟨(Got.node nn).mono (by omega) (by omega),_,nn.rep,?_,?_⟩⟩
  .simp[Tr.list,insE,Ybm]
  .exact⟨by decide,trivial,trivial⟩
 .have d:i≠0:=by simpa using d
  obtain⟨a,k1,v1,b,e⟩:=YiG h1 d;subst e;have zz:=Ybq a b k1 v1;rw[zz] at hfu hz hf hl hr h;obtain⟨bb,ba,bbb⟩:=bal;have asc':Asc (a.list++(k1,v1)::b.list):=asc;obtain⟨asca,ascb,ltk,gtk⟩:=YO asc';have isa:=YnX (YA bb) (by omega);have isb:=YnX bb (by omega);rw[show b.size+a.size+1=a.size+b.size+1 by omega] at isa;refine⟨hs,a,k1,v1,b,hw,h1,by omega,by omega,fun S1 l r o=>?_⟩;have f1:=o.got.free hw;have q1:=o.got.rd;refine Ya (fun d=>?_) fun d=>Ya (fun e=>?_) fun e=>?_
  .have d:k<k1:=Zc d
   (repeat' apply And.intro)
   all_goals
    refine⟨r::hs,a,o.got.wf,o.repl,ba,asca,by omega,by omega,by omega,by simp;omega,by omega,fun S2 j tr=>?_⟩;obtain⟨t,rt,lt,bt⟩:=tr.tree;have z1:=YnZ (k,v) asca;have z2:=Yec a.list (k,v);rw[<-lt,a.list_len,t.list_len] at z1 z2;have jb:=YrE bb z1 z2;have jp:=Yfb t.size b.size;have f2:=tr.got.free o.got.wf;have q2:=tr.got.rd;refine⟨hs,t,b,tr.got.wf,rt,o.repr.held o.got.wf tr.got.stay (.inr (by simp)),bt,bbb,by omega,by omega,by omega,by omega,fun S3 q tj _=>h S3 q ⟨?_,?_⟩⟩
    .exact ((o.got.seq tr.got (h:=hs) (fun _ h=>h) (fun _ h=>by simp[h])).seq tj.got (fun _ h=>h) (fun _ h=>h)).mono (by omega) (by omega)
    .obtain⟨t',rt',lt',bt'⟩:=tj.tree;exact⟨t',rt',by rw[lt',lt];exact (YnW asc' d).symm,bt'⟩
  .have e:k1<k:=Zc e
   (repeat' apply And.intro)
   all_goals
    refine⟨l::hs,b,o.got.wf.perm (List.Perm.swap _ _ _),o.repr,bbb,ascb,by omega,by omega,by omega,by simp;omega,by omega,fun S2 j tr=>?_⟩;obtain⟨t,rt,lt,bt⟩:=tr.tree;have z1:=YnZ (k,v) ascb;have z2:=Yec b.list (k,v);rw[<-lt,b.list_len,t.list_len] at z1 z2;have jb:=YtK bb z1 z2;have jp:=Yfb a.size t.size;have f2:=tr.got.free o.got.wf;have q2:=tr.got.rd;refine⟨hs,a,t,tr.got.wf.perm (List.Perm.swap _ _ _),o.repl.held o.got.wf tr.got.stay (.inr (by simp)),rt,ba,bt,by omega,by omega,by omega,by omega,fun S3 q tj _=>h S3 q ⟨?_,?_⟩⟩
    .exact ((o.got.seq tr.got (h:=hs) (fun _ h=>h) (fun _ h=>by simp[h])).seq tj.got (fun _ h=>h) (fun _ h=>h)).mono (by omega) (by omega)
    .obtain⟨t',rt',lt',bt'⟩:=tj.tree;exact⟨t',rt',by rw[lt',lt];exact (YlS asc' e).symm,bt'⟩
  .have d:¬ k<k1:=Zg d;have e:¬ k>k1:=Zg e;have ek:k1=k:=by omega
   subst ek;have ip:1<=iB (a.size+b.size+1):=by unfold iB;omega
   refine⟨hs,a,b,o.got.wf,o.repl,o.repr,by omega,by omega,by omega,fun S2 j nn _ _=>h S2 j ⟨(o.got.seq (Got.node nn) (h:=hs) (fun _ h=>h) (fun _ h=>h)).mono (by omega) (by omega),_,nn.rep,?_,bb,ba,bbb⟩⟩;exact (YsQ (e:=(k1,v)) asc').symm
theorem YwJ:∀ n,Tb C0 46 (Yot n):=by
 intro n
 induction n with
 | zero =>
  refine .of Tryz.func46 (by decide) rfl fun args H K h hB=>?_
  exfalso
  unfold Yot at h;split at h<;>try exact h.elim
  unfold arM at h;split at h<;>try exact h.elim
  obtain⟨_,_,_,_,_,_,h1,_⟩:=h;omega
 | succ n ih =>
  refine .ofW W7 Tryz.func46 (by decide) rfl fun args H K h hB=>?_
  unfold Yot at h;split at h<;>try exact h.elim
  unfold arM at h;split at h<;>try exact h.elim
  rename_i i k v _ rd fr nd ct us gn rl;obtain⟨hs,t,h1,h2,h3,h4,h5,h6,h7,h8,h9,h10⟩:=h;exact⟨YwD n,⟨Ye C0.ok YlU _,Ye C0.ok ih _,Ye C0.ok YkC _,Ye C0.ok Yfh _,trivial⟩,YtL n ⟨us,gn,rl,fr,nd,ct,rd⟩ i k v K hs t h1 h2 h3 h4 h5 h6 h7 h8 h9 h10⟩
theorem You {a b:LE}{k v q:Int}(h:Asc (a++(k,v)::b))(hk:hasK (a++(k,v)::b) q)(hq:q<k):hasK a q:=by
 obtain⟨w,hw⟩:=hk;obtain⟨_,_,_,h4⟩:=YO h;rcases Zx.1 hw with c|c
 .exact⟨w,c⟩
 .rcases ZH.1 c with c|c
  .have:=ZT Prod.fst c;simp at this;omega
  .have:=h4 _ c;simp at this;omega
theorem YlY {a b:LE}{k v q:Int}(h:Asc (a++(k,v)::b))(hk:hasK (a++(k,v)::b) q)(hq:k<q):hasK b q:=by
 obtain⟨w,hw⟩:=hk;obtain⟨_,_,h3,_⟩:=YO h;rcases Zx.1 hw with c|c
 .have:=h3 _ c;simp at this;omega
 .rcases ZH.1 c with c|c
  .have:=ZT Prod.fst c;simp at this;omega
  .exact⟨w,c⟩
theorem YwK (n:Nat)(S:Arn)(i key:Int)(K:KT)(hs:LI)(t:Tr)(hw:Wf S (i::hs))(h1:Rep S t i)(bal:t.Bal)(asc:Asc t.list)(hfu:t.size<n+1)(hz:t.size<=700000)(hk:hasK t.list key)(hf:(dB t.size:Int)<=S.free)(hl:hs.length+t.size<=300000000)(hr:S.reads+5*dB t.size<=1500000000000000000)(h:∀ S' j,TrR S hs (flt (neK key) t.list) (dB t.size) (5*dB t.size) S' j->K (.one (.at (vU j))) (chS S') W7) :
  vc C0 (aDlt n) Tryz.f113 [.at (.ptr 0 0),.at (vU i),.at (vI key)] (chS S) (Yh 7 (YG W7 K)):=by
 refine Eq.mp (show (brS (i==0) (K (.one (.at (.val (VU 0)))) [(.box [(.ptr 1 0),(.slc 2),(.slc 3),(.val (VW (S.reads)))]),(.box [(.slc 4),(.slc 5),(.slc 6),(.val (VU (S.fresh)))]),(.row true .node (S.nodes)),(.row true .int (S.counts)),(.row true .bool (S.used)),(.row true .u32 (S.gen)),(.row true .u32 (S.rel))] [0,1,2,3,4,5,6]) (∃ hs:LI,∃ a:Tr,∃ k:Int,∃ v:Int,∃ b:Tr,Wf S (i::hs)/\Rep S (a.node k v b) i/\hs.length<=900000000/\S.reads<=3000000000000000000/\∀ S':Arn,∀ l:Int,∀ r:Int,OpnR S hs a k v b S' l r->brS (decide (key<k)) ((∃ hs1:LI,∃ t:Tr,O109 n key S' l hs1 t (∀ S'1:Arn,∀ j:Int,TrR S' hs1 (flt (neK key) t.list) (dB t.size) (5*dB t.size) S'1 j->O106 r K S'1 j k v))/\∃ hs1:LI,∃ t:Tr,O109 n key S' l hs1 t (∀ S'1:Arn,∀ j:Int,TrR S' hs1 (flt (neK key) t.list) (dB t.size) (5*dB t.size) S'1 j->O106 r K S'1 j k v)) (brS (decide (key>k)) ((∃ hs1:LI,∃ t:Tr,O109 n key S' r hs1 t (∀ S'1:Arn,∀ j:Int,TrR S' hs1 (flt (neK key) t.list) (dB t.size) (5*dB t.size) S'1 j->O106 j K S'1 l k v))/\∃ hs1:LI,∃ t:Tr,O109 n key S' r hs1 t (∀ S'1:Arn,∀ j:Int,TrR S' hs1 (flt (neK key) t.list) (dB t.size) (5*dB t.size) S'1 j->O106 j K S'1 l k v)) (∃ hs1:LI,∃ ta:Tr,∃ tb:Tr,Wf S' (l::r::hs1)/\Rep S' ta l/\Rep S' tb r/\ta.Bal/\tb.Bal/\ta.size+tb.size<=800000/\(↑(cB ta.size tb.size):Int)<=S'.free/\hs1.length<=400000000/\S'.reads+5*(↑(cB ta.size tb.size):Int)<=1600000000000000000/\∀ S'1:Arn,∀ i1:Int,TrR S' hs1 (ta.list++tb.list) (cB ta.size tb.size) (5*cB ta.size tb.size) S'1 i1->O107 S'1 i1 K))))=_ by kernel_rfl) ?_
 delta O106 O107 O109;have hrd:=hw.rds;refine Ya (fun d=>?_) fun d=>?_
 .have d:i=0:=by simpa using d
  subst d;have e:=h1.zero hw;subst e;obtain⟨v,hv⟩:=hk;simp[Tr.list] at hv
 .have d:i≠0:=by simpa using d
  obtain⟨a,k1,v1,b,e⟩:=YiG h1 d;subst e;have zz:=Ybq a b k1 v1;rw[zz] at hfu hz hf hl hr h;obtain⟨bb,ba,bbb⟩:=bal;have asc':Asc (a.list++(k1,v1)::b.list):=asc;have hk':hasK (a.list++(k1,v1)::b.list) key:=hk;have h':∀ S' j,TrR S hs (flt (neK key) (a.list++(k1,v1)::b.list)) (dB (a.size+b.size+1)) (5*dB (a.size+b.size+1)) S' j->K (.one (.at (vU j))) (chS S') W7:=h;obtain⟨asca,ascb,ltk,gtk⟩:=YO asc';have dp:=YvJ (a.size+b.size+1);refine⟨hs,a,k1,v1,b,hw,h1,by omega,by omega,fun S1 l r o=>?_⟩;have f1:=o.got.free hw;have q1:=o.got.rd;refine Ya (fun d=>?_) fun d=>Ya (fun e=>?_) fun e=>?_
  .have d:key<k1:=Zc d;have hka:=You asc' hk' d;have zl:=YfW asca hka;rw[a.list_len] at zl;have ds:=YnY (YA bb) (c:=a.size) (by omega) (by omega);rw[show b.size+a.size+1=a.size+b.size+1 by omega] at ds;have jp:=Yfb b.size (a.size-1)
   (repeat' apply And.intro)
   all_goals
    refine⟨r::hs,a,o.got.wf,o.repl,ba,asca,by omega,by omega,hka,by omega,by simp;omega,by omega,fun S2 j tr=>?_⟩;obtain⟨t,rt,lt,bt⟩:=tr.tree;have zt:t.size=a.size-1:=by rw[<-t.list_len,lt];omega
    have f2:=tr.got.free o.got.wf;have q2:=tr.got.rd;have ej:jB t.size b.size=jB b.size (a.size-1):=by rw[zt,YdL]
    refine⟨hs,t,b,tr.got.wf,rt,o.repr.held o.got.wf tr.got.stay (.inr (by simp)),bt,bbb,by omega,by omega,by omega,by omega,fun S3 q tj _=>h' S3 q ⟨?_,?_⟩⟩
    .exact ((o.got.seq tr.got (h:=hs) (fun _ h=>h) (fun _ h=>by simp[h])).seq tj.got (fun _ h=>h) (fun _ h=>h)).mono (by omega) (by omega)
    .obtain⟨t',rt',lt',bt'⟩:=tj.tree;refine⟨t',rt',?_,bt'⟩;rw[lt',lt];exact (YsU (fun x hx=>by have:=gtk x hx;simp[neK];omega) (by simp[neK];omega)).symm
  .have e:k1<key:=Zc e;have hkb:=YlY asc' hk' e;have zl:=YfW ascb hkb;rw[b.list_len] at zl;have ds:=YnY bb (by omega) (by omega);have jp:=Yfb a.size (b.size-1)
   (repeat' apply And.intro)
   all_goals
    refine⟨l::hs,b,o.got.wf.perm (List.Perm.swap _ _ _),o.repr,bbb,ascb,by omega,by omega,hkb,by omega,by simp;omega,by omega,fun S2 j tr=>?_⟩;obtain⟨t,rt,lt,bt⟩:=tr.tree;have zt:t.size=b.size-1:=by rw[<-t.list_len,lt];omega
    have f2:=tr.got.free o.got.wf;have q2:=tr.got.rd;have ej:jB a.size t.size=jB a.size (b.size-1):=by rw[zt]
    refine⟨hs,a,t,tr.got.wf.perm (List.Perm.swap _ _ _),o.repl.held o.got.wf tr.got.stay (.inr (by simp)),rt,ba,bt,by omega,by omega,by omega,by omega,fun S3 q tj _=>h' S3 q ⟨?_,?_⟩⟩
    .exact ((o.got.seq tr.got (h:=hs) (fun _ h=>h) (fun _ h=>by simp[h])).seq tj.got (fun _ h=>h) (fun _ h=>h)).mono (by omega) (by omega)
    .obtain⟨t',rt',lt',bt'⟩:=tj.tree;refine⟨t',rt',?_,bt'⟩;rw[lt',lt];exact (YsV (fun x hx=>by have:=ltk x hx;simp[neK];omega) (by simp[neK];omega)).symm
  .have d:¬ key<k1:=Zg d;have e:¬ key>k1:=Zg e;have ek:key=k1:=by omega
   have df:=YpX bb (by omega);refine⟨hs,a,b,o.got.wf,o.repl,o.repr,ba,bbb,by omega,by omega,by omega,by omega,fun S2 j tr=>h' S2 j ⟨?_,?_⟩⟩
   .exact (o.got.seq tr.got (h:=hs) (fun _ h=>h) (fun _ h=>h)).mono (by omega) (by omega)
   .obtain⟨t',rt',lt',bt'⟩:=tr.tree;refine⟨t',rt',?_,bt'⟩;rw[lt',YgY,YgX (l:=a.list) (fun x hx=>by have:=ltk x hx;simp[neK];omega),YgX (l:=b.list) (fun x hx=>by have:=gtk x hx;simp[neK];omega),ek];simp[neK]
theorem Yzb:∀ n,Tb C0 113 (tDlt n):=by
 intro n
 induction n with
 | zero =>
  refine .of Tryz.func113 (by decide) rfl fun args H K h hB=>?_
  exfalso
  unfold tDlt at h;split at h<;>try exact h.elim
  unfold arM at h;split at h<;>try exact h.elim
  obtain⟨_,_,_,_,_,_,h1,_⟩:=h;omega
 | succ n ih =>
  refine .ofW W7 Tryz.func113 (by decide) rfl fun args H K h hB=>?_
  unfold tDlt at h;split at h<;>try exact h.elim
  unfold arM at h;split at h<;>try exact h.elim
  rename_i i key _ rd fr nd ct us gn rl;obtain⟨hs,t,h1,h2,h3,h4,h5,h6,h7,h8,h9,h10,h11⟩:=h;exact⟨aDlt n,⟨Ye C0.ok YlU _,Ye C0.ok ih _,Ye C0.ok YkC _,Ye C0.ok Yza _,trivial⟩,YwK n ⟨us,gn,rl,fr,nd,ct,rd⟩ i key K hs t h1 h2 h3 h4 h5 h6 h7 h8 h9 h10 h11⟩
def tIn:Tfm C0:=fun args H K=>match args with
 | [.at (.ptr 0 0),.at (.val (.int .u32 i)),.agg [.val (.int .i64 k),.val (.int .i64 v)]]=>arM H fun S=>∃ hs t,Wf S (i::hs)/\Rep S t i/\t.Bal/\Asc t.list/\t.size<=700000/\(iB t.size:Int)<=S.free/\hs.length<=500000000/\S.reads+5*iB t.size<=1600000000000000000 ∧
  ∀ S' j,TrR S hs (insE t.list (k,v)) (iB t.size) (5*iB t.size) S' j->K (.one (.at (vU j))) (chS S') W7
 | _=>False
theorem s_in:Tb C0 46 tIn:=(YwJ 1000000).weak fun args H K h=>by
 unfold tIn at h;unfold Yot;split at h<;>try exact h.elim
 unfold arM at h ⊢;split at h<;>try exact h.elim
 obtain⟨hs,t,h1,h2,h3,h4,h6,h7,h8,h9,h10⟩:=h;exact⟨hs,t,h1,h2,h3,h4,by omega,h6,h7,by omega,h9,h10⟩
def tDe:Tfm C0:=fun args H K=>match args with
 | [.at (.ptr 0 0),.at (.val (.int .u32 i)),.at (.val (.int .i64 key))]=>arM H fun S=>∃ hs t,Wf S (i::hs)/\Rep S t i/\t.Bal/\Asc t.list/\t.size<=700000/\hasK t.list key/\(dB t.size:Int)<=S.free/\hs.length<=200000000/\S.reads+5*dB t.size<=1500000000000000000 ∧
  ∀ S' j,TrR S hs (flt (neK key) t.list) (dB t.size) (5*dB t.size) S' j->K (.one (.at (vU j))) (chS S') W7
 | _=>False
theorem s_de:Tb C0 113 tDe:=(Yzb 1000000).weak fun args H K h=>by
 unfold tDe at h;unfold tDlt;split at h<;>try exact h.elim
 unfold arM at h ⊢;split at h<;>try exact h.elim
 obtain⟨hs,t,h1,h2,h3,h4,h6,h7,h8,h9,h10,h11⟩:=h;exact⟨hs,t,h1,h2,h3,h4,by omega,h6,h7,h8,by omega,h10,h11⟩
def upM (S:Arn)(hs:LI)(t:Tr)(root:Int):Prop:=Wf S hs/\Rep S t root/\t.Bal/\Asc t.list/\t.size<=60000/\hs.length<=100000000/\S.reads<=1000000000000000000
def aUpI:Ann C0:={ Γ:=[(42,Yc [] YpY),(43,Yc [] YqB),(41,Yc [] Yfy),(45,Yc [] (YgZ 4 1)),(44,Yc [] YqC),(46,Yc [] tIn)] }
def tUpI:Tfm C0:=fun args H K=>match args with
 | [.at (.ptr 0 0),.at (.val (.int .u32 r)),.agg [.val (.int .i64 k),.val (.int .i64 v)]]=>arM H fun S=>∃ hs t,upM S hs t r ∧
  (getE t.list k=some v->∀ S' m,S'=retL (rdS S m) r->m<=ht t->K (.tup [.at (vU r),.at (vI v),.at (vB true),.at (vI 0)]) (chS S') W7) ∧
  (getE t.list k≠some v->S.free<4*(Hn (t.size+1)+2)->∀ S' m,S'=rdS S m->m<=ht t+1->K (.tup [.at (vU 0),.at (vI 0),.at (vB false),.at (vI 2)]) (chS S') W7) ∧
  (getE t.list k≠some v->4*(Hn (t.size+1)+2)<=S.free->∀ S' j (o:Option Int),o=getE t.list k->TrR S hs (insE t.list (k,v)) (iB t.size) (5*iB t.size+ht t+1) S' j->K (.tup [.at (vU j),.at (vI (o.getD 0)),.at (vB o.isSome),.at (vI 0)]) (chS S') W7)
 | _=>False
def aUpD:Ann C0:={ Γ:=[(42,Yc [] YpY),(43,Yc [] YqB),(41,Yc [] Yfy),(112,Yc [] (YgZ 4 0)),(44,Yc [] YqC),(113,Yc [] tDe)] }
def tUpD:Tfm C0:=fun args H K=>match args with
 | [.at (.ptr 0 0),.at (.val (.int .u32 r)),.at (.val (.int .i64 k))]=>arM H fun S=>∃ hs t,upM S hs t r ∧
  (getE t.list k=none->∀ S' m,S'=rdS S m->m<=ht t->K (.tup [.at (vU 0),.at (vI 0),.at (vI 4)]) (chS S') W7) ∧
  (∀ v,getE t.list k=some v->S.free<4*(Hn t.size+2)->∀ S' m,S'=rdS S m->m<=ht t+1->K (.tup [.at (vU 0),.at (vI 0),.at (vI 2)]) (chS S') W7) ∧
  (∀ v,getE t.list k=some v->4*(Hn t.size+2)<=S.free->∀ S' j,TrR S hs (flt (neK k) t.list) (dB t.size) (5*dB t.size+ht t+1) S' j->K (.tup [.at (vU j),.at (vI v),.at (vI 0)]) (chS S') W7)
 | _=>False
theorem Yhm (n:Nat):Hn n<=Hn ((n:Int)+1):=by
 have a:=YdJ n;have b:=YdJ (n+1);have c:=YsJ (v:=n+1) (w:=n+1+1) (by omega) (by omega);rw[show ((n+1:Nat):Int)=(n:Int)+1 by omega] at b;omega
theorem YiH (S:Arn)(i:Int):(retL S i).free=S.free:=by unfold retL;split<;>rfl
theorem YrF (b:Bool):b.toNat<=1:=by cases b<;>decide
theorem YwL (n:Nat):(iB n:Int)=4*Hn n+1:=by have:=YdJ n;unfold iB;omega
theorem YwM (n:Nat):(dB n:Int)<=4*Hn n+4:=by have:=YdJ n;have:=Yyr n;omega
theorem YwN (S:Arn)(r k v:Int)(K:KT)(hs:LI)(t:Tr)(hm:upM S hs t r)(h1:getE t.list k=some v->∀ S' m,S'=retL (rdS S m) r->m<=ht t->K (.tup [.at (vU r),.at (vI v),.at (vB true),.at (vI 0)]) (chS S') W7)(h2:getE t.list k≠some v->S.free<4*(Hn (t.size+1)+2)->∀ S' m,S'=rdS S m->m<=ht t+1->K (.tup [.at (vU 0),.at (vI 0),.at (vB false),.at (vI 2)]) (chS S') W7)(h3:getE t.list k≠some v->4*(Hn (t.size+1)+2)<=S.free->∀ S' j (o:Option Int),o=getE t.list k->TrR S hs (insE t.list (k,v)) (iB t.size) (5*iB t.size+ht t+1) S' j->K (.tup [.at (vU j),.at (vI (o.getD 0)),.at (vB o.isSome),.at (vI 0)]) (chS S') W7) :
  vc C0 aUpI Tryz.f11 [.at (.ptr 0 0),.at (vU r),.agg [vI k,vI v]] (chS S) (Yh 7 (YG W7 K)):=by
 refine Eq.mp (show (∃ hs:LI,∃ t:Tr,Wf S hs/\Rep S t r/\Asc t.list/\t.size<=1000000/\S.reads+(t.size:Int)<=3000000000000000000/\∀ S':Arn,∀ m:Nat,∀ o:Option Int,S'=rdS S m->m<=ht t->o=getE t.list k->brS (o.isSome) (brS (o.getD 0==v) (live S' r/\exW S'/\∀ S'1:Arn,S'1=retL S' r->K (.tup [(.at (.val (VU (r)))),(.at (.val (VI (o.getD 0)))),(.at (.val (Zi true))),(.at (.val (VI 0)))]) [(.box [(.ptr 1 0),(.slc 2),(.slc 3),(.val (VW (S'1.reads)))]),(.box [(.slc 4),(.slc 5),(.slc 6),(.val (VU (S'1.fresh)))]),(.row true .node (S'1.nodes)),(.row true .int (S'1.counts)),(.row true .bool (S'1.used)),(.row true .u32 (S'1.gen)),(.row true .u32 (S'1.rel))] [0,1,2,3,4,5,6]) (inU r/\exW S'/\S'.reads<4000000000000000000/\∀ S'1:Arn,S'1=(rdS S' (S'.us r).toNat)->0<=(S'.nd r).size/\(S'.nd r).size<=65536/\∀ p:Int,p=(4*(Hn ((S'.nd r).size+1)+2))->exW S'1/\∀ b:Bool,b=(decide (0<=p) && decide (p<=S'1.free))->brS (!b) (K (.tup [(.at (.val (VU 0))),(.at (.val (VI 0))),(.at (.val (Zi false))),(.at (.val (VI 2)))]) [(.box [(.ptr 1 0),(.slc 2),(.slc 3),(.val (VW (S'1.reads)))]),(.box [(.slc 4),(.slc 5),(.slc 6),(.val (VU (S'1.fresh)))]),(.row true .node (S'1.nodes)),(.row true .int (S'1.counts)),(.row true .bool (S'1.used)),(.row true .u32 (S'1.gen)),(.row true .u32 (S'1.rel))] [0,1,2,3,4,5,6]) ((live S'1 r/\exW S'1/\∀ S'2:Arn,S'2=retL S'1 r->∃ hs1:LI,∃ t1:Tr,Wf S'2 (r::hs1)/\Rep S'2 t1 r/\t1.Bal/\Asc t1.list/\t1.size<=700000/\(↑(iB t1.size):Int)<=S'2.free/\hs1.length<=500000000/\
 S'2.reads+5*(↑(iB t1.size):Int)<=1600000000000000000/\∀ S'3:Arn,∀ j:Int,TrR S'2 hs1 (insE t1.list (k,v)) (iB t1.size) (5*iB t1.size) S'3 j->K (.tup [(.at (.val (VU (j)))),(.at (.val (VI (o.getD 0)))),(.at (.val (Zi (o.isSome)))),(.at (.val (VI 0)))]) [(.box [(.ptr 1 0),(.slc 2),(.slc 3),(.val (VW (S'3.reads)))]),(.box [(.slc 4),(.slc 5),(.slc 6),(.val (VU (S'3.fresh)))]),(.row true .node (S'3.nodes)),(.row true .int (S'3.counts)),(.row true .bool (S'3.used)),(.row true .u32 (S'3.gen)),(.row true .u32 (S'3.rel))] [0,1,2,3,4,5,6])/\live S'1 r/\exW S'1/\∀ S'2:Arn,S'2=retL S'1 r->∃ hs1:LI,∃ t1:Tr,Wf S'2 (r::hs1)/\Rep S'2 t1 r/\t1.Bal/\Asc t1.list/\t1.size<=700000/\(↑(iB t1.size):Int)<=S'2.free/\hs1.length<=500000000/\S'2.reads+5*(↑(iB t1.size):Int)<=1600000000000000000/\∀ S'3:Arn,∀ j:Int,TrR S'2 hs1 (insE t1.list (k,v)) (iB t1.size) (5*iB t1.size) S'3 j->K (.tup [(.at (.val (VU (j)))),(.at (.val (VI (o.getD 0)))),(.at (.val (Zi (o.isSome)))),(.at (.val (VI 0)))]) [(.box [(.ptr 1 0),(.slc 2),(.slc 3),(.val (VW (S'3.reads)))]),(.box [(.slc 4),(.slc 5),(.slc 6),(.val (VU (S'3.fresh)))]),(.row true .node (S'3.nodes)),(.row true .int (S'3.counts)),(.row true .bool (S'3.used)),(.row true .u32 (S'3.gen)),(.row true .u32 (S'3.rel))] [0,1,2,3,4,5,6]))) (inU r/\exW S'/\S'.reads<4000000000000000000/\∀ S'1:Arn,S'1=(rdS S' (S'.us r).toNat)->0<=(S'.nd r).size/\(S'.nd r).size<=65536/\∀ p:Int,p=(4*(Hn ((S'.nd r).size+1)+2))->exW S'1/\∀ b:Bool,b=(decide (0<=p) && decide (p<=S'1.free))->brS (!b) (K (.tup [(.at (.val (VU 0))),(.at (.val (VI 0))),(.at (.val (Zi false))),(.at (.val (VI 2)))]) [(.box [(.ptr 1 0),(.slc 2),(.slc 3),(.val (VW (S'1.reads)))]),(.box [(.slc 4),(.slc 5),(.slc 6),(.val (VU (S'1.fresh)))]),(.row true .node (S'1.nodes)),(.row true .int (S'1.counts)),(.row true .bool (S'1.used)),(.row true .u32 (S'1.gen)),(.row true .u32 (S'1.rel))] [0,1,2,3,4,5,6]) ((live S'1 r/\
 exW S'1/\∀ S'2:Arn,S'2=retL S'1 r->∃ hs1:LI,∃ t1:Tr,Wf S'2 (r::hs1)/\Rep S'2 t1 r/\t1.Bal/\Asc t1.list/\t1.size<=700000/\(↑(iB t1.size):Int)<=S'2.free/\hs1.length<=500000000/\S'2.reads+5*(↑(iB t1.size):Int)<=1600000000000000000/\∀ S'3:Arn,∀ j:Int,TrR S'2 hs1 (insE t1.list (k,v)) (iB t1.size) (5*iB t1.size) S'3 j->K (.tup [(.at (.val (VU (j)))),(.at (.val (VI (o.getD 0)))),(.at (.val (Zi (o.isSome)))),(.at (.val (VI 0)))]) [(.box [(.ptr 1 0),(.slc 2),(.slc 3),(.val (VW (S'3.reads)))]),(.box [(.slc 4),(.slc 5),(.slc 6),(.val (VU (S'3.fresh)))]),(.row true .node (S'3.nodes)),(.row true .int (S'3.counts)),(.row true .bool (S'3.used)),(.row true .u32 (S'3.gen)),(.row true .u32 (S'3.rel))] [0,1,2,3,4,5,6])/\live S'1 r/\exW S'1/\∀ S'2:Arn,S'2=retL S'1 r->∃ hs1:LI,∃ t1:Tr,Wf S'2 (r::hs1)/\Rep S'2 t1 r/\t1.Bal/\Asc t1.list/\t1.size<=700000/\(↑(iB t1.size):Int)<=S'2.free/\hs1.length<=500000000/\S'2.reads+5*(↑(iB t1.size):Int)<=1600000000000000000/\∀ S'3:Arn,∀ j:Int,TrR S'2 hs1 (insE t1.list (k,v)) (iB t1.size) (5*iB t1.size) S'3 j->K (.tup [(.at (.val (VU (j)))),(.at (.val (VI (o.getD 0)))),(.at (.val (Zi (o.isSome)))),(.at (.val (VI 0)))]) [(.box [(.ptr 1 0),(.slc 2),(.slc 3),(.val (VW (S'3.reads)))]),(.box [(.slc 4),(.slc 5),(.slc 6),(.val (VU (S'3.fresh)))]),(.row true .node (S'3.nodes)),(.row true .int (S'3.counts)),(.row true .bool (S'3.used)),(.row true .u32 (S'3.gen)),(.row true .u32 (S'3.rel))] [0,1,2,3,4,5,6])))=_ by kernel_rfl) ?_
 obtain⟨w,rp,bal,asc,sz,hl,rd⟩:=hm;have hrd:=w.rds;have hb:=Bal.height bal (by omega);have hH:=YbE t.size;have hH1:=YbE ((t.size:Int)+1);have hmo:=Yhm t.size;have hi:=YwL t.size;refine⟨hs,t,w,rp,asc,by omega,by omega,fun S1 m o e1 hm1 eo=>?_⟩;have wl:Wf S1 hs:=by rw[e1];exact w.rd (by omega)
 have rp1:Rep S1 t r:=by rw[e1];exact YdW rp m
 have lv:live S1 r:=rp1.us;have q1:S1.reads=S.reads+m:=by rw[e1];rfl
 have f1:S1.free=S.free:=by rw[e1];rfl
 have z1:(S1.nd r).size=t.size:=rp1.size wl;refine Ya (fun c=>Ya (fun d=>?_) fun d=>?_) fun c=>?_
 .have d:o.getD 0=v:=by simpa using d
  obtain⟨x,ex⟩:=Zbj.1 c;have ev:x=v:=by rw[ex] at d;exact d
  have he:getE t.list k=some v:=by rw[<-eo,ex,ev]
  refine⟨lv,⟨hs,wl⟩,fun S2 e2=>?_⟩;rw[d];exact h1 he S2 m (by rw[e2,e1]) hm1
 all_goals
  have hne:getE t.list k≠some v:=by
   intro he;rw[he] at eo;subst eo
   first
    | (simp at d;done)
    | (simp at c;done)
  refine⟨YW wl lv,⟨hs,wl⟩,by omega,fun S2 e2=>?_⟩;have hu:=YrF (S1.us r);have wl2:Wf S2 hs:=by rw[e2];exact wl.rd (by omega)
  have rp2:Rep S2 t r:=by rw[e2];exact YdW rp1 _
  have lv2:live S2 r:=rp2.us;have f2:S2.free=S.free:=by rw[e2];exact f1
  have q2:S2.reads=S.reads+m+(S1.us r).toNat:=by rw[e2,<-q1];rfl
  have gA:Got S hs 0 (ht t+1) S2 hs:=by
   rw[e2,e1,YR];rw[e1] at hu;exact (Got.rds w (by omega)).mono (by omega) (by omega)
  rw[z1];refine⟨by omega,by omega,fun p ep=>⟨⟨hs,wl2⟩,fun b eb=>Ya (fun d2=>?_) fun d2=>?_⟩⟩
  .have d2:b=false:=by simpa using d2
   rw[d2] at eb
   have hf:¬ p<=S2.free:=fun hp=>by
    rw[Zat hp,Zat (show 0<=p by omega)] at eb;cases eb
   exact h2 hne (by omega) S2 (m+(S1.us r).toNat) (by rw[e2,e1,YR]) (by omega)
  .have d2:b=true:=by simpa using d2
   rw[d2] at eb
   have hf:p<=S2.free:=by
    by_cases hp:p<=S2.free
    .exact hp
    .rw[decide_eq_false hp,Bool.and_false] at eb;cases eb
   refine⟨⟨lv2,⟨hs,wl2⟩,?_⟩,lv2,⟨hs,wl2⟩,?_⟩
   all_goals
    intro S3 e3;have g3:=YbA (hs:=hs) wl2 lv2 (by omega);rw[<-e3] at g3;have rp3:Rep S3 t r:=by rw[e3];exact rp2.retL
    have f3:S3.free=S2.free:=by rw[e3];exact YiH _ _
    have q3:S3.reads=S2.reads:=by rw[e3];exact (Yan _ _).1
    refine⟨hs,t,g3.wf,rp3,bal,asc,by omega,by omega,by omega,by omega,fun S4 j tr=>h3 hne (by omega) S4 j o eo ⟨?_,tr.tree⟩⟩;exact ((gA.seq g3 (h:=hs) (fun _ h=>h) (fun _ h=>h)).seq tr.got (fun _ h=>h) (fun _ h=>h)).mono (by omega) (by omega)
theorem s_upI:Tb C0 11 tUpI:=by
 refine .ofW W7 Tryz.func11 (by decide) rfl fun args H K h hB=>?_
 unfold tUpI at h;split at h<;>try exact h.elim
 unfold arM at h;split at h<;>try exact h.elim
 rename_i r k v _ rd fr nd ct us gn rl;obtain⟨hs,t,h1,h2,h3,h4⟩:=h;exact⟨aUpI,⟨Ye C0.ok Yrm _,Ye C0.ok YrC _,Ye C0.ok YdU _,Ye C0.ok YvP _,Ye C0.ok YrD _,Ye C0.ok s_in _,trivial⟩,YwN ⟨us,gn,rl,fr,nd,ct,rd⟩ r k v K hs t h1 h2 h3 h4⟩
theorem YqD {l:LE}{k v:Int}(h:getE l k=some v):hasK l k:=by
 induction l with
 | nil=>cases h
 | cons x l ih =>
  obtain⟨a,b⟩:=x;unfold getE at h;split at h
  .rename_i e;exact⟨b,by rw[<-e];simp⟩
  .obtain⟨w,hw⟩:=ih h;exact⟨w,by simp[hw]⟩
theorem YwO (S:Arn)(r k:Int)(K:KT)(hs:LI)(t:Tr)(hm:upM S hs t r)(h1:getE t.list k=none->∀ S' m,S'=rdS S m->m<=ht t->K (.tup [.at (vU 0),.at (vI 0),.at (vI 4)]) (chS S') W7)(h2:∀ v,getE t.list k=some v->S.free<4*(Hn t.size+2)->∀ S' m,S'=rdS S m->m<=ht t+1->K (.tup [.at (vU 0),.at (vI 0),.at (vI 2)]) (chS S') W7)(h3:∀ v,getE t.list k=some v->4*(Hn t.size+2)<=S.free->∀ S' j,TrR S hs (flt (neK k) t.list) (dB t.size) (5*dB t.size+ht t+1) S' j->K (.tup [.at (vU j),.at (vI v),.at (vI 0)]) (chS S') W7) :
  vc C0 aUpD Tryz.f63 [.at (.ptr 0 0),.at (vU r),.at (vI k)] (chS S) (Yh 7 (YG W7 K)):=by
 refine Eq.mp (show (∃ hs:LI,∃ t:Tr,Wf S hs/\Rep S t r/\Asc t.list/\t.size<=1000000/\S.reads+(t.size:Int)<=3000000000000000000/\∀ S':Arn,∀ m:Nat,∀ o:Option Int,S'=rdS S m->m<=ht t->o=getE t.list k->brS (!o.isSome) (K (.tup [(.at (.val (VU 0))),(.at (.val (VI 0))),(.at (.val (VI 4)))]) [(.box [(.ptr 1 0),(.slc 2),(.slc 3),(.val (VW (S'.reads)))]),(.box [(.slc 4),(.slc 5),(.slc 6),(.val (VU (S'.fresh)))]),(.row true .node (S'.nodes)),(.row true .int (S'.counts)),(.row true .bool (S'.used)),(.row true .u32 (S'.gen)),(.row true .u32 (S'.rel))] [0,1,2,3,4,5,6]) (inU r/\exW S'/\S'.reads<4000000000000000000/\∀ S'1:Arn,S'1=(rdS S' (S'.us r).toNat)->0<=(S'.nd r).size/\(S'.nd r).size<=65536/\∀ p:Int,p=(4*(Hn ((S'.nd r).size+0)+2))->exW S'1/\∀ b:Bool,b=(decide (0<=p) && decide (p<=S'1.free))->brS (!b) (K (.tup [(.at (.val (VU 0))),(.at (.val (VI 0))),(.at (.val (VI 2)))]) [(.box [(.ptr 1 0),(.slc 2),(.slc 3),(.val (VW (S'1.reads)))]),(.box [(.slc 4),(.slc 5),(.slc 6),(.val (VU (S'1.fresh)))]),(.row true .node (S'1.nodes)),(.row true .int (S'1.counts)),(.row true .bool (S'1.used)),(.row true .u32 (S'1.gen)),(.row true .u32 (S'1.rel))] [0,1,2,3,4,5,6]) (live S'1 r/\exW S'1/\∀ S'2:Arn,S'2=retL S'1 r->∃ hs1:LI,∃ t1:Tr,Wf S'2 (r::hs1)/\Rep S'2 t1 r/\t1.Bal/\Asc t1.list/\t1.size<=700000/\hasK t1.list k/\(↑(dB t1.size):Int)<=S'2.free/\hs1.length<=200000000/\S'2.reads+5*(↑(dB t1.size):Int)<=1500000000000000000/\∀ S'3:Arn,∀ j:Int,TrR S'2 hs1 (flt (neK k) t1.list) (dB t1.size) (5*dB t1.size) S'3 j->K (.tup [(.at (.val (VU (j)))),(.at (.val (VI (o.getD 0)))),(.at (.val (VI 0)))]) [(.box [(.ptr 1 0),(.slc 2),(.slc 3),(.val (VW (S'3.reads)))]),(.box [(.slc 4),(.slc 5),(.slc 6),(.val (VU (S'3.fresh)))]),(.row true .node (S'3.nodes)),(.row true .int (S'3.counts)),(.row true .bool (S'3.used)),(.row true .u32 (S'3.gen)),(.row true .u32 (S'3.rel))] [0,1,2,3,4,5,6])))=_ by kernel_rfl) ?_
 obtain⟨w,rp,bal,asc,sz,hl,rd⟩:=hm;have hrd:=w.rds;have hb:=Bal.height bal (by omega);have hH:=YbE t.size;have hi:=YwM t.size;refine⟨hs,t,w,rp,asc,by omega,by omega,fun S1 m o e1 hm1 eo=>?_⟩;have wl:Wf S1 hs:=by rw[e1];exact w.rd (by omega)
 have rp1:Rep S1 t r:=by rw[e1];exact YdW rp m
 have lv:live S1 r:=rp1.us;have q1:S1.reads=S.reads+m:=by rw[e1];rfl
 have f1:S1.free=S.free:=by rw[e1];rfl
 have z1:(S1.nd r).size=t.size:=rp1.size wl;refine Ya (fun c=>?_) fun c=>?_
 .have c:o=none:=by simpa using c
  exact h1 (by rw[<-eo,c]) S1 m e1 hm1
 obtain⟨v,ev⟩:=Zbj.1 (show o.isSome=true by simpa using c);subst ev;have he:=eo.symm;refine⟨YW wl lv,⟨hs,wl⟩,by omega,fun S2 e2=>?_⟩;have hu:=YrF (S1.us r);have wl2:Wf S2 hs:=by rw[e2];exact wl.rd (by omega)
 have rp2:Rep S2 t r:=by rw[e2];exact YdW rp1 _
 have lv2:live S2 r:=rp2.us;have f2:S2.free=S.free:=by rw[e2];exact f1
 have q2:S2.reads=S.reads+m+(S1.us r).toNat:=by rw[e2,<-q1];rfl
 have gA:Got S hs 0 (ht t+1) S2 hs:=by
  rw[e2,e1,YR];rw[e1] at hu;exact (Got.rds w (by omega)).mono (by omega) (by omega)
 rw[z1,Zcz];refine⟨by omega,by omega,fun p ep=>⟨⟨hs,wl2⟩,fun b eb=>Ya (fun d2=>?_) fun d2=>?_⟩⟩
 .have d2:b=false:=by simpa using d2
  rw[d2] at eb
  have hf:¬ p<=S2.free:=fun hp=>by
   rw[Zat hp,Zat (show 0<=p by omega)] at eb;cases eb
  exact h2 v he (by omega) S2 (m+(S1.us r).toNat) (by rw[e2,e1,YR]) (by omega)
 .have d2:b=true:=by simpa using d2
  rw[d2] at eb
  have hf:p<=S2.free:=by
   by_cases hp:p<=S2.free
   .exact hp
   .rw[decide_eq_false hp,Bool.and_false] at eb;cases eb
  refine⟨lv2,⟨hs,wl2⟩,fun S3 e3=>?_⟩;have g3:=YbA (hs:=hs) wl2 lv2 (by omega);rw[<-e3] at g3;have rp3:Rep S3 t r:=by rw[e3];exact rp2.retL
  have f3:S3.free=S2.free:=by rw[e3];exact YiH _ _
  have q3:S3.reads=S2.reads:=by rw[e3];exact (Yan _ _).1
  refine⟨hs,t,g3.wf,rp3,bal,asc,by omega,YqD he,by omega,by omega,by omega,fun S4 j tr=>h3 v he (by omega) S4 j ⟨?_,tr.tree⟩⟩;exact ((gA.seq g3 (h:=hs) (fun _ h=>h) (fun _ h=>h)).seq tr.got (fun _ h=>h) (fun _ h=>h)).mono (by omega) (by omega)
theorem s_upD:Tb C0 63 tUpD:=by
 refine .ofW W7 Tryz.func63 (by decide) rfl fun args H K h hB=>?_
 unfold tUpD at h;split at h<;>try exact h.elim
 unfold arM at h;split at h<;>try exact h.elim
 rename_i r k _ rd fr nd ct us gn rl;obtain⟨hs,t,h1,h2,h3,h4⟩:=h;exact⟨aUpD,⟨Ye C0.ok Yrm _,Ye C0.ok YrC _,Ye C0.ok YdU _,Ye C0.ok YvQ _,Ye C0.ok YrD _,Ye C0.ok s_de _,trivial⟩,YwO ⟨us,gn,rl,fr,nd,ct,rd⟩ r k K hs t h1 h2 h3 h4⟩
theorem Yov {l:LE}{k v:Int}(ha:Asc l)(h:getE l k=some v):insE l (k,v)=l :=
 Asc.ext (Yed _ ha) ha fun q=>by
  rw[Ypt _ ha];show (if k=q then some v else getE l q)=_;split
  .rename_i e;rw[<-e,h]
  .rfl
def YtM:Tfm C0:=fun args H K=>match args with
 | [.at (.ptr 0 0),.at (.val (.int .u32 r)),.agg [.val (.int .i64 k),.val (.int .i64 v)]]=>arM H fun S=>∃ hs t,upM S hs t r/\4*(Hn (t.size+1)+2)<=S.free ∧
  ∀ S' j (o:Option Int),o=getE t.list k->TrR S hs (insE t.list (k,v)) (iB t.size) (5*iB t.size+ht t+1) S' j->K (.tup [.at (vU j),.at (vI (o.getD 0)),.at (vB o.isSome),.at (vI 0)]) (chS S') W7
 | _=>False
theorem YtN {S S':Arn}{hs:LI}{t:Tr}{r:Int}{m a b:Nat}{L:LE}(w:Wf S hs)(rp:Rep S t r)(bal:t.Bal)(hl:hs.length<=900000000)(hr:S.reads+m<=4000000000000000000)(e:S'=retL (rdS S m) r)(hb:m<=b)(hL:t.list=L):TrR S hs L a b S' r:=by
 have g:=Got.rds (hs:=hs) w hr;have rp1:Rep (rdS S m) t r:=YdW rp m;have g2:=YbA (hs:=hs) g.wf rp1.us (by omega);rw[<-e] at g2;exact⟨(g.seq g2 (h:=hs) (fun _ h=>h) (fun _ h=>h)).mono (by omega) (by omega),t,by rw[e];exact rp1.retL,hL,bal⟩
theorem YwP:Tb C0 11 YtM:=s_upI.weak fun args H K h=>by
 unfold YtM at h;unfold tUpI;split at h<;>try exact h.elim
 unfold arM at h ⊢;split at h<;>try exact h.elim
 obtain⟨hs,t,hm,hf,h⟩:=h;refine⟨hs,t,hm,fun he S' m e hm'=>?_,fun _ hf'=>absurd hf (by omega),fun _ _=>h⟩;obtain⟨w,rp,bal,asc,sz,hl,rd⟩:=hm;have hb:=Bal.height bal (by omega);have hH:=YbE t.size;exact h S' _ (some _) he.symm (YtN w rp bal (by omega) (by omega) e (by omega) (Yov asc he).symm)
def Yow (l m:LS):Ann C0:={ Γ:=[],inv:=fun n=>match n with
 | 4=>some { X:=XIx l.length,sl:=[5],tf:=fun x=>[vi .i64 x.i],hf:=fun _=>[.row false .slot l,.row false .slot m],μ:=fun x=>l.length-x.i }
 | _=>none }
def Yox:Tfm C0:=fun args H K=>match args,H with
 | [.at (.slc 0),.at (.slc 1)],[.row false .slot l,.row false .slot m]=>l=m/\l.length<=1000000/\K (.one (.at (vB true))) [.row false .slot l,.row false .slot m] []
 | _,_=>False
def Yoy (l m:LI):Ann C0:={ Γ:=[],inv:=fun n=>match n with
 | 4=>some { X:=XIx l.length,sl:=[5],tf:=fun x=>[vi .i64 x.i],hf:=fun _=>[.row false .u32 l,.row false .u32 m],μ:=fun x=>l.length-x.i }
 | _=>none }
def Yoz:Tfm C0:=fun args H K=>match args,H with
 | [.at (.slc 0),.at (.slc 1)],[.row false .u32 l,.row false .u32 m]=>l=m/\l.length<=1000000/\K (.one (.at (vB true))) [.row false .u32 l,.row false .u32 m] []
 | _,_=>False
def YwQ:Ann C0:={ Γ:=[(81,Yc [] Yox),(38,Yc [] Yoz)] }
def YoA:Tfm C0:=fun args H K=>match args,H with
 | [.agg [.slc 0,.slc 1],.agg [.slc 2,.slc 3]],[.row false .slot d,.row false .u32 f,.row false .slot e,.row false .u32 g]=>d=e/\f=g/\d.length<=1000000/\f.length<=1000000/\K (.one (.at (vB true))) [.row false .slot d,.row false .u32 f,.row false .slot e,.row false .u32 g] []
 | _,_=>False
theorem YqE (l:LS)(K:KT)(h1:l.length<=1000000)(h:K (.one (.at (vB true))) [.row false .slot l,.row false .slot l] []) :
  vc C0 (Yow l l) Tryz.f81 [.at (.slc 0),.at (.slc 1)] [.row false .slot l,.row false .slot l] (Yh 2 K):=by
 have hm:∀ m:LS,m=l->vc C0 (Yow l m) Tryz.f81 [.at (.slc 0),.at (.slc 1)] [.row false .slot l,.row false .slot m] (Yh 2 K):=fun m em=>by
  refine Eq.mp (show (brS ((l.length:Int) != (m.length:Int)) (K (.one (.at (.val (Zi false)))) [(.row false .slot (l)),(.row false .slot (m))] []) ((∃ x:XIx l.length,True/\(True/\True/\VI 0=(VI (x.i:Int))/\True)/\l=l/\m=m/\True)/\∀ x:XIx l.length,True->brS (decide ((x.i:Int)<(l.length:Int))) (0<=(x.i:Int)/\(x.i:Int)<(l.length:Int)/\0<=(x.i:Int)/\(x.i:Int)<(m.length:Int)/\brS (!((eS l (x.i:Int).toNat).alloc==(eS m (x.i:Int).toNat).alloc && ((eS l (x.i:Int).toNat).count==(eS m (x.i:Int).toNat).count && ((eS l (x.i:Int).toNat).gen==(eS m (x.i:Int).toNat).gen && ((eS l (x.i:Int).toNat).node.key==(eS m (x.i:Int).toNat).node.key && ((eS l (x.i:Int).toNat).node.value==(eS m (x.i:Int).toNat).node.value && ((eS l (x.i:Int).toNat).node.left==(eS m (x.i:Int).toNat).node.left && ((eS l (x.i:Int).toNat).node.right==(eS m (x.i:Int).toNat).node.right && ((eS l (x.i:Int).toNat).node.size==(eS m (x.i:Int).toNat).node.size && ((eS l (x.i:Int).toNat).node.sum==(eS m (x.i:Int).toNat).node.sum && ((eS l (x.i:Int).toNat).node.min==(eS m (x.i:Int).toNat).node.min && ((eS l (x.i:Int).toNat).node.max==(eS m (x.i:Int).toNat).node.max && true))))))) && true))))) (K (.one (.at (.val (Zi false)))) [(.row false .slot (l)),(.row false .slot (m))] []) (∃ x':XIx l.length,True/\((True/\True/\(VI (Za.wrap ((x.i:Int)+1)))=(VI (x'.i:Int))/\True)/\l=l/\m=m/\True)/\l.length-x'.i<l.length-x.i)) (K (.one (.at (.val (Zi true)))) [(.row false .slot (l)),(.row false .slot (m))] [])))=_ by kernel_rfl) ?_
  subst em;refine Ya (fun c=>by simp at c) fun _=>⟨⟨⟨0,ZC _⟩,?_⟩,fun x _=>Ya (fun c=>?_) fun c=>h⟩
  ·repeat' constructor
  have c:x.i<m.length:=by have:=Zc c;omega
  refine⟨by omega,by omega,by omega,by omega,Ya (fun e=>by simp at e) fun _=>⟨⟨x.i+1,c⟩,?_⟩⟩
  repeat' constructor
  .rw[Yb (by omega) (by omega)];congr 1
  .show m.length-(x.i+1)<_;omega
 exact hm l rfl
theorem YtO:Tb C0 81 Yox:=by
 refine .of Tryz.func81 (by decide) rfl fun args H K h hB=>?_
 unfold Yox at h;split at h<;>try exact h.elim
 rename_i l m;obtain⟨rfl,h1,h⟩:=h;exact⟨Yow l l,trivial,YqE l K h1 h⟩
theorem YqF (l:LI)(K:KT)(h1:l.length<=1000000)(h:K (.one (.at (vB true))) [.row false .u32 l,.row false .u32 l] []) :
  vc C0 (Yoy l l) Tryz.f38 [.at (.slc 0),.at (.slc 1)] [.row false .u32 l,.row false .u32 l] (Yh 2 K):=by
 have hm:∀ m:LI,m=l->vc C0 (Yoy l m) Tryz.f38 [.at (.slc 0),.at (.slc 1)] [.row false .u32 l,.row false .u32 m] (Yh 2 K):=fun m em=>by
  refine Eq.mp (show (brS ((l.length:Int) != (m.length:Int)) (K (.one (.at (.val (Zi false)))) [(.row false .u32 (l)),(.row false .u32 (m))] []) ((∃ x:XIx l.length,True/\(True/\True/\VI 0=(VI (x.i:Int))/\True)/\l=l/\m=m/\True)/\∀ x:XIx l.length,True->brS (decide ((x.i:Int)<(l.length:Int))) (0<=(x.i:Int)/\(x.i:Int)<(l.length:Int)/\0<=(x.i:Int)/\(x.i:Int)<(m.length:Int)/\brS (l.getD (x.i:Int).toNat 0 != m.getD (x.i:Int).toNat 0) (K (.one (.at (.val (Zi false)))) [(.row false .u32 (l)),(.row false .u32 (m))] []) (∃ x':XIx l.length,True/\((True/\True/\(VI (Za.wrap ((x.i:Int)+1)))=(VI (x'.i:Int))/\True)/\l=l/\m=m/\True)/\l.length-x'.i<l.length-x.i)) (K (.one (.at (.val (Zi true)))) [(.row false .u32 (l)),(.row false .u32 (m))] [])))=_ by kernel_rfl) ?_;subst em;refine Ya (fun c=>by simp at c) fun _=>⟨⟨⟨0,ZC _⟩,?_⟩,fun x _=>Ya (fun c=>?_) fun c=>h⟩
  ·repeat' constructor
  have c:x.i<m.length:=by have:=Zc c;omega
  refine⟨by omega,by omega,by omega,by omega,Ya (fun e=>by simp at e) fun _=>⟨⟨x.i+1,c⟩,?_⟩⟩
  repeat' constructor
  .rw[Yb (by omega) (by omega)];congr 1
  .show m.length-(x.i+1)<_;omega
 exact hm l rfl
theorem YtP:Tb C0 38 Yoz:=by
 refine .of Tryz.func38 (by decide) rfl fun args H K h hB=>?_
 unfold Yoz at h;split at h<;>try exact h.elim
 rename_i l m;obtain⟨rfl,h1,h⟩:=h;exact⟨Yoy l l,trivial,YqF l K h1 h⟩
theorem YtQ:Tb C0 34 YoA:=by
 refine .of Tryz.func34 (by decide) rfl fun args H K h hB=>?_
 unfold YoA at h;split at h<;>try exact h.elim
 rename_i d f e g;refine⟨YwQ,⟨Ye C0.ok YtO _,Ye C0.ok YtP _,trivial⟩,Eq.mp (show (d=e/\d.length<=1000000/\f=g/\f.length<=1000000/\K (.one (.at (.val (Zi true)))) [(.row false .slot (d)),(.row false .u32 (f)),(.row false .slot (e)),(.row false .u32 (g))] [])=_ by kernel_rfl) ?_⟩;exact⟨h.1,h.2.2.1,h.2.1,h.2.2.2.1,h.2.2.2.2⟩
structure XCk (d:LS) (roots:LI) where
 i:Nat
 m:List Bool
 h:i<=d.length/\MarksR d roots m
structure XCj (d:LS) (roots:LI) (P:Nat->Int->Prop) where
 i:Nat
 m:List Bool
 c:Int
 h:i<d.length/\MarksR d roots m/\P i c
abbrev bxSl (x:Tc):Ta C0:=.box [.val (.bool x.alloc),vI x.count,vU x.gen,vI x.node.key,vI x.node.value,vU x.node.left,vU x.node.right,vI x.node.size,vI x.node.sum,vI x.node.min,vI x.node.max]
abbrev chK (d:LS)(fl roots:LI)(m:List Bool):LH C0:=[.row false .slot d,.row false .u32 fl,.row false .u32 roots,.box [.slc 0,.slc 1],.row true .int (cntL (Yu d) d.length),.row true .bool m,.row true .int (cntL fl d.length),.row true .int (cntL roots d.length),.row true .find []]
structure XIy (n:Nat) where
 i:Nat
 h:i<n
def aChk (P0 P1 P2 P3 P4:Nat->Int->Prop)(d:LS)(fl roots:LI):Ann C0:={ Γ:=[(135,Yc [] tInE),(136,Yc [] tMk),(137,Yc [] tCnt),(108,Yc [] tAlc),(138,Yc [] Ync)],quiet:=[135,136,137,108,138],rounds:=fun n=>if n=19 then 3 else 0,inv:=fun n=>match n with
 | 5=>some { X:=XCk d roots,sl:=[2,6,7,8,9,5,10],tf:=fun x=>[.one (.at (.ptr 3 0)),.one (.at (.slc 4)),.one (.at (.slc 5)),.one (.at (.slc 6)),.one (.at (.slc 7)),.one (.at (.slc 8)),vi .i64 x.i],hf:=fun x=>chK d fl roots x.m,μ:=fun x=>d.length-x.i }
 | 1011=>some { X:=XCj d roots P4,sl:=[2,6,7,8,9,5,10,12,13],tf:=fun x=>[.one (.at (.ptr 3 0)),.one (.at (.slc 4)),.one (.at (.slc 5)),.one (.at (.slc 6)),.one (.at (.slc 7)),.one (.at (.slc 8)),vi .i64 x.i,.one (.at (.ptr 9 0)),vi .i64 x.c],hf:=fun x=>chK d fl roots x.m++[bxSl (eS d x.i)],rel:=fun T _ z=>YaM T 10 z.i }
 | 1013=>some { X:=XCj d roots P0,sl:=[2,6,7,8,9,5,10,12,60],tf:=fun x=>[.one (.at (.ptr 3 0)),.one (.at (.slc 4)),.one (.at (.slc 5)),.one (.at (.slc 6)),.one (.at (.slc 7)),.one (.at (.slc 8)),vi .i64 x.i,.one (.at (.ptr 9 0)),vb false],hf:=fun x=>chK d fl roots x.m++[bxSl (eS d x.i)],rel:=fun T _ z=>YaM T 10 z.i }
 | 1025=>some { X:=XCj d roots P1,sl:=[2,6,7,8,9,5,10,12,17],tf:=fun x=>[.one (.at (.ptr 3 0)),.one (.at (.slc 4)),.one (.at (.slc 5)),.one (.at (.slc 6)),.one (.at (.slc 7)),.one (.at (.slc 8)),vi .i64 x.i,.one (.at (.ptr 9 0)),vi .i64 x.c],hf:=fun x=>chK d fl roots x.m++[bxSl (eS d x.i)],rel:=fun T _ z=>YaM T 10 z.i }
 | 1026=>some { X:=XCj d roots P2,sl:=[2,6,7,8,9,5,10,12,110],tf:=fun x=>[.one (.at (.ptr 3 0)),.one (.at (.slc 4)),.one (.at (.slc 5)),.one (.at (.slc 6)),.one (.at (.slc 7)),.one (.at (.slc 8)),vi .i64 x.i,.one (.at (.ptr 9 0)),vb false],hf:=fun x=>chK d fl roots x.m++[bxSl (eS d x.i)],rel:=fun T _ z=>YaM T 10 z.i }
 | 1028=>some { X:=XCj d roots P3,sl:=[2,6,7,8,9,5,10,12,15],tf:=fun x=>[.one (.at (.ptr 3 0)),.one (.at (.slc 4)),.one (.at (.slc 5)),.one (.at (.slc 6)),.one (.at (.slc 7)),.one (.at (.slc 8)),vi .i64 x.i,.one (.at (.ptr 9 0)),vi .i64 x.c],hf:=fun x=>chK d fl roots x.m++[bxSl (eS d x.i)],rel:=fun T _ z=>YaM T 10 z.i }
 | 1029=>some { X:=XCj d roots P0,sl:=[2,6,7,8,9,5,10,12,132],tf:=fun x=>[.one (.at (.ptr 3 0)),.one (.at (.slc 4)),.one (.at (.slc 5)),.one (.at (.slc 6)),.one (.at (.slc 7)),.one (.at (.slc 8)),vi .i64 x.i,.one (.at (.ptr 9 0)),vb false],hf:=fun x=>chK d fl roots x.m++[bxSl (eS d x.i)],rel:=fun T _ z=>YaM T 10 z.i }
 | 1031=>some { X:=XCj d roots P0,sl:=[2,6,7,8,9,5,10,12,149],tf:=fun x=>[.one (.at (.ptr 3 0)),.one (.at (.slc 4)),.one (.at (.slc 5)),.one (.at (.slc 6)),.one (.at (.slc 7)),.one (.at (.slc 8)),vi .i64 x.i,.one (.at (.ptr 9 0)),vb false],hf:=fun x=>chK d fl roots x.m++[bxSl (eS d x.i)],rel:=fun T _ z=>YaM T 10 z.i }
 | 33=>some { X:=XIx fl.length,sl:=[2,5,19],tf:=fun x=>[.one (.at (.ptr 3 0)),.one (.at (.slc 4)),vi .i64 x.i],hf:=fun _=>[.row false .slot d,.row false .u32 fl,.row false .u32 roots,.box [.slc 0,.slc 1],.row true .find []],μ:=fun x=>fl.length-x.i }
 | 1036=>some { X:=XIy fl.length,sl:=[2,5,19,180],tf:=fun x=>[.one (.at (.ptr 3 0)),.one (.at (.slc 4)),vi .i64 x.i,vb false],hf:=fun _=>[.row false .slot d,.row false .u32 fl,.row false .u32 roots,.box [.slc 0,.slc 1],.row true .find []],rel:=fun T _ z=>YaM T 19 z.i }
 | 38=>some { X:=XIx roots.length,sl:=[2,5,20],tf:=fun x=>[.one (.at (.ptr 3 0)),.one (.at (.slc 4)),vi .i64 x.i],hf:=fun _=>[.row false .slot d,.row false .u32 fl,.row false .u32 roots,.box [.slc 0,.slc 1],.row true .find []],μ:=fun x=>roots.length-x.i }
 | 1041=>some { X:=XIy roots.length,sl:=[2,5,20,209],tf:=fun x=>[.one (.at (.ptr 3 0)),.one (.at (.slc 4)),vi .i64 x.i,vb false],hf:=fun _=>[.row false .slot d,.row false .u32 fl,.row false .u32 roots,.box [.slc 0,.slc 1],.row true .find []],rel:=fun T _ z=>YaM T 20 z.i }
 | _=>none }
def tChk:Tfm C0:=fun args H K=>match args,H with
 | [.agg [.slc 0,.slc 1],.at (.slc 2)],[.row false .slot d,.row false .u32 fl,.row false .u32 roots]=>CleanD d fl roots/\Yde d/\allU fl/\allU roots/\d.length<=100000/\fl.length<=1000000/\roots.length<=1000000 ∧
  K (.one (.at (.slc 3))) [.row false .slot d,.row false .u32 fl,.row false .u32 roots,.row true .find []] []
 | _,_=>False
def aCln:Ann C0:={ Γ:=[(115,Yc [] tChk)] }
def tCln:Tfm C0:=fun args H K=>match args,H with
 | [.agg [.slc 0,.slc 1],.at (.slc 2)],[.row false .slot d,.row false .u32 fl,.row false .u32 roots]=>CleanD d fl roots/\Yde d/\allU fl/\allU roots/\d.length<=100000/\fl.length<=1000000/\roots.length<=1000000 ∧
  K (.one (.at (vB true))) [.row false .slot d,.row false .u32 fl,.row false .u32 roots] []
 | _,_=>False
def YrG:Ann C0:={ Γ:=[(17,Yc [] Ypp),(65,Yc [] tCln)] }
def YoB:Tfm C0:=fun args H K=>match args with
 | [.at (.ptr 0 0),.at (.slc 7)]=>arMr H fun S rest=>match rest with
  | [.row false .u32 roots]=>∃ hs,Wf S hs/\roots.Perm hs/\roots.length<=1000000/\K (.one (.at (vB true))) (chS S++[.row false .u32 roots]) []
  | _=>False
 | _=>False
def P0c (_:Nat)(_:Int):Prop:=True
def P4c (d:LS)(i:Nat)(c:Int):Prop:=c=if (eS d i).alloc=true then 0 else 1
def P1c (d:LS)(i:Nat)(c:Int):Prop:=(eS d i).alloc=true/\c=1+szD d (eS d i).node.left+szD d (eS d i).node.right
def P2c (d:LS)(i:Nat)(_:Int):Prop:=(eS d i).alloc=true
def P3c (d:LS)(roots:LI)(i:Nat)(c:Int):Prop:=c=if (eS d i).alloc=true then ((Yu d).count ((i:Int)+1):Int)+(roots.count ((i:Int)+1):Int) else 0
theorem YtR {d:LS}{fl roots:LI}(_:CleanD d fl roots)(hl:d.length<=100000){j:Int}(h:alcD d j=true):0<=Ze.wrap (j-1)/\Ze.wrap (j-1)<(d.length:Int)/\(eS d (Ze.wrap (j-1)).toNat).node.size=szD d j:=by
 obtain⟨a,b⟩:=Yw h;rw[Yz (x:=j-1) (by omega) (by omega)];refine⟨by omega,by omega,?_⟩;unfold szD;rw[Zj h];rfl
theorem YkW {d:LS}{j:Int}(h:alcD d j=false):szD d j=0:=by unfold szD;rw[h];rfl
theorem YoC {d:LS}{fl roots:LI}(hc:CleanD d fl roots)(j:Int):0<=szD d j/\szD d j<=4294967296:=by
 cases h:alcD d j with
 | false=>rw[YkW h];omega
 | true =>
  obtain⟨a,b⟩:=Yw h;unfold szD;rw[Zj h];exact hc.zr (j-1).toNat (by omega)
abbrev O113 {P0 P3:Nat → Int → Prop}(d:LS){roots:LI}(x2:XCj d roots P0)(x3:XCj d roots P3):Prop:=((Zi ((eS d x2.i).alloc))=(Zi ((eS d x3.i).alloc))/\(VI ((eS d x2.i).count))=(VI ((eS d x3.i).count))/\(VU ((eS d x2.i).gen))=(VU ((eS d x3.i).gen))/\(VI ((eS d x2.i).node.key))=(VI ((eS d x3.i).node.key))/\(VI ((eS d x2.i).node.value))=(VI ((eS d x3.i).node.value))/\(VU ((eS d x2.i).node.left))=(VU ((eS d x3.i).node.left))/\(VU ((eS d x2.i).node.right))=(VU ((eS d x3.i).node.right))/\(VI ((eS d x2.i).node.size))=(VI ((eS d x3.i).node.size))/\(VI ((eS d x2.i).node.sum))=(VI ((eS d x3.i).node.sum))/\(VI ((eS d x2.i).node.min))=(VI ((eS d x3.i).node.min))/\(VI ((eS d x2.i).node.max))=(VI ((eS d x3.i).node.max))/\True)/\True
abbrev O114 {d:LS}{roots:LI}(x:XCk d roots)(Z_:Prop):Prop:=(VU (Ze.wrap (Za.wrap ((x.i:Int)+1))))=(VU (Ze.wrap (Za.wrap ((x.i:Int)+1))))/\True/\Z_
abbrev O115 {P0 P3:Nat → Int → Prop}(d:LS)(fl roots:LI)(x2:XCj d roots P0)(x3:XCj d roots P3)(Z_:Prop):Prop:=d=d/\fl=fl/\roots=roots/\(True/\True/\True)/\(cntL (Yu d) d.length)=(cntL (Yu d) d.length)/\x2.m=x3.m/\cntL fl d.length=cntL fl d.length/\cntL roots d.length=cntL roots d.length/\Z_
abbrev O116 {P4:Nat → Int → Prop}(d:LS)(fl roots:LI)(x:XCk d roots)(x1:XCj d roots P4):Prop:=d=d/\fl=fl/\roots=roots/\(True/\True/\True)/\(cntL (Yu d) d.length)=(cntL (Yu d) d.length)/\x.m=x1.m/\cntL fl d.length=cntL fl d.length/\cntL roots d.length=cntL roots d.length/\([]:List Te)=[]/\((Zi ((eS d (x.i:Int).toNat).alloc))=(Zi ((eS d x1.i).alloc))/\(VI ((eS d (x.i:Int).toNat).count))=(VI ((eS d x1.i).count))/\(VU ((eS d (x.i:Int).toNat).gen))=(VU ((eS d x1.i).gen))/\(VI ((eS d (x.i:Int).toNat).node.key))=(VI ((eS d x1.i).node.key))/\(VI ((eS d (x.i:Int).toNat).node.value))=(VI ((eS d x1.i).node.value))/\(VU ((eS d (x.i:Int).toNat).node.left))=(VU ((eS d x1.i).node.left))/\(VU ((eS d (x.i:Int).toNat).node.right))=(VU ((eS d x1.i).node.right))/\(VI ((eS d (x.i:Int).toNat).node.size))=(VI ((eS d x1.i).node.size))/\(VI ((eS d (x.i:Int).toNat).node.sum))=(VI ((eS d x1.i).node.sum))/\(VI ((eS d (x.i:Int).toNat).node.min))=(VI ((eS d x1.i).node.min))/\(VI ((eS d (x.i:Int).toNat).node.max))=(VI ((eS d x1.i).node.max))/\True)/\True
abbrev O117 {P0:Nat → Int → Prop}(d:LS)(fl roots:LI)(x4 x5:XCj d roots P0):Prop:=d=d/\fl=fl/\roots=roots/\(True/\True/\True)/\(cntL (Yu d) d.length)=(cntL (Yu d) d.length)/\x4.m=x5.m/\cntL fl d.length=cntL fl d.length/\cntL roots d.length=cntL roots d.length/\([]:List Te)=[]/\((Zi ((eS d x4.i).alloc))=(Zi ((eS d x5.i).alloc))/\(VI ((eS d x4.i).count))=(VI ((eS d x5.i).count))/\(VU ((eS d x4.i).gen))=(VU ((eS d x5.i).gen))/\(VI ((eS d x4.i).node.key))=(VI ((eS d x5.i).node.key))/\(VI ((eS d x4.i).node.value))=(VI ((eS d x5.i).node.value))/\(VU ((eS d x4.i).node.left))=(VU ((eS d x5.i).node.left))/\(VU ((eS d x4.i).node.right))=(VU ((eS d x5.i).node.right))/\(VI ((eS d x4.i).node.size))=(VI ((eS d x5.i).node.size))/\(VI ((eS d x4.i).node.sum))=(VI ((eS d x5.i).node.sum))/\(VI ((eS d x4.i).node.min))=(VI ((eS d x5.i).node.min))/\(VI ((eS d x4.i).node.max))=(VI ((eS d x5.i).node.max))/\True)/\True
abbrev O118 (Z_:Prop):Prop:=0<=Za.wrap (0+1)/\Za.wrap (0+1)<((2:Nat):Int)/\Z_
abbrev O119 {P0 P4:Nat → Int → Prop}(d:LS)(fl roots:LI)(x1:XCj d roots P4)(x2:XCj d roots P0):Prop:=d=d/\fl=fl/\roots=roots/\(True/\True/\True)/\(cntL (Yu d) d.length)=(cntL (Yu d) d.length)/\x1.m=x2.m/\cntL fl d.length=cntL fl d.length/\cntL roots d.length=cntL roots d.length/\([]:List Te)=[]/\((Zi ((eS d x1.i).alloc))=(Zi ((eS d x2.i).alloc))/\(VI ((eS d x1.i).count))=(VI ((eS d x2.i).count))/\(VU ((eS d x1.i).gen))=(VU ((eS d x2.i).gen))/\(VI ((eS d x1.i).node.key))=(VI ((eS d x2.i).node.key))/\(VI ((eS d x1.i).node.value))=(VI ((eS d x2.i).node.value))/\(VU ((eS d x1.i).node.left))=(VU ((eS d x2.i).node.left))/\(VU ((eS d x1.i).node.right))=(VU ((eS d x2.i).node.right))/\(VI ((eS d x1.i).node.size))=(VI ((eS d x2.i).node.size))/\(VI ((eS d x1.i).node.sum))=(VI ((eS d x2.i).node.sum))/\(VI ((eS d x1.i).node.min))=(VI ((eS d x2.i).node.min))/\(VI ((eS d x1.i).node.max))=(VI ((eS d x2.i).node.max))/\True)/\True
abbrev O120 {P0 P3:Nat → Int → Prop}{d:LS}{roots:LI}(x2:XCj d roots P0)(x3:XCj d roots P3)(Z_:Prop):Prop:=True/\True/\True/\True/\True/\True/\True/\VI (x2.i:Int)=VI (x3.i:Int)/\Z_
abbrev O121 (d:LS)(fl roots:LI):Prop:=d=d/\fl=fl/\roots=roots/\(True/\True/\True)/\([]:List Te)=[]/\True
abbrev O122 {P0:Nat → Int → Prop}(d:LS){roots:LI}(x2:XCj d roots P0)(Z_:Prop):Prop:=0<=Ze.wrap ((eS d x2.i).node.right-1)/\Ze.wrap ((eS d x2.i).node.right-1)<(d.length:Int)/\Z_
abbrev O123 {P0:Nat → Int → Prop}(d:LS){roots:LI}(x:XCk d roots)(x2:XCj d roots P0):Prop:=(([]:LE).length+[{ kind:=2,slot:=Ze.wrap (Za.wrap ((x.i:Int)+1)),want:=0,have_:=Za.wrap (eS d x2.i).node.right:Te }].length)*Yd C0 EC.find<=140737488355328
theorem YwR (d:LS)(fl roots:LI)(K:KT)(hc:CleanD d fl roots)(hk:Yde d)(hfu:allU fl)(hru:allU roots)(hl:d.length<=100000)(hf:fl.length<=1000000)(hr:roots.length<=1000000)(h:K (.one (.at (.slc 3))) [.row false .slot d,.row false .u32 fl,.row false .u32 roots,.row true .find []] []) :
  vc C0 (aChk P0c (P1c d) (P2c d) (P3c d roots) (P4c d) d fl roots) Tryz.f115 [.agg [.slc 0,.slc 1],.at (.slc 2)] [.row false .slot d,.row false .u32 fl,.row false .u32 roots] (Yh 3 K):=by
 generalize hP0:P0c=P0;generalize hP1:P1c d=P1;generalize hP2:P2c d=P2;generalize hP3:P3c d roots=P3;generalize hP4:P4c d=P4
 refine Eq.mp (show (d.length<=100000/\Yde d/\∀ o:LI,o=(cntL (Yu d) d.length)->d.length<=100000/\roots.length<=1000000/\Yde d/\allU roots/\∀ m:List Bool,MarksR d roots m->0<=(d.length:Int)/\(d.length:Int)<=100000/\fl.length<=1000000/\allU fl/\∀ o1:LI,o1=(cntL fl (d.length:Int).toNat)->0<=(d.length:Int)/\(d.length:Int)<=100000/\roots.length<=1000000/\allU roots/\∀ o2:LI,o2=(cntL roots (d.length:Int).toNat)->(∃ x:XCk d roots,True/\(True/\True/\True/\True/\True/\True/\True/\VI 0=(VI (x.i:Int))/\True)/\d=d/\fl=fl/\roots=roots/\(True/\True/\True)/\o=(cntL (Yu d) d.length)/\m=x.m/\o1=cntL fl d.length/\o2=cntL roots d.length/\([]:List Te)=[]/\True)/\∀ x:XCk d roots,True->brS (decide ((x.i:Int)<(d.length:Int))) (0<=(x.i:Int)/\(x.i:Int)<(d.length:Int)/\brS ((eS d (x.i:Int).toNat).alloc) (∃ x1:XCj d roots P4,((x.i:Int))=((x1.i:Int))/\(True/\True/\True/\True/\True/\True/\True/\VI (x.i:Int)=VI (x1.i:Int)/\O114 x (VI 0=(VI (x1.c))/\True))/\O116 d fl roots x x1) (∃ x1:XCj d roots P4,((x.i:Int))=((x1.i:Int))/\(True/\True/\True/\True/\True/\True/\True/\VI (x.i:Int)=VI (x1.i:Int)/\O114 x (VI 1=(VI (x1.c))/\True))/\O116 d fl roots x x1)/\∀ x1:XCj d roots P4,((x.i:Int))=((x1.i:Int))->0<=(x1.i:Int)/\(x1.i:Int)<(↑(cntL fl d.length).length:Int)/\(∃ x2:XCj d roots P0,((x1.i:Int))=((x2.i:Int))/\(True/\True/\True/\True/\True/\True/\True/\VI (x1.i:Int)=VI (x2.i:Int)/\O114 x (VI (x1.c)=VI (x1.c)/\(VI ((cntL fl d.length).getD (x1.i:Int).toNat 0))=(VI ((cntL fl d.length).getD (x1.i:Int).toNat 0))/\
  (Zi ((cntL fl d.length).getD (x1.i:Int).toNat 0 != x1.c))=Zi false/\True))/\O119 d fl roots x1 x2)/\∀ x2:XCj d roots P0,((x1.i:Int))=((x2.i:Int))->brS ((eS d x2.i).alloc) (((0:Int)<=0/\0<((2:Nat):Int)/\inU (eS d x2.i).node.left/\d.length<=1000000/\brS (alcD d (eS d x2.i).node.left) ((0:Int)<=0/\0<((2:Nat):Int)/\0<=Ze.wrap ((eS d x2.i).node.left-1)/\Ze.wrap ((eS d x2.i).node.left-1)<(d.length:Int)/\O118 (inU (eS d x2.i).node.right/\d.length<=1000000/\brS (alcD d (eS d x2.i).node.right) (O118 (O122 d x2 (∃ x3:XCj d roots P1,((x2.i:Int))=((x3.i:Int))/\O120 x2 x3 (O114 x ((VI (Za.wrap (Za.wrap (1+(eS d (Ze.wrap ((eS d x2.i).node.left-1)).toNat).node.size)+(eS d (Ze.wrap ((eS d x2.i).node.right-1)).toNat).node.size)))=(VI (x3.c))/\True))/\O115 d fl roots x2 x3 (([]:List Te)=[]/\O113 d x2 x3)))) (O118 (brS ((eS d x2.i).node.right != 0) (O118 (O123 d x x2/\∃ x3:XCj d roots P1,((x2.i:Int))=((x3.i:Int))/\O120 x2 x3 (O114 x ((VI (Za.wrap (1+(eS d (Ze.wrap ((eS d x2.i).node.left-1)).toNat).node.size)))=(VI (x3.c))/\True))/\O115 d fl roots x2 x3 ([({ kind:=2,slot:=Ze.wrap (Za.wrap ((x.i:Int)+1)),want:=0,have_:=Za.wrap (eS d x2.i).node.right:Te })]=[]/\O113 d x2 x3))) (∃ x3:XCj d roots P1,((x2.i:Int))=((x3.i:Int))/\O120 x2 x3 (O114 x ((VI (Za.wrap (1+(eS d (Ze.wrap ((eS d x2.i).node.left-1)).toNat).node.size)))=(VI (x3.c))/\True))/\O115 d fl roots x2 x3 (([]:List Te)=[]/\
  O113 d x2 x3)))))) ((0:Int)<=0/\0<((2:Nat):Int)/\brS ((eS d x2.i).node.left != 0) ((0:Int)<=0/\0<((2:Nat):Int)/\(([]:LE).length+[{ kind:=2,slot:=Ze.wrap (Za.wrap ((x.i:Int)+1)),want:=0,have_:=Za.wrap (eS d x2.i).node.left:Te }].length)*Yd C0 EC.find<=140737488355328/\O118 (inU (eS d x2.i).node.right/\d.length<=1000000/\brS (alcD d (eS d x2.i).node.right) (O118 (O122 d x2 (∃ x3:XCj d roots P1,((x2.i:Int))=((x3.i:Int))/\O120 x2 x3 (O114 x ((VI (Za.wrap (1+(eS d (Ze.wrap ((eS d x2.i).node.right-1)).toNat).node.size)))=(VI (x3.c))/\True))/\O115 d fl roots x2 x3 ([({ kind:=2,slot:=Ze.wrap (Za.wrap ((x.i:Int)+1)),want:=0,have_:=Za.wrap (eS d x2.i).node.left:Te })]=[]/\O113 d x2 x3)))) (O118 (brS ((eS d x2.i).node.right != 0) (O118 (([{ kind:=2,slot:=Ze.wrap (Za.wrap ((x.i:Int)+1)),want:=0,have_:=Za.wrap (eS d x2.i).node.left:Te }].length+[{ kind:=2,slot:=Ze.wrap (Za.wrap ((x.i:Int)+1)),want:=0,have_:=Za.wrap (eS d x2.i).node.right:Te }].length)*Yd C0 EC.find<=140737488355328/\∃ x3:XCj d roots P1,((x2.i:Int))=((x3.i:Int))/\O120 x2 x3 (O114 x (VI 1=(VI (x3.c))/\True))/\O115 d fl roots x2 x3 ([({ kind:=2,slot:=Ze.wrap (Za.wrap ((x.i:Int)+1)),want:=0,have_:=Za.wrap (eS d x2.i).node.left:Te }),({ kind:=2,slot:=Ze.wrap (Za.wrap ((x.i:Int)+1)),want:=0,have_:=Za.wrap (eS d x2.i).node.right:Te })]=[]/\
  O113 d x2 x3))) (∃ x3:XCj d roots P1,((x2.i:Int))=((x3.i:Int))/\O120 x2 x3 (O114 x (VI 1=(VI (x3.c))/\True))/\O115 d fl roots x2 x3 ([({ kind:=2,slot:=Ze.wrap (Za.wrap ((x.i:Int)+1)),want:=0,have_:=Za.wrap (eS d x2.i).node.left:Te })]=[]/\O113 d x2 x3)))))) (O118 (inU (eS d x2.i).node.right/\d.length<=1000000/\brS (alcD d (eS d x2.i).node.right) (O118 (O122 d x2 (∃ x3:XCj d roots P1,((x2.i:Int))=((x3.i:Int))/\O120 x2 x3 (O114 x ((VI (Za.wrap (1+(eS d (Ze.wrap ((eS d x2.i).node.right-1)).toNat).node.size)))=(VI (x3.c))/\True))/\O115 d fl roots x2 x3 (([]:List Te)=[]/\O113 d x2 x3)))) (O118 (brS ((eS d x2.i).node.right != 0) (O118 (O123 d x x2/\∃ x3:XCj d roots P1,((x2.i:Int))=((x3.i:Int))/\O120 x2 x3 (O114 x (VI 1=(VI (x3.c))/\True))/\O115 d fl roots x2 x3 ([({ kind:=2,slot:=Ze.wrap (Za.wrap ((x.i:Int)+1)),want:=0,have_:=Za.wrap (eS d x2.i).node.right:Te })]=[]/\O113 d x2 x3))) (∃ x3:XCj d roots P1,((x2.i:Int))=((x3.i:Int))/\O120 x2 x3 (O114 x (VI 1=(VI (x3.c))/\True))/\O115 d fl roots x2 x3 (([]:List Te)=[]/\O113 d x2 x3))))))))/\∀ x3:XCj d roots P1,((x2.i:Int))=((x3.i:Int))->(∃ x4:XCj d roots P2,((x3.i:Int))=((x4.i:Int))/\O120 x3 x4 (O114 x (VI (x3.c)=VI (x3.c)/\(Zi (x3.c != (eS d x3.i).node.size))=Zi false/\True))/\O115 d fl roots x3 x4 (([]:List Te)=[]/\O113 d x3 x4))/\∀ x4:XCj d roots P2,((x3.i:Int))=((x4.i:Int))->0<=(x4.i:Int)/\(x4.i:Int)<(↑(cntL (Yu d) d.length).length:Int)/\
  0<=(x4.i:Int)/\(x4.i:Int)<(↑(cntL roots d.length).length:Int)/\∃ x5:XCj d roots P3,((x2.i:Int))=((x5.i:Int))/\O120 x4 x5 (O114 x ((VI (Za.wrap ((cntL (Yu d) d.length).getD (x4.i:Int).toNat 0+(cntL roots d.length).getD (x4.i:Int).toNat 0)))=(VI (x5.c))/\True))/\O115 d fl roots x4 x5 (([]:List Te)=[]/\O113 d x4 x5)) (∃ x3:XCj d roots P3,((x2.i:Int))=((x3.i:Int))/\O120 x2 x3 (O114 x (VI 0=(VI (x3.c))/\True))/\O115 d fl roots x2 x3 (([]:List Te)=[]/\O113 d x2 x3))/\∀ x3:XCj d roots P3,((x2.i:Int))=((x3.i:Int))->(∃ x4:XCj d roots P0,((x3.i:Int))=((x4.i:Int))/\(True/\True/\True/\True/\True/\True/\True/\VI (x3.i:Int)=VI (x4.i:Int)/\O114 x (VI (x3.c)=VI (x3.c)/\(Zi (x3.c != (eS d x3.i).count))=Zi false/\True))/\O119 d fl roots x3 x4)/\∀ x4:XCj d roots P0,((x3.i:Int))=((x4.i:Int))->brS ((eS d x4.i).alloc) (0<=(x4.i:Int)/\(x4.i:Int)<(x4.m.length:Int)/\∃ x5:XCj d roots P0,((x4.i:Int))=((x5.i:Int))/\(True/\True/\True/\True/\True/\True/\True/\VI (x4.i:Int)=VI (x5.i:Int)/\O114 x ((Zi (!x4.m.getD (x4.i:Int).toNat false))=Zi false/\True))/\O117 d fl roots x4 x5) (∃ x5:XCj d roots P0,((x4.i:Int))=((x5.i:Int))/\(True/\True/\True/\True/\True/\True/\True/\VI (x4.i:Int)=VI (x5.i:Int)/\O114 x (Zi false=Zi false/\True))/\O117 d fl roots x4 x5)/\∀ x5:XCj d roots P0,((x4.i:Int))=((x5.i:Int))->∃ x':XCk d roots,True/\((True/\True/\True/\True/\True/\True/\True/\(VI (Za.wrap ((x5.i:Int)+1)))=(VI (x'.i:Int))/\True)/\d=d/\fl=fl/\roots=roots/\
  (True/\True/\True)/\(cntL (Yu d) d.length)=(cntL (Yu d) d.length)/\x5.m=x'.m/\cntL fl d.length=cntL fl d.length/\cntL roots d.length=cntL roots d.length/\([]:List Te)=[]/\True)/\d.length-x'.i<d.length-x.i) ((∃ x1:XIx fl.length,True/\(True/\True/\True/\VI 0=(VI (x1.i:Int))/\True)/\O121 d fl roots)/\∀ x1:XIx fl.length,True->brS (decide ((x1.i:Int)<(fl.length:Int))) ((0<=(x1.i:Int)/\(x1.i:Int)<(fl.length:Int)/\brS (decide (fl.getD (x1.i:Int).toNat 0<1)) (∃ x2:XIy fl.length,((x1.i:Int))=((x2.i:Int))/\(True/\True/\True/\VI (x1.i:Int)=VI (x2.i:Int)/\Zi true=Zi false/\True)/\O121 d fl roots) (0<=(x1.i:Int)/\(x1.i:Int)<(fl.length:Int)/\∃ x2:XIy fl.length,((x1.i:Int))=((x2.i:Int))/\(True/\True/\True/\VI (x1.i:Int)=VI (x2.i:Int)/\(Zi (decide (Zd.wrap (fl.getD (x1.i:Int).toNat 0)>Zd.wrap (d.length:Int))))=Zi false/\True)/\O121 d fl roots))/\∀ x2:XIy fl.length,((x1.i:Int))=((x2.i:Int))->∃ x':XIx fl.length,True/\((True/\True/\True/\(VI (Za.wrap ((x2.i:Int)+1)))=(VI (x'.i:Int))/\True)/\O121 d fl roots)/\fl.length-x'.i<fl.length-x1.i) ((∃ x2:XIx roots.length,True/\(True/\True/\True/\VI 0=(VI (x2.i:Int))/\True)/\O121 d fl roots)/\∀ x2:XIx roots.length,True->brS (decide ((x2.i:Int)<(roots.length:Int))) ((0<=(x2.i:Int)/\(x2.i:Int)<(roots.length:Int)/\brS (roots.getD (x2.i:Int).toNat 0 != 0) (0<=(x2.i:Int)/\(x2.i:Int)<(roots.length:Int)/\inU (roots.getD (x2.i:Int).toNat 0)/\d.length<=1000000/\∃ x3:XIy roots.length,((x2.i:Int))=((x3.i:Int))/\
  (True/\True/\True/\VI (x2.i:Int)=VI (x3.i:Int)/\(Zi (!alcD d (roots.getD (x2.i:Int).toNat 0)))=Zi false/\True)/\O121 d fl roots) (∃ x3:XIy roots.length,((x2.i:Int))=((x3.i:Int))/\(True/\True/\True/\VI (x2.i:Int)=VI (x3.i:Int)/\Zi false=Zi false/\True)/\O121 d fl roots))/\∀ x3:XIy roots.length,((x2.i:Int))=((x3.i:Int))->∃ x':XIx roots.length,True/\((True/\True/\True/\(VI (Za.wrap ((x3.i:Int)+1)))=(VI (x'.i:Int))/\True)/\O121 d fl roots)/\roots.length-x'.i<roots.length-x2.i) (K (.one (.at (.slc 3))) [(.row false .slot (d)),(.row false .u32 (fl)),(.row false .u32 (roots)),(.row true .find [])] []))))=_ by kernel_rfl) ?_
 delta O113 O114 O115 O116 O117 O118 O119 O120 O121 O122 O123;subst hP0 hP1 hP2 hP3 hP4;refine⟨hl,hk,fun o eo=>⟨hl,hr,hk,hru,fun m hm=>⟨by omega,by omega,hf,hfu,fun o1 e1=>⟨by omega,by omega,hr,hru,fun o2 e2=>⟨⟨⟨0,m,ZC _,hm⟩,?_⟩,fun x _=>?_⟩⟩⟩⟩⟩
 ·(repeat' first|exact trivial|exact rfl|exact eo|exact e1|exact e2|refine And.intro ?_ ?_)
 obtain⟨i,m,hi,hm⟩:=x;dsimp only;refine Ya (fun c=>?_) fun c=>?_
 .have c:i<d.length:=by have:=Zc c;omega
  refine⟨by omega,by omega,Ya (fun a=>⟨⟨i,m,0,c,hm,(Zj a).symm⟩,?_⟩) fun a=>⟨⟨i,m,1,c,hm,(Zf (fun z=>by rw[show (eS d i).alloc=false from a] at z;cases z)).symm⟩,?_⟩,fun x1 e1=>?_⟩
  ·repeat' constructor
  ·repeat' constructor
  obtain⟨i1,m1,c1,hi1,hm1,p1⟩:=x1;have e1:(i:Int)=(i1:Int):=e1;have e1:i=i1:=by omega
  subst e1;dsimp only
  have b1:((cntL fl d.length).getD i 0 != c1)=false:=by
   rw[Ydg fl _ _ c,hc.free i c,show c1=_ from p1];show (((if (eS d i).alloc=true then (0:Nat) else 1:Nat):Int) != if (eS d i).alloc=true then (0:Int) else 1)=false;cases (eS d i).alloc<;>rfl
  refine⟨by omega,by rw[Ydf];omega,⟨⟨i,m1,0,c,hm1,trivial⟩,?_⟩,fun x2 e2=>?_⟩
  ·(repeat' first|exact trivial|exact rfl|exact ZT Zi b1|refine And.intro ?_ ?_)
  obtain⟨i2,m2,c2,hi2,hm2,p2⟩:=x2;have e2:(i:Int)=(i2:Int):=e2;have e2:i=i2:=by omega
  subst e2;dsimp only;have hmem:eS d i∈d:=by unfold eS;rw[Zb,Zk c];exact Zaa c
  obtain⟨kl,kr⟩:=hk _ hmem;refine⟨Ya (fun a=>⟨?_,fun x3 e3=>?_⟩) fun a=>⟨⟨i,m2,0,c,hm2,(Zf (fun z=>by rw[show (eS d i).alloc=false from a] at z;cases z)).symm⟩,?_⟩,fun x3 e3=>?_⟩
  .have sl:=YoC hc (eS d i).node.left;have sr:=YoC hc (eS d i).node.right;have il:=hc.left i c a;have ir:=hc.right i c a;have dl:d.length<=1000000:=by omega
   have w1:(0:Int)<=Za.wrap (0+1):=by decide
   have w2:Za.wrap (0+1)<((2:Nat):Int):=by decide
   refine⟨by decide,by decide,kl,dl,Ya (fun al=>?_) fun al=>?_⟩
   .obtain⟨q1,q2,q3⟩:=YtR hc hl al;refine⟨by decide,by decide,q1,q2,w1,w2,kr,dl,Ya (fun ar=>?_) fun ar=>?_⟩
    .obtain⟨t1,t2,t3⟩:=YtR hc hl ar;refine⟨w1,w2,t1,t2,⟨i,m2,_,c,hm2,a,rfl⟩,?_⟩
     have v:Za.wrap (Za.wrap (1+(eS d (Ze.wrap ((eS d i).node.left-1)).toNat).node.size)+(eS d (Ze.wrap ((eS d i).node.right-1)).toNat).node.size)=1+szD d (eS d i).node.left+szD d (eS d i).node.right:=by
      rw[q3,t3,Yb (x:=1+szD d (eS d i).node.left) (by omega) (by omega),Yb (by omega) (by omega)]
     (repeat' first|exact trivial|exact rfl|exact ZT (Zm Za) v|refine And.intro ?_ ?_)
    .have z:=YkW ar;refine⟨w1,w2,Ya (fun f=>?_) fun f=>⟨⟨i,m2,_,c,hm2,a,rfl⟩,?_⟩⟩
     .exfalso
      rcases ir with e|e
      .rw[show (eS d i).node.right=0 from e] at f;cases f
      .rw[show alcD d (eS d i).node.right=true from e] at ar;cases ar
     .have v:Za.wrap (1+(eS d (Ze.wrap ((eS d i).node.left-1)).toNat).node.size)=1+szD d (eS d i).node.left+szD d (eS d i).node.right:=by
       rw[q3,z,Yb (x:=1+szD d (eS d i).node.left) (by omega) (by omega)];omega
      (repeat' first|exact trivial|exact rfl|exact ZT (Zm Za) v|refine And.intro ?_ ?_)
   .have z1:=YkW al;refine⟨by decide,by decide,Ya (fun f=>?_) fun f=>⟨w1,w2,kr,dl,Ya (fun ar=>?_) fun ar=>?_⟩⟩
    .exfalso
     rcases il with e|e
     .rw[show (eS d i).node.left=0 from e] at f;cases f
     .rw[show alcD d (eS d i).node.left=true from e] at al;cases al
    .obtain⟨t1,t2,t3⟩:=YtR hc hl ar;refine⟨w1,w2,t1,t2,⟨i,m2,_,c,hm2,a,rfl⟩,?_⟩
     have v:Za.wrap (1+(eS d (Ze.wrap ((eS d i).node.right-1)).toNat).node.size)=1+szD d (eS d i).node.left+szD d (eS d i).node.right:=by
      rw[t3,z1,Yb (x:=1+szD d (eS d i).node.right) (by omega) (by omega)];omega
     (repeat' first|exact trivial|exact rfl|exact ZT (Zm Za) v|refine And.intro ?_ ?_)
    .have z:=YkW ar;refine⟨w1,w2,Ya (fun f=>?_) fun f=>⟨⟨i,m2,_,c,hm2,a,rfl⟩,?_⟩⟩
     .exfalso
      rcases ir with e|e
      .rw[show (eS d i).node.right=0 from e] at f;cases f
      .rw[show alcD d (eS d i).node.right=true from e] at ar;cases ar
     .have v:1=1+szD d (eS d i).node.left+szD d (eS d i).node.right:=by omega
      (repeat' first|exact trivial|exact rfl|exact ZT (Zm Za) v|refine And.intro ?_ ?_)
  .obtain⟨i3,m3,c3,hi3,hm3,a3,p3⟩:=x3;have e3:(i:Int)=(i3:Int):=e3;have e3:i=i3:=by omega
   subst e3;dsimp only
   have b3:(c3 != (eS d i).node.size)=false:=by
    have:=hc.size i c a3;rw[p3,show (eS d i).node.size=_ from this];simp
   refine⟨⟨⟨i,m3,0,c,hm3,a3⟩,?_⟩,fun x4 e4=>?_⟩
   ·(repeat' first|exact trivial|exact rfl|exact ZT Zi b3|refine And.intro ?_ ?_)
   obtain⟨i4,m4,c4,hi4,hm4,p4⟩:=x4;have e4:(i:Int)=(i4:Int):=e4;have e4:i=i4:=by omega
   subst e4;dsimp only;refine⟨by omega,by rw[Ydf];omega,by omega,by rw[Ydf];omega,⟨i,m4,_,c,hm4,rfl⟩,?_⟩
   have v:Za.wrap ((cntL (Yu d) d.length).getD i 0+(cntL roots d.length).getD i 0)=if (eS d i).alloc=true then ((Yu d).count ((i:Int)+1):Int)+(roots.count ((i:Int)+1):Int) else 0:=by
    have k1:=Yea (Yu d) d.length i c;have k2:=Yea roots d.length i c;have k3:=Yii d;rw[Yb (by omega) (by omega),Ydg _ _ _ c,Ydg _ _ _ c,Zj a3]
   (repeat' first|exact trivial|exact rfl|exact ZT (Zm Za) v|refine And.intro ?_ ?_)
  ·repeat' constructor
  obtain⟨i3,m3,c3,hi3,hm3,p3⟩:=x3;have e3:(i:Int)=(i3:Int):=e3;have e3:i=i3:=by omega
  subst e3;dsimp only
  have b3:(c3 != (eS d i).count)=false:=by
   have:=hc.count i c;rw[show c3=_ from p3,show (eS d i).count=_ from this];simp
  refine⟨⟨⟨i,m3,0,c,hm3,trivial⟩,?_⟩,fun x4 e4=>?_⟩
  ·(repeat' first|exact trivial|exact rfl|exact ZT Zi b3|refine And.intro ?_ ?_)
  obtain⟨i4,m4,c4,hi4,hm4,p4⟩:=x4;have e4:(i:Int)=(i4:Int):=e4;have e4:i=i4:=by omega
  subst e4;dsimp only;refine⟨Ya (fun a=>⟨by omega,by rw[hm4.len];omega,⟨i,m4,0,c,hm4,trivial⟩,?_⟩) fun a=>⟨⟨i,m4,0,c,hm4,trivial⟩,?_⟩,fun x5 e5=>?_⟩
  .have b4:(!m4.getD i false)=false:=by rw[hc.mark m4 hm4 i c a];rfl
   (repeat' first|exact trivial|exact rfl|exact ZT Zi b4|refine And.intro ?_ ?_)
  ·repeat' constructor
  obtain⟨i5,m5,c5,hi5,hm5,p5⟩:=x5;have e5:(i:Int)=(i5:Int):=e5;have e5:i=i5:=by omega
  subst e5;dsimp only;refine⟨⟨i+1,m5,c,hm5⟩,?_⟩;have v:Za.wrap ((i:Int)+1)=((i+1:Nat):Int):=by rw[Yb (by omega) (by omega)];rfl
  (repeat' first|exact trivial|exact rfl|exact ZT (Zm Za) v|refine And.intro ?_ ?_)
  show d.length-(i+1)<d.length-i;omega
 .refine⟨⟨⟨0,ZC _⟩,?_⟩,fun x _=>?_⟩
  ·repeat' constructor
  obtain⟨j,hj⟩:=x;dsimp only;refine Ya (fun c=>?_) fun _=>?_
  .have c:j<fl.length:=by have:=Zc c;omega
   have hx:fl.getD j 0∈fl:=by rw[Zb,Zk c];exact Zaa c
   have hg:=hc.rng _ hx;obtain⟨u1,u2⟩:=hfu _ hx;refine⟨⟨by omega,by omega,Ya (fun f=>?_) fun _=>⟨by omega,by omega,⟨j,c⟩,?_⟩⟩,fun y e=>?_⟩
   .have f:fl.getD j 0<1:=Zc f;omega
   .have b:decide (Zd.wrap (fl.getD j 0)>Zd.wrap (d.length:Int))=false:=by
     rw[Yf (x:=fl.getD j 0) u1 (by omega),Yf (x:=(d.length:Int)) (by omega) (by omega)];exact decide_eq_false (by omega)
    (repeat' first|exact trivial|exact rfl|exact ZT Zi b|refine And.intro ?_ ?_)
   .obtain⟨j1,hj1⟩:=y;have e:(j:Int)=(j1:Int):=e;have e:j=j1:=by omega
    subst e;dsimp only;refine⟨⟨j+1,c⟩,?_⟩;have v:Za.wrap ((j:Int)+1)=((j+1:Nat):Int):=by rw[Yb (by omega) (by omega)];rfl
    (repeat' first|exact trivial|exact rfl|exact ZT (Zm Za) v|refine And.intro ?_ ?_)
    show fl.length-(j+1)<fl.length-j;omega
  .refine⟨⟨⟨0,ZC _⟩,?_⟩,fun x _=>?_⟩
   ·repeat' constructor
   obtain⟨j,hj⟩:=x;dsimp only;refine Ya (fun c=>?_) fun _=>h
   have c:j<roots.length:=by have:=Zc c;omega
   have hx:roots.getD j 0∈roots:=by rw[Zb,Zk c];exact Zaa c
   have hg:=hc.held _ hx;refine⟨⟨by omega,by omega,Ya (fun f=>⟨by omega,by omega,hru _ hx,by omega,⟨j,c⟩,?_⟩) fun _=>⟨⟨j,c⟩,?_⟩⟩,fun y e=>?_⟩
   .have b:(!alcD d (roots.getD j 0))=false:=by
     rcases hg with e|e
     .have f:(roots.getD j 0 != 0)=true:=f;rw[e] at f;cases f
     .rw[e];rfl
    (repeat' first|exact trivial|exact rfl|exact ZT Zi b|refine And.intro ?_ ?_)
   ·repeat' constructor
   .obtain⟨j1,hj1⟩:=y;have e:(j:Int)=(j1:Int):=e;have e:j=j1:=by omega
    subst e;dsimp only;refine⟨⟨j+1,c⟩,?_⟩;have v:Za.wrap ((j:Int)+1)=((j+1:Nat):Int):=by rw[Yb (by omega) (by omega)];rfl
    (repeat' first|exact trivial|exact rfl|exact ZT (Zm Za) v|refine And.intro ?_ ?_)
    show roots.length-(j+1)<roots.length-j;omega
theorem Yzc:Tb C0 115 tChk:=by
 refine .of Tryz.func115 (by decide) rfl fun args H K h hB=>?_
 unfold tChk at h;split at h<;>try exact h.elim
 rename_i d fl roots;obtain⟨h1,h2,h3,h4,h5,h6,h7,h⟩:=h;exact⟨aChk P0c (P1c d) (P2c d) (P3c d roots) (P4c d) d fl roots,⟨Ye C0.ok Yxt _,Ye C0.ok s_mk _,Ye C0.ok Yxq _,Ye C0.ok YlH _,Ye C0.ok Yne _,trivial⟩,YwR d fl roots K h1 h2 h3 h4 h5 h6 h7 h⟩
theorem Yzd:Tb C0 65 tCln:=by
 refine .of Tryz.func65 (by decide) rfl fun args H K h hB=>?_
 unfold tCln at h;split at h<;>try exact h.elim
 rename_i d fl roots;exact⟨aCln,⟨Ye C0.ok Yzc _,trivial⟩,Eq.mp (show (CleanD d fl roots/\Yde d/\allU fl/\allU roots/\d.length<=100000/\fl.length<=1000000/\roots.length<=1000000/\K (.one (.at (.val (Zi true)))) [(.row false .slot (d)),(.row false .u32 (fl)),(.row false .u32 (roots))] [])=_ by kernel_rfl) h⟩
theorem YqG (S:Arn)(roots hs:LI)(K:KT)(w:Wf S hs)(p:roots.Perm hs)(hr:roots.length<=1000000)(h:K (.one (.at (vB true))) (chS S++[.row false .u32 roots]) []) :
  vc C0 YrG Tryz.f22 [.at (.ptr 0 0),.at (.slc 7)] (chS S++[.row false .u32 roots]) (Yh 8 K):=by
 refine Eq.mp (show (exW S/\∀ d:LS,∀ o:LI,d=Yg S->o=Yi S->CleanD d o roots/\Yde d/\allU o/\allU roots/\d.length<=100000/\o.length<=1000000/\roots.length<=1000000/\K (.one (.at (.val (Zi true)))) [(.box [(.ptr 1 0),(.slc 2),(.slc 3),(.val (VW (S.reads)))]),(.box [(.slc 4),(.slc 5),(.slc 6),(.val (VU (S.fresh)))]),(.row true .node (S.nodes)),(.row true .int (S.counts)),(.row true .bool (S.used)),(.row true .u32 (S.gen)),(.row true .u32 (S.rel)),(.row false .u32 (roots))] [])=_ by kernel_rfl) ?_;have nc:ncap S<=65537:=by have:=w.n2;unfold ncap;omega
 have ol:=Ynf w;have ku:=Yjs w;have cs:=Yjt w p;have sl:=YB S;refine⟨⟨hs,w⟩,fun d o ed eo=>?_⟩;subst ed eo;refine⟨cs,ku,fun x hx=>?_,fun x hx=>Wf.inU_held w (p.mem_iff.1 hx),by omega,by omega,hr,h⟩;have:=((YeL w x).1 hx).1;exact⟨by omega,by omega⟩
theorem YtS:Tb C0 22 YoB:=by
 refine .of Tryz.func22 (by decide) rfl fun args H K h hB=>?_
 unfold YoB at h;split at h<;>try exact h.elim
 unfold arMr at h;iterate 2 (split at h<;>try exact h.elim)
 rename_i rd fr nd ct us gn rl _ roots;obtain⟨hs,w,p,hr,h⟩:=h;exact⟨YrG,⟨Ye C0.ok YqV _,Ye C0.ok Yzd _,trivial⟩,YqG ⟨us,gn,rl,fr,nd,ct,rd⟩ roots hs K w p hr h⟩

section
section
variable {S S':Arn} {hs ks b lk:LI} {kx:List ExtT} {p:PKT} {e f:Int} {A:LS} {rts:LI}
theorem YiI (w:Wf S hs){i:Int}(h:i=0∨S.us i=true):szI (Yg S) i=(S.nd i).size:=by
 unfold szI;rcases h with rfl|u
 .rw[Zj rfl,w.nd0];rfl
 .have:=(w.pos u).1;rw[Zf (by omega),YX w u]
theorem YoD (w:Wf S hs):ClD (Yg S) where
 kid i u:=by
  rw[Yl w] at u;obtain⟨e1,e2⟩:=Yam w u;rw[e1,e2,Yl w,Yl w];exact w.kid i u
 sz i u:=by
  rw[Yl w] at u;obtain⟨e1,e2⟩:=Yam w u;have k:=w.kid i u;have s:=w.siz i u;unfold szM;rw[e1,e2,YX w u];rw[show szI (Yg S) (lfA S i)=(S.nd (S.nd i).left).size from YiI w k.1,show szI (Yg S) (rgA S i)=(S.nd (S.nd i).right).size from YiI w k.2];unfold Ym at s;omega
theorem YlZ (h:KnB S hs ks)(ab:allB b)(bl:b.length<=1000000000)(hc:ncap S<=50000)(ho:(Yi S).length<=50000):ImB8 (Yg S) (Yi S) b ks where
 ab:=ab
 bl:=bl
 w:=Yim h.wf
 kd:=Yiu h.wf
 cl:=YoD h.wf
 dl:=by rw[YB];exact hc
 sz s hs:=by
  unfold Yg at hs;obtain⟨i,hi,rfl⟩:=ZF.1 hs;have:=h.wf.size_nonneg ((i:Int)+1);unfold Ym at this;exact this
 fl_:=ho
 kl:=h.kl
 ki:=Yfd h.wf fun j hj=>by
  obtain⟨t,r,_⟩:=h.kv j hj;exact r.us
 ky:=Yiv h.wf h.ky
theorem Yfp (h:KnB S hs ks)(n:Yx S ks [] lk)(kr:KxR S lk kx):KnD (Yg S) lk (ktA S lk) kx where
 tl:=by unfold ktA;rw[Zu]
 xl:=kr.len
 at_ i hi:=by
  have q:=h.kv.tree h.wf n (Yj hi);obtain⟨t,r,_,_,ex⟩:=kr.at_ i hi;rw[YjE hi];refine⟨YgI h.wf q.rep,q.asc,q.bal,fun c=>?_,?_⟩
  .have:=Yha.1 c;have:=q.pos;omega
  .rw[ex,Ycs h.wf r];rfl
structure ImT (S:Arn) (lk:LI) (p:PKT):Prop where
 tr:∀ r∈p.roots,RepD (allR (Yg S) lk p.nodes) (refT (YK (ktA S lk) p.nodes p.nodes.length) r) (ixV lk (Yg S).length r)/\Asc (refT (YK (ktA S lk) p.nodes p.nodes.length) r).list/\(refT (YK (ktA S lk) p.nodes p.nodes.length) r).Bal/\(refT (YK (ktA S lk) p.nodes p.nodes.length) r).size<=(allR (Yg S) lk p.nodes).length
theorem YwS (h:pkD b=(e,p))(he:e≠0){d:LS}{fl:LI}(r:ImP8 d fl b ks f A rts):f=e:=by
 have no:∀ {p':PKT},pkD b=(0,p')->False:=fun q=>by rw[h] at q;exact he (ZbR q).1
 cases r with
 | bad q _=>rw[h] at q;exact (ZbR q).1.symm
 | stale q=>exact (no q).elim
 | full s=>exact (no s.pk).elim
 | tree s=>exact (no s.pk).elim
 | odd s=>exact (no s.pk).elim
 | ok s=>exact (no s.pk).elim
theorem YoE (h:KnB S hs ks)(hB:ImB8 (Yg S) (Yi S) b ks)(ho:((Yi S).length:Int)=S.free)(hp:pkD b=(0,p))(F:FtR p.known p.digest p.nodes p.roots S ks S' e)(r:ImP8 (Yg S) (Yi S) b ks f A rts) :
  f=e/\(e=0->∃ lk,Yx S ks [] lk/\A=allR (Yg S) lk p.nodes/\rts=rtR (Yg S) lk p.roots/\ImT S lk p):=by
 obtain⟨lk,dg,kx,n,dR,kr,ee⟩:=F.ex;have w:=h.wf;have pe:∀ {p':PKT},pkD b=(0,p')->p'=p:=fun q=>by rw[hp] at q;exact (ZbR q).2.symm
 have le:∀ {lk':LI},NumsD (Yg S) ks [] lk'->lk'=lk:=fun q=>(Yrf w q).det n
 have de:∀ {D:Int},DgD (Yg S) ks D->D=dg:=fun q=>(YnR w q).det dR
 have key:∀ {p':PKT} {lk':LI},ImS (Yg S) b ks p' lk'->p'=p/\lk'=lk/\p'.known=lk.length/\p'.digest=dg:=fun s=>by
  have:=le s.nk;exact⟨pe s.pk,this,by rw[s.kl,this],de s.dg⟩
 have pk:=(YcP hB.ab hp).2
 -- the trees
 have trees:∀ (s:ImS (Yg S) b ks p lk),p.nodes.length<=(Yi S).length->∀ r∈p.roots,∀ e1,CkG (allR (Yg S) lk p.nodes) (ixV lk (Yg S).length r) e1->(e1=0↔Asc (refT (YK (ktA S lk) p.nodes p.nodes.length) r).list/\(refT (YK (ktA S lk) p.nodes p.nodes.length) r).Bal):=fun s m r hr e1 c=>by
  have R:=s.rf hB m;have rr:=pk.rr r hr;have kn:=Yfp h n (kr (by rw[<-s.kl]));have ml:=R.ml;exact Ytq (R.clA hB.cl) (by rw[YP];omega) (R.ref rr.1 rr.2) (R.repK kn _ (Zw _) r rr.1 rr.2) c
 have rt:∀ (s:ImS (Yg S) b ks p lk),p.nodes.length<=(Yi S).length->(rtX p.known (bldL kx p.nodes p.nodes.length) p.roots=true↔∀ r∈p.roots,Asc (refT (YK (ktA S lk) p.nodes p.nodes.length) r).list/\(refT (YK (ktA S lk) p.nodes p.nodes.length) r).Bal):=fun s m=>by
  have R:=s.rf hB m;have kk:=kr (by rw[<-s.kl]);exact R.tree_ok (Yfp h n kk) (YjF w h.kv n kk s.kl.symm pk.ord (Zw _)) pk.rr
 have big:∀ (s:ImS (Yg S) b ks p lk),p.nodes.length<=(Yi S).length->e=if rtX p.known (bldL kx p.nodes p.nodes.length) p.roots=false then 13 else if vsL p.known p.nodes (fuP p.known p.nodes) p.roots (p.known+1)=(true,p.known+p.nodes.length+1) then 0 else 13:=fun s m=>by
  rw[ee];unfold ftE;rw[Zf (by rw[<-s.kl,de s.dg];simp),Zf (by omega)]
 cases r with
 | bad q he=>rw[hp] at q;exact absurd (ZbR q).1.symm he
 | @stale p' lk' q nk c =>
  obtain rfl:=pe q;obtain rfl:=le nk
  have e11:e=11:=by
   rw[ee];unfold ftE;rw[Zj];rcases c with c|⟨D,dD,c⟩
   .exact .inl fun q=>c q.symm
   .exact .inr fun q=>c (by rw[de dD,q])
  exact⟨e11.symm,fun z=>by rw[e11] at z;cases z⟩
 | @full p' lk' s m =>
  obtain⟨rfl,rfl,k,d⟩:=key s
  have e2:e=2:=by
   rw[ee];unfold ftE;rw[Zf (by rw[k,d];simp),Zj (by omega)]
  exact⟨e2.symm,fun z=>by rw[e2] at z;cases z⟩
 | @tree p' lk' r e1 s m hr c ne =>
  obtain⟨rfl,rfl,k,d⟩:=key s;have bad:¬ rtX p'.known (bldL kx p'.nodes p'.nodes.length) p'.roots=true:=fun q=>ne ((trees s m r hr e1 c).2 ((rt s m).1 q r hr))
  have e13:e=13:=by rw[big s m,Zj (Bool.eq_false_iff.2 bad)]
  exact⟨e13.symm,fun z=>by rw[e13] at z;cases z⟩
 | @odd p' lk' o s m c x ne =>
  obtain⟨rfl,rfl,k,d⟩:=key s;have R:=s.rf hB m;have bad:¬ vsL p'.known p'.nodes (fuP p'.known p'.nodes) p'.roots (p'.known+1)=(true,p'.known+p'.nodes.length+1):=fun v=>ne (by rw[R.ex_of v x];exact (YcP hB.ab hp).1.symm)
  have e13:e=13:=by
   rw[big s m,Zf bad];split<;>rfl
  exact⟨e13.symm,fun z=>by rw[e13] at z;cases z⟩
 | @ok p' lk' s m c x =>
  obtain⟨rfl,rfl,k,d⟩:=key s;have R:=s.rf hB m;have good:rtX p'.known (bldL kx p'.nodes p'.nodes.length) p'.roots=true:=(rt s m).2 fun r hr=>(trees s m r hr 0 (c r hr)).1 rfl
  have eb:=(YcP hB.ab hp).1;have v:=R.vs_of (by rw[eb] at x;exact x);have e0:e=0:=by rw[big s m,Zf (by rw[good];decide),Zj v]
  refine⟨e0.symm,fun _=>⟨_,n,rfl,rfl,⟨fun r hr=>?_⟩⟩⟩;have t:=(trees s m r hr 0 (c r hr)).1 rfl;have rr:=pk.rr r hr;have kn:=Yfp h n (kr (by rw[<-s.kl]));have cl:=R.clA hB.cl;have rk:=R.repK kn _ (Zw _) r rr.1 rr.2;have al:=R.ref rr.1 rr.2;have few:=Yhh cl al rk t.1;have ml:=R.ml;have sl:(allR (Yg S) lk' p'.nodes).length=(Yg S).length+p'.nodes.length:=YP _ _ _ _;exact⟨YiE cl al rk (by omega),t.1,t.2,few⟩
end
end
end Go.Proofs.YtedfbafngmicpaaGreat.Sx
