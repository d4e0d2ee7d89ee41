/- What can be read is what would be written: varints, words, frames. No program in sight. -/
import Derived.Test.YtedfbafngmicpaaGreatG0
import Derived.Test.YtedfbafngmicpaaGreatG5
import Derived.Test.YtedfbafngmicpaaGreatG7
import Derived.Test.YtedfbafngmicpaaGreatG9
import Derived.Test.YtedfbafngmicpaaGreatG6
noncomputable section
open Go.IntKind renaming i64 → Za,u32 → Ze,u64 → Zd
open Go.Value renaming bool → Zi
open Int renaming toNat → Zq
open List renaming drop → Zp,take → Zn
namespace Go.Proofs.YtedfbafngmicpaaGreat.Sx
open Go
section
section
variable {d:LS} {la:LI}
theorem Yoh (nd:la.Nodup)(us:∀ j∈la,alcD d j=true){x:Int}{acc a z:LI}(n:NumD d x acc a)(e:la=a++z):plcN la x<=a.length:=by
 cases u:alcD d x with
 | false =>
  rw[YaI fun q=>by rw[us x q] at u;cases u];omega
 | true =>
  obtain⟨p,hp⟩:=ZaZ (n.self u);have pl:p<a.length:=(Zt.1 hp).1;rw[Yax nd (show la[p]?=some x by rw[e,ZB pl];exact hp)];omega
theorem YyQ (nd:la.Nodup)(us:∀ j∈la,alcD d j=true){k:Nat}{i:Int}{acc a:LI}(n:NumD d i acc a):(∃ z,la=a++z)->k<=acc.length->∀ f,(plcN la i-k).toNat<f →
  vsG k ((la.drop k).map (nodQ d la)) f (acc.length+1) (plcN la i)=(true,(a.length:Int)+1):=by
 induction n with
 | @skip i acc c =>
  intro ⟨z,ez⟩ hl f hf;cases f with
  | zero=>omega
  | succ f =>
  refine Zj ?_;rcases c with c|c
  .have:i∉la:=fun q=>by rw[us i q] at c;cases c
   rw[YaI this];omega
  .obtain⟨p,hp⟩:=ZaZ c;have pl:p<acc.length:=(Zt.1 hp).1;rw[Yax nd (show la[p]?=some i by rw[ez,ZB pl];exact hp)];omega
 | @go i acc a1 a2 u c n1 n2 ih1 ih2 =>
  intro ⟨z,ez⟩ hl f hf;obtain⟨x1,e1⟩:=n1.pre;obtain⟨x2,e2⟩:=n2.pre;have l2:k<=a2.length:=by rw[e2,e1];simp only[Zh];omega
  have l1:k<=a1.length:=by rw[e1];simp only[Zh];omega
  have la12:acc.length<=a2.length:=by rw[e2,e1];simp only[Zh];omega
  have l12:a1.length<=a2.length:=by rw[e2];simp only[Zh];omega
  have hg:la[a2.length]?=some i:=by rw[ez,ZB (by simp),Zba]
  have pl:=Yax nd hg;have al:a2.length<la.length:=(Zt.1 hg).1;cases f with
  | zero=>omega
  | succ f =>
  have ec:getN ((la.drop k).map (nodQ d la)) (plcN la i-k-1).toNat=nodQ d la i:=by
   rw[Ybe (by rw[Zy];omega),YaK,show k+(plcN la i-k-1).toNat=a2.length by omega,Ydr hg]
  have ez1:la=a1++(x2++([i]++z)):=by rw[ez,e2];simp
  have ez2:la=a2++([i]++z):=by rw[ez];simp
  have p1:=Yoh nd us n1 ez1;have p2:=Yoh nd us n2 ez2;have v1:=ih1 ⟨_,ez1⟩ hl f (by omega);have v2:=ih2 ⟨_,ez2⟩ l1 f (by omega)
  have e:vsG k ((la.drop k).map (nodQ d la)) (f+1) (acc.length+1) (plcN la i)=match vsG k ((la.drop k).map (nodQ d la)) f (acc.length+1) (getN ((la.drop k).map (nodQ d la)) (plcN la i-k-1).toNat).left with
     | (false,n1)=>(false,n1)
     | (true,n1)=>match vsG k ((la.drop k).map (nodQ d la)) f n1 (getN ((la.drop k).map (nodQ d la)) (plcN la i-k-1).toNat).right with
      | (false,n2)=>(false,n2)
      | (true,n2)=>if n2=plcN la i then (true,n2+1) else (false,n2):=Zf (by omega)
  rw[e,ec];rw[show (nodQ d la i).left=plcN la (lfD d i) from rfl,show (nodQ d la i).right=plcN la (rgD d i) from rfl,v1];dsimp only;rw[v2];dsimp only;rw[Zj (by omega),Zh,Zr]
  rfl
theorem YyR (nd:la.Nodup)(us:∀ j∈la,alcD d j=true){k f:Nat}(hf:la.length-k<f){r acc a:LI}(n:NumsD d r acc a):(∃ z,la=a++z)->k<=acc.length →
  vsL k ((la.drop k).map (nodQ d la)) f (r.map (plcN la)) (acc.length+1)=(true,(a.length:Int)+1):=by
 induction n with
 | nil=>intro _ _;rfl
 | @cons i r acc a1 a2 n1 n2 ih =>
  intro ⟨z,ez⟩ hl;obtain⟨x1,e1⟩:=n1.pre;obtain⟨x2,e2⟩:=n2.pre;have pr:=(YD la i).2;have v:=YyQ nd us n1 ⟨x2++z,by rw[ez,e2];simp⟩ hl f (by omega);rw[ZaA];unfold vsL;rw[v];exact ih ⟨z,ez⟩ (by rw[e1,Zh];omega)
variable {k:Nat} {ns:LP}
structure GrD (d:LS) (la:LI) (k:Nat) (ns:LP):Prop where
 len:la.length=k+ns.length
 nd:la.Nodup
 us:∀ j∈la,alcD d j=true
 ch:∀ p,p<ns.length->lfD d (getB la (k+p))=getB (0::la) (getN ns p).left.toNat/\rgD d (getB la (k+p))=getB (0::la) (getN ns p).right.toNat
 od:OrdP k ns
theorem YbZ:alcD d 0=false:=YdF (by omega)
theorem YiD {x:Int}{l:LI}{r:Int}(h:1<=r):getB (x::l) r.toNat=getB l (r-1).toNat:=by
 obtain⟨n,rfl⟩:∃ n:Nat,r=n+1:=⟨(r-1).toNat,by omega⟩
 rw[show ((n:Int)+1).toNat=n+1 by omega,show ((n:Int)+1-1).toNat=n by omega]
 rfl
theorem GrD.pos (g:GrD d la k ns){r:Int}(h1:1<=r)(h2:r<=k+ns.length):getB (0::la) r.toNat=getB la (r-1).toNat/\la[(r-1).toNat]?=some (getB la (r-1).toNat):=by
 have:=g.len;exact⟨YiD h1,Yds (by omega)⟩
theorem GrD.vs (g:GrD d la k ns):∀ (f:Nat) (nx r n':Int),vsG k ns f nx r=(true,n')->(k:Int)+1<=nx->nx<=k+ns.length+1->0<=r->r<=k+ns.length →
  nx<=n'/\n'<=k+ns.length+1/\NumD d (getB (0::la) r.toNat) (la.take (nx-1).toNat) (la.take (n'-1).toNat)
 | 0,nx,r,n',h,_,_,_,_=>by cases h
 | f+1,nx,r,n',h,h1,h2,r0,r1=>by
  have ll:=g.len
  by_cases c:r<nx
  .have e:vsG k ns (f+1) nx r=(true,nx):=Zj c;rw[e] at h;injection h with _ h
   subst h;refine⟨ZE _,h2,.skip ?_⟩
   by_cases z:r=0
   .subst z;exact .inl YbZ
   .obtain⟨e1,e2⟩:=g.pos (r:=r) (by omega) r1;rw[e1];exact .inr (ZD (i:=(r-1).toNat) (by rw[Zae,Zj (by omega)];exact e2))
  .have e:vsG k ns (f+1) nx r=match vsG k ns f nx (getN ns (r-k-1).toNat).left with
     | (false,n1)=>(false,n1)
     | (true,n1)=>match vsG k ns f n1 (getN ns (r-k-1).toNat).right with
      | (false,n2)=>(false,n2)
      | (true,n2)=>if n2=r then (true,n2+1) else (false,n2):=Zf c
   rw[e] at h;obtain⟨o1,n1,v1⟩:∃ o n,vsG k ns f nx (getN ns (r-k-1).toNat).left=(o,n):=⟨_,_,rfl⟩
   rw[v1] at h;cases o1 with
   | false=>cases h
   | true =>
   dsimp only at h;obtain⟨o2,n2,v2⟩:∃ o n,vsG k ns f n1 (getN ns (r-k-1).toNat).right=(o,n):=⟨_,_,rfl⟩
   rw[v2] at h;cases o2 with
   | false=>cases h
   | true =>
   dsimp only at h
   by_cases q:n2=r
   .rw[Zj q] at h;injection h with _ h
    subst h q;have od:=g.od (n2-k-1).toNat (by omega);obtain⟨a1,a2,a3⟩:=GrD.vs g f nx _ n1 v1 h1 h2 od.1.1 (by omega);obtain⟨b1,b2,b3⟩:=GrD.vs g f n1 _ n2 v2 (by omega) a2 od.2.1 (by omega);obtain⟨e1,e2⟩:=g.pos (r:=n2) (by omega) r1;have ch:=g.ch (n2-k-1).toNat (by omega);rw[show k+(n2-k-1).toNat=(n2-1).toNat by omega] at ch;rw[<-ch.1] at a3;rw[<-ch.2] at b3;refine⟨by omega,by omega,?_⟩;rw[e1,show (n2+1-1).toNat=(n2-1).toNat+1 by omega,Yo (by omega)];refine .go (g.us _ (ZD e2)) (fun m=>?_) a3 b3;obtain⟨p,hp⟩:=ZaZ m;rw[Zae] at hp
    by_cases pl:p<(nx-1).toNat
    .rw[Zj pl] at hp;have p1:=Yax g.nd hp;have p2:=Yax g.nd e2;omega
    .rw[Zf pl] at hp;cases hp
   .rw[Zf q] at h;cases h
theorem GrD.vsL (g:GrD d la k ns)(f:Nat):∀ (rs:LI) (nx n':Int),Sx.vsL k ns f rs nx=(true,n')->(k:Int)+1<=nx->nx<=k+ns.length+1->(∀ r∈rs,0<=r/\r<=k+ns.length) →
  nx<=n'/\n'<=k+ns.length+1/\NumsD d (rs.map fun r=>getB (0::la) r.toNat) (la.take (nx-1).toNat) (la.take (n'-1).toNat)
 | [],nx,n',h,h1,h2,_=>by
  have h:(true,nx)=(true,n'):=h;injection h with _ h
  subst h;exact⟨ZE _,h2,.nil⟩
 | r::rs,nx,n',h,h1,h2,hr=>by
  obtain⟨o1,n1,v1⟩:∃ o n,vsG k ns f nx r=(o,n):=⟨_,_,rfl⟩
  unfold Sx.vsL at h;rw[v1] at h;cases o1 with
  | false=>cases h
  | true =>
  have rr:=hr r (ZP ..);obtain⟨a1,a2,a3⟩:=g.vs f nx r n1 v1 h1 h2 rr.1 rr.2;obtain⟨b1,b2,b3⟩:=GrD.vsL g f rs n1 n' h (by omega) a2 fun x hx=>hr x (Zz _ hx)
  exact⟨by omega,b2,.cons a3 b3⟩
theorem GrD.plc (g:GrD d la k ns){r:Int}(h0:0<=r)(h1:r<=k+ns.length):plcN la (getB (0::la) r.toNat)=r:=by
 by_cases z:r=0
 .subst z;exact YaI fun q=>by have:=g.us 0 q;rw[YbZ] at this;cases this
 .obtain⟨e1,e2⟩:=g.pos (r:=r) (by omega) h1;rw[e1,Yax g.nd e2];omega
theorem GrD.pk (g:GrD d la k ns){rs:LI}{D:Int}(kv:∀ p,p<ns.length->(sltD d (getB la (k+p))).node.key=(getN ns p).key/\(sltD d (getB la (k+p))).node.value=(getN ns p).value)(hr:∀ r∈rs,0<=r/\r<=k+ns.length) :
  pkQ d (la.take k) la (rs.map fun r=>getB (0::la) r.toNat) D=pkE k D ns rs:=by
 have ll:=g.len;have lk:(la.take k).length=k:=by rw[ZG];omega
 unfold pkQ;rw[lk]
 congr 1
 .refine Zbd (by rw[Zu,Zy];omega) fun p h1 h2=>?_
  have e1:getN ((la.drop k).map (nodQ d la)) p=nodQ d la (getB la (k+p)):=by rw[Ybe (by rw[Zu] at h1;exact h1),YaK]
  have e2:getN ((la.drop k).map (nodQ d la)) p=((la.drop k).map (nodQ d la))[p]:=by show List.getD _ p _=_;rw[Zb,Zk h1];rfl
  have e3:getN ns p=ns[p]:=by show List.getD _ p _=_;rw[Zb,Zk h2];rfl
  rw[<-e2,e1,<-e3];have o:=g.od p h2;have c:=g.ch p h2;have v:=kv p h2;unfold nodQ;rw[c.1,c.2,g.plc o.1.1 (by omega),g.plc o.2.1 (by omega),v.1,v.2]
 .rw[List.map_map]
  conv=>rhs;rw[<-List.map_id rs]
  exact ZaP fun r h=>g.plc (hr r h).1 (hr r h).2
end
def ixR (lk:LI)(n:Nat):Nat->LI
 | 0=>0::lk
 | i+1=>ixR lk n i++[(n:Int)+1+i]
theorem YkN (lk:LI)(n:Nat):∀ i,ixR lk n i=0::(lk++upTo n i)
 | 0=>by show 0::lk=0::(lk++[]);rw[ZR]
 | i+1=>by
  show ixR lk n i++[(n:Int)+1+i]=_;rw[YkN lk n i,<-Yif,ZaW,Zo]
def szI (d:LS)(i:Int):Int:=if i=0 then 0 else (sltD d i).node.size
def mkS (d:LS)(ix:LI)(x:PNT):Tc:=⟨true,0,0,⟨x.key,x.value,getB ix x.left.toNat,getB ix x.right.toNat,min (1+szI d (getB ix x.left.toNat)+szI d (getB ix x.right.toNat)) 2147483647,0,0,0⟩⟩
def slR (d:LS)(lk:LI)(ns:LP):Nat->LS
 | 0=>d
 | i+1=>slR d lk ns i++[mkS (slR d lk ns i) (ixR lk d.length i) (getN ns i)]
def ixV (lk:LI)(n:Nat)(r:Int):Int:=if r=0 then 0 else if r<=lk.length then getB lk (r-1).toNat else n+(r-lk.length)
structure RfB (d:LS) (lk:LI) (k:Int) (ns:LP):Prop where
 w:DgW d
 kd:KdD d
 nd:lk.Nodup
 us:∀ j∈lk,alcD d j=true
 kl:(lk.length:Int)=k
 od:OrdP k ns
 ml:d.length+ns.length<=100000
theorem YkO (fr:Int)(n:Nat):(upTo fr n).length=n:=by unfold upTo;rw[Zu,ZaF]
theorem YkP {fr:Int}{n i:Nat}(h:i<n):getB (upTo fr n) i=fr+1+i:=by
 show List.getD _ i 0=_;unfold upTo;rw[Zb,Zv,ZaD h];rfl
theorem YP (d:LS)(lk:LI)(ns:LP):∀ i,(slR d lk ns i).length=d.length+i
 | 0=>rfl
 | i+1=>by unfold slR;rw[Zh,YP d lk ns i];rfl
theorem YjJ (d:LS)(lk:LI)(ns:LP)(i:Nat):∀ j,∃ x,slR d lk ns (i+j)=slR d lk ns i++x
 | 0=>⟨[],by simp⟩
 | j+1=>by
  obtain⟨x,e⟩:=YjJ d lk ns i j;refine⟨x++[mkS (slR d lk ns (i+j)) (ixR lk d.length (i+j)) (getN ns (i+j))],?_⟩;rw[<-Zo,<-e];rfl
theorem YkQ {a b:LS}{j:Int}(h1:1<=j)(h2:j<=a.length):sltD (a++b) j=sltD a j:=by
 unfold sltD;rw[Zb,Zb,ZB (by omega)]
theorem Yqq {a b:LS}{j:Int}(h2:j<=a.length):alcD (a++b) j=alcD a j:=by
 by_cases h1:1<=j
 .rw[YeK h1 h2,YeK h1 (by rw[Zh];omega)];exact ZT Tc.alloc (YkQ h1 h2)
 .rw[YdF h1,YdF h1]
section
variable {d:LS} {lk:LI} {k:Int} {ns:LP}
theorem YkR {i j:Nat}(h:i<=j){x:Int}(h1:1<=x)(h2:x<=d.length+i):sltD (slR d lk ns j) x=sltD (slR d lk ns i) x:=by
 obtain⟨y,e⟩:=YjJ d lk ns i (j-i);rw[show i+(j-i)=j by omega] at e;rw[e];exact YkQ h1 (by rw[YP];omega)
theorem Yws {i j:Nat}(h:i<=j){x:Int}(h2:x<=d.length+i):alcD (slR d lk ns j) x=alcD (slR d lk ns i) x:=by
 obtain⟨y,e⟩:=YjJ d lk ns i (j-i);rw[show i+(j-i)=j by omega] at e;rw[e];exact Yqq (by rw[YP];omega)
theorem Yoi {i j:Nat}(h:j<i):sltD (slR d lk ns i) (d.length+1+j)=mkS (slR d lk ns j) (ixR lk d.length j) (getN ns j):=by
 rw[YkR (i:=j+1) (by omega) (by omega) (by omega)];show List.getD (slR d lk ns j++[mkS (slR d lk ns j) (ixR lk d.length j) (getN ns j)]) _ _=_;rw[show ((d.length:Int)+1+j-1).toNat=(slR d lk ns j).length by rw[YP];omega,Zb,Zba];rfl
theorem Yhg {i j:Nat}(h:j<i):alcD (slR d lk ns i) (d.length+1+j)=true:=by
 rw[YeK (by omega) (by rw[YP];omega)];have:=Yoi (d:=d) (lk:=lk) (ns:=ns) h;unfold sltD at this;rw[this];rfl
theorem Ydt {n i:Nat}{r:Int}(h0:0<=r)(h1:r<=lk.length+i):getB (ixR lk n i) r.toNat=ixV lk n r:=by
 rw[YkN];unfold ixV
 by_cases z:r=0
 .rw[Zj z,z];rfl
 .rw[Zf z,YiD (by omega)]
  by_cases c:r<=lk.length
  .rw[Zj c,Ybp (by omega)]
  .rw[Zf c,show (r-1).toNat=lk.length+(r-lk.length-1).toNat by omega,YaD,YkP (by omega)];omega
theorem Ytn {n i:Nat}{r:Int}(h0:0<=r)(h1:r<=lk.length+i):getB (0::(lk++upTo n i)) r.toNat=ixV lk n r:=by
 rw[<-YkN];exact Ydt h0 h1
theorem Ydu (h:RfB d lk k ns){r:Int}(h0:0<=r):(r=0/\ixV lk d.length r=0)∨(1<=r/\r<=k/\1<=ixV lk d.length r/\ixV lk d.length r<=d.length/\ixV lk d.length r∈lk)∨(k<r/\ixV lk d.length r=d.length+(r-k)):=by
 have kl:=h.kl;unfold ixV
 by_cases z:r=0
 .exact .inl ⟨z,Zj z⟩
 .rw[Zf z]
  by_cases c:r<=lk.length
  .rw[Zj c];have m:getB lk (r-1).toNat∈lk:=Yj (by omega);have:=Yw (h.us _ m);exact .inr (.inl ⟨by omega,by omega,this.1,this.2,m⟩)
  .rw[Zf c];exact .inr (.inr ⟨by omega,by omega⟩)
theorem RfB.node (h:RfB d lk k ns){j:Nat}(hj:j<ns.length) :
  let A:=slR d lk ns ns.length
  let i:Int:=d.length+1+j
  alcD A i=true/\(sltD A i).node.key=(getN ns j).key/\(sltD A i).node.value=(getN ns j).value/\lfD A i=ixV lk d.length (getN ns j).left/\rgD A i=ixV lk d.length (getN ns j).right ∧
  (sltD A i).node.size=min (1+szI A (lfD A i)+szI A (rgD A i)) 2147483647:=by
 have o:=h.od j hj;have kl:=h.kl;have e:=Yoi (d:=d) (lk:=lk) (ns:=ns) hj
 have s:∀ r:Int,0<=r->r<=k+j->szI (slR d lk ns ns.length) (ixV lk d.length r)=szI (slR d lk ns j) (ixV lk d.length r):=fun r r0 r1=>by
  unfold szI;rcases Ydu h r0 with ⟨_,q⟩|⟨_,_,q1,q2,_⟩|⟨q1,q2⟩
  .rw[Zj q,Zj q]
  .rw[Zf (by omega),Zf (by omega),YkR (i:=j) (by omega) q1 (by omega)]
  .rw[Zf (by omega),Zf (by omega),YkR (i:=j) (by omega) (by omega) (by omega)]
 have el:lfD (slR d lk ns ns.length) (d.length+1+j)=ixV lk d.length (getN ns j).left:=by
  unfold lfD;rw[e];exact Ydt o.1.1 (by omega)
 have er:rgD (slR d lk ns ns.length) (d.length+1+j)=ixV lk d.length (getN ns j).right:=by
  unfold rgD;rw[e];exact Ydt o.2.1 (by omega)
 refine⟨Yhg hj,by rw[e];rfl,by rw[e];rfl,el,er,?_⟩;rw[el,er,s _ o.1.1 o.1.2,s _ o.2.1 o.2.2,e];show min (1+szI _ (getB _ _)+szI _ (getB _ _)) _=_;rw[Ydt o.1.1 (by omega),Ydt o.2.1 (by omega)]
end
end
section
abbrev allR (d:LS)(lk:LI)(ns:LP):LS:=slR d lk ns ns.length
abbrev laR (d:LS)(lk:LI)(ns:LP):LI:=lk++upTo d.length ns.length
section
variable {d:LS} {lk:LI} {k:Int} {ns:LP}
theorem YdN {x:Int}(h1:1<=x)(h2:x<=d.length):sltD (allR d lk ns) x=sltD d x:=YkR (i:=0) (by omega) h1 (by omega)
theorem Yaa {x:Int}(h2:x<=d.length):alcD (allR d lk ns) x=alcD d x:=Yws (i:=0) (by omega) (by omega)
theorem YdO {x:Int}(h1:(d.length:Int)<x)(u:alcD (allR d lk ns) x=true):∃ j,j<ns.length/\x=(d.length:Int)+1+(j:Nat):=by
 have:=Yw u;rw[YP] at this;exact⟨(x-d.length-1).toNat,by omega,by omega⟩
theorem Yry {p:Nat}(hp:p<ns.length):getB (laR d lk ns) (lk.length+p)=d.length+1+p:=by
 rw[YaD,YkP hp]
theorem RfB.gr (h:RfB d lk k ns):GrD (allR d lk ns) (laR d lk ns) lk.length ns where
 len:=by rw[Zh,YkO]
 nd:=ZaN.2 ⟨h.nd,YfO _ _,fun a ha b hb e=>by
  have:=Yw (h.us a ha);have:=Ydh.1 hb;omega⟩
 us j hj:=by
  rcases Zx.1 hj with q|q
  .rw[Yaa (Yw (h.us j q)).2];exact h.us j q
  .have:=Ydh.1 q;have e:=Yhg (d:=d) (lk:=lk) (ns:=ns) (i:=ns.length) (j:=(j-d.length-1).toNat) (by omega);rw[show (d.length:Int)+1+((j-d.length-1).toNat:Nat)=j by omega] at e;exact e
 ch p hp:=by
  obtain⟨_,_,_,e1,e2,_⟩:=h.node hp;have o:=h.od p hp;have kl:=h.kl;rw[Yry hp];exact⟨e1.trans (Ytn o.1.1 (by omega)).symm,e2.trans (Ytn o.2.1 (by omega)).symm⟩
 od:=by rw[h.kl];exact h.od
theorem RfB.kv (h:RfB d lk k ns):∀ p,p<ns.length->(sltD (allR d lk ns) (getB (laR d lk ns) (lk.length+p))).node.key=(getN ns p).key/\(sltD (allR d lk ns) (getB (laR d lk ns) (lk.length+p))).node.value=(getN ns p).value:=fun p hp=>by
 obtain⟨_,e1,e2,_⟩:=h.node hp;rw[Yry hp];exact⟨e1,e2⟩
theorem Yfm (_:KdD d){i:Int}(h2:i<=d.length)(u:alcD d i=true):lfD (allR d lk ns) i=lfD d i/\rgD (allR d lk ns) i=rgD d i:=by
 have:=Yw u;unfold lfD rgD;rw[YdN this.1 h2];exact⟨rfl,rfl⟩
theorem Yto (kd:KdD d){i:Int}{acc a:LI}(n:NumD d i acc a):i<=d.length->NumD (allR d lk ns) i acc a:=by
 induction n with
 | @skip i acc c=>intro hi;exact .skip (c.imp_left fun q=>by rw[Yaa hi];exact q)
 | @go i acc a1 a2 u c n1 n2 ih1 ih2 =>
  intro hi;have e:=Yfm (lk:=lk) (ns:=ns) kd hi u;have b:=kd i u;exact .go (a1:=a1) (by rw[Yaa hi];exact u) c (by rw[e.1];exact ih1 b.1.2) (by rw[e.2];exact ih2 b.2.2)
theorem YkS (kd:KdD d){r acc a:LI}(n:NumsD d r acc a):inL d r->NumsD (allR d lk ns) r acc a:=by
 induction n with
 | nil=>exact fun _=>.nil
 | cons n1 _ ih=>exact fun h=>.cons (Yto kd n1 (h _ (ZP ..)).2) (ih fun x hx=>h x (Zz _ hx))
theorem Yqr (kd:KdD d){l:LI}{i:Int}(u:alcD d i=true):nodQ (allR d lk ns) l i=nodQ d l i:=by
 have r:=Yw u;have e:=Yfm (lk:=lk) (ns:=ns) kd r.2 u;unfold nodQ;rw[e.1,e.2,YdN r.1 r.2]
theorem Yoj (kd:KdD d){ks:LI}{D:Int}(hk:inL d ks)(h:DgD d ks D):DgD (allR d lk ns) ks D:=by
 rcases h with h|⟨a,l,n,e⟩
 .exact .inl h
 .refine .inr ⟨a,l,YkS kd n hk,?_⟩;rw[e];unfold pkQ
  congr 2
  refine ZaP fun i hi=>(Yqr kd ?_).symm
  exact n.used (fun j hj=>by cases hj) i (Zaj hi)
theorem DgD.det {d:LS}{ks:LI}{D D':Int}(h:DgD d ks D)(h':DgD d ks D'):D=D':=by
 rcases h with ⟨a,b⟩|⟨a,l,n,e⟩
 .rcases h' with ⟨_,b'⟩|⟨a',_⟩
  .rw[b,b']
  .exact absurd a a'
 .rcases h' with ⟨a',_⟩|⟨_,l',n',e'⟩
  .exact absurd a' a
  .rw[e,e',n.det n']
theorem Yqs (h:RfB d lk k ns){r:Int}(h0:0<=r)(h1:r<=k+ns.length):0<=ixV lk d.length r/\ixV lk d.length r<=((allR d lk ns).length:Int):=by
 rw[YP];rcases Ydu h h0 with ⟨_,q⟩|⟨_,_,q1,q2,_⟩|⟨q1,q2⟩<;>omega
theorem RfB.kdA (h:RfB d lk k ns):KdD (allR d lk ns):=fun i u=>by
 rcases Zbs (d.length:Int) i with c|c
 .obtain⟨j,hj,rfl⟩:=YdO c u;obtain⟨_,_,_,e1,e2,_⟩:=h.node hj;have o:=h.od j hj;rw[show lfD _ _=_ from e1,show rgD _ _=_ from e2];exact⟨Yqs h o.1.1 (by omega),Yqs h o.2.1 (by omega)⟩
 .rw[Yaa c] at u;have e:=Yfm (lk:=lk) (ns:=ns) h.kd c u;have b:=h.kd i u;rw[e.1,e.2,YP];exact⟨⟨b.1.1,by omega⟩,b.2.1,by omega⟩
theorem RfB.wA (h:RfB d lk k ns):DgW (allR d lk ns) where
 len:=by rw[YP];exact h.ml
 kid i u:=by
  have b:=h.kdA i u;have:=h.ml;rw[YP] at b;exact⟨⟨b.1.1,by omega⟩,b.2.1,by omega⟩
 ex:=by
  obtain⟨rk,hk⟩:=h.w.ex;obtain⟨N,hN⟩:=hk.top;have kl:=h.kl
  have small:∀ j,j<ns.length->∀ r:Int,0<=r->r<=k+j->(if ixV lk d.length r<=d.length then rk (ixV lk d.length r) else N+min (ixV lk d.length r-d.length).toNat ns.length)<N+min ((d.length:Int)+1+(j:Nat)-d.length).toNat ns.length:=fun j hj r r0 r1=>by
   rcases Ydu h r0 with ⟨_,q⟩|⟨_,_,q1,q2,_⟩|⟨q1,q2⟩
   .rw[Zj (by omega)];have:=hN (ixV lk d.length r);omega
   .rw[Zj q2];have:=hN (ixV lk d.length r);omega
   .rw[Zf (by omega)];omega
  refine⟨fun i=>if i<=d.length then rk i else N+min (i-d.length).toNat ns.length,fun i u=>?_,N+ns.length+1,fun i=>?_⟩
  .rcases Zbs (d.length:Int) i with c|c
   .obtain⟨j,hj,rfl⟩:=YdO c u;obtain⟨_,_,_,e1,e2,_⟩:=h.node hj;have o:=h.od j hj;rw[show lfD _ _=_ from e1,show rgD _ _=_ from e2,Zf (c:=(d.length:Int)+1+(j:Nat)<=d.length) (by omega)];exact⟨small j hj _ o.1.1 o.1.2,small j hj _ o.2.1 o.2.2⟩
   .rw[Yaa c] at u;have e:=Yfm (lk:=lk) (ns:=ns) h.kd c u;have b:=h.kd i u;rw[e.1,e.2,Zj b.1.2,Zj b.2.2,Zj c];exact hk.sz i u
  .by_cases c:i<=d.length
   .rw[Zj c];have:=hN i;omega
   .rw[Zf c];omega
theorem Ywt {us:Int->Bool}{lf rg:Int->Int}{P:Int->Prop}(hP:∀ i,P i->us i=true->P (lf i)/\P (rg i)){i:Int}{acc a:LI}(n:NumG us lf rg i acc a):P i->(∀ x∈acc,P x)->∀ x∈a,P x:=by
 induction n with
 | skip _=>exact fun _ h=>h
 | go u _ _ _ ih1 ih2 =>
  intro hi h x hx;have q:=hP _ hi u;rcases Zx.1 hx with c|c
  .exact ih2 q.2 (ih1 q.1 h) x c
  .rw[ZL.1 c];exact hi
theorem Ytp {us:Int->Bool}{lf rg:Int->Int}{P:Int->Prop}(hP:∀ i,P i->us i=true->P (lf i)/\P (rg i)){r acc a:LI}(n:NumsG us lf rg r acc a):(∀ x∈r,P x)->(∀ x∈acc,P x)->∀ x∈a,P x:=by
 induction n with
 | nil=>exact fun _ h=>h
 | cons n1 _ ih=>exact fun hr h=>ih (fun x hx=>hr x (Zz _ hx)) (Ywt hP n1 (hr _ (ZP ..)) h)
abbrev rtR (d:LS)(lk rs:LI):LI:=rs.map (ixV lk d.length)
theorem RfB.ixs (h:RfB d lk k ns){rs:LI}(hr:∀ r∈rs,0<=r/\r<=k+ns.length):(rs.map fun r=>getB (0::laR d lk ns) r.toNat)=rtR d lk rs:=by
 have kl:=h.kl;exact ZaP fun r q=>Ytn (hr r q).1 (by have:=(hr r q).2;omega)
theorem RfB.cl (h:RfB d lk k ns){ks rs l:LI}(hk:inL d ks)(nk:NumsD d ks [] lk)(hr:∀ r∈rs,0<=r/\r<=k+ns.length)(n:NumsD (allR d lk ns) (ks++rtR d lk rs) [] l):∀ x∈l,x∈lk∨(d.length:Int)<x:=by
 have kl:=h.kl;have ks_in:∀ x∈ks,alcD d x=true->x∈lk:=nk.roots;have us:=n.used fun j hj=>by cases hj
 have P:∀ x∈l,alcD (allR d lk ns) x=false∨x∈lk∨(d.length:Int)<x:=by
  refine Ytp (P:=fun x=>alcD (allR d lk ns) x=false∨x∈lk∨(d.length:Int)<x) (fun i hi u=>?_) n (fun x hx=>?_) fun x hx=>by cases hx
  .have ref:∀ r:Int,0<=r->r<=k+ns.length->alcD (allR d lk ns) (ixV lk d.length r)=false∨ixV lk d.length r∈lk∨(d.length:Int)<ixV lk d.length r:=fun r r0 _=>by
    rcases Ydu h r0 with ⟨_,q⟩|⟨_,_,_,_,q⟩|⟨q1,q2⟩
    .rw[q];exact .inl YbZ
    .exact .inr (.inl q)
    .exact .inr (.inr (by omega))
   rcases hi with q|q|q
   .rw[q] at u;cases u
   .obtain⟨p,hp⟩:=ZaZ q;have ud:=h.us i q;have rg:=Yw ud;have e:=Yfm (lk:=lk) (ns:=ns) h.kd rg.2 ud;have b:=h.kd i ud;obtain⟨_,o1,o2⟩:=nk.ord .nil p i hp;rw[e.1,e.2]
    have fin:∀ x:Int,x<=d.length->(alcD d x=true->x∈lk.take p)->alcD (allR d lk ns) x=false∨x∈lk∨(d.length:Int)<x:=fun x hx ho=>by
     cases ux:alcD d x with
     | false=>rw[Yaa hx];exact .inl ux
     | true=>exact .inr (.inl (Zac (ho ux)))
    exact⟨fin _ b.1.2 o1,fin _ b.2.2 o2⟩
   .obtain⟨j,hj,rfl⟩:=YdO q u;obtain⟨_,_,_,e1,e2,_⟩:=h.node hj;have o:=h.od j hj;rw[show lfD _ _=_ from e1,show rgD _ _=_ from e2];exact⟨ref _ o.1.1 (by omega),ref _ o.2.1 (by omega)⟩
  .rcases Zx.1 hx with c|c
   .have b:=hk x c;cases ux:alcD d x with
    | false=>rw[Yaa b.2];exact .inl ux
    | true=>exact .inr (.inl (ks_in x c ux))
   .obtain⟨r,q,rfl⟩:=ZF.1 c;rcases Ydu h (hr r q).1 with ⟨_,q⟩|⟨_,_,_,_,q⟩|⟨q1,q2⟩
    .rw[q];exact .inl YbZ
    .exact .inr (.inl q)
    .exact .inr (.inr (by omega))
 intro x hx;rcases P x hx with q|q
 .rw[us x hx] at q;cases q
 .exact q
theorem RfB.keys (h:RfB d lk k ns){ks rs:LI}(hk:inL d ks)(nk:NumsD d ks [] lk)(ky:KyD d ks)(ok:∀ i,i<ns.length->okP (getN ns i))(hr:∀ r∈rs,0<=r/\r<=k+ns.length):KyD (allR d lk ns) (ks++rtR d lk rs):=fun l n=>by
 intro i hi;have u:=n.used (fun j hj=>by cases hj) i hi;rcases h.cl hk nk hr n i hi with q|q
 .have rg:=Yw (h.us i q);rw[YdN rg.1 rg.2];exact ky lk nk i q
 .obtain⟨j,hj,rfl⟩:=YdO q u;obtain⟨_,e1,e2,_⟩:=h.node hj;have q:=ok j hj;refine⟨?_,?_⟩
  .rw[show (sltD (allR d lk ns) ((d.length:Int)+1+(j:Nat))).node.key=_ from e1];exact q.1
  .rw[show (sltD (allR d lk ns) ((d.length:Int)+1+(j:Nat))).node.value=_ from e2];exact q.2.1
end
end
section
section
variable {d:LS} {lk ks rs:LI} {k D:Int} {ns:LP}
structure RfK (d:LS) (lk ks:LI) (k D:Int) (ns:LP) (rs:LI):Prop extends RfB d lk k ns where
 pk:PkOk k D ns rs
 ki:inL d ks
 nk:NumsD d ks [] lk
 ky:KyD d ks
 dg:DgD d ks D
theorem RfK.nkA (h:RfK d lk ks k D ns rs):NumsD (allR d lk ns) ks [] lk:=YkS h.kd h.nk h.ki
theorem RfK.kyA (h:RfK d lk ks k D ns rs):KyD (allR d lk ns) (ks++rtR d lk rs):=h.toRfB.keys h.ki h.nk h.ky (fun i hi=>(h.pk.ok i hi).1) h.pk.rr
theorem RfK.riA (h:RfK d lk ks k D ns rs):inL (allR d lk ns) (rtR d lk rs):=fun x hx=>by
 obtain⟨r,q,rfl⟩:=ZF.1 hx;have:=h.pk.rr r q;exact Yqs h.toRfB this.1 this.2
theorem RfK.kiA (h:RfK d lk ks k D ns rs):inL (allR d lk ns) ks:=fun x hx=>by
 have:=h.ki x hx;rw[YP];omega
theorem RfK.exB (h:RfK d lk ks k D ns rs)(kl:ks.length<=90000):ExB8 (allR d lk ns) (rtR d lk rs) ks :=
 ⟨h.wA,h.kdA,by have:=h.pk.rl;rw[Zu];omega,kl,h.riA,h.kiA,h.kyA⟩
theorem RfK.ex_of (h:RfK d lk ks k D ns rs)(v:vsL k ns (fuP k ns) rs (k+1)=(true,k+ns.length+1)){o:LI}(x:ExD (allR d lk ns) (rtR d lk rs) ks o):o=pkE k D ns rs:=by
 obtain⟨lk',la',D',n1,n2,d',eo⟩:=x.ex;obtain rfl:=n1.det h.nkA;obtain rfl:=d'.det (Yoj h.kd h.ki h.dg);have g:=h.gr;have kl:=h.kl;have rr:∀ r∈rs,0<=r/\r<=(lk'.length:Int)+ns.length:=fun r q=>by have:=h.pk.rr r q;omega
 rw[<-kl] at v;obtain⟨_,_,n3⟩:=g.vsL _ rs _ _ v (by omega) (by omega) rr;have gl:=g.len;rw[show ((lk'.length:Int)+1-1).toNat=lk'.length by omega,show ((lk'.length:Int)+ns.length+1-1).toNat=(laR d lk' ns).length by omega,ZJ,Zbz,h.ixs h.pk.rr] at n3;obtain rfl:=n2.det n3;have e:=g.pk (D:=D') h.kv rr;rw[Zbz,h.ixs h.pk.rr] at e;rw[eo,e,kl]
theorem RfK.vs_of (h:RfK d lk ks k D ns rs)(x:ExD (allR d lk ns) (rtR d lk rs) ks (pkE k D ns rs)):vsL k ns (fuP k ns) rs (k+1)=(true,k+ns.length+1):=by
 obtain⟨lk',la',D',n1,n2,d',eo⟩:=x.ex;obtain rfl:=n1.det h.nkA;obtain rfl:=d'.det (Yoj h.kd h.ki h.dg);have kl:=h.kl;have all:NumsD (allR d lk' ns) (ks++rtR d lk' rs) [] la':=n1.app n2;obtain⟨q1,nd,rg⟩:=all.few h.wA;have us:=all.used (fun j hj=>by cases hj);have od:=all.ord .nil;obtain⟨y,hy⟩:=n2.pre;have ll:lk'.length<=la'.length:=by rw[hy,Zh];omega
 rw[YP] at q1;have ml:=h.ml
 have mem:∀ x∈la',x∈laR d lk' ns:=fun x hx=>by
  rcases h.toRfB.cl h.ki h.nk h.pk.rr all x hx with q|q
  .exact ZZ _ q
  .have:=rg x hx;rw[YP] at this;exact Zaf _ (Ydh.2 ⟨by omega,by omega⟩)
 have few:=YfT _ _ nd mem;rw[h.gr.len] at few;have kyl:=h.kyA la' all;have nl:=h.pk.nl;have k0:=h.pk.k0;have ln:((la'.drop lk'.length).map (nodQ (allR d lk' ns) la')).length=la'.length-lk'.length:=by rw[Zu,Zy]
 have kp:∀ {p:Nat} {x:Int},(alcD (allR d lk' ns) x=true->x∈la'.take p)->plcN la' x<=p:=fun {p x} hx=>by
  cases u:alcD (allR d lk' ns) x with
  | false =>
   rw[YaI fun q=>by rw[us x q] at u;cases u];omega
  | true =>
   obtain⟨q,h1,_,h3⟩:=YgT nd (hx u);omega
 have pk2:PkOk (lk'.length:Nat) D' ((la'.drop lk'.length).map (nodQ (allR d lk' ns) la')) ((rtR d lk' rs).map (plcN la')):=by
  refine⟨by omega,by omega,by rw[Zu,Zu];exact h.pk.rl,h.pk.D0,fun i hi=>?_,fun r hr=>?_⟩
  .rw[ln] at hi;rw[Ybe (by rw[Zy];omega),YaK];have hg:=Yds (l:=la') (p:=lk'.length+i) (by omega);obtain⟨_,o1,o2⟩:=od _ _ hg;have a:=kp o1;have b:=kp o2;refine⟨YjB kyl (by omega) (ZD hg),?_,?_⟩
   .show plcN la' _<=_;omega
   .show plcN la' _<=_;omega
  .obtain⟨x,_,rfl⟩:=ZF.1 hr;have:=YD la' x;rw[ln];omega
 have e1:=Yhe h.pk;have e2:=Yhe pk2;have eo:pkE k D' ns rs=pkE (lk'.length:Nat) D' ((la'.drop lk'.length).map (nodQ (allR d lk' ns) la')) ((rtR d lk' rs).map (plcN la')):=eo;rw[eo,e2] at e1;injection e1 with _ e1
 injection e1 with f1 _ f3 f4
 have v:=YyR nd us (k:=lk'.length) (f:=fuP k ns) (by unfold fuP;omega) n2 ⟨[],by simp⟩ (Zw _);rw[f3,f4,kl] at v;rw[v];have:=ZT List.length f3;rw[ln] at this
 congr 1
 omega
end
end
section
def szM (d:LS)(i:Int):Prop:=(sltD d i).node.size=min (1+szI d (lfD d i)+szI d (rgD d i)) 2147483647
structure ClD (d:LS):Prop where
 kid:∀ i,alcD d i=true->(lfD d i=0∨alcD d (lfD d i)=true)/\(rgD d i=0∨alcD d (rgD d i)=true)
 sz:∀ i,alcD d i=true->szM d i
section
variable {d:LS}
theorem YdP {i:Int}(u:alcD d i=true):ndD d i=(sltD d i).node:=Zj u
theorem Yqt:ndD d 0=Td.zero:=Zf (by rw[YbZ];exact Bool.false_ne_true)
theorem Yrz {i:Int}(h:i=0∨alcD d i=true):szI d i=(ndD d i).size:=by
 unfold szI;rcases h with rfl|u
 .rw[Zj rfl,Yqt];rfl
 .have:=Yw u;rw[Zf (by omega),YdP u]
theorem RepK.node {l r:Tr}{k v i:Int}(c:ClD d)(hi:i=0∨alcD d i=true)(h:RepK d (.node l k v r) i):alcD d i=true/\(sltD d i).node.key=k/\(sltD d i).node.value=v/\RepK d l (lfD d i)/\RepK d r (rgD d i)/\(lfD d i=0∨alcD d (lfD d i)=true)/\(rgD d i=0∨alcD d (rgD d i)=true):=by
 obtain⟨h1,h2,h3,h4,h5⟩:=h;have u:=hi.resolve_left h1;rw[YdP u] at h2 h3 h4 h5;exact⟨u,h2,h3,h4,h5,c.kid i u⟩
theorem YiE (c:ClD d):∀ {t:Tr} {i:Int},(i=0∨alcD d i=true)->RepK d t i->t.size<=2147483647->RepD d t i
 | .nil,_,_,h,_=>h
 | .node l k v r,i,hi,h,hz=>by
  obtain⟨u,e1,e2,hl,hr,cl,cr⟩:=h.node c hi;have z:(Tr.node l k v r).size=1+l.size+r.size:=rfl;have dl:=YiE c cl hl (by omega);have dr:=YiE c cr hr (by omega);have s:=c.sz i u;unfold szM at s;rw[Yrz cl,Yrz cr,dl.sz,dr.sz] at s;refine⟨u,?_⟩;rw[YdP u];exact⟨e1,e2,by rw[s];omega,dl,dr⟩
theorem Yfn (c:ClD d):∀ {t:Tr} {i:Int},(i=0∨alcD d i=true)->RepK d t i->∀ x∈t.list,x.1∈d.map fun s=>s.node.key
 | .nil,_,_,_,x,hx=>by cases hx
 | .node l k v r,i,hi,h,x,hx=>by
  obtain⟨u,e1,e2,hl,hr,cl,cr⟩:=h.node c hi;have hx:x∈l.list++(k,v)::r.list:=hx;rcases Zx.1 hx with q|q
  .exact Yfn c cl hl x q
  .rcases ZH.1 q with q|q
   .have rg:=Yw u;refine ZF.2 ⟨sltD d i,?_,by rw[q];exact e1⟩;unfold sltD;rw[Zb,Zk (by omega)];exact Zaa _
   .exact Yfn c cr hr x q
theorem Yhh (c:ClD d){t:Tr}{i:Int}(hi:i=0∨alcD d i=true)(h:RepK d t i)(a:Asc t.list):t.size<=d.length:=by
 have:=Yhc a (Yfn c hi h)
 rwa [Zu,Tr.list_len] at this
theorem Ytq (c:ClD d)(hl:d.length<=1000000){i e:Int}{t:Tr}(hi:i=0∨alcD d i=true)(r:RepK d t i)(h:CkG d i e):e=0↔Asc t.list/\t.Bal:=by
 refine h.trans ⟨fun ⟨t',rd,a,b⟩=>?_,fun ⟨a,b⟩=>⟨t,YiE c hi r (by have:=Yhh c hi r a;omega),a,b⟩⟩;rw[Ycd r (YfS rd)];exact⟨a,b⟩
end
section
variable {d:LS} {lk ks rs:LI} {k D:Int} {ns:LP} {kt:List Tr} {kx:List ExtT}
theorem RfB.clA (h:RfB d lk k ns)(c:ClD d):ClD (allR d lk ns):=by
 have kl:=h.kl
 have old:∀ x:Int,x<=d.length->szI (allR d lk ns) x=szI d x∨x<0:=fun x hx=>by
  unfold szI
  by_cases z:x=0
  .rw[Zj z,Zj z];exact .inl rfl
  .rw[Zf z,Zf z]
   by_cases n:x<0
   .exact .inr n
   .rw[YdN (by omega) hx];exact .inl rfl
 have ref:∀ r:Int,0<=r->r<=k+ns.length->ixV lk d.length r=0∨alcD (allR d lk ns) (ixV lk d.length r)=true:=fun r r0 r1=>by
  rcases Ydu h r0 with ⟨_,q⟩|⟨_,_,_,q2,q⟩|⟨q1,q2⟩
  .exact .inl q
  .rw[Yaa q2];exact .inr (h.us _ q)
  .have:=Yhg (d:=d) (lk:=lk) (ns:=ns) (i:=ns.length) (j:=(r-k-1).toNat) (by omega);rw[show (d.length:Int)+1+((r-k-1).toNat:Nat)=ixV lk d.length r by omega] at this;exact .inr this
 refine⟨fun i u=>?_,fun i u=>?_⟩
 .rcases Zbs (d.length:Int) i with q|q
  .obtain⟨j,hj,rfl⟩:=YdO q u;obtain⟨_,_,_,e1,e2,_⟩:=h.node hj;have o:=h.od j hj;rw[show lfD _ _=_ from e1,show rgD _ _=_ from e2];exact⟨ref _ o.1.1 (by omega),ref _ o.2.1 (by omega)⟩
  .rw[Yaa q] at u;have e:=Yfm (lk:=lk) (ns:=ns) h.kd q u;have b:=h.kd i u;rw[e.1,e.2,Yaa b.1.2,Yaa b.2.2];exact c.kid i u
 .rcases Zbs (d.length:Int) i with q|q
  .obtain⟨j,hj,rfl⟩:=YdO q u;obtain⟨_,_,_,_,_,e⟩:=h.node hj;exact e
  .rw[Yaa q] at u;have e:=Yfm (lk:=lk) (ns:=ns) h.kd q u;have b:=h.kd i u;have s:=c.sz i u;unfold szM at s ⊢;rw[e.1,e.2,YdN (Yw u).1 q,(old _ b.1.2).resolve_right (by omega),(old _ b.2.2).resolve_right (by omega)];exact s
theorem RfB.ref (h:RfB d lk k ns){r:Int}(r0:0<=r)(r1:r<=k+ns.length):ixV lk d.length r=0∨alcD (allR d lk ns) (ixV lk d.length r)=true:=by
 have kl:=h.kl;rcases Ydu h r0 with ⟨_,q⟩|⟨_,_,_,q2,q⟩|⟨q1,q2⟩
 .exact .inl q
 .rw[Yaa q2];exact .inr (h.us _ q)
 .have:=Yhg (d:=d) (lk:=lk) (ns:=ns) (i:=ns.length) (j:=(r-k-1).toNat) (by omega);rw[show (d.length:Int)+1+((r-k-1).toNat:Nat)=ixV lk d.length r by omega] at this;exact .inr this
theorem Yhi (kd:KdD d):∀ {t:Tr} {i:Int},RepD d t i->RepK (allR d lk ns) t i
 | .nil,_,h=>h
 | .node l kk v r,i,h=>by
  have hne:=h.ne;obtain⟨u,e1,e2,_,hl,hr⟩:=h;have rg:=Yw u;have n:ndD (allR d lk ns) i=ndD d i:=by rw[YdP (by rw[Yaa rg.2];exact u),YdP u,YdN rg.1 rg.2]
  refine⟨hne,?_⟩;rw[n];exact⟨e1,e2,Yhi kd hl,Yhi kd hr⟩
structure KnD (d:LS) (lk:LI) (kt:List Tr) (kx:List ExtT):Prop where
 tl:kt.length=lk.length
 xl:kx.length=lk.length
 at_:∀ p,p<lk.length->RepD d (getT kt p) (getB lk p)/\Asc (getT kt p).list/\(getT kt p).Bal/\(getT kt p).list≠[]/\getX kx p=exO (getT kt p)
theorem Ycl {ts:List Tr}{r:Int}(h:r≠0):refT ts r=getT ts (r-1).toNat:=Zf h
theorem RfB.repK (h:RfB d lk k ns)(n:KnD d lk kt kx):∀ j,j<=ns.length->∀ r:Int,0<=r->r<=k+j->RepK (allR d lk ns) (refT (YK kt ns j) r) (ixV lk d.length r)
 | 0,_,r,r0,r1=>by
  have kl:=h.kl
  by_cases z:r=0
  .subst z;exact rfl
  .rw[Ycl z];have q:=(n.at_ (r-1).toNat (by omega)).1;unfold ixV;rw[Zf z,Zj (by omega)];exact Yhi h.kd q
 | j+1,hj,r,r0,r1=>by
  have kl:=h.kl;have ih:=RfB.repK h n j (by omega);have bl:=YaJ kt ns j (by omega);rw[n.tl] at bl;rw[YaP kt (by omega)]
  by_cases z:r=0
  .subst z;exact rfl
  .rw[Ycl z];rcases Zbs (k+j) r with c|c
   .have e:(r-1).toNat=(YK kt ns j).length:=by omega
    rw[e,YbY];obtain⟨u,e1,e2,e3,e4,_⟩:=h.node (j:=j) (by omega);have o:=h.od j (by omega)
    have ei:ixV lk d.length r=d.length+1+j:=by
     unfold ixV;rw[Zf z,Zf (by omega)];omega
    rw[ei];refine⟨by omega,?_⟩;rw[YdP u];refine⟨e1,e2,?_,?_⟩
    .rw[show (sltD (allR d lk ns) ((d.length:Int)+1+j)).node.left=_ from e3];exact ih _ o.1.1 o.1.2
    .rw[show (sltD (allR d lk ns) ((d.length:Int)+1+j)).node.right=_ from e4];exact ih _ o.2.1 o.2.2
   .have:=ih r r0 c;rw[Ycl z] at this;rw[Ybo (by omega)];exact this
def TZ (xs:List ExtT)(ts:List Tr):Prop:=∀ i,i<ts.length->(getT ts i).list≠[]/\(Asc (getT ts i).list->(getT ts i).Bal->getX xs i=exO (getT ts i))
theorem TZ.kd {xs:List ExtT}{ts:List Tr}(h:TZ xs ts){r:Int}(r0:0<=r)(r1:r<=ts.length)(a:Asc (refT ts r).list)(b:(refT ts r).Bal):KdX xs r (refT ts r):=by
 by_cases z:r=0
 .subst z;exact .inl ⟨rfl,rfl⟩
 .have q:=h (r-1).toNat (by omega);rw[Ycl z] at a b ⊢;exact .inr ⟨z,q.1,(Zf z).trans (q.2 a b)⟩
theorem RfB.tz (h:RfB d lk k ns)(n:KnD d lk kt kx):∀ j,j<=ns.length->TZ (bldL kx ns j) (YK kt ns j)
 | 0,_=>fun i hi=>by
  have q:=n.at_ i (by rw[<-n.tl];exact hi);exact⟨q.2.2.2.1,fun _ _=>q.2.2.2.2⟩
 | j+1,hj=>by
  have kl:=h.kl;have ih:=RfB.tz h n j (by omega);have tl:=YaJ kt ns j (by omega);have xl:=Ybd kx ns j (by omega);rw[n.tl] at tl;rw[n.xl] at xl;have o:=h.od j (by omega);rw[YaP kt (by omega),YcM kx (by omega)];intro i hi;rw[Zh,Zr] at hi;rcases Zad i (YK kt ns j).length with c|c
  .rw[Ybo c,YkE (by omega)];exact ih i c
  .have e:i=(YK kt ns j).length:=by omega
   subst e;rw[YbY,show (YK kt ns j).length=(bldL kx ns j).length by omega,Yhb];refine⟨fun q=>?_,fun a b=>?_⟩
   .have q:_++_::_=[]:=q;simp at q
   .obtain⟨a1,a2,_,_⟩:=YO a;exact YkJ (ih.kd o.1.1 (by omega) a1 b.2.1) (ih.kd o.2.1 (by omega) a2 b.2.2) a b
theorem RfB.tree_ok (h:RfB d lk k ns)(n:KnD d lk kt kx){pool:LI}(px:PX pool (bldL kx ns ns.length) (YK kt ns ns.length))(hr:∀ r∈rs,0<=r/\r<=k+ns.length) :
  rtX k (bldL kx ns ns.length) rs=true↔∀ r∈rs,Asc (refT (YK kt ns ns.length) r).list/\(refT (YK kt ns ns.length) r).Bal:=by
 have kl:=h.kl;have tl:=YaJ kt ns ns.length (Zw _);rw[n.tl] at tl;have tz:=h.tz n ns.length (Zw _);have xl:=px.len;unfold rtX;rw[Zao];refine⟨fun q r m=>?_,fun q r m=>?_⟩
 .have rr:=hr r m;have q:=q r m
  by_cases z:r=0
  .subst z;exact⟨List.Pairwise.nil,trivial⟩
  .rw[Ycl z]
   by_cases c:k<r
   .rw[Zat c] at q;obtain⟨a,b,_⟩:=(px.at_ (r-1).toNat (by omega)).ok (by simpa using q);exact⟨a,b⟩
   .have k:=n.at_ (r-1).toNat (by omega)
    have e:∀ j,j<=ns.length->getT (YK kt ns j) (r-1).toNat=getT kt (r-1).toNat:=fun j=>by
     induction j with
     | zero=>intro _;rfl
     | succ j ih =>
      intro hj;have:=YaJ kt ns j (by omega);rw[n.tl] at this;rw[YaP kt (by omega),Ybo (by omega)];exact ih (by omega)
    rw[e _ (Zw _)];exact⟨k.2.1,k.2.2.1⟩
 .have rr:=hr r m;have q:=q r m
  by_cases c:k<r
  .have z:r≠0:=by omega
   rw[Ycl z] at q;rw[(tz (r-1).toNat (by omega)).2 q.1 q.2];show (_ || true)=true;rw[Bool.or_true]
  .rw[decide_eq_false c];rfl
end
end
def aUrR (P:Nat->Int->Prop)(b:LI):Ann C0:={ quiet:=[9999999],Γ:=[],inv:=fun n=>match n with
 | 5=>some { X:=XUd P,sl:=[7,8,9],tf:=fun x=>[vi .u64 x.u,vi .u64 (128 ^ x.i),vi .i64 x.i],hf:=fun _=>[.row false .u8 b],μ:=fun x=>10-x.i }
 | _=>none }
def aKrR (P:Nat->Int->Prop)(b:LI):Ann C0:={ quiet:=[9999999],Γ:=[],inv:=fun n=>match n with
 | 7=>some { X:=XKd P,sl:=[7,8],tf:=fun x=>[vi .u64 x.u,vi .i64 x.i],hf:=fun _=>[.row false .u8 b],μ:=fun x=>8-x.i }
 | _=>none }
structure XNr8 (P:Nat->Int->Int->Int->Int->Prop) where
 i:Nat
 c:Int
 u:Int
 n:Int
 to:Int
 h:P i c u n to
def aNr (P0:Int->Int->Prop)(P:Nat->Int->Int->Int->Int->Prop)(b:LI):Ann C0:={ quiet:=[9999999,99],Γ:=[(99,Yc [] tUd),(83,Yc [] tCk),(70,Yc [] tJnR)],inv:=fun n=>match n with
 | 1004=>some { X:=XNx P0,sl:=[7,8],tf:=fun x=>[vi .u64 x.u,vi .i64 x.n],hf:=fun _=>[.row false .u8 b] }
 | 11=>some { X:=XNr8 P,sl:=[8,10,11,12],tf:=fun x=>[vi .i64 x.n,vi .i64 x.to,vi .u32 x.c,vi .i64 x.i],hf:=fun _=>[.row false .u8 b],μ:=fun x=>4-x.i }
 | _=>none }
theorem Yhj (b:LI)(k i:Nat):getB (b.drop k) i=getB b (k+i):=by
 show (b.drop k).getD i 0=b.getD (k+i) 0;rw[Zb,Zb,ZaV]
theorem PUd.go2 {r:LI}{i:Nat}{u:Int}(h:PUd' r i u)(hr:allB r):∃ v,Zd.wrap (u+Zd.wrap (128 ^ i*Zd.wrap ((getB r i).tmod 128)))=v ∧
  (getB r i<128->vD 12 13 0 r 0=(v,(i:Int)+1,0))/\(¬ getB r i<128->PUd r (i+1) v):=by
 obtain⟨⟨i9,u0,u1,e⟩,hi,hc⟩:=h;obtain⟨c0,c1⟩:=hr _ (Yj hi);have pp:(1:Int)<=128 ^ i:=ZbQ (by decide)
 have q9:(128:Int) ^ i*2<=18446744073709551616/\(i<=8->(128:Int) ^ i*256<=18446744073709551616):=by
  have:i=0∨i=1∨i=2∨i=3∨i=4∨i=5∨i=6∨i=7∨i=8∨i=9:=by omega
  rcases this with e|e|e|e|e|e|e|e|e|e<;>subst e<;>decide +kernel
 have hw:getB r i % 128*128 ^ i+u<18446744073709551616:=by
  by_cases i8:i<=8
  .have:=Zas (a:=getB r i % 128) (b:=127) (c:=128 ^ i) (by omega) (by omega);have:=q9.2 i8;omega
  .obtain rfl:i=9:=by omega
   have c2:¬ 1<getB r 9:=fun q=>hc (.inl ⟨rfl,q⟩)
   have:=Zas (a:=getB r 9 % 128) (b:=1) (c:=128 ^ 9) (by omega) (by omega);have:=q9.1;omega
 have w0:0<=getB r i % 128*128 ^ i:=ZaY (by omega) (by omega)
 have ev:vD 12 13 0 r 0=if getB r i<128 then (u+getB r i % 128*128 ^ i,(i:Int)+1,0) else vD 12 13 (i+1) (r.drop (i+1)) (u+getB r i % 128*128 ^ i):=by
  rw[<-e,Ydj hi]
  conv=>lhs;unfold vD
  rw[Zf hc]
 have w1:(getB r i).tmod 128=getB r i % 128:=Zav c0;rw[w1,Yf (x:=getB r i % 128) (by omega) (by omega),Zcu (128 ^ i),Yf w0 (by omega),Yf (x:=u+getB r i % 128*128 ^ i) (by omega) (by omega)];refine⟨_,rfl,fun z=>by rw[ev,Zj z],fun z=>⟨?_,by omega,?_,by rw[ev,Zf z]⟩⟩
 .apply ZY;intro n;obtain rfl:i=9:=by omega
  exact hc (.inl ⟨rfl,by omega⟩)
 .rw[ZaC];have:=Zas (a:=getB r i % 128) (b:=127) (c:=128 ^ i) (by omega) (by omega);omega
def PUr (r:LI):Nat->Int->Prop:=fun i u=>PUd r i u/\i<=r.length
abbrev O89 (P:Nat → Int → Prop)(b:LI)(at_:Int)(K:SV → LH C0 → LN → Prop)(x:XUd P):Prop:=brS (decide (getB b (Za.wrap (at_+(x.i:Int))).toNat<128)) (brS (decide ((x.i:Int)>0)) (brS (getB b (Za.wrap (at_+(x.i:Int))).toNat==0) (K (.tup [(.at (.val (VW 0))),(.at (.val (VI 0))),(.at (.val (VI 13)))]) [(.row false .u8 (b))] []) (K (.tup [(.at (.val (VW (Zd.wrap (x.u+Zd.wrap (128 ^ x.i*Zd.wrap ((getB b (Za.wrap (at_+(x.i:Int))).toNat).tmod 128))))))),(.at (.val (VI (Za.wrap (Za.wrap (at_+(x.i:Int))+1))))),(.at (.val (VI 0)))]) [(.row false .u8 (b))] [])) (K (.tup [(.at (.val (VW (Zd.wrap (x.u+Zd.wrap (128 ^ x.i*Zd.wrap ((getB b (Za.wrap (at_+(x.i:Int))).toNat).tmod 128))))))),(.at (.val (VI (Za.wrap (Za.wrap (at_+(x.i:Int))+1))))),(.at (.val (VI 0)))]) [(.row false .u8 (b))] [])) (∃ w0_:XUd P,True/\((True/\VI (at_)=VI (at_)/\(VW (Zd.wrap (x.u+Zd.wrap (128 ^ x.i*Zd.wrap ((getB b (Za.wrap (at_+(x.i:Int))).toNat).tmod 128)))))=(VW (w0_.u))/\(VW (Zd.wrap (128 ^ x.i*128)))=(VW (128 ^ w0_.i))/\(VI (Za.wrap ((x.i:Int)+1)))=(VI (w0_.i:Int))/\True)/\b=b/\True)/\10-w0_.i<10-x.i)
theorem YyS (b:LI)(at_:Int)(K:KT)(hb:allB b)(hl:b.length<=1000000000000)(h:∀ u n e,uvD b at_=(u,n,e)->K (.tup [.at (vU64 u),.at (vI n),.at (vI e)]) [.row false .u8 b] []) :
  vc C0 (aUrR (PUr (b.drop at_.toNat)) b) Tryz.f99 [.at (.slc 0),.at (.val (.int .i64 at_))] [.row false .u8 b] (Yh 1 K):=by
 generalize hP:PUr (b.drop at_.toNat)=P;refine Eq.mp (show (brS (decide (at_<0)) (K (.tup [(.at (.val (VW 0))),(.at (.val (VI 0))),(.at (.val (VI 1)))]) [(.row false .u8 (b))] []) (brS (decide (at_>(b.length:Int))) (K (.tup [(.at (.val (VW 0))),(.at (.val (VI 0))),(.at (.val (VI 1)))]) [(.row false .u8 (b))] []) ((∃ x:XUd P,True/\(True/\VI (at_)=VI (at_)/\VW 0=(VW (x.u))/\VW 1=(VW (128 ^ x.i))/\VI 0=(VI (x.i:Int))/\True)/\b=b/\True)/\∀ x:XUd P,True->brS (decide ((x.i:Int)<10)) (brS (Za.wrap (at_+(x.i:Int))==(b.length:Int)) (K (.tup [(.at (.val (VW 0))),(.at (.val (VI 0))),(.at (.val (VI 12)))]) [(.row false .u8 (b))] []) (0<=Za.wrap (at_+(x.i:Int))/\Za.wrap (at_+(x.i:Int))<(b.length:Int)/\brS ((x.i:Int)==9) (brS (decide (getB b (Za.wrap (at_+(x.i:Int))).toNat>1)) (K (.tup [(.at (.val (VW 0))),(.at (.val (VI 0))),(.at (.val (VI 13)))]) [(.row false .u8 (b))] []) (O89 P b at_ K x)) (O89 P b at_ K x))) (K (.tup [(.at (.val (VW 0))),(.at (.val (VI 0))),(.at (.val (VI 13)))]) [(.row false .u8 (b))] []))))=_ by kernel_rfl) ?_;delta O89;subst hP;refine Ya (fun z=>?_) fun z=>Ya (fun y=>?_) fun y=>?_
 .have z:=Zc z;exact h _ _ _ (by unfold uvD;rw[Zj (.inl z)])
 .have y:=Zc y;exact h _ _ _ (by unfold uvD;rw[Zj (.inr y)])
 have z:0<=at_:=by have:=Zg z;omega
 have y:at_<=b.length:=by have:=Zg y;omega
 have hr:=YE hb at_.toNat;have rl:(b.drop at_.toNat).length=b.length-at_.toNat:=Zy;have gt:∀ i:Nat,getB b (at_.toNat+i)=getB (b.drop at_.toNat) i:=fun i=>(Yhj _ _ _).symm
 generalize er:b.drop at_.toNat=r at *;refine⟨⟨⟨0,0,⟨by omega,by decide,by decide,rfl⟩,ZC _⟩,trivial,⟨trivial,rfl,rfl,rfl,rfl,trivial⟩,rfl,trivial⟩,fun x _=>Ya (fun q=>?_) fun q=>?_⟩
 .obtain⟨i,u,hi,hil⟩:=x;dsimp only at q ⊢;have q:i<10:=by have:=Zc q;omega
  have i9:=hi.1;rw[Yb (x:=(i:Int)+1) (by omega) (by omega),Yb (x:=at_+(i:Int)) (by omega) (by omega),Yb (x:=at_+(i:Int)+1) (by omega) (by omega),show (at_+(i:Int)).toNat=at_.toNat+i by omega,gt];refine Ya (fun t=>?_) fun t=>?_
  .have t:r.length=i:=by have:=eq_of_beq t;omega
   have e:=hi.2.2.2;rw[Zbr (by omega)] at e;exact h _ _ _ ((YaY z y (show vD 12 13 0 (b.drop at_.toNat) 0=(0,0,12) by rw[er,<-e];rfl)).trans rfl)
  have t:at_+(i:Int)≠b.length:=fun e=>by rw[e] at t;simp at t
  have il:i<r.length:=by omega
  have bad:∀ (hc:(i=9/\1<getB r i)∨(0<i/\getB r i=0)),K (.tup [.at (vU64 0),.at (vI 0),.at (vI 13)]) [.row false .u8 b] []:=fun hc =>
   h _ _ _ ((YaY z y (show vD 12 13 0 (b.drop at_.toNat) 0=(0,0,13) by rw[er];exact hi.bad il hc)).trans rfl)
  have u128:i<=8->Zd.wrap (128 ^ i*128)=128 ^ (i+1):=fun h8=>by
   have:i=0∨i=1∨i=2∨i=3∨i=4∨i=5∨i=6∨i=7∨i=8:=by omega
   rcases this with e|e|e|e|e|e|e|e|e<;>subst e<;>decide +kernel
  have main:∀ (hc:¬ ((i=9/\1<getB r i)∨(0<i/\getB r i=0))),∃ v,Zd.wrap (u+Zd.wrap (128 ^ i*Zd.wrap ((getB r i).tmod 128)))=v/\(getB r i<128->K (.tup [.at (vU64 v),.at (vI (at_+(i:Int)+1)),.at (vI 0)]) [.row false .u8 b] [])/\(¬ getB r i<128->PUr r (i+1) v):=fun hc=>by
   obtain⟨v,ev,g1,g2⟩:=PUd.go2 (r:=r) ⟨hi,il,hc⟩ hr;refine⟨v,ev,fun c=>?_,fun c=>⟨g2 c,il⟩⟩;exact h _ _ _ (((YaY z y (show vD 12 13 0 (b.drop at_.toNat) 0=(v,(i:Int)+1,0) by rw[er];exact g1 c)).trans (Zj rfl)).trans (by congr 2;omega))
  refine⟨by omega,by omega,Ya (fun a=>Ya (fun a2=>bad (.inl ⟨by have:=eq_of_beq a;omega,Zc a2⟩)) fun a2=>?_) fun a=>?_⟩
  all_goals
   have n9:¬ (i=9/\1<getB r i):=by
    rintro ⟨k1,k2⟩
    first
    | exact Zg a2 k2
    | (rw[k1] at a;exact absurd a (by decide))
   refine Ya (fun d=>?_) fun d=>?_
   .have d:=Zc d;refine Ya (fun e=>Ya (fun f=>bad (.inr ⟨by have:=Zc e;omega,eq_of_beq f⟩)) fun f=>?_) fun e=>?_
    .obtain⟨v,ev,g,_⟩:=main (by
      rintro (k|⟨_,k⟩)
      .exact n9 k
      .rw[k] at f;exact absurd f (by decide))
     rw[ev];exact g d
    .obtain⟨v,ev,g,_⟩:=main (by
      rintro (k|⟨k,_⟩)
      .exact n9 k
      .exact Zg e (by omega))
     rw[ev];exact g d
   .have d:=Zg d
    obtain⟨v,ev,_,g⟩:=main (by
     rintro (k|⟨_,k⟩)
     .exact n9 k
     .omega)
    rw[ev];have h9:=(g d).1.1;rw[u128 (by omega)];refine⟨⟨i+1,v,g d⟩,trivial,⟨⟨trivial,rfl,rfl,rfl,rfl,trivial⟩,rfl,trivial⟩,by show 10-(i+1)<10-i;omega⟩
 .obtain⟨i,u,hi,_⟩:=x;dsimp only at q;have:=hi.1;have:=Zg q;omega
theorem s_ur:Tb C0 99 tUd:=by
 refine .of Tryz.func99 (by decide) rfl fun args H K h hB=>?_
 unfold tUd at h;split at h<;>try exact h.elim
 rename_i at_ b;exact⟨aUrR (PUr (b.drop at_.toNat)) b,trivial,YyS b at_ K h.1 h.2.1 h.2.2⟩
theorem PKd.go2 {r:LI}{i:Nat}{u:Int}(h:PKd r i u)(hi:i<r.length)(i8:i<8)(hr:allB r):PKd r (i+1) (Zd.wrap (Zd.wrap (256*u)+Zd.wrap (getB r i))):=by
 obtain⟨h1,h2,h3,h4⟩:=h;obtain⟨c0,c1⟩:=hr _ (Yj hi)
 have q:(256:Int) ^ i<=72057594037927936:=by
  have:i=0∨i=1∨i=2∨i=3∨i=4∨i=5∨i=6∨i=7:=by omega
  rcases this with e|e|e|e|e|e|e|e<;>subst e<;>decide +kernel
 rw[Yf (x:=256*u) (by omega) (by omega),Yf (x:=getB r i) c0 (by omega),Yf (x:=256*u+getB r i) (by omega) (by omega)];refine⟨i8,?_,by omega,by rw[ZaC];omega⟩;rw[Yo hi,YcH,<-h2]
theorem YyT (b:LI)(at_:Int)(K:KT)(hb:allB b)(hl:b.length<=1000000000000)(h:∀ u n e,kyD b at_=(u,n,e)->K (.tup [.at (vI u),.at (vI n),.at (vI e)]) [.row false .u8 b] []) :
  vc C0 (aKrR (PKd ((b.drop at_.toNat).take 8)) b) Tryz.f50 [.at (.slc 0),.at (.val (.int .i64 at_))] [.row false .u8 b] (Yh 1 K):=by
 generalize hP:PKd ((b.drop at_.toNat).take 8)=P;refine Eq.mp (show (brS (decide (at_<0)) (K (.tup [(.at (.val (VI 0))),(.at (.val (VI 0))),(.at (.val (VI 1)))]) [(.row false .u8 (b))] []) (brS (decide (at_>(b.length:Int))) (K (.tup [(.at (.val (VI 0))),(.at (.val (VI 0))),(.at (.val (VI 1)))]) [(.row false .u8 (b))] []) (brS (decide (Za.wrap ((b.length:Int)-at_)<8)) (K (.tup [(.at (.val (VI 0))),(.at (.val (VI 0))),(.at (.val (VI 12)))]) [(.row false .u8 (b))] []) ((∃ x:XKd P,True/\(True/\VI (at_)=VI (at_)/\VW 0=(VW (x.u))/\VI 0=(VI (x.i:Int))/\True)/\b=b/\True)/\∀ x:XKd P,True->brS (decide ((x.i:Int)<8)) (0<=Za.wrap (at_+(x.i:Int))/\Za.wrap (at_+(x.i:Int))<(b.length:Int)/\∃ x':XKd P,True/\((True/\VI (at_)=VI (at_)/\(VW (Zd.wrap (Zd.wrap (256*x.u)+Zd.wrap (getB b (Za.wrap (at_+(x.i:Int))).toNat))))=(VW (x'.u))/\(VI (Za.wrap ((x.i:Int)+1)))=(VI (x'.i:Int))/\True)/\b=b/\True)/\8-x'.i<8-x.i) (K (.tup [(.at (.val (VI (Za.wrap (Zd.wrap (x.u-9223372036854775808)))))),(.at (.val (VI (Za.wrap (at_+8))))),(.at (.val (VI 0)))]) [(.row false .u8 (b))] [])))))=_ by kernel_rfl) ?_;subst hP;refine Ya (fun z=>?_) fun z=>Ya (fun y=>?_) fun y=>?_
 .have z:=Zc z;exact h _ _ _ (by unfold kyD;rw[Zj (.inl z)])
 .have y:=Zc y;exact h _ _ _ (by unfold kyD;rw[Zj (.inr y)])
 have z:0<=at_:=by have:=Zg z;omega
 have y:at_<=b.length:=by have:=Zg y;omega
 rw[Yb (x:=(b.length:Int)-at_) (by omega) (by omega),Yb (x:=at_+8) (by omega) (by omega)];refine Ya (fun x=>?_) fun x=>?_
 .have x:=Zc x;exact h _ _ _ (by unfold kyD;rw[Zf (by omega),Zj x])
 have x:at_+8<=b.length:=by have:=Zg x;omega
 have hk:kyD b at_=(wD ((b.drop at_.toNat).take 8)-9223372036854775808,at_+8,0):=by unfold kyD;rw[Zf (by omega),Zf (by omega)]
 have hr:=Yaw (YE hb at_.toNat) 8;have rl:((b.drop at_.toNat).take 8).length=8:=by rw[ZG,Zy];omega
 have gt:∀ i:Nat,i<8->getB b (at_.toNat+i)=getB ((b.drop at_.toNat).take 8) i:=fun i hi=>by
  rw[<-Yhj];show (b.drop at_.toNat).getD i 0=((b.drop at_.toNat).take 8).getD i 0;rw[Zb,Zb,List.getElem?_take_of_lt hi]
 generalize (b.drop at_.toNat).take 8=r at *;refine⟨⟨⟨0,0,by omega,rfl,by decide,by decide⟩,trivial,⟨trivial,rfl,rfl,rfl,trivial⟩,rfl,trivial⟩,fun x _=>Ya (fun q=>?_) fun q=>?_⟩
 .obtain⟨i,u,hi⟩:=x;dsimp only at q ⊢;have q:i<8:=by have:=Zc q;omega
  rw[Yb (x:=(i:Int)+1) (by omega) (by omega),Yb (x:=at_+(i:Int)) (by omega) (by omega),show (at_+(i:Int)).toNat=at_.toNat+i by omega,gt i q];exact⟨by omega,by omega,⟨i+1,_,hi.go2 (by omega) q hr⟩,trivial,⟨⟨trivial,rfl,rfl,rfl,trivial⟩,rfl,trivial⟩,by show 8-(i+1)<8-i;omega⟩
 .obtain⟨i,u,h1,h2,h3,h4⟩:=x;dsimp only at q ⊢;have q:i=8:=by have:=Zg q;omega
  subst q;have p8:(256:Int) ^ 8=18446744073709551616:=by decide +kernel
  rw[p8] at h4;rw[Zay (by omega)] at h2
  have ew:Za.wrap (Zd.wrap (u-9223372036854775808))=u-9223372036854775808:=by
   rw[Yal];rcases Zbs u 9223372036854775808 with c|c
   .rw[show (u-9223372036854775808) % 18446744073709551616=u+9223372036854775808 by omega,YcJ (by omega) (by omega)];omega
   .rw[show (u-9223372036854775808) % 18446744073709551616=u-9223372036854775808 by omega,Yb (by omega) (by omega)]
  rw[ew];exact h _ _ _ (by rw[hk,h2])
theorem s_kr:Tb C0 50 tKd:=by
 refine .of Tryz.func50 (by decide) rfl fun args H K h hB=>?_
 unfold tKd at h;split at h<;>try exact h.elim
 rename_i at_ b;exact⟨aKrR (PKd ((b.drop at_.toNat).take 8)) b,trivial,YyT b at_ K h.1 h.2.1 h.2.2⟩
theorem Ywu (u:Int)(K:KT)(h0:0<=u)(h1:u<18446744073709551616)(h:∀ n,n=uz u->K (.one (.at (vI n))) [] []) :
  vc C0 A0 Tryz.f51 [.at (.val (.int .u64 u))] [] (Yh 0 K):=by
 refine Eq.mp (show (brS (u.tmod 2==0) (K (.one (.at (.val (VI (Za.wrap (Zd.wrap (u.tdiv 2))))))) [] []) (K (.one (.at (.val (VI (Za.wrap (Za.wrap (0-Za.wrap (Zd.wrap (u.tdiv 2)))-1)))))) [] []))=_ by kernel_rfl) ?_;have w1:u.tmod 2=u % 2:=Zav h0;have w2:u.tdiv 2=u / 2:=Zaq h0;rw[w1,w2,Yf (x:=u / 2) (by omega) (by omega)];refine Ya (fun y=>h _ ?_) fun y=>h _ ?_
 .have y:u % 2=0:=eq_of_beq y;unfold uz;rw[Zj y,Yb (by omega) (by omega)]
 .have y:u % 2≠0:=fun e=>by rw[e] at y;exact absurd y (by decide)
  unfold uz;rw[Zf y,Yb (x:=u / 2) (by omega) (by omega),Yb (x:=0-u / 2) (by omega) (by omega),Yb (by omega) (by omega)];omega
theorem YyU:Tb C0 51 tUz:=by
 refine .of Tryz.func51 (by decide) rfl fun args H K h hB=>?_
 unfold tUz at h;split at h<;>try exact h.elim
 rename_i u;exact⟨A0,trivial,Ywu u K h.1 h.2.1 h.2.2⟩
structure PNrS (b:LI) (at_:Int) (i:Nat) (c n to k v:Int):Prop where
 a0:0<=at_
 a1:at_<=b.length
 vd:vD 12 13 0 (b.drop at_.toNat) 0=(v,k,0)
 vl:v<=1048576
 v0:0<=v
 k1:1<=k
 en:n=at_+k
 et:to=at_+k+v
 fit:at_+k+v+4<=b.length
 i4:i<=4
 ec:c=wD ((b.drop to.toNat).take i)
 c0:0<=c/\c<256 ^ i
def PNr (b:LI)(at_:Int):Nat->Int->Int->Int->Int->Prop:=fun i c _ n to=>∃ k v,PNrS b at_ i c n to k v
theorem YyV (b:LI)(at_:Int)(K:KT)(hb:allB b)(hl:b.length<=1000000000)(h:∀ p n e,nxD b at_=(p,n,e)->K (.tup [.at (.slc 1),.at (vI n),.at (vI e)]) [.row false .u8 b,.row true .u8 p] []) :
  vc C0 (aNr (PNx1 b at_) (PNr b at_) b) Tryz.f48 [.at (.slc 0),.at (.val (.int .i64 at_))] [.row false .u8 b] (Yh 1 K):=by
 generalize hP:PNx1 b at_=P0;generalize hP':PNr b at_=P
 refine Eq.mp (show (allB b/\b.length<=1000000000000/\∀ u:Int,∀ n:Int,∀ e:Int,uvD b at_=(Prod.mk (u) (Prod.mk (n) (e)))->brS (e != 0) (K (.tup [(.at (.slc 1)),(.at (.val (VI 0))),(.at (.val (VI (e))))]) [(.row false .u8 (b)),(.row true .u8 [])] []) (∃ x:XNx P0,True/\(True/\VI (at_)=VI (at_)/\VW (u)=VW (x.u)/\VI (n)=VI (x.n)/\True)/\b=b/\True)/\∀ x:XNx P0,True->brS (decide (x.u>1048576)) (K (.tup [(.at (.slc 1)),(.at (.val (VI 0))),(.at (.val (VI 13)))]) [(.row false .u8 (b)),(.row true .u8 [])] []) (brS (decide (Za.wrap ((b.length:Int)-x.n)<Za.wrap (Za.wrap x.u+4))) (K (.tup [(.at (.slc 1)),(.at (.val (VI 0))),(.at (.val (VI 12)))]) [(.row false .u8 (b)),(.row true .u8 [])] []) ((∃ x1:XNr8 P,True/\(True/\VI (at_)=VI (at_)/\VI (x.n)=VI (x1.n)/\(VI (Za.wrap (x.n+Za.wrap x.u)))=(VI (x1.to))/\VU 0=(VU (x1.c))/\VI 0=(VI (x1.i:Int))/\True)/\b=b/\True)/\∀ x1:XNr8 P,True->brS (decide ((x1.i:Int)<4)) (0<=Za.wrap (x1.to+(x1.i:Int))/\Za.wrap (x1.to+(x1.i:Int))<(b.length:Int)/\∃ x':XNr8 P,True/\((True/\VI (at_)=VI (at_)/\VI (x1.n)=VI (x'.n)/\VI (x1.to)=VI (x'.to)/\(VU (Ze.wrap (Ze.wrap (256*x1.c)+Ze.wrap (getB b (Za.wrap (x1.to+(x1.i:Int))).toNat))))=(VU (x'.c))/\(VI (Za.wrap ((x1.i:Int)+1)))=(VI (x'.i:Int))/\True)/\b=b/\True)/\4-x'.i<4-x1.i) (0<=at_/\at_<=x1.to/\x1.to<=(b.length:Int)/\allB (Zp at_.toNat (Zn x1.to.toNat b))/\(Zp at_.toNat (Zn x1.to.toNat b)).length<=1000000000000/\
 ∀ r:Int,r=(crc (Zp at_.toNat (Zn x1.to.toNat b)))->brS (x1.c != r) (K (.tup [(.at (.slc 1)),(.at (.val (VI 0))),(.at (.val (VI 14)))]) [(.row false .u8 (b)),(.row true .u8 [])] []) (0<=x1.n/\x1.n<=x1.to/\x1.to<=(b.length:Int)/\([]:LE).length<=1000000000/\(Zp x1.n.toNat (Zn x1.to.toNat b)).length<=1000000000/\∀ o:LI,o=(jnA [] (Zp x1.n.toNat (Zn x1.to.toNat b)))->K (.tup [(.at (.slc 1)),(.at (.val (VI (Za.wrap (x1.to+4))))),(.at (.val (VI 0)))]) [(.row false .u8 (b)),(.row true .u8 (o))] [])))))=_ by kernel_rfl) ?_
 subst hP hP';have hr:=YE hb at_.toNat;refine⟨hb,by omega,fun u n e ud=>⟨Ya (fun z=>?_) fun z=>?_,fun x _=>Ya (fun z=>?_) fun z=>Ya (fun y=>?_) fun y=>⟨?_,fun x1 _=>Ya (fun q=>?_) fun q=>?_⟩⟩⟩
 .have z:e≠0:=fun k=>by rw[k] at z;exact absurd z (by decide)
  refine h _ _ _ ?_
  by_cases c:at_<0∨(b.length:Int)<at_
  .unfold uvD at ud;rw[Zj c] at ud;injection ud with e1 e2
   injection e2 with e2 e3
   unfold nxD;rw[Zj c,e3]
   rfl
  .obtain⟨v,k,e',hv⟩:∃ v k e',vD 12 13 0 (b.drop at_.toNat) 0=(v,k,e'):=⟨_,_,_,rfl⟩
   have ue:=YaY (by omega) (by omega) hv;rw[ud] at ue
   by_cases q:e'=0
   .rw[Zj q] at ue;injection ue with e1 e2
    injection e2 with e2 e3
    exact absurd e3 z
   .rw[Zf q] at ue;injection ue with e1 e2
    injection e2 with e2 e3
    have ef:=YbW hv;rw[Zj q] at ef;rw[Yba (by omega) (by omega) ef,Zf q,e3]
    rfl
 .have z:e=0:=by simpa using z
  subst z;refine⟨⟨u,n,?_⟩,trivial,?_⟩
  .by_cases c:at_<0∨(b.length:Int)<at_
   .unfold uvD at ud;rw[Zj c] at ud;injection ud with e1 e2
    injection e2 with e2 e3
    exact absurd e3 (by decide)
   .obtain⟨v,k,e',hv⟩:∃ v k e',vD 12 13 0 (b.drop at_.toNat) 0=(v,k,e'):=⟨_,_,_,rfl⟩
    have ue:=YaY (by omega) (by omega) hv;rw[ud] at ue
    by_cases q:e'=0
    .rw[Zj q] at ue;injection ue with e1 e2
     injection e2 with e2 e3
     rw[q] at hv;exact⟨by omega,by omega,k,by rw[e1];exact hv,e2⟩
    .rw[Zf q] at ue;injection ue with e1 e2
     injection e2 with e2 e3
     exact absurd e3.symm q
  ·repeat' constructor
 .obtain⟨v,m,a0,a1,k,hv,en⟩:=x;dsimp only at z ⊢;have z:1048576<v:=Zc z;have ef:=YbW hv;rw[Zf (by decide),Zj z] at ef;exact h _ _ _ (by rw[Yba a0 a1 ef];rfl)
 .obtain⟨v,m,a0,a1,k,hv,en⟩:=x;dsimp only at z y ⊢;have z:v<=1048576:=by have:=Zg z;omega
  have vk:=Yik _ 0 0 v k hr (ZE 0) hv;have dl:(b.drop at_.toNat).length=b.length-at_.toNat:=Zy;rw[Yb (x:=(b.length:Int)-m) (by omega) (by omega),Yb (x:=v) (by omega) (by omega),Yb (x:=v+4) (by omega) (by omega)] at y;have y:=Zc y;have ef:=YbW hv;rw[Zf (by decide),Zf (by omega),Zj (by omega)] at ef;exact h _ _ _ (by rw[Yba a0 a1 ef];rfl)
 .obtain⟨v,m,a0,a1,k,hv,en⟩:=x;dsimp only at z y ⊢;have z:v<=1048576:=by have:=Zg z;omega
  have vk:=Yik _ 0 0 v k hr (ZE 0) hv;have dl:(b.drop at_.toNat).length=b.length-at_.toNat:=Zy;rw[Yb (x:=(b.length:Int)-m) (by omega) (by omega),Yb (x:=v) (by omega) (by omega),Yb (x:=v+4) (by omega) (by omega)] at y;have y:=Zg y;rw[Yb (x:=v) (by omega) (by omega),Yb (x:=m+v) (by omega) (by omega)];refine⟨⟨0,0,v,m,m+v,k,v,⟨a0,a1,hv,z,by omega,by omega,en,by omega,by omega,by omega,rfl,by decide,by decide⟩⟩,trivial,⟨trivial,rfl,rfl,rfl,rfl,rfl,trivial⟩,rfl,trivial⟩
 .obtain⟨i,c,u',n',to,k,v,F⟩:=x1;dsimp only at q ⊢;have q:i<4:=by have:=Zc q;omega
  have f1:=F.fit;have f2:=F.et;have f3:=F.a0;have f4:=F.k1;have f5:=F.v0;have il:i<(b.drop to.toNat).length:=by rw[Zy];omega
  have gm:=(YE hb to.toNat) _ (Yj il);have cc:=F.c0
  have p4:(256:Int) ^ i<=16777216:=by
   have:i=0∨i=1∨i=2∨i=3:=by omega
   rcases this with e|e|e|e<;>subst e<;>decide +kernel
  rw[Yb (x:=(i:Int)+1) (by omega) (by omega),Yb (x:=to+(i:Int)) (by omega) (by omega),show (to+(i:Int)).toNat=to.toNat+i by omega,<-Yhj,Yz (x:=256*c) (by omega) (by omega),Yz (x:=getB (b.drop to.toNat) i) gm.1 (by omega),Yz (x:=256*c+getB (b.drop to.toNat) i) (by omega) (by omega)];refine⟨by omega,by omega,⟨i+1,_,u',n',to,k,v,⟨F.a0,F.a1,F.vd,F.vl,F.v0,F.k1,F.en,F.et,F.fit,q,?_,?_⟩⟩,trivial,⟨⟨trivial,rfl,rfl,rfl,rfl,rfl,trivial⟩,rfl,trivial⟩,by show 4-(i+1)<4-i;omega⟩
  .rw[Yo il,YcH,<-F.ec]
  .rw[ZaC];omega
 .obtain⟨i,c,u',n',to,k,v,F⟩:=x1;dsimp only at q ⊢;have i4:=F.i4;have q:i=4:=by have:=Zg q;omega
  subst q;have f1:=F.fit;have f2:=F.et;have f3:=F.a0;have f4:=F.k1;have f5:=F.v0;have f6:=F.en;have f7:=F.vl;have ef:=YbW F.vd;have dl:(b.drop at_.toNat).length=b.length-at_.toNat:=Zy;rw[Zf (by decide),Zf (by omega),Zf (by omega)] at ef;have e1:Zp at_.toNat (Zn to.toNat b)=(b.drop at_.toNat).take (k+v).toNat:=by rw[List.drop_take];congr 1;omega
  have e2:Zp n'.toNat (Zn to.toNat b)=((b.drop at_.toNat).take (k+v).toNat).drop k.toNat:=by
   rw[<-e1,Zcb];congr 1;omega
  have e3:((b.drop at_.toNat).drop (k+v).toNat).take 4=(b.drop to.toNat).take 4:=by rw[Zcb];congr 2;omega
  rw[e3,<-F.ec] at ef;rw[e1,e2,Yb (x:=to+4) (by omega) (by omega)];refine⟨f3,by omega,by omega,Yaw hr _,by rw[ZG];omega,fun r er=>Ya (fun t=>?_) fun t=>⟨by omega,by omega,by omega,by decide,by rw[Zy,ZG];omega,fun o eo=>?_⟩⟩
  .have t:c≠crc ((b.drop at_.toNat).take (k+v).toNat):=fun e=>by rw[e,er] at t;simp at t
   rw[Zf t] at ef;exact h _ _ _ (by rw[Yba F.a0 F.a1 ef];rfl)
  .have t:c=crc ((b.drop at_.toNat).take (k+v).toNat):=by rw[<-er];simpa using t
   rw[Zj t] at ef;have eo:o=((b.drop at_.toNat).take (k+v).toNat).drop k.toNat:=eo;rw[eo];exact h _ _ _ (by rw[Yba F.a0 F.a1 ef,Zj rfl];congr 2;omega)
theorem s_nr:Tb C0 48 tNx:=by
 refine .of Tryz.func48 (by decide) rfl fun args H K h hB=>?_
 unfold tNx at h;split at h<;>try exact h.elim
 rename_i at_ b;exact⟨aNr (PNx1 b at_) (PNr b at_) b,⟨Ye C0.ok s_ur _,Ye C0.ok s_cr _,Ye C0.ok Yjy _,trivial⟩,YyV b at_ K h.1 h.2.1 h.2.2⟩
def rnD (b:LI):Nat->Int->Option (LI × Int)
 | 0,at_=>some ([],at_)
 | n+1,at_=>match uvD b at_ with
  | (u,n1,e)=>if e≠0 then none else (rnD b n n1).map fun q=>(u::q.1,q.2)
def ndsR (ns:LP):List Td:=ns.map fun x=>⟨x.key,x.value,0,0,0,0,0,0⟩
def lfsR (ns:LP):LI:=ns.map PNT.left
def rgsR (ns:LP):LI:=ns.map PNT.right
structure XNm (P:LI->Int->Nat->Prop) where
 o:LI
 at_:Int
 i:Nat
 h:P o at_ i
def aNmR (P:LI->Int->Nat->Prop)(b:LI)(n:Int):Ann C0:={ quiet:=[9999999,99],Γ:=[(99,Yc [] tUd)],inv:=fun m=>match m with
 | 3=>some { X:=XNm P,sl:=[1,9,10],tf:=fun x=>[vi .i64 x.at_,.one (.at (.slc 1)),vi .i64 x.i],hf:=fun x=>[.row false .u8 b,.row true .u64 x.o],μ:=fun x=>n.toNat-x.i }
 | _=>none }
def rnR (b:LI)(n:Nat)(at_:Int)(l:LI)(q:Int)(ok:Bool):Prop:=(ok=true/\rnD b n at_=some (l,q))∨(ok=false/\rnD b n at_=none/\l=[]/\q=0)
def tNmR:Tfm C0:=fun args H K=>match args,H with
 | [.at (.slc 0),.at (.val (.int .i64 at_)),.at (.val (.int .i64 n))],[.row false .u8 b]=>allB b/\b.length<=1000000000/\0<=n/\n<=1000000 ∧
   ∀ l q ok,rnR b n.toNat at_ l q ok->K (.tup [.at (.slc 1),.at (vI q),.at (vB ok)]) [.row false .u8 b,.row true .u64 l] []
 | _,_=>False
structure ZRd where
 p:LI
 at_:Int
 h:LI
 q:Int
 k:Int
 m:Int
 r:Int
 D:Int
 ns:LP
 i:Nat
 key:Int
 u:LI
structure XRdR (P:ZRd->Prop) where
 z:ZRd
 h:P z
abbrev hfQ (b:LI):LH C0:=[.row false .u8 b,.box [vU64 0,vU64 0,vU64 0,vU64 0,.slc 2,.slc 3,.slc 4,.slc 5],.row true .node [],.row true .u64 [],.row true .u64 [],.row true .u64 []]
abbrev hfX (z:ZRd):LH C0:=[.box [vU64 z.k,vU64 z.m,vU64 z.r,vU64 z.D,.slc 7,.slc 8,.slc 9,.slc 10],.row true .node (ndsR z.ns),.row true .u64 (lfsR z.ns),.row true .u64 (rgsR z.ns),.row true .u64 []]
def aRdR (P1 P2 P3 P4 P5 P6 P7 P8 P9 PA PB PC:ZRd->Prop)(b:LI):Ann C0:={ quiet:=[9999999,48,49,50,51],Γ:=[(48,Yc [] tNx),(49,Yc [] tNmR),(50,Yc [] tKd),(51,Yc [] tUz)],rounds:=fun n=>if n=3 then 5 else 0,inv:=fun j=>match j with
 | 1009=>some { X:=PLift (mgD magB b=0),sl:=[2],tf:=fun _=>[.one (.at (.ptr 1 0))],hf:=fun _=>hfQ b }
 | 1012=>some { X:=XRdR P1,sl:=[2,6,7],tf:=fun x=>[.one (.at (.ptr 1 0)),.one (.at (.slc 6)),vi .i64 x.z.at_],hf:=fun x=>hfQ b++[.row true .u8 x.z.p] }
 | 1015=>some { X:=XRdR P2,sl:=[2,6,7,9,10],tf:=fun x=>[.one (.at (.ptr 1 0)),.one (.at (.slc 6)),vi .i64 x.z.at_,.one (.at (.slc 7)),vi .i64 x.z.q],hf:=fun x=>hfQ b++[.row true .u8 x.z.p,.row true .u64 x.z.h] }
 | 17=>some { X:=XRdR P3,sl:=[2,12,6,7,10,13],tf:=fun x=>[.one (.at (.ptr 1 0)),.one (.at (.ptr 6 0)),.one (.at (.slc 11)),vi .i64 x.z.at_,vi .i64 x.z.q,vi .i64 x.z.i],hf:=fun x=>hfQ b++hfX x.z++[.row true .u8 x.z.p],μ:=fun x=>4-x.z.i }
 | 1020=>some { X:=XRdR P4,sl:=[2,12,7],tf:=fun x=>[.one (.at (.ptr 1 0)),.one (.at (.ptr 6 0)),vi .i64 x.z.at_],hf:=fun x=>hfQ b++hfX x.z }
 | 21=>some { X:=XRdR P5,sl:=[2,12,7,14],tf:=fun x=>[.one (.at (.ptr 1 0)),.one (.at (.ptr 6 0)),vi .i64 x.z.at_,vi .u64 x.z.i],hf:=fun x=>hfQ b++hfX x.z,μ:=fun x=>70000-x.z.i }
 | 1026=>some { X:=XRdR P6,sl:=[2,12,6,7,14],tf:=fun x=>[.one (.at (.ptr 1 0)),.one (.at (.ptr 6 0)),.one (.at (.slc 11)),vi .i64 x.z.at_,vi .u64 x.z.i],hf:=fun x=>hfQ b++hfX x.z++[.row true .u8 x.z.p],rel:=fun T _ x=>YaM T 14 x.z.i }
 | 1030=>some { X:=XRdR P7,sl:=[2,12,18,7,14,15],tf:=fun x=>[.one (.at (.ptr 1 0)),.one (.at (.ptr 6 0)),.one (.at (.slc 11)),vi .i64 x.z.at_,vi .u64 x.z.i,vi .i64 x.z.key],hf:=fun x=>hfQ b++hfX x.z++[.row true .u64 x.z.u],rel:=fun T _ x=>YaM T 14 x.z.i }
 | 1033=>some { X:=XRdR P8,sl:=[2,12,7],tf:=fun x=>[.one (.at (.ptr 1 0)),.one (.at (.ptr 6 0)),vi .i64 x.z.at_],hf:=fun x=>hfQ b++hfX x.z }
 | 1036=>some { X:=XRdR P9,sl:=[2,12,6,7],tf:=fun x=>[.one (.at (.ptr 1 0)),.one (.at (.ptr 6 0)),.one (.at (.slc 11)),vi .i64 x.z.at_],hf:=fun x=>hfQ b++hfX x.z++[.row true .u8 x.z.p] }
 | 1039=>some { X:=XRdR PA,sl:=[2,12,24],tf:=fun x=>[.one (.at (.ptr 1 0)),.one (.at (.ptr 6 0)),.one (.at (.slc 11))],hf:=fun x=>hfQ b++hfX x.z++[.row true .u64 x.z.u] }
 | 40=>some { X:=XRdR PB,sl:=[2,12,24,27],tf:=fun x=>[.one (.at (.ptr 1 0)),.one (.at (.ptr 6 0)),.one (.at (.slc 11)),vi .i64 x.z.i],hf:=fun x=>hfQ b++hfX x.z++[.row true .u64 x.z.u],μ:=fun x=>x.z.u.length-x.z.i }
 | 1044=>some { X:=XRdR PC,sl:=[2,12,24],tf:=fun x=>[.one (.at (.ptr 1 0)),.one (.at (.ptr 6 0)),.one (.at (.slc 11))],hf:=fun x=>hfQ b++hfX x.z++[.row true .u64 x.z.u] }
 | _=>none }
def tRdR:Tfm C0:=fun args H K=>match args,H with
 | [.at (.slc 0)],[.row false .u8 b]=>allB b/\b.length<=1000000000/\∀ e p m r,pkD b=(e,p)->m=(p.nodes.length:Int)->r=(p.roots.length:Int)->K (.tup [.agg [vU64 p.known,vU64 m,vU64 r,vU64 p.digest,.slc 1,.slc 2,.slc 3,.slc 4],.at (vI e)]) [.row false .u8 b,.row true .node (ndsR p.nodes),.row true .u64 (lfsR p.nodes),.row true .u64 (rgsR p.nodes),.row true .u64 p.roots] []
 | _,_=>False
theorem YkT {b:LI}{at_ u n e:Int}(h:uvD b at_=(u,n,e)):rvD b at_ false=(u,n,e != 0):=by
 unfold rvD;rw[h]
 rfl
theorem Yok (b:LI)(at_:Int):rvD b at_ true=(0,at_,true):=rfl
theorem YaL {b:LI}{n:Nat}{at_ u n1 e:Int}(h:uvD b at_=(u,n1,e)):rnD b (n+1) at_=if e≠0 then none else (rnD b n n1).map fun (q:LI × Int)=>(u::q.1,q.2):=by
 show (match uvD b at_ with
  | (u,n1,e)=>if e≠0 then none else (rnD b n n1).map fun (q:LI × Int)=>(u::q.1,q.2))=_
 rw[h]
theorem rn3 (b:LI)(at_:Int):∃ u1 n1 f1 u2 n2 f2 u3 n3 f3,rvD b at_ false=(u1,n1,f1)/\rvD b n1 f1=(u2,n2,f2)/\rvD b n2 f2=(u3,n3,f3)/\((f3=true/\rnD b 3 at_=none)∨(f3=false/\rnD b 3 at_=some ([u1,u2,u3],n3))) ∧
  (allB b->f3=false->(0<=u1/\u1<18446744073709551616)/\(0<=u2/\u2<18446744073709551616)/\(0<=u3/\u3<18446744073709551616)/\0<=at_/\at_<=n3/\n3<=b.length):=by
 obtain⟨u1,n1,e1,h1⟩:∃ u n e,uvD b at_=(u,n,e):=⟨_,_,_,rfl⟩
 have r1:=YkT h1
 by_cases c1:e1=0
 .subst c1;obtain⟨u2,n2,e2,h2⟩:∃ u n e,uvD b n1=(u,n,e):=⟨_,_,_,rfl⟩
  have r2:=YkT h2
  by_cases c2:e2=0
  .subst c2;obtain⟨u3,n3,e3,h3⟩:∃ u n e,uvD b n2=(u,n,e):=⟨_,_,_,rfl⟩
   have r3:=YkT h3
   by_cases c3:e3=0
   .subst c3;refine⟨u1,n1,_,u2,n2,_,u3,n3,_,r1,r2,r3,.inr ⟨rfl,?_⟩,fun hb _=>?_⟩
    .rw[YaL h1,Zf (by simp),YaL h2,Zf (by simp),YaL h3,Zf (by simp)];rfl
    .have a:=YgW hb h1;have b':=YgW hb h2;have c:=YgW hb h3;have:=a.2.1 rfl;have:=b'.2.1 rfl;have:=c.2.1 rfl;exact⟨a.1,b'.1,c.1,by omega,by omega,by omega⟩
   .refine⟨u1,n1,_,u2,n2,_,u3,n3,_,r1,r2,r3,.inl ⟨by simp[c3],?_⟩,fun _ q=>by simp[c3] at q⟩;rw[YaL h1,Zf (by simp),YaL h2,Zf (by simp),YaL h3,Zj c3];rfl
  .refine⟨u1,n1,_,u2,n2,_,0,n2,true,r1,r2,?_,.inl ⟨rfl,?_⟩,fun _ q=>by cases q⟩
   .rw[show (e2 != 0)=true by simp[c2]];rfl
   .rw[YaL h1,Zf (by simp),YaL h2,Zj c2];rfl
 .refine⟨u1,n1,_,0,n1,true,0,n1,true,r1,?_,rfl,.inl ⟨rfl,?_⟩,fun _ q=>by cases q⟩
  .rw[show (e1 != 0)=true by simp[c1]];rfl
  .rw[YaL h1,Zj c1]
theorem Ytr {p:LI}(h:rnD p 3 0=none):hdD p=none:=by
 obtain⟨u1,n1,f1,u2,n2,f2,u3,n3,f3,a,b,c,d,_⟩:=rn3 p 0;rcases d with ⟨d,_⟩|⟨_,d⟩
 .unfold hdD;rw[a];dsimp only;rw[b];dsimp only;rw[c];dsimp only;rw[Zj (.inl d)]
 .rw[d] at h;cases h
theorem Yts {p l:LI}{q:Int}(hb:allB p)(h:rnD p 3 0=some (l,q)):∃ k m r,l=[k,m,r]/\(0<=k/\0<=m/\0<=r)/\(0<=q/\q<=p.length)/\hdD p=if (p.length:Int)-q≠4∨65536<k∨65536<m∨4096<r then none else some (k,m,r,wD (p.drop q.toNat)):=by
 obtain⟨u1,n1,f1,u2,n2,f2,u3,n3,f3,a,b,c,d,e⟩:=rn3 p 0;rcases d with ⟨_,d⟩|⟨df,d⟩
 .rw[d] at h;cases h
 .rw[d] at h;injection h with h
  injection h with h1 h2
  subst h2;have e:=e hb df;refine⟨u1,u2,u3,h1.symm,⟨e.1.1,e.2.1.1,e.2.2.1.1⟩,⟨by omega,e.2.2.2.2.2⟩,?_⟩;unfold hdD;rw[a];dsimp only;rw[b];dsimp only;rw[c];dsimp only;rw[df];simp only[Zbf,false_or]
theorem Ywv {p:LI}{own k n e:Int}(h:kyD p 0=(k,n,e))(he:e≠0):ndQ own p=none:=by
 have r:ryD p 0 false=(k,n,true):=by
  unfold ryD;rw[h];simp[he]
 unfold ndQ;rw[r];dsimp only;rw[Yok];dsimp only;rw[Yok];dsimp only;rw[Yok];dsimp only;rw[Zj (.inl rfl)]
theorem YyW {p:LI}{k n:Int}(h:kyD p 0=(k,n,0)):8<=p.length/\n=8:=by
 unfold kyD at h;split at h
 .simp at h
 .split at h
  .simp at h
  .simp only[Zs] at h;omega
theorem Ytt {p:LI}{own k:Int}(h:kyD p 0=(k,8,0))(hn:rnD p 3 8=none):ndQ own p=none:=by
 have r:ryD p 0 false=(k,8,false):=by
  unfold ryD;rw[h];rfl
 obtain⟨u1,n1,f1,u2,n2,f2,u3,n3,f3,a,b,c,d,_⟩:=rn3 p 8;rcases d with ⟨d,_⟩|⟨_,d⟩
 .unfold ndQ;rw[r];dsimp only;rw[a];dsimp only;rw[b];dsimp only;rw[c];dsimp only;rw[Zj (.inl d)]
 .rw[d] at hn;cases hn
theorem Ytu {p l:LI}{own k q:Int}(hb:allB p)(h:kyD p 0=(k,8,0))(hn:rnD p 3 8=some (l,q)):∃ v x y,l=[v,x,y]/\(0<=v/\v<18446744073709551616)/\ndQ own p=if q≠(p.length:Int)∨own<=x∨own<=y then none else some ⟨k,uz v,x,y⟩:=by
 have r:ryD p 0 false=(k,8,false):=by
  unfold ryD;rw[h];rfl
 obtain⟨u1,n1,f1,u2,n2,f2,u3,n3,f3,a,b,c,d,e⟩:=rn3 p 8;rcases d with ⟨_,d⟩|⟨df,d⟩
 .rw[d] at hn;cases hn
 .rw[d] at hn;injection hn with hn
  injection hn with h1 h2
  subst h2;have e:=e hb df;refine⟨u1,u2,u3,h1.symm,e.1,?_⟩;unfold ndQ;rw[r];dsimp only;rw[a];dsimp only;rw[b];dsimp only;rw[c];dsimp only;rw[df];simp only[Zbf,false_or]
theorem YiF (top:Int)(b:LI):∀ (n:Nat) (at_:Int),(∀ l q,rnD b n at_=some (l,q)->(∀ u∈l,u<=top)->tlG top b n at_=some (l,q))/\(rnD b n at_=none->tlG top b n at_=none)/\(∀ l q,rnD b n at_=some (l,q)->¬ (∀ u∈l,u<=top)->tlG top b n at_=none)
 | 0,at_=>by
  refine⟨fun l q h _=>h,(fun h=>by cases h),fun l q h c=>?_⟩;have:([],at_)=(l,q):=Zai h;injection this with e _
  exact absurd (fun u hu=>by rw[<-e] at hu;cases hu) c
 | n+1,at_=>by
  obtain⟨u,n1,e,h1⟩:∃ u n e,uvD b at_=(u,n,e):=⟨_,_,_,rfl⟩
  obtain⟨i1,i2,i3⟩:=YiF top b n n1;have hr:=YaL (n:=n) h1
  have hg:tlG top b (n+1) at_=if (e != 0)=true∨top<u then none else (tlG top b n n1).map fun (q:LI × Int)=>(u::q.1,q.2):=by
   show (match rvD b at_ false with
    | (u,n1,f)=>if f=true∨top<u then none else (tlG top b n n1).map fun (q:LI × Int)=>(u::q.1,q.2))=_
   rw[YkT h1]
  by_cases c:e=0
  .subst c;rw[Zf (by simp)] at hr;cases g:rnD b n n1 with
   | none =>
    rw[g] at hr;refine⟨(fun l q h=>by rw[hr] at h;cases h),fun _=>?_,(fun l q h=>by rw[hr] at h;cases h)⟩;rw[hg,i2 g];split<;>rfl
   | some w =>
    obtain⟨l',q'⟩:=w;rw[g] at hr;have hr:rnD b (n+1) at_=some (u::l',q'):=hr;refine⟨fun l q h ht=>?_,(fun h=>by rw[hr] at h;cases h),fun l q h ht=>?_⟩
    .rw[hr] at h;have h:=Zai h;injection h with h1 h2
     subst h1 h2;have tu:=ht u (by simp);rw[hg,Zf (by rintro (q|q)<;>first|(simp at q;done)|omega),i1 l' q' g fun x hx=>ht x (Zz _ hx)];rfl
    .rw[hr] at h;have h:=Zai h;injection h with h1 h2
     subst h1 h2;rw[hg]
     by_cases d:top<u
     .rw[Zj (.inr d)]
     .rw[Zf (by rintro (q|q)<;>first|(simp at q;done)|exact d q),i3 l' q' g fun k=>ht fun x hx=>by
       rcases ZH.1 hx with e|hx
       .rw[e];omega
       .exact k x hx];rfl
  .rw[Zj c] at hr;refine⟨(fun l q h=>by rw[hr] at h;cases h),fun _=>?_,(fun l q h=>by rw[hr] at h;cases h)⟩;rw[hg,Zj (.inl (by simp[c]))]
theorem Ytv {top:Int}{n:Nat}{b:LI}(h:rnD b n 0=none):tlD top n b=none:=by
 unfold tlD;rw[(YiF top b n 0).2.1 h]
theorem Yol {top q:Int}{n:Nat}{b l:LI}(h:rnD b n 0=some (l,q))(c:q≠(b.length:Int)∨¬ ∀ u∈l,u<=top):tlD top n b=none:=by
 unfold tlD
 by_cases d:∀ u∈l,u<=top
 .rw[(YiF top b n 0).1 l q h d];dsimp only;rw[Zf (c.resolve_right (fun k=>k d))]
 .rw[(YiF top b n 0).2.2 l q h d]
theorem Yww {top q:Int}{n:Nat}{b l:LI}(h:rnD b n 0=some (l,q))(c:q=(b.length:Int))(d:∀ u∈l,u<=top):tlD top n b=some l:=by
 unfold tlD;rw[(YiF top b n 0).1 l q h d];dsimp only;rw[Zj c]
theorem Yom {b:LI}:∀ {n:Nat} {at_:Int} {l:LI} {q:Int},rnD b n at_=some (l,q)->l.length=n
 | 0,at_,l,q,h=>by
  have:([],at_)=(l,q):=Zai h;injection this with e _
  rw[<-e];rfl
 | n+1,at_,l,q,h=>by
  obtain⟨u,n1,e,h1⟩:∃ u n e,uvD b at_=(u,n,e):=⟨_,_,_,rfl⟩
  rw[YaL h1] at h;split at h
  .cases h
  .cases g:rnD b n n1 with
   | none=>rw[g] at h;cases h
   | some w =>
    rw[g] at h;have h:=Zai h;injection h with h2 _
    rw[<-h2,ZQ,Yom (l:=w.1) (q:=w.2) g]
def PNmR (b:LI)(at0:Int)(n:Nat):LI->Int->Nat->Prop:=fun o at_ i=>i<=n/\o.length=i/\rnD b n at0=(rnD b (n-i) at_).map fun (q:LI × Int)=>(o++q.1,q.2)
theorem Ywx (b:LI)(at_ n:Int)(K:KT)(hb:allB b)(hl:b.length<=1000000000)(n0:0<=n)(n1:n<=1000000)(h:∀ l q ok,rnR b n.toNat at_ l q ok->K (.tup [.at (.slc 1),.at (vI q),.at (vB ok)]) [.row false .u8 b,.row true .u64 l] []) :
  vc C0 (aNmR (PNmR b at_ n.toNat) b n) Tryz.f49 [.at (.slc 0),.at (vI at_),.at (vI n)] [.row false .u8 b] (Yh 1 K):=by
 generalize hP:PNmR b at_ n.toNat=P;refine Eq.mp (show ((∃ x:XNm P,True/\(True/\VI (at_)=VI (x.at_)/\VI (n)=VI (n)/\True/\VI 0=(VI (x.i:Int))/\True)/\b=b/\[]=x.o/\True)/\∀ x:XNm P,True->brS (decide ((x.i:Int)<n)) (allB b/\b.length<=1000000000000/\∀ u:Int,∀ n1:Int,∀ e:Int,uvD b x.at_=(Prod.mk (u) (Prod.mk (n1) (e)))->brS (e != 0) (K (.tup [(.at (.slc 1)),(.at (.val (VI 0))),(.at (.val (Zi false)))]) [(.row false .u8 (b)),(.row true .u64 [])] []) ((x.o.length+[u].length)*Yd C0 EC.u64<=140737488355328/\∃ x':XNm P,True/\((True/\VI (n1)=VI (x'.at_)/\VI (n)=VI (n)/\True/\(VI (Za.wrap ((x.i:Int)+1)))=(VI (x'.i:Int))/\True)/\b=b/\(x.o++[u])=x'.o/\True)/\n.toNat-x'.i<n.toNat-x.i)) (K (.tup [(.at (.slc 1)),(.at (.val (VI (x.at_)))),(.at (.val (Zi true)))]) [(.row false .u8 (b)),(.row true .u64 (x.o))] []))=_ by kernel_rfl) ?_;subst hP;rw[Ydc];refine⟨⟨⟨[],at_,0,ZC _,rfl,?_⟩,trivial,⟨trivial,rfl,rfl,trivial,rfl,trivial⟩,rfl,rfl,trivial⟩,fun x _=>Ya (fun y=>?_) fun y=>?_⟩
 .rw[ZcO];cases rnD b n.toNat at_<;>rfl
 .obtain⟨o,a,i,hi,ol,e⟩:=x;dsimp only at y ⊢;have yi:i<n.toNat:=by have:=Zc y;omega
  clear y;rw[Yb (x:=(i:Int)+1) (by omega) (by omega)];obtain⟨d,ed⟩:∃ d,n.toNat-i=d+1:=⟨n.toNat-i-1,by omega⟩
  refine⟨hb,by omega,fun u n2 e2 he=>?_⟩;rw[ed,YaL he] at e;refine Ya (fun z=>h [] 0 false (.inr ⟨rfl,?_,rfl,rfl⟩)) fun z=>⟨by rw[Zr];omega,⟨o++[u],n2,i+1,yi,by rw[Zh,ol];rfl,?_⟩,trivial,⟨⟨trivial,rfl,rfl,trivial,rfl,trivial⟩,rfl,rfl,trivial⟩,by show n.toNat-(i+1)<n.toNat-i;omega⟩
  .rw[e,Zj (by intro k;rw[k] at z;simp at z)];rfl
  .rw[e,Zf (by simpa using z),show n.toNat-(i+1)=d by omega];cases rnD b d n2 with
   | none=>rfl
   | some w=>show some _=some _;simp[Zo]
 .obtain⟨o,a,i,hi,ol,e⟩:=x;dsimp only at y ⊢;have yi:n.toNat-i=0:=by have:=Zg y;omega
  rw[yi] at e;refine h o a true (.inl ⟨rfl,?_⟩);rw[e];show some _=some _;simp
theorem YyX:Tb C0 49 tNmR:=by
 refine .of Tryz.func49 (by decide) rfl fun args H K h hB=>?_
 unfold tNmR at h;split at h<;>try exact h.elim
 rename_i at_ n b;obtain⟨h1,h2,h3,h4,h5⟩:=h;exact⟨aNmR (PNmR b at_ n.toNat) b n,⟨Ye C0.ok s_ur _,trivial⟩,Ywx b at_ n K h1 h2 h3 h4 h5⟩
structure RdF (b p:LI) (at_:Int):Prop where
 mg:mgD magB b=0
 nx:nxD b 4=(p,at_,0)
 pb:allB p
 pl:p.length<=b.length
def PQ1 (b:LI):ZRd->Prop:=fun z=>RdF b z.p z.at_
structure RdG (b p:LI) (at_ k m r q:Int):Prop where
 f:RdF b p at_
 rn:rnD p 3 0=some ([k,m,r],q)
 b4:(p.length:Int)-q=4
 q0:0<=q
 k0:0<=k/\k<=65536
 m0:0<=m/\m<=65536
 r0:0<=r/\r<=4096
 hd:hdD p=some (k,m,r,wD (p.drop q.toNat))
def PQ2 (b:LI):ZRd->Prop:=fun z=>∃ k m r,z.h=[k,m,r]/\RdG b z.p z.at_ k m r z.q
def PQ3 (b:LI):ZRd->Prop:=fun z=>RdG b z.p z.at_ z.k z.m z.r z.q/\z.ns=[]/\z.i<=4/\z.D=wD ((z.p.drop z.q.toNat).take z.i)/\0<=z.D/\z.D<256 ^ z.i
def PQ4 (b:LI):ZRd->Prop:=fun z=>ReF b z.k z.m z.r z.D z.at_/\z.ns=[]
def PQ5 (b:LI):ZRd->Prop:=fun z=>∃ n0,ReF b z.k z.m z.r z.D n0/\z.i<=z.m.toNat/\z.ns.length=z.i/\nsD b z.k z.m.toNat n0 []=nsD b z.k (z.m.toNat-z.i) z.at_ z.ns
def PQ6 (b:LI):ZRd->Prop:=fun z=>∃ n0 a0,ReF b z.k z.m z.r z.D n0/\z.i<z.m.toNat/\z.ns.length=z.i/\nsD b z.k z.m.toNat n0 []=nsD b z.k (z.m.toNat-z.i) a0 z.ns/\nxD b a0=(z.p,z.at_,0)
def PQ7 (b:LI):ZRd->Prop:=fun z=>∃ n0 v x y,ReF b z.k z.m z.r z.D n0/\z.i<z.m.toNat/\z.ns.length=z.i/\z.u=[v,x,y]/\(0<=v/\v<18446744073709551616)/\nsD b z.k z.m.toNat n0 []=nsD b z.k (z.m.toNat-(z.i+1)) z.at_ (z.ns++[⟨z.key,uz v,x,y⟩])
structure RdH (b:LI) (z:ZRd) (n0 n1:Int):Prop where
 f:ReF b z.k z.m z.r z.D n0
 nl:z.ns.length=z.m.toNat
 ns:nsD b z.k z.m.toNat n0 []=(0,z.ns,n1)
def PQ8 (b:LI):ZRd->Prop:=fun z=>∃ n0,RdH b z n0 z.at_
def PQ9 (b:LI):ZRd->Prop:=fun z=>∃ n0 n1,RdH b z n0 n1/\nxD b n1=(z.p,z.at_,0)
def PQA (b:LI):ZRd->Prop:=fun z=>∃ n0 n1 p,RdH b z n0 n1/\nxD b n1=(p,(b.length:Int),0)/\rnD p z.r.toNat 0=some (z.u,(p.length:Int))
def PQB (b:LI):ZRd->Prop:=fun z=>PQA b z/\z.i<=z.u.length/\∀ x∈z.u.take z.i,x<=z.k+z.m
def PQC (b:LI):ZRd->Prop:=fun z=>PQA b z/\∀ x∈z.u,x<=z.k+z.m
theorem PQA.at_ {b:LI}{z:ZRd}(h:PQA b z)(n:Nat):PQA b { z with i:=n }:=by
 obtain⟨n0,n1,p,H,he,hr⟩:=h;exact⟨n0,n1,p,⟨H.f,H.nl,H.ns⟩,he,hr⟩
theorem RdH.pk {b:LI}{z:ZRd}{n0 n1:Int}(h:RdH b z n0 n1){p:LI}{n e:Int}(hn:nxD b n1=(p,n,e)):pkD b=if e≠0 then (e,.zero) else match tlD (z.k+z.m) z.r.toNat p with
     | none=>(13,.zero)
     | some rs=>if n=(b.length:Int) then (0,⟨z.k,z.D,z.ns,rs⟩) else (13,.zero):=by
 have m2:=h.f.rng.2.1;have q:=h.f.pk h.ns;rw[Zf (by simp),hn] at q;rw[q,h.nl,ZcB m2.1]
 rfl
abbrev O90 (b:LI)(K:SV → LH C0 → LN → Prop):Prop:=K (.tup [(TV.agg [(.val (VW 0)),(.val (VW 0)),(.val (VW 0)),(.val (VW 0)),(.slc 1),(.slc 2),(.slc 3),(.slc 4)]),(.at (.val (VI 13)))]) [(.row false .u8 (b)),(.row true .node []),(.row true .u64 []),(.row true .u64 []),(.row true .u64 [])] []
abbrev O91 {P3 P4:ZRd → Prop}(b:LI)(x3:XRdR P3)(x4:XRdR P4)(Z_:Prop):Prop:=b=b/\(VW 0=VW 0/\VW 0=VW 0/\VW 0=VW 0/\VW 0=VW 0/\True/\True/\True/\True/\True)/\([]:List Td)=[]/\([]:LI)=[]/\([]:LI)=[]/\([]:LI)=[]/\(VW (x3.z.k)=VW (x4.z.k)/\VW (x3.z.m)=VW (x4.z.m)/\VW (x3.z.r)=VW (x4.z.r)/\VW (x3.z.D)=VW (x4.z.D)/\True/\True/\True/\True/\True)/\ndsR x3.z.ns=ndsR x4.z.ns/\lfsR x3.z.ns=lfsR x4.z.ns/\rgsR x3.z.ns=rgsR x4.z.ns/\([]:LI)=[]/\Z_
abbrev O92 (P5:ZRd → Prop){P7:ZRd → Prop}(b:LI)(x4:XRdR P5)(x6:XRdR P7):Prop:=((lfsR x6.z.ns).length+[getB x6.z.u (Zq 1)].length)*Yd C0 EC.u64<=140737488355328/\((rgsR x6.z.ns).length+[getB x6.z.u (Zq 2)].length)*Yd C0 EC.u64<=140737488355328/\(0:Int)<=0/\0<(x6.z.u.length:Int)/\0<=getB x6.z.u (Zq 0)/\getB x6.z.u (Zq 0)<18446744073709551616/\∀ w0_:Int,w0_=(uz (getB x6.z.u (Zq 0)))->((ndsR x6.z.ns).length+[{ key:=x6.z.key,value:=w0_,left:=0,right:=0,size:=0,sum:=0,min:=0,max:=0:Td }].length)*Yd C0 EC.node<=140737488355328/\∃ w1_:XRdR P5,True/\((True/\True/\VI (x6.z.at_)=VI (w1_.z.at_)/\True/\(VW (Zd.wrap ((x6.z.i:Int)+1)))=(VW (w1_.z.i:Int))/\True)/\b=b/\(VW 0=VW 0/\VW 0=VW 0/\VW 0=VW 0/\VW 0=VW 0/\True/\True/\True/\True/\True)/\([]:List Td)=[]/\([]:LI)=[]/\([]:LI)=[]/\([]:LI)=[]/\(VW (x6.z.k)=VW (w1_.z.k)/\VW (x6.z.m)=VW (w1_.z.m)/\VW (x6.z.r)=VW (w1_.z.r)/\VW (x6.z.D)=VW (w1_.z.D)/\True/\True/\True/\True/\True)/\(ndsR x6.z.ns++[{ key:=x6.z.key,value:=w0_,left:=0,right:=0,size:=0,sum:=0,min:=0,max:=0:Td }])=ndsR w1_.z.ns/\(lfsR x6.z.ns++[getB x6.z.u (Zq 1)])=lfsR w1_.z.ns/\(rgsR x6.z.ns++[getB x6.z.u (Zq 2)])=rgsR w1_.z.ns/\([]:LI)=[]/\True)/\70000-w1_.z.i<70000-x4.z.i
abbrev O93 (Z_:Prop):Prop:=(VW 0=VW 0/\VW 0=VW 0/\VW 0=VW 0/\VW 0=VW 0/\True/\True/\True/\True/\True)/\([]:List Td)=[]/\([]:LI)=[]/\([]:LI)=[]/\([]:LI)=[]/\Z_
abbrev O94 (b:LI)(K:SV → LH C0 → LN → Prop):Prop:=K (.tup [(TV.agg [(.val (VW 0)),(.val (VW 0)),(.val (VW 0)),(.val (VW 0)),(.slc 1),(.slc 2),(.slc 3),(.slc 4)]),(.at (.val (VI 12)))]) [(.row false .u8 (b)),(.row true .node []),(.row true .u64 []),(.row true .u64 []),(.row true .u64 [])] []
abbrev O95 (b:LI)(K:SV → LH C0 → LN → Prop)(e:Int):Prop:=K (.tup [(TV.agg [(.val (VW 0)),(.val (VW 0)),(.val (VW 0)),(.val (VW 0)),(.slc 1),(.slc 2),(.slc 3),(.slc 4)]),(.at (.val (VI (e))))]) [(.row false .u8 (b)),(.row true .node []),(.row true .u64 []),(.row true .u64 []),(.row true .u64 [])] []
abbrev O96 {P2 P3:ZRd → Prop}(x2:XRdR P2)(x3:XRdR P3)(Z_:Prop):Prop:=True/\True/\VI (x2.z.at_)=VI (x3.z.at_)/\Z_
set_option maxRecDepth 20000 in
theorem Ywy (b:LI)(K:KT)(hb:allB b)(hl:b.length<=1000000000)(h:∀ e p m r,pkD b=(e,p)->m=(p.nodes.length:Int)->r=(p.roots.length:Int)->K (.tup [.agg [vU64 p.known,vU64 m,vU64 r,vU64 p.digest,.slc 1,.slc 2,.slc 3,.slc 4],.at (vI e)]) [.row false .u8 b,.row true .node (ndsR p.nodes),.row true .u64 (lfsR p.nodes),.row true .u64 (rgsR p.nodes),.row true .u64 p.roots] []) :
  vc C0 (aRdR (PQ1 b) (PQ2 b) (PQ3 b) (PQ4 b) (PQ5 b) (PQ6 b) (PQ7 b) (PQ8 b) (PQ9 b) (PQA b) (PQB b) (PQC b) b) Tryz.f13 [.at (.slc 0)] [.row false .u8 b] (Yh 1 K):=by
 generalize hP1:PQ1 b=P1;generalize hP2:PQ2 b=P2;generalize hP3:PQ3 b=P3;generalize hP4:PQ4 b=P4;generalize hP5:PQ5 b=P5;generalize hP6:PQ6 b=P6;generalize hP7:PQ7 b=P7;generalize hP8:PQ8 b=P8;generalize hP9:PQ9 b=P9;generalize hPA:PQA b=PA;generalize hPB:PQB b=PB;generalize hPC:PQC b=PC
 refine Eq.mp (show (brS (0==(b.length:Int)) (O94 b K) ((0:Int)<=0/\0<(b.length:Int)/\brS (getB b (Zq 0) != 86) (O90 b K) (brS (Za.wrap (0+1)==(b.length:Int)) (O94 b K) (0<=Za.wrap (0+1)/\Za.wrap (0+1)<(b.length:Int)/\brS (getB b (Za.wrap (0+1)).toNat != 77) (O90 b K) (brS (Za.wrap (Za.wrap (0+1)+1)==(b.length:Int)) (O94 b K) (0<=Za.wrap (Za.wrap (0+1)+1)/\Za.wrap (Za.wrap (0+1)+1)<(b.length:Int)/\brS (getB b (Za.wrap (Za.wrap (0+1)+1)).toNat != 80) (O90 b K) (brS (Za.wrap (Za.wrap (Za.wrap (0+1)+1)+1)==(b.length:Int)) (O94 b K) (0<=Za.wrap (Za.wrap (Za.wrap (0+1)+1)+1)/\Za.wrap (Za.wrap (Za.wrap (0+1)+1)+1)<(b.length:Int)/\brS (getB b (Za.wrap (Za.wrap (Za.wrap (0+1)+1)+1)).toNat != 49) (O90 b K) (∃ x:PLift (mgD magB b=0),True/\(True/\True/\True)/\b=b/\O93 (True)))))))))/\∀ x:PLift (mgD magB b=0),True->allB b/\b.length<=1000000000/\∀ p:LI,∀ n:Int,∀ e:Int,nxD b 4=(Prod.mk (p) (Prod.mk (n) (e)))->brS (e != 0) (O95 b K e) (∃ x1:XRdR P1,True/\(True/\True/\True/\VI (n)=VI (x1.z.at_)/\True)/\b=b/\O93 (p=x1.z.p/\True))/\∀ x1:XRdR P1,True->allB x1.z.p/\x1.z.p.length<=1000000000/\(0:Int)<=3/\(3:Int)<=1000000/\∀ l:LI,∀ q:Int,∀ ok:Bool,rnR x1.z.p (Zq 3) 0 l q ok->brS (!ok) (O90 b K) (brS (Za.wrap ((x1.z.p.length:Int)-q) != 4) (O90 b K) ((0:Int)<=0/\0<(l.length:Int)/\
  brS (decide (getB l (Zq 0)>65536)) (O90 b K) ((0:Int)<=1/\1<(l.length:Int)/\brS (decide (getB l (Zq 1)>65536)) (O90 b K) ((0:Int)<=2/\2<(l.length:Int)/\brS (decide (getB l (Zq 2)>4096)) (O90 b K) (∃ x2:XRdR P2,True/\(True/\O96 x1 x2 (True/\VI (q)=VI (x2.z.q)/\True))/\b=b/\O93 (x1.z.p=x2.z.p/\l=x2.z.h/\True))))))/\∀ x2:XRdR P2,True->(0:Int)<=0/\0<(x2.z.h.length:Int)/\(0:Int)<=1/\1<(x2.z.h.length:Int)/\(0:Int)<=2/\2<(x2.z.h.length:Int)/\((∃ x3:XRdR P3,True/\(True/\O96 x2 x3 (VI (x2.z.q)=VI (x3.z.q)/\True/\VI 0=(VI (x3.z.i:Int))/\True))/\b=b/\O93 (((VW (getB x2.z.h (Zq 0)))=(VW (x3.z.k))/\(VW (getB x2.z.h (Zq 1)))=(VW (x3.z.m))/\(VW (getB x2.z.h (Zq 2)))=(VW (x3.z.r))/\VW 0=(VW (x3.z.D))/\True/\True/\True/\True/\True)/\[]=ndsR x3.z.ns/\[]=lfsR x3.z.ns/\[]=rgsR x3.z.ns/\([]:LI)=[]/\x2.z.p=x3.z.p/\True))/\∀ x3:XRdR P3,True->brS (decide ((x3.z.i:Int)<4)) (0<=Za.wrap (x3.z.q+(x3.z.i:Int))/\Za.wrap (x3.z.q+(x3.z.i:Int))<(x3.z.p.length:Int)/\∃ x':XRdR P3,True/\((True/\True/\True/\VI (x3.z.at_)=VI (x'.z.at_)/\VI (x3.z.q)=VI (x'.z.q)/\True/\(VI (Za.wrap ((x3.z.i:Int)+1)))=(VI (x'.z.i:Int))/\True)/\b=b/\O93 ((VW (x3.z.k)=VW (x'.z.k)/\VW (x3.z.m)=VW (x'.z.m)/\VW (x3.z.r)=VW (x'.z.r)/\(VW (Zd.wrap (Zd.wrap (256*x3.z.D)+Zd.wrap (getB x3.z.p (Za.wrap (x3.z.q+(x3.z.i:Int))).toNat))))=(VW (x'.z.D))/\True/\True/\True/\True/\True)/\ndsR x3.z.ns=ndsR x'.z.ns/\lfsR x3.z.ns=lfsR x'.z.ns/\rgsR x3.z.ns=rgsR x'.z.ns/\
  ([]:LI)=[]/\x3.z.p=x'.z.p/\True))/\4-x'.z.i<4-x3.z.i) (∃ x4:XRdR P4,True/\O96 x3 x4 (True/\True)/\O91 b x3 x4 (True)))/\∀ x3:XRdR P4,True->((∃ x4:XRdR P5,True/\O96 x3 x4 (True/\VW 0=(VW (x4.z.i:Int))/\True)/\O91 b x3 x4 (True))/\∀ x4:XRdR P5,True->brS (decide ((x4.z.i:Int)<x4.z.m)) (allB b/\b.length<=1000000000/\∀ p1:LI,∀ n1:Int,∀ e1:Int,nxD b x4.z.at_=(Prod.mk (p1) (Prod.mk (n1) (e1)))->brS (e1 != 0) (O95 b K e1) (∃ x5:XRdR P6,((x4.z.i:Int))=((x5.z.i:Int))/\(True/\True/\True/\VI (n1)=VI (x5.z.at_)/\True/\VW (x4.z.i:Int)=VW (x5.z.i:Int)/\True)/\O91 b x4 x5 (p1=x5.z.p/\True))/\∀ x5:XRdR P6,((x4.z.i:Int))=((x5.z.i:Int))->allB x5.z.p/\x5.z.p.length<=1000000000000/\∀ u:Int,∀ n2:Int,∀ e2:Int,kyD x5.z.p 0=(Prod.mk (u) (Prod.mk (n2) (e2)))->allB x5.z.p/\x5.z.p.length<=1000000000/\(0:Int)<=3/\(3:Int)<=1000000/\∀ l1:LI,∀ q1:Int,∀ ok1:Bool,rnR x5.z.p (Zq 3) (if (x5.z.p.length:Int)<8 then (x5.z.p.length:Int) else 8) l1 q1 ok1->brS (e2 != 0) (O90 b K) (brS (!ok1) (O90 b K) (brS (q1 != (x5.z.p.length:Int)) (O90 b K) ((0:Int)<=1/\1<(l1.length:Int)/\brS (decide (getB l1 (Zq 1)≥Zd.wrap (Zd.wrap (x5.z.k+(x5.z.i:Int))+1))) (O90 b K) ((0:Int)<=2/\2<(l1.length:Int)/\brS (decide (getB l1 (Zq 2)≥Zd.wrap (Zd.wrap (x5.z.k+(x5.z.i:Int))+1))) (O90 b K) (∃ x6:XRdR P7,((x5.z.i:Int))=((x6.z.i:Int))/\O96 x5 x6 (True/\VW (x5.z.i:Int)=VW (x6.z.i:Int)/\VI (u)=VI (x6.z.key)/\True/\True)/\O91 b x5 x6 (l1=x6.z.u/\True))))))/\∀ x6:XRdR P7,((x5.z.i:Int))=((x6.z.i:Int))->(0:Int)<=1/\
  1<(x6.z.u.length:Int)/\(0:Int)<=2/\2<(x6.z.u.length:Int)/\(O92 P5 b x4 x6/\O92 P5 b x4 x6)/\O92 P5 b x4 x6) (∃ x5:XRdR P8,True/\O96 x4 x5 (True/\True)/\O91 b x4 x5 (True)))/\∀ x4:XRdR P8,True->allB b/\b.length<=1000000000/\∀ p1:LI,∀ n1:Int,∀ e1:Int,nxD b x4.z.at_=(Prod.mk (p1) (Prod.mk (n1) (e1)))->brS (e1 != 0) (O95 b K e1) (∃ x5:XRdR P9,True/\(True/\True/\True/\VI (n1)=VI (x5.z.at_)/\True/\True)/\O91 b x4 x5 (p1=x5.z.p/\True))/\∀ x5:XRdR P9,True->allB x5.z.p/\x5.z.p.length<=1000000000/\0<=Za.wrap x5.z.r/\Za.wrap x5.z.r<=1000000/\∀ l1:LI,∀ q1:Int,∀ ok1:Bool,rnR x5.z.p (Za.wrap x5.z.r).toNat 0 l1 q1 ok1->brS (!ok1) (O90 b K) (brS (q1 != (x5.z.p.length:Int)) (O90 b K) (brS (x5.z.at_ != (b.length:Int)) (O90 b K) (∃ x6:XRdR PA,True/\(True/\True/\True/\True)/\O91 b x5 x6 (l1=x6.z.u/\True))))/\∀ x6:XRdR PA,True->((∃ x7:XRdR PB,True/\(True/\True/\True/\VI 0=(VI (x7.z.i:Int))/\True)/\O91 b x6 x7 (x6.z.u=x7.z.u/\True))/\∀ x7:XRdR PB,True->brS (decide ((x7.z.i:Int)<(x7.z.u.length:Int))) (0<=(x7.z.i:Int)/\(x7.z.i:Int)<(x7.z.u.length:Int)/\brS (decide (getB x7.z.u (x7.z.i:Int).toNat>Zd.wrap (x7.z.k+x7.z.m))) (O90 b K) (∃ x':XRdR PB,True/\((True/\True/\True/\(VI (Za.wrap ((x7.z.i:Int)+1)))=(VI (x'.z.i:Int))/\True)/\b=b/\O93 ((VW (x7.z.k)=VW (x'.z.k)/\VW (x7.z.m)=VW (x'.z.m)/\VW (x7.z.r)=VW (x'.z.r)/\VW (x7.z.D)=VW (x'.z.D)/\True/\True/\True/\True/\True)/\ndsR x7.z.ns=ndsR x'.z.ns/\lfsR x7.z.ns=lfsR x'.z.ns/\rgsR x7.z.ns=rgsR x'.z.ns/\
  ([]:LI)=[]/\x7.z.u=x'.z.u/\True))/\x'.z.u.length-x'.z.i<x7.z.u.length-x7.z.i)) (∃ x8:XRdR PC,True/\(True/\True/\True/\True)/\O91 b x7 x8 (x7.z.u=x8.z.u/\True)))/\∀ x7:XRdR PC,True->K (.tup [(TV.agg [(.val (VW (x7.z.k))),(.val (VW (x7.z.m))),(.val (VW (x7.z.r))),(.val (VW (x7.z.D))),(.slc 1),(.slc 2),(.slc 3),(.slc 4)]),(.at (.val (VI 0)))]) [(.row false .u8 (b)),(.row true .node (ndsR x7.z.ns)),(.row true .u64 (lfsR x7.z.ns)),(.row true .u64 (rgsR x7.z.ns)),(.row true .u64 (x7.z.u))] [])=_ by kernel_rfl) ?_
 delta O90 O91 O92 O93 O94 O95 O96;subst hP1 hP2 hP3 hP4 hP5 hP6 hP7 hP8 hP9 hPA hPB hPC;have er:∀ e,pkD b=(e,.zero)->K (.tup [.agg [vU64 0,vU64 0,vU64 0,vU64 0,.slc 1,.slc 2,.slc 3,.slc 4],.at (vI e)]) [.row false .u8 b,.row true .node [],.row true .u64 [],.row true .u64 [],.row true .u64 []] []:=fun e q=>h e .zero 0 0 q rfl rfl
 have em:∀ e:Int,e≠0->mgD magB b=e->K (.tup [.agg [vU64 0,vU64 0,vU64 0,vU64 0,.slc 1,.slc 2,.slc 3,.slc 4],.at (vI e)]) [.row false .u8 b,.row true .node [],.row true .u64 [],.row true .u64 [],.row true .u64 []] []:=fun e e0 q=>er e (by unfold pkD;rw[Zj (by rw[q];exact e0),q])
 obtain⟨m1,m2,m3,m4,m5,m6,m7,m8,m9⟩:=Yky b;have ne_of:∀ {x y:Int},(x != y)=true->x≠y:=fun {x y} q e=>by rw[e] at q;simp at q
 have eq_of:∀ {x y:Int},(x != y)=false->x=y:=fun {x y} q=>by simpa using q
 have bn:∀ {x y:Int},(x==y)=false->x≠y:=fun {x y} q e=>by rw[e] at q;simp at q
 have w1:Za.wrap (0+1)=1:=by decide
 have w2:Za.wrap (1+1)=2:=by decide
 have w3:Za.wrap (2+1)=3:=by decide
 rw[w1,w2,w3,show Zq 0=0 from rfl,show Zq 1=1 from rfl,show Zq 2=2 from rfl,show Zq 3=3 from rfl]
 refine⟨Ya (fun z=>em 12 (by decide) (m1 (by have:=eq_of_beq z;omega))) fun z0=>⟨by decide,by have:=bn z0;omega,Ya (fun z=>em 13 (by decide) (m2 (by have:=bn z0;omega) (ne_of z))) fun y0 =>
  Ya (fun z=>em 12 (by decide) (m3 (eq_of y0) (by have:=eq_of_beq z;omega))) fun z1=>⟨by decide,by have:=bn z0;have:=bn z1;omega,Ya (fun z=>em 13 (by decide) (m4 (eq_of y0) (by have:=bn z0;have:=bn z1;omega) (ne_of z))) fun y1 =>
  Ya (fun z=>em 12 (by decide) (m5 (eq_of y0) (eq_of y1) (by have:=eq_of_beq z;omega))) fun z2=>⟨by decide,by have:=bn z0;have:=bn z1;have:=bn z2;omega,Ya (fun z=>em 13 (by decide) (m6 (eq_of y0) (eq_of y1) (by have:=bn z0;have:=bn z1;have:=bn z2;omega) (ne_of z))) fun y2 =>
  Ya (fun z=>em 12 (by decide) (m7 (eq_of y0) (eq_of y1) (eq_of y2) (by have:=eq_of_beq z;omega))) fun z3=>⟨by decide,by have:=bn z0;have:=bn z1;have:=bn z2;have:=bn z3;omega,Ya (fun z=>em 13 (by decide) (m8 (eq_of y0) (eq_of y1) (eq_of y2) (by have:=bn z0;have:=bn z1;have:=bn z2;have:=bn z3;omega) (ne_of z))) fun y3=>?_⟩⟩⟩⟩,fun x _=>?_⟩
 .refine⟨⟨m9 (eq_of y0) (eq_of y1) (eq_of y2) (eq_of y3) (by have:=bn z0;have:=bn z1;have:=bn z2;have:=bn z3;omega)⟩,?_⟩
  repeat' constructor
 obtain⟨mg⟩:=x;clear m1 m2 m3 m4 m5 m6 m7 m8 m9 em;refine⟨hb,by omega,fun p n e he=>⟨Ya (fun z=>er e ?_) fun z=>⟨⟨⟨p,n,[],0,0,0,0,0,[],0,0,[]⟩,mg,by rw[he,eq_of z],?_,?_⟩,trivial,?_⟩,fun x1 _=>?_⟩⟩
 .have z:=ne_of z;unfold pkD;rw[Zf (by rw[mg];simp),he];simp only[ne_eq,z,not_false_eq_true,if_true]
 .exact (YbX hb he).1
 .exact (YbX hb he).2
 ·repeat' constructor
 obtain⟨z,F⟩:=x1;dsimp only;have F:RdF b z.p z.at_:=F
 have bad:hdD z.p=none->pkD b=(13,.zero):=fun q=>by
  unfold pkD;rw[Zf (by rw[F.mg];simp),F.nx];simp only[ne_eq,not_true_eq_false,if_false,q]
 have zl:=F.pl;refine⟨F.pb,by omega,by decide,by decide,fun l q ok R=>?_⟩;refine⟨?_,fun x2 _=>?_⟩
 .refine Ya (fun y=>er 13 (bad ?_)) fun y=>?_
  .rcases R with ⟨R,_⟩|⟨_,R,_⟩
   .rw[R] at y;simp at y
   .exact Ytr R
  have R:rnD z.p 3 0=some (l,q):=by
   rcases R with ⟨_,R⟩|⟨R,_⟩
   .exact R
   .rw[R] at y;simp at y
  obtain⟨k,m,r,el,pos,qr,hd⟩:=Yts F.pb R;rw[el] at R ⊢;rw[Yb (x:=(z.p.length:Int)-q) (by omega) (by omega)];show brS _ _ (0<=0/\(0:Int)<3/\brS (decide (k>65536)) _ (0<=1/\(1:Int)<3/\brS (decide (m>65536)) _ (0<=2/\(2:Int)<3/\brS (decide (r>4096)) _ _)));refine Ya (fun y=>er 13 (bad ?_)) fun y1=>⟨by decide,by decide,Ya (fun y=>er 13 (bad ?_)) fun y2=>⟨by decide,by decide,Ya (fun y=>er 13 (bad ?_)) fun y3=>⟨by decide,by decide,Ya (fun y=>er 13 (bad ?_)) fun y4=>?_⟩⟩⟩
  .rw[hd,Zj (.inl (ne_of y))]
  .rw[hd,Zj (.inr (.inl (Zc y)))]
  .rw[hd,Zj (.inr (.inr (.inl (Zc y))))]
  .rw[hd,Zj (.inr (.inr (.inr (Zc y))))]
  have y1:=eq_of y1;have y2:¬ k>65536:=Zg y2;have y3:¬ m>65536:=Zg y3;have y4:¬ r>4096:=Zg y4;rw[Zf (by omega)] at hd;refine⟨⟨{ z with h:=[k,m,r],q:=q },k,m,r,rfl,F,R,y1,qr.1,⟨pos.1,by omega⟩,⟨pos.2.1,by omega⟩,⟨pos.2.2,by omega⟩,hd⟩,trivial,?_⟩
  repeat' constructor
 clear bad zl R F mg;obtain⟨z,k,m,r,eh,G⟩:=x2;dsimp only;rw[eh];refine⟨by decide,by show (0:Int)<3;decide,by decide,by show (1:Int)<3;decide,by decide,by show (2:Int)<3;decide,⟨⟨⟨{ z with k:=k,m:=m,r:=r,D:=0,ns:=[],i:=0 },G,rfl,ZC _,rfl,ZE 0,by show (0:Int)<256 ^ 0;decide⟩,trivial,?_⟩,fun x3 _=>Ya (fun y=>?_) fun y=>?_⟩,fun x3 _=>?_⟩
 ·repeat' constructor
 .obtain⟨z,G,en,hi,eD,D0,D1⟩:=x3;dsimp only at y ⊢;have yi:z.i<4:=by have:=Zc y;omega
  clear y;have g4:=G.b4;have q0:=G.q0;have pl:=G.f.pl;have il:z.i<(z.p.drop z.q.toNat).length:=by rw[Zy];omega
  have gm:=(YE G.f.pb z.q.toNat) _ (Yj il)
  have p4:(256:Int) ^ z.i<=16777216:=by
   have:z.i=0∨z.i=1∨z.i=2∨z.i=3:=by omega
   rcases this with e|e|e|e<;>rw[e]<;>decide +kernel
  rw[Yb (x:=(z.i:Int)+1) (by omega) (by omega),Yb (x:=z.q+(z.i:Int)) (by omega) (by omega),show (z.q+(z.i:Int)).toNat=z.q.toNat+z.i by omega,<-Yhj,Yf (x:=256*z.D) (by omega) (by omega),Yf (x:=getB (z.p.drop z.q.toNat) z.i) gm.1 (by omega),Yf (x:=256*z.D+getB (z.p.drop z.q.toNat) z.i) (by omega) (by omega)];refine⟨by omega,by omega,⟨{ z with D:=256*z.D+getB (z.p.drop z.q.toNat) z.i,i:=z.i+1 },G,en,yi,?_,by show 0<=256*z.D+_;omega,?_⟩,trivial,?_,by show 4-(z.i+1)<4-z.i;omega⟩
  .show 256*z.D+_=wD ((z.p.drop z.q.toNat).take (z.i+1));rw[Yo il,YcH,<-eD]
  .show 256*z.D+_<(256:Int) ^ (z.i+1);rw[ZaC];omega
  ·repeat' constructor
 .obtain⟨z,G,en,hi,eD,D0,D1⟩:=x3;dsimp only at y ⊢;have yi:z.i=4:=by have:=Zg y;omega
  clear y;have g4:=G.b4;have q0:=G.q0;rw[yi,Zay (by rw[Zy];omega)] at eD;refine⟨⟨z,⟨G.f.mg,z.p,G.f.nx,G.f.pb,by rw[eD];exact G.hd⟩,en⟩,trivial,?_⟩
  repeat' constructor
 clear G eh;obtain⟨z,F,en⟩:=x3;dsimp only;have F:ReF b z.k z.m z.r z.D z.at_:=F;have en:z.ns=[]:=en;refine⟨⟨⟨⟨{ z with i:=0 },z.at_,F,ZC _,by show z.ns.length=0;rw[en];rfl,by show _=nsD b z.k (z.m.toNat-0) z.at_ z.ns;rw[en,ZcO]⟩,trivial,?_⟩,fun x4 _=>Ya (fun y=>?_) fun y=>?_⟩,fun x5 _=>?_⟩
 ·repeat' constructor
 .obtain⟨z,n0,F,hi,hn,hq⟩:=x4;dsimp only at y ⊢;obtain⟨k2,m2,r2⟩:=F.rng;have yi:z.i<z.m.toNat:=by have:=Zc y;omega
  clear y;obtain⟨d,ed⟩:∃ d,z.m.toNat-z.i=d+1:=⟨z.m.toNat-z.i-1,by omega⟩
  refine⟨hb,by omega,fun p2 n2 e2 he2=>⟨Ya (fun q=>er e2 ?_) fun q=>⟨⟨{ z with p:=p2,at_:=n2 },n0,z.at_,F,yi,hn,hq,by rw[he2,eq_of q]⟩,rfl,?_⟩,fun x5 e5=>?_⟩⟩
  .have hs:=Ydq (k:=z.k) (d:=d) (ns:=z.ns) he2;have q:=ne_of q;rw[ed,hs,Zj q] at hq;rw[F.pk hq,Zj q]
  ·repeat' constructor
  clear hq hn F k2 m2 r2;obtain⟨z5,n0,a0,F,hi5,hn,hq,he⟩:=x5;dsimp only at e5 ⊢;have e5:z.i=z5.i:=by omega
  obtain⟨k2,m2,r2⟩:=F.rng;have pr:=YbX hb he;obtain⟨d,ed⟩:∃ d,z5.m.toNat-z5.i=d+1:=⟨z5.m.toNat-z5.i-1,by omega⟩
  have hs:=Ydq (k:=z5.k) (d:=d) (ns:=z5.ns) he;rw[ed,hs,Zf (by simp),hn] at hq;have own:z5.k+(z5.i:Int)+1=z5.k+((z5.i:Nat):Int)+1:=rfl
  have bad:ndQ (z5.k+(z5.i:Int)+1) z5.p=none->pkD b=(13,.zero):=fun t=>by
   rw[t] at hq;rw[F.pk hq,Zj (by decide)]
  refine⟨pr.1,by omega,fun u n3 e3 hk=>⟨pr.1,by omega,by decide,by decide,fun l1 q1 ok1 R=>⟨?_,fun x6 e6=>?_⟩⟩⟩
  .refine Ya (fun t=>er 13 (bad (Ywv hk (ne_of t)))) fun t=>?_
   rw[eq_of t] at hk;obtain⟨l8,en3⟩:=YyW hk;rw[en3] at hk;have e8:(if (z5.p.length:Int)<8 then (z5.p.length:Int) else 8)=8:=Zf (by omega);rw[e8] at R;refine Ya (fun t=>er 13 (bad ?_)) fun t=>?_
   .rcases R with ⟨R,_⟩|⟨_,R,_⟩
    .rw[R] at t;simp at t
    .exact Ytt hk R
   have R:rnD z5.p 3 8=some (l1,q1):=by
    rcases R with ⟨_,R⟩|⟨R,_⟩
    .exact R
    .rw[R] at t;simp at t
   obtain⟨v,x,y,el,vr,nd⟩:=Ytu (own:=z5.k+(z5.i:Int)+1) pr.1 hk R;rw[el] at R ⊢;rw[Yf (x:=z5.k+(z5.i:Int)) (by omega) (by omega),Yf (x:=z5.k+(z5.i:Int)+1) (by omega) (by omega)];show brS _ _ (0<=1/\(1:Int)<3/\brS (decide (x≥z5.k+(z5.i:Int)+1)) _ (0<=2/\(2:Int)<3/\brS (decide (y≥z5.k+(z5.i:Int)+1)) _ _));refine Ya (fun t=>er 13 (bad ?_)) fun t1=>⟨by decide,by decide,Ya (fun t=>er 13 (bad ?_)) fun t2=>⟨by decide,by decide,Ya (fun t=>er 13 (bad ?_)) fun t3=>?_⟩⟩
   .rw[nd,Zj (.inl (ne_of t))]
   .rw[nd,Zj (.inr (.inl (Zc t)))]
   .rw[nd,Zj (.inr (.inr (Zc t)))]
   have t2:¬ x≥z5.k+(z5.i:Int)+1:=Zg t2;have t3:¬ y≥z5.k+(z5.i:Int)+1:=Zg t3;have t1:=eq_of t1;rw[Zf (by rintro (k|k|k)<;>omega)] at nd;rw[nd] at hq;refine⟨⟨{ z5 with key:=u,u:=[v,x,y] },n0,v,x,y,F,hi5,hn,rfl,vr,?_⟩,rfl,?_⟩
   .show nsD b z5.k z5.m.toNat n0 []=nsD b z5.k (z5.m.toNat-(z5.i+1)) z5.at_ _;rw[hq,show z5.m.toNat-(z5.i+1)=d by omega]
   ·repeat' constructor
  clear R hk bad own hq hs hn F k2 m2 r2 pr he;obtain⟨z6,n0,v,x,y,F,hi6,hn,eu,vr,hq⟩:=x6;dsimp only at e6 ⊢;have e6:z5.i=z6.i:=by omega
  obtain⟨k2,m2,r2⟩:=F.rng;rw[eu,Yf (x:=(z6.i:Int)+1) (by omega) (by omega),Ydc,show getB [v,x,y] 0=v from rfl,show getB [v,x,y] 1=x from rfl,show getB [v,x,y] 2=y from rfl];have ln:(ndsR z6.ns).length=z6.ns.length:=Zu _;have ll:(lfsR z6.ns).length=z6.ns.length:=Zu _;have lr:(rgsR z6.ns).length=z6.ns.length:=Zu _;have b1:((lfsR z6.ns).length+[x].length)*8<=140737488355328:=by rw[ll,Zr];omega
  have b2:((rgsR z6.ns).length+[y].length)*8<=140737488355328:=by rw[lr,Zr];omega
  have b3:∀ n:Td,((ndsR z6.ns).length+[n].length)*Yd C0 EC.node<=140737488355328:=fun n=>by rw[ln,YfJ,Zr];omega
  have fin:∃ x':XRdR (PQ5 b),x'.z.p=z6.p/\x'.z.at_=z6.at_/\x'.z.i=z6.i+1/\x'.z.k=z6.k/\x'.z.m=z6.m/\x'.z.r=z6.r/\x'.z.D=z6.D/\x'.z.ns=z6.ns++[⟨z6.key,uz v,x,y⟩] :=
   ⟨⟨{ z6 with i:=z6.i+1,ns:=z6.ns++[⟨z6.key,uz v,x,y⟩] },n0,F,hi6,by show (z6.ns++_).length=_;rw[Zh,hn];rfl,hq⟩,rfl,rfl,rfl,rfl,rfl,rfl,rfl,rfl⟩
  obtain⟨x', -,e2,e3,e4,e5',e6',e7,e8⟩:=fin;have f1:ndsR z6.ns++[⟨z6.key,uz v,0,0,0,0,0,0⟩]=ndsR x'.z.ns:=by rw[e8];unfold ndsR;rw[ZX];rfl
  have f2:lfsR z6.ns++[x]=lfsR x'.z.ns:=by rw[e8];unfold lfsR;rw[ZX];rfl
  have f3:rgsR z6.ns++[y]=rgsR x'.z.ns:=by rw[e8];unfold rgsR;rw[ZX];rfl
  have mu:70000-x'.z.i<70000-z.i:=by rw[e3];omega
  refine⟨by decide,by show (1:Int)<3;decide,by decide,by show (2:Int)<3;decide,?_⟩
  repeat' (first|with_reducible exact b1|with_reducible exact b2|with_reducible apply And.intro)
  all_goals first|(show (0:Int)<=0;decide)|(show (0:Int)<3;decide)|exact vr.1|exact vr.2|skip
  all_goals
   intro n3 en3;subst en3;refine⟨b3 _,x',trivial,⟨?_,mu⟩⟩;rw[e2,e3,e4,e5',e6',e7]
   (repeat' first|exact trivial|exact f1|exact f2|exact f3|exact rfl|refine And.intro ?_ ?_)
 .obtain⟨z,n0,F,hi,hn,hq⟩:=x4;dsimp only at y ⊢;obtain⟨k2,m2,r2⟩:=F.rng;have yi:z.m.toNat-z.i=0:=by have:=Zg y;omega
  rw[yi] at hq;refine⟨⟨z,n0,F,by omega,hq⟩,trivial,?_⟩
  repeat' constructor
 clear F en;obtain⟨z,n0,H⟩:=x5;dsimp only;refine⟨hb,by omega,fun p2 n2 e2 he2=>⟨Ya (fun q=>er e2 ?_) fun q=>⟨⟨{ z with p:=p2,at_:=n2 },n0,z.at_,⟨H.f,H.nl,H.ns⟩,by rw[he2,eq_of q]⟩,trivial,?_⟩,fun x5 _=>?_⟩⟩
 .rw[H.pk he2,Zj (ne_of q)]
 ·repeat' constructor
 clear H he2;obtain⟨z,n0,n1,H,he⟩:=x5;dsimp only;obtain⟨k2,m2,r2⟩:=H.f.rng;have pr:=YbX hb he;have pk:=H.pk he;rw[Zf (by simp)] at pk;rw[Yb (x:=z.r) (by omega) (by omega)];refine⟨pr.1,by omega,r2.1,by omega,fun l1 q1 ok1 R=>⟨Ya (fun t=>er 13 ?_) fun t=>?_,fun x6 _=>?_⟩⟩
 .rcases R with ⟨R,_⟩|⟨_,R,_⟩
  .rw[R] at t;simp at t
  .rw[pk,Ytv R]
 .have R:rnD z.p z.r.toNat 0=some (l1,q1):=by
   rcases R with ⟨_,R⟩|⟨R,_⟩
   .exact R
   .rw[R] at t;simp at t
  refine Ya (fun t=>er 13 ?_) fun t=>Ya (fun w=>er 13 ?_) fun w=>?_
  .rw[pk,Yol R (.inl (ne_of t))]
  .rw[pk]
   by_cases c:∀ u∈l1,u<=z.k+z.m
   .rw[Yww R (eq_of t) c];dsimp only;rw[Zf (ne_of w)]
   .rw[Yol R (.inr c)]
  .refine⟨⟨{ z with u:=l1 },n0,n1,z.p,⟨H.f,H.nl,H.ns⟩,by rw[he];rw[eq_of w],by rw[<-eq_of t];exact R⟩,trivial,?_⟩
   repeat' constructor
 clear R pk pr H he k2 m2 r2;obtain⟨z,H⟩:=x6;dsimp only;have H:PQA b z:=H;refine⟨⟨⟨⟨{ z with i:=0 },H.at_ 0,ZC _,fun x hx=>by cases hx⟩,trivial,?_⟩,fun x7 _=>Ya (fun y=>?_) fun y=>?_⟩,fun x8 _=>?_⟩
 ·repeat' constructor
 .obtain⟨z,H,hi,ht⟩:=x7;dsimp only at y ⊢;obtain⟨n0,n1,p,H',he,hr⟩:=id H;obtain⟨k2,m2,r2⟩:=H'.f.rng;have yi:z.i<z.u.length:=by have:=Zc y;omega
  have ul:=Yom hr;rw[show ((z.i:Int)).toNat=z.i from rfl,Yb (x:=(z.i:Int)+1) (by omega) (by omega),Yf (x:=z.k+z.m) (by omega) (by omega)];refine⟨by omega,by omega,Ya (fun t=>er 13 ?_) fun t=>?_⟩
  .have t:getB z.u z.i>z.k+z.m:=Zc t;rw[H'.pk he,Zf (by simp),Yol hr (.inr fun c=>by have:=c _ (Yj yi);omega)]
  .have t:¬ getB z.u z.i>z.k+z.m:=Zg t;refine⟨⟨{ z with i:=z.i+1 },H.at_ _,yi,fun x hx=>?_⟩,trivial,?_,ZI yi (ZO z.i)⟩
   .have hx:x∈z.u.take (z.i+1):=hx;rw[Yo yi] at hx;rcases Zx.1 hx with c|c
    .exact ht x c
    .rw[ZL.1 c];show _<=z.k+z.m;omega
   ·repeat' constructor
 .obtain⟨z,H,hi,ht⟩:=x7;dsimp only at y ⊢;have yi:z.i=z.u.length:=by have:=Zg y;omega
  rw[yi,ZJ] at ht;refine⟨⟨z,H,ht⟩,trivial,?_⟩
  repeat' constructor
 clear H;obtain⟨z,H,ht⟩:=x8;dsimp only;obtain⟨n0,n1,p,H',he,hr⟩:=H;obtain⟨k2,m2,r2⟩:=H'.f.rng;have pk:=H'.pk he;rw[Zf (by simp),Yww hr rfl ht] at pk;dsimp only at pk;rw[Zj rfl] at pk;have ul:=Yom hr;exact h 0 ⟨z.k,z.D,z.ns,z.u⟩ z.m z.r pk (by show z.m=(z.ns.length:Int);rw[H'.nl];omega) (by show z.r=(z.u.length:Int);rw[ul];omega)
theorem YyY:Tb C0 13 tRdR:=by
 refine .of Tryz.func13 (by decide) rfl fun args H K h hB=>?_
 unfold tRdR at h;split at h<;>try exact h.elim
 rename_i b;refine⟨_,?_,Ywy b K h.1 h.2.1 h.2.2⟩;exact⟨Ye C0.ok s_nr _,Ye C0.ok YyX _,Ye C0.ok s_kr _,Ye C0.ok YyU _,trivial⟩
theorem Ytw:∀ (l:LI) (i:Nat) (a u k:Int),allB l->i<=9->vD 12 13 i l a=(u,k,0)->∃ v d,u=a+v*128 ^ i/\0<=v/\(0<i->1<=v)/\k=(i:Int)+(d:Nat)/\l.take d=vE (10-i) v/\d<=l.length
 | [],i,a,u,k,_,_,h=>by
  unfold vD at h;injection h with _ h
  injection h with _ h
  cases h
 | c::r,i,a,u,k,hb,hi,h=>by
  have hc:=hb c (by simp);unfold vD at h
  by_cases q:(i=9/\1<c)∨(0<i/\c=0)
  .rw[Zj q] at h;injection h with _ h
   injection h with _ h
   cases h
  rw[Zf q] at h;obtain⟨f,hf⟩:∃ f,10-i=f+1:=⟨9-i,by omega⟩
  by_cases t:c<128
  .rw[Zj t] at h;injection h with h1 h
   injection h with h2 _
   refine⟨c,1,by rw[<-h1,ZcM hc.1 t],hc.1,fun q2=>?_,by rw[<-h2];rfl,?_,by simp⟩
   .have:c≠0:=fun e=>q (.inr ⟨q2,e⟩)
    omega
   .rw[hf];unfold vE;rw[Zj t];rfl
  .rw[Zf t] at h;have i9:i≠9:=fun e=>q (.inl ⟨e,by omega⟩)
   obtain⟨v,d,e1,v0,v1,e2,e3,e4⟩:=Ytw r (i+1) _ u k (fun x hx=>hb x (Zz _ hx)) (by omega) h;have v1:=v1 (by omega);refine⟨c % 128+128*v,d+1,?_,by omega,fun _=>by omega,by omega,?_,by simpa using e4⟩
   .rw[e1,ZaC,Int.add_mul,Int.add_assoc]
    congr 2
    rw[Zcu 128 v,ZcJ,Zcu 128]
   .rw[hf,List.take_succ_cons,e3,show 10-(i+1)=f by omega]
    conv=>rhs;unfold vE
    rw[Zf (by omega),show (c % 128+128*v) / 128=v by omega,show (c % 128+128*v) % 128+128=c by omega]
theorem Yqu:∀ (n:Nat) (l:LI),l.length=n->allB l->wB n (wD l)=l/\0<=wD l
 | 0,l,h,_=>by
  have:l=[]:=Zaz.1 h;subst this;exact⟨rfl,ZE _⟩
 | n+1,l,h,hb=>by
  have hn:l≠[]:=fun e=>by rw[e] at h;cases h
  obtain⟨a,c,rfl⟩:∃ a c,l=a++[c]:=⟨l.dropLast,l.getLast hn,(List.dropLast_concat_getLast hn).symm⟩
  have hc:=hb c (by simp);have al:a.length=n:=by rw[Zh,Zr] at h;omega
  obtain⟨ih,w0⟩:=Yqu n a al fun x hx=>hb x (ZZ _ hx)
  rw[YcH];refine⟨?_,by omega⟩;unfold wB;rw[show (256*wD a+c) / 256=wD a by omega,show (256*wD a+c) % 256=c by omega,ih]
theorem Ytx {r p:LI}{k:Int}(hb:allB r)(h:frD 12 13 14 1048576 r=(p,k,0)):∃ d:Nat,k=d/\r.take d=frE p/\d<=r.length/\p.length<=1048576:=by
 obtain⟨n,j,e,hv⟩:∃ n j e,vD 12 13 0 r 0=(n,j,e):=⟨_,_,_,rfl⟩
 rw[YbW hv] at h
 by_cases c1:e≠0
 .rw[Zj c1] at h;injection h with _ h
  injection h with _ h
  exact absurd h c1
 rw[Zf c1] at h;have e0:e=0:=ZY c1;subst e0;obtain⟨v,d,e1,v0,_,e2,e3,e4⟩:=Ytw r 0 0 n j hb (by omega) hv;have e1:n=v:=by rw[e1];simp
 subst e1
 by_cases c2:1048576<n
 .rw[Zj c2] at h;injection h with _ h
  injection h with _ h
  cases h
 rw[Zf c2] at h
 by_cases c3:(r.length:Int)<j+n+4
 .rw[Zj c3] at h;injection h with _ h
  injection h with _ h
  cases h
 rw[Zf c3] at h
 by_cases c4:wD ((r.drop (j+n).toNat).take 4)=crc (r.take (j+n).toNat)
 .rw[Zj c4] at h;injection h with hp h
  injection h with hk _
  have ej:j.toNat=d:=by omega
  have en:(j+n).toNat=d+n.toNat:=by omega
  rw[en] at c4 hp;rw[ej] at hp;have pl:p.length=n.toNat:=by rw[<-hp,Zy,ZG];omega
  have hd:r.take (d+n.toNat)=frH p:=by
   have t:r.take (d+n.toNat)=(r.take (d+n.toNat)).take d++(r.take (d+n.toNat)).drop d:=(Zaw _ _).symm;rw[t,hp,List.take_take,show min d (d+n.toNat)=d by omega,e3];unfold frH;rw[pl,show ((n.toNat:Nat):Int)=n by omega]
  refine⟨d+n.toNat+4,by omega,?_,by omega,by omega⟩
  have w:(r.drop (d+n.toNat)).take 4=wB 4 (crc (frH p)):=by
   have q:=Yqu 4 ((r.drop (d+n.toNat)).take 4) (by rw[ZG,Zy];omega) fun x hx=>hb x (Zaj (Zac hx))
   rw[<-q.1,c4,hd]
  rw[List.take_add,hd,w]
  rfl
 .rw[Zf c4] at h;injection h with _ h
  injection h with _ h
  cases h
theorem Ycm {p s:LI}(h:allB (p++s)):allB s:=fun x hx=>h x (Zaf _ hx)
theorem Yty {p s:LI}{u n:Int}(hb:allB (p++s))(h:uvD (p++s) p.length=(u,n,0)):∃ s',s=vE 10 u++s'/\n=((p++vE 10 u).length:Nat)/\0<=u:=by
 obtain⟨v,k,e,hv⟩:∃ v k e,vD 12 13 0 s 0=(v,k,e):=⟨_,_,_,rfl⟩
 rw[YaY (u:=v) (k:=k) (e:=e) (by omega) (by rw[Zh];omega) (by rw[Yck];exact hv)] at h
 by_cases c:e=0
 .subst c;rw[Zj rfl] at h;injection h with h1 h
  injection h with h2 _
  subst h1;obtain⟨w,d,e1,w0,_,e2,e3,e4⟩:=Ytw s 0 0 v k (Ycm hb) (by omega) hv;have e1:v=w:=by rw[e1];simp
  subst e1;have e3:s.take d=vE 10 v:=e3;have dl:d=(vE 10 v).length:=by rw[<-e3,ZG];omega
  refine⟨s.drop d,by rw[<-e3,Zaw],by rw[<-h2,e2,Zh,<-dl];omega,w0⟩
 .rw[Zf c] at h;injection h with _ h
  injection h with _ h
  exact absurd h c
theorem YcO {p s:LI}{u n:Int}(hb:allB (p++s))(h:rvD (p++s) p.length false=(u,n,false)):∃ s',s=vE 10 u++s'/\n=((p++vE 10 u).length:Nat)/\0<=u:=by
 obtain⟨v,k,e,hv⟩:∃ v k e,uvD (p++s) p.length=(v,k,e):=⟨_,_,_,rfl⟩
 have h':(v,k,e != 0)=(u,n,false):=by rw[<-h];unfold rvD;rw[hv];rfl
 injection h' with h1 h'
 injection h' with h2 h3
 have e0:e=0:=by simpa using h3
 rw[e0,h1,h2] at hv;exact Yty hb hv
theorem Ytz {p s:LI}{u n:Int}(hb:allB (p++s))(h:ryD (p++s) p.length false=(u,n,false)):∃ s',s=kB u++s'/\n=((p++kB u).length:Nat):=by
 obtain⟨v,k,e,hv⟩:∃ v k e,kyD (p++s) p.length=(v,k,e):=⟨_,_,_,rfl⟩
 have h':(v,k,e != 0)=(u,n,false):=by rw[<-h];unfold ryD;rw[hv];rfl
 injection h' with h1 h'
 injection h' with h2 h3
 have e0:e=0:=by simpa using h3
 rw[e0,h1,h2] at hv;unfold kyD at hv;rw[Zf (by rw[Zh];omega)] at hv
 by_cases c:((p++s).length:Int)-(p.length:Int)<8
 .rw[Zj c] at hv;injection hv with _ hv
  injection hv with _ hv
  cases hv
 rw[Zf c,Yck] at hv;injection hv with a1 hv
 injection hv with a2 _
 rw[Zh] at c;have l8:(s.take 8).length=8:=by rw[ZG];omega
 have w:=Yqu 8 (s.take 8) l8 fun x hx=>Ycm hb x (Zac hx)
 have ek:kB u=s.take 8:=by
  unfold kB;rw[<-a1,show wD (s.take 8)-9223372036854775808+9223372036854775808=wD (s.take 8) by omega,w.1]
 refine⟨s.drop 8,by rw[ek,Zaw],by rw[<-a2,Zh,ek,l8];omega⟩
theorem YjK {p s q:LI}{n:Int}(hb:allB (p++s))(h:nxD (p++s) p.length=(q,n,0)):∃ s',s=frE q++s'/\n=((p++frE q).length:Nat)/\q.length<=1048576:=by
 obtain⟨v,k,e,hv⟩:∃ v k e,frD 12 13 14 1048576 s=(v,k,e):=⟨_,_,_,rfl⟩
 rw[Yba (p:=v) (k:=k) (e:=e) (by omega) (by rw[Zh];omega) (by rw[Yck];exact hv)] at h
 by_cases c:e=0
 .subst c;rw[Zj rfl] at h;injection h with h1 h
  injection h with h2 _
  subst h1;obtain⟨d,e1,e2,e3,e4⟩:=Ytx (Ycm hb) hv;have dl:d=(frE v).length:=by rw[<-e2,ZG];omega
  exact⟨s.drop d,by rw[<-e2,Zaw],by rw[<-h2,e1,Zh,<-dl];omega,e4⟩
 .rw[Zf c] at h;injection h with _ h
  injection h with _ h
  exact absurd h c
theorem Ydv {b:LI}{at_ u n:Int}{f:Bool}(h:rvD b at_ f=(u,n,false)):f=false:=by
 cases f with
 | false=>rfl
 | true =>
  unfold rvD at h;injection h with _ h
  injection h with _ h
theorem YtA {b:LI}{k m r D:Int}(hb:allB b)(h:hdD b=some (k,m,r,D)):b=hdE k m r D/\(0<=k/\k<=65536)/\(0<=m/\m<=65536)/\(0<=r/\r<=4096)/\0<=D/\D<4294967296:=by
 obtain⟨k',n1,f1,e1⟩:∃ k n f,rvD b 0 false=(k,n,f):=⟨_,_,_,rfl⟩
 obtain⟨m',n2,f2,e2⟩:∃ k n f,rvD b n1 f1=(k,n,f):=⟨_,_,_,rfl⟩
 obtain⟨r',n3,f3,e3⟩:∃ k n f,rvD b n2 f2=(k,n,f):=⟨_,_,_,rfl⟩
 unfold hdD at h;rw[e1] at h;dsimp only at h;rw[e2] at h;dsimp only at h;rw[e3] at h;dsimp only at h
 by_cases c:f3=true∨(b.length:Int)-n3≠4∨65536<k'∨65536<m'∨4096<r'
 .rw[Zj c] at h;cases h
 rw[Zf c] at h;have h:=Zai h;injection h with h1 h
 injection h with h2 h
 injection h with h3 h4
 have g3:f3=false:=by cases f3 with
  | false=>rfl
  | true=>exact absurd (.inl rfl) c
 subst g3;have g2:=Ydv e3;subst g2;have g1:=Ydv e2;subst g1;have ln:(b.length:Int)-n3=4:=ZY fun q=>c (.inr (.inl q))
 have c1:¬ 65536<k':=fun q=>c (.inr (.inr (.inl q)))
 have c2:¬ 65536<m':=fun q=>c (.inr (.inr (.inr (.inl q))))
 have c3:¬ 4096<r':=fun q=>c (.inr (.inr (.inr (.inr q))))
 subst h1 h2 h3;obtain⟨s1,es1,en1,u1⟩:=YcO (p:=[]) (s:=b) hb e1;rw[ZS] at en1;subst es1;rw[en1] at e2;obtain⟨s2,es2,en2,u2⟩:=YcO hb e2;subst es2;rw[<-Zo] at e3 hb;rw[en2] at e3;obtain⟨s3,es3,en3,u3⟩:=YcO hb e3;subst es3
 have l4:s3.length=4:=by
  rw[en3] at ln;simp only[Zh] at ln;omega
 have b4:allB s3:=Ycm (p:=vE 10 k'++vE 10 m'++vE 10 r') (by simpa [Zo] using hb);have w:=Yqu 4 s3 l4 b4
 have e4:D=wD s3:=by
  rw[<-h4,en3,Zau,show vE 10 k'++(vE 10 m'++(vE 10 r'++s3))=(vE 10 k'++vE 10 m'++vE 10 r')++s3 by simp[Zo],Zcc]
 refine⟨?_,⟨u1,by omega⟩,⟨u2,by omega⟩,⟨u3,by omega⟩,by rw[e4];exact w.2,?_⟩
 .unfold hdE vsE;rw[e4,w.1];simp[Zab,Zo]
 .rw[e4]
  match s3,l4,b4 with
  | [a,b,c,d],_,b4 =>
   have:=b4 a (by simp);have:=b4 b (by simp);have:=b4 c (by simp);have:=b4 d (by simp);show 256*(256*(256*(256*0+a)+b)+c)+d<_;omega
theorem Ywz {b:LI}{at_ u n:Int}(hb:allB b)(h0:0<=at_)(h1:at_<=b.length)(h:uvD b at_=(u,n,0)):u<18446744073709551616:=by
 obtain⟨v,k,e,hv⟩:∃ v k e,vD 12 13 0 (b.drop at_.toNat) 0=(v,k,e):=⟨_,_,_,rfl⟩
 rw[YaY h0 h1 hv] at h
 by_cases c:e=0
 .subst c;rw[Zj rfl] at h;injection h with h1 _
  subst h1;exact YsO _ 0 0 v k (fun x hx=>hb x (Zaj hx)) (by omega) (by omega) (by decide) hv
 .rw[Zf c] at h;injection h with _ h
  injection h with _ h
  exact absurd h c
theorem Yon {p s:LI}{u n:Int}(hb:allB (p++s))(h:rvD (p++s) p.length false=(u,n,false)):u<18446744073709551616:=by
 obtain⟨v,k,e,hv⟩:∃ v k e,uvD (p++s) p.length=(v,k,e):=⟨_,_,_,rfl⟩
 have h':(v,k,e != 0)=(u,n,false):=by rw[<-h];unfold rvD;rw[hv];rfl
 injection h' with h1 h'
 injection h' with h2 h3
 have e0:e=0:=by simpa using h3
 rw[e0,h1,h2] at hv;exact Ywz hb (by omega) (by rw[Zh];omega) hv
theorem YtB {b:LI}{own:Int}{x:PNT}(hb:allB b)(h:ndQ own b=some x):b=encN x/\okP x/\x.left<own/\x.right<own:=by
 obtain⟨k,n1,f1,e1⟩:∃ k n f,ryD b 0 false=(k,n,f):=⟨_,_,_,rfl⟩
 obtain⟨v,n2,f2,e2⟩:∃ k n f,rvD b n1 f1=(k,n,f):=⟨_,_,_,rfl⟩
 obtain⟨l,n3,f3,e3⟩:∃ k n f,rvD b n2 f2=(k,n,f):=⟨_,_,_,rfl⟩
 obtain⟨r,n4,f4,e4⟩:∃ k n f,rvD b n3 f3=(k,n,f):=⟨_,_,_,rfl⟩
 unfold ndQ at h;rw[e1] at h;dsimp only at h;rw[e2] at h;dsimp only at h;rw[e3] at h;dsimp only at h;rw[e4] at h;dsimp only at h
 by_cases c:f4=true∨n4≠(b.length:Int)∨own<=l∨own<=r
 .rw[Zj c] at h;cases h
 rw[Zf c] at h;have h:=Zai h;subst h
 have g4:f4=false:=by cases f4 with
  | false=>rfl
  | true=>exact absurd (.inl rfl) c
 subst g4;have g3:=Ydv e4;subst g3;have g2:=Ydv e3;subst g2;have g1:=Ydv e2;subst g1;have ln:n4=(b.length:Int):=ZY fun q=>c (.inr (.inl q))
 have c1:¬ own<=l:=fun q=>c (.inr (.inr (.inl q)))
 have c2:¬ own<=r:=fun q=>c (.inr (.inr (.inr q)))
 have kr:=(YnT hb e1).1;obtain⟨s1,es1,en1⟩:=Ytz (p:=[]) (s:=b) hb e1;rw[ZS] at en1;subst es1;rw[en1] at e2;obtain⟨s2,es2,en2,u2⟩:=YcO hb e2;have t2:=Yon hb e2;subst es2;rw[<-Zo] at e3 e4 hb;rw[en2] at e3;obtain⟨s3,es3,en3,u3⟩:=YcO hb e3;have t3:=Yon hb e3;subst es3;rw[<-Zo] at e4 hb;rw[en3] at e4;obtain⟨s4,es4,en4,u4⟩:=YcO hb e4;have t4:=Yon hb e4;subst es4
 have z:s4=[]:=by
  rw[en4] at ln;simp only[Zh] at ln;exact Zaz.1 (by omega)
 subst z;refine⟨?_,⟨kr,?_,⟨u3,t3⟩,u4,t4⟩,by show l<own;omega,by show r<own;omega⟩
 .unfold encN vsE;rw[show zz (uz v)=v from YxB u2];simp[Zab,Zo]
 .have:=Yvb u2 (by omega);exact this
theorem Yoo (top:Int):∀ (n:Nat) (p s rs:LI) (q:Int),allB (p++s)->tlG top (p++s) n p.length=some (rs,q)->∃ s',s=rs.flatMap (vE 10)++s'/\q=((p++rs.flatMap (vE 10)).length:Nat)/\rs.length=n/\∀ r∈rs,0<=r/\r<=top
 | 0,p,s,rs,q,_,h=>by
  have h:=Zai h;injection h with h1 h2
  subst h1;exact⟨s,by simp,by rw[<-h2];simp,rfl,fun r hr=>by cases hr⟩
 | n+1,p,s,rs,q,hb,h=>by
  obtain⟨u,n1,f,e1⟩:∃ k n f,rvD (p++s) p.length false=(k,n,f):=⟨_,_,_,rfl⟩
  unfold tlG at h;rw[e1] at h;dsimp only at h
  by_cases c:f=true∨top<u
  .rw[Zj c] at h;cases h
  rw[Zf c] at h
  have g:f=false:=by cases f with
   | false=>rfl
   | true=>exact absurd (.inl rfl) c
  subst g;have c2:¬ top<u:=fun q=>c (.inr q)
  obtain⟨s1,es1,en1,u1⟩:=YcO hb e1;subst es1;rw[<-Zo] at h hb;rw[en1] at h;cases ht:tlG top (p++vE 10 u++s1) n ((p++vE 10 u).length:Nat) with
  | none=>rw[ht] at h;cases h
  | some w =>
   rw[ht] at h;have h:=Zai h;injection h with h1 h2
   obtain⟨rs',q'⟩:=w;obtain⟨s2,es2,eq2,el,er⟩:=Yoo top n (p++vE 10 u) s1 rs' q' hb ht;subst h1;refine⟨s2,by rw[es2,Zab,Zo],?_,by rw[ZQ,el],fun r hr=>?_⟩
   .rw[<-h2,Zab,<-Zo];exact eq2
   .rcases ZH.1 hr with e|e
    .rw[e];omega
    .exact er r e
theorem YtC {top:Int}{n:Nat}{b rs:LI}(hb:allB b)(h:tlD top n b=some rs):b=vsE [] rs/\rs.length=n/\∀ r∈rs,0<=r/\r<=top:=by
 unfold tlD at h;cases ht:tlG top b n 0 with
 | none=>rw[ht] at h;cases h
 | some w =>
  obtain⟨l,q⟩:=w;rw[ht] at h;dsimp only at h
  by_cases c:q=(b.length:Int)
  .rw[Zj c] at h;have h:=Zai h;subst h;obtain⟨s',e1,e2,e3,e4⟩:=Yoo top n [] b l q hb ht;rw[ZS] at e2
   have z:s'=[]:=by
    have:=ZT List.length e1;rw[Zh] at this;exact Zaz.1 (by omega)
   refine⟨?_,e3,e4⟩;unfold vsE;rw[ZS,e1,z,ZR]
  .rw[Zf c] at h;cases h
theorem Yop:∀ (m b:LI),mgD m b=0->∃ s,b=m++s
 | [],b,_=>⟨b,rfl⟩
 | _::_,[],h=>by unfold mgD at h;cases h
 | c::m,d::b,h=>by
  unfold mgD at h
  by_cases q:d=c
  .rw[Zj q] at h;obtain⟨s,e⟩:=Yop m b h;exact⟨s,by rw[e,q];rfl⟩
  .rw[Zf q] at h;cases h
theorem Yoq (x:PNT)(xs:LP):getN (x::xs) 0=x:=rfl
theorem YtD (k:Int)(n:Nat):∀ (p s:LI) (ns0 ns:LP) (q:Int),allB (p++s)->nsD (p++s) k n p.length ns0=(0,ns,q) →
  ∃ xs s',ns=ns0++xs/\xs.length=n/\s=fsN xs++s'/\q=((p++fsN xs).length:Nat)/\∀ i,i<xs.length->okP (getN xs i)/\(getN xs i).left<=k+ns0.length+i/\(getN xs i).right<=k+ns0.length+i:=by
 induction n with
 | zero =>
  intro p s ns0 ns q hb h;have h:((0:Int),ns0,(p.length:Int))=(0,ns,q):=h;injection h with _ h
  injection h with h1 h2
  exact⟨[],s,by rw[ZR];exact h1.symm,rfl,rfl,by rw[<-h2,show fsN []=[] from rfl,ZR],fun i hi=>absurd hi (Zbv _)⟩
 | succ n ih =>
  intro p s ns0 ns q hb h;obtain⟨f,n1,e,e1⟩:∃ f n e,nxD (p++s) p.length=(f,n,e):=⟨_,_,_,rfl⟩
  rw[Ydq e1] at h
  by_cases c:e≠0
  .rw[Zj c] at h;injection h with h _
   exact absurd h c
  rw[Zf c] at h;have e0:e=0:=ZY c;subst e0;obtain⟨s1,es,en,fl⟩:=YjK hb e1;clear e1;rw[es] at h hb ⊢;clear es;have fb:allB (frE f):=fun x hx=>hb x (Zaf _ (ZZ _ hx))
  have fb:allB f:=fun x hx=>fb x (ZZ _ (Zaf _ hx))
  generalize hn:ndQ (k+ns0.length+1) f=o at h;cases o with
  | none =>
   injection h with h _
   cases h
  | some x =>
   dsimp only at h;rw[<-Zo] at h hb;rw[en] at h;obtain⟨fe,ok,l1,l2⟩:=YtB fb hn;obtain⟨xs,s2,a1,a2,a3,a4,a5⟩:=ih (p++frE f) s1 (ns0++[x]) ns q hb h;refine⟨x::xs,s2,by rw[a1,Zo];rfl,by rw[ZQ,a2],?_,?_,fun i hi=>?_⟩
   .rw[a3,fe];unfold fsN;rw[Zab,Zo]
   .rw[a4,fe];unfold fsN;rw[Zab,<-Zo]
   .cases i with
    | zero =>
     rw[Yoq];exact⟨ok,by omega,by omega⟩
    | succ i =>
     have b:=a5 i (by simpa using hi);rw[Zh,Zr] at b;rw[Yiy];exact⟨b.1,by omega,by omega⟩
theorem YcP {b:LI}{p:PKT}(hb:allB b)(h:pkD b=(0,p)):b=pkE p.known p.digest p.nodes p.roots/\PkOk p.known p.digest p.nodes p.roots:=by
 unfold pkD at h
 by_cases c0:mgD magB b≠0
 .rw[Zj c0] at h;injection h with h _
  exact absurd h c0
 rw[Zf c0] at h;obtain⟨s,es⟩:=Yop magB b (ZY c0);subst es;obtain⟨f,n1,e,e1⟩:∃ f n e,nxD (magB++s) 4=(f,n,e):=⟨_,_,_,rfl⟩
 rw[e1] at h;dsimp only at h
 by_cases c1:e≠0
 .rw[Zj c1] at h;injection h with h _
  exact absurd h c1
 rw[Zf c1] at h;have z1:e=0:=ZY c1;subst z1;obtain⟨s1,es1,en1,fl⟩:=YjK (p:=magB) hb e1;clear e1;rw[es1] at h hb ⊢;clear es1;have fb:allB f:=fun x hx=>hb x (Zaf _ (ZZ _ (ZZ _ (Zaf _ hx))))
 generalize hh:hdD f=o at h;cases o with
 | none =>
  injection h with h _
  cases h
 | some w =>
  obtain⟨k,m,r,D⟩:=w;dsimp only at h;obtain⟨fe,rk,rm,rr,rD⟩:=YtA fb hh;rw[<-Zo] at h hb;obtain⟨e2,ns,n2,h2⟩:∃ e ns n,nsD (magB++frE f++s1) k m.toNat n1 []=(e,ns,n):=⟨_,_,_,rfl⟩
  rw[h2] at h;dsimp only at h
  by_cases c2:e2≠0
  .rw[Zj c2] at h;injection h with h _
   exact absurd h c2
  rw[Zf c2] at h;have z2:e2=0:=ZY c2;subst z2;rw[en1] at h2;obtain⟨xs,s2,a1,a2,a3,a4,a5⟩:=YtD k m.toNat (magB++frE f) s1 [] ns n2 hb h2;rw[ZS] at a1;subst a1;subst a3;rw[<-Zo] at h hb;obtain⟨g,n3,e3,h3⟩:∃ g n e,nxD (magB++frE f++fsN ns++s2) n2=(g,n,e):=⟨_,_,_,rfl⟩
  rw[h3] at h;dsimp only at h
  by_cases c3:e3≠0
  .rw[Zj c3] at h;injection h with h _
   exact absurd h c3
  rw[Zf c3] at h;have z3:e3=0:=ZY c3;subst z3;rw[a4] at h3;obtain⟨s3,es3,en3,gl⟩:=YjK hb h3;clear h3;rw[es3] at h hb;have gb:allB g:=fun x hx=>hb x (Zaf _ (ZZ _ (ZZ _ (Zaf _ hx))))
  generalize ht:tlD (k+ns.length) r.toNat g=o at h;cases o with
  | none =>
   injection h with h _
   cases h
  | some rs =>
   dsimp only at h;obtain⟨ge,rl,rg⟩:=YtC gb ht
   by_cases c4:n3=((magB++frE f++fsN ns++(frE g++s3)).length:Int)
   .rw[Zj c4] at h;injection h with _ h
    subst h
    have z:s3=[]:=by
     rw[en3] at c4;simp only[Zh] at c4;exact Zaz.1 (by omega)
    have em:(ns.length:Int)=m:=by omega
    have er:(rs.length:Int)=r:=by omega
    refine⟨?_,⟨rk,by show ns.length<=65536;omega,by show rs.length<=4096;omega,rD,fun i hi=>?_,rg⟩⟩
    .show _=pkE k D ns rs;unfold pkE;rw[Yhd,em,er,es3,z,ZR,ge,fe];unfold rcE;simp only[Zo]
    .have q:=a5 i hi;rw[show (([]:LP).length:Int)=0 from rfl,Zcz] at q;exact q
   .rw[Zf c4] at h;injection h with h _
    cases h
end Go.Proofs.YtedfbafngmicpaaGreat.Sx
