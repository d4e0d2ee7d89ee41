/- What every law's last step leans on. -/
import Derived.Test.YtedfbafngmicpaaGreatG0
import Derived.Test.YtedfbafngmicpaaGreatG11
import Derived.Test.YtedfbafngmicpaaGreatG9
import Derived.Test.YtedfbafngmicpaaGreatG6
import Derived.Test.YtedfbafngmicpaaGreatG3
import Derived.Test.YtedfbafngmicpaaGreatG7
import Derived.Test.YtedfbafngmicpaaGreatG5
import Derived.Test.YtedfbafngmicpaaGreatG8
import Derived.Test.YtedfbafngmicpaaGreatG10
import Derived.Test.YtedfbafngmicpaaGreatProg
import Derived.Test.YtedfbafngmicpaaGreatChecked
noncomputable section
open Go.IntKind renaming i64 → Za,u64 → Zd
open Go.Value renaming bool → Zi,int → Zm
open Int renaming toNat → Zq
open List renaming drop → Zp,take → Zn
namespace Go.Proofs.YtedfbafngmicpaaGreat.Sx
open Go
section
theorem YkX {l:LI}{f:Int->Int}{i:Nat}(h:i<l.length):getB (l.map f) i=f (getB l i):=by
 show (l.map f).getD i 0=f (l.getD i 0);rw[Zb,Zb,Zv,Zk h];rfl
structure ImD (S:Arn) (hs:LI) (A:LS) (S2:Arn) (rts o:LI):Prop where
 len:o.length=rts.length
 wf:Wf S2 (o.reverse++hs)
 tr:∀ i,i<o.length->∃ t,RepD A t (getB rts i)/\Rep S2 t (getB o i)/\Asc t.list/\t.Bal/\t.size<=A.length
 ul:S2.used.length=S.used.length
 rd:S2.reads<=S.reads+200000000000
section
variable {S S' S2:Arn} {hs ks b lk o:LI} {p:PKT}
theorem YtT (h:KnB S hs ks)(ab:allB b)(hp:pkD b=(0,p))(F:FtR p.known p.digest p.nodes p.roots S ks S' 0)(r:MkR p.known p.nodes p.roots S' ks S2 o)(n:Yx S ks [] lk)(t:ImT S lk p):ImD S hs (allR (Yg S) lk p.nodes) S2 (rtR (Yg S) lk p.roots) o:=by
 have pk:=(YcP ab hp).2;obtain⟨lk',ix,m,n',e,mo,hm,_⟩:=mk_r h pk F r;obtain rfl:=n'.det n;have eo:o=rtG ix p.roots:=mo.eo;have ol:o.length=p.roots.length:=by rw[eo];unfold rtG;rw[Zu]
 refine⟨by rw[ol,Zu],mo.wf,fun i hi=>?_,mo.ul,by rw[mo.rd];show S.reads+(m:Int)<=_;omega⟩;have hi2:i<p.roots.length:=by omega
 have rm:=Yj hi2;have rr:=pk.rr _ rm;obtain⟨t1,t2,t3,t4⟩:=t.tr _ rm;have q:=mo.rep _ rr.1 (by omega);rw[Yrx] at q;refine⟨_,?_,?_,t2,t3,t4⟩
 .rw[YkX hi2];exact t1
 .rw[eo];unfold rtG;rw[YkX hi2];exact q
end
end
structure ExO (S:Arn) (hs ks rs:LI) (S':Arn) (o:LI):Prop where
 st:∃ m,S'=rdS S m/\m<=400000
 ab:allB o
 bl:o.length<=8000000
 p:∃ lk la D,RtP S hs ks rs lk la D o
def tExr:Tfm C0:=fun args H K=>match args with
 | [.at (.ptr 0 0),.at (.slc 7),.at (.slc 8)]=>wrM H fun S rs ks=>∃ hs,RtB S hs ks rs/\∀ S' o,ExO S hs ks rs S' o->K (.tup [.at (.slc 9),.at (vI 0)]) (chS S'++[.row false .u32 rs,.row false .u32 ks,.row true .u8 o]) [0]
 | _=>False
theorem Yze:Tb C0 12 tExr:=s_exp.weak fun args H K h=>by
 unfold tExr at h;unfold tExp;split at h<;>try exact h.elim
 unfold wrM arMr at h ⊢;iterate 2 (split at h<;>try exact h.elim)
 obtain⟨hs,h1,h2⟩:=h;obtain⟨w1,w2,w3⟩:=h1.wr;refine⟨w1,w2,w3,fun S' o w=>h2 S' o ?_⟩;obtain⟨a,b,c,d⟩:=h1.out w;exact⟨a,b,c,d⟩
def FrB (S:Arn)(ks rs:LI):Prop:=∀ lk la,Yx S ks [] lk->Yx S rs lk la->((la.length-lk.length:Nat):Int)<=S.free
def ImR (S:Arn)(hs ks rs:LI)(S2:Arn)(x:LI):Prop:=∃ lk la nw m,ImO S hs ks rs lk la nw m S2 x
def tImr:Tfm C0:=fun args H K=>match args with
 | [.at (.ptr 0 0),.at (.slc 7),.at (.slc 8)]=>imM H fun S b ks=>∃ S0 hs rs,RtB S0 hs ks rs/\S0.reads<=10000000000000000/\ExO S0 hs ks rs S b/\FrB S0 ks rs/\∀ S2 x,ImR S0 hs ks rs S2 x->K (.tup [.at (.slc 9),.at (vI 0)]) (chS S2++[.row false .u8 b,.row false .u32 ks,.row true .u32 x]) W7
 | _=>False
theorem Yzf:Tb C0 15 tImr:=s_imp.weak fun args H K h=>by
 unfold tImr at h;unfold tImp;split at h<;>try exact h.elim
 unfold imM arMr at h ⊢;iterate 2 (split at h<;>try exact h.elim)
 obtain⟨S0,hs,rs,h1,h2,h3,h4,h5⟩:=h;obtain⟨lk,la,D,p⟩:=h3.p;obtain⟨m,es,hm⟩:=h3.st;have fr:=h4 lk la p.ex.nk p.ex.na;rw[es];refine⟨p.imB h1 (by omega) h3.ab h3.bl,fun e q hq ne=>?_,fun e q S' hq f ne=>?_,fun q S' S2 o hq f r=>h5 S2 o ?_⟩
 .rw[p.dec] at hq;injection hq with hq _
  exact absurd hq.symm ne
 .rw[p.dec] at hq;injection hq with _ hq
  subst hq;exact absurd (p.fit fr f) ne
 .rw[p.dec] at hq;injection hq with _ hq
  subst hq;obtain⟨nw,q,w⟩:=p.imO h1 (by omega) (by omega) f r;exact⟨lk,la,nw,q,w⟩
def OkT (S:Arn)(r:Int):Prop:=∃ t,Rep S t r/\Asc t.list/\t.Bal/\RngL t.list
theorem YoF {S:Arn}{hs ks rs:LI}(w:Wf S hs)(hl:hs.length<=900000)(hr:S.reads<=10000000000000000)(kl:ks.length<=4096)(rl:rs.length<=4096)(h:∀ r∈ks++rs,OkT S r):RtB S hs ks rs:=by
 have kv:KnV S (ks++rs):=fun r hm=>by
  obtain⟨t,a,b,c,_⟩:=h r hm;exact⟨t,a,b,c⟩
 have ky:KyN S (ks++rs):=Ywr w fun r hm=>by
  obtain⟨t,a,_,_,d⟩:=h r hm;exact⟨t,a,d⟩
 have av:∀ r∈ks++rs,inU r:=fun r hm=>by
  obtain⟨t,a,_⟩:=h r hm;exact YW w a.us
 exact⟨⟨w,hl,fun r hm=>kv r (ZZ _ hm),fun r hm=>av r (ZZ _ hm),KyN.left w ky,by omega,by omega⟩,kv,ky,fun r hm=>av r (Zaf _ hm),rl⟩
theorem YwT {S:Arn}{hs ks rs:LI}(w:Wf S hs)(h:∀ r∈rs,OkT S r)(hf:(((rs.map fun r=>(trA S r).size).sum:Nat):Int)<=S.free):FrB S ks rs:=fun lk la n1 n2=>by
 have:=Yqo n2 (w.us0 (ZE 0)) fun r hm=>by
  obtain⟨t,a,_⟩:=h r hm;exact⟨t,a⟩
 omega
def Yzg:Ann C0:={ Γ:=[(9,Yc [] YpJ),(12,Yc [] tExr),(15,Yc [] tImr),(41,Yc [] Yfy)] }
def YtU:Tfm C0:=fun args H K=>match args,H with
 | [],[]=>K (.one (.at (vB true))) [] []
 | _,_=>False
theorem ImO.new {S:Arn}{hs ks rs lk la nw:LI}{m:Nat}{S2:Arn}{x:LI}(h:ImO S hs ks rs lk la nw m S2 x){i:Int}(hi:i∈la)(hn:i∉lk):getB (0::(lk++nw)) (plcN la i).toNat∈nw:=by
 obtain⟨z,ez,zl⟩:=h.ax;obtain⟨a,b⟩:=YgK hi;generalize plcN la i=P at a b ⊢;have hp:=(Zt.1 a).1;rw[ez,Zh] at hp
 have ge:lk.length<=(P-1).toNat:=ZY fun q=>by
  rw[ez,ZB (by omega)] at a;exact hn (ZD a)
 rw[show P.toNat=(P-1).toNat+1 by omega];show getB (lk++nw) (P-1).toNat∈nw;rw[show (P-1).toNat=lk.length+((P-1).toNat-lk.length) by omega,YaD];exact Yj (by omega)
theorem btY {b:Bool}{t f:Prop}(h:b=true)(ht:t):brS b t f:=by rw[h];exact ht
theorem YtV (K:KT)(h:K (.one (.at (vB true))) [] []):vc C0 Yzg Tryz.f10 [] [] (Yh 0 K):=by
 refine Eq.mp (show ((0:Int)<=0/\(1:Int)<=1/\(1:Int)<=30000/\([(1,10)]:LE).length<=30000/\∀ S':Arn,∀ i:Int,PlantR (newS ((↑([(1,10)]:LE).length:Int)+1).toNat) [] ([(1,10)]:LE) S' i->∃ hs:LI,RtB S' hs [] [i]/\∀ S'1:Arn,∀ o:LI,ExO S' hs [] [i] S'1 o->∃ S0:Arn,∃ hs1:LI,∃ rs:LI,RtB S0 hs1 [] rs/\S0.reads<=10000000000000000/\ExO S0 hs1 [] rs S'1 o/\FrB S0 [] rs/\∀ S2:Arn,∀ x:LI,ImR S0 hs1 [] rs S2 x->brS ((x.length:Int)==1) ((0:Int)<=0/\0<(x.length:Int)/\brS (getB x (Zq 0) != i) ((0:Int)<=0/\0<(x.length:Int)/\inU (getB x (Zq 0))/\exW S2/\S2.reads<4000000000000000000/\∀ S'2:Arn,S'2=(rdS S2 (S2.us (getB x (Zq 0))).toNat)->K (.one (.at (.val (Zi ((S2.nd (getB x (Zq 0))).size==1))))) [] []) (K (.one (.at (.val (Zi false)))) [] [])) (K (.one (.at (.val (Zi false)))) [] []))=_ by kernel_rfl) ?_;refine⟨by decide,by decide,by decide,by decide,fun S i pl=>?_⟩;have hw:=pl.wf;obtain⟨t,rp,tl,bal⟩:=pl.rep;have t1:t.size=1:=by rw[<-t.list_len,tl];rfl
 have ui:S.us i=true:=by
  cases t with
  | nil=>cases t1
  | node _ _ _ _=>exact rp.1
 have hr:S.reads=0:=by rw[pl.rds];rfl
 have fr:S.free=1:=by
  have a:=hw.free_nonneg.2.2.2;have b:=pl.len;have c:=pl.nu;unfold Arn.cap at a;rw[b,c] at a;exact a
 have ok:OkT S i:=⟨t,rp,by rw[tl];exact List.pairwise_singleton _ _,bal,by rw[tl];intro z hz;rw[ZL.1 hz];unfold rngI;exact⟨⟨by decide,by decide⟩,by decide,by decide⟩⟩
 have oks:∀ r∈[i],OkT S r:=fun r hr=>by rw[ZL.1 hr];exact ok
 have et:trA S i=t:=Ycs hw rp;have rt:RtB S [i] [] [i]:=YoF hw (by simp) (by rw[hr];decide) (by simp) (by simp) oks;refine⟨[i],rt,fun S1 o ex=>⟨S,[i],[i],rt,by rw[hr];decide,ex,YwT hw oks (by rw[fr];show (((trA S i).size+0:Nat):Int)<=1;rw[et,t1];decide),fun S2 x im=>?_⟩⟩;obtain⟨lk,la,nw,m,im⟩:=im;have e0:lk=[]:=by cases im.ex.nk;rfl
 subst e0;have hi:i∈la:=im.ex.na.roots i (by simp) ui;have xe:=im.ex_;rw[ZcI] at xe;have hnew:=im.new hi (by simp);have rr:=im.rep i (.inr hi);generalize getB (0::([]++nw)) (plcN la i).toNat=x0 at xe hnew rr;subst xe
 have ne:(x0 != i)=true:=by
  refine bne_iff_ne.2 fun q=>?_
  have:=im.fresh x0 hnew;rw[q,ui] at this;cases this
 have u2:S2.us x0=true:=(im.us x0).2 (.inr hnew);have sz:(S2.nd x0).size=1:=by rw[rr.size im.wf,et,t1];rfl
 have rd:=im.rd;have hm:=im.hm;show brS ((([x0]:LI).length:Int)==1) _ _;refine btY rfl ⟨by decide,by show (0:Int)<1;decide,?_⟩;rw[show getB [x0] (Zq 0)=x0 from rfl];refine btY ne ⟨by decide,by show (0:Int)<1;decide,YW im.wf (.inr u2),⟨_,im.wf⟩,by rw[rd,hr];omega,fun S3 _=>?_⟩;rw[sz];exact h
theorem YwU:Tb C0 10 YtU:=by
 refine .of Tryz.func10 (by decide) rfl fun args H K h hB=>?_
 unfold YtU at h;split at h<;>try exact h.elim
 refine⟨_,?_,YtV K h⟩;exact⟨Ye C0.ok Yrd _,Ye C0.ok Yze _,Ye C0.ok Yzf _,Ye C0.ok YdU _,trivial⟩
def Kin (l:LE):Prop:=∀ x∈l, -9223372036854775808<=x.1/\x.1<=9223372036854775807
end Go.Proofs.YtedfbafngmicpaaGreat.Sx
namespace Go.Proofs.YtedfbafngmicpaaGreat
open Go
section
variable {S S' S1 S2:Arn} {hs h1 h2 hs1 hs2:LI}

theorem Yfq {α:Type}(p q:α->Bool):∀ l:List α,l.countP (fun x=>p x || q x)<=l.countP p+l.countP q
 | []=>by simp
 | a::l=>by
  have ih:=Yfq p q l;simp only[Zbc];cases p a<;>cases q a<;>simp<;>omega
theorem YaE {α:Type}(p q:α->Bool):∀ l:List α,(∀ x∈l,p x=true->q x=true)->l.countP p<=l.countP q
 | [],_=>by simp
 | a::l,h=>by
  have ih:=YaE p q l fun x hx=>h x (Zz _ hx)
  have h0:=h a (ZP ..);simp only[Zbc];cases e:p a<;>cases f:q a<;>simp_all<;>omega
theorem Yma (n:Nat)(a:Int):(List.range n).countP (fun i:Nat=>decide ((i:Int)=a))<=1:=by
 have h:=List.nodup_iff_count.1 (List.nodup_range (n:=n)) a.toNat;refine Zap (YaE _ (fun i=>i==a.toNat) _ fun x _ hx=>?_) h;have:(x:Int)=a:=Zc hx;simp;omega
theorem YfX (n:Nat):∀ L:LI,(List.range n).countP (fun i:Nat=>decide ((i:Int)∈L))<=L.length
 | []=>by simp
 | a::L=>by
  have ih:=YfX n L;have h1:=Yma n a;have h2:=Yfq (fun i:Nat=>decide ((i:Int)=a)) (fun i:Nat=>decide ((i:Int)∈L)) (List.range n);refine Zap (YaE _ (fun i:Nat=>decide ((i:Int)=a) || decide ((i:Int)∈L)) _ fun x _ hx=>?_) (Zap h2 (by simp;omega));have hx:=Zc hx;rcases ZH.1 hx with e|e<;>simp[e]
theorem Ybr:∀ (l:List Bool),l.countP id=(List.range l.length).countP (fun i=>l.getD i false):=by
 intro l
 conv=>lhs;rw[show l=(List.range l.length).map (fun i=>l.getD i false) from (Zbd (by simp) fun i h1 h2=>by simp[Zb,h1])]
 rw[List.countP_map];rfl

open Classical in
def nuR (S:Arn)(hs:LI):Nat:=(List.range S.used.length).countP fun i:Nat=>decide (Rch S hs (i:Int))
open Classical in
theorem YwV (h:∀ i:Int,Rch S hs1 i->Rch S' hs2 i)(hl:S.used.length=S'.used.length):nuR S hs1<=nuR S' hs2:=by
 unfold nuR;rw[hl];exact YaE _ _ _ fun x _ hx=>Zat (h _ (Zc hx))
open Classical in
theorem Wf.nuR (w:Wf S hs):S.nu<=nuR S hs:=by
 unfold Arn.nu Proofs.YtedfbafngmicpaaGreat.nuR;rw[Ybr];refine YaE _ _ _ fun x _ hx=>Zat (w.reached ?_)
 unfold Arn.us;simpa using hx
theorem Rch.back (w:Wf S hs1)(w':Wf S' hs2)(hh:∀ i∈hs,i∈hs1)(st:Stay S S' hs){i:Int}(h:Rch S' hs i):Rch S hs i:=by
 have n0:S'.us 0=false:=w'.us0 (ZE 0)
 induction h with
 | root a b=>exact .root a ((w.held _ (hh _ a)).resolve_left fun e=>by rw[e,n0] at b;cases b)
 | left a b ih =>
  have e:=(st _ ih).2.1;rw[e] at b ⊢;exact .left ih ((w.kid _ ih.us).1.resolve_left fun e=>by rw[e,n0] at b;cases b)
 | right a b ih =>
  have e:=(st _ ih).2.1;rw[e] at b ⊢;exact .right ih ((w.kid _ ih.us).2.resolve_left fun e=>by rw[e,n0] at b;cases b)
theorem Got.nuR {m r:Nat}(g:Got S hs m r S' hs2)(w:Wf S hs1)(hh:∀ i∈hs,i∈hs1):nuR S' hs<=nuR S hs:=YwV (fun _ h=>h.back w g.wf hh g.stay) g.len
def inT (S:Arn):Tr->Int->LI
 | .nil,_=>[]
 | .node l _ _ r,i=>i::(inT S l (S.nd i).left++inT S r (S.nd i).right)
theorem YjM:∀ (t:Tr) (i:Int),(inT S t i).length=t.size
 | .nil,_=>rfl
 | .node l _ _ r,i=>by simp[inT,Tr.size,YjM l,YjM r];omega
theorem Yhn (h0:S.us 0=false){t:Tr}{i:Int}(h:Rep S t i)(hu:S.us i=true):i∈inT S t i:=by
 cases t with
 | nil=>have e:i=0:=h;rw[e,h0] at hu;cases hu
 | node l k v r=>simp[inT]
theorem Yho (h0:S.us 0=false):∀ {t:Tr} {i j:Int},Rep S t i->j∈inT S t i->(S.us (S.nd j).left=true->(S.nd j).left∈inT S t i)/\(S.us (S.nd j).right=true->(S.nd j).right∈inT S t i)
 | .nil,_,_,_,hj=>by simp[inT] at hj
 | .node l k v r,i,j,h,hj=>by
  obtain⟨_,_,_,h4,h5⟩:=h;simp only[inT,ZH,Zx] at hj ⊢;rcases hj with rfl|hj|hj
  .exact⟨fun hu=>.inr (.inl (Yhn h0 h4 hu)),fun hu=>.inr (.inr (Yhn h0 h5 hu))⟩
  .obtain⟨a,b⟩:=Yho h0 h4 hj;exact⟨fun hu=>.inr (.inl (a hu)),fun hu=>.inr (.inl (b hu))⟩
  .obtain⟨a,b⟩:=Yho h0 h5 hj;exact⟨fun hu=>.inr (.inr (a hu)),fun hu=>.inr (.inr (b hu))⟩
theorem YqH (h0:S.us 0=false){t:Tr}{x i:Int}(h:Rep S t x)(hr:Rch S (x::hs) i):Rch S hs i∨i∈inT S t x:=by
 induction hr with
 | root a b =>
  rcases ZH.1 a with rfl|a
  .exact .inr (Yhn h0 h b)
  .exact .inl (.root a b)
 | left a b ih=>exact ih.imp (fun c=>.left c b) fun c=>(Yho h0 h c).1 b
 | right a b ih=>exact ih.imp (fun c=>.right c b) fun c=>(Yho h0 h c).2 b
open Classical in
theorem Yhp (w:Wf S hs1){t:Tr}{x:Int}(h:Rep S t x):nuR S (x::hs)<=nuR S hs+t.size:=by
 unfold nuR;have h0:S.us 0=false:=w.us0 (ZE 0);have h1:=YfX S.used.length (inT S t x);rw[YjM] at h1;have h2:=Yfq (fun i:Nat=>decide (Rch S hs (i:Int))) (fun i:Nat=>decide ((i:Int)∈inT S t x)) (List.range S.used.length);refine Zap (YaE _ (fun i:Nat=>decide (Rch S hs (i:Int)) || decide ((i:Int)∈inT S t x)) _ fun i _ hi=>?_) (by omega);rcases YqH h0 h (Zc hi) with e|e<;>simp[e]
theorem YqI {x y:Int}(w:Wf S (x::y::hs)){t u:Tr}(h:Rep S t x)(h':Rep S u y):S.cap<=S.free+nuR S hs+t.size+u.size:=by
 have a:=w.free_nonneg.2.2.2;have b:=w.nuR;have c:=Yhp (hs:=y::hs) w h;have d:=Yhp (hs:=hs) w h';omega
theorem Got.loose {m r:Nat}(g:Got S hs m r S' hs2):Got S hs 65537 r S' hs2:=⟨g.wf,g.stay,g.len,by have:=g.wf.nu_le;omega,g.rd0,g.rd⟩
theorem TrR.loose {m r:Nat}{L:LE}{i:Int}(g:TrR S hs L m r S' i):TrR S hs L 65537 r S' i:=⟨g.got.loose,g.tree⟩
end
section
theorem YqJ (a b:LE)(q:Int):getE (a++b) q=(getE a q).or (getE b q):=by
 induction a with
 | nil=>simp[getE]
 | cons x a ih =>
  have e:∀ (l:LE),getE (x::l) q=if x.1=q then some x.2 else getE l q:=fun l=>rfl
  rw[ZaW,e,e];split
  .rfl
  .exact ih
theorem Yhq {l:LE}{q:Int}(h:∀ x∈l,x.1≠q):getE l q=none:=by
 induction l with
 | nil=>rfl
 | cons x l ih =>
  unfold getE;rw[Zf (h x (ZP ..)),ih fun y hy=>h y (Zz _ hy)]
theorem YoG {l:LE}{x:Ent}(h:x∈l):getE l x.1≠none:=by
 induction l with
 | nil=>cases h
 | cons y l ih =>
  unfold getE;split
  .simp
  .rename_i c;rcases ZH.1 h with rfl|h
   .exact absurd rfl c
   .exact ih h
theorem YiJ {l:LE}{q v:Int}(h:getE l q=some v):(q,v)∈l:=by
 induction l with
 | nil=>cases h
 | cons y l ih =>
  unfold getE at h;split at h
  .rename_i c;cases h;subst c;exact ZP ..
  .exact Zz _ (ih h)
theorem Yeg (p:Int->Bool)(l:LE)(q:Int):getE (flt p l) q=if p q=true then getE l q else none:=by
 induction l with
 | nil=>simp[flt,getE]
 | cons x l ih =>
  have ih':getE (l.filter fun x=>p x.1) q=_:=ih;unfold flt;rw[ZbB]
  conv=>rhs;unfold getE
  split
  .rename_i c
   conv=>lhs;unfold getE
   rw[ih']
   by_cases e:x.1=q
   .rw[Zj e,Zj (by rw[<-e];exact c),Zj e]
   .rw[Zf e,Zf e]
  .rename_i c;rw[ih']
   by_cases e:x.1=q
   .rw[Zf (by rw[<-e];exact c),Zf (by rw[<-e];exact c)]
   .rw[Zf e]
theorem YtW (p q:Int->Bool)(h:∀ k,p k=true->q k=false)(l:LE):(flt p l).length+(flt q l).length<=l.length:=by
 induction l with
 | nil=>simp[flt]
 | cons x l ih =>
  unfold flt at *;rw[ZbB,ZbB];have:=h x.1;cases e:p x.1<;>cases e':q x.1<;>simp_all<;>omega

structure SetR (f:Option Int->Option Int->Option Int) (l m out:LE):Prop where
 asc:Asc out
 get:∀ k,getE out k=f (getE l k) (getE m k)
 len:out.length<=l.length+m.length
variable {f:Option Int->Option Int->Option Int} {a b m p q:LE} {k v:Int}
def ltB (key:Int)(q:Int):Bool:=decide (q<key)
def gtB (key:Int)(q:Int):Bool:=decide (key<q)
theorem SetR.low (h0:f none none=none)(hl:∀ x∈a,x.1<k)(h:SetR f a (flt (ltB k) m) p):∀ x∈p,x.1<k:=fun x hx=>by
 have e:=YoG hx;rw[h.get] at e;cases ea:getE a x.1 with
 | some w=>exact hl (x.1,w) (YiJ ea)
 | none =>
  rw[ea,Yeg] at e;split at e
  .rename_i c;exact Zc c
  .exact absurd h0 e
theorem SetR.high (h0:f none none=none)(hl:∀ x∈b,k<x.1)(h:SetR f b (flt (gtB k) m) q):∀ x∈q,k<x.1:=fun x hx=>by
 have e:=YoG hx;rw[h.get] at e;cases ea:getE b x.1 with
 | some w=>exact hl (x.1,w) (YiJ ea)
 | none =>
  rw[ea,Yeg] at e;split at e
  .rename_i c;exact Zc c
  .exact absurd h0 e
theorem SetR.step (h0:f none none=none)(hl:Asc (a++(k,v)::b))(hp:SetR f a (flt (ltB k) m) p)(hq:SetR f b (flt (gtB k) m) q) :
  (∀ w,f (some v) (getE m k)=some w->SetR f (a++(k,v)::b) m (p++(k,w)::q))/\(f (some v) (getE m k)=none->SetR f (a++(k,v)::b) m (p++q)):=by
 obtain⟨_,_,la,lb⟩:=YO hl;have lp:=hp.low h0 la;have lq:=hq.high h0 lb;have two:=YtW (ltB k) (gtB k) (fun x hx=>by unfold ltB gtB at *;simp at *;omega) m;have hpl:=hp.len;have hql:=hq.len
 have pl:∀ r,r<k->getE p r=f (getE (a++(k,v)::b) r) (getE m r):=fun r hr=>by
  rw[hp.get,Yfe hl hr,Yeg,Zj (by simp[ltB,hr])]
 have pr:∀ r,k<r->getE q r=f (getE (a++(k,v)::b) r) (getE m r):=fun r hr=>by
  rw[hq.get,YdM hl hr,Yeg,Zj (by simp[gtB,hr])]
 refine⟨fun w hw=>?_,fun hn=>?_⟩
 .have ha:Asc (p++(k,w)::q):=YkA hp.asc hq.asc lp lq;refine⟨ha,fun r=>?_,by simp;omega⟩;rcases Zcf r k with c|c|c
  .rw[Yfe ha c,pl r c]
  .rw[c,Yff ha,Yff hl,hw]
  .rw[YdM ha c,pr r c]
 .refine⟨Srt.append hp.asc hq.asc fun x hx y hy=>Int.lt_trans (lp x hx) (lq y hy),fun r=>?_,by simp;omega⟩;rw[YqJ];rcases Zcf r k with c|c|c
  .rw[Yhq (l:=q) fun x hx=>by have:=lq x hx;omega,Option.or_none,pl r c]
  .rw[c,Yhq (l:=q) fun x hx=>by have:=lq x hx;omega,Yhq (l:=p) fun x hx=>by have:=lp x hx;omega,Yff hl,hn];rfl
  .rw[Yhq (l:=p) fun x hx=>by have:=lp x hx;omega,Option.none_or,pr r c]
theorem SetR.left {l:LE}(ha:Asc l)(h:∀ x,f x none=x):SetR f l [] l:=⟨ha,fun k=>by simp[getE,h],by simp⟩
theorem SetR.right {l:LE}(ha:Asc l)(h:∀ x,f none x=x):SetR f [] l l:=⟨ha,fun k=>by simp[getE,h],by simp⟩
theorem SetR.same {l:LE}(ha:Asc l)(h:∀ x,f x x=x):SetR f l l l:=⟨ha,fun k=>by rw[h],by omega⟩
theorem SetR.none {l m:LE}(h:∀ k,f (getE l k) (getE m k)=none):SetR f l m []:=⟨Srt.nil,fun k=>by rw[h];rfl,by simp⟩
theorem SetR.ext {l m x y:LE}(h:SetR f l m x)(h':SetR f l m y):x=y:=Asc.ext h.asc h'.asc fun q=>by rw[h.get,h'.get]
end
section
variable {S S' S1 S2 S3:Arn} {hs:LI} {a b tx ty tl tr u w:Tr} {k v x y xl yl xr yr i j:Int} {N:Nat}

def rdW (N s:Nat):Nat:=(60*gN (N+1)+40)*s
theorem YqK (N a b:Nat):rdW N (a+b+1)=rdW N a+rdW N b+(60*gN (N+1)+40):=by unfold rdW;rw[Nat.mul_add,Nat.mul_add,Zci]
def dW (N:Nat):Nat:=7*gN (N+1)+4
structure StM (S:Arn) (hs:LI) (tx ty:Tr) (x y:Int) (N:Nat):Prop where
 wf:Wf S (x::y::hs)
 rx:Rep S tx x
 ry:Rep S ty y
 bx:tx.Bal
 bY:ty.Bal
 ax:Asc tx.list
 ay:Asc ty.list
 sz:tx.size+ty.size<=N
 big:N<=140000
 room:nuR S hs+tx.size+ty.size+dW N<=S.cap
 hl:hs.length+2*tx.size<=300000000
 rd:S.reads+rdW N tx.size<=1200000000000000000
theorem YoH (h:S'.used.length=S.used.length):S'.cap=S.cap:=by unfold Arn.cap;rw[h]
theorem StM.free (h:StM S hs tx ty x y N):(dW N:Int)<=S.free:=by
 have e:=YqI h.wf h.rx h.ry;have:=h.room;omega
structure Mid (S0 S1:Arn) (hs:LI) (a:Tr) (k v:Int) (b ty tl tr:Tr) (xl yl xr yr:Int) (N:Nat):Prop where
 h0:∃ x y,StM S0 hs (.node a k v b) ty x y N
 first:StM S1 (xr::yr::hs) a tl xl yl N
 rb:Rep S1 b xr
 rr:Rep S1 tr yr
 el:tl.list=flt (ltB k) ty.list
 er:tr.list=flt (gtB k) ty.list
 br:tr.Bal
 got:Got S0 hs 65537 (35*gN (N+1)+6) S1 (xl::yl::xr::yr::hs)
variable {f:Option Int->Option Int->Option Int} {L R:LE}
theorem Mid.fin {S0 S4:Arn}{q:Int}{M:LE}{mk rd:Nat}{hs3:LI}(g:Got S0 hs 65537 (35*gN (N+1)+6+rdW N a.size+rdW N b.size) S3 hs3)(t:TrR S3 hs M mk rd S4 q)(hrd:rd<=20*gN (N+1)+20) :
  TrR S0 hs M 65537 (rdW N (Tr.node a k v b).size) S4 q:=by
 have zz:(Tr.node a k v b).size=a.size+b.size+1:=by simp[Tr.size];omega
 refine⟨((g.seq t.got (h:=hs) (fun _ h=>h) (fun _ h=>h)).mono (m':=65537+mk) (Zw _) ?_).loose,t.tree⟩;rw[zz,YqK];omega
open Classical in
theorem YwW:nuR S hs<=S.nu:=by
 unfold Arn.nu nuR;rw[Ybr];refine YaE _ _ _ fun z _ hz=>?_
 have:=(Zc hz:Rch S hs (z:Int)).us;unfold Arn.us at this
 simpa using this
theorem StM.start (w:Wf S hs)(rx:Rep S tx x)(ry:Rep S ty y)(bx:tx.Bal)(bY:ty.Bal)(ax:Asc tx.list)(ay:Asc ty.list)(sz:tx.size+ty.size<=140000)(hl:hs.length<=1000000)(rd:S.reads<=1000000000000000000)(need:(tx.size:Int)+ty.size+12*(Hn ((tx.size+ty.size:Nat):Int)+2)<=S.free) :
  StM (retL (retL S x) y) hs tx ty x y (tx.size+ty.size)/\Got S hs 0 0 (retL (retL S x) y) (x::y::hs):=by
 have g1:Got S hs 0 0 (retL S x) (x::hs):=YbA w rx.us (by omega);have g2:Got (retL S x) hs 0 0 (retL (retL S x) y) (y::x::hs):=YbA g1.wf (ry.retL (j:=x)).us (by simp;omega);have g:=((g1.seq g2 (h:=hs) (fun _ h=>h) (fun _ h=>h)).perm (List.Perm.swap x y hs))
 have n0:=g.nuR w (fun _ h=>h);have n1:=YwW (S:=S) (hs:=hs);have c:=w.free_nonneg.2.2.2;have ec:=YoH g.len;have gs:=YdJ (tx.size+ty.size);have g8:=Ykv (tx.size+ty.size+1);have rr:=g.rd
 have lt:rdW (tx.size+ty.size) tx.size<=4840*140000:=by
  unfold rdW;exact Nat.mul_le_mul (by omega) (by omega)
 refine⟨⟨g.wf,rx.retL.retL,ry.retL.retL,bx,bY,ax,ay,Zw _,sz,?_,by omega,by omega⟩,g.mono (Zw _) (Zw _)⟩;unfold dW;omega
end
end Go.Proofs.YtedfbafngmicpaaGreat
namespace Go.Proofs.YtedfbafngmicpaaGreat.Sx
open Go
section
variable {S S':Arn} {hs:LI}
def sumL (E:List (Int × LE)):Nat:=(E.map fun p=>p.2.length).sum
structure Hld (S:Arn) (E:List (Int × LE)):Prop where
 wf:Wf S (E.map Prod.fst)
 rep:∀ p∈E,∃ t,Rep S t p.1/\t.list=p.2/\t.Bal
 asc:∀ p∈E,Asc p.2
 kin:∀ p∈E,Kin p.2
theorem YoI (w:Wf S hs):∀ E:List (Int × LE),(∀ p∈E,∃ t,Rep S t p.1/\t.list=p.2/\t.Bal)->nuR S (E.map Prod.fst)<=nuR S []+sumL E
 | [],_=>by simp[sumL]
 | p::E,h=>by
  obtain⟨t,rp,lt,_⟩:=h p (ZP ..);have a:=Yhp (hs:=E.map Prod.fst) w rp;have b:=YoI w E fun q hq=>h q (Zz _ hq)
  have c:t.size=p.2.length:=by rw[<-t.list_len,lt]
  rw[ZaA];unfold sumL at *;rw[ZaA,List.sum_cons];omega
open Classical in
theorem YtX (_:Wf S hs):nuR S []=0:=by
 unfold nuR;refine Zbo.2 fun i _ hi=>?_
 have hr:Rch S [] (i:Int):=Zc hi;clear hi;generalize (i:Int)=j at hr
 induction hr with
 | root a _=>cases a
 | left _ _ ih=>exact ih
 | right _ _ ih=>exact ih
theorem Hld.room {E:List (Int × LE)}(h:Hld S E):S.cap<=S.free+sumL E:=by
 have a:=h.wf.free_nonneg.2.2.2;have b:=h.wf.nuR;have c:=YoI h.wf E h.rep;have d:=YtX h.wf;omega
theorem Hld.step {E:List (Int × LE)}{L:LE}{m r:Nat}{j:Int}(e:Hld S E)(tr:TrR S (E.map Prod.fst) L m r S' j)(ha:Asc L)(hk:Kin L):Hld S' ((j,L)::E) where
 wf:=tr.got.wf
 rep p hp:=by
  rcases ZH.1 hp with rfl|hp
  .exact tr.tree
  .obtain⟨t,rp,lt,bt⟩:=e.rep p hp;exact⟨t,rp.held e.wf tr.got.stay (.inr (ZF.2 ⟨p,hp,rfl⟩)),lt,bt⟩
 asc p hp:=by
  rcases ZH.1 hp with rfl|hp
  .exact ha
  .exact e.asc p hp
 kin p hp:=by
  rcases ZH.1 hp with rfl|hp
  .exact hk
  .exact e.kin p hp
theorem Hld.rd {E:List (Int × LE)}{n:Nat}(e:Hld S E)(h:S.reads+n<=4000000000000000000):Hld (rdS S n) E where
 wf:=e.wf.rd h
 rep p hp:=by
  obtain⟨t,rp,lt,bt⟩:=e.rep p hp;exact⟨t,rp.rdn,lt,bt⟩
 asc:=e.asc
 kin:=e.kin
theorem Hld.ls {E:List (Int × LE)}{x:Int}{l:LE}(e:Hld S E)(hx:(x,l)∈E)(hl:l.length<=60000):∃ t,Rep S t x/\Asc t.list/\Kin t.list/\t.size<=60000/\t.list=l:=by
 obtain⟨t,rp,lt,_⟩:=e.rep _ hx;have lt:t.list=l:=lt;have sz:t.size=l.length:=by rw[<-t.list_len,lt]
 exact⟨t,rp,by rw[lt];exact e.asc _ hx,by rw[lt];exact e.kin _ hx,by omega,lt⟩
theorem YoJ (j:Int)(L:LE)(E:List (Int × LE)):sumL ((j,L)::E)=L.length+sumL E:=by
 unfold sumL;rw[ZaA,List.sum_cons]
theorem YwX {L:LE}{m r:Nat}{j:Int}(tr:TrR S hs L m r S' j):S'.cap=S.cap:=YoH tr.got.len
end
section
def UpdR (S:Arn)(hs:LI)(t:Tr)(k:Int)(S':Arn)(j f:Int):Prop :=
 (getE t.list k=none/\f=4/\j=0/\∃ m,m<=ht t/\S'=rdS S m)∨(getE t.list k≠none/\f=0/\TrR S hs (flt (neK k) t.list) (dB t.size) (5*dB t.size+ht t+1) S' j)
def YtY:Tfm C0:=fun args H K=>match args with
 | [.at (.ptr 0 0),.at (.val (.int .u32 r)),.at (.val (.int .i64 k))]=>arM H fun S=>∃ hs t,upM S hs t r/\4*(Hn t.size+2)<=S.free ∧
  ∀ S' j v f,UpdR S hs t k S' j f->K (.tup [.at (vU j),.at (vI v),.at (vI f)]) (chS S') W7
 | _=>False
theorem YwY:Tb C0 63 YtY:=s_upD.weak fun args H K h=>by
 unfold YtY at h;unfold tUpD;split at h<;>try exact h.elim
 unfold arM at h ⊢;split at h<;>try exact h.elim
 obtain⟨hs,t,hm,hf,h⟩:=h;exact⟨hs,t,hm,fun hn S' m e hm'=>h S' 0 0 4 (.inl ⟨hn,rfl,rfl,m,hm',e⟩),fun v' _ hf'=>absurd hf (by omega),fun v' he' _ S' j tr=>h S' j v' 0 (.inr ⟨by rw[he'];simp,rfl,tr⟩)⟩
variable {S S':Arn} {E:List (Int × LE)} {x:Int} {l:LE}
theorem Hld.drop (h:Hld S ((x,l)::E))(w:Wf S' (E.map Prod.fst))(kp:Kept S S'):Hld S' E where
 wf:=w
 rep p hp:=by
  obtain⟨t,rp,lt,bt⟩:=h.rep p (Zz _ hp);have w0:Wf S (x::E.map Prod.fst):=h.wf;have g:=YnG w0 w kp;exact⟨t,rp.held w0 g.stay (.inr (ZF.2 ⟨p,hp,rfl⟩)),lt,bt⟩
 asc p hp:=h.asc p (Zz _ hp)
 kin p hp:=h.kin p (Zz _ hp)
theorem Hld.perm {E':List (Int × LE)}(h:Hld S E)(p:E.Perm E'):Hld S E' where
 wf:=h.wf.perm (p.map _)
 rep q hq:=h.rep q (p.mem_iff.2 hq)
 asc q hq:=h.asc q (p.mem_iff.2 hq)
 kin q hq:=h.kin q (p.mem_iff.2 hq)
end
section
abbrev stpG (l:List StpT)(i:Nat):StpT:=l.getD i ⟨0,(0,0),false,false⟩
abbrev enG (l:LE)(i:Nat):Ent:=l.getD i (0,0)
abbrev rowG (l:List LE)(i:Nat):LE:=l.getD i []
def RngS (l:List StpT):Prop:=∀ s∈l,rngI s.at_/\rngI s.ent.1/\rngI s.ent.2
structure FoR (sp:Int) (S:Arn) (rs:LI) (ll:List LE):Prop where
 hld:Hld S (rs.zip ll)
 len:rs.length=ll.length
 one:1<=rs.length/\rs.length<=7
 ls:∀ L∈ll,L.length<=36/\RngL L
 rd:S.reads<=1000000
 fr:sp<=S.free
 cap:S.cap<=4000
structure XFo (P:Arn->LI->List LE->Nat->Prop) where
 S:Arn
 rs:LI
 ll:List LE
 k:Nat
 h:P S rs ll k
theorem YkY:∀ t:Tr,ht t<=t.size
 | .nil=>Zw _
 | .node l k v r=>by
  have:=YkY l;have:=YkY r;rw[ht];show _<=1+l.size+r.size;split<;>omega
theorem YwZ (n:Nat):∀ d:Nat,Hn (n:Int)<=Hn ((n+d:Nat):Int)
 | 0=>ZE _
 | d+1=>by
  have a:=YwZ n d;have b:=Yhm (n+d);rw[show ((n+(d+1):Nat):Int)=((n+d:Nat):Int)+1 by omega];omega
theorem Yxa {n m:Nat}(h:n<=m):Hn (n:Int)<=Hn (m:Int):=by
 have:=YwZ n (m-n)
 rwa [show n+(m-n)=m by omega] at this
theorem YoK (l:LE)(k:Int):outE l k k=flt (neK k) l:=by
 unfold outE flt neK
 congr 1
 funext x
 by_cases h:x.1=k
 .simp[h]
 .rw[Zat (show x.1≠k from h)];simp;omega
theorem Ymb (raw:LE)(n:Nat):∀ x∈YT raw n,x∈raw:=by
 have key:∀ (l acc:LE),Asc acc->∀ x∈l.foldl insE acc,x∈acc∨x∈l:=by
  intro l
  induction l with
  | nil=>intro acc _ x hx;exact .inl hx
  | cons a l ih =>
   intro acc ha x hx;rcases ih (insE acc a) (Yed a ha) x hx with h|h
   .rcases YgE ha h with h|h
    .exact .inr (by simp[h])
    .exact .inl h
   .exact .inr (by simp[h])
 intro x hx;unfold YT at hx;rcases key (raw.take n) [] (by simp[Srt]) x hx with h|h
 .simp at h
 .exact Zac h
structure FoI (sp:Int) (L0:LE) (n:Nat) (p:Int) (S:Arn) (rs:LI) (ll:List LE) (k:Nat):Prop where
 kn:k<=n
 n6:n<=6
 l30:L0.length<=30
 lr:rs.length=k+1
 lL:ll.length=k+1
 hld:Hld S (rs.zip ll)
 ls:∀ L∈ll,L.length<=L0.length+k/\RngL L
 rd:S.reads<=20000*k
 cap:S.cap=(L0.length:Int)+1+((n:Int)+1)*(p+((L0.length:Int)+n))+sp
section
variable {sp p:Int} {L0:LE} {n:Nat} {S S':Arn} {rs:LI} {ll:List LE} {k:Nat}
theorem YjN (h:rs.length=ll.length):(rs.zip ll).map Prod.fst=rs:=List.map_fst_zip (by omega)
theorem YkZ {c:Nat}:∀ {rs:LI} {ll:List LE},(∀ L∈ll,L.length<=c)->sumL (rs.zip ll)<=ll.length*c
 | [],ll,_=>by simp[sumL]
 | r::rs,[],_=>by simp[sumL]
 | r::rs,L::ll,h=>by
  have a:=YkZ (rs:=rs) fun x hx=>h x (Zz L hx)
  have b:=h L (by simp);rw[List.zip_cons_cons,YoJ,ZQ,ZbA];show L.length+_<=_;omega
theorem FoI.eq (h:FoI sp L0 n p S rs ll k):rs.length=ll.length:=by have:=h.lr;have:=h.lL;omega
theorem FoI.mem (h:FoI sp L0 n p S rs ll k){i:Nat}(hi:i<rs.length):(rs.getD i 0,rowG ll i)∈rs.zip ll:=by
 have e:=h.eq;refine ZaS.2 ⟨i,?_⟩;rw[List.getElem?_zip_eq_some];refine⟨?_,?_⟩
 .rw[Zb,Zk hi];rfl
 .show ll[i]?=some (ll.getD i []);rw[Zb,Zk (e ▸ hi)];rfl
theorem FoI.row (h:FoI sp L0 n p S rs ll k){i:Nat}(hi:i<rs.length):rowG ll i∈ll:=by
 have e:=h.eq;show ll.getD i []∈ll;rw[Zb,Zk (e ▸ hi)];exact Zaa _
theorem FoI.room (h:FoI sp L0 n p S rs ll k):(sumL (rs.zip ll):Int)<=((k:Int)+1)*((L0.length:Int)+k)/\S.cap<=S.free+sumL (rs.zip ll):=by
 have a:=YkZ (rs:=rs) (ll:=ll) (c:=L0.length+k) fun L hL=>(h.ls L hL).1
 rw[h.lL] at a;refine⟨?_,h.hld.room⟩;have b:((sumL (rs.zip ll):Nat):Int)<=(((k+1)*(L0.length+k):Nat):Int):=by exact_mod_cast a
 rw[Int.natCast_mul] at b
 exact_mod_cast b
theorem FoI.space (h:FoI sp L0 n p S rs ll k)(hp:0<=p)(hk:k<n):p+((L0.length:Int)+n)+1+sp<=S.free:=by
 obtain⟨a,b⟩:=h.room;have c:=h.cap;have d:((k:Int)+1)*((L0.length:Int)+k)<=(n:Int)*((L0.length:Int)+n):=Zcd (by omega) (by omega) (by omega) (by omega)
 have e:((n:Int)+1)*(p+((L0.length:Int)+n))=(n:Int)*p+p+((n:Int)*((L0.length:Int)+n)+((L0.length:Int)+n)):=by
  rw[Int.mul_add,Int.add_mul,Int.add_mul,Int.one_mul,Int.one_mul]
 have f:0<=(n:Int)*p:=ZaY (by omega) hp;omega
theorem FoI.done (h:FoI sp L0 n p S rs ll n)(hp:0<=p)(hs:0<=sp)(hp2:p<=328)(hs2:sp<=1000):FoR sp S rs ll:=by
 obtain⟨a,b⟩:=h.room;have c:=h.cap;have e:((n:Int)+1)*(p+((L0.length:Int)+n))=((n:Int)+1)*p+((n:Int)+1)*((L0.length:Int)+n):=Int.mul_add _ _ _;have f:0<=((n:Int)+1)*p:=ZaY (by omega) hp;have n6:=h.n6;have:=h.lr;have l30:=h.l30;have:=h.rd;have g:((n:Int)+1)*(p+((L0.length:Int)+n))<=7*364:=Zcd (by omega) (by omega) (by omega) (by omega);exact⟨h.hld,h.eq,by omega,fun L hL=>⟨by have:=(h.ls L hL).1;omega,(h.ls L hL).2⟩,by omega,by omega,by omega⟩
theorem FoI.go (h:FoI sp L0 n p S rs ll k)(hk:k<n){L:LE}{m r:Nat}{j:Int}(tr:TrR S rs L m r S' j)(asc:Asc L)(hl:L.length<=L0.length+(k+1))(rg:RngL L)(hr:r<=20000):FoI sp L0 n p S' (rs++[j]) (ll++[L]) (k+1):=by
 have tr':TrR S ((rs.zip ll).map Prod.fst) L m r S' j:=by rw[YjN h.eq];exact tr
 have hh:=h.hld.step tr' asc fun x hx=>(rg x hx).1
 refine⟨hk,h.n6,h.l30,by rw[Zh,h.lr];rfl,by rw[Zh,h.lL];rfl,?_,fun M hM=>?_,?_,?_⟩
 .rw[List.zip_append h.eq];exact hh.perm (ZbP _ _).symm
 .rcases Zx.1 hM with c|c
  .have:=h.ls M c;exact⟨by omega,this.2⟩
  .rw[ZL.1 c];exact⟨hl,rg⟩
 .have a:=tr.got.rd;have:=h.rd;omega
 .rw[YwX tr];exact h.cap
theorem FoI.up (h:FoI sp L0 n p S rs ll k){i:Nat}(hi:i<rs.length):∃ t,upM S rs t (rs.getD i 0)/\t.list=rowG ll i/\t.size=(rowG ll i).length/\t.size<=L0.length+k:=by
 have hm:=h.mem hi;have hl:=h.ls _ (h.row hi);obtain⟨t,r,e,b⟩:=h.hld.rep _ hm;have sz:t.size=(rowG ll i).length:=by rw[<-t.list_len,e]
 have n6:=h.n6;have kn:=h.kn;have l30:=h.l30;have rd:=h.rd;have lr:=h.lr;have w:=h.hld.wf;rw[YjN h.eq] at w;refine⟨t,⟨w,r,b,by rw[e];exact h.hld.asc _ hm,by omega,by omega,by omega⟩,e,sz,by omega⟩
end
theorem YqL {l:LE}(h:Asc l){e:Ent}(he:e∈l):getE l e.1=some e.2:=by
 obtain⟨a,b,rfl⟩:=List.append_of_mem he;exact Yff h
theorem Yxb {n q:Nat}(h:n<=q):4*(Hn ((n:Int)+1)+2)<=4*(Hn ((q:Int)+1)+2):=by
 have:=Yxa (show n+1<=q+1 by omega);rw[show ((n+1:Nat):Int)=(n:Int)+1 by omega,show ((q+1:Nat):Int)=(q:Int)+1 by omega] at this;omega
end
structure XPi (P:LI->List LE->Nat->Prop) where
 r:LI
 L:List LE
 i:Nat
 h:P r L i
def bitB (b:Int)(i:Nat):Bool:=(b.fdiv (2 ^ min i IntKind.u8.bits)).tmod 2==1
def pkG (b:Int)(E:List (Int × LE)):Nat->List (Int × LE)
 | 0=>[]
 | i+1=>if bitB b i then pkG b E i++[E.getD i (0,[])] else pkG b E i
def pkZ (b:Int)(E:List (Int × LE)):List (Int × LE):=pkG b E (min E.length 7)++if 128<=b then [(0,[])] else []
def PPi (b:Int)(rs:LI)(ll:List LE):LI->List LE->Nat->Prop:=fun r L i=>i<=rs.length/\i<=7/\r=(pkG b (rs.zip ll) i).map Prod.fst/\L=(pkG b (rs.zip ll) i).map Prod.snd
theorem Yca (b:Int)(E:List (Int × LE)):∀ i,(pkG b E i).length<=i
 | 0=>Zw _
 | i+1=>by
  have:=Yca b E i;unfold pkG;split
  .rw[Zh,Zr];omega
  .omega
theorem Ycn {rs:LI}{ll:List LE}(e:rs.length=ll.length){i:Nat}(h:i<rs.length):(rs.zip ll).getD i (0,[])=(getB rs i,rowG ll i):=by
 have h2:i<ll.length:=e ▸ h;have z:(rs.zip ll)[i]?=some (rs[i],ll[i]):=List.getElem?_zip_eq_some.2 ⟨Zk h,Zk h2⟩;rw[Zb,z];show _=(rs.getD i 0,ll.getD i []);rw[Zb,Zb,Zk h,Zk h2];rfl

theorem YjO {b:Int}{E:List (Int × LE)}{q:Int × LE}:∀ {i:Nat},i<=E.length->q∈pkG b E i->q∈E
 | 0,_,h=>by cases h
 | i+1,hi,h=>by
  unfold pkG at h;split at h
  .rcases Zx.1 h with c|c
   .exact YjO (by omega) c
   .rw[ZL.1 c,Zb,Zk (by omega)];exact Zaa _
  .exact YjO (by omega) h
theorem Yhr {b:Int}{E:List (Int × LE)}{q:Int × LE}(h:q∈pkZ b E):q∈E∨q=(0,[]):=by
 unfold pkZ at h;rcases Zx.1 h with c|c
 .exact .inl (YjO (by omega) c)
 .split at c
  .exact .inr (ZL.1 c)
  .cases c
theorem Yhs (b:Int)(E:List (Int × LE)):(pkZ b E).length<=8:=by
 have:=Yca b E (min E.length 7);unfold pkZ;rw[Zh];split
 .rw[Zr];omega
 .rw[ZbE];omega
theorem FoR.ok {sp:Int}{S:Arn}{rs:LI}{ll:List LE}(h:FoR sp S rs ll){q:Int × LE}(hq:q∈rs.zip ll∨q=(0,[])):OkT S q.1/\∃ t,Rep S t q.1/\t.list=q.2/\t.Bal/\Asc q.2/\t.size<=36:=by
 rcases hq with hq|hq
 .obtain⟨t,r,e,b⟩:=h.hld.rep q hq;have l:=h.ls q.2 (List.of_mem_zip hq).2;have a:=h.hld.asc q hq;exact⟨⟨t,r,by rw[e];exact a,b,by rw[e];exact l.2⟩,t,r,e,b,a,by rw[<-t.list_len,e];exact l.1⟩
 .rw[hq];exact⟨⟨.nil,rfl,List.Pairwise.nil,trivial,fun z hz=>by cases hz⟩,.nil,rfl,rfl,trivial,List.Pairwise.nil,by decide⟩
theorem FoR.wf {sp:Int}{S:Arn}{rs:LI}{ll:List LE}(h:FoR sp S rs ll):Wf S rs:=by
 have:=h.hld.wf
 rwa [YjN h.len] at this
theorem FoR.rt {sp:Int}{S:Arn}{rs:LI}{ll:List LE}(h:FoR sp S rs ll)(b c:Int):RtB S rs ((pkZ b (rs.zip ll)).map Prod.fst) ((pkZ c (rs.zip ll)).map Prod.fst):=by
 have l1:=Yhs b (rs.zip ll);have l2:=Yhs c (rs.zip ll);have one:=h.one;have rd:=h.rd;refine YoF h.wf (by omega) (by omega) (by rw[Zu];omega) (by rw[Zu];omega) fun r hr=>?_
 rcases Zx.1 hr with c|c
 .obtain⟨q,hq,rfl⟩:=ZF.1 c;exact (h.ok (Yhr hq)).1
 .obtain⟨q,hq,rfl⟩:=ZF.1 c;exact (h.ok (Yhr hq)).1

abbrev hfO3 (raw:LE)(l:List StpT)(bb:LI)(L0:LE)(S:Arn)(rs:LI)(ll:List LE):LH C0:=[.row false .ent raw,.row false .stp l,.row false .u8 bb]++chSk 3 S++[.row false .ent L0,.row true .u32 rs,.rows .hent .ent ll]
def aFo3 (P:Arn->LI->List LE->Nat->Prop)(raw:LE)(l:List StpT)(bb:LI)(L0:LE)(n:Nat):Ann C0:={ quiet:=[9999999,8,64,18],Γ:=[(62,Yc [] tLst),(14,Yc [] (YgZ 4 1)),(9,Yc [] YpJ),(8,Yc [] tMod),(40,Yc [] YgG),(63,Yc [] YtY),(64,Yc [] tDel),(11,Yc [] YtM),(18,Yc [] tIns)],inv:=fun m=>match m with
 | 8=>some { X:=XFo P,sl:=[12,14,17,18,19],tf:=fun x=>[.one (.at (.slc 10)),.one (.at (.ptr 3 0)),.one (.at (.slc 11)),.one (.at (.slc 12)),vi .i64 x.k],hf:=fun x=>hfO3 raw l bb L0 x.S x.rs x.ll,μ:=fun x=>n-x.k }
 | _=>none }
abbrev chF3 (raw:LE)(l:List StpT)(bb:LI)(S:Arn)(rs:LI)(ll:List LE):LH C0:=[.row false .ent raw,.row false .stp l,.row false .u8 bb,.box [.ptr 6 0,.slc 7,.slc 8,vU64 S.reads],.row true .u32 rs,.rows .hent .ent ll,.box [.slc 9,.slc 10,.slc 11,vU S.fresh],.row true .node S.nodes,.row true .int S.counts,.row true .bool S.used,.row true .u32 S.gen,.row true .u32 S.rel]
def tFo3:Tfm C0:=fun args H K=>match args,H with
 | [.at (.slc 0),.at (.val (.int .u64 t)),.at (.slc 1),.at (.val (.int .i64 sp))],[.row false .ent raw,.row false .stp l,.row false .u8 bb]=>0<=t/\0<=sp/\sp<=1000/\RngL raw/\RngS l/\∀ S rs ll,FoR sp S rs ll->K (.tup [.at (.ptr 3 0),.at (.slc 4),.at (.slc 5),.at (vB true)]) (chF3 raw l bb S rs ll) []
 | _,_=>False

abbrev O124 {P:Arn → LI → List LE → Nat → Prop}(raw:LE)(l:List StpT)(bb:LI)(L0:LE)(t:Int)(x:XFo P)(S'1:Arn)(i1:Int)(x':XFo P)(Z_:Prop):Prop:=(VW (t)=VW (t)/\True/\True/\(VI (if 6<(l.length:Int) then 6 else (l.length:Int)))=(VI (if 6<(l.length:Int) then 6 else (l.length:Int)))/\True/\True/\True/\(VI (Za.wrap ((x.k:Int)+1)))=(VI (x'.k:Int))/\True)/\raw=raw/\l=l/\bb=bb/\(True/\True/\True/\VW (S'1.reads)=VW (x'.S.reads)/\True)/\(True/\True/\True/\VU (S'1.fresh)=VU (x'.S.fresh)/\True)/\S'1.nodes=x'.S.nodes/\S'1.counts=x'.S.counts/\S'1.used=x'.S.used/\S'1.gen=x'.S.gen/\S'1.rel=x'.S.rel/\L0=L0/\(x.rs++[i1])=x'.rs/\Z_
abbrev O125 (P:Arn → LI → List LE → Nat → Prop)(raw:LE)(l:List StpT)(bb:LI)(L0:LE)(n:Nat)(t:Int)(x:XFo P)(x1:Int):Prop:=0<=x1/\x1<(x.rs.length:Int)/\0<=(x.k:Int)/\(x.k:Int)<(l.length:Int)/\∃ w0_:LI,∃ w1_:Tr,upM x.S w0_ w1_ (x.rs.getD x1.toNat 0)/\4*(Hn ((w1_.size:Int)+1)+2)<=x.S.free/\∀ w2_:Arn,∀ w3_:Int,∀ w4_:Option Int,w4_=(getE w1_.list (stpG l (x.k:Int).toNat).ent.fst)->TrR x.S w0_ (insE w1_.list (stpG l (x.k:Int).toNat).ent) (iB w1_.size) (5*iB w1_.size+ht w1_+1) w2_ w3_->0<=(x.k:Int)/\(x.k:Int)<(l.length:Int)/\(rowG x.ll x1.toNat).length<=1000000/\(x.rs.length+[w3_].length)*Yd C0 EC.u32<=140737488355328/\(x.ll.length+[insE (rowG x.ll x1.toNat) (stpG l (x.k:Int).toNat).ent].length)*Yd C0 EC.hent<=140737488355328/\∃ w5_:XFo P,True/\O124 raw l bb L0 t x w2_ w3_ w5_ ((x.ll++[insE (rowG x.ll x1.toNat) (stpG l (x.k:Int).toNat).ent])=w5_.ll/\True)/\n-w5_.k<n-x.k
theorem Yxc (raw:LE)(l:List StpT)(bb:LI)(t sp:Int)(K:KT)(ht0:0<=t)(s1:0<=sp)(s2:sp<=1000)(hraw:RngL raw)(hl:RngS l)(h:∀ S rs ll,FoR sp S rs ll->K (.tup [.at (.ptr 3 0),.at (.slc 4),.at (.slc 5),.at (vB true)]) (chF3 raw l bb S rs ll) []) :
  vc C0 (aFo3 (FoI sp (YT raw 30) (min l.length 6) (4*(Hn (((YT raw 30).length:Int)+(min l.length 6:Nat)+1)+2))) raw l bb (YT raw 30) (min l.length 6)) Tryz.f19 [.at (.slc 0),.at (vU64 t),.at (.slc 1),.at (vI sp)] [.row false .ent raw,.row false .stp l,.row false .u8 bb] (Yh 3 K):=by
 generalize hP:FoI sp (YT raw 30) (min l.length 6) (4*(Hn (((YT raw 30).length:Int)+(min l.length 6:Nat)+1)+2))=P;generalize hL0:YT raw 30=L0;generalize hn:min l.length 6=n
 refine Eq.mp (show ((0:Int)<=30/\(30:Int)<=1000000/\0<=Za.wrap ((↑(YT raw (Zq 30)).length:Int)+if 6<(l.length:Int) then 6 else (l.length:Int))/\Za.wrap ((↑(YT raw (Zq 30)).length:Int)+if 6<(l.length:Int) then 6 else (l.length:Int))<=65536/\∀ p:Int,p=(4*(Hn (Za.wrap ((↑(YT raw (Zq 30)).length:Int)+if 6<(l.length:Int) then 6 else (l.length:Int))+1)+2))->0<=t/\1<=Za.wrap (Za.wrap (1+Za.wrap (Za.wrap ((if 6<(l.length:Int) then 6 else (l.length:Int))+1)*Za.wrap (Za.wrap (p+(↑(YT raw (Zq 30)).length:Int))+if 6<(l.length:Int) then 6 else (l.length:Int))))+sp)/\Za.wrap (Za.wrap (1+Za.wrap (Za.wrap ((if 6<(l.length:Int) then 6 else (l.length:Int))+1)*Za.wrap (Za.wrap (p+(↑(YT raw (Zq 30)).length:Int))+if 6<(l.length:Int) then 6 else (l.length:Int))))+sp)<=30000/\(YT raw (Zq 30)).length<=30000/\∀ S':Arn,∀ i:Int,PlantR (newS ((↑(YT raw (Zq 30)).length:Int)+Za.wrap (Za.wrap (1+Za.wrap (Za.wrap ((if 6<(l.length:Int) then 6 else (l.length:Int))+1)*Za.wrap (Za.wrap (p+(↑(YT raw (Zq 30)).length:Int))+if 6<(l.length:Int) then 6 else (l.length:Int))))+sp)).toNat) [] (YT raw (Zq 30)) S' i->(∃ x:XFo P,True/\(VW (t)=VW (t)/\True/\True/\(VI (if 6<(l.length:Int) then 6 else (l.length:Int)))=(VI (if 6<(l.length:Int) then 6 else (l.length:Int)))/\
  True/\True/\True/\VI 0=(VI (x.k:Int))/\True)/\raw=raw/\l=l/\bb=bb/\(True/\True/\True/\VW (S'.reads)=VW (x.S.reads)/\True)/\(True/\True/\True/\VU (S'.fresh)=VU (x.S.fresh)/\True)/\S'.nodes=x.S.nodes/\S'.counts=x.S.counts/\S'.used=x.S.used/\S'.gen=x.S.gen/\S'.rel=x.S.rel/\(YT raw (Zq 30))=L0/\[(i)]=x.rs/\[(YT raw (Zq 30))]=x.ll/\True)/\∀ x:XFo P,True->brS (decide ((x.k:Int)<if 6<(l.length:Int) then 6 else (l.length:Int))) (0<=(x.k:Int)/\(x.k:Int)<(l.length:Int)/\0<(x.rs.length:Int)/\(x.rs.length:Int)<=9223372036854775807/\∀ x1:Int,x1=((stpG l (x.k:Int).toNat).at_ % (x.rs.length:Int))->0<=x1/\x1<(x.ll.length:Int)/\0<=(x.k:Int)/\(x.k:Int)<(l.length:Int)/\brS ((stpG l (x.k:Int).toNat).fresh) (∃ hs:LI,Wf x.S hs/\(rowG x.ll x1.toNat).length<=100000/\(↑(rowG x.ll x1.toNat).length:Int)<=x.S.free/\hs.length+(rowG x.ll x1.toNat).length<=900000000/\0<=Zd.wrap (Zd.wrap (t*5)+Zd.wrap (x.k:Int))/\∀ S'1:Arn,∀ i1:Int,PlantR x.S hs (rowG x.ll x1.toNat) S'1 i1->(x.rs.length+[i1].length)*Yd C0 EC.u32<=140737488355328/\(x.ll.length+[rowG x.ll x1.toNat].length)*Yd C0 EC.hent<=140737488355328/\∃ x':XFo P,True/\O124 raw l bb L0 t x S'1 i1 x' ((x.ll++[rowG x.ll x1.toNat])=x'.ll/\True)/\n-x'.k<n-x.k) (0<=(x.k:Int)/\(x.k:Int)<(l.length:Int)/\brS ((stpG l (x.k:Int).toNat).del) (brS (decide ((↑(rowG x.ll x1.toNat).length:Int)>0)) (0<=(x.k:Int)/\(x.k:Int)<(l.length:Int)/\0<(↑(rowG x.ll x1.toNat).length:Int)/\(↑(rowG x.ll x1.toNat).length:Int)<=9223372036854775807/\
  ∀ x2:Int,x2=((stpG l (x.k:Int).toNat).at_ % (↑(rowG x.ll x1.toNat).length:Int))->0<=x2/\x2<(↑(rowG x.ll x1.toNat).length:Int)/\0<=x1/\x1<(x.rs.length:Int)/\∃ hs:LI,∃ t1:Tr,upM x.S hs t1 (x.rs.getD x1.toNat 0)/\4*(Hn (t1.size:Int)+2)<=x.S.free/\∀ S'1:Arn,∀ j:Int,∀ v:Int,∀ f:Int,UpdR x.S hs t1 (enG (rowG x.ll x1.toNat) x2.toNat).fst S'1 j f->(rowG x.ll x1.toNat).length<=1000000/\brS (f != 0) (K (.tup [(.at (.val (Value.pointer none))),(.at (.slc 3)),(.at (.slc 4)),(.at (.val (Zi false)))]) [(.row false .ent (raw)),(.row false .stp (l)),(.row false .u8 (bb)),(.row true .u32 []),(Ta.rows .hent .ent [])] []) ((x.rs.length+[j].length)*Yd C0 EC.u32<=140737488355328/\(x.ll.length+[outE (rowG x.ll x1.toNat) (enG (rowG x.ll x1.toNat) x2.toNat).fst (enG (rowG x.ll x1.toNat) x2.toNat).fst].length)*Yd C0 EC.hent<=140737488355328/\∃ x':XFo P,True/\O124 raw l bb L0 t x S'1 j x' ((x.ll++[outE (rowG x.ll x1.toNat) (enG (rowG x.ll x1.toNat) x2.toNat).fst (enG (rowG x.ll x1.toNat) x2.toNat).fst])=x'.ll/\True)/\n-x'.k<n-x.k)) (O125 P raw l bb L0 n t x x1)) (O125 P raw l bb L0 n t x x1))) (K (.tup [(.at (.ptr 3 0)),(.at (.slc 4)),(.at (.slc 5)),(.at (.val (Zi true)))]) [(.row false .ent (raw)),(.row false .stp (l)),(.row false .u8 (bb)),(.box [(.ptr 6 0),(.slc 7),(.slc 8),(.val (VW (x.S.reads)))]),(.row true .u32 (x.rs)),(Ta.rows .hent .ent (x.ll)),(.box [(.slc 9),(.slc 10),(.slc 11),(.val (VU (x.S.fresh)))]),(.row true .node (x.S.nodes)),(.row true .int (x.S.counts)),(.row true .bool (x.S.used)),(.row true .u32 (x.S.gen)),(.row true .u32 (x.S.rel))] []))=_ by kernel_rfl) ?_
 delta O124 O125;subst hP;rw[show Zq 30=30 from rfl];have en:(if 6<(l.length:Int) then 6 else (l.length:Int))=(n:Int):=by rw[<-hn];split<;>omega
 rw[en,hn,hL0];have n6:n<=6:=by omega
 have nl:n<=l.length:=by omega
 obtain⟨la,l30⟩:=YfR raw 30;have rL:RngL L0:=fun x hx=>hraw x (Ymb raw 30 x (hL0 ▸ hx))
 rw[hL0] at la l30;have hH:=YbE ((L0.length:Int)+n+1);rw[Yb (x:=(L0.length:Int)+(n:Int)) (by omega) (by omega)];generalize ep:4*(Hn ((L0.length:Int)+n+1)+2)=p at *;have p1:8<=p:=by omega
 have p2:p<=328:=by omega
 refine⟨by decide,by decide,by omega,by omega,fun p' ep'=>?_⟩;rw[ep'];have m0:0<=((n:Int)+1)*(p+L0.length+n):=ZaY (by omega) (by omega);have m1:((n:Int)+1)*(p+L0.length+n)<=7*364:=Zcd (by omega) (by omega) (by omega) (by omega);rw[Yb (x:=(n:Int)+1) (by omega) (by omega),Yb (x:=p+(L0.length:Int)) (by omega) (by omega),Yb (x:=p+(L0.length:Int)+n) (by omega) (by omega),Yb (x:=((n:Int)+1)*(p+L0.length+n)) (by omega) (by omega),Yb (x:=1+((n:Int)+1)*(p+L0.length+n)) (by omega) (by omega),Yb (x:=1+((n:Int)+1)*(p+L0.length+n)+sp) (by omega) (by omega)];refine⟨ht0,by omega,by omega,by omega,fun S i pl=>⟨⟨⟨S,[i],[L0],0,?_⟩,trivial,?_⟩,fun x _=>Ya (fun y=>?_) fun y=>?_⟩⟩
 .have g:Hld S ([i].zip [L0]):=by
   refine⟨pl.wf,fun q hq=>?_,fun q hq=>?_,fun q hq=>?_⟩
   .rw[ZL.1 hq];exact pl.rep
   .rw[ZL.1 hq];exact la
   .rw[ZL.1 hq];exact fun z hz=>(rL z hz).1
  refine⟨ZC _,n6,l30,rfl,rfl,g,fun L hL=>?_,by rw[pl.rds];exact ZE _,?_⟩
  .rw[ZL.1 hL];exact⟨Zw _,rL⟩
  .unfold Arn.cap;rw[pl.len];show ((List.replicate _ false).length:Int)-1=_;rw[Zan,<-Int.add_assoc p];omega
 ·repeat' constructor
 .obtain⟨S1,rs,ll,k,fo⟩:=x;dsimp only at y ⊢;have yk:k<n:=by have:=Zc y;omega
  clear y;have lr:=fo.lr;have lL:=fo.lL;rw[show ((k:Int)).toNat=k from rfl,Yb (x:=(k:Int)+1) (by omega) (by omega)];have sp1:=fo.space (by omega) yk
  have hst:=hl (stpG l k) (by
   show l.getD k _∈l;rw[Zb,Zk (by omega)];exact Zaa _)
  refine⟨by omega,by omega,by omega,by omega,fun x1 e1=>?_⟩;have x0:0<=x1:=by rw[e1];exact ZaQ _ (by omega)
  have xl:x1<rs.length:=by rw[e1];exact ZaH _ (by omega)
  have hx:x1.toNat<rs.length:=by omega
  clear e1;generalize x1.toNat=u at *;have hrow:=fo.ls _ (fo.row hx);obtain⟨tr,um,tl,ts,tz⟩:=fo.up hx;have am:=fo.hld.asc _ (fo.mem hx);dsimp only at am
  have ins:∀ {S2:Arn} {j:Int},TrR S1 rs (insE tr.list (stpG l k).ent) (iB tr.size) (5*iB tr.size+ht tr+1) S2 j->FoI sp L0 n p S2 (rs++[j]) (ll++[insE (rowG ll u) (stpG l k).ent]) (k+1):=fun {S2 j} q=>by
   rw[tl] at q;have a1:=Yec (rowG ll u) (stpG l k).ent;have b1:=YwL tr.size;have b2:=YbE (tr.size:Int);have b3:=YkY tr;have l30:=fo.l30;refine fo.go yk q (Yed _ am) (by omega) (fun z hz=>?_) (by omega);rcases YgE am hz with c|c
   .rw[c];exact hst.2
   .exact hrow.2 z c
  have need:4*(Hn ((tr.size:Int)+1)+2)<=S1.free:=by
   have:=Yxb (n:=tr.size) (q:=L0.length+n) (by omega);rw[show ((L0.length+n:Nat):Int)+1=(L0.length:Int)+n+1 by omega,ep] at this;omega
  have needD:4*(Hn (tr.size:Int)+2)<=S1.free:=by
   have:=Yhm tr.size;omega
  have bs:∀ x:Int,(rs.length+[x].length)*Yd C0 EC.u32<=140737488355328:=fun x=>by rw[Ys,Zr];omega
  have bh:∀ x:LE,(ll.length+[x].length)*Yd C0 EC.hent<=140737488355328:=fun x=>by rw[YaC,Zr];omega
  refine⟨x0,by omega,by omega,by omega,Ya (fun _=>?_) fun _=>⟨by omega,by omega,Ya (fun _=>Ya (fun z=>?_) fun _=>?_) fun _=>?_⟩⟩
  .refine⟨rs,um.1,by omega,by omega,by omega,?_,fun S2 j q=>⟨bs j,bh _,⟨S2,rs++[j],ll++[rowG ll u],k+1,?_⟩,trivial,?_,ZI yk (ZO k)⟩⟩
   .exact YJ _
   .refine fo.go yk (m:=(rowG ll u).length) (r:=0) ⟨⟨q.wf,q.stay,q.len,by rw[q.nu];exact Zw _,by rw[q.rds];exact ZE _,by rw[q.rds];omega⟩,q.rep⟩ am (by omega) hrow.2 (by omega)
   ·repeat' constructor
  .have z0:0<(rowG ll u).length:=by have:=Zc z;omega
   refine⟨by omega,by omega,by omega,by omega,fun x2 e2=>?_⟩;have w0:0<=x2:=by rw[e2];exact ZaQ _ (by omega)
   have wl:x2<(rowG ll u).length:=by rw[e2];exact ZaH _ (by omega)
   have hw:x2.toNat<(rowG ll u).length:=by omega
   clear e2;generalize x2.toNat=v at *
   have hmem:enG (rowG ll u) v∈rowG ll u:=by
    show (rowG ll u).getD v _∈rowG ll u;rw[Zb,Zk hw];exact Zaa _
   refine⟨w0,by omega,x0,by omega,rs,tr,um,needD,fun S2 j vv f ur=>⟨by omega,?_⟩⟩;rcases ur with ⟨c,_⟩|⟨_,ef,q⟩
   .rw[tl,YqL am hmem] at c;cases c
   .subst ef;rw[tl] at q;refine Ya (fun c=>absurd c (by decide)) fun _=>⟨bs j,bh _,⟨S2,rs++[j],ll++[outE (rowG ll u) (enG (rowG ll u) v).1 (enG (rowG ll u) v).1],k+1,?_⟩,trivial,?_,ZI yk (ZO k)⟩
    .rw[YoK];have b1:=YwM tr.size;have b2:=YbE (tr.size:Int);have b3:=YkY tr;have l30:=fo.l30;refine fo.go yk q (YsR am) ?_ (fun z hz=>hrow.2 z (Zcv.1 hz).1) (by omega);have:=Zcs (neK (enG (rowG ll u) v).1 ·.1) (rowG ll u);unfold flt;omega
    ·repeat' constructor
  .refine⟨by omega,by omega,by omega,by omega,rs,tr,um,need,fun S2 j o _ q=>⟨by omega,by omega,by omega,bs j,bh _,⟨S2,rs++[j],_,k+1,ins q⟩,trivial,?_,ZI yk (ZO k)⟩⟩
   repeat' constructor
  .refine⟨by omega,by omega,by omega,by omega,rs,tr,um,need,fun S2 j o _ q=>⟨by omega,by omega,by omega,bs j,bh _,⟨S2,rs++[j],_,k+1,ins q⟩,trivial,?_,ZI yk (ZO k)⟩⟩
   repeat' constructor
 .obtain⟨S1,rs,ll,k,fo⟩:=x;dsimp only at y ⊢;have yk:k=n:=by have:=Zg y;have:=fo.kn;omega
  subst yk;exact h _ _ _ (fo.done (by omega) (by omega) (by omega) (by omega))
theorem Yzh:Tb C0 19 tFo3:=by
 refine .of Tryz.func19 (by decide) rfl fun args H K h hB=>?_
 unfold tFo3 at h;split at h<;>try exact h.elim
 refine⟨_,?_,Yxc _ _ _ _ _ K h.1 h.2.1 h.2.2.1 h.2.2.2.1 h.2.2.2.2.1 h.2.2.2.2.2⟩;exact⟨Ye C0.ok Yxw _,Ye C0.ok YvS _,Ye C0.ok Yrd _,Ye C0.ok Ysl _,Ye C0.ok Ykl _,Ye C0.ok YwY _,Ye C0.ok Yxv _,Ye C0.ok YwP _,Ye C0.ok YuK _,trivial⟩
abbrev ch3a (raw:LE)(l:List StpT)(bb:LI)(S:Arn)(rs:LI)(ll:List LE):LH C0:=chF3 raw l bb S rs ll
def Yzi (P:LI->List LE->Nat->Prop)(rs:LI)(H:LH C0):Ann C0:={ quiet:=[9999999],Γ:=[],inv:=fun m=>match m with
 | 4=>some { X:=XPi P,sl:=[8,9,10],tf:=fun x=>[.one (.at (.slc 12)),.one (.at (.slc 13)),vi .i64 x.i],hf:=fun x=>H++[.row true .u32 x.r,.rows .hent .ent x.L],μ:=fun x=>rs.length-x.i }
 | _=>none }
abbrev Yxd (H:LH C0)(q:LE->List StpT->LI->Arn->LI->List LE->Prop):Prop:=match H with
 | [.row false .ent raw,.row false .stp l,.row false .u8 bb,.box [.ptr 6 0,.slc 7,.slc 8,.val (.int .u64 rd)],.row true .u32 rs,.rows .hent .ent ll,.box [.slc 9,.slc 10,.slc 11,.val (.int .u32 fr)],.row true .node nd,.row true .int ct,.row true .bool us,.row true .u32 gn,.row true .u32 rl]=>q raw l bb ⟨us,gn,rl,fr,nd,ct,rd⟩ rs ll
 | _=>False
def YtZ:Tfm C0:=fun args H K=>match args with
 | [.at (.slc 4),.at (.slc 5),.at (.val (.int .u8 b))]=>Yxd H fun raw l bb S rs ll=>rs.length=ll.length/\rs.length<=1000/\∀ r L,r=(pkZ b (rs.zip ll)).map Prod.fst->L=(pkZ b (rs.zip ll)).map Prod.snd->K (.tup [.at (.slc 12),.at (.slc 13)]) (ch3a raw l bb S rs ll++[.row true .u32 r,.rows .hent .ent L]) []
 | _=>False
abbrev O126 {P:LI → List LE → Nat → Prop}(raw:LE)(l:List StpT)(bb:LI)(S:Arn)(rs:LI)(ll:List LE)(b:Int)(x x':XPi P)(Z_:Prop):Prop:=(True/\True/\(Zm .u8 (b))=(Zm .u8 (b))/\True/\True/\(VI (Za.wrap ((x.i:Int)+1)))=(VI (x'.i:Int))/\True)/\raw=raw/\l=l/\bb=bb/\(True/\True/\True/\VW (S.reads)=VW (S.reads)/\True)/\rs=rs/\ll=ll/\(True/\True/\True/\VU (S.fresh)=VU (S.fresh)/\True)/\S.nodes=S.nodes/\S.counts=S.counts/\S.used=S.used/\S.gen=S.gen/\S.rel=S.rel/\Z_
abbrev O127 {P:LI → List LE → Nat → Prop}(raw:LE)(l:List StpT)(bb:LI)(S:Arn)(rs:LI)(ll:List LE)(r0:LI)(L0:List LE)(b:Int)(K:SV → LH C0 → LN → Prop)(x:XPi P):Prop:=brS (decide (b≥128)) ((x.r.length+[0].length)*Yd C0 EC.u32<=140737488355328/\(x.L.length+([[]]:List LE).length)*Yd C0 EC.hent<=140737488355328/\K (.tup [(.at (.slc 14)),(.at (.slc 15))]) [(.row false .ent (raw)),(.row false .stp (l)),(.row false .u8 (bb)),(.box [(.ptr 6 0),(.slc 7),(.slc 8),(.val (VW (S.reads)))]),(.row true .u32 (rs)),(Ta.rows .hent .ent (ll)),(.box [(.slc 9),(.slc 10),(.slc 11),(.val (VU (S.fresh)))]),(.row true .node (S.nodes)),(.row true .int (S.counts)),(.row true .bool (S.used)),(.row true .u32 (S.gen)),(.row true .u32 (S.rel)),(.row true .u32 (r0)),(Ta.rows .hent .ent (L0)),(.row true .u32 (x.r++[0])),(Ta.rows .hent .ent (x.L++([[]]:List LE)))] []) (K (.tup [(.at (.slc 14)),(.at (.slc 15))]) [(.row false .ent (raw)),(.row false .stp (l)),(.row false .u8 (bb)),(.box [(.ptr 6 0),(.slc 7),(.slc 8),(.val (VW (S.reads)))]),(.row true .u32 (rs)),(Ta.rows .hent .ent (ll)),(.box [(.slc 9),(.slc 10),(.slc 11),(.val (VU (S.fresh)))]),(.row true .node (S.nodes)),(.row true .int (S.counts)),(.row true .bool (S.used)),(.row true .u32 (S.gen)),(.row true .u32 (S.rel)),(.row true .u32 (r0)),(Ta.rows .hent .ent (L0)),(.row true .u32 (x.r)),(Ta.rows .hent .ent (x.L))] [])
abbrev O128 {P:LI → List LE → Nat → Prop}(raw:LE)(l:List StpT)(bb:LI)(S:Arn)(rs:LI)(ll:List LE)(b:Int)(K:SV → LH C0 → LN → Prop)(x:XPi P):Prop:=brS (decide (b≥128)) ((x.r.length+[0].length)*Yd C0 EC.u32<=140737488355328/\(x.L.length+([[]]:List LE).length)*Yd C0 EC.hent<=140737488355328/\K (.tup [(.at (.slc 12)),(.at (.slc 13))]) [(.row false .ent (raw)),(.row false .stp (l)),(.row false .u8 (bb)),(.box [(.ptr 6 0),(.slc 7),(.slc 8),(.val (VW (S.reads)))]),(.row true .u32 (rs)),(Ta.rows .hent .ent (ll)),(.box [(.slc 9),(.slc 10),(.slc 11),(.val (VU (S.fresh)))]),(.row true .node (S.nodes)),(.row true .int (S.counts)),(.row true .bool (S.used)),(.row true .u32 (S.gen)),(.row true .u32 (S.rel)),(.row true .u32 (x.r++[0])),(Ta.rows .hent .ent (x.L++([[]]:List LE)))] []) (K (.tup [(.at (.slc 12)),(.at (.slc 13))]) [(.row false .ent (raw)),(.row false .stp (l)),(.row false .u8 (bb)),(.box [(.ptr 6 0),(.slc 7),(.slc 8),(.val (VW (S.reads)))]),(.row true .u32 (rs)),(Ta.rows .hent .ent (ll)),(.box [(.slc 9),(.slc 10),(.slc 11),(.val (VU (S.fresh)))]),(.row true .node (S.nodes)),(.row true .int (S.counts)),(.row true .bool (S.used)),(.row true .u32 (S.gen)),(.row true .u32 (S.rel)),(.row true .u32 (x.r)),(Ta.rows .hent .ent (x.L))] [])
abbrev O129 {P:LI → List LE → Nat → Prop}(rs:LI)(ll:List LE)(x:XPi P)(Z_:Prop):Prop:=(x.r.length+[getB rs (x.i:Int).toNat].length)*Yd C0 EC.u32<=140737488355328/\(x.L.length+[rowG ll (x.i:Int).toNat].length)*Yd C0 EC.hent<=140737488355328/\Z_
abbrev O130 {P:LI → List LE → Nat → Prop}(rs:LI)(ll:List LE)(x x':XPi P):Prop:=(x.r++[getB rs (x.i:Int).toNat])=x'.r/\(x.L++[rowG ll (x.i:Int).toNat])=x'.L/\True
abbrev O131 (S:Arn)(rs:LI)(ll:List LE)(Z_:Prop):Prop:=(True/\True/\True/\VW (S.reads)=VW (S.reads)/\True)/\rs=rs/\ll=ll/\(True/\True/\True/\VU (S.fresh)=VU (S.fresh)/\True)/\S.nodes=S.nodes/\S.counts=S.counts/\S.used=S.used/\S.gen=S.gen/\S.rel=S.rel/\Z_
theorem Yua (raw:LE)(l:List StpT)(bb:LI)(S:Arn)(rs:LI)(ll:List LE)(b:Int)(K:KT)(e:rs.length=ll.length)(hl:rs.length<=1000)(h:∀ r L,r=(pkZ b (rs.zip ll)).map Prod.fst->L=(pkZ b (rs.zip ll)).map Prod.snd->K (.tup [.at (.slc 12),.at (.slc 13)]) (ch3a raw l bb S rs ll++[.row true .u32 r,.rows .hent .ent L]) []) :
  vc C0 (Yzi (PPi b rs ll) rs (ch3a raw l bb S rs ll)) Tryz.f20 [.at (.slc 4),.at (.slc 5),.at (.val (.int .u8 b))] (ch3a raw l bb S rs ll) (Yh 12 K):=by
 generalize hP:PPi b rs ll=P;refine Eq.mp (show ((∃ x:XPi P,True/\(True/\True/\(Zm .u8 (b))=(Zm .u8 (b))/\True/\True/\VI 0=(VI (x.i:Int))/\True)/\raw=raw/\l=l/\bb=bb/\O131 S rs ll ([]=x.r/\[]=x.L/\True))/\∀ x:XPi P,True->brS (decide ((x.i:Int)<(rs.length:Int))) (brS (decide ((x.i:Int)<7)) (0<=Zd.wrap (x.i:Int)/\brS ((b.fdiv (2 ^ min (Zd.wrap (x.i:Int)).toNat IntKind.u8.bits)).tmod 2==1) (0<=(x.i:Int)/\(x.i:Int)<(rs.length:Int)/\0<=(x.i:Int)/\(x.i:Int)<(ll.length:Int)/\(O129 rs ll x (∃ x':XPi P,True/\O126 raw l bb S rs ll b x x' (O130 rs ll x x')/\rs.length-x'.i<rs.length-x.i)/\O129 rs ll x (∃ x':XPi P,True/\O126 raw l bb S rs ll b x x' (O130 rs ll x x')/\rs.length-x'.i<rs.length-x.i))/\O129 rs ll x (∃ x':XPi P,True/\O126 raw l bb S rs ll b x x' (O130 rs ll x x')/\rs.length-x'.i<rs.length-x.i)) (∃ x':XPi P,True/\O126 raw l bb S rs ll b x x' (x.r=x'.r/\x.L=x'.L/\True)/\rs.length-x'.i<rs.length-x.i)) (O128 raw l bb S rs ll b K x)) (O128 raw l bb S rs ll b K x))=_ by kernel_rfl) ?_;delta O126 O128 O129 O130 O131;subst hP
 have out:∀ i,i<=rs.length->i<=7->¬ (i<rs.length/\i<7)->pkG b (rs.zip ll) (min (rs.zip ll).length 7)=pkG b (rs.zip ll) i:=fun i h1 h2 h3=>by
  rw[List.length_zip,show min (min rs.length ll.length) 7=i by omega]
 have fin:∀ i,i<=rs.length->i<=7->¬ (i<rs.length/\i<7)->brS (decide (b≥128))
   (((((pkG b (rs.zip ll) i).map Prod.fst).length+[(0:Int)].length)*Yd C0 EC.u32<=140737488355328)/\((((pkG b (rs.zip ll) i).map Prod.snd).length+[([]:LE)].length)*Yd C0 EC.hent<=140737488355328)/\K (.tup [.at (.slc 12),.at (.slc 13)]) (ch3a raw l bb S rs ll++[.row true .u32 ((pkG b (rs.zip ll) i).map Prod.fst++[0]),.rows .hent .ent ((pkG b (rs.zip ll) i).map Prod.snd++[[]])]) [])
   (K (.tup [.at (.slc 12),.at (.slc 13)]) (ch3a raw l bb S rs ll++[.row true .u32 ((pkG b (rs.zip ll) i).map Prod.fst),.rows .hent .ent ((pkG b (rs.zip ll) i).map Prod.snd)]) []):=fun i h1 h2 h3=>by
  have gl:=Yca b (rs.zip ll) i;refine Ya (fun z=>⟨by rw[Ys,Zu,Zr];omega,by rw[YaC,Zu,Zr];omega,h _ _ ?_ ?_⟩) fun z=>h _ _ ?_ ?_
  .unfold pkZ;rw[out i h1 h2 h3,Zj (Zc z),ZX];rfl
  .unfold pkZ;rw[out i h1 h2 h3,Zj (Zc z),ZX];rfl
  .unfold pkZ;rw[out i h1 h2 h3,Zf (Zg z)];simp only[ZR];exact rfl
  .unfold pkZ;rw[out i h1 h2 h3,Zf (Zg z)];simp only[ZR];exact rfl
 refine⟨⟨⟨[],[],0,ZC _,by decide,rfl,rfl⟩,trivial,?_⟩,fun x _=>Ya (fun y=>Ya (fun z=>⟨YJ _,?_⟩) fun z=>?_) fun y=>?_⟩
 ·repeat' constructor
 .obtain⟨r,L,i,h1,h2,rfl,rfl⟩:=x;dsimp only at y z ⊢;have yi:i<rs.length:=by have:=Zc y;omega
  have zi:i<7:=by have:=Zc z;omega
  clear y z;have gl:=Yca b (rs.zip ll) i;rw[show ((i:Int)).toNat=i from rfl,Yb (x:=(i:Int)+1) (by omega) (by omega),Yf (x:=(i:Int)) (by omega) (by omega),show ((i:Int)).toNat=i from rfl];refine Ya (fun t=>?_) fun t=>?_
  .have bt:bitB b i=true:=t
   have e1:(pkG b (rs.zip ll) i).map Prod.fst++[getB rs i]=(pkG b (rs.zip ll) (i+1)).map Prod.fst:=by
    show _=(if bitB b i then pkG b (rs.zip ll) i++[(rs.zip ll).getD i (0,[])] else pkG b (rs.zip ll) i).map Prod.fst;rw[bt,Zj rfl,Ycn e yi,ZX];rfl
   have e2:(pkG b (rs.zip ll) i).map Prod.snd++[rowG ll i]=(pkG b (rs.zip ll) (i+1)).map Prod.snd:=by
    show _=(if bitB b i then pkG b (rs.zip ll) i++[(rs.zip ll).getD i (0,[])] else pkG b (rs.zip ll) i).map Prod.snd;rw[bt,Zj rfl,Ycn e yi,ZX];rfl
   have b1:(((pkG b (rs.zip ll) i).map Prod.fst).length+[getB rs i].length)*Yd C0 EC.u32<=140737488355328:=by rw[Ys,Zu,Zr];omega
   have b2:(((pkG b (rs.zip ll) i).map Prod.snd).length+[rowG ll i].length)*Yd C0 EC.hent<=140737488355328:=by rw[YaC,Zu,Zr];omega
   refine⟨by omega,by omega,by omega,by omega,?_⟩
   repeat' (first|with_reducible exact b1|with_reducible exact b2|with_reducible apply And.intro)
   all_goals refine⟨⟨_,_,i+1,yi,zi,e1,e2⟩,trivial,?_,ZI yi (ZO i)⟩
   all_goals repeat' constructor
  .have bt:bitB b i=false:=t
   have e1:pkG b (rs.zip ll) (i+1)=pkG b (rs.zip ll) i:=by
    show (if bitB b i then _ else _)=_;rw[bt];rfl
   refine⟨⟨(pkG b (rs.zip ll) i).map Prod.fst,(pkG b (rs.zip ll) i).map Prod.snd,i+1,yi,zi,by rw[e1],by rw[e1]⟩,trivial,?_,ZI yi (ZO i)⟩
   repeat' constructor
 .obtain⟨r,L,i,h1,h2,rfl,rfl⟩:=x;dsimp only at z ⊢;have zi:¬ i<7:=by have:=Zg z;omega
  exact fin i h1 h2 (by omega)
 .obtain⟨r,L,i,h1,h2,rfl,rfl⟩:=x;dsimp only at y ⊢;have yi:¬ i<rs.length:=by have:=Zg y;omega
  exact fin i h1 h2 (by omega)
theorem s_pi3a:Tb C0 20 YtZ:=by
 refine .of Tryz.func20 (by decide) rfl fun args H K h hB=>?_
 unfold YtZ Yxd at h;iterate 2 (split at h<;>try exact h.elim)
 refine⟨_,?_,Yua _ _ _ ⟨_,_,_,_,_,_,_⟩ _ _ _ K h.1 h.2.1 h.2.2⟩;exact trivial
abbrev ch3b (raw:LE)(l:List StpT)(bb:LI)(S:Arn)(rs:LI)(ll:List LE)(r0:LI)(L0:List LE):LH C0:=chF3 raw l bb S rs ll++[.row true .u32 r0,.rows .hent .ent L0]
def Yzj (P:LI->List LE->Nat->Prop)(rs:LI)(H:LH C0):Ann C0:={ quiet:=[9999999],Γ:=[],inv:=fun m=>match m with
 | 4=>some { X:=XPi P,sl:=[8,9,10],tf:=fun x=>[.one (.at (.slc 14)),.one (.at (.slc 15)),vi .i64 x.i],hf:=fun x=>H++[.row true .u32 x.r,.rows .hent .ent x.L],μ:=fun x=>rs.length-x.i }
 | _=>none }
abbrev Yxe (H:LH C0)(q:LE->List StpT->LI->Arn->LI->List LE->LI->List LE->Prop):Prop:=match H with
 | [.row false .ent raw,.row false .stp l,.row false .u8 bb,.box [.ptr 6 0,.slc 7,.slc 8,.val (.int .u64 rd)],.row true .u32 rs,.rows .hent .ent ll,.box [.slc 9,.slc 10,.slc 11,.val (.int .u32 fr)],.row true .node nd,.row true .int ct,.row true .bool us,.row true .u32 gn,.row true .u32 rl,.row true .u32 r0,.rows .hent .ent L0]=>q raw l bb ⟨us,gn,rl,fr,nd,ct,rd⟩ rs ll r0 L0
 | _=>False
def Yub:Tfm C0:=fun args H K=>match args with
 | [.at (.slc 4),.at (.slc 5),.at (.val (.int .u8 b))]=>Yxe H fun raw l bb S rs ll r0 L0=>rs.length=ll.length/\rs.length<=1000/\∀ r L,r=(pkZ b (rs.zip ll)).map Prod.fst->L=(pkZ b (rs.zip ll)).map Prod.snd->K (.tup [.at (.slc 14),.at (.slc 15)]) (ch3b raw l bb S rs ll r0 L0++[.row true .u32 r,.rows .hent .ent L]) []
 | _=>False
theorem Yuc (raw:LE)(l:List StpT)(bb:LI)(S:Arn)(rs:LI)(ll:List LE)(r0:LI)(L0:List LE)(b:Int)(K:KT)(e:rs.length=ll.length)(hl:rs.length<=1000)(h:∀ r L,r=(pkZ b (rs.zip ll)).map Prod.fst->L=(pkZ b (rs.zip ll)).map Prod.snd->K (.tup [.at (.slc 14),.at (.slc 15)]) (ch3b raw l bb S rs ll r0 L0++[.row true .u32 r,.rows .hent .ent L]) []) :
  vc C0 (Yzj (PPi b rs ll) rs (ch3b raw l bb S rs ll r0 L0)) Tryz.f20 [.at (.slc 4),.at (.slc 5),.at (.val (.int .u8 b))] (ch3b raw l bb S rs ll r0 L0) (Yh 14 K):=by
 generalize hP:PPi b rs ll=P;refine Eq.mp (show ((∃ x:XPi P,True/\(True/\True/\(Zm .u8 (b))=(Zm .u8 (b))/\True/\True/\VI 0=(VI (x.i:Int))/\True)/\raw=raw/\l=l/\bb=bb/\O131 S rs ll (r0=r0/\L0=L0/\[]=x.r/\[]=x.L/\True))/\∀ x:XPi P,True->brS (decide ((x.i:Int)<(rs.length:Int))) (brS (decide ((x.i:Int)<7)) (0<=Zd.wrap (x.i:Int)/\brS ((b.fdiv (2 ^ min (Zd.wrap (x.i:Int)).toNat IntKind.u8.bits)).tmod 2==1) (0<=(x.i:Int)/\(x.i:Int)<(rs.length:Int)/\0<=(x.i:Int)/\(x.i:Int)<(ll.length:Int)/\(O129 rs ll x (∃ x':XPi P,True/\O126 raw l bb S rs ll b x x' (r0=r0/\L0=L0/\O130 rs ll x x')/\rs.length-x'.i<rs.length-x.i)/\O129 rs ll x (∃ x':XPi P,True/\O126 raw l bb S rs ll b x x' (r0=r0/\L0=L0/\O130 rs ll x x')/\rs.length-x'.i<rs.length-x.i))/\O129 rs ll x (∃ x':XPi P,True/\O126 raw l bb S rs ll b x x' (r0=r0/\L0=L0/\O130 rs ll x x')/\rs.length-x'.i<rs.length-x.i)) (∃ x':XPi P,True/\O126 raw l bb S rs ll b x x' (r0=r0/\L0=L0/\x.r=x'.r/\x.L=x'.L/\True)/\rs.length-x'.i<rs.length-x.i)) (O127 raw l bb S rs ll r0 L0 b K x)) (O127 raw l bb S rs ll r0 L0 b K x))=_ by kernel_rfl) ?_;delta O126 O127 O129 O130 O131;subst hP
 have out:∀ i,i<=rs.length->i<=7->¬ (i<rs.length/\i<7)->pkG b (rs.zip ll) (min (rs.zip ll).length 7)=pkG b (rs.zip ll) i:=fun i h1 h2 h3=>by
  rw[List.length_zip,show min (min rs.length ll.length) 7=i by omega]
 have fin:∀ i,i<=rs.length->i<=7->¬ (i<rs.length/\i<7)->brS (decide (b≥128))
   (((((pkG b (rs.zip ll) i).map Prod.fst).length+[(0:Int)].length)*Yd C0 EC.u32<=140737488355328)/\((((pkG b (rs.zip ll) i).map Prod.snd).length+[([]:LE)].length)*Yd C0 EC.hent<=140737488355328)/\K (.tup [.at (.slc 14),.at (.slc 15)]) (ch3b raw l bb S rs ll r0 L0++[.row true .u32 ((pkG b (rs.zip ll) i).map Prod.fst++[0]),.rows .hent .ent ((pkG b (rs.zip ll) i).map Prod.snd++[[]])]) [])
   (K (.tup [.at (.slc 14),.at (.slc 15)]) (ch3b raw l bb S rs ll r0 L0++[.row true .u32 ((pkG b (rs.zip ll) i).map Prod.fst),.rows .hent .ent ((pkG b (rs.zip ll) i).map Prod.snd)]) []):=fun i h1 h2 h3=>by
  have gl:=Yca b (rs.zip ll) i;refine Ya (fun z=>⟨by rw[Ys,Zu,Zr];omega,by rw[YaC,Zu,Zr];omega,h _ _ ?_ ?_⟩) fun z=>h _ _ ?_ ?_
  .unfold pkZ;rw[out i h1 h2 h3,Zj (Zc z),ZX];rfl
  .unfold pkZ;rw[out i h1 h2 h3,Zj (Zc z),ZX];rfl
  .unfold pkZ;rw[out i h1 h2 h3,Zf (Zg z)];simp only[ZR];exact rfl
  .unfold pkZ;rw[out i h1 h2 h3,Zf (Zg z)];simp only[ZR];exact rfl
 refine⟨⟨⟨[],[],0,ZC _,by decide,rfl,rfl⟩,trivial,?_⟩,fun x _=>Ya (fun y=>Ya (fun z=>⟨YJ _,?_⟩) fun z=>?_) fun y=>?_⟩
 ·repeat' constructor
 .obtain⟨r,L,i,h1,h2,rfl,rfl⟩:=x;dsimp only at y z ⊢;have yi:i<rs.length:=by have:=Zc y;omega
  have zi:i<7:=by have:=Zc z;omega
  clear y z;have gl:=Yca b (rs.zip ll) i;rw[show ((i:Int)).toNat=i from rfl,Yb (x:=(i:Int)+1) (by omega) (by omega),Yf (x:=(i:Int)) (by omega) (by omega),show ((i:Int)).toNat=i from rfl];refine Ya (fun t=>?_) fun t=>?_
  .have bt:bitB b i=true:=t
   have e1:(pkG b (rs.zip ll) i).map Prod.fst++[getB rs i]=(pkG b (rs.zip ll) (i+1)).map Prod.fst:=by
    show _=(if bitB b i then pkG b (rs.zip ll) i++[(rs.zip ll).getD i (0,[])] else pkG b (rs.zip ll) i).map Prod.fst;rw[bt,Zj rfl,Ycn e yi,ZX];rfl
   have e2:(pkG b (rs.zip ll) i).map Prod.snd++[rowG ll i]=(pkG b (rs.zip ll) (i+1)).map Prod.snd:=by
    show _=(if bitB b i then pkG b (rs.zip ll) i++[(rs.zip ll).getD i (0,[])] else pkG b (rs.zip ll) i).map Prod.snd;rw[bt,Zj rfl,Ycn e yi,ZX];rfl
   have b1:(((pkG b (rs.zip ll) i).map Prod.fst).length+[getB rs i].length)*Yd C0 EC.u32<=140737488355328:=by rw[Ys,Zu,Zr];omega
   have b2:(((pkG b (rs.zip ll) i).map Prod.snd).length+[rowG ll i].length)*Yd C0 EC.hent<=140737488355328:=by rw[YaC,Zu,Zr];omega
   refine⟨by omega,by omega,by omega,by omega,?_⟩
   repeat' (first|with_reducible exact b1|with_reducible exact b2|with_reducible apply And.intro)
   all_goals refine⟨⟨_,_,i+1,yi,zi,e1,e2⟩,trivial,?_,ZI yi (ZO i)⟩
   all_goals repeat' constructor
  .have bt:bitB b i=false:=t
   have e1:pkG b (rs.zip ll) (i+1)=pkG b (rs.zip ll) i:=by
    show (if bitB b i then _ else _)=_;rw[bt];rfl
   refine⟨⟨(pkG b (rs.zip ll) i).map Prod.fst,(pkG b (rs.zip ll) i).map Prod.snd,i+1,yi,zi,by rw[e1],by rw[e1]⟩,trivial,?_,ZI yi (ZO i)⟩
   repeat' constructor
 .obtain⟨r,L,i,h1,h2,rfl,rfl⟩:=x;dsimp only at z ⊢;have zi:¬ i<7:=by have:=Zg z;omega
  exact fin i h1 h2 (by omega)
 .obtain⟨r,L,i,h1,h2,rfl,rfl⟩:=x;dsimp only at y ⊢;have yi:¬ i<rs.length:=by have:=Zg y;omega
  exact fin i h1 h2 (by omega)
theorem s_pi3b:Tb C0 20 Yub:=by
 refine .of Tryz.func20 (by decide) rfl fun args H K h hB=>?_
 unfold Yub Yxe at h;iterate 2 (split at h<;>try exact h.elim)
 refine⟨_,?_,Yuc _ _ _ ⟨_,_,_,_,_,_,_⟩ _ _ _ _ _ K h.1 h.2.1 h.2.2⟩;exact trivial
abbrev chW8 (raw:LE)(l:List StpT)(bb:LI)(S:Arn)(rs:LI)(ll:List LE)(r:LI)(L:List LE)(r1:LI)(L1:List LE)(d:LS)(o:LI)(own:Bool)(b:LI):LH C0:=chF3 raw l bb S rs ll++[.row true .u32 r,.rows .hent .ent L,.row true .u32 r1,.rows .hent .ent L1,.row true .slot d,.row true .u32 o,.row true .slot [],.row true .u32 [],.box [.slc 16,.slc 17],.row own .u8 b]
def aDmg:Ann C0:={ quiet:=[9999999,70],Γ:=[(8,Yc [] tMod),(70,Yc [] tJnR)] }
abbrev O132 (raw:LE)(l:List StpT)(bb:LI)(S:Arn)(rs:LI)(ll:List LE)(r:LI)(L:List LE)(r1:LI)(L1:List LE)(d:LS)(o b:LI)(K:SV → LH C0 → LN → Prop)(o1:LI):Prop:=K (.one (.at (.slc 22))) [(.row false .ent (raw)),(.row false .stp (l)),(.row false .u8 (bb)),(.box [(.ptr 6 0),(.slc 7),(.slc 8),(.val (VW (S.reads)))]),(.row true .u32 (rs)),(Ta.rows .hent .ent (ll)),(.box [(.slc 9),(.slc 10),(.slc 11),(.val (VU (S.fresh)))]),(.row true .node (S.nodes)),(.row true .int (S.counts)),(.row true .bool (S.used)),(.row true .u32 (S.gen)),(.row true .u32 (S.rel)),(.row true .u32 (r)),(Ta.rows .hent .ent (L)),(.row true .u32 (r1)),(Ta.rows .hent .ent (L1)),(.row true .slot (d)),(.row true .u32 (o)),(.row true .slot []),(.row true .u32 []),(.box [(.slc 16),(.slc 17)]),(.row false .u8 (b)),(.row true .u8 (o1))] []
abbrev O133 (b:LI)(x:Int)(Z_:Prop):Prop:=(0:Int)<=0/\0<=x/\x<=(b.length:Int)/\0<=Za.wrap (x+1)/\Za.wrap (x+1)<=(b.length:Int)/\(b.length:Int)<=(b.length:Int)/\(Zp (Zq 0) (Zn x.toNat b)).length<=1000000000/\Z_
abbrev O134 (b:LI)(x:Int):Prop:=(Zp (Za.wrap (x+1)).toNat (Zn (b.length:Int).toNat b)).length<=1000000000
theorem Yxf (raw:LE)(l:List StpT)(bb:LI)(S:Arn)(rs:LI)(ll:List LE)(r:LI)(L:List LE)(r1:LI)(L1:List LE)(d:LS)(o b:LI)(at_ c kd:Int)(K:KT)(hb:allB b)(b0:0<b.length)(bl:b.length<=100000000)(c0:0<=c/\c<256)(hT:∀ w o',allB o'->o'.length<=b.length+1->K (.one (.at (.slc 22))) (chW8 raw l bb S rs ll r L r1 L1 d o w b++[.row true .u8 o']) [])(hF:∀ o',allB o'->o'.length<=b.length+1->K (.one (.at (.slc 22))) (chW8 raw l bb S rs ll r L r1 L1 d o false b++[.row false .u8 o']) []) :
  vc C0 aDmg Tryz.f30 [.at (.slc 21),.at (.val (.int .i64 at_)),.at (.val (.int .u8 c)),.at (.val (.int .u8 kd))] (chW8 raw l bb S rs ll r L r1 L1 d o true b) (Yh 22 K):=by
 refine Eq.mp (show (0<(b.length:Int)/\(b.length:Int)<=9223372036854775807/\∀ x:Int,x=(at_ % (b.length:Int))->brS (kd.tmod 5==0) (O133 b x ([c].length<=1000000000/\∀ o1:LI,o1=(jnA (Zp (Zq 0) (Zn x.toNat b)) [c])->o1.length<=1000000000/\O134 b x/\∀ o2:LI,o2=(jnA o1 (Zp (Za.wrap (x+1)).toNat (Zn (b.length:Int).toNat b)))->O132 raw l bb S rs ll r L r1 L1 d o b K o2)) (brS (kd.tmod 5==1) (O133 b x (O134 b x/\∀ o1:LI,o1=(jnA (Zp (Zq 0) (Zn x.toNat b)) (Zp (Za.wrap (x+1)).toNat (Zn (b.length:Int).toNat b)))->O132 raw l bb S rs ll r L r1 L1 d o b K o1)) (brS (kd.tmod 5==2) ((0:Int)<=0/\0<=x/\x<=(b.length:Int)/\0<=x/\x<=(b.length:Int)/\(b.length:Int)<=(b.length:Int)/\(Zp (Zq 0) (Zn x.toNat b)).length<=1000000000/\[c].length<=1000000000/\∀ o1:LI,o1=(jnA (Zp (Zq 0) (Zn x.toNat b)) [c])->o1.length<=1000000000/\(Zp x.toNat (Zn (b.length:Int).toNat b)).length<=1000000000/\∀ o2:LI,o2=(jnA o1 (Zp x.toNat (Zn (b.length:Int).toNat b)))->O132 raw l bb S rs ll r L r1 L1 d o b K o2) (brS (kd.tmod 5==3) ((0:Int)<=0/\0<=x/\x<=(b.length:Int)/\K (.one (.at (.slc 22))) [(.row false .ent (raw)),(.row false .stp (l)),(.row false .u8 (bb)),(.box [(.ptr 6 0),(.slc 7),(.slc 8),(.val (VW (S.reads)))]),(.row true .u32 (rs)),(Ta.rows .hent .ent (ll)),(.box [(.slc 9),(.slc 10),(.slc 11),(.val (VU (S.fresh)))]),(.row true .node (S.nodes)),(.row true .int (S.counts)),(.row true .bool (S.used)),(.row true .u32 (S.gen)),(.row true .u32 (S.rel)),(.row true .u32 (r)),(Ta.rows .hent .ent (L)),(.row true .u32 (r1)),(Ta.rows .hent .ent (L1)),(.row true .slot (d)),(.row true .u32 (o)),(.row true .slot []),(.row true .u32 []),(.box [(.slc 16),(.slc 17)]),(.row false .u8 (b)),(.row false .u8 (Zp (Zq 0) (Zn x.toNat b)))] []) (b.length<=1000000000/\
  [c].length<=1000000000/\∀ o1:LI,o1=(jnA b [c])->K (.one (.at (.slc 22))) [(.row false .ent (raw)),(.row false .stp (l)),(.row false .u8 (bb)),(.box [(.ptr 6 0),(.slc 7),(.slc 8),(.val (VW (S.reads)))]),(.row true .u32 (rs)),(Ta.rows .hent .ent (ll)),(.box [(.slc 9),(.slc 10),(.slc 11),(.val (VU (S.fresh)))]),(.row true .node (S.nodes)),(.row true .int (S.counts)),(.row true .bool (S.used)),(.row true .u32 (S.gen)),(.row true .u32 (S.rel)),(.row true .u32 (r)),(Ta.rows .hent .ent (L)),(.row true .u32 (r1)),(Ta.rows .hent .ent (L1)),(.row true .slot (d)),(.row true .u32 (o)),(.row true .slot []),(.row true .u32 []),(.box [(.slc 16),(.slc 17)]),(.row true .u8 (b)),(.row true .u8 (o1))] [])))))=_ by kernel_rfl) ?_
 delta O132 O133 O134;refine⟨by omega,by omega,fun x ex=>?_⟩;have x0:0<=x:=by rw[ex];exact ZaQ _ (by omega)
 have x1:x<b.length:=by rw[ex];exact ZaH _ (by omega)
 rw[Yb (x:=x+1) (by omega) (by omega)];have ca:allB [c]:=fun y hy=>by rw[ZL.1 hy];exact c0
 have sa:∀ n m:Nat,allB (Zp n (Zn m b)):=fun n m y hy=>hb y (Zac (Zaj hy))
 have ja:∀ {p q:LI},allB p->allB q->allB (jnA p q):=fun hp hq=>YaZ hp hq
 have jl:∀ p q:LI,(jnA p q).length=p.length+q.length:=fun p q=>Zh ..
 have sl:∀ n m:Nat,(Zp n (Zn m b)).length=min m b.length-n:=fun n m=>by rw[Zy,ZG]
 have cl:[c].length=1:=rfl;refine Ya (fun _=>⟨by omega,by omega,by omega,by omega,by omega,by omega,by rw[sl];omega,by omega,fun o1 e1=>⟨by rw[e1,jl,sl];omega,by rw[sl];omega,fun o2 e2=>hT _ o2 (by rw[e2,e1];exact ja (ja (sa _ _) ca) (sa _ _)) (by rw[e2,e1,jl,jl,sl,sl];omega)⟩⟩) fun _=>Ya (fun _=>⟨by omega,by omega,by omega,by omega,by omega,by omega,by rw[sl];omega,by rw[sl];omega,fun o1 e1=>hT _ o1 (by rw[e1];exact ja (sa _ _) (sa _ _)) (by rw[e1,jl,sl,sl];omega)⟩) fun _=>Ya (fun _=>⟨by omega,by omega,by omega,by omega,by omega,by omega,by rw[sl];omega,by omega,fun o1 e1=>⟨by rw[e1,jl,sl];omega,by rw[sl];omega,fun o2 e2=>hT _ o2 (by rw[e2,e1];exact ja (ja (sa _ _) ca) (sa _ _)) (by rw[e2,e1,jl,jl,sl,sl];omega)⟩⟩) fun _=>Ya (fun _=>⟨by omega,by omega,by omega,hF (Zp (Zq 0) (Zn x.toNat b)) (sa _ _) (by rw[sl];omega)⟩) fun _=>⟨by omega,by omega,fun o1 e1=>hT _ o1 (by rw[e1];exact ja hb ca) (by rw[e1,jl];omega)⟩
abbrev wM8 (H:LH C0)(q:LE->List StpT->LI->Arn->LI->List LE->LI->List LE->LI->List LE->LS->LI->LI->Prop):Prop:=match H with
 | [.row false .ent raw,.row false .stp l,.row false .u8 bb,.box [.ptr 6 0,.slc 7,.slc 8,.val (.int .u64 rd)],.row true .u32 rs,.rows .hent .ent ll,.box [.slc 9,.slc 10,.slc 11,.val (.int .u32 fr)],.row true .node nd,.row true .int ct,.row true .bool us,.row true .u32 gn,.row true .u32 rl,.row true .u32 r,.rows .hent .ent L,.row true .u32 r1,.rows .hent .ent L1,.row true .slot d,.row true .u32 o,.row true .slot [],.row true .u32 [],.box [.slc 16,.slc 17],.row true .u8 b]=>q raw l bb ⟨us,gn,rl,fr,nd,ct,rd⟩ rs ll r L r1 L1 d o b
 | _=>False
def tDmg:Tfm C0:=fun args H K=>match args with
 | [.at (.slc 21),.at (.val (.int .i64 _)),.at (.val (.int .u8 c)),.at (.val (.int .u8 _))]=>wM8 H fun raw l bb S rs ll r L r1 L1 d o b=>allB b/\0<b.length/\b.length<=100000000/\(0<=c/\c<256)/\(∀ w o',allB o'->o'.length<=b.length+1->K (.one (.at (.slc 22))) (chW8 raw l bb S rs ll r L r1 L1 d o w b++[.row true .u8 o']) []) ∧
   ∀ o',allB o'->o'.length<=b.length+1->K (.one (.at (.slc 22))) (chW8 raw l bb S rs ll r L r1 L1 d o false b++[.row false .u8 o']) []
 | _=>False
theorem Yzk:Tb C0 30 tDmg:=by
 refine .of Tryz.func30 (by decide) rfl fun args H K h hB=>?_
 unfold tDmg wM8 at h;iterate 2 (split at h<;>try exact h.elim)
 obtain⟨h1,h2,h3,h4,h5,h6⟩:=h;refine⟨_,?_,Yxf _ _ _ ⟨_,_,_,_,_,_,_⟩ _ _ _ _ _ _ _ _ _ _ _ _ K h1 h2 h3 h4 h5 h6⟩;exact⟨Ye C0.ok Ysl _,Ye C0.ok Yjy _,trivial⟩
def sumF (ll:List LI):Nat:=(ll.map List.length).sum
def RwB (ll:List LI)(n:Nat):Prop:=(∀ l∈ll,allB l/\l.length<=1048576)/\sumF ll+5*ll.length<=n
theorem YoL (l:LI)(ll:List LI):sumF (l::ll)=l.length+sumF ll:=rfl
theorem RwB.nil (n:Nat):RwB [] n:=⟨fun l hl=>by simp at hl,ZC _⟩
theorem YqM (ll l2:List LI):sumF (ll++l2)=sumF ll+sumF l2:=by
 unfold sumF;rw[ZX,List.sum_append]
theorem RwB.snoc {ll:List LI}{n m:Nat}{p:LI}(h:RwB ll n)(hp:allB p)(hl:p.length<=1048576)(hm:n+p.length+5<=m):RwB (ll++[p]) m :=
 ⟨fun l hm=>(Zx.1 hm).elim (h.1 l) fun e=>by rw[ZL.1 e];exact⟨hp,hl⟩,by
  have:=h.2;have e:sumF [p]=p.length:=Zbb _;rw[YqM,Zh,Zr,e];omega⟩
theorem YqN {b p:LI}{at_ n:Int}(hb:allB b)(h:nxD b at_=(p,n,0)):0<=at_/\at_+p.length+5<=n/\n<=b.length/\p.length<=1048576:=by
 by_cases c:at_<0∨(b.length:Int)<at_
 .unfold nxD at h;rw[Zj c] at h;simp only[Zs] at h;omega
 .obtain⟨q,k,e',hv⟩:∃ v k e',frD 12 13 14 1048576 (b.drop at_.toNat)=(v,k,e'):=⟨_,_,_,rfl⟩
  have ue:=Yba (by omega) (by omega) hv;rw[h] at ue
  by_cases z:e'=0
  .rw[Zj z] at ue;simp only[Zs] at ue;obtain⟨v,k',e2,h2⟩:∃ v k e',vD 12 13 0 (b.drop at_.toNat) 0=(v,k,e'):=⟨_,_,_,rfl⟩
   have ef:=YbW h2;rw[hv] at ef;split at ef
   .simp only[Zs] at ef;omega
   .rename_i z2;have z2:e2=0:=by simpa using z2
    subst z2;have vk:=Yik _ 0 0 v k' (YE hb _) (ZE 0) h2;split at ef
    .simp only[Zs] at ef;omega
    .split at ef
     .simp only[Zs] at ef;omega
     .split at ef
      .simp only[Zs] at ef;have dl:(b.drop at_.toNat).length=b.length-at_.toNat:=Zy;rw[ue.1,ef.1];rw[Zy,ZG];omega
      .simp only[Zs] at ef;omega
  .rw[Zf z] at ue;simp only[Zs] at ue;omega
structure XSp (P:List LI->Int->Prop) where
 ll:List LI
 at_:Int
 h:P ll at_
def aSp (P:List LI->Int->Prop)(b:LI):Ann C0:={ quiet:=[9999999],trunc:=fun n=>n==22,Γ:=[(48,Yc [] tNx)],inv:=fun m=>match m with
 | 3=>some { X:=XSp P,sl:=[4,5],tf:=fun x=>[.one (.at (.slc 1)),vi .i64 x.at_],hf:=fun x=>[.row false .u8 b,.orows .hu8 .u8 0 x.ll],μ:=fun x=>(b.length-x.at_).toNat }
 | _=>none }
def tSp:Tfm C0:=fun args H K=>match args,H with
 | [.at (.slc 0)],[.row false .u8 b]=>allB b/\b.length<=100000000/\∀ ll at_,RwB ll b.length->K (.tup [.at (.slc 1),.at (vI at_)]) [.row false .u8 b,.orows .hu8 .u8 0 ll] []
 | _,_=>False
structure XRfm (P:LI->Nat->List LI->Prop) where
 o:LI
 i:Nat
 lt:List LI
 h:P o i lt
def aRfm (P:LI->Nat->List LI->Prop)(H:LH C0):Ann C0:={ quiet:=[9999999],Γ:=[(78,Yc [] tSp),(70,Yc [] tJnR),(8,Yc [] tMod),(79,Yc [] tFrR)],inv:=fun m=>match m with
 | 5=>some { X:=XRfm P,sl:=[7,9,11],tf:=fun x=>[.one (.at (.slc 22)),.one (.at (.slc 23)),vi .i64 x.i],hf:=fun x=>H++[.orows .hu8 .u8 x.i x.lt,.row true .u8 x.o],μ:=fun x=>x.lt.length }
 | _=>none }
def PSp (b:LI):List LI->Int->Prop:=fun ll at_=>0<=at_/\at_<=b.length/\RwB ll at_.toNat
theorem Yzl (b:LI)(K:KT)(hb:allB b)(hl:b.length<=100000000)(h:∀ ll at_,RwB ll b.length->K (.tup [.at (.slc 1),.at (vI at_)]) [.row false .u8 b,.orows .hu8 .u8 0 ll] []) :
  vc C0 (aSp (PSp b) b) Tryz.f78 [.at (.slc 0)] [.row false .u8 b] (Yh 1 K):=by
 generalize hP:PSp b=P;refine Eq.mp (show ((∃ x:XSp P,True/\(True/\True/\VI 0=(VI (x.at_))/\True)/\b=b/\(([]:List LI)=[]/\(0:Nat)=0/\x.ll=[])/\True)/\∀ x:XSp P,True->allB b/\b.length<=1000000000/\∀ p:LI,∀ n:Int,∀ e:Int,nxD b x.at_=(Prod.mk (p) (Prod.mk (n) (e)))->brS (e != 0) (K (.tup [(.at (.slc 1)),(.at (.val (VI (x.at_))))]) [(.row false .u8 (b)),(Ta.orows .hu8 .u8 0 (x.ll))] []) ((0+x.ll.length+[p].length)*Yd C0 EC.hu8<=140737488355328/\∃ x':XSp P,True/\((True/\True/\VI (n)=VI (x'.at_)/\True)/\b=b/\((0:Nat)=0/\(x.ll++[p])=x'.ll)/\True)/\((b.length:Int)-x'.at_).toNat<((b.length:Int)-x.at_).toNat))=_ by kernel_rfl) ?_;subst hP;refine⟨⟨⟨[],0,ZE 0,by omega,RwB.nil _⟩,trivial,⟨trivial,trivial,rfl,trivial⟩,rfl,⟨rfl,rfl,rfl⟩,trivial⟩,fun x _=>⟨hb,by omega,fun p n e hn=>Ya (fun z=>?_) fun z=>?_⟩⟩
 .obtain⟨ll,at_,a0,a1,R⟩:=x;exact h _ _ ⟨R.1,by have R2:sumF ll+5*ll.length<=at_.toNat:=R.2;show sumF ll+5*ll.length<=b.length;omega⟩
 .obtain⟨ll,at_,a0,a1,R⟩:=x;dsimp only at hn ⊢;have z:e=0:=by simpa using z
  subst z;have pr:=YbX hb hn;obtain⟨_,s1,s2,s3⟩:=YqN hb hn;have R2:=R.2;refine⟨by rw[YmN,Zr];omega,⟨ll++[p],n,by omega,s2,R.snoc pr.1 s3 (by omega)⟩,trivial,⟨⟨trivial,trivial,rfl,trivial⟩,rfl,⟨rfl,rfl⟩,trivial⟩,?_⟩;show ((b.length:Int)-n).toNat<((b.length:Int)-at_).toNat;omega
theorem s_sp:Tb C0 78 tSp:=by
 refine .of Tryz.func78 (by decide) rfl fun args H K h hB=>?_
 unfold tSp at h;split at h<;>try exact h.elim
 rename_i b;exact⟨aSp (PSp b) b,⟨Ye C0.ok s_nr _,trivial⟩,Yzl b K h.1 h.2.1 h.2.2⟩
def PRfm (n:Nat):LI->Nat->List LI->Prop:=fun o i lt=>allB o/\(∀ l∈lt,allB l/\l.length<=1048576)/\o.length+sumF lt+15*lt.length<=3*n+4/\i+lt.length<=n
abbrev O135 (P:LI → Nat → List LI → Prop)(raw:LE)(l:List StpT)(bb:LI)(S:Arn)(rs:LI)(ll:List LE)(r:LI)(L:List LE)(r1:LI)(L1:List LE)(d:LS)(o b:LI)(at_ c x:Int)(x1:XRfm P)(o2:LI):Prop:=x1.o.length<=1000000000/\o2.length<=1000000000/\∀ w0_:LI,w0_=jnA x1.o o2->∃ w1_:XRfm P,True/\((VI (at_)=VI (at_)/\(Zm .u8 (c))=(Zm .u8 (c))/\True/\True/\VI (x)=VI (x)/\(VI (Za.wrap ((x1.i:Int)+1)))=(VI (w1_.i:Int))/\True)/\raw=raw/\l=l/\bb=bb/\(True/\True/\True/\VW (S.reads)=VW (S.reads)/\True)/\rs=rs/\ll=ll/\(True/\True/\True/\VU (S.fresh)=VU (S.fresh)/\True)/\S.nodes=S.nodes/\S.counts=S.counts/\S.used=S.used/\S.gen=S.gen/\S.rel=S.rel/\r=r/\L=L/\r1=r1/\L1=L1/\d=d/\o=o/\([]:LS)=[]/\([]:LI)=[]/\(True/\True/\True)/\b=b/\((x1.i+1)=w1_.i/\Zp 1 x1.lt=w1_.lt)/\w0_=w1_.o/\True)/\w1_.lt.length<x1.lt.length
set_option maxRecDepth 4000 in
theorem Yxg (raw:LE)(l:List StpT)(bb:LI)(S:Arn)(rs:LI)(ll:List LE)(r:LI)(L:List LE)(r1:LI)(L1:List LE)(d:LS)(o b:LI)(at_ c:Int)(K:KT)(hb:allB b)(b0:4<=b.length)(bl:b.length<=100000000)(c0:0<=c/\c<256)(h:∀ o',allB o'->o'.length<=3*b.length+4->K (.one (.at (.slc 22))) (chW8 raw l bb S rs ll r L r1 L1 d o false b++[.row true .u8 o']) []) :
  vc C0 (aRfm (PRfm b.length) (chW8 raw l bb S rs ll r L r1 L1 d o false b)) Tryz.f31 [.at (.slc 21),.at (.val (.int .i64 at_)),.at (.val (.int .u8 c))] (chW8 raw l bb S rs ll r L r1 L1 d o true b) (Yh 22 K):=by
 generalize hP:PRfm b.length=P
 refine Eq.mp (show ((0:Int)<=4/\4<=(b.length:Int)/\(b.length:Int)<=(b.length:Int)/\allB (Zp (Zq 4) (Zn (b.length:Int).toNat b))/\(Zp (Zq 4) (Zn (b.length:Int).toNat b)).length<=100000000/\∀ ll1:List LI,∀ at_1:Int,RwB ll1 (Zp (Zq 4) (Zn (b.length:Int).toNat b)).length->(0:Int)<=0/\(0:Int)<=4/\4<=(b.length:Int)/\([]:LE).length<=1000000000/\(Zp (Zq 0) (Zn (Zq 4) b)).length<=1000000000/\∀ o1:LI,o1=(jnA [] (Zp (Zq 0) (Zn (Zq 4) b)))->(0<if 1>(↑(0+ll1.length):Int) then 1 else (↑(0+ll1.length):Int))/\(if 1>(↑(0+ll1.length):Int) then 1 else (↑(0+ll1.length):Int))<=9223372036854775807/\∀ x:Int,x=(at_ % if 1>(↑(0+ll1.length):Int) then 1 else (↑(0+ll1.length):Int))->(∃ x1:XRfm P,True/\(VI (at_)=VI (at_)/\(Zm .u8 (c))=(Zm .u8 (c))/\True/\True/\VI (x)=VI (x)/\VI 0=(VI (x1.i:Int))/\True)/\raw=raw/\l=l/\bb=bb/\(True/\True/\True/\VW (S.reads)=VW (S.reads)/\True)/\rs=rs/\ll=ll/\(True/\True/\True/\VU (S.fresh)=VU (S.fresh)/\True)/\S.nodes=S.nodes/\S.counts=S.counts/\S.used=S.used/\S.gen=S.gen/\S.rel=S.rel/\r=r/\L=L/\r1=r1/\L1=L1/\d=d/\o=o/\([]:LS)=[]/\([]:LI)=[]/\(True/\True/\True)/\b=b/\(0=x1.i/\ll1=x1.lt)/\o1=x1.o/\True)/\∀ x1:XRfm P,True->brS (decide ((x1.i:Int)<(↑(x1.i+x1.lt.length):Int))) (0<=(x1.i:Int)/\(x1.i:Int)<(↑(x1.i+x1.lt.length):Int)/\((↑(x1.i:Int).toNat:Int))=((x1.i:Int))/\0<(x1.lt.length:Int)/\brS ((x1.i:Int)==x) (brS (decide ((↑(x1.lt.headD []).length:Int)>0)) (0<(↑(x1.lt.headD []).length:Int)/\
  (↑(x1.lt.headD []).length:Int)<=9223372036854775807/\∀ x2:Int,x2=(Za.wrap (at_.tdiv 7) % (↑(x1.lt.headD []).length:Int))->0<=x2/\x2<(↑(x1.lt.headD []).length:Int)/\allB ((x1.lt.headD []).set x2.toNat c)/\((x1.lt.headD []).set x2.toNat c).length<=900000000/\∀ o2:LI,o2=(frE ((x1.lt.headD []).set x2.toNat c))->O135 P raw l bb S rs ll r L r1 L1 d o b at_ c x x1 o2) (allB (x1.lt.headD [])/\(x1.lt.headD []).length<=900000000/\∀ o2:LI,o2=(frE (x1.lt.headD []))->O135 P raw l bb S rs ll r L r1 L1 d o b at_ c x x1 o2)) (allB (x1.lt.headD [])/\(x1.lt.headD []).length<=900000000/\∀ o2:LI,o2=(frE (x1.lt.headD []))->O135 P raw l bb S rs ll r L r1 L1 d o b at_ c x x1 o2)) (K (.one (.at (.slc 22))) [(.row false .ent (raw)),(.row false .stp (l)),(.row false .u8 (bb)),(.box [(.ptr 6 0),(.slc 7),(.slc 8),(.val (VW (S.reads)))]),(.row true .u32 (rs)),(Ta.rows .hent .ent (ll)),(.box [(.slc 9),(.slc 10),(.slc 11),(.val (VU (S.fresh)))]),(.row true .node (S.nodes)),(.row true .int (S.counts)),(.row true .bool (S.used)),(.row true .u32 (S.gen)),(.row true .u32 (S.rel)),(.row true .u32 (r)),(Ta.rows .hent .ent (L)),(.row true .u32 (r1)),(Ta.rows .hent .ent (L1)),(.row true .slot (d)),(.row true .u32 (o)),(.row true .slot []),(.row true .u32 []),(.box [(.slc 16),(.slc 17)]),(.row false .u8 (b)),(.row true .u8 (x1.o))] []))=_ by kernel_rfl) ?_
 delta O135;subst hP;have ld:(Zp (Zq 4) (Zn ((b.length:Int)).toNat b)).length=b.length-4:=by rw[Zy,ZG];omega
 have lt4:(Zp (Zq 0) (Zn (Zq 4) b)).length=4:=by rw[Zy,ZG];omega
 have ab4:allB (Zp (Zq 0) (Zn (Zq 4) b)):=YE (Yaw hb _) _
 have step:∀ {x:XRfm (PRfm b.length)} {q o2 o3:LI},allB q->q.length=(x.lt.headD []).length->0<x.lt.length->o2=frE q->o3=jnA x.o o2->PRfm b.length o3 (x.i+1) (Zp 1 x.lt):=fun {x q o2 o3} hq el hp e2 e3=>by
  obtain⟨o,i,lt,a0,a1,a2,a3⟩:=x;cases lt with
  | nil=>simp at hp
  | cons p lt =>
   have el:q.length=p.length:=el;have p1:=(a1 p ZP).2;have fl:=YbV q;have e3:o3=o++o2:=e3;rw[YoL,ZQ] at a2;rw[ZQ] at a3;subst e2;refine⟨by rw[e3];exact YaZ a0 (Ykt hq (by omega)),fun y hy=>a1 y (Zz _ hy),?_,?_⟩
   .show o3.length+sumF lt+15*lt.length<=_;rw[e3,Zh];omega
   .show i+1+lt.length<=_;omega
 have hd:∀ {x:XRfm (PRfm b.length)},0<x.lt.length->allB (x.lt.headD [])/\(x.lt.headD []).length<=1048576:=fun {x} hp=>by
  obtain⟨o,i,lt,a0,a1,a2,a3⟩:=x;cases lt with
  | nil=>simp at hp
  | cons p lt=>exact a1 p ZP
 have ol:∀ x:XRfm (PRfm b.length),x.o.length<=3*b.length+4/\x.i+x.lt.length<=b.length/\allB x.o:=fun x=>by
  have:=x.h.2.2.1;exact⟨by omega,x.h.2.2.2,x.h.1⟩
 refine⟨by omega,by omega,by omega,YE (Yaw hb _) _,by rw[ld];omega,fun ll1 at1 R=>⟨by omega,by omega,by omega,by simp,by rw[lt4];omega,fun o1 e1=>⟨by split<;>omega,?_,fun x ex=>⟨⟨⟨o1,0,ll1,?_⟩,trivial,?_⟩,fun x1 _=>Ya (fun y=>?_) fun y=>?_⟩⟩⟩⟩
 .have:=R.2;rw[ld] at this;split<;>omega
 .have R2:=R.2;rw[ld] at R2;have e1:o1=[]++(Zp (Zq 0) (Zn (Zq 4) b)):=e1;rw[ZS] at e1;exact⟨by rw[e1];exact ab4,R.1,by rw[e1,lt4];omega,by omega⟩
 ·repeat' constructor
 .have hp:0<x1.lt.length:=by have:=Zc y;omega
  obtain⟨ha,hl⟩:=hd hp;obtain⟨q1,q2,q3⟩:=ol x1;have ei:Za.wrap ((x1.i:Int)+1)=((x1.i+1:Nat):Int):=by rw[Yb (by omega) (by omega)];omega
  have dl:(Zp 1 x1.lt).length<x1.lt.length:=by rw[Zy];omega
  refine⟨by omega,by omega,by omega,by omega,Ya (fun _=>Ya (fun z=>?_) fun z=>?_) fun _=>?_⟩
  .have hz:0<(x1.lt.headD []).length:=by have:=Zc z;omega
   refine⟨by omega,by omega,fun x2 e2=>?_⟩;have x20:0<=x2:=by rw[e2];exact ZaQ _ (by omega)
   have x21:x2<(x1.lt.headD []).length:=by rw[e2];exact ZaH _ (by omega)
   have hs:allB ((x1.lt.headD []).set x2.toNat c):=fun y hy=>(Zbw hy).elim (ha y) fun e=>by rw[e];exact c0
   have sl:((x1.lt.headD []).set x2.toNat c).length=(x1.lt.headD []).length:=ZaB;refine⟨x20,x21,hs,by rw[sl];omega,fun o2 eo2=>⟨by omega,by rw[eo2];have:=YbV ((x1.lt.headD []).set x2.toNat c);omega,fun o3 eo3=>⟨⟨o3,x1.i+1,Zp 1 x1.lt,step hs sl hp eo2 eo3⟩,trivial,?_,dl⟩⟩⟩;rw[ei]
   repeat' constructor
  .refine⟨ha,by omega,fun o2 eo2=>⟨by omega,by rw[eo2];have:=YbV (x1.lt.headD []);omega,fun o3 eo3=>⟨⟨o3,x1.i+1,Zp 1 x1.lt,step ha rfl hp eo2 eo3⟩,trivial,?_,dl⟩⟩⟩;rw[ei]
   repeat' constructor
  .refine⟨ha,by omega,fun o2 eo2=>⟨by omega,by rw[eo2];have:=YbV (x1.lt.headD []);omega,fun o3 eo3=>⟨⟨o3,x1.i+1,Zp 1 x1.lt,step ha rfl hp eo2 eo3⟩,trivial,?_,dl⟩⟩⟩;rw[ei]
   repeat' constructor
 .obtain⟨q1,_,q3⟩:=ol x1;exact h _ q3 q1
def tRfm:Tfm C0:=fun args H K=>match args with
 | [.at (.slc 21),.at (.val (.int .i64 _)),.at (.val (.int .u8 c))]=>wM8 H fun raw l bb S rs ll r L r1 L1 d o b=>allB b/\4<=b.length/\b.length<=100000000/\(0<=c/\c<256)/\∀ o',allB o'->o'.length<=3*b.length+4->K (.one (.at (.slc 22))) (chW8 raw l bb S rs ll r L r1 L1 d o false b++[.row true .u8 o']) []
 | _=>False
theorem Yzm:Tb C0 31 tRfm:=by
 refine .of Tryz.func31 (by decide) rfl fun args H K h hB=>?_
 unfold tRfm wM8 at h;iterate 2 (split at h<;>try exact h.elim)
 obtain⟨h1,h2,h3,h4,h5⟩:=h;refine⟨_,?_,Yxg _ _ _ ⟨_,_,_,_,_,_,_⟩ _ _ _ _ _ _ _ _ _ _ _ K h1 h2 h3 h4 h5⟩;exact⟨Ye C0.ok s_sp _,Ye C0.ok Yjy _,Ye C0.ok Ysl _,Ye C0.ok Yvp _,trivial⟩
def Yzn (P:LI->List LE->Nat->Prop)(rs:LI)(H:LH C0):Ann C0:={ quiet:=[9999999],Γ:=[],inv:=fun m=>match m with
 | 4=>some { X:=XPi P,sl:=[8,9,10],tf:=fun x=>[.one (.at (.slc 22)),.one (.at (.slc 23)),vi .i64 x.i],hf:=fun x=>H++[.row true .u32 x.r,.rows .hent .ent x.L],μ:=fun x=>rs.length-x.i }
 | _=>none }
abbrev Yxh (H:LH C0)(q:LE->List StpT->LI->Arn->LI->List LE->LI->List LE->LI->List LE->LS->LI->LI->Prop):Prop:=match H with
 | [.row false .ent raw,.row false .stp l,.row false .u8 bb,.box [.ptr 6 0,.slc 7,.slc 8,.val (.int .u64 rd)],.row true .u32 rs,.rows .hent .ent ll,.box [.slc 9,.slc 10,.slc 11,.val (.int .u32 fr)],.row true .node nd,.row true .int ct,.row true .bool us,.row true .u32 gn,.row true .u32 rl,.row true .u32 r0,.rows .hent .ent L0,.row true .u32 r1,.rows .hent .ent L1,.row true .slot d,.row true .u32 o,.row true .slot [],.row true .u32 [],.box [.slc 16,.slc 17],.row true .u8 b0]=>q raw l bb ⟨us,gn,rl,fr,nd,ct,rd⟩ rs ll r0 L0 r1 L1 d o b0
 | _=>False
def Yud:Tfm C0:=fun args H K=>match args with
 | [.at (.slc 4),.at (.slc 5),.at (.val (.int .u8 b))]=>Yxh H fun raw l bb S rs ll r0 L0 r1 L1 d o b0=>rs.length=ll.length/\rs.length<=1000/\∀ r L,r=(pkZ b (rs.zip ll)).map Prod.fst->L=(pkZ b (rs.zip ll)).map Prod.snd->K (.tup [.at (.slc 22),.at (.slc 23)]) (chW8 raw l bb S rs ll r0 L0 r1 L1 d o true b0++[.row true .u32 r,.rows .hent .ent L]) []
 | _=>False
abbrev O136 {P:LI → List LE → Nat → Prop}(raw:LE)(l:List StpT)(bb:LI)(S:Arn)(rs:LI)(ll:List LE)(r0:LI)(L0:List LE)(r1:LI)(L1:List LE)(d:LS)(o b0:LI)(b:Int)(K:SV → LH C0 → LN → Prop)(x:XPi P):Prop:=brS (decide (b≥128)) ((x.r.length+[0].length)*Yd C0 EC.u32<=140737488355328/\(x.L.length+([[]]:List LE).length)*Yd C0 EC.hent<=140737488355328/\K (.tup [(.at (.slc 22)),(.at (.slc 23))]) [(.row false .ent (raw)),(.row false .stp (l)),(.row false .u8 (bb)),(.box [(.ptr 6 0),(.slc 7),(.slc 8),(.val (VW (S.reads)))]),(.row true .u32 (rs)),(Ta.rows .hent .ent (ll)),(.box [(.slc 9),(.slc 10),(.slc 11),(.val (VU (S.fresh)))]),(.row true .node (S.nodes)),(.row true .int (S.counts)),(.row true .bool (S.used)),(.row true .u32 (S.gen)),(.row true .u32 (S.rel)),(.row true .u32 (r0)),(Ta.rows .hent .ent (L0)),(.row true .u32 (r1)),(Ta.rows .hent .ent (L1)),(.row true .slot (d)),(.row true .u32 (o)),(.row true .slot []),(.row true .u32 []),(.box [(.slc 16),(.slc 17)]),(.row true .u8 (b0)),(.row true .u32 (x.r++[0])),(Ta.rows .hent .ent (x.L++([[]]:List LE)))] []) (K (.tup [(.at (.slc 22)),(.at (.slc 23))]) [(.row false .ent (raw)),(.row false .stp (l)),(.row false .u8 (bb)),(.box [(.ptr 6 0),(.slc 7),(.slc 8),(.val (VW (S.reads)))]),(.row true .u32 (rs)),(Ta.rows .hent .ent (ll)),(.box [(.slc 9),(.slc 10),(.slc 11),(.val (VU (S.fresh)))]),(.row true .node (S.nodes)),(.row true .int (S.counts)),(.row true .bool (S.used)),(.row true .u32 (S.gen)),(.row true .u32 (S.rel)),(.row true .u32 (r0)),(Ta.rows .hent .ent (L0)),(.row true .u32 (r1)),(Ta.rows .hent .ent (L1)),(.row true .slot (d)),(.row true .u32 (o)),(.row true .slot []),(.row true .u32 []),(.box [(.slc 16),(.slc 17)]),(.row true .u8 (b0)),(.row true .u32 (x.r)),(Ta.rows .hent .ent (x.L))] [])
abbrev O137 (P:LI → List LE → Nat → Prop)(raw:LE)(l:List StpT)(bb:LI)(S:Arn)(rs:LI)(ll:List LE)(r0:LI)(L0:List LE)(r1:LI)(L1:List LE)(d:LS)(o b0:LI)(b:Int)(x:XPi P):Prop:=(x.r.length+[getB rs (x.i:Int).toNat].length)*Yd C0 EC.u32<=140737488355328/\(x.L.length+[rowG ll (x.i:Int).toNat].length)*Yd C0 EC.hent<=140737488355328/\∃ w0_:XPi P,True/\((True/\True/\(Zm .u8 (b))=(Zm .u8 (b))/\True/\True/\(VI (Za.wrap ((x.i:Int)+1)))=(VI (w0_.i:Int))/\True)/\raw=raw/\l=l/\bb=bb/\(True/\True/\True/\VW (S.reads)=VW (S.reads)/\True)/\rs=rs/\ll=ll/\(True/\True/\True/\VU (S.fresh)=VU (S.fresh)/\True)/\S.nodes=S.nodes/\S.counts=S.counts/\S.used=S.used/\S.gen=S.gen/\S.rel=S.rel/\r0=r0/\L0=L0/\r1=r1/\L1=L1/\d=d/\o=o/\([]:LS)=[]/\([]:LI)=[]/\(True/\True/\True)/\b0=b0/\(x.r++[getB rs (x.i:Int).toNat])=w0_.r/\(x.L++[rowG ll (x.i:Int).toNat])=w0_.L/\True)/\rs.length-w0_.i<rs.length-x.i
abbrev O138 (S:Arn)(rs:LI)(ll:List LE)(Z_:Prop):Prop:=(True/\True/\True/\VW (S.reads)=VW (S.reads)/\True)/\rs=rs/\ll=ll/\(True/\True/\True/\VU (S.fresh)=VU (S.fresh)/\True)/\S.nodes=S.nodes/\S.counts=S.counts/\S.used=S.used/\S.gen=S.gen/\S.rel=S.rel/\Z_
theorem Yue (raw:LE)(l:List StpT)(bb:LI)(S:Arn)(rs:LI)(ll:List LE)(r0:LI)(L0:List LE)(r1:LI)(L1:List LE)(d:LS)(o b0:LI)(b:Int)(K:KT)(e:rs.length=ll.length)(hl:rs.length<=1000)(h:∀ r L,r=(pkZ b (rs.zip ll)).map Prod.fst->L=(pkZ b (rs.zip ll)).map Prod.snd->K (.tup [.at (.slc 22),.at (.slc 23)]) (chW8 raw l bb S rs ll r0 L0 r1 L1 d o true b0++[.row true .u32 r,.rows .hent .ent L]) []) :
  vc C0 (Yzn (PPi b rs ll) rs (chW8 raw l bb S rs ll r0 L0 r1 L1 d o true b0)) Tryz.f20 [.at (.slc 4),.at (.slc 5),.at (.val (.int .u8 b))] (chW8 raw l bb S rs ll r0 L0 r1 L1 d o true b0) (Yh 22 K):=by
 generalize hP:PPi b rs ll=P;refine Eq.mp (show ((∃ x:XPi P,True/\(True/\True/\(Zm .u8 (b))=(Zm .u8 (b))/\True/\True/\VI 0=(VI (x.i:Int))/\True)/\raw=raw/\l=l/\bb=bb/\O138 S rs ll (r0=r0/\L0=L0/\r1=r1/\L1=L1/\d=d/\o=o/\([]:LS)=[]/\([]:LI)=[]/\(True/\True/\True)/\b0=b0/\[]=x.r/\[]=x.L/\True))/\∀ x:XPi P,True->brS (decide ((x.i:Int)<(rs.length:Int))) (brS (decide ((x.i:Int)<7)) (0<=Zd.wrap (x.i:Int)/\brS ((b.fdiv (2 ^ min (Zd.wrap (x.i:Int)).toNat IntKind.u8.bits)).tmod 2==1) (0<=(x.i:Int)/\(x.i:Int)<(rs.length:Int)/\0<=(x.i:Int)/\(x.i:Int)<(ll.length:Int)/\(O137 P raw l bb S rs ll r0 L0 r1 L1 d o b0 b x/\O137 P raw l bb S rs ll r0 L0 r1 L1 d o b0 b x)/\O137 P raw l bb S rs ll r0 L0 r1 L1 d o b0 b x) (∃ x':XPi P,True/\((True/\True/\(Zm .u8 (b))=(Zm .u8 (b))/\True/\True/\(VI (Za.wrap ((x.i:Int)+1)))=(VI (x'.i:Int))/\True)/\raw=raw/\l=l/\bb=bb/\O138 S rs ll (r0=r0/\L0=L0/\r1=r1/\L1=L1/\d=d/\o=o/\([]:LS)=[]/\([]:LI)=[]/\(True/\True/\True)/\b0=b0/\x.r=x'.r/\x.L=x'.L/\True))/\rs.length-x'.i<rs.length-x.i)) (O136 raw l bb S rs ll r0 L0 r1 L1 d o b0 b K x)) (O136 raw l bb S rs ll r0 L0 r1 L1 d o b0 b K x))=_ by kernel_rfl) ?_;delta O136 O137 O138;subst hP
 have out:∀ i,i<=rs.length->i<=7->¬ (i<rs.length/\i<7)->pkG b (rs.zip ll) (min (rs.zip ll).length 7)=pkG b (rs.zip ll) i:=fun i h1 h2 h3=>by
  rw[List.length_zip,show min (min rs.length ll.length) 7=i by omega]
 have fin:∀ i,i<=rs.length->i<=7->¬ (i<rs.length/\i<7)->brS (decide (b≥128))
   (((((pkG b (rs.zip ll) i).map Prod.fst).length+[(0:Int)].length)*Yd C0 EC.u32<=140737488355328)/\((((pkG b (rs.zip ll) i).map Prod.snd).length+[([]:LE)].length)*Yd C0 EC.hent<=140737488355328)/\K (.tup [.at (.slc 22),.at (.slc 23)]) (chW8 raw l bb S rs ll r0 L0 r1 L1 d o true b0++[.row true .u32 ((pkG b (rs.zip ll) i).map Prod.fst++[0]),.rows .hent .ent ((pkG b (rs.zip ll) i).map Prod.snd++[[]])]) [])
   (K (.tup [.at (.slc 22),.at (.slc 23)]) (chW8 raw l bb S rs ll r0 L0 r1 L1 d o true b0++[.row true .u32 ((pkG b (rs.zip ll) i).map Prod.fst),.rows .hent .ent ((pkG b (rs.zip ll) i).map Prod.snd)]) []):=fun i h1 h2 h3=>by
  have gl:=Yca b (rs.zip ll) i;refine Ya (fun z=>⟨by rw[Ys,Zu,Zr];omega,by rw[YaC,Zu,Zr];omega,h _ _ ?_ ?_⟩) fun z=>h _ _ ?_ ?_
  .unfold pkZ;rw[out i h1 h2 h3,Zj (Zc z),ZX];rfl
  .unfold pkZ;rw[out i h1 h2 h3,Zj (Zc z),ZX];rfl
  .unfold pkZ;rw[out i h1 h2 h3,Zf (Zg z)];simp only[ZR];exact rfl
  .unfold pkZ;rw[out i h1 h2 h3,Zf (Zg z)];simp only[ZR];exact rfl
 refine⟨⟨⟨[],[],0,ZC _,by decide,rfl,rfl⟩,trivial,?_⟩,fun x _=>Ya (fun y=>Ya (fun z=>⟨YJ _,?_⟩) fun z=>?_) fun y=>?_⟩
 ·repeat' constructor
 .obtain⟨r,L,i,h1,h2,rfl,rfl⟩:=x;dsimp only at y z ⊢;have yi:i<rs.length:=by have:=Zc y;omega
  have zi:i<7:=by have:=Zc z;omega
  clear y z;have gl:=Yca b (rs.zip ll) i;rw[show ((i:Int)).toNat=i from rfl,Yb (x:=(i:Int)+1) (by omega) (by omega),Yf (x:=(i:Int)) (by omega) (by omega),show ((i:Int)).toNat=i from rfl];refine Ya (fun t=>?_) fun t=>?_
  .have bt:bitB b i=true:=t
   have e1:(pkG b (rs.zip ll) i).map Prod.fst++[getB rs i]=(pkG b (rs.zip ll) (i+1)).map Prod.fst:=by
    show _=(if bitB b i then pkG b (rs.zip ll) i++[(rs.zip ll).getD i (0,[])] else pkG b (rs.zip ll) i).map Prod.fst;rw[bt,Zj rfl,Ycn e yi,ZX];rfl
   have e2:(pkG b (rs.zip ll) i).map Prod.snd++[rowG ll i]=(pkG b (rs.zip ll) (i+1)).map Prod.snd:=by
    show _=(if bitB b i then pkG b (rs.zip ll) i++[(rs.zip ll).getD i (0,[])] else pkG b (rs.zip ll) i).map Prod.snd;rw[bt,Zj rfl,Ycn e yi,ZX];rfl
   have b1:(((pkG b (rs.zip ll) i).map Prod.fst).length+[getB rs i].length)*Yd C0 EC.u32<=140737488355328:=by rw[Ys,Zu,Zr];omega
   have b2:(((pkG b (rs.zip ll) i).map Prod.snd).length+[rowG ll i].length)*Yd C0 EC.hent<=140737488355328:=by rw[YaC,Zu,Zr];omega
   refine⟨by omega,by omega,by omega,by omega,?_⟩
   repeat' (first|with_reducible exact b1|with_reducible exact b2|with_reducible apply And.intro)
   all_goals refine⟨⟨_,_,i+1,yi,zi,e1,e2⟩,trivial,?_,ZI yi (ZO i)⟩
   all_goals repeat' constructor
  .have bt:bitB b i=false:=t
   have e1:pkG b (rs.zip ll) (i+1)=pkG b (rs.zip ll) i:=by
    show (if bitB b i then _ else _)=_;rw[bt];rfl
   refine⟨⟨(pkG b (rs.zip ll) i).map Prod.fst,(pkG b (rs.zip ll) i).map Prod.snd,i+1,yi,zi,by rw[e1],by rw[e1]⟩,trivial,?_,ZI yi (ZO i)⟩
   repeat' constructor
 .obtain⟨r,L,i,h1,h2,rfl,rfl⟩:=x;dsimp only at z ⊢;have zi:¬ i<7:=by have:=Zg z;omega
  exact fin i h1 h2 (by omega)
 .obtain⟨r,L,i,h1,h2,rfl,rfl⟩:=x;dsimp only at y ⊢;have yi:¬ i<rs.length:=by have:=Zg y;omega
  exact fin i h1 h2 (by omega)
theorem s_pi3c:Tb C0 20 Yud:=by
 refine .of Tryz.func20 (by decide) rfl fun args H K h hB=>?_
 unfold Yud Yxh at h;iterate 2 (split at h<;>try exact h.elim)
 refine⟨_,?_,Yue _ _ _ ⟨_,_,_,_,_,_,_⟩ _ _ _ _ _ _ _ _ _ _ K h.1 h.2.1 h.2.2⟩;exact trivial
def Yuf:Tfm C0:=fun args H K=>match H with
 | [_,_,_,_,_,_,_,_,_,_,_,_]=>YtZ args H K
 | [_,_,_,_,_,_,_,_,_,_,_,_,_,_]=>Yub args H K
 | [_,_,_,_,_,_,_,_,_,_,_,_,_,_,_,_,_,_,_,_,_,_]=>Yud args H K
 | _=>False
theorem Yxi:Tb C0 20 Yuf:=⟨s_pi3a.enter,fun args H K h=>by
 unfold Yuf at h;split at h
 .exact s_pi3a.call _ _ _ h
 .exact s_pi3b.call _ _ _ h
 .exact s_pi3c.call _ _ _ h
 .exact h.elim⟩
theorem FoR.own {sp:Int}{S:Arn}{rs:LI}{ll:List LE}(h:FoR sp S rs ll){b:Int}{r:LI}(er:r=(pkZ b (rs.zip ll)).map Prod.fst):r.length<=8/\(∀ j∈r,j=0∨S.us j=true)/\allV r/\Yby r/\KyN S r:=by
 have l1:=Yhs b (rs.zip ll)
 have us:∀ j∈r,j=0∨S.us j=true:=fun j hj=>by
  rw[er] at hj;obtain⟨q,hq,rfl⟩:=ZF.1 hj;obtain⟨⟨t,rp,_⟩,_⟩:=h.ok (Yhr hq);exact rp.us
 have rt:=h.rt 0 b;rw[<-er] at rt
 exact⟨by rw[er,Zu];exact l1,us,fun j hj=>YW h.wf (us j hj),fun j hj=>YW h.wf (us j hj),by
  obtain h0:=h.rt b 0;rw[<-er] at h0;exact KyN.left h.wf h0.ky⟩
section
inductive ImU (S:Arn) (b ks:LI):Int->Arn->LI->Prop where
 | bad {e:Int} {p:PKT}:pkD b=(e,p)->e≠0->ImU S b ks e S []
 | fit {e:Int} {p:PKT} {S':Arn}:pkD b=(0,p)->FtR p.known p.digest p.nodes p.roots S ks S' e->e≠0->ImU S b ks e S' []
 | ok {p:PKT} {S' S2:Arn} {o:LI}:pkD b=(0,p)->FtR p.known p.digest p.nodes p.roots S ks S' 0->MkR p.known p.nodes p.roots S' ks S2 o->ImU S b ks 0 S2 o
def tImU:Tfm C0:=fun args H K=>match args with
 | [.at (.ptr 0 0),.at (.slc 7),.at (.slc 8)]=>imM H fun S b ks=>ImB S b ks/\∀ e S2 x,ImU S b ks e S2 x->K (.tup [.at (.slc 9),.at (vI e)]) (chS S2++[.row false .u8 b,.row false .u32 ks,.row true .u32 x]) W7
 | _=>False
theorem Yzo:Tb C0 15 tImU:=s_imp.weak fun args H K h=>by
 unfold tImU at h;unfold tImp;split at h<;>try exact h.elim
 unfold imM arMr at h ⊢;iterate 2 (split at h<;>try exact h.elim)
 obtain⟨hb,h⟩:=h;exact⟨hb,fun e p h1 h2=>h _ _ _ (.bad h1 h2),fun e p S' h1 h2 h3=>h _ _ _ (.fit h1 h2 h3),fun p S' S2 o h1 h2 h3=>h _ _ _ (.ok h1 h2 h3)⟩
structure ZPim where
 S:Arn
 rs:LI
 ks:LI
 d:LS
 o:LI
 b:LI
 x:LI
 e:Int
 A:LS
 rts:LI
 nd:LS
 no:LI
 i:Nat
structure XPim (P:ZPim->Prop) where
 z:ZPim
 h:P z
abbrev hfP (raw:LE)(l:List StpT)(bb:LI)(z:ZPim):LH C0:=[.row false .ent raw,.row false .stp l,.row false .u8 bb]++chSk 3 z.S++[.row true .u32 z.rs,.row true .u32 z.ks,.row true .slot z.d,.row true .u32 z.o,.box [.slc 12,.slc 13],.row false .u8 z.b]
abbrev hfP2 (raw:LE)(l:List StpT)(bb:LI)(z:ZPim):LH C0:=[.row false .ent raw,.row false .stp l,.row false .u8 bb]++chSk 3 z.S++[.row true .u32 z.rs,.row true .u32 z.x,.box [.slc 13,.slc 14],.row true .slot z.A,.row true .u32 [],.row true .u32 z.rts,.box [.slc 17,.slc 18],.row true .slot z.nd,.row true .u32 z.no]
def aPmm (P1 P2 P3 P4 P5:ZPim->Prop)(raw:LE)(l:List StpT)(bb:LI):Ann C0:={ quiet:=[9999999,17,27,25,34,16,35,22],Γ:=[(19,tFo3),(10,Yc [] YtU),(20,Yuf),(17,Yc [] Ypp),(25,Yc [] YsN),(30,tDmg),(31,tRfm),(27,Yc [] YmS),(32,Yc [] YdH),(15,Yc [] tImU),(33,Yc [] tIm8),(34,Yc [] YoA),(35,Yc [] (tLi7 1000002)),(16,Yc [] tTr7),(22,Yc [] YoB)],inv:=fun m=>match m with
 | 1018=>some { X:=XPim P1,sl:=[19,20,25,27,28],tf:=fun _=>[.one (.at (.ptr 3 0)),.one (.at (.slc 10)),.one (.at (.slc 11)),.one (.at (.ptr 14 0)),.one (.at (.slc 15))],hf:=fun x=>hfP raw l bb x.z,cp:=[28] }
 | 20=>some { X:=XPim P2,sl:=[19,20,25,27,28,29],tf:=fun x=>[.one (.at (.ptr 3 0)),.one (.at (.slc 10)),.one (.at (.slc 11)),.one (.at (.ptr 14 0)),.one (.at (.slc 15)),vi .i64 x.z.i],hf:=fun x=>hfP raw l bb x.z,μ:=fun x=>5000-x.z.i }
 | 1027=>some { X:=XPim P3,sl:=[19,20,25,27,28],tf:=fun _=>[.one (.at (.ptr 3 0)),.one (.at (.slc 10)),.one (.at (.slc 11)),.one (.at (.ptr 14 0)),.one (.at (.slc 15))],hf:=fun x=>hfP raw l bb x.z }
 | 1028=>some { X:=XPim P4,sl:=[19,20,25,27,28,32,33],tf:=fun x=>[.one (.at (.ptr 3 0)),.one (.at (.slc 10)),.one (.at (.slc 11)),.one (.at (.ptr 14 0)),.one (.at (.slc 15)),.one (.at (.slc 16)),vi .i64 x.z.e],hf:=fun x=>hfP raw l bb x.z++[.row true .u32 x.z.x] }
 | 35=>some { X:=XPim P5,sl:=[19,20,32,34,35,37,38],tf:=fun x=>[.one (.at (.ptr 3 0)),.one (.at (.slc 10)),.one (.at (.slc 11)),.one (.at (.ptr 12 0)),.one (.at (.slc 15)),.one (.at (.ptr 16 0)),vi .i64 x.z.i],hf:=fun x=>hfP2 raw l bb x.z,μ:=fun x=>x.z.x.length-x.z.i }
 | _=>none }
theorem Yla:∀ (ns:LP) (z:LI),z.length<=(ns.foldl (fun o x=>rcE o (encN x)) z).length
 | [],z=>Zw _
 | x::ns,z=>by
  have:=Yla ns (rcE z (encN x));have e:(rcE z (encN x)).length=z.length+(frE (encN x)).length:=Zh;show z.length<=(ns.foldl (fun o x=>rcE o (encN x)) (rcE z (encN x))).length;omega
theorem YqO (k D:Int)(ns:LP)(rs:LI):4<=(pkE k D ns rs).length:=by
 have a:=Yla ns (rcE magB (hdE k ns.length rs.length D));have b:(rcE magB (hdE k ns.length rs.length D)).length=4+(frE (hdE k ns.length rs.length D)).length:=Zh;have c:(pkE k D ns rs).length=(ns.foldl (fun o x=>rcE o (encN x)) (rcE magB (hdE k ns.length rs.length D))).length+(frE (vsE [] rs)).length:=Zh;omega
theorem Ylb {S:Arn}{hs:LI}(w:Wf S hs):(Yk S 0 0 0 0).size<=Ym:=by
 rw[YgD (tl:=.nil) (tr:=.nil) w rfl rfl];decide
structure LvS (S:Arn) (rs ks:LI) (n:Nat):Prop where
 wf:Wf S rs
 rl:rs.length<=n
 kl:ks.length<=8
 ok:∀ k∈ks,OkT S k
 cap:S.cap<=4000
 rd:S.reads<=1000000
section
variable {S S2:Arn} {rs ks b x rts:LI} {n:Nat} {A:LS} {e f:Int}
theorem LvS.kn (h:LvS S rs ks n)(hn:n<=100000):KnB S rs ks:=by
 have:=h.rl;have:=h.kl;have:=h.rd;exact (YoF (rs:=[]) h.wf (by omega) (by omega) (by omega) (by simp) fun r hr=>h.ok r (by simpa using hr)).kn
theorem LvS.up (h:LvS S rs ks n){m:Nat}(hm:n<=m):LvS S rs ks m:=⟨h.wf,Zap h.rl hm,h.kl,h.ok,h.cap,h.rd⟩
theorem LvS.make (h:LvS S rs ks n)(hf:0<S.free)(hn:n<=100000):LvS (Yt S 0 0 0 0) (rs++[nxt S]) ks (n+1):=by
 have:=h.rl;have w:=h.wf.make (k:=0) (v:=0) (l:=0) (r:=0) (.inl rfl) (.inl rfl) hf (Ylb h.wf) (by omega);obtain⟨f1,f2,_⟩:=YeP (k:=0) (v:=0) (l:=0) (r:=0) h.wf hf;refine⟨w.perm (ZbP _ _).symm,by rw[Zh,Zr];omega,h.kl,fun k hk=>?_,?_,by rw[f1];exact h.rd⟩
 .obtain⟨t,a,b,c,d⟩:=h.ok k hk;exact⟨t,YaX h.wf hf a,b,c,d⟩
 .have:=h.cap;unfold Arn.cap at this ⊢;rw[f2];exact this
theorem LvS.ord (h:LvS S rs ks n):((Yi S).length:Int)=S.free:=by
 have a:=h.wf.fr;have n1:=h.wf.n1;unfold Yi YbD Arn.free Arn.cap;rw[Zh,ZcC];unfold upTo;rw[Zu,ZaF];omega
theorem LvS.sz (h:LvS S rs ks n):ncap S<=4000/\(Yi S).length<=ncap S:=by
 have a:=h.cap;have o:=h.ord;have f:=h.wf.free_nonneg.2.2.2;have n1:=h.wf.n1;unfold Arn.cap at a f;unfold ncap;omega
theorem LvS.imB (h:LvS S rs ks n)(hn:n<=100000)(ab:allB b)(bl:b.length<=400000000):ImB S b ks:=by
 obtain⟨e,p,hp⟩:∃ e p,pkD b=(e,p):=⟨_,_,rfl⟩
 by_cases z:e=0
 .subst z;obtain⟨eb,pk⟩:=YcP ab hp;exact im_b (h.kn hn) pk eb ab (by omega)
 .exact⟨ab,by omega,fun q hq=>by rw[hp] at hq;exact absurd (ZbR hq).1 z,fun q S' hq=>by rw[hp] at hq;exact absurd (ZbR hq).1 z⟩
theorem LvS.imB8 (h:LvS S rs ks n)(hn:n<=100000)(ab:allB b)(bl:b.length<=400000000):ImB8 (Yg S) (Yi S) b ks:=by
 have:=h.sz;exact YlZ (h.kn hn) ab (by omega) (by omega) (by omega)
theorem Ylc {d:LS}{fl:LI}(r:ImP8 d fl b ks f A rts)(hf:f≠0):rts=[]:=by
 cases r<;>first|rfl|exact absurd rfl hf
theorem Yug {d:LS}{fl:LI}(r:ImP8 d fl b ks f A rts)(hf:f=0):A.length<=d.length+fl.length/\rts.length<=4096∨¬ allB b:=by
 by_cases ab:allB b
 .refine .inl ?_;cases r with
  | bad _ h=>exact absurd hf h
  | stale=>exact absurd hf (by decide)
  | full=>exact absurd hf (by decide)
  | tree=>exact absurd hf (by decide)
  | odd=>exact absurd hf (by decide)
  | ok s hl _ _ =>
   have pk:=(YcP ab s.pk).2;have:=pk.rl;refine⟨?_,by unfold rtR;rw[Zu];exact this⟩;unfold allR;rw[YP];omega
 .exact .inr ab
theorem LvS.same (h:LvS S rs ks n)(hn:n<=100000)(ab:allB b)(bl:b.length<=400000000)(u:ImU S b ks e S2 x)(r:ImP8 (Yg S) (Yi S) b ks f A rts) :
  f=e/\x.length=rts.length/\(e≠0->Yg S2=Yg S/\Yi S2=Yi S/\Wf S2 rs)/\(e=0->ImD S rs A S2 rts x):=by
 have kn:=h.kn hn;have hB:=h.imB8 hn ab bl;have rd:=h.rd;cases u with
 | bad h1 h2 =>
  have ef:=YwS h1 h2 r;exact⟨ef,by rw[Ylc r (by rw[ef];exact h2)],fun _=>⟨rfl,rfl,h.wf⟩,fun z=>absurd z h2⟩
 | fit h1 h2 h3 =>
  obtain⟨ef,_⟩:=YoE kn hB h.ord h1 h2 r;obtain⟨m,es,hm⟩:=h2.st;exact⟨ef,by rw[Ylc r (by rw[ef];exact h3)],fun _=>by subst es;exact⟨rfl,rfl,h.wf.rd (by omega)⟩,fun z=>absurd z h3⟩
 | ok h1 h2 h3 =>
  obtain⟨ef,g⟩:=YoE kn hB h.ord h1 h2 r;obtain⟨lk,nm,eA,er,T⟩:=g rfl;have D:=YtT kn ab h1 h2 h3 nm T;rw[<-eA,<-er] at D;exact⟨ef,D.len,fun z=>absurd rfl z,fun _=>D⟩
end
theorem FoR.lv {sp:Int}{S:Arn}{rs:LI}{ll:List LE}(h:FoR sp S rs ll){b:Int}{r:LI}(er:r=(pkZ b (rs.zip ll)).map Prod.fst):LvS S rs r 7:=by
 have l1:=Yhs b (rs.zip ll);have rd:=h.rd;refine⟨h.wf,h.one.2,by rw[er,Zu];exact l1,fun k hk=>?_,h.cap,h.rd⟩;rw[er] at hk;obtain⟨q,hq,rfl⟩:=ZF.1 hk;exact (h.ok (Yhr hq)).1
def PB (b:LI):Prop:=allB b/\b.length<=400000000
def Qm1 (z:ZPim):Prop:=LvS z.S z.rs z.ks 7/\z.d=Yg z.S/\z.o=Yi z.S/\PB z.b
def Qm2 (z:ZPim):Prop:=LvS z.S z.rs z.ks (7+z.i)/\z.i<=5000/\PB z.b
def Qm3 (z:ZPim):Prop:=LvS z.S z.rs z.ks 5007/\z.d=Yg z.S/\z.o=Yi z.S/\PB z.b
def Qm4 (z:ZPim):Prop:=∃ S,LvS S z.rs z.ks 5007/\z.d=Yg S/\z.o=Yi S/\PB z.b/\ImU S z.b z.ks z.e z.S z.x
def Qm5 (z:ZPim):Prop:=∃ S,ImD S z.rs z.A z.S z.rts z.x/\z.nd=Yg z.S/\z.A.length<=2*ncap z.S/\ncap z.S<=4000/\z.rs.length<=5007/\z.x.length<=4096
abbrev O139 {P1:ZPim → Prop}(raw:LE)(l:List StpT)(bb:LI)(at_ kd:Int)(S:Arn)(rs r1:LI)(d:LS)(o:LI)(x:XPim P1)(Z_:Prop):Prop:=True/\(VI (at_)=VI (at_)/\(Zm .u8 (kd))=(Zm .u8 (kd))/\True/\True/\True/\True/\True/\True)/\raw=raw/\l=l/\bb=bb/\(True/\True/\True/\VW (S.reads)=VW (x.z.S.reads)/\True)/\(True/\True/\True/\VU (S.fresh)=VU (x.z.S.fresh)/\True)/\S.nodes=x.z.S.nodes/\S.counts=x.z.S.counts/\S.used=x.z.S.used/\S.gen=x.z.S.gen/\S.rel=x.z.S.rel/\rs=x.z.rs/\r1=x.z.ks/\d=x.z.d/\o=x.z.o/\(True/\True/\True)/\Z_
abbrev O140 {P1 P3:ZPim → Prop}(x:XPim P1)(x1:XPim P3)(Z_:Prop):Prop:=(True/\True/\True/\VW (x.z.S.reads)=VW (x1.z.S.reads)/\True)/\(True/\True/\True/\VU (x.z.S.fresh)=VU (x1.z.S.fresh)/\True)/\x.z.S.nodes=x1.z.S.nodes/\x.z.S.counts=x1.z.S.counts/\x.z.S.used=x1.z.S.used/\x.z.S.gen=x1.z.S.gen/\x.z.S.rel=x1.z.S.rel/\x.z.rs=x1.z.rs/\Z_
abbrev O141 {P4:ZPim → Prop}(S2:Arn)(x3:XPim P4)(Z_:Prop):Prop:=(True/\True/\True/\VW (S2.reads)=VW (x3.z.S.reads)/\True)/\(True/\True/\True/\VU (S2.fresh)=VU (x3.z.S.fresh)/\True)/\S2.nodes=x3.z.S.nodes/\S2.counts=x3.z.S.counts/\S2.used=x3.z.S.used/\S2.gen=x3.z.S.gen/\S2.rel=x3.z.S.rel/\Z_
abbrev O142 {P2:ZPim → Prop}(P3:ZPim → Prop)(raw:LE)(l:List StpT)(bb:LI)(x1:XPim P2):Prop:=exW x1.z.S/\∀ w0_:LS,∀ w1_:LI,w0_=Yg x1.z.S->w1_=Yi x1.z.S->∃ w2_:XPim P3,True/\(True/\True/\True/\True/\True/\True)/\raw=raw/\l=l/\bb=bb/\O140 x1 w2_ (x1.z.ks=w2_.z.ks/\w0_=w2_.z.d/\w1_=w2_.z.o/\(True/\True/\True)/\x1.z.b=w2_.z.b/\True)
abbrev O143 (raw:LE)(l:List StpT)(bb:LI)(K:SV → LH C0 → LN → Prop):Prop:=K (.one (.at (.val (Zi true)))) [(.row false .ent (raw)),(.row false .stp (l)),(.row false .u8 (bb))] []
set_option maxRecDepth 8000 in
theorem Yzp (raw:LE)(l:List StpT)(bb:LI)(b1 b2 b3 at_ c kd:Int)(K:KT)(hraw:RngL raw)(hst:RngS l)(hbb:allB bb)(c0:0<=c/\c<256)(k0:0<=kd/\kd<256)(h:K (.one (.at (vB true))) [.row false .ent raw,.row false .stp l,.row false .u8 bb] []) :
  vc C0 (aPmm Qm1 Qm2 Qm3 Qm4 Qm5 raw l bb) Tryz.f6 [.at (.slc 0),.at (.slc 1),.at (.val (.int .u8 b1)),.at (.val (.int .u8 b2)),.at (.val (.int .u8 b3)),.at (.slc 2),.at (.val (.int .i64 at_)),.at (.val (.int .u8 c)),.at (.val (.int .u8 kd))] [.row false .ent raw,.row false .stp l,.row false .u8 bb] (Yh 3 K):=by
 generalize e1:Qm1=P1;generalize e2:Qm2=P2;generalize e3:Qm3=P3;generalize e4:Qm4=P4;generalize e5:Qm5=P5
 refine Eq.mp (show (0<=Zd.wrap (Zd.wrap (77*Zd.wrap kd)+1)/\0<=Za.wrap kd/\Za.wrap kd<=1000/\RngL raw/\RngS l/\∀ S:Arn,∀ rs:LI,∀ ll:List LE,FoR (Za.wrap kd) S rs ll->brS (decide ((bb.length:Int)>300)) (O143 raw l bb K) (rs.length=ll.length/\rs.length<=1000/\∀ r:LI,∀ L:List LE,r=(List.map Prod.fst (pkZ b1 (rs.zip ll)))->L=(List.map Prod.snd (pkZ b1 (rs.zip ll)))->rs.length=ll.length/\rs.length<=1000/\∀ r1:LI,∀ L1:List LE,r1=(List.map Prod.fst (pkZ b2 (rs.zip ll)))->L1=(List.map Prod.snd (pkZ b2 (rs.zip ll)))->exW S/\∀ d:LS,∀ o:LI,d=Yg S->o=Yi S->ExB8 d r r1/\∀ o1:LI,ExD d r r1 o1->brS (kd.tmod 6==1) (allB o1/\0<o1.length/\o1.length<=100000000/\(0<=c/\c<256)/\(∀ w:Bool,∀ o':LI,allB o'->o'.length<=o1.length+1->∃ x:XPim P1,O139 raw l bb at_ kd S rs r1 d o x (o'=x.z.b/\True))/\∀ o':LI,allB o'->o'.length<=o1.length+1->∃ x:XPim P1,O139 raw l bb at_ kd S rs r1 d o x (o'=x.z.b/\True)) (brS (kd.tmod 6==2) (allB o1/\4<=o1.length/\o1.length<=100000000/\(0<=c/\c<256)/\∀ o':LI,allB o'->o'.length<=3*o1.length+4->∃ x:XPim P1,O139 raw l bb at_ kd S rs r1 d o x (o'=x.z.b/\True)) (brS (kd.tmod 6==3) (allB o1/\4<=o1.length/\o1.length<=100000000/\(0<=c/\c<256)/\∀ o':LI,allB o'->o'.length<=3*o1.length+4->∃ x:XPim P1,O139 raw l bb at_ kd S rs r1 d o x (o'=x.z.b/\True)) (brS (kd.tmod 6==4) (∃ x:XPim P1,O139 raw l bb at_ kd S rs r1 d o x (bb=x.z.b/\True)) (brS (kd.tmod 6==5) (rs.length=ll.length/\
  rs.length<=1000/\∀ r2:LI,∀ L2:List LE,r2=(List.map Prod.fst (pkZ b3 (rs.zip ll)))->L2=(List.map Prod.snd (pkZ b3 (rs.zip ll)))->∃ x:XPim P1,O139 raw l bb at_ kd S rs r2 d o x (o1=x.z.b/\True)) (∃ x:XPim P1,O139 raw l bb at_ kd S rs r1 d o x (o1=x.z.b/\True))))))/\∀ x:XPim P1,True->brS (at_.tmod 5==0) ((∃ x1:XPim P2,True/\((Zm .u8 (kd))=(Zm .u8 (kd))/\True/\True/\True/\True/\True/\VI 0=(VI (x1.z.i:Int))/\True)/\raw=raw/\l=l/\bb=bb/\O140 x x1 (x.z.ks=x1.z.ks/\x.z.d=x1.z.d/\x.z.o=x1.z.o/\(True/\True/\True)/\x.z.b=x1.z.b/\True))/\∀ x1:XPim P2,True->exW x1.z.S/\brS (decide (x1.z.S.free>(Za.wrap kd).tmod 20)) (brS (decide ((x1.z.i:Int)<5000)) (exW x1.z.S/\live x1.z.S 0/\live x1.z.S 0/\(Yk x1.z.S 0 0 0 0).size<=Ym/\0<x1.z.S.free/\∀ S':Arn,∀ i:Int,S'=Yt x1.z.S 0 0 0 0->i=nxt x1.z.S->(x1.z.rs.length+[i].length)*Yd C0 EC.u32<=140737488355328/\∃ x':XPim P2,True/\(((Zm .u8 (kd))=(Zm .u8 (kd))/\True/\True/\True/\True/\True/\(VI (Za.wrap ((x1.z.i:Int)+1)))=(VI (x'.z.i:Int))/\True)/\raw=raw/\l=l/\bb=bb/\O141 S' x' ((x1.z.rs++[i])=x'.z.rs/\x1.z.ks=x'.z.ks/\x1.z.d=x'.z.d/\x1.z.o=x'.z.o/\(True/\True/\True)/\x1.z.b=x'.z.b/\True))/\5000-x'.z.i<5000-x1.z.i) (O142 P3 raw l bb x1)) (O142 P3 raw l bb x1)) (∃ x1:XPim P3,True/\(True/\True/\True/\True/\True/\True)/\raw=raw/\l=l/\bb=bb/\O140 x x1 (x.z.ks=x1.z.ks/\x.z.d=x1.z.d/\x.z.o=x1.z.o/\(True/\True/\True)/\x.z.b=x1.z.b/\True))/\∀ x1:XPim P3,True->(ImB x1.z.S x1.z.b x1.z.ks/\
  ∀ e:Int,∀ S2:Arn,∀ x2:LI,ImU x1.z.S x1.z.b x1.z.ks e S2 x2->∃ x3:XPim P4,True/\(True/\True/\True/\True/\True/\True/\VI (e)=VI (x3.z.e)/\True)/\raw=raw/\l=l/\bb=bb/\O141 S2 x3 (x1.z.rs=x3.z.rs/\x1.z.ks=x3.z.ks/\x1.z.d=x3.z.d/\x1.z.o=x3.z.o/\(True/\True/\True)/\x1.z.b=x3.z.b/\x2=x3.z.x/\True))/\∀ x2:XPim P4,True->ImB8 x2.z.d x2.z.o x2.z.b x2.z.ks/\∀ e:Int,∀ A:LS,∀ rts:LI,ImP8 x2.z.d x2.z.o x2.z.b x2.z.ks e A rts->brS (x2.z.e != e) (K (.one (.at (.val (Zi false)))) [(.row false .ent (raw)),(.row false .stp (l)),(.row false .u8 (bb))] []) (brS ((x2.z.x.length:Int) != (rts.length:Int)) (K (.one (.at (.val (Zi false)))) [(.row false .ent (raw)),(.row false .stp (l)),(.row false .u8 (bb))] []) (brS (x2.z.e != 0) (exW x2.z.S/\∀ d1:LS,∀ o2:LI,d1=Yg x2.z.S->o2=Yi x2.z.S->d1=x2.z.d/\o2=x2.z.o/\d1.length<=1000000/\o2.length<=1000000/\O143 raw l bb K) (exW x2.z.S/\∀ d1:LS,∀ o2:LI,d1=Yg x2.z.S->o2=Yi x2.z.S->(∃ x3:XPim P5,True/\(True/\True/\True/\True/\True/\True/\VI 0=(VI (x3.z.i:Int))/\True)/\raw=raw/\l=l/\bb=bb/\O140 x2 x3 (x2.z.x=x3.z.x/\(True/\True/\True)/\A=x3.z.A/\([]:LI)=[]/\rts=x3.z.rts/\(True/\True/\True)/\d1=x3.z.nd/\o2=x3.z.no/\True))/\∀ x3:XPim P5,True->brS (decide ((x3.z.i:Int)<(x3.z.x.length:Int))) (0<=(x3.z.i:Int)/\(x3.z.i:Int)<(x3.z.x.length:Int)/\0<=(x3.z.i:Int)/\(x3.z.i:Int)<(x3.z.rts.length:Int)/\x3.z.A.length<=1000000/\∃ t:Tr,RepD x3.z.A t (getB x3.z.rts (x3.z.i:Int).toNat)/\
  t.size<1000002/\t.size<=1000000/\∀ r2:LE,r2=t.list->x3.z.nd.length<=1000000/\(∃ t1:Tr,RepD x3.z.nd t1 (getB x3.z.x (x3.z.i:Int).toNat)/\Asc t1.list/\t1.Bal/\t1.size<=2*x3.z.nd.length+2/\t1.size<=1000000/\t1.list=r2)/\∃ x':XPim P5,True/\((True/\True/\True/\True/\True/\True/\(VI (Za.wrap ((x3.z.i:Int)+1)))=(VI (x'.z.i:Int))/\True)/\raw=raw/\l=l/\bb=bb/\(True/\True/\True/\VW (x3.z.S.reads)=VW (x'.z.S.reads)/\True)/\(True/\True/\True/\VU (x3.z.S.fresh)=VU (x'.z.S.fresh)/\True)/\x3.z.S.nodes=x'.z.S.nodes/\x3.z.S.counts=x'.z.S.counts/\x3.z.S.used=x'.z.S.used/\x3.z.S.gen=x'.z.S.gen/\x3.z.S.rel=x'.z.S.rel/\x3.z.rs=x'.z.rs/\x3.z.x=x'.z.x/\(True/\True/\True)/\x3.z.A=x'.z.A/\([]:LI)=[]/\x3.z.rts=x'.z.rts/\(True/\True/\True)/\x3.z.nd=x'.z.nd/\x3.z.no=x'.z.no/\True)/\x'.z.x.length-x'.z.i<x3.z.x.length-x3.z.i) ((([]:LE).length+x3.z.rs.length)*Yd C0 EC.u32<=140737488355328/\(([]++x3.z.rs).length+x3.z.x.length)*Yd C0 EC.u32<=140737488355328/\∃ hs:LI,Wf x3.z.S hs/\(([]:LI)++x3.z.rs++x3.z.x).Perm hs/\([]++x3.z.rs++x3.z.x).length<=1000000/\O143 raw l bb K))))))=_ by kernel_rfl) ?_
 delta O139 O140 O141 O142 O143;subst e1 e2 e3 e4 e5;rw[Yb (x:=kd) (by omega) (by omega)];refine⟨YJ _,by omega,by omega,hraw,hst,fun S rs ll fo=>Ya (fun _=>h) fun z0=>⟨fo.len,by have:=fo.one;omega,fun r L er eL=>⟨fo.len,by have:=fo.one;omega,fun r1 L1 er1 eL1=>⟨⟨_,fo.wf⟩,fun d o ed eo=>?_⟩⟩⟩⟩;have z0:bb.length<=300:=by have:=Zg z0;omega
 have w:=fo.wf;obtain⟨l1,u1,v1,v1',k1⟩:=fo.own er;obtain⟨l2,u2,v2,v2',k2⟩:=fo.own er1
 have ky:KyN S (r1++r):=by
  have rt:=fo.rt b2 b1;rw[<-er,<-er1] at rt;exact rt.ky
 have lv:=fo.lv er1;clear er eL eL1;refine⟨by rw[ed];exact YnS w (by omega) (by omega) u1 u2 ky,fun o1 x1=>?_⟩;have ab:=x1.ab;have bl:=x1.bl
 have b4:4<=o1.length:=by
  obtain⟨lk,la,D,_,_,_,eo⟩:=x1.ex;rw[eo];exact YqO _ _ _ _
 have pbA:PB o1:=⟨ab,by omega⟩
 refine⟨Ya (fun _=>⟨ab,by omega,by omega,c0,fun _ o' ab' bl'=>⟨⟨⟨S,rs,r1,d,o,o',[],0,[],[],[],[],0⟩,lv,ed,eo,ab',by show o'.length<=_;omega⟩,trivial,?_⟩,fun o' ab' bl'=>⟨⟨⟨S,rs,r1,d,o,o',[],0,[],[],[],[],0⟩,lv,ed,eo,ab',by show o'.length<=_;omega⟩,trivial,?_⟩⟩) fun _ =>
  Ya (fun _=>⟨ab,b4,by omega,c0,fun o' ab' bl'=>⟨⟨⟨S,rs,r1,d,o,o',[],0,[],[],[],[],0⟩,lv,ed,eo,ab',by show o'.length<=_;omega⟩,trivial,?_⟩⟩) fun _ =>
  Ya (fun _=>⟨ab,b4,by omega,c0,fun o' ab' bl'=>⟨⟨⟨S,rs,r1,d,o,o',[],0,[],[],[],[],0⟩,lv,ed,eo,ab',by show o'.length<=_;omega⟩,trivial,?_⟩⟩) fun _ =>
  Ya (fun _=>⟨⟨⟨S,rs,r1,d,o,bb,[],0,[],[],[],[],0⟩,lv,ed,eo,hbb,by show bb.length<=_;omega⟩,trivial,?_⟩) fun _ =>
  Ya (fun _=>⟨fo.len,by have:=fo.one;omega,fun r2 L2 er2 eL2=>⟨⟨⟨S,rs,r2,d,o,o1,[],0,[],[],[],[],0⟩,fo.lv er2,ed,eo,pbA⟩,trivial,?_⟩⟩) fun _=>⟨⟨⟨S,rs,r1,d,o,o1,[],0,[],[],[],[],0⟩,lv,ed,eo,pbA⟩,trivial,?_⟩,fun x _=>⟨?_,fun x _=>⟨?_,fun x _=>?_⟩⟩⟩
 rotate_right 3
 .obtain⟨⟨S,rs,ks,d,o,b,x0,e0,A0,rts0,nd,no,i0⟩,lv,ed,eo,pb⟩:=x;dsimp only at lv ed eo pb ⊢;have fd:∀ (x1:XPim Qm2) (d1:LS) (o2:LI),d1=Yg x1.z.S->o2=Yi x1.z.S->Qm3 ⟨x1.z.S,x1.z.rs,x1.z.ks,d1,o2,x1.z.b,[],0,[],[],[],[],0⟩:=fun x1 d1 o2 h1 h2=>⟨x1.h.1.up (by have:=x1.h.2.1;omega),h1,h2,x1.h.2.2⟩
  have q2:Qm2 ⟨S,rs,ks,d,o,b,[],0,[],[],[],[],0⟩:=⟨lv,ZC 5000,pb⟩
  have lv2:=lv.up (m:=5007) (by omega);have ex2:∀ x1:XPim Qm2,exW x1.z.S:=fun x1=>⟨_,x1.h.1.wf⟩
  refine Ya (fun _=>⟨⟨⟨⟨S,rs,ks,d,o,b,[],0,[],[],[],[],0⟩,q2⟩,trivial,?_⟩,fun x1 _=>⟨ex2 x1,?_⟩⟩) fun _=>⟨⟨⟨S,rs,ks,d,o,b,[],0,[],[],[],[],0⟩,lv2,ed,eo,pb⟩,trivial,?_⟩
  ·repeat' constructor
  .refine Ya (fun y=>?_) fun y=>?_
   .generalize hbz:decide ((x1.z.i:Int)<5000)=bz;refine Ya (fun z=>?_) fun z=>?_
    .obtain⟨z1,lv1,hi,pb1⟩:=x1;dsimp only at y hbz ⊢;rw[z] at hbz;have z:z1.i<5000:=by have:=Zc hbz;omega
     have y:=Zc y;have y0:0<=kd.tmod 20:=Int.tmod_nonneg 20 k0.1;have hf:0<z1.S.free:=by omega
     have rl:=lv1.rl;refine⟨⟨_,lv1.wf⟩,.inl rfl,.inl rfl,Ylb lv1.wf,hf,fun S' i eS ei=>⟨by rw[Ys,Zr];omega,⟨⟨S',z1.rs++[i],z1.ks,z1.d,z1.o,z1.b,[],0,[],[],[],[],z1.i+1⟩,?_,z,pb1⟩,trivial,?_,?_⟩⟩
     .rw[eS,ei];exact lv1.make hf (by omega)
     .rw[Yb (x:=(z1.i:Int)+1) (by omega) (by omega)]
      repeat' constructor
     .show 5000-(z1.i+1)<5000-z1.i;omega
    .refine⟨ex2 x1,fun d1 o2 ed1 eo1=>⟨⟨_,fd x1 d1 o2 ed1 eo1⟩,trivial,?_⟩⟩
     repeat' constructor
   .refine⟨ex2 x1,fun d1 o2 ed1 eo1=>⟨⟨_,fd x1 d1 o2 ed1 eo1⟩,trivial,?_⟩⟩
    repeat' constructor
  ·repeat' constructor
 .obtain⟨z,lv,ed,eo,pb⟩:=x;refine⟨lv.imB (by omega) pb.1 pb.2,fun e S2 x2 u=>⟨⟨⟨S2,z.rs,z.ks,z.d,z.o,z.b,x2,e,[],[],[],[],0⟩,z.S,lv,ed,eo,pb,u⟩,trivial,?_⟩⟩
  repeat' constructor
 .obtain⟨z,S,lv,ed,eo,pb,u⟩:=x;dsimp only;have hsz:=lv.sz;have sl:∀ S:Arn,(Yg S).length=ncap S:=fun S=>by unfold Yg;rw[Zu,ZaF]
  refine⟨by rw[ed,eo];exact lv.imB8 (by omega) pb.1 pb.2,fun e A rts r=>?_⟩;rw[ed,eo] at r;obtain⟨q1,q2,q3,q4⟩:=lv.same (by omega) pb.1 pb.2 u r;refine Ya (fun t=>?_) fun _=>Ya (fun t=>?_) fun _=>Ya (fun t=>?_) fun t=>?_
  .rw[q1] at t;simp at t
  .rw[q2] at t;simp at t
  .have t:z.e≠0:=by simpa using t
   obtain⟨g1,g2,g3⟩:=q3 t;exact⟨⟨_,g3⟩,fun d1 o2 ed1 eo1=>⟨by rw[ed1,g1,ed],by rw[eo1,g2,eo],by rw[ed1,g1,sl];omega,by rw[eo1,g2];omega,h⟩⟩
  .have t:z.e=0:=by simpa using t
   have D:=q4 t
   have al:A.length<=2*ncap z.S/\rts.length<=4096:=by
    have ul:=D.ul;have eu:ncap z.S=ncap S:=by unfold ncap;rw[ul]
    rcases Yug r (by rw[q1,t]) with g|g
    .rw[sl] at g;omega
    .exact absurd pb.1 g
   have nc:ncap z.S<=4000:=by
    have ul:=D.ul;have eu:ncap z.S=ncap S:=by unfold ncap;rw[ul]
    omega
   have rl:=lv.rl;refine⟨⟨_,D.wf⟩,fun d1 o2 ed1 eo1=>⟨⟨⟨⟨z.S,z.rs,[],[],[],[],z.x,0,A,rts,d1,o2,0⟩,S,D,ed1,al.1,nc,rl,by show z.x.length<=_;rw[q2];exact al.2⟩,trivial,?_⟩,fun x3 _=>Ya (fun y=>?_) fun y=>?_⟩⟩
   ·repeat' constructor
   .obtain⟨z3,S3,D3,en,a1,n1,r1,x1⟩:=x3;dsimp only at y ⊢;have y:z3.i<z3.x.length:=by have:=Zc y;omega
    have ln:=D3.len;obtain⟨t,tA,tS,ta,tb,ts⟩:=D3.tr z3.i y;have nl:z3.nd.length=ncap z3.S:=by rw[en,sl]
    rw[show ((z3.i:Int)).toNat=z3.i from rfl];refine⟨by omega,by omega,by omega,by omega,by omega,t,tA,by omega,by omega,fun r2 er2=>⟨by omega,⟨t,by rw[en];exact YgI D3.wf tS,ta,tb,by omega,by omega,er2.symm⟩,⟨⟨z3.S,z3.rs,[],[],[],[],z3.x,0,z3.A,z3.rts,z3.nd,z3.no,z3.i+1⟩,S3,D3,en,a1,n1,r1,x1⟩,trivial,?_,?_⟩⟩
    .rw[Yb (x:=(z3.i:Int)+1) (by omega) (by omega)]
     repeat' constructor
    .show z3.x.length-(z3.i+1)<z3.x.length-z3.i;omega
   .obtain⟨z3,S3,D3,en,a1,n1,r1,x1⟩:=x3;dsimp only at y ⊢;refine⟨by rw[Ys,ZbE];omega,by rw[Ys,ZS];omega,z3.x.reverse++z3.rs,D3.wf,?_,by rw[ZS,Zh];omega,h⟩;rw[ZS];exact List.perm_append_comm.trans (Zck _ (List.reverse_perm _).symm)
 all_goals repeat' constructor
def tPm:Tfm C0:=fun args H K=>match args,H with
 | [.at (.slc 0),.at (.slc 1),.at (.val (.int .u8 _)),.at (.val (.int .u8 _)),.at (.val (.int .u8 _)),.at (.slc 2),.at (.val (.int .i64 _)),.at (.val (.int .u8 c)),.at (.val (.int .u8 kd))],[.row false .ent raw,.row false .stp l,.row false .u8 bb]=>RngL raw/\RngS l/\allB bb/\(0<=c/\c<256)/\(0<=kd/\kd<256)/\K (.one (.at (vB true))) [.row false .ent raw,.row false .stp l,.row false .u8 bb] []
 | _,_=>False
theorem s_pm:Tb C0 6 tPm:=by
 refine .of Tryz.func6 (by decide) rfl fun args H K h hB=>?_
 unfold tPm at h;split at h<;>try exact h.elim
 obtain⟨h1,h2,h3,h4,h5,h6⟩:=h;refine⟨_,?_,Yzp _ _ _ _ _ _ _ _ _ K h1 h2 h3 h4 h5 h6⟩;exact⟨Yzh,Ye C0.ok YwU _,Yxi,Ye C0.ok YqV _,Ye C0.ok Yrj _,Yzk,Yzm,Ye C0.ok YmX _,Ye C0.ok Yeb _,Ye C0.ok Yzo _,Ye C0.ok YyZ _,Ye C0.ok YtQ _,Ye C0.ok (Ysq 1000002) _,Ye C0.ok Yxy _,Ye C0.ok YtS _,trivial⟩
end
end Go.Proofs.YtedfbafngmicpaaGreat.Sx
section
namespace Go.Proofs.YtedfbafngmicpaaGreat
open Go.ChangeShapes Go.WideShapes Go.ChangeAt Go.RowKit

theorem ownK:ownKnob Tryz.prog.godebug=none:=by kernel_rfl
theorem Yht:laidOutB Tryz.prog=true:=by kernel_rfl

theorem Yhu {a:Int}(h:(Lit.int .i64 a).wf=true) : -9223372036854775808<=a/\a<=9223372036854775807:=by
 have h1:Za.min = -9223372036854775808:=rfl;have h2:Za.max=9223372036854775807:=rfl;simp only[Lit.wf,Zar,ZaE] at h;omega
end Go.Proofs.YtedfbafngmicpaaGreat
end
