/- 'PackImports': the law returns true for every input, and its arguments read afterwards as they read before. -/
import Derived.Test.YtedfbafngmicpaaGreatG0
import Derived.Test.YtedfbafngmicpaaGreatG4
import Derived.Test.YtedfbafngmicpaaGreatG12
import Derived.Test.YtedfbafngmicpaaGreatG5
import Derived.Test.YtedfbafngmicpaaGreatRows
noncomputable section
open Go.Value renaming int → Zm
section
namespace Go.Proofs.YtedfbafngmicpaaGreat.Sx
open Go Go.Joins Go.ChangeShapes Go.WideShapes Go.ChangeAt Go.RowKit

theorem Sat.imms {C:Ctx}{w:World}(vs:List Value)(H:LH C)(h:∀ (n:Nat) (c:Ta C),H[n]?=some c->∃ e l,c = .row false e l/\Imm C w (vs.getD n undef) e l):Sat C (fun n=>vs.getD n undef) (fun _ _=>False) w H where
 holds n c hc:=by
  obtain⟨e,l,rfl,hi⟩:=h n c hc;exact⟨hi,fun _ hh=>hh⟩
 dis _ _ _ hh:=hh.elim
 bd _ _ hh:=hh.elim
 imm _ _ _ _ _ _ hh:=hh
 out _ _ _ hh:=hh
 cl n c hc m hm:=by
  obtain⟨e,l,rfl,_⟩:=h n c hc;simp[Ta.names] at hm

theorem Yzq {f:FuncId}{t:Tfm C0}(hs:Tb C0 f t){args:List TV}{H:LH C0}{vs:List Value}{σ:Nat->Value}{w:World}(ht:∀ K:KT,K (.one (.at (vB true))) H []->t args H K)(hsat:Sat C0 σ (fun _ _=>False) w H)(hr:Rels (TV.rel σ) args vs)(hn:∀ x∈args,∀ m∈x.names,m<H.length):Calls Tryz.prog f vs.toArray w (fun e w'=>e = .returned (.bool true)/\Below w.heap.size w w'):=by
 have hc:=hs.call args H (fun r _ _=>r = .one (.at (vB true))) (ht _ rfl) σ _ w vs hsat hr hn;refine ZcN hc fun e w' hh=>?_
 cases e with
 | panicked ch=>exact hh.elim
 | outgrown=>exact hh.elim
 | returned v =>
  obtain⟨r,H',ts,σ',φ',hout,rfl⟩:=hh;have hv:v = .bool true:=hout.rel;exact⟨by rw[hv],hout.adv.os,hout.adv.tape,hout.adv.output,hout.adv.size,fun k hk=>hout.adv.fr k hk fun n hh=>hh⟩

section
variable {HH:Type} {enc:TypeId × Value->HH} {P:Program} {w:World} {base b0:Nat} {spare:Nat->Bool} {held:Bool} {r:Reach}
theorem Yhv {α:Type}[Inhabited α]{t e:TypeId}{f:α->List Value}{Q:α->Prop}{sz:Nat}{v:Value}{d:DataW HH}{p:List MemPlace}(ht:P.underlying t=some (.slice e))(hC:P.cellsOf e=sz)(hpos:0<sz)(hf:∀ x,(f x).length=sz)(hel:∀ {n:Nat} {cs:List Value} {x:DataW HH × List MemPlace},DataW.trod enc P w base spare held n e cs=some x->∃ a,cs=f a/\Q a)(hv:Value.okWide P w r b0 t v)(h:DataW.Trod enc P w base spare held t v d p) :
  ∃ A n c l,v = .slice A n c/\Rd f sz w A n c l/\∀ x∈l,Q x:=by
 obtain⟨A,n,c,rfl⟩:=okWide_slice ht hv;obtain⟨fuel,hh⟩:=h;have hh:DataW.trod enc P w base spare held fuel t [.slice A n c]=some (d,p):=by simpa [Value.cells] using hh
 rcases Go.Deep.open_slice ht hh with ⟨h1,_⟩|⟨a,len,cap,m,k,D,Pl,h1,hb,hle,hm,hmm,hx,hall⟩
 .simp only[ZbF,Zbl,and_true] at h1;obtain⟨rfl,rfl,rfl⟩:=h1;exact⟨none,0,0,[],rfl,Rd.nil hf,fun x hx=>by simp at hx⟩
 .simp only[ZbF,Zbl,and_true] at h1;obtain⟨rfl,rfl,rfl⟩:=h1;have hlm:n<=m:=by rw[hmm];split<;>omega
  have hel':∀ i,i<n->∃ x:α,w.cells? base (a.add (i*P.cellsOf e)) (P.cellsOf e)=some (f x)/\Q x:=fun i hi=>by
   obtain⟨cs',hc1,hc2⟩:=hall i (by omega);obtain⟨x,rfl,hq⟩:=hel hc2;exact⟨x,hc1,hq⟩
  obtain⟨F,hF⟩:=Go.Deep.choose_lt hel'
  have cell:∀ i,i<n->∀ j,j<sz->w.cell? ((a.add (i*sz)).add j)=(f (F i))[j]?:=fun i hi j hj=>by
   have h2:=(hF i hi).1;rw[hC] at h2;unfold World.cells? at h2;split at h2
   .exact mapM_some_get h2 j j (by simp[hj])
   .cases h2
  refine⟨some a,n,c,(List.range n).map F,rfl,⟨by simp,hle,hm,hf,fun h=>(by cases h),fun hn=>?_⟩,fun x hx=>by obtain⟨i,hi,rfl⟩:=ZF.1 hx;exact (hF i (ZaK.1 hi)).2⟩;obtain⟨b,o,sp⟩:=a
  have hsome:∀ i,i<n->∀ j,j<sz->∃ u,w.cell? (((⟨b,o,sp⟩:Addr).add (i*sz)).add j)=some u:=fun i hi j hj=>by
   rw[cell i hi j hj];exact⟨_,Zk (by rw[hf];exact hj)⟩
  obtain⟨u0,hu0⟩:=hsome 0 hn 0 hpos;have hspot:sp=none:=by simpa [Addr.add] using World.cell?_spot hu0
  subst hspot;refine⟨b,o,rfl,?_,fun k x hx j u hu=>?_⟩
  .have hu1:w.cell? ⟨b,o,none⟩=some u0:=by simpa [Addr.add] using hu0
   unfold World.cell? at hu1;split at hu1
   .rename_i hb2;exact (Zak.1 hb2).1
   .cases hu1
  .rw[Zv] at hx
   have hk:k<n:=by
    rcases Zad k n with h2|h2
    .exact h2
    .rw[ZV (by simpa using h2)] at hx;cases hx
   rw[ZaD hk] at hx;simp only[ZaL,Zl] at hx;subst hx
   have hj:j<sz:=by
    have:=(Zt.1 hu).1
    rwa [hf] at this
   have h3:=cell k hk j hj;rw[hu] at h3;rw[<-h3]
   congr 1
   rw[Go.WideShapes.add_plain,Go.WideShapes.add_plain]
end

section
variable {HH:Type} {enc:TypeId × Value->HH} {w:World} {base b0:Nat} {spare:Nat->Bool} {held:Bool} {r:Reach}
set_option maxRecDepth 100000 in
theorem elEw {n:Nat}{cs:List Value}{x:DataW HH × List MemPlace}(h:DataW.trod enc Tryz.prog w base spare held n 24 cs=some x) :
  ∃ a:Ent,cs=EC.enc .ent a/\((-9223372036854775808<=a.1/\a.1<=9223372036854775807)/\(-9223372036854775808<=a.2/\a.2<=9223372036854775807)):=by
 obtain⟨y0,y1,m,_,hl,h0,h1⟩:=trod_struct2 Tryz.underlying24 h;obtain⟨k,e0,_,w0⟩:=ZcE Tryz.underlying2 h0;obtain⟨v,e1,_,w1⟩:=ZcE Tryz.underlying2 h1;have hl:cs.length=2:=hl.trans (by kernel_rfl);have c1:Tryz.prog.cellsOf 2=1:=by kernel_rfl
 match cs,hl with
 | [a,b],_ =>
  simp[c1] at e0 e1;exact⟨(k,v),by rw[e0,e1];rfl,Yhu w0,Yhu w1⟩
set_option maxRecDepth 100000 in
theorem Yxj {v:Value}{d:DataW HH}{p:List MemPlace}(hv:Value.okWide Tryz.prog w r b0 26 v)(h:DataW.Trod enc Tryz.prog w base spare held 26 v d p) :
  ∃ (l:LE),Imm C0 w v EC.ent l/\∀ x∈l,(-9223372036854775808<=x.1/\x.1<=9223372036854775807)/\(-9223372036854775808<=x.2/\x.2<=9223372036854775807):=by
 obtain⟨A,n,c,l,rfl,hr,hq⟩:=Yhv (α:=Ent) (f:=fun x=>EC.enc .ent x) (sz:=2) Tryz.underlying26 (by kernel_rfl) (by decide) (fun _=>rfl) (fun h=>elEw h) hv h;obtain rfl:=hr.len;exact⟨l,⟨A,c,rfl,hr⟩,hq⟩
instance:Inhabited Chg:=⟨⟨0,0,0,0⟩⟩
end
end Go.Proofs.YtedfbafngmicpaaGreat.Sx
end
section
namespace Go.Proofs.YtedfbafngmicpaaGreat.Sx
open Go Go.Joins Go.ChangeShapes Go.WideShapes Go.ChangeAt Go.RowKit

theorem YfY {a:Int}(h:(Lit.int .u8 a).wf=true):0<=a/\a<=255:=by
 have h1:IntKind.u8.min=0:=rfl;have h2:IntKind.u8.max=255:=rfl;simp only[Lit.wf,Zar,ZaE] at h;omega
section
variable {HH:Type} {enc:TypeId × Value->HH} {w:World} {base b0:Nat} {spare:Nat->Bool} {held:Bool} {r:Reach}
instance:Inhabited StpT:=⟨⟨0,(0,0),false,false⟩⟩
set_option maxRecDepth 100000 in
theorem elP {n:Nat}{cs:List Value}{x:DataW HH × List MemPlace}(h:DataW.trod enc Tryz.prog w base spare held n 123 cs=some x):∃ a:StpT,cs=EC.enc .stp a/\(rngI a.at_/\rngI a.ent.1/\rngI a.ent.2):=by
 obtain⟨y0,y1,y2,y3,m,_,hl,h0,h1,h2,h3⟩:=trod_struct4 Tryz.underlying123 h;obtain⟨u,e0,q0⟩:=ZcE Tryz.underlying3 h0;obtain⟨s,e1,q1⟩:=elEw h1;obtain⟨k,e2,_⟩:=DataW.trod_bool Tryz.underlying4 h2;obtain⟨v,e3,_⟩:=DataW.trod_bool Tryz.underlying4 h3;have hl:cs.length=5:=hl.trans (by kernel_rfl);have c1:Tryz.prog.cellsOf 4=1:=by kernel_rfl
 have c2:Tryz.prog.cellsOf 3=1:=by kernel_rfl
 have c3:Tryz.prog.cellsOf 24=2:=by kernel_rfl
 match cs,hl with
 | [a,b,c,d,e],_ =>
  simp[c1,c2,c3] at e0 e1 e2 e3;have e1:[b,c]=[Zm .i64 s.1,Zm .i64 s.2]:=e1;simp only[ZbF,and_true] at e1;exact⟨⟨u,s,k,v⟩,by rw[e0,e1.1,e1.2,e2,e3];rfl,Yhu q0.2,q1⟩
set_option maxRecDepth 100000 in
theorem Yzr {v:Value}{d:DataW HH}{p:List MemPlace}(hv:Value.okWide Tryz.prog w r b0 55 v)(h:DataW.Trod enc Tryz.prog w base spare held 55 v d p) :
  ∃ (l:List StpT),Imm C0 w v EC.stp l/\RngS l:=by
 obtain⟨A,n,c,l,rfl,hr,hq⟩:=Yhv (α:=StpT) (f:=fun x=>EC.enc .stp x) (sz:=5) Tryz.underlying55 (by kernel_rfl) (by decide) (fun _=>rfl) (fun h=>elP h) hv h;obtain rfl:=hr.len;exact⟨l,⟨A,c,rfl,hr⟩,hq⟩
end
end Go.Proofs.YtedfbafngmicpaaGreat.Sx
end
section
namespace Go.Proofs.YtedfbafngmicpaaGreat.Sx
open Go Go.Joins Go.ChangeShapes Go.WideShapes Go.ChangeAt Go.RowKit

section
variable {HH:Type} {enc:TypeId × Value->HH} {w:World} {base b0:Nat} {spare:Nat->Bool} {held:Bool} {r:Reach}
set_option maxRecDepth 100000 in
theorem elV {n:Nat}{cs:List Value}{x:DataW HH × List MemPlace}(h:DataW.trod enc Tryz.prog w base spare held n 5 cs=some x):∃ a:Int,cs=EC.enc .u8 a/\(0<=a/\a<256):=by
 obtain⟨k,e0,q0⟩:=ZcE Tryz.underlying5 h;have:=YfY q0.2;exact⟨k,e0,this.1,by omega⟩
set_option maxRecDepth 100000 in
theorem Yzs {v:Value}{d:DataW HH}{p:List MemPlace}(hv:Value.okWide Tryz.prog w r b0 35 v)(h:DataW.Trod enc Tryz.prog w base spare held 35 v d p) :
  ∃ (l:LI),Imm C0 w v EC.u8 l/\allB l:=by
 obtain⟨A,n,c,l,rfl,hr,hq⟩:=Yhv (α:=Int) (f:=fun x=>EC.enc .u8 x) (sz:=1) Tryz.underlying35 (by kernel_rfl) (by decide) (fun _=>rfl) (fun h=>elV h) hv h;obtain rfl:=hr.len;exact⟨l,⟨A,c,rfl,hr⟩,hq⟩
end
end Go.Proofs.YtedfbafngmicpaaGreat.Sx
end
section
namespace Go.Proofs.YtedfbafngmicpaaGreat.packImports
open Go.ChangeShapes Go.WideShapes Go.ChangeAt Go.RowKit Sx

set_option maxRecDepth 100000 in
theorem lifted (os:Os)(started:os.Started)(H:Type)(enc:TypeId × Value->H) :
  ReturnsInHanded {} Tryz.checked os 6 .any (Rows.packImportsSpec.pre6 enc Tryz.prog Tryz.f6 Rows.packImportsRow.domain false) (Rows.packImportsSpec.post enc Tryz.prog Tryz.f6 false true false false):=by
 refine returnsInHanded_of_change (C:=Tryz.checked) ownK started (by kernel_rfl) Tryz.func6
  (ChangeSpec.witness6 (enc:=enc) (C:=Tryz.checked) false ⟨#[],#[.slice none 0 0,.slice none 0 0,.int .u8 0,.int .u8 0,.int .u8 0,.slice none 0 0,.int .i64 0,.int .u8 0,.int .u8 0],[]⟩ 8 (by kernel_rfl) (by kernel_rfl) (by kernel_rfl) (by kernel_rfl)) ?_
 intro W base args ds gs before hval0 hW hcnd _;have hval:∀ (j:Nat) t v,Tryz.f6.params[j]?=some t->args[j]?=some v->Value.okWide Tryz.prog W .any base t v:=hval0;have hW':=hW;obtain⟨p,q,hA0,hV,rfl,hfz,hnd⟩:=hW;have hA:DataW.TrodAll enc Tryz.prog W 0 (fun _=>true) true Tryz.f6.params.toList args.toList ds p:=hA0;rw[Tryz.params6] at hA hval;obtain⟨v0,vs0,d0,ds0,p0,q0,hargs,rfl,rfl,h0,r0⟩:=trodAll_cons hA;obtain⟨v1,vs1,d1,ds1,p1,q1,rfl,rfl,rfl,h1,r1⟩:=trodAll_cons r0;obtain⟨v2,vs2,d2,ds2,p2,q2,rfl,rfl,rfl,h2,r2⟩:=trodAll_cons r1;obtain⟨v3,vs3,d3,ds3,p3,q3,rfl,rfl,rfl,h3,r3⟩:=trodAll_cons r2;obtain⟨v4,vs4,d4,ds4,p4,q4,rfl,rfl,rfl,h4,r4⟩:=trodAll_cons r3;obtain⟨v5,vs5,d5,ds5,p5,q5,rfl,rfl,rfl,h5,r5⟩:=trodAll_cons r4;obtain⟨v6,vs6,d6,ds6,p6,q6,rfl,rfl,rfl,h6,r6⟩:=trodAll_cons r5;obtain⟨v7,vs7,d7,ds7,p7,q7,rfl,rfl,rfl,h7,r7⟩:=trodAll_cons r6;obtain⟨v8,vs8,d8,ds8,p8,q8,rfl,rfl,rfl,h8,r8⟩:=trodAll_cons r7;obtain⟨rfl,rfl,rfl⟩:=trodAll_nil r8;obtain rfl:args=#[v0,v1,v2,v3,v4,v5,v6,v7,v8]:=by cases args;simp_all
 obtain⟨rfl,rfl⟩:=trodVars_none hV;have k0:=h0;have k1:=h1;have k2:=h2;have k3:=h3;have k4:=h4;have k5:=h5;have k6:=h6;have k7:=h7;have k8:=h8;clear hA0 hval0;simp only[ZR] at hW';have hlt:∀ x∈p0++(p1++(p2++(p3++(p4++(p5++(p6++(p7++(p8)))))))),x.block<W.heap.size:=fun x hx=>by simpa using hW'.lt x (by simpa using hx)
 have l0:∀ x∈p0,x.block<W.heap.size:=fun x hx=>hlt x (by simp[hx])
 have l1:∀ x∈p1,x.block<W.heap.size:=fun x hx=>hlt x (by simp[hx])
 have l2:∀ x∈p2,x.block<W.heap.size:=fun x hx=>hlt x (by simp[hx])
 have l3:∀ x∈p3,x.block<W.heap.size:=fun x hx=>hlt x (by simp[hx])
 have l4:∀ x∈p4,x.block<W.heap.size:=fun x hx=>hlt x (by simp[hx])
 have l5:∀ x∈p5,x.block<W.heap.size:=fun x hx=>hlt x (by simp[hx])
 have l6:∀ x∈p6,x.block<W.heap.size:=fun x hx=>hlt x (by simp[hx])
 have l7:∀ x∈p7,x.block<W.heap.size:=fun x hx=>hlt x (by simp[hx])
 have l8:∀ x∈p8,x.block<W.heap.size:=fun x hx=>hlt x (by simp[hx])
 obtain⟨L0,R0,Q0⟩:=Yxj (hval 0 26 v0 rfl rfl) h0;obtain⟨L1,R1,Q1⟩:=Yzr (hval 1 55 v1 rfl rfl) h1;obtain⟨a2,rfl,rfl,rfl,w2⟩:=open_int Tryz.underlying5 (hval 2 5 v2 rfl rfl) h2;have b2:=YfY w2;obtain⟨a3,rfl,rfl,rfl,w3⟩:=open_int Tryz.underlying5 (hval 3 5 v3 rfl rfl) h3;have b3:=YfY w3;obtain⟨a4,rfl,rfl,rfl,w4⟩:=open_int Tryz.underlying5 (hval 4 5 v4 rfl rfl) h4;have b4:=YfY w4;obtain⟨L5,R5,Q5⟩:=Yzs (hval 5 35 v5 rfl rfl) h5;obtain⟨a6,rfl,rfl,rfl,w6⟩:=open_int Tryz.underlying3 (hval 6 3 v6 rfl rfl) h6;have b6:=Yhu w6;obtain⟨a7,rfl,rfl,rfl,w7⟩:=open_int Tryz.underlying5 (hval 7 5 v7 rfl rfl) h7;have b7:=YfY w7;obtain⟨a8,rfl,rfl,rfl,w8⟩:=open_int Tryz.underlying5 (hval 8 5 v8 rfl rfl) h8;have b8:=YfY w8
 refine (Yzq s_pm (args:=[.at (.slc 0),.at (.slc 1),.at (.val (.int .u8 a2)),.at (.val (.int .u8 a3)),.at (.val (.int .u8 a4)),.at (.slc 2),.at (.val (.int .i64 a6)),.at (.val (.int .u8 a7)),.at (.val (.int .u8 a8))]) (H:=[Ta.row false .ent L0,Ta.row false .stp L1,Ta.row false .u8 L5]) (vs:=[v0,v1,.int .u8 a2,.int .u8 a3,.int .u8 a4,v5,.int .i64 a6,.int .u8 a7,.int .u8 a8]) (σ:=fun n=>[v0,v1,v5].getD n undef) (w:=W) (fun K h=>⟨Q0,Q1,Q5,⟨b7.1,Int.lt_of_le_of_lt b7.2 (by decide)⟩,⟨b8.1,Int.lt_of_le_of_lt b8.2 (by decide)⟩,h⟩)
  (Sat.imms [v0,v1,v5] _ fun n c hc=>by match n,hc with|0,hc=>exact⟨_,_,(Zai hc).symm,R0⟩|1,hc=>exact⟨_,_,(Zai hc).symm,R1⟩|2,hc=>exact⟨_,_,(Zai hc).symm,R5⟩|n+3,hc=>simp at hc) (Rels.cons rfl (Rels.cons rfl (Rels.cons rfl (Rels.cons rfl (Rels.cons rfl (Rels.cons rfl (Rels.cons rfl (Rels.cons rfl (Rels.cons rfl Rels.nil))))))))) (by simp[TV.names,At.names])).mono fun e W' ⟨he,hg⟩=>?_
 subst he;exact⟨_,rfl,_,_,_,[]++[],_,[],hW',(trodAll_cons_mk (shut_bool Tryz.underlying4 true) trodAll_mk0),(trodAll_cons_mk (Below.trod Yht (by kernel_rfl) (Zc (by kernel_rfl)) k0 hg l0) (trodAll_cons_mk (Below.trod Yht (by kernel_rfl) (Zc (by kernel_rfl)) k1 hg l1) (trodAll_cons_mk (Below.trod Yht (by kernel_rfl) (Zc (by kernel_rfl)) k2 hg l2) (trodAll_cons_mk (Below.trod Yht (by kernel_rfl) (Zc (by kernel_rfl)) k3 hg l3) (trodAll_cons_mk (Below.trod Yht (by kernel_rfl) (Zc (by kernel_rfl)) k4 hg l4) (trodAll_cons_mk (Below.trod Yht (by kernel_rfl) (Zc (by kernel_rfl)) k5 hg l5) (trodAll_cons_mk (Below.trod Yht (by kernel_rfl) (Zc (by kernel_rfl)) k6 hg l6) (trodAll_cons_mk (Below.trod Yht (by kernel_rfl) (Zc (by kernel_rfl)) k7 hg l7) (trodAll_cons_mk (Below.trod Yht (by kernel_rfl) (Zc (by kernel_rfl)) k8 hg l8) trodAll_mk0))))))))),rfl,hg.frame _,fun h=>by cases h⟩

theorem over:Rows.packImportsRow.holds Tryz.pinned (OpenSpec.ofChange Rows.packImportsSpec) :=
 OpenClaim.holds_of_wide 6 Tryz.f6 rfl rfl rfl rfl rfl rfl rfl ⟨rfl,rfl,rfl,rfl,rfl⟩ rfl rfl rfl rfl rfl (by kernel_rfl) Tryz.func6 (by kernel_rfl)
  (Zc (by kernel_rfl)) (by unfold Func.isWrapper;first|(rw[Zj (by decide +kernel)];kernel_rfl)|(rw[Zf (by decide +kernel)];exact⟨rfl,rfl⟩))
  (fun os started H enc _=>lifted os started H enc)

theorem proved:Rows.PackImportsSaid:=over
#print axioms proved
end Go.Proofs.YtedfbafngmicpaaGreat.packImports
end
