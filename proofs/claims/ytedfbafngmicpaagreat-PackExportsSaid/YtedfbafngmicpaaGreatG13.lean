/- A part of the proof. -/
import Derived.Test.YtedfbafngmicpaaGreatG12
import Derived.Test.YtedfbafngmicpaaGreatG6
import Derived.Test.YtedfbafngmicpaaGreatG7
import Derived.Test.YtedfbafngmicpaaGreatG11
import Derived.Test.YtedfbafngmicpaaGreatProg
import Derived.Test.YtedfbafngmicpaaGreatChecked
import Derived.WalkKit
import Derived.ProofKit
import Derived.OpenShut
import Derived.SizedLaws
import Derived.Carry
import Derived.Test.YtedfbafngmicpaaGreatG4
import Derived.Deep.Slices
import Derived.Lib.SmallJoins
import Derived.Deep.Strs
import Derived.Test.YtedfbafngmicpaaGreatRows
section
/- The reference's Check of a dump, Clean and Sound. -/
namespace Go.Proofs.YtedfbafngmicpaaGreat.Sx
open Go

/-KEEP Wf exW inU allU Arn.cap Arn.free alcD cntL kidsL slotsOf orderOf MarksR CleanD kidsU-/
structure XCk (d:List SlotT) (roots:List Int) where
 i:Nat
 m:List Bool
 h:i<=d.length/\MarksR d roots m
structure XCj (d:List SlotT) (roots:List Int) (P:Nat->Int->Prop) where
 i:Nat
 m:List Bool
 c:Int
 h:i < d.length/\MarksR d roots m/\P i c
structure XIy (n:Nat) where
 i:Nat
 h:i < n
end Go.Proofs.YtedfbafngmicpaaGreat.Sx
end
section
/- The reference's trees over a dump: nodes, balance, height, list, order, Check, Tree. -/
namespace Go.Proofs.YtedfbafngmicpaaGreat.Sx
open Go

/-KEEP Wf exW inU alcD slotsOf orderOf ndD RepD Asc Tr.Bal Tr.size Tr.list ht balB lastK anyK gtL ShpT-/
def ndD (d:List SlotT) (i:Int):NodeT:=if alcD d i=true then (sltD d i).node else NodeT.zero
/-- An index of a dump stands for a tree. -/
def RepD (d:List SlotT):Tr->Int->Prop
 | .nil,i=>i=0
 | .node l k v r,i=>alcD d i=true/\(ndD d i).key=k/\(ndD d i).value=v/\(ndD d i).size=1+l.size+r.size/\RepD d l (ndD d i).left/\RepD d r (ndD d i).right
theorem RepD.inU {d:List SlotT} {t:Tr} {i:Int} (h:RepD d t i) (hl:d.length<=1000000):inU i:=by
 cases t with
 | nil=>have:i=0:=h;rw [this];exact ⟨by omega,by omega⟩
 | node l k v r=>have:=alcD_rng h.1;exact ⟨by omega,by omega⟩
theorem RepD.sz {d:List SlotT} {t:Tr} {i:Int} (h:RepD d t i):(ndD d i).size=t.size:=by
 cases t with
 | nil =>
  have:i=0:=h
  unfold ndD
  rw [this,alcD_lo (by omega)];rfl
 | node l k v r=>rw [h.2.2.2.1];simp [Tr.size]
theorem RepD.ne {d:List SlotT} {l r:Tr} {k v i:Int} (h:RepD d (.node l k v r) i):i ≠ 0:=by have:=alcD_rng h.1;omega
/-! ### From the arena to its dump -/
end Go.Proofs.YtedfbafngmicpaaGreat.Sx
end
section
/- Kept, lengths of dumps, what is planted. -/
namespace Go.Proofs.YtedfbafngmicpaaGreat.Sx
open Go

/-KEEP Wf exW inU live Arn.cap Arn.free Rep rdS Tr.size Tr.list alcD slotsOf orderOf PlantR newS insE flt getE TrR upM Hn-/
structure XKp (d:List SlotT) where
 i:Nat
 h:i<=d.length
theorem slots_le {S:Arn} {hs:List Int} (w:Wf S hs):(slotsOf S).length<=65537:=by have:=w.n2;rw [slotsOf_len];unfold ncap;omega
end Go.Proofs.YtedfbafngmicpaaGreat.Sx
end
section
/- Law PackExports. -/
namespace Go.Proofs.YtedfbafngmicpaaGreat.Sx
open Go

/-KEEP Wf exW inU allV allB rdS Arn.free RtB ExO ImR FrB RngL RngS FoR pkZ slotsOf orderOf DgW ExB8 ExD DgD DgB DgS NmB NmR NumsD allVb-/
noncomputable def aPex:Ann C0:={ quiet:=[17,34,24,38,25,37,23],Γ:=[(19,tFo),(10,frameT [] tAw28),(20,tPiU),(12,frameT [] tExr),(17,frameT [] tDump),(25,frameT [] tEx28),(37,frameT [] tDg28),(23,frameT [] tN28),(36,frameT [] tDg),(39,frameT [] tNds),(24,frameT [] tSmB),(38,frameT [] tSm8),(34,frameT [] tSameD)],inv:=fun m=>match m with
 | _=>none }
def tPex:Tfm C0:=fun args H K=>match args,H with
 | [.at (.slc 0),.at (.val (.int .u64 t)),.at (.slc 1),.at (.val (.int .u8 b)),.at (.val (.int .u8 c))],[.row false .ent raw,.row false .stp l]=>0<=t/\RngL raw/\RngS l/\K (.one (.at (vB true))) [.row false EC.ent raw,.row false EC.stp l] []
 | _,_=>False
theorem FoR.own {sp:Int} {S:Arn} {rs:List Int} {ll:List (List Ent)} (h:FoR sp S rs ll) {b:Int} {r:List Int} (er:r=(pkZ b (rs.zip ll)).map Prod.fst):r.length<=8/\(∀ j ∈ r,j=0 ∨ S.us j=true)/\allV r/\allVb r/\KyN S r:=by
 have l1:=pkZ_len b (rs.zip ll)
 have us:∀ j ∈ r,j=0 ∨ S.us j=true:=fun j hj=>by
  rw [er] at hj
  obtain ⟨q,hq,rfl⟩:=List.mem_map.1 hj
  obtain ⟨⟨t,rp,_⟩,_⟩:=h.ok (pkZ_mem hq)
  exact rp.us
 have rt:=h.rt 0 b
 rw [← er] at rt
 exact ⟨by rw [er,List.length_map];exact l1,us,fun j hj=>inU_of h.wf (us j hj),fun j hj=>inU_of h.wf (us j hj),by
  obtain h0:=h.rt b 0
  rw [← er] at h0
  exact KyN.left h.wf h0.ky⟩
theorem slots_rd (S:Arn) (m:Nat):slotsOf (rdS S m)=slotsOf S:=rfl
theorem order_rd (S:Arn) (m:Nat):orderOf (rdS S m)=orderOf S:=rfl
theorem vc_pex (raw:List Ent) (l:List StpT) (t b c:Int) (K:KT) (h0:0<=t) (hraw:RngL raw) (hl:RngS l) (h:K (.one (.at (vB true))) [.row false EC.ent raw,.row false EC.stp l] []) :
  vc C0 aPex Tryz.f7 [.at (.slc 0),.at (vU64 t),.at (.slc 1),.at (.val (.int .u8 b)),.at (.val (.int .u8 c))] [.row false EC.ent raw,.row false EC.stp l] (normK 2 K):=by
 refine Eq.mp (show ((0<=t)/\((1:Int)<=1)/\((1:Int)<=1000)/\(RngL raw)/\(RngS l)/\(∀ S:Arn,(∀ rs:List Int,(∀ ll:List (List Ent),((FoR 1 S rs ll)->(((rs.length)=(ll.length))/\(rs.length<=1000)/\(∀ r:List Int,(∀ L:List (List Ent),(((r)=(List.map Prod.fst (pkZ b (rs.zip ll))))->(((L)=(List.map Prod.snd (pkZ b (rs.zip ll))))->(((rs.length)=(ll.length))/\(rs.length<=1000)/\(∀ r1:List Int,(∀ L1:List (List Ent),(((r1)=(List.map Prod.fst (pkZ c (rs.zip ll))))->(((L1)=(List.map Prod.snd (pkZ c (rs.zip ll))))->((exW S)/\(∀ d:List SlotT,(∀ o:List Int,(((d)=(slotsOf S))->(((o)=(orderOf S))->(∃ hs:List Int,((RtB S hs r1 r)/\(∀ S':Arn,(∀ o1:List Int,((ExO S hs r1 r S' o1)->((ExB8 d r r1)/\(∀ o2:List Int,((ExD d r r1 o2)->(((o1)=(o2))/\(o1.length<=100000000)/\(DgB S' r)/\(∀ S'1:Arn,(∀ D:Int,((DgS 200000 S' r S'1 D)->((ExB8 d r [])/\(∀ D1:Int,((DgD d r D1)->((0<=D1)->((D1 < 4294967296)->(brS (D == D1) (((NmB S'1 r)/\(∀ S'2:Arn,(∀ l1:List Int,((NmR S'1 r S'2 l1)->((DgW d)/\(r.length<=1000000)/\(allVb r)/\(∀ l2:List Int,((NumsD d r [] l2)->(((l1)=(l2))/\(l1.length<=1000000)/\(exW S'2)/\(∀ d1:List SlotT,(∀ o3:List Int,(((d1)=(slotsOf S'2))->(((o3)=(orderOf S'2))->(((d1)=(d))/\((o3)=(o))/\(d1.length<=1000000)/\(o3.length<=1000000)/\(K (.one (.at (.val (Value.bool true)))) [(.row false EC.ent (raw)),(.row false EC.stp (l))] []))))))))))))))) ((K (.one (.at (.val (Value.bool false)))) [(.row false EC.ent (raw)),(.row false EC.stp (l))] []))))))))))))))))))))))))))))))))))))))))=_ by kernel_rfl) ?_
 refine ⟨h0,by decide,by decide,hraw,hl,fun S rs ll fo=>⟨fo.len,by have:=fo.one;omega,fun r L er _=>⟨fo.len,by have:=fo.one;omega,fun r1 L1 er1 _=>?_⟩⟩⟩
 have rt:=fo.rt c b
 rw [← er,← er1] at rt
 have w:=fo.wf
 have rd:=fo.rd
 obtain ⟨l1,u1,v1,v1',k1⟩:=fo.own er
 obtain ⟨l2,u2,v2,v2',k2⟩:=fo.own er1
 have ky:=rt.ky
 refine ⟨⟨_,w⟩,fun d o ed eo=>⟨rs,rt,fun S1 o1 ex=>?_⟩⟩
 obtain ⟨m,es,hm⟩:=ex.st
 obtain ⟨lk,la,D,p⟩:=ex.p
 subst es ed
 refine ⟨exB_slots w (by omega) (by omega) u1 u2 ky,fun o2 ex2=>⟨?_,by have:=ex.bl;omega,?_⟩⟩
 ·obtain ⟨lk',la',D',n1,n2,g,e⟩:=exD_slots w ex2
  obtain rfl:=p.ex.nk.det n1
  obtain rfl:=p.ex.na.det n2
  obtain rfl:=p.dg.det g
  rw [p.eo,e];rfl
 have w1:Wf (rdS S m) rs:=w.rd (by omega)
 refine ⟨⟨⟨_,w1⟩,by show S.reads+(m:Int)<=_;omega,by omega,v1,k1⟩,fun S2 D1 dg=>⟨exB_slots w (by omega) (by simp) u1 (fun j hj=>by simp at hj) k1,fun D2 dg2 _ _=>?_⟩⟩
 have dd:D1=D2:=by
  have g1:DgR S r D1:=dg.dg
  exact g1.det (dgD_slots w dg2)
 subst dd
 obtain ⟨m2,es2,hm2⟩:=dg.st
 rw [rdS_rdS] at es2
 subst es2
 have w2:Wf (rdS S (m+m2)) rs:=w.rd (by omega)
 rw [beq_self_eq_true]
 refine ⟨⟨⟨_,w2⟩,by show S.reads+((m+m2:Nat):Int)<=_;omega,by omega,v1⟩,fun S3 l3 nm=>⟨dgW_slots w,by omega,v1',fun l4 n4=>?_⟩⟩
 have n3:NumsA S r [] l3:=nm.num
 obtain rfl:=n3.det (numD_A w n4)
 obtain ⟨f1,f2,f3⟩:=n4.few (dgW_slots w)
 have es3:=nm.st
 rw [rdS_rdS] at es3
 subst es3
 have sl:=slots_le w
 have ol:=order_len w
 have w3:Wf (rdS S (m+m2+l3.length)) rs:=w.rd (by omega)
 refine ⟨rfl,by omega,⟨_,w3⟩,fun d1 o3 e1 e2=>⟨e1,by rw [e2,eo];rfl,by rw [e1,slots_rd];omega,by rw [e2,order_rd];omega,h⟩⟩
theorem s_pex:SoundT C0 7 tPex:=by
 refine .of Tryz.func7 (by decide) rfl fun args H K h hB=>?_
 unfold tPex at h
 split at h <;> try exact h.elim
 refine ⟨_,?_,vc_pex _ _ _ _ _ K h.1 h.2.1 h.2.2.1 h.2.2.2⟩
 exact ⟨s_fo,frame C0.ok s_aw28 _,s_piU,frame C0.ok s_exr _,frame C0.ok s_dump _,frame C0.ok s_ex28 _,frame C0.ok s_dg28 _,frame C0.ok s_n28 _,frame C0.ok s_dgp _,frame C0.ok s_pno _,frame C0.ok s_smB _,frame C0.ok s_sm8 _,frame C0.ok s_sameD _,trivial⟩
end Go.Proofs.YtedfbafngmicpaaGreat.Sx
end
section
/- What every law's last step leans on. -/
namespace Go.Proofs.YtedfbafngmicpaaGreat
open Go.ChangeShapes Go.WideShapes Go.ChangeAt Go.RowKit

theorem ownK:ownKnob Tryz.prog.godebug=none:=by kernel_rfl
theorem laidO:laidOutB Tryz.prog=true:=by kernel_rfl

theorem lit_i64 {a:Int} (h:(Lit.int .i64 a).wf=true) : -9223372036854775808<=a/\a<=9223372036854775807:=by
 have h1:IntKind.i64.min = -9223372036854775808:=rfl
 have h2:IntKind.i64.max=9223372036854775807:=rfl
 simp only [Lit.wf,Bool.and_eq_true,decide_eq_true_eq] at h
 omega
theorem lit_u64 {a:Int} (h:(Lit.int .u64 a).wf=true):0<=a/\a<=18446744073709551615:=by
 have h1:IntKind.u64.min=0:=rfl
 have h2:IntKind.u64.max=18446744073709551615:=rfl
 simp only [Lit.wf,Bool.and_eq_true,decide_eq_true_eq] at h
 omega
end Go.Proofs.YtedfbafngmicpaaGreat
end
section
/- From contracts to laws: the arguments as they come, what a law's call leaves. -/
namespace Go.Proofs.YtedfbafngmicpaaGreat.Sx
open Go Go.Joins Go.ChangeShapes Go.WideShapes Go.ChangeAt Go.RowKit

theorem Sat.imms {C:Ctx} {w:World} (vs:List Value) (H:List (Chunk C)) (h:∀ (n:Nat) (c:Chunk C),H[n]?=some c->∃ e l,c = .row false e l/\Imm C w (vs.getD n undef) e l):Sat C (fun n=>vs.getD n undef) (fun _ _=>False) w H where
 holds n c hc:=by
  obtain ⟨e,l,rfl,hi⟩:=h n c hc
  exact ⟨hi,fun _ hh=>hh⟩
 dis _ _ _ hh:=hh.elim
 bd _ _ hh:=hh.elim
 imm _ _ _ _ _ _ hh:=hh
 out _ _ _ hh:=hh
 cl n c hc m hm:=by
  obtain ⟨e,l,rfl,_⟩:=h n c hc
  simp [Chunk.names] at hm

theorem lawOf {f:FuncId} {t:Tfm C0} (hs:SoundT C0 f t) {args:List TV} {H:List (Chunk C0)} {vs:List Value} {σ:Nat->Value} {w:World} (ht:∀ K:KT,K (.one (.at (vB true))) H []->t args H K)
  (hsat:Sat C0 σ (fun _ _=>False) w H) (hr:Rels (TV.rel σ) args vs) (hn:∀ x ∈ args,∀ m ∈ x.names,m < H.length):Calls Tryz.prog f vs.toArray w (fun e w'=>e = .returned (.bool true)/\Below w.heap.size w w'):=by
 have hc:=hs.call args H (fun r _ _=>r = .one (.at (vB true))) (ht _ rfl) σ _ w vs hsat hr hn
 refine Calls.mono hc fun e w' hh=>?_
 cases e with
 | panicked ch=>exact hh.elim
 | outgrown=>exact hh.elim
 | returned v =>
  obtain ⟨r,H',ts,σ',φ',hout,rfl⟩:=hh
  have hv:v = .bool true:=hout.rel
  exact ⟨by rw [hv],hout.adv.os,hout.adv.tape,hout.adv.output,hout.adv.size,fun k hk=>hout.adv.fr k hk fun n hh=>hh⟩

section
variable {HH:Type} {enc:TypeId × Value->HH} {P:Program} {w:World} {base b0:Nat} {spare:Nat->Bool} {held:Bool} {r:Reach}
theorem openRowQ {α:Type} [Inhabited α] {t e:TypeId} {f:α->List Value} {Q:α->Prop} {sz:Nat} {v:Value} {d:DataW HH} {p:List MemPlace} (ht:P.underlying t=some (.slice e)) (hC:P.cellsOf e=sz) (hpos:0 < sz) (hf:∀ x,(f x).length=sz)
  (hel:∀ {n:Nat} {cs:List Value} {x:DataW HH × List MemPlace},DataW.trod enc P w base spare held n e cs=some x->∃ a,cs=f a/\Q a) (hv:Value.okWide P w r b0 t v) (h:DataW.Trod enc P w base spare held t v d p) :
  ∃ A n c l,v = .slice A n c/\Rd f sz w A n c l/\∀ x ∈ l,Q x:=by
 obtain ⟨A,n,c,rfl⟩:=okWide_slice ht hv
 obtain ⟨fuel,hh⟩:=h
 have hh:DataW.trod enc P w base spare held fuel t [.slice A n c]=some (d,p):=by simpa [Value.cells] using hh
 rcases Go.Deep.open_slice ht hh with ⟨h1,_⟩ | ⟨a,len,cap,m,k,D,Pl,h1,hb,hle,hm,hmm,hx,hall⟩
 ·simp only [List.cons.injEq,Value.slice.injEq,and_true] at h1
  obtain ⟨rfl,rfl,rfl⟩:=h1
  exact ⟨none,0,0,[],rfl,Rd.nil hf,fun x hx=>by simp at hx⟩
 ·simp only [List.cons.injEq,Value.slice.injEq,and_true] at h1
  obtain ⟨rfl,rfl,rfl⟩:=h1
  have hlm:n<=m:=by rw [hmm];split <;> omega
  have hel':∀ i,i < n->∃ x:α,w.cells? base (a.add (i * P.cellsOf e)) (P.cellsOf e)=some (f x)/\Q x:=fun i hi=>by
   obtain ⟨cs',hc1,hc2⟩:=hall i (by omega)
   obtain ⟨x,rfl,hq⟩:=hel hc2
   exact ⟨x,hc1,hq⟩
  obtain ⟨F,hF⟩:=Go.Deep.choose_lt hel'
  have cell:∀ i,i < n->∀ j,j < sz->w.cell? ((a.add (i * sz)).add j)=(f (F i))[j]?:=fun i hi j hj=>by
   have h2:=(hF i hi).1
   rw [hC] at h2
   unfold World.cells? at h2
   split at h2
   ·exact mapM_some_get h2 j j (by simp [hj])
   ·cases h2
  refine ⟨some a,n,c,(List.range n).map F,rfl,⟨by simp,hle,hm,hf,fun h=>(by cases h),fun hn=>?_⟩,fun x hx=>by obtain ⟨i,hi,rfl⟩:=List.mem_map.1 hx;exact (hF i (List.mem_range.1 hi)).2⟩
  obtain ⟨b,o,sp⟩:=a
  have hsome:∀ i,i < n->∀ j,j < sz->∃ u,w.cell? (((⟨b,o,sp⟩:Addr).add (i * sz)).add j)=some u:=fun i hi j hj=>by
   rw [cell i hi j hj]
   exact ⟨_,List.getElem?_eq_getElem (by rw [hf];exact hj)⟩
  obtain ⟨u0,hu0⟩:=hsome 0 hn 0 hpos
  have hspot:sp=none:=by simpa [Addr.add] using World.cell?_spot hu0
  subst hspot
  refine ⟨b,o,rfl,?_,fun k x hx j u hu=>?_⟩
  ·have hu1:w.cell? ⟨b,o,none⟩=some u0:=by simpa [Addr.add] using hu0
   unfold World.cell? at hu1
   split at hu1
   ·rename_i hb2
    exact (Array.getElem?_eq_some_iff.1 hb2).1
   ·cases hu1
  ·rw [List.getElem?_map] at hx
   have hk:k < n:=by
    rcases Nat.lt_or_ge k n with h2 | h2
    ·exact h2
    ·rw [List.getElem?_eq_none (by simpa using h2)] at hx;cases hx
   rw [List.getElem?_range hk] at hx
   simp only [Option.map_some,Option.some.injEq] at hx
   subst hx
   have hj:j < sz:=by
    have:=(List.getElem?_eq_some_iff.1 hu).1
    rwa [hf] at this
   have h3:=cell k hk j hj
   rw [hu] at h3
   rw [← h3]
   congr 1
   rw [Go.WideShapes.add_plain,Go.WideShapes.add_plain]
end

section
variable {HH:Type} {enc:TypeId × Value->HH} {w:World} {base b0:Nat} {spare:Nat->Bool} {held:Bool} {r:Reach}
set_option maxRecDepth 100000 in
theorem elEw {n:Nat} {cs:List Value} {x:DataW HH × List MemPlace} (h:DataW.trod enc Tryz.prog w base spare held n 24 cs=some x) :
  ∃ a:Ent,cs=EC.enc .ent a/\((-9223372036854775808<=a.1/\a.1<=9223372036854775807)/\(-9223372036854775808<=a.2/\a.2<=9223372036854775807)):=by
 obtain ⟨y0,y1,m,_,hl,h0,h1⟩:=trod_struct2 Tryz.underlying24 h
 obtain ⟨k,e0,_,w0⟩:=DataW.trod_int Tryz.underlying2 h0
 obtain ⟨v,e1,_,w1⟩:=DataW.trod_int Tryz.underlying2 h1
 have hl:cs.length=2:=hl.trans (by kernel_rfl)
 have c1:Tryz.prog.cellsOf 2=1:=by kernel_rfl
 match cs,hl with
 | [a,b],_ =>
  simp [c1] at e0 e1
  exact ⟨(k,v),by rw [e0,e1];rfl,lit_i64 w0,lit_i64 w1⟩
set_option maxRecDepth 100000 in
/-- The same with what the entries' numbers are. -/
theorem openEw {v:Value} {d:DataW HH} {p:List MemPlace} (hv:Value.okWide Tryz.prog w r b0 26 v) (h:DataW.Trod enc Tryz.prog w base spare held 26 v d p) :
  ∃ (l:List Ent),Imm C0 w v EC.ent l/\∀ x ∈ l,(-9223372036854775808<=x.1/\x.1<=9223372036854775807)/\(-9223372036854775808<=x.2/\x.2<=9223372036854775807):=by
 obtain ⟨A,n,c,l,rfl,hr,hq⟩:=openRowQ (α:=Ent) (f:=fun x=>EC.enc .ent x) (sz:=2) Tryz.underlying26 (by kernel_rfl) (by decide) (fun _=>rfl) (fun h=>elEw h) hv h
 obtain rfl:=hr.len
 exact ⟨l,⟨A,c,rfl,hr⟩,hq⟩
instance:Inhabited Chg:=⟨⟨0,0,0,0⟩⟩
end
end Go.Proofs.YtedfbafngmicpaaGreat.Sx
end
section
/- Opening arguments that are slices of steps of the laws of pack. -/
namespace Go.Proofs.YtedfbafngmicpaaGreat.Sx
open Go Go.Joins Go.ChangeShapes Go.WideShapes Go.ChangeAt Go.RowKit

theorem lit_u8 {a:Int} (h:(Lit.int .u8 a).wf=true):0<=a/\a<=255:=by
 have h1:IntKind.u8.min=0:=rfl
 have h2:IntKind.u8.max=255:=rfl
 simp only [Lit.wf,Bool.and_eq_true,decide_eq_true_eq] at h
 omega
section
variable {HH:Type} {enc:TypeId × Value->HH} {w:World} {base b0:Nat} {spare:Nat->Bool} {held:Bool} {r:Reach}
instance:Inhabited StpT:=⟨⟨0,(0,0),false,false⟩⟩
set_option maxRecDepth 100000 in
theorem elP {n:Nat} {cs:List Value} {x:DataW HH × List MemPlace} (h:DataW.trod enc Tryz.prog w base spare held n 123 cs=some x):∃ a:StpT,cs=EC.enc .stp a/\(rngI a.at_/\rngI a.ent.1/\rngI a.ent.2):=by
 obtain ⟨y0,y1,y2,y3,m,_,hl,h0,h1,h2,h3⟩:=trod_struct4 Tryz.underlying123 h
 obtain ⟨u,e0,q0⟩:=DataW.trod_int Tryz.underlying3 h0
 obtain ⟨s,e1,q1⟩:=elEw h1
 obtain ⟨k,e2,_⟩:=DataW.trod_bool Tryz.underlying4 h2
 obtain ⟨v,e3,_⟩:=DataW.trod_bool Tryz.underlying4 h3
 have hl:cs.length=5:=hl.trans (by kernel_rfl)
 have c1:Tryz.prog.cellsOf 4=1:=by kernel_rfl
 have c2:Tryz.prog.cellsOf 3=1:=by kernel_rfl
 have c3:Tryz.prog.cellsOf 24=2:=by kernel_rfl
 match cs,hl with
 | [a,b,c,d,e],_ =>
  simp [c1,c2,c3] at e0 e1 e2 e3
  have e1:[b,c]=[Value.int .i64 s.1,Value.int .i64 s.2]:=e1
  simp only [List.cons.injEq,and_true] at e1
  exact ⟨⟨u,s,k,v⟩,by rw [e0,e1.1,e1.2,e2,e3];rfl,lit_i64 q0.2,q1⟩
set_option maxRecDepth 100000 in
theorem openP {v:Value} {d:DataW HH} {p:List MemPlace} (hv:Value.okWide Tryz.prog w r b0 55 v) (h:DataW.Trod enc Tryz.prog w base spare held 55 v d p) :
  ∃ (l:List StpT),Imm C0 w v EC.stp l/\RngS l:=by
 obtain ⟨A,n,c,l,rfl,hr,hq⟩:=openRowQ (α:=StpT) (f:=fun x=>EC.enc .stp x) (sz:=5) Tryz.underlying55 (by kernel_rfl) (by decide) (fun _=>rfl) (fun h=>elP h) hv h
 obtain rfl:=hr.len
 exact ⟨l,⟨A,c,rfl,hr⟩,hq⟩
end
end Go.Proofs.YtedfbafngmicpaaGreat.Sx
end
section
/- 'PackExports': the law returns true for every input, and its arguments read afterwards as they read before. -/
namespace Go.Proofs.YtedfbafngmicpaaGreat.packExports
open Go.ChangeShapes Go.WideShapes Go.ChangeAt Go.RowKit Sx

set_option maxRecDepth 100000 in
theorem lifted (os:Os) (started:os.Started) (H:Type) (enc:TypeId × Value->H) :
  ReturnsInHanded {} Tryz.checked os 7 .any (Rows.packExportsSpec.pre6 enc Tryz.prog Tryz.f7 Rows.packExportsRow.domain false) (Rows.packExportsSpec.post enc Tryz.prog Tryz.f7 false true false false):=by
 refine returnsInHanded_of_change (C:=Tryz.checked) ownK started (by kernel_rfl) Tryz.func7
  (ChangeSpec.witness6 (enc:=enc) (C:=Tryz.checked) false ⟨#[],#[.slice none 0 0,.int .u64 0,.slice none 0 0,.int .u8 0,.int .u8 0],[]⟩ 8 (by kernel_rfl) (by kernel_rfl) (by kernel_rfl) (by kernel_rfl)) ?_
 intro W base args ds gs before hval0 hW hcnd _
 have hval:∀ (j:Nat) t v,Tryz.f7.params[j]?=some t->args[j]?=some v->Value.okWide Tryz.prog W .any base t v:=hval0
 have hW':=hW
 obtain ⟨p,q,hA0,hV,rfl,hfz,hnd⟩:=hW
 have hA:DataW.TrodAll enc Tryz.prog W 0 (fun _=>true) true Tryz.f7.params.toList args.toList ds p:=hA0
 rw [Tryz.params7] at hA hval
 obtain ⟨v0,vs0,d0,ds0,p0,q0,hargs,rfl,rfl,h0,r0⟩:=trodAll_cons hA
 obtain ⟨v1,vs1,d1,ds1,p1,q1,rfl,rfl,rfl,h1,r1⟩:=trodAll_cons r0
 obtain ⟨v2,vs2,d2,ds2,p2,q2,rfl,rfl,rfl,h2,r2⟩:=trodAll_cons r1
 obtain ⟨v3,vs3,d3,ds3,p3,q3,rfl,rfl,rfl,h3,r3⟩:=trodAll_cons r2
 obtain ⟨v4,vs4,d4,ds4,p4,q4,rfl,rfl,rfl,h4,r4⟩:=trodAll_cons r3
 obtain ⟨rfl,rfl,rfl⟩:=trodAll_nil r4
 obtain rfl:args=#[v0,v1,v2,v3,v4]:=by cases args;simp_all
 obtain ⟨rfl,rfl⟩:=trodVars_none hV
 have k0:=h0
 have k1:=h1
 have k2:=h2
 have k3:=h3
 have k4:=h4
 clear hA0 hval0
 simp only [List.append_nil] at hW'
 have hlt:∀ x ∈ p0 ++ (p1 ++ (p2 ++ (p3 ++ (p4)))),x.block < W.heap.size:=fun x hx=>by simpa using hW'.lt x (by simpa using hx)
 have l0:∀ x ∈ p0,x.block < W.heap.size:=fun x hx=>hlt x (by simp [hx])
 have l1:∀ x ∈ p1,x.block < W.heap.size:=fun x hx=>hlt x (by simp [hx])
 have l2:∀ x ∈ p2,x.block < W.heap.size:=fun x hx=>hlt x (by simp [hx])
 have l3:∀ x ∈ p3,x.block < W.heap.size:=fun x hx=>hlt x (by simp [hx])
 have l4:∀ x ∈ p4,x.block < W.heap.size:=fun x hx=>hlt x (by simp [hx])
 obtain ⟨L0,R0,Q0⟩:=openEw (hval 0 26 v0 rfl rfl) h0
 obtain ⟨a1,rfl,rfl,rfl,w1⟩:=open_int Tryz.underlying22 (hval 1 22 v1 rfl rfl) h1
 have b1:=lit_u64 w1
 obtain ⟨L2,R2,Q2⟩:=openP (hval 2 55 v2 rfl rfl) h2
 obtain ⟨a3,rfl,rfl,rfl,w3⟩:=open_int Tryz.underlying5 (hval 3 5 v3 rfl rfl) h3
 have b3:=lit_u8 w3
 obtain ⟨a4,rfl,rfl,rfl,w4⟩:=open_int Tryz.underlying5 (hval 4 5 v4 rfl rfl) h4
 have b4:=lit_u8 w4
 refine (lawOf s_pex (args:=[.at (.slc 0),.at (.val (.int .u64 a1)),.at (.slc 1),.at (.val (.int .u8 a3)),.at (.val (.int .u8 a4))]) (H:=[Chunk.row false EC.ent L0,Chunk.row false EC.stp L2]) (vs:=[v0,.int .u64 a1,v2,.int .u8 a3,.int .u8 a4]) (σ:=fun n=>[v0,v2].getD n undef) (w:=W) (fun K h=>⟨b1.1,Q0,Q2,h⟩)
  (Sat.imms [v0,v2] _ fun n c hc=>by match n,hc with | 0,hc=>exact ⟨_,_,(Option.some.inj hc).symm,R0⟩ | 1,hc=>exact ⟨_,_,(Option.some.inj hc).symm,R2⟩ | n+2,hc=>simp at hc) (Rels.cons rfl (Rels.cons rfl (Rels.cons rfl (Rels.cons rfl (Rels.cons rfl Rels.nil))))) (by simp [TV.names,At.names])).mono fun e W' ⟨he,hg⟩=>?_
 subst he
 exact ⟨_,rfl,_,_,_,[] ++ [],_,[],hW',(trodAll_cons_mk (shut_bool Tryz.underlying4 true) trodAll_mk0),(trodAll_cons_mk (Below.trod laidO (by kernel_rfl) (of_decide_eq_true (by kernel_rfl)) k0 hg l0) (trodAll_cons_mk (Below.trod laidO (by kernel_rfl) (of_decide_eq_true (by kernel_rfl)) k1 hg l1) (trodAll_cons_mk (Below.trod laidO (by kernel_rfl) (of_decide_eq_true (by kernel_rfl)) k2 hg l2) (trodAll_cons_mk (Below.trod laidO (by kernel_rfl) (of_decide_eq_true (by kernel_rfl)) k3 hg l3) (trodAll_cons_mk (Below.trod laidO (by kernel_rfl) (of_decide_eq_true (by kernel_rfl)) k4 hg l4) trodAll_mk0))))),rfl,hg.frame _,fun h=>by cases h⟩

theorem over:Rows.packExportsRow.holds Tryz.pinned (OpenSpec.ofChange Rows.packExportsSpec) :=
 OpenClaim.holds_of_wide 7 Tryz.f7 rfl rfl rfl rfl rfl rfl rfl ⟨rfl,rfl,rfl,rfl,rfl⟩ rfl rfl rfl rfl rfl (by kernel_rfl) Tryz.func7 (by kernel_rfl)
  (of_decide_eq_true (by kernel_rfl)) (by unfold Func.isWrapper;first | (rw [if_pos (by decide +kernel)];kernel_rfl) | (rw [if_neg (by decide +kernel)];exact ⟨rfl,rfl⟩))
  (fun os started H enc _=>lifted os started H enc)

theorem proved:Rows.PackExportsSaid:=over
#print axioms proved
end Go.Proofs.YtedfbafngmicpaaGreat.packExports
end
