/- A part of the proof. -/
import Derived.Test.YtedfbafngmicpaaGreatG9
import Derived.Test.YtedfbafngmicpaaGreatG4
import Derived.Test.YtedfbafngmicpaaGreatG5
import Derived.Test.YtedfbafngmicpaaGreatG6
import Derived.Test.YtedfbafngmicpaaGreatG8
section
/- Law PackSharesKnown. -/
namespace Go.Proofs.YtedfbafngmicpaaGreat.Sx
open Go

/-KEEP Wf exW inU allV allB rdS Arn.free RtB ExO ImR FrB RngL RngS FoR pkZ-/
theorem pkG_mem {b:Int}{E:List (Int × List Ent)}{q:Int × List Ent}:∀ {i:Nat},i<=E.length->q∈pkG b E i->q∈E
 | 0,_,h=>by cases h
 | i+1,hi,h=>by
  unfold pkG at h
  split at h
  ·rcases List.mem_append.1 h with c|c
   ·exact pkG_mem (by omega) c
   ·rw[List.mem_singleton.1 c,List.getD_eq_getElem?_getD,List.getElem?_eq_getElem (by omega)]
    exact List.getElem_mem _
  ·exact pkG_mem (by omega) h
theorem pkZ_mem {b:Int}{E:List (Int × List Ent)}{q:Int × List Ent}(h:q∈pkZ b E):q∈E∨q=(0,[]):=by
 unfold pkZ at h
 rcases List.mem_append.1 h with c|c
 ·exact .inl (pkG_mem (by omega) c)
 ·split at c
  ·exact .inr (List.mem_singleton.1 c)
  ·cases c
theorem pkZ_len (b:Int)(E:List (Int × List Ent)):(pkZ b E).length<=8:=by
 have:=pkG_len b E (min E.length 7)
 unfold pkZ
 rw[List.length_append]
 split
 ·rw[List.length_singleton];omega
 ·rw[List.length_nil];omega
theorem FoR.ok {sp:Int}{S:Arn}{rs:List Int}{ll:List (List Ent)}(h:FoR sp S rs ll){q:Int × List Ent}(hq:q∈rs.zip ll∨q=(0,[])):OkT S q.1/\∃ t,Rep S t q.1/\t.list=q.2/\t.Bal/\Asc q.2/\t.size<=36:=by
 rcases hq with hq|hq
 ·obtain⟨t,r,e,b⟩:=h.hld.rep q hq
  have l:=h.ls q.2 (List.of_mem_zip hq).2
  have a:=h.hld.asc q hq
  exact⟨⟨t,r,by rw[e];exact a,b,by rw[e];exact l.2⟩,t,r,e,b,a,by rw[← t.list_len,e];exact l.1⟩
 ·rw[hq]
  exact⟨⟨.nil,rfl,List.Pairwise.nil,trivial,fun z hz=>by cases hz⟩,.nil,rfl,rfl,trivial,List.Pairwise.nil,by decide⟩
theorem FoR.wf {sp:Int}{S:Arn}{rs:List Int}{ll:List (List Ent)}(h:FoR sp S rs ll):Wf S rs:=by
 have:=h.hld.wf
 rwa [zip_fst h.len] at this
theorem FoR.rt {sp:Int}{S:Arn}{rs:List Int}{ll:List (List Ent)}(h:FoR sp S rs ll)(b c:Int):RtB S rs ((pkZ b (rs.zip ll)).map Prod.fst) ((pkZ c (rs.zip ll)).map Prod.fst):=by
 have l1:=pkZ_len b (rs.zip ll)
 have l2:=pkZ_len c (rs.zip ll)
 have one:=h.one
 have rd:=h.rd
 refine rtB_of h.wf (by omega) (by omega) (by rw[List.length_map];omega) (by rw[List.length_map];omega) fun r hr=>?_
 rcases List.mem_append.1 hr with c|c
 ·obtain⟨q,hq,rfl⟩:=List.mem_map.1 c
  exact (h.ok (pkZ_mem hq)).1
 ·obtain⟨q,hq,rfl⟩:=List.mem_map.1 c
  exact (h.ok (pkZ_mem hq)).1
end Go.Proofs.YtedfbafngmicpaaGreat.Sx
end
section
/- The reference of words: Join, Varint, Word, KeyBytes, Zigzag. -/
namespace Go.Proofs.YtedfbafngmicpaaGreat.Sx
open Go

/-KEEP allB vE wB kB zz-/
structure XYj (P:List Int->Nat->Prop) where
 o:List Int
 i:Nat
 h:P o i
noncomputable def aJnR (P1 P2:List Int->Nat->Prop)(b c:List Int):Ann C0:={ quiet:=[9999999],Γ:=[],inv:=fun m=>match m with
 | 3=>some { X:=XYj P1,sl:=[5,6],tf:=fun x=>[.one (.at (.slc 2)),vi .i64 x.i],hf:=fun x=>[.row false EC.u8 b,.row false EC.u8 c,.row true EC.u8 x.o],μ:=fun x=>b.length-x.i }
 | 7=>some { X:=XYj P2,sl:=[5,7],tf:=fun x=>[.one (.at (.slc 2)),vi .i64 x.i],hf:=fun x=>[.row false EC.u8 b,.row false EC.u8 c,.row true EC.u8 x.o],μ:=fun x=>c.length-x.i }
 | _=>none }
def jnA (b c:List Int):List Int:=b++c
def tJnR:Tfm C0:=fun args H K=>match args,H with
 | [.at (.slc 0),.at (.slc 1)],[.row false .u8 b,.row false .u8 c]=>b.length<=1000000000/\c.length<=1000000000/\∀ o,o=jnA b c->K (.one (.at (.slc 2))) [.row false EC.u8 b,.row false EC.u8 c,.row true EC.u8 o] []
 | _,_=>False
def PJn1 (b:List Int):List Int->Nat->Prop:=fun o i=>i<=b.length/\o=b.take i
def PJn2 (b c:List Int):List Int->Nat->Prop:=fun o i=>i<=c.length/\o=jnA b (c.take i)
theorem vc_jnR (b c:List Int)(K:KT)(hb:b.length<=1000000000)(hc:c.length<=1000000000)(h:∀ o,o=jnA b c->K (.one (.at (.slc 2))) [.row false EC.u8 b,.row false EC.u8 c,.row true EC.u8 o] []) :
  vc C0 (aJnR (PJn1 b) (PJn2 b c) b c) Tryz.f70 [.at (.slc 0),.at (.slc 1)] [.row false EC.u8 b,.row false EC.u8 c] (normK 2 K):=by
 generalize hP1:PJn1 b=P1
 generalize hP2:PJn2 b c=P2
 refine Eq.mp (show ((0:Int)<=0/\0<=IntKind.i64.wrap ((b.length:Int)+(c.length:Int))/\IntKind.i64.wrap ((b.length:Int)+(c.length:Int))*(↑(bytesOf C0 EC.u8):Int)<=140737488355328/\(∃ x:XYj P1,True/\(True/\True/\True/\VI 0=(VI (x.i:Int))/\True)/\b=b/\c=c/\[]=x.o/\True)/\∀ x:XYj P1,True->brS (decide ((x.i:Int)<(b.length:Int))) (0<=(x.i:Int)/\(x.i:Int)<(b.length:Int)/\(x.o.length+[getB b (x.i:Int).toNat].length)*bytesOf C0 EC.u8<=140737488355328/\∃ x':XYj P1,True/\((True/\True/\True/\(VI (IntKind.i64.wrap ((x.i:Int)+1)))=(VI (x'.i:Int))/\True)/\b=b/\c=c/\(x.o++[getB b (x.i:Int).toNat])=x'.o/\True)/\b.length-x'.i<b.length-x.i) ((∃ x1:XYj P2,True/\(True/\True/\VI 0=(VI (x1.i:Int))/\True)/\b=b/\c=c/\x.o=x1.o/\True)/\∀ x1:XYj P2,True->brS (decide ((x1.i:Int)<(c.length:Int))) (0<=(x1.i:Int)/\(x1.i:Int)<(c.length:Int)/\(x1.o.length+[getB c (x1.i:Int).toNat].length)*bytesOf C0 EC.u8<=140737488355328/\∃ x':XYj P2,True/\((True/\True/\(VI (IntKind.i64.wrap ((x1.i:Int)+1)))=(VI (x'.i:Int))/\True)/\b=b/\c=c/\(x1.o++[getB c (x1.i:Int).toNat])=x'.o/\True)/\c.length-x'.i<c.length-x1.i) (K (.one (.at (.slc 2))) [(.row false EC.u8 (b)),(.row false EC.u8 (c)),(.row true EC.u8 (x1.o))] [])))=_ by kernel_rfl) ?_
 subst hP1 hP2
 rw[wrap_id (x:=(b.length:Int)+c.length) (by omega) (by omega),bytes_u8]
 refine⟨by decide,by omega,by omega,⟨⟨[],0,Nat.zero_le _,rfl⟩,trivial,?_⟩,fun x _=>brS_of (fun y=>?_) fun y=>⟨?_,fun x1 _=>brS_of (fun z=>?_) fun z=>?_⟩⟩
 ·(repeat' first|exact trivial|exact rfl|refine And.intro ?_ ?_)
 ·obtain⟨o,i,hi,rfl⟩:=x
  dsimp only at y ⊢
  have yi:i<b.length:=by have:=of_decide_eq_true y;omega
  clear y
  rw[show ((i:Int)).toNat=i from rfl,wrap_id (x:=(i:Int)+1) (by omega) (by omega)]
  refine⟨by omega,by omega,by rw[List.length_take,List.length_singleton];omega,⟨b.take i++[getB b i],i+1,yi,(take_getB yi).symm⟩,trivial,?_,Nat.sub_lt_sub_left yi (Nat.lt_succ_self i)⟩
  (repeat' first|exact trivial|exact rfl|refine And.intro ?_ ?_)
 ·obtain⟨o,i,hi,rfl⟩:=x
  dsimp only at y ⊢
  have yi:i=b.length:=by have:=of_decide_eq_false y;omega
  subst yi
  rw[List.take_length]
  refine⟨⟨b,0,Nat.zero_le _,by unfold jnA;rw[List.take_zero,List.append_nil]⟩,trivial,?_⟩
  (repeat' first|exact trivial|exact rfl|refine And.intro ?_ ?_)
 ·obtain⟨o,i,hi,rfl⟩:=x1
  dsimp only at z ⊢
  have yi:i<c.length:=by have:=of_decide_eq_true z;omega
  clear z
  rw[show ((i:Int)).toNat=i from rfl,wrap_id (x:=(i:Int)+1) (by omega) (by omega)]
  refine⟨by omega,by omega,by unfold jnA;rw[List.length_append,List.length_take,List.length_singleton];omega,⟨jnA b (c.take i)++[getB c i],i+1,yi,by unfold jnA;rw[take_getB yi,List.append_assoc]⟩,trivial,?_,Nat.sub_lt_sub_left yi (Nat.lt_succ_self i)⟩
  (repeat' first|exact trivial|exact rfl|refine And.intro ?_ ?_)
 ·obtain⟨o,i,hi,rfl⟩:=x1
  dsimp only at z ⊢
  have yi:i=c.length:=by have:=of_decide_eq_false z;omega
  subst yi
  rw[List.take_length]
  exact h _ rfl
theorem s_jnR:SoundT C0 70 tJnR:=by
 refine .of Tryz.func70 (by decide) rfl fun args H K h hB=>?_
 unfold tJnR at h
 split at h<;>try exact h.elim
 rename_i b c
 exact⟨aJnR (PJn1 b) (PJn2 b c) b c,trivial,vc_jnR b c K h.1 h.2.1 h.2.2⟩
end Go.Proofs.YtedfbafngmicpaaGreat.Sx
end
section
/- The reference of words and frames: Word, KeyBytes, Zigzag, Extend, Checksum, Frame, varint, frame. -/
namespace Go.Proofs.YtedfbafngmicpaaGreat.Sx
open Go

/-KEEP allB vE wB kB zz crc exI frE itC xorI getB jnA-/
structure XEr (P:Nat->Int->Prop) where
 i:Nat
 c:Int
 h:P i c
structure XEq (P:Nat->Nat->Int->Prop) where
 i:Nat
 k:Nat
 c:Int
 h:P i k c
noncomputable def aEr (P:Nat->Int->Prop)(Q:Nat->Nat->Int->Prop)(b:List Int):Ann C0:={ quiet:=[9999999],Γ:=[],inv:=fun m=>match m with
 | 3=>some { X:=XEr P,sl:=[5,6],tf:=fun x=>[vi .u32 x.c,vi .i64 x.i],hf:=fun _=>[.row false EC.u8 b],μ:=fun x=>b.length-x.i }
 | 7=>some { X:=XEq Q,sl:=[5,7],tf:=fun x=>[vi .u32 x.c,vi .i64 x.k],hf:=fun _=>[.row false EC.u8 b],μ:=fun x=>8-x.k,rel:=fun T _ x=>slotI T 6 x.i }
 | _=>none }
noncomputable def aCr:Ann C0:={ Γ:=[(118,frameT [] tEx)] }
def PEq (c:Int)(b:List Int):Nat->Nat->Int->Prop:=fun i k x=>i<b.length/\k<=8/\∃ y:BitVec 32,x=(y.toNat:Int)/\itC (8-k) y=crX (b.take (i+1)) (~~~ BitVec.ofInt 32 c)
theorem vc_er (c:Int)(b:List Int)(K:KT)(hb:allB b)(hl:b.length<=1000000000000)(h:∀ r,r=exI c b->K (.one (.at (vU r))) [.row false EC.u8 b] []) :
  vc C0 (aEr (PEx c b) (PEq c b) b) Tryz.f118 [.at (.val (.int .u32 c)),.at (.slc 0)] [.row false EC.u8 b] (normK 1 K):=by
 generalize hP:PEx c b=P
 generalize hQ:PEq c b=Q
 refine Eq.mp (show ((∃ x:XEr P,True/\(True/\(VU (xorI IntKind.u32 (if IntKind.u32.signed=true then -1 else IntKind.u32.max) c))=(VU (x.c))/\VI 0=(VI (x.i:Int))/\True)/\b=b/\True)/\∀ x:XEr P,True->brS (decide ((x.i:Int)<(b.length:Int))) (0<=(x.i:Int)/\(x.i:Int)<(b.length:Int)/\(∃ x1:XEq Q,((x.i:Int))=((x1.i:Int))/\(True/\(VU (xorI IntKind.u32 x.c (IntKind.u32.wrap (getB b (x.i:Int).toNat))))=(VU (x1.c))/\VI (x.i:Int)=VI (x.i:Int)/\VI 0=(VI (x1.k:Int))/\True)/\b=b/\True)/\∀ x1:XEq Q,((x.i:Int))=((x1.i:Int))->brS (decide ((x1.k:Int)<8)) (brS (x1.c.tmod 2==1) (∃ x':XEq Q,((x.i:Int))=((x'.i:Int))/\((True/\(VU (xorI IntKind.u32 (IntKind.u32.wrap (x1.c.tdiv 2)) 2197175160))=(VU (x'.c))/\VI (x.i:Int)=VI (x.i:Int)/\(VI (IntKind.i64.wrap ((x1.k:Int)+1)))=(VI (x'.k:Int))/\True)/\b=b/\True)/\8-x'.k<8-x1.k) (∃ x':XEq Q,((x.i:Int))=((x'.i:Int))/\((True/\(VU (IntKind.u32.wrap (x1.c.tdiv 2)))=(VU (x'.c))/\VI (x.i:Int)=VI (x.i:Int)/\(VI (IntKind.i64.wrap ((x1.k:Int)+1)))=(VI (x'.k:Int))/\True)/\b=b/\True)/\8-x'.k<8-x1.k)) (∃ x':XEr P,True/\((True/\VU (x1.c)=VU (x'.c)/\(VI (IntKind.i64.wrap ((x.i:Int)+1)))=(VI (x'.i:Int))/\True)/\b=b/\True)/\b.length-x'.i<b.length-x.i)) (K (.one (.at (.val (VU (xorI IntKind.u32 (if IntKind.u32.signed=true then -1 else IntKind.u32.max) x.c))))) [(.row false EC.u8 (b))] []))=_ by kernel_rfl) ?_
 subst hP hQ
 refine⟨⟨⟨0,_,Nat.zero_le _,rfl⟩,trivial,⟨trivial,?_,rfl,trivial⟩,rfl,trivial⟩,fun x _=>brS_of (fun z=>?_) fun z=>?_⟩
 ·rw[not_u32];rfl
 ·obtain⟨i,c1,hi,hc⟩:=x
  dsimp only at z ⊢
  have z:i<b.length:=by have:=of_decide_eq_true z;omega
  rw[show ((i:Int)).toNat=i from rfl]
  obtain⟨x0,x1⟩:=hb _ (getB_mem z)
  have yl:=(crX (b.take i) (~~~ BitVec.ofInt 32 c)).isLt
  have st:xorI .u32 c1 (IntKind.u32.wrap (getB b i))=((crX (b.take i) (~~~ BitVec.ofInt 32 c) ^^^ BitVec.ofInt 32 (getB b i)).toNat:Int):=by
   rw[wrap_u32 (by omega) (by omega),hc,xor32 (by omega) (by omega) (by omega) (by omega),BitVec.toNat_xor,toNat_of 32 x0 (by omega),Int.toNat_natCast]
  refine⟨by omega,by omega,⟨⟨i,0,_,z,Nat.zero_le _,_,rfl,?_⟩,rfl,⟨trivial,by rw[st],rfl,rfl,trivial⟩,rfl,trivial⟩,fun x1 e1=>brS_of (fun y=>?_) fun y=>?_⟩
  ·rw[take_getB z,crX_snoc]
  ·obtain⟨i',k,c2,hi',hk,v,hv,hw⟩:=x1
   dsimp only at y e1 ⊢
   obtain rfl:i=i':=by omega
   have y:k<8:=by have:=of_decide_eq_true y;omega
   have vl:=v.isLt
   have en:=stC_num v
   rw[← hv] at en
   have w1:c2.tmod 2=c2 % 2:=Int.tmod_eq_emod_of_nonneg (by omega)
   have w2:c2.tdiv 2=c2 / 2:=Int.tdiv_eq_ediv_of_nonneg (by omega)
   rw[w1,w2,wrap_u32 (x:=c2 / 2) (by omega) (by omega),wrap_id (x:=(k:Int)+1) (by omega) (by omega)]
   have hs:itC (8-(k+1)) (stC v)=crX (b.take (i+1)) (~~~ BitVec.ofInt 32 c):=by
    rw[← hw,show 8-k=(8-(k+1))+1 by omega];rfl
   refine brS_of (fun q=>?_) fun q=>?_
   ·have q:c2 % 2=1:=eq_of_beq q
    rw[if_pos q] at en
    exact⟨⟨i,k+1,_,z,y,stC v,en.symm,hs⟩,rfl,⟨⟨trivial,rfl,rfl,rfl,trivial⟩,rfl,trivial⟩,by show 8-(k+1)<8-k;omega⟩
   ·have q:¬ c2 % 2=1:=fun e=>by rw[e] at q;exact absurd q (by decide)
    rw[if_neg q] at en
    exact⟨⟨i,k+1,_,z,y,stC v,en.symm,hs⟩,rfl,⟨⟨trivial,rfl,rfl,rfl,trivial⟩,rfl,trivial⟩,by show 8-(k+1)<8-k;omega⟩
  ·obtain⟨i',k,c2,hi',hk,v,hv,hw⟩:=x1
   dsimp only at y e1 ⊢
   obtain rfl:i=i':=by omega
   obtain rfl:k=8:=by have:=of_decide_eq_false y;omega
   rw[wrap_id (x:=(i:Int)+1) (by omega) (by omega)]
   have hw:v=crX (b.take (i+1)) (~~~ BitVec.ofInt 32 c):=hw
   refine⟨⟨i+1,c2,z,by rw[hv,hw]⟩,trivial,⟨⟨trivial,rfl,rfl,trivial⟩,rfl,trivial⟩,Nat.sub_lt_sub_left z (Nat.lt_succ_self i)⟩
 ·obtain⟨i,c1,hi,hc⟩:=x
  dsimp only at z ⊢
  have z:i=b.length:=by have:=of_decide_eq_false z;omega
  rw[z,List.take_length] at hc
  refine h _ ?_
  rw[not_u32,hc,bv_num];rfl
theorem s_er:SoundT C0 118 tEx:=by
 refine .of Tryz.func118 (by decide) rfl fun args H K h hB=>?_
 unfold tEx at h
 split at h<;>try exact h.elim
 rename_i c b
 exact⟨aEr (PEx c b) (PEq c b) b,trivial,vc_er c b K h.2.2.1 h.2.2.2.1 h.2.2.2.2⟩
theorem vc_cr (b:List Int)(K:KT)(hb:allB b)(hl:b.length<=1000000000000)(h:∀ r,r=crc b->K (.one (.at (vU r))) [.row false EC.u8 b] []) :
  vc C0 aCr Tryz.f83 [.at (.slc 0)] [.row false EC.u8 b] (normK 1 K):=by
 refine Eq.mp (show ((0:Int)<=0/\(0:Int)<4294967296/\allB b/\b.length<=1000000000000/\∀ r:Int,r=exI 0 b->K (.one (.at (.val (VU (r))))) [(.row false EC.u8 (b))] [])=_ by kernel_rfl) ?_
 exact⟨by decide,by decide,hb,hl,fun r er=>h r (er.trans (exI_zero b))⟩
theorem s_cr:SoundT C0 83 tCk:=by
 refine .of Tryz.func83 (by decide) rfl fun args H K h hB=>?_
 unfold tCk at h
 split at h<;>try exact h.elim
 rename_i b
 exact⟨aCr,⟨frame C0.ok s_er _,trivial⟩,vc_cr b K h.1 h.2.1 h.2.2⟩
end Go.Proofs.YtedfbafngmicpaaGreat.Sx
end
section
/- The order of the free slots, and the arena's Dump. -/
/-KEEP exW inU Arn.cap Arn.free-/
namespace Go.Proofs.YtedfbafngmicpaaGreat.Sx
open Go

def upTo (fr:Int)(n:Nat):List Int:=(List.range n).map fun (k:Nat)=>fr+1+(k:Int)
def orderL (us:List Bool)(rl:List Int)(fr:Int):List Int:=rl.reverse++upTo fr ((us.length:Int)-1-fr).toNat
structure XOr1 (rl:List Int) where
 k:Nat
 h:k<=rl.length
structure XOr2 (us:List Bool) (fr:Int) where
 n:Nat
 h:n<=((us.length:Int)-1-fr).toNat
noncomputable def aOrder (us:List Bool)(gn rl:List Int)(fr:Int):Ann C0:={ Γ:=[(75,frameT [] tSlFree),(77,frameT [] tSlCap)],inv:=fun n=>match n with
 | 3=>some { X:=XOr1 rl,sl:=[4,3],tf:=fun x=>[vi .i64 ((x.k:Int)-1),.one (.at (.slc 4))],hf:=fun x=>slC us gn rl fr++[.row true EC.u32 (rl.drop x.k).reverse],μ:=fun x=>x.k }
 | 7=>some { X:=XOr2 us fr,sl:=[5,3],tf:=fun x=>[vi .i64 (fr+1+(x.n:Int)),.one (.at (.slc 4))],hf:=fun x=>slC us gn rl fr++[.row true EC.u32 (rl.reverse++upTo fr x.n)],μ:=fun x=>((us.length:Int)-1-fr).toNat-x.n }
 | _=>none }
def tOrder:Tfm C0:=fun args H K=>match args with
 | [.at (.ptr 0 0)]=>slM H fun us gn rl fr=>1<=us.length/\us.length<=65537/\rl.length<=65537/\0<=fr/\fr<=us.length-1/\∀ o:List Int,o=orderL us rl fr->K (.one (.at (.slc 4))) (slC us gn rl fr++[.row true EC.u32 o]) []
 | _=>False
def SlotT.zero:SlotT:=⟨false,0,0,NodeT.zero⟩
def slotAt (S:Arn)(k:Nat):SlotT:=⟨S.us ((k:Int)+1),if S.us ((k:Int)+1) then S.ct ((k:Int)+1) else 0,S.gn ((k:Int)+1),S.nd ((k:Int)+1)⟩
def ncap (S:Arn):Nat:=S.used.length-1
def slotsOf (S:Arn):List SlotT:=(List.range (ncap S)).map (slotAt S)
def orderOf (S:Arn):List Int:=orderL S.used S.rel S.fresh
structure XDu (S:Arn) where
 i:Nat
 h:i<=ncap S
def fillS (S:Arn)(i:Nat):List SlotT:=(List.range i).map (slotAt S)++List.replicate (ncap S-i) SlotT.zero
noncomputable def aDump (S:Arn):Ann C0:={ quiet:=[59,60,61,29],Γ:=[(29,frameT [] tCap),(58,frameT [] tOrder),(59,frameT [] tSlAllocated),(60,frameT [] tCount),(61,frameT [] tGen)],inv:=fun n=>match n with
 | 1002=>some { X:=Unit,sl:=[3,2],tf:=fun _=>[.one (.at (.ptr 7 0)),.one (.at (.ptr 10 0))],hf:=fun _=>chS S++[.box [.slc 8,.slc 9],.row true EC.slot (fillS S 0),.row true EC.u32 (orderOf S),.box [.slc 11,.slc 12],.row true EC.slot [],.row true EC.u32 []] }
 | 3=>some { X:=XDu S,sl:=[18,3,2],tf:=fun x=>[vi .i64 x.i,.one (.at (.ptr 7 0)),.one (.at (.ptr 10 0))],hf:=fun x=>chS S++[.box [.slc 8,.slc 9],.row true EC.slot (fillS S x.i),.row true EC.u32 (orderOf S),.box [.slc 11,.slc 12],.row true EC.slot [],.row true EC.u32 []],μ:=fun x=>ncap S-x.i }
 | _=>none }
def tDump:Tfm C0:=fun args H K=>match args with
 | [.at (.ptr 0 0)]=>arM H fun S=>exW S/\∀ (d:List SlotT) (o:List Int),d=slotsOf S->o=orderOf S->K (.one (.agg [.slc 7,.slc 8])) (chS S++[.row true EC.slot d,.row true EC.u32 o]) []
 | _=>False
theorem upTo_snoc (fr:Int)(n:Nat):upTo fr n++[fr+1+(n:Int)]=upTo fr (n+1):=by
 unfold upTo;rw[List.range_succ,List.map_append];rfl
theorem vc_order (us:List Bool)(gn rl:List Int)(fr:Int)(K:KT)(h1:1<=us.length)(h2:us.length<=65537)(h3:rl.length<=65537)(h4:0<=fr)(h5:fr<=us.length-1)(h:∀ o:List Int,o=orderL us rl fr->K (.one (.at (.slc 4))) (slC us gn rl fr++[.row true EC.u32 o]) []) :
  vc C0 (aOrder us gn rl fr) Tryz.f58 [.at (.ptr 0 0)] (slC us gn rl fr) (normK 4 K):=by
 refine Eq.mp (show (1<=us.length/\us.length<=65537/\rl.length<=65537/\0<=fr/\fr<=65537/\(0:Int)<=0/\0<=(rl.length:Int)+((us.length:Int)-1)-fr/\((rl.length:Int)+((us.length:Int)-1)-fr)*(↑(bytesOf C0 EC.u32):Int)<=140737488355328/\(∃ x:XOr1 rl,True/\(True/\True/\(VI (IntKind.i64.wrap ((rl.length:Int)-1)))=(VI ((x.k:Int)-1))/\True)/\(True/\True/\True/\VU (fr)=VU (fr)/\True)/\us=us/\gn=gn/\rl=rl/\[]=((List.drop x.k rl).reverse)/\True)/\∀ x:XOr1 rl,True->brS (decide ((x.k:Int)-1≥0)) (0<=(x.k:Int)-1/\(x.k:Int)-1<(rl.length:Int)/\((List.drop x.k rl).reverse.length+[rl.getD ((x.k:Int)-1).toNat 0].length)*bytesOf C0 EC.u32<=140737488355328/\∃ x':XOr1 rl,True/\((True/\True/\(VI (IntKind.i64.wrap ((x.k:Int)-1-1)))=(VI ((x'.k:Int)-1))/\True)/\(True/\True/\True/\VU (fr)=VU (fr)/\True)/\us=us/\gn=gn/\rl=rl/\((List.drop x.k rl).reverse++[rl.getD ((x.k:Int)-1).toNat 0])=((List.drop x'.k rl).reverse)/\True)/\x'.k<x.k) ((∃ x1:XOr2 us fr,True/\(True/\True/\(VI (IntKind.i64.wrap (IntKind.i64.wrap fr+1)))=(VI (fr+1+(x1.n:Int)))/\True)/\(True/\True/\True/\VU (fr)=VU (fr)/\True)/\us=us/\gn=gn/\rl=rl/\((List.drop x.k rl).reverse)=(rl.reverse++upTo fr x1.n)/\True)/\∀ x1:XOr2 us fr,True->1<=us.length/\us.length<=65537/\brS (decide (fr+1+(x1.n:Int)<=(us.length:Int)-1)) (((rl.reverse++upTo fr x1.n).length+[IntKind.u32.wrap (fr+1+(x1.n:Int))].length)*bytesOf C0 EC.u32<=140737488355328/\∃ x':XOr2 us fr,True/\((True/\True/\(VI (IntKind.i64.wrap (fr+1+(x1.n:Int)+1)))=(VI (fr+1+(x'.n:Int)))/\True)/\(True/\True/\True/\VU (fr)=VU (fr)/\
 True)/\us=us/\gn=gn/\rl=rl/\(rl.reverse++upTo fr x1.n++[IntKind.u32.wrap (fr+1+(x1.n:Int))])=(rl.reverse++upTo fr x'.n)/\True)/\((us.length:Int)-1-fr).toNat-x'.n<((us.length:Int)-1-fr).toNat-x1.n) (K (.one (.at (.slc 4))) [(.box [(.slc 1),(.slc 2),(.slc 3),(.val (VU (fr)))]),(.row true EC.bool (us)),(.row true EC.u32 (gn)),(.row true EC.u32 (rl)),(.row true EC.u32 (rl.reverse++upTo fr x1.n))] [])))=_ by kernel_rfl) ?_
 rw[bytes_u32]
 rw[wrap_id (x:=(rl.length:Int)-1) (by omega) (by omega),wrap_id (x:=fr) (by omega) (by omega),wrap_id (x:=fr+1) (by omega) (by omega)]
 refine⟨h1,h2,h3,h4,by omega,by decide,by omega,by omega,⟨⟨rl.length,Nat.le_refl _⟩,trivial,⟨trivial,trivial,rfl,trivial⟩,⟨trivial,trivial,trivial,rfl,trivial⟩,rfl,rfl,rfl,by simp,trivial⟩,fun x _=>brS_of (fun c=>?_) fun c=>?_⟩
 ·have c:1<=x.k:=by have:=of_decide_eq_true c;omega
  have hk:=x.h
  have hg:rl[x.k-1]?=some (rl.getD (x.k-1) 0):=by simp[List.getD_eq_getElem?_getD,List.getElem?_eq_getElem (show x.k-1<rl.length by omega)]
  rw[wrap_id (by omega) (by omega),show ((x.k:Int)-1).toNat=x.k-1 by omega]
  refine⟨by omega,by omega,?_,⟨x.k-1,by omega⟩,trivial,⟨⟨trivial,trivial,?_,trivial⟩,⟨trivial,trivial,trivial,rfl,trivial⟩,rfl,rfl,rfl,?_,trivial⟩,?_⟩
  ·simp;omega
  ·congr 1;show (x.k:Int)-1-1=((x.k-1:Nat):Int)-1;omega
  ·show _=(rl.drop (x.k-1)).reverse
   rw[drop_cons hg,List.reverse_cons,show x.k-1+1=x.k by omega]
  ·show x.k-1<x.k;omega
 ·have c:x.k=0:=by have:=of_decide_eq_false c;omega
  refine⟨⟨⟨0,Nat.zero_le _⟩,trivial,⟨trivial,trivial,by congr 1;show fr+1=fr+1+((0:Nat):Int);omega,trivial⟩,⟨trivial,trivial,trivial,rfl,trivial⟩,rfl,rfl,rfl,by rw[c];simp[upTo],trivial⟩,fun y _=>⟨h1,h2,brS_of (fun d=>?_) fun d=>?_⟩⟩
  ·have d:fr+1+(y.n:Int)<=us.length-1:=of_decide_eq_true d
   have hul:(upTo fr y.n).length=y.n:=by simp[upTo]
   rw[wrap_u32 (by omega) (by omega),wrap_id (by omega) (by omega)]
   refine⟨?_,⟨y.n+1,by omega⟩,trivial,⟨⟨trivial,trivial,?_,trivial⟩,⟨trivial,trivial,trivial,rfl,trivial⟩,rfl,rfl,rfl,?_,trivial⟩,?_⟩
   ·simp[hul];omega
   ·congr 1;show fr+1+(y.n:Int)+1=fr+1+((y.n+1:Nat):Int);omega
   ·show _=rl.reverse++upTo fr (y.n+1)
    rw[← upTo_snoc,List.append_assoc]
   ·show _-(y.n+1)<_;omega
  ·have d:¬ fr+1+(y.n:Int)<=us.length-1:=of_decide_eq_false d
   have hn:y.n=((us.length:Int)-1-fr).toNat:=by have:=y.h;omega
   exact h _ (by unfold orderL;rw[hn])
theorem s_order:SoundT C0 58 tOrder:=by
 refine .of Tryz.func58 (by decide) rfl fun args H K h hB=>?_
 unfold tOrder at h
 split at h<;>try exact h.elim
 unfold slM at h
 split at h<;>try exact h.elim
 rename_i fr us gn rl
 obtain⟨h1,h2,h3,h4,h5,h6⟩:=h
 exact⟨aOrder us gn rl fr,⟨frame C0.ok s_slFree _,frame C0.ok s_slCap _,trivial⟩,vc_order us gn rl fr K h1 h2 h3 h4 h5 h6⟩
theorem fill_zero (S:Arn):List.replicate (ncap S) SlotT.zero=fillS S 0:=by simp[fillS]
theorem fill_len (S:Arn)(i:Nat)(h:i<=ncap S):(fillS S i).length=ncap S:=by simp[fillS];omega
theorem fill_next (S:Arn){i:Nat}(h:i<ncap S):(fillS S i).set i (slotAt S i)=fillS S (i+1):=by
 unfold fillS
 obtain⟨m,hm⟩:∃ m,ncap S-i=m+1:=⟨ncap S-i-1,by omega⟩
 rw[hm,show ncap S-(i+1)=m by omega,List.range_succ,List.map_append,List.replicate_succ,List.set_append_right _ _ (by simp)]
 simp
theorem fill_all (S:Arn):fillS S (ncap S)=slotsOf S:=by simp[fillS,slotsOf]
theorem vc_dump (S:Arn)(K:KT)(hw:exW S)(h:∀ (d:List SlotT) (o:List Int),d=slotsOf S->o=orderOf S->K (.one (.agg [.slc 7,.slc 8])) (chS S++[.row true EC.slot d,.row true EC.u32 o]) []) :
  vc C0 (aDump S) Tryz.f17 [.at (.ptr 0 0)] (chS S) (normK 7 K):=by
 refine Eq.mp (show (((exW S/\(0<=S.cap/\S.cap<=S.cap/\S.cap*(↑(bytesOf C0 EC.slot):Int)<=140737488355328/\((1<=S.used.length/\S.used.length<=65537/\S.rel.length<=65537/\0<=S.fresh/\S.fresh<=(S.used.length:Int)-1/\∀ o:List Int,o=orderL S.used S.rel S.fresh->∃ x:Unit,True/\(True/\True/\True/\True)/\(True/\True/\True/\VW (S.reads)=VW (S.reads)/\True)/\(True/\True/\True/\VU (S.fresh)=VU (S.fresh)/\True)/\S.nodes=S.nodes/\S.counts=S.counts/\S.used=S.used/\S.gen=S.gen/\S.rel=S.rel/\(True/\True/\True)/\List.replicate S.cap.toNat SlotT.zero=fillS S 0/\o=orderOf S/\(True/\True/\True)/\([]:List SlotT)=[]/\([]:List Int)=[]/\True)/\1<=S.used.length/\S.used.length<=65537/\S.rel.length<=65537/\0<=S.fresh/\S.fresh<=(S.used.length:Int)-1/\∀ o:List Int,o=orderL S.used S.rel S.fresh->∃ x:Unit,True/\(True/\True/\True/\True)/\(True/\True/\True/\VW (S.reads)=VW (S.reads)/\True)/\(True/\True/\True/\VU (S.fresh)=VU (S.fresh)/\True)/\S.nodes=S.nodes/\S.counts=S.counts/\S.used=S.used/\S.gen=S.gen/\S.rel=S.rel/\(True/\True/\True)/\List.replicate S.cap.toNat SlotT.zero=fillS S 0/\o=orderOf S/\(True/\True/\True)/\([]:List SlotT)=[]/\([]:List Int)=[]/\True)/\1<=S.used.length/\S.used.length<=65537/\S.rel.length<=65537/\0<=S.fresh/\S.fresh<=(S.used.length:Int)-1/\∀ o:List Int,o=orderL S.used S.rel S.fresh->∃ x:Unit,True/\(True/\True/\True/\True)/\(True/\True/\True/\VW (S.reads)=VW (S.reads)/\True)/\(True/\True/\True/\VU (S.fresh)=VU (S.fresh)/\True)/\S.nodes=S.nodes/\S.counts=S.counts/\S.used=S.used/\S.gen=S.gen/\S.rel=S.rel/\
 (True/\True/\True)/\List.replicate S.cap.toNat SlotT.zero=fillS S 0/\o=orderOf S/\(True/\True/\True)/\([]:List SlotT)=[]/\([]:List Int)=[]/\True)/\((0<=S.cap/\S.cap<=S.cap/\S.cap*(↑(bytesOf C0 EC.slot):Int)<=140737488355328/\(1<=S.used.length/\S.used.length<=65537/\S.rel.length<=65537/\0<=S.fresh/\S.fresh<=(S.used.length:Int)-1/\∀ o:List Int,o=orderL S.used S.rel S.fresh->∃ x:Unit,True/\(True/\True/\True/\True)/\(True/\True/\True/\VW (S.reads)=VW (S.reads)/\True)/\(True/\True/\True/\VU (S.fresh)=VU (S.fresh)/\True)/\S.nodes=S.nodes/\S.counts=S.counts/\S.used=S.used/\S.gen=S.gen/\S.rel=S.rel/\(True/\True/\True)/\List.replicate S.cap.toNat SlotT.zero=fillS S 0/\o=orderOf S/\(True/\True/\True)/\([]:List SlotT)=[]/\([]:List Int)=[]/\True)/\1<=S.used.length/\S.used.length<=65537/\S.rel.length<=65537/\0<=S.fresh/\S.fresh<=(S.used.length:Int)-1/\∀ o:List Int,o=orderL S.used S.rel S.fresh->∃ x:Unit,True/\(True/\True/\True/\True)/\(True/\True/\True/\VW (S.reads)=VW (S.reads)/\True)/\(True/\True/\True/\VU (S.fresh)=VU (S.fresh)/\True)/\S.nodes=S.nodes/\S.counts=S.counts/\S.used=S.used/\S.gen=S.gen/\S.rel=S.rel/\(True/\True/\True)/\List.replicate S.cap.toNat SlotT.zero=fillS S 0/\o=orderOf S/\(True/\True/\True)/\([]:List SlotT)=[]/\([]:List Int)=[]/\True)/\(1<=S.used.length/\S.used.length<=65537/\S.rel.length<=65537/\0<=S.fresh/\S.fresh<=(S.used.length:Int)-1/\∀ o:List Int,o=orderL S.used S.rel S.fresh->(0<=S.cap/\S.cap<=S.cap/\S.cap*(↑(bytesOf C0 EC.slot):Int)<=140737488355328/\∃ x:Unit,True/\
 (True/\True/\True/\True)/\(True/\True/\True/\VW (S.reads)=VW (S.reads)/\True)/\(True/\True/\True/\VU (S.fresh)=VU (S.fresh)/\True)/\S.nodes=S.nodes/\S.counts=S.counts/\S.used=S.used/\S.gen=S.gen/\S.rel=S.rel/\(True/\True/\True)/\List.replicate S.cap.toNat SlotT.zero=fillS S 0/\o=orderOf S/\(True/\True/\True)/\([]:List SlotT)=[]/\([]:List Int)=[]/\True)/\0<=S.cap/\S.cap<=S.cap/\S.cap*(↑(bytesOf C0 EC.slot):Int)<=140737488355328/\∃ x:Unit,True/\(True/\True/\True/\True)/\(True/\True/\True/\VW (S.reads)=VW (S.reads)/\True)/\(True/\True/\True/\VU (S.fresh)=VU (S.fresh)/\True)/\S.nodes=S.nodes/\S.counts=S.counts/\S.used=S.used/\S.gen=S.gen/\S.rel=S.rel/\(True/\True/\True)/\List.replicate S.cap.toNat SlotT.zero=fillS S 0/\o=orderOf S/\(True/\True/\True)/\([]:List SlotT)=[]/\([]:List Int)=[]/\True)/\(0<=S.cap/\S.cap<=S.cap/\S.cap*(↑(bytesOf C0 EC.slot):Int)<=140737488355328/\1<=S.used.length/\S.used.length<=65537/\S.rel.length<=65537/\0<=S.fresh/\S.fresh<=(S.used.length:Int)-1/\∀ o:List Int,o=orderL S.used S.rel S.fresh->∃ x:Unit,True/\(True/\True/\True/\True)/\(True/\True/\True/\VW (S.reads)=VW (S.reads)/\True)/\(True/\True/\True/\VU (S.fresh)=VU (S.fresh)/\True)/\S.nodes=S.nodes/\S.counts=S.counts/\S.used=S.used/\S.gen=S.gen/\S.rel=S.rel/\(True/\True/\True)/\List.replicate S.cap.toNat SlotT.zero=fillS S 0/\o=orderOf S/\(True/\True/\True)/\([]:List SlotT)=[]/\([]:List Int)=[]/\True)/\1<=S.used.length/\S.used.length<=65537/\S.rel.length<=65537/\0<=S.fresh/\S.fresh<=(S.used.length:Int)-1/\
 ∀ o:List Int,o=orderL S.used S.rel S.fresh->0<=S.cap/\S.cap<=S.cap/\S.cap*(↑(bytesOf C0 EC.slot):Int)<=140737488355328/\∃ x:Unit,True/\(True/\True/\True/\True)/\(True/\True/\True/\VW (S.reads)=VW (S.reads)/\True)/\(True/\True/\True/\VU (S.fresh)=VU (S.fresh)/\True)/\S.nodes=S.nodes/\S.counts=S.counts/\S.used=S.used/\S.gen=S.gen/\S.rel=S.rel/\(True/\True/\True)/\List.replicate S.cap.toNat SlotT.zero=fillS S 0/\o=orderOf S/\(True/\True/\True)/\([]:List SlotT)=[]/\([]:List Int)=[]/\True)/\(0<=S.cap/\S.cap<=S.cap/\S.cap*(↑(bytesOf C0 EC.slot):Int)<=140737488355328/\1<=S.used.length/\S.used.length<=65537/\S.rel.length<=65537/\0<=S.fresh/\S.fresh<=(S.used.length:Int)-1/\∀ o:List Int,o=orderL S.used S.rel S.fresh->∃ x:Unit,True/\(True/\True/\True/\True)/\(True/\True/\True/\VW (S.reads)=VW (S.reads)/\True)/\(True/\True/\True/\VU (S.fresh)=VU (S.fresh)/\True)/\S.nodes=S.nodes/\S.counts=S.counts/\S.used=S.used/\S.gen=S.gen/\S.rel=S.rel/\(True/\True/\True)/\List.replicate S.cap.toNat SlotT.zero=fillS S 0/\o=orderOf S/\(True/\True/\True)/\([]:List SlotT)=[]/\([]:List Int)=[]/\True)/\(0<=S.cap/\S.cap<=S.cap/\S.cap*(↑(bytesOf C0 EC.slot):Int)<=140737488355328/\1<=S.used.length/\S.used.length<=65537/\S.rel.length<=65537/\0<=S.fresh/\S.fresh<=(S.used.length:Int)-1/\∀ o:List Int,o=orderL S.used S.rel S.fresh->∃ x:Unit,True/\(True/\True/\True/\True)/\(True/\True/\True/\VW (S.reads)=VW (S.reads)/\True)/\(True/\True/\True/\VU (S.fresh)=VU (S.fresh)/\True)/\S.nodes=S.nodes/\S.counts=S.counts/\S.used=S.used/\
 S.gen=S.gen/\S.rel=S.rel/\(True/\True/\True)/\List.replicate S.cap.toNat SlotT.zero=fillS S 0/\o=orderOf S/\(True/\True/\True)/\([]:List SlotT)=[]/\([]:List Int)=[]/\True)/\1<=S.used.length/\S.used.length<=65537/\S.rel.length<=65537/\0<=S.fresh/\S.fresh<=(S.used.length:Int)-1/\∀ o:List Int,o=orderL S.used S.rel S.fresh->0<=S.cap/\S.cap<=S.cap/\S.cap*(↑(bytesOf C0 EC.slot):Int)<=140737488355328/\∃ x:Unit,True/\(True/\True/\True/\True)/\(True/\True/\True/\VW (S.reads)=VW (S.reads)/\True)/\(True/\True/\True/\VU (S.fresh)=VU (S.fresh)/\True)/\S.nodes=S.nodes/\S.counts=S.counts/\S.used=S.used/\S.gen=S.gen/\S.rel=S.rel/\(True/\True/\True)/\List.replicate S.cap.toNat SlotT.zero=fillS S 0/\o=orderOf S/\(True/\True/\True)/\([]:List SlotT)=[]/\([]:List Int)=[]/\True)/\((exW S/\(0<=S.cap/\S.cap<=S.cap/\S.cap*(↑(bytesOf C0 EC.slot):Int)<=140737488355328/\(1<=S.used.length/\S.used.length<=65537/\S.rel.length<=65537/\0<=S.fresh/\S.fresh<=(S.used.length:Int)-1/\∀ o:List Int,o=orderL S.used S.rel S.fresh->∃ x:Unit,True/\(True/\True/\True/\True)/\(True/\True/\True/\VW (S.reads)=VW (S.reads)/\True)/\(True/\True/\True/\VU (S.fresh)=VU (S.fresh)/\True)/\S.nodes=S.nodes/\S.counts=S.counts/\S.used=S.used/\S.gen=S.gen/\S.rel=S.rel/\(True/\True/\True)/\List.replicate S.cap.toNat SlotT.zero=fillS S 0/\o=orderOf S/\(True/\True/\True)/\([]:List SlotT)=[]/\([]:List Int)=[]/\True)/\1<=S.used.length/\S.used.length<=65537/\S.rel.length<=65537/\0<=S.fresh/\S.fresh<=(S.used.length:Int)-1/\∀ o:List Int,o=orderL S.used S.rel S.fresh->∃ x:Unit,True/\
 (True/\True/\True/\True)/\(True/\True/\True/\VW (S.reads)=VW (S.reads)/\True)/\(True/\True/\True/\VU (S.fresh)=VU (S.fresh)/\True)/\S.nodes=S.nodes/\S.counts=S.counts/\S.used=S.used/\S.gen=S.gen/\S.rel=S.rel/\(True/\True/\True)/\List.replicate S.cap.toNat SlotT.zero=fillS S 0/\o=orderOf S/\(True/\True/\True)/\([]:List SlotT)=[]/\([]:List Int)=[]/\True)/\(1<=S.used.length/\S.used.length<=65537/\S.rel.length<=65537/\0<=S.fresh/\S.fresh<=(S.used.length:Int)-1/\∀ o:List Int,o=orderL S.used S.rel S.fresh->(0<=S.cap/\S.cap<=S.cap/\S.cap*(↑(bytesOf C0 EC.slot):Int)<=140737488355328/\∃ x:Unit,True/\(True/\True/\True/\True)/\(True/\True/\True/\VW (S.reads)=VW (S.reads)/\True)/\(True/\True/\True/\VU (S.fresh)=VU (S.fresh)/\True)/\S.nodes=S.nodes/\S.counts=S.counts/\S.used=S.used/\S.gen=S.gen/\S.rel=S.rel/\(True/\True/\True)/\List.replicate S.cap.toNat SlotT.zero=fillS S 0/\o=orderOf S/\(True/\True/\True)/\([]:List SlotT)=[]/\([]:List Int)=[]/\True)/\0<=S.cap/\S.cap<=S.cap/\S.cap*(↑(bytesOf C0 EC.slot):Int)<=140737488355328/\∃ x:Unit,True/\(True/\True/\True/\True)/\(True/\True/\True/\VW (S.reads)=VW (S.reads)/\True)/\(True/\True/\True/\VU (S.fresh)=VU (S.fresh)/\True)/\S.nodes=S.nodes/\S.counts=S.counts/\S.used=S.used/\S.gen=S.gen/\S.rel=S.rel/\(True/\True/\True)/\List.replicate S.cap.toNat SlotT.zero=fillS S 0/\o=orderOf S/\(True/\True/\True)/\([]:List SlotT)=[]/\([]:List Int)=[]/\True)/\(0<=S.cap/\S.cap<=S.cap/\S.cap*(↑(bytesOf C0 EC.slot):Int)<=140737488355328/\1<=S.used.length/\S.used.length<=65537/\
 S.rel.length<=65537/\0<=S.fresh/\S.fresh<=(S.used.length:Int)-1/\∀ o:List Int,o=orderL S.used S.rel S.fresh->∃ x:Unit,True/\(True/\True/\True/\True)/\(True/\True/\True/\VW (S.reads)=VW (S.reads)/\True)/\(True/\True/\True/\VU (S.fresh)=VU (S.fresh)/\True)/\S.nodes=S.nodes/\S.counts=S.counts/\S.used=S.used/\S.gen=S.gen/\S.rel=S.rel/\(True/\True/\True)/\List.replicate S.cap.toNat SlotT.zero=fillS S 0/\o=orderOf S/\(True/\True/\True)/\([]:List SlotT)=[]/\([]:List Int)=[]/\True)/\1<=S.used.length/\S.used.length<=65537/\S.rel.length<=65537/\0<=S.fresh/\S.fresh<=(S.used.length:Int)-1/\∀ o:List Int,o=orderL S.used S.rel S.fresh->0<=S.cap/\S.cap<=S.cap/\S.cap*(↑(bytesOf C0 EC.slot):Int)<=140737488355328/\∃ x:Unit,True/\(True/\True/\True/\True)/\(True/\True/\True/\VW (S.reads)=VW (S.reads)/\True)/\(True/\True/\True/\VU (S.fresh)=VU (S.fresh)/\True)/\S.nodes=S.nodes/\S.counts=S.counts/\S.used=S.used/\S.gen=S.gen/\S.rel=S.rel/\(True/\True/\True)/\List.replicate S.cap.toNat SlotT.zero=fillS S 0/\o=orderOf S/\(True/\True/\True)/\([]:List SlotT)=[]/\([]:List Int)=[]/\True)/\exW S/\(0<=S.cap/\S.cap<=S.cap/\S.cap*(↑(bytesOf C0 EC.slot):Int)<=140737488355328/\1<=S.used.length/\S.used.length<=65537/\S.rel.length<=65537/\0<=S.fresh/\S.fresh<=(S.used.length:Int)-1/\∀ o:List Int,o=orderL S.used S.rel S.fresh->∃ x:Unit,True/\(True/\True/\True/\True)/\(True/\True/\True/\VW (S.reads)=VW (S.reads)/\True)/\(True/\True/\True/\VU (S.fresh)=VU (S.fresh)/\True)/\S.nodes=S.nodes/\S.counts=S.counts/\S.used=S.used/\
 S.gen=S.gen/\S.rel=S.rel/\(True/\True/\True)/\List.replicate S.cap.toNat SlotT.zero=fillS S 0/\o=orderOf S/\(True/\True/\True)/\([]:List SlotT)=[]/\([]:List Int)=[]/\True)/\1<=S.used.length/\S.used.length<=65537/\S.rel.length<=65537/\0<=S.fresh/\S.fresh<=(S.used.length:Int)-1/\∀ o:List Int,o=orderL S.used S.rel S.fresh->0<=S.cap/\S.cap<=S.cap/\S.cap*(↑(bytesOf C0 EC.slot):Int)<=140737488355328/\∃ x:Unit,True/\(True/\True/\True/\True)/\(True/\True/\True/\VW (S.reads)=VW (S.reads)/\True)/\(True/\True/\True/\VU (S.fresh)=VU (S.fresh)/\True)/\S.nodes=S.nodes/\S.counts=S.counts/\S.used=S.used/\S.gen=S.gen/\S.rel=S.rel/\(True/\True/\True)/\List.replicate S.cap.toNat SlotT.zero=fillS S 0/\o=orderOf S/\(True/\True/\True)/\([]:List SlotT)=[]/\([]:List Int)=[]/\True)/\(exW S/\(0<=S.cap/\S.cap<=S.cap/\S.cap*(↑(bytesOf C0 EC.slot):Int)<=140737488355328/\1<=S.used.length/\S.used.length<=65537/\S.rel.length<=65537/\0<=S.fresh/\S.fresh<=(S.used.length:Int)-1/\∀ o:List Int,o=orderL S.used S.rel S.fresh->∃ x:Unit,True/\(True/\True/\True/\True)/\(True/\True/\True/\VW (S.reads)=VW (S.reads)/\True)/\(True/\True/\True/\VU (S.fresh)=VU (S.fresh)/\True)/\S.nodes=S.nodes/\S.counts=S.counts/\S.used=S.used/\S.gen=S.gen/\S.rel=S.rel/\(True/\True/\True)/\List.replicate S.cap.toNat SlotT.zero=fillS S 0/\o=orderOf S/\(True/\True/\True)/\([]:List SlotT)=[]/\([]:List Int)=[]/\True)/\(0<=S.cap/\S.cap<=S.cap/\S.cap*(↑(bytesOf C0 EC.slot):Int)<=140737488355328/\1<=S.used.length/\S.used.length<=65537/\S.rel.length<=65537/\
 0<=S.fresh/\S.fresh<=(S.used.length:Int)-1/\∀ o:List Int,o=orderL S.used S.rel S.fresh->∃ x:Unit,True/\(True/\True/\True/\True)/\(True/\True/\True/\VW (S.reads)=VW (S.reads)/\True)/\(True/\True/\True/\VU (S.fresh)=VU (S.fresh)/\True)/\S.nodes=S.nodes/\S.counts=S.counts/\S.used=S.used/\S.gen=S.gen/\S.rel=S.rel/\(True/\True/\True)/\List.replicate S.cap.toNat SlotT.zero=fillS S 0/\o=orderOf S/\(True/\True/\True)/\([]:List SlotT)=[]/\([]:List Int)=[]/\True)/\1<=S.used.length/\S.used.length<=65537/\S.rel.length<=65537/\0<=S.fresh/\S.fresh<=(S.used.length:Int)-1/\∀ o:List Int,o=orderL S.used S.rel S.fresh->0<=S.cap/\S.cap<=S.cap/\S.cap*(↑(bytesOf C0 EC.slot):Int)<=140737488355328/\∃ x:Unit,True/\(True/\True/\True/\True)/\(True/\True/\True/\VW (S.reads)=VW (S.reads)/\True)/\(True/\True/\True/\VU (S.fresh)=VU (S.fresh)/\True)/\S.nodes=S.nodes/\S.counts=S.counts/\S.used=S.used/\S.gen=S.gen/\S.rel=S.rel/\(True/\True/\True)/\List.replicate S.cap.toNat SlotT.zero=fillS S 0/\o=orderOf S/\(True/\True/\True)/\([]:List SlotT)=[]/\([]:List Int)=[]/\True)/\exW S/\(0<=S.cap/\S.cap<=S.cap/\S.cap*(↑(bytesOf C0 EC.slot):Int)<=140737488355328/\1<=S.used.length/\S.used.length<=65537/\S.rel.length<=65537/\0<=S.fresh/\S.fresh<=(S.used.length:Int)-1/\∀ o:List Int,o=orderL S.used S.rel S.fresh->∃ x:Unit,True/\(True/\True/\True/\True)/\(True/\True/\True/\VW (S.reads)=VW (S.reads)/\True)/\(True/\True/\True/\VU (S.fresh)=VU (S.fresh)/\True)/\S.nodes=S.nodes/\S.counts=S.counts/\S.used=S.used/\S.gen=S.gen/\S.rel=S.rel/\
 (True/\True/\True)/\List.replicate S.cap.toNat SlotT.zero=fillS S 0/\o=orderOf S/\(True/\True/\True)/\([]:List SlotT)=[]/\([]:List Int)=[]/\True)/\1<=S.used.length/\S.used.length<=65537/\S.rel.length<=65537/\0<=S.fresh/\S.fresh<=(S.used.length:Int)-1/\∀ o:List Int,o=orderL S.used S.rel S.fresh->0<=S.cap/\S.cap<=S.cap/\S.cap*(↑(bytesOf C0 EC.slot):Int)<=140737488355328/\∃ x:Unit,True/\(True/\True/\True/\True)/\(True/\True/\True/\VW (S.reads)=VW (S.reads)/\True)/\(True/\True/\True/\VU (S.fresh)=VU (S.fresh)/\True)/\S.nodes=S.nodes/\S.counts=S.counts/\S.used=S.used/\S.gen=S.gen/\S.rel=S.rel/\(True/\True/\True)/\List.replicate S.cap.toNat SlotT.zero=fillS S 0/\o=orderOf S/\(True/\True/\True)/\([]:List SlotT)=[]/\([]:List Int)=[]/\True)/\∀ x:Unit,True->(∃ x1:XDu S,True/\(True/\True/\True/\(VI ((↑(fillS S 0).length:Int)))=(VI ((↑(fillS S 0).length:Int)))/\VI 0=(VI (x1.i:Int))/\True)/\(True/\True/\True/\VW (S.reads)=VW (S.reads)/\True)/\(True/\True/\True/\VU (S.fresh)=VU (S.fresh)/\True)/\S.nodes=S.nodes/\S.counts=S.counts/\S.used=S.used/\S.gen=S.gen/\S.rel=S.rel/\(True/\True/\True)/\fillS S 0=fillS S x1.i/\orderOf S=orderOf S/\(True/\True/\True)/\([]:List SlotT)=[]/\([]:List Int)=[]/\True)/\∀ x1:XDu S,True->brS (decide ((x1.i:Int)<(↑(fillS S 0).length:Int))) (0<=IntKind.u32.wrap (IntKind.i64.wrap ((x1.i:Int)+1))/\IntKind.u32.wrap (IntKind.i64.wrap ((x1.i:Int)+1))<(S.nodes.length:Int)/\0<=IntKind.u32.wrap (IntKind.i64.wrap ((x1.i:Int)+1))/\IntKind.u32.wrap (IntKind.i64.wrap ((x1.i:Int)+1))<4294967296/\
 S.used.length<=65537/\inU (IntKind.u32.wrap (IntKind.i64.wrap ((x1.i:Int)+1)))/\exW S/\inU (IntKind.u32.wrap (IntKind.i64.wrap ((x1.i:Int)+1)))/\exW S/\0<=(x1.i:Int)/\(x1.i:Int)<(↑(fillS S x1.i).length:Int)/\∃ x':XDu S,True/\((True/\True/\True/\(VI ((↑(fillS S 0).length:Int)))=(VI ((↑(fillS S 0).length:Int)))/\(VI (IntKind.i64.wrap ((x1.i:Int)+1)))=(VI (x'.i:Int))/\True)/\(True/\True/\True/\VW (S.reads)=VW (S.reads)/\True)/\(True/\True/\True/\VU (S.fresh)=VU (S.fresh)/\True)/\S.nodes=S.nodes/\S.counts=S.counts/\S.used=S.used/\S.gen=S.gen/\S.rel=S.rel/\(True/\True/\True)/\((fillS S x1.i).set (x1.i:Int).toNat { alloc:=S.us (IntKind.u32.wrap (IntKind.i64.wrap ((x1.i:Int)+1))),count:=if S.us (IntKind.u32.wrap (IntKind.i64.wrap ((x1.i:Int)+1)))=true then S.ct (IntKind.u32.wrap (IntKind.i64.wrap ((x1.i:Int)+1))) else 0,gen:=S.gn (IntKind.u32.wrap (IntKind.i64.wrap ((x1.i:Int)+1))),node:=S.nd (IntKind.u32.wrap (IntKind.i64.wrap ((x1.i:Int)+1))):SlotT })=fillS S x'.i/\orderOf S=orderOf S/\(True/\True/\True)/\([]:List SlotT)=[]/\([]:List Int)=[]/\True)/\ncap S-x'.i<ncap S-x1.i) (K (.one (TV.agg [(.slc 7),(.slc 8)])) [(.box [(.ptr 1 0),(.slc 2),(.slc 3),(.val (VW (S.reads)))]),(.box [(.slc 4),(.slc 5),(.slc 6),(.val (VU (S.fresh)))]),(.row true EC.node (S.nodes)),(.row true EC.int (S.counts)),(.row true EC.bool (S.used)),(.row true EC.u32 (S.gen)),(.row true EC.u32 (S.rel)),(.row true EC.slot (fillS S x1.i)),(.row true EC.u32 (orderOf S))] []))=_ by kernel_rfl) ?_
 rw[bytes_slot]
 have hw0:=hw
 obtain⟨hs,hw⟩:=hw
 have hn1:=hw.n1;have hn2:=hw.n2;have hnn:=hw.nnod;have hfr:=hw.fr;have hfree:=hw.free_nonneg
 have hcap:S.cap=(ncap S:Int):=by unfold Arn.cap ncap;omega
 have hc1:(ncap S:Int)+1=S.used.length:=by unfold ncap;omega
 have z1:List.replicate S.cap.toNat SlotT.zero=fillS S 0:=by rw[hcap,← fill_zero];rfl
 refine⟨?_,fun x _=>⟨⟨⟨0,Nat.zero_le _⟩,?_⟩,fun y _=>brS_of (fun c=>?_) fun c=>?_⟩⟩
 ·(repeat' first|exact trivial|exact hw0|exact z1|assumption|exact rfl|omega|refine And.intro ?_ ?_|refine fun o ho=>?_|refine⟨(),?_⟩)
 ·(repeat' first|exact trivial|exact rfl|refine And.intro ?_ ?_)
 ·rw[fill_len S 0 (Nat.zero_le _)] at c
  have c:y.i<ncap S:=by have:=of_decide_eq_true c;omega
  rw[wrap_id (x:=(y.i:Int)+1) (by omega) (by omega),wrap_u32 (by omega) (by omega)]
  refine⟨by omega,by omega,by omega,by omega,hn2,⟨by omega,by omega⟩,hw0,⟨by omega,by omega⟩,hw0,by omega,by rw[fill_len S y.i y.h];omega,⟨y.i+1,c⟩,trivial,⟨⟨trivial,trivial,trivial,rfl,by congr 1,trivial⟩,⟨trivial,trivial,trivial,rfl,trivial⟩,⟨trivial,trivial,trivial,rfl,trivial⟩,rfl,rfl,rfl,rfl,rfl,⟨trivial,trivial,trivial⟩,fill_next S c,rfl,⟨trivial,trivial,trivial⟩,rfl,rfl,trivial⟩,?_⟩
  show ncap S-(y.i+1)<_;omega
 ·rw[fill_len S 0 (Nat.zero_le _)] at c
  have c:y.i=ncap S:=by have:=of_decide_eq_false c;have:=y.h;omega
  exact h _ _ (by rw[c,fill_all]) rfl
theorem s_dump:SoundT C0 17 tDump:=by
 refine .of Tryz.func17 (by decide) rfl fun args H K h hB=>?_
 unfold tDump at h
 split at h<;>try exact h.elim
 unfold arM at h
 split at h<;>try exact h.elim
 rename_i rd fr nd ct us gn rl
 exact⟨aDump ⟨us,gn,rl,fr,nd,ct,rd⟩,⟨frame C0.ok s_cap _,frame C0.ok s_order _,frame C0.ok s_slAllocated _,frame C0.ok s_count _,frame C0.ok s_gen _,trivial⟩,vc_dump ⟨us,gn,rl,fr,nd,ct,rd⟩ K h.1 h.2⟩
end Go.Proofs.YtedfbafngmicpaaGreat.Sx
end
section
/- A dump's allocated slots, edges, marks; the reference's Check; Sound. -/
namespace Go.Proofs.YtedfbafngmicpaaGreat.Sx
open Go

/-KEEP Wf exW inU allU Arn.cap Arn.free alcD cntL kidsL slotsOf orderOf MarksR CleanD kidsU-/
def alcD (d:List SlotT)(i:Int):Bool:=decide (1<=i) && (decide (i<=(d.length:Int)) && (d.getD (i-1).toNat SlotT.zero).alloc)
def mkd (m:List Bool)(i:Int):Prop:=1<=i/\m.getD (i-1).toNat false=true
def sltD (d:List SlotT)(i:Int):SlotT:=d.getD (i-1).toNat SlotT.zero
abbrev eS (d:List SlotT)(i:Nat):SlotT:=d.getD i SlotT.zero
structure MarksR (d:List SlotT) (roots:List Int) (m:List Bool):Prop where
 len:m.length=d.length
 root:∀ i∈roots,alcD d i=true->mkd m i
 left:∀ i,mkd m i->alcD d (sltD d i).node.left=true->mkd m (sltD d i).node.left
 right:∀ i,mkd m i->alcD d (sltD d i).node.right=true->mkd m (sltD d i).node.right
def tAlc:Tfm C0:=fun args H K=>match args,H with
 | [.agg [.slc 0,.slc 1],.at (.val (.int .u32 i))],[.row false .slot d,.row false .u32 fl]=>inU i/\d.length<=1000000/\K (.one (.at (vB (alcD d i)))) [.row false EC.slot d,.row false EC.u32 fl] []
 | _,_=>False
structure XIx (n:Nat) where
 i:Nat
 h:i<=n
theorem alcD_at {d:List SlotT}{i:Int}(h1:1<=i)(h2:i<=(d.length:Int)):alcD d i=(d.getD (i-1).toNat SlotT.zero).alloc:=by simp[alcD,h1,h2]
theorem alcD_lo {d:List SlotT}{i:Int}(h:¬ 1<=i):alcD d i=false:=by simp[alcD,h]
theorem alcD_hi {d:List SlotT}{i:Int}(h:¬ i<=(d.length:Int)):alcD d i=false:=by simp[alcD,h]
theorem alcD_rng {d:List SlotT}{i:Int}(h:alcD d i=true):1<=i/\i<=(d.length:Int):=by simp[alcD] at h;exact⟨h.1,h.2.1⟩
theorem vc_alc (d:List SlotT)(fl:List Int)(i:Int)(K:KT)(h1:inU i)(h2:d.length<=1000000)(h:K (.one (.at (vB (alcD d i)))) [.row false EC.slot d,.row false EC.u32 fl] []) :
  vc C0 A0 Tryz.f108 [.agg [.slc 0,.slc 1],.at (vU i)] [.row false EC.slot d,.row false EC.u32 fl] (normK 2 K):=by
 refine Eq.mp (show (brS (decide (i≥1)) (brS (decide (IntKind.u64.wrap i<=IntKind.u64.wrap (d.length:Int))) (0<=IntKind.u32.wrap (i-1)/\IntKind.u32.wrap (i-1)<(d.length:Int)/\K (.one (.at (.val (Value.bool ((d.getD (IntKind.u32.wrap (i-1)).toNat SlotT.zero).alloc))))) [(.row false EC.slot (d)),(.row false EC.u32 (fl))] []) (K (.one (.at (.val (Value.bool false)))) [(.row false EC.slot (d)),(.row false EC.u32 (fl))] [])) (K (.one (.at (.val (Value.bool false)))) [(.row false EC.slot (d)),(.row false EC.u32 (fl))] []))=_ by kernel_rfl) ?_
 obtain⟨ha,hb⟩:=h1
 rw[wrap_u64 (x:=i) ha (by omega),wrap_u64 (x:=(d.length:Int)) (by omega) (by omega)]
 refine brS_of (fun c=>?_) fun c=>?_
 ·have c:1<=i:=by have:=of_decide_eq_true c;omega
  rw[wrap_u32 (by omega) (by omega)]
  refine brS_of (fun e=>?_) fun e=>?_
  ·have e:i<=(d.length:Int):=of_decide_eq_true e
   rw[alcD_at c e] at h
   exact⟨by omega,by omega,h⟩
  ·rw[alcD_hi (of_decide_eq_false e)] at h;exact h
 ·rw[alcD_lo (by have:=of_decide_eq_false c;omega)] at h;exact h
theorem s_alc:SoundT C0 108 tAlc:=by
 refine .of Tryz.func108 (by decide) rfl fun args H K h hB=>?_
 unfold tAlc at h
 split at h<;>try exact h.elim
 rename_i i d fl
 exact⟨A0,trivial,vc_alc d fl i K h.1 h.2.1 h.2.2⟩
structure PMk (d:List SlotT) (roots:List Int) (m:List Bool) (w:List Int):Prop where
 len:m.length=d.length
 u:∀ x∈w,inU x
 wl:w.length+2*m.count false<=roots.length+2*d.length
 root:∀ i∈roots,alcD d i=true->mkd m i∨i∈w
 left:∀ i,mkd m i->alcD d (sltD d i).node.left=true->mkd m (sltD d i).node.left∨(sltD d i).node.left∈w
 right:∀ i,mkd m i->alcD d (sltD d i).node.right=true->mkd m (sltD d i).node.right∨(sltD d i).node.right∈w
theorem PMk.start (d:List SlotT)(roots:List Int)(h:∀ x∈roots,inU x):PMk d roots (List.replicate d.length false) roots:=by
 have z:∀ i,¬ mkd (List.replicate d.length false) i:=fun i hi=>by
  have:=hi.2
  rw[getD_replicate] at this;cases this
 exact⟨by simp,h,by simp,fun i hi _=>.inr hi,fun i hi=>(z i hi).elim,fun i hi=>(z i hi).elim⟩
theorem PMk.done {d:List SlotT}{roots:List Int}{m:List Bool}(h:PMk d roots m []):MarksR d roots m :=
 ⟨h.len,fun i a b=>(h.root i a b).resolve_right (by simp),fun i a b=>(h.left i a b).resolve_right (by simp),fun i a b=>(h.right i a b).resolve_right (by simp)⟩
theorem PMk.skip {d:List SlotT}{roots:List Int}{m:List Bool}{w:List Int}{x:Int}(h:PMk d roots m (w++[x]))(hx:alcD d x=true->mkd m x):PMk d roots m w:=by
 have key:∀ j,alcD d j=true->mkd m j∨j∈w++[x]->mkd m j∨j∈w:=fun j ha hj=>by
  rcases hj with hj|hj
  ·exact .inl hj
  ·rcases List.mem_append.1 hj with hj|hj
   ·exact .inr hj
   ·have e:j=x:=by simpa using hj
    subst e;exact .inl (hx ha)
 refine⟨h.len,fun y hy=>h.u y (by simp[hy]),by have:=h.wl;simp at this;omega,fun i a b=>key i b (h.root i a b),fun i a b=>key _ b (h.left i a b),fun i a b=>key _ b (h.right i a b)⟩
/-! ### The plain law: a whole arena's dump is clean. -/
theorem slotsOf_len (S:Arn):(slotsOf S).length=ncap S:=by simp[slotsOf]
theorem slotsOf_get (S:Arn){i:Nat}(h:i<ncap S):(slotsOf S).getD i SlotT.zero=slotAt S i:=by
 simp[slotsOf,List.getD_eq_getElem?_getD,h]
theorem us_hi {S:Arn}{i:Int}(h:(ncap S:Int)<i):S.us i=false:=by
 cases hb:S.us i with
 | false=>rfl
 | true=>have:=getD_false hb;unfold ncap at h;omega
theorem alcD_slots {S:Arn}{hs:List Int}(w:Wf S hs)(i:Int):alcD (slotsOf S) i=S.us i:=by
 by_cases h1:1<=i
 ·by_cases h2:i<=(ncap S:Int)
  ·rw[alcD_at h1 (by rw[slotsOf_len];exact h2),slotsOf_get S (by omega)]
   show S.us _=S.us i
   congr 1;omega
  ·rw[alcD_hi (by rw[slotsOf_len];exact h2),us_hi (by omega)]
 ·rw[alcD_lo h1,w.us0 (by omega)]
theorem sltD_slots {S:Arn}{hs:List Int}(w:Wf S hs){i:Int}(h:S.us i=true):(sltD (slotsOf S) i).node=S.nd i:=by
 have hp:=w.pos h
 have h2:(i-1).toNat<ncap S:=by unfold ncap;omega
 unfold sltD
 rw[slotsOf_get S h2]
 show S.nd _=S.nd i
 congr 1;omega
end Go.Proofs.YtedfbafngmicpaaGreat.Sx
end
section
/- The reference's numbering of nodes, on a dump. -/
namespace Go.Proofs.YtedfbafngmicpaaGreat.Sx
open Go

/-KEEP Wf exW inU allVb alcD sltD slotsOf orderOf SeenR DgW NumD NumsD szT lfD rgD-/
def lfD (d:List SlotT)(i:Int):Int:=(sltD d i).node.left
def rgD (d:List SlotT)(i:Int):Int:=(sltD d i).node.right
abbrev NumsD (d:List SlotT):=NumsG (alcD d) (lfD d) (rgD d)
def allVb (l:List Int):Prop:=∀ x∈l,inU x
def szT (d:List SlotT)(i:Int):Nat:=if alcD d i=true then (sltD d i).node.size.toNat else 0
structure DgW (d:List SlotT):Prop where
 len:d.length<=100000
 sz:∀ i,alcD d i=true->szT d (lfD d i)<szT d i/\szT d (rgD d i)<szT d i
 kid:∀ i,alcD d i=true->inU (lfD d i)/\inU (rgD d i)
 top:∀ i,szT d i<2147483648
structure SeenR (d:List SlotT) (m:List Bool) (l:List Int) (A:Int->Prop):Prop where
 len:m.length=d.length
 nd:l.Nodup
 us:∀ j∈l,alcD d j=true
 sn:∀ j,mkd m j↔(j∈l∨A j)
theorem SeenR.few {d:List SlotT}{m:List Bool}{l:List Int}{A:Int->Prop}(h:SeenR d m l A):l.length<=d.length:=by
 have q:=len_nd l ((List.range d.length).map fun (n:Nat)=>(n:Int)+1) h.nd fun x hx=>by
  have p:=alcD_rng (h.us x hx)
  exact List.mem_map.2 ⟨(x-1).toNat,List.mem_range.2 (by omega),by omega⟩
 rw[List.length_map,List.length_range] at q
 exact q
section
variable {S:Arn} {hs:List Int}
end
end Go.Proofs.YtedfbafngmicpaaGreat.Sx
end
section
/- Numbering behind what is known: the same as numbering alone, without what is known. No program in sight. -/
namespace Go.Proofs.YtedfbafngmicpaaGreat.Sx
open Go

section
variable {us:Int->Bool} {lf rg:Int->Int}
end
end Go.Proofs.YtedfbafngmicpaaGreat.Sx
end
section
/- The reference's table of references. -/
namespace Go.Proofs.YtedfbafngmicpaaGreat.Sx
open Go

/-KEEP allB vE wB kB zz crc exI frE itC xorI getB jnA DgW allVb NumD NumsD refL notI plcN sltD alcD slotsOf-/
theorem NumsD.few {d:List SlotT}(hd:DgW d){rs l:List Int}(h:NumsD d rs [] l):l.length<=d.length/\l.Nodup/\∀ j∈l,1<=j/\j<=d.length:=by
 have nd:=h.nodup (sz:=szT d) hd.sz List.nodup_nil
 have us:=h.used (fun j hj=>by cases hj)
 have rg:∀ j∈l,1<=j/\j<=(d.length:Int):=fun j hj=>alcD_rng (us j hj)
 have q:=len_nd l ((List.range d.length).map fun (n:Nat)=>(n:Int)+1) nd fun x hx=>by
  have p:=rg x hx
  exact List.mem_map.2 ⟨(x-1).toNat,List.mem_range.2 (by omega),by omega⟩
 rw[List.length_map,List.length_range] at q
 exact⟨q,nd,rg⟩
end Go.Proofs.YtedfbafngmicpaaGreat.Sx
end
section
/- The reference's Export and Digest, on a dump. -/
namespace Go.Proofs.YtedfbafngmicpaaGreat.Sx
open Go

/-KEEP allB allQ vE vsE wB kB zz crc exI frE itC xorI getB jnA DgW allVb NumD NumsD refL notI plcN sltD alcD slotsOf lfD rgD pkE encN rcE magB hdE uvA ExD DgD eNq-/
def InD (d:List SlotT)(l:List Int):Prop:=∀ i∈l,rngI (sltD d i).node.key/\rngI (sltD d i).node.value
def KyD (d:List SlotT)(rs:List Int):Prop:=∀ l,NumsD d rs [] l->InD d l
def inL (d:List SlotT)(l:List Int):Prop:=∀ x∈l,0<=x/\x<=(d.length:Int)
theorem inL.v {d:List SlotT}(hd:DgW d){l:List Int}(h:inL d l):allVb l:=fun x hx=>by
 have:=h x hx
 have:=hd.len
 exact⟨by omega,by omega⟩
theorem repG_D {d:List SlotT}(hd:DgW d):∀ (n:Nat) (i:Int),szT d i<=n->RepG (alcD d) (lfD d) (rgD d) n i
 | 0,i,h=>by
  cases u:alcD d i with
  | false=>exact u
  | true=>have:=hd.sz i u;omega
 | n+1,i,h=>by
  cases u:alcD d i with
  | false=>exact .inl u
  | true =>
   have:=hd.sz i u
   exact .inr ⟨repG_D hd n _ (by omega),repG_D hd n _ (by omega)⟩
theorem numsD_ex {d:List SlotT}(hd:DgW d)(r acc:List Int):∃ a,NumsD d r acc a:=NumsG.ex r acc fun i _=>⟨_,repG_D hd _ i (Nat.le_refl _)⟩
theorem KyD.left {d:List SlotT}(hd:DgW d){ks rs:List Int}(h:KyD d (ks++rs)):KyD d ks:=fun l nl=>by
 obtain⟨la,na⟩:=numsD_ex hd rs l
 intro i hi
 exact h la (nl.app na) i (na.sub hi)
section
variable {S:Arn} {hs:List Int}
end
end Go.Proofs.YtedfbafngmicpaaGreat.Sx
end
section
/- Choosing twice; Same of bytes; pack.Digest. -/
namespace Go.Proofs.YtedfbafngmicpaaGreat.Sx
open Go

/-KEEP rowG Wf exW inU allV allB rdS NumsA DgB DgS-/
end Go.Proofs.YtedfbafngmicpaaGreat.Sx
end
section
/- Equal dumps, and the count of a slot of a dump. -/
namespace Go.Proofs.YtedfbafngmicpaaGreat.Sx
open Go

/-KEEP Wf exW inU alcD slotsOf orderOf-/
end Go.Proofs.YtedfbafngmicpaaGreat.Sx
end
section
/- The reference's Check of a dump, Clean and Sound. -/
namespace Go.Proofs.YtedfbafngmicpaaGreat.Sx
open Go

/-KEEP Wf exW inU allU Arn.cap Arn.free alcD cntL kidsL slotsOf orderOf MarksR CleanD kidsU-/
end Go.Proofs.YtedfbafngmicpaaGreat.Sx
end
section
/- The reference's trees over a dump: nodes, balance, height, list, order, Check, Tree. -/
namespace Go.Proofs.YtedfbafngmicpaaGreat.Sx
open Go

/-KEEP Wf exW inU alcD slotsOf orderOf ndD RepD Asc Tr.Bal Tr.size Tr.list ht balB lastK anyK gtL ShpT-/
def ndD (d:List SlotT)(i:Int):NodeT:=if alcD d i=true then (sltD d i).node else NodeT.zero
def lastK:Tr->Int->Int
 | .nil,x=>x
 | .node _ k _ r,_=>lastK r k
def anyK:Tr->Bool->Bool
 | .nil,b=>b
 | .node _ _ _ _,_=>true
def gtL (x:Int)(l:List Ent):Prop:=∀ y∈l,x<y.1
def RepD (d:List SlotT):Tr->Int->Prop
 | .nil,i=>i=0
 | .node l k v r,i=>alcD d i=true/\(ndD d i).key=k/\(ndD d i).value=v/\(ndD d i).size=1+l.size+r.size/\RepD d l (ndD d i).left/\RepD d r (ndD d i).right
noncomputable def aAlcG:Ann C0:={ Γ:=[(108,frameT [] tAlc)] }
def tNd:Tfm C0:=fun args H K=>match args,H with
 | [.agg [.slc 0,.slc 1],.at (.val (.int .u32 i))],[.row false .slot d,.row false .u32 fl]=>inU i/\d.length<=1000000/\∀ n,n=ndD d i->K (.one (nodeA n)) [.row false EC.slot d,.row false EC.u32 fl] []
 | _,_=>False
def tBl7 (n:Nat):Tfm C0:=fun args H K=>match args,H with
 | [.agg [.slc 0,.slc 1],.at (.val (.int .u32 i))],[.row false .slot d,.row false .u32 fl]=>d.length<=1000000/\(∃ t,RepD d t i/\t.Bal/\t.size<n/\t.size<=1000000)/\K (.one (.at (vB true))) [.row false EC.slot d,.row false EC.u32 fl] []
 | _,_=>False
noncomputable def aBl7 (n:Nat):Ann C0:={ quiet:=[57,120,110],Γ:=[(57,frameT [] tNd),(120,frameT [] tBal),(110,frameT [] (tBl7 n))] }
def tLi7 (n:Nat):Tfm C0:=fun args H K=>match args,H with
 | [.agg [.slc 0,.slc 1],.at (.val (.int .u32 i))],[.row false .slot d,.row false .u32 fl]=>d.length<=1000000/\∃ t,RepD d t i/\t.size<n/\t.size<=1000000/\∀ r,r=t.list->K (.one (.at (.slc 2))) [.row false EC.slot d,.row false EC.u32 fl,.row true EC.ent r] []
 | _,_=>False
noncomputable def aLi7 (n:Nat):Ann C0:={ quiet:=[57,35],Γ:=[(57,frameT [] tNd),(35,frameT [] (tLi7 n))] }
def tOr7 (n:Nat):Tfm C0:=fun args H K=>match args,H with
 | [.at (.ptr 0 0),.at (.val (.int .u32 i))],[.box [.slc 1,.slc 2,.val (.int .i64 last),.val (.bool any),.val (.int .i64 most)],.row false .slot d,.row false .u32 fl]=>d.length<=1000000/\∃ t,RepD d t i/\Asc t.list/\t.size<n/\(t.size:Int)<=most/\most<=10000000/\(any=true->gtL last t.list) ∧
  ∀ la an mo,la=lastK t last->an=anyK t any->mo=most-t.size->K (.one (.at (vB true))) [.box [.slc 1,.slc 2,vI la,vB an,vI mo],.row false EC.slot d,.row false EC.u32 fl] [0]
 | _,_=>False
noncomputable def aOr7 (n:Nat):Ann C0:={ Γ:=[(57,frameT [] tNd),(109,frameT [] (tOr7 n))] }
noncomputable def aCk7 (n:Nat):Ann C0:={ Γ:=[(108,frameT [] tAlc),(109,frameT [] (tOr7 n)),(110,frameT [] (tBl7 n))] }
def tCk7:Tfm C0:=fun args H K=>match args,H with
 | [.agg [.slc 0,.slc 1],.at (.val (.int .u32 i))],[.row false .slot d,.row false .u32 fl]=>d.length<=1000000/\(∃ t,RepD d t i/\Asc t.list/\t.Bal/\t.size<=2*d.length+2/\t.size<=1000000)/\K (.one (.at (vI 0))) [.row false EC.slot d,.row false EC.u32 fl] []
 | _,_=>False
noncomputable def aTr7 (n:Nat)(l:List Ent)(d:List SlotT)(fl:List Int):Ann C0:={ Γ:=[(56,frameT [] tCk7),(57,frameT [] tNd),(35,frameT [] (tLi7 n))],inv:=fun k=>match k with
 | 7=>some { X:=XIx l.length,sl:=[8,3,7],tf:=fun x=>[vi .i64 x.i,.one (.at (.ptr 3 0)),.one (.at (.slc 4))],hf:=fun _=>[.row false EC.slot d,.row false EC.u32 fl,.row false EC.ent l,.box [.slc 0,.slc 1],.row true EC.ent l],μ:=fun x=>l.length-x.i }
 | _=>none }
def tTr7:Tfm C0:=fun args H K=>match args,H with
 | [.agg [.slc 0,.slc 1],.at (.val (.int .u32 i)),.at (.slc 2)],[.row false .slot d,.row false .u32 fl,.row false .ent l]=>d.length<=1000000/\(∃ t,RepD d t i/\Asc t.list/\t.Bal/\t.size<=2*d.length+2/\t.size<=1000000/\t.list=l)/\K (.one (.at (vB true))) [.row false EC.slot d,.row false EC.u32 fl,.row false EC.ent l] []
 | _,_=>False
theorem bt7 {b:Bool}{t f:Prop}(h:b=true)(ht:t):brS b t f:=by rw[h];exact ht
theorem bf7 {b:Bool}{t f:Prop}(h:b=false)(hf:f):brS b t f:=by rw[h];exact hf
theorem RepD.inU {d:List SlotT}{t:Tr}{i:Int}(h:RepD d t i)(hl:d.length<=1000000):inU i:=by
 cases t with
 | nil=>have:i=0:=h;rw[this];exact⟨by omega,by omega⟩
 | node l k v r=>have:=alcD_rng h.1;exact⟨by omega,by omega⟩
theorem RepD.sz {d:List SlotT}{t:Tr}{i:Int}(h:RepD d t i):(ndD d i).size=t.size:=by
 cases t with
 | nil =>
  have:i=0:=h
  unfold ndD
  rw[this,alcD_lo (by omega)];rfl
 | node l k v r=>rw[h.2.2.2.1];simp[Tr.size]
theorem RepD.ne {d:List SlotT}{l r:Tr}{k v i:Int}(h:RepD d (.node l k v r) i):i≠0:=by have:=alcD_rng h.1;omega
theorem s_nd7:SoundT C0 57 tNd:=by
 refine .of Tryz.func57 (by decide) rfl fun args H K h hB=>?_
 unfold tNd at h
 split at h<;>try exact h.elim
 rename_i i d fl
 obtain⟨h1,h2,h⟩:=h
 have key:∀ d:List SlotT,d.length<=1000000->(∀ n,n=ndD d i->K (.one (nodeA n)) [.row false EC.slot d,.row false EC.u32 fl] [])->vc C0 aAlcG Tryz.f57 [.agg [.slc 0,.slc 1],.at (vU i)] [.row false EC.slot d,.row false EC.u32 fl] (normK 2 K):=fun d h2 h=>by
  refine Eq.mp (show (inU i/\d.length<=1000000/\brS (!alcD d i) (K (.one (TV.agg [(.val (VI 0)),(.val (VI 0)),(.val (VU 0)),(.val (VU 0)),(.val (VI 0)),(.val (VI 0)),(.val (VI 0)),(.val (VI 0))])) [(.row false EC.slot (d)),(.row false EC.u32 (fl))] []) (0<=IntKind.u32.wrap (i-1)/\IntKind.u32.wrap (i-1)<(d.length:Int)/\K (.one (TV.agg [(.val (VI ((eS d (IntKind.u32.wrap (i-1)).toNat).node.key))),(.val (VI ((eS d (IntKind.u32.wrap (i-1)).toNat).node.value))),(.val (VU ((eS d (IntKind.u32.wrap (i-1)).toNat).node.left))),(.val (VU ((eS d (IntKind.u32.wrap (i-1)).toNat).node.right))),(.val (VI ((eS d (IntKind.u32.wrap (i-1)).toNat).node.size))),(.val (VI ((eS d (IntKind.u32.wrap (i-1)).toNat).node.sum))),(.val (VI ((eS d (IntKind.u32.wrap (i-1)).toNat).node.min))),(.val (VI ((eS d (IntKind.u32.wrap (i-1)).toNat).node.max)))])) [(.row false EC.slot (d)),(.row false EC.u32 (fl))] []))=_ by kernel_rfl) ?_
  refine⟨h1,h2,brS_of (fun c=>?_) fun c=>?_⟩
  ·have c:alcD d i=false:=by simpa using c
   exact h NodeT.zero (by unfold ndD;rw[c];rfl)
  ·have c:alcD d i=true:=by simpa using c
   obtain⟨a,b⟩:=alcD_rng c
   obtain⟨u1,u2⟩:=h1
   rw[wrap_u32 (x:=i-1) (by omega) (by omega)]
   exact⟨by omega,by omega,h (eS d (i-1).toNat).node (by unfold ndD;rw[if_pos c];rfl)⟩
 exact⟨aAlcG,⟨frame C0.ok s_alc _,trivial⟩,key d h2 h⟩
theorem vc_bl7 (n:Nat)(d:List SlotT)(fl:List Int)(i:Int)(K:KT)(hl:d.length<=1000000)(t:Tr)(rp:RepD d t i)(bal:t.Bal)(hn:t.size<n+1)(hs:t.size<=1000000)(h:K (.one (.at (vB true))) [.row false EC.slot d,.row false EC.u32 fl] []) :
  vc C0 (aBl7 n) Tryz.f110 [.agg [.slc 0,.slc 1],.at (vU i)] [.row false EC.slot d,.row false EC.u32 fl] (normK 2 K):=by
 refine Eq.mp (show (brS (i==0) (K (.one (.at (.val (Value.bool true)))) [(.row false EC.slot (d)),(.row false EC.u32 (fl))] []) (inU i/\d.length<=1000000/\∀ n1:NodeT,n1=ndD d i->inU n1.left/\d.length<=1000000/\∀ n2:NodeT,n2=ndD d n1.left->inU n1.right/\d.length<=1000000/\∀ n3:NodeT,n3=ndD d n1.right->0<=n2.size/\n2.size<=1000000/\0<=n3.size/\n3.size<=1000000/\∀ b:Bool,b=balB n2.size n3.size->brS (b) (d.length<=1000000/\(∃ t:Tr,RepD d t n1.left/\t.Bal/\t.size<n/\t.size<=1000000)/\d.length<=1000000/\(∃ t:Tr,RepD d t n1.right/\t.Bal/\t.size<n/\t.size<=1000000)/\K (.one (.at (.val (Value.bool true)))) [(.row false EC.slot (d)),(.row false EC.u32 (fl))] []) (K (.one (.at (.val (Value.bool false)))) [(.row false EC.slot (d)),(.row false EC.u32 (fl))] [])))=_ by kernel_rfl) ?_
 cases t with
 | nil=>have e:i=0:=rp;exact bt7 (by rw[e];rfl) h
 | node l k v r =>
  have hi:=rp.inU hl
  have hne:=rp.ne
  obtain⟨h1,h2,h3,h4,h5,h6⟩:=rp
  obtain⟨b0,bl,br⟩:=bal
  have hz:(Tr.node l k v r).size=1+l.size+r.size:=rfl
  refine bf7 (by simp[hne]) ⟨hi,hl,fun n1 e1=>?_⟩
  subst e1
  refine⟨h5.inU hl,hl,fun n2 e2=>⟨h6.inU hl,hl,fun n3 e3=>?_⟩⟩
  have s2:n2.size=l.size:=by rw[e2,h5.sz]
  have s3:n3.size=r.size:=by rw[e3,h6.sz]
  refine⟨by omega,by omega,by omega,by omega,fun b eb=>bt7 (by rw[eb,s2,s3];exact decide_eq_true b0) ⟨hl,⟨l,h5,bl,by omega,by omega⟩,hl,⟨r,h6,br,by omega,by omega⟩,h⟩⟩
theorem s_bl7:∀ n:Nat,SoundT C0 110 (tBl7 n)
 | 0=>by
  refine .of Tryz.func110 (by decide) rfl fun args H K h hB=>?_
  unfold tBl7 at h
  split at h<;>try exact h.elim
  obtain⟨_,⟨t,_,_,hn,_⟩,_⟩:=h
  omega
 | n+1=>by
  refine .of Tryz.func110 (by decide) rfl fun args H K h hB=>?_
  unfold tBl7 at h
  split at h<;>try exact h.elim
  rename_i i d fl
  obtain⟨hl,⟨t,rp,bal,hn,hs⟩,h⟩:=h
  exact⟨aBl7 n,⟨frame C0.ok s_nd7 _,frame C0.ok s_bal _,frame C0.ok (s_bl7 n) _,trivial⟩,vc_bl7 n d fl i K hl t rp bal hn hs h⟩
theorem vc_li7 (n:Nat)(d:List SlotT)(fl:List Int)(i:Int)(K:KT)(hl:d.length<=1000000)(t:Tr)(rp:RepD d t i)(hn:t.size<n+1)(hs:t.size<=1000000)(h:∀ r,r=t.list->K (.one (.at (.slc 2))) [.row false EC.slot d,.row false EC.u32 fl,.row true EC.ent r] []) :
  vc C0 (aLi7 n) Tryz.f35 [.agg [.slc 0,.slc 1],.at (vU i)] [.row false EC.slot d,.row false EC.u32 fl] (normK 2 K):=by
 refine Eq.mp (show (brS (i==0) (K (.one (.at (.slc 2))) [(.row false EC.slot (d)),(.row false EC.u32 (fl)),(.row true EC.ent [])] []) (inU i/\d.length<=1000000/\∀ n1:NodeT,n1=ndD d i->(d.length<=1000000/\∃ t:Tr,RepD d t n1.left/\t.size<n/\t.size<=1000000/\∀ r:List Ent,r=t.list->(r.length+[(n1.key,n1.value)].length)*bytesOf C0 EC.ent<=140737488355328/\d.length<=1000000/\∃ t1:Tr,RepD d t1 n1.right/\t1.size<n/\t1.size<=1000000/\∀ r1:List Ent,r1=t1.list->((r++[(n1.key,n1.value)]).length+r1.length)*bytesOf C0 EC.ent<=140737488355328/\K (.one (.at (.slc 2))) [(.row false EC.slot (d)),(.row false EC.u32 (fl)),(.row true EC.ent (r++[(n1.key,n1.value)]++r1))] [])/\d.length<=1000000/\∃ t:Tr,RepD d t n1.left/\t.size<n/\t.size<=1000000/\∀ r:List Ent,r=t.list->(r.length+[(n1.key,n1.value)].length)*bytesOf C0 EC.ent<=140737488355328/\d.length<=1000000/\∃ t1:Tr,RepD d t1 n1.right/\t1.size<n/\t1.size<=1000000/\∀ r1:List Ent,r1=t1.list->((r++[(n1.key,n1.value)]).length+r1.length)*bytesOf C0 EC.ent<=140737488355328/\K (.one (.at (.slc 2))) [(.row false EC.slot (d)),(.row false EC.u32 (fl)),(.row true EC.ent (r++[(n1.key,n1.value)]++r1))] []))=_ by kernel_rfl) ?_
 rw[bytes_ent]
 cases t with
 | nil=>have e:i=0:=rp;exact bt7 (by rw[e];rfl) (h [] rfl)
 | node l k v r =>
  have hi:=rp.inU hl
  have hne:=rp.ne
  obtain⟨h1,h2,h3,h4,h5,h6⟩:=rp
  have hz:(Tr.node l k v r).size=1+l.size+r.size:=rfl
  refine bf7 (by simp[hne]) ⟨hi,hl,fun n1 e1=>?_⟩
  subst e1
  have ll:=l.list_len
  have lr:=r.list_len
  constructor
  all_goals
   refine⟨hl,l,h5,by omega,by omega,fun a ea=>⟨?_,hl,r,h6,by omega,by omega,fun b eb=>⟨?_,h _ ?_⟩⟩⟩
   ·rw[ea,ll];show (l.size+1)*16<=140737488355328;omega
   ·rw[List.length_append,ea,eb,ll,lr];show (l.size+1+r.size)*16<=140737488355328;omega
   ·rw[ea,eb,h2,h3];simp[Tr.list]
theorem s_li7:∀ n:Nat,SoundT C0 35 (tLi7 n)
 | 0=>by
  refine .of Tryz.func35 (by decide) rfl fun args H K h hB=>?_
  unfold tLi7 at h
  split at h<;>try exact h.elim
  obtain⟨_,t,_,hn,_⟩:=h
  omega
 | n+1=>by
  refine .of Tryz.func35 (by decide) rfl fun args H K h hB=>?_
  unfold tLi7 at h
  split at h<;>try exact h.elim
  rename_i i d fl
  obtain⟨hl,t,rp,hn,hs,h⟩:=h
  exact⟨aLi7 n,⟨frame C0.ok s_nd7 _,frame C0.ok (s_li7 n) _,trivial⟩,vc_li7 n d fl i K hl t rp hn hs h⟩
theorem lastK_mem:∀ (t:Tr) (x:Int),lastK t x=x∨∃ y∈t.list,y.1=lastK t x
 | .nil,x=>.inl rfl
 | .node l k v r,x=>by
  rcases lastK_mem r k with e|⟨y,hy,e⟩
  ·exact .inr ⟨(k,v),by simp[Tr.list],e.symm⟩
  ·exact .inr ⟨y,by simp[Tr.list,hy],e⟩
theorem lastK_lt {t:Tr}{any:Bool}{last k:Int}(h1:any=true->last<k)(h2:∀ x∈t.list,x.1<k)(h3:anyK t any=true):lastK t last<k:=by
 cases t with
 | nil=>exact h1 h3
 | node l k' v r =>
  show lastK r k'<k
  rcases lastK_mem r k' with e|⟨y,hy,e⟩
  ·rw[e];exact h2 (k',v) (by simp[Tr.list])
  ·rw[← e];exact h2 y (by simp[Tr.list,hy])
theorem anyK_true (t:Tr):anyK t true=true:=by cases t<;>rfl
theorem vc_or7 (n:Nat)(d:List SlotT)(fl:List Int)(last most i:Int)(any:Bool)(K:KT)(hl:d.length<=1000000)(t:Tr)(rp:RepD d t i)(hasc:Asc t.list)(hn:t.size<n+1)(hm:(t.size:Int)<=most)(hm2:most<=10000000)(hg:any=true->gtL last t.list)(h:∀ la an mo,la=lastK t last->an=anyK t any->mo=most-t.size->K (.one (.at (vB true))) [.box [.slc 1,.slc 2,vI la,vB an,vI mo],.row false EC.slot d,.row false EC.u32 fl] [0]) :
  vc C0 (aOr7 n) Tryz.f109 [.at (.ptr 0 0),.at (vU i)] [.box [.slc 1,.slc 2,vI last,vB any,vI most],.row false EC.slot d,.row false EC.u32 fl] (normK 3 (wideK [0] K)):=by
 refine Eq.mp (show (brS (i==0) (K (.one (.at (.val (Value.bool true)))) [(.box [(.slc 1),(.slc 2),(.val (VI (last))),(.val (Value.bool (any))),(.val (VI (most)))]),(.row false EC.slot (d)),(.row false EC.u32 (fl))] [0]) (brS (most==0) (K (.one (.at (.val (Value.bool false)))) [(.box [(.slc 1),(.slc 2),(.val (VI (last))),(.val (Value.bool (any))),(.val (VI (most)))]),(.row false EC.slot (d)),(.row false EC.u32 (fl))] [0]) (inU i/\d.length<=1000000/\∀ n1:NodeT,n1=ndD d i->d.length<=1000000/\∃ t:Tr,RepD d t n1.left/\Asc t.list/\t.size<n/\(t.size:Int)<=IntKind.i64.wrap (most-1)/\IntKind.i64.wrap (most-1)<=10000000/\(any=true->gtL last t.list)/\∀ la:Int,∀ an:Bool,∀ mo:Int,la=lastK t last->an=anyK t any->mo=(IntKind.i64.wrap (most-1)-(t.size:Int))->brS (an) (brS (decide (n1.key<=la)) (K (.one (.at (.val (Value.bool false)))) [(.box [(.slc 1),(.slc 2),(.val (VI (la))),(.val (Value.bool (an))),(.val (VI (mo)))]),(.row false EC.slot (d)),(.row false EC.u32 (fl))] [0]) (d.length<=1000000/\∃ t1:Tr,RepD d t1 n1.right/\Asc t1.list/\t1.size<n/\(t1.size:Int)<=mo/\mo<=10000000/\(true=true->gtL n1.key t1.list)/\∀ la1:Int,∀ an1:Bool,∀ mo1:Int,la1=lastK t1 n1.key->an1=anyK t1 true->mo1=(mo-(t1.size:Int))->K (.one (.at (.val (Value.bool true)))) [(.box [(.slc 1),(.slc 2),(.val (VI (la1))),(.val (Value.bool (an1))),(.val (VI (mo1)))]),(.row false EC.slot (d)),(.row false EC.u32 (fl))] [0])) (d.length<=1000000/\∃ t1:Tr,RepD d t1 n1.right/\Asc t1.list/\t1.size<n/\(t1.size:Int)<=mo/\mo<=10000000/\(true=true->gtL n1.key t1.list)/\
 ∀ la1:Int,∀ an1:Bool,∀ mo1:Int,la1=lastK t1 n1.key->an1=anyK t1 true->mo1=(mo-(t1.size:Int))->K (.one (.at (.val (Value.bool true)))) [(.box [(.slc 1),(.slc 2),(.val (VI (la1))),(.val (Value.bool (an1))),(.val (VI (mo1)))]),(.row false EC.slot (d)),(.row false EC.u32 (fl))] [0]))))=_ by kernel_rfl) ?_
 cases t with
 | nil=>have e:i=0:=rp;exact bt7 (by rw[e];rfl) (h last any most rfl rfl (by simp[Tr.size]))
 | node l k v r =>
  have hi:=rp.inU hl
  have hne:=rp.ne
  obtain⟨h1,h2,h3,h4,h5,h6⟩:=rp
  have hz:(Tr.node l k v r).size=1+l.size+r.size:=rfl
  obtain⟨al,ar,lk,kr⟩:=node_asc hasc
  have mz:most≠0:=by omega
  refine bf7 (by simp[hne]) (bf7 (by simp[mz]) ⟨hi,hl,fun n1 e1=>?_⟩)
  subst e1
  rw[wrap_id (x:=most-1) (by omega) (by omega)]
  refine⟨hl,l,h5,al,by omega,by omega,by omega,fun a x hx=>hg a x (by simp[Tr.list,hx]),fun la an mo e1 e2 e3=>?_⟩
  have gr:gtL (ndD d i).key r.list:=fun x hx=>by rw[h2];exact kr x hx
  have fin:∀ la1 an1 mo1,la1=lastK r (ndD d i).key->an1=anyK r true->mo1=mo-r.size->K (.one (.at (vB true))) [.box [.slc 1,.slc 2,vI la1,vB an1,vI mo1],.row false EC.slot d,.row false EC.u32 fl] [0]:=fun la1 an1 mo1 f1 f2 f3=>h la1 an1 mo1 (by rw[f1,h2];rfl) (by rw[f2,anyK_true];rfl) (by omega)
  refine brS_of (fun ha=>bf7 ?_ ⟨hl,r,h6,ar,by omega,by omega,by omega,fun _=>gr,fin⟩) fun _=>⟨hl,r,h6,ar,by omega,by omega,by omega,fun _=>gr,fin⟩
  have hlt:la<k:=by
   rw[e1]
   refine lastK_lt (any:=any) (fun a=>?_) lk (by rw[← e2];exact ha)
   exact hg a (k,v) (by simp[Tr.list])
  rw[h2]
  exact decide_eq_false (by omega)
theorem s_or7:∀ n:Nat,SoundT C0 109 (tOr7 n)
 | 0=>by
  refine .ofW [0] Tryz.func109 (by decide) rfl fun args H K h hB=>?_
  unfold tOr7 at h
  split at h<;>try exact h.elim
  obtain⟨_,t,_,_,hn,_⟩:=h
  omega
 | n+1=>by
  refine .ofW [0] Tryz.func109 (by decide) rfl fun args H K h hB=>?_
  unfold tOr7 at h
  split at h<;>try exact h.elim
  rename_i i last any most d fl
  obtain⟨hl,t,rp,hasc,hn,hm,hm2,hg,h⟩:=h
  exact⟨aOr7 n,⟨frame C0.ok s_nd7 _,frame C0.ok (s_or7 n) _,trivial⟩,vc_or7 n d fl last most i any K hl t rp hasc hn hm hm2 hg h⟩
theorem vc_ck7 (d:List SlotT)(fl:List Int)(i:Int)(K:KT)(hl:d.length<=1000000)(t:Tr)(rp:RepD d t i)(hasc:Asc t.list)(bal:t.Bal)(h2:t.size<=2*d.length+2)(hs:t.size<=1000000)(h:K (.one (.at (vI 0))) [.row false EC.slot d,.row false EC.u32 fl] []) :
  vc C0 (aCk7 1000001) Tryz.f56 [.agg [.slc 0,.slc 1],.at (vU i)] [.row false EC.slot d,.row false EC.u32 fl] (normK 2 K):=by
 generalize hn:1000001=n
 refine Eq.mp (show (brS (i != 0) (inU i/\d.length<=1000000/\brS (!alcD d i) (K (.one (.at (.val (VI 1)))) [(.row false EC.slot (d)),(.row false EC.u32 (fl))] []) (d.length<=1000000/\∃ t:Tr,RepD d t i/\Asc t.list/\t.size<n/\(t.size:Int)<=IntKind.i64.wrap (IntKind.i64.wrap (2*(d.length:Int))+2)/\IntKind.i64.wrap (IntKind.i64.wrap (2*(d.length:Int))+2)<=10000000/\(false=true->gtL 0 t.list)/\∀ la:Int,∀ an:Bool,∀ mo:Int,la=lastK t 0->an=anyK t false->mo=(IntKind.i64.wrap (IntKind.i64.wrap (2*(d.length:Int))+2)-(t.size:Int))->d.length<=1000000/\(∃ t1:Tr,RepD d t1 i/\t1.Bal/\t1.size<n/\t1.size<=1000000)/\K (.one (.at (.val (VI 0)))) [(.row false EC.slot (d)),(.row false EC.u32 (fl))] [])) (d.length<=1000000/\∃ t:Tr,RepD d t i/\Asc t.list/\t.size<n/\(t.size:Int)<=IntKind.i64.wrap (IntKind.i64.wrap (2*(d.length:Int))+2)/\IntKind.i64.wrap (IntKind.i64.wrap (2*(d.length:Int))+2)<=10000000/\(false=true->gtL 0 t.list)/\∀ la:Int,∀ an:Bool,∀ mo:Int,la=lastK t 0->an=anyK t false->mo=(IntKind.i64.wrap (IntKind.i64.wrap (2*(d.length:Int))+2)-(t.size:Int))->d.length<=1000000/\(∃ t1:Tr,RepD d t1 i/\t1.Bal/\t1.size<n/\t1.size<=1000000)/\K (.one (.at (.val (VI 0)))) [(.row false EC.slot (d)),(.row false EC.u32 (fl))] []))=_ by kernel_rfl) ?_
 have hi:=rp.inU hl
 rw[wrap_id (x:=2*(d.length:Int)) (by omega) (by omega),wrap_id (x:=2*(d.length:Int)+2) (by omega) (by omega)]
 have hz:i≠0->alcD d i=true:=fun z=>by
  cases t with
  | nil=>exact absurd rp z
  | node l k v r=>exact rp.1
 refine brS_of (fun c=>?_) fun _=>⟨hl,t,rp,hasc,by omega,by omega,by omega,(fun z=>by cases z),fun _ _ _ _ _ _=>⟨hl,⟨t,rp,bal,by omega,hs⟩,h⟩⟩
 have c:i≠0:=by simpa using c
 exact⟨hi,hl,bf7 (by rw[hz c];rfl) ⟨hl,t,rp,hasc,by omega,by omega,by omega,(fun z=>by cases z),fun _ _ _ _ _ _=>⟨hl,⟨t,rp,bal,by omega,hs⟩,h⟩⟩⟩
theorem s_ck7:SoundT C0 56 tCk7:=by
 refine .of Tryz.func56 (by decide) rfl fun args H K h hB=>?_
 unfold tCk7 at h
 split at h<;>try exact h.elim
 rename_i i d fl
 obtain⟨hl,⟨t,rp,hasc,bal,h2,hs⟩,h⟩:=h
 exact⟨aCk7 1000001,⟨frame C0.ok s_alc _,frame C0.ok (s_or7 _) _,frame C0.ok (s_bl7 _) _,trivial⟩,vc_ck7 d fl i K hl t rp hasc bal h2 hs h⟩
theorem vc_tr7 (d:List SlotT)(fl:List Int)(i:Int)(l:List Ent)(K:KT)(hl:d.length<=1000000)(t:Tr)(rp:RepD d t i)(hasc:Asc t.list)(bal:t.Bal)(h2:t.size<=2*d.length+2)(hs:t.size<=1000000)(e:t.list=l)(h:K (.one (.at (vB true))) [.row false EC.slot d,.row false EC.u32 fl,.row false EC.ent l] []) :
  vc C0 (aTr7 1000001 l d fl) Tryz.f16 [.agg [.slc 0,.slc 1],.at (vU i),.at (.slc 2)] [.row false EC.slot d,.row false EC.u32 fl,.row false EC.ent l] (normK 3 K):=by
 generalize hn:1000001=n
 refine Eq.mp (show (d.length<=1000000/\(∃ t:Tr,RepD d t i/\Asc t.list/\t.Bal/\t.size<=2*d.length+2/\t.size<=1000000)/\inU i/\d.length<=1000000/\∀ n1:NodeT,n1=ndD d i->brS (n1.size != (l.length:Int)) (K (.one (.at (.val (Value.bool false)))) [(.row false EC.slot (d)),(.row false EC.u32 (fl)),(.row false EC.ent (l))] []) (d.length<=1000000/\∃ t:Tr,RepD d t i/\t.size<n/\t.size<=1000000/\∀ r:List Ent,r=t.list->brS ((r.length:Int) != (l.length:Int)) (K (.one (.at (.val (Value.bool false)))) [(.row false EC.slot (d)),(.row false EC.u32 (fl)),(.row false EC.ent (l))] []) ((∃ x:XIx l.length,True/\(True/\True/\True/\VI 0=(VI (x.i:Int))/\True)/\d=d/\fl=fl/\l=l/\(True/\True/\True)/\r=l/\True)/\∀ x:XIx l.length,True->brS (decide ((x.i:Int)<(l.length:Int))) (0<=(x.i:Int)/\(x.i:Int)<(l.length:Int)/\0<=(x.i:Int)/\(x.i:Int)<(l.length:Int)/\brS (!((eA l x.i).fst==(eA l x.i).fst && ((eA l x.i).snd==(eA l x.i).snd && true))) (K (.one (.at (.val (Value.bool false)))) [(.row false EC.slot (d)),(.row false EC.u32 (fl)),(.row false EC.ent (l))] []) (∃ x':XIx l.length,True/\((True/\True/\True/\(VI (IntKind.i64.wrap ((x.i:Int)+1)))=(VI (x'.i:Int))/\True)/\d=d/\fl=fl/\l=l/\(True/\True/\True)/\l=l/\True)/\l.length-x'.i<l.length-x.i)) (K (.one (.at (.val (Value.bool true)))) [(.row false EC.slot (d)),(.row false EC.u32 (fl)),(.row false EC.ent (l))] []))))=_ by kernel_rfl) ?_
 have hi:=rp.inU hl
 have sz:t.size=l.length:=by rw[← e,t.list_len]
 refine⟨hl,⟨t,rp,hasc,bal,h2,hs⟩,hi,hl,fun n1 e1=>bf7 (by rw[e1,rp.sz,sz];simp) ⟨hl,t,rp,by omega,hs,fun r er=>bf7 (by rw[er,e];simp) ⟨⟨⟨0,Nat.zero_le _⟩,?_⟩,fun x _=>brS_of (fun c=>?_) fun _=>h⟩⟩⟩
 ·have er:r=l:=er.trans e
  (repeat' first|exact trivial|exact rfl|exact er|refine And.intro ?_ ?_)
 have c:x.i<l.length:=by have:=of_decide_eq_true c;omega
 refine⟨by omega,by omega,by omega,by omega,bf7 (by simp) ⟨⟨x.i+1,c⟩,?_⟩⟩
 have v:IntKind.i64.wrap ((x.i:Int)+1)=((x.i+1:Nat):Int):=by rw[wrap_id (by omega) (by omega)];rfl
 (repeat' first|exact trivial|exact rfl|exact congrArg (Value.int IntKind.i64) v|refine And.intro ?_ ?_)
 show l.length-(x.i+1)<l.length-x.i
 omega
theorem s_tr7:SoundT C0 16 tTr7:=by
 refine .of Tryz.func16 (by decide) rfl fun args H K h hB=>?_
 unfold tTr7 at h
 split at h<;>try exact h.elim
 rename_i i d fl l
 obtain⟨hl,⟨t,rp,hasc,bal,h2,hs,e⟩,h⟩:=h
 exact⟨aTr7 1000001 l d fl,⟨frame C0.ok s_ck7 _,frame C0.ok s_nd7 _,frame C0.ok (s_li7 _) _,trivial⟩,vc_tr7 d fl i l K hl t rp hasc bal h2 hs e h⟩

/-! ### From the arena to its dump -/
theorem ndD_slots {S:Arn}{hs:List Int}(w:Wf S hs)(i:Int):ndD (slotsOf S) i=S.nd i:=by
 unfold ndD
 rw[alcD_slots w]
 cases hb:S.us i with
 | false=>rw[w.zero i hb];rfl
 | true=>rw[if_pos rfl,sltD_slots w hb]
theorem repD_of {S:Arn}{hs:List Int}(w:Wf S hs):∀ {t:Tr} {i:Int},Rep S t i->RepD (slotsOf S) t i
 | .nil,i,h=>h
 | .node l k v r,i,h=>by
  have sz:=Rep.size w h
  obtain⟨h1,h2,h3,h4,h5⟩:=h
  refine⟨by rw[alcD_slots w];exact h1,?_⟩
  rw[ndD_slots w]
  exact⟨h2,h3,by rw[sz];simp[Tr.size],repD_of w h4,repD_of w h5⟩
theorem len_of_nodup {α:Type}[DecidableEq α]:∀ (a b:List α),a.Nodup->(∀ x∈a,x∈b)->a.length<=b.length
 | [],_,_,_=>Nat.zero_le _
 | x::a,b,hn,hs=>by
  obtain⟨h1,h2⟩:=List.pairwise_cons.1 hn
  have hx:=hs x (by simp)
  have:=len_of_nodup a (b.erase x) h2 fun y hy=>(List.mem_erase_of_ne (Ne.symm (h1 y hy))).2 (hs y (by simp[hy]))
  rw[List.length_erase_of_mem hx] at this
  have:0<b.length:=List.length_pos_of_mem hx
  simp;omega
theorem rep_keys {S:Arn}{hs:List Int}(w:Wf S hs):∀ {t:Tr} {i:Int},Rep S t i->∀ x∈t.list,x.1∈(slotsOf S).map fun s=>s.node.key
 | .nil,_,_,x,hx=>by simp[Tr.list] at hx
 | .node l k v r,i,h,x,hx=>by
  obtain⟨h1,h2,h3,h4,h5⟩:=h
  simp only[Tr.list,List.mem_append,List.mem_cons] at hx
  rcases hx with hx|rfl|hx
  ·exact rep_keys w h4 x hx
  ·have hp:=w.pos h1
   have hi:(i-1).toNat<ncap S:=by unfold ncap;omega
   refine List.mem_map.2 ⟨slotAt S (i-1).toNat,?_,?_⟩
   ·unfold slotsOf;exact List.mem_map.2 ⟨_,List.mem_range.2 hi,rfl⟩
   ·show (S.nd (((i-1).toNat:Int)+1)).key=k
    rw[show (((i-1).toNat:Nat):Int)+1=i by omega];exact h2
  ·exact rep_keys w h5 x hx
theorem rep_few {S:Arn}{hs:List Int}(w:Wf S hs){t:Tr}{i:Int}(h:Rep S t i)(hasc:Asc t.list):t.size<=(slotsOf S).length:=by
 have:=len_of_nodup (t.list.map Prod.fst) ((slotsOf S).map fun s=>s.node.key) (List.pairwise_map.2 ((show List.Pairwise (fun (a b:Ent)=>a.1<b.1) t.list from hasc).imp fun c e=>by omega)) (fun x hx=>by
  obtain⟨y,hy,rfl⟩:=List.mem_map.1 hx
  exact rep_keys w h y hy)
 rw[List.length_map,List.length_map,t.list_len] at this
 exact this
end Go.Proofs.YtedfbafngmicpaaGreat.Sx
end
section
/- Kept, lengths of dumps, what is planted. -/
namespace Go.Proofs.YtedfbafngmicpaaGreat.Sx
open Go

/-KEEP Wf exW inU live Arn.cap Arn.free Rep rdS Tr.size Tr.list alcD slotsOf orderOf PlantR newS insE flt getE TrR upM Hn-/
theorem slots_le {S:Arn}{hs:List Int}(w:Wf S hs):(slotsOf S).length<=65537:=by have:=w.n2;rw[slotsOf_len];unfold ncap;omega
theorem tr_tree {S:Arn}{hs:List Int}{t:Tr}{j:Int}{L:List Ent}(w:Wf S hs)(rp:Rep S t j)(hL:t.list=L)(bal:t.Bal)(asc:Asc L) :
  ∃ t,RepD (slotsOf S) t j/\Asc t.list/\t.Bal/\t.size<=2*(slotsOf S).length+2/\t.size<=1000000/\t.list=L:=by
 have asc':Asc t.list:=by rw[hL];exact asc
 have few:=rep_few w rp asc'
 have:=slots_le w
 exact⟨t,repD_of w rp,asc',bal,by omega,by omega,hL⟩
theorem plant_free {S:Arn}{hs:List Int}{l:List Ent}{c:Nat}{i:Int}(hp:PlantR (newS c) hs l S i):S.free=c-l.length:=by
 have h1:=hp.wf.free_nonneg.2.2.2
 have h2:S.cap=c:=by unfold Arn.cap;rw[hp.len];simp[newS]
 have h3:(newS c).nu=0:=by simp[Arn.nu,newS,List.countP_replicate]
 have:=hp.nu
 omega
end Go.Proofs.YtedfbafngmicpaaGreat.Sx
end
section
/- Law PackExports. -/
namespace Go.Proofs.YtedfbafngmicpaaGreat.Sx
open Go

/-KEEP Wf exW inU allV allB rdS Arn.free RtB ExO ImR FrB RngL RngS FoR pkZ slotsOf orderOf DgW ExB8 ExD DgD DgB DgS NmB NmR NumsD allVb-/
theorem FoR.own {sp:Int}{S:Arn}{rs:List Int}{ll:List (List Ent)}(h:FoR sp S rs ll){b:Int}{r:List Int}(er:r=(pkZ b (rs.zip ll)).map Prod.fst):r.length<=8/\(∀ j∈r,j=0∨S.us j=true)/\allV r/\allVb r/\KyN S r:=by
 have l1:=pkZ_len b (rs.zip ll)
 have us:∀ j∈r,j=0∨S.us j=true:=fun j hj=>by
  rw[er] at hj
  obtain⟨q,hq,rfl⟩:=List.mem_map.1 hj
  obtain⟨⟨t,rp,_⟩,_⟩:=h.ok (pkZ_mem hq)
  exact rp.us
 have rt:=h.rt 0 b
 rw[← er] at rt
 exact⟨by rw[er,List.length_map];exact l1,us,fun j hj=>inU_of h.wf (us j hj),fun j hj=>inU_of h.wf (us j hj),by
  obtain h0:=h.rt b 0
  rw[← er] at h0
  exact KyN.left h.wf h0.ky⟩
end Go.Proofs.YtedfbafngmicpaaGreat.Sx
end
section
/- What comes back is numbered as what was written. No program in sight. -/
namespace Go.Proofs.YtedfbafngmicpaaGreat.Sx
open Go

section
variable {us us':Int->Bool} {lf rg lf' rg':Int->Int} {P:Int->Prop} {f:Int->Int}
structure IsoG (us us':Int->Bool) (lf rg lf' rg':Int->Int) (P:Int->Prop) (f:Int->Int):Prop where
 usd:∀ i,P i->us' (f i)=us i
 kid:∀ i,P i->us i=true->(P (lf i)/\P (rg i))/\lf' (f i)=f (lf i)/\rg' (f i)=f (rg i)
 inj:∀ i j,P i->P j->us i=true->us j=true->f i=f j->i=j
theorem numG_iso (I:IsoG us us' lf rg lf' rg' P f){i:Int}{acc a:List Int}(h:NumG us lf rg i acc a):P i->(∀ j∈acc,P j/\us j=true)->NumG us' lf' rg' (f i) (acc.map f) (a.map f)/\∀ j∈a,P j/\us j=true:=by
 induction h with
 | @skip i acc c =>
  intro pi pa
  exact⟨.skip (c.imp (fun c=>(I.usd i pi).trans c) fun c=>List.mem_map.2 ⟨i,c,rfl⟩),pa⟩
 | @go i acc a1 a2 u c n1 n2 ih1 ih2 =>
  intro pi pa
  obtain⟨⟨pl,pr⟩,el,er⟩:=I.kid i pi u
  obtain⟨m1,p1⟩:=ih1 pl pa
  obtain⟨m2,p2⟩:=ih2 pr p1
  rw[List.map_append]
  refine⟨.go ((I.usd i pi).trans u) (fun q=>?_) (by rw[el];exact m1) (by rw[er];exact m2),fun j hj=>?_⟩
  ·obtain⟨j,hj,e⟩:=List.mem_map.1 q
   have:=I.inj j i (pa j hj).1 pi (pa j hj).2 u e
   exact c (this ▸ hj)
  ·rcases List.mem_append.1 hj with q|q
   ·exact p2 j q
   ·rw[List.mem_singleton.1 q];exact⟨pi,u⟩
theorem numsG_iso (I:IsoG us us' lf rg lf' rg' P f){r acc a:List Int}(h:NumsG us lf rg r acc a):(∀ j∈r,P j)->(∀ j∈acc,P j/\us j=true)->NumsG us' lf' rg' (r.map f) (acc.map f) (a.map f):=by
 induction h with
 | nil=>intro _ _;exact .nil
 | @cons i r acc a1 a2 n1 n2 ih =>
  intro pr pa
  obtain⟨m1,p1⟩:=numG_iso I n1 (pr i (by simp)) pa
  exact .cons m1 (ih (fun j hj=>pr j (List.mem_cons_of_mem _ hj)) p1)
end
variable {S S2:Arn} {hs ks rs lk la nw x:List Int} {m:Nat}
def imF (lk la nw:List Int)(i:Int):Int:=getB (0::(lk++nw)) (plcN la i).toNat
theorem ImO.la0 (h:ImO S hs ks rs lk la nw m S2 x):(0:Int)∉la:=fun c=>by
 have:=h.ex.ls.used 0 c
 rw[h.ex.wf.us0 (Int.le_refl 0)] at this;cases this
theorem ImO.len (h:ImO S hs ks rs lk la nw m S2 x):la.length=(lk++nw).length:=by
 obtain⟨z,e,l⟩:=h.ax
 rw[e,List.length_append,List.length_append,l]
theorem ImO.f0 (h:ImO S hs ks rs lk la nw m S2 x):imF lk la nw 0=0:=by
 unfold imF
 rw[plcN_none h.la0];rfl
theorem ImO.at_ (h:ImO S hs ks rs lk la nw m S2 x){p:Nat}(hp:p<la.length):imF lk la nw (getB la p)=getB (lk++nw) p:=by
 unfold imF
 rw[plcN_at h.ex.ls.nd (getB_get hp)]
 rw[show ((p:Int)+1).toNat=p+1 by omega];rfl
theorem ImO.all_nd (h:ImO S hs ks rs lk la nw m S2 x):(lk++nw).Nodup:=by
 have ls:=LsN.of h.ex.wf h.ex.nk
 refine List.nodup_append.2 ⟨ls.nd,h.nod,fun a ha b hb e=>?_⟩
 have u:=ls.used a ha
 rw[e,h.fresh b hb] at u;cases u
theorem ImO.map_la (h:ImO S hs ks rs lk la nw m S2 x):la.map (imF lk la nw)=lk++nw:=by
 refine List.ext_getElem (by rw[List.length_map,h.len]) fun p h1 h2=>?_
 rw[List.length_map] at h1
 rw[List.getElem_map]
 have e1:getB la p=la[p]:=by show la.getD p 0=_;rw[List.getD_eq_getElem?_getD,List.getElem?_eq_getElem h1];rfl
 have e2:getB (lk++nw) p=(lk++nw)[p]:=by show (lk++nw).getD p 0=_;rw[List.getD_eq_getElem?_getD,List.getElem?_eq_getElem h2];rfl
 rw[← e1,← e2,h.at_ h1]
theorem ImO.map_lk (h:ImO S hs ks rs lk la nw m S2 x):lk.map (imF lk la nw)=lk:=by
 have a:=h.map_la
 obtain⟨z,e,l⟩:=h.ax
 have b:(lk++z).map (imF lk la nw)=lk++nw:=e ▸ a
 rw[List.map_append] at b
 exact (List.append_inj b (by simp)).1
theorem ImO.fk (h:ImO S hs ks rs lk la nw m S2 x){i:Int}(hi:i∈lk):imF lk la nw i=i:=by
 have a:=h.map_lk
 obtain⟨p,hp,e⟩:=List.mem_iff_getElem.1 hi
 have b:(lk.map (imF lk la nw))[p]'(by simpa using hp)=lk[p]:=by
  have:=congrArg (fun l=>l[p]?) a
  simp only[List.getElem?_map,List.getElem?_eq_getElem hp,Option.map_some] at this
  rw[List.getElem_map]
  exact Option.some.inj this
 rw[List.getElem_map,e] at b
 exact b
theorem ImO.iso (h:ImO S hs ks rs lk la nw m S2 x):IsoG S.us S2.us (lfA S) (rgA S) (lfA S2) (rgA S2) (fun i=>i=0∨i∈la) (imF lk la nw):=by
 have w:=h.ex.wf
 have u0:S.us 0=false:=w.us0 (Int.le_refl 0)
 have ls:=LsN.of w h.ex.nk
 refine⟨fun i hi=>?_,fun i hi u=>?_,fun i j hi hj ui uj e=>?_⟩
 ·rcases hi with c|c
  ·rw[c,h.f0,u0,h.wf.us0 (Int.le_refl 0)]
  ·rw[h.ex.ls.used i c]
   have:imF lk la nw i∈lk++nw:=by rw[← h.map_la];exact List.mem_map.2 ⟨i,c,rfl⟩
   rcases List.mem_append.1 this with q|q
   ·exact (h.us _).2 (.inl (ls.used _ q))
   ·exact (h.us _).2 (.inr q)
 ·have hi:i∈la:=hi.resolve_left fun c=>by rw[c,u0] at u;cases u
  obtain⟨p,hp⟩:=List.getElem?_of_mem hi
  have pl:=(List.getElem?_eq_some_iff.1 hp).1
  have gp:getB la p=i:=getB_some hp
  obtain⟨_,k1,k2⟩:=h.ex.ls.kids w hp
  have kd:∀ {y:Int},KidN la p y->y=0∨y∈la:=fun {y} k=>by
   rcases k with ⟨q,_⟩|⟨_,r,_,q,_⟩
   ·exact .inl q
   ·exact .inr (List.mem_of_getElem? q)
  refine⟨⟨kd k1,kd k2⟩,?_⟩
  rcases Nat.lt_or_ge p lk.length with c|c
  ·have ik:i∈lk:=by rw[← gp,h.ex.old c];exact getB_mem c
   obtain⟨q,hq⟩:=List.getElem?_of_mem ik
   obtain⟨_,o1,o2⟩:=ls.kids w hq
   have fix:∀ {y:Int},KidN lk q y->y=imF lk la nw y:=fun {y} k=>by
    rcases k with ⟨e,_⟩|⟨_,r,_,e,_⟩
    ·rw[e,h.f0]
    ·exact (h.fk (List.mem_of_getElem? e)).symm
   have nd:=(h.old i u).1
   rw[h.fk ik]
   refine⟨?_,?_⟩
   ·show (S2.nd i).left=_
    rw[nd];exact fix o1
   ·show (S2.nd i).right=_
    rw[nd];exact fix o2
  ·have hl:=h.len
   rw[List.length_append] at hl
   have nd:=h.nd (p-lk.length) (by omega)
   rw[show lk.length+(p-lk.length)=p by omega,gp] at nd
   have e:imF lk la nw i=getB nw (p-lk.length):=by
    rw[← gp,h.at_ pl,show p=lk.length+(p-lk.length) by omega,getB_right]
    rw[show lk.length+(p-lk.length)-lk.length=p-lk.length by omega]
   rw[e]
   exact nd
 ·have mem:∀ {y:Int},(y=0∨y∈la)->S.us y=true->y∈la:=fun {y} hy uy=>hy.resolve_left fun c=>by rw[c,u0] at uy;cases uy
  obtain⟨p,hp⟩:=List.getElem?_of_mem (mem hi ui)
  obtain⟨q,hq⟩:=List.getElem?_of_mem (mem hj uj)
  have pl:=(List.getElem?_eq_some_iff.1 hp).1
  have ql:=(List.getElem?_eq_some_iff.1 hq).1
  rw[← getB_some hp,← getB_some hq,h.at_ pl,h.at_ ql] at e
  have hl:=h.len
  have a:=getB_get (l:=lk++nw) (p:=p) (by omega)
  have b:=getB_get (l:=lk++nw) (p:=q) (by omega)
  have pq:p=q:=by
   have e2:(lk++nw)[p]?=(lk++nw)[q]?:=by rw[a,b,e]
   exact (List.getElem?_inj (by omega) h.all_nd).1 e2
  rw[pq,hq] at hp
  exact (Option.some.inj hp).symm
theorem ImO.xs (h:ImO S hs ks rs lk la nw m S2 x):x=rs.map (imF lk la nw):=h.ex_
theorem ImO.rs_in (h:ImO S hs ks rs lk la nw m S2 x):∀ i∈rs,i=0∨i∈la:=fun i hi=>by
 rcases h.ex.live i (List.mem_append_right _ hi) with c|c
 ·exact .inl c
 ·exact .inr (h.ex.na.roots i hi c)
theorem ImO.num (h:ImO S hs ks rs lk la nw m S2 x):NumsA S2 x lk (lk++nw):=by
 have:=numsG_iso h.iso h.ex.na h.rs_in fun j hj=>by
  obtain⟨z,e,_⟩:=h.ax
  exact⟨.inr (by rw[e];exact List.mem_append_left _ hj),(LsN.of h.ex.wf h.ex.nk).used j hj⟩
 rw[h.map_la,h.map_lk,← h.xs] at this
 exact this
theorem ImO.num0 (h:ImO S hs ks rs lk la nw m S2 x){al:List Int}(n:NumsA S rs [] al):NumsA S2 x [] (al.map (imF lk la nw)):=by
 have:=numsG_iso h.iso n h.rs_in fun j hj=>by cases hj
 rw[← h.xs] at this
 exact this
theorem ImO.numk (h:ImO S hs ks rs lk la nw m S2 x)(hk:∀ i∈ks,i=0∨S.us i=true):NumsA S2 ks [] lk:=by
 have kin:∀ i∈ks,i=0∨i∈lk:=fun i hi=>by
  rcases hk i hi with c|c
  ·exact .inl c
  ·exact .inr (h.ex.nk.roots i hi c)
 have:=numsG_iso h.iso h.ex.nk (fun i hi=>(kin i hi).imp id fun q=>by
  obtain⟨z,e,_⟩:=h.ax
  rw[e];exact List.mem_append_left _ q) fun j hj=>by cases hj
 have e:ks.map (imF lk la nw)=ks:=by
  refine (List.map_congr_left fun i hi=>?_).trans (List.map_id _)
  rcases kin i hi with c|c
  ·rw[c,h.f0];rfl
  ·exact h.fk c
 rw[e,h.map_lk] at this
 exact this
end Go.Proofs.YtedfbafngmicpaaGreat.Sx
end
section
/- What comes back is written as what was written. No program in sight. -/
namespace Go.Proofs.YtedfbafngmicpaaGreat.Sx
open Go

variable {S S2:Arn} {hs ks rs lk la nw x:List Int} {m:Nat} {D:Int}
theorem ImO.plc (h:ImO S hs ks rs lk la nw m S2 x){y:Int}(hy:y=0∨y∈la):plcN (lk++nw) (imF lk la nw y)=plcN la y:=by
 rcases hy with c|c
 ·rw[c,h.f0,plcN_none h.la0]
  refine plcN_none fun q=>?_
  have u0:=h.wf.us0 (Int.le_refl 0)
  rcases List.mem_append.1 q with q|q
  ·have:=(h.us 0).2 (.inl ((LsN.of h.ex.wf h.ex.nk).used 0 q))
   rw[u0] at this;cases this
  ·have:=(h.us 0).2 (.inr q)
   rw[u0] at this;cases this
 ·obtain⟨p,hp⟩:=List.getElem?_of_mem c
  have pl:=(List.getElem?_eq_some_iff.1 hp).1
  rw[plcN_at h.ex.ls.nd hp,← getB_some hp,h.at_ pl]
  exact plcN_at h.all_nd (getB_get (by rw[← h.len];exact pl))
theorem ImO.nod_ (h:ImO S hs ks rs lk la nw m S2 x){i:Int}(hi:i∈la):nodP S2 (lk++nw) (imF lk la nw i)=nodP S la i:=by
 have w:=h.ex.wf
 have u:=h.ex.ls.used i hi
 obtain⟨⟨p1,p2⟩,e1,e2⟩:=h.iso.kid i (.inr hi) u
 have r:=h.rep i (.inr hi)
 rw[trA_node w u (h.ex.good hi).rep] at r
 obtain⟨_,k,v,_,_⟩:=r
 have k:(S2.nd (imF lk la nw i)).key=(S.nd i).key:=k
 have v:(S2.nd (imF lk la nw i)).value=(S.nd i).value:=v
 show PNT.mk _ _ _ _=PNT.mk _ _ _ _
 rw[k,v,e1,e2,h.plc p1,h.plc p2]
theorem ImO.ns (h:ImO S hs ks rs lk la nw m S2 x):((lk++nw).drop lk.length).map (nodP S2 (lk++nw))=(la.drop lk.length).map (nodP S la):=by
 have e:(lk++nw).drop lk.length=(la.drop lk.length).map (imF lk la nw):=by rw[← h.map_la,List.map_drop]
 rw[e,List.map_map]
 exact List.map_congr_left fun i hi=>h.nod_ (List.mem_of_mem_drop hi)
theorem ImO.roots (h:ImO S hs ks rs lk la nw m S2 x):x.map (plcN (lk++nw))=rs.map (plcN la):=by
 rw[h.xs,List.map_map]
 exact List.map_congr_left fun i hi=>h.plc (h.rs_in i hi)
theorem nodP_old (w:Wf S hs){l:List Int}(hn:∀ i,S.us i=true->S2.nd i=S.nd i)(hu:∀ i∈l,S.us i=true):l.map (nodP S2 l)=l.map (nodP S l):=List.map_congr_left fun i hi=>by
 have e:=hn i (hu i hi)
 show PNT.mk _ _ _ _=PNT.mk _ _ _ _
 unfold lfA rgA
 rw[e]
theorem ImO.dg (h:ImO S hs ks rs lk la nw m S2 x)(hk:∀ i∈ks,i=0∨S.us i=true)(d:DgR S ks D):DgR S2 ks D:=by
 rcases d with d|⟨a,l,n,e⟩
 ·exact .inl d
 ·refine .inr ⟨a,l,?_,?_⟩
  ·obtain rfl:=n.det h.ex.nk
   exact h.numk hk
  ·rw[e]
   unfold pkS
   rw[List.length_nil,List.drop_zero,nodP_old h.ex.wf (fun i u=>(h.old i u).1) (n.used fun j hj=>by cases hj)]
end Go.Proofs.YtedfbafngmicpaaGreat.Sx
end
section
/- Written in one arena, imported in another. No program in sight. -/
namespace Go.Proofs.YtedfbafngmicpaaGreat.Sx
open Go

variable {A B S1 S2:Arn} {ha hb ks kb rs lk la lkB x o:List Int} {D e:Int} {m:Nat}
structure KnI (A:Arn) (lk:List Int) (B:Arn) (lkB:List Int):Prop where
 len:lkB.length=lk.length
 ns:lkB.map (nodP B lkB)=lk.map (nodP A lk)
theorem KnI.at_ (h:KnI A lk B lkB){p:Nat}(hp:p<lk.length):nodP B lkB (getB lkB p)=nodP A lk (getB lk p):=by
 have q:getN (lkB.map (nodP B lkB)) p=getN (lk.map (nodP A lk)) p:=congrArg (fun l=>getN l p) h.ns
 rwa [getN_map (by rw[h.len];exact hp),getN_map hp] at q
theorem KnI.kid (h:KnI A lk B lkB){p:Nat}{x y:Int}(hx:KidN lkB p x)(hy:KidN lk p y)(e:plcN lkB x=plcN lk y):(x=0/\y=0)∨∃ r,r<p/\getB lkB r=x/\getB lk r=y/\lkB[r]?=some x/\lk[r]?=some y:=by
 rcases hx with ⟨x0,xp⟩|⟨xn,r,hr,xr,xp⟩
 ·rcases hy with ⟨y0,_⟩|⟨_,s,_,_,yp⟩
  ·exact .inl ⟨x0,y0⟩
  ·omega
 ·rcases hy with ⟨_,yp⟩|⟨_,s,hs,ys,yp⟩
  ·omega
  ·have:r=s:=by omega
   subst this
   exact .inr ⟨r,hr,getB_some xr,getB_some ys,xr,ys⟩
theorem KnI.tr (h:KnI A lk B lkB)(wA:Wf A ha)(wB:Wf B hb)(nA:NumsA A ks [] lk)(nB:NumsA B kb [] lkB)(kA:KnV A ks)(kB:KnV B kb):∀ n p,p<n->p<lk.length->trA B (getB lkB p)=trA A (getB lk p)
 | 0,_,hn,_=>by omega
 | n+1,p,hn,hp=>by
  have lA:=LsN.of wA nA
  have lB:=LsN.of wB nB
  have gA:=getB_get (l:=lk) (p:=p) hp
  have gB:=getB_get (l:=lkB) (p:=p) (by rw[h.len];exact hp)
  obtain⟨uA,a1,a2⟩:=lA.kids wA gA
  obtain⟨uB,b1,b2⟩:=lB.kids wB gB
  have q:=h.at_ hp
  unfold nodP at q
  injection q with q1 q2 q3 q4
  have go:∀ {x y:Int},KidN lkB p x->KidN lk p y->plcN lkB x=plcN lk y->trA B x=trA A y:=fun {x y} hx hy e=>by
   rcases h.kid hx hy e with ⟨x0,y0⟩|⟨r,hr,xr,yr,_,_⟩
   ·rw[x0,y0,trA_zero wA,trA_zero wB]
   ·rw[← xr,← yr]
    exact KnI.tr h wA wB nA nB kA kB n r (by omega) (by omega)
  rw[trA_node wA uA (kA.tree wA nA (List.mem_of_getElem? gA)).rep,trA_node wB uB (kB.tree wB nB (List.mem_of_getElem? gB)).rep,q1,q2,go b1 a1 q3,go b2 a2 q4]
structure RtI (A B:Arn) (ha hb ks kb rs lk la lkB:List Int) (D:Int) (o:List Int):Prop where
 p:RtP A ha ks rs lk la D o
 kn:KnB B hb kb
 nB:NumsA B kb [] lkB
 ki:KnI A lk B lkB
 kr:kb.map (plcN lkB)=ks.map (plcN lk)
theorem RtI.trs (h:RtI A B ha hb ks kb rs lk la lkB D o):lkB.map (trA B)=lk.map (trA A):=by
 refine List.ext_getElem (by rw[List.length_map,List.length_map,h.ki.len]) fun p h1 h2=>?_
 rw[List.length_map] at h1 h2
 have q:=h.ki.tr h.p.ex.wf h.kn.wf h.p.ex.nk h.nB (fun r hr=>h.p.ex.kv r (List.mem_append_left _ hr)) h.kn.kv (p+1) p (by omega) h2
 rw[List.getElem_map,List.getElem_map]
 have e1:getB lkB p=lkB[p]:=by show lkB.getD p 0=_;rw[List.getD_eq_getElem?_getD,List.getElem?_eq_getElem h1];rfl
 have e2:getB lk p=lk[p]:=by show lk.getD p 0=_;rw[List.getD_eq_getElem?_getD,List.getElem?_eq_getElem h2];rfl
 rw[← e1,← e2];exact q
theorem RtI.dg (h:RtI A B ha hb ks kb rs lk la lkB D o):DgR B kb D:=by
 rcases h.p.dg with ⟨a,b⟩|⟨a,l,n,b⟩
 ·refine .inl ⟨?_,b⟩
  have:=congrArg List.length h.kr
  rw[List.length_map,List.length_map,a] at this
  exact List.length_eq_zero_iff.1 this
 ·obtain rfl:=n.det h.p.ex.nk
  refine .inr ⟨fun c=>a ?_,lkB,h.nB,?_⟩
  ·have:=congrArg List.length h.kr
   rw[List.length_map,List.length_map,c] at this
   exact List.length_eq_zero_iff.1 this.symm
  ·rw[b]
   unfold pkS
   rw[List.length_nil,List.drop_zero,List.drop_zero,h.ki.ns,h.kr]
theorem RtI.imB (h:RtI A B ha hb ks kb rs lk la lkB D o)(hm:B.reads+m<=100000000000000000)(ab:allB o)(bl:o.length<=8000000):ImB (rdS B m) o kb :=
 im_b (h.kn.rdm hm) h.p.pk h.p.eo ab (by omega)
theorem RtI.fit (h:RtI A B ha hb ks kb rs lk la lkB D o)(fr:((la.length-lk.length:Nat):Int)<=B.free)(f:FtR lk.length D (nsA A lk la) (rs.map (plcN la)) (rdS B m) kb S1 e):e=0:=by
 obtain⟨lk',dg,kx,n',d,kr,ee⟩:=f.ex
 have n2:NumsA B kb [] lk':=n'
 obtain rfl:=h.nB.det n2
 have d2:DgR B kb dg:=d
 obtain rfl:=h.dg.det d2
 have kr2:KxR B lkB kx:=by
  have q:=kr (by rw[h.ki.len])
  exact⟨q.len,fun i hi=>by
   obtain⟨t,r,a,b,c⟩:=q.at_ i hi
   exact⟨t,Rep.same (S:=rdS B m) (S':=B) (fun _=>rfl) (fun _=>rfl) r,a,b,c⟩⟩
 have ex:ExA B hb kb [] lkB lkB:=⟨h.kn.wf,fun r hr=>h.kn.kv r (by simpa using hr),h.nB,.nil⟩
 have kx2:=KxR.is ex kr2
 have e2:kx=lk.map fun i=>exO (trA A i):=by
  rw[kx2]
  have:=congrArg (List.map exO) h.trs
  rw[List.map_map,List.map_map] at this
  exact this
 rw[ee]
 exact h.p.ex.fits h.ki.len e2 fr
structure ImQ (A B:Arn) (ha hb ks kb rs lk la lkB nw:List Int) (m:Nat) (S2:Arn) (x:List Int):Prop where
 ex:ExA A ha ks rs lk la
 ax:∃ z,la=lk++z/\z.length=nw.length
 ki:KnI A lk B lkB
 nB:NumsA B kb [] lkB
 wB:Wf B hb
 ex_:x=rs.map (imF lkB la nw)
 wf:Wf S2 (x.reverse++hb)
 rep:∀ i,i=0∨i∈la->Rep S2 (trA A i) (imF lkB la nw i)
 nd:∀ p,p<nw.length->(S2.nd (getB nw p)).left=imF lkB la nw (lfA A (getB la (lk.length+p)))/\(S2.nd (getB nw p)).right=imF lkB la nw (rgA A (getB la (lk.length+p)))
 us:∀ i,S2.us i=true↔B.us i=true∨i∈nw
 fresh:∀ i∈nw,B.us i=false
 nod:nw.Nodup
 old:∀ i,B.us i=true->S2.nd i=B.nd i/\S2.gn i=B.gn i
 stay:Stay B S2 hb
 nu:S2.nu=B.nu+nw.length
 ul:S2.used.length=B.used.length
 rd:S2.reads=B.reads+m
 hm:m<=300000000000
theorem RtI.imQ (h:RtI A B ha hb ks kb rs lk la lkB D o)(hm:B.reads+m<=90000000000000000)(hm2:m<=1000000000)(f:FtR lk.length D (nsA A lk la) (rs.map (plcN la)) (rdS B m) kb S1 0)(r:MkR lk.length (nsA A lk la) (rs.map (plcN la)) S1 kb S2 x) :
  ∃ nw q,ImQ A B ha hb ks kb rs lk la lkB nw q S2 x:=by
 obtain⟨lk',ix,q,n',_,mo,hq,kx,_⟩:=mk_r (h.kn.rdm (by omega)) h.p.pk f r
 have n2:NumsA B kb [] lk':=n'
 obtain rfl:=h.nB.det n2
 rw[rdS_rdS] at mo
 have ex:=h.p.ex
 obtain⟨nw,e,l,us,fresh,nod⟩:=mo.ix_
 have le:=ex.le
 have l0:(0:Int)∉la:=fun c=>by
  have:=ex.ls.used 0 c
  rw[ex.wf.us0 (Int.le_refl 0)] at this;cases this
 have nl:=nsA_len (S:=A) (lk:=lk) (la:=la)
 have kl:=h.ki.len
 obtain⟨z,ez⟩:=ex.na.pre
 have zl:z.length=nw.length:=by rw[l,nl,ez,List.length_append];omega
 have tt:=ex.trs (la.length-lk.length) (by omega)
 rw[show lk.length+(la.length-lk.length)=la.length by omega,List.take_length] at tt
 have kt:ktA B lkB=ktA A lk:=h.trs
 have hn:∀ c,c<nw.length->getB ix (lkB.length+1+c)=getB nw c:=fun c hc=>by
  rw[e,show lkB.length+1+c=(lkB.length+c)+1 by omega]
  exact getB_right
 refine⟨nw,m+q,ex,⟨z,ez,zl⟩,h.ki,h.nB,h.kn.wf,?_,mo.wf,fun i hi=>?_,fun c hc=>?_,us,fresh,nod,mo.old,?_,?_,mo.ul,?_,by omega⟩
 ·rw[mo.eo,e]
  unfold rtG
  rw[List.map_map];rfl
 ·have pr:=plcN_rng la i
  have:=mo.rep (plcN la i) pr.1 (by rw[nl,kl];omega)
  rw[ktA_rd,kt,nl,tt,e] at this
  rw[ex.ref (plcN_kid l0 hi) (Nat.le_refl _) (Nat.le_refl _) (by rw[List.take_length])] at this
  exact this
 ·have:=mo.nd c (by rw[← l];exact hc)
  rw[hn c hc,e,show getN (nsA A lk la) c=nodP A la (getB la (lk.length+c)) from by rw[getN_map (by rw[List.length_drop];omega),getB_drop]] at this
  exact this
 ·exact Stay.trans (stay_rd B (m+q) hb) mo.stay
 ·rw[mo.nu,← l];rfl
 ·rw[mo.rd];rfl
end Go.Proofs.YtedfbafngmicpaaGreat.Sx
end
section
/- What comes back in another arena is numbered and written as what was written. No program in sight. -/
namespace Go.Proofs.YtedfbafngmicpaaGreat.Sx
open Go

variable {A B S2:Arn} {ha hb ks kb rs lk la lkB nw x:List Int} {m:Nat} {D:Int}
theorem ImQ.la0 (h:ImQ A B ha hb ks kb rs lk la lkB nw m S2 x):(0:Int)∉la:=fun c=>by
 have:=h.ex.ls.used 0 c
 rw[h.ex.wf.us0 (Int.le_refl 0)] at this;cases this
theorem ImQ.len (h:ImQ A B ha hb ks kb rs lk la lkB nw m S2 x):la.length=(lkB++nw).length:=by
 obtain⟨z,e,l⟩:=h.ax
 rw[e,List.length_append,List.length_append,l,h.ki.len]
theorem ImQ.f0 (h:ImQ A B ha hb ks kb rs lk la lkB nw m S2 x):imF lkB la nw 0=0:=by
 unfold imF
 rw[plcN_none h.la0];rfl
theorem ImQ.at_ (h:ImQ A B ha hb ks kb rs lk la lkB nw m S2 x){p:Nat}(hp:p<la.length):imF lkB la nw (getB la p)=getB (lkB++nw) p:=by
 unfold imF
 rw[plcN_at h.ex.ls.nd (getB_get hp)]
 rw[show ((p:Int)+1).toNat=p+1 by omega];rfl
theorem ImQ.lsB (h:ImQ A B ha hb ks kb rs lk la lkB nw m S2 x):LsN B lkB:=LsN.of h.wB h.nB
theorem ImQ.all_nd (h:ImQ A B ha hb ks kb rs lk la lkB nw m S2 x):(lkB++nw).Nodup:=by
 have ls:=h.lsB
 refine List.nodup_append.2 ⟨ls.nd,h.nod,fun a ha b hb e=>?_⟩
 have u:=ls.used a ha
 rw[e,h.fresh b hb] at u;cases u
theorem ImQ.map_la (h:ImQ A B ha hb ks kb rs lk la lkB nw m S2 x):la.map (imF lkB la nw)=lkB++nw:=by
 refine List.ext_getElem (by rw[List.length_map,h.len]) fun p h1 h2=>?_
 rw[List.length_map] at h1
 rw[List.getElem_map]
 have e1:getB la p=la[p]:=by show la.getD p 0=_;rw[List.getD_eq_getElem?_getD,List.getElem?_eq_getElem h1];rfl
 have e2:getB (lkB++nw) p=(lkB++nw)[p]:=by show (lkB++nw).getD p 0=_;rw[List.getD_eq_getElem?_getD,List.getElem?_eq_getElem h2];rfl
 rw[← e1,← e2,h.at_ h1]
theorem ImQ.map_lk (h:ImQ A B ha hb ks kb rs lk la lkB nw m S2 x):lk.map (imF lkB la nw)=lkB:=by
 have a:=h.map_la
 obtain⟨z,e,l⟩:=h.ax
 have b:(lk++z).map (imF lkB la nw)=lkB++nw:=e ▸ a
 rw[List.map_append] at b
 exact (List.append_inj b (by rw[List.length_map,h.ki.len])).1
theorem ImQ.fk (h:ImQ A B ha hb ks kb rs lk la lkB nw m S2 x){p:Nat}(hp:p<lk.length):imF lkB la nw (getB lk p)=getB lkB p:=by
 have le:=h.ex.le
 rw[← h.ex.old hp,h.at_ (by omega),getB_left (by rw[h.ki.len];exact hp)]
theorem ImQ.iso (h:ImQ A B ha hb ks kb rs lk la lkB nw m S2 x):IsoG A.us S2.us (lfA A) (rgA A) (lfA S2) (rgA S2) (fun i=>i=0∨i∈la) (imF lkB la nw):=by
 have w:=h.ex.wf
 have u0:A.us 0=false:=w.us0 (Int.le_refl 0)
 have ls:=LsN.of w h.ex.nk
 have lsB:=h.lsB
 have klen:=h.ki.len
 refine⟨fun i hi=>?_,fun i hi u=>?_,fun i j hi hj ui uj e=>?_⟩
 ·rcases hi with c|c
  ·rw[c,h.f0,u0,h.wf.us0 (Int.le_refl 0)]
  ·rw[h.ex.ls.used i c]
   have:imF lkB la nw i∈lkB++nw:=by rw[← h.map_la];exact List.mem_map.2 ⟨i,c,rfl⟩
   rcases List.mem_append.1 this with q|q
   ·exact (h.us _).2 (.inl (lsB.used _ q))
   ·exact (h.us _).2 (.inr q)
 ·have hi:i∈la:=hi.resolve_left fun c=>by rw[c,u0] at u;cases u
  obtain⟨p,hp⟩:=List.getElem?_of_mem hi
  have pl:=(List.getElem?_eq_some_iff.1 hp).1
  have gp:getB la p=i:=getB_some hp
  obtain⟨_,k1,k2⟩:=h.ex.ls.kids w hp
  have kd:∀ {y:Int},KidN la p y->y=0∨y∈la:=fun {y} k=>by
   rcases k with ⟨q,_⟩|⟨_,r,_,q,_⟩
   ·exact .inl q
   ·exact .inr (List.mem_of_getElem? q)
  refine⟨⟨kd k1,kd k2⟩,?_⟩
  rcases Nat.lt_or_ge p lk.length with c|c
  ·have ik:getB lk p=i:=by rw[← gp,h.ex.old c]
   have hq:lk[p]?=some i:=by rw[← ik];exact getB_get c
   have hB:lkB[p]?=some (getB lkB p):=getB_get (by rw[klen];exact c)
   obtain⟨_,o1,o2⟩:=ls.kids w hq
   obtain⟨uB,b1,b2⟩:=lsB.kids h.wB hB
   have q:=h.ki.at_ c
   rw[ik] at q
   unfold nodP at q
   injection q with _ _ q3 q4
   have fix:∀ {y z:Int},KidN lkB p z->KidN lk p y->plcN lkB z=plcN lk y->z=imF lkB la nw y:=fun {y z} hz hy e=>by
    rcases h.ki.kid hz hy e with ⟨z0,y0⟩|⟨r,hr,zr,yr,_,_⟩
    ·rw[z0,y0,h.f0]
    ·rw[← zr,← yr,h.fk (by omega)]
   have nd:=(h.old _ uB).1
   rw[← ik,h.fk c,ik]
   refine⟨?_,?_⟩
   ·show (S2.nd (getB lkB p)).left=_
    rw[nd];exact fix b1 o1 q3
   ·show (S2.nd (getB lkB p)).right=_
    rw[nd];exact fix b2 o2 q4
  ·have hl:=h.len
   rw[List.length_append] at hl
   have nd:=h.nd (p-lk.length) (by omega)
   rw[show lk.length+(p-lk.length)=p by omega,gp] at nd
   have e:imF lkB la nw i=getB nw (p-lk.length):=by
    rw[← gp,h.at_ pl,show p=lkB.length+(p-lk.length) by omega,getB_right]
    rw[show lkB.length+(p-lk.length)-lk.length=p-lk.length by omega]
   rw[e]
   exact nd
 ·have mem:∀ {y:Int},(y=0∨y∈la)->A.us y=true->y∈la:=fun {y} hy uy=>hy.resolve_left fun c=>by rw[c,u0] at uy;cases uy
  obtain⟨p,hp⟩:=List.getElem?_of_mem (mem hi ui)
  obtain⟨q,hq⟩:=List.getElem?_of_mem (mem hj uj)
  have pl:=(List.getElem?_eq_some_iff.1 hp).1
  have ql:=(List.getElem?_eq_some_iff.1 hq).1
  rw[← getB_some hp,← getB_some hq,h.at_ pl,h.at_ ql] at e
  have hl:=h.len
  have a:=getB_get (l:=lkB++nw) (p:=p) (by omega)
  have b:=getB_get (l:=lkB++nw) (p:=q) (by omega)
  have pq:p=q:=by
   have e2:(lkB++nw)[p]?=(lkB++nw)[q]?:=by rw[a,b,e]
   exact (List.getElem?_inj (by omega) h.all_nd).1 e2
  rw[pq,hq] at hp
  exact (Option.some.inj hp).symm
theorem ImQ.rs_in (h:ImQ A B ha hb ks kb rs lk la lkB nw m S2 x):∀ i∈rs,i=0∨i∈la:=fun i hi=>by
 rcases h.ex.live i (List.mem_append_right _ hi) with c|c
 ·exact .inl c
 ·exact .inr (h.ex.na.roots i hi c)
theorem ImQ.num (h:ImQ A B ha hb ks kb rs lk la lkB nw m S2 x):NumsA S2 x lkB (lkB++nw):=by
 have:=numsG_iso h.iso h.ex.na h.rs_in fun j hj=>by
  obtain⟨z,e,_⟩:=h.ax
  exact⟨.inr (by rw[e];exact List.mem_append_left _ hj),(LsN.of h.ex.wf h.ex.nk).used j hj⟩
 rw[h.map_la,h.map_lk,← h.ex_] at this
 exact this
theorem ImQ.num0 (h:ImQ A B ha hb ks kb rs lk la lkB nw m S2 x){al:List Int}(n:NumsA A rs [] al):NumsA S2 x [] (al.map (imF lkB la nw)):=by
 have:=numsG_iso h.iso n h.rs_in fun j hj=>by cases hj
 rw[← h.ex_] at this
 exact this
theorem ImQ.plc (h:ImQ A B ha hb ks kb rs lk la lkB nw m S2 x){y:Int}(hy:y=0∨y∈la):plcN (lkB++nw) (imF lkB la nw y)=plcN la y:=by
 rcases hy with c|c
 ·rw[c,h.f0,plcN_none h.la0]
  refine plcN_none fun q=>?_
  have u0:=h.wf.us0 (Int.le_refl 0)
  rcases List.mem_append.1 q with q|q
  ·have:=(h.us 0).2 (.inl (h.lsB.used 0 q))
   rw[u0] at this;cases this
  ·have:=(h.us 0).2 (.inr q)
   rw[u0] at this;cases this
 ·obtain⟨p,hp⟩:=List.getElem?_of_mem c
  have pl:=(List.getElem?_eq_some_iff.1 hp).1
  rw[plcN_at h.ex.ls.nd hp,← getB_some hp,h.at_ pl]
  exact plcN_at h.all_nd (getB_get (by rw[← h.len];exact pl))
theorem ImQ.nod_ (h:ImQ A B ha hb ks kb rs lk la lkB nw m S2 x){i:Int}(hi:i∈la):nodP S2 (lkB++nw) (imF lkB la nw i)=nodP A la i:=by
 have w:=h.ex.wf
 have u:=h.ex.ls.used i hi
 obtain⟨⟨p1,p2⟩,e1,e2⟩:=h.iso.kid i (.inr hi) u
 have r:=h.rep i (.inr hi)
 rw[trA_node w u (h.ex.good hi).rep] at r
 obtain⟨_,k,v,_,_⟩:=r
 have k:(S2.nd (imF lkB la nw i)).key=(A.nd i).key:=k
 have v:(S2.nd (imF lkB la nw i)).value=(A.nd i).value:=v
 show PNT.mk _ _ _ _=PNT.mk _ _ _ _
 rw[k,v,e1,e2,h.plc p1,h.plc p2]
theorem ImQ.kni (h:ImQ A B ha hb ks kb rs lk la lkB nw m S2 x):KnI A la S2 (lkB++nw):=by
 refine⟨h.len.symm,?_⟩
 rw[← h.map_la,List.map_map]
 refine List.map_congr_left fun i hi=>?_
 rw[h.map_la]
 exact h.nod_ hi
theorem ImQ.roots (h:ImQ A B ha hb ks kb rs lk la lkB nw m S2 x):x.map (plcN (lkB++nw))=rs.map (plcN la):=by
 rw[h.ex_,List.map_map]
 exact List.map_congr_left fun i hi=>h.plc (h.rs_in i hi)
theorem ImQ.full (h:ImQ A B ha hb [] [] rs [] la [] nw m S2 x):NumsA A rs [] la/\NumsA S2 x [] nw/\KnI A la S2 nw/\x.map (plcN nw)=rs.map (plcN la):=by
 have a:=h.num;have b:=h.kni;have c:=h.roots
 rw[List.nil_append] at a b c
 exact⟨h.ex.na,a,b,c⟩
end Go.Proofs.YtedfbafngmicpaaGreat.Sx
end
section
/- From one arena to another, twice: a complete pack, then one relative to it (row 55). No program in sight. -/
namespace Go.Proofs.YtedfbafngmicpaaGreat.Sx
open Go

variable {A B S2:Arn} {ha hb ks kb rs lk la lkB nw x:List Int} {m:Nat}
theorem ImQ.okT (h:ImQ A B ha hb ks kb rs lk la lkB nw m S2 x)(ok:∀ i∈rs,OkT A i):∀ r∈x,OkT S2 r:=fun r hr=>by
 rw[h.ex_] at hr
 obtain⟨i,hi,rfl⟩:=List.mem_map.1 hr
 obtain⟨t,rp,a,b,g⟩:=ok i hi
 have q:=h.rep i (h.rs_in i hi)
 rw[trA_eq h.ex.wf rp] at q
 exact⟨t,q,a,b,g⟩
theorem ImQ.next (h:ImQ A B ha hb [] [] rs [] la [] nw m S2 x)(ok:∀ i∈rs,OkT A i)(hl:hb.length<=800000)(rl:rs.length<=4096)(hr:S2.reads<=10000000000000000) :
  KnB S2 (x.reverse++hb) x/\NumsA S2 x [] nw/\KnI A la S2 nw/\x.map (plcN nw)=rs.map (plcN la)/\NumsA A rs [] la:=by
 obtain⟨a,b,c,d⟩:=h.full
 have xl:x.length=rs.length:=by rw[h.ex_,List.length_map]
 have rt:RtB S2 (x.reverse++hb) x []:=rtB_of h.wf (by rw[List.length_append,List.length_reverse];omega) hr (by omega) (by simp) fun r hr=>h.okT ok r (by simpa using hr)
 exact⟨rt.kn,b,c,d,a⟩
structure IxB (A:Arn) (ha ks rs:List Int) (B:Arn) (hb kb:List Int) (S:Arn) (b:List Int):Prop where
 ab:allB b
 bl:b.length<=8000000
 st:∃ m,S=rdS B m/\m<=400000
 rd:B.reads<=10000000000000000
 p:∃ lk la lkB D,RtI A B ha hb ks kb rs lk la lkB D b/\((la.length-lk.length:Nat):Int)<=B.free
def ImX (A:Arn)(ha ks rs:List Int)(B:Arn)(hb kb:List Int)(S2:Arn)(x:List Int):Prop:=∃ lk la lkB nw m,ImQ A B ha hb ks kb rs lk la lkB nw m S2 x
def tImx:Tfm C0:=fun args H K=>match args with
 | [.at (.ptr 0 0),.at (.slc 7),.at (.slc 8)]=>imM H fun S b kb=>∃ A ha ks rs B hb,IxB A ha ks rs B hb kb S b/\∀ S2 x,ImX A ha ks rs B hb kb S2 x->K (.tup [.at (.slc 9),.at (vI 0)]) (chS S2++[.row false EC.u8 b,.row false EC.u32 kb,.row true EC.u32 x]) W7
 | _=>False
theorem s_imx:SoundT C0 15 tImx:=s_imp.weak fun args H K h=>by
 unfold tImx at h
 unfold tImp
 split at h<;>try exact h.elim
 unfold imM arMr at h ⊢
 split at h<;>try exact h.elim
 split at h<;>try exact h.elim
 obtain⟨A,ha,ks,rs,B,hb,hx,h5⟩:=h
 obtain⟨lk,la,lkB,D,q,fr⟩:=hx.p
 obtain⟨m,es,hm⟩:=hx.st
 have rd:=hx.rd
 rw[es]
 refine⟨q.imB (by omega) hx.ab hx.bl,fun e p hp ne=>?_,fun e p S' hp f ne=>?_,fun p S' S2 o hp f r=>h5 S2 o ?_⟩
 ·rw[q.p.dec] at hp
  injection hp with hp _
  exact absurd hp.symm ne
 ·rw[q.p.dec] at hp
  injection hp with _ hp
  subst hp
  exact absurd (q.fit fr f) ne
 ·rw[q.p.dec] at hp
  injection hp with _ hp
  subst hp
  obtain⟨nw,c,w⟩:=q.imQ (by omega) (by omega) f r
  exact⟨lk,la,lkB,nw,c,w⟩
end Go.Proofs.YtedfbafngmicpaaGreat.Sx
end
