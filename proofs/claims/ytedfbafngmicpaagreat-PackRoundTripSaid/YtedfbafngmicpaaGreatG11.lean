/- A part of the proof. -/
import Derived.Test.YtedfbafngmicpaaGreatG4
import Derived.Test.YtedfbafngmicpaaGreatG5
import Derived.Test.YtedfbafngmicpaaGreatG6
import Derived.Test.YtedfbafngmicpaaGreatG8
import Derived.Test.YtedfbafngmicpaaGreatG10
section
/- The order of the free slots, and the arena's Dump. -/
/-KEEP exW inU Arn.cap Arn.free-/
namespace Go.Proofs.YtedfbafngmicpaaGreat.Sx
open Go

def upTo (fr:Int)(n:Nat):List Int:=(List.range n).map fun (k:Nat)=>fr+1+(k:Int)
def orderL (us:List Bool)(rl:List Int)(fr:Int):List Int:=rl.reverse++upTo fr ((us.length:Int)-1-fr).toNat
structure XOr1 (rl:List Int) where
 k:Nat
 h:k<=rl.length
structure XOr2 (us:List Bool) (fr:Int) where
 n:Nat
 h:n<=((us.length:Int)-1-fr).toNat
noncomputable def aOrder (us:List Bool)(gn rl:List Int)(fr:Int):Ann C0:={ Γ:=[(75,frameT [] tSlFree),(77,frameT [] tSlCap)],inv:=fun n=>match n with
 | 3=>some { X:=XOr1 rl,sl:=[4,3],tf:=fun x=>[vi .i64 ((x.k:Int)-1),.one (.at (.slc 4))],hf:=fun x=>slC us gn rl fr++[.row true EC.u32 (rl.drop x.k).reverse],μ:=fun x=>x.k }
 | 7=>some { X:=XOr2 us fr,sl:=[5,3],tf:=fun x=>[vi .i64 (fr+1+(x.n:Int)),.one (.at (.slc 4))],hf:=fun x=>slC us gn rl fr++[.row true EC.u32 (rl.reverse++upTo fr x.n)],μ:=fun x=>((us.length:Int)-1-fr).toNat-x.n }
 | _=>none }
def tOrder:Tfm C0:=fun args H K=>match args with
 | [.at (.ptr 0 0)]=>slM H fun us gn rl fr=>1<=us.length/\us.length<=65537/\rl.length<=65537/\0<=fr/\fr<=us.length-1/\∀ o:List Int,o=orderL us rl fr->K (.one (.at (.slc 4))) (slC us gn rl fr++[.row true EC.u32 o]) []
 | _=>False
def SlotT.zero:SlotT:=⟨false,0,0,NodeT.zero⟩
def slotAt (S:Arn)(k:Nat):SlotT:=⟨S.us ((k:Int)+1),if S.us ((k:Int)+1) then S.ct ((k:Int)+1) else 0,S.gn ((k:Int)+1),S.nd ((k:Int)+1)⟩
def ncap (S:Arn):Nat:=S.used.length-1
def slotsOf (S:Arn):List SlotT:=(List.range (ncap S)).map (slotAt S)
def orderOf (S:Arn):List Int:=orderL S.used S.rel S.fresh
structure XDu (S:Arn) where
 i:Nat
 h:i<=ncap S
def fillS (S:Arn)(i:Nat):List SlotT:=(List.range i).map (slotAt S)++List.replicate (ncap S-i) SlotT.zero
noncomputable def aDump (S:Arn):Ann C0:={ quiet:=[59,60,61,29],Γ:=[(29,frameT [] tCap),(58,frameT [] tOrder),(59,frameT [] tSlAllocated),(60,frameT [] tCount),(61,frameT [] tGen)],inv:=fun n=>match n with
 | 1002=>some { X:=Unit,sl:=[3,2],tf:=fun _=>[.one (.at (.ptr 7 0)),.one (.at (.ptr 10 0))],hf:=fun _=>chS S++[.box [.slc 8,.slc 9],.row true EC.slot (fillS S 0),.row true EC.u32 (orderOf S),.box [.slc 11,.slc 12],.row true EC.slot [],.row true EC.u32 []] }
 | 3=>some { X:=XDu S,sl:=[18,3,2],tf:=fun x=>[vi .i64 x.i,.one (.at (.ptr 7 0)),.one (.at (.ptr 10 0))],hf:=fun x=>chS S++[.box [.slc 8,.slc 9],.row true EC.slot (fillS S x.i),.row true EC.u32 (orderOf S),.box [.slc 11,.slc 12],.row true EC.slot [],.row true EC.u32 []],μ:=fun x=>ncap S-x.i }
 | _=>none }
def tDump:Tfm C0:=fun args H K=>match args with
 | [.at (.ptr 0 0)]=>arM H fun S=>exW S/\∀ (d:List SlotT) (o:List Int),d=slotsOf S->o=orderOf S->K (.one (.agg [.slc 7,.slc 8])) (chS S++[.row true EC.slot d,.row true EC.u32 o]) []
 | _=>False
theorem upTo_snoc (fr:Int)(n:Nat):upTo fr n++[fr+1+(n:Int)]=upTo fr (n+1):=by
 unfold upTo;rw[List.range_succ,List.map_append];rfl
theorem vc_order (us:List Bool)(gn rl:List Int)(fr:Int)(K:KT)(h1:1<=us.length)(h2:us.length<=65537)(h3:rl.length<=65537)(h4:0<=fr)(h5:fr<=us.length-1)(h:∀ o:List Int,o=orderL us rl fr->K (.one (.at (.slc 4))) (slC us gn rl fr++[.row true EC.u32 o]) []) :
  vc C0 (aOrder us gn rl fr) Tryz.f58 [.at (.ptr 0 0)] (slC us gn rl fr) (normK 4 K):=by
 refine Eq.mp (show (1<=us.length/\us.length<=65537/\rl.length<=65537/\0<=fr/\fr<=65537/\(0:Int)<=0/\0<=(rl.length:Int)+((us.length:Int)-1)-fr/\((rl.length:Int)+((us.length:Int)-1)-fr)*(↑(bytesOf C0 EC.u32):Int)<=140737488355328/\(∃ x:XOr1 rl,True/\(True/\True/\(VI (IntKind.i64.wrap ((rl.length:Int)-1)))=(VI ((x.k:Int)-1))/\True)/\(True/\True/\True/\VU (fr)=VU (fr)/\True)/\us=us/\gn=gn/\rl=rl/\[]=((List.drop x.k rl).reverse)/\True)/\∀ x:XOr1 rl,True->brS (decide ((x.k:Int)-1≥0)) (0<=(x.k:Int)-1/\(x.k:Int)-1<(rl.length:Int)/\((List.drop x.k rl).reverse.length+[rl.getD ((x.k:Int)-1).toNat 0].length)*bytesOf C0 EC.u32<=140737488355328/\∃ x':XOr1 rl,True/\((True/\True/\(VI (IntKind.i64.wrap ((x.k:Int)-1-1)))=(VI ((x'.k:Int)-1))/\True)/\(True/\True/\True/\VU (fr)=VU (fr)/\True)/\us=us/\gn=gn/\rl=rl/\((List.drop x.k rl).reverse++[rl.getD ((x.k:Int)-1).toNat 0])=((List.drop x'.k rl).reverse)/\True)/\x'.k<x.k) ((∃ x1:XOr2 us fr,True/\(True/\True/\(VI (IntKind.i64.wrap (IntKind.i64.wrap fr+1)))=(VI (fr+1+(x1.n:Int)))/\True)/\(True/\True/\True/\VU (fr)=VU (fr)/\True)/\us=us/\gn=gn/\rl=rl/\((List.drop x.k rl).reverse)=(rl.reverse++upTo fr x1.n)/\True)/\∀ x1:XOr2 us fr,True->1<=us.length/\us.length<=65537/\brS (decide (fr+1+(x1.n:Int)<=(us.length:Int)-1)) (((rl.reverse++upTo fr x1.n).length+[IntKind.u32.wrap (fr+1+(x1.n:Int))].length)*bytesOf C0 EC.u32<=140737488355328/\∃ x':XOr2 us fr,True/\((True/\True/\(VI (IntKind.i64.wrap (fr+1+(x1.n:Int)+1)))=(VI (fr+1+(x'.n:Int)))/\True)/\(True/\True/\True/\VU (fr)=VU (fr)/\
 True)/\us=us/\gn=gn/\rl=rl/\(rl.reverse++upTo fr x1.n++[IntKind.u32.wrap (fr+1+(x1.n:Int))])=(rl.reverse++upTo fr x'.n)/\True)/\((us.length:Int)-1-fr).toNat-x'.n<((us.length:Int)-1-fr).toNat-x1.n) (K (.one (.at (.slc 4))) [(.box [(.slc 1),(.slc 2),(.slc 3),(.val (VU (fr)))]),(.row true EC.bool (us)),(.row true EC.u32 (gn)),(.row true EC.u32 (rl)),(.row true EC.u32 (rl.reverse++upTo fr x1.n))] [])))=_ by kernel_rfl) ?_
 rw[bytes_u32]
 rw[wrap_id (x:=(rl.length:Int)-1) (by omega) (by omega),wrap_id (x:=fr) (by omega) (by omega),wrap_id (x:=fr+1) (by omega) (by omega)]
 refine⟨h1,h2,h3,h4,by omega,by decide,by omega,by omega,⟨⟨rl.length,Nat.le_refl _⟩,trivial,⟨trivial,trivial,rfl,trivial⟩,⟨trivial,trivial,trivial,rfl,trivial⟩,rfl,rfl,rfl,by simp,trivial⟩,fun x _=>brS_of (fun c=>?_) fun c=>?_⟩
 ·have c:1<=x.k:=by have:=of_decide_eq_true c;omega
  have hk:=x.h
  have hg:rl[x.k-1]?=some (rl.getD (x.k-1) 0):=by simp[List.getD_eq_getElem?_getD,List.getElem?_eq_getElem (show x.k-1<rl.length by omega)]
  rw[wrap_id (by omega) (by omega),show ((x.k:Int)-1).toNat=x.k-1 by omega]
  refine⟨by omega,by omega,?_,⟨x.k-1,by omega⟩,trivial,⟨⟨trivial,trivial,?_,trivial⟩,⟨trivial,trivial,trivial,rfl,trivial⟩,rfl,rfl,rfl,?_,trivial⟩,?_⟩
  ·simp;omega
  ·congr 1;show (x.k:Int)-1-1=((x.k-1:Nat):Int)-1;omega
  ·show _=(rl.drop (x.k-1)).reverse
   rw[drop_cons hg,List.reverse_cons,show x.k-1+1=x.k by omega]
  ·show x.k-1<x.k;omega
 ·have c:x.k=0:=by have:=of_decide_eq_false c;omega
  refine⟨⟨⟨0,Nat.zero_le _⟩,trivial,⟨trivial,trivial,by congr 1;show fr+1=fr+1+((0:Nat):Int);omega,trivial⟩,⟨trivial,trivial,trivial,rfl,trivial⟩,rfl,rfl,rfl,by rw[c];simp[upTo],trivial⟩,fun y _=>⟨h1,h2,brS_of (fun d=>?_) fun d=>?_⟩⟩
  ·have d:fr+1+(y.n:Int)<=us.length-1:=of_decide_eq_true d
   have hul:(upTo fr y.n).length=y.n:=by simp[upTo]
   rw[wrap_u32 (by omega) (by omega),wrap_id (by omega) (by omega)]
   refine⟨?_,⟨y.n+1,by omega⟩,trivial,⟨⟨trivial,trivial,?_,trivial⟩,⟨trivial,trivial,trivial,rfl,trivial⟩,rfl,rfl,rfl,?_,trivial⟩,?_⟩
   ·simp[hul];omega
   ·congr 1;show fr+1+(y.n:Int)+1=fr+1+((y.n+1:Nat):Int);omega
   ·show _=rl.reverse++upTo fr (y.n+1)
    rw[← upTo_snoc,List.append_assoc]
   ·show _-(y.n+1)<_;omega
  ·have d:¬ fr+1+(y.n:Int)<=us.length-1:=of_decide_eq_false d
   have hn:y.n=((us.length:Int)-1-fr).toNat:=by have:=y.h;omega
   exact h _ (by unfold orderL;rw[hn])
theorem s_order:SoundT C0 58 tOrder:=by
 refine .of Tryz.func58 (by decide) rfl fun args H K h hB=>?_
 unfold tOrder at h
 split at h<;>try exact h.elim
 unfold slM at h
 split at h<;>try exact h.elim
 rename_i fr us gn rl
 obtain⟨h1,h2,h3,h4,h5,h6⟩:=h
 exact⟨aOrder us gn rl fr,⟨frame C0.ok s_slFree _,frame C0.ok s_slCap _,trivial⟩,vc_order us gn rl fr K h1 h2 h3 h4 h5 h6⟩
theorem fill_zero (S:Arn):List.replicate (ncap S) SlotT.zero=fillS S 0:=by simp[fillS]
theorem fill_len (S:Arn)(i:Nat)(h:i<=ncap S):(fillS S i).length=ncap S:=by simp[fillS];omega
theorem fill_next (S:Arn){i:Nat}(h:i<ncap S):(fillS S i).set i (slotAt S i)=fillS S (i+1):=by
 unfold fillS
 obtain⟨m,hm⟩:∃ m,ncap S-i=m+1:=⟨ncap S-i-1,by omega⟩
 rw[hm,show ncap S-(i+1)=m by omega,List.range_succ,List.map_append,List.replicate_succ,List.set_append_right _ _ (by simp)]
 simp
theorem fill_all (S:Arn):fillS S (ncap S)=slotsOf S:=by simp[fillS,slotsOf]
theorem vc_dump (S:Arn)(K:KT)(hw:exW S)(h:∀ (d:List SlotT) (o:List Int),d=slotsOf S->o=orderOf S->K (.one (.agg [.slc 7,.slc 8])) (chS S++[.row true EC.slot d,.row true EC.u32 o]) []) :
  vc C0 (aDump S) Tryz.f17 [.at (.ptr 0 0)] (chS S) (normK 7 K):=by
 refine Eq.mp (show (((exW S/\(0<=S.cap/\S.cap<=S.cap/\S.cap*(↑(bytesOf C0 EC.slot):Int)<=140737488355328/\((1<=S.used.length/\S.used.length<=65537/\S.rel.length<=65537/\0<=S.fresh/\S.fresh<=(S.used.length:Int)-1/\∀ o:List Int,o=orderL S.used S.rel S.fresh->∃ x:Unit,True/\(True/\True/\True/\True)/\(True/\True/\True/\VW (S.reads)=VW (S.reads)/\True)/\(True/\True/\True/\VU (S.fresh)=VU (S.fresh)/\True)/\S.nodes=S.nodes/\S.counts=S.counts/\S.used=S.used/\S.gen=S.gen/\S.rel=S.rel/\(True/\True/\True)/\List.replicate S.cap.toNat SlotT.zero=fillS S 0/\o=orderOf S/\(True/\True/\True)/\([]:List SlotT)=[]/\([]:List Int)=[]/\True)/\1<=S.used.length/\S.used.length<=65537/\S.rel.length<=65537/\0<=S.fresh/\S.fresh<=(S.used.length:Int)-1/\∀ o:List Int,o=orderL S.used S.rel S.fresh->∃ x:Unit,True/\(True/\True/\True/\True)/\(True/\True/\True/\VW (S.reads)=VW (S.reads)/\True)/\(True/\True/\True/\VU (S.fresh)=VU (S.fresh)/\True)/\S.nodes=S.nodes/\S.counts=S.counts/\S.used=S.used/\S.gen=S.gen/\S.rel=S.rel/\(True/\True/\True)/\List.replicate S.cap.toNat SlotT.zero=fillS S 0/\o=orderOf S/\(True/\True/\True)/\([]:List SlotT)=[]/\([]:List Int)=[]/\True)/\1<=S.used.length/\S.used.length<=65537/\S.rel.length<=65537/\0<=S.fresh/\S.fresh<=(S.used.length:Int)-1/\∀ o:List Int,o=orderL S.used S.rel S.fresh->∃ x:Unit,True/\(True/\True/\True/\True)/\(True/\True/\True/\VW (S.reads)=VW (S.reads)/\True)/\(True/\True/\True/\VU (S.fresh)=VU (S.fresh)/\True)/\S.nodes=S.nodes/\S.counts=S.counts/\S.used=S.used/\S.gen=S.gen/\S.rel=S.rel/\
 (True/\True/\True)/\List.replicate S.cap.toNat SlotT.zero=fillS S 0/\o=orderOf S/\(True/\True/\True)/\([]:List SlotT)=[]/\([]:List Int)=[]/\True)/\((0<=S.cap/\S.cap<=S.cap/\S.cap*(↑(bytesOf C0 EC.slot):Int)<=140737488355328/\(1<=S.used.length/\S.used.length<=65537/\S.rel.length<=65537/\0<=S.fresh/\S.fresh<=(S.used.length:Int)-1/\∀ o:List Int,o=orderL S.used S.rel S.fresh->∃ x:Unit,True/\(True/\True/\True/\True)/\(True/\True/\True/\VW (S.reads)=VW (S.reads)/\True)/\(True/\True/\True/\VU (S.fresh)=VU (S.fresh)/\True)/\S.nodes=S.nodes/\S.counts=S.counts/\S.used=S.used/\S.gen=S.gen/\S.rel=S.rel/\(True/\True/\True)/\List.replicate S.cap.toNat SlotT.zero=fillS S 0/\o=orderOf S/\(True/\True/\True)/\([]:List SlotT)=[]/\([]:List Int)=[]/\True)/\1<=S.used.length/\S.used.length<=65537/\S.rel.length<=65537/\0<=S.fresh/\S.fresh<=(S.used.length:Int)-1/\∀ o:List Int,o=orderL S.used S.rel S.fresh->∃ x:Unit,True/\(True/\True/\True/\True)/\(True/\True/\True/\VW (S.reads)=VW (S.reads)/\True)/\(True/\True/\True/\VU (S.fresh)=VU (S.fresh)/\True)/\S.nodes=S.nodes/\S.counts=S.counts/\S.used=S.used/\S.gen=S.gen/\S.rel=S.rel/\(True/\True/\True)/\List.replicate S.cap.toNat SlotT.zero=fillS S 0/\o=orderOf S/\(True/\True/\True)/\([]:List SlotT)=[]/\([]:List Int)=[]/\True)/\(1<=S.used.length/\S.used.length<=65537/\S.rel.length<=65537/\0<=S.fresh/\S.fresh<=(S.used.length:Int)-1/\∀ o:List Int,o=orderL S.used S.rel S.fresh->(0<=S.cap/\S.cap<=S.cap/\S.cap*(↑(bytesOf C0 EC.slot):Int)<=140737488355328/\∃ x:Unit,True/\
 (True/\True/\True/\True)/\(True/\True/\True/\VW (S.reads)=VW (S.reads)/\True)/\(True/\True/\True/\VU (S.fresh)=VU (S.fresh)/\True)/\S.nodes=S.nodes/\S.counts=S.counts/\S.used=S.used/\S.gen=S.gen/\S.rel=S.rel/\(True/\True/\True)/\List.replicate S.cap.toNat SlotT.zero=fillS S 0/\o=orderOf S/\(True/\True/\True)/\([]:List SlotT)=[]/\([]:List Int)=[]/\True)/\0<=S.cap/\S.cap<=S.cap/\S.cap*(↑(bytesOf C0 EC.slot):Int)<=140737488355328/\∃ x:Unit,True/\(True/\True/\True/\True)/\(True/\True/\True/\VW (S.reads)=VW (S.reads)/\True)/\(True/\True/\True/\VU (S.fresh)=VU (S.fresh)/\True)/\S.nodes=S.nodes/\S.counts=S.counts/\S.used=S.used/\S.gen=S.gen/\S.rel=S.rel/\(True/\True/\True)/\List.replicate S.cap.toNat SlotT.zero=fillS S 0/\o=orderOf S/\(True/\True/\True)/\([]:List SlotT)=[]/\([]:List Int)=[]/\True)/\(0<=S.cap/\S.cap<=S.cap/\S.cap*(↑(bytesOf C0 EC.slot):Int)<=140737488355328/\1<=S.used.length/\S.used.length<=65537/\S.rel.length<=65537/\0<=S.fresh/\S.fresh<=(S.used.length:Int)-1/\∀ o:List Int,o=orderL S.used S.rel S.fresh->∃ x:Unit,True/\(True/\True/\True/\True)/\(True/\True/\True/\VW (S.reads)=VW (S.reads)/\True)/\(True/\True/\True/\VU (S.fresh)=VU (S.fresh)/\True)/\S.nodes=S.nodes/\S.counts=S.counts/\S.used=S.used/\S.gen=S.gen/\S.rel=S.rel/\(True/\True/\True)/\List.replicate S.cap.toNat SlotT.zero=fillS S 0/\o=orderOf S/\(True/\True/\True)/\([]:List SlotT)=[]/\([]:List Int)=[]/\True)/\1<=S.used.length/\S.used.length<=65537/\S.rel.length<=65537/\0<=S.fresh/\S.fresh<=(S.used.length:Int)-1/\
 ∀ o:List Int,o=orderL S.used S.rel S.fresh->0<=S.cap/\S.cap<=S.cap/\S.cap*(↑(bytesOf C0 EC.slot):Int)<=140737488355328/\∃ x:Unit,True/\(True/\True/\True/\True)/\(True/\True/\True/\VW (S.reads)=VW (S.reads)/\True)/\(True/\True/\True/\VU (S.fresh)=VU (S.fresh)/\True)/\S.nodes=S.nodes/\S.counts=S.counts/\S.used=S.used/\S.gen=S.gen/\S.rel=S.rel/\(True/\True/\True)/\List.replicate S.cap.toNat SlotT.zero=fillS S 0/\o=orderOf S/\(True/\True/\True)/\([]:List SlotT)=[]/\([]:List Int)=[]/\True)/\(0<=S.cap/\S.cap<=S.cap/\S.cap*(↑(bytesOf C0 EC.slot):Int)<=140737488355328/\1<=S.used.length/\S.used.length<=65537/\S.rel.length<=65537/\0<=S.fresh/\S.fresh<=(S.used.length:Int)-1/\∀ o:List Int,o=orderL S.used S.rel S.fresh->∃ x:Unit,True/\(True/\True/\True/\True)/\(True/\True/\True/\VW (S.reads)=VW (S.reads)/\True)/\(True/\True/\True/\VU (S.fresh)=VU (S.fresh)/\True)/\S.nodes=S.nodes/\S.counts=S.counts/\S.used=S.used/\S.gen=S.gen/\S.rel=S.rel/\(True/\True/\True)/\List.replicate S.cap.toNat SlotT.zero=fillS S 0/\o=orderOf S/\(True/\True/\True)/\([]:List SlotT)=[]/\([]:List Int)=[]/\True)/\(0<=S.cap/\S.cap<=S.cap/\S.cap*(↑(bytesOf C0 EC.slot):Int)<=140737488355328/\1<=S.used.length/\S.used.length<=65537/\S.rel.length<=65537/\0<=S.fresh/\S.fresh<=(S.used.length:Int)-1/\∀ o:List Int,o=orderL S.used S.rel S.fresh->∃ x:Unit,True/\(True/\True/\True/\True)/\(True/\True/\True/\VW (S.reads)=VW (S.reads)/\True)/\(True/\True/\True/\VU (S.fresh)=VU (S.fresh)/\True)/\S.nodes=S.nodes/\S.counts=S.counts/\S.used=S.used/\
 S.gen=S.gen/\S.rel=S.rel/\(True/\True/\True)/\List.replicate S.cap.toNat SlotT.zero=fillS S 0/\o=orderOf S/\(True/\True/\True)/\([]:List SlotT)=[]/\([]:List Int)=[]/\True)/\1<=S.used.length/\S.used.length<=65537/\S.rel.length<=65537/\0<=S.fresh/\S.fresh<=(S.used.length:Int)-1/\∀ o:List Int,o=orderL S.used S.rel S.fresh->0<=S.cap/\S.cap<=S.cap/\S.cap*(↑(bytesOf C0 EC.slot):Int)<=140737488355328/\∃ x:Unit,True/\(True/\True/\True/\True)/\(True/\True/\True/\VW (S.reads)=VW (S.reads)/\True)/\(True/\True/\True/\VU (S.fresh)=VU (S.fresh)/\True)/\S.nodes=S.nodes/\S.counts=S.counts/\S.used=S.used/\S.gen=S.gen/\S.rel=S.rel/\(True/\True/\True)/\List.replicate S.cap.toNat SlotT.zero=fillS S 0/\o=orderOf S/\(True/\True/\True)/\([]:List SlotT)=[]/\([]:List Int)=[]/\True)/\((exW S/\(0<=S.cap/\S.cap<=S.cap/\S.cap*(↑(bytesOf C0 EC.slot):Int)<=140737488355328/\(1<=S.used.length/\S.used.length<=65537/\S.rel.length<=65537/\0<=S.fresh/\S.fresh<=(S.used.length:Int)-1/\∀ o:List Int,o=orderL S.used S.rel S.fresh->∃ x:Unit,True/\(True/\True/\True/\True)/\(True/\True/\True/\VW (S.reads)=VW (S.reads)/\True)/\(True/\True/\True/\VU (S.fresh)=VU (S.fresh)/\True)/\S.nodes=S.nodes/\S.counts=S.counts/\S.used=S.used/\S.gen=S.gen/\S.rel=S.rel/\(True/\True/\True)/\List.replicate S.cap.toNat SlotT.zero=fillS S 0/\o=orderOf S/\(True/\True/\True)/\([]:List SlotT)=[]/\([]:List Int)=[]/\True)/\1<=S.used.length/\S.used.length<=65537/\S.rel.length<=65537/\0<=S.fresh/\S.fresh<=(S.used.length:Int)-1/\∀ o:List Int,o=orderL S.used S.rel S.fresh->∃ x:Unit,True/\
 (True/\True/\True/\True)/\(True/\True/\True/\VW (S.reads)=VW (S.reads)/\True)/\(True/\True/\True/\VU (S.fresh)=VU (S.fresh)/\True)/\S.nodes=S.nodes/\S.counts=S.counts/\S.used=S.used/\S.gen=S.gen/\S.rel=S.rel/\(True/\True/\True)/\List.replicate S.cap.toNat SlotT.zero=fillS S 0/\o=orderOf S/\(True/\True/\True)/\([]:List SlotT)=[]/\([]:List Int)=[]/\True)/\(1<=S.used.length/\S.used.length<=65537/\S.rel.length<=65537/\0<=S.fresh/\S.fresh<=(S.used.length:Int)-1/\∀ o:List Int,o=orderL S.used S.rel S.fresh->(0<=S.cap/\S.cap<=S.cap/\S.cap*(↑(bytesOf C0 EC.slot):Int)<=140737488355328/\∃ x:Unit,True/\(True/\True/\True/\True)/\(True/\True/\True/\VW (S.reads)=VW (S.reads)/\True)/\(True/\True/\True/\VU (S.fresh)=VU (S.fresh)/\True)/\S.nodes=S.nodes/\S.counts=S.counts/\S.used=S.used/\S.gen=S.gen/\S.rel=S.rel/\(True/\True/\True)/\List.replicate S.cap.toNat SlotT.zero=fillS S 0/\o=orderOf S/\(True/\True/\True)/\([]:List SlotT)=[]/\([]:List Int)=[]/\True)/\0<=S.cap/\S.cap<=S.cap/\S.cap*(↑(bytesOf C0 EC.slot):Int)<=140737488355328/\∃ x:Unit,True/\(True/\True/\True/\True)/\(True/\True/\True/\VW (S.reads)=VW (S.reads)/\True)/\(True/\True/\True/\VU (S.fresh)=VU (S.fresh)/\True)/\S.nodes=S.nodes/\S.counts=S.counts/\S.used=S.used/\S.gen=S.gen/\S.rel=S.rel/\(True/\True/\True)/\List.replicate S.cap.toNat SlotT.zero=fillS S 0/\o=orderOf S/\(True/\True/\True)/\([]:List SlotT)=[]/\([]:List Int)=[]/\True)/\(0<=S.cap/\S.cap<=S.cap/\S.cap*(↑(bytesOf C0 EC.slot):Int)<=140737488355328/\1<=S.used.length/\S.used.length<=65537/\
 S.rel.length<=65537/\0<=S.fresh/\S.fresh<=(S.used.length:Int)-1/\∀ o:List Int,o=orderL S.used S.rel S.fresh->∃ x:Unit,True/\(True/\True/\True/\True)/\(True/\True/\True/\VW (S.reads)=VW (S.reads)/\True)/\(True/\True/\True/\VU (S.fresh)=VU (S.fresh)/\True)/\S.nodes=S.nodes/\S.counts=S.counts/\S.used=S.used/\S.gen=S.gen/\S.rel=S.rel/\(True/\True/\True)/\List.replicate S.cap.toNat SlotT.zero=fillS S 0/\o=orderOf S/\(True/\True/\True)/\([]:List SlotT)=[]/\([]:List Int)=[]/\True)/\1<=S.used.length/\S.used.length<=65537/\S.rel.length<=65537/\0<=S.fresh/\S.fresh<=(S.used.length:Int)-1/\∀ o:List Int,o=orderL S.used S.rel S.fresh->0<=S.cap/\S.cap<=S.cap/\S.cap*(↑(bytesOf C0 EC.slot):Int)<=140737488355328/\∃ x:Unit,True/\(True/\True/\True/\True)/\(True/\True/\True/\VW (S.reads)=VW (S.reads)/\True)/\(True/\True/\True/\VU (S.fresh)=VU (S.fresh)/\True)/\S.nodes=S.nodes/\S.counts=S.counts/\S.used=S.used/\S.gen=S.gen/\S.rel=S.rel/\(True/\True/\True)/\List.replicate S.cap.toNat SlotT.zero=fillS S 0/\o=orderOf S/\(True/\True/\True)/\([]:List SlotT)=[]/\([]:List Int)=[]/\True)/\exW S/\(0<=S.cap/\S.cap<=S.cap/\S.cap*(↑(bytesOf C0 EC.slot):Int)<=140737488355328/\1<=S.used.length/\S.used.length<=65537/\S.rel.length<=65537/\0<=S.fresh/\S.fresh<=(S.used.length:Int)-1/\∀ o:List Int,o=orderL S.used S.rel S.fresh->∃ x:Unit,True/\(True/\True/\True/\True)/\(True/\True/\True/\VW (S.reads)=VW (S.reads)/\True)/\(True/\True/\True/\VU (S.fresh)=VU (S.fresh)/\True)/\S.nodes=S.nodes/\S.counts=S.counts/\S.used=S.used/\
 S.gen=S.gen/\S.rel=S.rel/\(True/\True/\True)/\List.replicate S.cap.toNat SlotT.zero=fillS S 0/\o=orderOf S/\(True/\True/\True)/\([]:List SlotT)=[]/\([]:List Int)=[]/\True)/\1<=S.used.length/\S.used.length<=65537/\S.rel.length<=65537/\0<=S.fresh/\S.fresh<=(S.used.length:Int)-1/\∀ o:List Int,o=orderL S.used S.rel S.fresh->0<=S.cap/\S.cap<=S.cap/\S.cap*(↑(bytesOf C0 EC.slot):Int)<=140737488355328/\∃ x:Unit,True/\(True/\True/\True/\True)/\(True/\True/\True/\VW (S.reads)=VW (S.reads)/\True)/\(True/\True/\True/\VU (S.fresh)=VU (S.fresh)/\True)/\S.nodes=S.nodes/\S.counts=S.counts/\S.used=S.used/\S.gen=S.gen/\S.rel=S.rel/\(True/\True/\True)/\List.replicate S.cap.toNat SlotT.zero=fillS S 0/\o=orderOf S/\(True/\True/\True)/\([]:List SlotT)=[]/\([]:List Int)=[]/\True)/\(exW S/\(0<=S.cap/\S.cap<=S.cap/\S.cap*(↑(bytesOf C0 EC.slot):Int)<=140737488355328/\1<=S.used.length/\S.used.length<=65537/\S.rel.length<=65537/\0<=S.fresh/\S.fresh<=(S.used.length:Int)-1/\∀ o:List Int,o=orderL S.used S.rel S.fresh->∃ x:Unit,True/\(True/\True/\True/\True)/\(True/\True/\True/\VW (S.reads)=VW (S.reads)/\True)/\(True/\True/\True/\VU (S.fresh)=VU (S.fresh)/\True)/\S.nodes=S.nodes/\S.counts=S.counts/\S.used=S.used/\S.gen=S.gen/\S.rel=S.rel/\(True/\True/\True)/\List.replicate S.cap.toNat SlotT.zero=fillS S 0/\o=orderOf S/\(True/\True/\True)/\([]:List SlotT)=[]/\([]:List Int)=[]/\True)/\(0<=S.cap/\S.cap<=S.cap/\S.cap*(↑(bytesOf C0 EC.slot):Int)<=140737488355328/\1<=S.used.length/\S.used.length<=65537/\S.rel.length<=65537/\
 0<=S.fresh/\S.fresh<=(S.used.length:Int)-1/\∀ o:List Int,o=orderL S.used S.rel S.fresh->∃ x:Unit,True/\(True/\True/\True/\True)/\(True/\True/\True/\VW (S.reads)=VW (S.reads)/\True)/\(True/\True/\True/\VU (S.fresh)=VU (S.fresh)/\True)/\S.nodes=S.nodes/\S.counts=S.counts/\S.used=S.used/\S.gen=S.gen/\S.rel=S.rel/\(True/\True/\True)/\List.replicate S.cap.toNat SlotT.zero=fillS S 0/\o=orderOf S/\(True/\True/\True)/\([]:List SlotT)=[]/\([]:List Int)=[]/\True)/\1<=S.used.length/\S.used.length<=65537/\S.rel.length<=65537/\0<=S.fresh/\S.fresh<=(S.used.length:Int)-1/\∀ o:List Int,o=orderL S.used S.rel S.fresh->0<=S.cap/\S.cap<=S.cap/\S.cap*(↑(bytesOf C0 EC.slot):Int)<=140737488355328/\∃ x:Unit,True/\(True/\True/\True/\True)/\(True/\True/\True/\VW (S.reads)=VW (S.reads)/\True)/\(True/\True/\True/\VU (S.fresh)=VU (S.fresh)/\True)/\S.nodes=S.nodes/\S.counts=S.counts/\S.used=S.used/\S.gen=S.gen/\S.rel=S.rel/\(True/\True/\True)/\List.replicate S.cap.toNat SlotT.zero=fillS S 0/\o=orderOf S/\(True/\True/\True)/\([]:List SlotT)=[]/\([]:List Int)=[]/\True)/\exW S/\(0<=S.cap/\S.cap<=S.cap/\S.cap*(↑(bytesOf C0 EC.slot):Int)<=140737488355328/\1<=S.used.length/\S.used.length<=65537/\S.rel.length<=65537/\0<=S.fresh/\S.fresh<=(S.used.length:Int)-1/\∀ o:List Int,o=orderL S.used S.rel S.fresh->∃ x:Unit,True/\(True/\True/\True/\True)/\(True/\True/\True/\VW (S.reads)=VW (S.reads)/\True)/\(True/\True/\True/\VU (S.fresh)=VU (S.fresh)/\True)/\S.nodes=S.nodes/\S.counts=S.counts/\S.used=S.used/\S.gen=S.gen/\S.rel=S.rel/\
 (True/\True/\True)/\List.replicate S.cap.toNat SlotT.zero=fillS S 0/\o=orderOf S/\(True/\True/\True)/\([]:List SlotT)=[]/\([]:List Int)=[]/\True)/\1<=S.used.length/\S.used.length<=65537/\S.rel.length<=65537/\0<=S.fresh/\S.fresh<=(S.used.length:Int)-1/\∀ o:List Int,o=orderL S.used S.rel S.fresh->0<=S.cap/\S.cap<=S.cap/\S.cap*(↑(bytesOf C0 EC.slot):Int)<=140737488355328/\∃ x:Unit,True/\(True/\True/\True/\True)/\(True/\True/\True/\VW (S.reads)=VW (S.reads)/\True)/\(True/\True/\True/\VU (S.fresh)=VU (S.fresh)/\True)/\S.nodes=S.nodes/\S.counts=S.counts/\S.used=S.used/\S.gen=S.gen/\S.rel=S.rel/\(True/\True/\True)/\List.replicate S.cap.toNat SlotT.zero=fillS S 0/\o=orderOf S/\(True/\True/\True)/\([]:List SlotT)=[]/\([]:List Int)=[]/\True)/\∀ x:Unit,True->(∃ x1:XDu S,True/\(True/\True/\True/\(VI ((↑(fillS S 0).length:Int)))=(VI ((↑(fillS S 0).length:Int)))/\VI 0=(VI (x1.i:Int))/\True)/\(True/\True/\True/\VW (S.reads)=VW (S.reads)/\True)/\(True/\True/\True/\VU (S.fresh)=VU (S.fresh)/\True)/\S.nodes=S.nodes/\S.counts=S.counts/\S.used=S.used/\S.gen=S.gen/\S.rel=S.rel/\(True/\True/\True)/\fillS S 0=fillS S x1.i/\orderOf S=orderOf S/\(True/\True/\True)/\([]:List SlotT)=[]/\([]:List Int)=[]/\True)/\∀ x1:XDu S,True->brS (decide ((x1.i:Int)<(↑(fillS S 0).length:Int))) (0<=IntKind.u32.wrap (IntKind.i64.wrap ((x1.i:Int)+1))/\IntKind.u32.wrap (IntKind.i64.wrap ((x1.i:Int)+1))<(S.nodes.length:Int)/\0<=IntKind.u32.wrap (IntKind.i64.wrap ((x1.i:Int)+1))/\IntKind.u32.wrap (IntKind.i64.wrap ((x1.i:Int)+1))<4294967296/\
 S.used.length<=65537/\inU (IntKind.u32.wrap (IntKind.i64.wrap ((x1.i:Int)+1)))/\exW S/\inU (IntKind.u32.wrap (IntKind.i64.wrap ((x1.i:Int)+1)))/\exW S/\0<=(x1.i:Int)/\(x1.i:Int)<(↑(fillS S x1.i).length:Int)/\∃ x':XDu S,True/\((True/\True/\True/\(VI ((↑(fillS S 0).length:Int)))=(VI ((↑(fillS S 0).length:Int)))/\(VI (IntKind.i64.wrap ((x1.i:Int)+1)))=(VI (x'.i:Int))/\True)/\(True/\True/\True/\VW (S.reads)=VW (S.reads)/\True)/\(True/\True/\True/\VU (S.fresh)=VU (S.fresh)/\True)/\S.nodes=S.nodes/\S.counts=S.counts/\S.used=S.used/\S.gen=S.gen/\S.rel=S.rel/\(True/\True/\True)/\((fillS S x1.i).set (x1.i:Int).toNat { alloc:=S.us (IntKind.u32.wrap (IntKind.i64.wrap ((x1.i:Int)+1))),count:=if S.us (IntKind.u32.wrap (IntKind.i64.wrap ((x1.i:Int)+1)))=true then S.ct (IntKind.u32.wrap (IntKind.i64.wrap ((x1.i:Int)+1))) else 0,gen:=S.gn (IntKind.u32.wrap (IntKind.i64.wrap ((x1.i:Int)+1))),node:=S.nd (IntKind.u32.wrap (IntKind.i64.wrap ((x1.i:Int)+1))):SlotT })=fillS S x'.i/\orderOf S=orderOf S/\(True/\True/\True)/\([]:List SlotT)=[]/\([]:List Int)=[]/\True)/\ncap S-x'.i<ncap S-x1.i) (K (.one (TV.agg [(.slc 7),(.slc 8)])) [(.box [(.ptr 1 0),(.slc 2),(.slc 3),(.val (VW (S.reads)))]),(.box [(.slc 4),(.slc 5),(.slc 6),(.val (VU (S.fresh)))]),(.row true EC.node (S.nodes)),(.row true EC.int (S.counts)),(.row true EC.bool (S.used)),(.row true EC.u32 (S.gen)),(.row true EC.u32 (S.rel)),(.row true EC.slot (fillS S x1.i)),(.row true EC.u32 (orderOf S))] []))=_ by kernel_rfl) ?_
 rw[bytes_slot]
 have hw0:=hw
 obtain⟨hs,hw⟩:=hw
 have hn1:=hw.n1;have hn2:=hw.n2;have hnn:=hw.nnod;have hfr:=hw.fr;have hfree:=hw.free_nonneg
 have hcap:S.cap=(ncap S:Int):=by unfold Arn.cap ncap;omega
 have hc1:(ncap S:Int)+1=S.used.length:=by unfold ncap;omega
 have z1:List.replicate S.cap.toNat SlotT.zero=fillS S 0:=by rw[hcap,← fill_zero];rfl
 refine⟨?_,fun x _=>⟨⟨⟨0,Nat.zero_le _⟩,?_⟩,fun y _=>brS_of (fun c=>?_) fun c=>?_⟩⟩
 ·(repeat' first|exact trivial|exact hw0|exact z1|assumption|exact rfl|omega|refine And.intro ?_ ?_|refine fun o ho=>?_|refine⟨(),?_⟩)
 ·(repeat' first|exact trivial|exact rfl|refine And.intro ?_ ?_)
 ·rw[fill_len S 0 (Nat.zero_le _)] at c
  have c:y.i<ncap S:=by have:=of_decide_eq_true c;omega
  rw[wrap_id (x:=(y.i:Int)+1) (by omega) (by omega),wrap_u32 (by omega) (by omega)]
  refine⟨by omega,by omega,by omega,by omega,hn2,⟨by omega,by omega⟩,hw0,⟨by omega,by omega⟩,hw0,by omega,by rw[fill_len S y.i y.h];omega,⟨y.i+1,c⟩,trivial,⟨⟨trivial,trivial,trivial,rfl,by congr 1,trivial⟩,⟨trivial,trivial,trivial,rfl,trivial⟩,⟨trivial,trivial,trivial,rfl,trivial⟩,rfl,rfl,rfl,rfl,rfl,⟨trivial,trivial,trivial⟩,fill_next S c,rfl,⟨trivial,trivial,trivial⟩,rfl,rfl,trivial⟩,?_⟩
  show ncap S-(y.i+1)<_;omega
 ·rw[fill_len S 0 (Nat.zero_le _)] at c
  have c:y.i=ncap S:=by have:=of_decide_eq_false c;have:=y.h;omega
  exact h _ _ (by rw[c,fill_all]) rfl
theorem s_dump:SoundT C0 17 tDump:=by
 refine .of Tryz.func17 (by decide) rfl fun args H K h hB=>?_
 unfold tDump at h
 split at h<;>try exact h.elim
 unfold arM at h
 split at h<;>try exact h.elim
 rename_i rd fr nd ct us gn rl
 exact⟨aDump ⟨us,gn,rl,fr,nd,ct,rd⟩,⟨frame C0.ok s_cap _,frame C0.ok s_order _,frame C0.ok s_slAllocated _,frame C0.ok s_count _,frame C0.ok s_gen _,trivial⟩,vc_dump ⟨us,gn,rl,fr,nd,ct,rd⟩ K h.1 h.2⟩
end Go.Proofs.YtedfbafngmicpaaGreat.Sx
end
section
/- A dump's allocated slots, edges, marks; the reference's Check; Sound. -/
namespace Go.Proofs.YtedfbafngmicpaaGreat.Sx
open Go

/-KEEP Wf exW inU allU Arn.cap Arn.free alcD cntL kidsL slotsOf orderOf MarksR CleanD kidsU-/
def alcD (d:List SlotT)(i:Int):Bool:=decide (1<=i) && (decide (i<=(d.length:Int)) && (d.getD (i-1).toNat SlotT.zero).alloc)
def cntL (l:List Int)(n:Nat):List Int:=(List.range n).map fun (j:Nat)=>((l.count ((j:Int)+1):Nat):Int)
def kidsL (d:List SlotT):List Int:=d.flatMap fun x=>if x.alloc=true then [x.node.left,x.node.right] else []
def allU (l:List Int):Prop:=∀ x∈l,inU x
def kidsU (d:List SlotT):Prop:=∀ x∈d,inU x.node.left/\inU x.node.right
def mkd (m:List Bool)(i:Int):Prop:=1<=i/\m.getD (i-1).toNat false=true
def sltD (d:List SlotT)(i:Int):SlotT:=d.getD (i-1).toNat SlotT.zero
abbrev eS (d:List SlotT)(i:Nat):SlotT:=d.getD i SlotT.zero
structure MarksR (d:List SlotT) (roots:List Int) (m:List Bool):Prop where
 len:m.length=d.length
 root:∀ i∈roots,alcD d i=true->mkd m i
 left:∀ i,mkd m i->alcD d (sltD d i).node.left=true->mkd m (sltD d i).node.left
 right:∀ i,mkd m i->alcD d (sltD d i).node.right=true->mkd m (sltD d i).node.right
def szD (d:List SlotT)(i:Int):Int:=if alcD d i=true then (sltD d i).node.size else 0
structure CleanD (d:List SlotT) (fl roots:List Int):Prop where
 free:∀ i<d.length,fl.count ((i:Int)+1)=if (d.getD i SlotT.zero).alloc=true then 0 else 1
 left:∀ i<d.length,(d.getD i SlotT.zero).alloc=true->(d.getD i SlotT.zero).node.left=0∨alcD d (d.getD i SlotT.zero).node.left=true
 right:∀ i<d.length,(d.getD i SlotT.zero).alloc=true->(d.getD i SlotT.zero).node.right=0∨alcD d (d.getD i SlotT.zero).node.right=true
 size:∀ i<d.length,(d.getD i SlotT.zero).alloc=true->(d.getD i SlotT.zero).node.size=1+szD d (d.getD i SlotT.zero).node.left+szD d (d.getD i SlotT.zero).node.right
 zr:∀ i<d.length,0<=(d.getD i SlotT.zero).node.size/\(d.getD i SlotT.zero).node.size<=4294967296
 count:∀ i<d.length,(d.getD i SlotT.zero).count=if (d.getD i SlotT.zero).alloc=true then ((kidsL d).count ((i:Int)+1):Int)+(roots.count ((i:Int)+1):Int) else 0
 mark:∀ m,MarksR d roots m->∀ i<d.length,(d.getD i SlotT.zero).alloc=true->m.getD i false=true
 rng:∀ x∈fl,1<=x/\x<=d.length
 held:∀ x∈roots,x=0∨alcD d x=true
def tAlc:Tfm C0:=fun args H K=>match args,H with
 | [.agg [.slc 0,.slc 1],.at (.val (.int .u32 i))],[.row false .slot d,.row false .u32 fl]=>inU i/\d.length<=1000000/\K (.one (.at (vB (alcD d i)))) [.row false EC.slot d,.row false EC.u32 fl] []
 | _,_=>False
def tKids:Tfm C0:=fun args H K=>match args,H with
 | [.agg [.val (.bool _),.val (.int .i64 _),.val (.int .u32 _),.val (.int .i64 _),.val (.int .i64 _),.val (.int .u32 l),.val (.int .u32 r),.val (.int .i64 _),.val (.int .i64 _),.val (.int .i64 _),.val (.int .i64 _)]],[]=>K (.one (.agg [vU l,vU r])) [] []
 | _,_=>False
structure XIx (n:Nat) where
 i:Nat
 h:i<=n
structure XIn (d:List SlotT) where
 i:Nat
 h:i<d.length
noncomputable def aInE (d:List SlotT)(fl:List Int):Ann C0:={ Γ:=[(138,frameT [] tKids)],rounds:=fun n=>if n=7 then 3 else 0,inv:=fun n=>match n with
 | 3=>some { X:=XIx d.length,sl:=[4,1,3],tf:=fun x=>[vi .i64 x.i,.one (.at (.ptr 2 0)),.one (.at (.slc 3))],hf:=fun x=>[.row false EC.slot d,.row false EC.u32 fl,.box [.slc 0,.slc 1],.row true EC.int (cntL (kidsL (d.take x.i)) d.length)],μ:=fun x=>d.length-x.i }
 | 1004=>some { X:=XIn d,sl:=[4,1,3],tf:=fun x=>[vi .i64 x.i,.one (.at (.ptr 2 0)),.one (.at (.slc 3))],hf:=fun x=>[.row false EC.slot d,.row false EC.u32 fl,.box [.slc 0,.slc 1],.row true EC.int (cntL (kidsL (d.take (x.i+1))) d.length)],rel:=fun T _ z=>slotI T 4 z.i }
 | _=>none }
def tInE:Tfm C0:=fun args H K=>match args,H with
 | [.agg [.slc 0,.slc 1]],[.row false .slot d,.row false .u32 fl]=>d.length<=100000/\kidsU d/\∀ o,o=cntL (kidsL d) d.length->K (.one (.at (.slc 2))) [.row false EC.slot d,.row false EC.u32 fl,.row true EC.int o] []
 | _,_=>False
noncomputable def aCnt (l:List Int)(n:Int):Ann C0:={ Γ:=[],inv:=fun k=>match k with
 | 3=>some { X:=XIx l.length,sl:=[6,5],tf:=fun x=>[vi .i64 x.i,.one (.at (.slc 1))],hf:=fun x=>[.row false EC.u32 l,.row true EC.int (cntL (l.take x.i) n.toNat)],μ:=fun x=>l.length-x.i }
 | _=>none }
def tCnt:Tfm C0:=fun args H K=>match args,H with
 | [.at (.slc 0),.at (.val (.int .i64 n))],[.row false .u32 l]=>0<=n/\n<=100000/\l.length<=1000000/\allU l/\∀ o,o=cntL l n.toNat->K (.one (.at (.slc 1))) [.row false EC.u32 l,.row true EC.int o] []
 | _,_=>False
structure XMks (P:List Bool->List Int->Prop) where
 m:List Bool
 w:List Int
 h:P m w
noncomputable def aMk (P:List Bool->List Int->Prop)(d:List SlotT)(fl roots:List Int):Ann C0:={ Γ:=[(108,frameT [] tAlc),(138,frameT [] tKids)],trunc:=fun n=>n=28,inv:=fun k=>match k with
 | 3=>some { X:=XMks P,sl:=[2,5,6],tf:=fun _=>[.one (.at (.ptr 3 0)),.one (.at (.slc 4)),.one (.at (.slc 5))],hf:=fun x=>[.row false EC.slot d,.row false EC.u32 fl,.row false EC.u32 roots,.box [.slc 0,.slc 1],.row true EC.bool x.m,.row true EC.u32 x.w],μ:=fun x=>x.w.length+3*x.m.count false }
 | _=>none }
def tMk:Tfm C0:=fun args H K=>match args,H with
 | [.agg [.slc 0,.slc 1],.at (.slc 2)],[.row false .slot d,.row false .u32 fl,.row false .u32 roots]=>d.length<=100000/\roots.length<=1000000/\kidsU d/\allU roots/\∀ m,MarksR d roots m->K (.one (.at (.slc 3))) [.row false EC.slot d,.row false EC.u32 fl,.row false EC.u32 roots,.row true EC.bool m] []
 | _,_=>False
theorem alcD_at {d:List SlotT}{i:Int}(h1:1<=i)(h2:i<=(d.length:Int)):alcD d i=(d.getD (i-1).toNat SlotT.zero).alloc:=by simp[alcD,h1,h2]
theorem alcD_lo {d:List SlotT}{i:Int}(h:¬ 1<=i):alcD d i=false:=by simp[alcD,h]
theorem alcD_hi {d:List SlotT}{i:Int}(h:¬ i<=(d.length:Int)):alcD d i=false:=by simp[alcD,h]
theorem alcD_rng {d:List SlotT}{i:Int}(h:alcD d i=true):1<=i/\i<=(d.length:Int):=by simp[alcD] at h;exact⟨h.1,h.2.1⟩
theorem vc_alc (d:List SlotT)(fl:List Int)(i:Int)(K:KT)(h1:inU i)(h2:d.length<=1000000)(h:K (.one (.at (vB (alcD d i)))) [.row false EC.slot d,.row false EC.u32 fl] []) :
  vc C0 A0 Tryz.f108 [.agg [.slc 0,.slc 1],.at (vU i)] [.row false EC.slot d,.row false EC.u32 fl] (normK 2 K):=by
 refine Eq.mp (show (brS (decide (i≥1)) (brS (decide (IntKind.u64.wrap i<=IntKind.u64.wrap (d.length:Int))) (0<=IntKind.u32.wrap (i-1)/\IntKind.u32.wrap (i-1)<(d.length:Int)/\K (.one (.at (.val (Value.bool ((d.getD (IntKind.u32.wrap (i-1)).toNat SlotT.zero).alloc))))) [(.row false EC.slot (d)),(.row false EC.u32 (fl))] []) (K (.one (.at (.val (Value.bool false)))) [(.row false EC.slot (d)),(.row false EC.u32 (fl))] [])) (K (.one (.at (.val (Value.bool false)))) [(.row false EC.slot (d)),(.row false EC.u32 (fl))] []))=_ by kernel_rfl) ?_
 obtain⟨ha,hb⟩:=h1
 rw[wrap_u64 (x:=i) ha (by omega),wrap_u64 (x:=(d.length:Int)) (by omega) (by omega)]
 refine brS_of (fun c=>?_) fun c=>?_
 ·have c:1<=i:=by have:=of_decide_eq_true c;omega
  rw[wrap_u32 (by omega) (by omega)]
  refine brS_of (fun e=>?_) fun e=>?_
  ·have e:i<=(d.length:Int):=of_decide_eq_true e
   rw[alcD_at c e] at h
   exact⟨by omega,by omega,h⟩
  ·rw[alcD_hi (of_decide_eq_false e)] at h;exact h
 ·rw[alcD_lo (by have:=of_decide_eq_false c;omega)] at h;exact h
theorem s_alc:SoundT C0 108 tAlc:=by
 refine .of Tryz.func108 (by decide) rfl fun args H K h hB=>?_
 unfold tAlc at h
 split at h<;>try exact h.elim
 rename_i i d fl
 exact⟨A0,trivial,vc_alc d fl i K h.1 h.2.1 h.2.2⟩
theorem vc_kids (al:Bool)(c g k v l r s sm mn mx:Int)(K:KT)(h:K (.one (.agg [vU l,vU r])) [] []) :
  vc C0 A0 Tryz.f138 [.agg [.val (.bool al),.val (.int .i64 c),.val (.int .u32 g),vI k,vI v,vU l,vU r,vI s,vI sm,vI mn,vI mx]] [] (normK 0 K):=by
 refine Eq.mp (show (K (.one (TV.agg [(.val (VU (l))),(.val (VU (r)))])) [] [])=_ by kernel_rfl) ?_
 exact h
theorem s_kids:SoundT C0 138 tKids:=by
 refine .of Tryz.func138 (by decide) rfl fun args H K h hB=>?_
 unfold tKids at h
 split at h<;>try exact h.elim
 exact⟨A0,trivial,vc_kids _ _ _ _ _ _ _ _ _ _ _ K h⟩
theorem cntL_len (l:List Int)(n:Nat):(cntL l n).length=n:=by simp[cntL]
theorem cntL_nil (n:Nat):List.replicate n (0:Int)=cntL [] n:=by
 unfold cntL
 refine List.ext_getElem (by simp) fun i h1 h2=>by simp
theorem cntL_get (l:List Int)(n j:Nat)(h:j<n):(cntL l n).getD j 0=((l.count ((j:Int)+1):Nat):Int):=by
 unfold cntL
 simp[List.getD_eq_getElem?_getD,h]
theorem cntL_snoc_in {l:List Int}{n:Nat}{x:Int}(h1:1<=x)(h2:x<=n):(cntL l n).set (x-1).toNat ((cntL l n).getD (x-1).toNat 0+1)=cntL (l++[x]) n:=by
 rw[cntL_get l n _ (by omega)]
 unfold cntL
 refine List.ext_getElem (by simp) fun i h3 h4=>?_
 simp only[List.getElem_set,List.getElem_map,List.getElem_range,List.count_append]
 by_cases e:(x-1).toNat=i
 ·rw[if_pos e]
  have ex:((i:Int)+1)=x:=by omega
  have ey:(((x-1).toNat:Int)+1)=x:=by omega
  rw[ex,ey];simp
 ·rw[if_neg e]
  have:[x].count ((i:Int)+1)=0:=List.count_eq_zero.2 (by simp;omega)
  rw[this];simp
theorem cntL_snoc_out {l:List Int}{n:Nat}{x:Int}(h:¬ (1<=x/\x<=n)):cntL (l++[x]) n=cntL l n:=by
 unfold cntL
 refine List.map_congr_left fun i hi=>?_
 have hi:i<n:=List.mem_range.1 hi
 have:[x].count ((i:Int)+1)=0:=List.count_eq_zero.2 (by simp;omega)
 rw[List.count_append,this];simp
theorem takeD_snoc {α:Type}{l:List α}{i:Nat}{dft:α}(h:i<l.length):l.take (i+1)=l.take i++[l.getD i dft]:=by
 rw[List.take_add_one,List.getD_eq_getElem?_getD,List.getElem?_eq_getElem h];rfl
theorem cntL_rng (l:List Int)(n j:Nat)(h:j<n):0<=(cntL l n).getD j 0/\(cntL l n).getD j 0<=l.length:=by
 rw[cntL_get l n j h]
 have:=List.count_le_length (a:=(j:Int)+1) (l:=l)
 omega
theorem vc_cnt (l:List Int)(n:Int)(K:KT)(h1:0<=n)(h2:n<=100000)(h3:l.length<=1000000)(h4:∀ x∈l,inU x)(h:∀ o,o=cntL l n.toNat->K (.one (.at (.slc 1))) [.row false EC.u32 l,.row true EC.int o] []) :
  vc C0 (aCnt l n) Tryz.f137 [.at (.slc 0),.at (vI n)] [.row false EC.u32 l] (normK 1 K):=by
 refine Eq.mp (show (0<=n/\n<=n/\n*(↑(bytesOf C0 EC.int):Int)<=140737488355328/\(∃ x:XIx l.length,True/\(True/\VI (n)=VI (n)/\True/\VI 0=(VI (x.i:Int))/\True)/\l=l/\List.replicate n.toNat 0=(cntL (List.take x.i l) n.toNat)/\True)/\∀ x:XIx l.length,True->brS (decide ((x.i:Int)<(l.length:Int))) (0<=(x.i:Int)/\(x.i:Int)<(l.length:Int)/\brS (decide (l.getD (x.i:Int).toNat 0≥1)) (0<=(x.i:Int)/\(x.i:Int)<(l.length:Int)/\brS (decide (IntKind.u64.wrap (l.getD (x.i:Int).toNat 0)<=IntKind.u64.wrap n)) (0<=(x.i:Int)/\(x.i:Int)<(l.length:Int)/\0<=IntKind.u32.wrap (l.getD (x.i:Int).toNat 0-1)/\IntKind.u32.wrap (l.getD (x.i:Int).toNat 0-1)<(↑(cntL (List.take x.i l) n.toNat).length:Int)/\0<=IntKind.u32.wrap (l.getD (x.i:Int).toNat 0-1)/\IntKind.u32.wrap (l.getD (x.i:Int).toNat 0-1)<(↑(cntL (List.take x.i l) n.toNat).length:Int)/\∃ x':XIx l.length,True/\((True/\VI (n)=VI (n)/\True/\(VI (IntKind.i64.wrap ((x.i:Int)+1)))=(VI (x'.i:Int))/\True)/\l=l/\((cntL (List.take x.i l) n.toNat).set (IntKind.u32.wrap (l.getD (x.i:Int).toNat 0-1)).toNat (IntKind.i64.wrap ((cntL (List.take x.i l) n.toNat).getD (IntKind.u32.wrap (l.getD (x.i:Int).toNat 0-1)).toNat 0+1)))=(cntL (List.take x'.i l) n.toNat)/\True)/\l.length-x'.i<l.length-x.i) (∃ x':XIx l.length,True/\((True/\VI (n)=VI (n)/\True/\(VI (IntKind.i64.wrap ((x.i:Int)+1)))=(VI (x'.i:Int))/\True)/\l=l/\(cntL (List.take x.i l) n.toNat)=(cntL (List.take x'.i l) n.toNat)/\True)/\l.length-x'.i<l.length-x.i)) (∃ x':XIx l.length,True/\((True/\VI (n)=VI (n)/\True/\(VI (IntKind.i64.wrap ((x.i:Int)+1)))=(VI (x'.i:Int))/\
 True)/\l=l/\(cntL (List.take x.i l) n.toNat)=(cntL (List.take x'.i l) n.toNat)/\True)/\l.length-x'.i<l.length-x.i)) (K (.one (.at (.slc 1))) [(.row false EC.u32 (l)),(.row true EC.int (cntL (List.take x.i l) n.toNat))] []))=_ by kernel_rfl) ?_
 rw[bytes_int]
 refine⟨h1,Int.le_refl _,by omega,⟨⟨0,Nat.zero_le _⟩,⟨trivial,⟨trivial,rfl,trivial,rfl,trivial⟩,rfl,cntL_nil _,trivial⟩⟩,fun x _=>brS_of (fun c=>?_) fun c=>?_⟩
 ·have c:x.i<l.length:=by have:=of_decide_eq_true c;omega
  have hx:l.getD x.i 0∈l:=by rw[List.getD_eq_getElem?_getD,List.getElem?_eq_getElem c];exact List.getElem_mem c
  have hu:=h4 _ hx
  have ts:=takeD_snoc (dft:=(0:Int)) c
  rw[show ((x.i:Int)).toNat=x.i from rfl]
  generalize l.getD x.i 0=v at *
  obtain⟨u1,u2⟩:=hu
  rw[wrap_u64 (x:=v) u1 (by omega),wrap_u64 (x:=n) h1 (by omega),wrap_id (x:=(x.i:Int)+1) (by omega) (by omega)]
  have hne:∀ (w:List Int),w=cntL (l.take (x.i+1)) n.toNat->(∃ x':XIx l.length,(True/\((True/\((Value.int IntKind.i64 (n))=(Value.int IntKind.i64 (n)))/\True/\((Value.int IntKind.i64 ((x.i:Int)+1))=(Value.int IntKind.i64 ((↑x'.i:Int))))/\True)/\((l)=(l))/\(w=(cntL (List.take x'.i l) n.toNat))/\True)/\(l.length-x'.i<l.length-x.i))):=fun w hw=>⟨⟨x.i+1,c⟩,trivial,⟨⟨trivial,rfl,trivial,rfl,trivial⟩,rfl,hw,trivial⟩,by show l.length-(x.i+1)<_;omega⟩
  refine⟨by omega,by omega,brS_of (fun e=>?_) fun e=>?_⟩
  ·have e:1<=v:=by have:=of_decide_eq_true e;omega
   refine⟨by omega,by omega,brS_of (fun f=>?_) fun f=>?_⟩
   ·have f:v<=n:=of_decide_eq_true f
    have hr:=cntL_rng (l.take x.i) n.toNat (v-1).toNat (by omega)
    have hl:(l.take x.i).length<=l.length:=by simp;omega
    rw[wrap_u32 (x:=v-1) (by omega) (by omega),cntL_len]
    rw[wrap_id (x:=(cntL (l.take x.i) n.toNat).getD (v-1).toNat 0+1) (by omega) (by omega)]
    refine⟨by omega,by omega,by omega,by omega,by omega,by omega,hne _ ?_⟩
    rw[ts];exact cntL_snoc_in e (by omega)
   ·refine hne _ ?_
    rw[ts,cntL_snoc_out]
    have:=of_decide_eq_false f;omega
  ·refine hne _ ?_
   rw[ts,cntL_snoc_out]
   have:=of_decide_eq_false e;omega
 ·have c:x.i=l.length:=by have:=of_decide_eq_false c;have:=x.h;omega
  exact h _ (by rw[c,List.take_length])
theorem s_cnt:SoundT C0 137 tCnt:=by
 refine .of Tryz.func137 (by decide) rfl fun args H K h hB=>?_
 unfold tCnt at h
 split at h<;>try exact h.elim
 rename_i n l
 exact⟨aCnt l n,trivial,vc_cnt l n K h.1 h.2.1 h.2.2.1 h.2.2.2.1 h.2.2.2.2⟩
structure PMk (d:List SlotT) (roots:List Int) (m:List Bool) (w:List Int):Prop where
 len:m.length=d.length
 u:∀ x∈w,inU x
 wl:w.length+2*m.count false<=roots.length+2*d.length
 root:∀ i∈roots,alcD d i=true->mkd m i∨i∈w
 left:∀ i,mkd m i->alcD d (sltD d i).node.left=true->mkd m (sltD d i).node.left∨(sltD d i).node.left∈w
 right:∀ i,mkd m i->alcD d (sltD d i).node.right=true->mkd m (sltD d i).node.right∨(sltD d i).node.right∈w
theorem PMk.start (d:List SlotT)(roots:List Int)(h:∀ x∈roots,inU x):PMk d roots (List.replicate d.length false) roots:=by
 have z:∀ i,¬ mkd (List.replicate d.length false) i:=fun i hi=>by
  have:=hi.2
  rw[getD_replicate] at this;cases this
 exact⟨by simp,h,by simp,fun i hi _=>.inr hi,fun i hi=>(z i hi).elim,fun i hi=>(z i hi).elim⟩
theorem PMk.done {d:List SlotT}{roots:List Int}{m:List Bool}(h:PMk d roots m []):MarksR d roots m :=
 ⟨h.len,fun i a b=>(h.root i a b).resolve_right (by simp),fun i a b=>(h.left i a b).resolve_right (by simp),fun i a b=>(h.right i a b).resolve_right (by simp)⟩
theorem PMk.skip {d:List SlotT}{roots:List Int}{m:List Bool}{w:List Int}{x:Int}(h:PMk d roots m (w++[x]))(hx:alcD d x=true->mkd m x):PMk d roots m w:=by
 have key:∀ j,alcD d j=true->mkd m j∨j∈w++[x]->mkd m j∨j∈w:=fun j ha hj=>by
  rcases hj with hj|hj
  ·exact .inl hj
  ·rcases List.mem_append.1 hj with hj|hj
   ·exact .inr hj
   ·have e:j=x:=by simpa using hj
    subst e;exact .inl (hx ha)
 refine⟨h.len,fun y hy=>h.u y (by simp[hy]),by have:=h.wl;simp at this;omega,fun i a b=>key i b (h.root i a b),fun i a b=>key _ b (h.left i a b),fun i a b=>key _ b (h.right i a b)⟩
theorem count_mark {m:List Bool}{k:Nat}(h1:k<m.length)(h2:m.getD k false=false):(m.set k true).count false+1=m.count false:=by
 have:=countP_set' (fun b:Bool=>b==false) m k true false h1
 rw[h2] at this
 simpa [List.count] using this
theorem PMk.mark {d:List SlotT}{roots:List Int}{m:List Bool}{w:List Int}{x:Int}(h:PMk d roots m (w++[x]))(hx:alcD d x=true)(hm:m.getD (x-1).toNat false=false)(hk:inU (sltD d x).node.left/\inU (sltD d x).node.right) :
  PMk d roots (m.set (x-1).toNat true) (w++[(sltD d x).node.left,(sltD d x).node.right]):=by
 obtain⟨x1,x2⟩:=alcD_rng hx
 have hl:=h.len
 have hs:∀ j,mkd (m.set (x-1).toNat true) j↔j=x∨mkd m j:=fun j=>by
  unfold mkd
  rw[getD_set]
  constructor
  ·rintro ⟨a,b⟩
   by_cases e:j=x
   ·exact .inl e
   ·rw[if_neg (by omega)] at b;exact .inr ⟨a,b⟩
  ·rintro (e|⟨a,b⟩)
   ·subst e;exact⟨x1,by rw[if_pos ⟨rfl,by omega⟩]⟩
   ·refine⟨a,?_⟩
    split
    ·rfl
    ·exact b
 have key:∀ j,mkd m j∨j∈w++[x]->mkd (m.set (x-1).toNat true) j∨j∈w++[(sltD d x).node.left,(sltD d x).node.right]:=fun j hj=>by
  rw[hs]
  rcases hj with hj|hj
  ·exact .inl (.inr hj)
  ·rcases List.mem_append.1 hj with hj|hj
   ·exact .inr (by simp[hj])
   ·exact .inl (.inl (by simpa using hj))
 have hc:=count_mark (m:=m) (k:=(x-1).toNat) (by omega) hm
 have l1:(w++[(sltD d x).node.left,(sltD d x).node.right]).length=w.length+2:=by simp
 have l2:(w++[x]).length=w.length+1:=by simp
 refine⟨by simp[hl],fun y hy=>?_,by have:=h.wl;omega,fun i a b=>key i (h.root i a b),fun i a b=>?_,fun i a b=>?_⟩
 ·simp at hy
  rcases hy with hy|hy|hy
  ·exact h.u y (by simp[hy])
  ·subst hy;exact hk.1
  ·subst hy;exact hk.2
 ·rcases (hs i).1 a with e|e
  ·subst e;exact .inr (by simp)
  ·exact key _ (h.left i e b)
 ·rcases (hs i).1 a with e|e
  ·subst e;exact .inr (by simp)
  ·exact key _ (h.right i e b)
theorem vc_mk (d:List SlotT)(fl roots:List Int)(K:KT)(h1:d.length<=100000)(h2:roots.length<=1000000)(h3:kidsU d)(h4:∀ x∈roots,inU x)(h:∀ m,MarksR d roots m->K (.one (.at (.slc 3))) [.row false EC.slot d,.row false EC.u32 fl,.row false EC.u32 roots,.row true EC.bool m] []) :
  vc C0 (aMk (PMk d roots) d fl roots) Tryz.f136 [.agg [.slc 0,.slc 1],.at (.slc 2)] [.row false EC.slot d,.row false EC.u32 fl,.row false EC.u32 roots] (normK 3 K):=by
 generalize hP:PMk d roots=P
 refine Eq.mp (show (0<=(d.length:Int)/\(d.length:Int)<=(d.length:Int)/\(d.length:Int)*(↑(bytesOf C0 EC.bool):Int)<=140737488355328/\(([]:List Ent).length+roots.length)*bytesOf C0 EC.u32<=140737488355328/\(∃ x:XMks P,True/\(True/\True/\True/\True)/\d=d/\fl=fl/\roots=roots/\(True/\True/\True)/\(List.replicate (d.length:Int).toNat false)=x.m/\([]++roots)=x.w/\True)/\∀ x:XMks P,True->brS (decide ((x.w.length:Int)>0)) (0<=IntKind.i64.wrap ((x.w.length:Int)-1)/\IntKind.i64.wrap ((x.w.length:Int)-1)<(x.w.length:Int)/\0<=IntKind.i64.wrap ((x.w.length:Int)-1)/\IntKind.i64.wrap ((x.w.length:Int)-1)<=(x.w.length:Int)/\inU (x.w.getD (IntKind.i64.wrap ((x.w.length:Int)-1)).toNat 0)/\d.length<=1000000/\brS (!alcD d (x.w.getD (IntKind.i64.wrap ((x.w.length:Int)-1)).toNat 0)) (∃ x':XMks P,True/\((True/\True/\True/\True)/\d=d/\fl=fl/\roots=roots/\(True/\True/\True)/\x.m=x'.m/\(List.take (IntKind.i64.wrap ((x.w.length:Int)-1)).toNat x.w)=x'.w/\True)/\x'.w.length+3*List.count false x'.m<x.w.length+3*List.count false x.m) (0<=IntKind.u32.wrap (x.w.getD (IntKind.i64.wrap ((x.w.length:Int)-1)).toNat 0-1)/\IntKind.u32.wrap (x.w.getD (IntKind.i64.wrap ((x.w.length:Int)-1)).toNat 0-1)<(x.m.length:Int)/\brS (x.m.getD (IntKind.u32.wrap (x.w.getD (IntKind.i64.wrap ((x.w.length:Int)-1)).toNat 0-1)).toNat false) (∃ x':XMks P,True/\((True/\True/\True/\True)/\d=d/\fl=fl/\roots=roots/\(True/\True/\True)/\x.m=x'.m/\(List.take (IntKind.i64.wrap ((x.w.length:Int)-1)).toNat x.w)=x'.w/\True)/\x'.w.length+3*List.count false x'.m<x.w.length+3*List.count false x.m) (0<=IntKind.u32.wrap (x.w.getD (IntKind.i64.wrap ((x.w.length:Int)-1)).toNat 0-1)/\
 IntKind.u32.wrap (x.w.getD (IntKind.i64.wrap ((x.w.length:Int)-1)).toNat 0-1)<(x.m.length:Int)/\0<=IntKind.u32.wrap (x.w.getD (IntKind.i64.wrap ((x.w.length:Int)-1)).toNat 0-1)/\IntKind.u32.wrap (x.w.getD (IntKind.i64.wrap ((x.w.length:Int)-1)).toNat 0-1)<(d.length:Int)/\(0:Int)<=0/\0<((2:Nat):Int)/\(0:Int)<=1/\1<((2:Nat):Int)/\((List.take (IntKind.i64.wrap ((x.w.length:Int)-1)).toNat x.w).length+[(d.getD (IntKind.u32.wrap (x.w.getD (IntKind.i64.wrap ((x.w.length:Int)-1)).toNat 0-1)).toNat SlotT.zero).node.left,(d.getD (IntKind.u32.wrap (x.w.getD (IntKind.i64.wrap ((x.w.length:Int)-1)).toNat 0-1)).toNat SlotT.zero).node.right].length)*bytesOf C0 EC.u32<=140737488355328/\∃ x':XMks P,True/\((True/\True/\True/\True)/\d=d/\fl=fl/\roots=roots/\(True/\True/\True)/\(x.m.set (IntKind.u32.wrap (x.w.getD (IntKind.i64.wrap ((x.w.length:Int)-1)).toNat 0-1)).toNat true)=x'.m/\(List.take (IntKind.i64.wrap ((x.w.length:Int)-1)).toNat x.w++[(d.getD (IntKind.u32.wrap (x.w.getD (IntKind.i64.wrap ((x.w.length:Int)-1)).toNat 0-1)).toNat SlotT.zero).node.left,(d.getD (IntKind.u32.wrap (x.w.getD (IntKind.i64.wrap ((x.w.length:Int)-1)).toNat 0-1)).toNat SlotT.zero).node.right])=x'.w/\True)/\x'.w.length+3*List.count false x'.m<x.w.length+3*List.count false x.m))) (K (.one (.at (.slc 3))) [(.row false EC.slot (d)),(.row false EC.u32 (fl)),(.row false EC.u32 (roots)),(.row true EC.bool (x.m))] []))=_ by kernel_rfl) ?_
 subst hP
 rw[bytes_bool,bytes_u32]
 refine⟨by omega,Int.le_refl _,by omega,by simp;omega,⟨⟨_,_,PMk.start d roots h4⟩,⟨trivial,⟨trivial,trivial,trivial,trivial⟩,rfl,rfl,rfl,⟨trivial,trivial,trivial⟩,rfl,rfl,trivial⟩⟩,fun x _=>?_⟩
 obtain⟨m,w,hp⟩:=x
 dsimp only
 refine brS_of (fun c=>?_) fun c=>?_
 ·have c:0<w.length:=by have:=of_decide_eq_true c;omega
  have hwl:=hp.wl
  have hml:=hp.len
  have ew:=list_last (d:=(0:Int)) c
  rw[wrap_id (x:=(w.length:Int)-1) (by omega) (by omega),show ((w.length:Int)-1).toNat=w.length-1 by omega]
  have lw:(w.take (w.length-1)).length+1=w.length:=by simp;omega
  have hux:inU (w.getD (w.length-1) 0):=hp.u _ (by rw[← ew];simp)
  generalize w.getD (w.length-1) 0=v at *
  generalize w.take (w.length-1)=q at *
  subst ew
  refine⟨by omega,by omega,by omega,by omega,hux,by omega,brS_of (fun e=>?_) fun e=>?_⟩
  ·have e:alcD d v=false:=by simpa using e
   refine⟨⟨m,q,hp.skip (by rw[e];intro z;cases z)⟩,trivial,⟨⟨trivial,trivial,trivial,trivial⟩,rfl,rfl,rfl,⟨trivial,trivial,trivial⟩,rfl,rfl,trivial⟩,?_⟩
   show q.length+3*m.count false<_
   simp
  ·have e:alcD d v=true:=by simpa using e
   obtain⟨v1,v2⟩:=alcD_rng e
   rw[wrap_u32 (x:=v-1) (by omega) (by omega)]
   refine⟨by omega,by omega,brS_of (fun f=>?_) fun f=>?_⟩
   ·refine⟨⟨m,q,hp.skip fun _=>⟨v1,f⟩⟩,trivial,⟨⟨trivial,trivial,trivial,trivial⟩,rfl,rfl,rfl,⟨trivial,trivial,trivial⟩,rfl,rfl,trivial⟩,?_⟩
    show q.length+3*m.count false<_
    simp
   ·have hd:(v-1).toNat<d.length:=by omega
    have hmem:sltD d v∈d:=by unfold sltD;rw[List.getD_eq_getElem?_getD,List.getElem?_eq_getElem hd];exact List.getElem_mem hd
    have hc:=count_mark (m:=m) (k:=(v-1).toNat) (by omega) f
    have hb:m.count false<=m.length:=List.count_le_length
    have l2:(q++[v]).length=q.length+1:=by simp
    have l3:(q++[(sltD d v).node.left,(sltD d v).node.right]).length=q.length+2:=by simp
    refine⟨by omega,by omega,by omega,by omega,by decide,by decide,by decide,by decide,(show (q.length+2)*4<=140737488355328 by omega),⟨_,_,hp.mark e f (h3 _ hmem)⟩,trivial,⟨⟨trivial,trivial,trivial,trivial⟩,rfl,rfl,rfl,⟨trivial,trivial,trivial⟩,rfl,rfl,trivial⟩,?_⟩
    show (q++[(sltD d v).node.left,(sltD d v).node.right]).length+3*(m.set (v-1).toNat true).count false<(q++[v]).length+3*m.count false
    omega
 ·have c:w=[]:=by have:=of_decide_eq_false c;exact List.length_eq_zero_iff.1 (by omega)
  subst c
  exact h m hp.done
theorem s_mk:SoundT C0 136 tMk:=by
 refine .of Tryz.func136 (by decide) rfl fun args H K h hB=>?_
 unfold tMk at h
 split at h<;>try exact h.elim
 rename_i d fl roots
 exact⟨aMk (PMk d roots) d fl roots,⟨frame C0.ok s_alc _,frame C0.ok s_kids _,trivial⟩,vc_mk d fl roots K h.1 h.2.1 h.2.2.1 h.2.2.2.1 h.2.2.2.2⟩
/-! ### The plain law: a whole arena's dump is clean. -/
theorem slotsOf_len (S:Arn):(slotsOf S).length=ncap S:=by simp[slotsOf]
theorem slotsOf_get (S:Arn){i:Nat}(h:i<ncap S):(slotsOf S).getD i SlotT.zero=slotAt S i:=by
 simp[slotsOf,List.getD_eq_getElem?_getD,h]
theorem us_hi {S:Arn}{i:Int}(h:(ncap S:Int)<i):S.us i=false:=by
 cases hb:S.us i with
 | false=>rfl
 | true=>have:=getD_false hb;unfold ncap at h;omega
theorem alcD_slots {S:Arn}{hs:List Int}(w:Wf S hs)(i:Int):alcD (slotsOf S) i=S.us i:=by
 by_cases h1:1<=i
 ·by_cases h2:i<=(ncap S:Int)
  ·rw[alcD_at h1 (by rw[slotsOf_len];exact h2),slotsOf_get S (by omega)]
   show S.us _=S.us i
   congr 1;omega
  ·rw[alcD_hi (by rw[slotsOf_len];exact h2),us_hi (by omega)]
 ·rw[alcD_lo h1,w.us0 (by omega)]
theorem sltD_slots {S:Arn}{hs:List Int}(w:Wf S hs){i:Int}(h:S.us i=true):(sltD (slotsOf S) i).node=S.nd i:=by
 have hp:=w.pos h
 have h2:(i-1).toNat<ncap S:=by unfold ncap;omega
 unfold sltD
 rw[slotsOf_get S h2]
 show S.nd _=S.nd i
 congr 1;omega
theorem szD_slots {S:Arn}{hs:List Int}(w:Wf S hs)(i:Int):szD (slotsOf S) i=(S.nd i).size:=by
 unfold szD
 rw[alcD_slots w]
 cases hb:S.us i with
 | false=>rw[w.zero i hb];rfl
 | true=>rw[if_pos rfl,sltD_slots w hb]
theorem mem_upTo {fr:Int}{n:Nat}{x:Int}:x∈upTo fr n↔fr+1<=x/\x<=fr+n:=by
 unfold upTo
 simp only[List.mem_map,List.mem_range]
 constructor
 ·rintro ⟨k,hk,rfl⟩;omega
 ·rintro ⟨h1,h2⟩;exact⟨(x-fr-1).toNat,by omega,by omega⟩
theorem upTo_nodup (fr:Int)(n:Nat):(upTo fr n).Nodup:=by
 unfold upTo
 refine List.pairwise_map.2 (List.nodup_range.imp fun h e=>h (by omega))
theorem order_mem {S:Arn}{hs:List Int}(w:Wf S hs)(x:Int):x∈orderOf S↔(1<=x/\x<=(ncap S:Int))/\S.us x=false:=by
 have hfr:=w.fr
 unfold orderOf orderL
 rw[List.mem_append,List.mem_reverse,mem_upTo]
 have hn:(ncap S:Int)=S.used.length-1:=by have:=w.n1;unfold ncap;omega
 constructor
 ·rintro (h|h)
  ·have hr:=w.rel x h
   refine⟨by omega,?_⟩
   cases hb:S.us x with
   | false=>rfl
   | true=>exact absurd h ((w.use x).1 hb).2.2
  ·refine⟨by omega,?_⟩
   cases hb:S.us x with
   | false=>rfl
   | true=>have:=((w.use x).1 hb).2.1;omega
 ·rintro ⟨h1,h2⟩
  by_cases e:x<=S.fresh
  ·refine .inl ?_
   by_cases hm:x∈S.rel
   ·exact hm
   ·rw[(w.use x).2 ⟨h1.1,e,hm⟩] at h2;cases h2
  ·exact .inr (by omega)
theorem order_nodup {S:Arn}{hs:List Int}(w:Wf S hs):(orderOf S).Nodup:=by
 unfold orderOf orderL
 refine List.nodup_append.2 ⟨List.pairwise_reverse.2 (w.dup.imp fun h=>h.symm),upTo_nodup _ _,fun a ha b hb=>?_⟩
 have:=w.rel a (List.mem_reverse.1 ha)
 have:=mem_upTo.1 hb
 omega
theorem order_len {S:Arn}{hs:List Int}(w:Wf S hs):(orderOf S).length<=131074:=by
 have h1:=w.n2;have h2:=w.nus;have h3:=w.fr
 unfold orderOf orderL upTo
 simp;omega
theorem kids_count {S:Arn}{hs:List Int}(w:Wf S hs){j:Int}(hj:1<=j):∀ L:List Nat,
  ((L.map (slotAt S)).flatMap fun x=>if x.alloc=true then [x.node.left,x.node.right] else []).count j=(L.map fun (k:Nat)=>S.nd ((k:Int)+1)).countP (fun x=>x.left==j)+(L.map fun (k:Nat)=>S.nd ((k:Int)+1)).countP (fun x=>x.right==j)
 | []=>rfl
 | k::L=>by
  have ih:=kids_count w hj L
  simp only[List.map_cons,List.flatMap_cons,List.count_append,List.countP_cons,ih]
  have e1:(slotAt S k).alloc=S.us ((k:Int)+1):=rfl
  have e2:(slotAt S k).node=S.nd ((k:Int)+1):=rfl
  rw[e1,e2]
  cases hb:S.us ((k:Int)+1) with
  | false =>
   rw[w.zero _ hb]
   have z1:(NodeT.zero.left==j)=false:=by simp[NodeT.zero];omega
   have z2:(NodeT.zero.right==j)=false:=by simp[NodeT.zero];omega
   simp[z1,z2]
  | true=>simp only[if_true,List.count_cons,List.count_nil];omega
theorem kids_indeg {S:Arn}{hs:List Int}(w:Wf S hs){j:Int}(hj:1<=j):(kidsL (slotsOf S)).count j=S.indeg j:=by
 unfold kidsL slotsOf
 rw[kids_count w hj]
 have hn:S.nodes=S.nd 0::(List.range (ncap S)).map fun (k:Nat)=>S.nd ((k:Int)+1):=by
  have h1:=w.nnod;have h2:=w.n1
  have hc:ncap S=S.used.length-1:=rfl
  refine List.ext_getElem (by simp;omega) fun i a b=>?_
  cases i with
  | zero=>unfold Arn.nd;simp[List.getD_eq_getElem?_getD,List.getElem?_eq_getElem a]
  | succ i =>
   simp only[List.getElem_cons_succ,List.getElem_map,List.getElem_range]
   unfold Arn.nd
   rw[show ((i:Int)+1).toNat=i+1 by omega,List.getD_eq_getElem?_getD,List.getElem?_eq_getElem a];rfl
 have z:S.nd 0=NodeT.zero:=w.nd0
 unfold Arn.indeg
 conv=>rhs;rw[hn,z]
 have z1:(NodeT.zero.left==j)=false:=by simp[NodeT.zero];omega
 have z2:(NodeT.zero.right==j)=false:=by simp[NodeT.zero];omega
 simp only[List.countP_cons,z1,z2]
 simp
theorem kidsU_slots {S:Arn}{hs:List Int}(w:Wf S hs):kidsU (slotsOf S):=by
 have hn:=w.n2
 have key:∀ c,c=0∨S.us c=true->inU c:=fun c h=>by
  rcases h with rfl|h
  ·exact⟨by omega,by omega⟩
  ·have:=w.pos h;exact⟨by omega,by omega⟩
 intro x hx
 unfold slotsOf at hx
 obtain⟨k,hk,rfl⟩:=List.mem_map.1 hx
 show inU (S.nd _).left/\inU (S.nd _).right
 cases hb:S.us ((k:Int)+1) with
 | false=>rw[w.zero _ hb];exact⟨key 0 (.inl rfl),key 0 (.inl rfl)⟩
 | true=>exact⟨key _ (w.kid _ hb).1,key _ (w.kid _ hb).2⟩
theorem Wf.inU_held {S:Arn}{hs:List Int}(w:Wf S hs){x:Int}(h:x∈hs):inU x:=by
 have hn:=w.n2
 rcases w.held x h with rfl|h
 ·exact⟨by omega,by omega⟩
 ·have:=w.pos h;exact⟨by omega,by omega⟩
theorem clean_slots {S:Arn}{hs roots:List Int}(w:Wf S hs)(p:roots.Perm hs):CleanD (slotsOf S) (orderOf S) roots where
 free i hi:=by
  rw[slotsOf_len] at hi
  rw[slotsOf_get S hi]
  show _=if S.us ((i:Int)+1)=true then 0 else 1
  have hm:=order_mem w ((i:Int)+1)
  cases hb:S.us ((i:Int)+1) with
  | true=>rw[if_pos rfl];exact List.count_eq_zero.2 fun h=>by have:=(hm.1 h).2;rw[hb] at this;cases this
  | false=>rw[if_neg (by simp)];exact List.Nodup.count (order_nodup w) |>.trans (by rw[if_pos (hm.2 ⟨by omega,hb⟩)])
 left i hi hb:=by
  rw[slotsOf_len] at hi
  rw[slotsOf_get S hi] at hb ⊢
  rw[alcD_slots w]
  exact (w.kid _ hb).1
 right i hi hb:=by
  rw[slotsOf_len] at hi
  rw[slotsOf_get S hi] at hb ⊢
  rw[alcD_slots w]
  exact (w.kid _ hb).2
 size i hi hb:=by
  rw[slotsOf_len] at hi
  rw[slotsOf_get S hi] at hb ⊢
  rw[szD_slots w,szD_slots w]
  exact (w.siz _ hb).2.2
 zr i hi:=by
  rw[slotsOf_len] at hi
  rw[slotsOf_get S hi]
  have:=w.size_nonneg ((i:Int)+1)
  unfold maxSize at this
  show 0<=(S.nd _).size/\(S.nd _).size<=4294967296
  omega
 count i hi:=by
  rw[slotsOf_len] at hi
  rw[slotsOf_get S hi]
  show (if S.us ((i:Int)+1)=true then S.ct ((i:Int)+1) else 0)=if S.us ((i:Int)+1)=true then _ else 0
  cases hb:S.us ((i:Int)+1) with
  | false=>rfl
  | true =>
   rw[if_pos rfl,if_pos rfl,kids_indeg w (by omega),p.count_eq,(w.cnt _ hb).1]
 mark m hm i hi hb:=by
  rw[slotsOf_len] at hi
  rw[slotsOf_get S hi] at hb
  have hb:S.us ((i:Int)+1)=true:=hb
  have key:∀ j,Rch S hs j->mkd m j:=fun j hj=>by
   induction hj with
   | root h1 h2=>exact hm.root _ (p.mem_iff.2 h1) (by rw[alcD_slots w];exact h2)
   | left h1 h2 ih=>have:=hm.left _ ih;rw[sltD_slots w h1.us,alcD_slots w] at this;exact this h2
   | right h1 h2 ih=>have:=hm.right _ ih;rw[sltD_slots w h1.us,alcD_slots w] at this;exact this h2
  have:=(key _ (w.reached hb)).2
  rw[show ((i:Int)+1-1).toNat=i by omega] at this
  exact this
 rng x hx:=by rw[slotsOf_len];exact ((order_mem w x).1 hx).1
 held x hx:=by rw[alcD_slots w];exact w.held x (p.mem_iff.1 hx)
def ineQ (out:List Int)(c:Int)(al:Bool)(ja jb:Prop)(G:List Int->Prop):Prop :=
 brS al (ja/\jb/\brS (decide (c≥1)) (ja/\jb/\brS (decide (IntKind.u64.wrap c<=IntKind.u64.wrap (out.length:Int))) (ja/\jb/\0<=IntKind.u32.wrap (c-1)/\IntKind.u32.wrap (c-1)<(out.length:Int)/\0<=IntKind.u32.wrap (c-1)/\IntKind.u32.wrap (c-1)<(out.length:Int) ∧
  G (out.set (IntKind.u32.wrap (c-1)).toNat (IntKind.i64.wrap (out.getD (IntKind.u32.wrap (c-1)).toNat 0+1)))) (G out)) (G out)) (G out)
theorem ineQ_of {out L:List Int}{n:Nat}{c:Int}{al:Bool}{ja jb:Prop}{G:List Int->Prop}(e:out=cntL L n)(hu:inU c)(hn:n<=100000)(hL:L.length<=1000000)(ha:ja)(hb:jb)(hG:∀ o,o=cntL (L++if al=true then [c] else []) n->G o):ineQ out c al ja jb G:=by
 obtain⟨u1,u2⟩:=hu
 have hl:out.length=n:=by rw[e,cntL_len]
 unfold ineQ
 rw[hl,wrap_u64 (x:=c) u1 (by omega),wrap_u64 (x:=(n:Int)) (by omega) (by omega)]
 refine brS_of (fun z=>⟨ha,hb,brS_of (fun c1=>⟨ha,hb,brS_of (fun c2=>?_) fun c2=>?_⟩) fun c1=>?_⟩) fun z=>?_
 ·have c1:1<=c:=by have:=of_decide_eq_true c1;omega
  have c2:c<=(n:Int):=of_decide_eq_true c2
  rw[wrap_u32 (x:=c-1) (by omega) (by omega)]
  refine⟨ha,hb,by omega,by omega,by omega,by omega,hG _ ?_⟩
  have hr:=cntL_rng L n (c-1).toNat (by omega)
  rw[← e] at hr
  rw[if_pos z,wrap_id (by omega) (by omega),e]
  exact cntL_snoc_in c1 c2
 ·have c2:¬ c<=(n:Int):=of_decide_eq_false c2
  refine hG _ ?_
  rw[if_pos z,cntL_snoc_out (by omega)];exact e
 ·have c1:¬ 1<=c:=by have:=of_decide_eq_false c1;omega
  refine hG _ ?_
  rw[if_pos z,cntL_snoc_out (by omega)];exact e
 ·refine hG _ ?_
  rw[z,if_neg (by simp),List.append_nil];exact e
theorem kidsL_len (d:List SlotT):(kidsL d).length<=2*d.length:=by
 induction d with
 | nil=>exact Nat.le_refl _
 | cons x d ih =>
  have e:kidsL (x::d)=(if x.alloc=true then [x.node.left,x.node.right] else [])++kidsL d:=rfl
  rw[e,List.length_append,List.length_cons]
  split<;>simp<;>omega
theorem kidsL_snoc {d:List SlotT}{i:Nat}(h:i<d.length):kidsL (d.take (i+1))=(kidsL (d.take i)++if (eS d i).alloc=true then [(eS d i).node.left] else [])++if (eS d i).alloc=true then [(eS d i).node.right] else []:=by
 rw[takeD_snoc (dft:=SlotT.zero) h]
 unfold kidsL
 rw[List.flatMap_append]
 show _++((if (eS d i).alloc=true then _ else _)++[])=_
 cases (eS d i).alloc<;>simp
theorem vc_ine (d:List SlotT)(fl:List Int)(K:KT)(h1:d.length<=100000)(h2:kidsU d)(h:∀ o,o=cntL (kidsL d) d.length->K (.one (.at (.slc 2))) [.row false EC.slot d,.row false EC.u32 fl,.row true EC.int o] []) :
  vc C0 (aInE d fl) Tryz.f135 [.agg [.slc 0,.slc 1]] [.row false EC.slot d,.row false EC.u32 fl] (normK 2 K):=by
 refine Eq.mp (show (0<=(d.length:Int)/\(d.length:Int)<=(d.length:Int)/\(d.length:Int)*(↑(bytesOf C0 EC.int):Int)<=140737488355328/\(∃ x:XIx d.length,True/\(True/\True/\VI 0=(VI (x.i:Int))/\True)/\d=d/\fl=fl/\(True/\True/\True)/\(List.replicate (d.length:Int).toNat (0:Int))=(cntL (kidsL (List.take x.i d)) d.length)/\True)/\∀ x:XIx d.length,True->brS (decide ((x.i:Int)<(d.length:Int))) ((0<=(x.i:Int)/\(x.i:Int)<(d.length:Int)/\0<=(x.i:Int)/\(x.i:Int)<(d.length:Int)/\brS ((d.getD (x.i:Int).toNat SlotT.zero).alloc) ((0:Int)<=0/\0<((2:Nat):Int)/\brS (decide ((d.getD (x.i:Int).toNat SlotT.zero).node.left≥1)) ((0:Int)<=0/\0<((2:Nat):Int)/\brS (decide (IntKind.u64.wrap (d.getD (x.i:Int).toNat SlotT.zero).node.left<=IntKind.u64.wrap (↑(cntL (kidsL (List.take x.i d)) d.length).length:Int))) ((0:Int)<=0/\0<((2:Nat):Int)/\0<=IntKind.u32.wrap ((d.getD (x.i:Int).toNat SlotT.zero).node.left-1)/\IntKind.u32.wrap ((d.getD (x.i:Int).toNat SlotT.zero).node.left-1)<(↑(cntL (kidsL (List.take x.i d)) d.length).length:Int)/\0<=IntKind.u32.wrap ((d.getD (x.i:Int).toNat SlotT.zero).node.left-1)/\IntKind.u32.wrap ((d.getD (x.i:Int).toNat SlotT.zero).node.left-1)<(↑(cntL (kidsL (List.take x.i d)) d.length).length:Int)/\0<=(x.i:Int)/\(x.i:Int)<(d.length:Int)/\brS ((d.getD (x.i:Int).toNat SlotT.zero).alloc) (0<=IntKind.i64.wrap (0+1)/\IntKind.i64.wrap (0+1)<((2:Nat):Int)/\brS (decide ((d.getD (x.i:Int).toNat SlotT.zero).node.right≥1)) (0<=IntKind.i64.wrap (0+1)/\IntKind.i64.wrap (0+1)<((2:Nat):Int)/\brS (decide (IntKind.u64.wrap (d.getD (x.i:Int).toNat SlotT.zero).node.right<=IntKind.u64.wrap (↑((cntL (kidsL (List.take x.i d)) d.length).set (IntKind.u32.wrap ((d.getD (x.i:Int).toNat SlotT.zero).node.left-1)).toNat (IntKind.i64.wrap ((cntL (kidsL (List.take x.i d)) d.length).getD (IntKind.u32.wrap ((d.getD (x.i:Int).toNat SlotT.zero).node.left-1)).toNat 0+1))).length:Int))) (0<=IntKind.i64.wrap (0+1)/\
 IntKind.i64.wrap (0+1)<((2:Nat):Int)/\0<=IntKind.u32.wrap ((d.getD (x.i:Int).toNat SlotT.zero).node.right-1)/\IntKind.u32.wrap ((d.getD (x.i:Int).toNat SlotT.zero).node.right-1)<(↑((cntL (kidsL (List.take x.i d)) d.length).set (IntKind.u32.wrap ((d.getD (x.i:Int).toNat SlotT.zero).node.left-1)).toNat (IntKind.i64.wrap ((cntL (kidsL (List.take x.i d)) d.length).getD (IntKind.u32.wrap ((d.getD (x.i:Int).toNat SlotT.zero).node.left-1)).toNat 0+1))).length:Int)/\0<=IntKind.u32.wrap ((d.getD (x.i:Int).toNat SlotT.zero).node.right-1)/\IntKind.u32.wrap ((d.getD (x.i:Int).toNat SlotT.zero).node.right-1)<(↑((cntL (kidsL (List.take x.i d)) d.length).set (IntKind.u32.wrap ((d.getD (x.i:Int).toNat SlotT.zero).node.left-1)).toNat (IntKind.i64.wrap ((cntL (kidsL (List.take x.i d)) d.length).getD (IntKind.u32.wrap ((d.getD (x.i:Int).toNat SlotT.zero).node.left-1)).toNat 0+1))).length:Int)/\∃ x1:XIn d,((x.i:Int))=((x1.i:Int))/\(True/\True/\VI (x.i:Int)=VI (x1.i:Int)/\True)/\d=d/\fl=fl/\(True/\True/\True)/\(((cntL (kidsL (List.take x.i d)) d.length).set (IntKind.u32.wrap ((d.getD (x.i:Int).toNat SlotT.zero).node.left-1)).toNat (IntKind.i64.wrap ((cntL (kidsL (List.take x.i d)) d.length).getD (IntKind.u32.wrap ((d.getD (x.i:Int).toNat SlotT.zero).node.left-1)).toNat 0+1))).set (IntKind.u32.wrap ((d.getD (x.i:Int).toNat SlotT.zero).node.right-1)).toNat (IntKind.i64.wrap (((cntL (kidsL (List.take x.i d)) d.length).set (IntKind.u32.wrap ((d.getD (x.i:Int).toNat SlotT.zero).node.left-1)).toNat (IntKind.i64.wrap ((cntL (kidsL (List.take x.i d)) d.length).getD (IntKind.u32.wrap ((d.getD (x.i:Int).toNat SlotT.zero).node.left-1)).toNat 0+1))).getD (IntKind.u32.wrap ((d.getD (x.i:Int).toNat SlotT.zero).node.right-1)).toNat 0+1)))=(cntL (kidsL (List.take (x1.i+1) d)) d.length)/\
 True) (∃ x1:XIn d,((x.i:Int))=((x1.i:Int))/\(True/\True/\VI (x.i:Int)=VI (x1.i:Int)/\True)/\d=d/\fl=fl/\(True/\True/\True)/\((cntL (kidsL (List.take x.i d)) d.length).set (IntKind.u32.wrap ((d.getD (x.i:Int).toNat SlotT.zero).node.left-1)).toNat (IntKind.i64.wrap ((cntL (kidsL (List.take x.i d)) d.length).getD (IntKind.u32.wrap ((d.getD (x.i:Int).toNat SlotT.zero).node.left-1)).toNat 0+1)))=(cntL (kidsL (List.take (x1.i+1) d)) d.length)/\True)) (∃ x1:XIn d,((x.i:Int))=((x1.i:Int))/\(True/\True/\VI (x.i:Int)=VI (x1.i:Int)/\True)/\d=d/\fl=fl/\(True/\True/\True)/\((cntL (kidsL (List.take x.i d)) d.length).set (IntKind.u32.wrap ((d.getD (x.i:Int).toNat SlotT.zero).node.left-1)).toNat (IntKind.i64.wrap ((cntL (kidsL (List.take x.i d)) d.length).getD (IntKind.u32.wrap ((d.getD (x.i:Int).toNat SlotT.zero).node.left-1)).toNat 0+1)))=(cntL (kidsL (List.take (x1.i+1) d)) d.length)/\True)) (∃ x1:XIn d,((x.i:Int))=((x1.i:Int))/\(True/\True/\VI (x.i:Int)=VI (x1.i:Int)/\True)/\d=d/\fl=fl/\(True/\True/\True)/\((cntL (kidsL (List.take x.i d)) d.length).set (IntKind.u32.wrap ((d.getD (x.i:Int).toNat SlotT.zero).node.left-1)).toNat (IntKind.i64.wrap ((cntL (kidsL (List.take x.i d)) d.length).getD (IntKind.u32.wrap ((d.getD (x.i:Int).toNat SlotT.zero).node.left-1)).toNat 0+1)))=(cntL (kidsL (List.take (x1.i+1) d)) d.length)/\True)) (0<=(x.i:Int)/\(x.i:Int)<(d.length:Int)/\brS ((d.getD (x.i:Int).toNat SlotT.zero).alloc) (0<=IntKind.i64.wrap (0+1)/\IntKind.i64.wrap (0+1)<((2:Nat):Int)/\brS (decide ((d.getD (x.i:Int).toNat SlotT.zero).node.right≥1)) (0<=IntKind.i64.wrap (0+1)/\
 IntKind.i64.wrap (0+1)<((2:Nat):Int)/\brS (decide (IntKind.u64.wrap (d.getD (x.i:Int).toNat SlotT.zero).node.right<=IntKind.u64.wrap (↑(cntL (kidsL (List.take x.i d)) d.length).length:Int))) (0<=IntKind.i64.wrap (0+1)/\IntKind.i64.wrap (0+1)<((2:Nat):Int)/\0<=IntKind.u32.wrap ((d.getD (x.i:Int).toNat SlotT.zero).node.right-1)/\IntKind.u32.wrap ((d.getD (x.i:Int).toNat SlotT.zero).node.right-1)<(↑(cntL (kidsL (List.take x.i d)) d.length).length:Int)/\0<=IntKind.u32.wrap ((d.getD (x.i:Int).toNat SlotT.zero).node.right-1)/\IntKind.u32.wrap ((d.getD (x.i:Int).toNat SlotT.zero).node.right-1)<(↑(cntL (kidsL (List.take x.i d)) d.length).length:Int)/\∃ x1:XIn d,((x.i:Int))=((x1.i:Int))/\(True/\True/\VI (x.i:Int)=VI (x1.i:Int)/\True)/\d=d/\fl=fl/\(True/\True/\True)/\((cntL (kidsL (List.take x.i d)) d.length).set (IntKind.u32.wrap ((d.getD (x.i:Int).toNat SlotT.zero).node.right-1)).toNat (IntKind.i64.wrap ((cntL (kidsL (List.take x.i d)) d.length).getD (IntKind.u32.wrap ((d.getD (x.i:Int).toNat SlotT.zero).node.right-1)).toNat 0+1)))=(cntL (kidsL (List.take (x1.i+1) d)) d.length)/\True) (∃ x1:XIn d,((x.i:Int))=((x1.i:Int))/\(True/\True/\VI (x.i:Int)=VI (x1.i:Int)/\True)/\d=d/\fl=fl/\(True/\True/\True)/\(cntL (kidsL (List.take x.i d)) d.length)=(cntL (kidsL (List.take (x1.i+1) d)) d.length)/\True)) (∃ x1:XIn d,((x.i:Int))=((x1.i:Int))/\(True/\True/\VI (x.i:Int)=VI (x1.i:Int)/\True)/\d=d/\fl=fl/\(True/\True/\True)/\(cntL (kidsL (List.take x.i d)) d.length)=(cntL (kidsL (List.take (x1.i+1) d)) d.length)/\
 True)) (∃ x1:XIn d,((x.i:Int))=((x1.i:Int))/\(True/\True/\VI (x.i:Int)=VI (x1.i:Int)/\True)/\d=d/\fl=fl/\(True/\True/\True)/\(cntL (kidsL (List.take x.i d)) d.length)=(cntL (kidsL (List.take (x1.i+1) d)) d.length)/\True))) (0<=(x.i:Int)/\(x.i:Int)<(d.length:Int)/\brS ((d.getD (x.i:Int).toNat SlotT.zero).alloc) (0<=IntKind.i64.wrap (0+1)/\IntKind.i64.wrap (0+1)<((2:Nat):Int)/\brS (decide ((d.getD (x.i:Int).toNat SlotT.zero).node.right≥1)) (0<=IntKind.i64.wrap (0+1)/\IntKind.i64.wrap (0+1)<((2:Nat):Int)/\brS (decide (IntKind.u64.wrap (d.getD (x.i:Int).toNat SlotT.zero).node.right<=IntKind.u64.wrap (↑(cntL (kidsL (List.take x.i d)) d.length).length:Int))) (0<=IntKind.i64.wrap (0+1)/\IntKind.i64.wrap (0+1)<((2:Nat):Int)/\0<=IntKind.u32.wrap ((d.getD (x.i:Int).toNat SlotT.zero).node.right-1)/\IntKind.u32.wrap ((d.getD (x.i:Int).toNat SlotT.zero).node.right-1)<(↑(cntL (kidsL (List.take x.i d)) d.length).length:Int)/\0<=IntKind.u32.wrap ((d.getD (x.i:Int).toNat SlotT.zero).node.right-1)/\IntKind.u32.wrap ((d.getD (x.i:Int).toNat SlotT.zero).node.right-1)<(↑(cntL (kidsL (List.take x.i d)) d.length).length:Int)/\∃ x1:XIn d,((x.i:Int))=((x1.i:Int))/\(True/\True/\VI (x.i:Int)=VI (x1.i:Int)/\True)/\d=d/\fl=fl/\(True/\True/\True)/\((cntL (kidsL (List.take x.i d)) d.length).set (IntKind.u32.wrap ((d.getD (x.i:Int).toNat SlotT.zero).node.right-1)).toNat (IntKind.i64.wrap ((cntL (kidsL (List.take x.i d)) d.length).getD (IntKind.u32.wrap ((d.getD (x.i:Int).toNat SlotT.zero).node.right-1)).toNat 0+1)))=(cntL (kidsL (List.take (x1.i+1) d)) d.length)/\
 True) (∃ x1:XIn d,((x.i:Int))=((x1.i:Int))/\(True/\True/\VI (x.i:Int)=VI (x1.i:Int)/\True)/\d=d/\fl=fl/\(True/\True/\True)/\(cntL (kidsL (List.take x.i d)) d.length)=(cntL (kidsL (List.take (x1.i+1) d)) d.length)/\True)) (∃ x1:XIn d,((x.i:Int))=((x1.i:Int))/\(True/\True/\VI (x.i:Int)=VI (x1.i:Int)/\True)/\d=d/\fl=fl/\(True/\True/\True)/\(cntL (kidsL (List.take x.i d)) d.length)=(cntL (kidsL (List.take (x1.i+1) d)) d.length)/\True)) (∃ x1:XIn d,((x.i:Int))=((x1.i:Int))/\(True/\True/\VI (x.i:Int)=VI (x1.i:Int)/\True)/\d=d/\fl=fl/\(True/\True/\True)/\(cntL (kidsL (List.take x.i d)) d.length)=(cntL (kidsL (List.take (x1.i+1) d)) d.length)/\True))) (0<=(x.i:Int)/\(x.i:Int)<(d.length:Int)/\brS ((d.getD (x.i:Int).toNat SlotT.zero).alloc) (0<=IntKind.i64.wrap (0+1)/\IntKind.i64.wrap (0+1)<((2:Nat):Int)/\brS (decide ((d.getD (x.i:Int).toNat SlotT.zero).node.right≥1)) (0<=IntKind.i64.wrap (0+1)/\IntKind.i64.wrap (0+1)<((2:Nat):Int)/\brS (decide (IntKind.u64.wrap (d.getD (x.i:Int).toNat SlotT.zero).node.right<=IntKind.u64.wrap (↑(cntL (kidsL (List.take x.i d)) d.length).length:Int))) (0<=IntKind.i64.wrap (0+1)/\IntKind.i64.wrap (0+1)<((2:Nat):Int)/\0<=IntKind.u32.wrap ((d.getD (x.i:Int).toNat SlotT.zero).node.right-1)/\IntKind.u32.wrap ((d.getD (x.i:Int).toNat SlotT.zero).node.right-1)<(↑(cntL (kidsL (List.take x.i d)) d.length).length:Int)/\0<=IntKind.u32.wrap ((d.getD (x.i:Int).toNat SlotT.zero).node.right-1)/\IntKind.u32.wrap ((d.getD (x.i:Int).toNat SlotT.zero).node.right-1)<(↑(cntL (kidsL (List.take x.i d)) d.length).length:Int)/\
 ∃ x1:XIn d,((x.i:Int))=((x1.i:Int))/\(True/\True/\VI (x.i:Int)=VI (x1.i:Int)/\True)/\d=d/\fl=fl/\(True/\True/\True)/\((cntL (kidsL (List.take x.i d)) d.length).set (IntKind.u32.wrap ((d.getD (x.i:Int).toNat SlotT.zero).node.right-1)).toNat (IntKind.i64.wrap ((cntL (kidsL (List.take x.i d)) d.length).getD (IntKind.u32.wrap ((d.getD (x.i:Int).toNat SlotT.zero).node.right-1)).toNat 0+1)))=(cntL (kidsL (List.take (x1.i+1) d)) d.length)/\True) (∃ x1:XIn d,((x.i:Int))=((x1.i:Int))/\(True/\True/\VI (x.i:Int)=VI (x1.i:Int)/\True)/\d=d/\fl=fl/\(True/\True/\True)/\(cntL (kidsL (List.take x.i d)) d.length)=(cntL (kidsL (List.take (x1.i+1) d)) d.length)/\True)) (∃ x1:XIn d,((x.i:Int))=((x1.i:Int))/\(True/\True/\VI (x.i:Int)=VI (x1.i:Int)/\True)/\d=d/\fl=fl/\(True/\True/\True)/\(cntL (kidsL (List.take x.i d)) d.length)=(cntL (kidsL (List.take (x1.i+1) d)) d.length)/\True)) (∃ x1:XIn d,((x.i:Int))=((x1.i:Int))/\(True/\True/\VI (x.i:Int)=VI (x1.i:Int)/\True)/\d=d/\fl=fl/\(True/\True/\True)/\(cntL (kidsL (List.take x.i d)) d.length)=(cntL (kidsL (List.take (x1.i+1) d)) d.length)/\True)))/\∀ x1:XIn d,((x.i:Int))=((x1.i:Int))->∃ x':XIx d.length,True/\((True/\True/\(VI (IntKind.i64.wrap ((x1.i:Int)+1)))=(VI (x'.i:Int))/\True)/\d=d/\fl=fl/\(True/\True/\True)/\(cntL (kidsL (List.take (x1.i+1) d)) d.length)=(cntL (kidsL (List.take x'.i d)) d.length)/\True)/\d.length-x'.i<d.length-x.i) (K (.one (.at (.slc 2))) [(.row false EC.slot (d)),(.row false EC.u32 (fl)),(.row true EC.int (cntL (kidsL (List.take x.i d)) d.length))] []))=_ by kernel_rfl) ?_
 rw[bytes_int]
 refine⟨by omega,Int.le_refl _,by omega,⟨⟨0,Nat.zero_le _⟩,trivial,⟨trivial,trivial,rfl,trivial⟩,rfl,rfl,⟨trivial,trivial,trivial⟩,cntL_nil _,trivial⟩,fun x _=>brS_of (fun c=>?_) fun c=>?_⟩
 ·have c:x.i<d.length:=by have:=of_decide_eq_true c;omega
  have hm:eS d x.i∈d:=by unfold eS;rw[List.getD_eq_getElem?_getD,List.getElem?_eq_getElem c];exact List.getElem_mem c
  obtain⟨k1,k2⟩:=h2 _ hm
  have ks:=kidsL_snoc c
  have kl:=kidsL_len (d.take x.i)
  have tl:(d.take x.i).length<=d.length:=by simp;omega
  have xa:(0:Int)<=(x.i:Int):=by omega
  have xb:(x.i:Int)<(d.length:Int):=by omega
  refine⟨?_,fun y e=>⟨⟨y.i+1,y.h⟩,trivial,⟨⟨trivial,trivial,?_,trivial⟩,rfl,rfl,⟨trivial,trivial,trivial⟩,rfl,trivial⟩,?_⟩⟩
  ·show _/\_/\_/\_/\ineQ (cntL (kidsL (d.take x.i)) d.length) (eS d x.i).node.left (eS d x.i).alloc ((0:Int)<=0) ((0:Int)<2) fun o=>(0:Int)<=(x.i:Int)/\(x.i:Int)<(d.length:Int)/\ineQ o (eS d x.i).node.right (eS d x.i).alloc (0<=IntKind.i64.wrap (0+1)) (IntKind.i64.wrap (0+1)<2) fun o=>∃ x1:XIn d,(((x.i:Int)=(x1.i:Int))/\(True/\True/\(Value.int IntKind.i64 (x.i:Int)=Value.int IntKind.i64 (x1.i:Int))/\True)/\(d=d)/\(fl=fl)/\(True/\True/\True)/\(o=cntL (kidsL (d.take (x1.i+1))) d.length)/\True)
   refine⟨xa,xb,xa,xb,ineQ_of rfl k1 h1 (by omega) (by decide) (by decide) fun o ho=>⟨xa,xb,ineQ_of ho k2 h1 ?_ (by decide) (by decide) fun o ho=>⟨⟨x.i,c⟩,rfl,⟨trivial,trivial,rfl,trivial⟩,rfl,rfl,⟨trivial,trivial,trivial⟩,by rw[ho,ks],trivial⟩⟩⟩
   rw[List.length_append]
   split<;>simp<;>omega
  ·have:=y.h
   rw[wrap_id (by omega) (by omega)];congr 1
  ·have e:(x.i:Int)=(y.i:Int):=e
   show d.length-(y.i+1)<d.length-x.i
   have:=y.h;omega
 ·have c:x.i=d.length:=by have:=of_decide_eq_false c;have:=x.h;omega
  exact h _ (by rw[c,List.take_length])
theorem s_ine:SoundT C0 135 tInE:=by
 refine .of Tryz.func135 (by decide) rfl fun args H K h hB=>?_
 unfold tInE at h
 split at h<;>try exact h.elim
 rename_i d fl
 exact⟨aInE d fl,⟨frame C0.ok s_kids _,trivial⟩,vc_ine d fl K h.1 h.2.1 h.2.2⟩
end Go.Proofs.YtedfbafngmicpaaGreat.Sx
end
section
/- The reference's numbering of nodes, on a dump. -/
namespace Go.Proofs.YtedfbafngmicpaaGreat.Sx
open Go

/-KEEP Wf exW inU allVb alcD sltD slotsOf orderOf SeenR DgW NumD NumsD szT lfD rgD-/
def lfD (d:List SlotT)(i:Int):Int:=(sltD d i).node.left
def rgD (d:List SlotT)(i:Int):Int:=(sltD d i).node.right
abbrev NumD (d:List SlotT):=NumG (alcD d) (lfD d) (rgD d)
abbrev NumsD (d:List SlotT):=NumsG (alcD d) (lfD d) (rgD d)
def allVb (l:List Int):Prop:=∀ x∈l,inU x
def szT (d:List SlotT)(i:Int):Nat:=if alcD d i=true then (sltD d i).node.size.toNat else 0
structure DgW (d:List SlotT):Prop where
 len:d.length<=100000
 sz:∀ i,alcD d i=true->szT d (lfD d i)<szT d i/\szT d (rgD d i)<szT d i
 kid:∀ i,alcD d i=true->inU (lfD d i)/\inU (rgD d i)
 top:∀ i,szT d i<2147483648
structure SeenR (d:List SlotT) (m:List Bool) (l:List Int) (A:Int->Prop):Prop where
 len:m.length=d.length
 nd:l.Nodup
 us:∀ j∈l,alcD d j=true
 sn:∀ j,mkd m j↔(j∈l∨A j)
def tVis (n:Nat):Tfm C0:=fun args H K=>match args,H with
 | [.at (.ptr 0 0),.at (.val (.int .u32 i))],[.box [.slc 1,.slc 2,.slc 3,.slc 4],.row false .slot d,.row false .u32 fl,.row true .bool m,.row true .u32 l]=>DgW d/\inU i/\szT d i<n/\∃ A,(∀ j,A j->szT d i<szT d j)/\SeenR d m l A/\∀ m' l',NumD d i l l'->SeenR d m' l' A->K (.tup []) [.box [.slc 1,.slc 2,.slc 3,.slc 4],.row false EC.slot d,.row false EC.u32 fl,.row true EC.bool m',.row true EC.u32 l'] [0,3,4]
 | _,_=>False
noncomputable def aVis (n:Nat):Ann C0:={ quiet:=[108],Γ:=[(108,frameT [] tAlc),(66,frameT [] (tVis n))] }
structure XNb (P:List Bool->List Int->Nat->Prop) where
 m:List Bool
 l:List Int
 i:Nat
 h:P m l i
noncomputable def aN28 (n:Nat)(P:List Bool->List Int->Nat->Prop)(d:List SlotT)(fl rs:List Int):Ann C0:={ Γ:=[(66,frameT [] (tVis n))],inv:=fun k=>match k with
 | 3=>some { X:=XNb P,sl:=[5,6],tf:=fun x=>[.one (.at (.ptr 3 0)),vi .i64 x.i],hf:=fun x=>[.row false EC.slot d,.row false EC.u32 fl,.row false EC.u32 rs,.box [.slc 0,.slc 1,.slc 4,.slc 5],.row true EC.bool x.m,.row true EC.u32 x.l],μ:=fun x=>rs.length-x.i }
 | _=>none }
def tN28:Tfm C0:=fun args H K=>match args,H with
 | [.agg [.slc 0,.slc 1],.at (.slc 2)],[.row false .slot d,.row false .u32 fl,.row false .u32 rs]=>DgW d/\rs.length<=1000000/\allVb rs/\∀ l,NumsD d rs [] l->K (.one (.at (.slc 3))) [.row false EC.slot d,.row false EC.u32 fl,.row false EC.u32 rs,.row true EC.u32 l] []
 | _,_=>False
theorem SeenR.few {d:List SlotT}{m:List Bool}{l:List Int}{A:Int->Prop}(h:SeenR d m l A):l.length<=d.length:=by
 have q:=len_nd l ((List.range d.length).map fun (n:Nat)=>(n:Int)+1) h.nd fun x hx=>by
  have p:=alcD_rng (h.us x hx)
  exact List.mem_map.2 ⟨(x-1).toNat,List.mem_range.2 (by omega),by omega⟩
 rw[List.length_map,List.length_range] at q
 exact q
theorem vc_vis (n:Nat)(d:List SlotT)(fl:List Int)(m:List Bool)(l:List Int)(i:Int)(K:KT)(hd:DgW d)(iu:inU i)(hz:szT d i<n+1)(A:Int->Prop)(hA:∀ j,A j->szT d i<szT d j)(sn:SeenR d m l A)(h:∀ m' l',NumD d i l l'->SeenR d m' l' A->K (.tup []) [.box [.slc 1,.slc 2,.slc 3,.slc 4],.row false EC.slot d,.row false EC.u32 fl,.row true EC.bool m',.row true EC.u32 l'] [0,3,4]) :
  vc C0 (aVis n) Tryz.f66 [.at (.ptr 0 0),.at (vU i)] [.box [.slc 1,.slc 2,.slc 3,.slc 4],.row false EC.slot d,.row false EC.u32 fl,.row true EC.bool m,.row true EC.u32 l] (normK 5 (wideK [0,3,4] K)):=by
 refine Eq.mp (show (inU i/\d.length<=1000000/\brS (!alcD d i) (K (.tup []) [(.box [(.slc 1),(.slc 2),(.slc 3),(.slc 4)]),(.row false EC.slot (d)),(.row false EC.u32 (fl)),(.row true EC.bool (m)),(.row true EC.u32 (l))] [0,3,4]) (0<=IntKind.u32.wrap (i-1)/\IntKind.u32.wrap (i-1)<(m.length:Int)/\brS (m.getD (IntKind.u32.wrap (i-1)).toNat false) (K (.tup []) [(.box [(.slc 1),(.slc 2),(.slc 3),(.slc 4)]),(.row false EC.slot (d)),(.row false EC.u32 (fl)),(.row true EC.bool (m)),(.row true EC.u32 (l))] [0,3,4]) (0<=IntKind.u32.wrap (i-1)/\IntKind.u32.wrap (i-1)<(m.length:Int)/\0<=IntKind.u32.wrap (i-1)/\IntKind.u32.wrap (i-1)<(d.length:Int)/\DgW d/\inU (eS d (IntKind.u32.wrap (i-1)).toNat).node.left/\szT d (eS d (IntKind.u32.wrap (i-1)).toNat).node.left<n/\∃ A:Int->Prop,(∀ j:Int,A (j)->szT d (eS d (IntKind.u32.wrap (i-1)).toNat).node.left<szT d j)/\SeenR d (m.set (IntKind.u32.wrap (i-1)).toNat true) l A/\∀ m':List Bool,∀ l':List Int,NumD d (eS d (IntKind.u32.wrap (i-1)).toNat).node.left l l'->SeenR d m' l' A->DgW d/\inU (eS d (IntKind.u32.wrap (i-1)).toNat).node.right/\szT d (eS d (IntKind.u32.wrap (i-1)).toNat).node.right<n/\∃ A1:Int->Prop,(∀ j:Int,A1 (j)->szT d (eS d (IntKind.u32.wrap (i-1)).toNat).node.right<szT d j)/\SeenR d m' l' A1/\∀ m'1:List Bool,∀ l'1:List Int,NumD d (eS d (IntKind.u32.wrap (i-1)).toNat).node.right l' l'1->SeenR d m'1 l'1 A1->(l'1.length+[i].length)*bytesOf C0 EC.u32<=140737488355328/\K (.tup []) [(.box [(.slc 1),(.slc 2),(.slc 3),(.slc 4)]),(.row false EC.slot (d)),(.row false EC.u32 (fl)),(.row true EC.bool (m'1)),(.row true EC.u32 (l'1++[i]))] [0,3,4])))=_ by kernel_rfl) ?_
 have dl:=hd.len
 refine⟨iu,by omega,brS_of (fun c=>?_) fun c=>?_⟩
 ·exact h m l (.skip (.inl (by simpa using c))) sn
 have u:alcD d i=true:=by simpa using c
 have rg:=alcD_rng u
 rw[wrap_u32 (x:=i-1) (by omega) (by omega)]
 have ml:=sn.len
 refine⟨by omega,by omega,brS_of (fun c=>?_) fun c=>?_⟩
 ·refine h m l (.skip (.inr ?_)) sn
  rcases (sn.sn i).1 ⟨rg.1,c⟩ with q|q
  ·exact q
  ·exact absurd (hA i q) (Nat.lt_irrefl _)
 have ni:i∉l:=fun q=>by
  have:=((sn.sn i).2 (.inl q)).2
  rw[c] at this;cases this
 have sz:=hd.sz i u
 have kd:=hd.kid i u
 have s1:SeenR d (m.set (i-1).toNat true) l (fun j=>A j∨j=i):=⟨by rw[List.length_set];exact ml,sn.nd,sn.us,fun j=>by
  unfold mkd
  rw[getD_set]
  by_cases e:j=i
  ·subst e
   rw[if_pos ⟨rfl,by omega⟩]
   exact⟨fun _=>.inr (.inr rfl),fun _=>⟨rg.1,rfl⟩⟩
  ·by_cases j1:1<=j
   ·rw[if_neg (by omega)]
    have:=sn.sn j
    unfold mkd at this
    rw[this]
    exact⟨fun q=>q.imp id .inl,fun q=>q.imp id fun q=>q.resolve_right e⟩
   ·have:=sn.sn j
    unfold mkd at this
    constructor
    ·intro q;exact absurd q.1 j1
    ·intro q
     exact absurd (this.2 (q.imp id fun q=>q.resolve_right e)).1 j1⟩
 refine⟨by omega,by omega,by omega,by omega,hd,kd.1,Nat.lt_of_lt_of_le sz.1 (Nat.le_of_lt_succ hz),_,fun j hj=>?_,s1,fun m1 l1 n1 r1=>⟨hd,kd.2,Nat.lt_of_lt_of_le sz.2 (Nat.le_of_lt_succ hz),_,fun j hj=>?_,r1,fun m2 l2 n2 r2=>⟨?_,?_⟩⟩⟩
 ·rcases hj with q|q
  ·exact Nat.lt_trans sz.1 (hA j q)
  ·rw[q];exact sz.1
 ·rcases hj with q|q
  ·exact Nat.lt_trans sz.2 (hA j q)
  ·rw[q];exact sz.2
 ·have:=r2.few
  rw[bytes_u32,List.length_singleton];omega
 ·have n1:NumD d (lfD d i) l l1:=n1
  have n2:NumD d (rgD d i) l1 l2:=n2
  have f:=NumG.fresh hd.sz u ni n1 n2
  refine h m2 _ (.go u ni n1 n2) ⟨r2.len,?_,fun j hj=>?_,fun j=>?_⟩
  ·refine List.nodup_append.2 ⟨r2.nd,by simp,fun a ha b hb e=>?_⟩
   rw[List.mem_singleton.1 hb] at e
   exact f (e ▸ ha)
  ·rcases List.mem_append.1 hj with hj|hj
   ·exact r2.us j hj
   ·rw[List.mem_singleton.1 hj];exact u
  ·rw[r2.sn,List.mem_append,List.mem_singleton]
   constructor
   ·rintro (q|q|q)
    ·exact .inl (.inl q)
    ·exact .inr q
    ·exact .inl (.inr q)
   ·rintro ((q|q)|q)
    ·exact .inl q
    ·exact .inr (.inr q)
    ·exact .inr (.inl q)
theorem s_vis:∀ n:Nat,SoundT C0 66 (tVis n)
 | 0=>by
  refine .of Tryz.func66 (by decide) rfl fun args H K h hB=>?_
  unfold tVis at h
  split at h<;>try exact h.elim
  exact absurd h.2.2.1 (Nat.not_lt_zero _)
 | n+1=>by
  refine .ofW [0,3,4] Tryz.func66 (by decide) rfl fun args H K h hB=>?_
  unfold tVis at h
  split at h<;>try exact h.elim
  rename_i i d fl m l
  obtain⟨h1,h2,h3,A,h4,h5,h6⟩:=h
  refine⟨_,?_,vc_vis n d fl m l i K h1 h2 h3 A h4 h5 h6⟩
  exact⟨frame C0.ok s_alc _,frame C0.ok (s_vis n) _,trivial⟩
def PN28 (d:List SlotT)(rs:List Int):List Bool->List Int->Nat->Prop:=fun m l i=>i<=rs.length/\NumsD d (rs.take i) [] l/\SeenR d m l fun _=>False
theorem vc_n28 (n:Nat)(d:List SlotT)(fl rs:List Int)(K:KT)(hd:DgW d)(hN:∀ i,szT d i<n)(hr:rs.length<=1000000)(hv:allVb rs)(h:∀ l,NumsD d rs [] l->K (.one (.at (.slc 3))) [.row false EC.slot d,.row false EC.u32 fl,.row false EC.u32 rs,.row true EC.u32 l] []) :
  vc C0 (aN28 n (PN28 d rs) d fl rs) Tryz.f23 [.agg [.slc 0,.slc 1],.at (.slc 2)] [.row false EC.slot d,.row false EC.u32 fl,.row false EC.u32 rs] (normK 3 K):=by
 generalize hP:PN28 d rs=P
 refine Eq.mp (show (0<=(d.length:Int)/\(d.length:Int)<=(d.length:Int)/\(d.length:Int)*(↑(bytesOf C0 EC.bool):Int)<=140737488355328/\(∃ x:XNb P,True/\(True/\True/\VI 0=(VI (x.i:Int))/\True)/\d=d/\fl=fl/\rs=rs/\(True/\True/\True/\True/\True)/\(List.replicate (d.length:Int).toNat false)=x.m/\[]=x.l/\True)/\∀ x:XNb P,True->brS (decide ((x.i:Int)<(rs.length:Int))) (0<=(x.i:Int)/\(x.i:Int)<(rs.length:Int)/\DgW d/\inU (rs.getD (x.i:Int).toNat 0)/\szT d (rs.getD (x.i:Int).toNat 0)<n/\∃ A:Int->Prop,(∀ j:Int,A (j)->szT d (rs.getD (x.i:Int).toNat 0)<szT d j)/\SeenR d x.m x.l A/\∀ m':List Bool,∀ l':List Int,NumD d (rs.getD (x.i:Int).toNat 0) x.l l'->SeenR d m' l' A->∃ x':XNb P,True/\((True/\True/\(VI (IntKind.i64.wrap ((x.i:Int)+1)))=(VI (x'.i:Int))/\True)/\d=d/\fl=fl/\rs=rs/\(True/\True/\True/\True/\True)/\m'=x'.m/\l'=x'.l/\True)/\rs.length-x'.i<rs.length-x.i) (K (.one (.at (.slc 3))) [(.row false EC.slot (d)),(.row false EC.u32 (fl)),(.row false EC.u32 (rs)),(.row true EC.u32 (x.l))] []))=_ by kernel_rfl) ?_
 subst hP
 have dl:=hd.len
 rw[bytes_bool]
 refine⟨by omega,by omega,by omega,⟨⟨List.replicate ((d.length:Int)).toNat false,[],0,Nat.zero_le _,.nil,?_⟩,?_⟩,fun x _=>brS_of (fun z=>?_) fun z=>?_⟩
 ·refine⟨by rw[List.length_replicate];omega,List.nodup_nil,by simp,fun j=>?_⟩
  unfold mkd
  rw[getD_replicate]
  simp
 ·(repeat' first|exact trivial|exact rfl|refine And.intro ?_ ?_)
 ·obtain⟨m,l,i,hi,nn,sn⟩:=x
  dsimp only at z ⊢
  have z:i<rs.length:=by have:=of_decide_eq_true z;omega
  rw[show ((i:Int)).toNat=i from rfl,wrap_id (x:=(i:Int)+1) (by omega) (by omega)]
  have hm:rs.getD i 0∈rs:=by rw[List.getD_eq_getElem?_getD,List.getElem?_eq_getElem z];exact List.getElem_mem z
  have ts:rs.take (i+1)=rs.take i++[rs.getD i 0]:=takeD_snoc z
  refine⟨by omega,by omega,hd,hv _ hm,hN _,fun _=>False,fun j hj=>hj.elim,sn,fun m1 l1 n1 r1=>⟨⟨m1,l1,i+1,z,?_,r1⟩,trivial,?_,Nat.sub_lt_sub_left z (Nat.lt_succ_self i)⟩⟩
  ·rw[ts];exact nn.app (NumsG.one n1)
  ·(repeat' first|exact trivial|exact rfl|refine And.intro ?_ ?_)
 ·obtain⟨m,l,i,hi,nn,sn⟩:=x
  dsimp only at z
  have z:i=rs.length:=by have:=of_decide_eq_false z;omega
  rw[z,List.take_length] at nn
  exact h l nn
theorem s_n28:SoundT C0 23 tN28:=by
 refine .of Tryz.func23 (by decide) rfl fun args H K h hB=>?_
 unfold tN28 at h
 split at h<;>try exact h.elim
 rename_i d fl rs
 refine⟨_,?_,vc_n28 2147483648 d fl rs K h.1 h.1.top h.2.1 h.2.2.1 h.2.2.2⟩
 exact⟨frame C0.ok (s_vis 2147483648) _,trivial⟩
section
variable {S:Arn} {hs:List Int}
theorem lfD_slots (w:Wf S hs){i:Int}(u:S.us i=true):lfD (slotsOf S) i=lfA S i/\rgD (slotsOf S) i=rgA S i:=by
 unfold lfD rgD lfA rgA
 rw[sltD_slots w u]
 exact⟨rfl,rfl⟩
theorem szT_slots (w:Wf S hs)(i:Int):szT (slotsOf S) i=(S.nd i).size.toNat:=by
 unfold szT
 rw[alcD_slots w]
 cases u:S.us i with
 | true=>rw[if_pos rfl,sltD_slots w u]
 | false=>rw[w.zero i u];rfl
theorem dgW_slots (w:Wf S hs):DgW (slotsOf S) where
 len:=by have:=w.n2;rw[slotsOf_len];unfold ncap;omega
 sz i u:=by
  rw[alcD_slots w] at u
  obtain⟨e1,e2⟩:=lfD_slots w u
  rw[e1,e2,szT_slots w,szT_slots w,szT_slots w]
  exact sz_kids w i u
 kid i u:=by
  rw[alcD_slots w] at u
  obtain⟨e1,e2⟩:=lfD_slots w u
  rw[e1,e2]
  have k:=w.kid i u
  exact⟨inU_of w k.1,inU_of w k.2⟩
 top i:=by
  rw[szT_slots w]
  have:=w.size_nonneg i
  unfold maxSize at this
  omega
theorem numD_A (w:Wf S hs){rs l:List Int}(h:NumsD (slotsOf S) rs [] l):NumsA S rs [] l :=
 h.congr (fun i=>(alcD_slots w i).symm) (fun _ u=>((lfD_slots w (by rw[alcD_slots w] at u;exact u)).1).symm) fun _ u=>((lfD_slots w (by rw[alcD_slots w] at u;exact u)).2).symm
end
end Go.Proofs.YtedfbafngmicpaaGreat.Sx
end
section
/- Numbering behind what is known: the same as numbering alone, without what is known. No program in sight. -/
namespace Go.Proofs.YtedfbafngmicpaaGreat.Sx
open Go

section
variable {us:Int->Bool} {lf rg:Int->Int}
def notI (K acc:List Int):List Int:=acc.filter fun j=>!K.contains j
theorem notI_mem {K acc:List Int}{j:Int}:j∈notI K acc↔j∈acc/\j∉K:=by
 unfold notI
 rw[List.mem_filter]
 simp
theorem notI_snoc (K acc:List Int)(i:Int):notI K (acc++[i])=notI K acc++if i∈K then [] else [i]:=by
 unfold notI
 rw[List.filter_append]
 congr 1
 by_cases h:i∈K
 ·simp[h]
 ·simp[h]
theorem numG_aft {K:List Int}(hK:∀ j∈K,(us (lf j)=true->lf j∈K)/\(us (rg j)=true->rg j∈K)){i:Int}{acc a:List Int}(h:NumG us lf rg i acc a):NumG us lf rg i (K++notI K acc) (K++notI K a):=by
 have old:∀ {x:Int} {b c:List Int},(us x=true->x∈K)->NumG us lf rg x (K++notI K b) (K++notI K c)->K++notI K c=K++notI K b:=fun {x b c} hx q=>by
  refine q.det (.skip ?_)
  cases u:us x with
  | false=>exact .inl rfl
  | true=>exact .inr (List.mem_append_left _ (hx u))
 induction h with
 | @skip i acc c =>
  refine .skip (c.imp id fun c=>?_)
  by_cases k:i∈K
  ·exact List.mem_append_left _ k
  ·exact List.mem_append_right _ (notI_mem.2 ⟨c,k⟩)
 | @go i acc a1 a2 u c n1 n2 ih1 ih2 =>
  rw[notI_snoc]
  by_cases k:i∈K
  ·rw[if_pos k,List.append_nil,old (hK i k).2 ih2,old (hK i k).1 ih1]
   exact .skip (.inr (List.mem_append_left _ k))
  ·rw[if_neg k,← List.append_assoc]
   refine .go u (fun q=>?_) ih1 ih2
   rcases List.mem_append.1 q with q|q
   ·exact k q
   ·exact c (notI_mem.1 q).1
theorem numsG_aft {K:List Int}(hK:∀ j∈K,(us (lf j)=true->lf j∈K)/\(us (rg j)=true->rg j∈K)){r:List Int}{acc a:List Int}(h:NumsG us lf rg r acc a):NumsG us lf rg r (K++notI K acc) (K++notI K a):=by
 induction h with
 | nil=>exact .nil
 | cons n1 _ ih=>exact .cons (numG_aft hK n1) ih
end
end Go.Proofs.YtedfbafngmicpaaGreat.Sx
end
section
/- The reference's table of references. -/
namespace Go.Proofs.YtedfbafngmicpaaGreat.Sx
open Go

/-KEEP allB vE wB kB zz crc exI frE itC xorI getB jnA DgW allVb NumD NumsD refL notI plcN sltD alcD slotsOf-/
def refL (n:Nat)(la:List Int):List Int:=(List.range (n+1)).map fun (j:Nat)=>plcN la j
theorem refL_len (n:Nat)(la:List Int):(refL n la).length=n+1:=by unfold refL;rw[List.length_map,List.length_range]
theorem refL_at {n:Nat}{la:List Int}{j:Int}(h0:0<=j)(h:j<=n):getB (refL n la) j.toNat=plcN la j:=by
 unfold refL getB
 rw[List.getD_eq_getElem?_getD,List.getElem?_map,List.getElem?_range (by omega)]
 show plcN la (j.toNat:Int)=_
 rw[Int.toNat_of_nonneg h0]
theorem refL_el {n:Nat}{la:List Int}{i:Nat}(h:i<(refL n la).length):(refL n la)[i]=plcN la (i:Int):=by simp[refL]
theorem refL_nil (n:Nat):List.replicate (n+1) (0:Int)=refL n []:=by
 refine List.ext_getElem (by rw[List.length_replicate,refL_len]) fun i h1 h2=>?_
 rw[List.getElem_replicate,refL_el];rfl
theorem refL_snoc {n:Nat}{la:List Int}{i v:Int}(h0:0<=i)(h1:i<=n)(hi:i∉la)(e:v=(la.length:Int)+1):(refL n la).set i.toNat v=refL n (la++[i]):=by
 refine List.ext_getElem (by rw[List.length_set,refL_len,refL_len]) fun k h2 h3=>?_
 have h4:=h3
 rw[refL_len] at h4
 rw[List.getElem_set,refL_el,refL_el,plcN_snoc la i k hi,e]
 by_cases c:i.toNat=k
 ·rw[if_pos c,if_pos (by omega)]
 ·rw[if_neg c,if_neg (by omega)]
theorem NumsD.few {d:List SlotT}(hd:DgW d){rs l:List Int}(h:NumsD d rs [] l):l.length<=d.length/\l.Nodup/\∀ j∈l,1<=j/\j<=d.length:=by
 have nd:=h.nodup (sz:=szT d) hd.sz List.nodup_nil
 have us:=h.used (fun j hj=>by cases hj)
 have rg:∀ j∈l,1<=j/\j<=(d.length:Int):=fun j hj=>alcD_rng (us j hj)
 have q:=len_nd l ((List.range d.length).map fun (n:Nat)=>(n:Int)+1) nd fun x hx=>by
  have p:=rg x hx
  exact List.mem_map.2 ⟨(x-1).toNat,List.mem_range.2 (by omega),by omega⟩
 rw[List.length_map,List.length_range] at q
 exact⟨q,nd,rg⟩
theorem numsD_aft {d:List SlotT}{ks rs lk al:List Int}(n1:NumsD d ks [] lk)(n3:NumsD d rs [] al):NumsD d rs lk (lk++notI lk al):=by
 have o:=n1.ord OrdG.nil
 have hK:∀ j∈lk,(alcD d (lfD d j)=true->lfD d j∈lk)/\(alcD d (rgD d j)=true->rgD d j∈lk):=fun j hj=>by
  obtain⟨p,hp⟩:=List.getElem?_of_mem hj
  obtain⟨_,a,b⟩:=o p j hp
  exact⟨fun u=>List.mem_of_mem_take (a u),fun u=>List.mem_of_mem_take (b u)⟩
 have q:=numsG_aft hK n3
 rw[show notI lk []=[] from rfl,List.append_nil] at q
 exact q
structure XRe (P:List Int->Nat->Prop) where
 lk:List Int
 i:Nat
 h:P lk i
structure XRf (P:List Int->List Int->List Int->Nat->Prop) where
 lk:List Int
 al:List Int
 f:List Int
 i:Nat
 h:P lk al f i
noncomputable def aRf (P1:List Int->Nat->Prop)(P2:List Int->List Int->List Int->Nat->Prop)(d:List SlotT)(fl rs ks:List Int):Ann C0:={ quiet:=[9999999],Γ:=[(23,frameT [] tN28)],inv:=fun m=>match m with
 | 4=>some { X:=XRe P1,sl:=[3,9,10,11],tf:=fun x=>[.one (.at (.ptr 4 0)),.one (.at (.slc 5)),.one (.at (.slc 6)),vi .i64 x.i],hf:=fun x=>[.row false EC.slot d,.row false EC.u32 fl,.row false EC.u32 rs,.row false EC.u32 ks,.box [.slc 0,.slc 1],.row true EC.u64 (refL d.length (x.lk.take x.i)),.row true EC.u32 x.lk],μ:=fun x=>x.lk.length-x.i }
 | 10=>some { X:=XRf P2,sl:=[9,10,12,13,14],tf:=fun x=>[.one (.at (.slc 4)),.one (.at (.slc 5)),.one (.at (.slc 6)),.one (.at (.slc 7)),vi .i64 x.i],hf:=fun x=>[.row false EC.slot d,.row false EC.u32 fl,.row false EC.u32 rs,.row false EC.u32 ks,.row true EC.u64 (refL d.length (x.lk++x.f)),.row true EC.u32 x.lk,.row true EC.u32 x.f,.row true EC.u32 x.al],μ:=fun x=>x.al.length-x.i }
 | _=>none }
abbrev dgM (H:List (Chunk C0))(k:List SlotT->List Int->List Int->List Int->Prop):Prop:=match H with
 | [.row false .slot d,.row false .u32 fl,.row false .u32 rs,.row false .u32 ks]=>k d fl rs ks
 | _=>False
abbrev hD4 (d:List SlotT)(fl rs ks:List Int):List (Chunk C0):=[.row false EC.slot d,.row false EC.u32 fl,.row false EC.u32 rs,.row false EC.u32 ks]
def tRf:Tfm C0:=fun args H K=>match args with
 | [.agg [.slc 0,.slc 1],.at (.slc 2),.at (.slc 3)]=>dgM H fun d fl rs ks=>DgW d/\rs.length<=1000000/\ks.length<=1000000/\allVb rs/\allVb ks/\∀ lk la,NumsD d ks [] lk->NumsD d rs lk la->∀ r f n,r=refL d.length la->f=la.drop lk.length->n=(lk.length:Int)->K (.tup [.at (.slc 4),.at (.slc 5),.at (vI n)]) (hD4 d fl rs ks++[.row true EC.u64 r,.row true EC.u32 f]) []
 | _=>False
def PRe (d:List SlotT)(ks:List Int):List Int->Nat->Prop:=fun lk i=>i<=lk.length/\NumsD d ks [] lk
def PRf (d:List SlotT)(ks rs:List Int):List Int->List Int->List Int->Nat->Prop:=fun lk al f i=>i<=al.length/\NumsD d ks [] lk/\NumsD d rs [] al/\f=notI lk (al.take i)
theorem take_fresh {l:List Int}(nd:l.Nodup){i:Nat}(h:i<l.length):getB l i∉l.take i:=fun c=>by
 obtain⟨j,hj,e⟩:=List.mem_iff_getElem.1 c
 rw[List.length_take] at hj
 rw[List.getElem_take] at e
 have e2:getB l i=l[i]:=by unfold getB;rw[List.getD_eq_getElem?_getD,List.getElem?_eq_getElem h];rfl
 rw[e2] at e
 have:=(List.getElem_inj nd).1 e
 omega
theorem vc_rf (d:List SlotT)(fl rs ks:List Int)(K:KT)(hd:DgW d)(hr:rs.length<=1000000)(hk:ks.length<=1000000)(vr:allVb rs)(vk:allVb ks)(h:∀ lk la,NumsD d ks [] lk->NumsD d rs lk la->∀ r f n,r=refL d.length la->f=la.drop lk.length->n=(lk.length:Int)->K (.tup [.at (.slc 4),.at (.slc 5),.at (vI n)]) (hD4 d fl rs ks++[.row true EC.u64 r,.row true EC.u32 f]) []) :
  vc C0 (aRf (PRe d ks) (PRf d ks rs) d fl rs ks) Tryz.f67 [.agg [.slc 0,.slc 1],.at (.slc 2),.at (.slc 3)] (hD4 d fl rs ks) (normK 4 K):=by
 generalize hP1:PRe d ks=P1
 generalize hP2:PRf d ks rs=P2
 refine Eq.mp (show (0<=IntKind.i64.wrap ((d.length:Int)+1)/\IntKind.i64.wrap ((d.length:Int)+1)<=IntKind.i64.wrap ((d.length:Int)+1)/\IntKind.i64.wrap ((d.length:Int)+1)*(↑(bytesOf C0 EC.u64):Int)<=140737488355328/\DgW d/\ks.length<=1000000/\allVb ks/\∀ l:List Int,NumsD d ks [] l->(∃ x:XRe P1,True/\(True/\True/\True/\True/\VI 0=(VI (x.i:Int))/\True)/\d=d/\fl=fl/\rs=rs/\ks=ks/\(True/\True/\True)/\(List.replicate (IntKind.i64.wrap ((d.length:Int)+1)).toNat (0:Int))=(refL d.length (List.take x.i x.lk))/\l=x.lk/\True)/\∀ x:XRe P1,True->brS (decide ((x.i:Int)<(x.lk.length:Int))) (0<=(x.i:Int)/\(x.i:Int)<(x.lk.length:Int)/\0<=getB x.lk (x.i:Int).toNat/\getB x.lk (x.i:Int).toNat<(↑(refL d.length (List.take x.i x.lk)).length:Int)/\∃ x':XRe P1,True/\((True/\True/\True/\True/\(VI (IntKind.i64.wrap ((x.i:Int)+1)))=(VI (x'.i:Int))/\True)/\d=d/\fl=fl/\rs=rs/\ks=ks/\(True/\True/\True)/\((refL d.length (List.take x.i x.lk)).set (getB x.lk (x.i:Int).toNat).toNat (IntKind.u64.wrap (IntKind.i64.wrap ((x.i:Int)+1))))=(refL d.length (List.take x'.i x'.lk))/\x.lk=x'.lk/\True)/\x'.lk.length-x'.i<x.lk.length-x.i) (DgW d/\rs.length<=1000000/\allVb rs/\∀ l1:List Int,NumsD d rs [] l1->(∃ x1:XRf P2,True/\(True/\True/\True/\True/\VI 0=(VI (x1.i:Int))/\True)/\d=d/\fl=fl/\rs=rs/\ks=ks/\(refL d.length (List.take x.i x.lk))=(refL d.length (x1.lk++x1.f))/\x.lk=x1.lk/\[]=x1.f/\l1=x1.al/\True)/\∀ x1:XRf P2,True->brS (decide ((x1.i:Int)<(x1.al.length:Int))) (0<=(x1.i:Int)/\(x1.i:Int)<(x1.al.length:Int)/\0<=getB x1.al (x1.i:Int).toNat/\
 getB x1.al (x1.i:Int).toNat<(↑(refL d.length (x1.lk++x1.f)).length:Int)/\brS (getB (refL d.length (x1.lk++x1.f)) (getB x1.al (x1.i:Int).toNat).toNat==0) (0<=(x1.i:Int)/\(x1.i:Int)<(x1.al.length:Int)/\(x1.f.length+[getB x1.al (x1.i:Int).toNat].length)*bytesOf C0 EC.u32<=140737488355328/\0<=(x1.i:Int)/\(x1.i:Int)<(x1.al.length:Int)/\0<=getB x1.al (x1.i:Int).toNat/\getB x1.al (x1.i:Int).toNat<(↑(refL d.length (x1.lk++x1.f)).length:Int)/\∃ x':XRf P2,True/\((True/\True/\True/\True/\(VI (IntKind.i64.wrap ((x1.i:Int)+1)))=(VI (x'.i:Int))/\True)/\d=d/\fl=fl/\rs=rs/\ks=ks/\((refL d.length (x1.lk++x1.f)).set (getB x1.al (x1.i:Int).toNat).toNat (IntKind.u64.wrap (IntKind.i64.wrap ((x1.lk.length:Int)+(↑(x1.f++[getB x1.al (x1.i:Int).toNat]).length:Int)))))=(refL d.length (x'.lk++x'.f))/\x1.lk=x'.lk/\(x1.f++[getB x1.al (x1.i:Int).toNat])=x'.f/\x1.al=x'.al/\True)/\x'.al.length-x'.i<x1.al.length-x1.i) (∃ x':XRf P2,True/\((True/\True/\True/\True/\(VI (IntKind.i64.wrap ((x1.i:Int)+1)))=(VI (x'.i:Int))/\True)/\d=d/\fl=fl/\rs=rs/\ks=ks/\(refL d.length (x1.lk++x1.f))=(refL d.length (x'.lk++x'.f))/\x1.lk=x'.lk/\x1.f=x'.f/\x1.al=x'.al/\True)/\x'.al.length-x'.i<x1.al.length-x1.i)) (K (.tup [(.at (.slc 4)),(.at (.slc 5)),(.at (.val (VI (x1.lk.length:Int))))]) [(.row false EC.slot (d)),(.row false EC.u32 (fl)),(.row false EC.u32 (rs)),(.row false EC.u32 (ks)),(.row true EC.u64 (refL d.length (x1.lk++x1.f))),(.row true EC.u32 (x1.f))] [])))=_ by kernel_rfl) ?_
 subst hP1 hP2
 have dl:=hd.len
 rw[wrap_id (x:=(d.length:Int)+1) (by omega) (by omega),bytes_u64,show ((d.length:Int)+1).toNat=d.length+1 by omega]
 refine⟨by omega,Int.le_refl _,by omega,hd,hk,vk,fun l nl=>⟨⟨⟨l,0,Nat.zero_le _,nl⟩,trivial,⟨trivial,trivial,trivial,trivial,rfl,trivial⟩,rfl,rfl,rfl,rfl,⟨trivial,trivial,trivial⟩,refL_nil _,rfl,trivial⟩,fun x _=>brS_of (fun z=>?_) fun z=>?_⟩⟩
 ·obtain⟨lk,i,hi,nk⟩:=x
  dsimp only at z ⊢
  have zi:i<lk.length:=by have:=of_decide_eq_true z;omega
  clear z
  obtain⟨f1,f2,f3⟩:=nk.few hd
  obtain⟨g1,g2⟩:=f3 _ (getB_mem zi)
  rw[show ((i:Int)).toNat=i from rfl,wrap_id (x:=(i:Int)+1) (by omega) (by omega),wrap_u64 (x:=(i:Int)+1) (by omega) (by omega)]
  refine⟨by omega,by omega,by omega,by rw[refL_len];omega,⟨lk,i+1,zi,nk⟩,trivial,⟨⟨trivial,trivial,trivial,trivial,rfl,trivial⟩,rfl,rfl,rfl,rfl,⟨trivial,trivial,trivial⟩,?_,rfl,trivial⟩,Nat.sub_lt_sub_left zi (Nat.lt_succ_self i)⟩
  rw[take_getB zi]
  exact refL_snoc (by omega) g2 (take_fresh f2 zi) (by rw[List.length_take];omega)
 ·obtain⟨lk,i,hi,nk⟩:=x
  dsimp only at z ⊢
  have z:i=lk.length:=by have:=of_decide_eq_false z;omega
  subst z
  rw[List.take_length]
  refine⟨hd,hr,vr,fun al nal=>⟨⟨⟨lk,al,[],0,Nat.zero_le _,nk,nal,rfl⟩,trivial,⟨trivial,trivial,trivial,trivial,rfl,trivial⟩,rfl,rfl,rfl,rfl,by rw[List.append_nil],rfl,rfl,rfl,trivial⟩,fun x _=>brS_of (fun z=>?_) fun z=>?_⟩⟩
  ·obtain⟨lk,al,f,i,hi,nk,nal,ef⟩:=x
   dsimp only at z ⊢
   have zi:i<al.length:=by have:=of_decide_eq_true z;omega
   clear z
   obtain⟨f1,f2,f3⟩:=nal.few hd
   obtain⟨q1,q2,q3⟩:=nk.few hd
   obtain⟨g1,g2⟩:=f3 _ (getB_mem zi)
   have fr:=take_fresh f2 zi
   have sn:=notI_snoc lk (al.take i) (getB al i)
   rw[← take_getB zi,← ef] at sn
   have nf:getB al i∉f:=fun c=>by rw[ef] at c;exact fr (notI_mem.1 c).1
   have fl_:f.length<=al.length:=by
    rw[ef]
    have:=List.length_filter_le (fun j=>!lk.contains j) (al.take i)
    rw[List.length_take] at this
    unfold notI;omega
   rw[show ((i:Int)).toNat=i from rfl,wrap_id (x:=(i:Int)+1) (by omega) (by omega)]
   rw[refL_at (by omega) g2]
   refine⟨by omega,by omega,by omega,by rw[refL_len];omega,brS_of (fun y=>?_) fun y=>?_⟩
   ·have y:plcN (lk++f) (getB al i)=0:=eq_of_beq y
    have ny:getB al i∉lk++f:=fun c=>by have:=plcN_mem.2 c;omega
    have nl:getB al i∉lk:=fun c=>ny (List.mem_append_left _ c)
    rw[if_neg nl] at sn
    have ll:((f++[getB al i]).length:Int)=(f.length:Int)+1:=by rw[List.length_append];rfl
    have ll2:((lk++f).length:Int)=(lk.length:Int)+f.length:=by rw[List.length_append];omega
    rw[ll,wrap_id (x:=(lk.length:Int)+((f.length:Int)+1)) (by omega) (by omega),wrap_u64 (x:=(lk.length:Int)+((f.length:Int)+1)) (by omega) (by omega)]
    refine⟨by omega,by omega,by rw[bytes_u32,List.length_singleton];omega,by omega,by omega,by omega,by rw[refL_len];omega,⟨lk,al,f++[getB al i],i+1,zi,nk,nal,sn.symm⟩,trivial,⟨⟨trivial,trivial,trivial,trivial,rfl,trivial⟩,rfl,rfl,rfl,rfl,?_,rfl,rfl,rfl,trivial⟩,Nat.sub_lt_sub_left zi (Nat.lt_succ_self i)⟩
    show _=refL d.length (lk++(f++[getB al i]))
    rw[← List.append_assoc]
    exact refL_snoc (by omega) g2 ny (by rw[ll2];omega)
   ·have y:plcN (lk++f) (getB al i)≠0:=fun c=>by rw[c] at y;exact absurd y (by decide)
    have pr:=plcN_rng (lk++f) (getB al i)
    have iy:getB al i∈lk:=(List.mem_append.1 (plcN_mem.1 (show 0<plcN (lk++f) (getB al i) by omega))).resolve_right nf
    rw[if_pos iy,List.append_nil] at sn
    refine⟨⟨lk,al,f,i+1,zi,nk,nal,sn.symm⟩,trivial,⟨⟨trivial,trivial,trivial,trivial,rfl,trivial⟩,rfl,rfl,rfl,rfl,rfl,rfl,rfl,rfl,trivial⟩,Nat.sub_lt_sub_left zi (Nat.lt_succ_self i)⟩
  ·obtain⟨lk,al,f,i,hi,nk,nal,ef⟩:=x
   dsimp only at z ⊢
   have z:i=al.length:=by have:=of_decide_eq_false z;omega
   rw[z,List.take_length] at ef
   subst ef
   exact h lk _ nk (numsD_aft nk nal) _ _ _ rfl (by rw[List.drop_left]) rfl
theorem s_rf:SoundT C0 67 tRf:=by
 refine .of Tryz.func67 (by decide) rfl fun args H K h hB=>?_
 unfold tRf at h
 split at h<;>try exact h.elim
 unfold dgM at h
 split at h<;>try exact h.elim
 rename_i _ d fl rs ks
 obtain⟨h1,h2,h3,h4,h5,h6⟩:=h
 exact⟨aRf (PRe d ks) (PRf d ks rs) d fl rs ks,⟨frame C0.ok s_n28 _,trivial⟩,vc_rf d fl rs ks K h1 h2 h3 h4 h5 h6⟩
end Go.Proofs.YtedfbafngmicpaaGreat.Sx
end
