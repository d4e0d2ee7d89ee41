/- A part of the proof. -/
import Derived.Test.YtedfbafngmicpaaGreatG4
import Derived.Test.YtedfbafngmicpaaGreatG5
import Derived.Test.YtedfbafngmicpaaGreatG6
import Derived.Test.YtedfbafngmicpaaGreatG9
import Derived.Test.YtedfbafngmicpaaGreatG11
import Derived.Test.YtedfbafngmicpaaGreatG7
section
/- The order of the free slots, and the arena's Dump. -/
/-KEEP exW inU Arn.cap Arn.free-/
namespace Go.Proofs.YtedfbafngmicpaaGreat.Sx
open Go

def upTo (fr:Int) (n:Nat):List Int:=(List.range n).map fun (k:Nat)=>fr+1+(k:Int)
def orderL (us:List Bool) (rl:List Int) (fr:Int):List Int:=rl.reverse ++ upTo fr ((us.length:Int) - 1 - fr).toNat
structure XOr1 (rl:List Int) where
 k:Nat
 h:k<=rl.length
structure XOr2 (us:List Bool) (fr:Int) where
 n:Nat
 h:n<=((us.length:Int) - 1 - fr).toNat
noncomputable def aOrder (us:List Bool) (gn rl:List Int) (fr:Int):Ann C0:={ Γ:=[(75,frameT [] tSlFree),(77,frameT [] tSlCap)],inv:=fun n=>match n with
 | 3=>some { X:=XOr1 rl,sl:=[4,3],tf:=fun x=>[vi .i64 ((x.k:Int) - 1),.one (.at (.slc 4))],hf:=fun x=>slC us gn rl fr ++ [.row true EC.u32 (rl.drop x.k).reverse],μ:=fun x=>x.k }
 | 7=>some { X:=XOr2 us fr,sl:=[5,3],tf:=fun x=>[vi .i64 (fr+1+(x.n:Int)),.one (.at (.slc 4))],hf:=fun x=>slC us gn rl fr ++ [.row true EC.u32 (rl.reverse ++ upTo fr x.n)],μ:=fun x=>((us.length:Int) - 1 - fr).toNat - x.n }
 | _=>none }
def tOrder:Tfm C0:=fun args H K=>match args with
 | [.at (.ptr 0 0)]=>slM H fun us gn rl fr=>1<=us.length/\us.length<=65537/\rl.length<=65537/\0<=fr/\fr<=us.length - 1/\∀ o:List Int,o=orderL us rl fr->K (.one (.at (.slc 4))) (slC us gn rl fr ++ [.row true EC.u32 o]) []
 | _=>False
def SlotT.zero:SlotT:=⟨false,0,0,NodeT.zero⟩
def slotAt (S:Arn) (k:Nat):SlotT:=⟨S.us ((k:Int)+1),if S.us ((k:Int)+1) then S.ct ((k:Int)+1) else 0,S.gn ((k:Int)+1),S.nd ((k:Int)+1)⟩
def ncap (S:Arn):Nat:=S.used.length - 1
def slotsOf (S:Arn):List SlotT:=(List.range (ncap S)).map (slotAt S)
def orderOf (S:Arn):List Int:=orderL S.used S.rel S.fresh
structure XDu (S:Arn) where
 i:Nat
 h:i<=ncap S
def fillS (S:Arn) (i:Nat):List SlotT:=(List.range i).map (slotAt S) ++ List.replicate (ncap S - i) SlotT.zero
noncomputable def aDump (S:Arn):Ann C0:={ quiet:=[59,60,61,29],Γ:=[(29,frameT [] tCap),(58,frameT [] tOrder),(59,frameT [] tSlAllocated),(60,frameT [] tCount),(61,frameT [] tGen)],inv:=fun n=>match n with
 | 1002=>some { X:=Unit,sl:=[3,2],tf:=fun _=>[.one (.at (.ptr 7 0)),.one (.at (.ptr 10 0))],hf:=fun _=>chS S ++ [.box [.slc 8,.slc 9],.row true EC.slot (fillS S 0),.row true EC.u32 (orderOf S),.box [.slc 11,.slc 12],.row true EC.slot [],.row true EC.u32 []] }
 | 3=>some { X:=XDu S,sl:=[18,3,2],tf:=fun x=>[vi .i64 x.i,.one (.at (.ptr 7 0)),.one (.at (.ptr 10 0))],hf:=fun x=>chS S ++ [.box [.slc 8,.slc 9],.row true EC.slot (fillS S x.i),.row true EC.u32 (orderOf S),.box [.slc 11,.slc 12],.row true EC.slot [],.row true EC.u32 []],μ:=fun x=>ncap S - x.i }
 | _=>none }
def tDump:Tfm C0:=fun args H K=>match args with
 | [.at (.ptr 0 0)]=>arM H fun S=>exW S/\∀ (d:List SlotT) (o:List Int),d=slotsOf S->o=orderOf S->K (.one (.agg [.slc 7,.slc 8])) (chS S ++ [.row true EC.slot d,.row true EC.u32 o]) []
 | _=>False
theorem upTo_snoc (fr:Int) (n:Nat):upTo fr n ++ [fr+1+(n:Int)]=upTo fr (n+1):=by
 unfold upTo;rw [List.range_succ,List.map_append];rfl
theorem vc_order (us:List Bool) (gn rl:List Int) (fr:Int) (K:KT) (h1:1<=us.length) (h2:us.length<=65537) (h3:rl.length<=65537) (h4:0<=fr) (h5:fr<=us.length - 1) (h:∀ o:List Int,o=orderL us rl fr->K (.one (.at (.slc 4))) (slC us gn rl fr ++ [.row true EC.u32 o]) []) :
  vc C0 (aOrder us gn rl fr) Tryz.f58 [.at (.ptr 0 0)] (slC us gn rl fr) (normK 4 K):=by
 refine Eq.mp (show ((1<=us.length)/\(us.length<=65537)/\(rl.length<=65537)/\(0<=fr)/\(fr<=65537)/\((0:Int)<=0)/\(0<=(rl.length:Int)+((us.length:Int) - 1) - fr)/\(((rl.length:Int)+((us.length:Int) - 1) - fr) * (↑(bytesOf C0 EC.u32):Int)<=140737488355328)/\(∃ x:XOr1 rl,(True/\(True/\True/\((Value.int .i64 (IntKind.i64.wrap ((rl.length:Int) - 1)))=(Value.int .i64 ((x.k:Int) - 1)))/\True)/\(True/\True/\True/\((Value.int .u32 (fr))=(Value.int .u32 (fr)))/\True)/\((us)=(us))/\((gn)=(gn))/\((rl)=(rl))/\([]=((List.drop x.k rl).reverse))/\True))/\(∀ x:XOr1 rl,(True->(brS (decide ((x.k:Int) - 1 ≥ 0)) (((0<=(x.k:Int) - 1)/\((x.k:Int) - 1 < (rl.length:Int))/\(((List.drop x.k rl).reverse.length+[rl.getD ((x.k:Int) - 1).toNat 0].length) * bytesOf C0 EC.u32<=140737488355328)/\(∃ x':XOr1 rl,(True/\((True/\True/\((Value.int .i64 (IntKind.i64.wrap ((x.k:Int) - 1 - 1)))=(Value.int .i64 ((x'.k:Int) - 1)))/\True)/\(True/\True/\True/\((Value.int .u32 (fr))=(Value.int .u32 (fr)))/\True)/\((us)=(us))/\((gn)=(gn))/\((rl)=(rl))/\(((List.drop x.k rl).reverse ++ [rl.getD ((x.k:Int) - 1).toNat 0])=((List.drop x'.k rl).reverse))/\True)/\(x'.k < x.k))))) (((∃ x1:XOr2 us fr,(True/\(True/\True/\((Value.int .i64 (IntKind.i64.wrap (IntKind.i64.wrap fr+1)))=(Value.int .i64 (fr+1+(x1.n:Int))))/\True)/\(True/\True/\True/\((Value.int .u32 (fr))=(Value.int .u32 (fr)))/\True)/\((us)=(us))/\((gn)=(gn))/\((rl)=(rl))/\(((List.drop x.k rl).reverse)=(rl.reverse ++ upTo fr x1.n))/\True))/\(∀ x1:XOr2 us fr,(True->((1<=us.length)/\(us.length<=65537)/\
 (brS (decide (fr+1+(x1.n:Int)<=(us.length:Int) - 1)) (((((rl.reverse ++ upTo fr x1.n).length+[IntKind.u32.wrap (fr+1+(x1.n:Int))].length) * bytesOf C0 EC.u32<=140737488355328)/\(∃ x':XOr2 us fr,(True/\((True/\True/\((Value.int .i64 (IntKind.i64.wrap (fr+1+(x1.n:Int)+1)))=(Value.int .i64 (fr+1+(x'.n:Int))))/\True)/\(True/\True/\True/\((Value.int .u32 (fr))=(Value.int .u32 (fr)))/\True)/\((us)=(us))/\((gn)=(gn))/\((rl)=(rl))/\((rl.reverse ++ upTo fr x1.n ++ [IntKind.u32.wrap (fr+1+(x1.n:Int))])=(rl.reverse ++ upTo fr x'.n))/\True)/\(((us.length:Int) - 1 - fr).toNat - x'.n < ((us.length:Int) - 1 - fr).toNat - x1.n))))) ((K (.one (.at (.slc 4))) [(.box [(.slc 1),(.slc 2),(.slc 3),(.val (Value.int .u32 (fr)))]),(.row true EC.bool (us)),(.row true EC.u32 (gn)),(.row true EC.u32 (rl)),(.row true EC.u32 (rl.reverse ++ upTo fr x1.n))] []))))))))))))=_ by kernel_rfl) ?_
 rw [bytes_u32]
 rw [wrap_id (x:=(rl.length:Int) - 1) (by omega) (by omega),wrap_id (x:=fr) (by omega) (by omega),wrap_id (x:=fr+1) (by omega) (by omega)]
 refine ⟨h1,h2,h3,h4,by omega,by decide,by omega,by omega,⟨⟨rl.length,Nat.le_refl _⟩,trivial,⟨trivial,trivial,rfl,trivial⟩,⟨trivial,trivial,trivial,rfl,trivial⟩,rfl,rfl,rfl,by simp,trivial⟩,fun x _=>brS_of (fun c=>?_) fun c=>?_⟩
 ·have c:1<=x.k:=by have:=of_decide_eq_true c;omega
  have hk:=x.h
  have hg:rl[x.k - 1]?=some (rl.getD (x.k - 1) 0):=by simp [List.getD_eq_getElem?_getD,List.getElem?_eq_getElem (show x.k - 1 < rl.length by omega)]
  rw [wrap_id (by omega) (by omega),show ((x.k:Int) - 1).toNat=x.k - 1 by omega]
  refine ⟨by omega,by omega,?_,⟨x.k - 1,by omega⟩,trivial,⟨⟨trivial,trivial,?_,trivial⟩,⟨trivial,trivial,trivial,rfl,trivial⟩,rfl,rfl,rfl,?_,trivial⟩,?_⟩
  ·simp;omega
  ·congr 1;show (x.k:Int) - 1 - 1=((x.k - 1:Nat):Int) - 1;omega
  ·show _=(rl.drop (x.k - 1)).reverse
   rw [drop_cons hg,List.reverse_cons,show x.k - 1+1=x.k by omega]
  ·show x.k - 1 < x.k;omega
 ·have c:x.k=0:=by have:=of_decide_eq_false c;omega
  refine ⟨⟨⟨0,Nat.zero_le _⟩,trivial,⟨trivial,trivial,by congr 1;show fr+1=fr+1+((0:Nat):Int);omega,trivial⟩,⟨trivial,trivial,trivial,rfl,trivial⟩,rfl,rfl,rfl,by rw [c];simp [upTo],trivial⟩,fun y _=>⟨h1,h2,brS_of (fun d=>?_) fun d=>?_⟩⟩
  ·have d:fr+1+(y.n:Int)<=us.length - 1:=of_decide_eq_true d
   have hul:(upTo fr y.n).length=y.n:=by simp [upTo]
   rw [wrap_u32 (by omega) (by omega),wrap_id (by omega) (by omega)]
   refine ⟨?_,⟨y.n+1,by omega⟩,trivial,⟨⟨trivial,trivial,?_,trivial⟩,⟨trivial,trivial,trivial,rfl,trivial⟩,rfl,rfl,rfl,?_,trivial⟩,?_⟩
   ·simp [hul];omega
   ·congr 1;show fr+1+(y.n:Int)+1=fr+1+((y.n+1:Nat):Int);omega
   ·show _=rl.reverse ++ upTo fr (y.n+1)
    rw [← upTo_snoc,List.append_assoc]
   ·show _ - (y.n+1) < _;omega
  ·have d:¬ fr+1+(y.n:Int)<=us.length - 1:=of_decide_eq_false d
   have hn:y.n=((us.length:Int) - 1 - fr).toNat:=by have:=y.h;omega
   exact h _ (by unfold orderL;rw [hn])
theorem s_order:SoundT C0 58 tOrder:=by
 refine .of Tryz.func58 (by decide) rfl fun args H K h hB=>?_
 unfold tOrder at h
 split at h <;> try exact h.elim
 unfold slM at h
 split at h <;> try exact h.elim
 rename_i fr us gn rl
 obtain ⟨h1,h2,h3,h4,h5,h6⟩:=h
 exact ⟨aOrder us gn rl fr,⟨frame C0.ok s_slFree _,frame C0.ok s_slCap _,trivial⟩,vc_order us gn rl fr K h1 h2 h3 h4 h5 h6⟩
theorem fill_zero (S:Arn):List.replicate (ncap S) SlotT.zero=fillS S 0:=by simp [fillS]
theorem fill_len (S:Arn) (i:Nat) (h:i<=ncap S):(fillS S i).length=ncap S:=by simp [fillS];omega
theorem fill_next (S:Arn) {i:Nat} (h:i < ncap S):(fillS S i).set i (slotAt S i)=fillS S (i+1):=by
 unfold fillS
 obtain ⟨m,hm⟩:∃ m,ncap S - i=m+1:=⟨ncap S - i - 1,by omega⟩
 rw [hm,show ncap S - (i+1)=m by omega,List.range_succ,List.map_append,List.replicate_succ,List.set_append_right _ _ (by simp)]
 simp
theorem fill_all (S:Arn):fillS S (ncap S)=slotsOf S:=by simp [fillS,slotsOf]
theorem vc_dump (S:Arn) (K:KT) (hw:exW S) (h:∀ (d:List SlotT) (o:List Int),d=slotsOf S->o=orderOf S->K (.one (.agg [.slc 7,.slc 8])) (chS S ++ [.row true EC.slot d,.row true EC.u32 o]) []) :
  vc C0 (aDump S) Tryz.f17 [.at (.ptr 0 0)] (chS S) (normK 7 K):=by
 refine Eq.mp (show ((((exW S)/\((0<=S.cap)/\(S.cap<=S.cap)/\(S.cap * (↑(bytesOf C0 EC.slot):Int)<=140737488355328)/\(((1<=S.used.length)/\(S.used.length<=65537)/\(S.rel.length<=65537)/\(0<=S.fresh)/\(S.fresh<=(S.used.length:Int) - 1)/\(∀ o:List Int,(((o)=(orderL S.used S.rel S.fresh))->(∃ x:Unit,(True/\(True/\True/\True/\True)/\(True/\True/\True/\((Value.int .u64 (S.reads))=(Value.int .u64 (S.reads)))/\True)/\(True/\True/\True/\((Value.int .u32 (S.fresh))=(Value.int .u32 (S.fresh)))/\True)/\((S.nodes)=(S.nodes))/\((S.counts)=(S.counts))/\((S.used)=(S.used))/\((S.gen)=(S.gen))/\((S.rel)=(S.rel))/\(True/\True/\True)/\((List.replicate S.cap.toNat { alloc:=false,count:=0,gen:=0,node:={ key:=0,value:=0,left:=0,right:=0,size:=0,sum:=0,min:=0,max:=0:NodeT }:SlotT })=(fillS S 0))/\((o)=(orderOf S))/\(True/\True/\True)/\((([]:List SlotT)=[]))/\((([]:List Int)=[]))/\True)))))/\(1<=S.used.length)/\(S.used.length<=65537)/\(S.rel.length<=65537)/\(0<=S.fresh)/\(S.fresh<=(S.used.length:Int) - 1)/\(∀ o:List Int,(((o)=(orderL S.used S.rel S.fresh))->(∃ x:Unit,(True/\(True/\True/\True/\True)/\(True/\True/\True/\((Value.int .u64 (S.reads))=(Value.int .u64 (S.reads)))/\True)/\(True/\True/\True/\((Value.int .u32 (S.fresh))=(Value.int .u32 (S.fresh)))/\True)/\((S.nodes)=(S.nodes))/\((S.counts)=(S.counts))/\((S.used)=(S.used))/\((S.gen)=(S.gen))/\((S.rel)=(S.rel))/\(True/\True/\True)/\((List.replicate S.cap.toNat { alloc:=false,count:=0,gen:=0,node:={ key:=0,value:=0,left:=0,right:=0,size:=0,sum:=0,min:=0,max:=0:NodeT }:SlotT })=(fillS S 0))/\
 ((o)=(orderOf S))/\(True/\True/\True)/\((([]:List SlotT)=[]))/\((([]:List Int)=[]))/\True)))))/\(1<=S.used.length)/\(S.used.length<=65537)/\(S.rel.length<=65537)/\(0<=S.fresh)/\(S.fresh<=(S.used.length:Int) - 1)/\(∀ o:List Int,(((o)=(orderL S.used S.rel S.fresh))->(∃ x:Unit,(True/\(True/\True/\True/\True)/\(True/\True/\True/\((Value.int .u64 (S.reads))=(Value.int .u64 (S.reads)))/\True)/\(True/\True/\True/\((Value.int .u32 (S.fresh))=(Value.int .u32 (S.fresh)))/\True)/\((S.nodes)=(S.nodes))/\((S.counts)=(S.counts))/\((S.used)=(S.used))/\((S.gen)=(S.gen))/\((S.rel)=(S.rel))/\(True/\True/\True)/\((List.replicate S.cap.toNat { alloc:=false,count:=0,gen:=0,node:={ key:=0,value:=0,left:=0,right:=0,size:=0,sum:=0,min:=0,max:=0:NodeT }:SlotT })=(fillS S 0))/\((o)=(orderOf S))/\(True/\True/\True)/\((([]:List SlotT)=[]))/\((([]:List Int)=[]))/\True)))))/\(((0<=S.cap)/\(S.cap<=S.cap)/\(S.cap * (↑(bytesOf C0 EC.slot):Int)<=140737488355328)/\((1<=S.used.length)/\(S.used.length<=65537)/\(S.rel.length<=65537)/\(0<=S.fresh)/\(S.fresh<=(S.used.length:Int) - 1)/\(∀ o:List Int,(((o)=(orderL S.used S.rel S.fresh))->(∃ x:Unit,(True/\(True/\True/\True/\True)/\(True/\True/\True/\((Value.int .u64 (S.reads))=(Value.int .u64 (S.reads)))/\True)/\(True/\True/\True/\((Value.int .u32 (S.fresh))=(Value.int .u32 (S.fresh)))/\True)/\((S.nodes)=(S.nodes))/\((S.counts)=(S.counts))/\((S.used)=(S.used))/\((S.gen)=(S.gen))/\((S.rel)=(S.rel))/\(True/\True/\True)/\((List.replicate S.cap.toNat { alloc:=false,count:=0,gen:=0,node:={ key:=0,value:=0,left:=0,right:=0,size:=0,sum:=0,min:=0,max:=0:NodeT }:SlotT })=(fillS S 0))/\
 ((o)=(orderOf S))/\(True/\True/\True)/\((([]:List SlotT)=[]))/\((([]:List Int)=[]))/\True)))))/\(1<=S.used.length)/\(S.used.length<=65537)/\(S.rel.length<=65537)/\(0<=S.fresh)/\(S.fresh<=(S.used.length:Int) - 1)/\(∀ o:List Int,(((o)=(orderL S.used S.rel S.fresh))->(∃ x:Unit,(True/\(True/\True/\True/\True)/\(True/\True/\True/\((Value.int .u64 (S.reads))=(Value.int .u64 (S.reads)))/\True)/\(True/\True/\True/\((Value.int .u32 (S.fresh))=(Value.int .u32 (S.fresh)))/\True)/\((S.nodes)=(S.nodes))/\((S.counts)=(S.counts))/\((S.used)=(S.used))/\((S.gen)=(S.gen))/\((S.rel)=(S.rel))/\(True/\True/\True)/\((List.replicate S.cap.toNat { alloc:=false,count:=0,gen:=0,node:={ key:=0,value:=0,left:=0,right:=0,size:=0,sum:=0,min:=0,max:=0:NodeT }:SlotT })=(fillS S 0))/\((o)=(orderOf S))/\(True/\True/\True)/\((([]:List SlotT)=[]))/\((([]:List Int)=[]))/\True)))))/\((1<=S.used.length)/\(S.used.length<=65537)/\(S.rel.length<=65537)/\(0<=S.fresh)/\(S.fresh<=(S.used.length:Int) - 1)/\(∀ o:List Int,(((o)=(orderL S.used S.rel S.fresh))->(((0<=S.cap)/\(S.cap<=S.cap)/\(S.cap * (↑(bytesOf C0 EC.slot):Int)<=140737488355328)/\(∃ x:Unit,(True/\(True/\True/\True/\True)/\(True/\True/\True/\((Value.int .u64 (S.reads))=(Value.int .u64 (S.reads)))/\True)/\(True/\True/\True/\((Value.int .u32 (S.fresh))=(Value.int .u32 (S.fresh)))/\True)/\((S.nodes)=(S.nodes))/\((S.counts)=(S.counts))/\((S.used)=(S.used))/\((S.gen)=(S.gen))/\((S.rel)=(S.rel))/\(True/\True/\True)/\((List.replicate S.cap.toNat { alloc:=false,count:=0,gen:=0,node:={ key:=0,value:=0,left:=0,right:=0,size:=0,sum:=0,min:=0,max:=0:NodeT }:SlotT })=(fillS S 0))/\
 ((o)=(orderOf S))/\(True/\True/\True)/\((([]:List SlotT)=[]))/\((([]:List Int)=[]))/\True)))/\(0<=S.cap)/\(S.cap<=S.cap)/\(S.cap * (↑(bytesOf C0 EC.slot):Int)<=140737488355328)/\(∃ x:Unit,(True/\(True/\True/\True/\True)/\(True/\True/\True/\((Value.int .u64 (S.reads))=(Value.int .u64 (S.reads)))/\True)/\(True/\True/\True/\((Value.int .u32 (S.fresh))=(Value.int .u32 (S.fresh)))/\True)/\((S.nodes)=(S.nodes))/\((S.counts)=(S.counts))/\((S.used)=(S.used))/\((S.gen)=(S.gen))/\((S.rel)=(S.rel))/\(True/\True/\True)/\((List.replicate S.cap.toNat { alloc:=false,count:=0,gen:=0,node:={ key:=0,value:=0,left:=0,right:=0,size:=0,sum:=0,min:=0,max:=0:NodeT }:SlotT })=(fillS S 0))/\((o)=(orderOf S))/\(True/\True/\True)/\((([]:List SlotT)=[]))/\((([]:List Int)=[]))/\True))))))/\((0<=S.cap)/\(S.cap<=S.cap)/\(S.cap * (↑(bytesOf C0 EC.slot):Int)<=140737488355328)/\(1<=S.used.length)/\(S.used.length<=65537)/\(S.rel.length<=65537)/\(0<=S.fresh)/\(S.fresh<=(S.used.length:Int) - 1)/\(∀ o:List Int,(((o)=(orderL S.used S.rel S.fresh))->(∃ x:Unit,(True/\(True/\True/\True/\True)/\(True/\True/\True/\((Value.int .u64 (S.reads))=(Value.int .u64 (S.reads)))/\True)/\(True/\True/\True/\((Value.int .u32 (S.fresh))=(Value.int .u32 (S.fresh)))/\True)/\((S.nodes)=(S.nodes))/\((S.counts)=(S.counts))/\((S.used)=(S.used))/\((S.gen)=(S.gen))/\((S.rel)=(S.rel))/\(True/\True/\True)/\((List.replicate S.cap.toNat { alloc:=false,count:=0,gen:=0,node:={ key:=0,value:=0,left:=0,right:=0,size:=0,sum:=0,min:=0,max:=0:NodeT }:SlotT })=(fillS S 0))/\
 ((o)=(orderOf S))/\(True/\True/\True)/\((([]:List SlotT)=[]))/\((([]:List Int)=[]))/\True)))))/\(1<=S.used.length)/\(S.used.length<=65537)/\(S.rel.length<=65537)/\(0<=S.fresh)/\(S.fresh<=(S.used.length:Int) - 1)/\(∀ o:List Int,(((o)=(orderL S.used S.rel S.fresh))->((0<=S.cap)/\(S.cap<=S.cap)/\(S.cap * (↑(bytesOf C0 EC.slot):Int)<=140737488355328)/\(∃ x:Unit,(True/\(True/\True/\True/\True)/\(True/\True/\True/\((Value.int .u64 (S.reads))=(Value.int .u64 (S.reads)))/\True)/\(True/\True/\True/\((Value.int .u32 (S.fresh))=(Value.int .u32 (S.fresh)))/\True)/\((S.nodes)=(S.nodes))/\((S.counts)=(S.counts))/\((S.used)=(S.used))/\((S.gen)=(S.gen))/\((S.rel)=(S.rel))/\(True/\True/\True)/\((List.replicate S.cap.toNat { alloc:=false,count:=0,gen:=0,node:={ key:=0,value:=0,left:=0,right:=0,size:=0,sum:=0,min:=0,max:=0:NodeT }:SlotT })=(fillS S 0))/\((o)=(orderOf S))/\(True/\True/\True)/\((([]:List SlotT)=[]))/\((([]:List Int)=[]))/\True))))))/\((0<=S.cap)/\(S.cap<=S.cap)/\(S.cap * (↑(bytesOf C0 EC.slot):Int)<=140737488355328)/\(1<=S.used.length)/\(S.used.length<=65537)/\(S.rel.length<=65537)/\(0<=S.fresh)/\(S.fresh<=(S.used.length:Int) - 1)/\(∀ o:List Int,(((o)=(orderL S.used S.rel S.fresh))->(∃ x:Unit,(True/\(True/\True/\True/\True)/\(True/\True/\True/\((Value.int .u64 (S.reads))=(Value.int .u64 (S.reads)))/\True)/\(True/\True/\True/\((Value.int .u32 (S.fresh))=(Value.int .u32 (S.fresh)))/\True)/\((S.nodes)=(S.nodes))/\((S.counts)=(S.counts))/\((S.used)=(S.used))/\((S.gen)=(S.gen))/\((S.rel)=(S.rel))/\
 (True/\True/\True)/\((List.replicate S.cap.toNat { alloc:=false,count:=0,gen:=0,node:={ key:=0,value:=0,left:=0,right:=0,size:=0,sum:=0,min:=0,max:=0:NodeT }:SlotT })=(fillS S 0))/\((o)=(orderOf S))/\(True/\True/\True)/\((([]:List SlotT)=[]))/\((([]:List Int)=[]))/\True)))))/\((0<=S.cap)/\(S.cap<=S.cap)/\(S.cap * (↑(bytesOf C0 EC.slot):Int)<=140737488355328)/\(1<=S.used.length)/\(S.used.length<=65537)/\(S.rel.length<=65537)/\(0<=S.fresh)/\(S.fresh<=(S.used.length:Int) - 1)/\(∀ o:List Int,(((o)=(orderL S.used S.rel S.fresh))->(∃ x:Unit,(True/\(True/\True/\True/\True)/\(True/\True/\True/\((Value.int .u64 (S.reads))=(Value.int .u64 (S.reads)))/\True)/\(True/\True/\True/\((Value.int .u32 (S.fresh))=(Value.int .u32 (S.fresh)))/\True)/\((S.nodes)=(S.nodes))/\((S.counts)=(S.counts))/\((S.used)=(S.used))/\((S.gen)=(S.gen))/\((S.rel)=(S.rel))/\(True/\True/\True)/\((List.replicate S.cap.toNat { alloc:=false,count:=0,gen:=0,node:={ key:=0,value:=0,left:=0,right:=0,size:=0,sum:=0,min:=0,max:=0:NodeT }:SlotT })=(fillS S 0))/\((o)=(orderOf S))/\(True/\True/\True)/\((([]:List SlotT)=[]))/\((([]:List Int)=[]))/\True)))))/\(1<=S.used.length)/\(S.used.length<=65537)/\(S.rel.length<=65537)/\(0<=S.fresh)/\(S.fresh<=(S.used.length:Int) - 1)/\(∀ o:List Int,(((o)=(orderL S.used S.rel S.fresh))->((0<=S.cap)/\(S.cap<=S.cap)/\(S.cap * (↑(bytesOf C0 EC.slot):Int)<=140737488355328)/\(∃ x:Unit,(True/\(True/\True/\True/\True)/\(True/\True/\True/\((Value.int .u64 (S.reads))=(Value.int .u64 (S.reads)))/\True)/\
 (True/\True/\True/\((Value.int .u32 (S.fresh))=(Value.int .u32 (S.fresh)))/\True)/\((S.nodes)=(S.nodes))/\((S.counts)=(S.counts))/\((S.used)=(S.used))/\((S.gen)=(S.gen))/\((S.rel)=(S.rel))/\(True/\True/\True)/\((List.replicate S.cap.toNat { alloc:=false,count:=0,gen:=0,node:={ key:=0,value:=0,left:=0,right:=0,size:=0,sum:=0,min:=0,max:=0:NodeT }:SlotT })=(fillS S 0))/\((o)=(orderOf S))/\(True/\True/\True)/\((([]:List SlotT)=[]))/\((([]:List Int)=[]))/\True))))))/\(((exW S)/\((0<=S.cap)/\(S.cap<=S.cap)/\(S.cap * (↑(bytesOf C0 EC.slot):Int)<=140737488355328)/\((1<=S.used.length)/\(S.used.length<=65537)/\(S.rel.length<=65537)/\(0<=S.fresh)/\(S.fresh<=(S.used.length:Int) - 1)/\(∀ o:List Int,(((o)=(orderL S.used S.rel S.fresh))->(∃ x:Unit,(True/\(True/\True/\True/\True)/\(True/\True/\True/\((Value.int .u64 (S.reads))=(Value.int .u64 (S.reads)))/\True)/\(True/\True/\True/\((Value.int .u32 (S.fresh))=(Value.int .u32 (S.fresh)))/\True)/\((S.nodes)=(S.nodes))/\((S.counts)=(S.counts))/\((S.used)=(S.used))/\((S.gen)=(S.gen))/\((S.rel)=(S.rel))/\(True/\True/\True)/\((List.replicate S.cap.toNat { alloc:=false,count:=0,gen:=0,node:={ key:=0,value:=0,left:=0,right:=0,size:=0,sum:=0,min:=0,max:=0:NodeT }:SlotT })=(fillS S 0))/\((o)=(orderOf S))/\(True/\True/\True)/\((([]:List SlotT)=[]))/\((([]:List Int)=[]))/\True)))))/\(1<=S.used.length)/\(S.used.length<=65537)/\(S.rel.length<=65537)/\(0<=S.fresh)/\(S.fresh<=(S.used.length:Int) - 1)/\(∀ o:List Int,(((o)=(orderL S.used S.rel S.fresh))->(∃ x:Unit,(True/\
 (True/\True/\True/\True)/\(True/\True/\True/\((Value.int .u64 (S.reads))=(Value.int .u64 (S.reads)))/\True)/\(True/\True/\True/\((Value.int .u32 (S.fresh))=(Value.int .u32 (S.fresh)))/\True)/\((S.nodes)=(S.nodes))/\((S.counts)=(S.counts))/\((S.used)=(S.used))/\((S.gen)=(S.gen))/\((S.rel)=(S.rel))/\(True/\True/\True)/\((List.replicate S.cap.toNat { alloc:=false,count:=0,gen:=0,node:={ key:=0,value:=0,left:=0,right:=0,size:=0,sum:=0,min:=0,max:=0:NodeT }:SlotT })=(fillS S 0))/\((o)=(orderOf S))/\(True/\True/\True)/\((([]:List SlotT)=[]))/\((([]:List Int)=[]))/\True)))))/\((1<=S.used.length)/\(S.used.length<=65537)/\(S.rel.length<=65537)/\(0<=S.fresh)/\(S.fresh<=(S.used.length:Int) - 1)/\(∀ o:List Int,(((o)=(orderL S.used S.rel S.fresh))->(((0<=S.cap)/\(S.cap<=S.cap)/\(S.cap * (↑(bytesOf C0 EC.slot):Int)<=140737488355328)/\(∃ x:Unit,(True/\(True/\True/\True/\True)/\(True/\True/\True/\((Value.int .u64 (S.reads))=(Value.int .u64 (S.reads)))/\True)/\(True/\True/\True/\((Value.int .u32 (S.fresh))=(Value.int .u32 (S.fresh)))/\True)/\((S.nodes)=(S.nodes))/\((S.counts)=(S.counts))/\((S.used)=(S.used))/\((S.gen)=(S.gen))/\((S.rel)=(S.rel))/\(True/\True/\True)/\((List.replicate S.cap.toNat { alloc:=false,count:=0,gen:=0,node:={ key:=0,value:=0,left:=0,right:=0,size:=0,sum:=0,min:=0,max:=0:NodeT }:SlotT })=(fillS S 0))/\((o)=(orderOf S))/\(True/\True/\True)/\((([]:List SlotT)=[]))/\((([]:List Int)=[]))/\True)))/\(0<=S.cap)/\(S.cap<=S.cap)/\(S.cap * (↑(bytesOf C0 EC.slot):Int)<=140737488355328)/\
 (∃ x:Unit,(True/\(True/\True/\True/\True)/\(True/\True/\True/\((Value.int .u64 (S.reads))=(Value.int .u64 (S.reads)))/\True)/\(True/\True/\True/\((Value.int .u32 (S.fresh))=(Value.int .u32 (S.fresh)))/\True)/\((S.nodes)=(S.nodes))/\((S.counts)=(S.counts))/\((S.used)=(S.used))/\((S.gen)=(S.gen))/\((S.rel)=(S.rel))/\(True/\True/\True)/\((List.replicate S.cap.toNat { alloc:=false,count:=0,gen:=0,node:={ key:=0,value:=0,left:=0,right:=0,size:=0,sum:=0,min:=0,max:=0:NodeT }:SlotT })=(fillS S 0))/\((o)=(orderOf S))/\(True/\True/\True)/\((([]:List SlotT)=[]))/\((([]:List Int)=[]))/\True))))))/\((0<=S.cap)/\(S.cap<=S.cap)/\(S.cap * (↑(bytesOf C0 EC.slot):Int)<=140737488355328)/\(1<=S.used.length)/\(S.used.length<=65537)/\(S.rel.length<=65537)/\(0<=S.fresh)/\(S.fresh<=(S.used.length:Int) - 1)/\(∀ o:List Int,(((o)=(orderL S.used S.rel S.fresh))->(∃ x:Unit,(True/\(True/\True/\True/\True)/\(True/\True/\True/\((Value.int .u64 (S.reads))=(Value.int .u64 (S.reads)))/\True)/\(True/\True/\True/\((Value.int .u32 (S.fresh))=(Value.int .u32 (S.fresh)))/\True)/\((S.nodes)=(S.nodes))/\((S.counts)=(S.counts))/\((S.used)=(S.used))/\((S.gen)=(S.gen))/\((S.rel)=(S.rel))/\(True/\True/\True)/\((List.replicate S.cap.toNat { alloc:=false,count:=0,gen:=0,node:={ key:=0,value:=0,left:=0,right:=0,size:=0,sum:=0,min:=0,max:=0:NodeT }:SlotT })=(fillS S 0))/\((o)=(orderOf S))/\(True/\True/\True)/\((([]:List SlotT)=[]))/\((([]:List Int)=[]))/\True)))))/\(1<=S.used.length)/\(S.used.length<=65537)/\(S.rel.length<=65537)/\
 (0<=S.fresh)/\(S.fresh<=(S.used.length:Int) - 1)/\(∀ o:List Int,(((o)=(orderL S.used S.rel S.fresh))->((0<=S.cap)/\(S.cap<=S.cap)/\(S.cap * (↑(bytesOf C0 EC.slot):Int)<=140737488355328)/\(∃ x:Unit,(True/\(True/\True/\True/\True)/\(True/\True/\True/\((Value.int .u64 (S.reads))=(Value.int .u64 (S.reads)))/\True)/\(True/\True/\True/\((Value.int .u32 (S.fresh))=(Value.int .u32 (S.fresh)))/\True)/\((S.nodes)=(S.nodes))/\((S.counts)=(S.counts))/\((S.used)=(S.used))/\((S.gen)=(S.gen))/\((S.rel)=(S.rel))/\(True/\True/\True)/\((List.replicate S.cap.toNat { alloc:=false,count:=0,gen:=0,node:={ key:=0,value:=0,left:=0,right:=0,size:=0,sum:=0,min:=0,max:=0:NodeT }:SlotT })=(fillS S 0))/\((o)=(orderOf S))/\(True/\True/\True)/\((([]:List SlotT)=[]))/\((([]:List Int)=[]))/\True))))))/\(exW S)/\((0<=S.cap)/\(S.cap<=S.cap)/\(S.cap * (↑(bytesOf C0 EC.slot):Int)<=140737488355328)/\(1<=S.used.length)/\(S.used.length<=65537)/\(S.rel.length<=65537)/\(0<=S.fresh)/\(S.fresh<=(S.used.length:Int) - 1)/\(∀ o:List Int,(((o)=(orderL S.used S.rel S.fresh))->(∃ x:Unit,(True/\(True/\True/\True/\True)/\(True/\True/\True/\((Value.int .u64 (S.reads))=(Value.int .u64 (S.reads)))/\True)/\(True/\True/\True/\((Value.int .u32 (S.fresh))=(Value.int .u32 (S.fresh)))/\True)/\((S.nodes)=(S.nodes))/\((S.counts)=(S.counts))/\((S.used)=(S.used))/\((S.gen)=(S.gen))/\((S.rel)=(S.rel))/\(True/\True/\True)/\((List.replicate S.cap.toNat { alloc:=false,count:=0,gen:=0,node:={ key:=0,value:=0,left:=0,right:=0,size:=0,sum:=0,min:=0,max:=0:NodeT }:SlotT })=(fillS S 0))/\
 ((o)=(orderOf S))/\(True/\True/\True)/\((([]:List SlotT)=[]))/\((([]:List Int)=[]))/\True)))))/\(1<=S.used.length)/\(S.used.length<=65537)/\(S.rel.length<=65537)/\(0<=S.fresh)/\(S.fresh<=(S.used.length:Int) - 1)/\(∀ o:List Int,(((o)=(orderL S.used S.rel S.fresh))->((0<=S.cap)/\(S.cap<=S.cap)/\(S.cap * (↑(bytesOf C0 EC.slot):Int)<=140737488355328)/\(∃ x:Unit,(True/\(True/\True/\True/\True)/\(True/\True/\True/\((Value.int .u64 (S.reads))=(Value.int .u64 (S.reads)))/\True)/\(True/\True/\True/\((Value.int .u32 (S.fresh))=(Value.int .u32 (S.fresh)))/\True)/\((S.nodes)=(S.nodes))/\((S.counts)=(S.counts))/\((S.used)=(S.used))/\((S.gen)=(S.gen))/\((S.rel)=(S.rel))/\(True/\True/\True)/\((List.replicate S.cap.toNat { alloc:=false,count:=0,gen:=0,node:={ key:=0,value:=0,left:=0,right:=0,size:=0,sum:=0,min:=0,max:=0:NodeT }:SlotT })=(fillS S 0))/\((o)=(orderOf S))/\(True/\True/\True)/\((([]:List SlotT)=[]))/\((([]:List Int)=[]))/\True))))))/\((exW S)/\((0<=S.cap)/\(S.cap<=S.cap)/\(S.cap * (↑(bytesOf C0 EC.slot):Int)<=140737488355328)/\(1<=S.used.length)/\(S.used.length<=65537)/\(S.rel.length<=65537)/\(0<=S.fresh)/\(S.fresh<=(S.used.length:Int) - 1)/\(∀ o:List Int,(((o)=(orderL S.used S.rel S.fresh))->(∃ x:Unit,(True/\(True/\True/\True/\True)/\(True/\True/\True/\((Value.int .u64 (S.reads))=(Value.int .u64 (S.reads)))/\True)/\(True/\True/\True/\((Value.int .u32 (S.fresh))=(Value.int .u32 (S.fresh)))/\True)/\((S.nodes)=(S.nodes))/\((S.counts)=(S.counts))/\((S.used)=(S.used))/\((S.gen)=(S.gen))/\
 ((S.rel)=(S.rel))/\(True/\True/\True)/\((List.replicate S.cap.toNat { alloc:=false,count:=0,gen:=0,node:={ key:=0,value:=0,left:=0,right:=0,size:=0,sum:=0,min:=0,max:=0:NodeT }:SlotT })=(fillS S 0))/\((o)=(orderOf S))/\(True/\True/\True)/\((([]:List SlotT)=[]))/\((([]:List Int)=[]))/\True)))))/\((0<=S.cap)/\(S.cap<=S.cap)/\(S.cap * (↑(bytesOf C0 EC.slot):Int)<=140737488355328)/\(1<=S.used.length)/\(S.used.length<=65537)/\(S.rel.length<=65537)/\(0<=S.fresh)/\(S.fresh<=(S.used.length:Int) - 1)/\(∀ o:List Int,(((o)=(orderL S.used S.rel S.fresh))->(∃ x:Unit,(True/\(True/\True/\True/\True)/\(True/\True/\True/\((Value.int .u64 (S.reads))=(Value.int .u64 (S.reads)))/\True)/\(True/\True/\True/\((Value.int .u32 (S.fresh))=(Value.int .u32 (S.fresh)))/\True)/\((S.nodes)=(S.nodes))/\((S.counts)=(S.counts))/\((S.used)=(S.used))/\((S.gen)=(S.gen))/\((S.rel)=(S.rel))/\(True/\True/\True)/\((List.replicate S.cap.toNat { alloc:=false,count:=0,gen:=0,node:={ key:=0,value:=0,left:=0,right:=0,size:=0,sum:=0,min:=0,max:=0:NodeT }:SlotT })=(fillS S 0))/\((o)=(orderOf S))/\(True/\True/\True)/\((([]:List SlotT)=[]))/\((([]:List Int)=[]))/\True)))))/\(1<=S.used.length)/\(S.used.length<=65537)/\(S.rel.length<=65537)/\(0<=S.fresh)/\(S.fresh<=(S.used.length:Int) - 1)/\(∀ o:List Int,(((o)=(orderL S.used S.rel S.fresh))->((0<=S.cap)/\(S.cap<=S.cap)/\(S.cap * (↑(bytesOf C0 EC.slot):Int)<=140737488355328)/\(∃ x:Unit,(True/\(True/\True/\True/\True)/\(True/\True/\True/\((Value.int .u64 (S.reads))=(Value.int .u64 (S.reads)))/\
 True)/\(True/\True/\True/\((Value.int .u32 (S.fresh))=(Value.int .u32 (S.fresh)))/\True)/\((S.nodes)=(S.nodes))/\((S.counts)=(S.counts))/\((S.used)=(S.used))/\((S.gen)=(S.gen))/\((S.rel)=(S.rel))/\(True/\True/\True)/\((List.replicate S.cap.toNat { alloc:=false,count:=0,gen:=0,node:={ key:=0,value:=0,left:=0,right:=0,size:=0,sum:=0,min:=0,max:=0:NodeT }:SlotT })=(fillS S 0))/\((o)=(orderOf S))/\(True/\True/\True)/\((([]:List SlotT)=[]))/\((([]:List Int)=[]))/\True))))))/\(exW S)/\((0<=S.cap)/\(S.cap<=S.cap)/\(S.cap * (↑(bytesOf C0 EC.slot):Int)<=140737488355328)/\(1<=S.used.length)/\(S.used.length<=65537)/\(S.rel.length<=65537)/\(0<=S.fresh)/\(S.fresh<=(S.used.length:Int) - 1)/\(∀ o:List Int,(((o)=(orderL S.used S.rel S.fresh))->(∃ x:Unit,(True/\(True/\True/\True/\True)/\(True/\True/\True/\((Value.int .u64 (S.reads))=(Value.int .u64 (S.reads)))/\True)/\(True/\True/\True/\((Value.int .u32 (S.fresh))=(Value.int .u32 (S.fresh)))/\True)/\((S.nodes)=(S.nodes))/\((S.counts)=(S.counts))/\((S.used)=(S.used))/\((S.gen)=(S.gen))/\((S.rel)=(S.rel))/\(True/\True/\True)/\((List.replicate S.cap.toNat { alloc:=false,count:=0,gen:=0,node:={ key:=0,value:=0,left:=0,right:=0,size:=0,sum:=0,min:=0,max:=0:NodeT }:SlotT })=(fillS S 0))/\((o)=(orderOf S))/\(True/\True/\True)/\((([]:List SlotT)=[]))/\((([]:List Int)=[]))/\True)))))/\(1<=S.used.length)/\(S.used.length<=65537)/\(S.rel.length<=65537)/\(0<=S.fresh)/\(S.fresh<=(S.used.length:Int) - 1)/\(∀ o:List Int,(((o)=(orderL S.used S.rel S.fresh))->((0<=S.cap)/\
 (S.cap<=S.cap)/\(S.cap * (↑(bytesOf C0 EC.slot):Int)<=140737488355328)/\(∃ x:Unit,(True/\(True/\True/\True/\True)/\(True/\True/\True/\((Value.int .u64 (S.reads))=(Value.int .u64 (S.reads)))/\True)/\(True/\True/\True/\((Value.int .u32 (S.fresh))=(Value.int .u32 (S.fresh)))/\True)/\((S.nodes)=(S.nodes))/\((S.counts)=(S.counts))/\((S.used)=(S.used))/\((S.gen)=(S.gen))/\((S.rel)=(S.rel))/\(True/\True/\True)/\((List.replicate S.cap.toNat { alloc:=false,count:=0,gen:=0,node:={ key:=0,value:=0,left:=0,right:=0,size:=0,sum:=0,min:=0,max:=0:NodeT }:SlotT })=(fillS S 0))/\((o)=(orderOf S))/\(True/\True/\True)/\((([]:List SlotT)=[]))/\((([]:List Int)=[]))/\True))))))/\(∀ x:Unit,(True->((∃ x1:XDu S,(True/\(True/\True/\True/\((Value.int .i64 ((↑(fillS S 0).length:Int)))=(Value.int .i64 ((↑(fillS S 0).length:Int))))/\((Value.int .i64 0)=(Value.int .i64 ((x1.i:Int))))/\True)/\(True/\True/\True/\((Value.int .u64 (S.reads))=(Value.int .u64 (S.reads)))/\True)/\(True/\True/\True/\((Value.int .u32 (S.fresh))=(Value.int .u32 (S.fresh)))/\True)/\((S.nodes)=(S.nodes))/\((S.counts)=(S.counts))/\((S.used)=(S.used))/\((S.gen)=(S.gen))/\((S.rel)=(S.rel))/\(True/\True/\True)/\((fillS S 0)=(fillS S x1.i))/\((orderOf S)=(orderOf S))/\(True/\True/\True)/\((([]:List SlotT)=[]))/\((([]:List Int)=[]))/\True))/\(∀ x1:XDu S,(True->(brS (decide ((x1.i:Int) < (↑(fillS S 0).length:Int))) (((0<=IntKind.u32.wrap (IntKind.i64.wrap ((x1.i:Int)+1)))/\(IntKind.u32.wrap (IntKind.i64.wrap ((x1.i:Int)+1)) < (S.nodes.length:Int))/\
 (0<=IntKind.u32.wrap (IntKind.i64.wrap ((x1.i:Int)+1)))/\(IntKind.u32.wrap (IntKind.i64.wrap ((x1.i:Int)+1)) < 4294967296)/\(S.used.length<=65537)/\(inU (IntKind.u32.wrap (IntKind.i64.wrap ((x1.i:Int)+1))))/\(exW S)/\(inU (IntKind.u32.wrap (IntKind.i64.wrap ((x1.i:Int)+1))))/\(exW S)/\(0<=(x1.i:Int))/\((x1.i:Int) < (↑(fillS S x1.i).length:Int))/\(∃ x':XDu S,(True/\((True/\True/\True/\((Value.int .i64 ((↑(fillS S 0).length:Int)))=(Value.int .i64 ((↑(fillS S 0).length:Int))))/\((Value.int .i64 (IntKind.i64.wrap ((x1.i:Int)+1)))=(Value.int .i64 ((x'.i:Int))))/\True)/\(True/\True/\True/\((Value.int .u64 (S.reads))=(Value.int .u64 (S.reads)))/\True)/\(True/\True/\True/\((Value.int .u32 (S.fresh))=(Value.int .u32 (S.fresh)))/\True)/\((S.nodes)=(S.nodes))/\((S.counts)=(S.counts))/\((S.used)=(S.used))/\((S.gen)=(S.gen))/\((S.rel)=(S.rel))/\(True/\True/\True)/\(((fillS S x1.i).set (x1.i:Int).toNat { alloc:=S.us (IntKind.u32.wrap (IntKind.i64.wrap ((x1.i:Int)+1))),count:=if S.us (IntKind.u32.wrap (IntKind.i64.wrap ((x1.i:Int)+1)))=true then S.ct (IntKind.u32.wrap (IntKind.i64.wrap ((x1.i:Int)+1))) else 0,gen:=S.gn (IntKind.u32.wrap (IntKind.i64.wrap ((x1.i:Int)+1))),node:=S.nd (IntKind.u32.wrap (IntKind.i64.wrap ((x1.i:Int)+1))):SlotT })=(fillS S x'.i))/\((orderOf S)=(orderOf S))/\(True/\True/\True)/\((([]:List SlotT)=[]))/\((([]:List Int)=[]))/\True)/\(ncap S - x'.i < ncap S - x1.i))))) ((K (.one (TV.agg [(.slc 7),(.slc 8)])) [(.box [(.ptr 1 0),(.slc 2),(.slc 3),(.val (Value.int .u64 (S.reads)))]),(.box [(.slc 4),(.slc 5),(.slc 6),(.val (Value.int .u32 (S.fresh)))]),(.row true EC.node (S.nodes)),(.row true EC.int (S.counts)),(.row true EC.bool (S.used)),(.row true EC.u32 (S.gen)),(.row true EC.u32 (S.rel)),(.row true EC.slot (fillS S x1.i)),(.row true EC.u32 (orderOf S))] [])))))))))=_ by kernel_rfl) ?_
 rw [bytes_slot]
 have hw0:=hw
 obtain ⟨hs,hw⟩:=hw
 have hn1:=hw.n1;have hn2:=hw.n2;have hnn:=hw.nnod;have hfr:=hw.fr;have hfree:=hw.free_nonneg
 have hcap:S.cap=(ncap S:Int):=by unfold Arn.cap ncap;omega
 have hc1:(ncap S:Int)+1=S.used.length:=by unfold ncap;omega
 have z1:List.replicate S.cap.toNat SlotT.zero=fillS S 0:=by rw [hcap,← fill_zero];rfl
 refine ⟨?_,fun x _=>⟨⟨⟨0,Nat.zero_le _⟩,?_⟩,fun y _=>brS_of (fun c=>?_) fun c=>?_⟩⟩
 ·(repeat' first | exact trivial | exact hw0 | exact z1 | assumption | exact rfl | omega | refine And.intro ?_ ?_ | refine fun o ho=>?_ | refine ⟨(),?_⟩)
 ·(repeat' first | exact trivial | exact rfl | refine And.intro ?_ ?_)
 ·rw [fill_len S 0 (Nat.zero_le _)] at c
  have c:y.i < ncap S:=by have:=of_decide_eq_true c;omega
  rw [wrap_id (x:=(y.i:Int)+1) (by omega) (by omega),wrap_u32 (by omega) (by omega)]
  refine ⟨by omega,by omega,by omega,by omega,hn2,⟨by omega,by omega⟩,hw0,⟨by omega,by omega⟩,hw0,by omega,by rw [fill_len S y.i y.h];omega,⟨y.i+1,c⟩,trivial,⟨⟨trivial,trivial,trivial,rfl,by congr 1,trivial⟩,⟨trivial,trivial,trivial,rfl,trivial⟩,⟨trivial,trivial,trivial,rfl,trivial⟩,rfl,rfl,rfl,rfl,rfl,⟨trivial,trivial,trivial⟩,fill_next S c,rfl,⟨trivial,trivial,trivial⟩,rfl,rfl,trivial⟩,?_⟩
  show ncap S - (y.i+1) < _;omega
 ·rw [fill_len S 0 (Nat.zero_le _)] at c
  have c:y.i=ncap S:=by have:=of_decide_eq_false c;have:=y.h;omega
  exact h _ _ (by rw [c,fill_all]) rfl
theorem s_dump:SoundT C0 17 tDump:=by
 refine .of Tryz.func17 (by decide) rfl fun args H K h hB=>?_
 unfold tDump at h
 split at h <;> try exact h.elim
 unfold arM at h
 split at h <;> try exact h.elim
 rename_i rd fr nd ct us gn rl
 exact ⟨aDump ⟨us,gn,rl,fr,nd,ct,rd⟩,⟨frame C0.ok s_cap _,frame C0.ok s_order _,frame C0.ok s_slAllocated _,frame C0.ok s_count _,frame C0.ok s_gen _,trivial⟩,vc_dump ⟨us,gn,rl,fr,nd,ct,rd⟩ K h.1 h.2⟩
end Go.Proofs.YtedfbafngmicpaaGreat.Sx
end
section
/- A dump's allocated slots, edges, marks; the reference's Check; Sound. -/
namespace Go.Proofs.YtedfbafngmicpaaGreat.Sx
open Go

/-KEEP Wf exW inU allU Arn.cap Arn.free alcD cntL kidsL slotsOf orderOf MarksR CleanD kidsU-/
def alcD (d:List SlotT) (i:Int):Bool:=decide (1<=i) && (decide (i<=(d.length:Int)) && (d.getD (i - 1).toNat SlotT.zero).alloc)
def kidsL (d:List SlotT):List Int:=d.flatMap fun x=>if x.alloc=true then [x.node.left,x.node.right] else []
def mkd (m:List Bool) (i:Int):Prop:=1<=i/\m.getD (i - 1).toNat false=true
def sltD (d:List SlotT) (i:Int):SlotT:=d.getD (i - 1).toNat SlotT.zero
abbrev eS (d:List SlotT) (i:Nat):SlotT:=d.getD i SlotT.zero
structure MarksR (d:List SlotT) (roots:List Int) (m:List Bool):Prop where
 len:m.length=d.length
 root:∀ i ∈ roots,alcD d i=true->mkd m i
 left:∀ i,mkd m i->alcD d (sltD d i).node.left=true->mkd m (sltD d i).node.left
 right:∀ i,mkd m i->alcD d (sltD d i).node.right=true->mkd m (sltD d i).node.right
def szD (d:List SlotT) (i:Int):Int:=if alcD d i=true then (sltD d i).node.size else 0
structure CleanD (d:List SlotT) (fl roots:List Int):Prop where
 free:∀ i < d.length,fl.count ((i:Int)+1)=if (d.getD i SlotT.zero).alloc=true then 0 else 1
 left:∀ i < d.length,(d.getD i SlotT.zero).alloc=true->(d.getD i SlotT.zero).node.left=0 ∨ alcD d (d.getD i SlotT.zero).node.left=true
 right:∀ i < d.length,(d.getD i SlotT.zero).alloc=true->(d.getD i SlotT.zero).node.right=0 ∨ alcD d (d.getD i SlotT.zero).node.right=true
 size:∀ i < d.length,(d.getD i SlotT.zero).alloc=true->(d.getD i SlotT.zero).node.size=1+szD d (d.getD i SlotT.zero).node.left+szD d (d.getD i SlotT.zero).node.right
 zr:∀ i < d.length,0<=(d.getD i SlotT.zero).node.size/\(d.getD i SlotT.zero).node.size<=4294967296
 count:∀ i < d.length,(d.getD i SlotT.zero).count=if (d.getD i SlotT.zero).alloc=true then ((kidsL d).count ((i:Int)+1):Int)+(roots.count ((i:Int)+1):Int) else 0
 mark:∀ m,MarksR d roots m->∀ i < d.length,(d.getD i SlotT.zero).alloc=true->m.getD i false=true
 rng:∀ x ∈ fl,1<=x/\x<=d.length
 held:∀ x ∈ roots,x=0 ∨ alcD d x=true
def tAlc:Tfm C0:=fun args H K=>match args,H with
 | [.agg [.slc 0,.slc 1],.at (.val (.int .u32 i))],[.row false .slot d,.row false .u32 fl]=>inU i/\d.length<=1000000/\K (.one (.at (vB (alcD d i)))) [.row false EC.slot d,.row false EC.u32 fl] []
 | _,_=>False
structure XIx (n:Nat) where
 i:Nat
 h:i<=n
structure XIn (d:List SlotT) where
 i:Nat
 h:i < d.length
structure XMks (P:List Bool->List Int->Prop) where
 m:List Bool
 w:List Int
 h:P m w
theorem alcD_at {d:List SlotT} {i:Int} (h1:1<=i) (h2:i<=(d.length:Int)):alcD d i=(d.getD (i - 1).toNat SlotT.zero).alloc:=by simp [alcD,h1,h2]
theorem alcD_lo {d:List SlotT} {i:Int} (h:¬ 1<=i):alcD d i=false:=by simp [alcD,h]
theorem alcD_hi {d:List SlotT} {i:Int} (h:¬ i<=(d.length:Int)):alcD d i=false:=by simp [alcD,h]
theorem alcD_rng {d:List SlotT} {i:Int} (h:alcD d i=true):1<=i/\i<=(d.length:Int):=by simp [alcD] at h;exact ⟨h.1,h.2.1⟩
theorem vc_alc (d:List SlotT) (fl:List Int) (i:Int) (K:KT) (h1:inU i) (h2:d.length<=1000000) (h:K (.one (.at (vB (alcD d i)))) [.row false EC.slot d,.row false EC.u32 fl] []) :
  vc C0 A0 Tryz.f108 [.agg [.slc 0,.slc 1],.at (vU i)] [.row false EC.slot d,.row false EC.u32 fl] (normK 2 K):=by
 refine Eq.mp (show (brS (decide (i ≥ 1)) ((brS (decide (IntKind.u64.wrap i<=IntKind.u64.wrap (d.length:Int))) (((0<=IntKind.u32.wrap (i - 1))/\(IntKind.u32.wrap (i - 1) < (d.length:Int))/\(K (.one (.at (.val (Value.bool ((d.getD (IntKind.u32.wrap (i - 1)).toNat { alloc:=false,count:=0,gen:=0,node:={ key:=0,value:=0,left:=0,right:=0,size:=0,sum:=0,min:=0,max:=0:NodeT }:SlotT }).alloc))))) [(.row false EC.slot (d)),(.row false EC.u32 (fl))] []))) ((K (.one (.at (.val (Value.bool false)))) [(.row false EC.slot (d)),(.row false EC.u32 (fl))] [])))) ((K (.one (.at (.val (Value.bool false)))) [(.row false EC.slot (d)),(.row false EC.u32 (fl))] [])))=_ by kernel_rfl) ?_
 obtain ⟨ha,hb⟩:=h1
 rw [wrap_u64 (x:=i) ha (by omega),wrap_u64 (x:=(d.length:Int)) (by omega) (by omega)]
 refine brS_of (fun c=>?_) fun c=>?_
 ·have c:1<=i:=by have:=of_decide_eq_true c;omega
  rw [wrap_u32 (by omega) (by omega)]
  refine brS_of (fun e=>?_) fun e=>?_
  ·have e:i<=(d.length:Int):=of_decide_eq_true e
   rw [alcD_at c e] at h
   exact ⟨by omega,by omega,h⟩
  ·rw [alcD_hi (of_decide_eq_false e)] at h;exact h
 ·rw [alcD_lo (by have:=of_decide_eq_false c;omega)] at h;exact h
theorem s_alc:SoundT C0 108 tAlc:=by
 refine .of Tryz.func108 (by decide) rfl fun args H K h hB=>?_
 unfold tAlc at h
 split at h <;> try exact h.elim
 rename_i i d fl
 exact ⟨A0,trivial,vc_alc d fl i K h.1 h.2.1 h.2.2⟩
theorem takeD_snoc {α:Type} {l:List α} {i:Nat} {dft:α} (h:i < l.length):l.take (i+1)=l.take i ++ [l.getD i dft]:=by
 rw [List.take_add_one,List.getD_eq_getElem?_getD,List.getElem?_eq_getElem h];rfl
structure PMk (d:List SlotT) (roots:List Int) (m:List Bool) (w:List Int):Prop where
 len:m.length=d.length
 u:∀ x ∈ w,inU x
 wl:w.length+2 * m.count false<=roots.length+2 * d.length
 root:∀ i ∈ roots,alcD d i=true->mkd m i ∨ i ∈ w
 left:∀ i,mkd m i->alcD d (sltD d i).node.left=true->mkd m (sltD d i).node.left ∨ (sltD d i).node.left ∈ w
 right:∀ i,mkd m i->alcD d (sltD d i).node.right=true->mkd m (sltD d i).node.right ∨ (sltD d i).node.right ∈ w
theorem PMk.start (d:List SlotT) (roots:List Int) (h:∀ x ∈ roots,inU x):PMk d roots (List.replicate d.length false) roots:=by
 have z:∀ i,¬ mkd (List.replicate d.length false) i:=fun i hi=>by
  have:=hi.2
  rw [getD_replicate] at this;cases this
 exact ⟨by simp,h,by simp,fun i hi _=>.inr hi,fun i hi=>(z i hi).elim,fun i hi=>(z i hi).elim⟩
theorem PMk.done {d:List SlotT} {roots:List Int} {m:List Bool} (h:PMk d roots m []):MarksR d roots m :=
 ⟨h.len,fun i a b=>(h.root i a b).resolve_right (by simp),fun i a b=>(h.left i a b).resolve_right (by simp),fun i a b=>(h.right i a b).resolve_right (by simp)⟩
/-- What was taken from the work needs no mark: it is marked, or not allocated. -/
theorem PMk.skip {d:List SlotT} {roots:List Int} {m:List Bool} {w:List Int} {x:Int} (h:PMk d roots m (w ++ [x])) (hx:alcD d x=true->mkd m x):PMk d roots m w:=by
 have key:∀ j,alcD d j=true->mkd m j ∨ j ∈ w ++ [x]->mkd m j ∨ j ∈ w:=fun j ha hj=>by
  rcases hj with hj | hj
  ·exact .inl hj
  ·rcases List.mem_append.1 hj with hj | hj
   ·exact .inr hj
   ·have e:j=x:=by simpa using hj
    subst e;exact .inl (hx ha)
 refine ⟨h.len,fun y hy=>h.u y (by simp [hy]),by have:=h.wl;simp at this;omega,fun i a b=>key i b (h.root i a b),fun i a b=>key _ b (h.left i a b),fun i a b=>key _ b (h.right i a b)⟩
theorem count_mark {m:List Bool} {k:Nat} (h1:k < m.length) (h2:m.getD k false=false):(m.set k true).count false+1=m.count false:=by
 have:=countP_set' (fun b:Bool=>b == false) m k true false h1
 rw [h2] at this
 simpa [List.count] using this
theorem PMk.mark {d:List SlotT} {roots:List Int} {m:List Bool} {w:List Int} {x:Int} (h:PMk d roots m (w ++ [x])) (hx:alcD d x=true) (hm:m.getD (x - 1).toNat false=false) (hk:inU (sltD d x).node.left/\inU (sltD d x).node.right) :
  PMk d roots (m.set (x - 1).toNat true) (w ++ [(sltD d x).node.left,(sltD d x).node.right]):=by
 obtain ⟨x1,x2⟩:=alcD_rng hx
 have hl:=h.len
 have hs:∀ j,mkd (m.set (x - 1).toNat true) j ↔ j=x ∨ mkd m j:=fun j=>by
  unfold mkd
  rw [getD_set]
  constructor
  ·rintro ⟨a,b⟩
   by_cases e:j=x
   ·exact .inl e
   ·rw [if_neg (by omega)] at b;exact .inr ⟨a,b⟩
  ·rintro (e | ⟨a,b⟩)
   ·subst e;exact ⟨x1,by rw [if_pos ⟨rfl,by omega⟩]⟩
   ·refine ⟨a,?_⟩
    split
    ·rfl
    ·exact b
 have key:∀ j,mkd m j ∨ j ∈ w ++ [x]->mkd (m.set (x - 1).toNat true) j ∨ j ∈ w ++ [(sltD d x).node.left,(sltD d x).node.right]:=fun j hj=>by
  rw [hs]
  rcases hj with hj | hj
  ·exact .inl (.inr hj)
  ·rcases List.mem_append.1 hj with hj | hj
   ·exact .inr (by simp [hj])
   ·exact .inl (.inl (by simpa using hj))
 have hc:=count_mark (m:=m) (k:=(x - 1).toNat) (by omega) hm
 have l1:(w ++ [(sltD d x).node.left,(sltD d x).node.right]).length=w.length+2:=by simp
 have l2:(w ++ [x]).length=w.length+1:=by simp
 refine ⟨by simp [hl],fun y hy=>?_,by have:=h.wl;omega,fun i a b=>key i (h.root i a b),fun i a b=>?_,fun i a b=>?_⟩
 ·simp at hy
  rcases hy with hy | hy | hy
  ·exact h.u y (by simp [hy])
  ·subst hy;exact hk.1
  ·subst hy;exact hk.2
 ·rcases (hs i).1 a with e | e
  ·subst e;exact .inr (by simp)
  ·exact key _ (h.left i e b)
 ·rcases (hs i).1 a with e | e
  ·subst e;exact .inr (by simp)
  ·exact key _ (h.right i e b)
/-! ### The plain law: a whole arena's dump is clean. -/
theorem slotsOf_len (S:Arn):(slotsOf S).length=ncap S:=by simp [slotsOf]
theorem slotsOf_get (S:Arn) {i:Nat} (h:i < ncap S):(slotsOf S).getD i SlotT.zero=slotAt S i:=by
 simp [slotsOf,List.getD_eq_getElem?_getD,h]
theorem us_hi {S:Arn} {i:Int} (h:(ncap S:Int) < i):S.us i=false:=by
 cases hb:S.us i with
 | false=>rfl
 | true=>have:=getD_false hb;unfold ncap at h;omega
theorem alcD_slots {S:Arn} {hs:List Int} (w:Wf S hs) (i:Int):alcD (slotsOf S) i=S.us i:=by
 by_cases h1:1<=i
 ·by_cases h2:i<=(ncap S:Int)
  ·rw [alcD_at h1 (by rw [slotsOf_len];exact h2),slotsOf_get S (by omega)]
   show S.us _=S.us i
   congr 1;omega
  ·rw [alcD_hi (by rw [slotsOf_len];exact h2),us_hi (by omega)]
 ·rw [alcD_lo h1,w.us0 (by omega)]
theorem sltD_slots {S:Arn} {hs:List Int} (w:Wf S hs) {i:Int} (h:S.us i=true):(sltD (slotsOf S) i).node=S.nd i:=by
 have hp:=w.pos h
 have h2:(i - 1).toNat < ncap S:=by unfold ncap;omega
 unfold sltD
 rw [slotsOf_get S h2]
 show S.nd _=S.nd i
 congr 1;omega
theorem order_len {S:Arn} {hs:List Int} (w:Wf S hs):(orderOf S).length<=131074:=by
 have h1:=w.n2;have h2:=w.nus;have h3:=w.fr
 unfold orderOf orderL upTo
 simp;omega
end Go.Proofs.YtedfbafngmicpaaGreat.Sx
end
section
/- The reference's numbering of nodes, on a dump. -/
namespace Go.Proofs.YtedfbafngmicpaaGreat.Sx
open Go

/-KEEP Wf exW inU allVb alcD sltD slotsOf orderOf SeenR DgW NumD NumsD szT lfD rgD-/
def lfD (d:List SlotT) (i:Int):Int:=(sltD d i).node.left
def rgD (d:List SlotT) (i:Int):Int:=(sltD d i).node.right
abbrev NumD (d:List SlotT):=NumG (alcD d) (lfD d) (rgD d)
abbrev NumsD (d:List SlotT):=NumsG (alcD d) (lfD d) (rgD d)
def allVb (l:List Int):Prop:=∀ x ∈ l,inU x
def szT (d:List SlotT) (i:Int):Nat:=if alcD d i=true then (sltD d i).node.size.toNat else 0
structure DgW (d:List SlotT):Prop where
 len:d.length<=100000
 sz:∀ i,alcD d i=true->szT d (lfD d i) < szT d i/\szT d (rgD d i) < szT d i
 kid:∀ i,alcD d i=true->inU (lfD d i)/\inU (rgD d i)
 top:∀ i,szT d i < 2147483648
structure SeenR (d:List SlotT) (m:List Bool) (l:List Int) (A:Int->Prop):Prop where
 len:m.length=d.length
 nd:l.Nodup
 us:∀ j ∈ l,alcD d j=true
 sn:∀ j,mkd m j ↔ (j ∈ l ∨ A j)
def tVis (n:Nat):Tfm C0:=fun args H K=>match args,H with
 | [.at (.ptr 0 0),.at (.val (.int .u32 i))],[.box [.slc 1,.slc 2,.slc 3,.slc 4],.row false .slot d,.row false .u32 fl,.row true .bool m,.row true .u32 l]=>DgW d/\inU i/\szT d i < n/\∃ A,(∀ j,A j->szT d i < szT d j)/\SeenR d m l A/\∀ m' l',NumD d i l l'->SeenR d m' l' A->K (.tup []) [.box [.slc 1,.slc 2,.slc 3,.slc 4],.row false EC.slot d,.row false EC.u32 fl,.row true EC.bool m',.row true EC.u32 l'] [0,3,4]
 | _,_=>False
noncomputable def aVis (n:Nat):Ann C0:={ quiet:=[108],Γ:=[(108,frameT [] tAlc),(66,frameT [] (tVis n))] }
structure XNb (P:List Bool->List Int->Nat->Prop) where
 m:List Bool
 l:List Int
 i:Nat
 h:P m l i
noncomputable def aN28 (n:Nat) (P:List Bool->List Int->Nat->Prop) (d:List SlotT) (fl rs:List Int):Ann C0:={ Γ:=[(66,frameT [] (tVis n))],inv:=fun k=>match k with
 | 3=>some { X:=XNb P,sl:=[5,6],tf:=fun x=>[.one (.at (.ptr 3 0)),vi .i64 x.i],hf:=fun x=>[.row false EC.slot d,.row false EC.u32 fl,.row false EC.u32 rs,.box [.slc 0,.slc 1,.slc 4,.slc 5],.row true EC.bool x.m,.row true EC.u32 x.l],μ:=fun x=>rs.length - x.i }
 | _=>none }
def tN28:Tfm C0:=fun args H K=>match args,H with
 | [.agg [.slc 0,.slc 1],.at (.slc 2)],[.row false .slot d,.row false .u32 fl,.row false .u32 rs]=>DgW d/\rs.length<=1000000/\allVb rs/\∀ l,NumsD d rs [] l->K (.one (.at (.slc 3))) [.row false EC.slot d,.row false EC.u32 fl,.row false EC.u32 rs,.row true EC.u32 l] []
 | _,_=>False
theorem SeenR.few {d:List SlotT} {m:List Bool} {l:List Int} {A:Int->Prop} (h:SeenR d m l A):l.length<=d.length:=by
 have q:=len_nd l ((List.range d.length).map fun (n:Nat)=>(n:Int)+1) h.nd fun x hx=>by
  have p:=alcD_rng (h.us x hx)
  exact List.mem_map.2 ⟨(x - 1).toNat,List.mem_range.2 (by omega),by omega⟩
 rw [List.length_map,List.length_range] at q
 exact q
theorem vc_vis (n:Nat) (d:List SlotT) (fl:List Int) (m:List Bool) (l:List Int) (i:Int) (K:KT) (hd:DgW d) (iu:inU i) (hz:szT d i < n+1) (A:Int->Prop) (hA:∀ j,A j->szT d i < szT d j) (sn:SeenR d m l A)
  (h:∀ m' l',NumD d i l l'->SeenR d m' l' A->K (.tup []) [.box [.slc 1,.slc 2,.slc 3,.slc 4],.row false EC.slot d,.row false EC.u32 fl,.row true EC.bool m',.row true EC.u32 l'] [0,3,4]) :
  vc C0 (aVis n) Tryz.f66 [.at (.ptr 0 0),.at (vU i)] [.box [.slc 1,.slc 2,.slc 3,.slc 4],.row false EC.slot d,.row false EC.u32 fl,.row true EC.bool m,.row true EC.u32 l] (normK 5 (wideK [0,3,4] K)):=by
 refine Eq.mp (show ((inU i)/\(d.length<=1000000)/\(brS (!alcD d i) ((K (.tup []) [(.box [(.slc 1),(.slc 2),(.slc 3),(.slc 4)]),(.row false EC.slot (d)),(.row false EC.u32 (fl)),(.row true EC.bool (m)),(.row true EC.u32 (l))] [0,3,4])) (((0<=IntKind.u32.wrap (i - 1))/\(IntKind.u32.wrap (i - 1) < (m.length:Int))/\(brS (m.getD (IntKind.u32.wrap (i - 1)).toNat false) ((K (.tup []) [(.box [(.slc 1),(.slc 2),(.slc 3),(.slc 4)]),(.row false EC.slot (d)),(.row false EC.u32 (fl)),(.row true EC.bool (m)),(.row true EC.u32 (l))] [0,3,4])) (((0<=IntKind.u32.wrap (i - 1))/\(IntKind.u32.wrap (i - 1) < (m.length:Int))/\(0<=IntKind.u32.wrap (i - 1))/\(IntKind.u32.wrap (i - 1) < (d.length:Int))/\(DgW d)/\(inU (eS d (IntKind.u32.wrap (i - 1)).toNat).node.left)/\(szT d (eS d (IntKind.u32.wrap (i - 1)).toNat).node.left < n)/\(∃ A:Int->Prop,((∀ j:Int,((A (j))->(szT d (eS d (IntKind.u32.wrap (i - 1)).toNat).node.left < szT d j)))/\(SeenR d (m.set (IntKind.u32.wrap (i - 1)).toNat true) l A)/\(∀ m':List Bool,(∀ l':List Int,((NumD d (eS d (IntKind.u32.wrap (i - 1)).toNat).node.left l l')->((SeenR d m' l' A)->((DgW d)/\(inU (eS d (IntKind.u32.wrap (i - 1)).toNat).node.right)/\(szT d (eS d (IntKind.u32.wrap (i - 1)).toNat).node.right < n)/\(∃ A1:Int->Prop,((∀ j:Int,((A1 (j))->(szT d (eS d (IntKind.u32.wrap (i - 1)).toNat).node.right < szT d j)))/\(SeenR d m' l' A1)/\(∀ m'1:List Bool,(∀ l'1:List Int,((NumD d (eS d (IntKind.u32.wrap (i - 1)).toNat).node.right l' l'1)->((SeenR d m'1 l'1 A1)->(((l'1.length+[i].length) * bytesOf C0 EC.u32<=140737488355328)/\
 (K (.tup []) [(.box [(.slc 1),(.slc 2),(.slc 3),(.slc 4)]),(.row false EC.slot (d)),(.row false EC.u32 (fl)),(.row true EC.bool (m'1)),(.row true EC.u32 (l'1 ++ [i]))] [0,3,4]))))))))))))))))))))))=_ by kernel_rfl) ?_
 have dl:=hd.len
 refine ⟨iu,by omega,brS_of (fun c=>?_) fun c=>?_⟩
 ·exact h m l (.skip (.inl (by simpa using c))) sn
 have u:alcD d i=true:=by simpa using c
 have rg:=alcD_rng u
 rw [wrap_u32 (x:=i - 1) (by omega) (by omega)]
 have ml:=sn.len
 refine ⟨by omega,by omega,brS_of (fun c=>?_) fun c=>?_⟩
 ·refine h m l (.skip (.inr ?_)) sn
  rcases (sn.sn i).1 ⟨rg.1,c⟩ with q | q
  ·exact q
  ·exact absurd (hA i q) (Nat.lt_irrefl _)
 have ni:i ∉ l:=fun q=>by
  have:=((sn.sn i).2 (.inl q)).2
  rw [c] at this;cases this
 have sz:=hd.sz i u
 have kd:=hd.kid i u
 have s1:SeenR d (m.set (i - 1).toNat true) l (fun j=>A j ∨ j=i):=⟨by rw [List.length_set];exact ml,sn.nd,sn.us,fun j=>by
  unfold mkd
  rw [getD_set]
  by_cases e:j=i
  ·subst e
   rw [if_pos ⟨rfl,by omega⟩]
   exact ⟨fun _=>.inr (.inr rfl),fun _=>⟨rg.1,rfl⟩⟩
  ·by_cases j1:1<=j
   ·rw [if_neg (by omega)]
    have:=sn.sn j
    unfold mkd at this
    rw [this]
    exact ⟨fun q=>q.imp id .inl,fun q=>q.imp id fun q=>q.resolve_right e⟩
   ·have:=sn.sn j
    unfold mkd at this
    constructor
    ·intro q;exact absurd q.1 j1
    ·intro q
     exact absurd (this.2 (q.imp id fun q=>q.resolve_right e)).1 j1⟩
 refine ⟨by omega,by omega,by omega,by omega,hd,kd.1,Nat.lt_of_lt_of_le sz.1 (Nat.le_of_lt_succ hz),_,fun j hj=>?_,s1,fun m1 l1 n1 r1=>⟨hd,kd.2,Nat.lt_of_lt_of_le sz.2 (Nat.le_of_lt_succ hz),_,fun j hj=>?_,r1,fun m2 l2 n2 r2=>⟨?_,?_⟩⟩⟩
 ·rcases hj with q | q
  ·exact Nat.lt_trans sz.1 (hA j q)
  ·rw [q];exact sz.1
 ·rcases hj with q | q
  ·exact Nat.lt_trans sz.2 (hA j q)
  ·rw [q];exact sz.2
 ·have:=r2.few
  rw [bytes_u32,List.length_singleton];omega
 ·have n1:NumD d (lfD d i) l l1:=n1
  have n2:NumD d (rgD d i) l1 l2:=n2
  have f:=NumG.fresh hd.sz u ni n1 n2
  refine h m2 _ (.go u ni n1 n2) ⟨r2.len,?_,fun j hj=>?_,fun j=>?_⟩
  ·refine List.nodup_append.2 ⟨r2.nd,by simp,fun a ha b hb e=>?_⟩
   rw [List.mem_singleton.1 hb] at e
   exact f (e ▸ ha)
  ·rcases List.mem_append.1 hj with hj | hj
   ·exact r2.us j hj
   ·rw [List.mem_singleton.1 hj];exact u
  ·rw [r2.sn,List.mem_append,List.mem_singleton]
   constructor
   ·rintro (q | q | q)
    ·exact .inl (.inl q)
    ·exact .inr q
    ·exact .inl (.inr q)
   ·rintro ((q | q) | q)
    ·exact .inl q
    ·exact .inr (.inr q)
    ·exact .inr (.inl q)
theorem s_vis:∀ n:Nat,SoundT C0 66 (tVis n)
 | 0=>by
  refine .of Tryz.func66 (by decide) rfl fun args H K h hB=>?_
  unfold tVis at h
  split at h <;> try exact h.elim
  exact absurd h.2.2.1 (Nat.not_lt_zero _)
 | n+1=>by
  refine .ofW [0,3,4] Tryz.func66 (by decide) rfl fun args H K h hB=>?_
  unfold tVis at h
  split at h <;> try exact h.elim
  rename_i i d fl m l
  obtain ⟨h1,h2,h3,A,h4,h5,h6⟩:=h
  refine ⟨_,?_,vc_vis n d fl m l i K h1 h2 h3 A h4 h5 h6⟩
  exact ⟨frame C0.ok s_alc _,frame C0.ok (s_vis n) _,trivial⟩
def PN28 (d:List SlotT) (rs:List Int):List Bool->List Int->Nat->Prop:=fun m l i=>i<=rs.length/\NumsD d (rs.take i) [] l/\SeenR d m l fun _=>False
theorem vc_n28 (n:Nat) (d:List SlotT) (fl rs:List Int) (K:KT) (hd:DgW d) (hN:∀ i,szT d i < n) (hr:rs.length<=1000000) (hv:allVb rs) (h:∀ l,NumsD d rs [] l->K (.one (.at (.slc 3))) [.row false EC.slot d,.row false EC.u32 fl,.row false EC.u32 rs,.row true EC.u32 l] []) :
  vc C0 (aN28 n (PN28 d rs) d fl rs) Tryz.f23 [.agg [.slc 0,.slc 1],.at (.slc 2)] [.row false EC.slot d,.row false EC.u32 fl,.row false EC.u32 rs] (normK 3 K):=by
 generalize hP:PN28 d rs=P
 refine Eq.mp (show ((0<=(d.length:Int))/\((d.length:Int)<=(d.length:Int))/\((d.length:Int) * (↑(bytesOf C0 EC.bool):Int)<=140737488355328)/\(∃ x:XNb P,(True/\(True/\True/\((Value.int .i64 0)=(Value.int .i64 ((x.i:Int))))/\True)/\((d)=(d))/\((fl)=(fl))/\((rs)=(rs))/\(True/\True/\True/\True/\True)/\((List.replicate (d.length:Int).toNat false)=(x.m))/\([]=(x.l))/\True))/\(∀ x:XNb P,(True->(brS (decide ((x.i:Int) < (rs.length:Int))) (((0<=(x.i:Int))/\((x.i:Int) < (rs.length:Int))/\(DgW d)/\(inU (rs.getD (x.i:Int).toNat 0))/\(szT d (rs.getD (x.i:Int).toNat 0) < n)/\(∃ A:Int->Prop,((∀ j:Int,((A (j))->(szT d (rs.getD (x.i:Int).toNat 0) < szT d j)))/\(SeenR d x.m x.l A)/\(∀ m':List Bool,(∀ l':List Int,((NumD d (rs.getD (x.i:Int).toNat 0) x.l l')->((SeenR d m' l' A)->(∃ x':XNb P,(True/\((True/\True/\((Value.int .i64 (IntKind.i64.wrap ((x.i:Int)+1)))=(Value.int .i64 ((x'.i:Int))))/\True)/\((d)=(d))/\((fl)=(fl))/\((rs)=(rs))/\(True/\True/\True/\True/\True)/\((m')=(x'.m))/\((l')=(x'.l))/\True)/\(rs.length - x'.i < rs.length - x.i))))))))))) ((K (.one (.at (.slc 3))) [(.row false EC.slot (d)),(.row false EC.u32 (fl)),(.row false EC.u32 (rs)),(.row true EC.u32 (x.l))] []))))))=_ by kernel_rfl) ?_
 subst hP
 have dl:=hd.len
 rw [bytes_bool]
 refine ⟨by omega,by omega,by omega,⟨⟨List.replicate ((d.length:Int)).toNat false,[],0,Nat.zero_le _,.nil,?_⟩,?_⟩,fun x _=>brS_of (fun z=>?_) fun z=>?_⟩
 ·refine ⟨by rw [List.length_replicate];omega,List.nodup_nil,by simp,fun j=>?_⟩
  unfold mkd
  rw [getD_replicate]
  simp
 ·(repeat' first | exact trivial | exact rfl | refine And.intro ?_ ?_)
 ·obtain ⟨m,l,i,hi,nn,sn⟩:=x
  dsimp only at z ⊢
  have z:i < rs.length:=by have:=of_decide_eq_true z;omega
  rw [show ((i:Int)).toNat=i from rfl,wrap_id (x:=(i:Int)+1) (by omega) (by omega)]
  have hm:rs.getD i 0 ∈ rs:=by rw [List.getD_eq_getElem?_getD,List.getElem?_eq_getElem z];exact List.getElem_mem z
  have ts:rs.take (i+1)=rs.take i ++ [rs.getD i 0]:=takeD_snoc z
  refine ⟨by omega,by omega,hd,hv _ hm,hN _,fun _=>False,fun j hj=>hj.elim,sn,fun m1 l1 n1 r1=>⟨⟨m1,l1,i+1,z,?_,r1⟩,trivial,?_,Nat.sub_lt_sub_left z (Nat.lt_succ_self i)⟩⟩
  ·rw [ts];exact nn.app (NumsG.one n1)
  ·(repeat' first | exact trivial | exact rfl | refine And.intro ?_ ?_)
 ·obtain ⟨m,l,i,hi,nn,sn⟩:=x
  dsimp only at z
  have z:i=rs.length:=by have:=of_decide_eq_false z;omega
  rw [z,List.take_length] at nn
  exact h l nn
theorem s_n28:SoundT C0 23 tN28:=by
 refine .of Tryz.func23 (by decide) rfl fun args H K h hB=>?_
 unfold tN28 at h
 split at h <;> try exact h.elim
 rename_i d fl rs
 refine ⟨_,?_,vc_n28 2147483648 d fl rs K h.1 h.1.top h.2.1 h.2.2.1 h.2.2.2⟩
 exact ⟨frame C0.ok (s_vis 2147483648) _,trivial⟩
section
variable {S:Arn} {hs:List Int}
theorem lfD_slots (w:Wf S hs) {i:Int} (u:S.us i=true):lfD (slotsOf S) i=lfA S i/\rgD (slotsOf S) i=rgA S i:=by
 unfold lfD rgD lfA rgA
 rw [sltD_slots w u]
 exact ⟨rfl,rfl⟩
theorem szT_slots (w:Wf S hs) (i:Int):szT (slotsOf S) i=(S.nd i).size.toNat:=by
 unfold szT
 rw [alcD_slots w]
 cases u:S.us i with
 | true=>rw [if_pos rfl,sltD_slots w u]
 | false=>rw [w.zero i u];rfl
theorem dgW_slots (w:Wf S hs):DgW (slotsOf S) where
 len:=by have:=w.n2;rw [slotsOf_len];unfold ncap;omega
 sz i u:=by
  rw [alcD_slots w] at u
  obtain ⟨e1,e2⟩:=lfD_slots w u
  rw [e1,e2,szT_slots w,szT_slots w,szT_slots w]
  exact sz_kids w i u
 kid i u:=by
  rw [alcD_slots w] at u
  obtain ⟨e1,e2⟩:=lfD_slots w u
  rw [e1,e2]
  have k:=w.kid i u
  exact ⟨inU_of w k.1,inU_of w k.2⟩
 top i:=by
  rw [szT_slots w]
  have:=w.size_nonneg i
  unfold maxSize at this
  omega
theorem numD_A (w:Wf S hs) {rs l:List Int} (h:NumsD (slotsOf S) rs [] l):NumsA S rs [] l :=
 h.congr (fun i=>(alcD_slots w i).symm) (fun _ u=>((lfD_slots w (by rw [alcD_slots w] at u;exact u)).1).symm) fun _ u=>((lfD_slots w (by rw [alcD_slots w] at u;exact u)).2).symm
end
end Go.Proofs.YtedfbafngmicpaaGreat.Sx
end
section
/- Numbering behind what is known: the same as numbering alone, without what is known. No program in sight. -/
namespace Go.Proofs.YtedfbafngmicpaaGreat.Sx
open Go

section
variable {us:Int->Bool} {lf rg:Int->Int}
def notI (K acc:List Int):List Int:=acc.filter fun j=>!K.contains j
theorem notI_mem {K acc:List Int} {j:Int}:j ∈ notI K acc ↔ j ∈ acc/\j ∉ K:=by
 unfold notI
 rw [List.mem_filter]
 simp
theorem notI_snoc (K acc:List Int) (i:Int):notI K (acc ++ [i])=notI K acc ++ if i ∈ K then [] else [i]:=by
 unfold notI
 rw [List.filter_append]
 congr 1
 by_cases h:i ∈ K
 ·simp [h]
 ·simp [h]
theorem numG_aft {K:List Int} (hK:∀ j ∈ K,(us (lf j)=true->lf j ∈ K)/\(us (rg j)=true->rg j ∈ K)) {i:Int} {acc a:List Int} (h:NumG us lf rg i acc a):NumG us lf rg i (K ++ notI K acc) (K ++ notI K a):=by
 have old:∀ {x:Int} {b c:List Int},(us x=true->x ∈ K)->NumG us lf rg x (K ++ notI K b) (K ++ notI K c)->K ++ notI K c=K ++ notI K b:=fun {x b c} hx q=>by
  refine q.det (.skip ?_)
  cases u:us x with
  | false=>exact .inl rfl
  | true=>exact .inr (List.mem_append_left _ (hx u))
 induction h with
 | @skip i acc c =>
  refine .skip (c.imp id fun c=>?_)
  by_cases k:i ∈ K
  ·exact List.mem_append_left _ k
  ·exact List.mem_append_right _ (notI_mem.2 ⟨c,k⟩)
 | @go i acc a1 a2 u c n1 n2 ih1 ih2 =>
  rw [notI_snoc]
  by_cases k:i ∈ K
  ·rw [if_pos k,List.append_nil,old (hK i k).2 ih2,old (hK i k).1 ih1]
   exact .skip (.inr (List.mem_append_left _ k))
  ·rw [if_neg k,← List.append_assoc]
   refine .go u (fun q=>?_) ih1 ih2
   rcases List.mem_append.1 q with q | q
   ·exact k q
   ·exact c (notI_mem.1 q).1
theorem numsG_aft {K:List Int} (hK:∀ j ∈ K,(us (lf j)=true->lf j ∈ K)/\(us (rg j)=true->rg j ∈ K)) {r:List Int} {acc a:List Int} (h:NumsG us lf rg r acc a):NumsG us lf rg r (K ++ notI K acc) (K ++ notI K a):=by
 induction h with
 | nil=>exact .nil
 | cons n1 _ ih=>exact .cons (numG_aft hK n1) ih
end
end Go.Proofs.YtedfbafngmicpaaGreat.Sx
end
section
/- The reference's table of references. -/
namespace Go.Proofs.YtedfbafngmicpaaGreat.Sx
open Go

/-KEEP allB vE wB kB zz crc exI frE itC xorI getB jnA DgW allVb NumD NumsD refL notI plcN sltD alcD slotsOf-/
def refL (n:Nat) (la:List Int):List Int:=(List.range (n+1)).map fun (j:Nat)=>plcN la j
theorem refL_len (n:Nat) (la:List Int):(refL n la).length=n+1:=by unfold refL;rw [List.length_map,List.length_range]
theorem refL_at {n:Nat} {la:List Int} {j:Int} (h0:0<=j) (h:j<=n):getB (refL n la) j.toNat=plcN la j:=by
 unfold refL getB
 rw [List.getD_eq_getElem?_getD,List.getElem?_map,List.getElem?_range (by omega)]
 show plcN la (j.toNat:Int)=_
 rw [Int.toNat_of_nonneg h0]
theorem refL_el {n:Nat} {la:List Int} {i:Nat} (h:i < (refL n la).length):(refL n la)[i]=plcN la (i:Int):=by simp [refL]
theorem refL_nil (n:Nat):List.replicate (n+1) (0:Int)=refL n []:=by
 refine List.ext_getElem (by rw [List.length_replicate,refL_len]) fun i h1 h2=>?_
 rw [List.getElem_replicate,refL_el];rfl
theorem refL_snoc {n:Nat} {la:List Int} {i v:Int} (h0:0<=i) (h1:i<=n) (hi:i ∉ la) (e:v=(la.length:Int)+1):(refL n la).set i.toNat v=refL n (la ++ [i]):=by
 refine List.ext_getElem (by rw [List.length_set,refL_len,refL_len]) fun k h2 h3=>?_
 have h4:=h3
 rw [refL_len] at h4
 rw [List.getElem_set,refL_el,refL_el,plcN_snoc la i k hi,e]
 by_cases c:i.toNat=k
 ·rw [if_pos c,if_pos (by omega)]
 ·rw [if_neg c,if_neg (by omega)]
theorem NumsD.few {d:List SlotT} (hd:DgW d) {rs l:List Int} (h:NumsD d rs [] l):l.length<=d.length/\l.Nodup/\∀ j ∈ l,1<=j/\j<=d.length:=by
 have nd:=h.nodup (sz:=szT d) hd.sz List.nodup_nil
 have us:=h.used (fun j hj=>by cases hj)
 have rg:∀ j ∈ l,1<=j/\j<=(d.length:Int):=fun j hj=>alcD_rng (us j hj)
 have q:=len_nd l ((List.range d.length).map fun (n:Nat)=>(n:Int)+1) nd fun x hx=>by
  have p:=rg x hx
  exact List.mem_map.2 ⟨(x - 1).toNat,List.mem_range.2 (by omega),by omega⟩
 rw [List.length_map,List.length_range] at q
 exact ⟨q,nd,rg⟩
theorem numsD_aft {d:List SlotT} {ks rs lk al:List Int} (n1:NumsD d ks [] lk) (n3:NumsD d rs [] al):NumsD d rs lk (lk ++ notI lk al):=by
 have o:=n1.ord OrdG.nil
 have hK:∀ j ∈ lk,(alcD d (lfD d j)=true->lfD d j ∈ lk)/\(alcD d (rgD d j)=true->rgD d j ∈ lk):=fun j hj=>by
  obtain ⟨p,hp⟩:=List.getElem?_of_mem hj
  obtain ⟨_,a,b⟩:=o p j hp
  exact ⟨fun u=>List.mem_of_mem_take (a u),fun u=>List.mem_of_mem_take (b u)⟩
 have q:=numsG_aft hK n3
 rw [show notI lk []=[] from rfl,List.append_nil] at q
 exact q
structure XRe (P:List Int->Nat->Prop) where
 lk:List Int
 i:Nat
 h:P lk i
structure XRf (P:List Int->List Int->List Int->Nat->Prop) where
 lk:List Int
 al:List Int
 f:List Int
 i:Nat
 h:P lk al f i
noncomputable def aRf (P1:List Int->Nat->Prop) (P2:List Int->List Int->List Int->Nat->Prop) (d:List SlotT) (fl rs ks:List Int):Ann C0:={ quiet:=[9999999],Γ:=[(23,frameT [] tN28)],inv:=fun m=>match m with
 | 4=>some { X:=XRe P1,sl:=[3,9,10,11],tf:=fun x=>[.one (.at (.ptr 4 0)),.one (.at (.slc 5)),.one (.at (.slc 6)),vi .i64 x.i],hf:=fun x=>[.row false EC.slot d,.row false EC.u32 fl,.row false EC.u32 rs,.row false EC.u32 ks,.box [.slc 0,.slc 1],.row true EC.u64 (refL d.length (x.lk.take x.i)),.row true EC.u32 x.lk],μ:=fun x=>x.lk.length - x.i }
 | 10=>some { X:=XRf P2,sl:=[9,10,12,13,14],tf:=fun x=>[.one (.at (.slc 4)),.one (.at (.slc 5)),.one (.at (.slc 6)),.one (.at (.slc 7)),vi .i64 x.i],hf:=fun x=>[.row false EC.slot d,.row false EC.u32 fl,.row false EC.u32 rs,.row false EC.u32 ks,.row true EC.u64 (refL d.length (x.lk ++ x.f)),.row true EC.u32 x.lk,.row true EC.u32 x.f,.row true EC.u32 x.al],μ:=fun x=>x.al.length - x.i }
 | _=>none }
abbrev dgM (H:List (Chunk C0)) (k:List SlotT->List Int->List Int->List Int->Prop):Prop:=match H with
 | [.row false .slot d,.row false .u32 fl,.row false .u32 rs,.row false .u32 ks]=>k d fl rs ks
 | _=>False
abbrev hD4 (d:List SlotT) (fl rs ks:List Int):List (Chunk C0):=[.row false EC.slot d,.row false EC.u32 fl,.row false EC.u32 rs,.row false EC.u32 ks]
def tRf:Tfm C0:=fun args H K=>match args with
 | [.agg [.slc 0,.slc 1],.at (.slc 2),.at (.slc 3)]=>dgM H fun d fl rs ks=>DgW d/\rs.length<=1000000/\ks.length<=1000000/\allVb rs/\allVb ks/\∀ lk la,NumsD d ks [] lk->NumsD d rs lk la->∀ r f n,r=refL d.length la->f=la.drop lk.length->n=(lk.length:Int)->K (.tup [.at (.slc 4),.at (.slc 5),.at (vI n)]) (hD4 d fl rs ks ++ [.row true EC.u64 r,.row true EC.u32 f]) []
 | _=>False
def PRe (d:List SlotT) (ks:List Int):List Int->Nat->Prop:=fun lk i=>i<=lk.length/\NumsD d ks [] lk
def PRf (d:List SlotT) (ks rs:List Int):List Int->List Int->List Int->Nat->Prop:=fun lk al f i=>i<=al.length/\NumsD d ks [] lk/\NumsD d rs [] al/\f=notI lk (al.take i)
theorem take_fresh {l:List Int} (nd:l.Nodup) {i:Nat} (h:i < l.length):getB l i ∉ l.take i:=fun c=>by
 obtain ⟨j,hj,e⟩:=List.mem_iff_getElem.1 c
 rw [List.length_take] at hj
 rw [List.getElem_take] at e
 have e2:getB l i=l[i]:=by unfold getB;rw [List.getD_eq_getElem?_getD,List.getElem?_eq_getElem h];rfl
 rw [e2] at e
 have:=(List.getElem_inj nd).1 e
 omega
theorem vc_rf (d:List SlotT) (fl rs ks:List Int) (K:KT) (hd:DgW d) (hr:rs.length<=1000000) (hk:ks.length<=1000000) (vr:allVb rs) (vk:allVb ks)
  (h:∀ lk la,NumsD d ks [] lk->NumsD d rs lk la->∀ r f n,r=refL d.length la->f=la.drop lk.length->n=(lk.length:Int)->K (.tup [.at (.slc 4),.at (.slc 5),.at (vI n)]) (hD4 d fl rs ks ++ [.row true EC.u64 r,.row true EC.u32 f]) []) :
  vc C0 (aRf (PRe d ks) (PRf d ks rs) d fl rs ks) Tryz.f67 [.agg [.slc 0,.slc 1],.at (.slc 2),.at (.slc 3)] (hD4 d fl rs ks) (normK 4 K):=by
 generalize hP1:PRe d ks=P1
 generalize hP2:PRf d ks rs=P2
 refine Eq.mp (show ((0<=IntKind.i64.wrap ((d.length:Int)+1))/\(IntKind.i64.wrap ((d.length:Int)+1)<=IntKind.i64.wrap ((d.length:Int)+1))/\(IntKind.i64.wrap ((d.length:Int)+1) * (↑(bytesOf C0 EC.u64):Int)<=140737488355328)/\(DgW d)/\(ks.length<=1000000)/\(allVb ks)/\(∀ l:List Int,((NumsD d ks [] l)->((∃ x:XRe P1,(True/\(True/\True/\True/\True/\((Value.int .i64 0)=(Value.int .i64 ((x.i:Int))))/\True)/\((d)=(d))/\((fl)=(fl))/\((rs)=(rs))/\((ks)=(ks))/\(True/\True/\True)/\((List.replicate (IntKind.i64.wrap ((d.length:Int)+1)).toNat (0:Int))=(refL d.length (List.take x.i x.lk)))/\((l)=(x.lk))/\True))/\(∀ x:XRe P1,(True->(brS (decide ((x.i:Int) < (x.lk.length:Int))) (((0<=(x.i:Int))/\((x.i:Int) < (x.lk.length:Int))/\(0<=getB x.lk (x.i:Int).toNat)/\(getB x.lk (x.i:Int).toNat < (↑(refL d.length (List.take x.i x.lk)).length:Int))/\(∃ x':XRe P1,(True/\((True/\True/\True/\True/\((Value.int .i64 (IntKind.i64.wrap ((x.i:Int)+1)))=(Value.int .i64 ((x'.i:Int))))/\True)/\((d)=(d))/\((fl)=(fl))/\((rs)=(rs))/\((ks)=(ks))/\(True/\True/\True)/\(((refL d.length (List.take x.i x.lk)).set (getB x.lk (x.i:Int).toNat).toNat (IntKind.u64.wrap (IntKind.i64.wrap ((x.i:Int)+1))))=(refL d.length (List.take x'.i x'.lk)))/\((x.lk)=(x'.lk))/\True)/\(x'.lk.length - x'.i < x.lk.length - x.i))))) (((DgW d)/\(rs.length<=1000000)/\(allVb rs)/\(∀ l1:List Int,((NumsD d rs [] l1)->((∃ x1:XRf P2,(True/\(True/\True/\True/\True/\((Value.int .i64 0)=(Value.int .i64 ((x1.i:Int))))/\True)/\((d)=(d))/\((fl)=(fl))/\((rs)=(rs))/\((ks)=(ks))/\((refL d.length (List.take x.i x.lk))=(refL d.length (x1.lk ++ x1.f)))/\
 ((x.lk)=(x1.lk))/\([]=(x1.f))/\((l1)=(x1.al))/\True))/\(∀ x1:XRf P2,(True->(brS (decide ((x1.i:Int) < (x1.al.length:Int))) (((0<=(x1.i:Int))/\((x1.i:Int) < (x1.al.length:Int))/\(0<=getB x1.al (x1.i:Int).toNat)/\(getB x1.al (x1.i:Int).toNat < (↑(refL d.length (x1.lk ++ x1.f)).length:Int))/\(brS (getB (refL d.length (x1.lk ++ x1.f)) (getB x1.al (x1.i:Int).toNat).toNat == 0) (((0<=(x1.i:Int))/\((x1.i:Int) < (x1.al.length:Int))/\((x1.f.length+[getB x1.al (x1.i:Int).toNat].length) * bytesOf C0 EC.u32<=140737488355328)/\(0<=(x1.i:Int))/\((x1.i:Int) < (x1.al.length:Int))/\(0<=getB x1.al (x1.i:Int).toNat)/\(getB x1.al (x1.i:Int).toNat < (↑(refL d.length (x1.lk ++ x1.f)).length:Int))/\(∃ x':XRf P2,(True/\((True/\True/\True/\True/\((Value.int .i64 (IntKind.i64.wrap ((x1.i:Int)+1)))=(Value.int .i64 ((x'.i:Int))))/\True)/\((d)=(d))/\((fl)=(fl))/\((rs)=(rs))/\((ks)=(ks))/\(((refL d.length (x1.lk ++ x1.f)).set (getB x1.al (x1.i:Int).toNat).toNat (IntKind.u64.wrap (IntKind.i64.wrap ((x1.lk.length:Int)+(↑(x1.f ++ [getB x1.al (x1.i:Int).toNat]).length:Int)))))=(refL d.length (x'.lk ++ x'.f)))/\((x1.lk)=(x'.lk))/\((x1.f ++ [getB x1.al (x1.i:Int).toNat])=(x'.f))/\((x1.al)=(x'.al))/\True)/\(x'.al.length - x'.i < x1.al.length - x1.i))))) ((∃ x':XRf P2,(True/\((True/\True/\True/\True/\((Value.int .i64 (IntKind.i64.wrap ((x1.i:Int)+1)))=(Value.int .i64 ((x'.i:Int))))/\True)/\((d)=(d))/\((fl)=(fl))/\((rs)=(rs))/\((ks)=(ks))/\((refL d.length (x1.lk ++ x1.f))=(refL d.length (x'.lk ++ x'.f)))/\((x1.lk)=(x'.lk))/\
 ((x1.f)=(x'.f))/\((x1.al)=(x'.al))/\True)/\(x'.al.length - x'.i < x1.al.length - x1.i))))))) ((K (.tup [(.at (.slc 4)),(.at (.slc 5)),(.at (.val (Value.int .i64 ((x1.lk.length:Int)))))]) [(.row false EC.slot (d)),(.row false EC.u32 (fl)),(.row false EC.u32 (rs)),(.row false EC.u32 (ks)),(.row true EC.u64 (refL d.length (x1.lk ++ x1.f))),(.row true EC.u32 (x1.f))] [])))))))))))))))))=_ by kernel_rfl) ?_
 subst hP1 hP2
 have dl:=hd.len
 rw [wrap_id (x:=(d.length:Int)+1) (by omega) (by omega),bytes_u64,show ((d.length:Int)+1).toNat=d.length+1 by omega]
 refine ⟨by omega,Int.le_refl _,by omega,hd,hk,vk,fun l nl=>⟨⟨⟨l,0,Nat.zero_le _,nl⟩,trivial,⟨trivial,trivial,trivial,trivial,rfl,trivial⟩,rfl,rfl,rfl,rfl,⟨trivial,trivial,trivial⟩,refL_nil _,rfl,trivial⟩,fun x _=>brS_of (fun z=>?_) fun z=>?_⟩⟩
 ·obtain ⟨lk,i,hi,nk⟩:=x
  dsimp only at z ⊢
  have zi:i < lk.length:=by have:=of_decide_eq_true z;omega
  clear z
  obtain ⟨f1,f2,f3⟩:=nk.few hd
  obtain ⟨g1,g2⟩:=f3 _ (getB_mem zi)
  rw [show ((i:Int)).toNat=i from rfl,wrap_id (x:=(i:Int)+1) (by omega) (by omega),wrap_u64 (x:=(i:Int)+1) (by omega) (by omega)]
  refine ⟨by omega,by omega,by omega,by rw [refL_len];omega,⟨lk,i+1,zi,nk⟩,trivial,⟨⟨trivial,trivial,trivial,trivial,rfl,trivial⟩,rfl,rfl,rfl,rfl,⟨trivial,trivial,trivial⟩,?_,rfl,trivial⟩,Nat.sub_lt_sub_left zi (Nat.lt_succ_self i)⟩
  rw [take_getB zi]
  exact refL_snoc (by omega) g2 (take_fresh f2 zi) (by rw [List.length_take];omega)
 ·obtain ⟨lk,i,hi,nk⟩:=x
  dsimp only at z ⊢
  have z:i=lk.length:=by have:=of_decide_eq_false z;omega
  subst z
  rw [List.take_length]
  refine ⟨hd,hr,vr,fun al nal=>⟨⟨⟨lk,al,[],0,Nat.zero_le _,nk,nal,rfl⟩,trivial,⟨trivial,trivial,trivial,trivial,rfl,trivial⟩,rfl,rfl,rfl,rfl,by rw [List.append_nil],rfl,rfl,rfl,trivial⟩,fun x _=>brS_of (fun z=>?_) fun z=>?_⟩⟩
  ·obtain ⟨lk,al,f,i,hi,nk,nal,ef⟩:=x
   dsimp only at z ⊢
   have zi:i < al.length:=by have:=of_decide_eq_true z;omega
   clear z
   obtain ⟨f1,f2,f3⟩:=nal.few hd
   obtain ⟨q1,q2,q3⟩:=nk.few hd
   obtain ⟨g1,g2⟩:=f3 _ (getB_mem zi)
   have fr:=take_fresh f2 zi
   have sn:=notI_snoc lk (al.take i) (getB al i)
   rw [← take_getB zi,← ef] at sn
   have nf:getB al i ∉ f:=fun c=>by rw [ef] at c;exact fr (notI_mem.1 c).1
   have fl_:f.length<=al.length:=by
    rw [ef]
    have:=List.length_filter_le (fun j=>!lk.contains j) (al.take i)
    rw [List.length_take] at this
    unfold notI;omega
   rw [show ((i:Int)).toNat=i from rfl,wrap_id (x:=(i:Int)+1) (by omega) (by omega)]
   rw [refL_at (by omega) g2]
   refine ⟨by omega,by omega,by omega,by rw [refL_len];omega,brS_of (fun y=>?_) fun y=>?_⟩
   ·have y:plcN (lk ++ f) (getB al i)=0:=eq_of_beq y
    have ny:getB al i ∉ lk ++ f:=fun c=>by have:=plcN_mem.2 c;omega
    have nl:getB al i ∉ lk:=fun c=>ny (List.mem_append_left _ c)
    rw [if_neg nl] at sn
    have ll:((f ++ [getB al i]).length:Int)=(f.length:Int)+1:=by rw [List.length_append];rfl
    have ll2:((lk ++ f).length:Int)=(lk.length:Int)+f.length:=by rw [List.length_append];omega
    rw [ll,wrap_id (x:=(lk.length:Int)+((f.length:Int)+1)) (by omega) (by omega),wrap_u64 (x:=(lk.length:Int)+((f.length:Int)+1)) (by omega) (by omega)]
    refine ⟨by omega,by omega,by rw [bytes_u32,List.length_singleton];omega,by omega,by omega,by omega,by rw [refL_len];omega,⟨lk,al,f ++ [getB al i],i+1,zi,nk,nal,sn.symm⟩,trivial,⟨⟨trivial,trivial,trivial,trivial,rfl,trivial⟩,rfl,rfl,rfl,rfl,?_,rfl,rfl,rfl,trivial⟩,Nat.sub_lt_sub_left zi (Nat.lt_succ_self i)⟩
    show _=refL d.length (lk ++ (f ++ [getB al i]))
    rw [← List.append_assoc]
    exact refL_snoc (by omega) g2 ny (by rw [ll2];omega)
   ·have y:plcN (lk ++ f) (getB al i) ≠ 0:=fun c=>by rw [c] at y;exact absurd y (by decide)
    have pr:=plcN_rng (lk ++ f) (getB al i)
    have iy:getB al i ∈ lk:=(List.mem_append.1 (plcN_mem.1 (show 0 < plcN (lk ++ f) (getB al i) by omega))).resolve_right nf
    rw [if_pos iy,List.append_nil] at sn
    refine ⟨⟨lk,al,f,i+1,zi,nk,nal,sn.symm⟩,trivial,⟨⟨trivial,trivial,trivial,trivial,rfl,trivial⟩,rfl,rfl,rfl,rfl,rfl,rfl,rfl,rfl,trivial⟩,Nat.sub_lt_sub_left zi (Nat.lt_succ_self i)⟩
  ·obtain ⟨lk,al,f,i,hi,nk,nal,ef⟩:=x
   dsimp only at z ⊢
   have z:i=al.length:=by have:=of_decide_eq_false z;omega
   rw [z,List.take_length] at ef
   subst ef
   exact h lk _ nk (numsD_aft nk nal) _ _ _ rfl (by rw [List.drop_left]) rfl
theorem s_rf:SoundT C0 67 tRf:=by
 refine .of Tryz.func67 (by decide) rfl fun args H K h hB=>?_
 unfold tRf at h
 split at h <;> try exact h.elim
 unfold dgM at h
 split at h <;> try exact h.elim
 rename_i _ d fl rs ks
 obtain ⟨h1,h2,h3,h4,h5,h6⟩:=h
 exact ⟨aRf (PRe d ks) (PRf d ks rs) d fl rs ks,⟨frame C0.ok s_n28 _,trivial⟩,vc_rf d fl rs ks K h1 h2 h3 h4 h5 h6⟩
end Go.Proofs.YtedfbafngmicpaaGreat.Sx
end
section
/- The reference's Export and Digest, on a dump. -/
namespace Go.Proofs.YtedfbafngmicpaaGreat.Sx
open Go

/-KEEP allB allQ vE vsE wB kB zz crc exI frE itC xorI getB jnA DgW allVb NumD NumsD refL notI plcN sltD alcD slotsOf lfD rgD pkE encN rcE magB hdE uvA ExD DgD eNq-/
def nodQ (d:List SlotT) (la:List Int) (i:Int):PNT:=⟨(sltD d i).node.key,(sltD d i).node.value,plcN la (lfD d i),plcN la (rgD d i)⟩
def pkQ (d:List SlotT) (lk la rs:List Int) (D:Int):List Int:=pkE lk.length D ((la.drop lk.length).map (nodQ d la)) (rs.map (plcN la))
def DgD (d:List SlotT) (rs:List Int) (D:Int):Prop:=(rs=[]/\D=0) ∨ (rs ≠ []/\∃ l,NumsD d rs [] l/\D=crc (pkQ d [] l rs 0))
structure ExD (d:List SlotT) (rs ks o:List Int):Prop where
 ex:∃ lk la D,NumsD d ks [] lk/\NumsD d rs lk la/\DgD d ks D/\o=pkQ d lk la rs D
 ab:allB o
 bl:o.length<=8000000
def InD (d:List SlotT) (l:List Int):Prop:=∀ i ∈ l,rngI (sltD d i).node.key/\rngI (sltD d i).node.value
def KyD (d:List SlotT) (rs:List Int):Prop:=∀ l,NumsD d rs [] l->InD d l
def inL (d:List SlotT) (l:List Int):Prop:=∀ x ∈ l,0<=x/\x<=(d.length:Int)
def KdD (d:List SlotT):Prop:=∀ i,alcD d i=true->(0<=lfD d i/\lfD d i<=(d.length:Int))/\0<=rgD d i/\rgD d i<=(d.length:Int)
structure ExB8 (d:List SlotT) (rs ks:List Int):Prop where
 w:DgW d
 kd:KdD d
 rl:rs.length<=90000
 kl:ks.length<=90000
 ri:inL d rs
 ki:inL d ks
 ky:KyD d (ks ++ rs)
def tExQ (B:List SlotT->List Int->List Int->Prop):Tfm C0:=fun args H K=>match args with
 | [.agg [.slc 0,.slc 1],.at (.slc 2),.at (.slc 3)]=>dgM H fun d fl rs ks=>B d rs ks/\∀ o,ExD d rs ks o->K (.one (.at (.slc 4))) (hD4 d fl rs ks ++ [.row true EC.u8 o]) []
 | _=>False
def tDgD (Q:List SlotT->List Int->Prop):Tfm C0:=fun args H K=>match args,H with
 | [.agg [.slc 0,.slc 1],.at (.slc 2)],[.row false .slot d,.row false .u32 fl,.row false .u32 rs]=>Q d rs/\∀ D,DgD d rs D->0<=D->D < 4294967296->K (.one (.at (vU D))) [.row false EC.slot d,.row false EC.u32 fl,.row false EC.u32 rs] []
 | _,_=>False
abbrev bxN8 (x:NodeT):Chunk C0:=.box [vI x.key,vI x.value,vU x.left,vU x.right,vI x.size,vI x.sum,vI x.min,vI x.max]
/-- The node that is written next. -/
def eNq (d:List SlotT) (lk la:List Int) (i:Nat):NodeT:=(eS d (getB (la.drop lk.length) i - 1).toNat).node
structure XE8a (P:List Int->List Int->List Int->Nat->Prop) where
 lk:List Int
 la:List Int
 o:List Int
 i:Nat
 h:P lk la o i
structure XE8b (P:List Int->List Int->List Int->List Int->Nat->Prop) where
 lk:List Int
 la:List Int
 o:List Int
 q:List Int
 i:Nat
 h:P lk la o q i
noncomputable def aEx28 (B:List SlotT->List Int->Prop) (P1 P0 P3:List Int->List Int->List Int->Nat->Prop) (P4 P2:List Int->List Int->List Int->List Int->Nat->Prop) (d:List SlotT) (fl rs ks:List Int):Ann C0:={ quiet:=[9999999,68,69,72,73],Γ:=[(67,frameT [] tRf),(68,frameT [] tVr),(69,frameT [] tFr8),(72,frameT [] tKb),(73,frameT [] tZr),(70,frameT [] tJnR),(71,frameT [] tWd),(37,frameT [] (tDgD B))],inv:=fun m=>match m with
 | 5=>some { X:=XE8a P1,sl:=[3,7,8,11,12],tf:=fun x=>[.one (.at (.ptr 4 0)),.one (.at (.slc 5)),.one (.at (.slc 6)),.one (.at (.slc 7)),vi .i64 x.i],hf:=fun x=>hD4 d fl rs ks ++ [.box [.slc 0,.slc 1],.row true EC.u64 (refL d.length x.la),.row true EC.u32 (x.la.drop x.lk.length),.row true EC.u8 x.o],μ:=fun x=>200000 - x.i }
 | 1008=>some { X:=XE8a P0,sl:=[3,7,8,11,12,13],tf:=fun x=>[.one (.at (.ptr 4 0)),.one (.at (.slc 5)),.one (.at (.slc 6)),.one (.at (.slc 7)),vi .i64 x.i,.one (.at (.ptr 8 0))],hf:=fun x=>hD4 d fl rs ks ++ [.box [.slc 0,.slc 1],.row true EC.u64 (refL d.length x.la),.row true EC.u32 (x.la.drop x.lk.length),.row true EC.u8 x.o,bxN8 (eNq d x.lk x.la x.i)],rel:=fun T _ x=>slotI T 12 x.i }
 | 1009=>some { X:=XE8b P2,sl:=[3,7,8,11,12,13,14],tf:=fun x=>[.one (.at (.ptr 4 0)),.one (.at (.slc 5)),.one (.at (.slc 6)),.one (.at (.slc 7)),vi .i64 x.i,.one (.at (.ptr 8 0)),.one (.at (.slc 9))],hf:=fun x=>hD4 d fl rs ks ++ [.box [.slc 0,.slc 1],.row true EC.u64 (refL d.length x.la),.row true EC.u32 (x.la.drop x.lk.length),.row true EC.u8 x.o,bxN8 (eNq d x.lk x.la x.i),.row true EC.u8 x.q],rel:=fun T _ x=>slotI T 12 x.i }
 | 1006=>some { X:=XE8a P3,sl:=[3,7,8,11,12],tf:=fun x=>[.one (.at (.ptr 4 0)),.one (.at (.slc 5)),.one (.at (.slc 6)),.one (.at (.slc 7)),vi .i64 x.i],hf:=fun x=>hD4 d fl rs ks ++ [.box [.slc 0,.slc 1],.row true EC.u64 (refL d.length x.la),.row true EC.u32 (x.la.drop x.lk.length),.row true EC.u8 x.o],rel:=fun T _ x=>slotI T 12 x.i }
 | 12=>some { X:=XE8b P4,sl:=[7,10,11,15],tf:=fun x=>[.one (.at (.slc 4)),.one (.at (.slc 5)),.one (.at (.slc 6)),vi .i64 x.i],hf:=fun x=>hD4 d fl rs ks ++ [.row true EC.u64 (refL d.length x.la),.row true EC.u8 x.q,.row true EC.u8 x.o],μ:=fun x=>rs.length - x.i }
 | _=>none }
noncomputable def aDg28 (B:List SlotT->List Int->List Int->Prop):Ann C0:={ Γ:=[(25,frameT [] (tExQ B)),(83,frameT [] tCk)] }
theorem inL.v {d:List SlotT} (hd:DgW d) {l:List Int} (h:inL d l):allVb l:=fun x hx=>by
 have:=h x hx
 have:=hd.len
 exact ⟨by omega,by omega⟩
theorem repG_D {d:List SlotT} (hd:DgW d):∀ (n:Nat) (i:Int),szT d i<=n->RepG (alcD d) (lfD d) (rgD d) n i
 | 0,i,h=>by
  cases u:alcD d i with
  | false=>exact u
  | true=>have:=hd.sz i u;omega
 | n+1,i,h=>by
  cases u:alcD d i with
  | false=>exact .inl u
  | true =>
   have:=hd.sz i u
   exact .inr ⟨repG_D hd n _ (by omega),repG_D hd n _ (by omega)⟩
theorem numsD_ex {d:List SlotT} (hd:DgW d) (r acc:List Int):∃ a,NumsD d r acc a:=NumsG.ex r acc fun i _=>⟨_,repG_D hd _ i (Nat.le_refl _)⟩
theorem KyD.left {d:List SlotT} (hd:DgW d) {ks rs:List Int} (h:KyD d (ks ++ rs)):KyD d ks:=fun l nl=>by
 obtain ⟨la,na⟩:=numsD_ex hd rs l
 intro i hi
 exact h la (nl.app na) i (na.sub hi)
/-- What is written when i new nodes are through. -/
def woF (f:Int->PNT) (l:List Int) (D:Int) (k nr i:Nat):List Int:=(((l.drop k).take i).map f).foldl (fun o x=>rcE o (encN x)) (headS k ((l.drop k).length:Nat) nr D)
theorem woF_len (f:Int->PNT) (l:List Int) (D:Int) (k nr i:Nat):(woF f l D k nr i).length<=56+56 * l.length:=by
 have h1:=foldE_len (((l.drop k).take i).map f) (headS k ((l.drop k).length:Nat) nr D)
 have h2:=headS_len k ((l.drop k).length:Nat) nr D
 have h3:(((l.drop k).take i).map f).length<=l.length:=by rw [List.length_map,List.length_take,List.length_drop];omega
 unfold woF;omega
theorem woF_go (f:Int->PNT) {l:List Int} (D:Int) {k nr i:Nat} (h:i < (l.drop k).length):woF f l D k nr (i+1)=rcE (woF f l D k nr i) (encN (f (getB (l.drop k) i))):=by
 unfold woF
 rw [take_getB h,List.map_append,List.foldl_append];rfl
theorem nodQ_ok {d:List SlotT} {l:List Int} (hk:InD d l) (hl:l.length<=100000) {i:Int} (hi:i ∈ l):okP (nodQ d l i):=by
 have a:=plcN_rng l (lfD d i)
 have b:=plcN_rng l (rgD d i)
 exact ⟨(hk i hi).1,(hk i hi).2,⟨a.1,by show plcN l (lfD d i) < _;omega⟩,b.1,by show plcN l (rgD d i) < _;omega⟩
theorem woF_allB {d:List SlotT} {l:List Int} {D:Int} {k nr i:Nat} (hk:InD d l) (hl:l.length<=100000) (h1:k<=1000000) (h2:nr<=1000000):allB (woF (nodQ d l) l D k nr i):=by
 refine foldE_allB _ _ (headS_allB D h1 (by rw [List.length_drop];omega) h2) fun x hx=>?_
 obtain ⟨j,hj,rfl⟩:=List.mem_map.1 hx
 exact nodQ_ok hk hl (List.mem_of_mem_drop (List.mem_of_mem_take hj))
structure ExF8 (d:List SlotT) (rs ks lk la:List Int) (D:Int):Prop where
 nk:NumsD d ks [] lk
 na:NumsD d rs lk la
 dg:DgD d ks D
 kin:InD d la
 len:la.length<=100000
 us:∀ j ∈ la,alcD d j=true
 le:lk.length<=la.length
def PE1 (d:List SlotT) (rs ks:List Int):List Int->List Int->List Int->Nat->Prop:=fun lk la o i=>∃ D,ExF8 d rs ks lk la D/\i<=(la.drop lk.length).length/\o=woF (nodQ d la) la D lk.length rs.length i
def PE0 (d:List SlotT) (rs ks:List Int):List Int->List Int->List Int->Nat->Prop:=fun lk la o i=>∃ D,ExF8 d rs ks lk la D/\i < (la.drop lk.length).length/\o=woF (nodQ d la) la D lk.length rs.length i
def PE3 (d:List SlotT) (rs ks:List Int):List Int->List Int->List Int->Nat->Prop:=fun lk la o i=>∃ D,ExF8 d rs ks lk la D/\i < (la.drop lk.length).length/\o=woF (nodQ d la) la D lk.length rs.length (i+1)
def PE2 (d:List SlotT) (rs ks:List Int):List Int->List Int->List Int->List Int->Nat->Prop:=fun lk la o q i=>PE0 d rs ks lk la o i/\q=uvA (kB (eNq d lk la i).key) (zz (eNq d lk la i).value)
def PE4 (d:List SlotT) (rs ks:List Int):List Int->List Int->List Int->List Int->Nat->Prop:=fun lk la o q i=>i<=rs.length/\PE1 d rs ks lk la o (la.drop lk.length).length/\q=vsE [] ((rs.take i).map (plcN la))
theorem enc_uv (x:PNT):uvA (uvA (uvA (kB x.key) (zz x.value)) x.left) x.right=encN x:=by
 unfold uvA encN vsE
 simp [List.append_assoc]
theorem hd_uv (k m r D:Int):jnA (uvA (uvA (uvA [] k) m) r) (wB 4 D)=hdE k m r D:=by
 unfold jnA uvA hdE vsE
 simp [List.append_assoc]
theorem vs_uv (l:List Int) (u:Int):uvA (vsE [] l) u=vsE [] (l ++ [u]):=by
 unfold uvA vsE
 rw [List.flatMap_append,List.append_assoc]
 simp
theorem vs_len (l:List Int):(vsE [] l).length<=11 * l.length:=by
 have:=vsE_len l
 unfold vsE
 rw [List.nil_append];exact this
theorem vs_plc {l r:List Int} (h:l.length<=100000):allB (vsE [] (r.map (plcN l))):=vsE_allB allB_nil fun u hu=>by
 obtain ⟨r,_,rfl⟩:=List.mem_map.1 hu
 have pr:=plcN_rng l r
 omega
theorem vc_ex28 (B:List SlotT->List Int->Prop) (d:List SlotT) (fl rs ks:List Int) (K:KT) (hb:ExB8 d rs ks) (hB:B d ks)
  (h:∀ o,ExD d rs ks o->K (.one (.at (.slc 4))) (hD4 d fl rs ks ++ [.row true EC.u8 o]) []) :
  vc C0 (aEx28 B (PE1 d rs ks) (PE0 d rs ks) (PE3 d rs ks) (PE4 d rs ks) (PE2 d rs ks) d fl rs ks) Tryz.f25 [.agg [.slc 0,.slc 1],.at (.slc 2),.at (.slc 3)] (hD4 d fl rs ks) (normK 4 K):=by
 generalize hP1:PE1 d rs ks=P1
 generalize hP0:PE0 d rs ks=P0
 generalize hP3:PE3 d rs ks=P3
 generalize hP4:PE4 d rs ks=P4
 generalize hP2:PE2 d rs ks=P2
 refine Eq.mp (show ((DgW d)/\(rs.length<=1000000)/\(ks.length<=1000000)/\(allVb rs)/\(allVb ks)/\(∀ lk:List Int,(∀ la:List Int,((NumsD d ks [] lk)->((NumsD d rs lk la)->(∀ r:List Int,(∀ f:List Int,(∀ n:Int,(((r)=(refL d.length la))->(((f)=(List.drop lk.length la))->(((n)=((lk.length:Int)))->((0<=IntKind.u64.wrap n)/\(IntKind.u64.wrap n < 18446744073709551616)/\(([]:List Ent).length<=900000000)/\(∀ o:List Int,(((o)=(uvA [] (IntKind.u64.wrap n)))->((0<=IntKind.u64.wrap (f.length:Int))/\(IntKind.u64.wrap (f.length:Int) < 18446744073709551616)/\(o.length<=900000000)/\(∀ o1:List Int,(((o1)=(uvA o (IntKind.u64.wrap (f.length:Int))))->((0<=IntKind.u64.wrap (rs.length:Int))/\(IntKind.u64.wrap (rs.length:Int) < 18446744073709551616)/\(o1.length<=900000000)/\(∀ o2:List Int,(((o2)=(uvA o1 (IntKind.u64.wrap (rs.length:Int))))->((0 < [86,77,80,49].length)/\(B (d) (ks))/\(∀ D:Int,((DgD d ks D)->((0<=D)->((D < 4294967296)->((0<=IntKind.u64.wrap D)/\(IntKind.u64.wrap D < 18446744073709551616)/\((0:Int)<=4)/\((4:Int)<=8)/\(∀ o3:List Int,(((o3)=(wB (Int.toNat 4) (IntKind.u64.wrap D)))->((o2.length<=1000000000)/\(o3.length<=1000000000)/\(∀ o4:List Int,(((o4)=(jnA o2 o3))->((allB o4)/\(o4.length<=900000000)/\([86,77,80,49].length<=900000000)/\(∀ o5:List Int,(((o5)=(rcE [86,77,80,49] o4))->((∃ x:XE8a P1,(True/\(True/\True/\True/\True/\True/\((Value.int .i64 0)=(Value.int .i64 ((x.i:Int))))/\True)/\((d)=(d))/\((fl)=(fl))/\((rs)=(rs))/\((ks)=(ks))/\(True/\True/\True)/\((r)=(refL d.length x.la))/\((f)=(List.drop x.lk.length x.la))/\
 ((o5)=(x.o))/\True))/\(∀ x:XE8a P1,(True->(brS (decide ((x.i:Int) < (↑(List.drop x.lk.length x.la).length:Int))) (((((0<=(x.i:Int))/\((x.i:Int) < (↑(List.drop x.lk.length x.la).length:Int))/\(0<=IntKind.u32.wrap (getB (List.drop x.lk.length x.la) (x.i:Int).toNat - 1))/\(IntKind.u32.wrap (getB (List.drop x.lk.length x.la) (x.i:Int).toNat - 1) < (d.length:Int))/\(∃ x1:XE8a P0,((((x.i:Int))=((x1.i:Int)))/\(True/\True/\True/\True/\True/\((Value.int .i64 ((x.i:Int)))=(Value.int .i64 ((x1.i:Int))))/\True/\True)/\((d)=(d))/\((fl)=(fl))/\((rs)=(rs))/\((ks)=(ks))/\(True/\True/\True)/\((refL d.length x.la)=(refL d.length x1.la))/\((List.drop x.lk.length x.la)=(List.drop x1.lk.length x1.la))/\((x.o)=(x1.o))/\(((Value.int .i64 ((eS d (IntKind.u32.wrap (getB (List.drop x.lk.length x.la) (x.i:Int).toNat - 1)).toNat).node.key))=(Value.int .i64 ((eNq d x1.lk x1.la x1.i).key)))/\((Value.int .i64 ((eS d (IntKind.u32.wrap (getB (List.drop x.lk.length x.la) (x.i:Int).toNat - 1)).toNat).node.value))=(Value.int .i64 ((eNq d x1.lk x1.la x1.i).value)))/\((Value.int .u32 ((eS d (IntKind.u32.wrap (getB (List.drop x.lk.length x.la) (x.i:Int).toNat - 1)).toNat).node.left))=(Value.int .u32 ((eNq d x1.lk x1.la x1.i).left)))/\((Value.int .u32 ((eS d (IntKind.u32.wrap (getB (List.drop x.lk.length x.la) (x.i:Int).toNat - 1)).toNat).node.right))=(Value.int .u32 ((eNq d x1.lk x1.la x1.i).right)))/\((Value.int .i64 ((eS d (IntKind.u32.wrap (getB (List.drop x.lk.length x.la) (x.i:Int).toNat - 1)).toNat).node.size))=(Value.int .i64 ((eNq d x1.lk x1.la x1.i).size)))/\
 ((Value.int .i64 ((eS d (IntKind.u32.wrap (getB (List.drop x.lk.length x.la) (x.i:Int).toNat - 1)).toNat).node.sum))=(Value.int .i64 ((eNq d x1.lk x1.la x1.i).sum)))/\((Value.int .i64 ((eS d (IntKind.u32.wrap (getB (List.drop x.lk.length x.la) (x.i:Int).toNat - 1)).toNat).node.min))=(Value.int .i64 ((eNq d x1.lk x1.la x1.i).min)))/\((Value.int .i64 ((eS d (IntKind.u32.wrap (getB (List.drop x.lk.length x.la) (x.i:Int).toNat - 1)).toNat).node.max))=(Value.int .i64 ((eNq d x1.lk x1.la x1.i).max)))/\True)/\True)))/\(∀ x1:XE8a P0,((((x.i:Int))=((x1.i:Int)))->((((-9223372036854775808<=(eNq d x1.lk x1.la x1.i).key)/\((eNq d x1.lk x1.la x1.i).key<=9223372036854775807))/\(∀ o6:List Int,(((o6)=(kB (eNq d x1.lk x1.la x1.i).key))->(((-9223372036854775808<=(eNq d x1.lk x1.la x1.i).value)/\((eNq d x1.lk x1.la x1.i).value<=9223372036854775807))/\(∀ u:Int,(((u)=(zz (eNq d x1.lk x1.la x1.i).value))->((0<=u)/\(u < 18446744073709551616)/\(o6.length<=900000000)/\(∀ o7:List Int,(((o7)=(uvA o6 u))->(∃ x2:XE8b P2,((((x1.i:Int))=((x2.i:Int)))/\(True/\True/\True/\True/\True/\((Value.int .i64 ((x1.i:Int)))=(Value.int .i64 ((x2.i:Int))))/\True/\True/\True)/\((d)=(d))/\((fl)=(fl))/\((rs)=(rs))/\((ks)=(ks))/\(True/\True/\True)/\((refL d.length x1.la)=(refL d.length x2.la))/\((List.drop x1.lk.length x1.la)=(List.drop x2.lk.length x2.la))/\((x1.o)=(x2.o))/\(((Value.int .i64 ((eNq d x1.lk x1.la x1.i).key))=(Value.int .i64 ((eNq d x2.lk x2.la x2.i).key)))/\((Value.int .i64 ((eNq d x1.lk x1.la x1.i).value))=(Value.int .i64 ((eNq d x2.lk x2.la x2.i).value)))/\
 ((Value.int .u32 ((eNq d x1.lk x1.la x1.i).left))=(Value.int .u32 ((eNq d x2.lk x2.la x2.i).left)))/\((Value.int .u32 ((eNq d x1.lk x1.la x1.i).right))=(Value.int .u32 ((eNq d x2.lk x2.la x2.i).right)))/\((Value.int .i64 ((eNq d x1.lk x1.la x1.i).size))=(Value.int .i64 ((eNq d x2.lk x2.la x2.i).size)))/\((Value.int .i64 ((eNq d x1.lk x1.la x1.i).sum))=(Value.int .i64 ((eNq d x2.lk x2.la x2.i).sum)))/\((Value.int .i64 ((eNq d x1.lk x1.la x1.i).min))=(Value.int .i64 ((eNq d x2.lk x2.la x2.i).min)))/\((Value.int .i64 ((eNq d x1.lk x1.la x1.i).max))=(Value.int .i64 ((eNq d x2.lk x2.la x2.i).max)))/\True)/\((o7)=(x2.q))/\True)))))))))))/\(∀ x2:XE8b P2,((((x1.i:Int))=((x2.i:Int)))->((0<=(eNq d x2.lk x2.la x2.i).left)/\((eNq d x2.lk x2.la x2.i).left < (↑(refL d.length x2.la).length:Int))/\(0<=(eNq d x2.lk x2.la x2.i).right)/\((eNq d x2.lk x2.la x2.i).right < (↑(refL d.length x2.la).length:Int))/\(0<=getB (refL d.length x2.la) (eNq d x2.lk x2.la x2.i).left.toNat)/\(getB (refL d.length x2.la) (eNq d x2.lk x2.la x2.i).left.toNat < 18446744073709551616)/\(x2.q.length<=900000000)/\(∀ o6:List Int,(((o6)=(uvA x2.q (getB (refL d.length x2.la) (eNq d x2.lk x2.la x2.i).left.toNat)))->((0<=getB (refL d.length x2.la) (eNq d x2.lk x2.la x2.i).right.toNat)/\(getB (refL d.length x2.la) (eNq d x2.lk x2.la x2.i).right.toNat < 18446744073709551616)/\(o6.length<=900000000)/\(∀ o7:List Int,(((o7)=(uvA o6 (getB (refL d.length x2.la) (eNq d x2.lk x2.la x2.i).right.toNat)))->((allB o7)/\(o7.length<=900000000)/\
 (x2.o.length<=900000000)/\(∀ o8:List Int,(((o8)=(rcE x2.o o7))->(∃ x3:XE8a P3,((((x.i:Int))=((x3.i:Int)))/\(True/\True/\True/\True/\True/\((Value.int .i64 ((x2.i:Int)))=(Value.int .i64 ((x3.i:Int))))/\True)/\((d)=(d))/\((fl)=(fl))/\((rs)=(rs))/\((ks)=(ks))/\(True/\True/\True)/\((refL d.length x2.la)=(refL d.length x3.la))/\((List.drop x2.lk.length x2.la)=(List.drop x3.lk.length x3.la))/\((o8)=(x3.o))/\True)))))))))))))))))/\(∀ x1:XE8a P3,((((x.i:Int))=((x1.i:Int)))->(∃ x':XE8a P1,(True/\((True/\True/\True/\True/\True/\((Value.int .i64 (IntKind.i64.wrap ((x1.i:Int)+1)))=(Value.int .i64 ((x'.i:Int))))/\True)/\((d)=(d))/\((fl)=(fl))/\((rs)=(rs))/\((ks)=(ks))/\(True/\True/\True)/\((refL d.length x1.la)=(refL d.length x'.la))/\((List.drop x1.lk.length x1.la)=(List.drop x'.lk.length x'.la))/\((x1.o)=(x'.o))/\True)/\(200000 - x'.i < 200000 - x.i))))))) (((∃ x1:XE8b P4,(True/\(True/\True/\True/\True/\((Value.int .i64 0)=(Value.int .i64 ((x1.i:Int))))/\True)/\((d)=(d))/\((fl)=(fl))/\((rs)=(rs))/\((ks)=(ks))/\((refL d.length x.la)=(refL d.length x1.la))/\([]=(x1.q))/\((x.o)=(x1.o))/\True))/\(∀ x1:XE8b P4,(True->(brS (decide ((x1.i:Int) < (rs.length:Int))) (((0<=(x1.i:Int))/\((x1.i:Int) < (rs.length:Int))/\(0<=getB rs (x1.i:Int).toNat)/\(getB rs (x1.i:Int).toNat < (↑(refL d.length x1.la).length:Int))/\(0<=getB (refL d.length x1.la) (getB rs (x1.i:Int).toNat).toNat)/\(getB (refL d.length x1.la) (getB rs (x1.i:Int).toNat).toNat < 18446744073709551616)/\(x1.q.length<=900000000)/\(∀ o6:List Int,(((o6)=(uvA x1.q (getB (refL d.length x1.la) (getB rs (x1.i:Int).toNat).toNat)))->(∃ x':XE8b P4,(True/\
 ((True/\True/\True/\True/\((Value.int .i64 (IntKind.i64.wrap ((x1.i:Int)+1)))=(Value.int .i64 ((x'.i:Int))))/\True)/\((d)=(d))/\((fl)=(fl))/\((rs)=(rs))/\((ks)=(ks))/\((refL d.length x1.la)=(refL d.length x'.la))/\((o6)=(x'.q))/\((x1.o)=(x'.o))/\True)/\(rs.length - x'.i < rs.length - x1.i))))))) (((allB x1.q)/\(x1.q.length<=900000000)/\(x1.o.length<=900000000)/\(∀ o6:List Int,(((o6)=(rcE x1.o x1.q))->(K (.one (.at (.slc 4))) [(.row false EC.slot (d)),(.row false EC.u32 (fl)),(.row false EC.u32 (rs)),(.row false EC.u32 (ks)),(.row true EC.u8 (o6))] []))))))))))))))))))))))))))))))))))))))))))))))))=_ by kernel_rfl) ?_
 subst hP1 hP0 hP3 hP4 hP2
 have dl:=hb.w.len
 have hrl:=hb.rl
 have hkl:=hb.kl
 have ri:=hb.ri
 refine ⟨hb.w,by omega,by omega,ri.v hb.w,hb.ki.v hb.w,fun lk la nk na r f n er ef en=>?_⟩
 obtain ⟨y,hy⟩:=na.pre
 have all:NumsD d (ks ++ rs) [] la:=nk.app na
 obtain ⟨q1,q2,q3⟩:=all.few hb.w
 have lle:lk.length<=la.length:=by rw [hy,List.length_append];omega
 have us:=all.used (fun j hj=>by cases hj)
 have fl_:f.length=(la.drop lk.length).length:=by rw [ef]
 have fl2:(la.drop lk.length).length<=100000:=by rw [List.length_drop];omega
 subst en
 rw [wrap_u64 (x:=(lk.length:Int)) (by omega) (by omega),wrap_u64 (x:=(f.length:Int)) (by omega) (by omega),wrap_u64 (x:=(rs.length:Int)) (by omega) (by omega)]
 have v1:=vE_len10 (lk.length:Int)
 have v2:=vE_len10 (f.length:Int)
 have v3:=vE_len10 (rs.length:Int)
 have uvl:∀ b u,(uvA b u).length<=b.length+11:=fun b u=>by
  have:=vE_len10 u
  unfold uvA
  rw [List.length_append];omega
 refine ⟨by omega,by omega,by decide,fun o eo=>⟨by omega,by omega,by have:=uvl [] (lk.length:Int);rw [← eo] at this;simp at this;omega,fun o1 e1=>⟨by omega,by omega,?_,fun o2 e2=>⟨by decide,hB,fun D hD D0 D1=>?_⟩⟩⟩⟩
 ·have a1:=uvl [] (lk.length:Int)
  have a2:=uvl o (f.length:Int)
  rw [← eo] at a1
  rw [← e1] at a2
  simp at a1;omega
 rw [wrap_u64 (x:=D) (by omega) (by omega)]
 have a1:=uvl [] (lk.length:Int)
 have a2:=uvl o (f.length:Int)
 have a3:=uvl o1 (rs.length:Int)
 rw [← eo] at a1
 rw [← e1] at a2
 rw [← e2] at a3
 have a0:([]:List Int).length=0:=rfl
 refine ⟨by omega,by omega,by decide,by decide,fun o3 e3=>⟨by omega,by rw [e3,wB_len];decide,fun o4 e4=>?_⟩⟩
 have e4:o4=hdE lk.length ((la.drop lk.length).length:Nat) rs.length D:=by rw [e4,e3,e2,e1,eo,fl_];exact hd_uv _ _ _ _
 have hl:=hdE_len lk.length ((la.drop lk.length).length:Nat) rs.length D
 have h3:allQ [(lk.length:Int),((la.drop lk.length).length:Nat),(rs.length:Int)]:=fun u hu=>by
  simp only [List.mem_cons,List.not_mem_nil,or_false] at hu
  rcases hu with rfl | rfl | rfl <;> omega
 rw [← e4] at hl
 refine ⟨by rw [e4];exact hdE_allB h3,by omega,by decide,fun o5 e5=>⟨⟨⟨lk,la,o5,0,D,⟨nk,na,hD,hb.ky la all,by omega,us,lle⟩,Nat.zero_le _,by rw [e5,e4];rfl⟩,trivial,?_⟩,fun x _=>brS_of (fun z=>?_) fun z=>?_⟩⟩
 ·rw [er,ef]
  (repeat' first | exact trivial | exact rfl | refine And.intro ?_ ?_)
 ·obtain ⟨lk,la,o,i,D,F,hi,eo⟩:=x
  dsimp only at z ⊢
  have zi:i < (la.drop lk.length).length:=by have:=of_decide_eq_true z;omega
  clear z
  have ll:=F.len
  have jm:getB (la.drop lk.length) i ∈ la:=List.mem_of_mem_drop (getB_mem zi)
  have uj:=F.us _ jm
  have rg:=alcD_rng uj
  rw [show ((i:Int)).toNat=i from rfl,wrap_u32 (x:=getB (la.drop lk.length) i - 1) (by omega) (by omega)]
  refine ⟨⟨⟨by omega,by omega,by omega,by omega,⟨lk,la,o,i,D,F,zi,eo⟩,rfl,?_⟩,fun x1 e1=>?_⟩,fun x1 e1=>?_⟩
  ·(repeat' first | exact trivial | exact rfl | refine And.intro ?_ ?_)
  ·obtain ⟨lk,la,o,i',D,F,zi,eo⟩:=x1
   dsimp only at e1 ⊢
   obtain rfl:i=i':=by omega
   have ll:=F.len
   have jm:getB (la.drop lk.length) i ∈ la:=List.mem_of_mem_drop (getB_mem zi)
   have kj:=F.kin _ jm
   refine ⟨⟨⟨kj.1.1,kj.1.2⟩,fun o6 e6=>⟨⟨kj.2.1,kj.2.2⟩,fun u eu=>?_⟩⟩,fun x2 e2=>?_⟩
   ·have zr:=Go.Proofs.YtedfbafngmicpaaGreat.zz_rng kj.2.1 kj.2.2
    have eu:u=zz (sltD d (getB (la.drop lk.length) i)).node.value:=eu
    refine ⟨by omega,by omega,by rw [e6];unfold kB;rw [wB_len];decide,fun o7 e7=>⟨⟨lk,la,o,o7,i,⟨D,F,zi,eo⟩,by rw [e7,e6,eu];rfl⟩,rfl,?_⟩⟩
    (repeat' first | exact trivial | exact rfl | refine And.intro ?_ ?_)
   ·obtain ⟨lk,la,o,q,i',⟨D,F,zi,eo⟩,eq⟩:=x2
    dsimp only at e2 ⊢
    obtain rfl:i=i':=by omega
    have ll:=F.len
    have jm:getB (la.drop lk.length) i ∈ la:=List.mem_of_mem_drop (getB_mem zi)
    have uj:=F.us _ jm
    have kd:=hb.kd _ uj
    have ok:=nodQ_ok F.kin ll jm
    have eg:=woF_go (nodQ d la) (nr:=rs.length) D zi
    have ol:=woF_len (nodQ d la) la D lk.length rs.length i
    rw [← eo] at ol
    have ev:=enc_uv (nodQ d la (getB (la.drop lk.length) i))
    have el:=encN_len (nodQ d la (getB (la.drop lk.length) i))
    have ea:=encN_allB ok
    have n1:(eNq d lk la i).left=lfD d (getB (la.drop lk.length) i):=rfl
    have n2:(eNq d lk la i).right=rgD d (getB (la.drop lk.length) i):=rfl
    have eq:q=uvA (kB (nodQ d la (getB (la.drop lk.length) i)).key) (zz (nodQ d la (getB (la.drop lk.length) i)).value):=eq
    have ql:=uvl (kB (nodQ d la (getB (la.drop lk.length) i)).key) (zz (nodQ d la (getB (la.drop lk.length) i)).value)
    rw [← eq,show (kB (nodQ d la (getB (la.drop lk.length) i)).key).length=8 from wB_len _ _] at ql
    have okl:=ok.2.2.1
    have okr:=ok.2.2.2
    rw [n1,n2,refL_at kd.1.1 kd.1.2,refL_at kd.2.1 kd.2.2,refL_len]
    show 0<=lfD d (getB (la.drop lk.length) i)/\lfD d (getB (la.drop lk.length) i) < _/\0<=rgD d (getB (la.drop lk.length) i)/\rgD d (getB (la.drop lk.length) i) < _/\0<=(nodQ d la (getB (la.drop lk.length) i)).left/\_
    refine ⟨kd.1.1,by omega,kd.2.1,by omega,okl.1,okl.2,by omega,fun o6 e6=>⟨okr.1,okr.2,?_,fun o7 e7=>?_⟩⟩
    ·have:=uvl q (plcN la (lfD d (getB (la.drop lk.length) i)))
     rw [← e6] at this;omega
    ·have e7:o7=encN (nodQ d la (getB (la.drop lk.length) i)):=by rw [← ev,e7,e6,eq];rfl
     rw [e7]
     refine ⟨ea,by omega,by omega,fun o8 e8=>⟨⟨lk,la,o8,i,D,F,zi,by rw [e8,eo];exact eg.symm⟩,rfl,?_⟩⟩
     (repeat' first | exact trivial | exact rfl | refine And.intro ?_ ?_)
  ·obtain ⟨lk1,la1,o,i',D,F,zi1,eo⟩:=x1
   dsimp only at e1 ⊢
   obtain rfl:i=i':=by omega
   have ll1:=F.len
   have zl1:=zi1
   rw [List.length_drop] at zl1
   rw [wrap_id (x:=(i:Int)+1) (by omega) (by omega)]
   refine ⟨⟨lk1,la1,o,i+1,D,F,zi1,eo⟩,trivial,?_,by show 200000 - (i+1) < 200000 - i;omega⟩
   (repeat' first | exact trivial | exact rfl | refine And.intro ?_ ?_)
 ·obtain ⟨lk,la,o,i,D,F,hi,eo⟩:=x
  dsimp only at z ⊢
  have z:i=(la.drop lk.length).length:=by have:=of_decide_eq_false z;omega
  subst z
  refine ⟨⟨⟨lk,la,o,[],0,Nat.zero_le _,⟨D,F,Nat.le_refl _,eo⟩,rfl⟩,trivial,?_⟩,fun x1 _=>brS_of (fun z=>?_) fun z=>?_⟩
  ·(repeat' first | exact trivial | exact rfl | refine And.intro ?_ ?_)
  ·obtain ⟨lk,la,o,q,i,hi,⟨D,F,hl,eo⟩,eq⟩:=x1
   dsimp only at z ⊢
   have zi:i < rs.length:=by have:=of_decide_eq_true z;omega
   clear z
   have ll:=F.len
   have rr:=ri _ (getB_mem zi)
   have pr:=plcN_rng la (getB rs i)
   rw [show ((i:Int)).toNat=i from rfl,wrap_id (x:=(i:Int)+1) (by omega) (by omega),refL_at rr.1 rr.2,refL_len]
   have ql:=vs_len ((rs.take i).map (plcN la))
   rw [List.length_map,List.length_take,← eq] at ql
   refine ⟨by omega,by omega,rr.1,by omega,pr.1,by omega,by omega,fun o6 e6=>⟨⟨lk,la,o,o6,i+1,zi,⟨D,F,hl,eo⟩,?_⟩,trivial,?_,Nat.sub_lt_sub_left zi (Nat.lt_succ_self i)⟩⟩
   ·rw [e6,eq,vs_uv,take_getB zi,List.map_append];rfl
   ·(repeat' first | exact trivial | exact rfl | refine And.intro ?_ ?_)
  ·obtain ⟨lk,la,o,q,i,hi,⟨D,F,hl,eo⟩,eq⟩:=x1
   dsimp only at z ⊢
   have z:i=rs.length:=by have:=of_decide_eq_false z;omega
   rw [z,List.take_length] at eq
   have ll:=F.len
   have ql:=vs_len (rs.map (plcN la))
   rw [List.length_map,← eq] at ql
   have ol:=woF_len (nodQ d la) la D lk.length rs.length (la.drop lk.length).length
   rw [← eo] at ol
   have qa:allB q:=by rw [eq];exact vs_plc ll
   have fa:=F.le
   refine ⟨qa,by omega,by omega,fun o6 e6=>h o6 ⟨⟨lk,la,D,F.nk,F.na,F.dg,?_⟩,?_,?_⟩⟩
   ·rw [e6,eo,eq]
    unfold pkQ pkE woF headS
    rw [List.take_length,List.length_map,List.length_map]
   ·rw [e6,eo]
    exact frE_allB' qa (by omega) (woF_allB F.kin ll (by omega) (by omega))
   ·have:=rcE_len o q
    rw [e6];omega
theorem s_exQ (Q:List SlotT->List Int->Prop) (sD:SoundT C0 37 (tDgD Q)) (B:List SlotT->List Int->List Int->Prop) (hB:∀ d rs ks,B d rs ks->ExB8 d rs ks/\Q d ks):SoundT C0 25 (tExQ B):=by
 refine .of Tryz.func25 (by decide) rfl fun args H K h hC=>?_
 unfold tExQ at h
 split at h <;> try exact h.elim
 unfold dgM at h
 split at h <;> try exact h.elim
 rename_i _ d fl rs ks
 obtain ⟨h1,h2⟩:=hB _ _ _ h.1
 refine ⟨_,?_,vc_ex28 Q d fl rs ks K h1 h2 h.2⟩
 exact ⟨frame C0.ok s_rf _,frame C0.ok s_vr _,frame C0.ok s_fr8 _,frame C0.ok s_kb _,frame C0.ok s_zr _,frame C0.ok s_jnR _,frame C0.ok s_wd _,frame C0.ok sD _,trivial⟩
theorem vc_dg28 (B:List SlotT->List Int->List Int->Prop) (d:List SlotT) (fl rs:List Int) (K:KT) (hB:rs ≠ []->B d rs []) (h:∀ D,DgD d rs D->0<=D->D < 4294967296->K (.one (.at (vU D))) [.row false EC.slot d,.row false EC.u32 fl,.row false EC.u32 rs] []) :
  vc C0 (aDg28 B) Tryz.f37 [.agg [.slc 0,.slc 1],.at (.slc 2)] [.row false EC.slot d,.row false EC.u32 fl,.row false EC.u32 rs] (normK 3 K):=by
 refine Eq.mp (show (brS ((rs.length:Int) == 0) ((K (.one (.at (.val (Value.int .u32 0)))) [(.row false EC.slot (d)),(.row false EC.u32 (fl)),(.row false EC.u32 (rs))] [])) (((B (d) (rs) [])/\(∀ o:List Int,((ExD d rs [] o)->((allB o)/\(o.length<=1000000000000)/\(∀ r:Int,(((r)=(crc o))->(K (.one (.at (.val (Value.int .u32 (r))))) [(.row false EC.slot (d)),(.row false EC.u32 (fl)),(.row false EC.u32 (rs))] [])))))))))=_ by kernel_rfl) ?_
 refine brS_of (fun z=>?_) fun z=>?_
 ·have z:rs=[]:=List.eq_nil_of_length_eq_zero (by have:=eq_of_beq z;omega)
  exact h 0 (.inl ⟨z,rfl⟩) (by decide) (by decide)
 ·have z:rs ≠ []:=fun e=>by rw [e] at z;exact absurd z (by decide)
  refine ⟨hB z,fun o w=>⟨w.ab,by have:=w.bl;omega,fun r er=>?_⟩⟩
  have rr:=crc_rng o
  rw [← er] at rr
  refine h r (.inr ⟨z,?_⟩) rr.1 rr.2
  obtain ⟨lk,la,D,n1,n2,d,eo⟩:=w.ex
  cases n1
  rcases d with ⟨_,d⟩ | ⟨d,_⟩
  ·subst d
   exact ⟨la,n2,by rw [er,eo]⟩
  ·exact absurd rfl d
theorem s_dgQ (B:List SlotT->List Int->List Int->Prop) (sW:SoundT C0 25 (tExQ B)) (Q:List SlotT->List Int->Prop) (hB:∀ d rs,Q d rs->rs ≠ []->B d rs []):SoundT C0 37 (tDgD Q):=by
 refine .of Tryz.func37 (by decide) rfl fun args H K h hC=>?_
 unfold tDgD at h
 split at h <;> try exact h.elim
 rename_i d fl rs
 exact ⟨aDg28 B,⟨frame C0.ok sW _,frame C0.ok s_cr _,trivial⟩,vc_dg28 B d fl rs K (hB _ _ h.1) h.2⟩
theorem s_exF:SoundT C0 25 (tExQ fun _ _ _=>False):=by
 refine .of Tryz.func25 (by decide) rfl fun args H K h hC=>?_
 unfold tExQ at h
 split at h <;> try exact h.elim
 unfold dgM at h
 split at h <;> try exact h.elim
 exact h.1.elim
theorem s_dg0D:SoundT C0 37 (tDgD fun _ rs=>rs=[]):=s_dgQ _ s_exF _ fun _ _ h n=>absurd h n
theorem s_ex0D:SoundT C0 25 (tExQ fun d rs ks=>ks=[]/\ExB8 d rs ks):=s_exQ _ s_dg0D _ fun _ _ _ h=>⟨h.2,h.1⟩
def tDg28:Tfm C0:=tDgD fun d rs=>ExB8 d rs []
theorem s_dg28:SoundT C0 37 tDg28:=s_dgQ _ s_ex0D _ fun _ _ h _=>⟨rfl,h⟩
def tEx28:Tfm C0:=tExQ ExB8
theorem s_ex28:SoundT C0 25 tEx28:=s_exQ _ s_dg28 _ fun d rs ks h=>⟨h,⟨h.w,h.kd,h.kl,by simp,h.ki,fun x hx=>by simp at hx,by rw [List.nil_append];exact KyD.left h.w h.ky⟩⟩
section
variable {S:Arn} {hs:List Int}
theorem kdD_slots (w:Wf S hs):KdD (slotsOf S):=fun i u=>by
 have u':=u
 rw [alcD_slots w] at u'
 obtain ⟨e1,e2⟩:=lfD_slots w u'
 have k:=w.kid i u'
 rw [e1,e2]
 have q:∀ j,j=0 ∨ S.us j=true->0<=j/\j<=((slotsOf S).length:Int):=fun j hj=>by
  rcases hj with rfl | hj
  ·omega
  ·rw [← alcD_slots w] at hj
   have:=alcD_rng hj
   omega
 exact ⟨q _ k.1,q _ k.2⟩
theorem inL_slots (w:Wf S hs) {l:List Int} (h:∀ j ∈ l,j=0 ∨ S.us j=true):inL (slotsOf S) l:=fun j hj=>by
 rcases h j hj with rfl | hj
 ·omega
 ·rw [← alcD_slots w] at hj
  have:=alcD_rng hj
  omega
theorem nodQ_slots (w:Wf S hs) {l:List Int} {i:Int} (u:S.us i=true):nodQ (slotsOf S) l i=nodP S l i:=by
 obtain ⟨e1,e2⟩:=lfD_slots w u
 unfold nodQ nodP
 rw [e1,e2,sltD_slots w u]
theorem pkQ_slots (w:Wf S hs) {lk la rs:List Int} {D:Int} (u:∀ j ∈ la,S.us j=true):pkQ (slotsOf S) lk la rs D=pkS S lk la rs D:=by
 unfold pkQ pkS
 congr 1
 refine List.map_congr_left fun i hi=>nodQ_slots w (u i (List.mem_of_mem_drop hi))
theorem numG_D (w:Wf S hs) {rs a l:List Int} (h:NumsD (slotsOf S) rs a l):NumsA S rs a l :=
 h.congr (fun i=>(alcD_slots w i).symm) (fun _ u=>((lfD_slots w (by rw [alcD_slots w] at u;exact u)).1).symm) fun _ u=>((lfD_slots w (by rw [alcD_slots w] at u;exact u)).2).symm
theorem dgD_slots (w:Wf S hs) {rs:List Int} {D:Int} (h:DgD (slotsOf S) rs D):DgR S rs D:=by
 rcases h with h | ⟨a,l,n,e⟩
 ·exact .inl h
 ·have n':=numD_A w n
  exact .inr ⟨a,l,n',by rw [e,pkQ_slots w (n'.used (fun j hj=>by cases hj))]⟩
theorem exD_slots (w:Wf S hs) {rs ks o:List Int} (h:ExD (slotsOf S) rs ks o):∃ lk la D,NumsA S ks [] lk/\NumsA S rs lk la/\DgR S ks D/\o=pkS S lk la rs D:=by
 obtain ⟨lk,la,D,a,b,c,d⟩:=h.ex
 have a':=numG_D w a
 have b':=numG_D w b
 exact ⟨lk,la,D,a',b',dgD_slots w c,by rw [d,pkQ_slots w (b'.used (a'.used fun j hj=>by cases hj))]⟩
theorem kyD_slots (w:Wf S hs) {rs:List Int} (h:KyN S rs):KyD (slotsOf S) rs:=fun l n=>by
 have n':=numG_D w n
 have us:=n'.used (fun j hj=>by cases hj)
 intro i hi
 have:=h l n' i hi
 rw [sltD_slots w (us i hi)]
 exact this
theorem exB_slots (w:Wf S hs) {rs ks:List Int} (rl:rs.length<=90000) (kl:ks.length<=90000) (hr:∀ j ∈ rs,j=0 ∨ S.us j=true) (hk:∀ j ∈ ks,j=0 ∨ S.us j=true) (ky:KyN S (ks ++ rs)):ExB8 (slotsOf S) rs ks :=
 ⟨dgW_slots w,kdD_slots w,rl,kl,inL_slots w hr,inL_slots w hk,kyD_slots w ky⟩
end
end Go.Proofs.YtedfbafngmicpaaGreat.Sx
end
section
/- Choosing twice; Same of bytes; pack.Digest. -/
namespace Go.Proofs.YtedfbafngmicpaaGreat.Sx
open Go

/-KEEP rowG Wf exW inU allV allB rdS NumsA DgB DgS-/
abbrev chF2 (raw:List Ent) (l:List StpT) (S:Arn) (rs:List Int) (ll:List (List Ent)) (r0:List Int) (L0:List (List Ent)):List (Chunk C0):=chF raw l S rs ll ++ [.row true EC.u32 r0,.rows EC.hent EC.ent L0]
noncomputable def aPi2 (P:List Int->List (List Ent)->Nat->Prop) (rs:List Int) (H:List (Chunk C0)):Ann C0:={ quiet:=[9999999],Γ:=[],inv:=fun m=>match m with
 | 4=>some { X:=XPi P,sl:=[8,9,10],tf:=fun x=>[.one (.at (.slc 13)),.one (.at (.slc 14)),vi .i64 x.i],hf:=fun x=>H ++ [.row true EC.u32 x.r,.rows EC.hent EC.ent x.L],μ:=fun x=>rs.length - x.i }
 | _=>none }
abbrev pfM2 (H:List (Chunk C0)) (q:List Ent->List StpT->Arn->List Int->List (List Ent)->List Int->List (List Ent)->Prop):Prop:=match H with
 | [.row false .ent raw,.row false .stp l,.box [.ptr 5 0,.slc 6,.slc 7,.val (.int .u64 rd)],.row true .u32 rs,.rows .hent .ent ll,.box [.slc 8,.slc 9,.slc 10,.val (.int .u32 fr)],.row true .node nd,.row true .int ct,.row true .bool us,.row true .u32 gn,.row true .u32 rl,.row true .u32 r0,.rows .hent .ent L0]=>q raw l ⟨us,gn,rl,fr,nd,ct,rd⟩ rs ll r0 L0
 | _=>False
def tPi2:Tfm C0:=fun args H K=>match args with
 | [.at (.slc 3),.at (.slc 4),.at (.val (.int .u8 b))]=>pfM2 H fun raw l S rs ll r0 L0=>rs.length=ll.length/\rs.length<=1000/\∀ r L,r=(pkZ b (rs.zip ll)).map Prod.fst->L=(pkZ b (rs.zip ll)).map Prod.snd->K (.tup [.at (.slc 13),.at (.slc 14)]) (chF2 raw l S rs ll r0 L0 ++ [.row true EC.u32 r,.rows EC.hent EC.ent L]) []
 | _=>False
noncomputable def aSmB (l m:List Int):Ann C0:={ Γ:=[],inv:=fun n=>match n with
 | 4=>some { X:=XI8 l.length,sl:=[5],tf:=fun x=>[vi .i64 x.i],hf:=fun _=>[.row false EC.u8 l,.row false EC.u8 m],μ:=fun x=>l.length - x.i }
 | _=>none }
def tSmB:Tfm C0:=fun args H K=>match args,H with
 | [.at (.slc 0),.at (.slc 1)],[.row false .u8 l,.row false .u8 m]=>l=m/\l.length<=100000000/\K (.one (.at (vB true))) [.row false EC.u8 l,.row false EC.u8 m] []
 | _,_=>False
noncomputable def aDgp:Ann C0:={ Γ:=[(82,frameT [] tDg)] }
theorem vc_pi2 (raw:List Ent) (l:List StpT) (S:Arn) (rs:List Int) (ll:List (List Ent)) (r0:List Int) (L0:List (List Ent)) (b:Int) (K:KT) (e:rs.length=ll.length) (hl:rs.length<=1000) (h:∀ r L,r=(pkZ b (rs.zip ll)).map Prod.fst->L=(pkZ b (rs.zip ll)).map Prod.snd->K (.tup [.at (.slc 13),.at (.slc 14)]) (chF2 raw l S rs ll r0 L0 ++ [.row true EC.u32 r,.rows EC.hent EC.ent L]) []) :
  vc C0 (aPi2 (PPi b rs ll) rs (chF2 raw l S rs ll r0 L0)) Tryz.f20 [.at (.slc 3),.at (.slc 4),.at (.val (.int .u8 b))] (chF2 raw l S rs ll r0 L0) (normK 13 K):=by
 generalize hP:PPi b rs ll=P
 refine Eq.mp (show ((∃ x:XPi P,(True/\(True/\True/\((Value.int .u8 (b))=(Value.int .u8 (b)))/\True/\True/\((Value.int .i64 0)=(Value.int .i64 ((x.i:Int))))/\True)/\((raw)=(raw))/\((l)=(l))/\(True/\True/\True/\((Value.int .u64 (S.reads))=(Value.int .u64 (S.reads)))/\True)/\((rs)=(rs))/\((ll)=(ll))/\(True/\True/\True/\((Value.int .u32 (S.fresh))=(Value.int .u32 (S.fresh)))/\True)/\((S.nodes)=(S.nodes))/\((S.counts)=(S.counts))/\((S.used)=(S.used))/\((S.gen)=(S.gen))/\((S.rel)=(S.rel))/\((r0)=(r0))/\((L0)=(L0))/\([]=(x.r))/\([]=(x.L))/\True))/\(∀ x:XPi P,(True->(brS (decide ((x.i:Int) < (rs.length:Int))) ((brS (decide ((x.i:Int) < 7)) (((0<=IntKind.u64.wrap (x.i:Int))/\(brS ((b.fdiv (2 ^ min (IntKind.u64.wrap (x.i:Int)).toNat IntKind.u8.bits)).tmod 2 == 1) (((0<=(x.i:Int))/\((x.i:Int) < (rs.length:Int))/\(0<=(x.i:Int))/\((x.i:Int) < (ll.length:Int))/\((((x.r.length+[getB rs (x.i:Int).toNat].length) * bytesOf C0 EC.u32<=140737488355328)/\((x.L.length+[rowG ll (x.i:Int).toNat].length) * bytesOf C0 EC.hent<=140737488355328)/\(∃ x':XPi P,(True/\((True/\True/\((Value.int .u8 (b))=(Value.int .u8 (b)))/\True/\True/\((Value.int .i64 (IntKind.i64.wrap ((x.i:Int)+1)))=(Value.int .i64 ((x'.i:Int))))/\True)/\((raw)=(raw))/\((l)=(l))/\(True/\True/\True/\((Value.int .u64 (S.reads))=(Value.int .u64 (S.reads)))/\True)/\((rs)=(rs))/\((ll)=(ll))/\(True/\True/\True/\((Value.int .u32 (S.fresh))=(Value.int .u32 (S.fresh)))/\True)/\((S.nodes)=(S.nodes))/\((S.counts)=(S.counts))/\((S.used)=(S.used))/\((S.gen)=(S.gen))/\((S.rel)=(S.rel))/\
 ((r0)=(r0))/\((L0)=(L0))/\((x.r ++ [getB rs (x.i:Int).toNat])=(x'.r))/\((x.L ++ [rowG ll (x.i:Int).toNat])=(x'.L))/\True)/\(rs.length - x'.i < rs.length - x.i))))/\((x.r.length+[getB rs (x.i:Int).toNat].length) * bytesOf C0 EC.u32<=140737488355328)/\((x.L.length+[rowG ll (x.i:Int).toNat].length) * bytesOf C0 EC.hent<=140737488355328)/\(∃ x':XPi P,(True/\((True/\True/\((Value.int .u8 (b))=(Value.int .u8 (b)))/\True/\True/\((Value.int .i64 (IntKind.i64.wrap ((x.i:Int)+1)))=(Value.int .i64 ((x'.i:Int))))/\True)/\((raw)=(raw))/\((l)=(l))/\(True/\True/\True/\((Value.int .u64 (S.reads))=(Value.int .u64 (S.reads)))/\True)/\((rs)=(rs))/\((ll)=(ll))/\(True/\True/\True/\((Value.int .u32 (S.fresh))=(Value.int .u32 (S.fresh)))/\True)/\((S.nodes)=(S.nodes))/\((S.counts)=(S.counts))/\((S.used)=(S.used))/\((S.gen)=(S.gen))/\((S.rel)=(S.rel))/\((r0)=(r0))/\((L0)=(L0))/\((x.r ++ [getB rs (x.i:Int).toNat])=(x'.r))/\((x.L ++ [rowG ll (x.i:Int).toNat])=(x'.L))/\True)/\(rs.length - x'.i < rs.length - x.i))))/\((x.r.length+[getB rs (x.i:Int).toNat].length) * bytesOf C0 EC.u32<=140737488355328)/\((x.L.length+[rowG ll (x.i:Int).toNat].length) * bytesOf C0 EC.hent<=140737488355328)/\(∃ x':XPi P,(True/\((True/\True/\((Value.int .u8 (b))=(Value.int .u8 (b)))/\True/\True/\((Value.int .i64 (IntKind.i64.wrap ((x.i:Int)+1)))=(Value.int .i64 ((x'.i:Int))))/\True)/\((raw)=(raw))/\((l)=(l))/\(True/\True/\True/\((Value.int .u64 (S.reads))=(Value.int .u64 (S.reads)))/\True)/\((rs)=(rs))/\((ll)=(ll))/\(True/\True/\
 True/\((Value.int .u32 (S.fresh))=(Value.int .u32 (S.fresh)))/\True)/\((S.nodes)=(S.nodes))/\((S.counts)=(S.counts))/\((S.used)=(S.used))/\((S.gen)=(S.gen))/\((S.rel)=(S.rel))/\((r0)=(r0))/\((L0)=(L0))/\((x.r ++ [getB rs (x.i:Int).toNat])=(x'.r))/\((x.L ++ [rowG ll (x.i:Int).toNat])=(x'.L))/\True)/\(rs.length - x'.i < rs.length - x.i))))) ((∃ x':XPi P,(True/\((True/\True/\((Value.int .u8 (b))=(Value.int .u8 (b)))/\True/\True/\((Value.int .i64 (IntKind.i64.wrap ((x.i:Int)+1)))=(Value.int .i64 ((x'.i:Int))))/\True)/\((raw)=(raw))/\((l)=(l))/\(True/\True/\True/\((Value.int .u64 (S.reads))=(Value.int .u64 (S.reads)))/\True)/\((rs)=(rs))/\((ll)=(ll))/\(True/\True/\True/\((Value.int .u32 (S.fresh))=(Value.int .u32 (S.fresh)))/\True)/\((S.nodes)=(S.nodes))/\((S.counts)=(S.counts))/\((S.used)=(S.used))/\((S.gen)=(S.gen))/\((S.rel)=(S.rel))/\((r0)=(r0))/\((L0)=(L0))/\((x.r)=(x'.r))/\((x.L)=(x'.L))/\True)/\(rs.length - x'.i < rs.length - x.i))))))) ((brS (decide (b ≥ 128)) ((((x.r.length+[0].length) * bytesOf C0 EC.u32<=140737488355328)/\((x.L.length+([[]]:List (List Ent)).length) * bytesOf C0 EC.hent<=140737488355328)/\(K (.tup [(.at (.slc 13)),(.at (.slc 14))]) [(.row false EC.ent (raw)),(.row false EC.stp (l)),(.box [(.ptr 5 0),(.slc 6),(.slc 7),(.val (Value.int .u64 (S.reads)))]),(.row true EC.u32 (rs)),(Chunk.rows EC.hent EC.ent (ll)),(.box [(.slc 8),(.slc 9),(.slc 10),(.val (Value.int .u32 (S.fresh)))]),(.row true EC.node (S.nodes)),(.row true EC.int (S.counts)),(.row true EC.bool (S.used)),(.row true EC.u32 (S.gen)),(.row true EC.u32 (S.rel)),(.row true EC.u32 (r0)),(Chunk.rows EC.hent EC.ent (L0)),(.row true EC.u32 (x.r ++ [0])),(Chunk.rows EC.hent EC.ent (x.L ++ ([[]]:List (List Ent))))] []))) ((K (.tup [(.at (.slc 13)),(.at (.slc 14))]) [(.row false EC.ent (raw)),(.row false EC.stp (l)),(.box [(.ptr 5 0),(.slc 6),(.slc 7),(.val (Value.int .u64 (S.reads)))]),(.row true EC.u32 (rs)),(Chunk.rows EC.hent EC.ent (ll)),(.box [(.slc 8),(.slc 9),(.slc 10),(.val (Value.int .u32 (S.fresh)))]),(.row true EC.node (S.nodes)),(.row true EC.int (S.counts)),(.row true EC.bool (S.used)),(.row true EC.u32 (S.gen)),(.row true EC.u32 (S.rel)),(.row true EC.u32 (r0)),(Chunk.rows EC.hent EC.ent (L0)),(.row true EC.u32 (x.r)),(Chunk.rows EC.hent EC.ent (x.L))] [])))))) ((brS (decide (b ≥ 128)) ((((x.r.length+[0].length) * bytesOf C0 EC.u32<=140737488355328)/\
 ((x.L.length+([[]]:List (List Ent)).length) * bytesOf C0 EC.hent<=140737488355328)/\(K (.tup [(.at (.slc 13)),(.at (.slc 14))]) [(.row false EC.ent (raw)),(.row false EC.stp (l)),(.box [(.ptr 5 0),(.slc 6),(.slc 7),(.val (Value.int .u64 (S.reads)))]),(.row true EC.u32 (rs)),(Chunk.rows EC.hent EC.ent (ll)),(.box [(.slc 8),(.slc 9),(.slc 10),(.val (Value.int .u32 (S.fresh)))]),(.row true EC.node (S.nodes)),(.row true EC.int (S.counts)),(.row true EC.bool (S.used)),(.row true EC.u32 (S.gen)),(.row true EC.u32 (S.rel)),(.row true EC.u32 (r0)),(Chunk.rows EC.hent EC.ent (L0)),(.row true EC.u32 (x.r ++ [0])),(Chunk.rows EC.hent EC.ent (x.L ++ ([[]]:List (List Ent))))] []))) ((K (.tup [(.at (.slc 13)),(.at (.slc 14))]) [(.row false EC.ent (raw)),(.row false EC.stp (l)),(.box [(.ptr 5 0),(.slc 6),(.slc 7),(.val (Value.int .u64 (S.reads)))]),(.row true EC.u32 (rs)),(Chunk.rows EC.hent EC.ent (ll)),(.box [(.slc 8),(.slc 9),(.slc 10),(.val (Value.int .u32 (S.fresh)))]),(.row true EC.node (S.nodes)),(.row true EC.int (S.counts)),(.row true EC.bool (S.used)),(.row true EC.u32 (S.gen)),(.row true EC.u32 (S.rel)),(.row true EC.u32 (r0)),(Chunk.rows EC.hent EC.ent (L0)),(.row true EC.u32 (x.r)),(Chunk.rows EC.hent EC.ent (x.L))] []))))))))=_ by kernel_rfl) ?_
 subst hP
 have out:∀ i,i<=rs.length->i<=7->¬ (i < rs.length/\i < 7)->pkG b (rs.zip ll) (min (rs.zip ll).length 7)=pkG b (rs.zip ll) i:=fun i h1 h2 h3=>by
  rw [List.length_zip,show min (min rs.length ll.length) 7=i by omega]
 have fin:∀ i,i<=rs.length->i<=7->¬ (i < rs.length/\i < 7)->brS (decide (b ≥ 128))
   (((((pkG b (rs.zip ll) i).map Prod.fst).length+[(0:Int)].length) * bytesOf C0 EC.u32<=140737488355328)/\((((pkG b (rs.zip ll) i).map Prod.snd).length+[([]:List Ent)].length) * bytesOf C0 EC.hent<=140737488355328)/\K (.tup [.at (.slc 13),.at (.slc 14)]) (chF2 raw l S rs ll r0 L0 ++ [.row true EC.u32 ((pkG b (rs.zip ll) i).map Prod.fst ++ [0]),.rows EC.hent EC.ent ((pkG b (rs.zip ll) i).map Prod.snd ++ [[]])]) [])
   (K (.tup [.at (.slc 13),.at (.slc 14)]) (chF2 raw l S rs ll r0 L0 ++ [.row true EC.u32 ((pkG b (rs.zip ll) i).map Prod.fst),.rows EC.hent EC.ent ((pkG b (rs.zip ll) i).map Prod.snd)]) []):=fun i h1 h2 h3=>by
  have gl:=pkG_len b (rs.zip ll) i
  refine brS_of (fun z=>⟨by rw [bytes_u32,List.length_map,List.length_singleton];omega,by rw [bytes_hent,List.length_map,List.length_singleton];omega,h _ _ ?_ ?_⟩) fun z=>h _ _ ?_ ?_
  ·unfold pkZ
   rw [out i h1 h2 h3,if_pos (of_decide_eq_true z),List.map_append];rfl
  ·unfold pkZ
   rw [out i h1 h2 h3,if_pos (of_decide_eq_true z),List.map_append];rfl
  ·unfold pkZ
   rw [out i h1 h2 h3,if_neg (of_decide_eq_false z)]
   simp only [List.append_nil]
   exact rfl
  ·unfold pkZ
   rw [out i h1 h2 h3,if_neg (of_decide_eq_false z)]
   simp only [List.append_nil]
   exact rfl
 refine ⟨⟨⟨[],[],0,Nat.zero_le _,by decide,rfl,rfl⟩,trivial,?_⟩,fun x _=>brS_of (fun y=>brS_of (fun z=>⟨wrap_u64_nonneg _,?_⟩) fun z=>?_) fun y=>?_⟩
 ·(repeat' first | exact trivial | exact rfl | refine And.intro ?_ ?_)
 ·obtain ⟨r,L,i,h1,h2,rfl,rfl⟩:=x
  dsimp only at y z ⊢
  have yi:i < rs.length:=by have:=of_decide_eq_true y;omega
  have zi:i < 7:=by have:=of_decide_eq_true z;omega
  clear y z
  have gl:=pkG_len b (rs.zip ll) i
  rw [show ((i:Int)).toNat=i from rfl,wrap_id (x:=(i:Int)+1) (by omega) (by omega),wrap_u64 (x:=(i:Int)) (by omega) (by omega),show ((i:Int)).toNat=i from rfl]
  refine brS_of (fun t=>?_) fun t=>?_
  ·have bt:bitB b i=true:=t
   have e1:(pkG b (rs.zip ll) i).map Prod.fst ++ [getB rs i]=(pkG b (rs.zip ll) (i+1)).map Prod.fst:=by
    show _=(if bitB b i then pkG b (rs.zip ll) i ++ [(rs.zip ll).getD i (0,[])] else pkG b (rs.zip ll) i).map Prod.fst
    rw [bt,if_pos rfl,zip_getD e yi,List.map_append];rfl
   have e2:(pkG b (rs.zip ll) i).map Prod.snd ++ [rowG ll i]=(pkG b (rs.zip ll) (i+1)).map Prod.snd:=by
    show _=(if bitB b i then pkG b (rs.zip ll) i ++ [(rs.zip ll).getD i (0,[])] else pkG b (rs.zip ll) i).map Prod.snd
    rw [bt,if_pos rfl,zip_getD e yi,List.map_append];rfl
   have b1:(((pkG b (rs.zip ll) i).map Prod.fst).length+[getB rs i].length) * bytesOf C0 EC.u32<=140737488355328:=by rw [bytes_u32,List.length_map,List.length_singleton];omega
   have b2:(((pkG b (rs.zip ll) i).map Prod.snd).length+[rowG ll i].length) * bytesOf C0 EC.hent<=140737488355328:=by rw [bytes_hent,List.length_map,List.length_singleton];omega
   refine ⟨by omega,by omega,by omega,by omega,?_⟩
   repeat' (first | with_reducible exact b1 | with_reducible exact b2 | with_reducible apply And.intro)
   all_goals refine ⟨⟨_,_,i+1,yi,zi,e1,e2⟩,trivial,?_,Nat.sub_lt_sub_left yi (Nat.lt_succ_self i)⟩
   all_goals (repeat' first | exact trivial | exact rfl | refine And.intro ?_ ?_)
  ·have bt:bitB b i=false:=t
   have e1:pkG b (rs.zip ll) (i+1)=pkG b (rs.zip ll) i:=by
    show (if bitB b i then _ else _)=_
    rw [bt];rfl
   refine ⟨⟨(pkG b (rs.zip ll) i).map Prod.fst,(pkG b (rs.zip ll) i).map Prod.snd,i+1,yi,zi,by rw [e1],by rw [e1]⟩,trivial,?_,Nat.sub_lt_sub_left yi (Nat.lt_succ_self i)⟩
   (repeat' first | exact trivial | exact rfl | refine And.intro ?_ ?_)
 ·obtain ⟨r,L,i,h1,h2,rfl,rfl⟩:=x
  dsimp only at z ⊢
  have zi:¬ i < 7:=by have:=of_decide_eq_false z;omega
  exact fin i h1 h2 (by omega)
 ·obtain ⟨r,L,i,h1,h2,rfl,rfl⟩:=x
  dsimp only at y ⊢
  have yi:¬ i < rs.length:=by have:=of_decide_eq_false y;omega
  exact fin i h1 h2 (by omega)
theorem s_pi2:SoundT C0 20 tPi2:=by
 refine .of Tryz.func20 (by decide) rfl fun args H K h hB=>?_
 unfold tPi2 pfM2 at h
 split at h <;> try exact h.elim
 split at h <;> try exact h.elim
 refine ⟨_,?_,vc_pi2 _ _ ⟨_,_,_,_,_,_,_⟩ _ _ _ _ _ K h.1 h.2.1 h.2.2⟩
 exact trivial
def tPiU:Tfm C0:=fun args H K=>match H with
 | [_,_,_,_,_,_,_,_,_,_,_]=>tPi args H K
 | [_,_,_,_,_,_,_,_,_,_,_,_,_]=>tPi2 args H K
 | _=>False
theorem s_piU:SoundT C0 20 tPiU:=⟨s_pi.enter,fun args H K h=>by
 unfold tPiU at h
 split at h
 ·exact s_pi.call _ _ _ h
 ·exact s_pi2.call _ _ _ h
 ·exact h.elim⟩
theorem vc_smB (l:List Int) (K:KT) (h1:l.length<=100000000) (h:K (.one (.at (vB true))) [.row false EC.u8 l,.row false EC.u8 l] []) :
  vc C0 (aSmB l l) Tryz.f24 [.at (.slc 0),.at (.slc 1)] [.row false EC.u8 l,.row false EC.u8 l] (normK 2 K):=by
 have hm:∀ m:List Int,m=l->vc C0 (aSmB l m) Tryz.f24 [.at (.slc 0),.at (.slc 1)] [.row false EC.u8 l,.row false EC.u8 m] (normK 2 K):=fun m em=>by
  refine Eq.mp (show (brS ((l.length:Int) != (m.length:Int)) ((K (.one (.at (.val (Value.bool false)))) [(.row false EC.u8 (l)),(.row false EC.u8 (m))] [])) (((∃ x:XI8 l.length,(True/\(True/\True/\((Value.int .i64 0)=(Value.int .i64 ((x.i:Int))))/\True)/\((l)=(l))/\((m)=(m))/\True))/\(∀ x:XI8 l.length,(True->(brS (decide ((x.i:Int) < (l.length:Int))) (((0<=(x.i:Int))/\((x.i:Int) < (l.length:Int))/\(0<=(x.i:Int))/\((x.i:Int) < (m.length:Int))/\(brS (l.getD (x.i:Int).toNat 0 != m.getD (x.i:Int).toNat 0) ((K (.one (.at (.val (Value.bool false)))) [(.row false EC.u8 (l)),(.row false EC.u8 (m))] [])) ((∃ x':XI8 l.length,(True/\((True/\True/\((Value.int .i64 (IntKind.i64.wrap ((x.i:Int)+1)))=(Value.int .i64 ((x'.i:Int))))/\True)/\((l)=(l))/\((m)=(m))/\True)/\(l.length - x'.i < l.length - x.i))))))) ((K (.one (.at (.val (Value.bool true)))) [(.row false EC.u8 (l)),(.row false EC.u8 (m))] []))))))))=_ by kernel_rfl) ?_
  subst em
  refine brS_of (fun c=>by simp at c) fun _=>⟨⟨⟨0,Nat.zero_le _⟩,?_⟩,fun x _=>brS_of (fun c=>?_) fun c=>h⟩
  ·(repeat' first | exact trivial | exact rfl | refine And.intro ?_ ?_)
  have c:x.i < m.length:=by have:=of_decide_eq_true c;omega
  refine ⟨by omega,by omega,by omega,by omega,brS_of (fun e=>by simp at e) fun _=>⟨⟨x.i+1,c⟩,?_⟩⟩
  (repeat' first | exact trivial | exact rfl | refine And.intro ?_ ?_)
  ·rw [wrap_id (by omega) (by omega)];congr 1
  ·show m.length - (x.i+1) < _;omega
 exact hm l rfl
theorem s_smB:SoundT C0 24 tSmB:=by
 refine .of Tryz.func24 (by decide) rfl fun args H K h hB=>?_
 unfold tSmB at h
 split at h <;> try exact h.elim
 rename_i l m
 obtain ⟨rfl,h1,h⟩:=h
 exact ⟨aSmB l l,trivial,vc_smB l K h1 h⟩
theorem vc_dgp (S:Arn) (rs:List Int) (K:KT) (hb:DgB S rs) (h:∀ S' D,DgS 200000 S rs S' D->K (.one (.at (vU D))) (chS S' ++ [.row false EC.u32 rs]) [0]) :
  vc C0 aDgp Tryz.f36 [.at (.ptr 0 0),.at (.slc 7)] (chS S ++ [.row false EC.u32 rs]) (normK 8 (wideK [0] K)):=by
 refine Eq.mp (show ((DgB S rs)/\(∀ S':Arn,(∀ D:Int,((DgS 200000 S rs S' D)->(K (.one (.at (.val (Value.int .u32 (D))))) [(.box [(.ptr 1 0),(.slc 2),(.slc 3),(.val (Value.int .u64 (S'.reads)))]),(.box [(.slc 4),(.slc 5),(.slc 6),(.val (Value.int .u32 (S'.fresh)))]),(.row true EC.node (S'.nodes)),(.row true EC.int (S'.counts)),(.row true EC.bool (S'.used)),(.row true EC.u32 (S'.gen)),(.row true EC.u32 (S'.rel)),(.row false EC.u32 (rs))] [0])))))=_ by kernel_rfl) ?_
 exact ⟨hb,fun S' D e=>h S' D e⟩
theorem s_dgp:SoundT C0 36 tDg:=by
 refine .ofW [0] Tryz.func36 (by decide) rfl fun args H K h hB=>?_
 unfold tDg tDgq at h
 split at h <;> try exact h.elim
 unfold nbM arMr at h
 split at h <;> try exact h.elim
 split at h <;> try exact h.elim
 rename_i _ rd fr nd ct us gn rl _ rs
 refine ⟨_,?_,vc_dgp ⟨us,gn,rl,fr,nd,ct,rd⟩ rs K h.1 h.2⟩
 exact ⟨frame C0.ok s_dg _,trivial⟩
end Go.Proofs.YtedfbafngmicpaaGreat.Sx
end
section
/- Equal dumps, and the count of a slot of a dump. -/
namespace Go.Proofs.YtedfbafngmicpaaGreat.Sx
open Go

/-KEEP Wf exW inU alcD slotsOf orderOf-/
noncomputable def aSameS (l m:List SlotT):Ann C0:={ Γ:=[],inv:=fun n=>match n with
 | 4=>some { X:=XIx l.length,sl:=[5],tf:=fun x=>[vi .i64 x.i],hf:=fun _=>[.row false EC.slot l,.row false EC.slot m],μ:=fun x=>l.length - x.i }
 | _=>none }
def tSameS:Tfm C0:=fun args H K=>match args,H with
 | [.at (.slc 0),.at (.slc 1)],[.row false .slot l,.row false .slot m]=>l=m/\l.length<=1000000/\K (.one (.at (vB true))) [.row false EC.slot l,.row false EC.slot m] []
 | _,_=>False
noncomputable def aSameU (l m:List Int):Ann C0:={ Γ:=[],inv:=fun n=>match n with
 | 4=>some { X:=XIx l.length,sl:=[5],tf:=fun x=>[vi .i64 x.i],hf:=fun _=>[.row false EC.u32 l,.row false EC.u32 m],μ:=fun x=>l.length - x.i }
 | _=>none }
def tSameU:Tfm C0:=fun args H K=>match args,H with
 | [.at (.slc 0),.at (.slc 1)],[.row false .u32 l,.row false .u32 m]=>l=m/\l.length<=1000000/\K (.one (.at (vB true))) [.row false EC.u32 l,.row false EC.u32 m] []
 | _,_=>False
noncomputable def aSameD:Ann C0:={ Γ:=[(81,frameT [] tSameS),(38,frameT [] tSameU)] }
def tSameD:Tfm C0:=fun args H K=>match args,H with
 | [.agg [.slc 0,.slc 1],.agg [.slc 2,.slc 3]],[.row false .slot d,.row false .u32 f,.row false .slot e,.row false .u32 g]=>d=e/\f=g/\d.length<=1000000/\f.length<=1000000/\K (.one (.at (vB true))) [.row false EC.slot d,.row false EC.u32 f,.row false EC.slot e,.row false EC.u32 g] []
 | _,_=>False
theorem vc_sameS (l:List SlotT) (K:KT) (h1:l.length<=1000000) (h:K (.one (.at (vB true))) [.row false EC.slot l,.row false EC.slot l] []) :
  vc C0 (aSameS l l) Tryz.f81 [.at (.slc 0),.at (.slc 1)] [.row false EC.slot l,.row false EC.slot l] (normK 2 K):=by
 have hm:∀ m:List SlotT,m=l->vc C0 (aSameS l m) Tryz.f81 [.at (.slc 0),.at (.slc 1)] [.row false EC.slot l,.row false EC.slot m] (normK 2 K):=fun m em=>by
  refine Eq.mp (show (brS ((l.length:Int) != (m.length:Int)) ((K (.one (.at (.val (Value.bool false)))) [(.row false EC.slot (l)),(.row false EC.slot (m))] [])) (((∃ x:XIx l.length,(True/\(True/\True/\((Value.int .i64 0)=(Value.int .i64 ((x.i:Int))))/\True)/\((l)=(l))/\((m)=(m))/\True))/\(∀ x:XIx l.length,(True->(brS (decide ((x.i:Int) < (l.length:Int))) (((0<=(x.i:Int))/\((x.i:Int) < (l.length:Int))/\(0<=(x.i:Int))/\((x.i:Int) < (m.length:Int))/\(brS (!((eS l (x.i:Int).toNat).alloc == (eS m (x.i:Int).toNat).alloc && ((eS l (x.i:Int).toNat).count == (eS m (x.i:Int).toNat).count && ((eS l (x.i:Int).toNat).gen == (eS m (x.i:Int).toNat).gen && ((eS l (x.i:Int).toNat).node.key == (eS m (x.i:Int).toNat).node.key && ((eS l (x.i:Int).toNat).node.value == (eS m (x.i:Int).toNat).node.value && ((eS l (x.i:Int).toNat).node.left == (eS m (x.i:Int).toNat).node.left && ((eS l (x.i:Int).toNat).node.right == (eS m (x.i:Int).toNat).node.right && ((eS l (x.i:Int).toNat).node.size == (eS m (x.i:Int).toNat).node.size && ((eS l (x.i:Int).toNat).node.sum == (eS m (x.i:Int).toNat).node.sum && ((eS l (x.i:Int).toNat).node.min == (eS m (x.i:Int).toNat).node.min && ((eS l (x.i:Int).toNat).node.max == (eS m (x.i:Int).toNat).node.max && true))))))) && true))))) ((K (.one (.at (.val (Value.bool false)))) [(.row false EC.slot (l)),(.row false EC.slot (m))] [])) ((∃ x':XIx l.length,(True/\((True/\True/\((Value.int .i64 (IntKind.i64.wrap ((x.i:Int)+1)))=(Value.int .i64 ((x'.i:Int))))/\True)/\((l)=(l))/\((m)=(m))/\True)/\(l.length - x'.i < l.length - x.i))))))) ((K (.one (.at (.val (Value.bool true)))) [(.row false EC.slot (l)),(.row false EC.slot (m))] []))))))))=_ by kernel_rfl) ?_
  subst em
  refine brS_of (fun c=>by simp at c) fun _=>⟨⟨⟨0,Nat.zero_le _⟩,?_⟩,fun x _=>brS_of (fun c=>?_) fun c=>h⟩
  ·(repeat' first | exact trivial | exact rfl | refine And.intro ?_ ?_)
  have c:x.i < m.length:=by have:=of_decide_eq_true c;omega
  refine ⟨by omega,by omega,by omega,by omega,brS_of (fun e=>by simp at e) fun _=>⟨⟨x.i+1,c⟩,?_⟩⟩
  (repeat' first | exact trivial | exact rfl | refine And.intro ?_ ?_)
  ·rw [wrap_id (by omega) (by omega)];congr 1
  ·show m.length - (x.i+1) < _;omega
 exact hm l rfl
theorem s_sameS:SoundT C0 81 tSameS:=by
 refine .of Tryz.func81 (by decide) rfl fun args H K h hB=>?_
 unfold tSameS at h
 split at h <;> try exact h.elim
 rename_i l m
 obtain ⟨rfl,h1,h⟩:=h
 exact ⟨aSameS l l,trivial,vc_sameS l K h1 h⟩
theorem vc_sameU (l:List Int) (K:KT) (h1:l.length<=1000000) (h:K (.one (.at (vB true))) [.row false EC.u32 l,.row false EC.u32 l] []) :
  vc C0 (aSameU l l) Tryz.f38 [.at (.slc 0),.at (.slc 1)] [.row false EC.u32 l,.row false EC.u32 l] (normK 2 K):=by
 have hm:∀ m:List Int,m=l->vc C0 (aSameU l m) Tryz.f38 [.at (.slc 0),.at (.slc 1)] [.row false EC.u32 l,.row false EC.u32 m] (normK 2 K):=fun m em=>by
  refine Eq.mp (show (brS ((l.length:Int) != (m.length:Int)) ((K (.one (.at (.val (Value.bool false)))) [(.row false EC.u32 (l)),(.row false EC.u32 (m))] [])) (((∃ x:XIx l.length,(True/\(True/\True/\((Value.int .i64 0)=(Value.int .i64 ((x.i:Int))))/\True)/\((l)=(l))/\((m)=(m))/\True))/\(∀ x:XIx l.length,(True->(brS (decide ((x.i:Int) < (l.length:Int))) (((0<=(x.i:Int))/\((x.i:Int) < (l.length:Int))/\(0<=(x.i:Int))/\((x.i:Int) < (m.length:Int))/\(brS (l.getD (x.i:Int).toNat 0 != m.getD (x.i:Int).toNat 0) ((K (.one (.at (.val (Value.bool false)))) [(.row false EC.u32 (l)),(.row false EC.u32 (m))] [])) ((∃ x':XIx l.length,(True/\((True/\True/\((Value.int .i64 (IntKind.i64.wrap ((x.i:Int)+1)))=(Value.int .i64 ((x'.i:Int))))/\True)/\((l)=(l))/\((m)=(m))/\True)/\(l.length - x'.i < l.length - x.i))))))) ((K (.one (.at (.val (Value.bool true)))) [(.row false EC.u32 (l)),(.row false EC.u32 (m))] []))))))))=_ by kernel_rfl) ?_
  subst em
  refine brS_of (fun c=>by simp at c) fun _=>⟨⟨⟨0,Nat.zero_le _⟩,?_⟩,fun x _=>brS_of (fun c=>?_) fun c=>h⟩
  ·(repeat' first | exact trivial | exact rfl | refine And.intro ?_ ?_)
  have c:x.i < m.length:=by have:=of_decide_eq_true c;omega
  refine ⟨by omega,by omega,by omega,by omega,brS_of (fun e=>by simp at e) fun _=>⟨⟨x.i+1,c⟩,?_⟩⟩
  (repeat' first | exact trivial | exact rfl | refine And.intro ?_ ?_)
  ·rw [wrap_id (by omega) (by omega)];congr 1
  ·show m.length - (x.i+1) < _;omega
 exact hm l rfl
theorem s_sameU:SoundT C0 38 tSameU:=by
 refine .of Tryz.func38 (by decide) rfl fun args H K h hB=>?_
 unfold tSameU at h
 split at h <;> try exact h.elim
 rename_i l m
 obtain ⟨rfl,h1,h⟩:=h
 exact ⟨aSameU l l,trivial,vc_sameU l K h1 h⟩
theorem s_sameD:SoundT C0 34 tSameD:=by
 refine .of Tryz.func34 (by decide) rfl fun args H K h hB=>?_
 unfold tSameD at h
 split at h <;> try exact h.elim
 rename_i d f e g
 refine ⟨aSameD,⟨frame C0.ok s_sameS _,frame C0.ok s_sameU _,trivial⟩,Eq.mp (show (((d)=(e))/\(d.length<=1000000)/\((f)=(g))/\(f.length<=1000000)/\(K (.one (.at (.val (Value.bool true)))) [(.row false EC.slot (d)),(.row false EC.u32 (f)),(.row false EC.slot (e)),(.row false EC.u32 (g))] []))=_ by kernel_rfl) ?_⟩
 exact ⟨h.1,h.2.2.1,h.2.1,h.2.2.2.1,h.2.2.2.2⟩
end Go.Proofs.YtedfbafngmicpaaGreat.Sx
end
