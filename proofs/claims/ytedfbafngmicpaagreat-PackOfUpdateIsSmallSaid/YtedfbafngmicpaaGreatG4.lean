/- A part of the proof. -/
import Derived.Test.YtedfbafngmicpaaGreatG3
import Derived.Test.YtedfbafngmicpaaGreatProg
import Derived.Test.YtedfbafngmicpaaGreatChecked
import Derived.Conc.MuLone
import Derived.Test.YtedfbafngmicpaaGreatG1
section
/- What stays of an arena, trees in it, a new arena. No program in sight. -/
namespace Go.Proofs.YtedfbafngmicpaaGreat
open Go

variable {S S' S'':Arn} {hs:List Int}

structure Kept (S S':Arn):Prop where
 len:S'.used.length=S.used.length
 gen:S'.gen=S.gen
 rds:S'.reads=S.reads
 kp:∀ i,S'.us i=true->S.us i=true/\S'.nd i=S.nd i
theorem Kept.refl (S:Arn):Kept S S:=⟨rfl,rfl,rfl,fun _ h=>⟨h,rfl⟩⟩
theorem Kept.trans (h:Kept S S')(h':Kept S' S''):Kept S S'' :=
 ⟨h'.len.trans h.len,h'.gen.trans h.gen,h'.rds.trans h.rds,fun i hi=>by
  obtain⟨a,b⟩:=h'.kp i hi
  obtain⟨c,d⟩:=h.kp i a
  exact⟨c,b.trans d⟩⟩
theorem kept_dec (S:Arn)(i:Int):Kept S (decS S i):=⟨rfl,rfl,rfl,fun _ h=>⟨h,rfl⟩⟩
theorem kept_free {k:Int}(h:Wf S (k::hs))(hk:S.us k=true)(hc:S.ct k=1):Kept S (freeS S k):=by
 obtain⟨_,_,hus,hnd⟩:=h.freed hk hc
 refine⟨by simp[freeS],rfl,rfl,fun i hi=>?_⟩
 obtain⟨e,hu⟩:=(hus i).1 hi
 exact⟨hu,by rw[hnd,if_neg e]⟩

/-! ### What can be reached -/
inductive Rch (S:Arn) (hs:List Int):Int->Prop where
 | root {i:Int}:i∈hs->S.us i=true->Rch S hs i
 | left {i:Int}:Rch S hs i->S.us (S.nd i).left=true->Rch S hs (S.nd i).left
 | right {i:Int}:Rch S hs i->S.us (S.nd i).right=true->Rch S hs (S.nd i).right
theorem Rch.us {i:Int}(h:Rch S hs i):S.us i=true:=by cases h<;>assumption
theorem Rch.mono {hs':List Int}(hh:∀ i∈hs,i∈hs'){i:Int}(h:Rch S hs i):Rch S hs' i:=by
 induction h with
 | root h1 h2=>exact .root (hh _ h1) h2
 | left _ h2 ih=>exact .left ih h2
 | right _ h2 ih=>exact .right ih h2
theorem indeg_parent {i:Int}(h:Wf S hs)(hi:1<=i)(hd:1<=S.indeg i):∃ j,S.us j=true/\((S.nd j).left=i∨(S.nd j).right=i):=by
 have:∃ n∈S.nodes,n.left=i∨n.right=i:=by
  unfold Arn.indeg at hd
  by_cases e:S.nodes.countP (fun x=>x.left==i)=0
  ·have:0<S.nodes.countP (fun x=>x.right==i):=by omega
   obtain⟨n,hn,hp⟩:=List.countP_pos_iff.1 this
   exact⟨n,hn,.inr (by simpa using hp)⟩
  ·obtain⟨n,hn,hp⟩:=List.countP_pos_iff.1 (Nat.pos_of_ne_zero e)
   exact⟨n,hn,.inl (by simpa using hp)⟩
 obtain⟨n,hn,hp⟩:=this
 obtain⟨j,hj⟩:=List.mem_iff_getElem?.1 hn
 have e:S.nd (j:Int)=n:=by unfold Arn.nd;simp[List.getD_eq_getElem?_getD,hj]
 refine⟨j,?_,by rw[e];exact hp⟩
 cases hb:S.us (j:Int) with
 | true=>rfl
 | false =>
  have:=h.zero _ hb
  rw[e] at this
  rw[this] at hp
  simp[NodeT.zero] at hp
  omega
theorem Wf.reach (h:Wf S hs):∀ (n:Nat) (i:Int),S.us i=true->(maxSize-(S.nd i).size).toNat<=n->Rch S hs i:=by
 intro n
 induction n with
 | zero =>
  intro i hi hn
  have hsz:=h.siz i hi
  obtain⟨c1,c2⟩:=h.cnt i hi
  have hp:=h.pos hi
  by_cases hm:0<hs.count i
  ·exact .root (List.count_pos_iff.1 hm) hi
  ·obtain⟨j,hj,hor⟩:=indeg_parent h hp.1 (by omega)
   have hz:=h.siz j hj
   have:=h.size_nonneg (S.nd j).left
   have:=h.size_nonneg (S.nd j).right
   rcases hor with e|e<;>rw[e] at hz<;>omega
 | succ n ih =>
  intro i hi hn
  have hsz:=h.siz i hi
  obtain⟨c1,c2⟩:=h.cnt i hi
  have hp:=h.pos hi
  by_cases hm:0<hs.count i
  ·exact .root (List.count_pos_iff.1 hm) hi
  ·obtain⟨j,hj,hor⟩:=indeg_parent h hp.1 (by omega)
   have hz:=h.siz j hj
   have:=h.size_nonneg (S.nd j).left
   have:=h.size_nonneg (S.nd j).right
   have hr:Rch S hs j:=ih j hj (by rcases hor with e|e<;>rw[e] at hz<;>omega)
   rcases hor with e|e
   ·rw[← e];exact .left hr (by rw[e];exact hi)
   ·rw[← e];exact .right hr (by rw[e];exact hi)
theorem Wf.reached (h:Wf S hs){i:Int}(hi:S.us i=true):Rch S hs i:=h.reach _ i hi (Nat.le_refl _)
def Stay (S S':Arn)(hs:List Int):Prop:=∀ i,Rch S hs i->S'.us i=true/\S'.nd i=S.nd i/\S'.gn i=S.gn i
theorem Stay.refl (S:Arn)(hs:List Int):Stay S S hs:=fun _ h=>⟨h.us,rfl,rfl⟩
theorem Stay.reach (h:Stay S S' hs){i:Int}(hr:Rch S hs i):Rch S' hs i:=by
 induction hr with
 | root h1 h2=>exact .root h1 (h _ (.root h1 h2)).1
 | left h1 h2 ih =>
  have e:=(h _ h1).2.1
  rw[← e]
  exact .left ih (by rw[e];exact (h _ (.left h1 h2)).1)
 | right h1 h2 ih =>
  have e:=(h _ h1).2.1
  rw[← e]
  exact .right ih (by rw[e];exact (h _ (.right h1 h2)).1)
theorem Stay.trans (h:Stay S S' hs)(h':Stay S' S'' hs):Stay S S'' hs:=fun i hi=>by
 obtain⟨a,b,c⟩:=h i hi
 obtain⟨a',b',c'⟩:=h' i (h.reach hi)
 exact⟨a',b'.trans b,c'.trans c⟩
theorem Stay.mono {hs':List Int}(h:Stay S S' hs)(hh:∀ i∈hs',i∈hs):Stay S S' hs':=fun i hi=>h i (hi.mono hh)
theorem Kept.stay {hs':List Int}(k:Kept S S')(h0:Wf S hs')(h:Wf S' hs):Stay S S' hs:=fun i hi=>by
 have key:S'.us i=true:=by
  induction hi with
  | root h1 h2 =>
   have:=(h0.pos h2).1
   exact (h.held _ h1).resolve_left (by omega)
  | left h1 h2 ih =>
   have e:=(k.kp _ ih).2
   have:=(h0.pos h2).1
   have hk:=(h.kid _ ih).1
   rw[e] at hk
   exact hk.resolve_left (by omega)
  | right h1 h2 ih =>
   have e:=(k.kp _ ih).2
   have:=(h0.pos h2).1
   have hk:=(h.kid _ ih).2
   rw[e] at hk
   exact hk.resolve_left (by omega)
 exact⟨key,(k.kp i key).2,by unfold Arn.gn;rw[k.gen]⟩
theorem stay_rd (S:Arn)(n:Nat)(hs:List Int):Stay S (rdS S n) hs:=fun _ h=>⟨h.us,rfl,rfl⟩
theorem stay_make {hs':List Int}(h:Wf S hs')(hf:0<S.free){k v l r:Int}(hs:List Int):Stay S (makeS S k v l r) hs:=fun i hi=>by
 have hu:=hi.us
 have h3:=(h.nxt_spec hf).2.2.1
 have e:i≠nxt S:=fun e=>by rw[e,h3] at hu;cases hu
 have hp:=h.pos hu
 have h1:=(h.nxt_spec hf).1
 refine⟨(make_us h hf i).2 (.inr hu),by rw[make_nd h hf,if_neg e],?_⟩
 unfold Arn.gn makeS
 simp only[]
 rw[getD_set,if_neg (by omega)]

/-! ### Trees -/
inductive Tr where
 | nil
 | node (l:Tr) (k v:Int) (r:Tr)
def Tr.size:Tr->Nat
 | .nil=>0
 | .node l _ _ r=>1+l.size+r.size
def Tr.list:Tr->List Ent
 | .nil=>[]
 | .node l k v r=>l.list++(k,v)::r.list
theorem Tr.list_len:∀ t:Tr,t.list.length=t.size
 | .nil=>rfl
 | .node l k v r=>by simp[Tr.list,Tr.size,l.list_len,r.list_len];omega
def Rep (S:Arn):Tr->Int->Prop
 | .nil,i=>i=0
 | .node l k v r,i=>S.us i=true/\(S.nd i).key=k/\(S.nd i).value=v/\Rep S l (S.nd i).left/\Rep S r (S.nd i).right
theorem Rep.size (h:Wf S hs):∀ {t:Tr} {i:Int},Rep S t i->(S.nd i).size=t.size
 | .nil,i,hr=>by have:i=0:=hr;rw[this,h.nd0];rfl
 | .node l k v r,i,hr=>by
  obtain⟨h1,_,_,h4,h5⟩:=hr
  rw[(h.siz i h1).2.2,Rep.size h h4,Rep.size h h5]
  simp[Tr.size]
theorem Rep.us {t:Tr}{i:Int}(hr:Rep S t i):i=0∨S.us i=true:=by
 cases t with
 | nil=>exact .inl hr
 | node l k v r=>exact .inr hr.1
theorem Rep.zero (h:Wf S hs){t:Tr}(hr:Rep S t 0):t = .nil:=by
 cases t with
 | nil=>rfl
 | node l k v r=>have:=hr.1;rw[h.us0 (Int.le_refl 0)] at this;cases this
theorem Rep.stay (h0:S.us 0=false)(st:Stay S S' hs):∀ {t:Tr} {i:Int},Rep S t i->(i=0∨Rch S hs i)->Rep S' t i
 | .nil,i,hr,_=>hr
 | .node l k v r,i,hr,hi=>by
  obtain⟨h1,h2,h3,h4,h5⟩:=hr
  have e0:Rch S hs i:=hi.resolve_left fun e=>by rw[e,h0] at h1;cases h1
  obtain⟨a,b,_⟩:=st i e0
  refine⟨a,by rw[b];exact h2,by rw[b];exact h3,?_,?_⟩
  ·rw[b];exact Rep.stay h0 st h4 (h4.us.imp id fun z=>.left e0 z)
  ·rw[b];exact Rep.stay h0 st h5 (h5.us.imp id fun z=>.right e0 z)
theorem Rep.held {hs':List Int}(h:Wf S hs')(st:Stay S S' hs){t:Tr}{i:Int}(hr:Rep S t i)(hm:i=0∨i∈hs):Rep S' t i:=by
 cases t with
 | nil=>exact hr
 | node l k v r =>
  have h1:=hr.1
  have hp:=(h.pos h1).1
  exact hr.stay (h.us0 (Int.le_refl 0)) st (.inr (.root (hm.resolve_left (by omega)) h1))
theorem Wf.tree (h:Wf S hs):∀ (n:Nat) (i:Int),(i=0∨S.us i=true)->(S.nd i).size.toNat<=n->∃ t,Rep S t i:=by
 intro n
 induction n with
 | zero =>
  intro i hi hn
  rcases hi with rfl|hi
  ·exact⟨.nil,rfl⟩
  ·have:=h.siz i hi;omega
 | succ n ih =>
  intro i hi hn
  rcases hi with rfl|hi
  ·exact⟨.nil,rfl⟩
  ·have hz:=h.siz i hi
   have hk:=h.kid i hi
   have h1:=h.size_nonneg (S.nd i).left
   have h2:=h.size_nonneg (S.nd i).right
   obtain⟨l,hl⟩:=ih _ hk.1 (by omega)
   obtain⟨r,hr⟩:=ih _ hk.2 (by omega)
   exact⟨.node l _ _ r,hi,rfl,rfl,hl,hr⟩
theorem Rep.inj:∀ {t u:Tr} {i:Int},S.us 0=false->Rep S t i->Rep S u i->t=u
 | .nil,.nil,_,_,_,_=>rfl
 | .nil,.node _ _ _ _,i,h0,h1,h2=>by have e:i=0:=h1;have:=h2.1;rw[e,h0] at this;cases this
 | .node _ _ _ _,.nil,i,h0,h1,h2=>by have e:i=0:=h2;have:=h1.1;rw[e,h0] at this;cases this
 | .node l k v r,.node l' k' v' r',i,h0,h1,h2=>by
  obtain⟨_,a2,a3,a4,a5⟩:=h1
  obtain⟨_,b2,b3,b4,b5⟩:=h2
  rw[← a2,← a3,← b2,← b3,Rep.inj h0 a4 b4,Rep.inj h0 a5 b5]

/-! ### A new arena -/
def newS (c:Nat):Arn:={ used:=List.replicate (c+1) false,gen:=List.replicate (c+1) 0,rel:=[],fresh:=0,nodes:=List.replicate (c+1) NodeT.zero,counts:=List.replicate (c+1) 0,reads:=0 }
theorem getD_replicate {α:Type}(n i:Nat)(x:α):(List.replicate n x).getD i x=x:=by
 simp only[List.getD_eq_getElem?_getD,List.getElem?_replicate]
 split<;>rfl
theorem new_us (c:Nat)(i:Int):(newS c).us i=false:=getD_replicate _ _ _
theorem new_nd (c:Nat)(i:Int):(newS c).nd i=NodeT.zero:=getD_replicate _ _ _
theorem Wf.new {c:Nat}(h1:1<=c)(h2:c<=65536):Wf (newS c) [] where
 n1:=by simp[newS];omega
 n2:=by simp[newS];omega
 ngen:=by simp[newS]
 nnod:=by simp[newS]
 ncnt:=by simp[newS]
 fr:=by simp[newS]
 rel i hi:=by simp[newS] at hi
 dup:=by simp[newS]
 use i:=by rw[new_us];simp[newS];omega
 zero i _:=new_nd c i
 kid i hi:=by rw[new_us] at hi;cases hi
 agg i hi:=by rw[new_us] at hi;cases hi
 siz i hi:=by rw[new_us] at hi;cases hi
 cnt i hi:=by rw[new_us] at hi;cases hi
 held i hi:=by simp at hi
 few:=by simp[Arn.nu,newS,List.countP_replicate]
 nus:=by simp[Arn.nu,newS,List.countP_replicate]
 rds:=by simp[newS]
end Go.Proofs.YtedfbafngmicpaaGreat
end
section
/- The kinds of elements of the arena's programs, and the logic over them. -/
namespace Go.Proofs.YtedfbafngmicpaaGreat.Sx
open Go

structure SlotT where
 alloc:Bool
 count:Int
 gen:Int
 node:NodeT
 deriving DecidableEq
structure FindT where
 kind:Int
 slot:Int
 want:Int
 have_:Int
 deriving DecidableEq
structure PStepT where
 index:Int
 open_:Bool
 deriving DecidableEq
structure PNT where
 key:Int
 value:Int
 left:Int
 right:Int
 deriving DecidableEq
structure ExtT where
 tree:Bool
 size:Int
 first:Int
 last:Int
 deriving DecidableEq
structure StpT where
 at_:Int
 ent:Ent
 del:Bool
 fresh:Bool
 deriving DecidableEq
inductive EC where
 | ent
 | i64
 | int
 | u32
 | bool
 | u8
 | u64
 | node
 | slot
 | find
 | pstep
 | pn
 | ext
 | stp
 | hent
 | hu8
 deriving DecidableEq

def EC.α:EC->Type
 | .ent=>Ent
 | .i64=>Int
 | .int=>Int
 | .u32=>Int
 | .bool=>Bool
 | .u8=>Int
 | .u64=>Int
 | .node=>NodeT
 | .slot=>SlotT
 | .find=>FindT
 | .pstep=>PStepT
 | .pn=>PNT
 | .ext=>ExtT
 | .stp=>StpT
 | .hent=>Unit
 | .hu8=>Unit

def EC.enc:(e:EC)->e.α->List Value
 | .ent,x=>[.int .i64 x.1,.int .i64 x.2]
 | .i64,x=>[.int .i64 x]
 | .int,x=>[.int .i64 x]
 | .u32,x=>[.int .u32 x]
 | .bool,x=>[.bool x]
 | .u8,x=>[.int .u8 x]
 | .u64,x=>[.int .u64 x]
 | .node,x=>[.int .i64 x.key,.int .i64 x.value,.int .u32 x.left,.int .u32 x.right,.int .i64 x.size,.int .i64 x.sum,.int .i64 x.min,.int .i64 x.max]
 | .slot,x=>[.bool x.alloc,.int .i64 x.count,.int .u32 x.gen,.int .i64 x.node.key,.int .i64 x.node.value,.int .u32 x.node.left,.int .u32 x.node.right,.int .i64 x.node.size,.int .i64 x.node.sum,.int .i64 x.node.min,.int .i64 x.node.max]
 | .find,x=>[.int .i64 x.kind,.int .u32 x.slot,.int .i64 x.want,.int .i64 x.have_]
 | .pstep,x=>[.int .u32 x.index,.bool x.open_]
 | .pn,x=>[.int .i64 x.key,.int .i64 x.value,.int .u64 x.left,.int .u64 x.right]
 | .ext,x=>[.bool x.tree,.int .i64 x.size,.int .i64 x.first,.int .i64 x.last]
 | .stp,x=>[.int .i64 x.at_,.int .i64 x.ent.1,.int .i64 x.ent.2,.bool x.del,.bool x.fresh]
 | .hent,_=>[.slice none 0 0]
 | .hu8,_=>[.slice none 0 0]

def dcd_ent:List Value->Option Ent:=fun l=>match l with|[.int .i64 x0,.int .i64 x1]=>some (x0,x1)|_=>none
def dcd_i64:List Value->Option Int:=fun l=>match l with|[.int .i64 x0]=>some x0|_=>none
def dcd_int:List Value->Option Int:=fun l=>match l with|[.int .i64 x0]=>some x0|_=>none
def dcd_u32:List Value->Option Int:=fun l=>match l with|[.int .u32 x0]=>some x0|_=>none
def dcd_bool:List Value->Option Bool:=fun l=>match l with|[.bool x0]=>some x0|_=>none
def dcd_u8:List Value->Option Int:=fun l=>match l with|[.int .u8 x0]=>some x0|_=>none
def dcd_u64:List Value->Option Int:=fun l=>match l with|[.int .u64 x0]=>some x0|_=>none
def dcd_node:List Value->Option NodeT:=fun l=>match l with|[.int .i64 x0,.int .i64 x1,.int .u32 x2,.int .u32 x3,.int .i64 x4,.int .i64 x5,.int .i64 x6,.int .i64 x7]=>some ⟨x0,x1,x2,x3,x4,x5,x6,x7⟩|_=>none
def dcd_slot:List Value->Option SlotT:=fun l=>match l with|[.bool x0,.int .i64 x1,.int .u32 x2,.int .i64 x3,.int .i64 x4,.int .u32 x5,.int .u32 x6,.int .i64 x7,.int .i64 x8,.int .i64 x9,.int .i64 x10]=>some ⟨x0,x1,x2,⟨x3,x4,x5,x6,x7,x8,x9,x10⟩⟩|_=>none
def dcd_find:List Value->Option FindT:=fun l=>match l with|[.int .i64 x0,.int .u32 x1,.int .i64 x2,.int .i64 x3]=>some ⟨x0,x1,x2,x3⟩|_=>none
def dcd_pstep:List Value->Option PStepT:=fun l=>match l with|[.int .u32 x0,.bool x1]=>some ⟨x0,x1⟩|_=>none
def dcd_pn:List Value->Option PNT:=fun l=>match l with|[.int .i64 x0,.int .i64 x1,.int .u64 x2,.int .u64 x3]=>some ⟨x0,x1,x2,x3⟩|_=>none
def dcd_ext:List Value->Option ExtT:=fun l=>match l with|[.bool x0,.int .i64 x1,.int .i64 x2,.int .i64 x3]=>some ⟨x0,x1,x2,x3⟩|_=>none
def dcd_stp:List Value->Option StpT:=fun l=>match l with|[.int .i64 x0,.int .i64 x1,.int .i64 x2,.bool x3,.bool x4]=>some ⟨x0,(x1,x2),x3,x4⟩|_=>none
def dcd_hent:List Value->Option Unit:=fun _=>none
def dcd_hu8:List Value->Option Unit:=fun _=>none
def EC.dcd:(e:EC)->List Value->Option e.α
 | .ent=>dcd_ent
 | .i64=>dcd_i64
 | .int=>dcd_int
 | .u32=>dcd_u32
 | .bool=>dcd_bool
 | .u8=>dcd_u8
 | .u64=>dcd_u64
 | .node=>dcd_node
 | .slot=>dcd_slot
 | .find=>dcd_find
 | .pstep=>dcd_pstep
 | .pn=>dcd_pn
 | .ext=>dcd_ext
 | .stp=>dcd_stp
 | .hent=>dcd_hent
 | .hu8=>dcd_hu8

def EC.dft:(e:EC)->e.α
 | .ent=>((0:Int),(0:Int))
 | .i64=>(0:Int)
 | .int=>(0:Int)
 | .u32=>(0:Int)
 | .bool=>false
 | .u8=>(0:Int)
 | .u64=>(0:Int)
 | .node=>⟨0,0,0,0,0,0,0,0⟩
 | .slot=>⟨false,0,0,⟨0,0,0,0,0,0,0,0⟩⟩
 | .find=>⟨0,0,0,0⟩
 | .pstep=>⟨0,false⟩
 | .pn=>⟨0,0,0,0⟩
 | .ext=>⟨false,0,0,0⟩
 | .stp=>⟨0,(0,0),false,false⟩
 | .hent=>()
 | .hu8=>()

def EC.sz:EC->Nat
 | .ent=>2
 | .i64=>1
 | .int=>1
 | .u32=>1
 | .bool=>1
 | .u8=>1
 | .u64=>1
 | .node=>8
 | .slot=>11
 | .find=>4
 | .pstep=>2
 | .pn=>4
 | .ext=>4
 | .stp=>5
 | .hent=>1
 | .hu8=>1

def EC.tid:EC->TypeId
 | .ent=>24
 | .i64=>2
 | .int=>3
 | .u32=>28
 | .bool=>4
 | .u8=>5
 | .u64=>22
 | .node=>102
 | .slot=>120
 | .find=>217
 | .pstep=>199
 | .pn=>179
 | .ext=>181
 | .stp=>123
 | .hent=>26
 | .hu8=>35

def EC.byT (t:TypeId):Option EC :=
 if t=24 then some .ent else
 if t=2 then some .i64 else
 if t=3 then some .int else
 if t=28 then some .u32 else
 if t=4 then some .bool else
 if t=5 then some .u8 else
 if t=22 then some .u64 else
 if t=102 then some .node else
 if t=120 then some .slot else
 if t=217 then some .find else
 if t=199 then some .pstep else
 if t=179 then some .pn else
 if t=181 then some .ext else
 if t=123 then some .stp else
 if t=26 then some .hent else
 if t=35 then some .hu8 else
 none

def EC.lst (e:EC):Option EC :=
 if e = .hent then some .ent else
 if e = .hu8 then some .u8 else
 none
noncomputable def C0:Ctx where
 P:=Tryz.prog
 EC:=EC
 deq:=inferInstance
 α:=EC.α
 enc:=EC.enc
 dcd:=EC.dcd
 dft:=EC.dft
 sz:=EC.sz
 tid:=EC.tid
 byT:=EC.byT
 lst:=EC.lst
 X:=Empty
 I:=fun _ _ _ _=>False

theorem dcd_ent_spec {cs:List Value}{x:Ent}(h:dcd_ent cs=some x):EC.enc .ent x=cs:=by unfold dcd_ent at h;split at h<;>simp at h;subst h;rfl
theorem dcd_i64_spec {cs:List Value}{x:Int}(h:dcd_i64 cs=some x):EC.enc .i64 x=cs:=by unfold dcd_i64 at h;split at h<;>simp at h;subst h;rfl
theorem dcd_int_spec {cs:List Value}{x:Int}(h:dcd_int cs=some x):EC.enc .int x=cs:=by unfold dcd_int at h;split at h<;>simp at h;subst h;rfl
theorem dcd_u32_spec {cs:List Value}{x:Int}(h:dcd_u32 cs=some x):EC.enc .u32 x=cs:=by unfold dcd_u32 at h;split at h<;>simp at h;subst h;rfl
theorem dcd_bool_spec {cs:List Value}{x:Bool}(h:dcd_bool cs=some x):EC.enc .bool x=cs:=by unfold dcd_bool at h;split at h<;>simp at h;subst h;rfl
theorem dcd_u8_spec {cs:List Value}{x:Int}(h:dcd_u8 cs=some x):EC.enc .u8 x=cs:=by unfold dcd_u8 at h;split at h<;>simp at h;subst h;rfl
theorem dcd_u64_spec {cs:List Value}{x:Int}(h:dcd_u64 cs=some x):EC.enc .u64 x=cs:=by unfold dcd_u64 at h;split at h<;>simp at h;subst h;rfl
theorem dcd_node_spec {cs:List Value}{x:NodeT}(h:dcd_node cs=some x):EC.enc .node x=cs:=by unfold dcd_node at h;split at h<;>simp at h;subst h;rfl
theorem dcd_slot_spec {cs:List Value}{x:SlotT}(h:dcd_slot cs=some x):EC.enc .slot x=cs:=by unfold dcd_slot at h;split at h<;>simp at h;subst h;rfl
theorem dcd_find_spec {cs:List Value}{x:FindT}(h:dcd_find cs=some x):EC.enc .find x=cs:=by unfold dcd_find at h;split at h<;>simp at h;subst h;rfl
theorem dcd_pstep_spec {cs:List Value}{x:PStepT}(h:dcd_pstep cs=some x):EC.enc .pstep x=cs:=by unfold dcd_pstep at h;split at h<;>simp at h;subst h;rfl
theorem dcd_pn_spec {cs:List Value}{x:PNT}(h:dcd_pn cs=some x):EC.enc .pn x=cs:=by unfold dcd_pn at h;split at h<;>simp at h;subst h;rfl
theorem dcd_ext_spec {cs:List Value}{x:ExtT}(h:dcd_ext cs=some x):EC.enc .ext x=cs:=by unfold dcd_ext at h;split at h<;>simp at h;subst h;rfl
theorem dcd_stp_spec {cs:List Value}{x:StpT}(h:dcd_stp cs=some x):EC.enc .stp x=cs:=by unfold dcd_stp at h;split at h<;>simp at h;subst h;rfl
theorem dcd_hent_spec {cs:List Value}{x:Unit}(h:dcd_hent cs=some x):EC.enc .hent x=cs:=by cases h
theorem dcd_hu8_spec {cs:List Value}{x:Unit}(h:dcd_hu8 cs=some x):EC.enc .hu8 x=cs:=by cases h
theorem byT_spec {t:TypeId}{e:EC}(h:EC.byT t=some e):t=e.tid:=by
 unfold EC.byT at h
 by_cases h_ent:t=24;(rw[if_pos h_ent] at h;cases h;exact h_ent);rw[if_neg h_ent] at h
 by_cases h_i64:t=2;(rw[if_pos h_i64] at h;cases h;exact h_i64);rw[if_neg h_i64] at h
 by_cases h_int:t=3;(rw[if_pos h_int] at h;cases h;exact h_int);rw[if_neg h_int] at h
 by_cases h_u32:t=28;(rw[if_pos h_u32] at h;cases h;exact h_u32);rw[if_neg h_u32] at h
 by_cases h_bool:t=4;(rw[if_pos h_bool] at h;cases h;exact h_bool);rw[if_neg h_bool] at h
 by_cases h_u8:t=5;(rw[if_pos h_u8] at h;cases h;exact h_u8);rw[if_neg h_u8] at h
 by_cases h_u64:t=22;(rw[if_pos h_u64] at h;cases h;exact h_u64);rw[if_neg h_u64] at h
 by_cases h_node:t=102;(rw[if_pos h_node] at h;cases h;exact h_node);rw[if_neg h_node] at h
 by_cases h_slot:t=120;(rw[if_pos h_slot] at h;cases h;exact h_slot);rw[if_neg h_slot] at h
 by_cases h_find:t=217;(rw[if_pos h_find] at h;cases h;exact h_find);rw[if_neg h_find] at h
 by_cases h_pstep:t=199;(rw[if_pos h_pstep] at h;cases h;exact h_pstep);rw[if_neg h_pstep] at h
 by_cases h_pn:t=179;(rw[if_pos h_pn] at h;cases h;exact h_pn);rw[if_neg h_pn] at h
 by_cases h_ext:t=181;(rw[if_pos h_ext] at h;cases h;exact h_ext);rw[if_neg h_ext] at h
 by_cases h_stp:t=123;(rw[if_pos h_stp] at h;cases h;exact h_stp);rw[if_neg h_stp] at h
 by_cases h_hent:t=26;(rw[if_pos h_hent] at h;cases h;exact h_hent);rw[if_neg h_hent] at h
 by_cases h_hu8:t=35;(rw[if_pos h_hu8] at h;cases h;exact h_hu8);rw[if_neg h_hu8] at h
 cases h
theorem info_of {P:Program}{t:TypeId}{z:Value}{n b:Nat}{l:List Value}(h:(P.info? t).map (fun i=>(i.zero,i.size,i.bytes))=some (some z,n,b))(hz:z.cells.toList=l)(hb:0<b) :
  ∃ i z,P.info? t=some i/\i.zero=some z/\i.size=n/\z.cells.toList=l/\0<i.bytes:=by
 rw[Option.map_eq_some_iff] at h
 obtain⟨i,h1,h2⟩:=h
 simp only[Prod.mk.injEq] at h2
 exact⟨i,z,h1,h2.1,h2.2.1,hz,h2.2.2 ▸ hb⟩

theorem lst_spec {h e:EC}(hl:EC.lst h=some e):h.sz=1:=by
 unfold EC.lst at hl
 by_cases h_hent:h = .hent;(rw[h_hent];rfl);rw[if_neg h_hent] at hl
 by_cases h_hu8:h = .hu8;(rw[h_hu8];rfl);rw[if_neg h_hu8] at hl
 cases hl
theorem C0.ok:C0.OK where
 len e x:=by cases e<;>rfl
 one e x:=by
  have h:∀ u∈EC.enc e x,u.oneCell'=true:=by cases e<;>(intro u hu;simp[EC.enc] at hu;(first|(repeat (rcases hu with rfl|hu;exact rfl));done|(repeat (rcases hu with rfl|hu;exact rfl));(subst hu;rfl)))
  exact h
 dcd e cs x h:=by
  cases e with
  | ent=>exact dcd_ent_spec h
  | i64=>exact dcd_i64_spec h
  | int=>exact dcd_int_spec h
  | u32=>exact dcd_u32_spec h
  | bool=>exact dcd_bool_spec h
  | u8=>exact dcd_u8_spec h
  | u64=>exact dcd_u64_spec h
  | node=>exact dcd_node_spec h
  | slot=>exact dcd_slot_spec h
  | find=>exact dcd_find_spec h
  | pstep=>exact dcd_pstep_spec h
  | pn=>exact dcd_pn_spec h
  | ext=>exact dcd_ext_spec h
  | stp=>exact dcd_stp_spec h
  | hent=>exact dcd_hent_spec h
  | hu8=>exact dcd_hu8_spec h
 pos e:=by cases e<;>decide
 info e:=by
  cases e with
  | ent=>exact info_of (z:=.agg #[.int .i64 0,.int .i64 0]) (n:=2) (b:=16) (by kernel_rfl) rfl (by decide)
  | i64=>exact info_of (z:=.int .i64 0) (n:=1) (b:=8) (by kernel_rfl) rfl (by decide)
  | int=>exact info_of (z:=.int .i64 0) (n:=1) (b:=8) (by kernel_rfl) rfl (by decide)
  | u32=>exact info_of (z:=.int .u32 0) (n:=1) (b:=4) (by kernel_rfl) rfl (by decide)
  | bool=>exact info_of (z:=.bool false) (n:=1) (b:=1) (by kernel_rfl) rfl (by decide)
  | u8=>exact info_of (z:=.int .u8 0) (n:=1) (b:=1) (by kernel_rfl) rfl (by decide)
  | u64=>exact info_of (z:=.int .u64 0) (n:=1) (b:=8) (by kernel_rfl) rfl (by decide)
  | node=>exact info_of (z:=.agg #[.int .i64 0,.int .i64 0,.int .u32 0,.int .u32 0,.int .i64 0,.int .i64 0,.int .i64 0,.int .i64 0]) (n:=8) (b:=56) (by kernel_rfl) rfl (by decide)
  | slot=>exact info_of (z:=.agg #[.bool false,.int .i64 0,.int .u32 0,.int .i64 0,.int .i64 0,.int .u32 0,.int .u32 0,.int .i64 0,.int .i64 0,.int .i64 0,.int .i64 0]) (n:=11) (b:=80) (by kernel_rfl) rfl (by decide)
  | find=>exact info_of (z:=.agg #[.int .i64 0,.int .u32 0,.int .i64 0,.int .i64 0]) (n:=4) (b:=32) (by kernel_rfl) rfl (by decide)
  | pstep=>exact info_of (z:=.agg #[.int .u32 0,.bool false]) (n:=2) (b:=8) (by kernel_rfl) rfl (by decide)
  | pn=>exact info_of (z:=.agg #[.int .i64 0,.int .i64 0,.int .u64 0,.int .u64 0]) (n:=4) (b:=32) (by kernel_rfl) rfl (by decide)
  | ext=>exact info_of (z:=.agg #[.bool false,.int .i64 0,.int .i64 0,.int .i64 0]) (n:=4) (b:=32) (by kernel_rfl) rfl (by decide)
  | stp=>exact info_of (z:=.agg #[.int .i64 0,.int .i64 0,.int .i64 0,.bool false,.bool false]) (n:=5) (b:=32) (by kernel_rfl) rfl (by decide)
  | hent=>exact info_of (z:=.slice none 0 0) (n:=1) (b:=24) (by kernel_rfl) rfl (by decide)
  | hu8=>exact info_of (z:=.slice none 0 0) (n:=1) (b:=24) (by kernel_rfl) rfl (by decide)
 byT t e h:=by
  exact byT_spec h
 lst h e hl:=lst_spec hl
 local_ x:=x.elim
 mixed:=Tryz.checked.mixed

theorem enter_of {f:FuncId}{fn:Func}{c:Code}(hf:Tryz.prog.funcs[f]?=some fn)(hname:(fn.name=="runtime.NumGoroutine")=false)(hb:fn.body=some c)(args:Array Value)(w:World) :
  (callFunc f args).run C0.P w = .ok (.enter f args) w:=MuLone.run_callFunc_enter hf hname hb args w

abbrev vI (x:Int):At:=.val (.int .i64 x)
abbrev vU (x:Int):At:=.val (.int .u32 x)
abbrev vU64 (x:Int):At:=.val (.int .u64 x)
abbrev vB (b:Bool):At:=.val (.bool b)
abbrev KT:=SV->List (Chunk C0)->List Nat->Prop
theorem SoundT.of {f:FuncId}{fn:Func}{c:Code}{t:Tfm C0}(hf:Tryz.prog.funcs[f]?=some fn)(hname:(fn.name=="runtime.NumGoroutine")=false)(hb:fn.body=some c)(h:∀ args H K,t args H K->RowB H->∃ A:Ann C0,GOK C0 A.Γ/\vc C0 A fn args H (normK H.length K)):SoundT C0 f t :=
 ⟨enter_of hf hname hb,fun args H K hk=>by
  refine CallOK.rowB C0.ok fun hB=>?_
  obtain⟨A,hG,hv⟩:=h args H K hk hB
  exact CallOK.norm (call_of_vc C0.ok hG hf hv)⟩
def wideK (W0:List Nat)(K:KT):KT:=fun r H ts=>if ts.all W0.contains then K r H W0 else False
theorem CallOK.wide {f:FuncId}{args:List TV}{H:List (Chunk C0)}{K:KT}(W0:List Nat)(h:CallOK C0 f args H (wideK W0 K)):CallOK C0 f args H K:=by
 intro σ φ w vs hs hr hn
 refine Calls.mono (h σ φ w vs hs hr hn) fun e w' hh=>?_
 cases e with
 | panicked ch=>exact hh.elim
 | outgrown=>exact hh.elim
 | returned v =>
  obtain⟨r,H',ts,σ',φ',hout,hK⟩:=hh
  unfold wideK at hK
  split at hK<;>try exact hK.elim
  rename_i hsub
  have hts:∀ n,n∉W0->n∉ts:=fun n hn ht=>hn (by simpa using List.all_eq_true.1 hsub n ht)
  exact⟨r,H',W0,σ',φ',⟨hout.rel,hout.rcl,hout.sat,hout.adv,hout.len,fun n hn ho=>hout.agree n hn (ho.imp id (hts n)),hout.own,fun n hn ht=>hout.touch n hn (hts n ht)⟩,hK⟩
theorem SoundT.ofW {f:FuncId}{fn:Func}{c:Code}{t:Tfm C0}(W0:List Nat)(hf:Tryz.prog.funcs[f]?=some fn)(hname:(fn.name=="runtime.NumGoroutine")=false)(hb:fn.body=some c)(h:∀ args H K,t args H K->RowB H->∃ A:Ann C0,GOK C0 A.Γ/\vc C0 A fn args H (normK H.length (wideK W0 K))):SoundT C0 f t :=
 ⟨enter_of hf hname hb,fun args H K hk=>by
  refine CallOK.wide W0 (CallOK.rowB C0.ok fun hB=>?_)
  obtain⟨A,hG,hv⟩:=h args H K hk hB
  exact CallOK.norm (call_of_vc C0.ok hG hf hv)⟩

theorem SoundT.weak {f:FuncId}{t t':Tfm C0}(h:SoundT C0 f t)(hw:∀ args H K,t' args H K->t args H K):SoundT C0 f t':=⟨h.enter,fun args H K hk=>h.call args H K (hw args H K hk)⟩
noncomputable def A0:Ann C0:={ Γ:=[] }
theorem brS_of {b:Bool}{t f:Prop}(ht:b=true->t)(hf:b=false->f):brS b t f:=by cases b<;>simp_all [brS]
theorem bytes_ent:bytesOf C0 EC.ent=16:=by kernel_rfl
theorem bytes_int:bytesOf C0 EC.int=8:=by kernel_rfl
theorem bytes_u32:bytesOf C0 EC.u32=4:=by kernel_rfl
theorem bytes_bool:bytesOf C0 EC.bool=1:=by kernel_rfl
theorem bytes_u8:bytesOf C0 EC.u8=1:=by kernel_rfl
theorem bytes_u64:bytesOf C0 EC.u64=8:=by kernel_rfl
theorem bytes_node:bytesOf C0 EC.node=56:=by kernel_rfl
theorem bytes_slot:bytesOf C0 EC.slot=80:=by kernel_rfl
theorem bytes_pstep:bytesOf C0 EC.pstep=8:=by kernel_rfl
theorem bytes_pn:bytesOf C0 EC.pn=32:=by kernel_rfl
theorem bytes_ext:bytesOf C0 EC.ext=32:=by kernel_rfl
end Go.Proofs.YtedfbafngmicpaaGreat.Sx
end
section
/- The checksum of bytes: a table's step is eight steps of a bit. No program in sight. -/
namespace Go.Proofs.YtedfbafngmicpaaGreat
open Go

def polC:BitVec 32:=0x82F63B78#32
def stC (x:BitVec 32):BitVec 32:=(x >>> 1) ^^^ (if x.getLsbD 0 then polC else 0#32)
def itC:Nat->BitVec 32->BitVec 32
 | 0,x=>x
 | n+1,x=>itC n (stC x)
theorem stC_xor (a b:BitVec 32):stC (a ^^^ b)=stC a ^^^ stC b:=by
 unfold stC
 rw[BitVec.getLsbD_xor,BitVec.ushiftRight_xor_distrib]
 cases a.getLsbD 0<;>cases b.getLsbD 0
 ·simp
 ·simp[BitVec.xor_assoc]
 ·simp only[Bool.bne_false,if_true,Bool.false_eq_true,if_false,BitVec.xor_zero]
  rw[BitVec.xor_assoc,BitVec.xor_comm (b >>> 1),← BitVec.xor_assoc]
 ·simp only[Bool.bne_true,Bool.not_true,if_true,Bool.false_eq_true,if_false,BitVec.xor_zero]
  rw[BitVec.xor_assoc (a >>> 1),← BitVec.xor_assoc polC,BitVec.xor_comm polC,BitVec.xor_assoc (b >>> 1),BitVec.xor_self,BitVec.xor_zero]
theorem itC_xor:∀ (n:Nat) (a b:BitVec 32),itC n (a ^^^ b)=itC n a ^^^ itC n b
 | 0,_,_=>rfl
 | n+1,a,b=>by
  show itC n (stC (a ^^^ b))=itC n (stC a) ^^^ itC n (stC b)
  rw[stC_xor,itC_xor n]
theorem itC_low:∀ (n:Nat) (x:BitVec 32),(∀ i,i<n->x.getLsbD i=false)->itC n x=x >>> n
 | 0,x,_=>by simp[itC]
 | n+1,x,h=>by
  have e:stC x=x >>> 1:=by unfold stC;rw[h 0 (Nat.succ_pos n)];simp
  show itC n (stC x)=_
  rw[e,itC_low n _ fun i hi=>by rw[BitVec.getLsbD_ushiftRight];exact h (1+i) (by omega),Nat.add_comm n 1,BitVec.shiftRight_add]
theorem itC_tab (x:BitVec 32):itC 8 x=(x >>> 8) ^^^ itC 8 (x &&& 255#32):=by
 have e:x=(x &&& ~~~ 255#32) ^^^ (x &&& 255#32):=by
  ext i hi
  simp only[BitVec.getElem_xor,BitVec.getElem_and,BitVec.getElem_not]
  cases x[i]<;>cases (255#32)[i]<;>rfl
 have lo:itC 8 (x &&& ~~~ 255#32)=(x &&& ~~~ 255#32) >>> 8:=itC_low 8 _ fun i hi=>by
  rw[BitVec.getLsbD_and,BitVec.getLsbD_not]
  have:(255#32).getLsbD i=true:=by
   match i,hi with
   | 0,_|1,_|2,_|3,_|4,_|5,_|6,_|7,_=>rfl
  rw[this];simp
 have hi:(x &&& ~~~ 255#32) >>> 8=x >>> 8:=by
  ext i hi
  simp only[BitVec.getElem_ushiftRight,BitVec.getLsbD_and,BitVec.getLsbD_not]
  have:(255#32).getLsbD (8+i)=false:=by
   rw[show (255#32)=BitVec.ofNat 32 255 from rfl,BitVec.getLsbD_ofNat]
   have:Nat.testBit 255 (8+i)=false:=Nat.testBit_lt_two_pow (Nat.lt_of_lt_of_le (by decide:255<2 ^ 8) (Nat.pow_le_pow_right (by decide) (by omega)))
   rw[this];simp
  rw[this]
  by_cases q:8+i<32
  ·simp[q]
  ·rw[BitVec.getLsbD_of_ge x _ (by omega)];simp
 conv=>lhs;rw[e]
 rw[itC_xor,lo,hi]
end Go.Proofs.YtedfbafngmicpaaGreat
end
section
/- Numbers as bytes: varints, zigzag, words. No program in sight. -/
namespace Go.Proofs.YtedfbafngmicpaaGreat
open Go

def vE:Nat->Int->List Int
 | 0,u=>[u]
 | f+1,u=>if u<128 then [u] else (u % 128+128)::vE f (u / 128)
def vD (eT eM:Int)(i:Nat):List Int->Int->Int × Int × Int
 | [],_=>(0,0,eT)
 | c::r,u=>if (i=9/\1<c)∨(0<i/\c=0) then (0,0,eM) else if c<128 then (u+(c % 128)*128 ^ i,(i:Int)+1,0) else vD eT eM (i+1) r (u+(c % 128)*128 ^ i)
theorem vE_len:∀ (f:Nat) (u:Int),1<=(vE f u).length/\(vE f u).length<=f+1
 | 0,u=>⟨Nat.le_refl _,Nat.le_refl _⟩
 | f+1,u=>by
  have:=vE_len f (u / 128)
  unfold vE
  split
  ·simp
  ·simp;omega
theorem vE_byte:∀ (f:Nat) (u:Int),0<=u->u<128 ^ f*128->∀ c∈vE f u,0<=c/\c<256
 | 0,u,h0,h,c,hc=>by
  have:c=u:=by simpa [vE] using hc
  rw[Int.pow_zero] at h
  omega
 | f+1,u,h0,h,c,hc=>by
  unfold vE at hc
  split at hc
  ·have:c=u:=by simpa using hc
   omega
  ·rcases List.mem_cons.1 hc with e|hc
   ·omega
   ·refine vE_byte f (u / 128) (by omega) ?_ c hc
    rw[Int.pow_succ] at h
    omega
theorem vD_vE (eT eM:Int):∀ (f i:Nat) (u a:Int) (r:List Int),f+i=10->0<=u->(0<i->1<=u)->u<2 ^ (64-7*i)->vD eT eM i (vE f u++r) a=(a+u*128 ^ i,(i:Int)+(vE f u).length,0)
 | 0,i,u,a,r,hf,h0,h1,h2=>by
  obtain rfl:i=10:=by omega
  have h2:u<1:=h2
  have:=h1 (by omega)
  omega
 | f+1,i,u,a,r,hf,h0,h1,h2=>by
  unfold vE
  by_cases c:u<128
  ·rw[if_pos c]
   show vD eT eM i (u::r) a=_
   unfold vD
   rw[if_neg ?_,if_pos c,Int.emod_eq_of_lt h0 c]
   ·rfl
   ·rintro (⟨rfl,q⟩|⟨q1,q2⟩)
    ·have h2:u<2:=h2
     omega
    ·have:=h1 q1;omega
  ·rw[if_neg c]
   have hi:i<=8:=by
    apply Classical.byContradiction
    intro n
    obtain rfl:i=9:=by
     rcases Nat.lt_or_ge i 10 with q|q
     ·omega
     ·omega
    have h2:u<2:=h2
    omega
   show vD eT eM i ((u % 128+128)::(vE f (u / 128)++r)) a=_
   unfold vD
   rw[if_neg ?_,if_neg (by omega),vD_vE eT eM f (i+1) (u / 128) _ r (by omega) (by omega) (fun _=>by omega) ?_]
   ·have e:(u % 128+128) % 128=u % 128:=by omega
    have p:(128:Int) ^ (i+1)=128 ^ i*128:=Int.pow_succ ..
    rw[e,p]
    congr 1
    ·rw[Int.add_assoc]
     congr 1
     have d:u=u % 128+u / 128*128:=by omega
     conv=>rhs;rw[d]
     rw[Int.add_mul,← Int.mul_assoc,Int.mul_assoc (u / 128),Int.mul_assoc (u / 128),Int.mul_comm 128]
    ·congr 1
     rw[List.length_cons];omega
   ·have e:64-7*i=(64-7*(i+1))+7:=by omega
    rw[e,Int.pow_add] at h2
    have p7:(2:Int) ^ 7=128:=by decide
    rw[p7] at h2
    omega
   ·rintro (⟨q,_⟩|⟨_,q⟩)
    ·omega
    ·omega
def zz (n:Int):Int:=if 0<=n then 2*n else -2*n-1
def uz (u:Int):Int:=if u % 2=0 then u / 2 else -(u / 2)-1
theorem uz_zz (n:Int):uz (zz n)=n:=by
 unfold uz zz
 by_cases c:0<=n
 ·rw[if_pos c,if_pos (by omega)];omega
 ·rw[if_neg c,if_neg (by omega)];omega
theorem zz_rng {n:Int}(h1 : -9223372036854775808<=n)(h2:n<=9223372036854775807):0<=zz n/\zz n<=18446744073709551615:=by
 unfold zz;split<;>omega
def wB:Nat->Int->List Int
 | 0,_=>[]
 | n+1,u=>wB n (u / 256)++[u % 256]
def wD (l:List Int):Int:=l.foldl (fun a c=>256*a+c) 0
theorem wB_len:∀ (n:Nat) (u:Int),(wB n u).length=n
 | 0,_=>rfl
 | n+1,u=>by unfold wB;rw[List.length_append,wB_len n];rfl
theorem wB_byte:∀ (n:Nat) (u:Int),∀ c∈wB n u,0<=c/\c<256
 | 0,_,c,hc=>by simp[wB] at hc
 | n+1,u,c,hc=>by
  unfold wB at hc
  rcases List.mem_append.1 hc with hc|hc
  ·exact wB_byte n _ c hc
  ·rw[List.mem_singleton.1 hc];omega
theorem wD_snoc (l:List Int)(c:Int):wD (l++[c])=256*wD l+c:=by unfold wD;rw[List.foldl_append];rfl
theorem wD_wB:∀ (n:Nat) (u:Int),0<=u->u<256 ^ n->wD (wB n u)=u
 | 0,u,h0,h=>by
  rw[Int.pow_zero] at h
  show (0:Int)=u
  omega
 | n+1,u,h0,h=>by
  unfold wB
  rw[Int.pow_succ] at h
  rw[wD_snoc,wD_wB n (u / 256) (by omega) (by omega)]
  omega
end Go.Proofs.YtedfbafngmicpaaGreat
end
section
/- Frames: a length, bytes, a checksum. No program in sight. -/
namespace Go.Proofs.YtedfbafngmicpaaGreat
open Go

def crX (b:List Int)(x:BitVec 32):BitVec 32:=b.foldl (fun x v=>itC 8 (x ^^^ BitVec.ofInt 32 v)) x
def crc (b:List Int):Int:=((~~~ crX b (~~~ 0#32)).toNat:Int)
theorem crc_rng (b:List Int):0<=crc b/\crc b<4294967296:=by
 have:=(~~~ crX b (~~~ 0#32)).isLt
 unfold crc
 omega
def frH (p:List Int):List Int:=vE 10 p.length++p
def frE (p:List Int):List Int:=frH p++wB 4 (crc (frH p))
def frD (eT eM eC top:Int)(r:List Int):List Int × Int × Int :=
 match vD eT eM 0 r 0 with
 | (n,k,e)=>if e≠0 then ([],0,e) else if top<n then ([],0,eM) else if (r.length:Int)<k+n+4 then ([],0,eT) else
  if wD ((r.drop (k+n).toNat).take 4)=crc (r.take (k+n).toNat) then ((r.take (k+n).toNat).drop k.toNat,k+n+4,0) else ([],0,eC)
theorem frD_frE {eT eM eC top:Int}{p s:List Int}(hp:(p.length:Int)<=top)(h2:(p.length:Int)<18446744073709551616):frD eT eM eC top (frE p++s)=(p,((frE p).length:Int),(0:Int)):=by
 have v:=vD_vE eT eM 10 0 p.length 0 (p++(wB 4 (crc (frH p))++s)) rfl (by omega) (fun q=>absurd q (Nat.lt_irrefl _)) h2
 have e0:frE p++s=vE 10 p.length++(p++(wB 4 (crc (frH p))++s)):=by unfold frE frH;simp[List.append_assoc]
 have hl:(frH p).length=(vE 10 (p.length:Int)).length+p.length:=by unfold frH;rw[List.length_append]
 have fl:(frE p).length=(frH p).length+4:=by unfold frE;rw[List.length_append,wB_len]
 unfold frD
 rw[← e0] at v
 rw[v]
 dsimp only
 have ek:((0:Nat):Int)+((vE 10 (p.length:Int)).length:Int)+(0+(p.length:Int)*128 ^ 0)=((frH p).length:Int):=by
  rw[hl,Int.pow_zero];omega
 rw[if_neg (by simp),if_neg (by rw[Int.pow_zero];omega),ek,if_neg (by rw[List.length_append,fl];omega)]
 have t1:(frE p++s).take (((frH p).length:Int)).toNat=frH p:=by
  unfold frE
  rw[List.append_assoc,Int.toNat_natCast,List.take_left']
  rfl
 have t2:((frE p++s).drop (((frH p).length:Int)).toNat).take 4=wB 4 (crc (frH p)):=by
  unfold frE
  rw[List.append_assoc,Int.toNat_natCast,List.drop_left' rfl,List.take_left' (wB_len 4 _)]
 have c:=crc_rng (frH p)
 have p4:(256:Int) ^ 4=4294967296:=by decide
 rw[t1,t2,wD_wB 4 _ c.1 (by rw[p4];exact c.2),if_pos rfl]
 have d0:(((0:Nat):Int)+((vE 10 (p.length:Int)).length:Int)).toNat=(vE 10 (p.length:Int)).length:=by omega
 have d1:(frH p).drop (vE 10 (p.length:Int)).length=p:=by unfold frH;exact List.drop_left' rfl
 have d2:((frH p).length:Int)+4=(frE p).length:=by omega
 rw[d0,d1,d2]
end Go.Proofs.YtedfbafngmicpaaGreat
end
section
/- Operations on bits, as numbers. No program in sight. -/
namespace Go.Proofs.YtedfbafngmicpaaGreat
open Go

def xorI (k:IntKind)(x y:Int):Int:=k.wrap (BitVec.ofInt k.bits x ^^^ BitVec.ofInt k.bits y).toNat
def andI (k:IntKind)(x y:Int):Int:=k.wrap (BitVec.ofInt k.bits x &&& BitVec.ofInt k.bits y).toNat
def orI (k:IntKind)(x y:Int):Int:=k.wrap (BitVec.ofInt k.bits x ||| BitVec.ofInt k.bits y).toNat
theorem toNat_of (w:Nat){x:Int}(h0:0<=x)(h:x<2 ^ w):(BitVec.ofInt w x).toNat=x.toNat:=by
 rw[BitVec.toNat_ofInt,Int.emod_eq_of_lt h0 (by rw[Int.natCast_pow];exact h)]
theorem wrap_nat8 {n:Nat}(h:n<256):IntKind.u8.wrap (n:Int)=n:=by
 unfold IntKind.wrap
 simp[IntKind.signed,IntKind.bits]
 omega
theorem wrap_nat32 {n:Nat}(h:n<4294967296):IntKind.u32.wrap (n:Int)=n:=by
 unfold IntKind.wrap
 simp[IntKind.signed,IntKind.bits]
 omega
theorem wrap_nat64 {n:Nat}(h:n<18446744073709551616):IntKind.u64.wrap (n:Int)=n:=by
 unfold IntKind.wrap
 simp[IntKind.signed,IntKind.bits]
 omega
theorem andI_1 {x:Int}(h0:0<=x)(h:x<4294967296):andI .u32 x 1=x % 2:=by
 show IntKind.u32.wrap ((BitVec.ofInt 32 x &&& BitVec.ofInt 32 1).toNat:Int)=_
 rw[wrap_nat32 (BitVec.isLt _),BitVec.toNat_and,toNat_of 32 h0 h,show (BitVec.ofInt 32 1).toNat=1 from rfl,Nat.and_one_is_mod]
 omega
theorem andI_64 {x:Int}(h0:0<=x)(h:x<18446744073709551616):andI .u64 x 1=x % 2:=by
 show IntKind.u64.wrap ((BitVec.ofInt 64 x &&& BitVec.ofInt 64 1).toNat:Int)=_
 rw[wrap_nat64 (BitVec.isLt _),BitVec.toNat_and,toNat_of 64 h0 h,show (BitVec.ofInt 64 1).toNat=1 from rfl,Nat.and_one_is_mod]
 omega
theorem andI_127 {c:Int}(h0:0<=c)(h:c<256):andI .u8 c 127=c % 128:=by
 show IntKind.u8.wrap ((BitVec.ofInt 8 c &&& BitVec.ofInt 8 127).toNat:Int)=_
 rw[wrap_nat8 (BitVec.isLt _),BitVec.toNat_and,toNat_of 8 h0 h,show (BitVec.ofInt 8 127).toNat=2 ^ 7-1 from rfl,Nat.and_two_pow_sub_one_eq_mod]
 omega
theorem orI_128 {c:Int}(h0:0<=c)(h:c<256):orI .u8 c 128=c % 128+128:=by
 show IntKind.u8.wrap ((BitVec.ofInt 8 c ||| BitVec.ofInt 8 128).toNat:Int)=_
 rw[wrap_nat8 (BitVec.isLt _),BitVec.toNat_or,toNat_of 8 h0 h,show (BitVec.ofInt 8 128).toNat=128 from rfl]
 have key:∀ n:Nat,n<256->n ||| 128=n % 128+128:=by decide +kernel
 rw[key _ (by omega)]
 omega
theorem p64:(2:Int) ^ 64=18446744073709551616:=by decide +kernel
theorem orI_add {u w:Int}{i:Nat}(u0:0<=u)(u1:u<2 ^ i)(w0:0<=w)(h:u+w*2 ^ i<18446744073709551616):orI .u64 u (w*2 ^ i)=u+w*2 ^ i:=by
 have p:(0:Int)<=w*2 ^ i:=Int.mul_nonneg w0 (Int.le_of_lt (Int.pow_pos (by decide)))
 show IntKind.u64.wrap ((BitVec.ofInt 64 u ||| BitVec.ofInt 64 (w*2 ^ i)).toNat:Int)=_
 rw[wrap_nat64 (BitVec.isLt _),BitVec.toNat_or,toNat_of 64 u0 (by rw[p64];omega),toNat_of 64 p (by rw[p64];omega)]
 have e:(w*2 ^ i).toNat=2 ^ i*w.toNat:=by
  rw[Int.toNat_mul w0 (Int.le_of_lt (Int.pow_pos (by decide))),Nat.mul_comm]
  congr 1
 have ul:u.toNat<2 ^ i:=by
  have:((u.toNat:Nat):Int)<((2 ^ i:Nat):Int):=by rw[Int.toNat_of_nonneg u0,Int.natCast_pow];exact u1
  omega
 rw[e,Nat.or_comm,← Nat.two_pow_add_eq_or_of_lt ul,← e]
 omega
end Go.Proofs.YtedfbafngmicpaaGreat
end
section
/- word: varints, keys. -/
namespace Go.Proofs.YtedfbafngmicpaaGreat.Sx
open Go

/-KEEP vE orI xorI andI uvA-/
def uvA (b:List Int)(u:Int):List Int:=b++vE 10 u
structure XUv (P:Int->List Int->Prop) where
 u:Int
 o:List Int
 h:P u o
noncomputable def aUv (P:Int->List Int->Prop)(b:List Int):Ann C0:={ Γ:=[],inv:=fun n=>match n with
 | 2=>some { X:=XUv P,sl:=[1,5],tf:=fun x=>[vi .u64 x.u,.one (.at (.slc 1))],hf:=fun x=>[.row false EC.u8 b,.row true EC.u8 x.o],μ:=fun x=>x.u.toNat }
 | _=>none }
def tUv:Tfm C0:=fun args H K=>match args,H with
 | [.at (.slc 0),.at (.val (.int .u64 u))],[.row false .u8 b]=>0<=u/\u<18446744073709551616/\b.length<=1000000000/\∀ o,o=uvA b u->K (.one (.at (.slc 1))) [.row false EC.u8 b,.row true EC.u8 o] []
 | _,_=>False
theorem wrap_u8m {x:Int}(_:0<=x):IntKind.u8.wrap x=x % 256:=by
 unfold IntKind.wrap
 simp[IntKind.signed,IntKind.bits]
theorem fdiv7 {x:Int}:x.fdiv (2 ^ min (Int.toNat 7) IntKind.u64.bits)=x / 128:=by
 rw[show (2:Int) ^ min (Int.toNat 7) IntKind.u64.bits=128 from by decide +kernel]
 exact Int.fdiv_eq_ediv_of_nonneg _ (by decide)
def PUv (b:List Int)(u:Int):Int->List Int->Prop:=fun x o=>0<=x/\∃ f,o.length+f=b.length+10/\x<128 ^ f*128/\o++vE f x=b++vE 10 u
theorem vc_uv (b:List Int)(u:Int)(K:KT)(u0:0<=u)(u1:u<18446744073709551616)(hb:b.length<=1000000000)(h:∀ o,o=uvA b u->K (.one (.at (.slc 1))) [.row false EC.u8 b,.row true EC.u8 o] []) :
  vc C0 (aUv (PUv b u) b) Tryz.f124 [.at (.slc 0),.at (.val (.int .u64 u))] [.row false EC.u8 b] (normK 1 K):=by
 generalize hP:PUv b u=P
 refine Eq.mp (show ((0:Int)<=0/\0<=IntKind.i64.wrap ((b.length:Int)+10)/\IntKind.i64.wrap ((b.length:Int)+10)*(↑(bytesOf C0 EC.u8):Int)<=140737488355328/\(([]:List Ent).length+b.length)*bytesOf C0 EC.u8<=140737488355328/\(∃ x:XUv P,True/\(VW (u)=VW (x.u)/\True/\True)/\b=b/\([]++b)=x.o/\True)/\∀ x:XUv P,True->brS (decide (x.u≥128)) ((x.o.length+[orI IntKind.u8 (IntKind.u8.wrap x.u) 128].length)*bytesOf C0 EC.u8<=140737488355328/\∃ x':XUv P,True/\(((VW (x.u.fdiv (2 ^ min (Int.toNat 7) IntKind.u64.bits)))=(VW (x'.u))/\True/\True)/\b=b/\(x.o++[orI IntKind.u8 (IntKind.u8.wrap x.u) 128])=x'.o/\True)/\x'.u.toNat<x.u.toNat) ((x.o.length+[IntKind.u8.wrap x.u].length)*bytesOf C0 EC.u8<=140737488355328/\K (.one (.at (.slc 1))) [(.row false EC.u8 (b)),(.row true EC.u8 (x.o++[IntKind.u8.wrap x.u]))] []))=_ by kernel_rfl) ?_
 subst hP
 have p10:(18446744073709551616:Int)<=128 ^ 10*128:=by decide +kernel
 rw[wrap_id (x:=(b.length:Int)+10) (by omega) (by omega),bytes_u8]
 refine⟨by decide,by omega,by omega,by simp;omega,⟨⟨u,b,u0,10,rfl,by omega,rfl⟩,?_⟩,fun x _=>brS_of (fun z=>?_) fun z=>?_⟩
 ·(repeat' first|exact trivial|exact rfl|refine And.intro ?_ ?_)
 ·obtain⟨x,o,x0,f,hf,xl,e⟩:=x
  dsimp only at z ⊢
  have z:128<=x:=by have:=of_decide_eq_true z;omega
  cases f with
  | zero=>rw[Int.pow_zero] at xl;omega
  | succ f =>
   rw[wrap_u8m x0,orI_128 (by omega) (by omega),fdiv7]
   have ev:vE (f+1) x=(x % 128+128)::vE f (x / 128):=by
    conv=>lhs;unfold vE
    rw[if_neg (by omega)]
   rw[Int.pow_succ] at xl
   refine⟨by rw[List.length_singleton];omega,⟨x / 128,o++[x % 256 % 128+128],by omega,f,by rw[List.length_append,List.length_singleton];omega,by omega,?_⟩,trivial,?_,by show (x / 128).toNat<x.toNat;omega⟩
   ·rw[← e,ev,show x % 256 % 128=x % 128 by omega,List.append_assoc];rfl
   ·(repeat' first|exact trivial|exact rfl|refine And.intro ?_ ?_)
 ·obtain⟨x,o,x0,f,hf,xl,e⟩:=x
  dsimp only at z ⊢
  have zx:x<128:=by have:=of_decide_eq_false z;omega
  have ev:vE f x=[x]:=by
   cases f with
   | zero=>rfl
   | succ f=>unfold vE;rw[if_pos zx]
  rw[wrap_u8m x0,show x % 256=x by omega]
  refine⟨by rw[List.length_singleton];omega,h _ (by unfold uvA;rw[← e,ev])⟩
theorem s_uv:SoundT C0 124 tUv:=by
 refine .of Tryz.func124 (by decide) rfl fun args H K h hB=>?_
 unfold tUv at h
 split at h<;>try exact h.elim
 rename_i u b
 refine⟨_,?_,vc_uv b u K h.1 h.2.1 h.2.2.1 h.2.2.2⟩
 exact trivial
end Go.Proofs.YtedfbafngmicpaaGreat.Sx
end
section
/- The slots of an arena. -/
namespace Go.Proofs.YtedfbafngmicpaaGreat.Sx
open Go

def relOK (rl:List Int)(n:Nat):Prop:=∀ i∈rl,0<=i/\i<(n:Int)
def slM (H:List (Chunk C0))(k:List Bool->List Int->List Int->Int->Prop):Prop:=match H with
 | [.box [.slc 1,.slc 2,.slc 3,.val (.int .u32 fr)],.row true .bool us,.row true .u32 gn,.row true .u32 rl]=>k us gn rl fr
 | _=>False
abbrev slC (us:List Bool)(gn rl:List Int)(fr:Int):List (Chunk C0):=[.box [.slc 1,.slc 2,.slc 3,vU fr],.row true EC.bool us,.row true EC.u32 gn,.row true EC.u32 rl]
def tSlCap:Tfm C0:=fun args H K=>match args with
 | [.at (.ptr 0 0)]=>slM H fun us gn rl fr=>1<=us.length/\us.length<=65537/\K (.one (.at (vI (us.length-1)))) (slC us gn rl fr) []
 | _=>False
def tSlAllocated:Tfm C0:=fun args H K=>match args with
 | [.at (.ptr 0 0),.at (.val (.int .u32 i))]=>slM H fun us gn rl fr=>0<=i/\i<4294967296/\us.length<=65537/\K (.one (.at (vB (us.getD i.toNat false)))) (slC us gn rl fr) []
 | _=>False
def tSlGen:Tfm C0:=fun args H K=>match args with
 | [.at (.ptr 0 0),.at (.val (.int .u32 i))]=>slM H fun us gn rl fr=>0<=i/\i<4294967296/\gn.length<=65537/\K (.one (.at (vU (gn.getD i.toNat 0)))) (slC us gn rl fr) []
 | _=>False
noncomputable def aSlFree:Ann C0:={ Γ:=[(77,frameT [] tSlCap)],quiet:=[77] }
def tSlFree:Tfm C0:=fun args H K=>match args with
 | [.at (.ptr 0 0)]=>slM H fun us gn rl fr=>1<=us.length/\us.length<=65537/\rl.length<=65537/\0<=fr/\fr<=65537/\K (.one (.at (vI (rl.length+(us.length-1)-fr)))) (slC us gn rl fr) []
 | _=>False
noncomputable def aSlAlloc:Ann C0:={ trunc:=fun n=>n==30,Γ:=[(75,frameT [] tSlFree)] }
def tSlAlloc:Tfm C0:=fun args H K=>match args with
 | [.at (.ptr 0 0)]=>slM H fun us gn rl fr=>1<=us.length/\us.length<=65537/\rl.length<=65537/\0<=fr/\fr<=65537/\gn.length=us.length/\relOK rl us.length/\0<=(rl.length:Int)+(us.length-1)-fr ∧
  ((rl.length:Int)+(us.length-1)-fr=0->K (.tup [.at (vU 0),.at (vI 2)]) (slC us gn rl fr) [0,1,2,3]) ∧
  (0<(rl.length:Int)+(us.length-1)-fr->∀ i rl' fr',(i,rl',fr')=fresh3 rl fr->K (.tup [.at (vU i),.at (vI 0)]) (slC (us.set i.toNat true) (gn.set i.toNat (IntKind.u32.wrap (gn.getD i.toNat 0+1))) rl' fr') [0,1,2,3])
 | _=>False
noncomputable def aSlRelease:Ann C0:={ Γ:=[(59,frameT [] tSlAllocated)] }
def tSlRelease:Tfm C0:=fun args H K=>match args with
 | [.at (.ptr 0 0),.at (.val (.int .u32 i))]=>slM H fun us gn rl fr=>0<=i/\i<4294967296/\us.length<=65537/\rl.length<=65537/\us.getD i.toNat false=true/\K (.one (.at (vI 0))) (slC (us.set i.toNat false) gn (rl++[i]) fr) [0,1,3]
 | _=>False
theorem vc_slCap (us:List Bool)(gn rl:List Int)(fr:Int)(K:KT)(h1:1<=us.length)(h2:us.length<=65537)(h:K (.one (.at (vI (us.length-1)))) (slC us gn rl fr) []) :
  vc C0 A0 Tryz.f77 [.at (.ptr 0 0)] (slC us gn rl fr) (normK 4 K):=by
 refine Eq.mp (show (K (.one (.at (.val (VI (IntKind.i64.wrap ((us.length:Int)-1)))))) [(.box [(.slc 1),(.slc 2),(.slc 3),(.val (VU (fr)))]),(.row true EC.bool (us)),(.row true EC.u32 (gn)),(.row true EC.u32 (rl))] [])=_ by kernel_rfl) ?_
 rw[wrap_id (by omega) (by omega)]
 exact h
theorem s_slCap:SoundT C0 77 tSlCap:=by
 refine .of Tryz.func77 (by decide) rfl fun args H K h hB=>?_
 unfold tSlCap at h
 split at h<;>try exact h.elim
 unfold slM at h
 split at h<;>try exact h.elim
 rename_i fr us gn rl
 exact⟨A0,trivial,vc_slCap us gn rl _ K h.1 h.2.1 h.2.2⟩
theorem vc_slAllocated (us:List Bool)(gn rl:List Int)(fr i:Int)(K:KT)(h1:0<=i)(h2:i<4294967296)(h3:us.length<=65537)(h:K (.one (.at (vB (us.getD i.toNat false)))) (slC us gn rl fr) []) :
  vc C0 A0 Tryz.f59 [.at (.ptr 0 0),.at (vU i)] (slC us gn rl fr) (normK 4 K):=by
 refine Eq.mp (show (brS (decide (IntKind.i64.wrap i<(us.length:Int))) (0<=i/\i<(us.length:Int)/\K (.one (.at (.val (Value.bool (us.getD i.toNat false))))) [(.box [(.slc 1),(.slc 2),(.slc 3),(.val (VU (fr)))]),(.row true EC.bool (us)),(.row true EC.u32 (gn)),(.row true EC.u32 (rl))] []) (K (.one (.at (.val (Value.bool false)))) [(.box [(.slc 1),(.slc 2),(.slc 3),(.val (VU (fr)))]),(.row true EC.bool (us)),(.row true EC.u32 (gn)),(.row true EC.u32 (rl))] []))=_ by kernel_rfl) ?_
 rw[wrap_id (by omega) (by omega)]
 refine brS_of (fun c=>⟨h1,by simpa using c,h⟩) fun c=>?_
 have e:us.getD i.toNat false=false:=by
  have c:¬ i<(us.length:Int):=by simpa using c
  rw[List.getD_eq_getElem?_getD,List.getElem?_eq_none (by omega)];rfl
 rw[e] at h
 exact h
theorem s_slAllocated:SoundT C0 59 tSlAllocated:=by
 refine .of Tryz.func59 (by decide) rfl fun args H K h hB=>?_
 unfold tSlAllocated at h
 split at h<;>try exact h.elim
 unfold slM at h
 split at h<;>try exact h.elim
 rename_i i _ fr us gn rl
 exact⟨A0,trivial,vc_slAllocated us gn rl fr i K h.1 h.2.1 h.2.2.1 h.2.2.2⟩
theorem vc_slGen (us:List Bool)(gn rl:List Int)(fr i:Int)(K:KT)(h1:0<=i)(h2:i<4294967296)(h3:gn.length<=65537)(h:K (.one (.at (vU (gn.getD i.toNat 0)))) (slC us gn rl fr) []) :
  vc C0 A0 Tryz.f111 [.at (.ptr 0 0),.at (vU i)] (slC us gn rl fr) (normK 4 K):=by
 refine Eq.mp (show (brS (decide (IntKind.i64.wrap i≥(gn.length:Int))) (K (.one (.at (.val (VU 0)))) [(.box [(.slc 1),(.slc 2),(.slc 3),(.val (VU (fr)))]),(.row true EC.bool (us)),(.row true EC.u32 (gn)),(.row true EC.u32 (rl))] []) (0<=i/\i<(gn.length:Int)/\K (.one (.at (.val (VU (gn.getD i.toNat 0))))) [(.box [(.slc 1),(.slc 2),(.slc 3),(.val (VU (fr)))]),(.row true EC.bool (us)),(.row true EC.u32 (gn)),(.row true EC.u32 (rl))] []))=_ by kernel_rfl) ?_
 rw[wrap_id (by omega) (by omega)]
 refine brS_of (fun c=>?_) fun c=>⟨h1,by simp at c;omega,h⟩
 have e:gn.getD i.toNat 0=0:=by
  have c:(gn.length:Int)<=i:=by simpa using c
  rw[List.getD_eq_getElem?_getD,List.getElem?_eq_none (by omega)];rfl
 rw[e] at h
 exact h
theorem s_slGen:SoundT C0 111 tSlGen:=by
 refine .of Tryz.func111 (by decide) rfl fun args H K h hB=>?_
 unfold tSlGen at h
 split at h<;>try exact h.elim
 unfold slM at h
 split at h<;>try exact h.elim
 rename_i i _ fr us gn rl
 exact⟨A0,trivial,vc_slGen us gn rl fr i K h.1 h.2.1 h.2.2.1 h.2.2.2⟩
theorem vc_slFree (us:List Bool)(gn rl:List Int)(fr:Int)(K:KT)(h1:1<=us.length)(h2:us.length<=65537)(h3:rl.length<=65537)(h4:0<=fr)(h5:fr<=65537)(h:K (.one (.at (vI (rl.length+(us.length-1)-fr)))) (slC us gn rl fr) []) :
  vc C0 aSlFree Tryz.f75 [.at (.ptr 0 0)] (slC us gn rl fr) (normK 4 K):=by
 refine Eq.mp (show (1<=us.length/\us.length<=65537/\K (.one (.at (.val (VI (IntKind.i64.wrap (IntKind.i64.wrap ((rl.length:Int)+((us.length:Int)-1))-IntKind.i64.wrap fr)))))) [(.box [(.slc 1),(.slc 2),(.slc 3),(.val (VU (fr)))]),(.row true EC.bool (us)),(.row true EC.u32 (gn)),(.row true EC.u32 (rl))] [])=_ by kernel_rfl) ?_
 refine⟨h1,h2,?_⟩
 rw[wrap_id (x:=fr) (by omega) (by omega),wrap_id (x:=(rl.length:Int)+((us.length:Int)-1)) (by omega) (by omega),wrap_id (by omega) (by omega)]
 exact h
theorem s_slFree:SoundT C0 75 tSlFree:=by
 refine .of Tryz.func75 (by decide) rfl fun args H K h hB=>?_
 unfold tSlFree at h
 split at h<;>try exact h.elim
 unfold slM at h
 split at h<;>try exact h.elim
 rename_i fr us gn rl
 exact⟨aSlFree,⟨frame C0.ok s_slCap _,trivial⟩,vc_slFree us gn rl fr K h.1 h.2.1 h.2.2.1 h.2.2.2.1 h.2.2.2.2.1 h.2.2.2.2.2⟩
theorem wrap_u32 {x:Int}(h1:0<=x)(h2:x<4294967296):IntKind.u32.wrap x=x:=by
 unfold IntKind.wrap
 simp[IntKind.signed,IntKind.bits]
 omega
theorem vc_slAlloc (us:List Bool)(gn rl:List Int)(fr:Int)(K:KT)(h1:1<=us.length)(h2:us.length<=65537)(h3:rl.length<=65537)(h4:0<=fr)(h5:fr<=65537)(h6:gn.length=us.length)(h7:relOK rl us.length)(h8:0<=(rl.length:Int)+(us.length-1)-fr)(ha:(rl.length:Int)+(us.length-1)-fr=0->K (.tup [.at (vU 0),.at (vI 2)]) (slC us gn rl fr) [0,1,2,3])(hb:0<(rl.length:Int)+(us.length-1)-fr->∀ i rl' fr',(i,rl',fr')=fresh3 rl fr->K (.tup [.at (vU i),.at (vI 0)]) (slC (us.set i.toNat true) (gn.set i.toNat (IntKind.u32.wrap (gn.getD i.toNat 0+1))) rl' fr') [0,1,2,3]) :
  vc C0 aSlAlloc Tryz.f80 [.at (.ptr 0 0)] (slC us gn rl fr) (normK 4 (wideK [0,1,2,3] K)):=by
 refine Eq.mp (show (1<=us.length/\us.length<=65537/\rl.length<=65537/\0<=fr/\fr<=65537/\brS ((rl.length:Int)+((us.length:Int)-1)-fr==0) (K (.tup [(.at (.val (VU 0))),(.at (.val (VI 2)))]) [(.box [(.slc 1),(.slc 2),(.slc 3),(.val (VU (fr)))]),(.row true EC.bool (us)),(.row true EC.u32 (gn)),(.row true EC.u32 (rl))] [0,1,2,3]) (brS (decide (IntKind.i64.wrap ((rl.length:Int)-1)≥0)) (0<=IntKind.i64.wrap ((rl.length:Int)-1)/\IntKind.i64.wrap ((rl.length:Int)-1)<(rl.length:Int)/\0<=IntKind.i64.wrap ((rl.length:Int)-1)/\IntKind.i64.wrap ((rl.length:Int)-1)<=(rl.length:Int)/\0<=rl.getD (IntKind.i64.wrap ((rl.length:Int)-1)).toNat 0/\rl.getD (IntKind.i64.wrap ((rl.length:Int)-1)).toNat 0<(us.length:Int)/\0<=rl.getD (IntKind.i64.wrap ((rl.length:Int)-1)).toNat 0/\rl.getD (IntKind.i64.wrap ((rl.length:Int)-1)).toNat 0<(gn.length:Int)/\0<=rl.getD (IntKind.i64.wrap ((rl.length:Int)-1)).toNat 0/\rl.getD (IntKind.i64.wrap ((rl.length:Int)-1)).toNat 0<(gn.length:Int)/\K (.tup [(.at (.val (VU (rl.getD (IntKind.i64.wrap ((rl.length:Int)-1)).toNat 0)))),(.at (.val (VI 0)))]) [(.box [(.slc 1),(.slc 2),(.slc 3),(.val (VU (fr)))]),(.row true EC.bool (us.set (rl.getD (IntKind.i64.wrap ((rl.length:Int)-1)).toNat 0).toNat true)),(.row true EC.u32 (gn.set (rl.getD (IntKind.i64.wrap ((rl.length:Int)-1)).toNat 0).toNat (IntKind.u32.wrap (gn.getD (rl.getD (IntKind.i64.wrap ((rl.length:Int)-1)).toNat 0).toNat 0+1)))),(.row true EC.u32 (List.take (IntKind.i64.wrap ((rl.length:Int)-1)).toNat rl))] [0,1,2,3]) (0<=IntKind.u32.wrap (fr+1)/\
 IntKind.u32.wrap (fr+1)<(us.length:Int)/\0<=IntKind.u32.wrap (fr+1)/\IntKind.u32.wrap (fr+1)<(gn.length:Int)/\0<=IntKind.u32.wrap (fr+1)/\IntKind.u32.wrap (fr+1)<(gn.length:Int)/\K (.tup [(.at (.val (VU (IntKind.u32.wrap (fr+1))))),(.at (.val (VI 0)))]) [(.box [(.slc 1),(.slc 2),(.slc 3),(.val (VU (IntKind.u32.wrap (fr+1))))]),(.row true EC.bool (us.set (IntKind.u32.wrap (fr+1)).toNat true)),(.row true EC.u32 (gn.set (IntKind.u32.wrap (fr+1)).toNat (IntKind.u32.wrap (gn.getD (IntKind.u32.wrap (fr+1)).toNat 0+1)))),(.row true EC.u32 (rl))] [0,1,2,3])))=_ by kernel_rfl) ?_
 rw[wrap_id (x:=(rl.length:Int)-1) (by omega) (by omega),wrap_u32 (x:=fr+1) (by omega) (by omega)]
 refine⟨h1,h2,h3,h4,h5,brS_of (fun c=>ha (by simpa using c)) fun c=>?_⟩
 have c:¬ (rl.length:Int)+(us.length-1)-fr=0:=by simpa using c
 have hb:=hb (by omega)
 refine brS_of (fun d=>?_) fun d=>?_
 ·have d:0<=(rl.length:Int)-1:=by simpa using d
  have e:((rl.length:Int)-1).toNat=rl.length-1:=by omega
  rw[e]
  have hm:rl.getD (rl.length-1) 0∈rl:=by
   have:rl.length-1<rl.length:=by omega
   rw[List.getD_eq_getElem?_getD,List.getElem?_eq_getElem this]
   exact List.getElem_mem this
  have hr:=h7 _ hm
  exact⟨by omega,by omega,by omega,by omega,hr.1,hr.2,hr.1,by omega,hr.1,by omega,hb _ _ _ (by unfold fresh3;rw[if_pos (by omega)];rfl)⟩
 ·have d:¬ 0<=(rl.length:Int)-1:=by simpa using d
  exact⟨by omega,by omega,by omega,by omega,by omega,by omega,hb _ _ _ (by unfold fresh3;rw[if_neg (by omega)])⟩
theorem s_slAlloc:SoundT C0 80 tSlAlloc:=by
 refine .ofW [0,1,2,3] Tryz.func80 (by decide) rfl fun args H K h hB=>?_
 unfold tSlAlloc at h
 split at h<;>try exact h.elim
 unfold slM at h
 split at h<;>try exact h.elim
 rename_i fr us gn rl
 exact⟨aSlAlloc,⟨frame C0.ok s_slFree _,trivial⟩,vc_slAlloc us gn rl fr K h.1 h.2.1 h.2.2.1 h.2.2.2.1 h.2.2.2.2.1 h.2.2.2.2.2.1 h.2.2.2.2.2.2.1 h.2.2.2.2.2.2.2.1 h.2.2.2.2.2.2.2.2.1 h.2.2.2.2.2.2.2.2.2⟩
theorem vc_slRelease (us:List Bool)(gn rl:List Int)(fr i:Int)(K:KT)(h1:0<=i)(h2:i<4294967296)(h3:us.length<=65537)(h4:rl.length<=65537)(h5:us.getD i.toNat false=true)(h:K (.one (.at (vI 0))) (slC (us.set i.toNat false) gn (rl++[i]) fr) [0,1,3]) :
  vc C0 aSlRelease Tryz.f74 [.at (.ptr 0 0),.at (vU i)] (slC us gn rl fr) (normK 4 K):=by
 refine Eq.mp (show (0<=i/\i<4294967296/\us.length<=65537/\brS (!us.getD i.toNat false) (K (.one (.at (.val (VI 3)))) [(.box [(.slc 1),(.slc 2),(.slc 3),(.val (VU (fr)))]),(.row true EC.bool (us)),(.row true EC.u32 (gn)),(.row true EC.u32 (rl))] []) (0<=i/\i<(us.length:Int)/\(rl.length+[i].length)*bytesOf C0 EC.u32<=140737488355328/\K (.one (.at (.val (VI 0)))) [(.box [(.slc 1),(.slc 2),(.slc 3),(.val (VU (fr)))]),(.row true EC.bool (us.set i.toNat false)),(.row true EC.u32 (gn)),(.row true EC.u32 (rl++[i]))] [0,1,3]))=_ by kernel_rfl) ?_
 simp only[bytes_u32]
 refine⟨h1,h2,h3,brS_of (fun c=>?_) fun c=>⟨h1,?_,?_,h⟩⟩
 ·rw[h5] at c;cases c
 ·rcases Nat.lt_or_ge i.toNat us.length with hh|hh
  ·omega
  ·rw[List.getD_eq_getElem?_getD,List.getElem?_eq_none hh] at h5;cases h5
 ·simp;omega
theorem s_slRelease:SoundT C0 74 tSlRelease:=by
 refine .of Tryz.func74 (by decide) rfl fun args H K h hB=>?_
 unfold tSlRelease at h
 split at h<;>try exact h.elim
 unfold slM at h
 split at h<;>try exact h.elim
 rename_i i _ fr us gn rl
 exact⟨aSlRelease,⟨frame C0.ok s_slAllocated _,trivial⟩,vc_slRelease us gn rl fr i K h.1 h.2.1 h.2.2.1 h.2.2.2.1 h.2.2.2.2.1 h.2.2.2.2.2⟩
end Go.Proofs.YtedfbafngmicpaaGreat.Sx
end
section
/- The arena's functions. -/
namespace Go.Proofs.YtedfbafngmicpaaGreat.Sx
open Go

abbrev chS (S:Arn):List (Chunk C0):=[.box [.ptr 1 0,.slc 2,.slc 3,vU64 S.reads],.box [.slc 4,.slc 5,.slc 6,vU S.fresh],.row true EC.node S.nodes,.row true EC.int S.counts,.row true EC.bool S.used,.row true EC.u32 S.gen,.row true EC.u32 S.rel]
def arM (H:List (Chunk C0))(k:Arn->Prop):Prop:=match H with
 | [.box [.ptr 1 0,.slc 2,.slc 3,.val (.int .u64 rd)],.box [.slc 4,.slc 5,.slc 6,.val (.int .u32 fr)],.row true .node nd,.row true .int ct,.row true .bool us,.row true .u32 gn,.row true .u32 rl]=>k ⟨us,gn,rl,fr,nd,ct,rd⟩
 | _=>False
def arMr (H:List (Chunk C0))(k:Arn->List (Chunk C0)->Prop):Prop:=match H with
 | .box [.ptr 1 0,.slc 2,.slc 3,.val (.int .u64 rd)]::.box [.slc 4,.slc 5,.slc 6,.val (.int .u32 fr)]::.row true .node nd::.row true .int ct::.row true .bool us::.row true .u32 gn::.row true .u32 rl::rest=>k ⟨us,gn,rl,fr,nd,ct,rd⟩ rest
 | _=>False
abbrev nodeA (n:NodeT):TV:=.agg [vI n.key,vI n.value,vU n.left,vU n.right,vI n.size,vI n.sum,vI n.min,vI n.max]
abbrev W7:List Nat:=[0,1,2,3,4,5,6]
def inU (i:Int):Prop:=0<=i/\i<4294967296
def exW (S:Arn):Prop:=∃ hs,Wf S hs
def live (S:Arn)(i:Int):Prop:=i=0∨S.us i=true

noncomputable def aFree:Ann C0:={ Γ:=[(75,frameT [] tSlFree)] }
def tFree:Tfm C0:=fun args H K=>match args with
 | [.at (.ptr 0 0)]=>arM H fun S=>exW S/\K (.one (.at (vI S.free))) (chS S) []
 | _=>False
noncomputable def aCap:Ann C0:={ Γ:=[(77,frameT [] tSlCap)] }
def tCap:Tfm C0:=fun args H K=>match args with
 | [.at (.ptr 0 0)]=>arM H fun S=>exW S/\K (.one (.at (vI S.cap))) (chS S) []
 | _=>False
noncomputable def aAlc:Ann C0:={ Γ:=[(59,frameT [] tSlAllocated)] }
def tNode:Tfm C0:=fun args H K=>match args with
 | [.at (.ptr 0 0),.at (.val (.int .u32 i))]=>arM H fun S=>inU i/\exW S/\S.reads<4000000000000000000/\∀ S',S'=rdS S (S.us i).toNat->K (.tup [nodeA (S.nd i),.at (vB (S.us i))]) (chS S') [0]
 | _=>False
def tSize:Tfm C0:=fun args H K=>match args with
 | [.at (.ptr 0 0),.at (.val (.int .u32 i))]=>arM H fun S=>inU i/\exW S/\S.reads<4000000000000000000/\∀ S',S'=rdS S (S.us i).toNat->K (.one (.at (vI (S.nd i).size))) (chS S') [0]
 | _=>False
def tCount:Tfm C0:=fun args H K=>match args with
 | [.at (.ptr 0 0),.at (.val (.int .u32 i))]=>arM H fun S=>inU i/\exW S/\K (.one (.at (vI (if S.us i then S.ct i else 0)))) (chS S) []
 | _=>False
noncomputable def aGen:Ann C0:={ Γ:=[(111,frameT [] tSlGen)] }
def tGen:Tfm C0:=fun args H K=>match args with
 | [.at (.ptr 0 0),.at (.val (.int .u32 i))]=>arM H fun S=>inU i/\exW S/\K (.one (.at (vU (S.gn i)))) (chS S) []
 | _=>False
def tRetain:Tfm C0:=fun args H K=>match args with
 | [.at (.ptr 0 0),.at (.val (.int .u32 i))]=>arM H fun S=>inU i/\exW S/\(i=0->K (.one (.at (vI 0))) (chS S) [3])/\(i≠0->S.us i=false->K (.one (.at (vI 3))) (chS S) [3])/\(S.us i=true->∀ S',S'=retA S i->K (.one (.at (vI 0))) (chS S') [3])
 | _=>False
def newUs (c:Int):List Bool:=List.replicate (c.toNat+1) false
def newGn (c:Int):List Int:=List.replicate (c.toNat+1) 0
noncomputable def aSlNew:Ann C0:={ Γ:=[] }
def tSlNew:Tfm C0:=fun args H K=>match args,H with
 | [.at (.val (.int .i64 c))],[]=>(c<1∨65536<c->K (.tup [.at (.val (.pointer none)),.at (vI 1)]) [] [])/\(1<=c->c<=65536->∀ (us:List Bool) (gn:List Int),us=newUs c->gn=newGn c->K (.tup [.at (.ptr 0 0),.at (vI 0)]) (slC us gn [] 0) [])
 | _,_=>False
noncomputable def aNew:Ann C0:={ Γ:=[(76,frameT [] tSlNew)] }
def tNew:Tfm C0:=fun args H K=>match args,H with
 | [.at (.val (.int .i64 c))],[]=>(c<1∨65536<c->K (.tup [.at (.val (.pointer none)),.at (vI 1)]) [] [])/\(1<=c->c<=65536->∀ S,S=newS c.toNat->K (.tup [.at (.ptr 0 0),.at (vI 0)]) (chS S) [])
 | _,_=>False
theorem getD_false {l:List Bool}{i:Nat}(h:l.getD i false=true):i<l.length:=by
 rcases Nat.lt_or_ge i l.length with hh|hh
 ·exact hh
 ·rw[List.getD_eq_getElem?_getD,List.getElem?_eq_none hh] at h;cases h
theorem vc_free (S:Arn)(K:KT)(hw:exW S)(h:K (.one (.at (vI S.free))) (chS S) []):vc C0 aFree Tryz.f27 [.at (.ptr 0 0)] (chS S) (normK 7 K):=by
 refine Eq.mp (show (1<=S.used.length/\S.used.length<=65537/\S.rel.length<=65537/\0<=S.fresh/\S.fresh<=65537/\K (.one (.at (.val (VI ((S.rel.length:Int)+((S.used.length:Int)-1)-S.fresh))))) [(.box [(.ptr 1 0),(.slc 2),(.slc 3),(.val (VW (S.reads)))]),(.box [(.slc 4),(.slc 5),(.slc 6),(.val (VU (S.fresh)))]),(.row true EC.node (S.nodes)),(.row true EC.int (S.counts)),(.row true EC.bool (S.used)),(.row true EC.u32 (S.gen)),(.row true EC.u32 (S.rel))] [])=_ by kernel_rfl) ?_
 obtain⟨hs,hw⟩:=hw
 have h1:=hw.n1;have h2:=hw.n2;have h3:=hw.fr;have h4:=hw.free_nonneg
 exact⟨by omega,by omega,by omega,by omega,by omega,h⟩
theorem s_free:SoundT C0 27 tFree:=by
 refine .of Tryz.func27 (by decide) rfl fun args H K h hB=>?_
 unfold tFree at h
 split at h<;>try exact h.elim
 unfold arM at h
 split at h<;>try exact h.elim
 rename_i rd fr nd ct us gn rl
 exact⟨aFree,⟨frame C0.ok s_slFree _,trivial⟩,vc_free ⟨us,gn,rl,fr,nd,ct,rd⟩ K h.1 h.2⟩
theorem vc_cap (S:Arn)(K:KT)(hw:exW S)(h:K (.one (.at (vI S.cap))) (chS S) []):vc C0 aCap Tryz.f29 [.at (.ptr 0 0)] (chS S) (normK 7 K):=by
 refine Eq.mp (show (1<=S.used.length/\S.used.length<=65537/\K (.one (.at (.val (VI ((S.used.length:Int)-1))))) [(.box [(.ptr 1 0),(.slc 2),(.slc 3),(.val (VW (S.reads)))]),(.box [(.slc 4),(.slc 5),(.slc 6),(.val (VU (S.fresh)))]),(.row true EC.node (S.nodes)),(.row true EC.int (S.counts)),(.row true EC.bool (S.used)),(.row true EC.u32 (S.gen)),(.row true EC.u32 (S.rel))] [])=_ by kernel_rfl) ?_
 obtain⟨hs,hw⟩:=hw
 have h1:=hw.n1;have h2:=hw.n2
 exact⟨by omega,by omega,h⟩
theorem s_cap:SoundT C0 29 tCap:=by
 refine .of Tryz.func29 (by decide) rfl fun args H K h hB=>?_
 unfold tCap at h
 split at h<;>try exact h.elim
 unfold arM at h
 split at h<;>try exact h.elim
 rename_i rd fr nd ct us gn rl
 exact⟨aCap,⟨frame C0.ok s_slCap _,trivial⟩,vc_cap ⟨us,gn,rl,fr,nd,ct,rd⟩ K h.1 h.2⟩
theorem wrap_u64 {x:Int}(h1:0<=x)(h2:x<18446744073709551616):IntKind.u64.wrap x=x:=by
 unfold IntKind.wrap
 simp[IntKind.signed,IntKind.bits]
 omega
theorem vc_node (S:Arn)(i:Int)(K:KT)(hi:inU i)(hw:exW S)(hr:S.reads<4000000000000000000)(h:∀ S',S'=rdS S (S.us i).toNat->K (.tup [nodeA (S.nd i),.at (vB (S.us i))]) (chS S') [0]) :
  vc C0 aAlc Tryz.f86 [.at (.ptr 0 0),.at (vU i)] (chS S) (normK 7 (wideK [0] K)):=by
 refine Eq.mp (show (0<=i/\i<4294967296/\S.used.length<=65537/\brS (!S.us i) (K (.tup [(TV.agg [(.val (VI 0)),(.val (VI 0)),(.val (VU 0)),(.val (VU 0)),(.val (VI 0)),(.val (VI 0)),(.val (VI 0)),(.val (VI 0))]),(.at (.val (Value.bool false)))]) [(.box [(.ptr 1 0),(.slc 2),(.slc 3),(.val (VW (S.reads)))]),(.box [(.slc 4),(.slc 5),(.slc 6),(.val (VU (S.fresh)))]),(.row true EC.node (S.nodes)),(.row true EC.int (S.counts)),(.row true EC.bool (S.used)),(.row true EC.u32 (S.gen)),(.row true EC.u32 (S.rel))] [0]) (0<=i/\i<(S.nodes.length:Int)/\K (.tup [(TV.agg [(.val (VI ((S.nd i).key))),(.val (VI ((S.nd i).value))),(.val (VU ((S.nd i).left))),(.val (VU ((S.nd i).right))),(.val (VI ((S.nd i).size))),(.val (VI ((S.nd i).sum))),(.val (VI ((S.nd i).min))),(.val (VI ((S.nd i).max)))]),(.at (.val (Value.bool true)))]) [(.box [(.ptr 1 0),(.slc 2),(.slc 3),(.val (VW (IntKind.u64.wrap (S.reads+1))))]),(.box [(.slc 4),(.slc 5),(.slc 6),(.val (VU (S.fresh)))]),(.row true EC.node (S.nodes)),(.row true EC.int (S.counts)),(.row true EC.bool (S.used)),(.row true EC.u32 (S.gen)),(.row true EC.u32 (S.rel))] [0]))=_ by kernel_rfl) ?_
 obtain⟨hs,hw⟩:=hw
 have h2:=hw.n2;have h3:=hw.nnod;have h4:=hw.rds
 rw[wrap_u64 (by omega) (by omega)]
 refine⟨hi.1,hi.2,by omega,brS_of (fun c=>?_) fun c=>?_⟩
 ·have c:S.us i=false:=by simpa using c
  have h5:=h _ rfl
  rw[hw.zero i c,c] at h5
  have e:rdS S (false.toNat)=S:=by simp[rdS]
  rw[e] at h5
  exact h5
 ·have c:S.us i=true:=by simpa using c
  have hp:=hw.pos c
  have h5:=h _ rfl
  rw[c] at h5
  exact⟨hi.1,by omega,h5⟩
theorem s_node:SoundT C0 86 tNode:=by
 refine .ofW [0] Tryz.func86 (by decide) rfl fun args H K h hB=>?_
 unfold tNode at h
 split at h<;>try exact h.elim
 unfold arM at h
 split at h<;>try exact h.elim
 rename_i i _ rd fr nd ct us gn rl
 exact⟨aAlc,⟨frame C0.ok s_slAllocated _,trivial⟩,vc_node ⟨us,gn,rl,fr,nd,ct,rd⟩ i K h.1 h.2.1 h.2.2.1 h.2.2.2⟩
theorem vc_size (S:Arn)(i:Int)(K:KT)(hi:inU i)(hw:exW S)(hr:S.reads<4000000000000000000)(h:∀ S',S'=rdS S (S.us i).toNat->K (.one (.at (vI (S.nd i).size))) (chS S') [0]) :
  vc C0 aAlc Tryz.f41 [.at (.ptr 0 0),.at (vU i)] (chS S) (normK 7 (wideK [0] K)):=by
 refine Eq.mp (show (0<=i/\i<4294967296/\S.used.length<=65537/\brS (!S.us i) (K (.one (.at (.val (VI 0)))) [(.box [(.ptr 1 0),(.slc 2),(.slc 3),(.val (VW (S.reads)))]),(.box [(.slc 4),(.slc 5),(.slc 6),(.val (VU (S.fresh)))]),(.row true EC.node (S.nodes)),(.row true EC.int (S.counts)),(.row true EC.bool (S.used)),(.row true EC.u32 (S.gen)),(.row true EC.u32 (S.rel))] [0]) (0<=i/\i<(S.nodes.length:Int)/\K (.one (.at (.val (VI ((S.nd i).size))))) [(.box [(.ptr 1 0),(.slc 2),(.slc 3),(.val (VW (IntKind.u64.wrap (S.reads+1))))]),(.box [(.slc 4),(.slc 5),(.slc 6),(.val (VU (S.fresh)))]),(.row true EC.node (S.nodes)),(.row true EC.int (S.counts)),(.row true EC.bool (S.used)),(.row true EC.u32 (S.gen)),(.row true EC.u32 (S.rel))] [0]))=_ by kernel_rfl) ?_
 obtain⟨hs,hw⟩:=hw
 have h2:=hw.n2;have h3:=hw.nnod;have h4:=hw.rds
 rw[wrap_u64 (by omega) (by omega)]
 refine⟨hi.1,hi.2,by omega,brS_of (fun c=>?_) fun c=>?_⟩
 ·have c:S.us i=false:=by simpa using c
  have h5:=h _ rfl
  rw[hw.zero i c,c] at h5
  have e:rdS S (false.toNat)=S:=by simp[rdS]
  rw[e] at h5
  exact h5
 ·have c:S.us i=true:=by simpa using c
  have hp:=hw.pos c
  have h5:=h _ rfl
  rw[c] at h5
  exact⟨hi.1,by omega,h5⟩
theorem s_size:SoundT C0 41 tSize:=by
 refine .ofW [0] Tryz.func41 (by decide) rfl fun args H K h hB=>?_
 unfold tSize at h
 split at h<;>try exact h.elim
 unfold arM at h
 split at h<;>try exact h.elim
 rename_i i _ rd fr nd ct us gn rl
 exact⟨aAlc,⟨frame C0.ok s_slAllocated _,trivial⟩,vc_size ⟨us,gn,rl,fr,nd,ct,rd⟩ i K h.1 h.2.1 h.2.2.1 h.2.2.2⟩
theorem vc_count (S:Arn)(i:Int)(K:KT)(hi:inU i)(hw:exW S)(h:K (.one (.at (vI (if S.us i then S.ct i else 0)))) (chS S) []) :
  vc C0 aAlc Tryz.f60 [.at (.ptr 0 0),.at (vU i)] (chS S) (normK 7 K):=by
 refine Eq.mp (show (0<=i/\i<4294967296/\S.used.length<=65537/\brS (!S.us i) (K (.one (.at (.val (VI 0)))) [(.box [(.ptr 1 0),(.slc 2),(.slc 3),(.val (VW (S.reads)))]),(.box [(.slc 4),(.slc 5),(.slc 6),(.val (VU (S.fresh)))]),(.row true EC.node (S.nodes)),(.row true EC.int (S.counts)),(.row true EC.bool (S.used)),(.row true EC.u32 (S.gen)),(.row true EC.u32 (S.rel))] []) (0<=i/\i<(S.counts.length:Int)/\K (.one (.at (.val (VI (S.ct i))))) [(.box [(.ptr 1 0),(.slc 2),(.slc 3),(.val (VW (S.reads)))]),(.box [(.slc 4),(.slc 5),(.slc 6),(.val (VU (S.fresh)))]),(.row true EC.node (S.nodes)),(.row true EC.int (S.counts)),(.row true EC.bool (S.used)),(.row true EC.u32 (S.gen)),(.row true EC.u32 (S.rel))] []))=_ by kernel_rfl) ?_
 obtain⟨hs,hw⟩:=hw
 have h2:=hw.n2;have h3:=hw.ncnt
 refine⟨hi.1,hi.2,by omega,brS_of (fun c=>?_) fun c=>?_⟩
 ·have c:S.us i=false:=by simpa using c
  rw[c] at h
  exact h
 ·have c:S.us i=true:=by simpa using c
  have hp:=hw.pos c
  rw[c] at h
  exact⟨hi.1,by omega,h⟩
theorem s_count:SoundT C0 60 tCount:=by
 refine .of Tryz.func60 (by decide) rfl fun args H K h hB=>?_
 unfold tCount at h
 split at h<;>try exact h.elim
 unfold arM at h
 split at h<;>try exact h.elim
 rename_i i _ rd fr nd ct us gn rl
 exact⟨aAlc,⟨frame C0.ok s_slAllocated _,trivial⟩,vc_count ⟨us,gn,rl,fr,nd,ct,rd⟩ i K h.1 h.2.1 h.2.2⟩
theorem vc_gen (S:Arn)(i:Int)(K:KT)(hi:inU i)(hw:exW S)(h:K (.one (.at (vU (S.gn i)))) (chS S) []) :
  vc C0 aGen Tryz.f61 [.at (.ptr 0 0),.at (vU i)] (chS S) (normK 7 K):=by
 refine Eq.mp (show (0<=i/\i<4294967296/\S.gen.length<=65537/\K (.one (.at (.val (VU (S.gn i))))) [(.box [(.ptr 1 0),(.slc 2),(.slc 3),(.val (VW (S.reads)))]),(.box [(.slc 4),(.slc 5),(.slc 6),(.val (VU (S.fresh)))]),(.row true EC.node (S.nodes)),(.row true EC.int (S.counts)),(.row true EC.bool (S.used)),(.row true EC.u32 (S.gen)),(.row true EC.u32 (S.rel))] [])=_ by kernel_rfl) ?_
 obtain⟨hs,hw⟩:=hw
 have h2:=hw.n2;have h3:=hw.ngen
 exact⟨hi.1,hi.2,by omega,h⟩
theorem s_gen:SoundT C0 61 tGen:=by
 refine .of Tryz.func61 (by decide) rfl fun args H K h hB=>?_
 unfold tGen at h
 split at h<;>try exact h.elim
 unfold arM at h
 split at h<;>try exact h.elim
 rename_i i _ rd fr nd ct us gn rl
 exact⟨aGen,⟨frame C0.ok s_slGen _,trivial⟩,vc_gen ⟨us,gn,rl,fr,nd,ct,rd⟩ i K h.1 h.2.1 h.2.2⟩
theorem vc_retain (S:Arn)(i:Int)(K:KT)(hi:inU i)(hw:exW S)(h0:i=0->K (.one (.at (vI 0))) (chS S) [3])(h1:i≠0->S.us i=false->K (.one (.at (vI 3))) (chS S) [3])(h:S.us i=true->∀ S',S'=retA S i->K (.one (.at (vI 0))) (chS S') [3]) :
  vc C0 aAlc Tryz.f87 [.at (.ptr 0 0),.at (vU i)] (chS S) (normK 7 (wideK [3] K)):=by
 refine Eq.mp (show (brS (i==0) (K (.one (.at (.val (VI 0)))) [(.box [(.ptr 1 0),(.slc 2),(.slc 3),(.val (VW (S.reads)))]),(.box [(.slc 4),(.slc 5),(.slc 6),(.val (VU (S.fresh)))]),(.row true EC.node (S.nodes)),(.row true EC.int (S.counts)),(.row true EC.bool (S.used)),(.row true EC.u32 (S.gen)),(.row true EC.u32 (S.rel))] [3]) (0<=i/\i<4294967296/\S.used.length<=65537/\brS (!S.us i) (K (.one (.at (.val (VI 3)))) [(.box [(.ptr 1 0),(.slc 2),(.slc 3),(.val (VW (S.reads)))]),(.box [(.slc 4),(.slc 5),(.slc 6),(.val (VU (S.fresh)))]),(.row true EC.node (S.nodes)),(.row true EC.int (S.counts)),(.row true EC.bool (S.used)),(.row true EC.u32 (S.gen)),(.row true EC.u32 (S.rel))] [3]) (0<=i/\i<(S.counts.length:Int)/\0<=i/\i<(S.counts.length:Int)/\K (.one (.at (.val (VI 0)))) [(.box [(.ptr 1 0),(.slc 2),(.slc 3),(.val (VW (S.reads)))]),(.box [(.slc 4),(.slc 5),(.slc 6),(.val (VU (S.fresh)))]),(.row true EC.node (S.nodes)),(.row true EC.int (S.counts.set i.toNat (IntKind.i64.wrap (S.ct i+1)))),(.row true EC.bool (S.used)),(.row true EC.u32 (S.gen)),(.row true EC.u32 (S.rel))] [3])))=_ by kernel_rfl) ?_
 obtain⟨hs,hw⟩:=hw
 have h2:=hw.n2;have h3:=hw.ncnt
 refine brS_of (fun c=>h0 (by simpa using c)) fun c=>⟨hi.1,hi.2,by omega,brS_of (fun d=>?_) fun d=>?_⟩
 ·exact h1 (by simpa using c) (by simpa using d)
 ·have d:S.us i=true:=by simpa using d
  have hp:=hw.pos d
  exact⟨hi.1,by omega,hi.1,by omega,h d _ rfl⟩
theorem s_retain:SoundT C0 87 tRetain:=by
 refine .ofW [3] Tryz.func87 (by decide) rfl fun args H K h hB=>?_
 unfold tRetain at h
 split at h<;>try exact h.elim
 unfold arM at h
 split at h<;>try exact h.elim
 rename_i i _ rd fr nd ct us gn rl
 exact⟨aAlc,⟨frame C0.ok s_slAllocated _,trivial⟩,vc_retain ⟨us,gn,rl,fr,nd,ct,rd⟩ i K h.1 h.2.1 h.2.2.1 h.2.2.2.1 h.2.2.2.2⟩
theorem vc_slNew (c:Int)(K:KT)(hb:c<1∨65536<c->K (.tup [.at (.val (.pointer none)),.at (vI 1)]) [] [])(h:1<=c->c<=65536->∀ (us:List Bool) (gn:List Int),us=newUs c->gn=newGn c->K (.tup [.at (.ptr 0 0),.at (vI 0)]) (slC us gn [] 0) []) :
  vc C0 aSlNew Tryz.f76 [.at (vI c)] [] (normK 0 K):=by
 refine Eq.mp (show (brS (decide (c<1)) (K (.tup [(.at (.val (Value.pointer none))),(.at (.val (VI 1)))]) [] []) (brS (decide (c>65536)) (K (.tup [(.at (.val (Value.pointer none))),(.at (.val (VI 1)))]) [] []) ((0<=IntKind.i64.wrap (c+1)/\IntKind.i64.wrap (c+1)<=IntKind.i64.wrap (c+1)/\IntKind.i64.wrap (c+1)*(↑(bytesOf C0 EC.bool):Int)<=140737488355328/\0<=IntKind.i64.wrap (c+1)/\IntKind.i64.wrap (c+1)<=IntKind.i64.wrap (c+1)/\IntKind.i64.wrap (c+1)*(↑(bytesOf C0 EC.u32):Int)<=140737488355328/\K (.tup [(.at (.ptr 0 0)),(.at (.val (VI 0)))]) [(.box [(.slc 1),(.slc 2),(.slc 3),(.val (VU 0))]),(.row true EC.bool (List.replicate (IntKind.i64.wrap (c+1)).toNat false)),(.row true EC.u32 (List.replicate (IntKind.i64.wrap (c+1)).toNat (0:Int))),(.row true EC.u32 [])] [])/\0<=IntKind.i64.wrap (c+1)/\IntKind.i64.wrap (c+1)<=IntKind.i64.wrap (c+1)/\IntKind.i64.wrap (c+1)*(↑(bytesOf C0 EC.u32):Int)<=140737488355328/\0<=IntKind.i64.wrap (c+1)/\IntKind.i64.wrap (c+1)<=IntKind.i64.wrap (c+1)/\IntKind.i64.wrap (c+1)*(↑(bytesOf C0 EC.bool):Int)<=140737488355328/\K (.tup [(.at (.ptr 0 0)),(.at (.val (VI 0)))]) [(.box [(.slc 1),(.slc 2),(.slc 3),(.val (VU 0))]),(.row true EC.bool (List.replicate (IntKind.i64.wrap (c+1)).toNat false)),(.row true EC.u32 (List.replicate (IntKind.i64.wrap (c+1)).toNat (0:Int))),(.row true EC.u32 [])] [])))=_ by kernel_rfl) ?_
 simp only[bytes_bool,bytes_u32]
 refine brS_of (fun d=>hb (.inl (by simpa using d))) fun d=>brS_of (fun e=>hb (.inr (by simpa using e))) fun e=>?_
 have d:1<=c:=by simp at d;omega
 have e:c<=65536:=by simp at e;omega
 have h:=h d e _ _ rfl rfl
 unfold newUs newGn at h
 rw[wrap_id (x:=c+1) (by omega) (by omega),show (c+1).toNat=c.toNat+1 by omega]
 exact⟨⟨by omega,by omega,by omega,by omega,by omega,by omega,h⟩,by omega,by omega,by omega,by omega,by omega,by omega,h⟩
theorem s_slNew:SoundT C0 76 tSlNew:=by
 refine .of Tryz.func76 (by decide) rfl fun args H K h hB=>?_
 unfold tSlNew at h
 split at h<;>try exact h.elim
 rename_i c
 exact⟨aSlNew,trivial,vc_slNew c K h.1 h.2⟩
theorem vc_new (c:Int)(K:KT)(hb:c<1∨65536<c->K (.tup [.at (.val (.pointer none)),.at (vI 1)]) [] [])(h:1<=c->c<=65536->∀ S,S=newS c.toNat->K (.tup [.at (.ptr 0 0),.at (vI 0)]) (chS S) []) :
  vc C0 aNew Tryz.f28 [.at (vI c)] [] (normK 0 K):=by
 refine Eq.mp (show ((c<1∨65536<c->K (.tup [(.at (.val (Value.pointer none))),(.at (.val (VI 1)))]) [] [])/\(1<=c->c<=65536->∀ us:List Bool,∀ gn:List Int,us=newUs c->gn=newGn c->(0<=IntKind.i64.wrap (c+1)/\IntKind.i64.wrap (c+1)<=IntKind.i64.wrap (c+1)/\IntKind.i64.wrap (c+1)*(↑(bytesOf C0 EC.node):Int)<=140737488355328/\0<=IntKind.i64.wrap (c+1)/\IntKind.i64.wrap (c+1)<=IntKind.i64.wrap (c+1)/\IntKind.i64.wrap (c+1)*(↑(bytesOf C0 EC.int):Int)<=140737488355328/\K (.tup [(.at (.ptr 0 0)),(.at (.val (VI 0)))]) [(.box [(.ptr 1 0),(.slc 2),(.slc 3),(.val (VW 0))]),(.box [(.slc 4),(.slc 5),(.slc 6),(.val (VU 0))]),(.row true EC.node (List.replicate (IntKind.i64.wrap (c+1)).toNat NodeT.zero)),(.row true EC.int (List.replicate (IntKind.i64.wrap (c+1)).toNat (0:Int))),(.row true EC.bool (us)),(.row true EC.u32 (gn)),(.row true EC.u32 [])] [])/\0<=IntKind.i64.wrap (c+1)/\IntKind.i64.wrap (c+1)<=IntKind.i64.wrap (c+1)/\IntKind.i64.wrap (c+1)*(↑(bytesOf C0 EC.int):Int)<=140737488355328/\0<=IntKind.i64.wrap (c+1)/\IntKind.i64.wrap (c+1)<=IntKind.i64.wrap (c+1)/\IntKind.i64.wrap (c+1)*(↑(bytesOf C0 EC.node):Int)<=140737488355328/\K (.tup [(.at (.ptr 0 0)),(.at (.val (VI 0)))]) [(.box [(.ptr 1 0),(.slc 2),(.slc 3),(.val (VW 0))]),(.box [(.slc 4),(.slc 5),(.slc 6),(.val (VU 0))]),(.row true EC.node (List.replicate (IntKind.i64.wrap (c+1)).toNat NodeT.zero)),(.row true EC.int (List.replicate (IntKind.i64.wrap (c+1)).toNat (0:Int))),(.row true EC.bool (us)),(.row true EC.u32 (gn)),(.row true EC.u32 [])] []))=_ by kernel_rfl) ?_
 simp only[bytes_node,bytes_int]
 refine⟨hb,fun d e us gn hu hg=>?_⟩
 have h:=h d e _ rfl
 subst hu hg
 unfold newUs newGn
 rw[wrap_id (x:=c+1) (by omega) (by omega),show (c+1).toNat=c.toNat+1 by omega]
 exact⟨⟨by omega,by omega,by omega,by omega,by omega,by omega,h⟩,by omega,by omega,by omega,by omega,by omega,by omega,h⟩
theorem s_new:SoundT C0 28 tNew:=by
 refine .of Tryz.func28 (by decide) rfl fun args H K h hB=>?_
 unfold tNew at h
 split at h<;>try exact h.elim
 rename_i c
 exact⟨aNew,⟨frame C0.ok s_slNew _,trivial⟩,vc_new c K h.1 h.2⟩
end Go.Proofs.YtedfbafngmicpaaGreat.Sx
end
section
/- word: Uvarint. -/
namespace Go.Proofs.YtedfbafngmicpaaGreat.Sx
open Go

/-KEEP vE vD orI xorI andI uvA uvD allB-/
def allB (b:List Int):Prop:=∀ c∈b,0<=c/\c<256
abbrev getB (l:List Int)(i:Nat):Int:=l.getD i 0
def uvD (b:List Int)(at_:Int):Int × Int × Int:=if at_<0∨(b.length:Int)<at_ then (0,0,1) else
 match vD 12 13 0 (b.drop at_.toNat) 0 with
 | (u,k,e)=>if e=0 then (u,at_+k,0) else (0,0,e)
structure XUd (P:Nat->Int->Prop) where
 i:Nat
 u:Int
 h:P i u
noncomputable def aUd (P P':Nat->Int->Prop)(b:List Int)(at_:Int):Ann C0:={ Γ:=[],inv:=fun n=>match n with
 | 1009=>some { X:=XUd P',sl:=[7,8,9,20,22],tf:=fun x=>[vi .u64 x.u,vi .i64 x.i,vi .u8 (getB (b.drop at_.toNat) x.i),.one (.at (.slc 1)),vi .i64 x.i],hf:=fun _=>[.row false EC.u8 b,.row false EC.u8 (b.drop at_.toNat)],rel:=fun T _ x=>slotI T 22 x.i }
 | 5=>some { X:=XUd P,sl:=[7,20,22],tf:=fun x=>[vi .u64 x.u,.one (.at (.slc 1)),vi .i64 x.i],hf:=fun _=>[.row false EC.u8 b,.row false EC.u8 (b.drop at_.toNat)],μ:=fun x=>(b.drop at_.toNat).length-x.i }
 | _=>none }
def tUd:Tfm C0:=fun args H K=>match args,H with
 | [.at (.slc 0),.at (.val (.int .i64 at_))],[.row false .u8 b]=>allB b/\b.length<=1000000000000/\∀ u n e,uvD b at_=(u,n,e)->K (.tup [.at (vU64 u),.at (vI n),.at (vI e)]) [.row false EC.u8 b] []
 | _,_=>False
theorem uvD_eq {b:List Int}{at_ u k e:Int}(h0:0<=at_)(h1:at_<=b.length)(h:vD 12 13 0 (b.drop at_.toNat) 0=(u,k,e)):uvD b at_=if e=0 then (u,at_+k,0) else (0,0,e):=by
 unfold uvD
 rw[if_neg (by omega),h]
theorem p7:∀ i:Nat,(2:Int) ^ (7*i)=128 ^ i
 | 0=>rfl
 | i+1=>by rw[Nat.mul_add,Int.pow_add,p7 i,Int.pow_succ];rfl
def PUd (r:List Int):Nat->Int->Prop:=fun i u=>i<=9/\0<=u/\u<128 ^ i/\vD 12 13 i (r.drop i) u=vD 12 13 0 r 0
def PUd' (r:List Int):Nat->Int->Prop:=fun i u=>PUd r i u/\i<r.length/\¬ ((i=9/\1<getB r i)∨(0<i/\getB r i=0))
theorem drop_getB {r:List Int}{i:Nat}(h:i<r.length):r.drop i=getB r i::r.drop (i+1):=by
 rw[List.drop_eq_getElem_cons h];unfold getB;rw[List.getD_eq_getElem?_getD,List.getElem?_eq_getElem h];rfl
theorem getB_mem {r:List Int}{i:Nat}(h:i<r.length):getB r i∈r:=by
 unfold getB;rw[List.getD_eq_getElem?_getD,List.getElem?_eq_getElem h];exact List.getElem_mem h
theorem PUd.bad {r:List Int}{i:Nat}{u:Int}(h:PUd r i u)(hi:i<r.length)(hc:(i=9/\1<getB r i)∨(0<i/\getB r i=0)):vD 12 13 0 r 0=(0,0,13):=by
 rw[← h.2.2.2,drop_getB hi];unfold vD;rw[if_pos hc]
theorem PUd.go {r:List Int}{i:Nat}{u:Int}(h:PUd' r i u)(hr:allB r):∃ v,orI .u64 u (IntKind.u64.wrap (IntKind.u64.wrap (andI .u8 (getB r i) 127)*2 ^ min (IntKind.u64.wrap (7*IntKind.u64.wrap (i:Int))).toNat IntKind.u64.bits))=v ∧
  (getB r i<128->vD 12 13 0 r 0=(v,(i:Int)+1,0))/\(¬ getB r i<128->PUd r (i+1) v):=by
 obtain⟨⟨i9,u0,u1,e⟩,hi,hc⟩:=h
 obtain⟨c0,c1⟩:=hr _ (getB_mem hi)
 have e1:(IntKind.u64.wrap (7*IntKind.u64.wrap (i:Int))).toNat=7*i:=by
  rw[wrap_u64 (x:=(i:Int)) (by omega) (by omega),wrap_u64 (by omega) (by omega)];omega
 have e2:min (7*i) IntKind.u64.bits=7*i:=by show min (7*i) 64=_;omega
 have pp:(1:Int)<=128 ^ i:=Int.pow_pos (by decide)
 have q9:(128:Int) ^ i*2<=18446744073709551616/\(i<=8->(128:Int) ^ i*256<=18446744073709551616):=by
  have:i=0∨i=1∨i=2∨i=3∨i=4∨i=5∨i=6∨i=7∨i=8∨i=9:=by omega
  rcases this with e|e|e|e|e|e|e|e|e|e<;>subst e<;>decide +kernel
 have hw:getB r i % 128*128 ^ i+u<18446744073709551616:=by
  by_cases i8:i<=8
  ·have:=Int.mul_le_mul_of_nonneg_right (a:=getB r i % 128) (b:=127) (c:=128 ^ i) (by omega) (by omega)
   have:=q9.2 i8
   omega
  ·obtain rfl:i=9:=by omega
   have c2:¬ 1<getB r 9:=fun q=>hc (.inl ⟨rfl,q⟩)
   have:=Int.mul_le_mul_of_nonneg_right (a:=getB r 9 % 128) (b:=1) (c:=128 ^ 9) (by omega) (by omega)
   have:=q9.1
   omega
 have w0:0<=getB r i % 128*128 ^ i:=Int.mul_nonneg (by omega) (by omega)
 have ev:vD 12 13 0 r 0=if getB r i<128 then (u+getB r i % 128*128 ^ i,(i:Int)+1,0) else vD 12 13 (i+1) (r.drop (i+1)) (u+getB r i % 128*128 ^ i):=by
  rw[← e,drop_getB hi]
  conv=>lhs;unfold vD
  rw[if_neg hc]
 rw[e1,e2,andI_127 c0 c1,wrap_u64 (x:=getB r i % 128) (by omega) (by omega),p7,wrap_u64 w0 (by omega),← p7,orI_add u0 (by rw[p7];exact u1) (by omega) (by rw[p7];omega),p7]
 refine⟨_,rfl,fun z=>by rw[ev,if_pos z],fun z=>⟨?_,by omega,?_,by rw[ev,if_neg z]⟩⟩
 ·apply Classical.byContradiction
  intro n
  obtain rfl:i=9:=by omega
  exact hc (.inl ⟨rfl,by omega⟩)
 ·rw[Int.pow_succ]
  have:=Int.mul_le_mul_of_nonneg_right (a:=getB r i % 128) (b:=127) (c:=128 ^ i) (by omega) (by omega)
  omega
theorem allB_drop {b:List Int}(h:allB b)(k:Nat):allB (b.drop k):=fun c hc=>h c (List.mem_of_mem_drop hc)
theorem allB_take {b:List Int}(h:allB b)(k:Nat):allB (b.take k):=fun c hc=>h c (List.mem_of_mem_take hc)
theorem allB_app {a b:List Int}(h:allB a)(h':allB b):allB (a++b):=fun c hc=>by
 rcases List.mem_append.1 hc with hc|hc
 ·exact h c hc
 ·exact h' c hc
theorem vc_ud (b:List Int)(at_:Int)(K:KT)(hb:allB b)(hl:b.length<=1000000000000)(h:∀ u n e,uvD b at_=(u,n,e)->K (.tup [.at (vU64 u),.at (vI n),.at (vI e)]) [.row false EC.u8 b] []) :
  vc C0 (aUd (PUd (b.drop at_.toNat)) (PUd' (b.drop at_.toNat)) b at_) Tryz.f127 [.at (.slc 0),.at (.val (.int .i64 at_))] [.row false EC.u8 b] (normK 1 K):=by
 generalize hP:PUd (b.drop at_.toNat)=P
 generalize hP':PUd' (b.drop at_.toNat)=P'
 refine Eq.mp (show (brS (decide (at_<0)) (K (.tup [(.at (.val (VW 0))),(.at (.val (VI 0))),(.at (.val (VI 1)))]) [(.row false EC.u8 (b))] []) (brS (decide (at_>(b.length:Int))) (K (.tup [(.at (.val (VW 0))),(.at (.val (VI 0))),(.at (.val (VI 1)))]) [(.row false EC.u8 (b))] []) (0<=at_/\at_<=(b.length:Int)/\(b.length:Int)<=(b.length:Int)/\(∃ x:XUd P,True/\(VI (at_)=VI (at_)/\VW 0=(VW (x.u))/\True/\(VI ((↑(List.drop at_.toNat (List.take (b.length:Int).toNat b)).length:Int)))=(VI ((↑(List.drop at_.toNat (List.take (b.length:Int).toNat b)).length:Int)))/\VI 0=(VI (x.i:Int))/\True)/\b=b/\(List.drop at_.toNat (List.take (b.length:Int).toNat b))=List.drop at_.toNat b/\True)/\∀ x:XUd P,True->brS (decide ((x.i:Int)<(↑(List.drop at_.toNat (List.take (b.length:Int).toNat b)).length:Int))) (0<=(x.i:Int)/\(x.i:Int)<(↑(List.drop at_.toNat b).length:Int)/\brS ((x.i:Int)==9) (brS (decide (getB (List.drop at_.toNat b) (x.i:Int).toNat>1)) (K (.tup [(.at (.val (VW 0))),(.at (.val (VI 0))),(.at (.val (VI 13)))]) [(.row false EC.u8 (b))] []) (brS (decide ((x.i:Int)>0)) (brS (getB (List.drop at_.toNat b) (x.i:Int).toNat==0) (K (.tup [(.at (.val (VW 0))),(.at (.val (VI 0))),(.at (.val (VI 13)))]) [(.row false EC.u8 (b))] []) (∃ x1:XUd P',((x.i:Int))=((x1.i:Int))/\(VI (at_)=VI (at_)/\VW (x.u)=VW (x1.u)/\VI (x.i:Int)=VI (x1.i:Int)/\(Value.int .u8 (getB (List.drop at_.toNat b) (x.i:Int).toNat))=(Value.int .u8 (getB (List.drop at_.toNat b) x1.i))/\True/\(VI ((↑(List.drop at_.toNat (List.take (b.length:Int).toNat b)).length:Int)))=(VI ((↑(List.drop at_.toNat (List.take (b.length:Int).toNat b)).length:Int)))/\
 VI (x.i:Int)=VI (x1.i:Int)/\True)/\b=b/\List.drop at_.toNat b=List.drop at_.toNat b/\True)) (∃ x1:XUd P',((x.i:Int))=((x1.i:Int))/\(VI (at_)=VI (at_)/\VW (x.u)=VW (x1.u)/\VI (x.i:Int)=VI (x1.i:Int)/\(Value.int .u8 (getB (List.drop at_.toNat b) (x.i:Int).toNat))=(Value.int .u8 (getB (List.drop at_.toNat b) x1.i))/\True/\(VI ((↑(List.drop at_.toNat (List.take (b.length:Int).toNat b)).length:Int)))=(VI ((↑(List.drop at_.toNat (List.take (b.length:Int).toNat b)).length:Int)))/\VI (x.i:Int)=VI (x1.i:Int)/\True)/\b=b/\List.drop at_.toNat b=List.drop at_.toNat b/\True))) (brS (decide ((x.i:Int)>0)) (brS (getB (List.drop at_.toNat b) (x.i:Int).toNat==0) (K (.tup [(.at (.val (VW 0))),(.at (.val (VI 0))),(.at (.val (VI 13)))]) [(.row false EC.u8 (b))] []) (∃ x1:XUd P',((x.i:Int))=((x1.i:Int))/\(VI (at_)=VI (at_)/\VW (x.u)=VW (x1.u)/\VI (x.i:Int)=VI (x1.i:Int)/\(Value.int .u8 (getB (List.drop at_.toNat b) (x.i:Int).toNat))=(Value.int .u8 (getB (List.drop at_.toNat b) x1.i))/\True/\(VI ((↑(List.drop at_.toNat (List.take (b.length:Int).toNat b)).length:Int)))=(VI ((↑(List.drop at_.toNat (List.take (b.length:Int).toNat b)).length:Int)))/\VI (x.i:Int)=VI (x1.i:Int)/\True)/\b=b/\List.drop at_.toNat b=List.drop at_.toNat b/\True)) (∃ x1:XUd P',((x.i:Int))=((x1.i:Int))/\(VI (at_)=VI (at_)/\VW (x.u)=VW (x1.u)/\VI (x.i:Int)=VI (x1.i:Int)/\(Value.int .u8 (getB (List.drop at_.toNat b) (x.i:Int).toNat))=(Value.int .u8 (getB (List.drop at_.toNat b) x1.i))/\True/\(VI ((↑(List.drop at_.toNat (List.take (b.length:Int).toNat b)).length:Int)))=(VI ((↑(List.drop at_.toNat (List.take (b.length:Int).toNat b)).length:Int)))/\
 VI (x.i:Int)=VI (x1.i:Int)/\True)/\b=b/\List.drop at_.toNat b=List.drop at_.toNat b/\True))/\∀ x1:XUd P',((x.i:Int))=((x1.i:Int))->0<=IntKind.u64.wrap (7*IntKind.u64.wrap (x1.i:Int))/\brS (decide (getB (List.drop at_.toNat b) x1.i<128)) (K (.tup [(.at (.val (VW (orI IntKind.u64 x1.u (IntKind.u64.wrap (IntKind.u64.wrap (andI IntKind.u8 (getB (List.drop at_.toNat b) x1.i) 127)*2 ^ min (IntKind.u64.wrap (7*IntKind.u64.wrap (x1.i:Int))).toNat IntKind.u64.bits)))))),(.at (.val (VI (IntKind.i64.wrap (IntKind.i64.wrap (at_+(x1.i:Int))+1))))),(.at (.val (VI 0)))]) [(.row false EC.u8 (b))] []) (∃ x':XUd P,True/\((VI (at_)=VI (at_)/\(VW (orI IntKind.u64 x1.u (IntKind.u64.wrap (IntKind.u64.wrap (andI IntKind.u8 (getB (List.drop at_.toNat b) x1.i) 127)*2 ^ min (IntKind.u64.wrap (7*IntKind.u64.wrap (x1.i:Int))).toNat IntKind.u64.bits))))=(VW (x'.u))/\True/\(VI ((↑(List.drop at_.toNat (List.take (b.length:Int).toNat b)).length:Int)))=(VI ((↑(List.drop at_.toNat (List.take (b.length:Int).toNat b)).length:Int)))/\(VI (IntKind.i64.wrap ((x1.i:Int)+1)))=(VI (x'.i:Int))/\True)/\b=b/\List.drop at_.toNat b=List.drop at_.toNat b/\True)/\(List.drop at_.toNat b).length-x'.i<(List.drop at_.toNat b).length-x.i)) (K (.tup [(.at (.val (VW 0))),(.at (.val (VI 0))),(.at (.val (VI 12)))]) [(.row false EC.u8 (b))] []))))=_ by kernel_rfl) ?_
 subst hP hP'
 have tk:List.take (b.length:Int).toNat b=b:=by rw[Int.toNat_natCast];exact List.take_length
 rw[tk]
 refine brS_of (fun z=>?_) fun z=>brS_of (fun y=>?_) fun y=>?_
 ·have z:=of_decide_eq_true z
  exact h _ _ _ (by unfold uvD;rw[if_pos (.inl z)])
 ·have y:=of_decide_eq_true y
  exact h _ _ _ (by unfold uvD;rw[if_pos (.inr y)])
 have z:0<=at_:=by have:=of_decide_eq_false z;omega
 have y:at_<=b.length:=by have:=of_decide_eq_false y;omega
 have hr:=allB_drop hb at_.toNat
 have rl:(b.drop at_.toNat).length=b.length-at_.toNat:=List.length_drop
 generalize er:b.drop at_.toNat=r at *
 refine⟨z,y,Int.le_refl _,⟨⟨0,0,by omega,by decide,by decide,rfl⟩,?_⟩,fun x _=>brS_of (fun q=>?_) fun q=>?_⟩
 ·(repeat' first|exact trivial|exact rfl|refine And.intro ?_ ?_)
 ·obtain⟨i,u,hi⟩:=x
  dsimp only at q ⊢
  have q:i<r.length:=by have:=of_decide_eq_true q;omega
  rw[show ((i:Int)).toNat=i from rfl]
  refine⟨by omega,by omega,?_,fun x1 e1=>?_⟩
  ·have bad:∀ (hc:(i=9/\1<getB r i)∨(0<i/\getB r i=0)),K (.tup [.at (vU64 0),.at (vI 0),.at (vI 13)]) [.row false EC.u8 b] []:=fun hc =>
    h _ _ _ ((uvD_eq z y (show vD 12 13 0 (b.drop at_.toNat) 0=(0,0,13) by rw[er];exact hi.bad q hc)).trans rfl)
   have good:∀ (hc:¬ ((i=9/\1<getB r i)∨(0<i/\getB r i=0))),PUd' r i u:=fun hc=>⟨hi,q,hc⟩
   refine brS_of (fun a=>?_) fun a=>?_
   ·have a:i=9:=by have:=eq_of_beq a;omega
    refine brS_of (fun a2=>bad (.inl ⟨a,of_decide_eq_true a2⟩)) fun a2=>brS_of (fun a3=>brS_of (fun a4=>bad (.inr ⟨by omega,eq_of_beq a4⟩)) fun a4=>?_) fun a3=>?_
    ·refine⟨⟨i,u,good ?_⟩,rfl,?_⟩
     ·rintro (⟨_,k⟩|⟨_,k⟩)
      ·exact of_decide_eq_false a2 k
      ·rw[k] at a4;exact absurd a4 (by decide)
     ·(repeat' first|exact trivial|exact rfl|refine And.intro ?_ ?_)
    ·exact absurd (show (i:Int)>0 by omega) (of_decide_eq_false a3)
   ·have a:i≠9:=fun k=>by rw[k] at a;exact absurd a (by decide)
    refine brS_of (fun a3=>brS_of (fun a4=>bad (.inr ⟨by have:=of_decide_eq_true a3;omega,eq_of_beq a4⟩)) fun a4=>?_) fun a3=>?_
    ·refine⟨⟨i,u,good ?_⟩,rfl,?_⟩
     ·rintro (⟨k,_⟩|⟨_,k⟩)
      ·exact a k
      ·rw[k] at a4;exact absurd a4 (by decide)
     ·(repeat' first|exact trivial|exact rfl|refine And.intro ?_ ?_)
    ·refine⟨⟨i,u,good ?_⟩,rfl,?_⟩
     ·rintro (⟨k,_⟩|⟨k,_⟩)
      ·exact a k
      ·exact of_decide_eq_false a3 (by omega)
     ·(repeat' first|exact trivial|exact rfl|refine And.intro ?_ ?_)
  ·obtain⟨i',u,h1⟩:=x1
   dsimp only at e1 ⊢
   obtain rfl:i=i':=by omega
   obtain⟨v,ev,g1,g2⟩:=PUd.go h1 hr
   rw[ev]
   refine⟨?_,brS_of (fun a=>?_) fun a=>?_⟩
   ·have:=h1.1.1
    rw[wrap_u64 (x:=(i:Int)) (by omega) (by omega),wrap_u64 (by omega) (by omega)];omega
   ·have:=h1.1.1
    rw[wrap_id (x:=at_+(i:Int)) (by omega) (by omega),wrap_id (by omega) (by omega)]
    exact h _ _ _ (((uvD_eq z y (show vD 12 13 0 (b.drop at_.toNat) 0=(v,(i:Int)+1,0) by rw[er];exact g1 (of_decide_eq_true a))).trans (if_pos rfl)).trans (by congr 2;omega))
   ·have p1:=g2 (of_decide_eq_false a)
    have:=h1.1.1
    rw[wrap_id (x:=(i:Int)+1) (by omega) (by omega)]
    refine⟨⟨i+1,v,p1⟩,trivial,?_,Nat.sub_lt_sub_left q (Nat.lt_succ_self i)⟩
    (repeat' first|exact trivial|exact rfl|refine And.intro ?_ ?_)
 ·obtain⟨i,u,hi⟩:=x
  dsimp only at q
  have q:r.length<=i:=by have:=of_decide_eq_false q;omega
  have e:=hi.2.2.2
  rw[List.drop_eq_nil_of_le q] at e
  exact h _ _ _ ((uvD_eq z y (show vD 12 13 0 (b.drop at_.toNat) 0=(0,0,12) by rw[er,← e];rfl)).trans rfl)
theorem s_ud:SoundT C0 127 tUd:=by
 refine .of Tryz.func127 (by decide) rfl fun args H K h hB=>?_
 unfold tUd at h
 split at h<;>try exact h.elim
 rename_i at_ b
 refine⟨_,?_,vc_ud b at_ K h.1 h.2.1 h.2.2⟩
 exact trivial
end Go.Proofs.YtedfbafngmicpaaGreat.Sx
end
section
/- word: AppendKey, Key, Zigzag, Unzigzag. -/
namespace Go.Proofs.YtedfbafngmicpaaGreat.Sx
open Go

/-KEEP vE vD orI xorI andI uvA uvD allB wB wD kyA kyD zz uz-/
def kB (k:Int):List Int:=wB 8 (k+9223372036854775808)
def kyA (b:List Int)(k:Int):List Int:=b++kB k
def kyD (b:List Int)(at_:Int):Int × Int × Int:=if at_<0∨(b.length:Int)<at_ then (0,0,1) else if (b.length:Int)-at_<8 then (0,0,12) else
 (wD ((b.drop at_.toNat).take 8)-9223372036854775808,at_+8,0)
structure XKe (P:Nat->List Int->Prop) where
 j:Nat
 o:List Int
 h:P j o
noncomputable def aKe (P:Nat->List Int->Prop)(b:List Int)(u:Int):Ann C0:={ Γ:=[],inv:=fun n=>match n with
 | 1003=>some { X:=Unit,sl:=[5,6],tf:=fun _=>[.one (.at (.slc 1)),vi .u64 u],hf:=fun _=>[.row false EC.u8 b,.row true EC.u8 b] }
 | 4=>some { X:=XKe P,sl:=[5,7],tf:=fun x=>[.one (.at (.slc 1)),vi .i64 (56-8*(x.j:Int))],hf:=fun x=>[.row false EC.u8 b,.row true EC.u8 x.o],μ:=fun x=>8-x.j }
 | _=>none }
def tKe:Tfm C0:=fun args H K=>match args,H with
 | [.at (.slc 0),.at (.val (.int .i64 k))],[.row false .u8 b]=>-9223372036854775808<=k/\k<=9223372036854775807/\b.length<=1000000000/\∀ o,o=kyA b k->K (.one (.at (.slc 1))) [.row false EC.u8 b,.row true EC.u8 o] []
 | _,_=>False
structure XKd (P:Nat->Int->Prop) where
 i:Nat
 u:Int
 h:P i u
noncomputable def aKd (P:Nat->Int->Prop)(b:List Int)(at_:Int):Ann C0:={ Γ:=[],inv:=fun n=>match n with
 | 7=>some { X:=XKd P,sl:=[7,27,29],tf:=fun x=>[vi .u64 x.u,.one (.at (.slc 1)),vi .i64 x.i],hf:=fun _=>[.row false EC.u8 b,.row false EC.u8 ((b.drop at_.toNat).take 8)],μ:=fun x=>8-x.i }
 | _=>none }
def tKd:Tfm C0:=fun args H K=>match args,H with
 | [.at (.slc 0),.at (.val (.int .i64 at_))],[.row false .u8 b]=>allB b/\b.length<=1000000000000/\∀ u n e,kyD b at_=(u,n,e)->K (.tup [.at (vI u),.at (vI n),.at (vI e)]) [.row false EC.u8 b] []
 | _,_=>False
def tZz:Tfm C0:=fun args H K=>match args,H with
 | [.at (.val (.int .i64 n))],[]=>-9223372036854775808<=n/\n<=9223372036854775807/\∀ u,u=zz n->K (.one (.at (vU64 u))) [] []
 | _,_=>False
def tUz:Tfm C0:=fun args H K=>match args,H with
 | [.at (.val (.int .u64 u))],[]=>0<=u/\u<18446744073709551616/\∀ n,n=uz u->K (.one (.at (vI n))) [] []
 | _,_=>False
theorem wrap_u64m (x:Int):IntKind.u64.wrap x=x % 18446744073709551616:=by
 unfold IntKind.wrap
 simp[IntKind.signed,IntKind.bits]
theorem wrap_i64_hi {x:Int}(h0:9223372036854775808<=x)(h:x<18446744073709551616):IntKind.i64.wrap x=x-18446744073709551616:=by
 unfold IntKind.wrap
 simp[IntKind.signed,IntKind.bits]
 omega
theorem natXor63 {n:Nat}(h:n<9223372036854775808):n ^^^ 9223372036854775808=9223372036854775808+n:=by
 have e:(9223372036854775808:Nat)=2 ^ 63:=by decide
 rw[e] at h ⊢
 refine Nat.eq_of_testBit_eq fun i=>?_
 rw[Nat.testBit_xor,Nat.testBit_two_pow]
 rcases Nat.lt_trichotomy i 63 with q|q|q
 ·rw[Nat.testBit_two_pow_add_gt q,show decide (63=i)=false from decide_eq_false (by omega),Bool.xor_false]
 ·subst q
  rw[Nat.testBit_two_pow_add_eq,show decide (63=63)=true from rfl,Bool.xor_true]
 ·have h1:n<2 ^ i:=Nat.lt_of_lt_of_le h (Nat.pow_le_pow_right (by decide) (by omega))
  have h2:2 ^ 63+n<2 ^ i:=by
   have:2 ^ (63+1)<=2 ^ i:=Nat.pow_le_pow_right (by decide) (by omega)
   rw[Nat.pow_succ] at this
   omega
  rw[Nat.testBit_lt_two_pow h1,Nat.testBit_lt_two_pow h2,show decide (63=i)=false from decide_eq_false (by omega),Bool.xor_false]
theorem xor_toNat {x y:Int}(x0:0<=x)(x1:x<18446744073709551616)(y0:0<=y)(y1:y<18446744073709551616):xorI .u64 x y=((x.toNat ^^^ y.toNat:Nat):Int):=by
 show IntKind.u64.wrap ((BitVec.ofInt 64 x ^^^ BitVec.ofInt 64 y).toNat:Int)=_
 rw[wrap_nat64 (BitVec.isLt _),BitVec.toNat_xor,toNat_of 64 x0 (by rw[p64];exact x1),toNat_of 64 y0 (by rw[p64];exact y1)]
theorem xor63 {u:Int}(h0:0<=u)(h:u<9223372036854775808):xorI .u64 u 9223372036854775808=u+9223372036854775808:=by
 rw[xor_toNat h0 (by omega) (by decide) (by decide),show Int.toNat 9223372036854775808=9223372036854775808 from rfl,natXor63 (by omega)]
 omega
theorem xor63' {u:Int}(h0:9223372036854775808<=u)(h:u<18446744073709551616):xorI .u64 u 9223372036854775808=u-9223372036854775808:=by
 have e:u.toNat=(u-9223372036854775808).toNat ^^^ 9223372036854775808:=by rw[natXor63 (by omega)];omega
 rw[xor_toNat (by omega) h (by decide) (by decide),show Int.toNat 9223372036854775808=9223372036854775808 from rfl,e,Nat.xor_assoc,Nat.xor_self,Nat.xor_zero]
 omega
theorem xor_key {k:Int}(h0 : -9223372036854775808<=k)(h:k<=9223372036854775807):xorI .u64 (IntKind.u64.wrap k) 9223372036854775808=k+9223372036854775808:=by
 rw[wrap_u64m]
 rcases Int.lt_or_le k 0 with q|q
 ·rw[show k % 18446744073709551616=k+18446744073709551616 by omega,xor63' (by omega) (by omega)];omega
 ·rw[show k % 18446744073709551616=k by omega,xor63 q (by omega)]
theorem xor_unkey {u:Int}(h0:0<=u)(h:u<18446744073709551616):IntKind.i64.wrap (xorI .u64 u 9223372036854775808)=u-9223372036854775808:=by
 rcases Int.lt_or_le u 9223372036854775808 with q|q
 ·rw[xor63 h0 q,wrap_i64_hi (by omega) (by omega)];omega
 ·rw[xor63' q h,wrap_id (by omega) (by omega)]
theorem orI_comm (k:IntKind)(x y:Int):orI k x y=orI k y x:=by unfold orI;rw[BitVec.or_comm]
theorem orI_low {u c:Int}(u0:0<=u)(u1:u<72057594037927936)(c0:0<=c)(c1:c<256):orI .u64 (u*256) c=256*u+c:=by
 have:=orI_add (u:=c) (w:=u) (i:=8) c0 (by show c<256;exact c1) u0 (by show c+u*256<_;omega)
 rw[orI_comm,show (256:Int)=2 ^ 8 from rfl,this]
 show c+u*256=256*u+c
 omega
theorem notI_64 (u:Int)(h0:0<=u)(h:u<18446744073709551616):xorI .u64 u 18446744073709551615=18446744073709551615-u:=by
 show IntKind.u64.wrap ((BitVec.ofInt 64 u ^^^ BitVec.ofInt 64 18446744073709551615).toNat:Int)=_
 rw[wrap_nat64 (BitVec.isLt _),show BitVec.ofInt 64 18446744073709551615=BitVec.allOnes 64 from rfl,BitVec.xor_allOnes,BitVec.toNat_not,toNat_of 64 h0 (by rw[p64];exact h)]
 omega
theorem zz_eq {n:Int}(h0 : -9223372036854775808<=n)(h:n<=9223372036854775807):xorI IntKind.u64 (IntKind.u64.wrap (IntKind.u64.wrap n*2 ^ min (Int.toNat 1) IntKind.u64.bits)) (IntKind.u64.wrap (n.fdiv (2 ^ min (Int.toNat 63) IntKind.i64.bits)))=zz n:=by
 rw[show (2:Int) ^ min (Int.toNat 1) IntKind.u64.bits=2 from rfl,show (2:Int) ^ min (Int.toNat 63) IntKind.i64.bits=9223372036854775808 from by decide +kernel,Int.fdiv_eq_ediv_of_nonneg _ (by decide)]
 simp only[wrap_u64m]
 unfold zz
 rcases Int.lt_or_le n 0 with q|q
 ·rw[if_neg (by omega),show n / 9223372036854775808 = -1 by omega,show n % 18446744073709551616=n+18446744073709551616 by omega,show (n+18446744073709551616)*2 % 18446744073709551616=2*n+18446744073709551616 by omega,show (-1:Int) % 18446744073709551616=18446744073709551615 from rfl,notI_64 _ (by omega) (by omega)]
  omega
 ·rw[if_pos q,show n / 9223372036854775808=0 by omega,show n % 18446744073709551616=n by omega,show n*2 % 18446744073709551616=2*n by omega,show (0:Int) % 18446744073709551616=0 from rfl,xor_toNat (by omega) (by omega) (by decide) (by decide),show Int.toNat 0=0 from rfl,Nat.xor_zero]
  omega
theorem uz_eq {u:Int}(h0:0<=u)(h:u<18446744073709551616):xorI IntKind.i64 (IntKind.i64.wrap (u.fdiv (2 ^ min (Int.toNat 1) IntKind.u64.bits))) (IntKind.i64.wrap (0-IntKind.i64.wrap (andI IntKind.u64 u 1)))=uz u:=by
 rw[show (2:Int) ^ min (Int.toNat 1) IntKind.u64.bits=2 from rfl,Int.fdiv_eq_ediv_of_nonneg _ (by decide),andI_64 h0 h,wrap_id (x:=u / 2) (by omega) (by omega),wrap_id (x:=u % 2) (by omega) (by omega),wrap_id (x:=0-u % 2) (by omega) (by omega)]
 show IntKind.i64.wrap ((BitVec.ofInt 64 (u / 2) ^^^ BitVec.ofInt 64 (0-u % 2)).toNat:Int)=_
 unfold uz
 by_cases q:u % 2=0
 ·rw[if_pos q,q,show (BitVec.ofInt 64 (0-0))=0#64 from rfl,BitVec.xor_zero,toNat_of 64 (by omega) (by rw[p64];omega),wrap_id (by omega) (by omega)]
  omega
 ·rw[if_neg q,show u % 2=1 by omega,show (BitVec.ofInt 64 (0-1))=BitVec.allOnes 64 from rfl,BitVec.xor_allOnes,BitVec.toNat_not,toNat_of 64 (by omega) (by rw[p64];omega),wrap_i64_hi (by omega) (by omega)]
  omega
theorem kB_at (u:Int){j:Nat}(h:j<8):(wB 8 u).getD j 0=u / 2 ^ (56-8*j) % 256:=by
 have:j=0∨j=1∨j=2∨j=3∨j=4∨j=5∨j=6∨j=7:=by omega
 rcases this with e|e|e|e|e|e|e|e<;>subst e
 ·show u / 256 / 256 / 256 / 256 / 256 / 256 / 256 % 256=u / 72057594037927936 % 256;omega
 ·show u / 256 / 256 / 256 / 256 / 256 / 256 % 256=u / 281474976710656 % 256;omega
 ·show u / 256 / 256 / 256 / 256 / 256 % 256=u / 1099511627776 % 256;omega
 ·show u / 256 / 256 / 256 / 256 % 256=u / 4294967296 % 256;omega
 ·show u / 256 / 256 / 256 % 256=u / 16777216 % 256;omega
 ·show u / 256 / 256 % 256=u / 65536 % 256;omega
 ·show u / 256 % 256=u / 256 % 256;rfl
 ·show u % 256=u / 1 % 256;omega
theorem take_getB {r:List Int}{i:Nat}(h:i<r.length):r.take (i+1)=r.take i++[getB r i]:=by
 rw[List.take_add_one];unfold getB;rw[List.getD_eq_getElem?_getD,List.getElem?_eq_getElem h];rfl
def PKe (b:List Int)(u:Int):Nat->List Int->Prop:=fun j o=>j<=8/\o=b++(wB 8 u).take j
theorem vc_ke (b:List Int)(k:Int)(K:KT)(k0 : -9223372036854775808<=k)(k1:k<=9223372036854775807)(hb:b.length<=1000000000)(h:∀ o,o=kyA b k->K (.one (.at (.slc 1))) [.row false EC.u8 b,.row true EC.u8 o] []) :
  vc C0 (aKe (PKe b (k+9223372036854775808)) b (k+9223372036854775808)) Tryz.f97 [.at (.slc 0),.at (.val (.int .i64 k))] [.row false EC.u8 b] (normK 1 K):=by
 generalize eu:k+9223372036854775808=u
 generalize hP:PKe b u=P
 refine Eq.mp (show ((0:Int)<=0/\0<=IntKind.i64.wrap ((b.length:Int)+8)/\IntKind.i64.wrap ((b.length:Int)+8)*(↑(bytesOf C0 EC.u8):Int)<=140737488355328/\(([]:List Ent).length+b.length)*bytesOf C0 EC.u8<=140737488355328/\(∃ x:Unit,True/\(True/\(VW (xorI IntKind.u64 (IntKind.u64.wrap k) 9223372036854775808))=(VW (u))/\True)/\b=b/\([]++b)=b/\True)/\∀ x:Unit,True->(∃ x1:XKe P,True/\(True/\VW (u)=VW (u)/\VI 56=(VI (56-8*(x1.j:Int)))/\True)/\b=b/\b=x1.o/\True)/\∀ x1:XKe P,True->brS (decide (56-8*(x1.j:Int)≥0)) (0<=IntKind.u64.wrap (56-8*(x1.j:Int))/\(x1.o.length+[IntKind.u8.wrap (u.fdiv (2 ^ min (IntKind.u64.wrap (56-8*(x1.j:Int))).toNat IntKind.u64.bits))].length)*bytesOf C0 EC.u8<=140737488355328/\∃ x':XKe P,True/\((True/\VW (u)=VW (u)/\(VI (IntKind.i64.wrap (56-8*(x1.j:Int)-8)))=(VI (56-8*(x'.j:Int)))/\True)/\b=b/\(x1.o++[IntKind.u8.wrap (u.fdiv (2 ^ min (IntKind.u64.wrap (56-8*(x1.j:Int))).toNat IntKind.u64.bits))])=x'.o/\True)/\8-x'.j<8-x1.j) (K (.one (.at (.slc 1))) [(.row false EC.u8 (b)),(.row true EC.u8 (x1.o))] []))=_ by kernel_rfl) ?_
 subst hP
 rw[wrap_id (x:=(b.length:Int)+8) (by omega) (by omega),bytes_u8,xor_key k0 k1,eu]
 refine⟨by decide,by omega,by omega,by simp;omega,⟨(),?_⟩,fun _ _=>⟨⟨⟨0,b,Nat.zero_le _,by simp⟩,?_⟩,fun x _=>brS_of (fun z=>?_) fun z=>?_⟩⟩
 ·(repeat' first|exact trivial|exact rfl|refine And.intro ?_ ?_)
 ·(repeat' first|exact trivial|exact rfl|refine And.intro ?_ ?_)
 ·obtain⟨j,o,hj,eo⟩:=x
  dsimp only at z ⊢
  have z:j<8:=by have:=of_decide_eq_true z;omega
  have l8:(wB 8 u).length=8:=wB_len 8 u
  have ol:o.length<=b.length+8:=by rw[eo,List.length_append,List.length_take];omega
  have e1:(IntKind.u64.wrap (56-8*(j:Int))).toNat=56-8*j:=by rw[wrap_u64 (by omega) (by omega)];omega
  have e2:min (56-8*j) IntKind.u64.bits=56-8*j:=by show min (56-8*j) 64=_;omega
  have e3:IntKind.u8.wrap (u.fdiv (2 ^ min (IntKind.u64.wrap (56-8*(j:Int))).toNat IntKind.u64.bits))=getB (wB 8 u) j:=by
   have q0:(0:Int)<=2 ^ (56-8*j):=Int.le_of_lt (Int.pow_pos (by decide))
   rw[e1,e2,Int.fdiv_eq_ediv_of_nonneg _ q0,wrap_u8m (Int.ediv_nonneg (by omega) q0)]
   exact (kB_at u z).symm
  rw[e3]
  refine⟨by rw[wrap_u64 (by omega) (by omega)];omega,by rw[List.length_singleton];omega,⟨j+1,_,z,show o++[getB (wB 8 u) j]=_ by rw[eo,take_getB (by omega),List.append_assoc]⟩,trivial,?_,Nat.sub_lt_sub_left z (Nat.lt_succ_self j)⟩
  rw[wrap_id (by omega) (by omega)]
  refine⟨⟨trivial,rfl,?_,trivial⟩,rfl,rfl,trivial⟩
  show Value.int .i64 _=Value.int .i64 (56-8*((j+1:Nat):Int))
  congr 1;omega
 ·obtain⟨j,o,hj,eo⟩:=x
  dsimp only at z ⊢
  have z:j=8:=by have:=of_decide_eq_false z;omega
  refine h _ ?_
  rw[eo,z,List.take_of_length_le (by rw[wB_len];exact Nat.le_refl _),← eu]
  rfl
theorem s_ke:SoundT C0 97 tKe:=by
 refine .of Tryz.func97 (by decide) rfl fun args H K h hB=>?_
 unfold tKe at h
 split at h<;>try exact h.elim
 rename_i k b
 refine⟨_,?_,vc_ke b k K h.1 h.2.1 h.2.2.1 h.2.2.2⟩
 exact trivial
def PKd (r:List Int):Nat->Int->Prop:=fun i u=>i<=8/\u=wD (r.take i)/\0<=u/\u<256 ^ i
theorem PKd.go {r:List Int}{i:Nat}{u:Int}(h:PKd r i u)(hi:i<r.length)(i8:i<8)(hr:allB r):PKd r (i+1) (orI .u64 (IntKind.u64.wrap (u*2 ^ min (Int.toNat 8) IntKind.u64.bits)) (IntKind.u64.wrap (getB r i))):=by
 obtain⟨h1,h2,h3,h4⟩:=h
 obtain⟨c0,c1⟩:=hr _ (getB_mem hi)
 have q:(256:Int) ^ i<=72057594037927936:=by
  have:i=0∨i=1∨i=2∨i=3∨i=4∨i=5∨i=6∨i=7:=by omega
  rcases this with e|e|e|e|e|e|e|e<;>subst e<;>decide +kernel
 rw[show (2:Int) ^ min (Int.toNat 8) IntKind.u64.bits=256 from rfl,wrap_u64 (x:=u*256) (by omega) (by omega),wrap_u64 (x:=getB r i) c0 (by omega),orI_low h3 (by omega) c0 c1]
 refine⟨i8,?_,by omega,by rw[Int.pow_succ];omega⟩
 rw[take_getB hi,wD_snoc,← h2]
theorem vc_kd (b:List Int)(at_:Int)(K:KT)(hb:allB b)(hl:b.length<=1000000000000)(h:∀ u n e,kyD b at_=(u,n,e)->K (.tup [.at (vI u),.at (vI n),.at (vI e)]) [.row false EC.u8 b] []) :
  vc C0 (aKd (PKd ((b.drop at_.toNat).take 8)) b at_) Tryz.f142 [.at (.slc 0),.at (.val (.int .i64 at_))] [.row false EC.u8 b] (normK 1 K):=by
 generalize hP:PKd ((b.drop at_.toNat).take 8)=P
 refine Eq.mp (show (brS (decide (at_<0)) (K (.tup [(.at (.val (VI 0))),(.at (.val (VI 0))),(.at (.val (VI 1)))]) [(.row false EC.u8 (b))] []) (brS (decide (at_>(b.length:Int))) (K (.tup [(.at (.val (VI 0))),(.at (.val (VI 0))),(.at (.val (VI 1)))]) [(.row false EC.u8 (b))] []) (brS (decide (IntKind.i64.wrap ((b.length:Int)-at_)<8)) (K (.tup [(.at (.val (VI 0))),(.at (.val (VI 0))),(.at (.val (VI 12)))]) [(.row false EC.u8 (b))] []) (0<=at_/\at_<=IntKind.i64.wrap (at_+8)/\IntKind.i64.wrap (at_+8)<=(b.length:Int)/\(∃ x:XKd P,True/\(VI (at_)=VI (at_)/\VW 0=(VW (x.u))/\True/\(VI ((↑(List.drop at_.toNat (List.take (IntKind.i64.wrap (at_+8)).toNat b)).length:Int)))=(VI ((↑(List.drop at_.toNat (List.take (IntKind.i64.wrap (at_+8)).toNat b)).length:Int)))/\VI 0=(VI (x.i:Int))/\True)/\b=b/\(List.drop at_.toNat (List.take (IntKind.i64.wrap (at_+8)).toNat b))=(List.take 8 (List.drop at_.toNat b))/\True)/\∀ x:XKd P,True->brS (decide ((x.i:Int)<(↑(List.drop at_.toNat (List.take (IntKind.i64.wrap (at_+8)).toNat b)).length:Int))) (0<=(x.i:Int)/\(x.i:Int)<(↑(List.take 8 (List.drop at_.toNat b)).length:Int)/\∃ x':XKd P,True/\((VI (at_)=VI (at_)/\(VW (orI IntKind.u64 (IntKind.u64.wrap (x.u*2 ^ min (Int.toNat 8) IntKind.u64.bits)) (IntKind.u64.wrap (getB (List.take 8 (List.drop at_.toNat b)) (x.i:Int).toNat))))=(VW (x'.u))/\True/\(VI ((↑(List.drop at_.toNat (List.take (IntKind.i64.wrap (at_+8)).toNat b)).length:Int)))=(VI ((↑(List.drop at_.toNat (List.take (IntKind.i64.wrap (at_+8)).toNat b)).length:Int)))/\(VI (IntKind.i64.wrap ((x.i:Int)+1)))=(VI (x'.i:Int))/\
 True)/\b=b/\(List.take 8 (List.drop at_.toNat b))=(List.take 8 (List.drop at_.toNat b))/\True)/\8-x'.i<8-x.i) (K (.tup [(.at (.val (VI (IntKind.i64.wrap (xorI IntKind.u64 x.u 9223372036854775808))))),(.at (.val (VI (IntKind.i64.wrap (at_+8))))),(.at (.val (VI 0)))]) [(.row false EC.u8 (b))] [])))))=_ by kernel_rfl) ?_
 subst hP
 refine brS_of (fun z=>?_) fun z=>brS_of (fun y=>?_) fun y=>?_
 ·have z:=of_decide_eq_true z
  exact h _ _ _ (by unfold kyD;rw[if_pos (.inl z)])
 ·have y:=of_decide_eq_true y
  exact h _ _ _ (by unfold kyD;rw[if_pos (.inr y)])
 have z:0<=at_:=by have:=of_decide_eq_false z;omega
 have y:at_<=b.length:=by have:=of_decide_eq_false y;omega
 rw[wrap_id (x:=(b.length:Int)-at_) (by omega) (by omega),wrap_id (x:=at_+8) (by omega) (by omega)]
 refine brS_of (fun x=>?_) fun x=>?_
 ·have x:=of_decide_eq_true x
  exact h _ _ _ (by unfold kyD;rw[if_neg (by omega),if_pos x])
 have x:at_+8<=b.length:=by have:=of_decide_eq_false x;omega
 have er:(b.drop at_.toNat).take 8=(b.take (at_+8).toNat).drop at_.toNat:=by
  rw[List.take_drop,show at_.toNat+8=(at_+8).toNat by omega]
 have hk:kyD b at_=(wD ((b.drop at_.toNat).take 8)-9223372036854775808,at_+8,0):=by unfold kyD;rw[if_neg (by omega),if_neg (by omega)]
 rw[← er]
 have hr:=allB_take (allB_drop hb at_.toNat) 8
 have rl:((b.drop at_.toNat).take 8).length=8:=by rw[List.length_take,List.length_drop];omega
 generalize (b.drop at_.toNat).take 8=r at *
 refine⟨z,by omega,x,⟨⟨0,0,by omega,rfl,by decide,by decide⟩,?_⟩,fun x _=>brS_of (fun q=>?_) fun q=>?_⟩
 ·(repeat' first|exact trivial|exact rfl|refine And.intro ?_ ?_)
 ·obtain⟨i,u,hi⟩:=x
  dsimp only at q ⊢
  have q:i<r.length:=by have:=of_decide_eq_true q;omega
  rw[show ((i:Int)).toNat=i from rfl,wrap_id (x:=(i:Int)+1) (by omega) (by omega)]
  have p1:=hi.go q (by omega) hr
  refine⟨by omega,by omega,⟨i+1,_,p1⟩,trivial,?_,by show 8-(i+1)<8-i;omega⟩
  (repeat' first|exact trivial|exact rfl|refine And.intro ?_ ?_)
 ·obtain⟨i,u,h1,h2,h3,h4⟩:=x
  dsimp only at q ⊢
  have q:i=8:=by have:=of_decide_eq_false q;omega
  subst q
  have p8:(256:Int) ^ 8=18446744073709551616:=by decide +kernel
  rw[p8] at h4
  rw[List.take_of_length_le (by omega)] at h2
  rw[xor_unkey h3 h4]
  exact h _ _ _ (by rw[hk,h2])
theorem s_kd:SoundT C0 142 tKd:=by
 refine .of Tryz.func142 (by decide) rfl fun args H K h hB=>?_
 unfold tKd at h
 split at h<;>try exact h.elim
 rename_i at_ b
 refine⟨_,?_,vc_kd b at_ K h.1 h.2.1 h.2.2⟩
 exact trivial
theorem vc_zz (n:Int)(K:KT)(h0 : -9223372036854775808<=n)(h1:n<=9223372036854775807)(h:∀ u,u=zz n->K (.one (.at (vU64 u))) [] []):vc C0 A0 Tryz.f98 [.at (.val (.int .i64 n))] [] (normK 0 K):=by
 refine Eq.mp (show (K (.one (.at (.val (VW (xorI IntKind.u64 (IntKind.u64.wrap (IntKind.u64.wrap n*2 ^ min (Int.toNat 1) IntKind.u64.bits)) (IntKind.u64.wrap (n.fdiv (2 ^ min (Int.toNat 63) IntKind.i64.bits)))))))) [] [])=_ by kernel_rfl) ?_
 exact h _ (zz_eq h0 h1)
theorem s_zz:SoundT C0 98 tZz:=by
 refine .of Tryz.func98 (by decide) rfl fun args H K h hB=>?_
 unfold tZz at h
 split at h<;>try exact h.elim
 rename_i n
 refine⟨A0,?_,vc_zz n K h.1 h.2.1 h.2.2⟩
 exact trivial
theorem vc_uz (u:Int)(K:KT)(h0:0<=u)(h1:u<18446744073709551616)(h:∀ n,n=uz u->K (.one (.at (vI n))) [] []):vc C0 A0 Tryz.f130 [.at (.val (.int .u64 u))] [] (normK 0 K):=by
 refine Eq.mp (show (K (.one (.at (.val (VI (xorI IntKind.i64 (IntKind.i64.wrap (u.fdiv (2 ^ min (Int.toNat 1) IntKind.u64.bits))) (IntKind.i64.wrap (0-IntKind.i64.wrap (andI IntKind.u64 u 1)))))))) [] [])=_ by kernel_rfl) ?_
 exact h _ (uz_eq h0 h1)
theorem s_uz:SoundT C0 130 tUz:=by
 refine .of Tryz.func130 (by decide) rfl fun args H K h hB=>?_
 unfold tUz at h
 split at h<;>try exact h.elim
 rename_i u
 refine⟨A0,?_,vc_uz u K h.1 h.2.1 h.2.2⟩
 exact trivial
end Go.Proofs.YtedfbafngmicpaaGreat.Sx
end
section
/- frame: table. -/
namespace Go.Proofs.YtedfbafngmicpaaGreat.Sx
open Go

/-KEEP tb tabN itC andI xorI-/
def tb (i:Nat):Int:=((itC 8 (BitVec.ofNat 32 i)).toNat:Int)
def tabN (n:Nat):List Int:=(List.range 256).map fun i=>if i<n then tb i else 0
def tabL:List Int:=(List.range 256).map tb
def tabC:List At:=tabL.map fun x=>At.val (.int .u32 x)
structure XTb (P:Nat->Prop) where
 i:Nat
 h:P i
structure XTc (P:Nat->Nat->Int->Prop) where
 i:Nat
 k:Nat
 c:Int
 h:P i k c
noncomputable def aTb (P1:Nat->Prop)(P2:Nat->Nat->Int->Prop):Ann C0:={ Γ:=[],inv:=fun n=>match n with
 | 3=>some { X:=XTb P1,sl:=[0,1,6],tf:=fun x=>[.one (.at (.ptr 0 0)),.one (.at (.ptr 1 0)),vi .i64 x.i],hf:=fun x=>[.arr .u32 (tabN 0),.arr .u32 (tabN x.i)],μ:=fun x=>256-x.i }
 | 7=>some { X:=XTc P2,sl:=[0,1,3,4],tf:=fun x=>[.one (.at (.ptr 0 0)),.one (.at (.ptr 1 0)),vi .u32 x.c,vi .i64 x.k],hf:=fun x=>[.arr .u32 (tabN 0),.arr .u32 (tabN x.i)],μ:=fun x=>8-x.k,rel:=fun T _ x=>slotI T 6 x.i }
 | 1015=>some { X:=Unit,sl:=[0,1],tf:=fun _=>[.one (.at (.ptr 0 0)),.one (.at (.ptr 1 0))],hf:=fun _=>[.arr .u32 (tabN 0),.arr .u32 tabL] }
 | _=>none }
def tTb:Tfm C0:=fun args H K=>match args,H with
 | [],[]=>K (.one (.agg tabC)) [] []
 | _,_=>False
theorem itC_snoc:∀ (k:Nat) (x:BitVec 32),itC (k+1) x=stC (itC k x)
 | 0,_=>rfl
 | k+1,x=>itC_snoc k (stC x)
theorem xor32 {x y:Int}(x0:0<=x)(x1:x<4294967296)(y0:0<=y)(y1:y<4294967296):xorI .u32 x y=((x.toNat ^^^ y.toNat:Nat):Int):=by
 show IntKind.u32.wrap ((BitVec.ofInt 32 x ^^^ BitVec.ofInt 32 y).toNat:Int)=_
 rw[wrap_nat32 (BitVec.isLt _),BitVec.toNat_xor,toNat_of 32 x0 (by omega),toNat_of 32 y0 (by omega)]
theorem stC_num (y:BitVec 32):((stC y).toNat:Int)=if (y.toNat:Int) % 2=1 then xorI .u32 ((y.toNat:Int) / 2) 2197175160 else (y.toNat:Int) / 2:=by
 have h1:(y >>> 1).toNat=y.toNat / 2:=by rw[BitVec.toNat_ushiftRight,Nat.shiftRight_eq_div_pow]
 have h2:y.getLsbD 0=decide (y.toNat % 2=1):=by show y.toNat.testBit 0=_;rw[Nat.testBit_zero]
 have h3:=y.isLt
 unfold stC
 rw[h2]
 by_cases c:y.toNat % 2=1
 ·rw[if_pos (by simpa using c),if_pos (by omega),BitVec.toNat_xor,h1,xor32 (by omega) (by omega) (by decide) (by decide)]
  rfl
 ·rw[if_neg (by simpa using c),if_neg (by omega),BitVec.xor_zero,h1]
  omega
def PTb:Nat->Prop:=fun i=>i<=256
def PTc:Nat->Nat->Int->Prop:=fun i k c=>i<256/\k<=8/\c=((itC k (BitVec.ofNat 32 i)).toNat:Int)
theorem tabN_set {i:Nat}(h:i<256):(tabN i).set i (tb i)=tabN (i+1):=by
 unfold tabN
 refine List.ext_getElem? fun j=>?_
 rw[List.getElem?_set,List.length_map,List.length_range]
 by_cases c:i=j
 ·subst c
  rw[if_pos rfl,if_pos h,List.getElem?_map,List.getElem?_range h]
  simp
 ·rw[if_neg c,List.getElem?_map,List.getElem?_map]
  rcases Nat.lt_or_ge j 256 with q|q
  ·rw[List.getElem?_range q]
   by_cases d:j<i
   ·simp[d,Nat.lt_succ_of_lt d]
   ·have:¬ j<i+1:=by omega
    simp[d,this]
  ·rw[List.getElem?_eq_none (by simpa using q)];rfl
theorem tabN_len (i:Nat):(tabN i).length=256:=by unfold tabN;rw[List.length_map,List.length_range]
theorem tabN_all:tabN 256=tabL:=List.map_congr_left fun _ hi=>if_pos (List.mem_range.1 hi)
theorem tabN_zero:List.replicate 256 (At.val (Value.int IntKind.u32 0))=(tabN 0).map fun z=>At.val (Value.int IntKind.u32 z):=by kernel_rfl
set_option maxRecDepth 20000 in
theorem vc_tb (K : KT) (h : K (.one (.agg tabC)) [] []) : vc C0 (aTb PTb PTc) Tryz.f147 [] [] (normK 0 K) := by
  generalize hP : PTb = P1
  generalize hP' : PTc = P2
  refine Eq.mp (show (((∃ x : XTb P1, (True ∧ (True ∧ True ∧ ((Value.int IntKind.i64 0) = (Value.int IntKind.i64 ((↑x.i : Int)))) ∧ True) ∧ ((List.replicate 256 (At.val (Value.int IntKind.u32 0))) = (List.replicate 256 (At.val (Value.int IntKind.u32 0)))) ∧ ((List.replicate 256 (At.val (Value.int IntKind.u32 0))) = (List.map (fun z => At.val (Value.int IntKind.u32 z)) (tabN x.i))) ∧ True)) ∧
(∀ x : XTb P1, (True → (brS (decide ((↑x.i : Int) < 256)) (((∃ x1 : XTc P2, ((((↑x.i : Int)) = ((↑x1.i : Int))) ∧ (True ∧ True ∧ ((Value.int IntKind.i64 ((↑x.i : Int))) = (Value.int IntKind.i64 ((↑x.i : Int)))) ∧ ((Value.int IntKind.u32 (IntKind.u32.wrap (↑x.i : Int))) = (Value.int IntKind.u32 (x1.c))) ∧ ((Value.int IntKind.i64 0) = (Value.int IntKind.i64 ((↑x1.k : Int)))) ∧ ((Value.int IntKind.i64 ((↑x.i : Int))) = (Value.int IntKind.i64 ((↑x.i : Int)))) ∧ True) ∧ ((tabN 0) = (tabN 0)) ∧ ((tabN x.i) = (tabN x1.i)) ∧ True)) ∧ (∀ x1 : XTc P2, ((((↑x.i : Int)) = ((↑x1.i : Int))) → (brS (decide ((↑x1.k : Int) < 8)) ((brS (andI IntKind.u32 x1.c 1 == 1) ((∃ x' : XTc P2, ((((↑x.i : Int)) = ((↑x'.i : Int))) ∧ ((True ∧ True ∧ ((Value.int IntKind.i64 ((↑x.i : Int))) = (Value.int IntKind.i64 ((↑x.i : Int)))) ∧ ((Value.int IntKind.u32 (xorI IntKind.u32 (x1.c.fdiv (2 ^ min (Int.toNat 1) IntKind.u32.bits)) 2197175160)) = (Value.int IntKind.u32 (x'.c))) ∧ ((Value.int IntKind.i64 (IntKind.i64.wrap ((↑x1.k : Int) + 1))) = (Value.int IntKind.i64 ((↑x'.k : Int)))) ∧
    ((Value.int IntKind.i64 ((↑x.i : Int))) = (Value.int IntKind.i64 ((↑x.i : Int)))) ∧ True) ∧ ((tabN 0) = (tabN 0)) ∧ ((tabN x1.i) = (tabN x'.i)) ∧ True) ∧ (8 - x'.k < 8 - x1.k)))) ((∃ x' : XTc P2, ((((↑x.i : Int)) = ((↑x'.i : Int))) ∧ ((True ∧ True ∧ ((Value.int IntKind.i64 ((↑x.i : Int))) = (Value.int IntKind.i64 ((↑x.i : Int)))) ∧ ((Value.int IntKind.u32 (x1.c.fdiv (2 ^ min (Int.toNat 1) IntKind.u32.bits))) = (Value.int IntKind.u32 (x'.c))) ∧ ((Value.int IntKind.i64 (IntKind.i64.wrap ((↑x1.k : Int) + 1))) = (Value.int IntKind.i64 ((↑x'.k : Int)))) ∧ ((Value.int IntKind.i64 ((↑x.i : Int))) = (Value.int IntKind.i64 ((↑x.i : Int)))) ∧ True) ∧ ((tabN 0) = (tabN 0)) ∧ ((tabN x1.i) = (tabN x'.i)) ∧ True) ∧ (8 - x'.k < 8 - x1.k)))))) (((0 ≤ (↑x.i : Int)) ∧ ((↑x.i : Int) < ((256 : Nat) : Int)) ∧ (0 + (↑x.i : Int).toNat * 1 < (tabN x1.i).length) ∧ (∃ x' : XTb P1, (True ∧ ((True ∧ True ∧ ((Value.int IntKind.i64 (IntKind.i64.wrap ((↑x.i : Int) + 1))) = (Value.int IntKind.i64 ((↑x'.i : Int)))) ∧ True) ∧ ((tabN 0) = (tabN 0)) ∧ (((tabN x1.i).set (0 + (↑x.i : Int).toNat * 1) x1.c) = (tabN x'.i)) ∧ True) ∧ (256 - x'.i < 256 - x.i)))))))))) ((∃ x1 : Unit, (True ∧ (True ∧ True ∧ True) ∧ ((tabN 0) = (tabN 0)) ∧ ((tabN x.i) = tabL) ∧ True))))))) ∧
(∀ x : Unit, (True → (((0 : Int) = 0) ∧ ((256 : Int) = 256) ∧ ((0 : Int) = 0) ∧ ((256 : Int) = 256) ∧ (K (SV.one (TV.agg tabC)) [] []))))) = _ by kernel_rfl) ?_
  subst hP hP'
  have tz := tabN_zero
  generalize List.replicate 256 (At.val (Value.int IntKind.u32 0)) = Z at tz ⊢
  refine ⟨⟨⟨⟨0, Nat.zero_le _⟩, trivial, ⟨trivial, trivial, rfl, trivial⟩, rfl, tz, trivial⟩, fun x _ => brS_of (fun z => ?_) fun z => ?_⟩, fun _ _ => ⟨rfl, rfl, rfl, rfl, h⟩⟩
  · obtain ⟨i, hi⟩ := x
    dsimp only at z ⊢
    have z : i < 256 := by have := of_decide_eq_true z; omega
    refine ⟨⟨⟨i, 0, _, z, Nat.zero_le _, rfl⟩, rfl, ⟨trivial, trivial, rfl, ?_, rfl, rfl, trivial⟩, rfl, rfl, trivial⟩, fun x1 e1 => brS_of (fun y => ?_) fun y => ?_⟩
    · show Value.int .u32 _ = Value.int .u32 (((BitVec.ofNat 32 i).toNat : Nat) : Int)
      rw [wrap_u32 (by omega) (by omega), BitVec.toNat_ofNat, Nat.mod_eq_of_lt (by omega)]
    · obtain ⟨i', k, c, hi', hk, hc⟩ := x1
      dsimp only at y e1 ⊢
      obtain rfl : i = i' := by omega
      have y : k < 8 := by have := of_decide_eq_true y; omega
      have cl := (itC k (BitVec.ofNat 32 i)).isLt
      have en := stC_num (itC k (BitVec.ofNat 32 i))
      rw [← itC_snoc, ← hc] at en
      have e2 : c.fdiv (2 ^ min (Int.toNat 1) IntKind.u32.bits) = c / 2 := by
        rw [show (2 : Int) ^ min (Int.toNat 1) IntKind.u32.bits = 2 from rfl, Int.fdiv_eq_ediv_of_nonneg _ (by decide)]
      rw [e2, andI_1 (by omega) (by omega), wrap_id (x := (k : Int) + 1) (by omega) (by omega)]
      refine brS_of (fun q => ?_) fun q => ?_
      · have q : c % 2 = 1 := eq_of_beq q
        rw [if_pos q] at en
        refine ⟨⟨i, k + 1, _, z, y, en.symm⟩, rfl, ⟨⟨trivial, trivial, rfl, rfl, rfl, rfl, trivial⟩, rfl, rfl, trivial⟩, by show 8 - (k + 1) < 8 - k; omega⟩
      · have q : ¬ c % 2 = 1 := fun e => by rw [e] at q; exact absurd q (by decide)
        rw [if_neg q] at en
        refine ⟨⟨i, k + 1, _, z, y, en.symm⟩, rfl, ⟨⟨trivial, trivial, rfl, rfl, rfl, rfl, trivial⟩, rfl, rfl, trivial⟩, by show 8 - (k + 1) < 8 - k; omega⟩
    · obtain ⟨i', k, c, hi', hk, hc⟩ := x1
      dsimp only at y e1 ⊢
      obtain rfl : i = i' := by omega
      obtain rfl : k = 8 := by have := of_decide_eq_false y; omega
      have e3 : 0 + ((i : Int)).toNat * 1 = i := by omega
      rw [e3, wrap_id (x := (i : Int) + 1) (by omega) (by omega)]
      refine ⟨by omega, by omega, by rw [tabN_len]; exact z, ⟨i + 1, z⟩, trivial, ⟨⟨trivial, trivial, rfl, trivial⟩, rfl, ?_, trivial⟩, by show 256 - (i + 1) < 256 - i; omega⟩
      rw [hc]
      exact tabN_set z
  · obtain ⟨i, hi⟩ := x
    dsimp only at z ⊢
    obtain rfl : i = 256 := by have := of_decide_eq_false z; unfold PTb at hi; omega
    exact ⟨(), trivial, ⟨trivial, trivial, trivial⟩, rfl, tabN_all, trivial⟩
theorem s_tb:SoundT C0 147 tTb:=by
 refine .of Tryz.func147 (by decide) rfl fun args H K h hB=>?_
 unfold tTb at h
 split at h<;>try exact h.elim
 refine⟨_,?_,vc_tb K h⟩
 exact trivial
end Go.Proofs.YtedfbafngmicpaaGreat.Sx
end
section
/- frame: Extend, Checksum. -/
namespace Go.Proofs.YtedfbafngmicpaaGreat.Sx
open Go

/-KEEP tb tabL itC andI xorI orI exI crc allB-/
def exI (c:Int)(b:List Int):Int:=((~~~ crX b (~~~ BitVec.ofInt 32 c)).toNat:Int)
theorem exI_zero (b:List Int):exI 0 b=crc b:=rfl
structure XEx (P:Nat->Int->Prop) where
 i:Nat
 c:Int
 h:P i c
noncomputable def aEx (P:Nat->Int->Prop)(b:List Int):Ann C0:={ Γ:=[(147,frameT [] tTb)],inv:=fun n=>match n with
 | 1002=>some { X:=Unit,sl:=[5],tf:=fun _=>[.one (.at (.ptr 1 0))],hf:=fun _=>[.row false EC.u8 b,.arr .u32 tabL] }
 | 4=>some { X:=XEx P,sl:=[0,5,13],tf:=fun x=>[vi .u32 x.c,.one (.at (.ptr 1 0)),vi .i64 x.i],hf:=fun _=>[.row false EC.u8 b,.arr .u32 tabL],μ:=fun x=>b.length-x.i }
 | _=>none }
def tEx:Tfm C0:=fun args H K=>match args,H with
 | [.at (.val (.int .u32 c)),.at (.slc 0)],[.row false .u8 b]=>0<=c/\c<4294967296/\allB b/\b.length<=1000000000000/\∀ r,r=exI c b->K (.one (.at (vU r))) [.row false EC.u8 b] []
 | _,_=>False
noncomputable def aCk:Ann C0:={ Γ:=[(139,frameT [] tEx)] }
def tCk:Tfm C0:=fun args H K=>match args,H with
 | [.at (.slc 0)],[.row false .u8 b]=>allB b/\b.length<=1000000000000/\∀ r,r=crc b->K (.one (.at (vU r))) [.row false EC.u8 b] []
 | _,_=>False
theorem xor8 {x y:Int}(x0:0<=x)(x1:x<256)(y0:0<=y)(y1:y<256):xorI .u8 x y=((x.toNat ^^^ y.toNat:Nat):Int):=by
 show IntKind.u8.wrap ((BitVec.ofInt 8 x ^^^ BitVec.ofInt 8 y).toNat:Int)=_
 rw[wrap_nat8 (BitVec.isLt _),BitVec.toNat_xor,toNat_of 8 x0 (by omega),toNat_of 8 y0 (by omega)]
theorem xor8_lt {x y:Int}(x0:0<=x)(x1:x<256)(y0:0<=y)(y1:y<256):x.toNat ^^^ y.toNat<256 :=
 Nat.xor_lt_two_pow (n:=8) (by omega) (by omega)
theorem not_u32 {c:Int}:xorI IntKind.u32 (if IntKind.u32.signed=true then -1 else IntKind.u32.max) c=((~~~ BitVec.ofInt 32 c).toNat:Int):=by
 show IntKind.u32.wrap ((BitVec.ofInt 32 4294967295 ^^^ BitVec.ofInt 32 c).toNat:Int)=_
 rw[wrap_nat32 (BitVec.isLt _),show BitVec.ofInt 32 4294967295=BitVec.allOnes 32 from rfl,BitVec.allOnes_xor]
theorem bv_num (y:BitVec 32):BitVec.ofInt 32 (y.toNat:Int)=y:=by rw[BitVec.ofInt_natCast,BitVec.ofNat_toNat,BitVec.setWidth_eq]
theorem tabL_at {j:Nat}(h:j<256):getB tabL j=tb j:=by
 show tabL.getD j 0=tb j
 unfold tabL
 rw[List.getD_eq_getElem?_getD,List.getElem?_map,List.getElem?_range h];rfl
theorem tabL_len:tabL.length=256:=by unfold tabL;rw[List.length_map,List.length_range]
theorem tab_step (y:BitVec 32){x:Int}(x0:0<=x)(x1:x<256):xorI .u32 ((y.toNat:Int).fdiv (2 ^ min (Int.toNat 8) IntKind.u32.bits)) (getB tabL (0+(xorI .u8 (IntKind.u8.wrap (y.toNat:Int)) x).toNat*1))=((itC 8 (y ^^^ BitVec.ofInt 32 x)).toNat:Int):=by
 have yl:=y.isLt
 have e0:(y.toNat:Int).fdiv (2 ^ min (Int.toNat 8) IntKind.u32.bits)=(y.toNat:Int) / 256:=by
  rw[show (2:Int) ^ min (Int.toNat 8) IntKind.u32.bits=256 from rfl,Int.fdiv_eq_ediv_of_nonneg _ (by decide)]
 have e1:IntKind.u8.wrap (y.toNat:Int)=((y.toNat % 256:Nat):Int):=by rw[wrap_u8m (by omega)];omega
 have hl:=xor8_lt (x:=((y.toNat % 256:Nat):Int)) (y:=x) (by omega) (by omega) x0 x1
 rw[Int.toNat_natCast] at hl
 rw[e0,e1,xor8 (by omega) (by omega) x0 x1,Int.toNat_natCast,Int.toNat_natCast,Nat.zero_add,Nat.mul_one,tabL_at hl]
 have xb:(BitVec.ofInt 32 x).toNat=x.toNat:=toNat_of 32 x0 (by omega)
 have lo:(y ^^^ BitVec.ofInt 32 x) &&& 255#32=BitVec.ofNat 32 (y.toNat % 256 ^^^ x.toNat):=by
  apply BitVec.eq_of_toNat_eq
  rw[BitVec.toNat_and,BitVec.toNat_xor,xb,show (255#32).toNat=2 ^ 8-1 from rfl,BitVec.toNat_ofNat,Nat.and_two_pow_sub_one_eq_mod,Nat.xor_mod_two_pow,show (2:Nat) ^ 8=256 from rfl,Nat.mod_eq_of_lt (a:=x.toNat) (by omega),Nat.mod_eq_of_lt (b:=2 ^ 32) (Nat.lt_trans hl (by decide))]
 have hi:((y ^^^ BitVec.ofInt 32 x) >>> 8).toNat=y.toNat / 256:=by
  rw[BitVec.toNat_ushiftRight,BitVec.toNat_xor,xb,Nat.shiftRight_xor_distrib,Nat.shiftRight_eq_div_pow,Nat.shiftRight_eq_div_pow,show x.toNat / 2 ^ 8=0 from Nat.div_eq_of_lt (by omega),Nat.xor_zero]
 have tl:=(itC 8 (BitVec.ofNat 32 (y.toNat % 256 ^^^ x.toNat))).isLt
 rw[itC_tab,lo,BitVec.toNat_xor,hi]
 unfold tb
 rw[xor32 (by omega) (by omega) (by omega) (by omega)]
 congr 2
theorem crX_snoc (b:List Int)(v:Int)(x:BitVec 32):crX (b++[v]) x=itC 8 (crX b x ^^^ BitVec.ofInt 32 v):=by unfold crX;rw[List.foldl_append];rfl
def PEx (c:Int)(b:List Int):Nat->Int->Prop:=fun i z=>i<=b.length/\z=((crX (b.take i) (~~~ BitVec.ofInt 32 c)).toNat:Int)
set_option maxRecDepth 20000 in
theorem vc_ex (c:Int)(b:List Int)(K:KT)(hb:allB b)(hl:b.length<=1000000000000)(h:∀ r,r=exI c b->K (.one (.at (vU r))) [.row false EC.u8 b] []) :
  vc C0 (aEx (PEx c b) b) Tryz.f139 [.at (.val (.int .u32 c)),.at (.slc 0)] [.row false EC.u8 b] (normK 1 K):=by
 generalize hP:PEx c b=P
 refine Eq.mp (show ((∃ x:Unit,True/\(VU (c)=VU (c)/\True/\True/\True)/\b=b/\tabC=tabC/\True)/\∀ x:Unit,True->(∃ x1:XEx P,True/\((VU (xorI IntKind.u32 (if IntKind.u32.signed=true then -1 else IntKind.u32.max) c))=(VU (x1.c))/\True/\True/\VI (b.length:Int)=VI (b.length:Int)/\VI 0=(VI (x1.i:Int))/\True)/\b=b/\tabL=tabL/\True)/\∀ x1:XEx P,True->brS (decide ((x1.i:Int)<(b.length:Int))) (0<=(x1.i:Int)/\(x1.i:Int)<(b.length:Int)/\0<=xorI IntKind.u8 (IntKind.u8.wrap x1.c) (getB b (x1.i:Int).toNat)/\xorI IntKind.u8 (IntKind.u8.wrap x1.c) (getB b (x1.i:Int).toNat)<((256:Nat):Int)/\0+(xorI IntKind.u8 (IntKind.u8.wrap x1.c) (getB b (x1.i:Int).toNat)).toNat*1<tabL.length/\∃ x':XEx P,True/\(((VU (xorI IntKind.u32 (x1.c.fdiv (2 ^ min (Int.toNat 8) IntKind.u32.bits)) (getB tabL (0+(xorI IntKind.u8 (IntKind.u8.wrap x1.c) (getB b (x1.i:Int).toNat)).toNat*1))))=(VU (x'.c))/\True/\True/\VI (b.length:Int)=VI (b.length:Int)/\(VI (IntKind.i64.wrap ((x1.i:Int)+1)))=(VI (x'.i:Int))/\True)/\b=b/\tabL=tabL/\True)/\b.length-x'.i<b.length-x1.i) (K (.one (.at (.val (VU (xorI IntKind.u32 (if IntKind.u32.signed=true then -1 else IntKind.u32.max) x1.c))))) [(.row false EC.u8 (b))] []))=_ by kernel_rfl) ?_
 subst hP
 refine⟨⟨(),trivial,⟨rfl,trivial,trivial,trivial⟩,rfl,rfl,trivial⟩,fun _ _=>⟨⟨⟨0,_,Nat.zero_le _,rfl⟩,trivial,⟨?_,trivial,trivial,rfl,rfl,trivial⟩,rfl,rfl,trivial⟩,fun x _=>brS_of (fun z=>?_) fun z=>?_⟩⟩
 ·rw[not_u32];rfl
 ·obtain⟨i,c1,hi,hc⟩:=x
  dsimp only at z ⊢
  have z:i<b.length:=by have:=of_decide_eq_true z;omega
  rw[show ((i:Int)).toNat=i from rfl,wrap_id (x:=(i:Int)+1) (by omega) (by omega)]
  obtain⟨x0,x1⟩:=hb _ (getB_mem z)
  have yl:=(crX (b.take i) (~~~ BitVec.ofInt 32 c)).isLt
  have st:=tab_step (crX (b.take i) (~~~ BitVec.ofInt 32 c)) x0 x1
  rw[← hc,← crX_snoc,← take_getB z] at st
  have w0:0<=IntKind.u8.wrap c1/\IntKind.u8.wrap c1<256:=by rw[wrap_u8m (by omega)];omega
  have xl:=xor8_lt w0.1 w0.2 x0 x1
  rw[st,xor8 w0.1 w0.2 x0 x1]
  refine⟨by omega,by omega,by omega,by omega,by rw[tabL_len];omega,⟨i+1,_,z,rfl⟩,trivial,⟨⟨rfl,trivial,trivial,rfl,rfl,trivial⟩,rfl,rfl,trivial⟩,Nat.sub_lt_sub_left z (Nat.lt_succ_self i)⟩
 ·obtain⟨i,c1,hi,hc⟩:=x
  dsimp only at z ⊢
  have z:i=b.length:=by have:=of_decide_eq_false z;omega
  rw[z,List.take_length] at hc
  refine h _ ?_
  rw[not_u32,hc,bv_num];rfl
theorem s_ex:SoundT C0 139 tEx:=by
 refine .of Tryz.func139 (by decide) rfl fun args H K h hB=>?_
 unfold tEx at h
 split at h<;>try exact h.elim
 rename_i c b
 refine⟨_,?_,vc_ex c b K h.2.2.1 h.2.2.2.1 h.2.2.2.2⟩
 exact⟨frame C0.ok s_tb _,trivial⟩
theorem vc_ck (b:List Int)(K:KT)(hb:allB b)(hl:b.length<=1000000000000)(h:∀ r,r=crc b->K (.one (.at (vU r))) [.row false EC.u8 b] []) :
  vc C0 aCk Tryz.f117 [.at (.slc 0)] [.row false EC.u8 b] (normK 1 K):=by
 refine Eq.mp (show ((0:Int)<=0/\(0:Int)<4294967296/\allB b/\b.length<=1000000000000/\∀ r:Int,r=exI 0 b->K (.one (.at (.val (VU (r))))) [(.row false EC.u8 (b))] [])=_ by kernel_rfl) ?_
 exact⟨by decide,by decide,hb,hl,fun r er=>h r (er.trans (exI_zero b))⟩
theorem s_ck:SoundT C0 117 tCk:=by
 refine .of Tryz.func117 (by decide) rfl fun args H K h hB=>?_
 unfold tCk at h
 split at h<;>try exact h.elim
 rename_i b
 refine⟨_,?_,vc_ck b K h.1 h.2.1 h.2.2⟩
 exact⟨frame C0.ok s_ex _,trivial⟩
end Go.Proofs.YtedfbafngmicpaaGreat.Sx
end
