/- A part of the proof. -/
import Derived.RowKit
import Derived.WalkKit
import Derived.ProofKit
import Derived.OpenShut
import Derived.Handy
import Derived.Lib.Hide
import Derived.BigQuiet
import Derived.Deep.QuietTactic
import Derived.Laws.AppendOwnNone
import Derived.OrdersHeld
import Derived.Deep.Draws
import Derived.MapKept
import Derived.Carry
section
/- Plain laws on lists that are strictly ascending by a key. No program in sight. -/
namespace Go.Proofs.YtedfbafngmicpaaGreat

section
variable {α:Type} (key:α->Int)

def Srt (l:List α):Prop:=l.Pairwise (fun a b=>key a<key b)
def fnd (l:List α)(k:Int):Option α:=l.find? (fun a=>decide (key a=k))

variable {key}
theorem Srt.nil:Srt key []:=List.Pairwise.nil
theorem Srt.tail {x:α}{l:List α}(h:Srt key (x::l)):Srt key l:=(List.pairwise_cons.1 h).2
theorem Srt.head {x:α}{l:List α}(h:Srt key (x::l)):∀ y∈l,key x<key y:=(List.pairwise_cons.1 h).1
theorem Srt.cons {x:α}{l:List α}(h:Srt key l)(hx:∀ y∈l,key x<key y):Srt key (x::l):=List.pairwise_cons.2 ⟨hx,h⟩

theorem fnd_nil (k:Int):fnd key ([]:List α) k=none:=rfl
theorem fnd_cons (x:α)(l:List α)(k:Int):fnd key (x::l) k=if key x=k then some x else fnd key l k:=by
 unfold fnd
 by_cases h:key x=k<;>simp[h]
theorem fnd_append (l m:List α)(k:Int):fnd key (l++m) k=(fnd key l k).or (fnd key m k):=by
 unfold fnd;rw[List.find?_append]
theorem fnd_key {l:List α}{k:Int}{x:α}(h:fnd key l k=some x):key x=k:=by
 have:=List.find?_some h;simpa using this
theorem fnd_mem {l:List α}{k:Int}{x:α}(h:fnd key l k=some x):x∈l:=List.mem_of_find?_eq_some h
theorem fnd_none {l:List α}{k:Int}:fnd key l k=none↔∀ x∈l,key x≠k:=by
 unfold fnd;rw[List.find?_eq_none];simp
theorem fnd_of_lt {l:List α}{k:Int}(h:∀ x∈l,k<key x):fnd key l k=none:=fnd_none.2 fun x hx=>by have:=h x hx;omega
theorem fnd_of_gt {l:List α}{k:Int}(h:∀ x∈l,key x<k):fnd key l k=none:=fnd_none.2 fun x hx=>by have:=h x hx;omega

theorem Srt.ext {l m:List α}(hl:Srt key l)(hm:Srt key m)(h:∀ k,fnd key l k=fnd key m k):l=m:=by
 induction l generalizing m with
 | nil =>
  cases m with
  | nil=>rfl
  | cons y t=>have:=h (key y);rw[fnd_nil,fnd_cons,if_pos rfl] at this;cases this
 | cons x t ih =>
  cases m with
  | nil=>have:=h (key x);rw[fnd_nil,fnd_cons,if_pos rfl] at this;cases this
  | cons y s =>
   have hxy:key x=key y:=by
    rcases Int.lt_trichotomy (key x) (key y) with c|c|c
    ·have:=h (key x)
     rw[fnd_cons,if_pos rfl,fnd_cons,if_neg (by omega),fnd_of_lt (fun z hz=>by have:=hm.head z hz;omega)] at this
     cases this
    ·exact c
    ·have:=h (key y)
     rw[fnd_cons,if_neg (by omega),fnd_of_lt (fun z hz=>by have:=hl.head z hz;omega),fnd_cons,if_pos rfl] at this
     cases this
   have e1:x=y:=by
    have:=h (key x)
    rw[fnd_cons,if_pos rfl,fnd_cons,if_pos hxy.symm] at this
    exact Option.some.inj this
   subst e1
   congr 1
   refine ih hl.tail hm.tail fun k=>?_
   have:=h k
   rw[fnd_cons,fnd_cons] at this
   by_cases hk:key x=k
   ·subst hk
    rw[fnd_of_lt hl.head,fnd_of_lt hm.head]
   ·rw[if_neg hk,if_neg hk] at this;exact this

theorem Srt.append {l m:List α}(hl:Srt key l)(hm:Srt key m)(h:∀ x∈l,∀ y∈m,key x<key y):Srt key (l++m) :=
 List.pairwise_append.2 ⟨hl,hm,h⟩
theorem Srt.left {l m:List α}(h:Srt key (l++m)):Srt key l:=(List.pairwise_append.1 h).1
theorem Srt.right {l m:List α}(h:Srt key (l++m)):Srt key m:=(List.pairwise_append.1 h).2.1
theorem Srt.filter {l:List α}(h:Srt key l)(p:α->Bool):Srt key (l.filter p):=List.Pairwise.filter p h
theorem Srt.take {l:List α}(h:Srt key l)(n:Nat):Srt key (l.take n):=List.Pairwise.sublist (List.take_sublist _ _) h
theorem Srt.drop {l:List α}(h:Srt key l)(n:Nat):Srt key (l.drop n):=List.Pairwise.sublist (List.drop_sublist _ _) h

end

section
variable {α β:Type} (ka:α->Int) (kb:β->Int)

def pairs:List α->List β->List (Option α × Option β)
 | [],[]=>[]
 | [],y::m=>(none,some y)::pairs [] m
 | x::l,[]=>(some x,none)::pairs l []
 | x::l,y::m=>if ka x<kb y then (some x,none)::pairs l (y::m) else if kb y<ka x then (none,some y)::pairs (x::l) m else (some x,some y)::pairs l m
termination_by l m=>l.length+m.length

variable {ka kb}
end
abbrev Ent:=Int × Int
abbrev Asc (l:List Ent):Prop:=Srt Prod.fst l

def getE:List Ent->Int->Option Int
 | [],_=>none
 | (k,v)::t,q=>if k=q then some v else getE t q

theorem getE_fnd (l:List Ent)(q:Int):getE l q=(fnd Prod.fst l q).map Prod.snd:=by
 induction l with
 | nil=>rfl
 | cons x t ih =>
  obtain⟨k,v⟩:=x
  rw[fnd_cons]
  simp only[getE]
  split<;>simp[ih]

theorem fnd_getE (l:List Ent)(q:Int):fnd Prod.fst l q=(getE l q).map fun v=>(q,v):=by
 rw[getE_fnd]
 cases h:fnd Prod.fst l q with
 | none=>rfl
 | some x=>have:=fnd_key h;simp[← this]

theorem Asc.ext {l m:List Ent}(hl:Asc l)(hm:Asc m)(h:∀ q,getE l q=getE m q):l=m :=
 Srt.ext (key:=Prod.fst) hl hm fun q=>by rw[fnd_getE,fnd_getE,h]

instance (l:List Ent):Decidable (Asc l):=inferInstanceAs (Decidable (List.Pairwise (fun a b:Ent=>a.1<b.1) l))
def ascB (l:List Ent):Bool:=decide (Asc l)

end Go.Proofs.YtedfbafngmicpaaGreat
end
section
/- Words for slices of structs of one-cell fields that read as lists, and what keeps them. No program in sight. -/
namespace Go.Proofs.YtedfbafngmicpaaGreat
open Go.RowKit

structure Rd {α:Type} (f:α->List Value) (sz:Nat) (w:World) (A:Option Addr) (n c:Nat) (l:List α):Prop where
 len:n=l.length
 cap:n<=c
 max:c<=maxLen
 row:∀ x,(f x).length=sz
 nul:A=none->c=0
 get:0<n->∃ b o,A=some ⟨b,o,none⟩/\b<w.heap.size/\∀ k x,l[k]?=some x->∀ j u,(f x)[j]?=some u->w.cell? ⟨b,o+k*sz+j,none⟩=some u

section
variable {α:Type} {f:α->List Value} {sz:Nat} {w w':World} {A:Option Addr} {n c:Nat} {l:List α}

theorem Rd.at_ (h:Rd f sz w A n c l){k:Nat}{x:α}(hx:l[k]?=some x):∃ b o,A=some ⟨b,o,none⟩/\b<w.heap.size/\∀ j u,(f x)[j]?=some u->w.cell? ⟨b,o+k*sz+j,none⟩=some u:=by
 have hk:k<l.length:=by
  rcases Nat.lt_or_ge k l.length with h1|h1
  ·exact h1
  ·rw[List.getElem?_eq_none h1] at hx;cases hx
 obtain⟨b,o,hA,hb,hc⟩:=h.get (by rw[h.len];omega)
 exact⟨b,o,hA,hb,hc k x hx⟩

theorem Rd.keep (h:Rd f sz w A n c l)(hs:w.heap.size<=w'.heap.size)(hk:∀ b o,b<w.heap.size->w'.cell? ⟨b,o,none⟩=w.cell? ⟨b,o,none⟩):Rd f sz w' A n c l :=
 ⟨h.len,h.cap,h.max,h.row,h.nul,fun hn=>by
  obtain⟨b,o,hA,hb,hc⟩:=h.get hn
  exact⟨b,o,hA,by omega,fun k x hx j u hu=>(hk _ _ hb).trans (hc k x hx j u hu)⟩⟩

theorem Rd.below (h:Rd f sz w A n c l)(hb:Below w.heap.size w w'):Rd f sz w' A n c l :=
 h.keep hb.size fun _ _ hlt=>hb.cell (by exact hlt)

theorem Rd.nil (hr:∀ x,(f x).length=sz):Rd f sz w none 0 0 []:=⟨rfl,by omega,by unfold maxLen;omega,hr,fun _=>rfl,fun h=>absurd h (by omega)⟩
end

def Own {α:Type}(f:α->List Value)(sz:Nat)(e:TypeId)(w:World)(B:Nat)(v:Value)(l:List α):Prop :=
 (∀ x,(f x).length=sz)/\w.ownsRow B e sz v l.length (l.flatMap f)

section
variable {α:Type} {f:α->List Value} {sz:Nat} {e:TypeId} {w w':World} {B:Nat} {v:Value} {l:List α}

theorem length_flat (hr:∀ x,(f x).length=sz)(l:List α):(l.flatMap f).length=l.length*sz:=by
 induction l with
 | nil=>simp
 | cons x t ih=>simp[ih,hr x,Nat.succ_mul,Nat.add_comm]

theorem flat_get (hr:∀ x,(f x).length=sz):∀ (l:List α) (k:Nat) (x:α),l[k]?=some x->∀ j u,(f x)[j]?=some u->(l.flatMap f)[k*sz+j]?=some u:=by
 intro l
 induction l with
 | nil=>intro k x hx;simp at hx
 | cons y t ih =>
  intro k x hx j u hu
  rw[List.flatMap_cons]
  cases k with
  | zero =>
   simp at hx;subst hx
   have hj:j<(f y).length:=(List.getElem?_eq_some_iff.1 hu).1
   rw[Nat.zero_mul,Nat.zero_add,List.getElem?_append_left hj];exact hu
  | succ k =>
   simp at hx
   have:=ih k x hx j u hu
   rw[List.getElem?_append_right (by rw[hr y,Nat.succ_mul];omega),hr y,← this]
   congr 1
   rw[Nat.succ_mul];omega

theorem Own.nil (hr:∀ x,(f x).length=sz):Own f sz e w B (.slice none 0 0) ([]:List α):=⟨hr,World.ownsRow_nil _ _ _ _⟩

theorem Own.form (h:Own f sz e w B v l):∃ A c,v = .slice A l.length c/\Rd f sz w A l.length c l/\(∀ a,A=some a->B<=a.block):=by
 obtain⟨hr,hlen,h⟩:=h
 rcases h with ⟨rfl,h0⟩|⟨g,cap,cur,rfl,hg,hh,hn,hm,hsz,htk⟩
 ·have hnil:l=[]:=List.eq_nil_of_length_eq_zero h0
  subst hnil
  exact⟨none,0,rfl,Rd.nil hr,fun _ h=>by cases h⟩
 ·refine⟨some ⟨g,0,none⟩,cap,rfl,⟨rfl,hn,hm,hr,fun h=>(by cases h),fun hpos=>⟨g,0,rfl,?_,?_⟩⟩,fun a h=>by cases h;exact hg⟩
  ·rcases Nat.lt_or_ge g w.heap.size with h1|h1
   ·exact h1
   ·rw[Array.getElem?_eq_none h1] at hh;cases hh
  ·intro k x hx j u hu
   have h1:=flat_get hr l k x hx j u hu
   rw[← htk,List.getElem?_take] at h1
   rw[cell_of_row w g _ cur e _ hh]
   split at h1
   ·rw[← h1,Array.getElem?_toList];simp
   ·cases h1

theorem Own.rd {A:Option Addr}{n c:Nat}(h:Own f sz e w B (.slice A n c) l):n=l.length/\Rd f sz w A n c l:=by
 obtain⟨A',c',hv,hrd,_⟩:=h.form
 injection hv with h1 h2 h3
 subst h1 h2 h3
 exact⟨rfl,hrd⟩

theorem Own.ge (h:Own f sz e w B v l):∀ k,v.ownBlock=some k->B<=k/\k<w.heap.size:=h.2.lt

theorem Own.keep (h:Own f sz e w B v l)(hk:∀ b,B<=b->b<w.heap.size->w'.heap[b]?=w.heap[b]?):Own f sz e w' B v l:=by
 obtain⟨hr,hlen,h⟩:=h
 refine⟨hr,hlen,?_⟩
 rcases h with h|⟨g,cap,cur,hv,hg,hh,rest⟩
 ·exact .inl h
 ·have hlt:g<w.heap.size:=by
   rcases Nat.lt_or_ge g w.heap.size with h1|h1
   ·exact h1
   ·rw[Array.getElem?_eq_none h1] at hh;cases hh
  exact .inr ⟨g,cap,cur,hv,hg,(hk g hg hlt).trans hh,rest⟩

theorem Own.below (h:Own f sz e w B v l)(hb:Below w.heap.size w w'):Own f sz e w' B v l:=h.keep fun b _ hlt=>hb.block b hlt
theorem Own.drew (h:Own f sz e w B v l):Own f sz e w.drew B v l:=h
theorem Own.alloc (h:Own f sz e w B v l)(o:Obj):Own f sz e (w.alloc o) B v l:=h.below ((Below.refl _ _).alloc (Nat.le_refl _) o)
theorem Own.mono {B':Nat}(h:Own f sz e w B v l)(hB:B'<=B):Own f sz e w B' v l:=by
 obtain⟨hr,hlen,h⟩:=h
 refine⟨hr,hlen,?_⟩
 rcases h with h|⟨g,cap,cur,hv,hg,rest⟩
 ·exact .inl h
 ·exact .inr ⟨g,cap,cur,hv,by omega,rest⟩
end

theorem Rd.cut {α:Type}{f:α->List Value}{sz:Nat}{w:World}{A:Option Addr}{n c:Nat}{l:List α}(h:Rd f sz w A n c l){k:Nat}(hk:k<=n) :
  Rd f sz w (if c=k then A else A.map (·.add (k*sz))) (n-k) (c-k) (l.drop k):=by
 have hc:=h.cap
 refine⟨by rw[List.length_drop,h.len],by omega,by have:=h.max;omega,h.row,fun hA=>?_,fun hn=>?_⟩
 ·by_cases e:c=k
  ·omega
  ·rw[if_neg e] at hA
   have:A=none:=by cases A<;>simp_all
   have:=h.nul this;omega
 ·obtain⟨b,o,rfl,hb,hcell⟩:=h.get (by omega)
  rw[if_neg (by omega)]
  refine⟨b,o+k*sz,by simp[Addr.add_lit],hb,fun j x hx i u hu=>?_⟩
  rw[List.getElem?_drop] at hx
  have:=hcell (k+j) x hx i u hu
  rw[Nat.add_mul] at this
  rw[show o+k*sz+j*sz+i=o+(k*sz+j*sz)+i by omega];exact this

theorem Rd.head {α:Type}{f:α->List Value}{sz:Nat}{w:World}{A:Option Addr}{n c:Nat}{l:List α}(h:Rd f sz w A n c l){k:Nat}(hk:k<=n) :
  Rd f sz w A k c (l.take k):=by
 have hc:=h.cap
 refine⟨by rw[List.length_take,← h.len];omega,by omega,h.max,h.row,h.nul,fun hn=>?_⟩
 obtain⟨b,o,rfl,hb,hcell⟩:=h.get (by omega)
 refine⟨b,o,rfl,hb,fun j x hx i u hu=>hcell j x ?_ i u hu⟩
 rw[List.getElem?_take] at hx
 split at hx
 ·exact hx
 ·cases hx

end Go.Proofs.YtedfbafngmicpaaGreat
end
section
/- Rows that are owned; behind their last cell a mark may stand ('[]byte' of a constant string). No program in sight. -/
namespace Go.Proofs.YtedfbafngmicpaaGreat.Sx
open Go

def ownR (w:World)(e:TypeId)(sz:Nat)(v:Value)(n:Nat)(xs:List Value):Prop :=
 xs.length=n*sz ∧
 ((v = .slice none 0 0/\n=0) ∨
  ∃ g cap cur fz,v = .slice (some ⟨g,0,none⟩) n cap/\w.heap[g]?=some (.cells cur e fz)/\(fz=(0,0)∨cur.size<=fz.1)/\n<=cap/\cap<=maxLen/\cur.size=cap*sz/\cur.toList.take (n*sz)=xs)

section
variable {w w':World} {e:TypeId} {sz n:Nat} {v:Value} {xs:List Value}

theorem ownR.of (h:w.ownsRow 0 e sz v n xs):ownR w e sz v n xs:=by
 refine⟨h.1,?_⟩
 rcases h.2 with h2|⟨g,cap,cur,h1,_,h2,rest⟩
 ·exact .inl h2
 ·exact .inr ⟨g,cap,cur,(0,0),h1,h2,.inl rfl,rest⟩
theorem ownR.nil (w:World)(e:TypeId)(sz:Nat):ownR w e sz (.slice none 0 0) 0 []:=.of (World.ownsRow_nil _ _ _ _)
theorem ownR.lt (h:ownR w e sz v n xs)(k:Nat)(hk:v.ownBlock=some k):k<w.heap.size:=by
 rcases h.2 with ⟨rfl,_⟩|⟨g,cap,cur,fz,rfl,hg,_⟩
 ·simp[Value.ownBlock] at hk
 ·simp[Value.ownBlock] at hk
  subst hk
  exact (Array.getElem?_eq_some_iff.1 hg).1
theorem ownR.keep (h:ownR w e sz v n xs)(hb:∀ b,v.ownBlock=some b->w'.heap[b]?=w.heap[b]?):ownR w' e sz v n xs:=by
 refine⟨h.1,?_⟩
 rcases h.2 with h2|⟨g,cap,cur,fz,rfl,hg,rest⟩
 ·exact .inl h2
 ·exact .inr ⟨g,cap,cur,fz,rfl,(hb g rfl).trans hg,rest⟩
theorem ownR.cells (h:ownR w e sz v n xs){g:Nat}(hg:v.ownBlock=some g):∀ (j:Nat) (u:Value),xs[j]?=some u->w.cell? ((⟨g,0,none⟩:Addr).add j)=some u:=by
 intro j u hu
 rcases h.2 with ⟨rfl,_⟩|⟨g',cap,cur,fz,rfl,hgg,_,_,_,_,htake⟩
 ·simp[Value.ownBlock] at hg
 ·simp[Value.ownBlock] at hg
  subst hg
  have hadd:(⟨g',0,none⟩:Addr).add j=⟨g',j,none⟩:=by unfold Addr.add;split<;>simp_all
  rw[hadd,cell_of_row w g' j cur e fz hgg]
  rw[← htake,List.getElem?_take] at hu
  split at hu
  ·simpa using hu
  ·cases hu
theorem ownR.form {α:Type}{f:α->List Value}{l:List α}(hr:∀ x,(f x).length=sz)(h:ownR w e sz v l.length (l.flatMap f)):∃ A c,v = .slice A l.length c/\Rd f sz w A l.length c l:=by
 rcases h.2 with ⟨rfl,h0⟩|⟨g,cap,cur,fz,rfl,hh,_,hn,hm,hsz,htk⟩
 ·have hnil:l=[]:=List.eq_nil_of_length_eq_zero h0
  subst hnil
  exact⟨none,0,rfl,Rd.nil hr⟩
 ·refine⟨some ⟨g,0,none⟩,cap,rfl,⟨rfl,hn,hm,hr,fun h=>(by cases h),fun hpos=>⟨g,0,rfl,(Array.getElem?_eq_some_iff.1 hh).1,?_⟩⟩⟩
  intro k x hx j u hu
  have h1:=flat_get hr l k x hx j u hu
  rw[← htk,List.getElem?_take] at h1
  rw[cell_of_row w g _ cur e _ hh]
  split at h1
  ·rw[← h1,Array.getElem?_toList];simp
  ·cases h1
end

theorem storeCells_R (P:Program)(g o:Nat)(t:TypeId)(fz:Nat × Nat):∀ (vs:List Value) (i:Nat) (cur:Array Value) (w:World),w.heap[g]?=some (.cells cur t fz)->(fz=(0,0)∨cur.size<=fz.1)->o+i+vs.length<=cur.size->(∀ v∈vs,v.oneCell'=true) →
  (storeCells ⟨g,o,none⟩ vs i).run P w = .ok () (w.setRow g (cur.toList.take (o+i)++vs++cur.toList.drop (o+i+vs.length)).toArray)
 | [],i,cur,w,hg,_,_,_=>by
  simp only[storeCells,List.append_nil,List.length_nil,Nat.add_zero,List.take_append_drop,Array.toArray_toList]
  rw[setRow_self w g cur t fz hg]
  rfl
 | v::rest,i,cur,w,hg,hfz,hl,h1=>by
  have hi:o+i<cur.size:=by simp at hl;omega
  have hadd:(⟨g,o,none⟩:Addr).add i=⟨g,o+i,none⟩:=by unfold Addr.add;split<;>simp_all
  have hcell:w.cell? ⟨g,o+i,none⟩=some cur[o+i]:=by simp[World.cell?,hg,hi]
  have hfro:w.frozen? ⟨g,o+i,none⟩=false:=by
   obtain⟨lo,hi'⟩:=fz
   simp only[World.frozen?,hg,Bool.and_eq_false_iff,decide_eq_false_iff_not]
   rcases hfz with e|e
   ·right;injection e with e1 e2;omega
   ·left;simp only at e;omega
  have hst:(store ((⟨g,o,none⟩:Addr).add i) v).run P w = .ok () (w.setRow g (cur.setIfInBounds (o+i) v)):=by
   rw[hadd,run_store P w _ v _ (h1 v (by simp)),hcell]
   simp[hfro,setCell_eq_setRow w g (o+i) cur t fz v hg]
  have ih:=storeCells_R P g o t fz rest (i+1) (cur.setIfInBounds (o+i) v) (w.setRow g (cur.setIfInBounds (o+i) v)) (setRow_heap w g cur _ t _ hg) (by simpa using hfz) (by simp at hl ⊢;omega) (fun x hx=>h1 x (by simp[hx]))
  simp only[storeCells,Sem.run_bind,hst,Result.andThen_ok,ih,setRow_setRow]
  congr 3
  have e:=list_seg_step cur.toList (o+i) v rest (by simp at hl ⊢;omega)
  simpa [Array.toList_setIfInBounds,Nat.add_assoc] using e

section
variable {P:Program} {w:World}

theorem append_R_none (t ty e:TypeId)(i:TypeInfo)(sz:Nat)(ht:P.underlying t=some (.slice e))(hi:P.info? e=some i)(v:Value)(n:Nat)(xs:List Value)(h:ownR w e sz v n xs) :
  (Builtin.append_ #[t,t] ty #[v,.slice none 0 0]).run P w = .ok v w:=by
 rcases h.2 with ⟨rfl,rfl⟩|⟨g,cap,cur,fz,rfl,hg,hf,hnc,rest⟩
 ·exact run_append_owned_none (P:=P) (w:=w) 0 t ty e i sz ht hi _ 0 [] (World.ownsRow_nil _ _ _ _)
 ·simp[Builtin.append_,run_underlying ht,sizeOf,typeInfo,hi,Builtin.lenOf,hnc,Builtin.firstCells,storeCells]

theorem append_R_room (t ty e:TypeId)(i:TypeInfo)(ht:P.underlying t=some (.slice e))(hi:P.info? e=some i)(g sLen sCap:Nat)(cur:Array Value)(fz:Nat × Nat)(hg:w.heap[g]?=some (.cells cur e fz))(hfz:fz=(0,0)∨cur.size<=fz.1)(a:Addr)(m c:Nat)(news:List Value)(hl:news.length=m*i.size)(hnews:∀ (j:Nat) (u:Value),news[j]?=some u->w.cell? (a.add j)=some u)(h1:∀ u∈news,u.oneCell'=true)(hroom:sLen+m<=sCap)(hfit:sLen*i.size+news.length<=cur.size) :
  (Builtin.append_ #[t,t] ty #[.slice (some ⟨g,0,none⟩) sLen sCap,.slice (some a) m c]).run P w =
   .ok (.slice (some ⟨g,0,none⟩) (sLen+m) sCap) (w.setRow g (cur.toList.take (sLen*i.size)++news++cur.toList.drop (sLen*i.size+news.length)).toArray):=by
 have hf:=run_firstCells_some (P:=P) w i.size m a m c news hl hnews
 have hst:=storeCells_R P g (sLen*i.size) e fz news 0 cur w hg hfz (by simpa using hfit) h1
 simp only[Nat.add_zero] at hst
 simp[Builtin.append_,run_underlying ht,sizeOf,typeInfo,hi,Builtin.lenOf,hroom,hf,Addr.add_lit,hst]

theorem append_R (t ty e:TypeId)(i:TypeInfo)(z:Value)(size bytes:Nat)(ht:P.underlying t=some (.slice e))(hi:P.info? e=some i)(hz:i.zero=some z)(hsize:i.size=size)(hby:i.bytes=bytes)(hzs:z.cells.size=size)(hsz:0<size)(v:Value)(n:Nat)(xs:List Value)(hown:ownR w e size v n xs)(a:Addr)(m c:Nat)(news:List Value)(hl:news.length=m*size)(hnews:∀ (j:Nat) (u:Value),news[j]?=some u->w.cell? (a.add j)=some u)(h1:∀ u∈news,u.oneCell'=true)(h63:n+m<=maxLen)(hbytes:(n+m)*bytes<=140737488355328) :
  ∃ v' w',(Builtin.append_ #[t,t] ty #[v,.slice (some a) m c]).run P w = .ok v' w'/\ownR w' e size v' (n+m) (xs++news)/\w.grownBy w' v.ownBlock/\∀ k,v'.ownBlock=some k->v.ownBlock=some k∨w.heap.size<=k:=by
 subst hsize
 subst hby
 have hsmall:n+m<=9223372036854775807:=by simp only[maxLen] at h63;omega
 have hlen:(xs++news).length=(n+m)*i.size:=by rw[List.length_append,hown.1,hl,Nat.add_mul]
 have grown:∀ (old:Nat),old<n+m->∀ (row:Option Nat),
   ownR (w.drew.alloc (.cells (xs.toArray++news.toArray++Builtin.zeroCells z.cells (grownCap w (n+m) old e-(n+m))) e)) e i.size
    (.slice (some ⟨w.heap.size,0,none⟩) (n+m) (grownCap w (n+m) old e)) (n+m) (xs++news) ∧
   w.grownBy (w.drew.alloc (.cells (xs.toArray++news.toArray++Builtin.zeroCells z.cells (grownCap w (n+m) old e-(n+m))) e)) row:=by
  intro old ho row
  have hge:=grownCap_ge w (n+m) old e
  have hcm:grownCap w (n+m) old e<=maxLen:=grownCap_le_maxLen w (n+m) old e h63
  refine⟨⟨hlen,.inr ⟨w.heap.size,_,_,(0,0),rfl,heap_alloc_new w.drew _,.inl rfl,hge,hcm,?_,?_⟩⟩,⟨rfl,rfl,rfl,by simp,fun k hk _=>heap_alloc_old w.drew _ hk⟩⟩
  ·simp only[Array.size_append,List.size_toArray,size_zeroCells,hzs,hown.1,hl,← Nat.add_mul]
   congr 1
   omega
  ·simp only[Array.toList_append,List.append_assoc]
   rw[← List.append_assoc,← hlen]
   exact List.take_left
 rcases hown.2 with ⟨rfl,rfl⟩|⟨g,cap,cur,fz,rfl,hg,hfz,hnc,hcm,hcs,htake⟩
 ·have hx:xs=[]:=List.eq_nil_of_length_eq_zero (by simpa using hown.1)
  subst hx
  by_cases hm:m=0
  ·subst hm
   have hn:news=[]:=List.eq_nil_of_length_eq_zero (by simpa using hl)
   subst hn
   refine⟨.slice none 0 0,w,?_,ownR.nil w e i.size,⟨rfl,rfl,rfl,Nat.le_refl _,fun _ _ _=>rfl⟩,fun k hk=>.inl hk⟩
   simp[Builtin.append_,run_underlying ht,sizeOf,typeInfo,hi,Builtin.lenOf,Builtin.firstCells,loadCells,loadCellsFrom]
  ·have hr:=run_append_nil (P:=P) w t ty e i z ht hi hz a m c news hl hnews (by omega) (by omega) (by have hb:=hbytes;simp only[Nat.zero_add] at hb;omega)
   have hgr:=grown 0 (by omega) (Value.ownBlock (.slice none 0 0))
   simp only[Nat.zero_add,List.nil_append,Array.empty_append] at hgr ⊢
   exact⟨_,_,hr,hgr.1,hgr.2,fun k hk=>.inr (by simp only[Value.ownBlock,Option.some.injEq] at hk;omega)⟩
 ·by_cases hroom:n+m<=cap
  ·have hfit:n*i.size+news.length<=cur.size:=by rw[hl,hcs,← Nat.add_mul];exact Nat.mul_le_mul_right _ hroom
   have hr:=append_R_room (P:=P) (w:=w) t ty e i ht hi g n cap cur fz hg hfz a m c news hl hnews h1 hroom hfit
   have hs:(cur.toList.take (n*i.size)++news++cur.toList.drop (n*i.size+news.length)).toArray.size=cur.size:=by
    simp only[List.size_toArray,List.length_append,List.length_take,List.length_drop,Array.length_toList]
    omega
   refine⟨_,_,hr,⟨hlen,.inr ⟨g,cap,_,fz,rfl,setRow_heap w g cur _ e _ hg,by rw[hs];exact hfz,hroom,hcm,by rw[hs];exact hcs,?_⟩⟩,⟨rfl,rfl,rfl,by simp,fun k _ hk=>setRow_other w g k _ (fun e=>hk (by simp[Value.ownBlock,e]))⟩,fun k hk=>.inl hk⟩
   rw[htake,← hlen]
   exact List.take_left
  ·have holds:∀ (j:Nat) (u:Value),xs[j]?=some u->w.cell? ((⟨g,0,none⟩:Addr).add j)=some u:=hown.cells (g:=g) rfl
   have hr:=run_append_grow (P:=P) w t ty e i z ht hi hz ⟨g,0,none⟩ n cap xs hown.1 holds a m c news hl hnews (by omega) (by omega) (growslice_fits (by omega) hbytes)
   have hgr:=grown cap (by omega) (Value.ownBlock (.slice (some ⟨g,0,none⟩) n cap))
   exact⟨_,_,hr,hgr.1,hgr.2,fun k hk=>.inr (by simp only[Value.ownBlock,Option.some.injEq] at hk;omega)⟩

theorem convert_R (t e:TypeId)(sz:Nat)(ht:P.underlying t=some (.slice e))(he:P.underlying e=some (.int .u8)){v:Value}{n:Nat}{xs:List Value}(h:ownR w e sz v n xs)(hn:0<n) :
  ∃ w',(convert t t v).run P w = .ok v w'/\ownR w' e sz v n xs/\w.grownBy w' v.ownBlock/\w'.heap.size=w.heap.size:=by
 rcases h.2 with ⟨_,h0⟩|⟨g,cap,cur,fz,rfl,hg,hfz,hnc,hcm,hcs,htk⟩
 ·omega
 have hlt:g<w.heap.size:=(Array.getElem?_eq_some_iff.1 hg).1
 have hsh:w.shape? g=some (e,cur.size):=by unfold World.shape?;rw[hg]
 have hgv:w.heap[g] = .cells cur e fz:=(Array.getElem?_eq_some_iff.1 hg).2
 refine⟨w.freeze ⟨g,cur.size,none⟩ 1,?_,⟨h.1,.inr ⟨g,cap,cur,if fz.1==fz.2 then (cur.size,cur.size+1) else (min fz.1 cur.size,max fz.2 (cur.size+1)),rfl,?_,.inr ?_,hnc,hcm,hcs,htk⟩⟩,⟨rfl,rfl,rfl,?_,fun k hk hne=>?_⟩,?_⟩
 ·simp[convert,run_underlying ht,run_underlying he,markStringish,hsh]
 ·unfold World.freeze
  rw[if_neg (by decide)]
  show (w.heap.modify g _)[g]?=_
  rw[Array.getElem?_modify,if_pos rfl,hg]
  rfl
 ·split
  ·exact Nat.le_refl _
  ·rcases hfz with e0|e0
   ·rename_i hne;rw[e0] at hne;exact absurd rfl hne
   ·show cur.size<=min fz.1 cur.size
    omega
 ·unfold World.freeze
  rw[if_neg (by decide)]
  show w.heap.size<=(w.heap.modify g _).size
  simp
 ·unfold World.freeze
  rw[if_neg (by decide)]
  show (w.heap.modify g _)[k]?=_
  rw[Array.getElem?_modify,if_neg (fun e=>hne (by simp[Value.ownBlock,e]))]
 ·unfold World.freeze
  rw[if_neg (by decide)]
  show (w.heap.modify g _).size=_
  simp
end
end Go.Proofs.YtedfbafngmicpaaGreat.Sx
end
section
/- A logic of memory for walks: symbolic values, chunks of memory with names, and what keeps them. No program in sight. -/
namespace Go.Proofs.YtedfbafngmicpaaGreat.Sx
open Go

inductive At where
 | any
 | val (v:Value)
 | ptr (n off:Nat)
 | eptr (n i sz off:Nat)
 | slc (n:Nat)
 | fn (f:FuncId) (caps:List Nat)

inductive TV where
 | at (a:At)
 | agg (l:List At)

inductive SV where
 | one (x:TV)
 | tup (l:List TV)

structure Ctx where
 P:Program
 EC:Type
 deq:DecidableEq EC
 α:EC->Type
 enc:(e:EC)->α e->List Value
 dcd:(e:EC)->List Value->Option (α e)
 dft:(e:EC)->α e
 sz:EC->Nat
 tid:EC->TypeId
 byT:TypeId->Option EC
 lst:EC->Option EC:=fun _=>none
 X:Type
 I:X->World->Value->(Nat->Prop)->Prop

structure Ctx.OK (C:Ctx):Prop where
 len:∀ e x,(C.enc e x).length=C.sz e
 one:∀ e x,∀ u∈C.enc e x,u.oneCell'=true
 dcd:∀ e cs x,C.dcd e cs=some x->C.enc e x=cs
 pos:∀ e,0<C.sz e
 info:∀ e,∃ i z,C.P.info? (C.tid e)=some i/\i.zero=some z/\i.size=C.sz e/\z.cells.toList=C.enc e (C.dft e)/\0<i.bytes
 byT:∀ t e,C.byT t=some e->t=C.tid e
 lst:∀ h e,C.lst h=some e->C.sz h=1
 local_:∀ x w w' v f,C.I x w v f->w.heap.size<=w'.heap.size->(∀ b,f b->w'.heap[b]?=w.heap[b]?)->C.I x w' v f
 mixed:C.P.follows .mixedOrders=true

inductive Chunk (C:Ctx) where
 | gone
 | box (cells:List At)
 | row (own:Bool) (e:C.EC) (l:List (C.α e))
 | abs (x:C.X)
 | map (kk vk:IntKind) (l:List (Int × Int))
 | rows (h e:C.EC) (ll:List (List (C.α e)))
 | arr (k:IntKind) (l:List Int)

section
variable {C:Ctx}

def Rels {α β:Type}(R:α->β->Prop)(l:List α)(m:List β):Prop:=l.length=m.length/\∀ (i:Nat) (a:α) (b:β),l[i]?=some a->m[i]?=some b->R a b

theorem Rels.nil {α β:Type}{R:α->β->Prop}:Rels R [] []:=⟨rfl,fun i a b h=>by simp at h⟩
theorem Rels.mono {α β:Type}{R S:α->β->Prop}{l:List α}{m:List β}(h:Rels R l m)(hi:∀ a b,a∈l->R a b->S a b):Rels S l m :=
 ⟨h.1,fun i a b ha hb=>hi a b (List.mem_of_getElem? ha) (h.2 i a b ha hb)⟩
theorem Rels.get {α β:Type}{R:α->β->Prop}{l:List α}{m:List β}(h:Rels R l m){i:Nat}{a:α}(ha:l[i]?=some a):∃ b,m[i]?=some b/\R a b:=by
 have hi:i<l.length:=(List.getElem?_eq_some_iff.1 ha).1
 have hm:i<m.length:=h.1 ▸ hi
 exact⟨m[i],List.getElem?_eq_getElem hm,h.2 i a _ ha (List.getElem?_eq_getElem hm)⟩
theorem Rels.cons {α β:Type}{R:α->β->Prop}{a:α}{b:β}{l:List α}{m:List β}(hab:R a b)(h:Rels R l m):Rels R (a::l) (b::m) :=
 ⟨by simp[h.1],fun i x y hx hy=>by
  cases i with
  | zero=>simp at hx hy;subst hx hy;exact hab
  | succ i=>simp at hx hy;exact h.2 i x y hx hy⟩
theorem Rels.append {α β:Type}{R:α->β->Prop}{l l':List α}{m m':List β}(h:Rels R l m)(h':Rels R l' m'):Rels R (l++l') (m++m') :=
 ⟨by simp[h.1,h'.1],fun i x y hx hy=>by
  rcases Nat.lt_or_ge i l.length with hi|hi
  ·rw[List.getElem?_append_left hi] at hx
   rw[List.getElem?_append_left (h.1 ▸ hi)] at hy
   exact h.2 i x y hx hy
  ·rw[List.getElem?_append_right hi] at hx
   rw[List.getElem?_append_right (h.1 ▸ hi),← h.1] at hy
   exact h'.2 _ x y hx hy⟩
theorem Rels.drop {α β:Type}{R:α->β->Prop}{l:List α}{m:List β}(h:Rels R l m)(k:Nat):Rels R (l.drop k) (m.drop k) :=
 ⟨by simp[h.1],fun i x y hx hy=>by rw[List.getElem?_drop] at hx hy;exact h.2 _ x y hx hy⟩
theorem Rels.take {α β:Type}{R:α->β->Prop}{l:List α}{m:List β}(h:Rels R l m)(k:Nat):Rels R (l.take k) (m.take k) :=
 ⟨by simp[h.1],fun i x y hx hy=>by
  rw[List.getElem?_take] at hx hy
  split at hx
  ·rename_i hk;rw[if_pos hk] at hy;exact h.2 _ x y hx hy
  ·cases hx⟩
theorem Rels.set {α β:Type}{R:α->β->Prop}{l:List α}{m:List β}(h:Rels R l m)(k:Nat){a:α}{b:β}(hab:R a b):Rels R (l.set k a) (m.set k b) :=
 ⟨by simp[h.1],fun i x y hx hy=>by
  rw[List.getElem?_set] at hx hy
  split at hx
  ·rename_i hk
   rw[if_pos hk] at hy
   split at hx
   ·rename_i hl
    rw[if_pos (h.1 ▸ hl)] at hy
    simp at hx hy;subst hx hy;exact hab
   ·cases hx
  ·rename_i hk;rw[if_neg hk] at hy;exact h.2 _ x y hx hy⟩

def At.rel (σ:Nat->Value):At->Value->Prop
 | .any,_=>True
 | .val u,v=>v=u
 | .ptr n off,v=>∃ b,σ n = .pointer (some ⟨b,0,none⟩)/\v = .pointer (some ⟨b,off,none⟩)
 | .eptr n i sz off,v=>∃ b o len cap,σ n = .slice (some ⟨b,o,none⟩) len cap/\i<len/\v = .pointer (some ⟨b,o+i*sz+off,none⟩)
 | .slc n,v=>v=σ n
 | .fn f caps,v=>v = .func (.func f) #[] (caps.map σ).toArray/\∀ c∈caps,∃ b,σ c = .pointer (some ⟨b,0,none⟩)

def TV.rel (σ:Nat->Value):TV->Value->Prop
 | .at a,v=>a.rel σ v
 | .agg l,v=>∃ cs,v = .agg cs.toArray/\Rels (At.rel σ) l cs

def SV.rel (σ:Nat->Value):SV->Value->Prop
 | .one x,v=>x.rel σ v
 | .tup l,v=>∃ vs,v = .tuple vs.toArray/\Rels (TV.rel σ) l vs

def At.names:At->List Nat
 | .any|.val _=>[]
 | .ptr n _|.eptr n _ _ _|.slc n=>[n]
 | .fn _ caps=>caps
def TV.names:TV->List Nat
 | .at a=>a.names
 | .agg l=>l.flatMap At.names
def SV.names:SV->List Nat
 | .one x=>x.names
 | .tup l=>l.flatMap TV.names

theorem At.rel_of {σ σ':Nat->Value}{a:At}{v:Value}(h:a.rel σ v)(hn:∀ n∈a.names,σ' n=σ n):a.rel σ' v:=by
 cases a with
 | any=>trivial
 | val u=>exact h
 | ptr n off=>obtain⟨b,h1,h2⟩:=h;exact⟨b,(hn n (by simp[At.names])).trans h1,h2⟩
 | eptr n i sz off=>obtain⟨b,o,len,cap,h1,h2⟩:=h;exact⟨b,o,len,cap,(hn n (by simp[At.names])).trans h1,h2⟩
 | slc n=>exact (show v=σ n from h).trans (hn n (by simp[At.names])).symm
 | fn f caps =>
  refine⟨?_,fun c hc=>by rw[hn c hc];exact h.2 c hc⟩
  rw[h.1]
  congr 2
  exact (List.map_congr_left fun n hm=>hn n hm).symm
theorem TV.rel_of {σ σ':Nat->Value}{a:TV}{v:Value}(h:a.rel σ v)(hn:∀ n∈a.names,σ' n=σ n):a.rel σ' v:=by
 cases a with
 | «at» a=>exact At.rel_of h hn
 | agg l =>
  obtain⟨cs,h1,h2⟩:=h
  exact⟨cs,h1,h2.mono fun a b ha hr=>At.rel_of hr fun n hm=>hn n (List.mem_flatMap.2 ⟨a,ha,hm⟩)⟩
theorem SV.rel_of {σ σ':Nat->Value}{a:SV}{v:Value}(h:a.rel σ v)(hn:∀ n∈a.names,σ' n=σ n):a.rel σ' v:=by
 cases a with
 | one a=>exact TV.rel_of h hn
 | tup l =>
  obtain⟨cs,h1,h2⟩:=h
  exact⟨cs,h1,h2.mono fun a b ha hr=>TV.rel_of hr fun n hm=>hn n (List.mem_flatMap.2 ⟨a,ha,hm⟩)⟩

def Chunk.names:Chunk C->List Nat
 | .box cells=>cells.flatMap At.names
 | _=>[]

def flat (C:Ctx)(e:C.EC)(l:List (C.α e)):List Value:=l.flatMap (C.enc e)

def Imm (C:Ctx)(w:World)(v:Value)(e:C.EC)(l:List (C.α e)):Prop:=∃ A c,v = .slice A l.length c/\Rd (C.enc e) (C.sz e) w A l.length c l

def Ro (w:World)(v:Value)(b:Nat):Chunk C->Prop
 | .row false _ l=>0<l.length/\v.ownBlock=some b
 | .rows h e ll=>∃ vs,w.ownsRow 0 (C.tid h) 1 v ll.length vs/\∃ (i:Nat) (u:Value) (l:List (C.α e)),vs[i]?=some u/\ll[i]?=some l/\0<l.length/\u.ownBlock=some b
 | _=>False

def Holds (w:World)(σ:Nat->Value)(v:Value)(f:Nat->Prop):Chunk C->Prop
 | .gone=>True
 | .box cells=>∃ b t cs,v = .pointer (some ⟨b,0,none⟩)/\(∀ k,f k↔k=b)/\w.heap[b]?=some (.cells cs t (0,0))/\Rels (At.rel σ) cells cs.toList
 | .row true e l=>ownR w (C.tid e) (C.sz e) v l.length (flat C e l)/\(∀ k,f k↔v.ownBlock=some k)
 | .row false e l=>Imm C w v e l/\(∀ k,¬ f k)
 | .abs x=>C.I x w v f/\∃ b,v = .pointer (some ⟨b,0,none⟩)
 | .map kk vk l=>∃ b es ck,v = .map (some b)/\(∀ k,f k↔k=b)/\w.heap[b]?=some (.map es ck)/\es.toList.map (fun e=>(e.key,e.val))=l.map fun p=>(Value.int kk p.1,Value.int vk p.2)
 | .arr kk l=>∃ b t cs,v = .pointer (some ⟨b,0,none⟩)/\(∀ k,f k↔k=b)/\w.heap[b]?=some (.cells cs t (0,0))/\cs.toList=l.map (.int kk)
 | .rows h e ll=>C.sz h=1/\(∃ vs,w.ownsRow 0 (C.tid h) 1 v ll.length vs/\Rels (fun l u=>Imm C w u e l) ll vs)/\(∀ k,f k↔v.ownBlock=some k)

structure Sat (C:Ctx) (σ:Nat->Value) (φ:Nat->Nat->Prop) (w:World) (H:List (Chunk C)):Prop where
 holds:∀ (n:Nat) (c:Chunk C),H[n]?=some c->Holds w σ (σ n) (φ n) c
 dis:∀ n m b,φ n b->φ m b->n=m
 bd:∀ n b,φ n b->b<w.heap.size
 imm:∀ (n:Nat) (c:Chunk C),H[n]?=some c->∀ b,Ro w (σ n) b c->∀ m,¬ φ m b
 out:∀ n,H.length<=n->∀ b,¬ φ n b
 cl:∀ (n:Nat) (c:Chunk C),H[n]?=some c->∀ m∈c.names,m<H.length

theorem Sat.immr {σ:Nat->Value}{φ:Nat->Nat->Prop}{w:World}{H:List (Chunk C)}(h:Sat C σ φ w H)(n:Nat)(e:C.EC)(l:List (C.α e))(hl:H[n]?=some (.row false e l))(hpos:0<l.length)(b:Nat)(hb:(σ n).ownBlock=some b)(m:Nat):¬ φ m b :=
 h.imm n _ hl b ⟨hpos,hb⟩ m

structure Adv (φ:Nat->Nat->Prop) (w:World) (φ':Nat->Nat->Prop) (w':World):Prop where
 os:w'.os=w.os
 tape:w'.tape=w.tape
 output:w'.output=w.output
 size:w.heap.size<=w'.heap.size
 fr:∀ k,k<w.heap.size->(∀ n,¬ φ n k)->w'.heap[k]?=w.heap[k]?
 grow:∀ n b,φ' n b->(∃ m,φ m b)∨w.heap.size<=b

theorem Adv.refl (φ:Nat->Nat->Prop)(w:World):Adv φ w φ w:=⟨rfl,rfl,rfl,Nat.le_refl _,fun _ _ _=>rfl,fun n _ h=>.inl ⟨n,h⟩⟩
theorem Adv.trans {φ φ' φ'':Nat->Nat->Prop}{w w' w'':World}(h:Adv φ w φ' w')(h':Adv φ' w' φ'' w''):Adv φ w φ'' w'' where
 os:=h'.os.trans h.os
 tape:=h'.tape.trans h.tape
 output:=h'.output.trans h.output
 size:=Nat.le_trans h.size h'.size
 fr k hk hn:=(h'.fr k (Nat.lt_of_lt_of_le hk h.size) fun n hh=>by
  rcases h.grow n k hh with ⟨m,hm⟩|hle
  ·exact hn m hm
  ·omega).trans (h.fr k hk hn)
 grow n b hb:=by
  rcases h'.grow n b hb with ⟨m,hm⟩|hle
  ·exact h.grow m b hm
  ·exact .inr (Nat.le_trans h.size hle)

theorem Imm.keep {w w':World}{v:Value}{e:C.EC}{l:List (C.α e)}(h:Imm C w v e l)(hs:w.heap.size<=w'.heap.size)(hb:0<l.length->∀ b,v.ownBlock=some b->b<w.heap.size->w'.heap[b]?=w.heap[b]?):Imm C w' v e l:=by
 obtain⟨A,c,rfl,hr⟩:=h
 refine⟨A,c,rfl,⟨hr.len,hr.cap,hr.max,hr.row,hr.nul,fun hn=>?_⟩⟩
 obtain⟨b,o,rfl,hlt,hc⟩:=hr.get hn
 exact⟨b,o,rfl,by omega,fun k x hx j u hu=>(World.cell?_of_block (hb hn b rfl hlt)).trans (hc k x hx j u hu)⟩

theorem Imm.lt {w:World}{v:Value}{e:C.EC}{l:List (C.α e)}(h:Imm C w v e l)(hl:0<l.length){b:Nat}(hb:v.ownBlock=some b):b<w.heap.size:=by
 obtain⟨A,c,rfl,hr⟩:=h
 obtain⟨b',o,rfl,hlt,_⟩:=hr.get hl
 simp[Value.ownBlock] at hb
 omega

theorem ownsRow_keep {w w':World}{t:TypeId}{sz n:Nat}{v:Value}{xs:List Value}(h:w.ownsRow 0 t sz v n xs)(hb:∀ b,v.ownBlock=some b->w'.heap[b]?=w.heap[b]?):w'.ownsRow 0 t sz v n xs:=by
 refine⟨h.1,?_⟩
 rcases h.2 with h2|⟨g,cap,cur,rfl,hg,hh,rest⟩
 ·exact .inl h2
 ·exact .inr ⟨g,cap,cur,rfl,hg,(hb g rfl).trans hh,rest⟩
theorem ownsRow_inj {w:World}{t:TypeId}{sz n:Nat}{v:Value}{xs ys:List Value}(h:w.ownsRow 0 t sz v n xs)(h':w.ownsRow 0 t sz v n ys):xs=ys:=by
 obtain⟨l1,h1⟩:=h
 obtain⟨l2,h2⟩:=h'
 rcases h1 with ⟨rfl,rfl⟩|⟨g,cap,cur,rfl,_,hg,_,_,_,h6⟩
 ·rw[Nat.zero_mul] at l1 l2
  rw[List.eq_nil_of_length_eq_zero l1,List.eq_nil_of_length_eq_zero l2]
 ·rcases h2 with ⟨e,_⟩|⟨g',cap',cur',e,_,hg',_,_,_,h6'⟩
  ·simp at e
  ·simp only[Value.slice.injEq,Option.some.injEq,Addr.mk.injEq] at e
   obtain⟨⟨rfl,_⟩,_,rfl⟩:=e
   rw[hg] at hg'
   simp only[Option.some.injEq,Obj.cells.injEq] at hg'
   obtain⟨rfl,_⟩:=hg'
   rw[← h6,← h6']
theorem Ro.back {w w':World}{σ:Nat->Value}{v:Value}{f:Nat->Prop}{c:Chunk C}(h:Holds w σ v f c)(hf:∀ b,f b->w'.heap[b]?=w.heap[b]?){b:Nat}(hr:Ro w' v b c):Ro w v b c:=by
 match c with
 | .row false e l=>exact hr
 | .rows hh e ll =>
  obtain⟨vs,ho,rest⟩:=hr
  exact⟨vs,ownsRow_keep ho fun b hb=>(hf b ((h.2.2 b).2 hb)).symm,rest⟩
 | .gone|.box _|.row true _ _|.abs _|.map _ _ _|.arr _ _=>exact hr.elim
theorem Ro.lt {w:World}{σ:Nat->Value}{v:Value}{f:Nat->Prop}{c:Chunk C}(h:Holds w σ v f c){b:Nat}(hr:Ro w v b c):b<w.heap.size:=by
 match c with
 | .row false e l=>exact h.1.lt hr.1 hr.2
 | .rows hh e ll =>
  obtain⟨vs,ho,i,u,l,h1,h2,h3,h4⟩:=hr
  obtain⟨_,⟨vs',ho',hi⟩,_⟩:=h
  obtain rfl:=ownsRow_inj ho ho'
  exact (hi.2 i l u h2 h1).lt h3 h4
 | .gone|.box _|.row true _ _|.abs _|.map _ _ _|.arr _ _=>exact hr.elim

theorem Ro.box {w:World}{v:Value}{b:Nat}{cells:List At}(h:Ro w v b (.box cells:Chunk C)):False:=h
theorem Ro.own {w:World}{v:Value}{b:Nat}{e:C.EC}{l:List (C.α e)}(h:Ro w v b (.row true e l)):False:=h
theorem Ro.arr {w:World}{v:Value}{b:Nat}{kk:IntKind}{l:List Int}(h:Ro w v b (.arr kk l:Chunk C)):False:=h
theorem Ro.map {w:World}{v:Value}{b:Nat}{kk vk:IntKind}{l:List (Int × Int)}(h:Ro w v b (.map kk vk l:Chunk C)):False:=h

theorem Holds.keep (hC:C.OK){w w':World}{σ σ':Nat->Value}{v:Value}{f:Nat->Prop}{c:Chunk C}(h:Holds w σ v f c)(hs:w.heap.size<=w'.heap.size)(hf:∀ b,f b->w'.heap[b]?=w.heap[b]?)(hi:∀ b,Ro w v b c->b<w.heap.size->w'.heap[b]?=w.heap[b]?)(hn:∀ n∈c.names,σ' n=σ n):Holds w' σ' v f c:=by
 match c with
 | .gone=>trivial
 | .box cells =>
  obtain⟨b,t,cs,h1,h2,h3,h4⟩:=h
  exact⟨b,t,cs,h1,h2,(hf b ((h2 b).2 rfl)).trans h3,h4.mono fun a u ha hr=>At.rel_of hr fun n hm=>hn n (List.mem_flatMap.2 ⟨a,ha,hm⟩)⟩
 | .row true e l =>
  obtain⟨h1,h3⟩:=h
  exact⟨h1.keep fun b hb=>hf b ((h3 b).2 hb),h3⟩
 | .row false e l=>exact⟨h.1.keep hs fun hl b hb hlt=>hi b ⟨hl,hb⟩ hlt,h.2⟩
 | .abs x=>exact⟨hC.local_ _ _ _ _ _ h.1 hs hf,h.2⟩
 | .map kk vk l =>
  obtain⟨b,es,ck,h1,h2,h3,h4⟩:=h
  exact⟨b,es,ck,h1,h2,(hf b ((h2 b).2 rfl)).trans h3,h4⟩
 | .arr kk l =>
  obtain⟨b,t,cs,h1,h2,h3,h4⟩:=h
  exact⟨b,t,cs,h1,h2,(hf b ((h2 b).2 rfl)).trans h3,h4⟩
 | .rows hh e ll =>
  obtain⟨hz,⟨vs,ho,hr⟩,h3⟩:=h
  exact⟨hz,⟨vs,ownsRow_keep ho fun b hb=>hf b ((h3 b).2 hb),hr.1,fun i l u hl hu=>(hr.2 i l u hl hu).keep hs fun hpos b hb hlt=>hi b ⟨vs,ho,i,u,l,hu,hl,hpos,hb⟩ hlt⟩,h3⟩

theorem Sat.step (hC:C.OK){σ σ':Nat->Value}{φ φ':Nat->Nat->Prop}{w w':World}{H H':List (Chunk C)}(h:Sat C σ φ w H)(S:Nat->Prop)(hsz:w.heap.size<=w'.heap.size)(hfr:∀ k,k<w.heap.size->(∀ n,S n->¬ φ n k)->w'.heap[k]?=w.heap[k]?)(hold:∀ n,¬ S n->H'[n]?=H[n]?/\σ' n=σ n/\(∀ b,φ' n b↔φ n b))(hmen:∀ (n:Nat) (c:Chunk C),¬ S n->H[n]?=some c->∀ m∈c.names,σ' m=σ m)(hnew:∀ (n:Nat) (c:Chunk C),S n->H'[n]?=some c->Holds w' σ' (σ' n) (φ' n) c)(hgrow:∀ n b,S n->φ' n b->(∃ m,S m/\φ m b)∨w.heap.size<=b)(hdis:∀ n m b,S n->S m->φ' n b->φ' m b->n=m)(hbd:∀ n b,S n->φ' n b->b<w'.heap.size)(himm:∀ (n:Nat) (c:Chunk C),S n->H'[n]?=some c->∀ b,Ro w' (σ' n) b c->∀ m,¬ φ' m b)(hout:∀ n,H'.length<=n->∀ b,¬ φ' n b)(hlen:H.length<=H'.length)(hcl:∀ (n:Nat) (c:Chunk C),S n->H'[n]?=some c->∀ m∈c.names,m<H'.length):Sat C σ' φ' w' H' where
 holds n c hc:=by
  by_cases hS:S n
  ·exact hnew n c hS hc
  ·obtain⟨h1,h2,h3⟩:=hold n hS
   rw[h1] at hc
   have hh:=h.holds n c hc
   rw[h2]
   have hk:Holds w' σ' (σ n) (φ n) c:=hh.keep hC hsz (fun b hb=>hfr b (h.bd n b hb) fun m hm hb'=>hS (by rw[h.dis n m b hb hb'];exact hm))
    (fun b hb hlt=>hfr b hlt fun m _ hb'=>h.imm n c hc b hb m hb') (hmen n c hS hc)
   have:φ' n=φ n:=funext fun b=>propext (h3 b)
   rw[this];exact hk
 dis n m b h1 h2:=by
  by_cases hn:S n<;>by_cases hm:S m
  ·exact hdis n m b hn hm h1 h2
  ·have h2':=((hold m hm).2.2 b).1 h2
   rcases hgrow n b hn h1 with ⟨k,hk,hb⟩|hle
   ·exact absurd (h.dis k m b hb h2') (fun e=>hm (e ▸ hk))
   ·exact absurd (h.bd m b h2') (by omega)
  ·have h1':=((hold n hn).2.2 b).1 h1
   rcases hgrow m b hm h2 with ⟨k,hk,hb⟩|hle
   ·exact absurd (h.dis k n b hb h1') (fun e=>hn (e ▸ hk))
   ·exact absurd (h.bd n b h1') (by omega)
  ·exact h.dis n m b (((hold n hn).2.2 b).1 h1) (((hold m hm).2.2 b).1 h2)
 bd n b hb:=by
  by_cases hn:S n
  ·exact hbd n b hn hb
  ·exact Nat.lt_of_lt_of_le (h.bd n b (((hold n hn).2.2 b).1 hb)) hsz
 imm n c hl b hb m hm:=by
  by_cases hn:S n
  ·exact himm n c hn hl b hb m hm
  ·obtain⟨h1,h2,_⟩:=hold n hn
   rw[h1] at hl
   rw[h2] at hb
   have hb0:=Ro.back (h.holds n _ hl) (fun b hb=>hfr b (h.bd n b hb) fun m hm hb'=>hn (by rw[h.dis n m b hb hb'];exact hm)) hb
   by_cases hmS:S m
   ·rcases hgrow m b hmS hm with ⟨k,_,hb'⟩|hle
    ·exact h.imm n c hl b hb0 k hb'
    ·have:=Ro.lt (h.holds n _ hl) hb0;omega
   ·exact h.imm n c hl b hb0 m (((hold m hmS).2.2 b).1 hm)
 out:=hout
 cl n c hc m hm:=by
  by_cases hS:S n
  ·exact hcl n c hS hc m hm
  ·rw[(hold n hS).1] at hc
   exact Nat.lt_of_lt_of_le (h.cl n c hc m hm) hlen

theorem Sat.drawn {σ:Nat->Value}{φ:Nat->Nat->Prop}{w:World}{H:List (Chunk C)}(hC:C.OK)(h:Sat C σ φ w H)(k:Nat):Sat C σ φ { w with drawn:=k } H :=
 h.step hC (fun _=>False) (Nat.le_refl _) (fun _ _ _=>rfl) (fun _ _=>⟨rfl,rfl,fun _=>Iff.rfl⟩) (fun _ _ _ _ _ _=>rfl) (fun _ _ h=>h.elim) (fun _ _ h=>h.elim)
  (fun _ _ _ h=>h.elim) (fun _ _ h=>h.elim) (fun _ _ h=>h.elim) h.out (Nat.le_refl _) (fun _ _ h=>h.elim)

theorem Sat.new (hC:C.OK){σ:Nat->Value}{φ:Nat->Nat->Prop}{w w':World}{H:List (Chunk C)}(h:Sat C σ φ w H)(c:Chunk C)(v:Value)(f:Nat->Prop)(hsz:w.heap.size<=w'.heap.size)(hfr:∀ k,k<w.heap.size->w'.heap[k]?=w.heap[k]?)(hc:∀ n,n∉c.names->Holds w' (fun k=>if k=n then v else σ k) v f c)(hnm:∀ n∈c.names,n<H.length)(hf:∀ b,f b->w.heap.size<=b/\b<w'.heap.size)(himm:∀ b,Ro w' v b c->(∀ m,¬ φ m b)/\¬ f b) :
  Sat C (fun k=>if k=H.length then v else σ k) (fun k=>if k=H.length then f else φ k) w' (H++[c]):=by
 refine h.step hC (fun n=>n=H.length) hsz (fun k hk _=>hfr k hk) (fun n hn=>?_) (fun n d hn hd m hm=>?_) (fun n d hn hd=>?_) (fun n b hn hb=>?_) (fun n m b hn hm _ _=>hn.trans hm.symm) (fun n b hn hb=>?_) (fun n d hn hl b hb m hm=>?_) (fun n hn b hb=>?_) (by simp) (fun n d hn hd m hm=>?_)
 ·have hn':¬ n=H.length:=hn
  refine⟨?_,by simp[hn'],fun b=>by simp[hn']⟩
  rcases Nat.lt_or_ge n H.length with hlt|hge
  ·rw[List.getElem?_append_left hlt]
  ·rw[List.getElem?_eq_none (by simp;omega),List.getElem?_eq_none hge]
 ·have:=h.cl n d hd m hm
  simp[Nat.ne_of_lt this]
 ·have hn':n=H.length:=hn
  subst hn'
  simp at hd;subst hd
  simp only[if_true]
  exact hc _ fun hm=>by have:=hnm _ hm;omega
 ·have hn':n=H.length:=hn
  subst hn'
  simp only[if_true] at hb
  exact .inr (hf b hb).1
 ·have hn':n=H.length:=hn
  subst hn'
  simp only[if_true] at hb
  exact (hf b hb).2
 ·have hn':n=H.length:=hn
  subst hn'
  simp at hl;subst hl
  simp only[if_true] at hb
  by_cases hm':m=H.length
  ·subst hm';simp only[if_true] at hm;exact (himm b hb).2 hm
  ·simp only[if_neg hm'] at hm;exact (himm b hb).1 m hm
 ·rw[List.length_append,List.length_singleton] at hn
  rw[if_neg (by omega)] at hb
  exact h.out n (by omega) b hb
 ·have hn':n=H.length:=hn
  subst hn'
  simp at hd;subst hd
  have:=hnm m hm
  simp;omega
end
abbrev VI (x:Int):Value:=.int .i64 x
abbrev VW (x:Int):Value:=.int .u64 x
abbrev VU (x:Int):Value:=.int .u32 x
end Go.Proofs.YtedfbafngmicpaaGreat.Sx
end
section
/- The symbolic run of a body: what is to be shown of it, as a statement that the kernel reckons. No program in sight. -/
namespace Go.Proofs.YtedfbafngmicpaaGreat.Sx
open Go

def pureRun (P:Program){α:Type}:Sem α->Option α
 | .pure a=>some a
 | .program k=>pureRun P (k P)
 | _=>none

def allVals:List At->Option (List Value)
 | []=>some []
 | .val v::t=>(allVals t).map (v::·)
 | _::_=>none
def valOf:SV->Option Value
 | .one (.at (.val v))=>some v
 | .one (.agg l)=>(allVals l).map fun cs=>.agg cs.toArray
 | _=>none
def lift:Value->SV
 | .agg cs=>.one (.agg (cs.toList.map .val))
 | .tuple _=>.one (.at .any)
 | v=>.one (.at (.val v))
def opnd (T:List SV):Operand->SV
 | .tmp t=>T.getD t (.one (.at .any))
 | .const v=>lift v
 | .func f=>.one (.at (.fn f []))
 | .global _=>.one (.at .any)
def vb (b:Bool):SV:=.one (.at (.val (.bool b)))
def vi (k:IntKind)(n:Int):SV:=.one (.at (.val (.int k n)))

def splice {α:Type}(l:List α)(off:Nat)(m:List α):List α:=l.take off++(m++l.drop (off+m.length))

def At.kill (n:Nat)(a:At):At:=if a.names.contains n then .any else a
def TV.kill (n:Nat):TV->TV
 | .at a=>.at (a.kill n)
 | .agg l=>.agg (l.map (At.kill n))
def SV.kill (n:Nat):SV->SV
 | .one x=>.one (x.kill n)
 | .tup l=>.tup (l.map (TV.kill n))

def setT (T:List SV)(dst:Option Nat)(s:SV):List SV:=match dst with
 | some d=>T.set d s
 | none=>T

def isAggD:TypeDesc->Bool
 | .struct _|.array _ _=>true
 | _=>false

def cellTs (P:Program):Nat->TypeId->List TypeId
 | 0,_=>[]
 | d+1,t=>match P.underlying t with
  | some (.struct fs)=>fs.toList.flatMap fun f=>cellTs P d f.type
  | some (.array n e)=>(List.replicate n (cellTs P d e)).flatten
  | _=>[t]

def partV (P:Program)(t:TypeId)(cs:Array Value)(off:Nat):Option Value :=
 match P.underlying t,P.info? t with
 | some d,some i=>if isAggD d then some (.agg (cs.extract off (off+i.size))) else cs[off]?
 | _,_=>none
def eqFs (rec_:TypeId->Value->Value->Option Bool)(P:Program)(xs ys:Array Value):List Field->Option Bool
 | []=>some true
 | f::fs=>if f.name="_" then none else
  match partV P f.type xs f.offset,partV P f.type ys f.offset with
  | some x,some y=>match rec_ f.type x y,eqFs rec_ P xs ys fs with
   | some a,some b=>some (a && b)
   | _,_=>none
  | _,_=>none
def eqT (P:Program):Nat->TypeId->Value->Value->Option Bool
 | 0,_,_,_=>none
 | d+1,t,x,y=>match P.underlying t,x,y with
  | some (.int _),.int k a,.int k' b=>if k=k' then some (a==b) else none
  | some .bool,.bool a,.bool b=>some (a==b)
  | some (.struct fs),.agg xs,.agg ys=>if P.stoodInHeld t then none else eqFs (eqT P d) P xs ys fs.toList
  | _,_,_=>none

def eqTop (P:Program)(t:TypeId)(x y:Value):Option Bool:=eqT P Op.maxDepth t x y

section
variable (C:Ctx)

def Chunk.kill {C:Ctx}(n:Nat):Chunk C->Chunk C
 | .box cells=>.box (cells.map (At.kill n))
 | c=>c

def elemEC (t:TypeId):Option C.EC:=match C.P.underlying t with
 | some (.slice e)=>C.byT e
 | _=>none

def isEC (t:TypeId)(e:C.EC):Bool:=match elemEC C t with
 | some e'=>match C.deq e' e with
  | isTrue _=>true
  | isFalse _=>false
 | none=>false

def isU8 (e:C.EC):Bool:=match C.P.underlying (C.tid e) with
 | some (.int .u8)=>true
 | _=>false
def bytesOf (e:C.EC):Nat:=match C.P.info? (C.tid e) with
 | some i=>i.bytes
 | none=>0

def nilFix (H:List (Chunk C))(t:TypeId)(s:SV):SV × List (Chunk C) :=
 match s with
 | .one (.at (.val (.slice none 0 0)))=>match elemEC C t with
  | some e=>(match C.lst e with
   | some e0=>(.one (.at (.slc H.length)),H++[.rows e e0 []])
   | none=>(.one (.at (.slc H.length)),H++[.row true e []]))
  | none=>(s,H)
 | s=>(s,H)

def nilCells (H:List (Chunk C)):List At->List TypeId->List At × List (Chunk C)
 | a::l,t::ts=>match nilFix C H t (.one (.at a)) with
  | (.one (.at b),H1)=>let r:=nilCells H1 l ts;(b::r.1,r.2)
  | (_,H1)=>let r:=nilCells H1 l ts;(a::r.1,r.2)
 | l,_=>(l,H)

def nilArgs (H:List (Chunk C)):List TV->List TypeId->List TV × List (Chunk C)
 | x::l,t::ts=>match nilFix C H t (.one x) with
  | (.one y,H1)=>let r:=nilArgs H1 l ts;(y::r.1,r.2)
  | (_,H1)=>let r:=nilArgs H1 l ts;(x::r.1,r.2)
 | l,_=>(l,H)

def okAt {C:Ctx}(H:List (Chunk C)):At->Bool
 | .any=>false
 | .val (.agg _)|.val (.tuple _)=>false
 | .val _=>true
 | .slc n=>match H[n]? with
  | some (.row _ _ _)=>true
  | some (.map _ _ _)=>true
  | some (.rows _ _ _)=>true
  | _=>false
 | _=>true

def svCells {C:Ctx}(H:List (Chunk C)):SV->Option (List At)
 | .one (.at a)=>if okAt H a then some [a] else none
 | .one (.agg l)=>some l
 | .tup _=>none

def cellAt {C:Ctx}(H:List (Chunk C)):SV->Option (List At × Nat)
 | .one (.at (.ptr n off))=>match H[n]? with
  | some (.box cells)=>some (cells,off)
  | _=>none
 | .one (.at (.eptr n i sz off))=>match H[n]? with
  | some (.row _ e l)=>if sz=C.sz e then some ((C.enc e (l.getD i (C.dft e))).map .val,off) else none
  | _=>none
 | _=>none

def arrOf {C:Ctx}(H:List (Chunk C)):SV->Option (IntKind × List Int × Nat)
 | .one (.at (.ptr n off))=>match H[n]? with
  | some (.arr k l)=>some (k,l,off)
  | _=>none
 | _=>none

def rowsOf {C:Ctx}(H:List (Chunk C)):SV->Option (Chunk C)
 | .one (.at (.eptr n _ sz off))=>match H[n]? with
  | some (.rows h e ll)=>if sz=1/\off=0 then some (.rows h e ll) else none
  | _=>none
 | _=>none

def loadS (H:List (Chunk C))(t:TypeId)(x:SV):Option SV :=
 match cellAt H x,C.P.underlying t,C.P.info? t with
 | some (cells,off),some d,some i =>
  if isAggD d then (if off+i.size<=cells.length then some (.one (.agg ((cells.drop off).take i.size))) else none)
  else match cells[off]? with
   | some a=>some (.one (.at a))
   | none=>none
 | _,_,_=>none

def fieldS (t:TypeId)(f:Nat):Option Nat:=match C.P.underlying t with
 | some (.struct fs)=>match fs[f]? with
  | some fd=>match C.P.info? fd.type with
   | some i=>if i.size=0 then none else some fd.offset
   | none=>none
  | none=>none
 | _=>none

def partS (t:TypeId)(cells:List At)(off:Nat):Option SV :=
 match C.P.underlying t,C.P.info? t with
 | some d,some i=>if isAggD d then (if off+i.size<=cells.length then some (.one (.agg ((cells.drop off).take i.size))) else none)
  else match cells[off]? with
   | some a=>some (.one (.at a))
   | none=>none
 | _,_=>none

def eqS (t:TypeId)(x y:SV):Option Bool :=
 match x,y with
 | .one (.at (.ptr _ _)),.one (.at (.val (.pointer none)))=>match C.P.underlying t with
  | some (.pointer _)=>some false
  | _=>none
 | .one (.at (.val (.pointer none))),.one (.at (.ptr _ _))=>match C.P.underlying t with
  | some (.pointer _)=>some false
  | _=>none
 | .one (.agg l),.one (.agg m)=>match allVals l,allVals m with
  | some xs,some ys=>if C.P.eqGuardType C.P.depth t then none else eqTop C.P t (.agg xs.toArray) (.agg ys.toArray)
  | _,_=>none
 | _,_=>none

def pureOp (T:List SV)(o:Oper):Option Value :=
 match pureRun C.P (execOp (fun x=>(valOf (opnd T x)).getD undef) o) with
 | some (.value v)=>some v
 | _=>none

def isConst:Operand->Bool
 | .const _=>true
 | _=>false

abbrev Q3 (C:Ctx):=Option (List Prop × SV × List (Chunk C))

def binS (T:List SV)(H:List (Chunk C))(o:Oper)(op:BinOp)(t:TypeId)(x y:Operand):Q3 C :=
 match valOf (opnd T x),valOf (opnd T y),op with
 | some (.int k a),some (.int k' b),.quo=>if k=k' then (if isConst y then (pureOp C T o).map fun v=>([],lift v,H) else some ([b≠0],vi k (k.wrap (a.tdiv b)),H)) else none
 | some (.int k a),some (.int k' b),.rem=>if k=k' then (if isConst y then (pureOp C T o).map fun v=>([],lift v,H) else some ([b≠0],vi k (a.tmod b),H)) else none
 | some (.int k a),some (.int _ b),.shl=>if isConst y then (pureOp C T o).map fun v=>([],lift v,H) else some ([0<=b],vi k (k.wrap (a*2 ^ (min b.toNat k.bits))),H)
 | some (.int k a),some (.int _ b),.shr=>if isConst y then (pureOp C T o).map fun v=>([],lift v,H) else some ([0<=b],vi k (a.fdiv (2 ^ (min b.toNat k.bits))),H)
 | some (.agg _),some (.agg _),.eql=>(eqS C t (opnd T x) (opnd T y)).map fun b=>([],vb b,H)
 | some (.agg _),some (.agg _),.neq=>(eqS C t (opnd T x) (opnd T y)).map fun b=>([],vb (!b),H)
 | some _,some _,_=>(pureOp C T o).map fun v=>([],lift v,H)
 | _,_,.eql=>(eqS C t (opnd T x) (opnd T y)).map fun b=>([],vb b,H)
 | _,_,.neq=>(eqS C t (opnd T x) (opnd T y)).map fun b=>([],vb (!b),H)
 | _,_,_=>none

def pickS (H:List (Chunk C))(t:Bool)(a b:SV):Q3 C :=
 match a,b with
 | .one (.at (.val (.bool x))),.one (.at (.val (.bool y)))=>some ([],vb (match t with|true=>x|false=>y),H)
 | a,b=>match t with
  | true=>some ([],a,H)
  | false=>some ([],b,H)

def buildS (H:List (Chunk C))(place:Nat->Option (Nat × Nat)):List At->List (Nat × SV)->Option (List At)
 | zero,[]=>some zero
 | zero,(i,s)::rest=>match place i,svCells H s with
  | some (off,size),some cs=>if cs.length=size/\off+cs.length<=zero.length then buildS H place (splice zero off cs) rest else none
  | _,_=>none

def buildOK (t:TypeId):Bool:=match C.P.underlying t with
 | some (.struct fs)=>fs.toList.all (fun f=>(C.P.info? f.type).isSome)
 | some (.array _ e)=>(C.P.info? e).isSome
 | _=>false

def placeS (t:TypeId)(i:Nat):Option (Nat × Nat):=match C.P.underlying t with
 | some (.struct fs)=>match fs[i]? with
  | some f=>(C.P.info? f.type).map fun j=>(f.offset,j.size)
  | none=>none
 | some (.array _ e)=>(C.P.info? e).map fun j=>(i*j.size,j.size)
 | _=>none

def zeroS (t:TypeId):Option (List At):=match C.P.info? t with
 | some i=>i.zero.map fun z=>z.cells.toList.map .val
 | none=>none

def trueInt:SV->Option Int
 | .one (.at (.val (.int _ n)))=>some n
 | _=>none

def caps:List SV->Option (List Nat)
 | []=>some []
 | .one (.at (.ptr n 0))::t=>(caps t).map (n::·)
 | _=>none

def atsOf:List SV->Option (List TV)
 | []=>some []
 | .one x::t=>(atsOf t).map (x::·)
 | _=>none

def idxM:List (Int × Int)->Int->Option Nat
 | [],_=>none
 | p::r,k=>if p.1=k then some 0 else (idxM r k).map (·+1)
def lookM:List (Int × Int)->Int->Int
 | [],_=>0
 | p::r,k=>if p.1=k then p.2 else lookM r k
def hasM:List (Int × Int)->Int->Bool
 | [],_=>false
 | p::r,k=>if p.1=k then true else hasM r k
def setM:List (Int × Int)->Int->Int->List (Int × Int)
 | [],k,v=>[(k,v)]
 | p::r,k,v=>if p.1=k then (k,v)::r else p::setM r k v
def mapK (t:TypeId):Option (IntKind × IntKind):=match C.P.underlying t with
 | some (.map kt et)=>match C.P.underlying kt,C.P.underlying et,C.P.info? et with
  | some (.int kk),some (.int vk),some i=>match i.zero with
   | some (.int k z)=>if k=vk/\z=0 then some (kk,vk) else none
   | _=>none
  | _,_,_=>none
 | _=>none

def quietS (T:List SV)(H:List (Chunk C))(o:Oper):Q3 C :=
 match o.op with
 | .move x|.assign x=>let r:=nilFix C H o.type (opnd T x);some ([],r.1,r.2)
 | .pick c a b=>match opnd T c with
  | .one (.at (.val (.bool t)))=>pickS C H t (opnd T a) (opnd T b)
  | _=>none
 | .nilCheck x=>match opnd T x with
  | .one (.at (.ptr n k))=>some ([],.one (.at (.ptr n k)),H)
  | .one (.at (.eptr n i sz k))=>some ([],.one (.at (.eptr n i sz k)),H)
  | .one (.at (.fn f cs))=>some ([],.one (.at (.fn f cs)),H)
  | _=>none
 | .binOp op t x y _=>binS C T H o op t x y
 | .unOp _ _ x=>match valOf (opnd T x) with
  | some _=>(pureOp C T o).map fun v=>([],lift v,H)
  | none=>none
 | .convert _ _ x=>match valOf (opnd T x) with
  | some _=>(pureOp C T o).map fun v=>([],lift v,H)
  | none=>none
 | .load t x=>(match rowsOf H (opnd T x) with
  | some r=>(match r with
   | .rows _ e ll=>(match C.P.underlying t with
    | some d=>(match isAggD d with
     | false=>(match opnd T x with
      | .one (.at (.eptr _ i _ _))=>some ([],.one (.at (.slc H.length)),H++[.row false e (ll.getD i [])])
      | _=>none)
     | true=>none)
    | none=>none)
   | _=>none)
  | none=>(match arrOf H (opnd T x) with
   | some (k,l,off)=>(match C.P.underlying t with
    | some d=>(match isAggD d with
     | false=>some ([off<l.length],vi k (l.getD off 0),H)
     | true=>(match C.P.info? t with
      | some i=>some ([(off:Int)=0,(l.length:Int)=(i.size:Int)],.one (.agg (l.map fun x=>At.val (.int k x))),H)
      | none=>none))
    | none=>none)
   | none=>(loadS C H t (opnd T x)).map fun s=>([],s,H)))
 | .fieldAddr t x f=>match fieldS C t f,opnd T x with
  | some d,.one (.at (.ptr n k))=>some ([],.one (.at (.ptr n (k+d))),H)
  | some d,.one (.at (.eptr n i sz k))=>some ([],.one (.at (.eptr n i sz (k+d))),H)
  | _,_=>none
 | .field t x f=>match C.P.underlying t,opnd T x with
  | some (.struct fs),.one (.agg l)=>match fs[f]? with
   | some fd=>(partS C fd.type l fd.offset).map fun s=>([],s,H)
   | none=>none
  | _,_=>none
 | .index t x i=>match C.P.underlying t,opnd T x,opnd T i with
  | some (.array n e),.one (.agg l),.one (.at (.val (.int _ j)))=>match C.P.info? e with
   | some ei=>(partS C e l (j.toNat*ei.size)).map fun s=>([0<=j,j<(n:Int)],s,H)
   | none=>none
  | some .string,.one (.at (.val (.string _))),.one (.at (.val (.int _ _)))=>(pureOp C T o).map fun v=>([],lift v,H)
  | _,_,_=>none
 | .indexAddr t x i=>match opnd T x,opnd T i with
  | .one (.at (.slc n)),.one (.at (.val (.int _ j)))=>match H[n]?,elemEC C t with
   | some (.row _ e l),some e'=>match C.deq e' e with
    | isTrue _=>some ([0<=j,j<(l.length:Int)],.one (.at (.eptr n j.toNat (C.sz e) 0)),H)
    | isFalse _=>none
   | some (.rows h _ ll),some e'=>match C.deq e' h with
    | isTrue _=>some ([0<=j,j<(ll.length:Int)],.one (.at (.eptr n j.toNat 1 0)),H)
    | isFalse _=>none
   | _,_=>none
  | .one (.at (.ptr n k)),.one (.at (.val (.int _ j)))=>match C.P.underlying t with
   | some (.array m e)=>match C.P.info? e with
    | some ei=>some ([0<=j,j<(m:Int)],.one (.at (.ptr n (k+j.toNat*ei.size))),H)
    | none=>none
   | _=>none
  | _,_=>none
 | .slice t x lo hi mx=>match opnd T x,mx with
  | .one (.at (.slc n)),none=>match H[n]? with
   | some (.row own e l)=>if isEC C t e then
    let a:Option Int:=match lo with|some i=>trueInt (opnd T i)|none=>some 0
    let b:Option Int:=match hi with|some i=>trueInt (opnd T i)|none=>some l.length
    match a,b with
    | some a,some b=>match own with
     | false=>some ([0<=a,a<=b,b<=(l.length:Int)],.one (.at (.slc H.length)),H++[.row false e ((l.take b.toNat).drop a.toNat)])
     | true=>some ([0<=a,a<=b,b<=(l.length:Int)],.one (.at (.slc H.length)),(H.set n (.row false e l))++[.row false e ((l.take b.toNat).drop a.toNat)])
    | _,_=>none
    else none
   | _=>none
  | _,_=>none
 | .extract x k=>match opnd T x with
  | .tup l=>(l[k]?).map fun s=>([],.one s,H)
  | _=>none
 | .lookup t x i ok=>match mapK C t,opnd T x,opnd T i with
  | some (kk,vk),.one (.at (.slc n)),.one (.at (.val (.int k' j)))=>match H[n]? with
   | some (.map a b l)=>if a=kk/\b=vk/\k'=kk then (match ok with
    | true=>some ([],.tup [.at (.val (.int vk (lookM l j))),.at (.val (.bool (hasM l j)))],H)
    | false=>some ([],vi vk (lookM l j),H)) else none
   | _=>none
  | _,_,_=>none
 | .build t parts=>match (if buildOK C t then zeroS C t else none) with
  | some z=>match buildS C H (placeS C t) z (parts.toList.map fun p=>(p.1,opnd T p.2)) with
   | some cells=>let r:=nilCells C H cells (cellTs C.P 20 t);some ([],.one (.agg r.1),r.2)
   | none=>none
  | none=>none
 | .makeFunc (.func f) fs cs=>match fs.toList with
  | []=>(caps (cs.toList.map (opnd T))).map fun l=>([],.one (.at (.fn f l)),H)
  | _=>none
 | .call c=>match c.callee with
  | .builtin .len=>match c.args.toList with
   | [x]=>match opnd T x with
    | .one (.at (.slc n))=>match H[n]?,(c.argTypes[0]?).bind C.P.underlying with
     | some (.row _ _ l),some (.slice _)=>some ([],vi .i64 l.length,H)
     | some (.rows _ _ ll),some (.slice _)=>some ([],vi .i64 ll.length,H)
     | _,_=>none
    | s=>match valOf s with
     | some _=>(pureOp C T o).map fun v=>([],lift v,H)
     | none=>none
   | _=>none
  | .builtin .min=>match c.args.toList with
   | [x,y]=>match valOf (opnd T x),valOf (opnd T y) with
    | some (.int _ _),some (.int _ _)=>(pureOp C T o).map fun v=>([],lift v,H)
    | _,_=>none
   | _=>none
  | .builtin .max=>match c.args.toList with
   | [x,y]=>match valOf (opnd T x),valOf (opnd T y) with
    | some (.int _ _),some (.int _ _)=>(pureOp C T o).map fun v=>([],lift v,H)
    | _,_=>none
   | _=>none
  | _=>none
 | _=>none

def reqs:List Prop->Prop->Prop
 | [],k=>k
 | p::ps,k=>p/\reqs ps k

def conj:List Prop->Prop
 | []=>True
 | [p]=>p
 | p::q=>p/\conj q

abbrev Tfm:=List TV->List (Chunk C)->(SV->List (Chunk C)->List Nat->Prop)->Prop

def getG (Γ:List (FuncId × Tfm C))(f:FuncId):Option (Tfm C):=match Γ with
 | []=>none
 | (g,t)::r=>if g=f then some t else getG r f

def isOwn {C:Ctx}(H:List (Chunk C))(n:Nat):Bool:=match H[n]? with
 | some (.row true _ _)=>true
 | some (.rows _ _ _)=>true
 | _=>false

def dcdN (e:C.EC):Nat->List Value->Option (List (C.α e))
 | 0,_=>some []
 | n+1,vs=>match C.dcd e (vs.take (C.sz e)),dcdN e n (vs.drop (C.sz e)) with
  | some x,some xs=>some (x::xs)
  | _,_=>none

def cellRows (e0:C.EC)(H:List (Chunk C)):List At->Option (List (List (C.α e0)))
 | []=>some []
 | x::r=>match x with
  | .val (.slice none 0 0)=>(cellRows e0 H r).map fun q=>[]::q
  | .slc m=>(match H[m]? with
   | some (.row false e l)=>(match C.deq e e0 with
    | isTrue h=>(cellRows e0 H r).map fun q=>(h ▸ l)::q
    | isFalse _=>none)
   | _=>none)
  | _=>none
def freezeS {C:Ctx}:List At->List (Chunk C)->List (Chunk C)
 | [],H=>H
 | x::r,H=>match x with
  | .slc m=>(match H[m]? with
   | some (.row true e l)=>freezeS r (H.set m (.row false e l))
   | _=>freezeS r H)
  | _=>freezeS r H

def effS (Γ:List (FuncId × Tfm C))(trunc:Nat->Bool)(T:List SV)(H:List (Chunk C))(o:Oper)(K:List Nat->List SV->List (Chunk C)->Prop):Prop :=
 match o.op with
 | .alloc t=>match zeroS C t with
  | some z=>let r:=nilCells C H z (cellTs C.P 20 t);K [] (setT T o.dst (.one (.at (.ptr r.2.length 0)))) (r.2++[.box r.1])
  | none=>False
 | .box _ x=>match svCells H (opnd T x) with
  | some cs=>K [] (setT T o.dst (.one (.at (.ptr H.length 0)))) (H++[.box cs])
  | none=>False
 | .store t x y=>match opnd T x,svCells H (opnd T y),C.P.info? t with
  | .one (.at (.ptr n off)),some vs,some i=>match H[n]? with
   | some (.box cells)=>if vs.length=i.size/\off+vs.length<=cells.length/\vs.all (okAt H) then K [n] (setT T o.dst (.one (.at .any))) (H.set n (.box (splice cells off vs))) else False
   | some (.arr k l)=>(match vs with
    | [.val (.int k' z)]=>if k'=k/\i.size=1 then off<l.length/\K [n] (setT T o.dst (.one (.at .any))) (H.set n (.arr k (l.set off z))) else False
    | []=>False
    | vs=>if vs.length=i.size/\vs.all (okAt H) then (off:Int)=0/\(l.length:Int)=(vs.length:Int)/\K [n] (setT T o.dst (.one (.at .any))) (H.set n (.box vs)) else False)
   | _=>False
  | .one (.at (.eptr n j sz off)),some vs,some i=>match H[n]?,allVals vs with
   | some (.row true e l),some us=>if sz=C.sz e/\vs.length=i.size/\off+vs.length<=C.sz e/\vs.all (okAt H) then
     (match C.dcd e (splice (C.enc e (l.getD j (C.dft e))) off us) with
     | some x=>K [n] (setT T o.dst (.one (.at .any))) (H.set n (.row true e (l.set j x)))
     | none=>False) else False
   | _,_=>False
  | _,_,_=>False
 | .makeSlice t l c=>match elemEC C t,opnd T l,opnd T c with
  | some e,.one (.at (.val (.int _ n))),.one (.at (.val (.int _ m))) =>
   0<=n/\n<=m/\m*(bytesOf C e:Int)<=140737488355328/\K [] (setT T o.dst (.one (.at (.slc H.length)))) (H++[.row true e (List.replicate n.toNat (C.dft e))])
  | _,_,_=>False
 | .buildSlice t n parts=>match elemEC C t with
  | some e=>match C.lst e with
   | some e0=>match (if n*C.sz e<=16777216 then buildS C H (fun i=>some (i*C.sz e,C.sz e)) ((flat C e (List.replicate n (C.dft e))).map .val) (parts.toList.map fun p=>(p.1,opnd T p.2)) else none) with
    | some cells=>(let H1:=freezeS cells H
     match cellRows C e0 H1 cells with
     | some ll=>K [] (setT T o.dst (.one (.at (.slc H1.length)))) (H1++[.rows e e0 ll])
     | none=>False)
    | none=>False
   | none=>match (if n*C.sz e<=16777216 then buildS C H (fun i=>some (i*C.sz e,C.sz e)) ((flat C e (List.replicate n (C.dft e))).map .val) (parts.toList.map fun p=>(p.1,opnd T p.2)) else none) with
   | some cells=>match allVals cells with
    | some vs=>match dcdN C e n vs with
     | some xs=>K [] (setT T o.dst (.one (.at (.slc H.length)))) (H++[.row true e xs])
     | none=>False
    | none=>False
   | none=>False
  | none=>False
 | .makeMap t none=>match mapK C t with
  | some (kk,vk)=>K [] (setT T o.dst (.one (.at (.slc H.length)))) (H++[.map kk vk []])
  | none=>False
 | .mapUpdate t x i y=>match mapK C t,opnd T x,opnd T i,opnd T y with
  | some (kk,vk),.one (.at (.slc n)),.one (.at (.val (.int k' j))),.one (.at (.val (.int v' z)))=>match H[n]? with
   | some (.map a b l)=>if a=kk/\b=vk/\k'=kk/\v'=vk then K [n] (setT T o.dst (.one (.at .any))) (H.set n (.map a b (setM l j z))) else False
   | _=>False
  | _,_,_,_=>False
 | .convert t t' x=>match opnd T x with
  | .one (.at (.slc n))=>match H[n]? with
   | some (.row true e l)=>if t=t'/\isEC C t e=true/\isU8 C e=true then 0<l.length/\K [n] (setT (T.map (SV.kill n)) o.dst (.one (.at (.slc n)))) ((H.map (Chunk.kill n)).set n (.row true e l)) else False
   | _=>False
  | _=>False
 | .slice t x none (some hi) none=>if trunc (o.dst.getD 0) then (match opnd T x,trueInt (opnd T hi) with
  | .one (.at (.slc n)),some b=>match H[n]? with
   | some (.row true e l)=>if isEC C t e then 0<=b/\b<=(l.length:Int)/\K [n] (setT (T.map (SV.kill n)) o.dst (.one (.at (.slc n)))) ((H.map (Chunk.kill n)).set n (.row true e (l.take b.toNat))) else False
   | _=>False
  | _,_=>False) else False
 | .call c=>match c.callee with
  | .builtin .append=>match c.args.toList,c.argTypes.toList with
   | [s,x],[t,t']=>if t=t' then (
    let r:=nilFix C H t (opnd T s)
    match r.1,elemEC C t with
    | .one (.at (.slc n)),some e0=>match r.2[n]? with
     | some (.row true e l)=>match C.deq e0 e with
      | isFalse _=>False
      | isTrue _=>match opnd T x with
       | .one (.at (.val (.slice none 0 0)))=>K [n] (setT (T.map (SV.kill n)) o.dst (.one (.at (.slc n)))) ((r.2.map (Chunk.kill n)).set n (.row true e l))
       | .one (.at (.slc m))=>if m=n then False else (match r.2[m]? with
        | some (.row _ e' l')=>match C.deq e' e with
         | isTrue h=>(l.length+l'.length)*bytesOf C e<=140737488355328/\K [n] (setT (T.map (SV.kill n)) o.dst (.one (.at (.slc n)))) ((r.2.map (Chunk.kill n)).set n (.row true e (l++h ▸ l')))
         | isFalse _=>False
        | _=>False)
       | _=>False
     | some (.rows h e ll)=>match C.deq e0 h with
      | isFalse _=>False
      | isTrue _=>match opnd T x with
       | .one (.at (.slc m))=>if m=n then False else (match r.2[m]? with
        | some (.rows _ e' ll')=>(match C.deq e' e with
         | isTrue q=>(ll.length+ll'.length)*bytesOf C h<=140737488355328/\K [n] (setT (T.map (SV.kill n)) o.dst (.one (.at (.slc n)))) ((r.2.map (Chunk.kill n)).set n (.rows h e (ll++q ▸ ll')))
         | isFalse _=>False)
        | _=>False)
       | _=>False
     | _=>False
    | _,_=>False) else False
   | _,_=>False
  | .value f=>match opnd T f,atsOf (c.args.toList.map (opnd T)) with
   | .one (.at (.fn g cs)),some xs=>match getG C Γ g with
    | some t=>let q:=nilArgs C H xs c.argTypes.toList;t (q.1++cs.map fun n=>.at (.ptr n 0)) q.2 fun r H' ts=>K ts (setT ((ts.filter (isOwn q.2)).foldl (fun T n=>T.map (SV.kill n)) T) o.dst r) H'
    | none=>False
   | _,_=>False
  | _=>False
 | _=>False

def brS (b:Bool)(t f:Prop):Prop:=match b with
 | true=>t
 | false=>f

def undefS:SV:=.one (.at (.val (.tuple #[])))

def guardS (ops:Array Oper)(T:List SV)(o:Oper)(yes:List SV->Prop)(no:List SV->Prop):Prop :=
 match o.guard with
 | none=>yes T
 | some (j,want)=>match (ops[j]?).bind (·.dst) with
  | some d=>match T.getD d (.one (.at .any)) with
   | .one (.at (.val (.bool b)))=>brS b (if want then yes (T.set d (vb true)) else no (T.set d (vb true))) (if want then no (T.set d (vb false)) else yes (T.set d (vb false)))
   | .one (.at (.val (.tuple _)))=>no T
   | _=>False
  | none=>False

def stepS (Γ:List (FuncId × Tfm C))(trunc:Nat->Bool)(T:List SV)(H:List (Chunk C))(o:Oper)(K:List Nat->List SV->List (Chunk C)->Prop):Prop :=
 match o.op with
 | .slice _ _ _ _ _=>if trunc (o.dst.getD 0) then effS C Γ trunc T H o K else (match quietS C T H o with
  | some (ps,s,H')=>reqs ps (K [] (setT T o.dst s) H')
  | none=>False)
 | .assign x=>if trunc (o.dst.getD 0) then (match opnd T x with
  | .one (.at (.slc n))=>match H[n]? with
   | some (.row false e l)=>K [] (setT T o.dst (.one (.at (.slc H.length)))) (H++[.row false e l])
   | _=>(match quietS C T H o with
    | some (ps,s,H')=>reqs ps (K [] (setT T o.dst s) H')
    | none=>False)
  | _=>False) else (match quietS C T H o with
  | some (ps,s,H')=>reqs ps (K [] (setT T o.dst s) H')
  | none=>False)
 | _=>match quietS C T H o with
  | some (ps,s,H')=>reqs ps (K [] (setT T o.dst s) H')
  | none=>effS C Γ trunc T H o K

def seqS (Γ:List (FuncId × Tfm C))(trunc:Nat->Bool)(ops:Array Oper)(K:List Nat->List SV->List (Chunk C)->Prop):List Oper->List Nat->List SV->List (Chunk C)->Prop
 | [],W,T,H=>K W T H
 | o::rest,W,T,H=>guardS ops T o (fun T=>stepS C Γ trunc T H o fun ts T' H'=>seqS Γ trunc ops K rest (ts++W) T' H')
   (fun T=>seqS Γ trunc ops K rest W (setT T o.dst undefS) H)

def readName (T:List SV)(o:Oper):Option Nat:=match o.op with
 | .load _ x=>match opnd T x with
  | .one (.at (.ptr n _))=>some n
  | .one (.at (.eptr n _ _ _))=>some n
  | _=>none
 | .lookup _ x _ _=>match opnd T x with
  | .one (.at (.slc n))=>some n
  | _=>none
 | _=>none

def isLoad (o:Oper):Bool:=match o.op with
 | .load _ _=>true
 | .lookup _ _ _ _=>true
 | _=>false

def quietK (trunc:Nat->Bool)(o:Oper):Bool:=match o.op with
 | .slice _ _ _ _ _=>!trunc (o.dst.getD 0)
 | .alloc _|.box _ _|.store _ _ _|.makeSlice _ _ _|.buildSlice _ _ _|.makeMap _ _|.mapUpdate _ _ _ _=>false
 | .call c=>match c.callee with
  | .builtin .len|.builtin .min|.builtin .max=>true
  | _=>false
 | _=>true

def lateS (trunc:Nat->Bool)(ops:Array Oper)(j:Nat):Bool:=match ops[j]? with
 | none=>false
 | some p=>!quietK trunc p && (List.range ops.size).all fun i=>match ops[i]? with
  | some o=>!isLoad o || p.after.any (fun e=>e.on==i && Region.binds .any e)
  | none=>true

def takeS (T:List SV)(Z:List Nat)(trunc:Nat->Bool)(o:Oper):Bool :=
 quietK trunc o &&
 (match readName T o with
 | some n=>Z.contains n
 | none=>true)

def firstTake (T:List SV)(Z:List Nat)(trunc:Nat->Bool)(ops:Array Oper)(listed:Array Bool):List Nat->Option Nat
 | []=>none
 | i::r=>match ops[i]? with
  | some o=>if takeS T Z trunc o && Region.free .any ops listed i then some i else firstTake T Z trunc ops listed r
  | none=>none

def anyS (Γ:List (FuncId × Tfm C))(trunc:Nat->Bool)(ops:Array Oper)(Z:List Nat)(K:List Nat->List SV->List (Chunk C)->Prop):Nat->Array Bool->List Nat->List SV->List (Chunk C)->Prop
 | 0,listed,W,T,H=>match Region.ready .any ops listed with
  | []=>K W T H
  | _=>False
 | fuel+1,listed,W,T,H=>match Region.ready .any ops listed with
  | []=>K W T H
  | r::rs=>match firstTake T Z trunc ops listed (r::rs) with
   | some i=>match ops[i]? with
    | some o=>guardS ops T o (fun T=>match (if takeS T Z trunc o then quietS C T H o else none) with
      | some (ps,s,H')=>reqs ps (anyS Γ trunc ops Z K fuel (listed.setIfInBounds i true) W (setT T o.dst s) H')
      | none=>False)
     (fun T=>anyS Γ trunc ops Z K fuel (listed.setIfInBounds i true) W (setT T o.dst undefS) H)
    | none=>False
   | none=>conj ((r::rs).map fun i=>(match ops[i]? with
    | some o=>guardS ops T o (fun T=>stepS C Γ trunc T H o fun ts T' H'=>(if lateS trunc ops i || !(ts.any Z.contains) then anyS Γ trunc ops Z K fuel (listed.setIfInBounds i true) (ts++W) T' H' else False))
     (fun T=>anyS Γ trunc ops Z K fuel (listed.setIfInBounds i true) W (setT T o.dst undefS) H)
    | none=>False))

def rootOf (T:List SV)(ops:Array Oper):Nat->Nat->List Nat
 | 0,_=>[]
 | d+1,t=>match ops.toList.find? (fun o=>o.dst==some t) with
  | some o=>match o.op with
   | .move (.tmp u)|.assign (.tmp u)|.nilCheck (.tmp u)|.fieldAddr _ (.tmp u) _=>(T.getD u (.one (.at .any))).names++rootOf T ops d u
   | .load _ (.tmp u)=>rootOf T ops d u
   | _=>[]
  | none=>(T.getD t (.one (.at .any))).names

def subNames {C:Ctx}(H:List (Chunk C))(n:Nat):List Nat:=match H[n]? with
 | some c=>c.names
 | none=>[]
def reachN {C:Ctx}(H:List (Chunk C)):Nat->List Nat->List Nat
 | 0,l=>l
 | d+1,l=>l++reachN H d (l.flatMap (subNames H))

def rootH {C:Ctx}(H:List (Chunk C))(T:List SV)(ops:Array Oper):Nat->Nat->List Nat
 | 0,_=>[]
 | d+1,t=>match ops.toList.find? (fun o=>o.dst==some t) with
  | some o=>match o.op with
   | .move (.tmp u)|.assign (.tmp u)|.nilCheck (.tmp u)|.fieldAddr _ (.tmp u) _=>(T.getD u (.one (.at .any))).names++rootH H T ops d u
   | .load _ (.tmp u)=>(rootOf T ops d u).flatMap (subNames H)
   | _=>[]
  | none=>(T.getD t (.one (.at .any))).names
def rootX {C:Ctx}(H:List (Chunk C))(quiet:List FuncId)(T:List SV)(ops:Array Oper)(t:Nat):List Nat:=if quiet.contains 9999999 then rootH H T ops 20 t else rootOf T ops 20 t
def handedS {C:Ctx}(H:List (Chunk C))(quiet:List FuncId)(T:List SV)(ops:Array Oper):List Nat:=ops.toList.flatMap fun o=>match o.op with
 | .call c=>match c.callee with
  | .builtin .append=>c.args.toList.flatMap fun x=>match x with|.tmp t=>rootX H quiet T ops t|_=>[]
  | .value (.func g)=>if quiet.contains g then [] else c.args.toList.flatMap fun x=>match x with|.tmp t=>rootX H quiet T ops t|_=>[]
  | .value _=>c.args.toList.flatMap fun x=>match x with|.tmp t=>rootX H quiet T ops t|_=>[]
  | _=>[]
 | _=>[]

def storeS (trunc:Nat->Bool)(T:List SV)(ops:Array Oper):List Nat:=(List.range ops.size).flatMap fun i=>match ops[i]? with
 | some o=>(match o.op with
  | .store _ (.tmp t) _=>(match lateS trunc ops i with
   | true=>[]
   | false=>rootOf T ops 20 t)
  | .mapUpdate _ (.tmp t) _ _=>(match lateS trunc ops i with
   | true=>[]
   | false=>rootOf T ops 20 t)
  | _=>[])
 | none=>[]
def truncS (trunc:Nat->Bool)(T:List SV)(ops:Array Oper):List Nat:=ops.toList.flatMap fun o=>match o.op with
 | .slice _ (.tmp t) _ _ _=>if trunc (o.dst.getD 0) then rootOf T ops 20 t else []
 | _=>[]
def stayS {C:Ctx}(quiet:List FuncId)(trunc:Nat->Bool)(T:List SV)(H:List (Chunk C))(ops:Array Oper):List Nat :=
 let bad:=reachN H 3 (handedS H quiet T ops++truncS trunc T ops)++storeS trunc T ops
 (List.range H.length).filter fun n=>(!bad.contains n) && (match H[n]? with|some (.box _)|some (.row _ _ _)|some (.map _ _ _)|some (.rows _ _ _)|some (.arr _ _)=>true|_=>false)
end

inductive Ex where
 | normal
 | exit (id:Nat)
 | ret

structure Inv (C:Ctx) where
 X:Type
 sl:List Nat
 tf:X->List SV
 hf:X->List (Chunk C)
 μ:X->Nat:=fun _=>0
 wr:List Nat:=[]
 rel:List SV->List (Chunk C)->X->Prop:=fun _ _ _=>True
 cp:List Nat:=[]

structure Ann (C:Ctx) where
 Γ:List (FuncId × Tfm C)
 inv:Nat->Option (Inv C):=fun _=>none
 trunc:Nat->Bool:=fun _=>false
 quiet:List FuncId:=[]
 rounds:Nat->Nat:=fun _=>0
 base:Nat:=0

def headId:Code->Nat
 | .region id _ _=>id
 | .seq a _=>headId a
 | .cond _ a _=>headId a
 | .block _ b=>headId b
 | .loop b=>headId b
 | .scope b=>headId b
 | _=>0

def cutKey (a b:Code):Nat:=match headId b with
 | 0=>2000+headId a
 | n=>1000+n

def readsOp (o:Op):List Nat:=o.operands.toList.filterMap fun x=>match x with|.tmp t=>some t|_=>none
def writesC:Code->List Nat
 | .region _ ops _=>ops.toList.filterMap (·.dst)
 | .seq a b=>writesC a++writesC b
 | .cond _ a b=>writesC a++writesC b
 | .block _ b=>writesC b
 | .loop b=>writesC b
 | _=>[]

def escC:Code->List Nat
 | .seq a b=>escC a++escC b
 | .cond _ a b=>escC a++escC b
 | .block id b=>(escC b).filter (fun n=>n != id)
 | .loop b=>escC b
 | .exit id=>[id]
 | _=>[]
def exitsC (c:Code):Bool:=match escC c with
 | []=>false
 | _=>true
def mustC:Code->List Nat
 | .region _ ops _=>ops.toList.filterMap (·.dst)
 | .seq a b=>mustC a++mustC b
 | .block _ b=>if exitsC b then [] else mustC b
 | .cond _ a b=>if exitsC a || exitsC b then [] else (mustC a).filter (mustC b).contains
 | _=>[]
def needO:List Oper->List Nat->List Nat
 | [],_=>[]
 | o::l,wr=>(readsOp o.op).filter (fun n=>!wr.contains n)++needO l (match o.dst with|some d=>d::wr|none=>wr)
def needC:Code->List Nat
 | .region _ ops _=>needO ops.toList []
 | .seq a b=>needC a++(needC b).filter (fun n=>!(mustC a).contains n)
 | .cond c a b=>(match c with|.tmp t=>[t]|_=>[])++(needC a++needC b)
 | .block _ b=>needC b
 | .loop b=>needC b
 | _=>[]
def liveC (c:Code)(lv:Nat->Bool)(n:Nat):Bool:=(needC c).contains n || (lv n && (exitsC c || !(mustC c).contains n))

def At.le (a b:At):Prop:=match b with
 | .any=>True
 | .ptr n k=>match a with|.ptr m j=>if n=m/\k=j then True else False|_=>False
 | .slc n=>match a with|.slc m=>if n=m then True else False|_=>False
 | .val v=>match a with|.val u=>u=v|_=>False
 | b=>a=b
def lesAt:List At->List At->Prop
 | [],[]=>True
 | a::l,b::m=>match b with
  | .any=>lesAt l m
  | b=>At.le a b/\lesAt l m
 | _,_=>False
def SV.le (a b:SV):Prop:=match b with
 | .one (.at y)=>match y with
  | .any=>True
  | y=>match a with
   | .one (.at x)=>At.le x y
   | _=>False
 | .one (.agg m)=>match a with
  | .one (.agg l)=>lesAt l m
  | _=>False
 | b=>a=b
def Chunk.le {C:Ctx}(a b:Chunk C):Prop:=match b with
 | .gone=>True
 | .box m=>match a with
  | .box l=>lesAt l m
  | _=>False
 | .row o' e' l'=>match a with
  | .row o e l=>if (!o' || o) then (match C.deq e e' with
   | isTrue h=>(h ▸ l)=l'
   | isFalse _=>False) else False
  | _=>False
 | .abs y=>match a with
  | .abs x=>x=y
  | _=>False
 | .map kk vk m=>match a with
  | .map k v l=>if k=kk/\v=vk then l=m else False
  | _=>False
 | .arr kk m=>match a with
  | .arr k l=>if k=kk then l=m else False
  | .box cells=>cells=m.map fun x=>At.val (.int kk x)
  | _=>False
 | .rows h' e' m=>match a with
  | .rows h e l=>(match C.deq h h' with
   | isTrue _=>(match C.deq e e' with
    | isTrue q=>(q ▸ l)=m
    | isFalse _=>False)
   | isFalse _=>False)
  | _=>False

def maskT (live:Nat->Bool)(T:List SV)(sl:List Nat)(vs:List SV):List SV :=
 (sl.zip vs).foldl (fun T p=>T.set p.1 p.2) ((List.range T.length).map fun i=>if live i then T.getD i (.one (.at .any)) else .one (.at .any))

def lesT:List SV->List SV->Prop
 | [],[]=>True
 | a::l,b::m=>match b with
  | .one (.at .any)=>lesT l m
  | b=>SV.le a b/\lesT l m
 | _,_=>False
def lesH {C:Ctx}:List (Chunk C)->List (Chunk C)->Prop
 | _,[]=>True
 | a::l,b::m=>Chunk.le a b/\lesH l m
 | [],_=>False

section
variable {C:Ctx}
def idxOf (n:Nat):List Nat->Option Nat
 | []=>none
 | m::l=>if m=n then some 0 else (idxOf n l).map (·+1)

def allIdx (ρ:Nat->Option Nat):List Nat->Option (List Nat)
 | []=>some []
 | n::l=>match ρ n,allIdx ρ l with
  | some m,some r=>some (m::r)
  | _,_=>none

def At.ren (ρ:Nat->Option Nat):At->At
 | .any=>.any
 | .val v=>.val v
 | .ptr n off=>match ρ n with
  | some m=>.ptr m off
  | none=>.any
 | .eptr n i sz off=>match ρ n with
  | some m=>.eptr m i sz off
  | none=>.any
 | .slc n=>match ρ n with
  | some m=>.slc m
  | none=>.any
 | .fn f cs=>match allIdx ρ cs with
  | some l=>.fn f l
  | none=>.any
def TV.ren (ρ:Nat->Option Nat):TV->TV
 | .at x=>.at (x.ren ρ)
 | .agg l=>.agg (l.map (At.ren ρ))
def SV.ren (ρ:Nat->Option Nat):SV->SV
 | .one x=>.one (x.ren ρ)
 | .tup l=>.tup (l.map (TV.ren ρ))
def Chunk.ren (ρ:Nat->Option Nat):Chunk C->Chunk C
 | .box l=>.box (l.map (At.ren ρ))
 | c=>c

def pickH (τ:List Nat)(H:List (Chunk C)):List (Chunk C):=τ.map fun n=>(H.getD n .gone).ren (fun n=>idxOf n τ)
end

section
variable (C:Ctx) (A:Ann C)

def invS (c:Code)(lv:Nat->Bool)(T:List SV)(i:Inv C)(x:i.X):List SV :=
 maskT (fun n=>lv n && !(writesC c).contains n) T i.sl (i.tf x)

def unroll (f:(List Nat->List SV->List (Chunk C)->Prop)->List Nat->List SV->List (Chunk C)->Prop)(base:List Nat->List SV->List (Chunk C)->Prop):Nat->List Nat->List SV->List (Chunk C)->Prop
 | 0,W,T,H=>base W T H
 | k+1,W,T,H=>f (unroll f base k) W T H

def okNames {C:Ctx}(base:Nat)(T:List SV)(H:List (Chunk C)):Bool :=
 decide (base<=H.length) && T.all (fun s=>s.names.all fun m=>decide (m<H.length)) && H.all (fun c=>c.names.all fun m=>decide (m<H.length))

def okBase {C:Ctx}(base:Nat)(wr:List Nat)(H:List (Chunk C)):Bool :=
 (List.range base).all fun n=>wr.contains n || (match H[n]? with|some .gone=>false|some _=>true|none=>false)

def slotI (T:List SV)(s:Nat)(n:Int):Prop:=match T.getD s (.one (.at .any)) with
 | .one (.at (.val (.int _ m)))=>m=n
 | _=>False
def At.pairs (a b:At):List (Nat × Nat):=match a,b with
 | .slc n,.slc m=>[(m,n)]
 | .ptr n _,.ptr m _=>[(m,n)]
 | .eptr n _ _ _,.eptr m _ _ _=>[(m,n)]
 | .fn _ cs,.fn _ ds=>ds.zip cs
 | _,_=>[]
def pairsAt:List At->List At->List (Nat × Nat)
 | a::l,b::m=>a.pairs b++pairsAt l m
 | _,_=>[]
def pairsT:List SV->List SV->List (Nat × Nat)
 | .one (.at a)::l,.one (.at b)::m=>a.pairs b++pairsT l m
 | .one (.agg xs)::l,.one (.agg ys)::m=>pairsAt xs ys++pairsT l m
 | _::l,_::m=>pairsT l m
 | _,_=>[]
def pairsC {C:Ctx}(H h:List (Chunk C))(p:Nat × Nat):List (Nat × Nat):=match h[p.1]?,H[p.2]? with
 | some (.box ys),some (.box xs)=>pairsAt xs ys
 | _,_=>[]
def pairsN {C:Ctx}(H h:List (Chunk C)):Nat->List (Nat × Nat)->List (Nat × Nat)
 | 0,l=>l
 | d+1,l=>l++pairsN H h d (l.flatMap (pairsC H h))
def lookN (m:Nat):List (Nat × Nat)->Nat
 | []=>m
 | p::l=>if p.1=m then p.2 else lookN m l
def meetN {C:Ctx}(base:Nat)(T T1:List SV)(H h:List (Chunk C)):List Nat :=
 let ps:=pairsN H h 3 (pairsT T T1)
 (List.range h.length).map fun m=>if m<base then m else lookN m ps
def nodupB:List Nat->Bool
 | []=>true
 | n::l=>!(l.contains n) && nodupB l

def meetO (i:Inv C)(W:List Nat)(T T1:List SV)(H:List (Chunk C))(x:i.X):Prop :=
 let τ:=meetN A.base T T1 H (i.hf x)
 if okNames A.base T1 (i.hf x) && (okBase A.base i.wr (i.hf x) && (W.all (fun n=>decide (A.base<=n) || i.wr.contains n) && (nodupB τ && τ.all fun n=>decide (n<H.length))))
 then lesT (T.map (SV.ren fun n=>idxOf n τ)) T1/\lesH (pickH τ H) (i.hf x) else False

def copyS {C:Ctx}:List Nat->List SV->List (Chunk C)->List SV × List (Chunk C)
 | [],T,H=>(T,H)
 | s::r,T,H=>match T.getD s (.one (.at .any)) with
  | .one (.at (.slc n))=>match H[n]? with
   | some (.row false e l)=>copyS r (T.set s (.one (.at (.slc H.length)))) (H++[.row false e l])
   | some (.row true e l)=>copyS r (T.set s (.one (.at (.slc H.length)))) (H.set n (.row false e l)++[.row false e l])
   | _=>copyS r T H
  | _=>copyS r T H

def meetS (i:Inv C)(W:List Nat)(T T1:List SV)(H:List (Chunk C))(x:i.X):Prop:=match i.cp with
 | []=>meetO C A i W T T1 H x
 | l=>(fun q:List SV × List (Chunk C)=>meetO C A i W q.1 T1 q.2 x) (copyS l T H)

def run:Code->(Nat->Bool)->(Ex->List Nat->List SV->List (Chunk C)->Prop)->List Nat->List SV->List (Chunk C)->Prop
 | .skip,_,K,W,T,H=>K .normal W T H
 | .region _ ops d,_,K,W,T,H=>if d then (if Region.noSelect ops then anyS C A.Γ A.trunc ops (stayS A.quiet A.trunc T H ops) (K .normal) ops.size (Array.replicate ops.size false) W T H else False) else seqS C A.Γ A.trunc ops (K .normal) ops.toList W T H
 | .seq a b,lv,K,W,T,H=>match A.inv (cutKey a b) with
  | none=>run a (liveC b lv) (fun e W' T' H'=>match e with
   | .normal=>run b lv K W' T' H'
   | e=>K e W' T' H') W T H
  | some i=>(run a (liveC b lv) (fun e W' T' H'=>match e with
   | .normal=>∃ x,i.rel T H x/\meetS C A i W' T' (invS C a (liveC b lv) T i x) H' x
   | e=>K e W' T' H') W T H)/\∀ x,i.rel T H x->run b lv K i.wr (invS C a (liveC b lv) T i x) (i.hf x)
 | .cond c a b,lv,K,W,T,H=>match c with
  | .tmp d=>match T.getD d (.one (.at .any)) with
   | .one (.at (.val (.bool t)))=>brS t (run a lv K W (T.set d (vb true)) H) (run b lv K W (T.set d (vb false)) H)
   | _=>False
  | _=>False
 | .block id b,lv,K,W,T,H=>run b lv (fun e W' T' H'=>match e with
  | .exit j=>if j=id then K .normal W' T' H' else K (.exit j) W' T' H'
  | e=>K e W' T' H') W T H
 | .loop b,lv,K,W,T,H=>unroll C (fun J W T H=>run b (liveC b lv) (fun e W' T' H'=>match e with
   | .normal=>J W' T' H'
   | e=>K e W' T' H') W T H) (fun W T H=>match A.inv (headId b) with
  | none=>False
  | some i =>
   (∃ x,i.rel T H x/\meetS C A i W T (invS C b (liveC b lv) T i x) H x) ∧
   ∀ x,i.rel T H x->run b (liveC b lv) (fun e W' T' H'=>match e with
    | .normal=>∃ x',i.rel T H x'/\meetS C A i W' T' (invS C b (liveC b lv) T i x') H' x'/\i.μ x'<i.μ x
    | e=>K e W' T' H') i.wr (invS C b (liveC b lv) T i x) (i.hf x)) (A.rounds (headId b)) W T H
 | .exit id,_,K,W,T,H=>K (.exit id) W T H
 | .ret,_,K,W,T,H=>K .ret W T H
 | _,_,_,_,_,_=>False

def resS (T:List SV)(H:List (Chunk C)):List ResultVar->Option (List SV)
 | []=>some []
 | .tmp t::r=>(resS T H r).map (T.getD t (.one (.at .any))::·)
 | .cell a t::r=>match loadS C H t (T.getD a (.one (.at .any))),resS T H r with
  | some s,some l=>some (s::l)
  | _,_=>none
def retS (T:List SV)(H:List (Chunk C))(rs:List ResultVar):Option SV:=match resS C T H rs with
 | some [s]=>some s
 | some l=>(atsOf l).map .tup
 | none=>none

def retReads:List ResultVar->List Nat
 | []=>[]
 | .tmp t::r=>t::retReads r
 | .cell a _::r=>a::retReads r

def initT (args:List TV)(n:Nat):List SV:=args.map .one++List.replicate (n-args.length) (.one (.at .any))

@[irreducible] def vc (fn:Func) (args:List TV) (H:List (Chunk C)) (Q:SV->List (Chunk C)->List Nat->Prop):Prop:=match fn.body with
 | none=>False
 | some c=>run C { A with base:=H.length } c (fun n=>(retReads fn.results.toList).contains n) (fun e W T H'=>match e with
  | .normal|.ret=>match retS C T H' fn.results.toList with
   | some r=>Q r H' W
   | none=>False
  | .exit _=>False) [] (initT args fn.ntmps) H
end
end Go.Proofs.YtedfbafngmicpaaGreat.Sx
end
section
/- The symbolic run is sound: operations that leave the world alone. No program in sight. -/
namespace Go.Proofs.YtedfbafngmicpaaGreat.Sx
open Go

theorem pureRun_sound {P:Program}{α:Type}:∀ (s:Sem α) (a:α),pureRun P s=some a->∀ w,s.run P w = .ok a w:=by
 intro s
 induction s with
 | pure x=>intro a h w;simp[pureRun] at h;subst h;rfl
 | program k ih=>intro a h w;exact ih P a h w
 | _=>intro a h;simp[pureRun] at h

theorem allVals_rel {σ:Nat->Value}:∀ {l:List At} {cs vs:List Value},allVals l=some cs->Rels (At.rel σ) l vs->vs=cs:=by
 intro l
 induction l with
 | nil=>intro cs vs h hr;simp[allVals] at h;subst h;exact List.eq_nil_of_length_eq_zero hr.1.symm
 | cons a t ih =>
  intro cs vs h hr
  cases a with
  | val v =>
   simp only[allVals,Option.map_eq_some_iff] at h
   obtain⟨cs',h1,rfl⟩:=h
   match vs,hr with
   | [],hr=>exact absurd hr.1 (by simp)
   | u::us,hr =>
    have h0:u=v:=hr.2 0 _ _ rfl rfl
    have:=ih h1 (vs:=us) ⟨by simpa using hr.1,fun i a b ha hb=>hr.2 (i+1) a b (by simpa using ha) (by simpa using hb)⟩
    rw[h0,this]
  | _=>simp[allVals] at h

theorem rels_vals {σ:Nat->Value}(cs:List Value):Rels (At.rel σ) (cs.map At.val) cs :=
 ⟨by simp,fun i a b ha hb=>by
  rw[List.getElem?_map] at ha
  rw[hb] at ha
  simp at ha;subst ha;rfl⟩

theorem valOf_rel {σ:Nat->Value}{s:SV}{u v:Value}(h:valOf s=some u)(hr:s.rel σ v):v=u:=by
 match s with
 | .one (.at (.val x))=>simp[valOf] at h;subst h;exact hr
 | .one (.agg l) =>
  simp only[valOf,Option.map_eq_some_iff] at h
  obtain⟨cs,h1,rfl⟩:=h
  obtain⟨vs,rfl,h2⟩:=hr
  rw[allVals_rel h1 h2]
 | .one (.at .any)|.one (.at (.ptr _ _))|.one (.at (.eptr _ _ _ _))|.one (.at (.slc _))|.one (.at (.fn _ _))|.tup _=>simp[valOf] at h

theorem lift_rel {σ:Nat->Value}(v:Value):(lift v).rel σ v:=by
 cases v with
 | agg cs=>exact⟨cs.toList,rfl,rels_vals _⟩
 | tuple vs=>trivial
 | _=>rfl

theorem lift_names (v:Value):(lift v).names=[]:=by
 cases v with
 | agg cs=>simp[lift,SV.names,TV.names,At.names]
 | _=>rfl

section
variable {C:Ctx}

theorem opnd_rel {σ:Nat->Value}{T:List SV}{a:Act}(h:Rels (SV.rel σ) T a.tmps.toList)(x:Operand):(opnd T x).rel σ (a.eval x):=by
 cases x with
 | tmp t =>
  simp only[opnd,List.getD_eq_getElem?_getD,Act.eval]
  cases hT:T[t]? with
  | none=>trivial
  | some s =>
   obtain⟨v,hv,hr⟩:=h.get hT
   rw[Array.getElem?_toList] at hv
   simp only[Array.getD_eq_getD_getElem?,hv]
   exact hr
 | const v=>exact lift_rel v
 | global g=>trivial
 | func f=>exact⟨rfl,fun c hc=>by cases hc⟩

theorem opnd_names {n:Nat}{T:List SV}(h:∀ s∈T,∀ m∈s.names,m<n)(x:Operand):∀ m∈(opnd T x).names,m<n:=by
 cases x with
 | tmp t =>
  simp only[opnd,List.getD_eq_getElem?_getD]
  cases hT:T[t]? with
  | none=>intro m hm;simp[SV.names,TV.names,At.names] at hm
  | some s=>exact h s (List.mem_of_getElem? hT)
 | const v=>intro m hm;simp only[opnd,lift_names] at hm;cases hm
 | global g=>intro m hm;simp[opnd,SV.names,TV.names,At.names] at hm
 | func f=>intro m hm;simp[opnd,SV.names,TV.names,At.names] at hm

def Rdb (H:List (Chunk C))(σ:Nat->Value)(n b:Nat):Prop:=(σ n = .pointer (some ⟨b,0,none⟩)/\∃ cells,H[n]?=some (.box cells))∨((σ n).ownBlock=some b/\∃ own e l,H[n]?=some (.row own e l)/\0<l.length)∨(σ n = .map (some b)/\∃ kk vk l,H[n]?=some (.map kk vk l))∨((σ n).ownBlock=some b/\∃ h e ll,H[n]?=some (.rows h e ll)/\0<ll.length)∨(σ n = .pointer (some ⟨b,0,none⟩)/\∃ kk l,H[n]?=some (.arr kk l))

structure Grows (C:Ctx) (σ:Nat->Value) (φ:Nat->Nat->Prop) (H:List (Chunk C)) (σ':Nat->Value) (φ':Nat->Nat->Prop) (H':List (Chunk C)) (w:World):Prop where
 sat:Sat C σ' φ' w H'
 agree:∀ n,n<H.length->σ' n=σ n
 sub:∀ n b,φ' n b->φ n b
 len:H.length<=H'.length
 own:∀ n,n<H.length->isOwn H' n=true->isOwn H n=true
 rdb:∀ n,n<H.length->∀ b,Rdb H' σ' n b↔Rdb H σ n b

theorem Grows.refl {σ:Nat->Value}{φ:Nat->Nat->Prop}{H:List (Chunk C)}{w:World}(h:Sat C σ φ w H):Grows C σ φ H σ φ H w :=
 ⟨h,fun _ _=>rfl,fun _ _ h=>h,Nat.le_refl _,fun _ _ h=>h,fun _ _ _=>Iff.rfl⟩
theorem Grows.trans {σ σ' σ'':Nat->Value}{φ φ' φ'':Nat->Nat->Prop}{H H' H'':List (Chunk C)}{w:World}(h:Grows C σ φ H σ' φ' H' w)(h':Grows C σ' φ' H' σ'' φ'' H'' w):Grows C σ φ H σ'' φ'' H'' w :=
 ⟨h'.sat,fun n hn=>(h'.agree n (Nat.lt_of_lt_of_le hn h.len)).trans (h.agree n hn),fun n b hb=>h.sub n b (h'.sub n b hb),Nat.le_trans h.len h'.len,
  fun n hn ho=>h.own n hn (h'.own n (Nat.lt_of_lt_of_le hn h.len) ho),fun n hn b=>(h'.rdb n (Nat.lt_of_lt_of_le hn h.len) b).trans (h.rdb n hn b)⟩

theorem isOwn_append {H:List (Chunk C)}{l:List (Chunk C)}{n:Nat}(hn:n<H.length):isOwn (H++l) n=isOwn H n:=by
 simp[isOwn,List.getElem?_append_left hn]

theorem Grows.view (hC:C.OK){σ:Nat->Value}{φ:Nat->Nat->Prop}{w:World}{H:List (Chunk C)}(h:Sat C σ φ w H)(c:Chunk C)(v:Value)(hc:∀ σ',Holds w σ' v (fun _=>False) c)(hnm:c.names=[])(himm:∀ b,Ro w v b c->∀ m,¬ φ m b) :
  Grows C σ φ H (fun k=>if k=H.length then v else σ k) (fun k=>if k=H.length then (fun _=>False) else φ k) (H++[c]) w where
 sat:=h.new hC c v (fun _=>False) (Nat.le_refl _) (fun _ _=>rfl) (fun n _=>hc _) (by rw[hnm];simp) (fun _ h=>h.elim) (fun b hb=>⟨himm b hb,fun h=>h⟩)
 agree n hn:=by simp[Nat.ne_of_lt hn]
 sub n b hb:=by
  by_cases e:n=H.length
  ·subst e;simp at hb
  ·simpa [e] using hb
 len:=by simp
 own n hn ho:=by rwa [isOwn_append hn] at ho
 rdb n hn b:=by
  unfold Rdb
  simp[Nat.ne_of_lt hn,List.getElem?_append_left hn]

theorem nilFix_sound (hC:C.OK){σ:Nat->Value}{φ:Nat->Nat->Prop}{w:World}{H:List (Chunk C)}(h:Sat C σ φ w H)(t:TypeId){s:SV}{v:Value}(hr:s.rel σ v)(hn:∀ m∈s.names,m<H.length) :
  ∃ σ' φ',Grows C σ φ H σ' φ' (nilFix C H t s).2 w/\(nilFix C H t s).1.rel σ' v/\(∀ m∈(nilFix C H t s).1.names,m<(nilFix C H t s).2.length):=by
 unfold nilFix
 split
 ·split
  ·rename_i e he
   split
   ·rename_i e0 hl
    refine⟨_,_,Grows.view hC h (.rows e e0 []) (.slice none 0 0) (fun σ'=>⟨hC.lst _ _ hl,⟨[],World.ownsRow_nil _ _ _ _,Rels.nil⟩,fun k=>by simp[Value.ownBlock]⟩) rfl (fun b hb=>by obtain⟨vs,_,i,u,l,_,h2,_⟩:=hb;simp at h2),?_,?_⟩
    ·show v=_
     simp only[if_true]
     exact hr
    ·intro m hm;simp[SV.names,TV.names,At.names] at hm;subst hm;simp
   ·refine⟨_,_,Grows.view hC h (.row true e []) (.slice none 0 0) (fun σ'=>⟨ownR.nil _ _ _,fun k=>by simp[Value.ownBlock]⟩) rfl (fun b hb=>hb.elim),?_,?_⟩
    ·show v=_
     simp only[if_true]
     exact hr
    ·intro m hm;simp[SV.names,TV.names,At.names] at hm;subst hm;simp
  ·exact⟨σ,φ,Grows.refl h,hr,hn⟩
 ·exact⟨σ,φ,Grows.refl h,hr,hn⟩

theorem nilFix_one {H:List (Chunk C)}{t:TypeId}{a:At}:∃ b,(nilFix C H t (.one (.at a))).1 = .one (.at b):=by
 unfold nilFix
 split
 ·split
  ·split<;>exact⟨_,rfl⟩
  ·exact⟨_,rfl⟩
 ·exact⟨_,rfl⟩

theorem nilCells_sound (hC:C.OK){w:World}:∀ (l:List At) (ts:List TypeId) {σ:Nat->Value} {φ:Nat->Nat->Prop} {H:List (Chunk C)} {cs:List Value},Sat C σ φ w H->Rels (At.rel σ) l cs->(∀ a∈l,∀ m∈a.names,m<H.length) →
  ∃ σ' φ',Grows C σ φ H σ' φ' (nilCells C H l ts).2 w/\Rels (At.rel σ') (nilCells C H l ts).1 cs/\(∀ a∈(nilCells C H l ts).1,∀ m∈a.names,m<(nilCells C H l ts).2.length):=by
 intro l
 induction l with
 | nil=>intro ts σ φ H cs h hr hn;cases ts<;>exact⟨σ,φ,Grows.refl h,hr,hn⟩
 | cons a l ih =>
  intro ts σ φ H cs h hr hn
  cases ts with
  | nil=>exact⟨σ,φ,Grows.refl h,hr,hn⟩
  | cons t ts =>
   match cs,hr with
   | [],hr=>exact absurd hr.1 (by simp)
   | c::cs,hr =>
    have hrc:At.rel σ a c:=hr.2 0 _ _ rfl rfl
    have hrt:Rels (At.rel σ) l cs:=⟨by simpa using hr.1,fun i x y hx hy=>hr.2 (i+1) x y (by simpa using hx) (by simpa using hy)⟩
    obtain⟨σ1,φ1,g1,r1,n1⟩:=nilFix_sound hC h t (s:=.one (.at a)) (v:=c) hrc (hn a (by simp))
    obtain⟨b,hb⟩:=nilFix_one (C:=C) (H:=H) (t:=t) (a:=a)
    have hrt1:Rels (At.rel σ1) l cs:=hrt.mono fun x y hx hxy=>At.rel_of hxy fun m hm=>g1.agree m (hn x (by simp[hx]) m hm)
    obtain⟨σ2,φ2,g2,r2,n2⟩:=ih ts g1.sat hrt1 (fun x hx m hm=>Nat.lt_of_lt_of_le (hn x (by simp[hx]) m hm) g1.len)
    have he:nilCells C H (a::l) (t::ts)=(b::(nilCells C (nilFix C H t (.one (.at a))).2 l ts).1,(nilCells C (nilFix C H t (.one (.at a))).2 l ts).2):=by
     rw[nilCells]
     generalize nilFix C H t (.one (.at a))=q at *
     obtain⟨q1,q2⟩:=q
     simp only at hb
     subst hb
     rfl
    rw[he]
    rw[hb] at r1 n1
    refine⟨σ2,φ2,g1.trans g2,Rels.cons (At.rel_of r1 fun m hm=>g2.agree m (n1 m hm)) r2,fun x hx m hm=>?_⟩
    rcases List.mem_cons.1 hx with rfl|hx
    ·exact Nat.lt_of_lt_of_le (n1 m hm) g2.len
    ·exact n2 x hx m hm

def QOut (C:Ctx)(T:List SV)(H:List (Chunk C))(o:Oper)(σ:Nat->Value)(φ:Nat->Nat->Prop)(a:Act)(w:World)(s:SV)(H':List (Chunk C)):Prop :=
 ∃ v σ' φ',Grows C σ φ H σ' φ' H' w/\s.rel σ' v/\(∀ m∈s.names,m<H'.length) ∧
  ∀ w',(∀ n,readName T o=some n->∀ b,Rdb H σ n b->w'.heap[b]?=w.heap[b]?)->(execOp a.eval o).run C.P w' = .ok (.value v) w'

theorem QOut.same {T:List SV}{H:List (Chunk C)}{o:Oper}{σ:Nat->Value}{φ:Nat->Nat->Prop}{a:Act}{w:World}{s:SV}(hs:Sat C σ φ w H)(v:Value)(hv:s.rel σ v)(hn:∀ m∈s.names,m<H.length)(hrun:∀ w',(∀ n,readName T o=some n->∀ b,Rdb H σ n b->w'.heap[b]?=w.heap[b]?)->(execOp a.eval o).run C.P w' = .ok (.value v) w'):QOut C T H o σ φ a w s H :=
 ⟨v,σ,φ,Grows.refl hs,hv,hn,hrun⟩

structure Pre (C:Ctx) (T:List SV) (H:List (Chunk C)) (σ:Nat->Value) (φ:Nat->Nat->Prop) (a:Act) (w:World):Prop where
 ok:C.OK
 tm:Rels (SV.rel σ) T a.tmps.toList
 tcl:∀ s∈T,∀ m∈s.names,m<H.length
 sat:Sat C σ φ w H

variable {T:List SV} {H:List (Chunk C)} {o:Oper} {σ:Nat->Value} {φ:Nat->Nat->Prop} {a:Act} {w:World} {ps:List Prop} {s:SV} {H':List (Chunk C)}

theorem Pre.rel (h:Pre C T H σ φ a w)(x:Operand):(opnd T x).rel σ (a.eval x):=opnd_rel h.tm x
theorem Pre.nm (h:Pre C T H σ φ a w)(x:Operand):∀ m∈(opnd T x).names,m<H.length:=opnd_names h.tcl x
theorem Pre.val (h:Pre C T H σ φ a w){x:Operand}{u:Value}(hx:valOf (opnd T x)=some u):a.eval x=u:=valOf_rel hx (h.rel x)

theorem pureOp_spec {v:Value}(h:pureOp C T o=some v):∀ w',(execOp (fun x=>(valOf (opnd T x)).getD undef) o).run C.P w' = .ok (.value v) w':=by
 unfold pureOp at h
 split at h
 ·rename_i u hu
  simp at h;subst h
  exact pureRun_sound _ _ hu
 ·cases h

theorem QOut.pure_ (h:Pre C T H σ φ a w){v:Value}(hp:pureOp C T o=some v)(he:execOp (fun x=>(valOf (opnd T x)).getD undef) o=execOp a.eval o):QOut C T H o σ φ a w (lift v) H :=
 QOut.same h.sat v (lift_rel v) (by rw[lift_names];simp) fun w' _=>by rw[← he];exact pureOp_spec hp w'

theorem q_move {x:Operand}(h:Pre C T H σ φ a w)(ho:o.op = .move x)(hq:quietS C T H o=some (ps,s,H')):QOut C T H o σ φ a w s H':=by
 simp only[quietS,ho,Option.some.injEq,Prod.mk.injEq] at hq
 obtain⟨_,rfl,rfl⟩:=hq
 obtain⟨σ',φ',g,r,n⟩:=nilFix_sound h.ok h.sat o.type (h.rel x) (h.nm x)
 exact⟨_,σ',φ',g,r,n,fun w' _=>by simp[execOp,ho]⟩
theorem q_assign {x:Operand}(h:Pre C T H σ φ a w)(ho:o.op = .assign x)(hq:quietS C T H o=some (ps,s,H')):QOut C T H o σ φ a w s H':=by
 simp only[quietS,ho,Option.some.injEq,Prod.mk.injEq] at hq
 obtain⟨_,rfl,rfl⟩:=hq
 obtain⟨σ',φ',g,r,n⟩:=nilFix_sound h.ok h.sat o.type (h.rel x) (h.nm x)
 exact⟨_,σ',φ',g,r,n,fun w' _=>by simp[execOp,ho]⟩

theorem q_pick {c x y:Operand}(h:Pre C T H σ φ a w)(ho:o.op = .pick c x y)(hq:quietS C T H o=some (ps,s,H')):QOut C T H o σ φ a w s H':=by
 simp only[quietS,ho] at hq
 split at hq
 ·rename_i t hc
  have hrc:a.eval c = .bool t:=h.val (by rw[hc];rfl)
  have hx:=h.rel x
  have hy:=h.rel y
  have nx:=h.nm x
  have ny:=h.nm y
  unfold pickS at hq
  split at hq
  ·rename_i b1 b2 h1 h2
   rw[h1] at hx;rw[h2] at hy
   simp only[Option.some.injEq,Prod.mk.injEq] at hq
   obtain⟨_,rfl,rfl⟩:=hq
   have e1:a.eval x = .bool b1:=hx
   have e2:a.eval y = .bool b2:=hy
   cases t with
   | true=>exact QOut.same h.sat (.bool b1) rfl (by simp[vb,SV.names,TV.names,At.names]) fun w' _=>by simp[execOp,ho,hrc,asBool,e1]
   | false=>exact QOut.same h.sat (.bool b2) rfl (by simp[vb,SV.names,TV.names,At.names]) fun w' _=>by simp[execOp,ho,hrc,asBool,e2]
  ·split at hq
   ·simp only[Option.some.injEq,Prod.mk.injEq] at hq
    obtain⟨_,rfl,rfl⟩:=hq
    exact QOut.same h.sat _ hx nx fun w' _=>by simp[execOp,ho,hrc,asBool]
   ·simp only[Option.some.injEq,Prod.mk.injEq] at hq
    obtain⟨_,rfl,rfl⟩:=hq
    exact QOut.same h.sat _ hy ny fun w' _=>by simp[execOp,ho,hrc,asBool]
 ·cases hq

theorem q_nilCheck {x:Operand}(h:Pre C T H σ φ a w)(ho:o.op = .nilCheck x)(hq:quietS C T H o=some (ps,s,H')):QOut C T H o σ φ a w s H':=by
 have hx:=h.rel x
 have nx:=h.nm x
 simp only[quietS,ho] at hq
 split at hq<;>first|(cases hq;done)|skip
 ·rename_i n k hc
  rw[hc] at hx nx
  simp only[Option.some.injEq,Prod.mk.injEq] at hq
  obtain⟨_,rfl,rfl⟩:=hq
  obtain⟨b,h1,h2⟩:=(show At.rel σ (.ptr n k) _ from hx)
  exact QOut.same h.sat _ hx nx fun w' _=>by simp[execOp,ho,h2]
 ·rename_i n i sz k hc
  rw[hc] at hx nx
  simp only[Option.some.injEq,Prod.mk.injEq] at hq
  obtain⟨_,rfl,rfl⟩:=hq
  obtain⟨b,o',len,cap,h1,h2,h3⟩:=(show At.rel σ (.eptr n i sz k) _ from hx)
  exact QOut.same h.sat _ hx nx fun w' _=>by simp[execOp,ho,h3]
 ·rename_i f cs hc
  rw[hc] at hx nx
  simp only[Option.some.injEq,Prod.mk.injEq] at hq
  obtain⟨_,rfl,rfl⟩:=hq
  have h2:a.eval x=_:=hx.1
  exact QOut.same h.sat _ hx nx fun w' _=>by simp[execOp,ho,h2]

theorem q_unOp {op:UnOp}{t:TypeId}{x:Operand}(h:Pre C T H σ φ a w)(ho:o.op = .unOp op t x)(hq:quietS C T H o=some (ps,s,H')):QOut C T H o σ φ a w s H':=by
 simp only[quietS,ho] at hq
 split at hq
 ·rename_i u hu
  simp only[Option.map_eq_some_iff,Prod.mk.injEq] at hq
  obtain⟨v,hp,_,rfl,rfl⟩:=hq
  exact QOut.pure_ h hp (by unfold execOp;rw[ho];simp only[hu,Option.getD_some,h.val hu])
 ·cases hq
theorem q_convert {t t':TypeId}{x:Operand}(h:Pre C T H σ φ a w)(ho:o.op = .convert t t' x)(hq:quietS C T H o=some (ps,s,H')):QOut C T H o σ φ a w s H':=by
 simp only[quietS,ho] at hq
 split at hq
 ·rename_i u hu
  simp only[Option.map_eq_some_iff,Prod.mk.injEq] at hq
  obtain⟨v,hp,_,rfl,rfl⟩:=hq
  exact QOut.pure_ h hp (by unfold execOp;rw[ho];simp only[hu,Option.getD_some,h.val hu])
 ·cases hq
end
end Go.Proofs.YtedfbafngmicpaaGreat.Sx
end
section
/- The symbolic run is sound: loads, addresses, parts. No program in sight. -/
namespace Go.Proofs.YtedfbafngmicpaaGreat.Sx
open Go

section
variable {C:Ctx}
variable {T:List SV} {H:List (Chunk C)} {o:Oper} {σ:Nat->Value} {φ:Nat->Nat->Prop} {a:Act} {w:World} {ps:List Prop} {s:SV} {H':List (Chunk C)}

theorem run_isAggD {P:Program}{t:TypeId}{d:TypeDesc}(h:P.underlying t=some d)(w:World):(isAgg t).run P w = .ok (isAggD d) w:=by
 unfold isAgg
 rw[Sem.run_bind,run_underlying h]
 cases d<;>rfl
theorem run_sizeOf {P:Program}{t:TypeId}{i:TypeInfo}(h:P.info? t=some i)(w:World):(sizeOf t).run P w = .ok i.size w:=by
 simp[sizeOf,typeInfo,h]

theorem run_loadVar_agg {P:Program}{t:TypeId}{d:TypeDesc}{i:TypeInfo}{ad:Addr}{w:World}(hd:P.underlying t=some d)(ha:isAggD d=true)(hi:P.info? t=some i)(vs:List Value)(hl:vs.length=i.size)(hc:∀ j u,vs[j]?=some u->w.cell? (ad.add j)=some u):(loadVar t ad).run P w = .ok (.agg vs.toArray) w:=by
 have h1:=run_loadCells_list (P:=P) w ad vs hc
 rw[hl] at h1
 simp[loadVar,run_isAggD hd,ha,run_sizeOf hi,h1]
theorem run_loadVar_one {P:Program}{t:TypeId}{d:TypeDesc}{ad:Addr}{w:World}{u:Value}(hd:P.underlying t=some d)(ha:isAggD d=false)(hc:w.cell? ad=some u):(loadVar t ad).run P w = .ok u w:=by
 simp[loadVar,run_isAggD hd,ha,hc]

theorem Holds.rd (hC:C.OK){w:World}{v:Value}{f:Nat->Prop}{own:Bool}{e:C.EC}{l:List (C.α e)}(h:Holds w σ v f (.row own e l)):∃ A c,v = .slice A l.length c/\Rd (C.enc e) (C.sz e) w A l.length c l:=by
 cases own with
 | false=>exact h.1
 | true =>
  exact ownR.form (f:=C.enc e) (hC.len e) h.1

theorem getD_some {α:Type}{l:List α}{i:Nat}{d:α}(h:i<l.length):l[i]?=some (l.getD i d):=by
 simp[List.getD_eq_getElem?_getD,List.getElem?_eq_getElem h]

theorem cellAt_sound (hC:C.OK)(hs:Sat C σ φ w H){x:SV}{v:Value}{cells:List At}{off:Nat}(hx:x.rel σ v)(hc:cellAt H x=some (cells,off)) :
  ∃ n b k vs,(x.names=[n])/\v = .pointer (some ⟨b,k+off,none⟩)/\Rdb H σ n b/\Rels (At.rel σ) cells vs/\(∀ c∈cells,∀ m∈c.names,m<H.length) ∧
   ((∃ i,x = .one (.at (.ptr i off)))∨∃ i j sz,x = .one (.at (.eptr i j sz off))) ∧
   ∀ (w':World),w'.heap[b]?=w.heap[b]?->∀ (j:Nat) (u:Value),vs[j]?=some u->w'.cell? ⟨b,k+j,none⟩=some u:=by
 unfold cellAt at hc
 split at hc
 ·rename_i n off'
  split at hc
  ·rename_i cells' hH
   simp only[Option.some.injEq,Prod.mk.injEq] at hc
   obtain⟨rfl,rfl⟩:=hc
   obtain⟨b,h1,h2⟩:=(show At.rel σ (.ptr n off') v from hx)
   obtain⟨b',t,cs,h3,h4,h5,h6⟩:=hs.holds n _ hH
   rw[h1] at h3
   obtain rfl:b=b':=by simpa using h3
   refine⟨n,b,0,cs.toList,rfl,by simpa using h2,.inl ⟨h1,_,hH⟩,h6,fun c hc m hm=>hs.cl n _ hH m (List.mem_flatMap.2 ⟨c,hc,hm⟩),.inl ⟨n,rfl⟩,fun w' hw' j u hu=>?_⟩
   rw[Nat.zero_add,cell_of_row w' b j cs t (0,0) (hw'.trans h5)]
   simpa using hu
  ·cases hc
 ·rename_i n i sz off'
  split at hc
  ·rename_i own e l hH
   split at hc
   ·rename_i hsz
    simp only[Option.some.injEq,Prod.mk.injEq] at hc
    obtain⟨rfl,rfl⟩:=hc
    obtain⟨b,o',len,cap,h1,h2,h3⟩:=(show At.rel σ (.eptr n i sz off') v from hx)
    obtain⟨A,c,h4,h5⟩:=(hs.holds n _ hH).rd hC
    rw[h1] at h4
    obtain⟨rfl,rfl,rfl⟩:A=some ⟨b,o',none⟩/\len=l.length/\cap=c:=by
     injection h4 with e1 e2 e3
     exact⟨e1.symm,e2,e3⟩
    obtain⟨b2,o2,e2,hlt,hcl⟩:=h5.get (by omega)
    obtain⟨rfl,rfl⟩:b=b2/\o'=o2:=by simpa using e2
    refine⟨n,b,o'+i*sz,C.enc e (l.getD i (C.dft e)),rfl,by rw[h3],.inr (.inl ⟨by rw[h1];rfl,own,e,l,hH,by omega⟩),rels_vals _,fun c hc m hm=>?_,.inr ⟨n,i,sz,rfl⟩,fun w' hw' j u hu=>?_⟩
    ·obtain⟨u,_,rfl⟩:=List.mem_map.1 hc
     simp[At.names] at hm
    ·rw[hsz]
     exact (World.cell?_of_block (w:=w) (w':=w') (a:=⟨b,o'+i*C.sz e+j,none⟩) hw').trans (hcl i _ (getD_some h2) j u hu)
   ·cases hc
  ·cases hc
 ·cases hc

theorem names_sub {l:List At}{n k j:Nat}(h:∀ c∈l,∀ m∈c.names,m<n):∀ m∈(SV.one (.agg ((l.drop k).take j))).names,m<n:=by
 intro m hm
 simp only[SV.names,TV.names,List.mem_flatMap] at hm
 obtain⟨c,hc,hm⟩:=hm
 exact h c (List.mem_of_mem_drop (List.mem_of_mem_take hc)) m hm

theorem loadS_sound (hC:C.OK)(hs:Sat C σ φ w H){t:TypeId}{x:SV}{v:Value}(hx:x.rel σ v)(h:loadS C H t x=some s) :
  ∃ u n b ad,x.names=[n]/\v = .pointer (some ad)/\Rdb H σ n b/\s.rel σ u/\(∀ m∈s.names,m<H.length) ∧
   ((∃ i k,x = .one (.at (.ptr i k)))∨∃ i j sz k,x = .one (.at (.eptr i j sz k)))/\∀ (w':World),w'.heap[b]?=w.heap[b]?->(loadVar t ad).run C.P w' = .ok u w':=by
 unfold loadS at h
 split at h
 ·rename_i cells off d i hc hd hi
  obtain⟨n,b,k,vs,h1,h2,h3,h4,h5,h6,h7⟩:=cellAt_sound hC hs hx hc
  have hkind:(∃ i k,x = .one (.at (.ptr i k)))∨∃ i j sz k,x = .one (.at (.eptr i j sz k)):=by
   rcases h6 with ⟨i,rfl⟩|⟨i,j,sz,rfl⟩
   ·exact .inl ⟨_,_,rfl⟩
   ·exact .inr ⟨_,_,_,_,rfl⟩
  split at h
  ·rename_i ha
   split at h
   ·rename_i hle
    simp only[Option.some.injEq] at h
    subst h
    refine⟨.agg ((vs.drop off).take i.size).toArray,n,b,_,h1,h2,h3,⟨_,rfl,(h4.drop off).take i.size⟩,names_sub h5,hkind,fun w' hw'=>?_⟩
    refine run_loadVar_agg hd ha hi _ ?_ fun j u hu=>?_
    ·rw[List.length_take,List.length_drop,← h4.1];omega
    ·rw[List.getElem?_take] at hu
     split at hu
     ·rw[List.getElem?_drop] at hu
      rw[Addr.add_lit,Nat.add_assoc]
      exact h7 w' hw' _ u hu
     ·cases hu
   ·cases h
  ·rename_i ha
   split at h
   ·rename_i x' hx'
    simp only[Option.some.injEq] at h
    subst h
    obtain⟨u,hu,hr⟩:=h4.get hx'
    refine⟨u,n,b,_,h1,h2,h3,hr,fun m hm=>h5 x' (List.mem_of_getElem? hx') m hm,hkind,fun w' hw'=>run_loadVar_one hd (by simpa using ha) (h7 w' hw' _ u hu)⟩
   ·cases h
 ·cases h

theorem q_load {t:TypeId}{x:Operand}(h:Pre C T H σ φ a w)(ho:o.op = .load t x)(hps:∀ p∈ps,p)(hq:quietS C T H o=some (ps,s,H')):QOut C T H o σ φ a w s H':=by
 simp only[quietS,ho] at hq
 split at hq
 ·rename_i r hr
  split at hq<;>try (cases hq;done)
  rename_i hh e ll
  split at hq<;>try (cases hq;done)
  rename_i d hd
  split at hq<;>try (cases hq;done)
  rename_i ha
  split at hq<;>try (cases hq;done)
  rename_i n i sz off hc
  simp only[Option.some.injEq,Prod.mk.injEq] at hq
  obtain⟨_,rfl,rfl⟩:=hq
  rw[hc] at hr
  unfold rowsOf at hr
  dsimp only at hr
  split at hr<;>try (cases hr;done)
  rename_i h1 e1 l1 hH
  split at hr<;>try (cases hr;done)
  rename_i hso
  obtain⟨rfl,rfl⟩:=hso
  simp only[Option.some.injEq,Chunk.rows.injEq] at hr
  obtain⟨rfl,rfl,hr⟩:=hr
  obtain rfl:=eq_of_heq hr
  have hx:=h.rel x
  rw[hc] at hx
  obtain⟨b,o',len,cap,h2,h3,h4⟩:=(show At.rel σ (.eptr n i 1 0) _ from hx)
  obtain⟨hz,⟨vs,hown,hR⟩,hf⟩:=h.sat.holds n _ hH
  have hil:len=l1.length/\i<l1.length:=by
   rcases hown.2 with ⟨e0,_⟩|⟨g,cap',cur,e0,_⟩
   ·rw[h2] at e0;cases e0
   ·rw[h2] at e0
    simp only[Value.slice.injEq] at e0
    omega
  obtain⟨u,hu,hI⟩:=hR.get (List.getElem?_eq_getElem hil.2)
  have hg:l1.getD i []=l1[i]:=by simp[List.getD_eq_getElem?_getD,List.getElem?_eq_getElem hil.2]
  rw[hg]
  refine⟨u,_,_,Grows.view h.ok h.sat (.row false e1 l1[i]) u (fun σ'=>⟨hI,fun _ h=>h⟩) rfl (fun b' hb'=>h.sat.imm n _ hH b' ⟨vs,hown,i,u,_,hu,List.getElem?_eq_getElem hil.2,hb'.1,hb'.2⟩),?_,?_,fun w' hw'=>?_⟩
  ·show u=_;simp
  ·intro m hm;simp[SV.names,TV.names,At.names] at hm;subst hm;simp
  ·have hn:readName T o=some n:=by
    unfold readName
    rw[ho];simp only[hc]
   have hob:(σ n).ownBlock=some b:=by rw[h2];rfl
   have hw:=hw' n hn b (.inr (.inr (.inr (.inl ⟨hob,_,_,_,hH,by omega⟩))))
   have hc':w'.cell? ⟨b,o'+i*1+0,none⟩=some u:=by
    rcases hown.2 with ⟨e0,_⟩|⟨g,cap',cur,e0,_,hg,hnc,_,hcs,htk⟩
    ·rw[h2] at e0;cases e0
    ·rw[h2] at e0
     simp only[Value.slice.injEq,Option.some.injEq,Addr.mk.injEq] at e0
     obtain⟨⟨rfl,rfl,_⟩,_,rfl⟩:=e0
     rw[cell_of_row w' b _ cur _ (0,0) (hw.trans hg)]
     rw[← htk,List.getElem?_take] at hu
     split at hu
     ·simpa using hu
     ·cases hu
   have hld:=run_loadVar_one (P:=C.P) (w:=w') hd ha hc'
   simp only[Nat.mul_one,Nat.add_zero] at hld
   simp[execOp,ho,Instr.loadAt,h4,Instr.sureAddr,hld]
 split at hq
 ·rename_i hr0 _ k l off hr
  unfold arrOf at hr
  split at hr<;>try (cases hr;done)
  rename_i n off' hc
  split at hr<;>try (cases hr;done)
  rename_i k' l' hH
  simp only[Option.some.injEq,Prod.mk.injEq] at hr
  obtain⟨rfl,rfl,rfl⟩:=hr
  have hx:=h.rel x
  rw[hc] at hx
  obtain⟨b,e1,e2⟩:=(show At.rel σ (.ptr n off') _ from hx)
  obtain⟨b',t',cs,e3,e4,e5,e6⟩:=h.sat.holds n _ hH
  rw[e1] at e3
  obtain rfl:b=b':=by simpa using e3
  split at hq<;>try (cases hq;done)
  rename_i d hd
  split at hq<;>try (cases hq;done)
  case h_2 =>
   rename_i ha
   split at hq<;>try (cases hq;done)
   rename_i i hi
   simp only[Option.some.injEq,Prod.mk.injEq] at hq
   obtain⟨rfl,rfl,rfl⟩:=hq
   have h0:(off':Int)=0:=hps _ (by simp)
   have hl:(l'.length:Int)=(i.size:Int):=hps _ (by simp)
   have h0:off'=0:=by omega
   have hl:l'.length=i.size:=by omega
   subst h0
   refine QOut.same h.sat (.agg (l'.map (Value.int k')).toArray) ⟨l'.map (Value.int k'),rfl,by simp,fun j a b ha hb=>?_⟩ (fun m hm=>?_) fun w' hw'=>?_
   ·rw[List.getElem?_map] at ha hb
    cases hj:l'[j]? with
    | none=>rw[hj] at ha;cases ha
    | some z=>rw[hj] at ha hb;simp only[Option.map_some,Option.some.injEq] at ha hb;rw[← ha,← hb];rfl
   ·simp only[SV.names,TV.names,List.mem_flatMap,List.mem_map] at hm
    obtain⟨_,⟨z,_,rfl⟩,hm⟩:=hm
    simp[At.names] at hm
   ·have hn:readName T o=some n:=by unfold readName;rw[ho];simp only[hc]
    have hw:=hw' n hn b (.inr (.inr (.inr (.inr ⟨e1,_,_,hH⟩))))
    have hld:=run_loadVar_agg (w:=w') (ad:=⟨b,0,none⟩) hd ha hi (l'.map (Value.int k')) (by simpa using hl) fun j u hu=>by
     rw[Addr.add_lit,Nat.zero_add,cell_of_row w' b j cs t' (0,0) (hw.trans e5)]
     have:cs[j]?=cs.toList[j]?:=by simp
     rw[this,e6];exact hu
    simp[execOp,ho,Instr.loadAt,e2,Instr.sureAddr,hld]
  rename_i ha
  simp only[Option.some.injEq,Prod.mk.injEq] at hq
  obtain⟨rfl,rfl,rfl⟩:=hq
  have hlt:off'<l'.length:=hps _ (by simp)
  refine QOut.same h.sat (.int k' (l'.getD off' 0)) rfl (by simp[vi,SV.names,TV.names,At.names]) fun w' hw'=>?_
  have hn:readName T o=some n:=by unfold readName;rw[ho];simp only[hc]
  have hw:=hw' n hn b (.inr (.inr (.inr (.inr ⟨e1,_,_,hH⟩))))
  have hcell:w'.cell? ⟨b,off',none⟩=some (.int k' (l'.getD off' 0)):=by
   rw[cell_of_row w' b off' cs t' (0,0) (hw.trans e5)]
   have:cs[off']?=cs.toList[off']?:=by simp
   rw[this,e6,List.getElem?_map,getD_some (d:=(0:Int)) hlt]
   rfl
  have hld:=run_loadVar_one (P:=C.P) (w:=w') hd ha hcell
  simp[execOp,ho,Instr.loadAt,e2,Instr.sureAddr,hld]
 simp only[Option.map_eq_some_iff,Prod.mk.injEq] at hq
 obtain⟨s',hl,_,rfl,rfl⟩:=hq
 obtain⟨u,n,b,ad,h1,h2,h3,h4,h5,h6,h7⟩:=loadS_sound h.ok h.sat (h.rel x) hl
 refine QOut.same h.sat u h4 h5 fun w' hw'=>?_
 have hn:readName T o=some n:=by
  unfold readName
  rw[ho]
  rcases h6 with ⟨i,k,e⟩|⟨i,j,sz,k,e⟩
  ·rw[e] at h1;simp[SV.names,TV.names,At.names] at h1;subst h1;simp[e]
  ·rw[e] at h1;simp[SV.names,TV.names,At.names] at h1;subst h1;simp[e]
 have:=h7 w' (hw' n hn b h3)
 simp[execOp,ho,Instr.loadAt,h2,Instr.sureAddr,this]

theorem idxM_has:∀ (l:List (Int × Int)) (k:Int),hasM l k=(idxM l k).isSome
 | [],_=>rfl
 | p::r,k=>by
  unfold hasM idxM
  by_cases h:p.1=k
  ·rw[if_pos h,if_pos h];rfl
  ·rw[if_neg h,if_neg h,idxM_has r k,Option.isSome_map]
theorem mapK_spec {t:TypeId}{kk vk:IntKind}(h:mapK C t=some (kk,vk)):∃ kt et,C.P.underlying t=some (.map kt et)/\C.P.underlying kt=some (.int kk)/\∀ w:World,(zeroValue et).run C.P w = .ok (.int vk 0) w:=by
 unfold mapK at h
 split at h<;>try (cases h;done)
 rename_i kt et ht
 split at h<;>try (cases h;done)
 rename_i a b i h1 h2 h3
 split at h<;>try (cases h;done)
 rename_i k z hz
 split at h<;>try (cases h;done)
 rename_i hc
 obtain⟨rfl,rfl⟩:=hc
 simp only[Option.some.injEq,Prod.mk.injEq] at h
 obtain⟨rfl,rfl⟩:=h
 exact⟨kt,et,ht,h1,fun w=>by simp[zeroValue,typeInfo,h3,hz]⟩
theorem findNow_map {kk vk:IntKind}(k:Int):∀ (es:List MapEntry) (l:List (Int × Int)) (i:Nat),es.map (fun e=>(e.key,e.val))=l.map (fun p=>(Value.int kk p.1,Value.int vk p.2)) →
  Instr.findNow (.int kk) (.int kk k) es i=some ((idxM l k).map fun j=>(i+j,.int vk (lookM l k)))
 | [],[],_,_=>rfl
 | [],_::_,_,h=>by simp at h
 | _::_,[],_,h=>by simp at h
 | e::es,p::l,i,h=>by
  simp only[List.map_cons,List.cons.injEq,Prod.mk.injEq] at h
  obtain⟨⟨h1,h2⟩,h3⟩:=h
  have ih:=findNow_map k es l (i+1) h3
  unfold Instr.findNow idxM lookM
  rw[h1,h2]
  by_cases c:p.1=k
  ·rw[if_pos c,if_pos c]
   simp[Instr.sameNow,c]
  ·rw[if_neg c,if_neg c]
   have c':(k==p.1)=false:=beq_false_of_ne fun e=>c e.symm
   simp only[Instr.sameNow,if_true,c',ih,Option.map_map]
   congr 2
   funext j
   simp
   omega
theorem q_lookup {t:TypeId}{x i:Operand}{ok:Bool}(h:Pre C T H σ φ a w)(ho:o.op = .lookup t x i ok)(hq:quietS C T H o=some (ps,s,H')):QOut C T H o σ φ a w s H':=by
 have hx:=h.rel x
 have hi:=h.rel i
 simp only[quietS,ho] at hq
 split at hq<;>try (cases hq;done)
 rename_i kk vk n k' j hm hc hci
 split at hq<;>try (cases hq;done)
 rename_i ka va l hH
 split at hq<;>try (cases hq;done)
 rename_i hk
 obtain⟨rfl,rfl,rfl⟩:=hk
 rw[hc] at hx
 rw[hci] at hi
 have ex:a.eval x=σ n:=hx
 have ei:a.eval i = .int k' j:=hi
 obtain⟨b,es,ck,e1,e2,e3,e4⟩:=h.sat.holds n _ hH
 obtain⟨kt,et,m1,m2,m3⟩:=mapK_spec hm
 have hn:readName T o=some n:=by unfold readName;rw[ho];simp only[hc]
 have hrun:∀ w':World,w'.heap[b]?=w.heap[b]?->(Instr.lookup t (.map (some b)) (.int k' j) ok).run C.P w' = .ok (if ok then .tuple #[.int va (lookM l j),.bool (hasM l j)] else .int va (lookM l j)) w':=fun w' hw'=>by
  have hb:=hw'.trans e3
  have hf:=findNow_map (kk:=k') (vk:=va) j es.toList l 0 e4
  have ck1:=MapKept.run_checkKey (P:=C.P) (w:=w') (kt:=kt) (k:=.int k' j) m2 (show MapKept.IsKey (.int k') (.int k' j) from rfl) es.isEmpty 9999
  have fk:=MapKept.run_findKey (P:=C.P) (w:=w') m2 hf
  rw[idxM_has]
  cases hj:idxM l j with
  | none =>
   have l0:lookM l j=0:=by
    have:∀ l:List (Int × Int),idxM l j=none->lookM l j=0:=by
     intro l
     induction l with
     | nil=>intro _;rfl
     | cons p r ih =>
      intro hl
      unfold idxM at hl
      unfold lookM
      split at hl
      ·cases hl
      ·rename_i c
       rw[if_neg c]
       exact ih (by simpa using hl)
    exact this l hj
   rw[hj] at fk
   simp[Instr.lookup,run_underlying m1,MapKept.run_getObj_map hb,ck1,fk,m3,Result.andThen,l0]
  | some q =>
   rw[hj] at fk
   simp[Instr.lookup,run_underlying m1,MapKept.run_getObj_map hb,ck1,fk,Result.andThen]
 cases ok with
 | true =>
  simp only[Option.some.injEq,Prod.mk.injEq] at hq
  obtain⟨_,rfl,rfl⟩:=hq
  refine QOut.same h.sat (.tuple #[.int va (lookM l j),.bool (hasM l j)]) ⟨_,rfl,Rels.cons rfl (Rels.cons rfl Rels.nil)⟩ (by simp[SV.names,TV.names,At.names]) fun w' hw'=>?_
  have:=hrun w' (hw' n hn b (.inr (.inr (.inl ⟨e1,_,_,_,hH⟩))))
  simp[execOp,ho,ex,ei,e1,this]
 | false =>
  simp only[Option.some.injEq,Prod.mk.injEq] at hq
  obtain⟨_,rfl,rfl⟩:=hq
  refine QOut.same h.sat (.int va (lookM l j)) rfl (by simp[vi,SV.names,TV.names,At.names]) fun w' hw'=>?_
  have:=hrun w' (hw' n hn b (.inr (.inr (.inl ⟨e1,_,_,_,hH⟩))))
  simp[execOp,ho,ex,ei,e1,this]

theorem q_fieldAddr {t:TypeId}{x:Operand}{f:Nat}(h:Pre C T H σ φ a w)(ho:o.op = .fieldAddr t x f)(hq:quietS C T H o=some (ps,s,H')):QOut C T H o σ φ a w s H':=by
 have hx:=h.rel x
 have nx:=h.nm x
 simp only[quietS,ho] at hq
 have key:∀ {d:Nat},fieldS C t f=some d->∀ (b k:Nat) w',(Instr.fieldAt t (.pointer (some ⟨b,k,none⟩)) f).run C.P w' = .ok (.pointer (some ⟨b,k+d,none⟩)) w':=by
  intro d hd b k w'
  unfold fieldS at hd
  split at hd<;>try (cases hd;done)
  rename_i fs hfs
  split at hd<;>try (cases hd;done)
  rename_i fd hfd
  split at hd<;>try (cases hd;done)
  rename_i i hi
  split at hd<;>try (cases hd;done)
  rename_i hz
  simp only[Option.some.injEq] at hd
  subst hd
  simp[Instr.fieldAt,run_underlying hfs,hfd,Instr.sureAddr,fieldPlace,run_sizeOf hi,hz,Addr.add_lit]
 split at hq<;>try (cases hq;done)
 ·rename_i d n k hd hc
  rw[hc] at hx nx
  simp only[Option.some.injEq,Prod.mk.injEq] at hq
  obtain⟨_,rfl,rfl⟩:=hq
  obtain⟨b,h1,h2⟩:=(show At.rel σ (.ptr n k) _ from hx)
  exact QOut.same h.sat (.pointer (some ⟨b,k+d,none⟩)) ⟨b,h1,rfl⟩ (by simpa [SV.names,TV.names,At.names] using nx) fun w' _=>by
   have:=key hd b k w'
   simp[execOp,ho,h2,this]
 ·rename_i d n i sz k hd hc
  rw[hc] at hx nx
  simp only[Option.some.injEq,Prod.mk.injEq] at hq
  obtain⟨_,rfl,rfl⟩:=hq
  obtain⟨b,o',len,cap,h1,h2,h3⟩:=(show At.rel σ (.eptr n i sz k) _ from hx)
  exact QOut.same h.sat (.pointer (some ⟨b,o'+i*sz+k+d,none⟩)) ⟨b,o',len,cap,h1,h2,by rw[Nat.add_assoc _ k d]⟩ (by simpa [SV.names,TV.names,At.names] using nx) fun w' _=>by
   have:=key hd b (o'+i*sz+k) w'
   simp[execOp,ho,h3,this]

theorem partS_sound {t:TypeId}{l:List At}{off n:Nat}{vs:List Value}(hr:Rels (At.rel σ) l vs)(hn:∀ c∈l,∀ m∈c.names,m<n)(h:partS C t l off=some s) :
  ∃ u,s.rel σ u/\(∀ m∈s.names,m<n)/\∀ (w':World),(part t vs.toArray off).run C.P w' = .ok u w':=by
 unfold partS at h
 split at h
 ·rename_i d i hd hi
  split at h
  ·rename_i ha
   split at h
   ·simp only[Option.some.injEq] at h
    subst h
    refine⟨.agg ((vs.drop off).take i.size).toArray,⟨_,rfl,(hr.drop off).take i.size⟩,names_sub hn,fun w'=>?_⟩
    simp[part,run_isAggD hd,ha,run_sizeOf hi]
   ·cases h
  ·rename_i ha
   split at h
   ·rename_i x' hx'
    simp only[Option.some.injEq] at h
    subst h
    obtain⟨u,hu,hr'⟩:=hr.get hx'
    exact⟨u,hr',fun m hm=>hn x' (List.mem_of_getElem? hx') m hm,fun w'=>by simp[part,run_isAggD hd,ha,hu]⟩
   ·cases h
 ·cases h

theorem q_field {t:TypeId}{x:Operand}{f:Nat}(h:Pre C T H σ φ a w)(ho:o.op = .field t x f)(hq:quietS C T H o=some (ps,s,H')):QOut C T H o σ φ a w s H':=by
 have hx:=h.rel x
 have nx:=h.nm x
 simp only[quietS,ho] at hq
 split at hq<;>try (cases hq;done)
 rename_i fs l hfs hc
 split at hq<;>try (cases hq;done)
 rename_i fd hfd
 simp only[Option.map_eq_some_iff,Prod.mk.injEq] at hq
 obtain⟨s',hp,_,rfl,rfl⟩:=hq
 rw[hc] at hx nx
 obtain⟨vs,e,hr⟩:=(show TV.rel σ (.agg l) _ from hx)
 obtain⟨u,h1,h2,h3⟩:=partS_sound hr (fun c hc m hm=>nx m (List.mem_flatMap.2 ⟨c,hc,hm⟩)) hp
 exact QOut.same h.sat u h1 h2 fun w' _=>by simp[execOp,ho,e,Instr.field,run_underlying hfs,hfd,asAgg,h3 w']

theorem q_index {t:TypeId}{x i:Operand}(h:Pre C T H σ φ a w)(ho:o.op = .index t x i)(hps:∀ p∈ps,p)(hq:quietS C T H o=some (ps,s,H')):QOut C T H o σ φ a w s H':=by
 have hx:=h.rel x
 have nx:=h.nm x
 have hi:=h.rel i
 simp only[quietS,ho] at hq
 split at hq<;>try (cases hq;done)
 case h_2 =>
  rename_i s0 k0 j0 hd hc hci
  simp only[Option.map_eq_some_iff,Prod.mk.injEq] at hq
  obtain⟨v,hp,_,rfl,rfl⟩:=hq
  have e1:valOf (opnd T x)=some (.string s0):=by rw[hc];rfl
  have e2:valOf (opnd T i)=some (.int k0 j0):=by rw[hci];rfl
  exact QOut.pure_ h hp (by unfold execOp;rw[ho];simp only[e1,e2,Option.getD_some,h.val e1,h.val e2])
 rename_i n e l k j hd hc hci
 split at hq<;>try (cases hq;done)
 rename_i ei hei
 simp only[Option.map_eq_some_iff,Prod.mk.injEq] at hq
 obtain⟨s',hp,rfl,rfl,rfl⟩:=hq
 rw[hc] at hx nx
 rw[hci] at hi
 have hj0:0<=j:=hps _ (by simp)
 have hj1:j<(n:Int):=hps _ (by simp)
 have ei':a.eval i = .int k j:=hi
 obtain⟨vs,e',hr⟩:=(show TV.rel σ (.agg l) _ from hx)
 obtain⟨u,h1,h2,h3⟩:=partS_sound hr (fun c hc m hm=>nx m (List.mem_flatMap.2 ⟨c,hc,hm⟩)) hp
 exact QOut.same h.sat u h1 h2 fun w' _=>by
  have:=h3 w'
  simp[execOp,ho,e',ei',Instr.index,asIntOf,run_underlying hd,hj0,hj1,run_sizeOf hei,this]

theorem elemEC_spec (hC:C.OK){t:TypeId}{e:C.EC}(h:elemEC C t=some e):C.P.underlying t=some (.slice (C.tid e)):=by
 unfold elemEC at h
 split at h
 ·rename_i x hx
  rw[hx,hC.byT _ _ h]
 ·cases h

theorem q_indexAddr {t:TypeId}{x i:Operand}(h:Pre C T H σ φ a w)(ho:o.op = .indexAddr t x i)(hps:∀ p∈ps,p)(hq:quietS C T H o=some (ps,s,H')):QOut C T H o σ φ a w s H':=by
 have hx:=h.rel x
 have nx:=h.nm x
 have hi:=h.rel i
 simp only[quietS,ho] at hq
 split at hq<;>try (cases hq;done)
 ·rename_i n k j hc hci
  split at hq<;>try (cases hq;done)
  case h_2 =>
   rename_i hh e ll e' hH he
   split at hq<;>try (cases hq;done)
   rename_i hee hdq
   subst hee
   simp only[Option.some.injEq,Prod.mk.injEq] at hq
   obtain⟨rfl,rfl,rfl⟩:=hq
   rw[hc] at hx nx
   rw[hci] at hi
   have hj0:0<=j:=hps _ (by simp)
   have hj1:j<(ll.length:Int):=hps _ (by simp)
   have ei':a.eval i = .int k j:=hi
   have ex:a.eval x=σ n:=hx
   obtain⟨hz,⟨vs,hown,hR⟩,hf⟩:=h.sat.holds n _ hH
   obtain⟨ti,z,hti,_,hsz,_⟩:=h.ok.info e'
   rcases hown.2 with ⟨_,e0⟩|⟨g,cap,cur,h4,_⟩
   ·omega
   ·refine QOut.same h.sat (.pointer (some ⟨g,0+j.toNat*1+0,none⟩)) ⟨g,0,_,_,h4,by omega,rfl⟩ (by simpa [SV.names,TV.names,At.names] using nx) fun w' _=>?_
    simp[execOp,ho,ei',ex,h4,Instr.indexAt,asIntOf,run_underlying (elemEC_spec h.ok he),hj0,hj1,run_sizeOf hti,hsz,hz,Addr.add_lit]
  rename_i own e l e' hH he
  split at hq<;>try (cases hq;done)
  rename_i hee hdq
  subst hee
  simp only[Option.some.injEq,Prod.mk.injEq] at hq
  obtain⟨rfl,rfl,rfl⟩:=hq
  rw[hc] at hx nx
  rw[hci] at hi
  have hj0:0<=j:=hps _ (by simp)
  have hj1:j<(l.length:Int):=hps _ (by simp)
  have ei':a.eval i = .int k j:=hi
  have ex:a.eval x=σ n:=hx
  obtain⟨A,c,h4,h5⟩:=(h.sat.holds n _ hH).rd h.ok
  obtain⟨b,o',rfl,_,_⟩:=h5.get (by omega)
  obtain⟨ti,z,hti,_,hsz,_⟩:=h.ok.info e'
  refine QOut.same h.sat (.pointer (some ⟨b,o'+j.toNat*C.sz e'+0,none⟩)) ⟨b,o',_,_,h4,by omega,rfl⟩ (by simpa [SV.names,TV.names,At.names] using nx) fun w' _=>?_
  simp[execOp,ho,ei',ex,h4,Instr.indexAt,asIntOf,run_underlying (elemEC_spec h.ok he),hj0,hj1,run_sizeOf hti,hsz,Addr.add_lit]
 ·rename_i n k kd j hc hci
  split at hq<;>try (cases hq;done)
  rename_i m e hd
  split at hq<;>try (cases hq;done)
  rename_i ei hei
  simp only[Option.some.injEq,Prod.mk.injEq] at hq
  obtain⟨rfl,rfl,rfl⟩:=hq
  rw[hc] at hx nx
  rw[hci] at hi
  have hj0:0<=j:=hps _ (by simp)
  have hj1:j<(m:Int):=hps _ (by simp)
  have ei':a.eval i = .int kd j:=hi
  obtain⟨b,h1,h2⟩:=hx
  have ex:a.eval x = .pointer (some ⟨b,k,none⟩):=h2
  refine QOut.same h.sat (.pointer (some ⟨b,k+j.toNat*ei.size,none⟩)) ⟨b,h1,rfl⟩ (by simpa [SV.names,TV.names,At.names] using nx) fun w' _=>?_
  simp[execOp,ho,ei',ex,Instr.indexAt,Instr.sureAddr,asIntOf,run_underlying hd,hj0,hj1,run_sizeOf hei,Addr.add_lit]

theorem q_extract {x:Operand}{k:Nat}(h:Pre C T H σ φ a w)(ho:o.op = .extract x k)(hq:quietS C T H o=some (ps,s,H')):QOut C T H o σ φ a w s H':=by
 have hx:=h.rel x
 have nx:=h.nm x
 simp only[quietS,ho] at hq
 split at hq<;>try (cases hq;done)
 rename_i l hc
 simp only[Option.map_eq_some_iff,Prod.mk.injEq] at hq
 obtain⟨y,hy,_,rfl,rfl⟩:=hq
 rw[hc] at hx nx
 obtain⟨vs,e,hr⟩:=hx
 obtain⟨u,hu,hru⟩:=hr.get hy
 exact QOut.same h.sat u hru (fun m hm=>nx m (List.mem_flatMap.2 ⟨y,List.mem_of_getElem? hy,hm⟩)) fun w' _=>by simp[execOp,ho,e,Instr.extract,hu]

theorem caps_sound:∀ {l:List SV} {cs:List Nat} {vs:List Value},caps l=some cs->Rels (SV.rel σ) l vs->vs=cs.map σ/\(∀ c∈cs,∃ b,σ c = .pointer (some ⟨b,0,none⟩))/\∀ n,(∀ s∈l,∀ m∈s.names,m<n)->∀ c∈cs,c<n:=by
 intro l
 induction l with
 | nil=>intro cs vs h hr;simp[caps] at h;subst h;exact⟨List.eq_nil_of_length_eq_zero hr.1.symm,by simp,by simp⟩
 | cons x l ih =>
  intro cs vs h hr
  unfold caps at h
  split at h
  ·cases ‹_::_=[]›
  ·rename_i n t heq
   obtain⟨rfl,rfl⟩:x = .one (.at (.ptr n 0))/\l=t:=by simpa using heq
   simp only[Option.map_eq_some_iff] at h
   obtain⟨cs',h1,rfl⟩:=h
   match vs,hr with
   | [],hr=>exact absurd hr.1 (by simp)
   | v::vs,hr =>
    obtain⟨b,e1,e2⟩:=(show At.rel σ (.ptr n 0) v from hr.2 0 _ _ rfl rfl)
    obtain⟨e3,e5,e4⟩:=ih h1 (vs:=vs) ⟨by simpa using hr.1,fun i x y hx hy=>hr.2 (i+1) x y (by simpa using hx) (by simpa using hy)⟩
    refine⟨by rw[e3,e2,List.map_cons,e1],fun c hc=>?_,fun k hk c hc=>?_⟩
    ·rcases List.mem_cons.1 hc with rfl|hc
     ·exact⟨b,e1⟩
     ·exact e5 c hc
    rcases List.mem_cons.1 hc with rfl|hc
    ·exact hk (.one (.at (.ptr c 0))) (by simp) c (by simp[SV.names,TV.names,At.names])
    ·exact e4 k (fun s hs=>hk s (by simp[hs])) c hc
  ·cases h

theorem rels_map_eval (h:Pre C T H σ φ a w)(l:List Operand):Rels (SV.rel σ) (l.map (opnd T)) (l.map a.eval) :=
 ⟨by simp,fun i x y hx hy=>by
  rw[List.getElem?_map] at hx hy
  cases hl:l[i]? with
  | none=>rw[hl] at hx;cases hx
  | some p=>rw[hl] at hx hy;simp at hx hy;subst hx hy;exact h.rel p⟩

theorem q_makeFunc {fn:Fn}{fs cs:Array Operand}(h:Pre C T H σ φ a w)(ho:o.op = .makeFunc fn fs cs)(hq:quietS C T H o=some (ps,s,H')):QOut C T H o σ φ a w s H':=by
 cases fn<;>try (simp[quietS,ho] at hq;done)
 rename_i f
 simp only[quietS,ho] at hq
 split at hq<;>try (cases hq;done)
 rename_i hfs
 simp only[Option.map_eq_some_iff,Prod.mk.injEq] at hq
 obtain⟨l,hl,_,rfl,rfl⟩:=hq
 obtain⟨e1,e5,e2⟩:=caps_sound hl (rels_map_eval h cs.toList)
 refine QOut.same h.sat (.func (.func f) #[] (l.map σ).toArray) ⟨rfl,e5⟩ (fun m hm=>?_) fun w' _=>?_
 ·simp[SV.names,TV.names,At.names] at hm
  refine e2 H.length (fun s hs m hm=>?_) m hm
  obtain⟨x,_,rfl⟩:=List.mem_map.1 hs
  exact h.nm x m hm
 ·have e3:fs=#[]:=Array.ext' (by simpa using hfs)
  have e4:cs.map a.eval=(l.map σ).toArray:=by
   apply Array.ext'
   simp[← e1]
  rw[← e4]
  simp[execOp,ho,Instr.makeFunc,e3]
end
end Go.Proofs.YtedfbafngmicpaaGreat.Sx
end
