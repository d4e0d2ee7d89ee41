/- The symbolic run is sound: the other quiet operations. No program in sight. -/
import Derived.Test.YtedfbafngmicpaaGreatG0
noncomputable section
open Go.Value renaming int → Zm
section
namespace Go.Proofs.YtedfbafngmicpaaGreat

section
variable {α:Type} (key:α->Int)

def Srt (l:List α):Prop:=l.Pairwise (fun a b=>key a<key b)
def fnd (l:List α)(k:Int):Option α:=l.find? (fun a=>decide (key a=k))

variable {key}
theorem Srt.nil:Srt key []:=List.Pairwise.nil
theorem Srt.tail {x:α}{l:List α}(h:Srt key (x::l)):Srt key l:=(ZaT.1 h).2
theorem Srt.head {x:α}{l:List α}(h:Srt key (x::l)):∀ y∈l,key x<key y:=(ZaT.1 h).1
theorem Srt.cons {x:α}{l:List α}(h:Srt key l)(hx:∀ y∈l,key x<key y):Srt key (x::l):=ZaT.2 ⟨hx,h⟩

theorem Ymc (k:Int):fnd key ([]:List α) k=none:=rfl
theorem YY (x:α)(l:List α)(k:Int):fnd key (x::l) k=if key x=k then some x else fnd key l k:=by
 unfold fnd
 by_cases h:key x=k<;>simp[h]
theorem Ydw (l m:List α)(k:Int):fnd key (l++m) k=(fnd key l k).or (fnd key m k):=by
 unfold fnd;rw[List.find?_append]
theorem YiK {l:List α}{k:Int}{x:α}(h:fnd key l k=some x):key x=k:=by
 have:=List.find?_some h;simpa using this
theorem Ymd {l:List α}{k:Int}{x:α}(h:fnd key l k=some x):x∈l:=List.mem_of_find?_eq_some h
theorem YjP {l:List α}{k:Int}:fnd key l k=none↔∀ x∈l,key x≠k:=by
 unfold fnd;rw[List.find?_eq_none];simp
theorem YbG {l:List α}{k:Int}(h:∀ x∈l,k<key x):fnd key l k=none:=YjP.2 fun x hx=>by have:=h x hx;omega
theorem Yhw {l:List α}{k:Int}(h:∀ x∈l,key x<k):fnd key l k=none:=YjP.2 fun x hx=>by have:=h x hx;omega

theorem Srt.ext {l m:List α}(hl:Srt key l)(hm:Srt key m)(h:∀ k,fnd key l k=fnd key m k):l=m:=by
 induction l generalizing m with
 | nil =>
  cases m with
  | nil=>rfl
  | cons y t=>have:=h (key y);rw[Ymc,YY,Zj rfl] at this;cases this
 | cons x t ih =>
  cases m with
  | nil=>have:=h (key x);rw[Ymc,YY,Zj rfl] at this;cases this
  | cons y s =>
   have hxy:key x=key y:=by
    rcases Zcf (key x) (key y) with c|c|c
    .have:=h (key x);rw[YY,Zj rfl,YY,Zf (by omega),YbG (fun z hz=>by have:=hm.head z hz;omega)] at this;cases this
    .exact c
    .have:=h (key y);rw[YY,Zf (by omega),YbG (fun z hz=>by have:=hl.head z hz;omega),YY,Zj rfl] at this;cases this
   have e1:x=y:=by
    have:=h (key x);rw[YY,Zj rfl,YY,Zj hxy.symm] at this;exact Zai this
   subst e1
   congr 1
   refine ih hl.tail hm.tail fun k=>?_
   have:=h k;rw[YY,YY] at this
   by_cases hk:key x=k
   .subst hk;rw[YbG hl.head,YbG hm.head]
   .rw[Zf hk,Zf hk] at this;exact this

theorem Srt.append {l m:List α}(hl:Srt key l)(hm:Srt key m)(h:∀ x∈l,∀ y∈m,key x<key y):Srt key (l++m) :=
 ZaG.2 ⟨hl,hm,h⟩
theorem Srt.left {l m:List α}(h:Srt key (l++m)):Srt key l:=(ZaG.1 h).1
theorem Srt.right {l m:List α}(h:Srt key (l++m)):Srt key m:=(ZaG.1 h).2.1
theorem Srt.filter {l:List α}(h:Srt key l)(p:α->Bool):Srt key (l.filter p):=List.Pairwise.filter p h
theorem Srt.take {l:List α}(h:Srt key l)(n:Nat):Srt key (l.take n):=List.Pairwise.sublist (List.take_sublist _ _) h
theorem Srt.drop {l:List α}(h:Srt key l)(n:Nat):Srt key (l.drop n):=List.Pairwise.sublist (List.drop_sublist _ _) h

end

section
variable {α β:Type} (ka:α->Int) (kb:β->Int)

def Ybs:List α->List β->List (Option α × Option β)
 | [],[]=>[]
 | [],y::m=>(none,some y)::Ybs [] m
 | x::l,[]=>(some x,none)::Ybs l []
 | x::l,y::m=>if ka x<kb y then (some x,none)::Ybs l (y::m) else if kb y<ka x then (none,some y)::Ybs (x::l) m else (some x,some y)::Ybs l m
termination_by l m=>l.length+m.length

variable {ka kb}
end
abbrev Ent:=Int × Int
abbrev Asc (l:LE):Prop:=Srt Prod.fst l

def getE:LE->Int->Option Int
 | [],_=>none
 | (k,v)::t,q=>if k=q then some v else getE t q

theorem Ycb (l:LE)(q:Int):getE l q=(fnd Prod.fst l q).map Prod.snd:=by
 induction l with
 | nil=>rfl
 | cons x t ih =>
  obtain⟨k,v⟩:=x;rw[YY];simp only[getE];split<;>simp[ih]

theorem YjQ (l:LE)(q:Int):fnd Prod.fst l q=(getE l q).map fun v=>(q,v):=by
 rw[Ycb];cases h:fnd Prod.fst l q with
 | none=>rfl
 | some x=>have:=YiK h;simp[<-this]

theorem Asc.ext {l m:LE}(hl:Asc l)(hm:Asc m)(h:∀ q,getE l q=getE m q):l=m :=
 Srt.ext (key:=Prod.fst) hl hm fun q=>by rw[YjQ,YjQ,h]

instance (l:LE):Decidable (Asc l):=inferInstanceAs (Decidable (List.Pairwise (fun a b:Ent=>a.1<b.1) l))
def ascB (l:LE):Bool:=decide (Asc l)

end Go.Proofs.YtedfbafngmicpaaGreat
end
section
namespace Go.Proofs.YtedfbafngmicpaaGreat
open Go.RowKit

structure Rd {α:Type} (f:α->List Value) (sz:Nat) (w:World) (A:Option Addr) (n c:Nat) (l:List α):Prop where
 len:n=l.length
 cap:n<=c
 max:c<=maxLen
 row:∀ x,(f x).length=sz
 nul:A=none->c=0
 get:0<n->∃ b o,A=some ⟨b,o,none⟩/\b<w.heap.size/\∀ k x,l[k]?=some x->∀ j u,(f x)[j]?=some u->w.cell? ⟨b,o+k*sz+j,none⟩=some u

section
variable {α:Type} {f:α->List Value} {sz:Nat} {w w':World} {A:Option Addr} {n c:Nat} {l:List α}

theorem Rd.at_ (h:Rd f sz w A n c l){k:Nat}{x:α}(hx:l[k]?=some x):∃ b o,A=some ⟨b,o,none⟩/\b<w.heap.size/\∀ j u,(f x)[j]?=some u->w.cell? ⟨b,o+k*sz+j,none⟩=some u:=by
 have hk:k<l.length:=by
  rcases Zad k l.length with h1|h1
  .exact h1
  .rw[ZV h1] at hx;cases hx
 obtain⟨b,o,hA,hb,hc⟩:=h.get (by rw[h.len];omega);exact⟨b,o,hA,hb,hc k x hx⟩

theorem Rd.keep (h:Rd f sz w A n c l)(hs:w.heap.size<=w'.heap.size)(hk:∀ b o,b<w.heap.size->w'.cell? ⟨b,o,none⟩=w.cell? ⟨b,o,none⟩):Rd f sz w' A n c l :=
 ⟨h.len,h.cap,h.max,h.row,h.nul,fun hn=>by
  obtain⟨b,o,hA,hb,hc⟩:=h.get hn;exact⟨b,o,hA,by omega,fun k x hx j u hu=>(hk _ _ hb).trans (hc k x hx j u hu)⟩⟩

theorem Rd.below (h:Rd f sz w A n c l)(hb:Below w.heap.size w w'):Rd f sz w' A n c l :=
 h.keep hb.size fun _ _ hlt=>hb.cell (by exact hlt)

theorem Rd.nil (hr:∀ x,(f x).length=sz):Rd f sz w none 0 0 []:=⟨rfl,by omega,by unfold maxLen;omega,hr,fun _=>rfl,fun h=>absurd h (by omega)⟩
end

def Own {α:Type}(f:α->List Value)(sz:Nat)(e:TypeId)(w:World)(B:Nat)(v:Value)(l:List α):Prop :=
 (∀ x,(f x).length=sz)/\w.ownsRow B e sz v l.length (l.flatMap f)

section
variable {α:Type} {f:α->List Value} {sz:Nat} {e:TypeId} {w w':World} {B:Nat} {v:Value} {l:List α}

theorem YiL (hr:∀ x,(f x).length=sz)(l:List α):(l.flatMap f).length=l.length*sz:=by
 induction l with
 | nil=>simp
 | cons x t ih=>simp[ih,hr x,ZbA,Nat.add_comm]

theorem YfZ (hr:∀ x,(f x).length=sz):∀ (l:List α) (k:Nat) (x:α),l[k]?=some x->∀ j u,(f x)[j]?=some u->(l.flatMap f)[k*sz+j]?=some u:=by
 intro l
 induction l with
 | nil=>intro k x hx;simp at hx
 | cons y t ih =>
  intro k x hx j u hu;rw[Zab];cases k with
  | zero =>
   simp at hx;subst hx;have hj:j<(f y).length:=(Zt.1 hu).1;rw[Nat.zero_mul,ZaM,ZB hj];exact hu
  | succ k =>
   simp at hx;have:=ih k x hx j u hu;rw[ZU (by rw[hr y,ZbA];omega),hr y,<-this]
   congr 1
   rw[ZbA];omega

theorem Own.nil (hr:∀ x,(f x).length=sz):Own f sz e w B (.slice none 0 0) ([]:List α):=⟨hr,Zcg _ _ _ _⟩

theorem Own.form (h:Own f sz e w B v l):∃ A c,v = .slice A l.length c/\Rd f sz w A l.length c l/\(∀ a,A=some a->B<=a.block):=by
 obtain⟨hr,hlen,h⟩:=h;rcases h with ⟨rfl,h0⟩|⟨g,cap,cur,rfl,hg,hh,hn,hm,hsz,htk⟩
 .have hnil:l=[]:=ZM h0;subst hnil;exact⟨none,0,rfl,Rd.nil hr,fun _ h=>by cases h⟩
 .refine⟨some ⟨g,0,none⟩,cap,rfl,⟨rfl,hn,hm,hr,fun h=>(by cases h),fun hpos=>⟨g,0,rfl,?_,?_⟩⟩,fun a h=>by cases h;exact hg⟩
  .rcases Zad g w.heap.size with h1|h1
   .exact h1
   .rw[ZbH h1] at hh;cases hh
  .intro k x hx j u hu;have h1:=YfZ hr l k x hx j u hu;rw[<-htk,Zae] at h1;rw[cell_of_row w g _ cur e _ hh];split at h1
   .rw[<-h1,ZaR];simp
   .cases h1

theorem Own.rd {A:Option Addr}{n c:Nat}(h:Own f sz e w B (.slice A n c) l):n=l.length/\Rd f sz w A n c l:=by
 obtain⟨A',c',hv,hrd,_⟩:=h.form;injection hv with h1 h2 h3
 subst h1 h2 h3;exact⟨rfl,hrd⟩

theorem Own.ge (h:Own f sz e w B v l):∀ k,v.ownBlock=some k->B<=k/\k<w.heap.size:=h.2.lt

theorem Own.keep (h:Own f sz e w B v l)(hk:∀ b,B<=b->b<w.heap.size->w'.heap[b]?=w.heap[b]?):Own f sz e w' B v l:=by
 obtain⟨hr,hlen,h⟩:=h;refine⟨hr,hlen,?_⟩;rcases h with h|⟨g,cap,cur,hv,hg,hh,rest⟩
 .exact .inl h
 .have hlt:g<w.heap.size:=by
   rcases Zad g w.heap.size with h1|h1
   .exact h1
   .rw[ZbH h1] at hh;cases hh
  exact .inr ⟨g,cap,cur,hv,hg,(hk g hg hlt).trans hh,rest⟩

theorem Own.below (h:Own f sz e w B v l)(hb:Below w.heap.size w w'):Own f sz e w' B v l:=h.keep fun b _ hlt=>hb.block b hlt
theorem Own.drew (h:Own f sz e w B v l):Own f sz e w.drew B v l:=h
theorem Own.alloc (h:Own f sz e w B v l)(o:Obj):Own f sz e (w.alloc o) B v l:=h.below ((Below.refl _ _).alloc (Zw _) o)
theorem Own.mono {B':Nat}(h:Own f sz e w B v l)(hB:B'<=B):Own f sz e w B' v l:=by
 obtain⟨hr,hlen,h⟩:=h;refine⟨hr,hlen,?_⟩;rcases h with h|⟨g,cap,cur,hv,hg,rest⟩
 .exact .inl h
 .exact .inr ⟨g,cap,cur,hv,by omega,rest⟩
end

theorem Rd.cut {α:Type}{f:α->List Value}{sz:Nat}{w:World}{A:Option Addr}{n c:Nat}{l:List α}(h:Rd f sz w A n c l){k:Nat}(hk:k<=n) :
  Rd f sz w (if c=k then A else A.map (·.add (k*sz))) (n-k) (c-k) (l.drop k):=by
 have hc:=h.cap;refine⟨by rw[Zy,h.len],by omega,by have:=h.max;omega,h.row,fun hA=>?_,fun hn=>?_⟩
 .by_cases e:c=k
  .omega
  .rw[Zf e] at hA;have:A=none:=by cases A<;>simp_all
   have:=h.nul this;omega
 .obtain⟨b,o,rfl,hb,hcell⟩:=h.get (by omega);rw[Zf (by omega)];refine⟨b,o+k*sz,by simp[ZaU],hb,fun j x hx i u hu=>?_⟩;rw[ZaV] at hx;have:=hcell (k+j) x hx i u hu;rw[ZcF] at this;rw[show o+k*sz+j*sz+i=o+(k*sz+j*sz)+i by omega];exact this

theorem Rd.head {α:Type}{f:α->List Value}{sz:Nat}{w:World}{A:Option Addr}{n c:Nat}{l:List α}(h:Rd f sz w A n c l){k:Nat}(hk:k<=n) :
  Rd f sz w A k c (l.take k):=by
 have hc:=h.cap;refine⟨by rw[ZG,<-h.len];omega,by omega,h.max,h.row,h.nul,fun hn=>?_⟩;obtain⟨b,o,rfl,hb,hcell⟩:=h.get (by omega);refine⟨b,o,rfl,hb,fun j x hx i u hu=>hcell j x ?_ i u hu⟩;rw[Zae] at hx;split at hx
 .exact hx
 .cases hx

end Go.Proofs.YtedfbafngmicpaaGreat
end
namespace Go.Proofs.YtedfbafngmicpaaGreat.Sx
open Go
section
def ownR (w:World)(e:TypeId)(sz:Nat)(v:Value)(n:Nat)(xs:List Value):Prop :=
 xs.length=n*sz ∧
 ((v = .slice none 0 0/\n=0) ∨
  ∃ g cap cur fz,v = .slice (some ⟨g,0,none⟩) n cap/\w.heap[g]?=some (.cells cur e fz)/\(fz=(0,0)∨cur.size<=fz.1)/\n<=cap/\cap<=maxLen/\cur.size=cap*sz/\cur.toList.take (n*sz)=xs)

section
variable {w w':World} {e:TypeId} {sz n:Nat} {v:Value} {xs:List Value}

theorem ownR.of (h:w.ownsRow 0 e sz v n xs):ownR w e sz v n xs:=by
 refine⟨h.1,?_⟩;rcases h.2 with h2|⟨g,cap,cur,h1,_,h2,rest⟩
 .exact .inl h2
 .exact .inr ⟨g,cap,cur,(0,0),h1,h2,.inl rfl,rest⟩
theorem ownR.nil (w:World)(e:TypeId)(sz:Nat):ownR w e sz (.slice none 0 0) 0 []:=.of (Zcg _ _ _ _)
theorem ownR.lt (h:ownR w e sz v n xs)(k:Nat)(hk:v.ownBlock=some k):k<w.heap.size:=by
 rcases h.2 with ⟨rfl,_⟩|⟨g,cap,cur,fz,rfl,hg,_⟩
 .simp[Value.ownBlock] at hk
 .simp[Value.ownBlock] at hk;subst hk;exact (Zak.1 hg).1
theorem ownR.keep (h:ownR w e sz v n xs)(hb:∀ b,v.ownBlock=some b->w'.heap[b]?=w.heap[b]?):ownR w' e sz v n xs:=by
 refine⟨h.1,?_⟩;rcases h.2 with h2|⟨g,cap,cur,fz,rfl,hg,rest⟩
 .exact .inl h2
 .exact .inr ⟨g,cap,cur,fz,rfl,(hb g rfl).trans hg,rest⟩
theorem ownR.cells (h:ownR w e sz v n xs){g:Nat}(hg:v.ownBlock=some g):∀ (j:Nat) (u:Value),xs[j]?=some u->w.cell? ((⟨g,0,none⟩:Addr).add j)=some u:=by
 intro j u hu;rcases h.2 with ⟨rfl,_⟩|⟨g',cap,cur,fz,rfl,hgg,_,_,_,_,htake⟩
 .simp[Value.ownBlock] at hg
 .simp[Value.ownBlock] at hg;subst hg;have hadd:(⟨g',0,none⟩:Addr).add j=⟨g',j,none⟩:=by unfold Addr.add;split<;>simp_all
  rw[hadd,cell_of_row w g' j cur e fz hgg];rw[<-htake,Zae] at hu;split at hu
  .simpa using hu
  .cases hu
theorem ownR.form {α:Type}{f:α->List Value}{l:List α}(hr:∀ x,(f x).length=sz)(h:ownR w e sz v l.length (l.flatMap f)):∃ A c,v = .slice A l.length c/\Rd f sz w A l.length c l:=by
 rcases h.2 with ⟨rfl,h0⟩|⟨g,cap,cur,fz,rfl,hh,_,hn,hm,hsz,htk⟩
 .have hnil:l=[]:=ZM h0;subst hnil;exact⟨none,0,rfl,Rd.nil hr⟩
 .refine⟨some ⟨g,0,none⟩,cap,rfl,⟨rfl,hn,hm,hr,fun h=>(by cases h),fun hpos=>⟨g,0,rfl,(Zak.1 hh).1,?_⟩⟩⟩;intro k x hx j u hu;have h1:=YfZ hr l k x hx j u hu;rw[<-htk,Zae] at h1;rw[cell_of_row w g _ cur e _ hh];split at h1
  .rw[<-h1,ZaR];simp
  .cases h1
end

theorem YbH (P:Program)(g o:Nat)(t:TypeId)(fz:Nat × Nat):∀ (vs:List Value) (i:Nat) (cur:Array Value) (w:World),w.heap[g]?=some (.cells cur t fz)->(fz=(0,0)∨cur.size<=fz.1)->o+i+vs.length<=cur.size->(∀ v∈vs,v.oneCell'=true) →
  (storeCells ⟨g,o,none⟩ vs i).run P w = .ok () (w.setRow g (cur.toList.take (o+i)++vs++cur.toList.drop (o+i+vs.length)).toArray)
 | [],i,cur,w,hg,_,_,_=>by
  simp only[storeCells,ZR,ZbE,Zbb,Zaw,Array.toArray_toList];rw[setRow_self w g cur t fz hg]
  rfl
 | v::rest,i,cur,w,hg,hfz,hl,h1=>by
  have hi:o+i<cur.size:=by simp at hl;omega
  have hadd:(⟨g,o,none⟩:Addr).add i=⟨g,o+i,none⟩:=by unfold Addr.add;split<;>simp_all
  have hcell:w.cell? ⟨g,o+i,none⟩=some cur[o+i]:=by simp[World.cell?,hg,hi]
  have hfro:w.frozen? ⟨g,o+i,none⟩=false:=by
   obtain⟨lo,hi'⟩:=fz;simp only[World.frozen?,hg,Bool.and_eq_false_iff,ZbD];rcases hfz with e|e
   .right;injection e with e1 e2;omega
   .left;simp only at e;omega
  have hst:(store ((⟨g,o,none⟩:Addr).add i) v).run P w = .ok () (w.setRow g (cur.setIfInBounds (o+i) v)):=by
   rw[hadd,run_store P w _ v _ (h1 v (by simp)),hcell];simp[hfro,setCell_eq_setRow w g (o+i) cur t fz v hg]
  have ih:=YbH P g o t fz rest (i+1) (cur.setIfInBounds (o+i) v) (w.setRow g (cur.setIfInBounds (o+i) v)) (setRow_heap w g cur _ t _ hg) (by simpa using hfz) (by simp at hl ⊢;omega) (fun x hx=>h1 x (by simp[hx]));simp only[storeCells,Zag,hst,Zax,ih,setRow_setRow]
  congr 3
  have e:=list_seg_step cur.toList (o+i) v rest (by simp at hl ⊢;omega)
  simpa [ZbO,Zcl] using e

section
variable {P:Program} {w:World}

theorem Yga (t ty e:TypeId)(i:TypeInfo)(sz:Nat)(ht:P.underlying t=some (.slice e))(hi:P.info? e=some i)(v:Value)(n:Nat)(xs:List Value)(h:ownR w e sz v n xs) :
  (Builtin.append_ #[t,t] ty #[v,.slice none 0 0]).run P w = .ok v w:=by
 rcases h.2 with ⟨rfl,rfl⟩|⟨g,cap,cur,fz,rfl,hg,hf,hnc,rest⟩
 .exact run_append_owned_none (P:=P) (w:=w) 0 t ty e i sz ht hi _ 0 [] (Zcg _ _ _ _)
 .simp[Builtin.append_,run_underlying ht,sizeOf,typeInfo,hi,Builtin.lenOf,hnc,Builtin.firstCells,storeCells]

theorem Ygb (t ty e:TypeId)(i:TypeInfo)(ht:P.underlying t=some (.slice e))(hi:P.info? e=some i)(g sLen sCap:Nat)(cur:Array Value)(fz:Nat × Nat)(hg:w.heap[g]?=some (.cells cur e fz))(hfz:fz=(0,0)∨cur.size<=fz.1)(a:Addr)(m c:Nat)(news:List Value)(hl:news.length=m*i.size)(hnews:∀ (j:Nat) (u:Value),news[j]?=some u->w.cell? (a.add j)=some u)(h1:∀ u∈news,u.oneCell'=true)(hroom:sLen+m<=sCap)(hfit:sLen*i.size+news.length<=cur.size) :
  (Builtin.append_ #[t,t] ty #[.slice (some ⟨g,0,none⟩) sLen sCap,.slice (some a) m c]).run P w =
   .ok (.slice (some ⟨g,0,none⟩) (sLen+m) sCap) (w.setRow g (cur.toList.take (sLen*i.size)++news++cur.toList.drop (sLen*i.size+news.length)).toArray):=by
 have hf:=run_firstCells_some (P:=P) w i.size m a m c news hl hnews;have hst:=YbH P g (sLen*i.size) e fz news 0 cur w hg hfz (by simpa using hfit) h1;simp only[Zbb] at hst;simp[Builtin.append_,run_underlying ht,sizeOf,typeInfo,hi,Builtin.lenOf,hroom,hf,ZaU,hst]

theorem YoM (t ty e:TypeId)(i:TypeInfo)(z:Value)(size bytes:Nat)(ht:P.underlying t=some (.slice e))(hi:P.info? e=some i)(hz:i.zero=some z)(hsize:i.size=size)(hby:i.bytes=bytes)(hzs:z.cells.size=size)(hsz:0<size)(v:Value)(n:Nat)(xs:List Value)(hown:ownR w e size v n xs)(a:Addr)(m c:Nat)(news:List Value)(hl:news.length=m*size)(hnews:∀ (j:Nat) (u:Value),news[j]?=some u->w.cell? (a.add j)=some u)(h1:∀ u∈news,u.oneCell'=true)(h63:n+m<=maxLen)(hbytes:(n+m)*bytes<=140737488355328) :
  ∃ v' w',(Builtin.append_ #[t,t] ty #[v,.slice (some a) m c]).run P w = .ok v' w'/\ownR w' e size v' (n+m) (xs++news)/\w.grownBy w' v.ownBlock/\∀ k,v'.ownBlock=some k->v.ownBlock=some k∨w.heap.size<=k:=by
 subst hsize;subst hby;have hsmall:n+m<=9223372036854775807:=by simp only[maxLen] at h63;omega
 have hlen:(xs++news).length=(n+m)*i.size:=by rw[Zh,hown.1,hl,ZcF]
 have grown:∀ (old:Nat),old<n+m->∀ (row:Option Nat),
   ownR (w.drew.alloc (.cells (xs.toArray++news.toArray++Builtin.zeroCells z.cells (grownCap w (n+m) old e-(n+m))) e)) e i.size
    (.slice (some ⟨w.heap.size,0,none⟩) (n+m) (grownCap w (n+m) old e)) (n+m) (xs++news) ∧
   w.grownBy (w.drew.alloc (.cells (xs.toArray++news.toArray++Builtin.zeroCells z.cells (grownCap w (n+m) old e-(n+m))) e)) row:=by
  intro old ho row;have hge:=grownCap_ge w (n+m) old e;have hcm:grownCap w (n+m) old e<=maxLen:=grownCap_le_maxLen w (n+m) old e h63;refine⟨⟨hlen,.inr ⟨w.heap.size,_,_,(0,0),rfl,heap_alloc_new w.drew _,.inl rfl,hge,hcm,?_,?_⟩⟩,⟨rfl,rfl,rfl,by simp,fun k hk _=>heap_alloc_old w.drew _ hk⟩⟩
  .simp only[Array.size_append,ZbJ,size_zeroCells,hzs,hown.1,hl,<-ZcF]
   congr 1
   omega
  .simp only[Array.toList_append,Zo];rw[<-Zo,<-hlen];exact Zbz
 rcases hown.2 with ⟨rfl,rfl⟩|⟨g,cap,cur,fz,rfl,hg,hfz,hnc,hcm,hcs,htake⟩
 .have hx:xs=[]:=ZM (by simpa using hown.1);subst hx
  by_cases hm:m=0
  .subst hm;have hn:news=[]:=ZM (by simpa using hl);subst hn;refine⟨.slice none 0 0,w,?_,ownR.nil w e i.size,⟨rfl,rfl,rfl,Zw _,fun _ _ _=>rfl⟩,fun k hk=>.inl hk⟩;simp[Builtin.append_,run_underlying ht,sizeOf,typeInfo,hi,Builtin.lenOf,Builtin.firstCells,loadCells,loadCellsFrom]
  .have hr:=run_append_nil (P:=P) w t ty e i z ht hi hz a m c news hl hnews (by omega) (by omega) (by have hb:=hbytes;simp only[ZaM] at hb;omega);have hgr:=grown 0 (by omega) (Value.ownBlock (.slice none 0 0));simp only[ZaM,ZS,Array.empty_append] at hgr ⊢;exact⟨_,_,hr,hgr.1,hgr.2,fun k hk=>.inr (by simp only[Value.ownBlock,Zl] at hk;omega)⟩
 .by_cases hroom:n+m<=cap
  .have hfit:n*i.size+news.length<=cur.size:=by rw[hl,hcs,<-ZcF];exact Zbi _ hroom
   have hr:=Ygb (P:=P) (w:=w) t ty e i ht hi g n cap cur fz hg hfz a m c news hl hnews h1 hroom hfit
   have hs:(cur.toList.take (n*i.size)++news++cur.toList.drop (n*i.size+news.length)).toArray.size=cur.size:=by
    simp only[ZbJ,Zh,ZG,Zy,Zal];omega
   refine⟨_,_,hr,⟨hlen,.inr ⟨g,cap,_,fz,rfl,setRow_heap w g cur _ e _ hg,by rw[hs];exact hfz,hroom,hcm,by rw[hs];exact hcs,?_⟩⟩,⟨rfl,rfl,rfl,by simp,fun k _ hk=>setRow_other w g k _ (fun e=>hk (by simp[Value.ownBlock,e]))⟩,fun k hk=>.inl hk⟩;rw[htake,<-hlen];exact Zbz
  .have holds:∀ (j:Nat) (u:Value),xs[j]?=some u->w.cell? ((⟨g,0,none⟩:Addr).add j)=some u:=hown.cells (g:=g) rfl;have hr:=run_append_grow (P:=P) w t ty e i z ht hi hz ⟨g,0,none⟩ n cap xs hown.1 holds a m c news hl hnews (by omega) (by omega) (growslice_fits (by omega) hbytes);have hgr:=grown cap (by omega) (Value.ownBlock (.slice (some ⟨g,0,none⟩) n cap));exact⟨_,_,hr,hgr.1,hgr.2,fun k hk=>.inr (by simp only[Value.ownBlock,Zl] at hk;omega)⟩

theorem Yme (t e:TypeId)(sz:Nat)(ht:P.underlying t=some (.slice e))(he:P.underlying e=some (.int .u8)){v:Value}{n:Nat}{xs:List Value}(h:ownR w e sz v n xs)(hn:0<n) :
  ∃ w',(convert t t v).run P w = .ok v w'/\ownR w' e sz v n xs/\w.grownBy w' v.ownBlock/\w'.heap.size=w.heap.size:=by
 rcases h.2 with ⟨_,h0⟩|⟨g,cap,cur,fz,rfl,hg,hfz,hnc,hcm,hcs,htk⟩
 .omega
 have hlt:g<w.heap.size:=(Zak.1 hg).1;have hsh:w.shape? g=some (e,cur.size):=by unfold World.shape?;rw[hg]
 have hgv:w.heap[g] = .cells cur e fz:=(Zak.1 hg).2;refine⟨w.freeze ⟨g,cur.size,none⟩ 1,?_,⟨h.1,.inr ⟨g,cap,cur,if fz.1==fz.2 then (cur.size,cur.size+1) else (min fz.1 cur.size,max fz.2 (cur.size+1)),rfl,?_,.inr ?_,hnc,hcm,hcs,htk⟩⟩,⟨rfl,rfl,rfl,?_,fun k hk hne=>?_⟩,?_⟩
 .simp[convert,run_underlying ht,run_underlying he,markStringish,hsh]
 .unfold World.freeze;rw[Zf (by decide)];show (w.heap.modify g _)[g]?=_;rw[Array.getElem?_modify,Zj rfl,hg]
  rfl
 .split
  .exact Zw _
  .rcases hfz with e0|e0
   .rename_i hne;rw[e0] at hne;exact absurd rfl hne
   .show cur.size<=min fz.1 cur.size;omega
 .unfold World.freeze;rw[Zf (by decide)];show w.heap.size<=(w.heap.modify g _).size;simp
 .unfold World.freeze;rw[Zf (by decide)];show (w.heap.modify g _)[k]?=_;rw[Array.getElem?_modify,Zf (fun e=>hne (by simp[Value.ownBlock,e]))]
 .unfold World.freeze;rw[Zf (by decide)];show (w.heap.modify g _).size=_;simp
end
end
section
inductive At where
 | any
 | val (v:Value)
 | ptr (n off:Nat)
 | eptr (n i sz off:Nat)
 | slc (n:Nat)
 | fn (f:FuncId) (caps:LN)

inductive TV where
 | at (a:At)
 | agg (l:List At)

inductive SV where
 | one (x:TV)
 | tup (l:List TV)

structure Ctx where
 P:Program
 EC:Type
 deq:DecidableEq EC
 α:EC->Type
 enc:(e:EC)->α e->List Value
 dcd:(e:EC)->List Value->Option (α e)
 dft:(e:EC)->α e
 sz:EC->Nat
 tid:EC->TypeId
 byT:TypeId->Option EC
 lst:EC->Option EC:=fun _=>none
 X:Type
 I:X->World->Value->(Nat->Prop)->Prop

structure Ctx.OK (C:Ctx):Prop where
 len:∀ e x,(C.enc e x).length=C.sz e
 one:∀ e x,∀ u∈C.enc e x,u.oneCell'=true
 dcd:∀ e cs x,C.dcd e cs=some x->C.enc e x=cs
 pos:∀ e,0<C.sz e
 info:∀ e,∃ i z,C.P.info? (C.tid e)=some i/\i.zero=some z/\i.size=C.sz e/\z.cells.toList=C.enc e (C.dft e)/\0<i.bytes
 byT:∀ t e,C.byT t=some e->t=C.tid e
 lst:∀ h e,C.lst h=some e->C.sz h=1
 local_:∀ x w w' v f,C.I x w v f->w.heap.size<=w'.heap.size->(∀ b,f b->w'.heap[b]?=w.heap[b]?)->C.I x w' v f
 mixed:C.P.follows .mixedOrders=true

inductive Ta (C:Ctx) where
 | gone
 | box (cells:List At)
 | row (own:Bool) (e:C.EC) (l:List (C.α e))
 | abs (x:C.X)
 | map (kk vk:IntKind) (l:List (Int × Int))
 | rows (h e:C.EC) (ll:List (List (C.α e)))
 | arr (k:IntKind) (l:LI)
 | orows (h e:C.EC) (k:Nat) (ll:List (List (C.α e)))
abbrev LH (C:Ctx):=List (Ta C)
section
variable {C:Ctx}

def Rels {α β:Type}(R:α->β->Prop)(l:List α)(m:List β):Prop:=l.length=m.length/\∀ (i:Nat) (a:α) (b:β),l[i]?=some a->m[i]?=some b->R a b

theorem Rels.nil {α β:Type}{R:α->β->Prop}:Rels R [] []:=⟨rfl,fun i a b h=>by simp at h⟩
theorem Rels.mono {α β:Type}{R S:α->β->Prop}{l:List α}{m:List β}(h:Rels R l m)(hi:∀ a b,a∈l->R a b->S a b):Rels S l m :=
 ⟨h.1,fun i a b ha hb=>hi a b (ZD ha) (h.2 i a b ha hb)⟩
theorem Rels.get {α β:Type}{R:α->β->Prop}{l:List α}{m:List β}(h:Rels R l m){i:Nat}{a:α}(ha:l[i]?=some a):∃ b,m[i]?=some b/\R a b:=by
 have hi:i<l.length:=(Zt.1 ha).1;have hm:i<m.length:=h.1 ▸ hi;exact⟨m[i],Zk hm,h.2 i a _ ha (Zk hm)⟩
theorem Rels.cons {α β:Type}{R:α->β->Prop}{a:α}{b:β}{l:List α}{m:List β}(hab:R a b)(h:Rels R l m):Rels R (a::l) (b::m) :=
 ⟨by simp[h.1],fun i x y hx hy=>by
  cases i with
  | zero=>simp at hx hy;subst hx hy;exact hab
  | succ i=>simp at hx hy;exact h.2 i x y hx hy⟩
theorem Rels.append {α β:Type}{R:α->β->Prop}{l l':List α}{m m':List β}(h:Rels R l m)(h':Rels R l' m'):Rels R (l++l') (m++m') :=
 ⟨by simp[h.1,h'.1],fun i x y hx hy=>by
  rcases Zad i l.length with hi|hi
  .rw[ZB hi] at hx;rw[ZB (h.1 ▸ hi)] at hy;exact h.2 i x y hx hy
  .rw[ZU hi] at hx;rw[ZU (h.1 ▸ hi),<-h.1] at hy;exact h'.2 _ x y hx hy⟩
theorem Rels.drop {α β:Type}{R:α->β->Prop}{l:List α}{m:List β}(h:Rels R l m)(k:Nat):Rels R (l.drop k) (m.drop k) :=
 ⟨by simp[h.1],fun i x y hx hy=>by rw[ZaV] at hx hy;exact h.2 _ x y hx hy⟩
theorem Rels.take {α β:Type}{R:α->β->Prop}{l:List α}{m:List β}(h:Rels R l m)(k:Nat):Rels R (l.take k) (m.take k) :=
 ⟨by simp[h.1],fun i x y hx hy=>by
  rw[Zae] at hx hy;split at hx
  .rename_i hk;rw[Zj hk] at hy;exact h.2 _ x y hx hy
  .cases hx⟩
theorem Rels.set {α β:Type}{R:α->β->Prop}{l:List α}{m:List β}(h:Rels R l m)(k:Nat){a:α}{b:β}(hab:R a b):Rels R (l.set k a) (m.set k b) :=
 ⟨by simp[h.1],fun i x y hx hy=>by
  rw[Zbk] at hx hy;split at hx
  .rename_i hk;rw[Zj hk] at hy;split at hx
   .rename_i hl;rw[Zj (h.1 ▸ hl)] at hy;simp at hx hy;subst hx hy;exact hab
   .cases hx
  .rename_i hk;rw[Zf hk] at hy;exact h.2 _ x y hx hy⟩

def At.rel (σ:Nat->Value):At->Value->Prop
 | .any,_=>True
 | .val u,v=>v=u
 | .ptr n off,v=>∃ b,σ n = .pointer (some ⟨b,0,none⟩)/\v = .pointer (some ⟨b,off,none⟩)
 | .eptr n i sz off,v=>∃ b o len cap,σ n = .slice (some ⟨b,o,none⟩) len cap/\i<len/\v = .pointer (some ⟨b,o+i*sz+off,none⟩)
 | .slc n,v=>v=σ n
 | .fn f caps,v=>v = .func (.func f) #[] (caps.map σ).toArray/\∀ c∈caps,∃ b,σ c = .pointer (some ⟨b,0,none⟩)

def TV.rel (σ:Nat->Value):TV->Value->Prop
 | .at a,v=>a.rel σ v
 | .agg l,v=>∃ cs,v = .agg cs.toArray/\Rels (At.rel σ) l cs

def SV.rel (σ:Nat->Value):SV->Value->Prop
 | .one x,v=>x.rel σ v
 | .tup l,v=>∃ vs,v = .tuple vs.toArray/\Rels (TV.rel σ) l vs

def At.names:At->LN
 | .any|.val _=>[]
 | .ptr n _|.eptr n _ _ _|.slc n=>[n]
 | .fn _ caps=>caps
def TV.names:TV->LN
 | .at a=>a.names
 | .agg l=>l.flatMap At.names
def SV.names:SV->LN
 | .one x=>x.names
 | .tup l=>l.flatMap TV.names

theorem At.rel_of {σ σ':Nat->Value}{a:At}{v:Value}(h:a.rel σ v)(hn:∀ n∈a.names,σ' n=σ n):a.rel σ' v:=by
 cases a with
 | any=>trivial
 | val u=>exact h
 | ptr n off=>obtain⟨b,h1,h2⟩:=h;exact⟨b,(hn n (by simp[At.names])).trans h1,h2⟩
 | eptr n i sz off=>obtain⟨b,o,len,cap,h1,h2⟩:=h;exact⟨b,o,len,cap,(hn n (by simp[At.names])).trans h1,h2⟩
 | slc n=>exact (show v=σ n from h).trans (hn n (by simp[At.names])).symm
 | fn f caps =>
  refine⟨?_,fun c hc=>by rw[hn c hc];exact h.2 c hc⟩;rw[h.1]
  congr 2
  exact (ZaP fun n hm=>hn n hm).symm
theorem TV.rel_of {σ σ':Nat->Value}{a:TV}{v:Value}(h:a.rel σ v)(hn:∀ n∈a.names,σ' n=σ n):a.rel σ' v:=by
 cases a with
 | «at» a=>exact At.rel_of h hn
 | agg l =>
  obtain⟨cs,h1,h2⟩:=h;exact⟨cs,h1,h2.mono fun a b ha hr=>At.rel_of hr fun n hm=>hn n (ZK.2 ⟨a,ha,hm⟩)⟩
theorem SV.rel_of {σ σ':Nat->Value}{a:SV}{v:Value}(h:a.rel σ v)(hn:∀ n∈a.names,σ' n=σ n):a.rel σ' v:=by
 cases a with
 | one a=>exact TV.rel_of h hn
 | tup l =>
  obtain⟨cs,h1,h2⟩:=h;exact⟨cs,h1,h2.mono fun a b ha hr=>TV.rel_of hr fun n hm=>hn n (ZK.2 ⟨a,ha,hm⟩)⟩

def Ta.names:Ta C->LN
 | .box cells=>cells.flatMap At.names
 | _=>[]

def flat (C:Ctx)(e:C.EC)(l:List (C.α e)):List Value:=l.flatMap (C.enc e)

def Imm (C:Ctx)(w:World)(v:Value)(e:C.EC)(l:List (C.α e)):Prop:=∃ A c,v = .slice A l.length c/\Rd (C.enc e) (C.sz e) w A l.length c l

def Ro (w:World)(v:Value)(b:Nat):Ta C->Prop
 | .row false _ l=>0<l.length/\v.ownBlock=some b
 | .rows h e ll=>∃ vs,w.ownsRow 0 (C.tid h) 1 v ll.length vs/\∃ (i:Nat) (u:Value) (l:List (C.α e)),vs[i]?=some u/\ll[i]?=some l/\0<l.length/\u.ownBlock=some b
 | _=>False

def OwnL (C:Ctx)(w:World)(e:C.EC)(ll:List (List (C.α e)))(us:List Value):Prop :=
 Rels (fun l u=>ownR w (C.tid e) (C.sz e) u l.length (flat C e l)) ll us/\us.Pairwise fun u u'=>∀ b,u.ownBlock=some b->u'.ownBlock≠some b
def BlkL (us:List Value)(b:Nat):Prop:=∃ u∈us,u.ownBlock=some b
def Yxk (C:Ctx)(w:World)(v:Value)(f:Nat->Prop)(h e:C.EC)(k:Nat)(ll:List (List (C.α e))):Prop :=
 ∃ pre us,pre.length=k/\w.ownsRow 0 (C.tid h) 1 v (k+ll.length) (pre++us)/\OwnL C w e ll us/\(∀ u∈pre++us,u.oneCell'=true)/\(∀ b,BlkL us b->v.ownBlock≠some b)/\∀ b,f b↔(v.ownBlock=some b∨BlkL us b)

def Holds (w:World)(σ:Nat->Value)(v:Value)(f:Nat->Prop):Ta C->Prop
 | .gone=>True
 | .box cells=>∃ b t cs,v = .pointer (some ⟨b,0,none⟩)/\(∀ k,f k↔k=b)/\w.heap[b]?=some (.cells cs t (0,0))/\Rels (At.rel σ) cells cs.toList
 | .row true e l=>ownR w (C.tid e) (C.sz e) v l.length (flat C e l)/\(∀ k,f k↔v.ownBlock=some k)
 | .row false e l=>Imm C w v e l/\(∀ k,¬ f k)
 | .abs x=>C.I x w v f/\∃ b,v = .pointer (some ⟨b,0,none⟩)
 | .map kk vk l=>∃ b es ck,v = .map (some b)/\(∀ k,f k↔k=b)/\w.heap[b]?=some (.map es ck)/\es.toList.map (fun e=>(e.key,e.val))=l.map fun p=>(Zm kk p.1,Zm vk p.2)
 | .arr kk l=>∃ b t cs,v = .pointer (some ⟨b,0,none⟩)/\(∀ k,f k↔k=b)/\w.heap[b]?=some (.cells cs t (0,0))/\cs.toList=l.map (.int kk)
 | .rows h e ll=>C.sz h=1/\(∃ vs,w.ownsRow 0 (C.tid h) 1 v ll.length vs/\Rels (fun l u=>Imm C w u e l) ll vs)/\(∀ k,f k↔v.ownBlock=some k)
 | .orows h e k ll=>C.sz h=1/\Yxk C w v f h e k ll

structure Sat (C:Ctx) (σ:Nat->Value) (φ:Nat->Nat->Prop) (w:World) (H:LH C):Prop where
 holds:∀ (n:Nat) (c:Ta C),H[n]?=some c->Holds w σ (σ n) (φ n) c
 dis:∀ n m b,φ n b->φ m b->n=m
 bd:∀ n b,φ n b->b<w.heap.size
 imm:∀ (n:Nat) (c:Ta C),H[n]?=some c->∀ b,Ro w (σ n) b c->∀ m,¬ φ m b
 out:∀ n,H.length<=n->∀ b,¬ φ n b
 cl:∀ (n:Nat) (c:Ta C),H[n]?=some c->∀ m∈c.names,m<H.length

theorem Sat.immr {σ:Nat->Value}{φ:Nat->Nat->Prop}{w:World}{H:LH C}(h:Sat C σ φ w H)(n:Nat)(e:C.EC)(l:List (C.α e))(hl:H[n]?=some (.row false e l))(hpos:0<l.length)(b:Nat)(hb:(σ n).ownBlock=some b)(m:Nat):¬ φ m b :=
 h.imm n _ hl b ⟨hpos,hb⟩ m

structure Adv (φ:Nat->Nat->Prop) (w:World) (φ':Nat->Nat->Prop) (w':World):Prop where
 os:w'.os=w.os
 tape:w'.tape=w.tape
 output:w'.output=w.output
 size:w.heap.size<=w'.heap.size
 fr:∀ k,k<w.heap.size->(∀ n,¬ φ n k)->w'.heap[k]?=w.heap[k]?
 grow:∀ n b,φ' n b->(∃ m,φ m b)∨w.heap.size<=b

theorem Adv.refl (φ:Nat->Nat->Prop)(w:World):Adv φ w φ w:=⟨rfl,rfl,rfl,Zw _,fun _ _ _=>rfl,fun n _ h=>.inl ⟨n,h⟩⟩
theorem Adv.trans {φ φ' φ'':Nat->Nat->Prop}{w w' w'':World}(h:Adv φ w φ' w')(h':Adv φ' w' φ'' w''):Adv φ w φ'' w'' where
 os:=h'.os.trans h.os
 tape:=h'.tape.trans h.tape
 output:=h'.output.trans h.output
 size:=Zap h.size h'.size
 fr k hk hn:=(h'.fr k (ZN hk h.size) fun n hh=>by
  rcases h.grow n k hh with ⟨m,hm⟩|hle
  .exact hn m hm
  .omega).trans (h.fr k hk hn)
 grow n b hb:=by
  rcases h'.grow n b hb with ⟨m,hm⟩|hle
  .exact h.grow m b hm
  .exact .inr (Zap h.size hle)

theorem Imm.keep {w w':World}{v:Value}{e:C.EC}{l:List (C.α e)}(h:Imm C w v e l)(hs:w.heap.size<=w'.heap.size)(hb:0<l.length->∀ b,v.ownBlock=some b->b<w.heap.size->w'.heap[b]?=w.heap[b]?):Imm C w' v e l:=by
 obtain⟨A,c,rfl,hr⟩:=h;refine⟨A,c,rfl,⟨hr.len,hr.cap,hr.max,hr.row,hr.nul,fun hn=>?_⟩⟩;obtain⟨b,o,rfl,hlt,hc⟩:=hr.get hn;exact⟨b,o,rfl,by omega,fun k x hx j u hu=>(World.cell?_of_block (hb hn b rfl hlt)).trans (hc k x hx j u hu)⟩

theorem Imm.lt {w:World}{v:Value}{e:C.EC}{l:List (C.α e)}(h:Imm C w v e l)(hl:0<l.length){b:Nat}(hb:v.ownBlock=some b):b<w.heap.size:=by
 obtain⟨A,c,rfl,hr⟩:=h;obtain⟨b',o,rfl,hlt,_⟩:=hr.get hl;simp[Value.ownBlock] at hb;omega

theorem YbI {w w':World}{t:TypeId}{sz n:Nat}{v:Value}{xs:List Value}(h:w.ownsRow 0 t sz v n xs)(hb:∀ b,v.ownBlock=some b->w'.heap[b]?=w.heap[b]?):w'.ownsRow 0 t sz v n xs:=by
 refine⟨h.1,?_⟩;rcases h.2 with h2|⟨g,cap,cur,rfl,hg,hh,rest⟩
 .exact .inl h2
 .exact .inr ⟨g,cap,cur,rfl,hg,(hb g rfl).trans hh,rest⟩
theorem OwnL.keep {w w':World}{e:C.EC}{ll:List (List (C.α e))}{us:List Value}(h:OwnL C w e ll us)(hb:∀ b,BlkL us b->w'.heap[b]?=w.heap[b]?):OwnL C w' e ll us :=
 ⟨⟨h.1.1,fun i l u hl hu=>(h.1.2 i l u hl hu).keep fun b hbb=>hb b ⟨u,ZD hu,hbb⟩⟩,h.2⟩
theorem Yct {w:World}{t:TypeId}{sz n:Nat}{v:Value}{xs ys:List Value}(h:w.ownsRow 0 t sz v n xs)(h':w.ownsRow 0 t sz v n ys):xs=ys:=by
 obtain⟨l1,h1⟩:=h;obtain⟨l2,h2⟩:=h';rcases h1 with ⟨rfl,rfl⟩|⟨g,cap,cur,rfl,_,hg,_,_,_,h6⟩
 .rw[Nat.zero_mul] at l1 l2;rw[ZM l1,ZM l2]
 .rcases h2 with ⟨e,_⟩|⟨g',cap',cur',e,_,hg',_,_,_,h6'⟩
  .simp at e
  .simp only[Zbl,Zl,Addr.mk.injEq] at e;obtain⟨⟨rfl,_⟩,_,rfl⟩:=e;rw[hg] at hg';simp only[Zl,Obj.cells.injEq] at hg';obtain⟨rfl,_⟩:=hg';rw[<-h6,<-h6']
theorem Ro.back {w w':World}{σ:Nat->Value}{v:Value}{f:Nat->Prop}{c:Ta C}(h:Holds w σ v f c)(hf:∀ b,f b->w'.heap[b]?=w.heap[b]?){b:Nat}(hr:Ro w' v b c):Ro w v b c:=by
 match c with
 | .row false e l=>exact hr
 | .rows hh e ll =>
  obtain⟨vs,ho,rest⟩:=hr;exact⟨vs,YbI ho fun b hb=>(hf b ((h.2.2 b).2 hb)).symm,rest⟩
 | .gone|.box _|.row true _ _|.abs _|.map _ _ _|.arr _ _|.orows _ _ _ _=>exact hr.elim
theorem Ro.lt {w:World}{σ:Nat->Value}{v:Value}{f:Nat->Prop}{c:Ta C}(h:Holds w σ v f c){b:Nat}(hr:Ro w v b c):b<w.heap.size:=by
 match c with
 | .row false e l=>exact h.1.lt hr.1 hr.2
 | .rows hh e ll =>
  obtain⟨vs,ho,i,u,l,h1,h2,h3,h4⟩:=hr;obtain⟨_,⟨vs',ho',hi⟩,_⟩:=h;obtain rfl:=Yct ho ho';exact (hi.2 i l u h2 h1).lt h3 h4
 | .gone|.box _|.row true _ _|.abs _|.map _ _ _|.arr _ _|.orows _ _ _ _=>exact hr.elim

theorem Ro.box {w:World}{v:Value}{b:Nat}{cells:List At}(h:Ro w v b (.box cells:Ta C)):False:=h
theorem Ro.own {w:World}{v:Value}{b:Nat}{e:C.EC}{l:List (C.α e)}(h:Ro w v b (.row true e l)):False:=h
theorem Ro.arr {w:World}{v:Value}{b:Nat}{kk:IntKind}{l:LI}(h:Ro w v b (.arr kk l:Ta C)):False:=h
theorem Ro.orows {w:World}{v:Value}{b:Nat}{h e:C.EC}{k:Nat}{ll:List (List (C.α e))}(hr:Ro w v b (.orows h e k ll:Ta C)):False:=hr
theorem Ro.map {w:World}{v:Value}{b:Nat}{kk vk:IntKind}{l:List (Int × Int)}(h:Ro w v b (.map kk vk l:Ta C)):False:=h

theorem Holds.keep (hC:C.OK){w w':World}{σ σ':Nat->Value}{v:Value}{f:Nat->Prop}{c:Ta C}(h:Holds w σ v f c)(hs:w.heap.size<=w'.heap.size)(hf:∀ b,f b->w'.heap[b]?=w.heap[b]?)(hi:∀ b,Ro w v b c->b<w.heap.size->w'.heap[b]?=w.heap[b]?)(hn:∀ n∈c.names,σ' n=σ n):Holds w' σ' v f c:=by
 match c with
 | .gone=>trivial
 | .box cells =>
  obtain⟨b,t,cs,h1,h2,h3,h4⟩:=h;exact⟨b,t,cs,h1,h2,(hf b ((h2 b).2 rfl)).trans h3,h4.mono fun a u ha hr=>At.rel_of hr fun n hm=>hn n (ZK.2 ⟨a,ha,hm⟩)⟩
 | .row true e l =>
  obtain⟨h1,h3⟩:=h;exact⟨h1.keep fun b hb=>hf b ((h3 b).2 hb),h3⟩
 | .row false e l=>exact⟨h.1.keep hs fun hl b hb hlt=>hi b ⟨hl,hb⟩ hlt,h.2⟩
 | .abs x=>exact⟨hC.local_ _ _ _ _ _ h.1 hs hf,h.2⟩
 | .map kk vk l =>
  obtain⟨b,es,ck,h1,h2,h3,h4⟩:=h;exact⟨b,es,ck,h1,h2,(hf b ((h2 b).2 rfl)).trans h3,h4⟩
 | .arr kk l =>
  obtain⟨b,t,cs,h1,h2,h3,h4⟩:=h;exact⟨b,t,cs,h1,h2,(hf b ((h2 b).2 rfl)).trans h3,h4⟩
 | .rows hh e ll =>
  obtain⟨hz,⟨vs,ho,hr⟩,h3⟩:=h;exact⟨hz,⟨vs,YbI ho fun b hb=>hf b ((h3 b).2 hb),hr.1,fun i l u hl hu=>(hr.2 i l u hl hu).keep hs fun hpos b hb hlt=>hi b ⟨vs,ho,i,u,l,hu,hl,hpos,hb⟩ hlt⟩,h3⟩
 | .orows hh e k ll =>
  obtain⟨hz,pre,us,h1,ho,hL,h1c,hd,h3⟩:=h;exact⟨hz,pre,us,h1,YbI ho fun b hb=>hf b ((h3 b).2 (.inl hb)),hL.keep fun b hb=>hf b ((h3 b).2 (.inr hb)),h1c,hd,h3⟩

theorem Sat.step (hC:C.OK){σ σ':Nat->Value}{φ φ':Nat->Nat->Prop}{w w':World}{H H':LH C}(h:Sat C σ φ w H)(S:Nat->Prop)(hsz:w.heap.size<=w'.heap.size)(hfr:∀ k,k<w.heap.size->(∀ n,S n->¬ φ n k)->w'.heap[k]?=w.heap[k]?)(hold:∀ n,¬ S n->H'[n]?=H[n]?/\σ' n=σ n/\(∀ b,φ' n b↔φ n b))(hmen:∀ (n:Nat) (c:Ta C),¬ S n->H[n]?=some c->∀ m∈c.names,σ' m=σ m)(hnew:∀ (n:Nat) (c:Ta C),S n->H'[n]?=some c->Holds w' σ' (σ' n) (φ' n) c)(hgrow:∀ n b,S n->φ' n b->(∃ m,S m/\φ m b)∨w.heap.size<=b)(hdis:∀ n m b,S n->S m->φ' n b->φ' m b->n=m)(hbd:∀ n b,S n->φ' n b->b<w'.heap.size)(himm:∀ (n:Nat) (c:Ta C),S n->H'[n]?=some c->∀ b,Ro w' (σ' n) b c->∀ m,¬ φ' m b)(hout:∀ n,H'.length<=n->∀ b,¬ φ' n b)(hlen:H.length<=H'.length)(hcl:∀ (n:Nat) (c:Ta C),S n->H'[n]?=some c->∀ m∈c.names,m<H'.length):Sat C σ' φ' w' H' where
 holds n c hc:=by
  by_cases hS:S n
  .exact hnew n c hS hc
  .obtain⟨h1,h2,h3⟩:=hold n hS;rw[h1] at hc;have hh:=h.holds n c hc;rw[h2]
   have hk:Holds w' σ' (σ n) (φ n) c:=hh.keep hC hsz (fun b hb=>hfr b (h.bd n b hb) fun m hm hb'=>hS (by rw[h.dis n m b hb hb'];exact hm))
    (fun b hb hlt=>hfr b hlt fun m _ hb'=>h.imm n c hc b hb m hb') (hmen n c hS hc)
   have:φ' n=φ n:=funext fun b=>propext (h3 b)
   rw[this];exact hk
 dis n m b h1 h2:=by
  by_cases hn:S n<;>by_cases hm:S m
  .exact hdis n m b hn hm h1 h2
  .have h2':=((hold m hm).2.2 b).1 h2;rcases hgrow n b hn h1 with ⟨k,hk,hb⟩|hle
   .exact absurd (h.dis k m b hb h2') (fun e=>hm (e ▸ hk))
   .exact absurd (h.bd m b h2') (by omega)
  .have h1':=((hold n hn).2.2 b).1 h1;rcases hgrow m b hm h2 with ⟨k,hk,hb⟩|hle
   .exact absurd (h.dis k n b hb h1') (fun e=>hn (e ▸ hk))
   .exact absurd (h.bd n b h1') (by omega)
  .exact h.dis n m b (((hold n hn).2.2 b).1 h1) (((hold m hm).2.2 b).1 h2)
 bd n b hb:=by
  by_cases hn:S n
  .exact hbd n b hn hb
  .exact ZN (h.bd n b (((hold n hn).2.2 b).1 hb)) hsz
 imm n c hl b hb m hm:=by
  by_cases hn:S n
  .exact himm n c hn hl b hb m hm
  .obtain⟨h1,h2,_⟩:=hold n hn;rw[h1] at hl;rw[h2] at hb;have hb0:=Ro.back (h.holds n _ hl) (fun b hb=>hfr b (h.bd n b hb) fun m hm hb'=>hn (by rw[h.dis n m b hb hb'];exact hm)) hb
   by_cases hmS:S m
   .rcases hgrow m b hmS hm with ⟨k,_,hb'⟩|hle
    .exact h.imm n c hl b hb0 k hb'
    .have:=Ro.lt (h.holds n _ hl) hb0;omega
   .exact h.imm n c hl b hb0 m (((hold m hmS).2.2 b).1 hm)
 out:=hout
 cl n c hc m hm:=by
  by_cases hS:S n
  .exact hcl n c hS hc m hm
  .rw[(hold n hS).1] at hc;exact ZN (h.cl n c hc m hm) hlen

theorem Sat.drawn {σ:Nat->Value}{φ:Nat->Nat->Prop}{w:World}{H:LH C}(hC:C.OK)(h:Sat C σ φ w H)(k:Nat):Sat C σ φ { w with drawn:=k } H :=
 h.step hC (fun _=>False) (Zw _) (fun _ _ _=>rfl) (fun _ _=>⟨rfl,rfl,fun _=>Zbt⟩) (fun _ _ _ _ _ _=>rfl) (fun _ _ h=>h.elim) (fun _ _ h=>h.elim)
  (fun _ _ _ h=>h.elim) (fun _ _ h=>h.elim) (fun _ _ h=>h.elim) h.out (Zw _) (fun _ _ h=>h.elim)

theorem Sat.new (hC:C.OK){σ:Nat->Value}{φ:Nat->Nat->Prop}{w w':World}{H:LH C}(h:Sat C σ φ w H)(c:Ta C)(v:Value)(f:Nat->Prop)(hsz:w.heap.size<=w'.heap.size)(hfr:∀ k,k<w.heap.size->w'.heap[k]?=w.heap[k]?)(hc:∀ n,n∉c.names->Holds w' (fun k=>if k=n then v else σ k) v f c)(hnm:∀ n∈c.names,n<H.length)(hf:∀ b,f b->w.heap.size<=b/\b<w'.heap.size)(himm:∀ b,Ro w' v b c->(∀ m,¬ φ m b)/\¬ f b) :
  Sat C (fun k=>if k=H.length then v else σ k) (fun k=>if k=H.length then f else φ k) w' (H++[c]):=by
 refine h.step hC (fun n=>n=H.length) hsz (fun k hk _=>hfr k hk) (fun n hn=>?_) (fun n d hn hd m hm=>?_) (fun n d hn hd=>?_) (fun n b hn hb=>?_) (fun n m b hn hm _ _=>hn.trans hm.symm) (fun n b hn hb=>?_) (fun n d hn hl b hb m hm=>?_) (fun n hn b hb=>?_) (by simp) (fun n d hn hd m hm=>?_)
 .have hn':¬ n=H.length:=hn;refine⟨?_,by simp[hn'],fun b=>by simp[hn']⟩;rcases Zad n H.length with hlt|hge
  .rw[ZB hlt]
  .rw[ZV (by simp;omega),ZV hge]
 .have:=h.cl n d hd m hm;simp[Nat.ne_of_lt this]
 .have hn':n=H.length:=hn;subst hn';simp at hd;subst hd;simp only[if_true];exact hc _ fun hm=>by have:=hnm _ hm;omega
 .have hn':n=H.length:=hn;subst hn';simp only[if_true] at hb;exact .inr (hf b hb).1
 .have hn':n=H.length:=hn;subst hn';simp only[if_true] at hb;exact (hf b hb).2
 .have hn':n=H.length:=hn;subst hn';simp at hl;subst hl;simp only[if_true] at hb
  by_cases hm':m=H.length
  .subst hm';simp only[if_true] at hm;exact (himm b hb).2 hm
  .simp only[Zf hm'] at hm;exact (himm b hb).1 m hm
 .rw[Zh,Zr] at hn;rw[Zf (by omega)] at hb;exact h.out n (by omega) b hb
 .have hn':n=H.length:=hn;subst hn';simp at hd;subst hd;have:=hnm m hm;simp;omega
end
abbrev VI (x:Int):Value:=.int .i64 x
abbrev VW (x:Int):Value:=.int .u64 x
abbrev VU (x:Int):Value:=.int .u32 x
end
section
def Yeh (P:Program){α:Type}:Sem α->Option α
 | .pure a=>some a
 | .program k=>Yeh P (k P)
 | _=>none

def Ybf:List At->Option (List Value)
 | []=>some []
 | .val v::t=>(Ybf t).map (v::·)
 | _::_=>none
def Ybg:SV->Option Value
 | .one (.at (.val v))=>some v
 | .one (.agg l)=>(Ybf l).map fun cs=>.agg cs.toArray
 | _=>none
def lift:Value->SV
 | .agg cs=>.one (.agg (cs.toList.map .val))
 | .tuple _=>.one (.at .any)
 | v=>.one (.at (.val v))
def opnd (T:List SV):Operand->SV
 | .tmp t=>T.getD t (.one (.at .any))
 | .const v=>lift v
 | .func f=>.one (.at (.fn f []))
 | .global _=>.one (.at .any)
def vb (b:Bool):SV:=.one (.at (.val (.bool b)))
def vi (k:IntKind)(n:Int):SV:=.one (.at (.val (.int k n)))

def YC {α:Type}(l:List α)(off:Nat)(m:List α):List α:=l.take off++(m++l.drop (off+m.length))

def At.kill (n:Nat)(a:At):At:=if a.names.contains n then .any else a
def TV.kill (n:Nat):TV->TV
 | .at a=>.at (a.kill n)
 | .agg l=>.agg (l.map (At.kill n))
def SV.kill (n:Nat):SV->SV
 | .one x=>.one (x.kill n)
 | .tup l=>.tup (l.map (TV.kill n))

def setT (T:List SV)(dst:Option Nat)(s:SV):List SV:=match dst with
 | some d=>T.set d s
 | none=>T

def YcQ:TypeDesc->Bool
 | .struct _|.array _ _=>true
 | _=>false

def Yfz (P:Program):Nat->TypeId->List TypeId
 | 0,_=>[]
 | d+1,t=>match P.underlying t with
  | some (.struct fs)=>fs.toList.flatMap fun f=>Yfz P d f.type
  | some (.array n e)=>(List.replicate n (Yfz P d e)).flatten
  | _=>[t]

def YoN (P:Program)(t:TypeId)(cs:Array Value)(off:Nat):Option Value :=
 match P.underlying t,P.info? t with
 | some d,some i=>if YcQ d then some (.agg (cs.extract off (off+i.size))) else cs[off]?
 | _,_=>none
def eqFs (rec_:TypeId->Value->Value->Option Bool)(P:Program)(xs ys:Array Value):List Field->Option Bool
 | []=>some true
 | f::fs=>if f.name="_" then none else
  match YoN P f.type xs f.offset,YoN P f.type ys f.offset with
  | some x,some y=>match rec_ f.type x y,eqFs rec_ P xs ys fs with
   | some a,some b=>some (a && b)
   | _,_=>none
  | _,_=>none
def eqT (P:Program):Nat->TypeId->Value->Value->Option Bool
 | 0,_,_,_=>none
 | d+1,t,x,y=>match P.underlying t,x,y with
  | some (.int _),.int k a,.int k' b=>if k=k' then some (a==b) else none
  | some .bool,.bool a,.bool b=>some (a==b)
  | some (.struct fs),.agg xs,.agg ys=>if P.stoodInHeld t then none else eqFs (eqT P d) P xs ys fs.toList
  | _,_,_=>none

def Yuh (P:Program)(t:TypeId)(x y:Value):Option Bool:=eqT P Op.maxDepth t x y

section
variable (C:Ctx)

def Ta.kill {C:Ctx}(n:Nat):Ta C->Ta C
 | .box cells=>.box (cells.map (At.kill n))
 | c=>c

def YbJ (t:TypeId):Option C.EC:=match C.P.underlying t with
 | some (.slice e)=>C.byT e
 | _=>none

def isEC (t:TypeId)(e:C.EC):Bool:=match YbJ C t with
 | some e'=>match C.deq e' e with
  | isTrue _=>true
  | isFalse _=>false
 | none=>false

def isU8 (e:C.EC):Bool:=match C.P.underlying (C.tid e) with
 | some (.int .u8)=>true
 | _=>false
def Ymf (t:TypeId):Bool:=match C.P.underlying t with
 | some .string=>true
 | _=>false
def isB8:Value->Bool
 | .int .u8 _=>true
 | _=>false
def Ymg (s:ByteArray)(c:Value):ByteArray:=match c with
 | .int _ n=>s.push (UInt8.ofNat n.toNat)
 | _=>s
def strR {α:Type}(f:α->List Value)(l:List α):ByteArray:=(l.flatMap f).foldl Ymg ByteArray.empty
def B8R {α:Type}(f:α->List Value)(l:List α):Prop:=∀ c∈l.flatMap f,isB8 c=true
def Yd (e:C.EC):Nat:=match C.P.info? (C.tid e) with
 | some i=>i.bytes
 | none=>0

def Yap (H:LH C)(t:TypeId)(s:SV):SV × LH C :=
 match s with
 | .one (.at (.val (.slice none 0 0)))=>match YbJ C t with
  | some e=>(match C.lst e with
   | some e0=>(.one (.at (.slc H.length)),H++[.rows e e0 []])
   | none=>(.one (.at (.slc H.length)),H++[.row true e []]))
  | none=>(s,H)
 | s=>(s,H)

def Yao (H:LH C):List At->List TypeId->List At × LH C
 | a::l,t::ts=>match Yap C H t (.one (.at a)) with
  | (.one (.at b),H1)=>let r:=Yao H1 l ts;(b::r.1,r.2)
  | (_,H1)=>let r:=Yao H1 l ts;(a::r.1,r.2)
 | l,_=>(l,H)

def Yai (H:LH C):List TV->List TypeId->List TV × LH C
 | x::l,t::ts=>match Yap C H t (.one x) with
  | (.one y,H1)=>let r:=Yai H1 l ts;(y::r.1,r.2)
  | (_,H1)=>let r:=Yai H1 l ts;(x::r.1,r.2)
 | l,_=>(l,H)

def okAt {C:Ctx}(H:LH C):At->Bool
 | .any=>false
 | .val (.agg _)|.val (.tuple _)=>false
 | .val _=>true
 | .slc n=>match H[n]? with
  | some (.row _ _ _)=>true
  | some (.map _ _ _)=>true
  | some (.rows _ _ _)=>true
  | _=>false
 | _=>true

def Ycu {C:Ctx}(H:LH C):SV->Option (List At)
 | .one (.at a)=>if okAt H a then some [a] else none
 | .one (.agg l)=>some l
 | .tup _=>none

def Ymh {C:Ctx}(H:LH C):SV->Option (List At × Nat)
 | .one (.at (.ptr n off))=>match H[n]? with
  | some (.box cells)=>some (cells,off)
  | _=>none
 | .one (.at (.eptr n i sz off))=>match H[n]? with
  | some (.row _ e l)=>if sz=C.sz e then some ((C.enc e (l.getD i (C.dft e))).map .val,off) else none
  | _=>none
 | _=>none

def Yui {C:Ctx}(H:LH C):SV->Option (IntKind × LI × Nat)
 | .one (.at (.ptr n off))=>match H[n]? with
  | some (.arr k l)=>some (k,l,off)
  | _=>none
 | _=>none

def YqP {C:Ctx}(H:LH C):SV->Option (Ta C)
 | .one (.at (.eptr n _ sz off))=>match H[n]? with
  | some (.rows h e ll)=>if sz=1/\off=0 then some (.rows h e ll) else none
  | _=>none
 | _=>none

def YoO (H:LH C)(t:TypeId)(x:SV):Option SV :=
 match Ymh H x,C.P.underlying t,C.P.info? t with
 | some (cells,off),some d,some i =>
  if YcQ d then (if off+i.size<=cells.length then some (.one (.agg ((cells.drop off).take i.size))) else none)
  else match cells[off]? with
   | some a=>some (.one (.at a))
   | none=>none
 | _,_,_=>none

def Ymi (t:TypeId)(f:Nat):Option Nat:=match C.P.underlying t with
 | some (.struct fs)=>match fs[f]? with
  | some fd=>match C.P.info? fd.type with
   | some i=>if i.size=0 then none else some fd.offset
   | none=>none
  | none=>none
 | _=>none

def YoP (t:TypeId)(cells:List At)(off:Nat):Option SV :=
 match C.P.underlying t,C.P.info? t with
 | some d,some i=>if YcQ d then (if off+i.size<=cells.length then some (.one (.agg ((cells.drop off).take i.size))) else none)
  else match cells[off]? with
   | some a=>some (.one (.at a))
   | none=>none
 | _,_=>none

def eqS (t:TypeId)(x y:SV):Option Bool :=
 match x,y with
 | .one (.at (.ptr _ _)),.one (.at (.val (.pointer none)))=>match C.P.underlying t with
  | some (.pointer _)=>some false
  | _=>none
 | .one (.at (.val (.pointer none))),.one (.at (.ptr _ _))=>match C.P.underlying t with
  | some (.pointer _)=>some false
  | _=>none
 | .one (.agg l),.one (.agg m)=>match Ybf l,Ybf m with
  | some xs,some ys=>if C.P.eqGuardType C.P.depth t then none else Yuh C.P t (.agg xs.toArray) (.agg ys.toArray)
  | _,_=>none
 | _,_=>none

def YaR (T:List SV)(o:Oper):Option Value :=
 match Yeh C.P (execOp (fun x=>(Ybg (opnd T x)).getD undef) o) with
 | some (.value v)=>some v
 | _=>none

def Ygc:Operand->Bool
 | .const _=>true
 | _=>false

abbrev Q3 (C:Ctx):=Option (List Prop × SV × LH C)

def binS (T:List SV)(H:LH C)(o:Oper)(op:BinOp)(t:TypeId)(x y:Operand):Q3 C :=
 match Ybg (opnd T x),Ybg (opnd T y),op with
 | some (.int k a),some (.int k' b),.quo=>if k=k' then (if Ygc y then (YaR C T o).map fun v=>([],lift v,H) else some ([b≠0],vi k (k.wrap (a.tdiv b)),H)) else none
 | some (.int k a),some (.int k' b),.rem=>if k=k' then (if Ygc y then (YaR C T o).map fun v=>([],lift v,H) else some ([b≠0],vi k (a.tmod b),H)) else none
 | some (.int k a),some (.int _ b),.shl=>if Ygc y then (YaR C T o).map fun v=>([],lift v,H) else some ([0<=b],vi k (k.wrap (a*2 ^ (min b.toNat k.bits))),H)
 | some (.int k a),some (.int _ b),.shr=>if Ygc y then (YaR C T o).map fun v=>([],lift v,H) else some ([0<=b],vi k (a.fdiv (2 ^ (min b.toNat k.bits))),H)
 | some (.agg _),some (.agg _),.eql=>(eqS C t (opnd T x) (opnd T y)).map fun b=>([],vb b,H)
 | some (.agg _),some (.agg _),.neq=>(eqS C t (opnd T x) (opnd T y)).map fun b=>([],vb (!b),H)
 | some _,some _,_=>(YaR C T o).map fun v=>([],lift v,H)
 | _,_,.eql=>(eqS C t (opnd T x) (opnd T y)).map fun b=>([],vb b,H)
 | _,_,.neq=>(eqS C t (opnd T x) (opnd T y)).map fun b=>([],vb (!b),H)
 | _,_,_=>none

def Yuj (H:LH C)(t:Bool)(a b:SV):Q3 C :=
 match a,b with
 | .one (.at (.val (.bool x))),.one (.at (.val (.bool y)))=>some ([],vb (match t with|true=>x|false=>y),H)
 | a,b=>match t with
  | true=>some ([],a,H)
  | false=>some ([],b,H)

def Yco (H:LH C)(place:Nat->Option (Nat × Nat)):List At->List (Nat × SV)->Option (List At)
 | zero,[]=>some zero
 | zero,(i,s)::rest=>match place i,Ycu H s with
  | some (off,size),some cs=>if cs.length=size/\off+cs.length<=zero.length then Yco H place (YC zero off cs) rest else none
  | _,_=>none

def YiM (t:TypeId):Bool:=match C.P.underlying t with
 | some (.struct fs)=>fs.toList.all (fun f=>(C.P.info? f.type).isSome)
 | some (.array _ e)=>(C.P.info? e).isSome
 | _=>false

def Yei (t:TypeId)(i:Nat):Option (Nat × Nat):=match C.P.underlying t with
 | some (.struct fs)=>match fs[i]? with
  | some f=>(C.P.info? f.type).map fun j=>(f.offset,j.size)
  | none=>none
 | some (.array _ e)=>(C.P.info? e).map fun j=>(i*j.size,j.size)
 | _=>none

def YoQ (t:TypeId):Option (List At):=match C.P.info? t with
 | some i=>i.zero.map fun z=>z.cells.toList.map .val
 | none=>none

def Yej:SV->Option Int
 | .one (.at (.val (.int _ n)))=>some n
 | _=>none

def caps:List SV->Option LN
 | []=>some []
 | .one (.at (.ptr n 0))::t=>(caps t).map (n::·)
 | _=>none

def YiN:List SV->Option (List TV)
 | []=>some []
 | .one x::t=>(YiN t).map (x::·)
 | _=>none

def idxM:List (Int × Int)->Int->Option Nat
 | [],_=>none
 | p::r,k=>if p.1=k then some 0 else (idxM r k).map (·+1)
def YS:List (Int × Int)->Int->Int
 | [],_=>0
 | p::r,k=>if p.1=k then p.2 else YS r k
def hasM:List (Int × Int)->Int->Bool
 | [],_=>false
 | p::r,k=>if p.1=k then true else hasM r k
def setM:List (Int × Int)->Int->Int->List (Int × Int)
 | [],k,v=>[(k,v)]
 | p::r,k,v=>if p.1=k then (k,v)::r else p::setM r k v
def mapK (t:TypeId):Option (IntKind × IntKind):=match C.P.underlying t with
 | some (.map kt et)=>match C.P.underlying kt,C.P.underlying et,C.P.info? et with
  | some (.int kk),some (.int vk),some i=>match i.zero with
   | some (.int k z)=>if k=vk/\z=0 then some (kk,vk) else none
   | _=>none
  | _,_,_=>none
 | _=>none

def Yr (T:List SV)(H:LH C)(o:Oper):Q3 C :=
 match o.op with
 | .move x|.assign x=>let r:=Yap C H o.type (opnd T x);some ([],r.1,r.2)
 | .pick c a b=>match opnd T c with
  | .one (.at (.val (.bool t)))=>Yuj C H t (opnd T a) (opnd T b)
  | _=>none
 | .nilCheck x=>match opnd T x with
  | .one (.at (.ptr n k))=>some ([],.one (.at (.ptr n k)),H)
  | .one (.at (.eptr n i sz k))=>some ([],.one (.at (.eptr n i sz k)),H)
  | .one (.at (.fn f cs))=>some ([],.one (.at (.fn f cs)),H)
  | _=>none
 | .binOp op t x y _=>binS C T H o op t x y
 | .unOp _ _ x=>match Ybg (opnd T x) with
  | some _=>(YaR C T o).map fun v=>([],lift v,H)
  | none=>none
 | .convert _ _ x=>match Ybg (opnd T x) with
  | some _=>(YaR C T o).map fun v=>([],lift v,H)
  | none=>none
 | .load t x=>(match YqP H (opnd T x) with
  | some r=>(match r with
   | .rows _ e ll=>(match C.P.underlying t with
    | some d=>(match YcQ d with
     | false=>(match opnd T x with
      | .one (.at (.eptr _ i _ _))=>some ([],.one (.at (.slc H.length)),H++[.row false e (ll.getD i [])])
      | _=>none)
     | true=>none)
    | none=>none)
   | _=>none)
  | none=>(match Yui H (opnd T x) with
   | some (k,l,off)=>(match C.P.underlying t with
    | some d=>(match YcQ d with
     | false=>some ([off<l.length],vi k (l.getD off 0),H)
     | true=>(match C.P.info? t with
      | some i=>some ([(off:Int)=0,(l.length:Int)=(i.size:Int)],.one (.agg (l.map fun x=>At.val (.int k x))),H)
      | none=>none))
    | none=>none)
   | none=>(YoO C H t (opnd T x)).map fun s=>([],s,H)))
 | .fieldAddr t x f=>match Ymi C t f,opnd T x with
  | some d,.one (.at (.ptr n k))=>some ([],.one (.at (.ptr n (k+d))),H)
  | some d,.one (.at (.eptr n i sz k))=>some ([],.one (.at (.eptr n i sz (k+d))),H)
  | _,_=>none
 | .field t x f=>match C.P.underlying t,opnd T x with
  | some (.struct fs),.one (.agg l)=>match fs[f]? with
   | some fd=>(YoP C fd.type l fd.offset).map fun s=>([],s,H)
   | none=>none
  | _,_=>none
 | .index t x i=>match C.P.underlying t,opnd T x,opnd T i with
  | some (.array n e),.one (.agg l),.one (.at (.val (.int _ j)))=>match C.P.info? e with
   | some ei=>(YoP C e l (j.toNat*ei.size)).map fun s=>([0<=j,j<(n:Int)],s,H)
   | none=>none
  | some .string,.one (.at (.val (.string _))),.one (.at (.val (.int _ _)))=>(YaR C T o).map fun v=>([],lift v,H)
  | _,_,_=>none
 | .indexAddr t x i=>match opnd T x,opnd T i with
  | .one (.at (.slc n)),.one (.at (.val (.int _ j)))=>match H[n]?,YbJ C t with
   | some (.row _ e l),some e'=>match C.deq e' e with
    | isTrue _=>some ([0<=j,j<(l.length:Int)],.one (.at (.eptr n j.toNat (C.sz e) 0)),H)
    | isFalse _=>none
   | some (.rows h _ ll),some e'=>match C.deq e' h with
    | isTrue _=>some ([0<=j,j<(ll.length:Int)],.one (.at (.eptr n j.toNat 1 0)),H)
    | isFalse _=>none
   | some (.orows h _ k ll),some e'=>match C.deq e' h with
    | isTrue _=>some ([0<=j,j<((k+ll.length:Nat):Int)],.one (.at (.eptr n j.toNat 1 0)),H)
    | isFalse _=>none
   | _,_=>none
  | .one (.at (.ptr n k)),.one (.at (.val (.int _ j)))=>match C.P.underlying t with
   | some (.array m e)=>match C.P.info? e with
    | some ei=>some ([0<=j,j<(m:Int)],.one (.at (.ptr n (k+j.toNat*ei.size))),H)
    | none=>none
   | _=>none
  | _,_=>none
 | .slice t x lo hi mx=>match opnd T x,mx with
  | .one (.at (.slc n)),none=>match H[n]? with
   | some (.row own e l)=>if isEC C t e then
    let a:Option Int:=match lo with|some i=>Yej (opnd T i)|none=>some 0
    let b:Option Int:=match hi with|some i=>Yej (opnd T i)|none=>some l.length
    match a,b with
    | some a,some b=>match own with
     | false=>some ([0<=a,a<=b,b<=(l.length:Int)],.one (.at (.slc H.length)),H++[.row false e ((l.take b.toNat).drop a.toNat)])
     | true=>some ([0<=a,a<=b,b<=(l.length:Int)],.one (.at (.slc H.length)),(H.set n (.row false e l))++[.row false e ((l.take b.toNat).drop a.toNat)])
    | _,_=>none
    else none
   | _=>none
  | _,_=>none
 | .extract x k=>match opnd T x with
  | .tup l=>(l[k]?).map fun s=>([],.one s,H)
  | _=>none
 | .lookup t x i ok=>match mapK C t,opnd T x,opnd T i with
  | some (kk,vk),.one (.at (.slc n)),.one (.at (.val (.int k' j)))=>match H[n]? with
   | some (.map a b l)=>if a=kk/\b=vk/\k'=kk then (match ok with
    | true=>some ([],.tup [.at (.val (.int vk (YS l j))),.at (.val (.bool (hasM l j)))],H)
    | false=>some ([],vi vk (YS l j),H)) else none
   | _=>none
  | _,_,_=>none
 | .build t parts=>match (if YiM C t then YoQ C t else none) with
  | some z=>match Yco C H (Yei C t) z (parts.toList.map fun p=>(p.1,opnd T p.2)) with
   | some cells=>let r:=Yao C H cells (Yfz C.P 20 t);some ([],.one (.agg r.1),r.2)
   | none=>none
  | none=>none
 | .makeFunc (.func f) fs cs=>match fs.toList with
  | []=>(caps (cs.toList.map (opnd T))).map fun l=>([],.one (.at (.fn f l)),H)
  | _=>none
 | .call c=>match c.callee with
  | .builtin .len=>match c.args.toList with
   | [x]=>match opnd T x with
    | .one (.at (.slc n))=>match H[n]?,(c.argTypes[0]?).bind C.P.underlying with
     | some (.row _ _ l),some (.slice _)=>some ([],vi .i64 l.length,H)
     | some (.rows _ _ ll),some (.slice _)=>some ([],vi .i64 ll.length,H)
     | some (.orows _ _ k ll),some (.slice _)=>some ([],vi .i64 ((k+ll.length:Nat):Int),H)
     | _,_=>none
    | s=>match Ybg s with
     | some _=>(YaR C T o).map fun v=>([],lift v,H)
     | none=>none
   | _=>none
  | .builtin .min=>match c.args.toList with
   | [x,y]=>match Ybg (opnd T x),Ybg (opnd T y) with
    | some (.int _ _),some (.int _ _)=>(YaR C T o).map fun v=>([],lift v,H)
    | _,_=>none
   | _=>none
  | .builtin .max=>match c.args.toList with
   | [x,y]=>match Ybg (opnd T x),Ybg (opnd T y) with
    | some (.int _ _),some (.int _ _)=>(YaR C T o).map fun v=>([],lift v,H)
    | _,_=>none
   | _=>none
  | _=>none
 | _=>none

def reqs:List Prop->Prop->Prop
 | [],k=>k
 | p::ps,k=>p/\reqs ps k

def conj:List Prop->Prop
 | []=>True
 | [p]=>p
 | p::q=>p/\conj q

abbrev Tfm:=List TV->LH C->(SV->LH C->LN->Prop)->Prop

def getG (Γ:List (FuncId × Tfm C))(f:FuncId):Option (Tfm C):=match Γ with
 | []=>none
 | (g,t)::r=>if g=f then some t else getG r f

def Yn {C:Ctx}(H:LH C)(n:Nat):Bool:=match H[n]? with
 | some (.row true _ _)=>true
 | some (.rows _ _ _)=>true
 | some (.orows _ _ _ _)=>true
 | _=>false

def dcdN (e:C.EC):Nat->List Value->Option (List (C.α e))
 | 0,_=>some []
 | n+1,vs=>match C.dcd e (vs.take (C.sz e)),dcdN e n (vs.drop (C.sz e)) with
  | some x,some xs=>some (x::xs)
  | _,_=>none

def Yar (e0:C.EC)(H:LH C):List At->Option (List (List (C.α e0)))
 | []=>some []
 | x::r=>match x with
  | .val (.slice none 0 0)=>(Yar e0 H r).map fun q=>[]::q
  | .slc m=>(match H[m]? with
   | some (.row false e l)=>(match C.deq e e0 with
    | isTrue h=>(Yar e0 H r).map fun q=>(h ▸ l)::q
    | isFalse _=>none)
   | _=>none)
  | _=>none
def Ydx {C:Ctx}:List At->LH C->LH C
 | [],H=>H
 | x::r,H=>match x with
  | .slc m=>(match H[m]? with
   | some (.row true e l)=>Ydx r (H.set m (.row false e l))
   | _=>Ydx r H)
  | _=>Ydx r H

def effS (Γ:List (FuncId × Tfm C))(trunc:Nat->Bool)(T:List SV)(H:LH C)(o:Oper)(K:LN->List SV->LH C->Prop):Prop :=
 match o.op with
 | .alloc t=>match YoQ C t with
  | some z=>let r:=Yao C H z (Yfz C.P 20 t);K [] (setT T o.dst (.one (.at (.ptr r.2.length 0)))) (r.2++[.box r.1])
  | none=>False
 | .box _ x=>match Ycu H (opnd T x) with
  | some cs=>K [] (setT T o.dst (.one (.at (.ptr H.length 0)))) (H++[.box cs])
  | none=>False
 | .store t x y=>match opnd T x,Ycu H (opnd T y),C.P.info? t with
  | .one (.at (.ptr n off)),some vs,some i=>match H[n]? with
   | some (.box cells)=>if vs.length=i.size/\off+vs.length<=cells.length/\vs.all (okAt H) then K [n] (setT T o.dst (.one (.at .any))) (H.set n (.box (YC cells off vs))) else False
   | some (.arr k l)=>(match vs with
    | [.val (.int k' z)]=>if k'=k/\i.size=1 then off<l.length/\K [n] (setT T o.dst (.one (.at .any))) (H.set n (.arr k (l.set off z))) else False
    | []=>False
    | vs=>if vs.length=i.size/\vs.all (okAt H) then (off:Int)=0/\(l.length:Int)=(vs.length:Int)/\K [n] (setT T o.dst (.one (.at .any))) (H.set n (.box vs)) else False)
   | _=>False
  | .one (.at (.eptr n j sz off)),some vs,some i=>match H[n]?,Ybf vs with
   | some (.row true e l),some us=>if sz=C.sz e/\vs.length=i.size/\off+vs.length<=C.sz e/\vs.all (okAt H) then
     (match C.dcd e (YC (C.enc e (l.getD j (C.dft e))) off us) with
     | some x=>K [n] (setT T o.dst (.one (.at .any))) (H.set n (.row true e (l.set j x)))
     | none=>False) else False
   | _,_=>False
  | _,_,_=>False
 | .makeSlice t l c=>match YbJ C t,opnd T l,opnd T c with
  | some e,.one (.at (.val (.int _ n))),.one (.at (.val (.int _ m))) =>
   0<=n/\n<=m/\m*(Yd C e:Int)<=140737488355328/\K [] (setT T o.dst (.one (.at (.slc H.length)))) (H++[.row true e (List.replicate n.toNat (C.dft e))])
  | _,_,_=>False
 | .buildSlice t n parts=>match YbJ C t with
  | some e=>match C.lst e with
   | some e0=>if trunc (o.dst.getD 0) then (match n,parts.toList with
    | 1,[(0,x)]=>(match opnd T x with
     | .one (.at (.slc m))=>(match H[m]? with
      | some (.row true e1 l)=>(match C.deq e1 e0 with
       | isTrue q=>K [m] (setT T o.dst (.one (.at (.slc H.length)))) (H.set m .gone++[.orows e e0 0 [q ▸ l]])
       | isFalse _=>False)
      | _=>False)
     | _=>False)
    | _,_=>False) else match (if n*C.sz e<=16777216 then Yco C H (fun i=>some (i*C.sz e,C.sz e)) ((flat C e (List.replicate n (C.dft e))).map .val) (parts.toList.map fun p=>(p.1,opnd T p.2)) else none) with
    | some cells=>(let H1:=Ydx cells H
     match Yar C e0 H1 cells with
     | some ll=>K [] (setT T o.dst (.one (.at (.slc H1.length)))) (H1++[.rows e e0 ll])
     | none=>False)
    | none=>False
   | none=>match (if n*C.sz e<=16777216 then Yco C H (fun i=>some (i*C.sz e,C.sz e)) ((flat C e (List.replicate n (C.dft e))).map .val) (parts.toList.map fun p=>(p.1,opnd T p.2)) else none) with
   | some cells=>match Ybf cells with
    | some vs=>match dcdN C e n vs with
     | some xs=>K [] (setT T o.dst (.one (.at (.slc H.length)))) (H++[.row true e xs])
     | none=>False
    | none=>False
   | none=>False
  | none=>False
 | .load t x=>match opnd T x with
  | .one (.at (.eptr n i sz off))=>(match H[n]? with
   | some (.orows h e k ll)=>if sz=1/\off=0 then (match C.P.underlying t with
    | some d=>(match YcQ d with
     | false=>(i:Int)=(k:Int)/\(0:Int)<(ll.length:Int)/\K [n] (setT T o.dst (.one (.at (.slc H.length)))) (H.set n (.orows h e (k+1) (ll.drop 1))++[.row true e (ll.headD [])])
     | true=>False)
    | none=>False) else False
   | _=>False)
  | _=>False
 | .makeMap t none=>match mapK C t with
  | some (kk,vk)=>K [] (setT T o.dst (.one (.at (.slc H.length)))) (H++[.map kk vk []])
  | none=>False
 | .mapUpdate t x i y=>match mapK C t,opnd T x,opnd T i,opnd T y with
  | some (kk,vk),.one (.at (.slc n)),.one (.at (.val (.int k' j))),.one (.at (.val (.int v' z)))=>match H[n]? with
   | some (.map a b l)=>if a=kk/\b=vk/\k'=kk/\v'=vk then K [n] (setT T o.dst (.one (.at .any))) (H.set n (.map a b (setM l j z))) else False
   | _=>False
  | _,_,_,_=>False
 | .convert t t' x=>match opnd T x with
  | .one (.at (.slc n))=>if Ymf C t'=true then (match H[n]? with
   | some (.row _ e l)=>if isEC C t e=true/\isU8 C e=true/\C.sz e=1 then B8R (C.enc e) l/\K [] (setT T o.dst (.one (.at (.val (.string (strR (C.enc e) l)))))) H else False
   | _=>False) else match H[n]? with
   | some (.row true e l)=>if t=t'/\isEC C t e=true/\isU8 C e=true then 0<l.length/\K [n] (setT (T.map (SV.kill n)) o.dst (.one (.at (.slc n)))) ((H.map (Ta.kill n)).set n (.row true e l)) else False
   | _=>False
  | _=>False
 | .slice t x none (some hi) none=>if trunc (o.dst.getD 0) then (match opnd T x,Yej (opnd T hi) with
  | .one (.at (.slc n)),some b=>match H[n]? with
   | some (.row true e l)=>if isEC C t e then 0<=b/\b<=(l.length:Int)/\K [n] (setT (T.map (SV.kill n)) o.dst (.one (.at (.slc n)))) ((H.map (Ta.kill n)).set n (.row true e (l.take b.toNat))) else False
   | _=>False
  | _,_=>False) else False
 | .call c=>match c.callee with
  | .builtin .append=>match c.args.toList,c.argTypes.toList with
   | [s,x],[t,t']=>if t=t' then (
    let r:=Yap C H t (opnd T s)
    match r.1,YbJ C t with
    | .one (.at (.slc n)),some e0=>match r.2[n]? with
     | some (.row true e l)=>match C.deq e0 e with
      | isFalse _=>False
      | isTrue _=>match opnd T x with
       | .one (.at (.val (.slice none 0 0)))=>K [n] (setT (T.map (SV.kill n)) o.dst (.one (.at (.slc n)))) ((r.2.map (Ta.kill n)).set n (.row true e l))
       | .one (.at (.slc m))=>if m=n then False else (match r.2[m]? with
        | some (.row _ e' l')=>match C.deq e' e with
         | isTrue h=>(l.length+l'.length)*Yd C e<=140737488355328/\K [n] (setT (T.map (SV.kill n)) o.dst (.one (.at (.slc n)))) ((r.2.map (Ta.kill n)).set n (.row true e (l++h ▸ l')))
         | isFalse _=>False
        | _=>False)
       | _=>False
     | some (.rows h e ll)=>match C.deq e0 h with
      | isFalse _=>False
      | isTrue _=>match opnd T x with
       | .one (.at (.slc m))=>if m=n then False else (match r.2[m]? with
        | some (.rows _ e' ll')=>(match C.deq e' e with
         | isTrue q=>(ll.length+ll'.length)*Yd C h<=140737488355328/\K [n] (setT (T.map (SV.kill n)) o.dst (.one (.at (.slc n)))) ((r.2.map (Ta.kill n)).set n (.rows h e (ll++q ▸ ll')))
         | isFalse _=>False)
        | _=>False)
       | _=>False
     | some (.orows h e k ll)=>match C.deq e0 h with
      | isFalse _=>False
      | isTrue _=>match opnd T x with
       | .one (.at (.slc m))=>if m=n then False else (match r.2[m]? with
        | some (.orows _ e' k' ll')=>if k'=0 then (match C.deq e' e with
         | isTrue q=>(k+ll.length+ll'.length)*Yd C h<=140737488355328/\K [n,m] (setT (T.map (SV.kill n)) o.dst (.one (.at (.slc n)))) (((r.2.map (Ta.kill n)).set n (.orows h e k (ll++q ▸ ll'))).set m .gone)
         | isFalse _=>False) else False
        | _=>False)
       | _=>False
     | _=>False
    | _,_=>False) else False
   | _,_=>False
  | .value f=>match opnd T f,YiN (c.args.toList.map (opnd T)) with
   | .one (.at (.fn g cs)),some xs=>match getG C Γ g with
    | some t=>let q:=Yai C H xs c.argTypes.toList;t (q.1++cs.map fun n=>.at (.ptr n 0)) q.2 fun r H' ts=>K ts (setT ((ts.filter (Yn q.2)).foldl (fun T n=>T.map (SV.kill n)) T) o.dst r) H'
    | none=>False
   | _,_=>False
  | _=>False
 | _=>False

def brS (b:Bool)(t f:Prop):Prop:=match b with
 | true=>t
 | false=>f

def YfA:SV:=.one (.at (.val (.tuple #[])))

def Yhx (ops:Array Oper)(T:List SV)(o:Oper)(yes:List SV->Prop)(no:List SV->Prop):Prop :=
 match o.guard with
 | none=>yes T
 | some (j,want)=>match (ops[j]?).bind (·.dst) with
  | some d=>match T.getD d (.one (.at .any)) with
   | .one (.at (.val (.bool b)))=>brS b (if want then yes (T.set d (vb true)) else no (T.set d (vb true))) (if want then no (T.set d (vb false)) else yes (T.set d (vb false)))
   | .one (.at (.val (.tuple _)))=>no T
   | _=>False
  | none=>False

def YoR (Γ:List (FuncId × Tfm C))(trunc:Nat->Bool)(T:List SV)(H:LH C)(o:Oper)(K:LN->List SV->LH C->Prop):Prop :=
 match o.op with
 | .slice _ _ _ _ _=>if trunc (o.dst.getD 0) then effS C Γ trunc T H o K else (match Yr C T H o with
  | some (ps,s,H')=>reqs ps (K [] (setT T o.dst s) H')
  | none=>False)
 | .assign x=>if trunc (o.dst.getD 0) then (match opnd T x with
  | .one (.at (.slc n))=>match H[n]? with
   | some (.row false e l)=>K [] (setT T o.dst (.one (.at (.slc H.length)))) (H++[.row false e l])
   | _=>(match Yr C T H o with
    | some (ps,s,H')=>reqs ps (K [] (setT T o.dst s) H')
    | none=>False)
  | _=>False) else (match Yr C T H o with
  | some (ps,s,H')=>reqs ps (K [] (setT T o.dst s) H')
  | none=>False)
 | _=>match Yr C T H o with
  | some (ps,s,H')=>reqs ps (K [] (setT T o.dst s) H')
  | none=>effS C Γ trunc T H o K

def seqS (Γ:List (FuncId × Tfm C))(trunc:Nat->Bool)(ops:Array Oper)(K:LN->List SV->LH C->Prop):List Oper->LN->List SV->LH C->Prop
 | [],W,T,H=>K W T H
 | o::rest,W,T,H=>Yhx ops T o (fun T=>YoR C Γ trunc T H o fun ts T' H'=>seqS Γ trunc ops K rest (ts++W) T' H')
   (fun T=>seqS Γ trunc ops K rest W (setT T o.dst YfA) H)

def YL (T:List SV)(o:Oper):Option Nat:=match o.op with
 | .load _ x=>match opnd T x with
  | .one (.at (.ptr n _))=>some n
  | .one (.at (.eptr n _ _ _))=>some n
  | _=>none
 | .lookup _ x _ _=>match opnd T x with
  | .one (.at (.slc n))=>some n
  | _=>none
 | _=>none

def YfB (o:Oper):Bool:=match o.op with
 | .load _ _=>true
 | .lookup _ _ _ _=>true
 | _=>false

def YjR (trunc:Nat->Bool)(o:Oper):Bool:=match o.op with
 | .slice _ _ _ _ _=>!trunc (o.dst.getD 0)
 | .alloc _|.box _ _|.store _ _ _|.makeSlice _ _ _|.buildSlice _ _ _|.makeMap _ _|.mapUpdate _ _ _ _=>false
 | .call c=>match c.callee with
  | .builtin .len|.builtin .min|.builtin .max=>true
  | _=>false
 | _=>true

def Ybh (trunc:Nat->Bool)(ops:Array Oper)(j:Nat):Bool:=match ops[j]? with
 | none=>false
 | some p=>!YjR trunc p && (List.range ops.size).all fun i=>match ops[i]? with
  | some o=>!YfB o || p.after.any (fun e=>e.on==i && Region.binds .any e)
  | none=>true

def YrH (T:List SV)(o:Oper):Bool:=match o.op with
 | .convert _ _ x=>(match opnd T x with
  | .one (.at (.slc _))=>true
  | _=>false)
 | _=>false
def YiO (T:List SV)(Z:LN)(trunc:Nat->Bool)(o:Oper):Bool :=
 YjR trunc o && !YrH T o &&
 (match YL T o with
 | some n=>Z.contains n
 | none=>true)

def YbK (T:List SV)(Z:LN)(trunc:Nat->Bool)(ops:Array Oper)(listed:Array Bool):LN->Option Nat
 | []=>none
 | i::r=>match ops[i]? with
  | some o=>if YiO T Z trunc o && Region.free .any ops listed i then some i else YbK T Z trunc ops listed r
  | none=>none

def anyS (Γ:List (FuncId × Tfm C))(trunc:Nat->Bool)(ops:Array Oper)(Z:LN)(K:LN->List SV->LH C->Prop):Nat->Array Bool->LN->List SV->LH C->Prop
 | 0,listed,W,T,H=>match Region.ready .any ops listed with
  | []=>K W T H
  | _=>False
 | fuel+1,listed,W,T,H=>match Region.ready .any ops listed with
  | []=>K W T H
  | r::rs=>match YbK T Z trunc ops listed (r::rs) with
   | some i=>match ops[i]? with
    | some o=>Yhx ops T o (fun T=>match (if YiO T Z trunc o then Yr C T H o else none) with
      | some (ps,s,H')=>reqs ps (anyS Γ trunc ops Z K fuel (listed.setIfInBounds i true) W (setT T o.dst s) H')
      | none=>False)
     (fun T=>anyS Γ trunc ops Z K fuel (listed.setIfInBounds i true) W (setT T o.dst YfA) H)
    | none=>False
   | none=>conj ((r::rs).map fun i=>(match ops[i]? with
    | some o=>Yhx ops T o (fun T=>YoR C Γ trunc T H o fun ts T' H'=>(if Ybh trunc ops i || !(ts.any Z.contains) then anyS Γ trunc ops Z K fuel (listed.setIfInBounds i true) (ts++W) T' H' else False))
     (fun T=>anyS Γ trunc ops Z K fuel (listed.setIfInBounds i true) W (setT T o.dst YfA) H)
    | none=>False))

def Yek (T:List SV)(ops:Array Oper):Nat->Nat->LN
 | 0,_=>[]
 | d+1,t=>match ops.toList.find? (fun o=>o.dst==some t) with
  | some o=>match o.op with
   | .move (.tmp u)|.assign (.tmp u)|.nilCheck (.tmp u)|.fieldAddr _ (.tmp u) _=>(T.getD u (.one (.at .any))).names++Yek T ops d u
   | .load _ (.tmp u)=>Yek T ops d u
   | _=>[]
  | none=>(T.getD t (.one (.at .any))).names

def YcR {C:Ctx}(H:LH C)(n:Nat):LN:=match H[n]? with
 | some c=>c.names
 | none=>[]
def YqQ {C:Ctx}(H:LH C):Nat->LN->LN
 | 0,l=>l
 | d+1,l=>l++YqQ H d (l.flatMap (YcR H))

def Yuk {C:Ctx}(H:LH C)(T:List SV)(ops:Array Oper):Nat->Nat->LN
 | 0,_=>[]
 | d+1,t=>match ops.toList.find? (fun o=>o.dst==some t) with
  | some o=>match o.op with
   | .move (.tmp u)|.assign (.tmp u)|.nilCheck (.tmp u)|.fieldAddr _ (.tmp u) _=>(T.getD u (.one (.at .any))).names++Yuk H T ops d u
   | .load _ (.tmp u)=>(Yek T ops d u).flatMap (YcR H)
   | _=>[]
  | none=>(T.getD t (.one (.at .any))).names
def YrI {C:Ctx}(H:LH C)(quiet:List FuncId)(T:List SV)(ops:Array Oper)(t:Nat):LN:=if quiet.contains 9999999 then Yuk H T ops 20 t else Yek T ops 20 t
def YrJ {C:Ctx}(H:LH C)(quiet:List FuncId)(T:List SV)(ops:Array Oper):LN:=ops.toList.flatMap fun o=>match o.op with
 | .call c=>match c.callee with
  | .builtin .append=>c.args.toList.flatMap fun x=>match x with|.tmp t=>YrI H quiet T ops t|_=>[]
  | .value (.func g)=>if quiet.contains g then [] else c.args.toList.flatMap fun x=>match x with|.tmp t=>YrI H quiet T ops t|_=>[]
  | .value _=>c.args.toList.flatMap fun x=>match x with|.tmp t=>YrI H quiet T ops t|_=>[]
  | _=>[]
 | _=>[]

def Yul (trunc:Nat->Bool)(T:List SV)(ops:Array Oper):LN:=(List.range ops.size).flatMap fun i=>match ops[i]? with
 | some o=>(match o.op with
  | .store _ (.tmp t) _=>(match Ybh trunc ops i with
   | true=>[]
   | false=>Yek T ops 20 t)
  | .mapUpdate _ (.tmp t) _ _=>(match Ybh trunc ops i with
   | true=>[]
   | false=>Yek T ops 20 t)
  | _=>[])
 | none=>[]
def Yum (trunc:Nat->Bool)(T:List SV)(ops:Array Oper):LN:=ops.toList.flatMap fun o=>match o.op with
 | .slice _ (.tmp t) _ _ _=>if trunc (o.dst.getD 0) then Yek T ops 20 t else []
 | _=>[]
def YrK {C:Ctx}(quiet:List FuncId)(trunc:Nat->Bool)(T:List SV)(H:LH C)(ops:Array Oper):LN :=
 let bad:=YqQ H 3 (YrJ H quiet T ops++Yum trunc T ops)++Yul trunc T ops
 (List.range H.length).filter fun n=>(!bad.contains n) && (match H[n]? with|some (.box _)|some (.row _ _ _)|some (.map _ _ _)|some (.rows _ _ _)|some (.arr _ _)=>true|_=>false)
end

inductive Ex where
 | normal
 | exit (id:Nat)
 | ret

structure Inv (C:Ctx) where
 X:Type
 sl:LN
 tf:X->List SV
 hf:X->LH C
 μ:X->Nat:=fun _=>0
 wr:LN:=[]
 rel:List SV->LH C->X->Prop:=fun _ _ _=>True
 cp:LN:=[]

structure Ann (C:Ctx) where
 Γ:List (FuncId × Tfm C)
 inv:Nat->Option (Inv C):=fun _=>none
 trunc:Nat->Bool:=fun _=>false
 quiet:List FuncId:=[]
 rounds:Nat->Nat:=fun _=>0
 base:Nat:=0

def Ycp:Code->Nat
 | .region id _ _=>id
 | .seq a _=>Ycp a
 | .cond _ a _=>Ycp a
 | .block _ b=>Ycp b
 | .loop b=>Ycp b
 | .scope b=>Ycp b
 | _=>0

def Yun (a b:Code):Nat:=match Ycp b with
 | 0=>2000+Ycp a
 | n=>1000+n

def YrL (o:Op):LN:=o.operands.toList.filterMap fun x=>match x with|.tmp t=>some t|_=>none
def Ycv:Code->LN
 | .region _ ops _=>ops.toList.filterMap (·.dst)
 | .seq a b=>Ycv a++Ycv b
 | .cond _ a b=>Ycv a++Ycv b
 | .block _ b=>Ycv b
 | .loop b=>Ycv b
 | _=>[]

def escC:Code->LN
 | .seq a b=>escC a++escC b
 | .cond _ a b=>escC a++escC b
 | .block id b=>(escC b).filter (fun n=>n != id)
 | .loop b=>escC b
 | .exit id=>[id]
 | _=>[]
def YjS (c:Code):Bool:=match escC c with
 | []=>false
 | _=>true
def YiP:Code->LN
 | .region _ ops _=>ops.toList.filterMap (·.dst)
 | .seq a b=>YiP a++YiP b
 | .block _ b=>if YjS b then [] else YiP b
 | .cond _ a b=>if YjS a || YjS b then [] else (YiP a).filter (YiP b).contains
 | _=>[]
def Yuo:List Oper->LN->LN
 | [],_=>[]
 | o::l,wr=>(YrL o.op).filter (fun n=>!wr.contains n)++Yuo l (match o.dst with|some d=>d::wr|none=>wr)
def YiQ:Code->LN
 | .region _ ops _=>Yuo ops.toList []
 | .seq a b=>YiQ a++(YiQ b).filter (fun n=>!(YiP a).contains n)
 | .cond c a b=>(match c with|.tmp t=>[t]|_=>[])++(YiQ a++YiQ b)
 | .block _ b=>YiQ b
 | .loop b=>YiQ b
 | _=>[]
def Yfr (c:Code)(lv:Nat->Bool)(n:Nat):Bool:=(YiQ c).contains n || (lv n && (YjS c || !(YiP c).contains n))

def At.le (a b:At):Prop:=match b with
 | .any=>True
 | .ptr n k=>match a with|.ptr m j=>if n=m/\k=j then True else False|_=>False
 | .slc n=>match a with|.slc m=>if n=m then True else False|_=>False
 | .val v=>match a with|.val u=>u=v|_=>False
 | b=>a=b
def Yhy:List At->List At->Prop
 | [],[]=>True
 | a::l,b::m=>match b with
  | .any=>Yhy l m
  | b=>At.le a b/\Yhy l m
 | _,_=>False
def SV.le (a b:SV):Prop:=match b with
 | .one (.at y)=>match y with
  | .any=>True
  | y=>match a with
   | .one (.at x)=>At.le x y
   | _=>False
 | .one (.agg m)=>match a with
  | .one (.agg l)=>Yhy l m
  | _=>False
 | b=>a=b
def Ta.le {C:Ctx}(a b:Ta C):Prop:=match b with
 | .gone=>True
 | .box m=>match a with
  | .box l=>Yhy l m
  | _=>False
 | .row o' e' l'=>match a with
  | .row o e l=>if (!o' || o) then (match C.deq e e' with
   | isTrue h=>(h ▸ l)=l'
   | isFalse _=>False) else False
  | _=>False
 | .abs y=>match a with
  | .abs x=>x=y
  | _=>False
 | .map kk vk m=>match a with
  | .map k v l=>if k=kk/\v=vk then l=m else False
  | _=>False
 | .arr kk m=>match a with
  | .arr k l=>if k=kk then l=m else False
  | .box cells=>cells=m.map fun x=>At.val (.int kk x)
  | _=>False
 | .rows h' e' m=>match a with
  | .rows h e l=>(match C.deq h h' with
   | isTrue _=>(match C.deq e e' with
    | isTrue q=>(q ▸ l)=m
    | isFalse _=>False)
   | isFalse _=>False)
  | _=>False
 | .orows h' e' k' m=>match a with
  | .orows h e k l=>(match C.deq h h' with
   | isTrue _=>(match C.deq e e' with
    | isTrue q=>k=k'/\(q ▸ l)=m
    | isFalse _=>False)
   | isFalse _=>False)
  | .rows h e l=>(match C.deq h h' with
   | isTrue _=>(match C.deq e e' with
    | isTrue _=>l=[]/\k'=0/\m=[]
    | isFalse _=>False)
   | isFalse _=>False)
  | _=>False

def Yxl (live:Nat->Bool)(T:List SV)(sl:LN)(vs:List SV):List SV :=
 (sl.zip vs).foldl (fun T p=>T.set p.1 p.2) ((List.range T.length).map fun i=>if live i then T.getD i (.one (.at .any)) else .one (.at .any))

def lesT:List SV->List SV->Prop
 | [],[]=>True
 | a::l,b::m=>match b with
  | .one (.at .any)=>lesT l m
  | b=>SV.le a b/\lesT l m
 | _,_=>False
def lesH {C:Ctx}:LH C->LH C->Prop
 | _,[]=>True
 | a::l,b::m=>Ta.le a b/\lesH l m
 | [],_=>False

section
variable {C:Ctx}
def Yab (n:Nat):LN->Option Nat
 | []=>none
 | m::l=>if m=n then some 0 else (Yab n l).map (·+1)

def Yhz (ρ:Nat->Option Nat):LN->Option LN
 | []=>some []
 | n::l=>match ρ n,Yhz ρ l with
  | some m,some r=>some (m::r)
  | _,_=>none

def At.ren (ρ:Nat->Option Nat):At->At
 | .any=>.any
 | .val v=>.val v
 | .ptr n off=>match ρ n with
  | some m=>.ptr m off
  | none=>.any
 | .eptr n i sz off=>match ρ n with
  | some m=>.eptr m i sz off
  | none=>.any
 | .slc n=>match ρ n with
  | some m=>.slc m
  | none=>.any
 | .fn f cs=>match Yhz ρ cs with
  | some l=>.fn f l
  | none=>.any
def TV.ren (ρ:Nat->Option Nat):TV->TV
 | .at x=>.at (x.ren ρ)
 | .agg l=>.agg (l.map (At.ren ρ))
def SV.ren (ρ:Nat->Option Nat):SV->SV
 | .one x=>.one (x.ren ρ)
 | .tup l=>.tup (l.map (TV.ren ρ))
def Ta.ren (ρ:Nat->Option Nat):Ta C->Ta C
 | .box l=>.box (l.map (At.ren ρ))
 | c=>c

def Yas (τ:LN)(H:LH C):LH C:=τ.map fun n=>(H.getD n .gone).ren (fun n=>Yab n τ)
end

section
variable (C:Ctx) (A:Ann C)

def invS (c:Code)(lv:Nat->Bool)(T:List SV)(i:Inv C)(x:i.X):List SV :=
 Yxl (fun n=>lv n && !(Ycv c).contains n) T i.sl (i.tf x)

def Ymj (f:(LN->List SV->LH C->Prop)->LN->List SV->LH C->Prop)(base:LN->List SV->LH C->Prop):Nat->LN->List SV->LH C->Prop
 | 0,W,T,H=>base W T H
 | k+1,W,T,H=>f (Ymj f base k) W T H

def Yel {C:Ctx}(base:Nat)(T:List SV)(H:LH C):Bool :=
 decide (base<=H.length) && T.all (fun s=>s.names.all fun m=>decide (m<H.length)) && H.all (fun c=>c.names.all fun m=>decide (m<H.length))

def Ymk {C:Ctx}(base:Nat)(wr:LN)(H:LH C):Bool :=
 (List.range base).all fun n=>wr.contains n || (match H[n]? with|some .gone=>false|some _=>true|none=>false)

def YaM (T:List SV)(s:Nat)(n:Int):Prop:=match T.getD s (.one (.at .any)) with
 | .one (.at (.val (.int _ m)))=>m=n
 | _=>False
def At.pairs (a b:At):List (Nat × Nat):=match a,b with
 | .slc n,.slc m=>[(m,n)]
 | .ptr n _,.ptr m _=>[(m,n)]
 | .eptr n _ _ _,.eptr m _ _ _=>[(m,n)]
 | .fn _ cs,.fn _ ds=>ds.zip cs
 | _,_=>[]
def YiR:List At->List At->List (Nat × Nat)
 | a::l,b::m=>a.pairs b++YiR l m
 | _,_=>[]
def YjT:List SV->List SV->List (Nat × Nat)
 | .one (.at a)::l,.one (.at b)::m=>a.pairs b++YjT l m
 | .one (.agg xs)::l,.one (.agg ys)::m=>YiR xs ys++YjT l m
 | _::l,_::m=>YjT l m
 | _,_=>[]
def Yup {C:Ctx}(H h:LH C)(p:Nat × Nat):List (Nat × Nat):=match h[p.1]?,H[p.2]? with
 | some (.box ys),some (.box xs)=>YiR xs ys
 | _,_=>[]
def YqR {C:Ctx}(H h:LH C):Nat->List (Nat × Nat)->List (Nat × Nat)
 | 0,l=>l
 | d+1,l=>l++YqR H h d (l.flatMap (Yup H h))
def Yuq (m:Nat):List (Nat × Nat)->Nat
 | []=>m
 | p::l=>if p.1=m then p.2 else Yuq m l
def YrM {C:Ctx}(base:Nat)(T T1:List SV)(H h:LH C):LN :=
 let ps:=YqR H h 3 (YjT T T1)
 (List.range h.length).map fun m=>if m<base then m else Yuq m ps
def YjU:LN->Bool
 | []=>true
 | n::l=>!(l.contains n) && YjU l

def YoS (i:Inv C)(W:LN)(T T1:List SV)(H:LH C)(x:i.X):Prop :=
 let τ:=YrM A.base T T1 H (i.hf x)
 if Yel A.base T1 (i.hf x) && (Ymk A.base i.wr (i.hf x) && (W.all (fun n=>decide (A.base<=n) || i.wr.contains n) && (YjU τ && τ.all fun n=>decide (n<H.length))))
 then lesT (T.map (SV.ren fun n=>Yab n τ)) T1/\lesH (Yas τ H) (i.hf x) else False

def YhA {C:Ctx}:LN->List SV->LH C->List SV × LH C
 | [],T,H=>(T,H)
 | s::r,T,H=>match T.getD s (.one (.at .any)) with
  | .one (.at (.slc n))=>match H[n]? with
   | some (.row false e l)=>YhA r (T.set s (.one (.at (.slc H.length)))) (H++[.row false e l])
   | some (.row true e l)=>YhA r (T.set s (.one (.at (.slc H.length)))) (H.set n (.row false e l)++[.row false e l])
   | _=>YhA r T H
  | _=>YhA r T H

def Yml (i:Inv C)(W:LN)(T T1:List SV)(H:LH C)(x:i.X):Prop:=match i.cp with
 | []=>YoS C A i W T T1 H x
 | l=>(fun q:List SV × LH C=>YoS C A i W q.1 T1 q.2 x) (YhA l T H)

def run:Code->(Nat->Bool)->(Ex->LN->List SV->LH C->Prop)->LN->List SV->LH C->Prop
 | .skip,_,K,W,T,H=>K .normal W T H
 | .region _ ops d,_,K,W,T,H=>if d then (if Region.noSelect ops then anyS C A.Γ A.trunc ops (YrK A.quiet A.trunc T H ops) (K .normal) ops.size (Array.replicate ops.size false) W T H else False) else seqS C A.Γ A.trunc ops (K .normal) ops.toList W T H
 | .seq a b,lv,K,W,T,H=>match A.inv (Yun a b) with
  | none=>run a (Yfr b lv) (fun e W' T' H'=>match e with
   | .normal=>run b lv K W' T' H'
   | e=>K e W' T' H') W T H
  | some i=>(run a (Yfr b lv) (fun e W' T' H'=>match e with
   | .normal=>∃ x,i.rel T H x/\Yml C A i W' T' (invS C a (Yfr b lv) T i x) H' x
   | e=>K e W' T' H') W T H)/\∀ x,i.rel T H x->run b lv K i.wr (invS C a (Yfr b lv) T i x) (i.hf x)
 | .cond c a b,lv,K,W,T,H=>match c with
  | .tmp d=>match T.getD d (.one (.at .any)) with
   | .one (.at (.val (.bool t)))=>brS t (run a lv K W (T.set d (vb true)) H) (run b lv K W (T.set d (vb false)) H)
   | _=>False
  | _=>False
 | .block id b,lv,K,W,T,H=>run b lv (fun e W' T' H'=>match e with
  | .exit j=>if j=id then K .normal W' T' H' else K (.exit j) W' T' H'
  | e=>K e W' T' H') W T H
 | .loop b,lv,K,W,T,H=>Ymj C (fun J W T H=>run b (Yfr b lv) (fun e W' T' H'=>match e with
   | .normal=>J W' T' H'
   | e=>K e W' T' H') W T H) (fun W T H=>match A.inv (Ycp b) with
  | none=>False
  | some i =>
   (∃ x,i.rel T H x/\Yml C A i W T (invS C b (Yfr b lv) T i x) H x) ∧
   ∀ x,i.rel T H x->run b (Yfr b lv) (fun e W' T' H'=>match e with
    | .normal=>∃ x',i.rel T H x'/\Yml C A i W' T' (invS C b (Yfr b lv) T i x') H' x'/\i.μ x'<i.μ x
    | e=>K e W' T' H') i.wr (invS C b (Yfr b lv) T i x) (i.hf x)) (A.rounds (Ycp b)) W T H
 | .exit id,_,K,W,T,H=>K (.exit id) W T H
 | .ret,_,K,W,T,H=>K .ret W T H
 | _,_,_,_,_,_=>False

def resS (T:List SV)(H:LH C):List ResultVar->Option (List SV)
 | []=>some []
 | .tmp t::r=>(resS T H r).map (T.getD t (.one (.at .any))::·)
 | .cell a t::r=>match YoO C H t (T.getD a (.one (.at .any))),resS T H r with
  | some s,some l=>some (s::l)
  | _,_=>none
def retS (T:List SV)(H:LH C)(rs:List ResultVar):Option SV:=match resS C T H rs with
 | some [s]=>some s
 | some l=>(YiN l).map .tup
 | none=>none

def Ygd:List ResultVar->LN
 | []=>[]
 | .tmp t::r=>t::Ygd r
 | .cell a _::r=>a::Ygd r

def YoT (args:List TV)(n:Nat):List SV:=args.map .one++List.replicate (n-args.length) (.one (.at .any))

@[irreducible] def vc (fn:Func) (args:List TV) (H:LH C) (Q:SV->LH C->LN->Prop):Prop:=match fn.body with
 | none=>False
 | some c=>run C { A with base:=H.length } c (fun n=>(Ygd fn.results.toList).contains n) (fun e W T H'=>match e with
  | .normal|.ret=>match retS C T H' fn.results.toList with
   | some r=>Q r H' W
   | none=>False
  | .exit _=>False) [] (YoT args fn.ntmps) H
end
end
section
theorem Yge {P:Program}{α:Type}:∀ (s:Sem α) (a:α),Yeh P s=some a->∀ w,s.run P w = .ok a w:=by
 intro s
 induction s with
 | pure x=>intro a h w;simp[Yeh] at h;subst h;rfl
 | program k ih=>intro a h w;exact ih P a h w
 | _=>intro a h;simp[Yeh] at h

theorem Yaz {σ:Nat->Value}:∀ {l:List At} {cs vs:List Value},Ybf l=some cs->Rels (At.rel σ) l vs->vs=cs:=by
 intro l
 induction l with
 | nil=>intro cs vs h hr;simp[Ybf] at h;subst h;exact ZM hr.1.symm
 | cons a t ih =>
  intro cs vs h hr;cases a with
  | val v =>
   simp only[Ybf,ZA] at h;obtain⟨cs',h1,rfl⟩:=h
   match vs,hr with
   | [],hr=>exact absurd hr.1 (by simp)
   | u::us,hr =>
    have h0:u=v:=hr.2 0 _ _ rfl rfl;have:=ih h1 (vs:=us) ⟨by simpa using hr.1,fun i a b ha hb=>hr.2 (i+1) a b (by simpa using ha) (by simpa using hb)⟩;rw[h0,this]
  | _=>simp[Ybf] at h

theorem Ybj {σ:Nat->Value}(cs:List Value):Rels (At.rel σ) (cs.map At.val) cs :=
 ⟨by simp,fun i a b ha hb=>by
  rw[Zv] at ha;rw[hb] at ha;simp at ha;subst ha;rfl⟩

theorem Ymm {σ:Nat->Value}{s:SV}{u v:Value}(h:Ybg s=some u)(hr:s.rel σ v):v=u:=by
 match s with
 | .one (.at (.val x))=>simp[Ybg] at h;subst h;exact hr
 | .one (.agg l) =>
  simp only[Ybg,ZA] at h;obtain⟨cs,h1,rfl⟩:=h;obtain⟨vs,rfl,h2⟩:=hr;rw[Yaz h1 h2]
 | .one (.at .any)|.one (.at (.ptr _ _))|.one (.at (.eptr _ _ _ _))|.one (.at (.slc _))|.one (.at (.fn _ _))|.tup _=>simp[Ybg] at h

theorem YjV {σ:Nat->Value}(v:Value):(lift v).rel σ v:=by
 cases v with
 | agg cs=>exact⟨cs.toList,rfl,Ybj _⟩
 | tuple vs=>trivial
 | _=>rfl

theorem YfC (v:Value):(lift v).names=[]:=by
 cases v with
 | agg cs=>simp[lift,SV.names,TV.names,At.names]
 | _=>rfl

section
variable {C:Ctx}

theorem YoU {σ:Nat->Value}{T:List SV}{a:Act}(h:Rels (SV.rel σ) T a.tmps.toList)(x:Operand):(opnd T x).rel σ (a.eval x):=by
 cases x with
 | tmp t =>
  simp only[opnd,Zb,Act.eval];cases hT:T[t]? with
  | none=>trivial
  | some s =>
   obtain⟨v,hv,hr⟩:=h.get hT;rw[ZaR] at hv;simp only[Array.getD_eq_getD_getElem?,hv];exact hr
 | const v=>exact YjV v
 | global g=>trivial
 | func f=>exact⟨rfl,fun c hc=>by cases hc⟩

theorem Yld {n:Nat}{T:List SV}(h:∀ s∈T,∀ m∈s.names,m<n)(x:Operand):∀ m∈(opnd T x).names,m<n:=by
 cases x with
 | tmp t =>
  simp only[opnd,Zb];cases hT:T[t]? with
  | none=>intro m hm;simp[SV.names,TV.names,At.names] at hm
  | some s=>exact h s (ZD hT)
 | const v=>intro m hm;simp only[opnd,YfC] at hm;cases hm
 | global g=>intro m hm;simp[opnd,SV.names,TV.names,At.names] at hm
 | func f=>intro m hm;simp[opnd,SV.names,TV.names,At.names] at hm

def Rdb (H:LH C)(σ:Nat->Value)(n b:Nat):Prop:=(σ n = .pointer (some ⟨b,0,none⟩)/\∃ cells,H[n]?=some (.box cells))∨((σ n).ownBlock=some b/\∃ own e l,H[n]?=some (.row own e l)/\0<l.length)∨(σ n = .map (some b)/\∃ kk vk l,H[n]?=some (.map kk vk l))∨((σ n).ownBlock=some b/\∃ h e ll,H[n]?=some (.rows h e ll)/\0<ll.length)∨(σ n = .pointer (some ⟨b,0,none⟩)/\∃ kk l,H[n]?=some (.arr kk l))

structure Th (C:Ctx) (σ:Nat->Value) (φ:Nat->Nat->Prop) (H:LH C) (σ':Nat->Value) (φ':Nat->Nat->Prop) (H':LH C) (w:World):Prop where
 sat:Sat C σ' φ' w H'
 agree:∀ n,n<H.length->σ' n=σ n
 sub:∀ n b,φ' n b->φ n b
 len:H.length<=H'.length
 own:∀ n,n<H.length->Yn H' n=true->Yn H n=true
 rdb:∀ n,n<H.length->∀ b,Rdb H' σ' n b↔Rdb H σ n b

theorem Th.refl {σ:Nat->Value}{φ:Nat->Nat->Prop}{H:LH C}{w:World}(h:Sat C σ φ w H):Th C σ φ H σ φ H w :=
 ⟨h,fun _ _=>rfl,fun _ _ h=>h,Zw _,fun _ _ h=>h,fun _ _ _=>Zbt⟩
theorem Th.trans {σ σ' σ'':Nat->Value}{φ φ' φ'':Nat->Nat->Prop}{H H' H'':LH C}{w:World}(h:Th C σ φ H σ' φ' H' w)(h':Th C σ' φ' H' σ'' φ'' H'' w):Th C σ φ H σ'' φ'' H'' w :=
 ⟨h'.sat,fun n hn=>(h'.agree n (ZN hn h.len)).trans (h.agree n hn),fun n b hb=>h.sub n b (h'.sub n b hb),Zap h.len h'.len,
  fun n hn ho=>h.own n hn (h'.own n (ZN hn h.len) ho),fun n hn b=>(h'.rdb n (ZN hn h.len) b).trans (h.rdb n hn b)⟩

theorem YdQ {H:LH C}{l:LH C}{n:Nat}(hn:n<H.length):Yn (H++l) n=Yn H n:=by
 simp[Yn,ZB hn]

theorem Th.view (hC:C.OK){σ:Nat->Value}{φ:Nat->Nat->Prop}{w:World}{H:LH C}(h:Sat C σ φ w H)(c:Ta C)(v:Value)(hc:∀ σ',Holds w σ' v (fun _=>False) c)(hnm:c.names=[])(himm:∀ b,Ro w v b c->∀ m,¬ φ m b) :
  Th C σ φ H (fun k=>if k=H.length then v else σ k) (fun k=>if k=H.length then (fun _=>False) else φ k) (H++[c]) w where
 sat:=h.new hC c v (fun _=>False) (Zw _) (fun _ _=>rfl) (fun n _=>hc _) (by rw[hnm];simp) (fun _ h=>h.elim) (fun b hb=>⟨himm b hb,fun h=>h⟩)
 agree n hn:=by simp[Nat.ne_of_lt hn]
 sub n b hb:=by
  by_cases e:n=H.length
  .subst e;simp at hb
  .simpa [e] using hb
 len:=by simp
 own n hn ho:=by rwa [YdQ hn] at ho
 rdb n hn b:=by
  unfold Rdb;simp[Nat.ne_of_lt hn,ZB hn]

theorem YaH (hC:C.OK){σ:Nat->Value}{φ:Nat->Nat->Prop}{w:World}{H:LH C}(h:Sat C σ φ w H)(t:TypeId){s:SV}{v:Value}(hr:s.rel σ v)(hn:∀ m∈s.names,m<H.length) :
  ∃ σ' φ',Th C σ φ H σ' φ' (Yap C H t s).2 w/\(Yap C H t s).1.rel σ' v/\(∀ m∈(Yap C H t s).1.names,m<(Yap C H t s).2.length):=by
 unfold Yap;split
 .split
  .rename_i e he;split
   .rename_i e0 hl;refine⟨_,_,Th.view hC h (.rows e e0 []) (.slice none 0 0) (fun σ'=>⟨hC.lst _ _ hl,⟨[],Zcg _ _ _ _,Rels.nil⟩,fun k=>by simp[Value.ownBlock]⟩) rfl (fun b hb=>by obtain⟨vs,_,i,u,l,_,h2,_⟩:=hb;simp at h2),?_,?_⟩
    .show v=_;simp only[if_true];exact hr
    .intro m hm;simp[SV.names,TV.names,At.names] at hm;subst hm;simp
   .refine⟨_,_,Th.view hC h (.row true e []) (.slice none 0 0) (fun σ'=>⟨ownR.nil _ _ _,fun k=>by simp[Value.ownBlock]⟩) rfl (fun b hb=>hb.elim),?_,?_⟩
    .show v=_;simp only[if_true];exact hr
    .intro m hm;simp[SV.names,TV.names,At.names] at hm;subst hm;simp
  .exact⟨σ,φ,Th.refl h,hr,hn⟩
 .exact⟨σ,φ,Th.refl h,hr,hn⟩

theorem Yle {H:LH C}{t:TypeId}{a:At}:∃ b,(Yap C H t (.one (.at a))).1 = .one (.at b):=by
 unfold Yap;split
 .split
  .split<;>exact⟨_,rfl⟩
  .exact⟨_,rfl⟩
 .exact⟨_,rfl⟩

theorem Ycq (hC:C.OK){w:World}:∀ (l:List At) (ts:List TypeId) {σ:Nat->Value} {φ:Nat->Nat->Prop} {H:LH C} {cs:List Value},Sat C σ φ w H->Rels (At.rel σ) l cs->(∀ a∈l,∀ m∈a.names,m<H.length) →
  ∃ σ' φ',Th C σ φ H σ' φ' (Yao C H l ts).2 w/\Rels (At.rel σ') (Yao C H l ts).1 cs/\(∀ a∈(Yao C H l ts).1,∀ m∈a.names,m<(Yao C H l ts).2.length):=by
 intro l
 induction l with
 | nil=>intro ts σ φ H cs h hr hn;cases ts<;>exact⟨σ,φ,Th.refl h,hr,hn⟩
 | cons a l ih =>
  intro ts σ φ H cs h hr hn;cases ts with
  | nil=>exact⟨σ,φ,Th.refl h,hr,hn⟩
  | cons t ts =>
   match cs,hr with
   | [],hr=>exact absurd hr.1 (by simp)
   | c::cs,hr =>
    have hrc:At.rel σ a c:=hr.2 0 _ _ rfl rfl;have hrt:Rels (At.rel σ) l cs:=⟨by simpa using hr.1,fun i x y hx hy=>hr.2 (i+1) x y (by simpa using hx) (by simpa using hy)⟩
    obtain⟨σ1,φ1,g1,r1,n1⟩:=YaH hC h t (s:=.one (.at a)) (v:=c) hrc (hn a (by simp));obtain⟨b,hb⟩:=Yle (C:=C) (H:=H) (t:=t) (a:=a);have hrt1:Rels (At.rel σ1) l cs:=hrt.mono fun x y hx hxy=>At.rel_of hxy fun m hm=>g1.agree m (hn x (by simp[hx]) m hm)
    obtain⟨σ2,φ2,g2,r2,n2⟩:=ih ts g1.sat hrt1 (fun x hx m hm=>ZN (hn x (by simp[hx]) m hm) g1.len)
    have he:Yao C H (a::l) (t::ts)=(b::(Yao C (Yap C H t (.one (.at a))).2 l ts).1,(Yao C (Yap C H t (.one (.at a))).2 l ts).2):=by
     rw[Yao];generalize Yap C H t (.one (.at a))=q at *;obtain⟨q1,q2⟩:=q;simp only at hb;subst hb
     rfl
    rw[he];rw[hb] at r1 n1;refine⟨σ2,φ2,g1.trans g2,Rels.cons (At.rel_of r1 fun m hm=>g2.agree m (n1 m hm)) r2,fun x hx m hm=>?_⟩;rcases ZH.1 hx with rfl|hx
    .exact ZN (n1 m hm) g2.len
    .exact n2 x hx m hm

def QOut (C:Ctx)(T:List SV)(H:LH C)(o:Oper)(σ:Nat->Value)(φ:Nat->Nat->Prop)(a:Act)(w:World)(s:SV)(H':LH C):Prop :=
 ∃ v σ' φ',Th C σ φ H σ' φ' H' w/\s.rel σ' v/\(∀ m∈s.names,m<H'.length) ∧
  ∀ w',(∀ n,YL T o=some n->∀ b,Rdb H σ n b->w'.heap[b]?=w.heap[b]?)->(execOp a.eval o).run C.P w' = .ok (.value v) w'

theorem QOut.same {T:List SV}{H:LH C}{o:Oper}{σ:Nat->Value}{φ:Nat->Nat->Prop}{a:Act}{w:World}{s:SV}(hs:Sat C σ φ w H)(v:Value)(hv:s.rel σ v)(hn:∀ m∈s.names,m<H.length)(hrun:∀ w',(∀ n,YL T o=some n->∀ b,Rdb H σ n b->w'.heap[b]?=w.heap[b]?)->(execOp a.eval o).run C.P w' = .ok (.value v) w'):QOut C T H o σ φ a w s H :=
 ⟨v,σ,φ,Th.refl hs,hv,hn,hrun⟩

structure Pre (C:Ctx) (T:List SV) (H:LH C) (σ:Nat->Value) (φ:Nat->Nat->Prop) (a:Act) (w:World):Prop where
 ok:C.OK
 tm:Rels (SV.rel σ) T a.tmps.toList
 tcl:∀ s∈T,∀ m∈s.names,m<H.length
 sat:Sat C σ φ w H

variable {T:List SV} {H:LH C} {o:Oper} {σ:Nat->Value} {φ:Nat->Nat->Prop} {a:Act} {w:World} {ps:List Prop} {s:SV} {H':LH C}

theorem Pre.rel (h:Pre C T H σ φ a w)(x:Operand):(opnd T x).rel σ (a.eval x):=YoU h.tm x
theorem Pre.nm (h:Pre C T H σ φ a w)(x:Operand):∀ m∈(opnd T x).names,m<H.length:=Yld h.tcl x
theorem Pre.val (h:Pre C T H σ φ a w){x:Operand}{u:Value}(hx:Ybg (opnd T x)=some u):a.eval x=u:=Ymm hx (h.rel x)

theorem YiS {v:Value}(h:YaR C T o=some v):∀ w',(execOp (fun x=>(Ybg (opnd T x)).getD undef) o).run C.P w' = .ok (.value v) w':=by
 unfold YaR at h;split at h
 .rename_i u hu;simp at h;subst h;exact Yge _ _ hu
 .cases h

theorem QOut.pure_ (h:Pre C T H σ φ a w){v:Value}(hp:YaR C T o=some v)(he:execOp (fun x=>(Ybg (opnd T x)).getD undef) o=execOp a.eval o):QOut C T H o σ φ a w (lift v) H :=
 QOut.same h.sat v (YjV v) (by rw[YfC];simp) fun w' _=>by rw[<-he];exact YiS hp w'

theorem Yur {x:Operand}(h:Pre C T H σ φ a w)(ho:o.op = .move x)(hq:Yr C T H o=some (ps,s,H')):QOut C T H o σ φ a w s H':=by
 simp only[Yr,ho,Zl,Zs] at hq;obtain⟨_,rfl,rfl⟩:=hq;obtain⟨σ',φ',g,r,n⟩:=YaH h.ok h.sat o.type (h.rel x) (h.nm x);exact⟨_,σ',φ',g,r,n,fun w' _=>by simp[execOp,ho]⟩
theorem YoV {x:Operand}(h:Pre C T H σ φ a w)(ho:o.op = .assign x)(hq:Yr C T H o=some (ps,s,H')):QOut C T H o σ φ a w s H':=by
 simp only[Yr,ho,Zl,Zs] at hq;obtain⟨_,rfl,rfl⟩:=hq;obtain⟨σ',φ',g,r,n⟩:=YaH h.ok h.sat o.type (h.rel x) (h.nm x);exact⟨_,σ',φ',g,r,n,fun w' _=>by simp[execOp,ho]⟩

theorem Yus {c x y:Operand}(h:Pre C T H σ φ a w)(ho:o.op = .pick c x y)(hq:Yr C T H o=some (ps,s,H')):QOut C T H o σ φ a w s H':=by
 simp only[Yr,ho] at hq;split at hq
 .rename_i t hc;have hrc:a.eval c = .bool t:=h.val (by rw[hc];rfl);have hx:=h.rel x;have hy:=h.rel y;have nx:=h.nm x;have ny:=h.nm y;unfold Yuj at hq;split at hq
  .rename_i b1 b2 h1 h2;rw[h1] at hx;rw[h2] at hy;simp only[Zl,Zs] at hq;obtain⟨_,rfl,rfl⟩:=hq;have e1:a.eval x = .bool b1:=hx;have e2:a.eval y = .bool b2:=hy;cases t with
   | true=>exact QOut.same h.sat (.bool b1) rfl (by simp[vb,SV.names,TV.names,At.names]) fun w' _=>by simp[execOp,ho,hrc,asBool,e1]
   | false=>exact QOut.same h.sat (.bool b2) rfl (by simp[vb,SV.names,TV.names,At.names]) fun w' _=>by simp[execOp,ho,hrc,asBool,e2]
  .split at hq
   .simp only[Zl,Zs] at hq;obtain⟨_,rfl,rfl⟩:=hq;exact QOut.same h.sat _ hx nx fun w' _=>by simp[execOp,ho,hrc,asBool]
   .simp only[Zl,Zs] at hq;obtain⟨_,rfl,rfl⟩:=hq;exact QOut.same h.sat _ hy ny fun w' _=>by simp[execOp,ho,hrc,asBool]
 .cases hq

theorem Ylf {x:Operand}(h:Pre C T H σ φ a w)(ho:o.op = .nilCheck x)(hq:Yr C T H o=some (ps,s,H')):QOut C T H o σ φ a w s H':=by
 have hx:=h.rel x;have nx:=h.nm x;simp only[Yr,ho] at hq;split at hq<;>first|(cases hq;done)|skip
 .rename_i n k hc;rw[hc] at hx nx;simp only[Zl,Zs] at hq;obtain⟨_,rfl,rfl⟩:=hq;obtain⟨b,h1,h2⟩:=(show At.rel σ (.ptr n k) _ from hx)
  exact QOut.same h.sat _ hx nx fun w' _=>by simp[execOp,ho,h2]
 .rename_i n i sz k hc;rw[hc] at hx nx;simp only[Zl,Zs] at hq;obtain⟨_,rfl,rfl⟩:=hq;obtain⟨b,o',len,cap,h1,h2,h3⟩:=(show At.rel σ (.eptr n i sz k) _ from hx)
  exact QOut.same h.sat _ hx nx fun w' _=>by simp[execOp,ho,h3]
 .rename_i f cs hc;rw[hc] at hx nx;simp only[Zl,Zs] at hq;obtain⟨_,rfl,rfl⟩:=hq;have h2:a.eval x=_:=hx.1;exact QOut.same h.sat _ hx nx fun w' _=>by simp[execOp,ho,h2]

theorem Yut {op:UnOp}{t:TypeId}{x:Operand}(h:Pre C T H σ φ a w)(ho:o.op = .unOp op t x)(hq:Yr C T H o=some (ps,s,H')):QOut C T H o σ φ a w s H':=by
 simp only[Yr,ho] at hq;split at hq
 .rename_i u hu;simp only[ZA,Zs] at hq;obtain⟨v,hp,_,rfl,rfl⟩:=hq;exact QOut.pure_ h hp (by unfold execOp;rw[ho];simp only[hu,Zcm,h.val hu])
 .cases hq
theorem Ymn {t t':TypeId}{x:Operand}(h:Pre C T H σ φ a w)(ho:o.op = .convert t t' x)(hq:Yr C T H o=some (ps,s,H')):QOut C T H o σ φ a w s H':=by
 simp only[Yr,ho] at hq;split at hq
 .rename_i u hu;simp only[ZA,Zs] at hq;obtain⟨v,hp,_,rfl,rfl⟩:=hq;exact QOut.pure_ h hp (by unfold execOp;rw[ho];simp only[hu,Zcm,h.val hu])
 .cases hq
end
end
section
section
variable {C:Ctx}
variable {T:List SV} {H:LH C} {o:Oper} {σ:Nat->Value} {φ:Nat->Nat->Prop} {a:Act} {w:World} {ps:List Prop} {s:SV} {H':LH C}

theorem YaQ {P:Program}{t:TypeId}{d:TypeDesc}(h:P.underlying t=some d)(w:World):(isAgg t).run P w = .ok (YcQ d) w:=by
 unfold isAgg;rw[Zag,run_underlying h];cases d<;>rfl
theorem Yv {P:Program}{t:TypeId}{i:TypeInfo}(h:P.info? t=some i)(w:World):(sizeOf t).run P w = .ok i.size w:=by
 simp[sizeOf,typeInfo,h]

theorem YbL {P:Program}{t:TypeId}{d:TypeDesc}{i:TypeInfo}{ad:Addr}{w:World}(hd:P.underlying t=some d)(ha:YcQ d=true)(hi:P.info? t=some i)(vs:List Value)(hl:vs.length=i.size)(hc:∀ j u,vs[j]?=some u->w.cell? (ad.add j)=some u):(loadVar t ad).run P w = .ok (.agg vs.toArray) w:=by
 have h1:=run_loadCells_list (P:=P) w ad vs hc;rw[hl] at h1;simp[loadVar,YaQ hd,ha,Yv hi,h1]
theorem Yat {P:Program}{t:TypeId}{d:TypeDesc}{ad:Addr}{w:World}{u:Value}(hd:P.underlying t=some d)(ha:YcQ d=false)(hc:w.cell? ad=some u):(loadVar t ad).run P w = .ok u w:=by
 simp[loadVar,YaQ hd,ha,hc]

theorem Holds.rd (hC:C.OK){w:World}{v:Value}{f:Nat->Prop}{own:Bool}{e:C.EC}{l:List (C.α e)}(h:Holds w σ v f (.row own e l)):∃ A c,v = .slice A l.length c/\Rd (C.enc e) (C.sz e) w A l.length c l:=by
 cases own with
 | false=>exact h.1
 | true =>
  exact ownR.form (f:=C.enc e) (hC.len e) h.1

theorem Yy {α:Type}{l:List α}{i:Nat}{d:α}(h:i<l.length):l[i]?=some (l.getD i d):=by
 simp[Zb,Zk h]

theorem YhB (hC:C.OK)(hs:Sat C σ φ w H){x:SV}{v:Value}{cells:List At}{off:Nat}(hx:x.rel σ v)(hc:Ymh H x=some (cells,off)) :
  ∃ n b k vs,(x.names=[n])/\v = .pointer (some ⟨b,k+off,none⟩)/\Rdb H σ n b/\Rels (At.rel σ) cells vs/\(∀ c∈cells,∀ m∈c.names,m<H.length) ∧
   ((∃ i,x = .one (.at (.ptr i off)))∨∃ i j sz,x = .one (.at (.eptr i j sz off))) ∧
   ∀ (w':World),w'.heap[b]?=w.heap[b]?->∀ (j:Nat) (u:Value),vs[j]?=some u->w'.cell? ⟨b,k+j,none⟩=some u:=by
 unfold Ymh at hc;split at hc
 .rename_i n off';split at hc
  .rename_i cells' hH;simp only[Zl,Zs] at hc;obtain⟨rfl,rfl⟩:=hc;obtain⟨b,h1,h2⟩:=(show At.rel σ (.ptr n off') v from hx)
   obtain⟨b',t,cs,h3,h4,h5,h6⟩:=hs.holds n _ hH;rw[h1] at h3;obtain rfl:b=b':=by simpa using h3
   refine⟨n,b,0,cs.toList,rfl,by simpa using h2,.inl ⟨h1,_,hH⟩,h6,fun c hc m hm=>hs.cl n _ hH m (ZK.2 ⟨c,hc,hm⟩),.inl ⟨n,rfl⟩,fun w' hw' j u hu=>?_⟩;rw[ZaM,cell_of_row w' b j cs t (0,0) (hw'.trans h5)]
   simpa using hu
  .cases hc
 .rename_i n i sz off';split at hc
  .rename_i own e l hH;split at hc
   .rename_i hsz;simp only[Zl,Zs] at hc;obtain⟨rfl,rfl⟩:=hc;obtain⟨b,o',len,cap,h1,h2,h3⟩:=(show At.rel σ (.eptr n i sz off') v from hx)
    obtain⟨A,c,h4,h5⟩:=(hs.holds n _ hH).rd hC;rw[h1] at h4
    obtain⟨rfl,rfl,rfl⟩:A=some ⟨b,o',none⟩/\len=l.length/\cap=c:=by
     injection h4 with e1 e2 e3
     exact⟨e1.symm,e2,e3⟩
    obtain⟨b2,o2,e2,hlt,hcl⟩:=h5.get (by omega);obtain⟨rfl,rfl⟩:b=b2/\o'=o2:=by simpa using e2
    refine⟨n,b,o'+i*sz,C.enc e (l.getD i (C.dft e)),rfl,by rw[h3],.inr (.inl ⟨by rw[h1];rfl,own,e,l,hH,by omega⟩),Ybj _,fun c hc m hm=>?_,.inr ⟨n,i,sz,rfl⟩,fun w' hw' j u hu=>?_⟩
    .obtain⟨u,_,rfl⟩:=ZF.1 hc;simp[At.names] at hm
    .rw[hsz];exact (World.cell?_of_block (w:=w) (w':=w') (a:=⟨b,o'+i*C.sz e+j,none⟩) hw').trans (hcl i _ (Yy h2) j u hu)
   .cases hc
  .cases hc
 .cases hc

theorem YhC {l:List At}{n k j:Nat}(h:∀ c∈l,∀ m∈c.names,m<n):∀ m∈(SV.one (.agg ((l.drop k).take j))).names,m<n:=by
 intro m hm;simp only[SV.names,TV.names,ZK] at hm;obtain⟨c,hc,hm⟩:=hm;exact h c (Zaj (Zac hc)) m hm

theorem Yem (hC:C.OK)(hs:Sat C σ φ w H){t:TypeId}{x:SV}{v:Value}(hx:x.rel σ v)(h:YoO C H t x=some s) :
  ∃ u n b ad,x.names=[n]/\v = .pointer (some ad)/\Rdb H σ n b/\s.rel σ u/\(∀ m∈s.names,m<H.length) ∧
   ((∃ i k,x = .one (.at (.ptr i k)))∨∃ i j sz k,x = .one (.at (.eptr i j sz k)))/\∀ (w':World),w'.heap[b]?=w.heap[b]?->(loadVar t ad).run C.P w' = .ok u w':=by
 unfold YoO at h;split at h
 .rename_i cells off d i hc hd hi;obtain⟨n,b,k,vs,h1,h2,h3,h4,h5,h6,h7⟩:=YhB hC hs hx hc
  have hkind:(∃ i k,x = .one (.at (.ptr i k)))∨∃ i j sz k,x = .one (.at (.eptr i j sz k)):=by
   rcases h6 with ⟨i,rfl⟩|⟨i,j,sz,rfl⟩
   .exact .inl ⟨_,_,rfl⟩
   .exact .inr ⟨_,_,_,_,rfl⟩
  split at h
  .rename_i ha;split at h
   .rename_i hle;simp only[Zl] at h;subst h;refine⟨.agg ((vs.drop off).take i.size).toArray,n,b,_,h1,h2,h3,⟨_,rfl,(h4.drop off).take i.size⟩,YhC h5,hkind,fun w' hw'=>?_⟩;refine YbL hd ha hi _ ?_ fun j u hu=>?_
    .rw[ZG,Zy,<-h4.1];omega
    .rw[Zae] at hu;split at hu
     .rw[ZaV] at hu;rw[ZaU,Zcl];exact h7 w' hw' _ u hu
     .cases hu
   .cases h
  .rename_i ha;split at h
   .rename_i x' hx';simp only[Zl] at h;subst h;obtain⟨u,hu,hr⟩:=h4.get hx';refine⟨u,n,b,_,h1,h2,h3,hr,fun m hm=>h5 x' (ZD hx') m hm,hkind,fun w' hw'=>Yat hd (by simpa using ha) (h7 w' hw' _ u hu)⟩
   .cases h
 .cases h

theorem Yuu {t:TypeId}{x:Operand}(h:Pre C T H σ φ a w)(ho:o.op = .load t x)(hps:∀ p∈ps,p)(hq:Yr C T H o=some (ps,s,H')):QOut C T H o σ φ a w s H':=by
 simp only[Yr,ho] at hq;split at hq
 .rename_i r hr;split at hq<;>try (cases hq;done)
  rename_i hh e ll;split at hq<;>try (cases hq;done)
  rename_i d hd;split at hq<;>try (cases hq;done)
  rename_i ha;split at hq<;>try (cases hq;done)
  rename_i n i sz off hc;simp only[Zl,Zs] at hq;obtain⟨_,rfl,rfl⟩:=hq;rw[hc] at hr;unfold YqP at hr;dsimp only at hr;split at hr<;>try (cases hr;done)
  rename_i h1 e1 l1 hH;split at hr<;>try (cases hr;done)
  rename_i hso;obtain⟨rfl,rfl⟩:=hso;simp only[Zl,Ta.rows.injEq] at hr;obtain⟨rfl,rfl,hr⟩:=hr;obtain rfl:=eq_of_heq hr;have hx:=h.rel x;rw[hc] at hx;obtain⟨b,o',len,cap,h2,h3,h4⟩:=(show At.rel σ (.eptr n i 1 0) _ from hx)
  obtain⟨hz,⟨vs,hown,hR⟩,hf⟩:=h.sat.holds n _ hH
  have hil:len=l1.length/\i<l1.length:=by
   rcases hown.2 with ⟨e0,_⟩|⟨g,cap',cur,e0,_⟩
   .rw[h2] at e0;cases e0
   .rw[h2] at e0;simp only[Zbl] at e0;omega
  obtain⟨u,hu,hI⟩:=hR.get (Zk hil.2);have hg:l1.getD i []=l1[i]:=by simp[Zb,Zk hil.2]
  rw[hg];refine⟨u,_,_,Th.view h.ok h.sat (.row false e1 l1[i]) u (fun σ'=>⟨hI,fun _ h=>h⟩) rfl (fun b' hb'=>h.sat.imm n _ hH b' ⟨vs,hown,i,u,_,hu,Zk hil.2,hb'.1,hb'.2⟩),?_,?_,fun w' hw'=>?_⟩
  .show u=_;simp
  .intro m hm;simp[SV.names,TV.names,At.names] at hm;subst hm;simp
  .have hn:YL T o=some n:=by
    unfold YL;rw[ho];simp only[hc]
   have hob:(σ n).ownBlock=some b:=by rw[h2];rfl
   have hw:=hw' n hn b (.inr (.inr (.inr (.inl ⟨hob,_,_,_,hH,by omega⟩))))
   have hc':w'.cell? ⟨b,o'+i*1+0,none⟩=some u:=by
    rcases hown.2 with ⟨e0,_⟩|⟨g,cap',cur,e0,_,hg,hnc,_,hcs,htk⟩
    .rw[h2] at e0;cases e0
    .rw[h2] at e0;simp only[Zbl,Zl,Addr.mk.injEq] at e0;obtain⟨⟨rfl,rfl,_⟩,_,rfl⟩:=e0;rw[cell_of_row w' b _ cur _ (0,0) (hw.trans hg)];rw[<-htk,Zae] at hu;split at hu
     .simpa using hu
     .cases hu
   have hld:=Yat (P:=C.P) (w:=w') hd ha hc';simp only[Zci,Zbb] at hld;simp[execOp,ho,Instr.loadAt,h4,Instr.sureAddr,hld]
 split at hq
 .rename_i hr0 _ k l off hr;unfold Yui at hr;split at hr<;>try (cases hr;done)
  rename_i n off' hc;split at hr<;>try (cases hr;done)
  rename_i k' l' hH;simp only[Zl,Zs] at hr;obtain⟨rfl,rfl,rfl⟩:=hr;have hx:=h.rel x;rw[hc] at hx;obtain⟨b,e1,e2⟩:=(show At.rel σ (.ptr n off') _ from hx)
  obtain⟨b',t',cs,e3,e4,e5,e6⟩:=h.sat.holds n _ hH;rw[e1] at e3;obtain rfl:b=b':=by simpa using e3
  split at hq<;>try (cases hq;done)
  rename_i d hd;split at hq<;>try (cases hq;done)
  case h_2 =>
   rename_i ha;split at hq<;>try (cases hq;done)
   rename_i i hi;simp only[Zl,Zs] at hq;obtain⟨rfl,rfl,rfl⟩:=hq;have h0:(off':Int)=0:=hps _ (by simp);have hl:(l'.length:Int)=(i.size:Int):=hps _ (by simp);have h0:off'=0:=by omega
   have hl:l'.length=i.size:=by omega
   subst h0;refine QOut.same h.sat (.agg (l'.map (Zm k')).toArray) ⟨l'.map (Zm k'),rfl,by simp,fun j a b ha hb=>?_⟩ (fun m hm=>?_) fun w' hw'=>?_
   .rw[Zv] at ha hb;cases hj:l'[j]? with
    | none=>rw[hj] at ha;cases ha
    | some z=>rw[hj] at ha hb;simp only[ZaL,Zl] at ha hb;rw[<-ha,<-hb];rfl
   .simp only[SV.names,TV.names,ZK,ZF] at hm;obtain⟨_,⟨z,_,rfl⟩,hm⟩:=hm;simp[At.names] at hm
   .have hn:YL T o=some n:=by unfold YL;rw[ho];simp only[hc]
    have hw:=hw' n hn b (.inr (.inr (.inr (.inr ⟨e1,_,_,hH⟩))))
    have hld:=YbL (w:=w') (ad:=⟨b,0,none⟩) hd ha hi (l'.map (Zm k')) (by simpa using hl) fun j u hu=>by
     rw[ZaU,ZaM,cell_of_row w' b j cs t' (0,0) (hw.trans e5)];have:cs[j]?=cs.toList[j]?:=by simp
     rw[this,e6];exact hu
    simp[execOp,ho,Instr.loadAt,e2,Instr.sureAddr,hld]
  rename_i ha;simp only[Zl,Zs] at hq;obtain⟨rfl,rfl,rfl⟩:=hq;have hlt:off'<l'.length:=hps _ (by simp);refine QOut.same h.sat (.int k' (l'.getD off' 0)) rfl (by simp[vi,SV.names,TV.names,At.names]) fun w' hw'=>?_
  have hn:YL T o=some n:=by unfold YL;rw[ho];simp only[hc]
  have hw:=hw' n hn b (.inr (.inr (.inr (.inr ⟨e1,_,_,hH⟩))))
  have hcell:w'.cell? ⟨b,off',none⟩=some (.int k' (l'.getD off' 0)):=by
   rw[cell_of_row w' b off' cs t' (0,0) (hw.trans e5)];have:cs[off']?=cs.toList[off']?:=by simp
   rw[this,e6,Zv,Yy (d:=(0:Int)) hlt]
   rfl
  have hld:=Yat (P:=C.P) (w:=w') hd ha hcell;simp[execOp,ho,Instr.loadAt,e2,Instr.sureAddr,hld]
 simp only[ZA,Zs] at hq;obtain⟨s',hl,_,rfl,rfl⟩:=hq;obtain⟨u,n,b,ad,h1,h2,h3,h4,h5,h6,h7⟩:=Yem h.ok h.sat (h.rel x) hl;refine QOut.same h.sat u h4 h5 fun w' hw'=>?_
 have hn:YL T o=some n:=by
  unfold YL;rw[ho];rcases h6 with ⟨i,k,e⟩|⟨i,j,sz,k,e⟩
  .rw[e] at h1;simp[SV.names,TV.names,At.names] at h1;subst h1;simp[e]
  .rw[e] at h1;simp[SV.names,TV.names,At.names] at h1;subst h1;simp[e]
 have:=h7 w' (hw' n hn b h3);simp[execOp,ho,Instr.loadAt,h2,Instr.sureAddr,this]

theorem YjW:∀ (l:List (Int × Int)) (k:Int),hasM l k=(idxM l k).isSome
 | [],_=>rfl
 | p::r,k=>by
  unfold hasM idxM
  by_cases h:p.1=k
  .rw[Zj h,Zj h];rfl
  .rw[Zf h,Zf h,YjW r k,Option.isSome_map]
theorem YhD {t:TypeId}{kk vk:IntKind}(h:mapK C t=some (kk,vk)):∃ kt et,C.P.underlying t=some (.map kt et)/\C.P.underlying kt=some (.int kk)/\∀ w:World,(zeroValue et).run C.P w = .ok (.int vk 0) w:=by
 unfold mapK at h;split at h<;>try (cases h;done)
 rename_i kt et ht;split at h<;>try (cases h;done)
 rename_i a b i h1 h2 h3;split at h<;>try (cases h;done)
 rename_i k z hz;split at h<;>try (cases h;done)
 rename_i hc;obtain⟨rfl,rfl⟩:=hc;simp only[Zl,Zs] at h;obtain⟨rfl,rfl⟩:=h;exact⟨kt,et,ht,h1,fun w=>by simp[zeroValue,typeInfo,h3,hz]⟩
theorem Ycw {kk vk:IntKind}(k:Int):∀ (es:List MapEntry) (l:List (Int × Int)) (i:Nat),es.map (fun e=>(e.key,e.val))=l.map (fun p=>(Zm kk p.1,Zm vk p.2)) →
  Instr.findNow (.int kk) (.int kk k) es i=some ((idxM l k).map fun j=>(i+j,.int vk (YS l k)))
 | [],[],_,_=>rfl
 | [],_::_,_,h=>by simp at h
 | _::_,[],_,h=>by simp at h
 | e::es,p::l,i,h=>by
  simp only[ZaA,ZbF,Zs] at h;obtain⟨⟨h1,h2⟩,h3⟩:=h;have ih:=Ycw k es l (i+1) h3;unfold Instr.findNow idxM YS;rw[h1,h2]
  by_cases c:p.1=k
  .rw[Zj c,Zj c];simp[Instr.sameNow,c]
  .rw[Zf c,Zf c];have c':(k==p.1)=false:=beq_false_of_ne fun e=>c e.symm
   simp only[Instr.sameNow,if_true,c',ih,ZcD]
   congr 2
   funext j
   simp;omega
theorem YoW {t:TypeId}{x i:Operand}{ok:Bool}(h:Pre C T H σ φ a w)(ho:o.op = .lookup t x i ok)(hq:Yr C T H o=some (ps,s,H')):QOut C T H o σ φ a w s H':=by
 have hx:=h.rel x;have hi:=h.rel i;simp only[Yr,ho] at hq;split at hq<;>try (cases hq;done)
 rename_i kk vk n k' j hm hc hci;split at hq<;>try (cases hq;done)
 rename_i ka va l hH;split at hq<;>try (cases hq;done)
 rename_i hk;obtain⟨rfl,rfl,rfl⟩:=hk;rw[hc] at hx;rw[hci] at hi;have ex:a.eval x=σ n:=hx;have ei:a.eval i = .int k' j:=hi;obtain⟨b,es,ck,e1,e2,e3,e4⟩:=h.sat.holds n _ hH;obtain⟨kt,et,m1,m2,m3⟩:=YhD hm;have hn:YL T o=some n:=by unfold YL;rw[ho];simp only[hc]
 have hrun:∀ w':World,w'.heap[b]?=w.heap[b]?->(Instr.lookup t (.map (some b)) (.int k' j) ok).run C.P w' = .ok (if ok then .tuple #[.int va (YS l j),.bool (hasM l j)] else .int va (YS l j)) w':=fun w' hw'=>by
  have hb:=hw'.trans e3;have hf:=Ycw (kk:=k') (vk:=va) j es.toList l 0 e4;have ck1:=MapKept.run_checkKey (P:=C.P) (w:=w') (kt:=kt) (k:=.int k' j) m2 (show MapKept.IsKey (.int k') (.int k' j) from rfl) es.isEmpty 9999;have fk:=MapKept.run_findKey (P:=C.P) (w:=w') m2 hf;rw[YjW];cases hj:idxM l j with
  | none =>
   have l0:YS l j=0:=by
    have:∀ l:List (Int × Int),idxM l j=none->YS l j=0:=by
     intro l
     induction l with
     | nil=>intro _;rfl
     | cons p r ih =>
      intro hl;unfold idxM at hl;unfold YS;split at hl
      .cases hl
      .rename_i c;rw[Zf c];exact ih (by simpa using hl)
    exact this l hj
   rw[hj] at fk;simp[Instr.lookup,run_underlying m1,ZbI hb,ck1,fk,m3,Result.andThen,l0]
  | some q =>
   rw[hj] at fk;simp[Instr.lookup,run_underlying m1,ZbI hb,ck1,fk,Result.andThen]
 cases ok with
 | true =>
  simp only[Zl,Zs] at hq;obtain⟨_,rfl,rfl⟩:=hq;refine QOut.same h.sat (.tuple #[.int va (YS l j),.bool (hasM l j)]) ⟨_,rfl,Rels.cons rfl (Rels.cons rfl Rels.nil)⟩ (by simp[SV.names,TV.names,At.names]) fun w' hw'=>?_
  have:=hrun w' (hw' n hn b (.inr (.inr (.inl ⟨e1,_,_,_,hH⟩))));simp[execOp,ho,ex,ei,e1,this]
 | false =>
  simp only[Zl,Zs] at hq;obtain⟨_,rfl,rfl⟩:=hq;refine QOut.same h.sat (.int va (YS l j)) rfl (by simp[vi,SV.names,TV.names,At.names]) fun w' hw'=>?_
  have:=hrun w' (hw' n hn b (.inr (.inr (.inl ⟨e1,_,_,_,hH⟩))));simp[execOp,ho,ex,ei,e1,this]

theorem YiT {t:TypeId}{x:Operand}{f:Nat}(h:Pre C T H σ φ a w)(ho:o.op = .fieldAddr t x f)(hq:Yr C T H o=some (ps,s,H')):QOut C T H o σ φ a w s H':=by
 have hx:=h.rel x;have nx:=h.nm x;simp only[Yr,ho] at hq
 have key:∀ {d:Nat},Ymi C t f=some d->∀ (b k:Nat) w',(Instr.fieldAt t (.pointer (some ⟨b,k,none⟩)) f).run C.P w' = .ok (.pointer (some ⟨b,k+d,none⟩)) w':=by
  intro d hd b k w';unfold Ymi at hd;split at hd<;>try (cases hd;done)
  rename_i fs hfs;split at hd<;>try (cases hd;done)
  rename_i fd hfd;split at hd<;>try (cases hd;done)
  rename_i i hi;split at hd<;>try (cases hd;done)
  rename_i hz;simp only[Zl] at hd;subst hd;simp[Instr.fieldAt,run_underlying hfs,hfd,Instr.sureAddr,fieldPlace,Yv hi,hz,ZaU]
 split at hq<;>try (cases hq;done)
 .rename_i d n k hd hc;rw[hc] at hx nx;simp only[Zl,Zs] at hq;obtain⟨_,rfl,rfl⟩:=hq;obtain⟨b,h1,h2⟩:=(show At.rel σ (.ptr n k) _ from hx)
  exact QOut.same h.sat (.pointer (some ⟨b,k+d,none⟩)) ⟨b,h1,rfl⟩ (by simpa [SV.names,TV.names,At.names] using nx) fun w' _=>by
   have:=key hd b k w';simp[execOp,ho,h2,this]
 .rename_i d n i sz k hd hc;rw[hc] at hx nx;simp only[Zl,Zs] at hq;obtain⟨_,rfl,rfl⟩:=hq;obtain⟨b,o',len,cap,h1,h2,h3⟩:=(show At.rel σ (.eptr n i sz k) _ from hx)
  exact QOut.same h.sat (.pointer (some ⟨b,o'+i*sz+k+d,none⟩)) ⟨b,o',len,cap,h1,h2,by rw[Zcl _ k d]⟩ (by simpa [SV.names,TV.names,At.names] using nx) fun w' _=>by
   have:=key hd b (o'+i*sz+k) w';simp[execOp,ho,h3,this]

theorem Yen {t:TypeId}{l:List At}{off n:Nat}{vs:List Value}(hr:Rels (At.rel σ) l vs)(hn:∀ c∈l,∀ m∈c.names,m<n)(h:YoP C t l off=some s) :
  ∃ u,s.rel σ u/\(∀ m∈s.names,m<n)/\∀ (w':World),(part t vs.toArray off).run C.P w' = .ok u w':=by
 unfold YoP at h;split at h
 .rename_i d i hd hi;split at h
  .rename_i ha;split at h
   .simp only[Zl] at h;subst h;refine⟨.agg ((vs.drop off).take i.size).toArray,⟨_,rfl,(hr.drop off).take i.size⟩,YhC hn,fun w'=>?_⟩;simp[part,YaQ hd,ha,Yv hi]
   .cases h
  .rename_i ha;split at h
   .rename_i x' hx';simp only[Zl] at h;subst h;obtain⟨u,hu,hr'⟩:=hr.get hx';exact⟨u,hr',fun m hm=>hn x' (ZD hx') m hm,fun w'=>by simp[part,YaQ hd,ha,hu]⟩
   .cases h
 .cases h

theorem YrN {t:TypeId}{x:Operand}{f:Nat}(h:Pre C T H σ φ a w)(ho:o.op = .field t x f)(hq:Yr C T H o=some (ps,s,H')):QOut C T H o σ φ a w s H':=by
 have hx:=h.rel x;have nx:=h.nm x;simp only[Yr,ho] at hq;split at hq<;>try (cases hq;done)
 rename_i fs l hfs hc;split at hq<;>try (cases hq;done)
 rename_i fd hfd;simp only[ZA,Zs] at hq;obtain⟨s',hp,_,rfl,rfl⟩:=hq;rw[hc] at hx nx;obtain⟨vs,e,hr⟩:=(show TV.rel σ (.agg l) _ from hx)
 obtain⟨u,h1,h2,h3⟩:=Yen hr (fun c hc m hm=>nx m (ZK.2 ⟨c,hc,hm⟩)) hp;exact QOut.same h.sat u h1 h2 fun w' _=>by simp[execOp,ho,e,Instr.field,run_underlying hfs,hfd,asAgg,h3 w']

theorem YrO {t:TypeId}{x i:Operand}(h:Pre C T H σ φ a w)(ho:o.op = .index t x i)(hps:∀ p∈ps,p)(hq:Yr C T H o=some (ps,s,H')):QOut C T H o σ φ a w s H':=by
 have hx:=h.rel x;have nx:=h.nm x;have hi:=h.rel i;simp only[Yr,ho] at hq;split at hq<;>try (cases hq;done)
 case h_2 =>
  rename_i s0 k0 j0 hd hc hci;simp only[ZA,Zs] at hq;obtain⟨v,hp,_,rfl,rfl⟩:=hq;have e1:Ybg (opnd T x)=some (.string s0):=by rw[hc];rfl
  have e2:Ybg (opnd T i)=some (.int k0 j0):=by rw[hci];rfl
  exact QOut.pure_ h hp (by unfold execOp;rw[ho];simp only[e1,e2,Zcm,h.val e1,h.val e2])
 rename_i n e l k j hd hc hci;split at hq<;>try (cases hq;done)
 rename_i ei hei;simp only[ZA,Zs] at hq;obtain⟨s',hp,rfl,rfl,rfl⟩:=hq;rw[hc] at hx nx;rw[hci] at hi;have hj0:0<=j:=hps _ (by simp);have hj1:j<(n:Int):=hps _ (by simp);have ei':a.eval i = .int k j:=hi;obtain⟨vs,e',hr⟩:=(show TV.rel σ (.agg l) _ from hx)
 obtain⟨u,h1,h2,h3⟩:=Yen hr (fun c hc m hm=>nx m (ZK.2 ⟨c,hc,hm⟩)) hp
 exact QOut.same h.sat u h1 h2 fun w' _=>by
  have:=h3 w';simp[execOp,ho,e',ei',Instr.index,asIntOf,run_underlying hd,hj0,hj1,Yv hei,this]

theorem Yq (hC:C.OK){t:TypeId}{e:C.EC}(h:YbJ C t=some e):C.P.underlying t=some (.slice (C.tid e)):=by
 unfold YbJ at h;split at h
 .rename_i x hx;rw[hx,hC.byT _ _ h]
 .cases h

theorem YiU {t:TypeId}{x i:Operand}(h:Pre C T H σ φ a w)(ho:o.op = .indexAddr t x i)(hps:∀ p∈ps,p)(hq:Yr C T H o=some (ps,s,H')):QOut C T H o σ φ a w s H':=by
 have hx:=h.rel x;have nx:=h.nm x;have hi:=h.rel i;simp only[Yr,ho] at hq;split at hq<;>try (cases hq;done)
 .rename_i n k j hc hci;split at hq<;>try (cases hq;done)
  case h_2 =>
   rename_i hh e ll e' hH he;split at hq<;>try (cases hq;done)
   rename_i hee hdq;subst hee;simp only[Zl,Zs] at hq;obtain⟨rfl,rfl,rfl⟩:=hq;rw[hc] at hx nx;rw[hci] at hi;have hj0:0<=j:=hps _ (by simp);have hj1:j<(ll.length:Int):=hps _ (by simp);have ei':a.eval i = .int k j:=hi;have ex:a.eval x=σ n:=hx;obtain⟨hz,⟨vs,hown,hR⟩,hf⟩:=h.sat.holds n _ hH;obtain⟨ti,z,hti,_,hsz,_⟩:=h.ok.info e';rcases hown.2 with ⟨_,e0⟩|⟨g,cap,cur,h4,_⟩
   .omega
   .refine QOut.same h.sat (.pointer (some ⟨g,0+j.toNat*1+0,none⟩)) ⟨g,0,_,_,h4,by omega,rfl⟩ (by simpa [SV.names,TV.names,At.names] using nx) fun w' _=>?_
    simp[execOp,ho,ei',ex,h4,Instr.indexAt,asIntOf,run_underlying (Yq h.ok he),hj0,hj1,Yv hti,hsz,hz,ZaU]
  case h_3 =>
   rename_i hh e kk ll e' hH he;split at hq<;>try (cases hq;done)
   rename_i hee hdq;subst hee;simp only[Zl,Zs] at hq;obtain⟨rfl,rfl,rfl⟩:=hq;rw[hc] at hx nx;rw[hci] at hi;have hj0:0<=j:=hps _ (by simp);have hj1:j<((kk+ll.length:Nat):Int):=hps _ (by simp);have ei':a.eval i = .int k j:=hi;have ex:a.eval x=σ n:=hx;obtain⟨hz,pre,us,hpl,hown,_⟩:=h.sat.holds n _ hH;obtain⟨ti,z,hti,_,hsz,_⟩:=h.ok.info e';rcases hown.2 with ⟨_,e0⟩|⟨g,cap,cur,h4,_⟩
   .omega
   .refine QOut.same h.sat (.pointer (some ⟨g,0+j.toNat*1+0,none⟩)) ⟨g,0,_,_,h4,by omega,rfl⟩ (by simpa [SV.names,TV.names,At.names] using nx) fun w' _=>?_
    have hj2:j<(kk:Int)+(ll.length:Int):=by omega
    simp[execOp,ho,ei',ex,h4,Instr.indexAt,asIntOf,run_underlying (Yq h.ok he),hj0,hj2,Yv hti,hsz,hz,ZaU]
  rename_i own e l e' hH he;split at hq<;>try (cases hq;done)
  rename_i hee hdq;subst hee;simp only[Zl,Zs] at hq;obtain⟨rfl,rfl,rfl⟩:=hq;rw[hc] at hx nx;rw[hci] at hi;have hj0:0<=j:=hps _ (by simp);have hj1:j<(l.length:Int):=hps _ (by simp);have ei':a.eval i = .int k j:=hi;have ex:a.eval x=σ n:=hx;obtain⟨A,c,h4,h5⟩:=(h.sat.holds n _ hH).rd h.ok;obtain⟨b,o',rfl,_,_⟩:=h5.get (by omega);obtain⟨ti,z,hti,_,hsz,_⟩:=h.ok.info e';refine QOut.same h.sat (.pointer (some ⟨b,o'+j.toNat*C.sz e'+0,none⟩)) ⟨b,o',_,_,h4,by omega,rfl⟩ (by simpa [SV.names,TV.names,At.names] using nx) fun w' _=>?_
  simp[execOp,ho,ei',ex,h4,Instr.indexAt,asIntOf,run_underlying (Yq h.ok he),hj0,hj1,Yv hti,hsz,ZaU]
 .rename_i n k kd j hc hci;split at hq<;>try (cases hq;done)
  rename_i m e hd;split at hq<;>try (cases hq;done)
  rename_i ei hei;simp only[Zl,Zs] at hq;obtain⟨rfl,rfl,rfl⟩:=hq;rw[hc] at hx nx;rw[hci] at hi;have hj0:0<=j:=hps _ (by simp);have hj1:j<(m:Int):=hps _ (by simp);have ei':a.eval i = .int kd j:=hi;obtain⟨b,h1,h2⟩:=hx;have ex:a.eval x = .pointer (some ⟨b,k,none⟩):=h2;refine QOut.same h.sat (.pointer (some ⟨b,k+j.toNat*ei.size,none⟩)) ⟨b,h1,rfl⟩ (by simpa [SV.names,TV.names,At.names] using nx) fun w' _=>?_
  simp[execOp,ho,ei',ex,Instr.indexAt,Instr.sureAddr,asIntOf,run_underlying hd,hj0,hj1,Yv hei,ZaU]

theorem Ymo {x:Operand}{k:Nat}(h:Pre C T H σ φ a w)(ho:o.op = .extract x k)(hq:Yr C T H o=some (ps,s,H')):QOut C T H o σ φ a w s H':=by
 have hx:=h.rel x;have nx:=h.nm x;simp only[Yr,ho] at hq;split at hq<;>try (cases hq;done)
 rename_i l hc;simp only[ZA,Zs] at hq;obtain⟨y,hy,_,rfl,rfl⟩:=hq;rw[hc] at hx nx;obtain⟨vs,e,hr⟩:=hx;obtain⟨u,hu,hru⟩:=hr.get hy;exact QOut.same h.sat u hru (fun m hm=>nx m (ZK.2 ⟨y,ZD hy,hm⟩)) fun w' _=>by simp[execOp,ho,e,Instr.extract,hu]

theorem Ylg:∀ {l:List SV} {cs:LN} {vs:List Value},caps l=some cs->Rels (SV.rel σ) l vs->vs=cs.map σ/\(∀ c∈cs,∃ b,σ c = .pointer (some ⟨b,0,none⟩))/\∀ n,(∀ s∈l,∀ m∈s.names,m<n)->∀ c∈cs,c<n:=by
 intro l
 induction l with
 | nil=>intro cs vs h hr;simp[caps] at h;subst h;exact⟨ZM hr.1.symm,by simp,by simp⟩
 | cons x l ih =>
  intro cs vs h hr;unfold caps at h;split at h
  .cases ‹_::_=[]›
  .rename_i n t heq;obtain⟨rfl,rfl⟩:x = .one (.at (.ptr n 0))/\l=t:=by simpa using heq
   simp only[ZA] at h;obtain⟨cs',h1,rfl⟩:=h
   match vs,hr with
   | [],hr=>exact absurd hr.1 (by simp)
   | v::vs,hr =>
    obtain⟨b,e1,e2⟩:=(show At.rel σ (.ptr n 0) v from hr.2 0 _ _ rfl rfl)
    obtain⟨e3,e5,e4⟩:=ih h1 (vs:=vs) ⟨by simpa using hr.1,fun i x y hx hy=>hr.2 (i+1) x y (by simpa using hx) (by simpa using hy)⟩;refine⟨by rw[e3,e2,ZaA,e1],fun c hc=>?_,fun k hk c hc=>?_⟩
    .rcases ZH.1 hc with rfl|hc
     .exact⟨b,e1⟩
     .exact e5 c hc
    rcases ZH.1 hc with rfl|hc
    .exact hk (.one (.at (.ptr c 0))) (by simp) c (by simp[SV.names,TV.names,At.names])
    .exact e4 k (fun s hs=>hk s (by simp[hs])) c hc
  .cases h

theorem Ybt (h:Pre C T H σ φ a w)(l:List Operand):Rels (SV.rel σ) (l.map (opnd T)) (l.map a.eval) :=
 ⟨by simp,fun i x y hx hy=>by
  rw[Zv] at hx hy;cases hl:l[i]? with
  | none=>rw[hl] at hx;cases hx
  | some p=>rw[hl] at hx hy;simp at hx hy;subst hx hy;exact h.rel p⟩

theorem Ylh {fn:Fn}{fs cs:Array Operand}(h:Pre C T H σ φ a w)(ho:o.op = .makeFunc fn fs cs)(hq:Yr C T H o=some (ps,s,H')):QOut C T H o σ φ a w s H':=by
 cases fn<;>try (simp[Yr,ho] at hq;done)
 rename_i f;simp only[Yr,ho] at hq;split at hq<;>try (cases hq;done)
 rename_i hfs;simp only[ZA,Zs] at hq;obtain⟨l,hl,_,rfl,rfl⟩:=hq;obtain⟨e1,e5,e2⟩:=Ylg hl (Ybt h cs.toList);refine QOut.same h.sat (.func (.func f) #[] (l.map σ).toArray) ⟨rfl,e5⟩ (fun m hm=>?_) fun w' _=>?_
 .simp[SV.names,TV.names,At.names] at hm;refine e2 H.length (fun s hs m hm=>?_) m hm;obtain⟨x,_,rfl⟩:=ZF.1 hs;exact h.nm x m hm
 .have e3:fs=#[]:=ZbN (by simpa using hfs)
  have e4:cs.map a.eval=(l.map σ).toArray:=by
   apply ZbN;simp[<-e1]
  rw[<-e4];simp[execOp,ho,Instr.makeFunc,e3]
end
end
section
section
variable {C:Ctx}
variable {T:List SV} {H:LH C} {o:Oper} {σ:Nat->Value} {φ:Nat->Nat->Prop} {a:Act} {w:World} {ps:List Prop} {s:SV} {H':LH C}

theorem YjX (hC:C.OK)(hs:Sat C σ φ w H){x:At}{v:Value}(h:okAt H x=true)(hr:x.rel σ v):v.oneCell'=true:=by
 cases x with
 | any=>simp[okAt] at h
 | val u =>
  have:v=u:=hr;subst this;cases v<;>simp_all [okAt,Value.oneCell']
 | ptr n off=>obtain⟨b,_,rfl⟩:=hr;rfl
 | eptr n i sz off=>obtain⟨b,o,len,cap,_,_,rfl⟩:=hr;rfl
 | slc n =>
  simp only[okAt] at h;split at h
  .rename_i own e l hH;obtain⟨A,c,h1,_⟩:=(hs.holds n _ hH).rd hC;have:v=σ n:=hr;rw[this,h1];rfl
  .rename_i kk vk l hH;obtain⟨b,es,ck,h1,_⟩:=hs.holds n _ hH;have:v=σ n:=hr;rw[this,h1];rfl
  .rename_i hh e ll hH;obtain⟨_,⟨vs,ho,_⟩,_⟩:=hs.holds n _ hH;have:v=σ n:=hr;rw[this];rcases ho.2 with ⟨h1,_⟩|⟨g,cap,cur,h1,_⟩
   .rw[h1];rfl
   .rw[h1];rfl
  .cases h
 | fn f cs=>have:v=_:=hr.1;subst this;rfl

theorem Ygf {v:Value}(h:v.oneCell'=true):v.cells.toList=[v]:=by
 cases v<;>simp_all [Value.oneCell',Value.cells]

theorem Yah (hC:C.OK)(hs:Sat C σ φ w H){x:SV}{v:Value}{cs:List At}(h:Ycu H x=some cs)(hr:x.rel σ v):Rels (At.rel σ) cs v.cells.toList/\∀ c∈cs,∀ m∈c.names,m∈x.names:=by
 match x with
 | .one (.at y) =>
  simp only[Ycu] at h;split at h
  .rename_i hy;simp only[Zl] at h;subst h;have h1:=YjX hC hs hy hr;rw[Ygf h1];exact⟨Rels.cons hr Rels.nil,fun c hc m hm=>by simp at hc;subst hc;exact hm⟩
  .cases h
 | .one (.agg l) =>
  simp only[Ycu,Zl] at h;subst h;obtain⟨vs,rfl,hr'⟩:=hr;exact⟨hr',fun c hc m hm=>ZK.2 ⟨c,hc,hm⟩⟩
 | .tup l=>simp[Ycu] at h

theorem Yeo {α β:Type}{R:α->β->Prop}{l:List α}{m:List β}{l':List α}{m':List β}(h:Rels R l m)(h':Rels R l' m')(off:Nat):Rels R (YC l off l') (YC m off m'):=by
 unfold YC;rw[<-h'.1];exact (h.take off).append (h'.append (h.drop _))

theorem Ybk {α:Type}{l l':List α}{off:Nat}(h:off+l'.length<=l.length):(YC l off l').length=l.length:=by
 simp[YC];omega

theorem Yli {α:Type}{l vs:List α}{v:α}{p:Nat}(h:p+(vs.length+1)<=l.length):YC (l.set p v) (p+1) vs=YC l p (v::vs):=by
 have hA:(l.take p).length=p:=by simp;omega
 have e:l.set p v=l.take p++v::l.drop (p+1):=by rw[List.set_eq_take_append_cons_drop,Zj (by omega)]
 unfold YC;rw[e,List.take_append,List.drop_append,hA,Zay (by omega),show p+1-p=1 by omega,Zbr (by omega:(l.take p).length<=p+1+vs.length)];simp only[List.take_succ_cons,List.take_zero,ZS,ZQ,Zo,ZaW];rw[show p+1+vs.length-p=vs.length+1 by omega,List.drop_succ_cons,Zcb];rw[show p+1+vs.length=p+(vs.length+1) by omega]

theorem Ymp (off:Nat):∀ (vs:List Value) (k:Nat) (cs:Array Value),off+k+vs.length<=cs.size →
  ((vs.zipIdx k).foldl (fun cs (x:Value × Nat)=>cs.setIfInBounds (off+x.2) x.1) cs).toList=YC cs.toList (off+k) vs:=by
 intro vs
 induction vs with
 | nil=>intro k cs h;simp[YC]
 | cons v vs ih =>
  intro k cs h;simp only[ZQ] at h;rw[List.zipIdx_cons,ZbS,ih (k+1) _ (by simp;omega)];simp only[ZbO];exact Yli (by simp;omega)

theorem Ydy (place:Nat->Option (Nat × Nat))(hC:C.OK)(hs:Sat C σ φ w H):∀ (parts:List (Nat × SV)) (vs:List (Nat × Value)) (z:List At) (cs:Array Value) {cells:List At},
  parts.map (·.1)=vs.map (·.1)->Rels (SV.rel σ) (parts.map (·.2)) (vs.map (·.2))->Rels (At.rel σ) z cs.toList->Yco C H place z parts=some cells →
  (∀ p∈parts,∀ m∈p.2.names,m<H.length)->(∀ c∈z,∀ m∈c.names,m<H.length) →
  ∃ cs',Instr.fill place cs vs=some cs'/\Rels (At.rel σ) cells cs'.toList/\∀ c∈cells,∀ m∈c.names,m<H.length:=by
 intro parts
 induction parts with
 | nil =>
  intro vs z cs cells hk hr hz hb _ hn;cases vs with
  | nil=>simp[Yco] at hb;subst hb;exact⟨cs,rfl,hz,hn⟩
  | cons v vs=>simp at hk
 | cons p parts ih =>
  intro vs z cs cells hk hr hz hb hn hzn;obtain⟨i,x⟩:=p;cases vs with
  | nil=>simp at hk
  | cons q vs =>
   obtain⟨i',v⟩:=q;simp only[ZaA,ZbF] at hk;obtain⟨rfl,hk⟩:=hk;have hrx:x.rel σ v:=hr.2 0 _ _ rfl rfl;have hrt:Rels (SV.rel σ) (parts.map (·.2)) (vs.map (·.2)):=⟨by simpa using hr.1,fun i a b ha hb=>hr.2 (i+1) a b (by simpa using ha) (by simpa using hb)⟩
   simp only[Yco] at hb;split at hb<;>try (cases hb;done)
   rename_i off size cl hp hc;split at hb<;>try (cases hb;done)
   rename_i hle;obtain⟨h1,h2⟩:=Yah hC hs hc hrx;have hsz:v.cells.size=cl.length:=by rw[h1.1];simp
   have hzs:z.length=cs.size:=by rw[hz.1];simp
   have hf:=Ymp off v.cells.toList 0 cs (by simp;omega);rw[Zbb] at hf
   have hset:v.cells.zipIdx.foldl (fun cs (x:Value × Nat)=>cs.setIfInBounds (off+x.2) x.1) cs=(v.cells.toList.zipIdx).foldl (fun cs (x:Value × Nat)=>cs.setIfInBounds (off+x.2) x.1) cs:=by
    rw[<-Array.foldl_toList,Array.toList_zipIdx]
   obtain⟨cs',g1,g2,g3⟩:=ih vs (YC z off cl) (v.cells.zipIdx.foldl (fun cs (x:Value × Nat)=>cs.setIfInBounds (off+x.2) x.1) cs) hk hrt (by rw[hset,hf];exact Yeo hz h1 off) hb
    (fun p hp=>hn p (Zz _ hp)) (fun c hc m hm=>by
     simp only[YC,Zx] at hc;rcases hc with hc|hc|hc
     .exact hzn c (Zac hc) m hm
     .exact hn (i,x) ZP m (h2 c hc m hm)
     .exact hzn c (Zaj hc) m hm)
   refine⟨cs',?_,g2,g3⟩;rw[Instr.fill];simp only[hp];rw[Zf (by simp only[Bool.or_eq_true,ZaE,not_or];omega)];exact g1

theorem Yep (_:C.OK){t:TypeId}{z:List At}(h:YoQ C t=some z):∃ i v,C.P.info? t=some i/\i.zero=some v/\z=v.cells.toList.map .val:=by
 unfold YoQ at h;split at h
 .rename_i i hi;simp only[ZA] at h;obtain⟨v,h1,rfl⟩:=h;exact⟨i,v,hi,h1,rfl⟩
 .cases h

theorem Ylj {P:Program}:∀ (fs:List Field),(∀ f∈fs,(P.info? f.type).isSome=true)->∀ w,(fs.mapM (m:=Sem) fun f=>do pure (f.offset,<-sizeOf f.type)).run P w = .ok (fs.map fun f=>(f.offset,((P.info? f.type).map (·.size)).getD 0)) w:=by
 intro fs
 induction fs with
 | nil=>intro _ w;simp
 | cons f fs ih =>
  intro h w;obtain⟨i,hi⟩:=Zbj.1 (h f (by simp));have:=ih (fun g hg=>h g (by simp[hg])) w;simp only[List.mapM_cons,Zag,Yv hi,Zax,ZaJ,this,ZaA,hi,ZaL,Zcm]

theorem Ymq (_:C.OK){t:TypeId}{i:TypeInfo}{v:Value}(hb:YiM C t=true)(hi:C.P.info? t=some i)(hz:i.zero=some v){vs:Array (Nat × Value)}{cs:Array Value}(hf:Instr.fill (Yei C t) v.cells vs.toList=some cs)(w:World) :
  (Instr.build t vs).run C.P w = .ok (.agg cs) w:=by
 unfold YiM at hb;have hzr:(zeroValue t).run C.P w = .ok v w:=by simp[zeroValue,typeInfo,hi,hz]
 split at hb
 .rename_i fs hfs
  have hpl:Yei C t=fun i=>(fs.toList.map fun f=>(f.offset,((C.P.info? f.type).map (·.size)).getD 0)).toArray[i]?:=by
   funext k
   unfold Yei;rw[hfs];simp only[List.getElem?_toArray,Zv,ZaR];cases hk:fs[k]? with
   | none=>rfl
   | some f =>
    have hm:f∈fs.toList:=by
     have:=Array.mem_of_getElem? hk
     simpa using this
    obtain⟨j,hj⟩:=Zbj.1 (Zao.1 hb f hm);simp[hj]
  have hrun:=Ylj (P:=C.P) fs.toList (fun f hf=>Zao.1 hb f hf) w;rw[hpl] at hf;unfold Instr.build
  have hm:(fs.mapM (m:=Sem) fun f=>do pure (f.offset,<-sizeOf f.type)).run C.P w = .ok (fs.toList.map fun f=>(f.offset,((C.P.info? f.type).map (·.size)).getD 0)).toArray w:=by
   rw[Array.mapM_eq_mapM_toList,Sem.run_map,hrun]
   rfl
  simp only[Zag,hzr,Zax,run_underlying hfs,hm,hf,ZaJ]
 .rename_i n e he;obtain⟨j,hj⟩:=Zbj.1 hb;have hpl:Yei C t=fun i=>some (i*j.size,j.size):=by funext k;simp[Yei,he,hj]
  rw[hpl] at hf;unfold Instr.build;simp[hzr,run_underlying he,Yv hj,hf]
 .cases hb

theorem Yeq (h:Pre C T H σ φ a w)(parts:List (Nat × Operand)) :
  (parts.map fun p=>(p.1,opnd T p.2)).map (·.1)=(parts.map fun p=>(p.1,a.eval p.2)).map (·.1)/\Rels (SV.rel σ) ((parts.map fun p=>(p.1,opnd T p.2)).map (·.2)) ((parts.map fun p=>(p.1,a.eval p.2)).map (·.2)):=by
 constructor
 .simp[Function.comp_def]
 .have:=Ybt h (parts.map (·.2))
  simpa [Function.comp_def] using this

theorem YrP {t:TypeId}{parts:Array (Nat × Operand)}(h:Pre C T H σ φ a w)(ho:o.op = .build t parts)(hq:Yr C T H o=some (ps,s,H')):QOut C T H o σ φ a w s H':=by
 simp only[Yr,ho] at hq;split at hq<;>try (cases hq;done)
 rename_i z hz;split at hz<;>try (cases hz;done)
 rename_i hok;split at hq<;>try (cases hq;done)
 rename_i cells hb;simp only[Zl,Zs] at hq;obtain⟨_,rfl,rfl⟩:=hq;obtain⟨i,v,hi,hiz,rfl⟩:=Yep h.ok hz;obtain⟨e1,e2⟩:=Yeq h parts.toList
 obtain⟨cs',g1,g2,g3⟩:=Ydy (Yei C t) h.ok h.sat _ _ _ v.cells e1 e2 (Ybj _) hb (fun p hp m hm=>by
  obtain⟨q,_,rfl⟩:=ZF.1 hp;exact h.nm q.2 m hm) (fun c hc m hm=>by
  obtain⟨u,_,rfl⟩:=ZF.1 hc;simp[At.names] at hm)
 obtain⟨σ',φ',g,r,n⟩:=Ycq h.ok cells (Yfz C.P 20 t) h.sat g2 g3;refine⟨.agg cs',σ',φ',g,⟨cs'.toList,by simp,r⟩,fun m hm=>?_,fun w' _=>?_⟩
 .obtain⟨c,hc,hm⟩:=ZK.1 hm;exact n c hc m hm
 .have hrun:=Ymq h.ok hok hi hiz (vs:=parts.map fun p=>(p.1,a.eval p.2)) (cs:=cs') (by simpa using g1) w';simp[execOp,ho,hrun]
end
end
end Go.Proofs.YtedfbafngmicpaaGreat.Sx
