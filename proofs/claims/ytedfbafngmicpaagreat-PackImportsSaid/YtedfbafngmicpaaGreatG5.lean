/- word: AppendKey, Key, Zigzag, Unzigzag. -/
import Derived.Test.YtedfbafngmicpaaGreatG0
import Derived.Test.YtedfbafngmicpaaGreatG1
import Derived.Test.YtedfbafngmicpaaGreatG4
noncomputable section
open Go.IntKind renaming i64 → Za,u32 → Ze,u64 → Zd
open Go.Value renaming bool → Zi,int → Zm
open Int renaming toNat → Zq
open List renaming drop → Zp,take → Zn
section
namespace Go.Proofs.YtedfbafngmicpaaGreat

def Ybm (e:Ent):Bool->LE->LE
 | put,[]=>if put then [] else [e]
 | put,x::t=>(if !put && decide (e.1<=x.1) then [e] else [])++((if x.1=e.1 then [] else [x])++Ybm e (put || decide (e.1<=x.1)) t)

theorem Yni (e:Ent):∀ (l:LE) (put:Bool),(Ybm e put l).length<=l.length+(if put then 0 else 1):=by
 intro l
 induction l with
 | nil=>intro put;cases put<;>simp[Ybm]
 | cons x t ih =>
  intro put;simp only[Ybm,Zh,ZQ];have h1:=ih (put || decide (e.1<=x.1));have h2:(if x.1=e.1 then ([]:LE) else [x]).length<=1:=by split<;>simp
  cases put
  .by_cases h:e.1<=x.1
   .simp[h] at h1 ⊢;omega
   .simp[h] at h1 ⊢;omega
  .simp at h1 ⊢;omega

abbrev insE (l:LE)(e:Ent):LE:=Ybm e false l

theorem Yec (l:LE)(e:Ent):(insE l e).length<=l.length+1:=by simpa using Yni e l false

theorem YfQ {e:Ent}:∀ {l:LE},(∀ x∈l,e.1<x.1)->Ybm e true l=l:=by
 intro l
 induction l with
 | nil=>intro _;simp[Ybm]
 | cons x t ih =>
  intro h;have hx:=h x ZP;have:¬ x.1=e.1:=by omega
  simp[Ybm,this,ih fun y hy=>h y (Zz _ hy)]

theorem Yag {e x:Ent}{t:LE}(h:Asc (x::t)):insE (x::t) e=if e.1<x.1 then e::x::t else if x.1=e.1 then e::t else x::insE t e:=by
 have hh:=h.head;rcases Zcf e.1 x.1 with c|c|c
 .have h1:e.1<=x.1:=by omega
  have h2:¬ x.1=e.1:=by omega
  simp[insE,Ybm,h1,h2,c,YfQ (e:=e) (l:=t) fun y hy=>by have:=hh y hy;omega]
 .have h1:e.1<=x.1:=by omega
  have h2:¬ e.1<x.1:=by omega
  simp[insE,Ybm,c,YfQ (e:=e) (l:=t) fun y hy=>by have:=hh y hy;omega]
 .have h1:¬ e.1<=x.1:=by omega
  have h2:¬ x.1=e.1:=by omega
  have h3:¬ e.1<x.1:=by omega
  simp[insE,Ybm,h1,h2,h3]

theorem YgE {l:LE}{e z:Ent}(h:Asc l)(hz:z∈insE l e):z=e∨z∈l:=by
 induction l with
 | nil=>simp[insE,Ybm] at hz;exact .inl hz
 | cons x t ih =>
  rw[Yag h] at hz;split at hz
  .rcases ZH.1 hz with rfl|hz
   .exact .inl rfl
   .exact .inr hz
  .split at hz
   .rcases ZH.1 hz with rfl|hz
    .exact .inl rfl
    .exact .inr (Zz _ hz)
   .rcases ZH.1 hz with rfl|hz
    .exact .inr ZP
    .rcases ih h.tail hz with rfl|hz
     .exact .inl rfl
     .exact .inr (Zz _ hz)

theorem Yed {l:LE}(e:Ent)(h:Asc l):Asc (insE l e):=by
 induction l with
 | nil=>simp[insE,Ybm,Srt]
 | cons x t ih =>
  rw[Yag h];split
  .rename_i c
   exact Srt.cons h fun y hy=>by
    rcases ZH.1 hy with rfl|hy
    .exact c
    .have:=h.head y hy;omega
  .split
   .rename_i c;exact Srt.cons h.tail fun y hy=>by have:=h.head y hy;omega
   .rename_i c1 c2;refine Srt.cons (ih h.tail) fun y hy=>?_
    rcases YgE h.tail hy with rfl|hy
    .omega
    .exact h.head y hy

theorem Ypt {l:LE}(e:Ent)(h:Asc l)(q:Int):getE (insE l e) q=if e.1=q then some e.2 else getE l q:=by
 obtain⟨k,v⟩:=e
 induction l with
 | nil=>simp[insE,Ybm,getE]
 | cons x t ih =>
  obtain⟨a,b⟩:=x;rw[Yag h]
  by_cases c1:k<a
  .simp only[Zj c1,getE]
  .rw[Zf c1]
   by_cases c2:a=k
   .subst c2;simp[getE];split<;>simp_all
   .rw[Zf c2];simp only[getE,ih h.tail]
    by_cases c3:a=q
    .simp[c3,show ¬ k=q by omega]
    .simp[c3]

def YT (raw:LE)(most:Nat):LE:=(raw.take most).foldl insE []

theorem YfR (raw:LE)(most:Nat):Asc (YT raw most)/\(YT raw most).length<=most:=by
 unfold YT;have h1:(raw.take most).length<=most:=List.length_take_le _ _;generalize raw.take most=xs at h1
 have:∀ (xs acc:LE),Asc acc->Asc (xs.foldl insE acc)/\(xs.foldl insE acc).length<=acc.length+xs.length:=by
  intro xs
  induction xs with
  | nil=>intro acc h;exact⟨h,by simp⟩
  | cons x t ih =>
   intro acc h;have:=ih _ (Yed x h);have h2:=Yec acc x;exact⟨this.1,by simp only[ZbS,ZQ];omega⟩
 have:=this xs [] Srt.nil;exact⟨this.1,by simp at this;omega⟩

end Go.Proofs.YtedfbafngmicpaaGreat
end
namespace Go.Proofs.YtedfbafngmicpaaGreat.Sx
open Go
theorem YgF {x:Int}(h0 : -9223372036854775808<=x)(h1:x<=9223372036854775807):Za.wrap x=x:=by
 rw[IntKind.wrap_i64];omega
theorem Yju {α:Type}{l m:List α}{k:Nat}{x y:α}(hl:l[k]?=some x)(hm:m[k]?=some y):(l.drop k=m.drop k)↔x=y/\l.drop (k+1)=m.drop (k+1):=by
 rw[YaU hl,YaU hm,ZbF]
def YuH {α:Type}[DecidableEq α](l m:List α):Bool:=decide (l=m)
structure XS {α:Type} [DecidableEq α] (l m:List α) where
 i:Nat
 h:i<=l.length/\l.length=m.length/\YuH l m=decide (l.drop i=m.drop i)
theorem XS.next {α:Type}[DecidableEq α]{l m:List α}(z:XS l m){x y:α}(hx:l[z.i]?=some x)(hy:m[z.i]?=some y)(he:x=y):∃ z':XS l m,z'.i=z.i+1:=by
 have h1:=(Zt.1 hx).1;refine⟨⟨z.i+1,by omega,z.h.2.1,?_⟩,rfl⟩;rw[z.h.2.2];apply decide_eq_decide.2;rw[Yju hx hy];exact⟨fun h=>h.2,fun h=>⟨he,h⟩⟩
theorem XS.fin {α:Type}[DecidableEq α]{l m:List α}(z:XS l m)(h:z.i=l.length):YuH l m=true:=by
 rw[z.h.2.2,h,Zco,z.h.2.1,Zco];rfl
theorem Ypu {l:LE}{k:Nat}{x y:Ent}(hx:l[k]?=some x)(hy:l[k+1]?=some y):Asc (l.drop k)↔x.1<y.1/\Asc (l.drop (k+1)):=by
 rw[YaU hx,YaU hy];constructor
 .intro h;exact⟨h.head _ (by simp),h.tail⟩
 .rintro ⟨h1,h2⟩
  refine h2.cons fun z hz=>?_
  rcases ZH.1 hz with rfl|hz
  .exact h1
  .have:=h2.head z hz;omega
structure XA (l:LE) where
 i:Nat
 h:1<=i/\(i<=l.length∨i=1)/\(Asc l↔Asc (l.drop (i-1)))
theorem XA.split {l:LE}(z:XA l)(hi:z.i<l.length):(ascB l=true↔(eA l (z.i-1)).1<(eA l z.i).1/\Asc (l.drop z.i)):=by
 obtain⟨k,hk⟩:∃ k,z.i=k+1:=⟨z.i-1,by have:=z.h.1;omega⟩
 have h1:=Yie (p:=l) (n:=k) (by omega);have h2:=Yie (p:=l) (n:=k+1) (by omega);have h3:=Ypu h1 h2;have h4:=z.h.2.2;rw[hk] at h4 ⊢;simp only[Nat.add_sub_cancel] at h4 ⊢;rw[ascB,ZaE,h4,h3]
theorem XA.fin {l:LE}(z:XA l)(hi:l.length<=z.i):ascB l=true:=by
 rw[ascB,ZaE,z.h.2.2];have:(l.drop (z.i-1)).length<=1:=by simp;omega
 match l.drop (z.i-1),this with
 | [],_=>exact Srt.nil
 | [x],_=>exact Srt.nil.cons (by simp)
def outE (l:LE)(lo hi:Int):LE:=l.filter fun x=>decide (x.1<lo) || decide (hi<x.1)
structure XOut (l:LE) (lo hi:Int) where
 i:Nat
 h:i<=l.length
def aOut (l:LE)(lo hi:Int):Ann C0:={ Γ:=[],inv:=fun n=>match n with
 | 3=>some { X:=XOut l lo hi,sl:=[8,7],tf:=fun x=>[vi .i64 x.i,.one (.at (.slc 1))],hf:=fun x=>[.row false .ent l,.row true .ent (outE (l.take x.i) lo hi)],μ:=fun x=>l.length-x.i }
 | _=>none }
def tOut:Tfm C0:=fun args H K=>match args,H with
 | [.at (.slc 0),.at (.val (.int .i64 lo)),.at (.val (.int .i64 hi))],[.row false .ent l]=>l.length<=1000000/\K (.one (.at (.slc 1))) [.row false .ent l,.row true .ent (outE l lo hi)] []
 | _,_=>False
theorem Ynj {l:LE}{lo hi:Int}{i:Nat}{x:Ent}(h:l[i]?=some x):outE (l.take (i+1)) lo hi=outE (l.take i) lo hi++(if (decide (x.1<lo) || decide (hi<x.1))=true then [x] else []):=by
 rw[YeI h];unfold outE;rw[ZcH];simp only[ZbB,List.filter_nil]
theorem Ypv (l:LE)(lo hi:Int)(i:Nat):(outE (l.take i) lo hi).length<=i:=by
 unfold outE;exact Zap (Zcs _ _) (List.length_take_le _ _)
theorem YuI (l:LE)(lo hi:Int)(K:KT)(hsm:l.length<=1000000)(h:K (.one (.at (.slc 1))) [.row false .ent l,.row true .ent (outE l lo hi)] []) :
  vc C0 (aOut l lo hi) Tryz.f114 [.at (.slc 0),.at (.val (.int .i64 lo)),.at (.val (.int .i64 hi))] [.row false .ent l] (Yh 1 K):=by
 refine Eq.mp (show ((∃ x:XOut l lo hi,True/\(True/\VI (lo)=VI (lo)/\VI (hi)=VI (hi)/\True/\VI 0=(VI (x.i:Int))/\True)/\l=l/\[]=(outE (Zn x.i l) lo hi)/\True)/\∀ x:XOut l lo hi,True->brS (decide ((x.i:Int)<(l.length:Int))) (0<=(x.i:Int)/\(x.i:Int)<(l.length:Int)/\brS (decide ((eA l x.i).fst<lo)) (0<=(x.i:Int)/\(x.i:Int)<(l.length:Int)/\((outE (Zn x.i l) lo hi).length+[((eA l x.i).fst,(eA l x.i).snd)].length)*Yd C0 EC.ent<=140737488355328/\∃ x':XOut l lo hi,True/\((True/\VI (lo)=VI (lo)/\VI (hi)=VI (hi)/\True/\(VI (Za.wrap ((x.i:Int)+1)))=(VI (x'.i:Int))/\True)/\l=l/\(outE (Zn x.i l) lo hi++[((eA l x.i).fst,(eA l x.i).snd)])=(outE (Zn x'.i l) lo hi)/\True)/\l.length-x'.i<l.length-x.i) (0<=(x.i:Int)/\(x.i:Int)<(l.length:Int)/\brS (decide ((eA l x.i).fst>hi)) (0<=(x.i:Int)/\(x.i:Int)<(l.length:Int)/\((outE (Zn x.i l) lo hi).length+[((eA l x.i).fst,(eA l x.i).snd)].length)*Yd C0 EC.ent<=140737488355328/\∃ x':XOut l lo hi,True/\((True/\VI (lo)=VI (lo)/\VI (hi)=VI (hi)/\True/\(VI (Za.wrap ((x.i:Int)+1)))=(VI (x'.i:Int))/\True)/\l=l/\(outE (Zn x.i l) lo hi++[((eA l x.i).fst,(eA l x.i).snd)])=(outE (Zn x'.i l) lo hi)/\True)/\l.length-x'.i<l.length-x.i) (∃ x':XOut l lo hi,True/\((True/\VI (lo)=VI (lo)/\VI (hi)=VI (hi)/\True/\(VI (Za.wrap ((x.i:Int)+1)))=(VI (x'.i:Int))/\True)/\l=l/\(outE (Zn x.i l) lo hi)=(outE (Zn x'.i l) lo hi)/\True)/\l.length-x'.i<l.length-x.i))) (K (.one (.at (.slc 1))) [(.row false .ent (l)),(.row true .ent (outE (Zn x.i l) lo hi))] []))=_ by kernel_rfl) ?_
 refine⟨⟨⟨0,ZC _⟩,by simp[outE]⟩,fun x _=>Ya (fun hi'=>?_) fun hi'=>?_⟩
 .have hi':x.i<l.length:=by simpa using hi'
  have hx:=Yie hi';have hs:=Ynj (lo:=lo) (hi:=hi) hx;have hlen:=Ypv l lo hi x.i;have nx:XOut l lo hi:=⟨x.i+1,by omega⟩
  have w1:Za.wrap ((x.i:Int)+1)=((x.i+1:Nat):Int):=by rw[YgF (by omega) (by omega)];simp
  simp only[w1,Ydb];refine⟨by omega,by omega,Ya (fun h1=>⟨by omega,by omega,?_,⟨⟨x.i+1,by omega⟩,?_⟩⟩) fun h1=>⟨by omega,by omega,Ya (fun h2=>⟨by omega,by omega,?_,⟨⟨x.i+1,by omega⟩,?_⟩⟩) fun h2=>⟨⟨x.i+1,by omega⟩,?_⟩⟩⟩
  .simp;omega
  .rw[Zj (by simp only[ZaE] at h1;simp[h1])] at hs;simp[hs];omega
  .simp;omega
  .rw[Zj (by simp only[ZaE] at h2;simp;omega)] at hs;simp[hs];omega
  .rw[Zf (by simp only[ZbD] at h1 h2;simp;omega)] at hs;simp[hs];omega
 .have hi':x.i=l.length:=by have:=x.h;simp at hi';omega
  rw[hi',ZJ];exact h
theorem Yxu:Tb C0 114 tOut:=by
 refine .of Tryz.func114 (by decide) rfl fun args H K h hB=>?_
 unfold tOut at h;split at h<;>try exact h.elim
 rename_i lo hi l;exact⟨aOut l lo hi,trivial,YuI l lo hi K h.1 h.2⟩
structure XIns (l:LE) (e:Ent) where
 i:Nat
 acc:LE
 put:Bool
 h:i<=l.length/\acc.length<=i+put.toNat/\insE l e=acc++Ybm e put (l.drop i)
def aIns (l:LE)(e:Ent):Ann C0:={ Γ:=[],inv:=fun n=>match n with
 | 4=>some { X:=XIns l e,sl:=[7,6,5,3],tf:=fun x=>[vi .i64 x.i,vb x.put,.one (.at (.slc 2)),.one (.at (.ptr 1 0))],hf:=fun x=>[.row false .ent l,.box [vI e.1,vI e.2],.row true .ent x.acc],μ:=fun x=>l.length-x.i }
 | _=>none }
def tIns:Tfm C0:=fun args H K=>match args,H with
 | [.at (.slc 0),.agg [.val (.int .i64 k),.val (.int .i64 v)]],[.row false .ent l]=>l.length<=1000000/\K (.one (.at (.slc 1))) [.row false .ent l,.row true .ent (insE l (k,v))] []
 | _,_=>False
theorem YlL {e x:Ent}{put:Bool}{l:LE}{i:Nat}(h:l[i]?=some x):Ybm e put (l.drop i)=(if !put && decide (e.1<=x.1) then [e] else [])++((if x.1=e.1 then [] else [x])++Ybm e (put || decide (e.1<=x.1)) (l.drop (i+1))):=by
 rw[YaU h,Ybm]
theorem XIns.next {l:LE}{e:Ent}(z:XIns l e){x:Ent}(hx:l[z.i]?=some x){put':Bool}{acc':LE}(hp:put'=(z.put || decide (e.1<=x.1)))(ha:acc'=z.acc++((if !z.put && decide (e.1<=x.1) then [e] else [])++(if x.1=e.1 then [] else [x]))):∃ z':XIns l e,z'.i=z.i+1/\z'.put=put'/\z'.acc=acc':=by
 have h1:=(Zt.1 hx).1;obtain⟨hi,hl,he⟩:=z.h;rw[YlL hx] at he;refine⟨⟨z.i+1,acc',put',by omega,?_,?_⟩,rfl,rfl,rfl⟩
 .subst hp ha;have h2:(if x.1=e.1 then ([]:LE) else [x]).length<=1:=by split<;>simp
  cases hz:z.put<;>rw[hz] at hl<;>by_cases hc:e.1<=x.1<;>simp[hc] at hl⊢<;> omega
 .subst hp ha;rw[he];simp only[Zo]
theorem XIns.fin {l:LE}{e:Ent}(z:XIns l e)(h:z.i=l.length):insE l e=z.acc++(if z.put then [] else [e]):=by
 rw[z.h.2.2,h,Zco];rfl
theorem    YuJ (l : LE) (k v : Int) (K : KT) (hsm : l.length ≤ 1000000) (h : K (.one (.at (.slc 1))) [.row false .ent l, .row true .ent (insE l (k, v))] []) :
    vc C0 (aIns l (k, v)) Tryz.f18 [.at (.slc 0), .agg [.val (.int .i64 k), .val (.int .i64 v)]] [.row false .ent l] (   Yh 1 K) := by
  refine Eq.mp (show ((∃ x:XIns l (k,v),True/\(True/\True/\True/\        Zi false=(        Zi (x.put))/\VI 0=(VI (x.i:Int))/\True)/\l=l/\(VI (k)=VI (k)/\VI (v)=VI (v)/\True)/\[]=x.acc/\True)/\∀ x:XIns l (k,v),True->brS (decide ((x.i:Int)<(l.length:Int))) (brS (!x.put) (0<=(x.i:Int)/\(x.i:Int)<(l.length:Int)/\brS (decide ((eA l x.i).fst≥k)) ((x.acc.length+[(k,v)].length)*     Yd C0 EC.ent<=140737488355328/\0<=(x.i:Int)/\(x.i:Int)<(l.length:Int)/\brS ((eA l x.i).fst != k) (0<=(x.i:Int)/\(x.i:Int)<(l.length:Int)/\((x.acc++[(k,v)]).length+[((eA l x.i).fst,(eA l x.i).snd)].length)*     Yd C0 EC.ent<=140737488355328/\∃ x':XIns l (k,v),True/\((True/\True/\True/\        Zi true=(        Zi (x'.put))/\(VI (         Za.wrap ((x.i:Int)+1)))=(VI (x'.i:Int))/\True)/\l=l/\(VI (k)=VI (k)/\VI (v)=VI (v)/\True)/\(x.acc++[(k,v)]++[((eA l x.i).fst,(eA l x.i).snd)])=x'.acc/\True)/\l.length-x'.i<l.length-x.i) (∃ x':XIns l (k,v),True/\((True/\True/\True/\        Zi true=(        Zi (x'.put))/\(VI (         Za.wrap ((x.i:Int)+1)))=(VI (x'.i:Int))/\True)/\l=l/\(VI (k)=VI (k)/\VI (v)=VI (v)/\True)/\(x.acc++[(k,v)])=x'.acc/\True)/\l.length-x'.i<l.length-x.i)) (0<=(x.i:Int)/\(x.i:Int)<(l.length:Int)/\brS ((eA l x.i).fst != k) (0<=(x.i:Int)/\(x.i:Int)<(l.length:Int)/\(x.acc.length+[((eA l x.i).fst,(eA l x.i).snd)].length)*     Yd C0 EC.ent<=140737488355328/\∃ x':XIns l (k,v),True/\((True/\True/\True/\(        Zi (x.put))=(        Zi (x'.put))/\(VI (         Za.wrap ((x.i:Int)+1)))=(VI (x'.i:Int))/\True)/\l=l/\(VI (k)=VI (k)/\
  VI (v)=VI (v)/\True)/\(x.acc++[((eA l x.i).fst,(eA l x.i).snd)])=x'.acc/\True)/\l.length-x'.i<l.length-x.i) (∃ x':XIns l (k,v),True/\((True/\True/\True/\(        Zi (x.put))=(        Zi (x'.put))/\(VI (         Za.wrap ((x.i:Int)+1)))=(VI (x'.i:Int))/\True)/\l=l/\(VI (k)=VI (k)/\VI (v)=VI (v)/\True)/\x.acc=x'.acc/\True)/\l.length-x'.i<l.length-x.i))) (0<=(x.i:Int)/\(x.i:Int)<(l.length:Int)/\brS ((eA l x.i).fst != k) (0<=(x.i:Int)/\(x.i:Int)<(l.length:Int)/\(x.acc.length+[((eA l x.i).fst,(eA l x.i).snd)].length)*     Yd C0 EC.ent<=140737488355328/\∃ x':XIns l (k,v),True/\((True/\True/\True/\(        Zi (x.put))=(        Zi (x'.put))/\(VI (         Za.wrap ((x.i:Int)+1)))=(VI (x'.i:Int))/\True)/\l=l/\(VI (k)=VI (k)/\VI (v)=VI (v)/\True)/\(x.acc++[((eA l x.i).fst,(eA l x.i).snd)])=x'.acc/\True)/\l.length-x'.i<l.length-x.i) (∃ x':XIns l (k,v),True/\((True/\True/\True/\(        Zi (x.put))=(        Zi (x'.put))/\(VI (         Za.wrap ((x.i:Int)+1)))=(VI (x'.i:Int))/\True)/\l=l/\(VI (k)=VI (k)/\VI (v)=VI (v)/\True)/\x.acc=x'.acc/\True)/\l.length-x'.i<l.length-x.i))) (brS (!x.put) ((x.acc.length+[(k,v)].length)*     Yd C0 EC.ent<=140737488355328/\K (.one (.at (.slc 1))) [(.row false .ent (l)),(.row true .ent (x.acc++[(k,v)]))] []) (K (.one (.at (.slc 1))) [(.row false .ent (l)),(.row true .ent (x.acc))] []))) = _ by kernel_rfl) ?_
  refine ⟨⟨⟨0, [], false,          ZC _, by simp, by simp⟩, by simp⟩, fun x _ =>     Ya (fun hi => ?_) fun hi => ?_⟩
  . have hi : x.i < l.length := by simpa using hi
    have hx :=    Yie hi;have hlen := x.h.2.1;have hpt : x.put.toNat ≤ 1 := by cases x.put <;> decide
    have w1 :          Za.wrap ((x.i : Int) + 1) = ((x.i + 1 : Nat) : Int) := by rw [    YgF (by omega) (by omega)]; simp
    simp only [w1,       Ydb]
    have go : ∀ (put' : Bool) (acc' : LE), put' = (x.put || decide (k ≤ (eA l x.i).1)) → acc' = x.acc ++ ((if !x.put && decide (k ≤ (eA l x.i).1) then [(k, v)] else []) ++ (if (eA l x.i).1 = k then [] else [eA l x.i])) →
        ∃ z' : XIns l (k, v), z'.i = x.i + 1 ∧ z'.put = put' ∧ z'.acc = acc' := fun put' acc' hp ha => x.next hx hp ha
    refine     Ya (fun hp => ⟨by omega, by omega,     Ya (fun hc => ⟨?_, by omega, by omega,     Ya (fun hn => ⟨by omega, by omega, ?_, ?_⟩) fun hn => ?_⟩) fun hc => ⟨by omega, by omega,     Ya (fun hn => ⟨by omega, by omega, ?_, ?_⟩) fun hn => ?_⟩⟩) fun hp => ⟨by omega, by omega,     Ya (fun hn => ⟨by omega, by omega, ?_, ?_⟩) fun hn => ?_⟩
    all_goals try simp only [              ZaE,                     ZbD, bne_iff_ne, ne_eq, Bool.not_eq_true', Bool.not_eq_false', bne_eq_false_iff_eq, ge_iff_le] at *
    all_goals first
      | (simp; omega)
      | (obtain ⟨z', e1, e2, e3⟩ := go _ _ rfl rfl
         refine ⟨z', ?_⟩;simp [*];omega)
  . have hi : x.i = l.length := by have := x.h.1; simp at hi; omega
    have hf := x.fin hi;have hlen := x.h.2.1;have hpt : x.put.toNat ≤ 1 := by cases x.put <;> decide
    refine     Ya (fun hp => ⟨?_, ?_⟩) fun hp => ?_
    . simp [      Ydb]; omega
    . simp at hp; rw [hp] at hf; simp at hf; rw [hf] at h; exact h
    . simp at hp; rw [hp] at hf; simp at hf; rw [hf] at h; exact h
theorem YuK:Tb C0 18 tIns:=by
 refine .of Tryz.func18 (by decide) rfl fun args H K h hB=>?_
 unfold tIns at h;split at h<;>try exact h.elim
 rename_i k v l;exact⟨aIns l (k,v),trivial,YuJ l k v K h.1 h.2⟩
def aDel:Ann C0:={ Γ:=[(114,Yc [] tOut)] }
def tDel:Tfm C0:=fun args H K=>match args,H with
 | [.at (.slc 0),.at (.val (.int .i64 q))],[.row false .ent l]=>l.length<=1000000/\K (.one (.at (.slc 1))) [.row false .ent l,.row true .ent (outE l q q)] []
 | _,_=>False
theorem YuL (l:LE)(q:Int)(K:KT)(h1:l.length<=1000000)(h2:K (.one (.at (.slc 1))) [.row false .ent l,.row true .ent (outE l q q)] []) :
  vc C0 aDel Tryz.f64 [.at (.slc 0),.at (.val (.int .i64 q))] [.row false .ent l] (Yh 1 K):=by
 have e:((l.length<=1000000) ∧
(K (SV.one (TV.at (At.slc 1))) [(Ta.row false (EC.ent) (l)),(Ta.row true (EC.ent) (outE l q q))] []))=vc C0 aDel Tryz.f64 [.at (.slc 0),.at (.val (.int .i64 q))] [.row false .ent l] (Yh 1 K):=by kernel_rfl
 rw[<-e];exact⟨h1,h2⟩
theorem Yxv:Tb C0 64 tDel:=by
 refine .of Tryz.func64 (by decide) rfl fun args H K h hB=>?_
 unfold tDel at h;split at h<;>try exact h.elim
 rename_i q l;have hG:GOK C0 aDel.Γ:=⟨Ye C0.ok Yxu _,trivial⟩
 exact⟨aDel,hG,YuL l q K h.1 h.2⟩
structure XLst (l:LE) (most:Int) where
 i:Nat
 h:i<=l.length/\(i:Int)<=most
def aLst (l:LE)(most:Int):Ann C0:={ Γ:=[(18,Yc [] tIns)],inv:=fun n=>match n with
 | 3=>some { X:=XLst l most,sl:=[6,5],tf:=fun x=>[vi .i64 x.i,.one (.at (.slc 1))],hf:=fun x=>[.row false .ent l,.row true .ent (YT l x.i)],μ:=fun x=>l.length-x.i }
 | _=>none }
def tLst:Tfm C0:=fun args H K=>match args,H with
 | [.at (.slc 0),.at (.val (.int .i64 most))],[.row false .ent l]=>0<=most/\most<=1000000/\K (.one (.at (.slc 1))) [.row false .ent l,.row true .ent (YT l most.toNat)] []
 | _,_=>False
theorem YlM {l:LE}{i:Nat}{x:Ent}(h:l[i]?=some x):YT l (i+1)=insE (YT l i) x:=by
 unfold YT;rw[YeI h];simp
theorem YlN {l:LE}{n:Nat}(h:l.length<=n):YT l n=YT l l.length:=by
 unfold YT;rw[Zay h,Zay (Zw _)]
theorem YuM (l:LE)(most:Int)(K:KT)(hmax:l.length<=9223372036854775807)(h0:0<=most)(h1:most<=1000000)(h:K (.one (.at (.slc 1))) [.row false .ent l,.row true .ent (YT l most.toNat)] []) :
  vc C0 (aLst l most) Tryz.f62 [.at (.slc 0),.at (.val (.int .i64 most))] [.row false .ent l] (Yh 1 K):=by
 refine Eq.mp (show ((∃ x:XLst l most,True/\(True/\VI (most)=VI (most)/\True/\VI 0=(VI (x.i:Int))/\True)/\l=l/\[]=YT l x.i/\True)/\∀ x:XLst l most,True->brS (decide ((x.i:Int)<(l.length:Int))) (brS (decide ((x.i:Int)<most)) (0<=(x.i:Int)/\(x.i:Int)<(l.length:Int)/\(YT l x.i).length<=1000000/\∃ x':XLst l most,True/\((True/\VI (most)=VI (most)/\True/\(VI (Za.wrap ((x.i:Int)+1)))=(VI (x'.i:Int))/\True)/\l=l/\(insE (YT l x.i) ((eA l x.i).fst,(eA l x.i).snd))=YT l x'.i/\True)/\l.length-x'.i<l.length-x.i) (K (.one (.at (.slc 1))) [(.row false .ent (l)),(.row true .ent (YT l x.i))] [])) (K (.one (.at (.slc 1))) [(.row false .ent (l)),(.row true .ent (YT l x.i))] []))=_ by kernel_rfl) ?_;refine⟨⟨⟨0,ZC _,h0⟩,by simp[YT]⟩,fun x _=>Ya (fun hi=>Ya (fun hm=>?_) fun hm=>?_) fun hi=>?_⟩
 .have hi:x.i<l.length:=by simpa using hi
  have hm:(x.i:Int)<most:=by simpa using hm
  have hs:=YlM (Yie hi);have hlen:=(YfR l x.i).2;have w1:Za.wrap ((x.i:Int)+1)=((x.i+1:Nat):Int):=by rw[YgF (by omega) (by omega)];simp
  simp only[w1];refine⟨by omega,by omega,by omega,⟨x.i+1,by omega,by omega⟩,?_⟩;simp[hs];omega
 .have e:most.toNat=x.i:=by have:=x.h.2;simp at hm;omega
  rw[e] at h;exact h
 .have hi:x.i=l.length:=by have:=x.h.1;simp at hi;omega
  have:=x.h.2;rw[YlN (n:=most.toNat) (by omega),<-hi] at h;exact h
theorem Yxw:Tb C0 62 tLst:=by
 refine .of Tryz.func62 (by decide) rfl fun args H K h hB=>?_
 unfold tLst at h;split at h<;>try exact h.elim
 rename_i most l;exact⟨aLst l most,⟨Ye C0.ok YuK _,trivial⟩,YuM l most K (hB 0 _ _ _ rfl) h.1 h.2.1 h.2.2⟩
def tMod:Tfm C0:=fun args H K=>match args,H with
 | [.at (.val (.int .i64 k)),.at (.val (.int .i64 n))],[]=>0<n/\n<=9223372036854775807/\∀ x,x=k % n->K (.one (.at (vI x))) [] []
 | _,_=>False
theorem Ysl:Tb C0 8 tMod:=by
 refine .of Tryz.func8 (by decide) rfl fun args H K h hB=>⟨A0,trivial,?_⟩
 unfold tMod at h;split at h<;>try exact h.elim
 rename_i k n;obtain⟨h0,h1,h⟩:=h;have h:=h _ rfl;refine Eq.mp (show (n≠0/\brS (decide (k.tmod n<0)) (K (.one (.at (.val (VI (Za.wrap (k.tmod n+n)))))) [] []) (K (.one (.at (.val (VI (k.tmod n))))) [] []))=_ by kernel_rfl) ⟨by omega,Ya (fun e=>?_) fun e=>?_⟩
 all_goals simp only[ZaE,ZbD] at e
 .have e1:k.tmod n+n=k % n:=by
   rw[Int.tmod_eq_emod] at e ⊢;split at e<;>rename_i hc
   .have:=ZaQ k (show n≠0 by omega);omega
   .rw[Zf hc];have:(n.natAbs:Int)=n:=by omega
    omega
  have h2:=ZaQ k (show n≠0 by omega);have h3:=ZaH k h0;rw[e1,YgF (by omega) (by omega)];exact h
 .have e1:k.tmod n=k % n:=by
   rw[Int.tmod_eq_emod] at e ⊢;split at e<;>rename_i hc
   .rw[Zj hc];omega
   .have h3:=ZaH k h0;have:(n.natAbs:Int)=n:=by omega
    omega
  rw[e1];exact h
def Ynk:Tfm C0:=fun args H K=>match args,H with
 | [.at (.val (.int .i64 n))],[]=>0<=n/\n<=1000000/\∀ x,x=n / 4->K (.one (.at (vI x))) [] []
 | _,_=>False
def balB (l r:Int):Bool:=decide (balN l r)
def tBal:Tfm C0:=fun args H K=>match args,H with
 | [.at (.val (.int .i64 l)),.at (.val (.int .i64 r))],[]=>0<=l/\l<=1000000/\0<=r/\r<=1000000/\∀ b,b=balB l r->K (.one (.at (vB b))) [] []
 | _,_=>False
structure XPv (n:Int) where
 lo:Int
 h:0<=lo/\lo<n/\balN lo (n-1-lo)
def YqX (n:Int):Ann C0:={ Γ:=[(119,Yc [] Ynk),(120,Yc [] tBal)],inv:=fun k=>match k with
 | 2=>some { X:=XPv n,sl:=[5],tf:=fun x=>[vi .i64 x.lo],hf:=fun _=>[],μ:=fun x=>x.lo.toNat }
 | 4=>some { X:=XPv n,sl:=[5],tf:=fun x=>[vi .i64 x.lo],hf:=fun _=>[],μ:=fun x=>(n-x.lo).toNat }
 | _=>none }
def Ynl:Tfm C0:=fun args H K=>match args,H with
 | [.at (.val (.int .i64 n)),.at (.val (.int .u64 t))],[]=>1<=n/\n<=100000/\0<=t/\∀ p,0<=p->p<n->balN p (n-1-p)->K (.one (.at (vI p))) [] []
 | _,_=>False
def Yij (n:Nat):Tfm C0:=fun args H K=>match args with
 | [.at (.ptr 0 0),.at (.slc 7),.at (.val (.int .u64 t))]=>arMr H fun S rest=>match rest with
  | [.row false .ent l]=>∃ hs,Wf S hs/\l.length<n/\l.length<=100000/\(l.length:Int)<=S.free/\hs.length+l.length<=900000000/\0<=t/\∀ S' i,PlantR S hs l S' i->K (.tup [.at (vU i),.at (vB true)]) (chS S'++[.row false .ent l]) W7
  | _=>False
 | _=>False
def YqY (n:Nat):Ann C0:={ Γ:=[(85,Yc [] Ynl),(40,Yc [] (Yij n)),(32,Yc [] YdH),(26,Yc [] Yps)] }
theorem Ypw (n:Int)(K:KT)(h1:0<=n)(h2:n<=1000000)(h:∀ x,x=n / 4->K (.one (.at (vI x))) [] []):vc C0 A0 Tryz.f119 [.at (vI n)] [] (Yh 0 K):=by
 refine Eq.mp (show (K (.one (.at (.val (VI (Za.wrap ((if n>0 then n else 0).tdiv 4)))))) [] [])=_ by kernel_rfl) ?_;have e:(if n>0 then n else 0)=n:=by split<;>omega
 rw[e,Zaq h1,Yb (by omega) (by omega)];exact h _ rfl
theorem Ysm:Tb C0 119 Ynk:=by
 refine .of Tryz.func119 (by decide) rfl fun args H K h hB=>?_
 unfold Ynk at h;split at h<;>try exact h.elim
 rename_i n;exact⟨A0,trivial,Ypw n K h.1 h.2.1 h.2.2⟩
abbrev O30 (n t:Int)(K:SV → LH C0 → LN → Prop)(x2:XPv n):Prop:=brS (decide (Za.wrap (Za.wrap (n-1)-x2.lo)<x2.lo)) (K (.one (.at (.val (VI (Za.wrap (n.tdiv 2)))))) [] []) (Zd.wrap (Za.wrap (Za.wrap (Za.wrap (Za.wrap (n-1)-x2.lo)-x2.lo)+1))≠0/\K (.one (.at (.val (VI (Za.wrap (x2.lo+Za.wrap (t.tmod (Zd.wrap (Za.wrap (Za.wrap (Za.wrap (Za.wrap (n-1)-x2.lo)-x2.lo)+1)))))))))) [] [])
abbrev O31 (K:SV → LH C0 → LN → Prop):Prop:=K (.one (.at (.val (Zi false)))) [] []
abbrev O32 (n t:Int)(x2:XPv n):Prop:=∃ w0_:XPv n,True/\((VI (n)=VI (n)/\VW (t)=VW (t)/\(VI (Za.wrap (x2.lo+1)))=(VI (w0_.lo))/\True)/\True)/\(n-w0_.lo).toNat<(n-x2.lo).toNat
abbrev O33 (n:Int)(x2:XPv n)(Z_:Prop):Prop:=0<=x2.lo/\x2.lo<=1000000/\0<=Za.wrap (Za.wrap (n-1)-x2.lo)/\Za.wrap (Za.wrap (n-1)-x2.lo)<=1000000/\Z_
theorem YuN (l r:Int)(K:KT)(h1:0<=l)(h2:l<=1000000)(h3:0<=r)(h4:r<=1000000)(h:∀ b,b=balB l r->K (.one (.at (vB b))) [] []):vc C0 A0 Tryz.f120 [.at (vI l),.at (vI r)] [] (Yh 0 K):=by
 refine Eq.mp (show (brS (decide (l<0)) (O31 K) (brS (decide (l>2147483647)) (O31 K) (brS (decide (r<0)) (O31 K) (brS (decide (r>2147483647)) (O31 K) (brS (decide (Za.wrap (l+1)<=Za.wrap (3*Za.wrap (r+1)))) (K (.one (.at (.val (Zi (decide (Za.wrap (r+1)<=Za.wrap (3*Za.wrap (l+1)))))))) [] []) (O31 K))))))=_ by kernel_rfl) ?_;delta O31;rw[Yb (x:=l+1) (by omega) (by omega),Yb (x:=r+1) (by omega) (by omega),Yb (x:=3*(l+1)) (by omega) (by omega),Yb (x:=3*(r+1)) (by omega) (by omega)];refine Ya (fun c=>?_) fun _=>Ya (fun c=>?_) fun _=>Ya (fun c=>?_) fun _=>Ya (fun c=>?_) fun _=>Ya (fun c=>?_) fun c=>?_
 .have:=Zc c;omega
 .have:l>2147483647:=Zc c;omega
 .have:=Zc c;omega
 .have:r>2147483647:=Zc c;omega
 .have c:l+1<=3*(r+1):=Zc c;exact h _ (by unfold balB balN;simp[c])
 .have c:¬ l+1<=3*(r+1):=Zg c;exact h _ (by unfold balB balN;simp[c])
theorem Ysn:Tb C0 120 tBal:=by
 refine .of Tryz.func120 (by decide) rfl fun args H K h hB=>?_
 unfold tBal at h;split at h<;>try exact h.elim
 rename_i l r;exact⟨A0,trivial,YuN l r K h.1 h.2.1 h.2.2.1 h.2.2.2.1 h.2.2.2.2⟩
theorem Ypx (n t:Int)(K:KT)(h1:1<=n)(h2:n<=100000)(h3:0<=t)(h:∀ p,0<=p->p<n->balN p (n-1-p)->K (.one (.at (vI p))) [] []) :
  vc C0 (YqX n) Tryz.f85 [.at (vI n),.at (vU64 t)] [] (Yh 0 K):=by
 refine Eq.mp (show (0<=n/\n<=1000000/\∀ x:Int,x=(n / 4)->(∃ x1:XPv n,True/\(VI (n)=VI (n)/\VW (t)=VW (t)/\VI (x)=VI (x1.lo)/\True)/\True)/\∀ x1:XPv n,True->brS (decide (x1.lo>0)) (0<=Za.wrap (x1.lo-1)/\Za.wrap (x1.lo-1)<=1000000/\0<=Za.wrap (n-x1.lo)/\Za.wrap (n-x1.lo)<=1000000/\∀ b:Bool,b=(balB (Za.wrap (x1.lo-1)) (Za.wrap (n-x1.lo)))->brS (b) (∃ x':XPv n,True/\((VI (n)=VI (n)/\VW (t)=VW (t)/\(VI (Za.wrap (x1.lo-1)))=(VI (x'.lo))/\True)/\True)/\x'.lo.toNat<x1.lo.toNat) ((∃ x2:XPv n,True/\(VI (n)=VI (n)/\VW (t)=VW (t)/\VI (x1.lo)=VI (x2.lo)/\True)/\True)/\∀ x2:XPv n,True->brS (decide (x2.lo<Za.wrap (n-1))) (O33 n x2 (∀ b1:Bool,b1=(balB x2.lo (Za.wrap (Za.wrap (n-1)-x2.lo)))->brS (!b1) (O32 n t x2) (O30 n t K x2))) (O30 n t K x2))) ((∃ x2:XPv n,True/\(VI (n)=VI (n)/\VW (t)=VW (t)/\VI (x1.lo)=VI (x2.lo)/\True)/\True)/\∀ x2:XPv n,True->brS (decide (x2.lo<Za.wrap (n-1))) (O33 n x2 (∀ b:Bool,b=(balB x2.lo (Za.wrap (Za.wrap (n-1)-x2.lo)))->brS (!b) (O32 n t x2) (O30 n t K x2))) (O30 n t K x2)))=_ by kernel_rfl) ?_;delta O30 O32 O33;refine⟨by omega,by omega,fun x hx=>⟨⟨⟨x,by omega,by omega,⟨by omega,by omega⟩⟩,trivial,⟨rfl,rfl,rfl,trivial⟩,trivial⟩,fun x1 _=>?_⟩⟩;obtain⟨k1,k2,k3,k4⟩:=x1.h
 rw[Yb (x:=x1.lo-1) (by omega) (by omega),Yb (x:=n-x1.lo) (by omega) (by omega)];refine Ya (fun c=>?_) fun c=>?_
 .have c:x1.lo>0:=Zc c;refine⟨by omega,by omega,by omega,by omega,fun b hb=>Ya (fun d=>?_) fun d=>?_⟩
  .rw[d] at hb;have hb:balN (x1.lo-1) (n-x1.lo):=Zc hb.symm;refine⟨⟨x1.lo-1,by omega,by omega,by rw[show n-1-(x1.lo-1)=n-x1.lo by omega];exact hb⟩,trivial,⟨⟨rfl,rfl,rfl,trivial⟩,trivial⟩,?_⟩;show (x1.lo-1).toNat<x1.lo.toNat;omega
  .skip
   refine⟨⟨x1,trivial,⟨rfl,rfl,rfl,trivial⟩,trivial⟩,fun x2 _=>?_⟩;obtain⟨l1,l2,l3,l4⟩:=x2.h;rw[Yb (x:=n-1) (by omega) (by omega),Yb (x:=n-1-x2.lo) (by omega) (by omega)];refine Ya (fun e=>⟨l1,by omega,by omega,by omega,fun b1 hb1=>Ya (fun f=>?_) fun f=>?_⟩) fun e=>?_
   .have e:b1=true:=by rw[hb1];exact Zat ⟨l3,l4⟩
    rw[e] at f;cases f
   .skip
    rw[Yb (x:=n-1-x2.lo-x2.lo) (by omega) (by omega),Yb (x:=n-1-x2.lo-x2.lo+1) (by omega) (by omega)];refine Ya (fun g=>?_) fun g=>?_
    .have g:n-1-x2.lo<x2.lo:=Zc g;rw[Zaq (by omega),Yb (by omega) (by omega)];exact h _ (by omega) (by omega) ⟨by omega,by omega⟩
    .have g:¬ n-1-x2.lo<x2.lo:=Zg g;have hm:=ZaQ t (show n-1-x2.lo-x2.lo+1≠0 by omega);have hm2:=ZaH t (show 0<n-1-x2.lo-x2.lo+1 by omega);rw[Yf (by omega) (by omega),Zav h3,Yb (x:=t % _) (by omega) (by omega),Yb (by omega) (by omega)];exact⟨by omega,h _ (by omega) (by omega) ⟨by omega,by omega⟩⟩
   .skip
    rw[Yb (x:=n-1-x2.lo-x2.lo) (by omega) (by omega),Yb (x:=n-1-x2.lo-x2.lo+1) (by omega) (by omega)];refine Ya (fun g=>?_) fun g=>?_
    .have g:n-1-x2.lo<x2.lo:=Zc g;rw[Zaq (by omega),Yb (by omega) (by omega)];exact h _ (by omega) (by omega) ⟨by omega,by omega⟩
    .have g:¬ n-1-x2.lo<x2.lo:=Zg g;have hm:=ZaQ t (show n-1-x2.lo-x2.lo+1≠0 by omega);have hm2:=ZaH t (show 0<n-1-x2.lo-x2.lo+1 by omega);rw[Yf (by omega) (by omega),Zav h3,Yb (x:=t % _) (by omega) (by omega),Yb (by omega) (by omega)];exact⟨by omega,h _ (by omega) (by omega) ⟨by omega,by omega⟩⟩
 .skip
  refine⟨⟨x1,trivial,⟨rfl,rfl,rfl,trivial⟩,trivial⟩,fun x2 _=>?_⟩;obtain⟨l1,l2,l3,l4⟩:=x2.h;rw[Yb (x:=n-1) (by omega) (by omega),Yb (x:=n-1-x2.lo) (by omega) (by omega)];refine Ya (fun e=>⟨l1,by omega,by omega,by omega,fun b1 hb1=>Ya (fun f=>?_) fun f=>?_⟩) fun e=>?_
  .have e:b1=true:=by rw[hb1];exact Zat ⟨l3,l4⟩
   rw[e] at f;cases f
  .skip
   rw[Yb (x:=n-1-x2.lo-x2.lo) (by omega) (by omega),Yb (x:=n-1-x2.lo-x2.lo+1) (by omega) (by omega)];refine Ya (fun g=>?_) fun g=>?_
   .have g:n-1-x2.lo<x2.lo:=Zc g;rw[Zaq (by omega),Yb (by omega) (by omega)];exact h _ (by omega) (by omega) ⟨by omega,by omega⟩
   .have g:¬ n-1-x2.lo<x2.lo:=Zg g;have hm:=ZaQ t (show n-1-x2.lo-x2.lo+1≠0 by omega);have hm2:=ZaH t (show 0<n-1-x2.lo-x2.lo+1 by omega);rw[Yf (by omega) (by omega),Zav h3,Yb (x:=t % _) (by omega) (by omega),Yb (by omega) (by omega)];exact⟨by omega,h _ (by omega) (by omega) ⟨by omega,by omega⟩⟩
  .skip
   rw[Yb (x:=n-1-x2.lo-x2.lo) (by omega) (by omega),Yb (x:=n-1-x2.lo-x2.lo+1) (by omega) (by omega)];refine Ya (fun g=>?_) fun g=>?_
   .have g:n-1-x2.lo<x2.lo:=Zc g;rw[Zaq (by omega),Yb (by omega) (by omega)];exact h _ (by omega) (by omega) ⟨by omega,by omega⟩
   .have g:¬ n-1-x2.lo<x2.lo:=Zg g;have hm:=ZaQ t (show n-1-x2.lo-x2.lo+1≠0 by omega);have hm2:=ZaH t (show 0<n-1-x2.lo-x2.lo+1 by omega);rw[Yf (by omega) (by omega),Zav h3,Yb (x:=t % _) (by omega) (by omega),Yb (by omega) (by omega)];exact⟨by omega,h _ (by omega) (by omega) ⟨by omega,by omega⟩⟩
theorem Yso:Tb C0 85 Ynl:=by
 refine .of Tryz.func85 (by decide) rfl fun args H K h hB=>?_
 unfold Ynl at h;split at h<;>try exact h.elim
 rename_i n t;exact⟨YqX n,⟨Ye C0.ok Ysm _,Ye C0.ok Ysn _,trivial⟩,Ypx n t K h.1 h.2.1 h.2.2.1 h.2.2.2⟩
theorem YJ (x:Int):0<=Zd.wrap x:=by
 unfold IntKind.wrap;simp[IntKind.signed,IntKind.bits];omega
theorem Ypy {l:LE}{p:Nat}(hp:p<l.length):l.take p++l.getD p (0,0)::l.drop (p+1)=l:=by
 have h:l[p]?=some (l.getD p (0,0)):=by simp[Zb,Zk hp]
 rw[<-YaU h,Zaw]
theorem Ypz (n:Nat)(S:Arn)(l:LE)(t:Int)(K:KT)(hs:LI)(hw:Wf S hs)(h1:l.length<n+1)(h2:l.length<=100000)(h3:(l.length:Int)<=S.free)(h4:hs.length+l.length<=900000000)(h5:0<=t)(h:∀ S' i,PlantR S hs l S' i->K (.tup [.at (vU i),.at (vB true)]) (chS S'++[.row false .ent l]) W7) :
  vc C0 (YqY n) Tryz.f40 [.at (.ptr 0 0),.at (.slc 7),.at (vU64 t)] (chS S++[.row false .ent l]) (Yh 8 (YG W7 K)):=by
 refine Eq.mp (show (brS ((l.length:Int)==0) (K (.tup [(.at (.val (VU 0))),(.at (.val (Zi true)))]) [(.box [(.ptr 1 0),(.slc 2),(.slc 3),(.val (VW (S.reads)))]),(.box [(.slc 4),(.slc 5),(.slc 6),(.val (VU (S.fresh)))]),(.row true .node (S.nodes)),(.row true .int (S.counts)),(.row true .bool (S.used)),(.row true .u32 (S.gen)),(.row true .u32 (S.rel)),(.row false .ent (l))] [0,1,2,3,4,5,6]) (1<=(l.length:Int)/\(l.length:Int)<=100000/\0<=t/\∀ p:Int,0<=p->p<(l.length:Int)->balN p ((l.length:Int)-1-p)->(0:Int)<=0/\0<=p/\p<=(l.length:Int)/\∃ hs:LI,Wf S hs/\(Zp (Zq 0) (Zn p.toNat l)).length<n/\(Zp (Zq 0) (Zn p.toNat l)).length<=100000/\(↑(Zp (Zq 0) (Zn p.toNat l)).length:Int)<=S.free/\hs.length+(Zp (Zq 0) (Zn p.toNat l)).length<=900000000/\0<=Zd.wrap (Zd.wrap (t.tdiv 5)+Zd.wrap (t*3))/\∀ S':Arn,∀ i:Int,PlantR S hs (Zp (Zq 0) (Zn p.toNat l)) S' i->0<=Za.wrap (p+1)/\Za.wrap (p+1)<=(l.length:Int)/\(l.length:Int)<=(l.length:Int)/\∃ hs1:LI,Wf S' hs1/\(Zp (Za.wrap (p+1)).toNat (Zn (l.length:Int).toNat l)).length<n/\(Zp (Za.wrap (p+1)).toNat (Zn (l.length:Int).toNat l)).length<=100000/\(↑(Zp (Za.wrap (p+1)).toNat (Zn (l.length:Int).toNat l)).length:Int)<=S'.free/\hs1.length+(Zp (Za.wrap (p+1)).toNat (Zn (l.length:Int).toNat l)).length<=900000000/\
 0<=Zd.wrap (Zd.wrap (Zd.wrap (t.tdiv 7)+Zd.wrap (t*5))+1)/\∀ S'1:Arn,∀ i1:Int,PlantR S' hs1 (Zp (Za.wrap (p+1)).toNat (Zn (l.length:Int).toNat l)) S'1 i1->0<=p/\p<(l.length:Int)/\0<=p/\p<(l.length:Int)/\exW S'1/\live S'1 i/\live S'1 i1/\(Yk S'1 (l.getD p.toNat (0,0)).fst (l.getD p.toNat (0,0)).snd i i1).size<=Ym/\0<S'1.free/\∀ S'2:Arn,∀ i2:Int,S'2=(Yt S'1 (l.getD p.toNat (0,0)).fst (l.getD p.toNat (0,0)).snd i i1)->i2=nxt S'1->∃ hs2:LI,Wf S'2 (i::hs2)/\(S'2.us i=true->1<=S'2.indeg i)/\∀ S'3:Arn,S'3=relA S'2 i->∃ hs3:LI,Wf S'3 (i1::hs3)/\(S'3.us i1=true->1<=S'3.indeg i1)/\∀ S'4:Arn,S'4=relA S'3 i1->K (.tup [(.at (.val (VU (i2)))),(.at (.val (Zi (i2 != 0))))]) [(.box [(.ptr 1 0),(.slc 2),(.slc 3),(.val (VW (S'4.reads)))]),(.box [(.slc 4),(.slc 5),(.slc 6),(.val (VU (S'4.fresh)))]),(.row true .node (S'4.nodes)),(.row true .int (S'4.counts)),(.row true .bool (S'4.used)),(.row true .u32 (S'4.gen)),(.row true .u32 (S'4.rel)),(.row false .ent (l))] [0,1,2,3,4,5,6]))=_ by kernel_rfl) ?_
 refine Ya (fun c=>?_) fun c=>⟨?_,by omega,h5,fun p p0 p1 hb=>?_⟩
 .have e:l=[]:=Zaz.1 (by simpa using c);have hr:PlantR S hs l S 0:=by rw[e];exact PlantR.nil hw (by omega)
  exact h S 0 hr
 .have c:¬ (l.length:Int)=0:=by simpa using c
  omega
 .have hp:p.toNat<l.length:=by omega
  have ea:Zp (Zq 0) (Zn p.toNat l)=l.take p.toNat:=rfl;rw[Yb (x:=p+1) (by omega) (by omega),ea,show (l.length:Int).toNat=l.length by omega,ZJ,show (p+1).toNat=p.toNat+1 by omega];have la:(l.take p.toNat).length=p.toNat:=by simp;omega
  have lb:(l.drop (p.toNat+1)).length=l.length-(p.toNat+1):=by simp
  have hf:=hw.free_nonneg;refine⟨by decide,p0,by omega,hs,hw,by omega,by omega,by omega,by omega,YJ _,fun S1 il r1=>?_⟩;have hf1:=r1.wf.free_nonneg;have n1:=r1.nu;have c1:S1.cap=S.cap:=by unfold Arn.cap;rw[r1.len]
  refine⟨by omega,by omega,by omega,il::hs,r1.wf,by omega,by omega,by omega,by simp;omega,YJ _,fun S2 ir r2=>?_⟩;have hf2:=r2.wf.free_nonneg;have n2:=r2.nu;have c2:S2.cap=S1.cap:=by unfold Arn.cap;rw[r2.len]
  have hw2:Wf S2 (il::ir::hs):=r2.wf.perm (List.Perm.swap _ _ _);have hfr:0<S2.free:=by omega
  obtain⟨tl,q1,q2,_⟩:=r1.rep;obtain⟨tr,q3,q4,_⟩:=r2.rep;have q1':Rep S2 tl il:=q1.held r1.wf r2.stay (.inr (by simp));have s1:tl.size=p.toNat:=by rw[<-tl.list_len,q2,la]
  have s2:tr.size=l.length-(p.toNat+1):=by rw[<-tr.list_len,q4,lb]
  have hz:∀ k v,(Yk S2 k v il ir).size<=Ym:=fun k v=>by rw[YgD hw2 q1' q3];unfold Ym;omega
  refine⟨p0,p1,p0,p1,⟨_,hw2⟩,hw2.held il (by simp),hw2.held ir (by simp),hz _ _,hfr,fun S3 i e1 e2=>?_⟩;obtain⟨t1,t2,t3,t4⟩:=YgC (k:=(l.getD p.toNat (0,0)).1) (v:=(l.getD p.toNat (0,0)).2) hw2 hfr (hz _ _) (by omega);subst e1;refine⟨_,t1,t2,fun S4 e3=>?_⟩;subst e3;refine⟨_,t3,t4,fun S5 e4=>?_⟩;have hx:=(hw2.nxt_spec hfr).1;have hi0:(i != 0)=true:=by rw[e2];simp;omega
  rw[hi0];refine h S5 i ?_
  have hr:PlantR S hs (l.take p.toNat++l.getD p.toNat (0,0)::l.drop (p.toNat+1)) S5 i:=r1.node r2 (by rw[la,lb];have e:((l.length-(p.toNat+1):Nat):Int)=(l.length:Int)-1-p:=(by omega);rw[e,show (p.toNat:Int)=p by omega];exact hb) fun tl' tr' x1 x2=>by
   rw[e4,e2];exact Ynh hw2 hfr (hz _ _) (by omega) x1 x2
  rw[Ypy hp] at hr;exact hr
theorem Ysp:∀ n,Tb C0 40 (Yij n):=by
 intro n
 induction n with
 | zero =>
  refine .of Tryz.func40 (by decide) rfl fun args H K h hB=>?_
  exfalso
  unfold Yij at h;split at h<;>try exact h.elim
  unfold arMr at h;iterate 2 (split at h<;>try exact h.elim)
  obtain⟨_,_,h1,_⟩:=h;omega
 | succ n ih =>
  refine .ofW W7 Tryz.func40 (by decide) rfl fun args H K h hB=>?_
  unfold Yij at h;split at h<;>try exact h.elim
  unfold arMr at h;iterate 2 (split at h<;>try exact h.elim)
  rename_i t _ rd fr nd ct us gn rl _ l;obtain⟨hs,h1,h2,h3,h4,h5,h6,h7⟩:=h;exact⟨YqY n,⟨Ye C0.ok Yso _,Ye C0.ok ih _,Ye C0.ok Yeb _,Ye C0.ok YqW _,trivial⟩,Ypz n ⟨us,gn,rl,fr,nd,ct,rd⟩ l t K hs h1 h2 h3 h4 h5 h6 h7⟩
def YgG:Tfm C0:=fun args H K=>match args with
 | [.at (.ptr 0 0),.at (.slc 7),.at (.val (.int .u64 t))]=>arMr H fun S rest=>match rest with
  | [.row false .ent l]=>∃ hs,Wf S hs/\l.length<=100000/\(l.length:Int)<=S.free/\hs.length+l.length<=900000000/\0<=t/\∀ S' i,PlantR S hs l S' i->K (.tup [.at (vU i),.at (vB true)]) (chS S'++[.row false .ent l]) W7
  | _=>False
 | _=>False
theorem Ykl:Tb C0 40 YgG:=(Ysp 100001).weak fun args H K h=>by
 unfold YgG at h;unfold Yij;split at h<;>try exact h.elim
 unfold arMr at h ⊢;iterate 2 (split at h<;>try exact h.elim)
 obtain⟨hs,h1,h2,h3,h4,h5,h6⟩:=h;exact⟨hs,h1,by omega,h2,h3,h4,h5,h6⟩
end Go.Proofs.YtedfbafngmicpaaGreat.Sx
namespace Go.Proofs.YtedfbafngmicpaaGreat
open Go
def lk:Tr->Int->Int->Nat->LE × Nat
 | .nil,_,_,_=>([],0)
 | .node l k v r,lo,hi,room=>if room=0 then ([],0) else
  let a:=if lo<k then lk l lo hi room else ([],0)
  let b:LE:=if lo<=k/\k<=hi/\a.1.length<room then [(k,v)] else []
  let c:=if k<hi then lk r lo hi (room-(a.1.length+b.length)) else ([],0)
  (a.1++(b++c.1),1+a.2+c.2)
def ne0 (t:Tr):Nat:=match t with
 | .nil=>0
 | .node _ _ _ _=>1
def pl:Tr->Int->Int->LE × Nat
 | .nil,_,_=>([],0)
 | .node l k v r,f,t=>if t<=f then ([],0) else
  let s:Int:=l.size
  let a:=if f<s then pl l f (if s<t then s else t) else ([],0)
  let b:LE:=if f<=s/\s<t then [(k,v)] else []
  let c:=if s+1<t then pl r (if 0<f-s-1 then f-s-1 else 0) (t-s-1) else ([],0)
  (a.1++(b++c.1),1+ne0 l+a.2+c.2)
def ShpT:Tr->LE->Prop
 | .nil,l=>l=[]
 | .node a k v b,l=>0<l.length/\l.getD (l.length / 2) (0,0)=(k,v)/\ShpT a (l.take (l.length / 2))/\ShpT b (l.drop (l.length / 2+1))
theorem ShpT.list:∀ {t:Tr} {l:LE},ShpT t l->t.list=l
 | .nil,l,h=>by have:l=[]:=h;rw[this];rfl
 | .node a k v b,l,h=>by
  obtain⟨h1,h2,h3,h4⟩:=h;simp only[Tr.list];rw[h3.list,h4.list,<-h2];have hp:l.length / 2<l.length:=by omega
  have e:l[l.length / 2]?=some (l.getD (l.length / 2) (0,0)):=by simp[Zb,Zk hp]
  obtain⟨q1,q2⟩:=Zt.1 e;have e2:l.drop (l.length / 2)=l.getD (l.length / 2) (0,0)::l.drop (l.length / 2+1):=by rw[Zbg q1,q2]
  rw[<-e2,Zaw]

theorem YgH {l r:Tr}{k v:Int}(h:Asc (Tr.node l k v r).list):Asc l.list/\Asc r.list/\(∀ x∈l.list,x.1<k)/\(∀ x∈r.list,k<x.1) :=
 ⟨Srt.left h,(Srt.right h).tail,fun x hx=>(ZaG.1 h).2.2 x hx (k,v) (by simp),fun x hx=>(Srt.right h).head x hx⟩
def wtsL:LI:=[1,2,3,4,6,8,11,15,20,27,36,48,64,86,115,154,206,275,367,490,654,872,1163,1551,2068,2758,3678,4904,6539,8719,11626,15502,20670,27560,36747,48996,65328,87104,116139,154852,206470,275294,367059,489412,652550,870067,1160090,1546787,2062383,2749844,3666459,4888612,6518150,8690867,11587823,15450431,20600575,27467434,36623246,48830995,65107994,86810659,115747546,154330062,205773416,274364555,365819407,487759210,650345614,867127486,1156169982,1541559976,2055413302,2740551070,3654068094,4872090792,6496121056,8661494742,11548659656,15398212875,20530950500]
def wt (h:Nat):Int:=wtsL.getD h 0
def hnC:LI->Int->Int->Int
 | [],h,_=>h
 | w::l,h,k=>if w-1<=k then hnC l (h+1) k else h
def Hn (k:Int):Int:=hnC (wtsL.drop 1) 0 k
theorem Yjv:∀ h<80,wt (h+1)=wt h+(wt h+2) / 3:=by decide
theorem Ynm:∀ (l:LI) (h k:Int),h<=hnC l h k
 | [],_,_=>ZE _
 | w::l,h,k=>by
  unfold hnC;split
  .have:=Ynm l (h+1) k;omega
  .exact ZE _
theorem    Ynn : ∀ (l : LI) (h k : Int) (m : Nat), m ≤ l.length → (∀ i < m, l.getD i 0 - 1 ≤ k) → h + m ≤ hnC l h k
  | [], h, k, m, hm, _ => by have : m = 0 := by simpa using hm
                             subst this; show h + 0 ≤ h; omega
  | w :: l, h, k, 0, _, _ => by have :=    Ynm (w :: l) h k; show h + 0 ≤ _; omega
  | w :: l, h, k, m + 1, hm, hk => by
    have h0 := hk 0 (by omega);unfold hnC;rw [    Zj (by simpa using h0)];have :=    Ynn l (h + 1) k m (by simpa using hm) (fun i hi => by have := hk (i + 1) (by omega); simpa using this);omega
theorem YqZ:∀ (l:LI) (h k:Int),hnC l h k<=h+l.length
 | [],h,k=>by show h<=h+0;omega
 | w::l,h,k=>by
  unfold hnC;have:=YqZ l (h+1) k;rw[ZQ];split<;>omega
theorem YbE (k:Int):0<=Hn k/\Hn k<=80:=by
 have h1:=Ynm (wtsL.drop 1) 0 k;have h2:=YqZ (wtsL.drop 1) 0 k;have h3:(wtsL.drop 1).length=80:=rfl;unfold Hn;omega
def ht:Tr->Nat
 | .nil=>0
 | .node l _ _ r=>1+(if ht l<=ht r then ht r else ht l)
theorem    Ykm : ∀ (t : Tr) (h : Nat), t.Bal → h ≤ 80 → h ≤ ht t → wt h ≤ t.size + 1
  | t, 0, _, _, _ => by have : wt 0 = 1 := rfl
                        rw [this]; omega
  | .nil, h + 1, _, _, hh => by simp [ht] at hh
  | .node l k v r, h + 1, hb, h8, hh => by
    obtain ⟨b0, bl, br⟩ := hb;unfold balN at b0;have hs : ((Tr.node l k v r).size : Int) = 1 + l.size + r.size := by simp [Tr.size]
    have st :=     Yjv h (by omega);have hh : h + 1 ≤ 1 + (if ht l ≤ ht r then ht r else ht l) := hh
    by_cases c : ht l ≤ ht r
    . rw [    Zj c] at hh
      have :=    Ykm r h br (by omega) (by omega);omega
    . rw [    Zf c] at hh
      have :=    Ykm l h bl (by omega) (by omega);omega
theorem Bal.height {t:Tr}(hb:t.Bal)(hs:t.size<=1000000):(ht t:Int)<=Hn t.size:=by
 have h80:ht t<=80:=by
  by_cases c:ht t<=80
  .exact c
  .have:=Ykm t 80 hb (Zw _) (by omega);have e:wt 80=20530950500:=rfl;omega
 have hl:(wtsL.drop 1).length=80:=rfl
 have:=Ynn (wtsL.drop 1) 0 t.size (ht t) (by omega) (fun i hi=>by
  have e:(wtsL.drop 1).getD i 0=wt (i+1):=by simp[wt,Zb]
  have:=Ykm t (i+1) hb (by omega) (by omega);rw[e];omega)
 unfold Hn;omega

theorem ht_l (l r:Tr)(k v:Int):1+ht l<=ht (.node l k v r):=by rw[ht];split<;>omega
theorem ht_r (l r:Tr)(k v:Int):1+ht r<=ht (.node l k v r):=by rw[ht];split<;>omega
end Go.Proofs.YtedfbafngmicpaaGreat
namespace Go.Proofs.YtedfbafngmicpaaGreat.Sx
open Go
def ndD (d:LS)(i:Int):Td:=if alcD d i=true then (sltD d i).node else Td.zero
def Ybx:Tr->Int->Int
 | .nil,x=>x
 | .node _ k _ r,_=>Ybx r k
def anyK:Tr->Bool->Bool
 | .nil,b=>b
 | .node _ _ _ _,_=>true
def gtL (x:Int)(l:LE):Prop:=∀ y∈l,x<y.1
def RepD (d:LS):Tr->Int->Prop
 | .nil,i=>i=0
 | .node l k v r,i=>alcD d i=true/\(ndD d i).key=k/\(ndD d i).value=v/\(ndD d i).size=1+l.size+r.size/\RepD d l (ndD d i).left/\RepD d r (ndD d i).right
def YuO:Ann C0:={ Γ:=[(108,Yc [] tAlc)] }
def tNd:Tfm C0:=fun args H K=>match args,H with
 | [.agg [.slc 0,.slc 1],.at (.val (.int .u32 i))],[.row false .slot d,.row false .u32 fl]=>inU i/\d.length<=1000000/\∀ n,n=ndD d i->K (.one (Ypm n)) [.row false .slot d,.row false .u32 fl] []
 | _,_=>False
def tBl7 (n:Nat):Tfm C0:=fun args H K=>match args,H with
 | [.agg [.slc 0,.slc 1],.at (.val (.int .u32 i))],[.row false .slot d,.row false .u32 fl]=>d.length<=1000000/\(∃ t,RepD d t i/\t.Bal/\t.size<n/\t.size<=1000000)/\K (.one (.at (vB true))) [.row false .slot d,.row false .u32 fl] []
 | _,_=>False
def aBl7 (n:Nat):Ann C0:={ quiet:=[57,120,110],Γ:=[(57,Yc [] tNd),(120,Yc [] tBal),(110,Yc [] (tBl7 n))] }
def tLi7 (n:Nat):Tfm C0:=fun args H K=>match args,H with
 | [.agg [.slc 0,.slc 1],.at (.val (.int .u32 i))],[.row false .slot d,.row false .u32 fl]=>d.length<=1000000/\∃ t,RepD d t i/\t.size<n/\t.size<=1000000/\∀ r,r=t.list->K (.one (.at (.slc 2))) [.row false .slot d,.row false .u32 fl,.row true .ent r] []
 | _,_=>False
def aLi7 (n:Nat):Ann C0:={ quiet:=[57,35],Γ:=[(57,Yc [] tNd),(35,Yc [] (tLi7 n))] }
def tOr7 (n:Nat):Tfm C0:=fun args H K=>match args,H with
 | [.at (.ptr 0 0),.at (.val (.int .u32 i))],[.box [.slc 1,.slc 2,.val (.int .i64 last),.val (.bool any),.val (.int .i64 most)],.row false .slot d,.row false .u32 fl]=>d.length<=1000000/\∃ t,RepD d t i/\Asc t.list/\t.size<n/\(t.size:Int)<=most/\most<=10000000/\(any=true->gtL last t.list) ∧
  ∀ la an mo,la=Ybx t last->an=anyK t any->mo=most-t.size->K (.one (.at (vB true))) [.box [.slc 1,.slc 2,vI la,vB an,vI mo],.row false .slot d,.row false .u32 fl] [0]
 | _,_=>False
def aOr7 (n:Nat):Ann C0:={ Γ:=[(57,Yc [] tNd),(109,Yc [] (tOr7 n))] }
def aCk7 (n:Nat):Ann C0:={ Γ:=[(108,Yc [] tAlc),(109,Yc [] (tOr7 n)),(110,Yc [] (tBl7 n))] }
def tCk7:Tfm C0:=fun args H K=>match args,H with
 | [.agg [.slc 0,.slc 1],.at (.val (.int .u32 i))],[.row false .slot d,.row false .u32 fl]=>d.length<=1000000/\(∃ t,RepD d t i/\Asc t.list/\t.Bal/\t.size<=2*d.length+2/\t.size<=1000000)/\K (.one (.at (vI 0))) [.row false .slot d,.row false .u32 fl] []
 | _,_=>False
def aTr7 (n:Nat)(l:LE)(d:LS)(fl:LI):Ann C0:={ Γ:=[(56,Yc [] tCk7),(57,Yc [] tNd),(35,Yc [] (tLi7 n))],inv:=fun k=>match k with
 | 7=>some { X:=XIx l.length,sl:=[8,3,7],tf:=fun x=>[vi .i64 x.i,.one (.at (.ptr 3 0)),.one (.at (.slc 4))],hf:=fun _=>[.row false .slot d,.row false .u32 fl,.row false .ent l,.box [.slc 0,.slc 1],.row true .ent l],μ:=fun x=>l.length-x.i }
 | _=>none }
def tTr7:Tfm C0:=fun args H K=>match args,H with
 | [.agg [.slc 0,.slc 1],.at (.val (.int .u32 i)),.at (.slc 2)],[.row false .slot d,.row false .u32 fl,.row false .ent l]=>d.length<=1000000/\(∃ t,RepD d t i/\Asc t.list/\t.Bal/\t.size<=2*d.length+2/\t.size<=1000000/\t.list=l)/\K (.one (.at (vB true))) [.row false .slot d,.row false .u32 fl,.row false .ent l] []
 | _,_=>False
theorem bt7 {b:Bool}{t f:Prop}(h:b=true)(ht:t):brS b t f:=by rw[h];exact ht
theorem bf7 {b:Bool}{t f:Prop}(h:b=false)(hf:f):brS b t f:=by rw[h];exact hf
theorem RepD.inU {d:LS}{t:Tr}{i:Int}(h:RepD d t i)(hl:d.length<=1000000):inU i:=by
 cases t with
 | nil=>have:i=0:=h;rw[this];exact⟨by omega,by omega⟩
 | node l k v r=>have:=Yw h.1;exact⟨by omega,by omega⟩
theorem RepD.sz {d:LS}{t:Tr}{i:Int}(h:RepD d t i):(ndD d i).size=t.size:=by
 cases t with
 | nil =>
  have:i=0:=h;unfold ndD;rw[this,YdF (by omega)];rfl
 | node l k v r=>rw[h.2.2.2.1];simp[Tr.size]
theorem RepD.ne {d:LS}{l r:Tr}{k v i:Int}(h:RepD d (.node l k v r) i):i≠0:=by have:=Yw h.1;omega
theorem YlO:Tb C0 57 tNd:=by
 refine .of Tryz.func57 (by decide) rfl fun args H K h hB=>?_
 unfold tNd at h;split at h<;>try exact h.elim
 rename_i i d fl;obtain⟨h1,h2,h⟩:=h
 have key:∀ d:LS,d.length<=1000000->(∀ n,n=ndD d i->K (.one (Ypm n)) [.row false .slot d,.row false .u32 fl] [])->vc C0 YuO Tryz.f57 [.agg [.slc 0,.slc 1],.at (vU i)] [.row false .slot d,.row false .u32 fl] (Yh 2 K):=fun d h2 h=>by
  refine Eq.mp (show (inU i/\d.length<=1000000/\brS (!alcD d i) (K (.one (TV.agg [(.val (VI 0)),(.val (VI 0)),(.val (VU 0)),(.val (VU 0)),(.val (VI 0)),(.val (VI 0)),(.val (VI 0)),(.val (VI 0))])) [(.row false .slot (d)),(.row false .u32 (fl))] []) (0<=Ze.wrap (i-1)/\Ze.wrap (i-1)<(d.length:Int)/\K (.one (TV.agg [(.val (VI ((eS d (Ze.wrap (i-1)).toNat).node.key))),(.val (VI ((eS d (Ze.wrap (i-1)).toNat).node.value))),(.val (VU ((eS d (Ze.wrap (i-1)).toNat).node.left))),(.val (VU ((eS d (Ze.wrap (i-1)).toNat).node.right))),(.val (VI ((eS d (Ze.wrap (i-1)).toNat).node.size))),(.val (VI ((eS d (Ze.wrap (i-1)).toNat).node.sum))),(.val (VI ((eS d (Ze.wrap (i-1)).toNat).node.min))),(.val (VI ((eS d (Ze.wrap (i-1)).toNat).node.max)))])) [(.row false .slot (d)),(.row false .u32 (fl))] []))=_ by kernel_rfl) ?_;refine⟨h1,h2,Ya (fun c=>?_) fun c=>?_⟩
  .have c:alcD d i=false:=by simpa using c
   exact h Td.zero (by unfold ndD;rw[c];rfl)
  .have c:alcD d i=true:=by simpa using c
   obtain⟨a,b⟩:=Yw c;obtain⟨u1,u2⟩:=h1;rw[Yz (x:=i-1) (by omega) (by omega)];exact⟨by omega,by omega,h (eS d (i-1).toNat).node (by unfold ndD;rw[Zj c];rfl)⟩
 exact⟨YuO,⟨Ye C0.ok YlH _,trivial⟩,key d h2 h⟩
theorem YuP (n:Nat)(d:LS)(fl:LI)(i:Int)(K:KT)(hl:d.length<=1000000)(t:Tr)(rp:RepD d t i)(bal:t.Bal)(hn:t.size<n+1)(hs:t.size<=1000000)(h:K (.one (.at (vB true))) [.row false .slot d,.row false .u32 fl] []) :
  vc C0 (aBl7 n) Tryz.f110 [.agg [.slc 0,.slc 1],.at (vU i)] [.row false .slot d,.row false .u32 fl] (Yh 2 K):=by
 refine Eq.mp (show (brS (i==0) (K (.one (.at (.val (Zi true)))) [(.row false .slot (d)),(.row false .u32 (fl))] []) (inU i/\d.length<=1000000/\∀ n1:Td,n1=ndD d i->inU n1.left/\d.length<=1000000/\∀ n2:Td,n2=ndD d n1.left->inU n1.right/\d.length<=1000000/\∀ n3:Td,n3=ndD d n1.right->0<=n2.size/\n2.size<=1000000/\0<=n3.size/\n3.size<=1000000/\∀ b:Bool,b=balB n2.size n3.size->brS (b) (d.length<=1000000/\(∃ t:Tr,RepD d t n1.left/\t.Bal/\t.size<n/\t.size<=1000000)/\d.length<=1000000/\(∃ t:Tr,RepD d t n1.right/\t.Bal/\t.size<n/\t.size<=1000000)/\K (.one (.at (.val (Zi true)))) [(.row false .slot (d)),(.row false .u32 (fl))] []) (K (.one (.at (.val (Zi false)))) [(.row false .slot (d)),(.row false .u32 (fl))] [])))=_ by kernel_rfl) ?_;cases t with
 | nil=>have e:i=0:=rp;exact bt7 (by rw[e];rfl) h
 | node l k v r =>
  have hi:=rp.inU hl;have hne:=rp.ne;obtain⟨h1,h2,h3,h4,h5,h6⟩:=rp;obtain⟨b0,bl,br⟩:=bal;have hz:(Tr.node l k v r).size=1+l.size+r.size:=rfl;refine bf7 (by simp[hne]) ⟨hi,hl,fun n1 e1=>?_⟩;subst e1;refine⟨h5.inU hl,hl,fun n2 e2=>⟨h6.inU hl,hl,fun n3 e3=>?_⟩⟩;have s2:n2.size=l.size:=by rw[e2,h5.sz]
  have s3:n3.size=r.size:=by rw[e3,h6.sz]
  refine⟨by omega,by omega,by omega,by omega,fun b eb=>bt7 (by rw[eb,s2,s3];exact Zat b0) ⟨hl,⟨l,h5,bl,by omega,by omega⟩,hl,⟨r,h6,br,by omega,by omega⟩,h⟩⟩
theorem YuQ:∀ n:Nat,Tb C0 110 (tBl7 n)
 | 0=>by
  refine .of Tryz.func110 (by decide) rfl fun args H K h hB=>?_
  unfold tBl7 at h;split at h<;>try exact h.elim
  obtain⟨_,⟨t,_,_,hn,_⟩,_⟩:=h;omega
 | n+1=>by
  refine .of Tryz.func110 (by decide) rfl fun args H K h hB=>?_
  unfold tBl7 at h;split at h<;>try exact h.elim
  rename_i i d fl;obtain⟨hl,⟨t,rp,bal,hn,hs⟩,h⟩:=h;exact⟨aBl7 n,⟨Ye C0.ok YlO _,Ye C0.ok Ysn _,Ye C0.ok (YuQ n) _,trivial⟩,YuP n d fl i K hl t rp bal hn hs h⟩
abbrev O34 (n:Nat)(d:LS)(fl:LI)(i:Int)(K:SV → LH C0 → LN → Prop):Prop:=d.length<=1000000/\∃ w0_:Tr,RepD d w0_ i/\Asc w0_.list/\w0_.size<n/\(w0_.size:Int)<=Za.wrap (Za.wrap (2*(d.length:Int))+2)/\Za.wrap (Za.wrap (2*(d.length:Int))+2)<=10000000/\(false=true->gtL 0 w0_.list)/\∀ w1_:Int,∀ w2_:Bool,∀ w3_:Int,w1_=Ybx w0_ 0->w2_=anyK w0_ false->w3_=(Za.wrap (Za.wrap (2*(d.length:Int))+2)-(w0_.size:Int))->d.length<=1000000/\(∃ w4_:Tr,RepD d w4_ i/\w4_.Bal/\w4_.size<n/\w4_.size<=1000000)/\K (.one (.at (.val (VI 0)))) [(.row false .slot (d)),(.row false .u32 (fl))] []
abbrev O35 (n:Nat)(d:LS)(fl:LI)(K:SV → LH C0 → LN → Prop)(n1:Td):Prop:=d.length<=1000000/\∃ w0_:Tr,RepD d w0_ n1.left/\w0_.size<n/\w0_.size<=1000000/\∀ w1_:LE,w1_=w0_.list->(w1_.length+[(n1.key,n1.value)].length)*Yd C0 EC.ent<=140737488355328/\d.length<=1000000/\∃ w2_:Tr,RepD d w2_ n1.right/\w2_.size<n/\w2_.size<=1000000/\∀ w3_:LE,w3_=w2_.list->((w1_++[(n1.key,n1.value)]).length+w3_.length)*Yd C0 EC.ent<=140737488355328/\K (.one (.at (.slc 2))) [(.row false .slot (d)),(.row false .u32 (fl)),(.row true .ent (w1_++[(n1.key,n1.value)]++w3_))] []
abbrev O36 (n:Nat)(d:LS)(fl:LI)(K:SV → LH C0 → LN → Prop)(n1:Td)(mo:Int):Prop:=d.length<=1000000/\∃ w0_:Tr,RepD d w0_ n1.right/\Asc w0_.list/\w0_.size<n/\(w0_.size:Int)<=mo/\mo<=10000000/\(true=true->gtL n1.key w0_.list)/\∀ w1_:Int,∀ w2_:Bool,∀ w3_:Int,w1_=Ybx w0_ n1.key->w2_=anyK w0_ true->w3_=(mo-(w0_.size:Int))->K (.one (.at (.val (Zi true)))) [(.box [(.slc 1),(.slc 2),(.val (VI (w1_))),(.val (Zi (w2_))),(.val (VI (w3_)))]),(.row false .slot (d)),(.row false .u32 (fl))] [0]
abbrev O37 (d:LS)(fl:LI)(l:LE)(K:SV → LH C0 → LN → Prop):Prop:=K (.one (.at (.val (Zi false)))) [(.row false .slot (d)),(.row false .u32 (fl)),(.row false .ent (l))] []
theorem YuR (n:Nat)(d:LS)(fl:LI)(i:Int)(K:KT)(hl:d.length<=1000000)(t:Tr)(rp:RepD d t i)(hn:t.size<n+1)(hs:t.size<=1000000)(h:∀ r,r=t.list->K (.one (.at (.slc 2))) [.row false .slot d,.row false .u32 fl,.row true .ent r] []) :
  vc C0 (aLi7 n) Tryz.f35 [.agg [.slc 0,.slc 1],.at (vU i)] [.row false .slot d,.row false .u32 fl] (Yh 2 K):=by
 refine Eq.mp (show (brS (i==0) (K (.one (.at (.slc 2))) [(.row false .slot (d)),(.row false .u32 (fl)),(.row true .ent [])] []) (inU i/\d.length<=1000000/\∀ n1:Td,n1=ndD d i->O35 n d fl K n1/\O35 n d fl K n1))=_ by kernel_rfl) ?_;delta O35;rw[Ydb];cases t with
 | nil=>have e:i=0:=rp;exact bt7 (by rw[e];rfl) (h [] rfl)
 | node l k v r =>
  have hi:=rp.inU hl;have hne:=rp.ne;obtain⟨h1,h2,h3,h4,h5,h6⟩:=rp;have hz:(Tr.node l k v r).size=1+l.size+r.size:=rfl;refine bf7 (by simp[hne]) ⟨hi,hl,fun n1 e1=>?_⟩;subst e1;have ll:=l.list_len;have lr:=r.list_len;constructor
  all_goals
   refine⟨hl,l,h5,by omega,by omega,fun a ea=>⟨?_,hl,r,h6,by omega,by omega,fun b eb=>⟨?_,h _ ?_⟩⟩⟩
   .rw[ea,ll];show (l.size+1)*16<=140737488355328;omega
   .rw[Zh,ea,eb,ll,lr];show (l.size+1+r.size)*16<=140737488355328;omega
   .rw[ea,eb,h2,h3];simp[Tr.list]
theorem Ysq:∀ n:Nat,Tb C0 35 (tLi7 n)
 | 0=>by
  refine .of Tryz.func35 (by decide) rfl fun args H K h hB=>?_
  unfold tLi7 at h;split at h<;>try exact h.elim
  obtain⟨_,t,_,hn,_⟩:=h;omega
 | n+1=>by
  refine .of Tryz.func35 (by decide) rfl fun args H K h hB=>?_
  unfold tLi7 at h;split at h<;>try exact h.elim
  rename_i i d fl;obtain⟨hl,t,rp,hn,hs,h⟩:=h;exact⟨aLi7 n,⟨Ye C0.ok YlO _,Ye C0.ok (Ysq n) _,trivial⟩,YuR n d fl i K hl t rp hn hs h⟩
theorem YeQ:∀ (t:Tr) (x:Int),Ybx t x=x∨∃ y∈t.list,y.1=Ybx t x
 | .nil,x=>.inl rfl
 | .node l k v r,x=>by
  rcases YeQ r k with e|⟨y,hy,e⟩
  .exact .inr ⟨(k,v),by simp[Tr.list],e.symm⟩
  .exact .inr ⟨y,by simp[Tr.list,hy],e⟩
theorem Ykn {t:Tr}{any:Bool}{last k:Int}(h1:any=true->last<k)(h2:∀ x∈t.list,x.1<k)(h3:anyK t any=true):Ybx t last<k:=by
 cases t with
 | nil=>exact h1 h3
 | node l k' v r =>
  show Ybx r k'<k;rcases YeQ r k' with e|⟨y,hy,e⟩
  .rw[e];exact h2 (k',v) (by simp[Tr.list])
  .rw[<-e];exact h2 y (by simp[Tr.list,hy])
theorem YeR (t:Tr):anyK t true=true:=by cases t<;>rfl
theorem YuS (n:Nat)(d:LS)(fl:LI)(last most i:Int)(any:Bool)(K:KT)(hl:d.length<=1000000)(t:Tr)(rp:RepD d t i)(hasc:Asc t.list)(hn:t.size<n+1)(hm:(t.size:Int)<=most)(hm2:most<=10000000)(hg:any=true->gtL last t.list)(h:∀ la an mo,la=Ybx t last->an=anyK t any->mo=most-t.size->K (.one (.at (vB true))) [.box [.slc 1,.slc 2,vI la,vB an,vI mo],.row false .slot d,.row false .u32 fl] [0]) :
  vc C0 (aOr7 n) Tryz.f109 [.at (.ptr 0 0),.at (vU i)] [.box [.slc 1,.slc 2,vI last,vB any,vI most],.row false .slot d,.row false .u32 fl] (Yh 3 (YG [0] K)):=by
 refine Eq.mp (show (brS (i==0) (K (.one (.at (.val (Zi true)))) [(.box [(.slc 1),(.slc 2),(.val (VI (last))),(.val (Zi (any))),(.val (VI (most)))]),(.row false .slot (d)),(.row false .u32 (fl))] [0]) (brS (most==0) (K (.one (.at (.val (Zi false)))) [(.box [(.slc 1),(.slc 2),(.val (VI (last))),(.val (Zi (any))),(.val (VI (most)))]),(.row false .slot (d)),(.row false .u32 (fl))] [0]) (inU i/\d.length<=1000000/\∀ n1:Td,n1=ndD d i->d.length<=1000000/\∃ t:Tr,RepD d t n1.left/\Asc t.list/\t.size<n/\(t.size:Int)<=Za.wrap (most-1)/\Za.wrap (most-1)<=10000000/\(any=true->gtL last t.list)/\∀ la:Int,∀ an:Bool,∀ mo:Int,la=Ybx t last->an=anyK t any->mo=(Za.wrap (most-1)-(t.size:Int))->brS (an) (brS (decide (n1.key<=la)) (K (.one (.at (.val (Zi false)))) [(.box [(.slc 1),(.slc 2),(.val (VI (la))),(.val (Zi (an))),(.val (VI (mo)))]),(.row false .slot (d)),(.row false .u32 (fl))] [0]) (O36 n d fl K n1 mo)) (O36 n d fl K n1 mo))))=_ by kernel_rfl) ?_;delta O36;cases t with
 | nil=>have e:i=0:=rp;exact bt7 (by rw[e];rfl) (h last any most rfl rfl (by simp[Tr.size]))
 | node l k v r =>
  have hi:=rp.inU hl;have hne:=rp.ne;obtain⟨h1,h2,h3,h4,h5,h6⟩:=rp;have hz:(Tr.node l k v r).size=1+l.size+r.size:=rfl;obtain⟨al,ar,lk,kr⟩:=YgH hasc;have mz:most≠0:=by omega
  refine bf7 (by simp[hne]) (bf7 (by simp[mz]) ⟨hi,hl,fun n1 e1=>?_⟩);subst e1;rw[Yb (x:=most-1) (by omega) (by omega)];refine⟨hl,l,h5,al,by omega,by omega,by omega,fun a x hx=>hg a x (by simp[Tr.list,hx]),fun la an mo e1 e2 e3=>?_⟩;have gr:gtL (ndD d i).key r.list:=fun x hx=>by rw[h2];exact kr x hx
  have fin:∀ la1 an1 mo1,la1=Ybx r (ndD d i).key->an1=anyK r true->mo1=mo-r.size->K (.one (.at (vB true))) [.box [.slc 1,.slc 2,vI la1,vB an1,vI mo1],.row false .slot d,.row false .u32 fl] [0]:=fun la1 an1 mo1 f1 f2 f3=>h la1 an1 mo1 (by rw[f1,h2];rfl) (by rw[f2,YeR];rfl) (by omega)
  refine Ya (fun ha=>bf7 ?_ ⟨hl,r,h6,ar,by omega,by omega,by omega,fun _=>gr,fin⟩) fun _=>⟨hl,r,h6,ar,by omega,by omega,by omega,fun _=>gr,fin⟩
  have hlt:la<k:=by
   rw[e1];refine Ykn (any:=any) (fun a=>?_) lk (by rw[<-e2];exact ha);exact hg a (k,v) (by simp[Tr.list])
  rw[h2];exact decide_eq_false (by omega)
theorem YuT:∀ n:Nat,Tb C0 109 (tOr7 n)
 | 0=>by
  refine .ofW [0] Tryz.func109 (by decide) rfl fun args H K h hB=>?_
  unfold tOr7 at h;split at h<;>try exact h.elim
  obtain⟨_,t,_,_,hn,_⟩:=h;omega
 | n+1=>by
  refine .ofW [0] Tryz.func109 (by decide) rfl fun args H K h hB=>?_
  unfold tOr7 at h;split at h<;>try exact h.elim
  rename_i i last any most d fl;obtain⟨hl,t,rp,hasc,hn,hm,hm2,hg,h⟩:=h;exact⟨aOr7 n,⟨Ye C0.ok YlO _,Ye C0.ok (YuT n) _,trivial⟩,YuS n d fl last most i any K hl t rp hasc hn hm hm2 hg h⟩
theorem YuU (d:LS)(fl:LI)(i:Int)(K:KT)(hl:d.length<=1000000)(t:Tr)(rp:RepD d t i)(hasc:Asc t.list)(bal:t.Bal)(h2:t.size<=2*d.length+2)(hs:t.size<=1000000)(h:K (.one (.at (vI 0))) [.row false .slot d,.row false .u32 fl] []) :
  vc C0 (aCk7 1000001) Tryz.f56 [.agg [.slc 0,.slc 1],.at (vU i)] [.row false .slot d,.row false .u32 fl] (Yh 2 K):=by
 generalize hn:1000001=n;refine Eq.mp (show (brS (i != 0) (inU i/\d.length<=1000000/\brS (!alcD d i) (K (.one (.at (.val (VI 1)))) [(.row false .slot (d)),(.row false .u32 (fl))] []) (O34 n d fl i K)) (O34 n d fl i K))=_ by kernel_rfl) ?_;delta O34;have hi:=rp.inU hl;rw[Yb (x:=2*(d.length:Int)) (by omega) (by omega),Yb (x:=2*(d.length:Int)+2) (by omega) (by omega)]
 have hz:i≠0->alcD d i=true:=fun z=>by
  cases t with
  | nil=>exact absurd rp z
  | node l k v r=>exact rp.1
 refine Ya (fun c=>?_) fun _=>⟨hl,t,rp,hasc,by omega,by omega,by omega,(fun z=>by cases z),fun _ _ _ _ _ _=>⟨hl,⟨t,rp,bal,by omega,hs⟩,h⟩⟩
 have c:i≠0:=by simpa using c
 exact⟨hi,hl,bf7 (by rw[hz c];rfl) ⟨hl,t,rp,hasc,by omega,by omega,by omega,(fun z=>by cases z),fun _ _ _ _ _ _=>⟨hl,⟨t,rp,bal,by omega,hs⟩,h⟩⟩⟩
theorem Yxx:Tb C0 56 tCk7:=by
 refine .of Tryz.func56 (by decide) rfl fun args H K h hB=>?_
 unfold tCk7 at h;split at h<;>try exact h.elim
 rename_i i d fl;obtain⟨hl,⟨t,rp,hasc,bal,h2,hs⟩,h⟩:=h;exact⟨aCk7 1000001,⟨Ye C0.ok YlH _,Ye C0.ok (YuT _) _,Ye C0.ok (YuQ _) _,trivial⟩,YuU d fl i K hl t rp hasc bal h2 hs h⟩
theorem YuV (d:LS)(fl:LI)(i:Int)(l:LE)(K:KT)(hl:d.length<=1000000)(t:Tr)(rp:RepD d t i)(hasc:Asc t.list)(bal:t.Bal)(h2:t.size<=2*d.length+2)(hs:t.size<=1000000)(e:t.list=l)(h:K (.one (.at (vB true))) [.row false .slot d,.row false .u32 fl,.row false .ent l] []) :
  vc C0 (aTr7 1000001 l d fl) Tryz.f16 [.agg [.slc 0,.slc 1],.at (vU i),.at (.slc 2)] [.row false .slot d,.row false .u32 fl,.row false .ent l] (Yh 3 K):=by
 generalize hn:1000001=n;refine Eq.mp (show (d.length<=1000000/\(∃ t:Tr,RepD d t i/\Asc t.list/\t.Bal/\t.size<=2*d.length+2/\t.size<=1000000)/\inU i/\d.length<=1000000/\∀ n1:Td,n1=ndD d i->brS (n1.size != (l.length:Int)) (O37 d fl l K) (d.length<=1000000/\∃ t:Tr,RepD d t i/\t.size<n/\t.size<=1000000/\∀ r:LE,r=t.list->brS ((r.length:Int) != (l.length:Int)) (O37 d fl l K) ((∃ x:XIx l.length,True/\(True/\True/\True/\VI 0=(VI (x.i:Int))/\True)/\d=d/\fl=fl/\l=l/\(True/\True/\True)/\r=l/\True)/\∀ x:XIx l.length,True->brS (decide ((x.i:Int)<(l.length:Int))) (0<=(x.i:Int)/\(x.i:Int)<(l.length:Int)/\0<=(x.i:Int)/\(x.i:Int)<(l.length:Int)/\brS (!((eA l x.i).fst==(eA l x.i).fst && ((eA l x.i).snd==(eA l x.i).snd && true))) (O37 d fl l K) (∃ x':XIx l.length,True/\((True/\True/\True/\(VI (Za.wrap ((x.i:Int)+1)))=(VI (x'.i:Int))/\True)/\d=d/\fl=fl/\l=l/\(True/\True/\True)/\l=l/\True)/\l.length-x'.i<l.length-x.i)) (K (.one (.at (.val (Zi true)))) [(.row false .slot (d)),(.row false .u32 (fl)),(.row false .ent (l))] []))))=_ by kernel_rfl) ?_;delta O37;have hi:=rp.inU hl;have sz:t.size=l.length:=by rw[<-e,t.list_len]
 refine⟨hl,⟨t,rp,hasc,bal,h2,hs⟩,hi,hl,fun n1 e1=>bf7 (by rw[e1,rp.sz,sz];simp) ⟨hl,t,rp,by omega,hs,fun r er=>bf7 (by rw[er,e];simp) ⟨⟨⟨0,ZC _⟩,?_⟩,fun x _=>Ya (fun c=>?_) fun _=>h⟩⟩⟩
 .have er:r=l:=er.trans e
  (repeat' first|exact trivial|exact rfl|exact er|refine And.intro ?_ ?_)
 have c:x.i<l.length:=by have:=Zc c;omega
 refine⟨by omega,by omega,by omega,by omega,bf7 (by simp) ⟨⟨x.i+1,c⟩,?_⟩⟩;have v:Za.wrap ((x.i:Int)+1)=((x.i+1:Nat):Int):=by rw[Yb (by omega) (by omega)];rfl
 (repeat' first|exact trivial|exact rfl|exact ZT (Zm Za) v|refine And.intro ?_ ?_)
 show l.length-(x.i+1)<l.length-x.i;omega
theorem Yxy:Tb C0 16 tTr7:=by
 refine .of Tryz.func16 (by decide) rfl fun args H K h hB=>?_
 unfold tTr7 at h;split at h<;>try exact h.elim
 rename_i i d fl l;obtain⟨hl,⟨t,rp,hasc,bal,h2,hs,e⟩,h⟩:=h;exact⟨aTr7 1000001 l d fl,⟨Ye C0.ok Yxx _,Ye C0.ok YlO _,Ye C0.ok (Ysq _) _,trivial⟩,YuV d fl i l K hl t rp hasc bal h2 hs e h⟩

theorem Yno {S:Arn}{hs:LI}(w:Wf S hs)(i:Int):ndD (Yg S) i=S.nd i:=by
 unfold ndD;rw[Yl w];cases hb:S.us i with
 | false=>rw[w.zero i hb];rfl
 | true=>rw[Zj rfl,YX w hb]
theorem YgI {S:Arn}{hs:LI}(w:Wf S hs):∀ {t:Tr} {i:Int},Rep S t i->RepD (Yg S) t i
 | .nil,i,h=>h
 | .node l k v r,i,h=>by
  have sz:=Rep.size w h;obtain⟨h1,h2,h3,h4,h5⟩:=h;refine⟨by rw[Yl w];exact h1,?_⟩;rw[Yno w];exact⟨h2,h3,by rw[sz];simp[Tr.size],YgI w h4,YgI w h5⟩
section
def RepK (d:LS):Tr->Int->Prop
 | .nil,i=>i=0
 | .node l k v r,i=>i≠0/\(ndD d i).key=k/\(ndD d i).value=v/\RepK d l (ndD d i).left/\RepK d r (ndD d i).right
def YdZ (d:LS):Prop:=∀ j,inU (ndD d j).left/\inU (ndD d j).right
def OrT (d:LS)(i last most:Int)(any:Bool)(t:Tr):Prop:=RepK d t i/\Asc t.list/\(t.size:Int)<=most/\(any=true->gtL last t.list)
def OrG (d:LS)(i last most:Int)(any b:Bool)(la mo:Int)(an:Bool):Prop :=
 (b=true/\∃ t,OrT d i last most any t/\la=Ybx t last/\an=anyK t any/\mo=most-t.size)∨(b=false/\∀ t,¬ OrT d i last most any t)
def CkG (d:LS)(i e:Int):Prop:=e=0↔∃ t,RepD d t i/\Asc t.list/\t.Bal
def tOrG (n:Nat):Tfm C0:=fun args H K=>match args,H with
 | [.at (.ptr 0 0),.at (.val (.int .u32 i))],[.box [.slc 1,.slc 2,.val (.int .i64 last),.val (.bool any),.val (.int .i64 most)],.row false .slot d,.row false .u32 fl]=>d.length<=1000000/\inU i/\YdZ d/\0<=most/\most<n/\most<=10000000 ∧
  ∀ b la mo an,OrG d i last most any b la mo an->K (.one (.at (vB b))) [.box [.slc 1,.slc 2,vI la,vB an,vI mo],.row false .slot d,.row false .u32 fl] [0]
 | _,_=>False
def aOrG (n:Nat):Ann C0:={ Γ:=[(57,Yc [] tNd),(109,Yc [] (tOrG n))] }
def tBlG (n:Nat):Tfm C0:=fun args H K=>match args,H with
 | [.agg [.slc 0,.slc 1],.at (.val (.int .u32 i))],[.row false .slot d,.row false .u32 fl]=>d.length<=1000000/\∃ t,RepD d t i/\t.size<n/\t.size<=1000000/\∀ b,(b=true↔t.Bal)->K (.one (.at (vB b))) [.row false .slot d,.row false .u32 fl] []
 | _,_=>False
def aBlG (n:Nat):Ann C0:={ quiet:=[57,120,110],Γ:=[(57,Yc [] tNd),(120,Yc [] tBal),(110,Yc [] (tBlG n))] }
def tCkG:Tfm C0:=fun args H K=>match args,H with
 | [.agg [.slc 0,.slc 1],.at (.val (.int .u32 i))],[.row false .slot d,.row false .u32 fl]=>d.length<=400000/\inU i/\YdZ d/\(i=0∨alcD d i=true)/\(∀ t,RepK d t i->t.size<=2*d.length+2->RepD d t i)/\(∀ t,RepD d t i->Asc t.list->t.size<=2*d.length+2)/\∀ e,CkG d i e->K (.one (.at (vI e))) [.row false .slot d,.row false .u32 fl] []
 | _,_=>False
def aCkG (n:Nat):Ann C0:={ Γ:=[(108,Yc [] tAlc),(109,Yc [] (tOrG n)),(110,Yc [] (tBlG n))] }
section
variable {d:LS}
theorem Ycd:∀ {t t':Tr} {i:Int},RepK d t i->RepK d t' i->t=t'
 | .nil,.nil,_,_,_=>rfl
 | .nil,.node _ _ _ _,i,h,h'=>absurd h h'.1
 | .node _ _ _ _,.nil,i,h,h'=>absurd h' h.1
 | .node l k v r,.node l' k' v' r',i,h,h'=>by
  obtain⟨_,a1,a2,a3,a4⟩:=h;obtain⟨_,b1,b2,b3,b4⟩:=h';rw[Ycd a3 b3,Ycd a4 b4,<-a1,<-a2,b1,b2]
theorem YfS:∀ {t:Tr} {i:Int},RepD d t i->RepK d t i
 | .nil,_,h=>h
 | .node _ _ _ _,i,h=>⟨h.ne,h.2.1,h.2.2.1,YfS h.2.2.2.2.1,YfS h.2.2.2.2.2⟩
theorem YpA {r:Tr}{k:Int}(h:∀ x∈r.list,k<x.1):k<=Ybx r k:=by
 rcases YeQ r k with e|⟨y,hy,e⟩
 .omega
 .have:=h y hy;omega
theorem YeS:∀ {t:Tr},Asc t.list->∀ (z:Int),∀ x∈t.list,x.1<=Ybx t z
 | .nil,_,_,x,hx=>by cases hx
 | .node l k v r,h,z,x,hx=>by
  obtain⟨a1,a2,a3,a4⟩:=YgH h;have e:=YpA a4;show x.1<=Ybx r k;have hx:x∈l.list++(k,v)::r.list:=hx;rcases Zx.1 hx with c|c
  .have:=a3 x c;omega
  .rcases ZH.1 c with c|c
   .rw[c];exact e
   .exact YeS a2 k x c
theorem OrT.parts {i last most:Int}{any:Bool}{t:Tr}(h:OrT d i last most any t)(hi:i≠0):∃ l r,t = .node l (ndD d i).key (ndD d i).value r/\OrT d (ndD d i).left last (most-1) any l/\(anyK l any=true->Ybx l last<(ndD d i).key)/\OrT d (ndD d i).right (ndD d i).key (most-1-l.size) true r:=by
 obtain⟨h1,h2,h3,h4⟩:=h;cases t with
 | nil=>exact absurd h1 hi
 | node l k v r =>
  obtain⟨_,e1,e2,e3,e4⟩:=h1;obtain⟨a1,a2,a3,a4⟩:=YgH h2;have hz:(Tr.node l k v r).size=1+l.size+r.size:=rfl;refine⟨l,r,by rw[e1,e2],⟨e3,a1,by omega,fun a x hx=>h4 a x (by show x∈l.list++(k,v)::r.list;simp[hx])⟩,fun a=>?_,e4,a2,by omega,fun _ x hx=>by rw[e1];exact a4 x hx⟩;rw[e1];exact Ykn (fun c=>h4 c (k,v) (by show (k,v)∈l.list++(k,v)::r.list;simp)) a3 a
theorem OrT.build {i last most:Int}{any:Bool}{l r:Tr}(hi:i≠0)(hl:OrT d (ndD d i).left last (most-1) any l)(hm:anyK l any=true->Ybx l last<(ndD d i).key)(hr:OrT d (ndD d i).right (ndD d i).key (most-1-l.size) true r):OrT d i last most any (.node l (ndD d i).key (ndD d i).value r):=by
 obtain⟨l1,l2,l3,l4⟩:=hl;obtain⟨r1,r2,r3,r4⟩:=hr;have r4:=r4 rfl;have hz:(Tr.node l (ndD d i).key (ndD d i).value r).size=1+l.size+r.size:=rfl
 have lk:∀ x∈l.list,x.1<(ndD d i).key:=fun x hx=>by
  have a:=YeS l2 last x hx
  have b:anyK l any=true:=by
   cases l with
   | nil=>cases hx
   | node _ _ _ _=>rfl
  have:=hm b;omega
 refine⟨⟨hi,rfl,rfl,l1,r1⟩,?_,by omega,fun a x hx=>?_⟩
 .exact ZaG.2 ⟨l2,ZaT.2 ⟨fun x hx=>r4 x hx,r2⟩,fun x hx y hy=>by
   rcases ZH.1 hy with c|c
   .rw[c];exact lk x hx
   .have a:=lk x hx;have b:=r4 y c;show x.1<y.1;omega⟩
 .have la:last<(ndD d i).key:=by
   have b:anyK l any=true:=by rw[a];exact YeR l
   have c:=hm b;cases l with
   | nil=>exact c
   | node a1 k1 v1 b1 =>
    have e:=l4 a (k1,v1) (by show (k1,v1)∈a1.list++(k1,v1)::b1.list;simp);have f:=YeS l2 last (k1,v1) (by show (k1,v1)∈a1.list++(k1,v1)::b1.list;simp);have e:last<k1:=e;have f:k1<=Ybx (.node a1 k1 v1 b1) last:=f;omega
  have hx:x∈l.list++((ndD d i).key,(ndD d i).value)::r.list:=hx;rcases Zx.1 hx with c|c
  .exact l4 a x c
  .rcases ZH.1 c with c|c
   .rw[c];exact la
   .have:=r4 x c;omega
end
abbrev O38 (n:Nat)(d:LS)(fl:LI)(K:SV → LH C0 → LN → Prop)(n1:Td)(mo:Int):Prop:=d.length<=1000000/\inU n1.right/\YdZ d/\0<=mo/\mo<(n:Int)/\mo<=10000000/\∀ w0_:Bool,∀ w1_:Int,∀ w2_:Int,∀ w3_:Bool,OrG d n1.right n1.key mo true w0_ w1_ w2_ w3_->K (.one (.at (.val (Zi (w0_))))) [(.box [(.slc 1),(.slc 2),(.val (VI (w1_))),(.val (Zi (w3_))),(.val (VI (w2_)))]),(.row false .slot (d)),(.row false .u32 (fl))] [0]
abbrev O39 (d:LS)(fl:LI)(last most:Int)(any:Bool)(K:SV → LH C0 → LN → Prop):Prop:=K (.one (.at (.val (Zi false)))) [(.box [(.slc 1),(.slc 2),(.val (VI (last))),(.val (Zi (any))),(.val (VI (most)))]),(.row false .slot (d)),(.row false .u32 (fl))] [0]
theorem YuW (n:Nat)(d:LS)(fl:LI)(last most i:Int)(any:Bool)(K:KT)(hl:d.length<=1000000)(iu:inU i)(ku:YdZ d)(m0:0<=most)(m1:most<((n+1:Nat):Int))(m2:most<=10000000)(h:∀ b la mo an,OrG d i last most any b la mo an->K (.one (.at (vB b))) [.box [.slc 1,.slc 2,vI la,vB an,vI mo],.row false .slot d,.row false .u32 fl] [0]) :
  vc C0 (aOrG n) Tryz.f109 [.at (.ptr 0 0),.at (vU i)] [.box [.slc 1,.slc 2,vI last,vB any,vI most],.row false .slot d,.row false .u32 fl] (Yh 3 (YG [0] K)):=by
 refine Eq.mp (show (brS (i==0) (K (.one (.at (.val (Zi true)))) [(.box [(.slc 1),(.slc 2),(.val (VI (last))),(.val (Zi (any))),(.val (VI (most)))]),(.row false .slot (d)),(.row false .u32 (fl))] [0]) (brS (most==0) (O39 d fl last most any K) (inU i/\d.length<=1000000/\∀ n1:Td,n1=ndD d i->d.length<=1000000/\inU n1.left/\YdZ d/\0<=Za.wrap (most-1)/\Za.wrap (most-1)<(n:Int)/\Za.wrap (most-1)<=10000000/\∀ b:Bool,∀ la:Int,∀ mo:Int,∀ an:Bool,OrG d n1.left last (Za.wrap (most-1)) any b la mo an->brS (!b) (O39 d fl la mo an K) (brS (an) (brS (decide (n1.key<=la)) (O39 d fl la mo an K) (O38 n d fl K n1 mo)) (O38 n d fl K n1 mo)))))=_ by kernel_rfl) ?_;delta O38 O39;refine Ya (fun c=>?_) fun c=>Ya (fun e=>?_) fun e=>?_
 .have c:i=0:=eq_of_beq c;exact h true last most any (.inl ⟨rfl,.nil,⟨c,List.Pairwise.nil,m0,fun _ x hx=>by cases hx⟩,rfl,rfl,by simp[Tr.size]⟩)
 .have c:i≠0:=fun k=>by rw[k] at c;simp at c
  have e:most=0:=eq_of_beq e;refine h false last most any (.inr ⟨rfl,fun t ht=>?_⟩);obtain⟨l,r,et,_⟩:=ht.parts c;have:=ht.2.2.1;rw[et] at this;have hz:(Tr.node l (ndD d i).key (ndD d i).value r).size=1+l.size+r.size:=rfl;omega
 have c:i≠0:=fun k=>by rw[k] at c;simp at c
 have e:most≠0:=fun k=>by rw[k] at e;simp at e
 refine⟨iu,hl,fun n1 e1=>?_⟩;subst e1;have kd:=ku i;rw[Yb (x:=most-1) (by omega) (by omega)];refine⟨hl,kd.1,ku,by omega,by omega,by omega,fun b la mo an R=>Ya (fun y=>?_) fun y=>?_⟩
 .rcases R with ⟨R,_⟩|⟨_,R⟩
  .rw[R] at y;simp at y
  .refine h false la mo an (.inr ⟨rfl,fun t ht=>?_⟩);obtain⟨l,r,_,hl',_⟩:=ht.parts c;exact R l hl'
 rcases R with ⟨_,l,R,ela,ean,emo⟩|⟨R,_⟩
 case inr=>rw[R] at y;simp at y
 have mo0:0<=mo:=by have:=R.2.2.1;omega
 have right:(an=true->la<(ndD d i).key)->∀ b1 la1 mo1 an1,OrG d (ndD d i).right (ndD d i).key mo true b1 la1 mo1 an1->K (.one (.at (vB b1))) [.box [.slc 1,.slc 2,vI la1,vB an1,vI mo1],.row false .slot d,.row false .u32 fl] [0]:=fun hm b1 la1 mo1 an1 Q=>by
  refine h b1 la1 mo1 an1 ?_;rw[emo] at Q;rw[ela,ean] at hm;rcases Q with ⟨q0,r,Q,f1,f2,f3⟩|⟨q0,Q⟩
  .refine .inl ⟨q0,_,OrT.build c R hm Q,f1,?_,?_⟩
   .rw[f2,YeR];rfl
   .have hz:(Tr.node l (ndD d i).key (ndD d i).value r).size=1+l.size+r.size:=rfl;omega
  .refine .inr ⟨q0,fun t ht=>?_⟩;obtain⟨l',r',_,hl',_,hr'⟩:=ht.parts c;rw[Ycd hl'.1 R.1] at hr';exact Q r' hr'
 refine Ya (fun z=>Ya (fun w=>?_) fun w=>⟨hl,kd.2,ku,mo0,by have:=R.2.2.1;omega,by omega,right fun _=>by have:=Zg w;omega⟩) fun z=>⟨hl,kd.2,ku,mo0,by have:=R.2.2.1;omega,by omega,right fun k=>by rw[k] at z;cases z⟩
 have w:(ndD d i).key<=la:=Zc w;refine h false la mo an (.inr ⟨rfl,fun t ht=>?_⟩);obtain⟨l',r',_,hl',hm',_⟩:=ht.parts c;rw[Ycd hl'.1 R.1,<-ela,<-ean] at hm';have:=hm' z;omega
theorem YuX:∀ n:Nat,Tb C0 109 (tOrG n)
 | 0=>by
  refine .ofW [0] Tryz.func109 (by decide) rfl fun args H K h hB=>?_
  unfold tOrG at h;split at h<;>try exact h.elim
  obtain⟨_,_,_,h1,h2,_⟩:=h;omega
 | n+1=>by
  refine .ofW [0] Tryz.func109 (by decide) rfl fun args H K h hB=>?_
  unfold tOrG at h;split at h<;>try exact h.elim
  rename_i i last any most d fl;obtain⟨h1,h2,h3,h4,h5,h6,h7⟩:=h;exact⟨aOrG n,⟨Ye C0.ok YlO _,Ye C0.ok (YuX n) _,trivial⟩,YuW n d fl last most i any K h1 h2 h3 h4 h5 h6 h7⟩
theorem YuY (n:Nat)(d:LS)(fl:LI)(i:Int)(K:KT)(hl:d.length<=1000000)(t:Tr)(rp:RepD d t i)(hn:t.size<n+1)(hs:t.size<=1000000)(h:∀ b,(b=true↔t.Bal)->K (.one (.at (vB b))) [.row false .slot d,.row false .u32 fl] []) :
  vc C0 (aBlG n) Tryz.f110 [.agg [.slc 0,.slc 1],.at (vU i)] [.row false .slot d,.row false .u32 fl] (Yh 2 K):=by
 refine Eq.mp (show (brS (i==0) (K (.one (.at (.val (Zi true)))) [(.row false .slot (d)),(.row false .u32 (fl))] []) (inU i/\d.length<=1000000/\∀ n1:Td,n1=ndD d i->inU n1.left/\d.length<=1000000/\∀ n2:Td,n2=ndD d n1.left->inU n1.right/\d.length<=1000000/\∀ n3:Td,n3=ndD d n1.right->0<=n2.size/\n2.size<=1000000/\0<=n3.size/\n3.size<=1000000/\∀ b:Bool,b=balB n2.size n3.size->brS (b) (d.length<=1000000/\∃ t:Tr,RepD d t n1.left/\t.size<n/\t.size<=1000000/\∀ b1:Bool,(b1=true↔t.Bal)->brS (b1) (d.length<=1000000/\∃ t1:Tr,RepD d t1 n1.right/\t1.size<n/\t1.size<=1000000/\∀ b2:Bool,(b2=true↔t1.Bal)->K (.one (.at (.val (Zi (b2))))) [(.row false .slot (d)),(.row false .u32 (fl))] []) (K (.one (.at (.val (Zi false)))) [(.row false .slot (d)),(.row false .u32 (fl))] [])) (K (.one (.at (.val (Zi false)))) [(.row false .slot (d)),(.row false .u32 (fl))] [])))=_ by kernel_rfl) ?_;cases t with
 | nil=>have e:i=0:=rp;exact bt7 (by rw[e];rfl) (h true ⟨fun _=>trivial,fun _=>rfl⟩)
 | node l k v r =>
  have hi:=rp.inU hl;have hne:=rp.ne;obtain⟨h1,h2,h3,h4,h5,h6⟩:=rp;have hz:(Tr.node l k v r).size=1+l.size+r.size:=rfl;refine bf7 (by simp[hne]) ⟨hi,hl,fun n1 e1=>?_⟩;subst e1;refine⟨h5.inU hl,hl,fun n2 e2=>⟨h6.inU hl,hl,fun n3 e3=>?_⟩⟩;have s2:n2.size=l.size:=by rw[e2,h5.sz]
  have s3:n3.size=r.size:=by rw[e3,h6.sz]
  refine⟨by omega,by omega,by omega,by omega,fun b eb=>?_⟩;rw[s2,s3] at eb;refine Ya (fun y=>⟨hl,l,h5,by omega,by omega,fun b1 i1=>Ya (fun y1=>⟨hl,r,h6,by omega,by omega,fun b2 i2=>h b2 ?_⟩) fun y1=>h false ?_⟩) fun y=>h false ?_
  .rw[y] at eb;have b0:balN (l.size:Int) (r.size:Int):=Zc eb.symm;exact⟨fun q=>⟨b0,i1.1 y1,i2.1 q⟩,fun q=>i2.2 q.2.2⟩
  .exact⟨(fun q=>by cases q),fun q=>by have:=i1.2 q.2.1;rw[y1] at this;cases this⟩
  .rw[y] at eb;exact⟨(fun q=>by cases q),fun q=>absurd (show balN (l.size:Int) (r.size:Int) from q.1) (Zg eb.symm)⟩
theorem YuZ:∀ n:Nat,Tb C0 110 (tBlG n)
 | 0=>by
  refine .of Tryz.func110 (by decide) rfl fun args H K h hB=>?_
  unfold tBlG at h;split at h<;>try exact h.elim
  obtain⟨_,t,_,hn,_⟩:=h;omega
 | n+1=>by
  refine .of Tryz.func110 (by decide) rfl fun args H K h hB=>?_
  unfold tBlG at h;split at h<;>try exact h.elim
  rename_i i d fl;obtain⟨hl,t,rp,hn,hs,h⟩:=h;exact⟨aBlG n,⟨Ye C0.ok YlO _,Ye C0.ok Ysn _,Ye C0.ok (YuZ n) _,trivial⟩,YuY n d fl i K hl t rp hn hs h⟩
theorem Yva (d:LS)(fl:LI)(i:Int)(K:KT)(hl:d.length<=400000)(iu:inU i)(ku:YdZ d)(hi:i=0∨alcD d i=true)(hk:∀ t,RepK d t i->t.size<=2*d.length+2->RepD d t i)(hz:∀ t,RepD d t i->Asc t.list->t.size<=2*d.length+2)(h:∀ e,CkG d i e->K (.one (.at (vI e))) [.row false .slot d,.row false .u32 fl] []) :
  vc C0 (aCkG 1000001) Tryz.f56 [.agg [.slc 0,.slc 1],.at (vU i)] [.row false .slot d,.row false .u32 fl] (Yh 2 K):=by
 generalize hn:1000001=n
 refine Eq.mp (show (brS (i != 0) (inU i/\d.length<=1000000/\brS (!alcD d i) (K (.one (.at (.val (VI 1)))) [(.row false .slot (d)),(.row false .u32 (fl))] []) (d.length<=1000000/\inU i/\YdZ d/\0<=Za.wrap (Za.wrap (2*(d.length:Int))+2)/\Za.wrap (Za.wrap (2*(d.length:Int))+2)<(n:Int)/\Za.wrap (Za.wrap (2*(d.length:Int))+2)<=10000000/\∀ b:Bool,∀ la:Int,∀ mo:Int,∀ an:Bool,OrG d i 0 (Za.wrap (Za.wrap (2*(d.length:Int))+2)) false b la mo an->brS (!b) (K (.one (.at (.val (VI 7)))) [(.row false .slot (d)),(.row false .u32 (fl))] []) (d.length<=1000000/\∃ t:Tr,RepD d t i/\t.size<n/\t.size<=1000000/\∀ b1:Bool,(b1=true↔t.Bal)->brS (!b1) (K (.one (.at (.val (VI 8)))) [(.row false .slot (d)),(.row false .u32 (fl))] []) (K (.one (.at (.val (VI 0)))) [(.row false .slot (d)),(.row false .u32 (fl))] [])))) (d.length<=1000000/\inU i/\YdZ d/\0<=Za.wrap (Za.wrap (2*(d.length:Int))+2)/\Za.wrap (Za.wrap (2*(d.length:Int))+2)<(n:Int)/\Za.wrap (Za.wrap (2*(d.length:Int))+2)<=10000000/\∀ b:Bool,∀ la:Int,∀ mo:Int,∀ an:Bool,OrG d i 0 (Za.wrap (Za.wrap (2*(d.length:Int))+2)) false b la mo an->brS (!b) (K (.one (.at (.val (VI 7)))) [(.row false .slot (d)),(.row false .u32 (fl))] []) (d.length<=1000000/\∃ t:Tr,RepD d t i/\t.size<n/\t.size<=1000000/\∀ b1:Bool,(b1=true↔t.Bal)->brS (!b1) (K (.one (.at (.val (VI 8)))) [(.row false .slot (d)),(.row false .u32 (fl))] []) (K (.one (.at (.val (VI 0)))) [(.row false .slot (d)),(.row false .u32 (fl))] []))))=_ by kernel_rfl) ?_
 rw[Yb (x:=2*(d.length:Int)) (by omega) (by omega),Yb (x:=2*(d.length:Int)+2) (by omega) (by omega)]
 have main:∀ b la mo an,OrG d i 0 (2*(d.length:Int)+2) false b la mo an->brS (!b) (K (.one (.at (vI 7))) [.row false .slot d,.row false .u32 fl] []) (d.length<=1000000/\∃ t,RepD d t i/\t.size<n/\t.size<=1000000/\∀ b1:Bool,(b1=true↔t.Bal)->brS (!b1) (K (.one (.at (vI 8))) [.row false .slot d,.row false .u32 fl] []) (K (.one (.at (vI 0))) [.row false .slot d,.row false .u32 fl] [])):=fun b la mo an R=>by
  refine Ya (fun y=>h 7 ⟨fun q=>absurd q (by decide),?_⟩) fun y=>?_
  .rintro ⟨t,a,b',c⟩
   rcases R with ⟨R,_⟩|⟨_,R⟩
   .rw[R] at y;simp at y
   .exact absurd ⟨YfS a,b',by have:=hz t a b';omega,fun q=>by cases q⟩ (R t)
  .rcases R with ⟨_,t,R,_⟩|⟨R,_⟩
   case inr=>rw[R] at y;simp at y
   have tz:=R.2.2.1;have rd:=hk t R.1 (by omega);refine⟨by omega,t,rd,by omega,by omega,fun b1 i1=>Ya (fun y1=>h 8 ⟨fun q=>absurd q (by decide),?_⟩) fun y1=>h 0 ⟨fun _=>⟨t,rd,R.2.1,i1.1 (by simpa using y1)⟩,fun _=>rfl⟩⟩
   rintro ⟨t',a,b',c⟩
   rw[Ycd (YfS a) R.1] at c;have:=i1.2 c;rw[this] at y1;simp at y1
 refine Ya (fun c=>⟨iu,by omega,bf7 ?_ ⟨by omega,iu,ku,by omega,by omega,by omega,main⟩⟩) fun _=>⟨by omega,iu,ku,by omega,by omega,by omega,main⟩
 have c:i≠0:=by simpa using c
 rw[hi.resolve_left c]
 rfl
theorem Yxz:Tb C0 56 tCkG:=by
 refine .of Tryz.func56 (by decide) rfl fun args H K h hB=>?_
 unfold tCkG at h;split at h<;>try exact h.elim
 rename_i i d fl;obtain⟨h1,h2,h3,h4,h5,h6,h7⟩:=h;exact⟨aCkG 1000001,⟨Ye C0.ok YlH _,Ye C0.ok (YuX _) _,Ye C0.ok (YuZ _) _,trivial⟩,Yva d fl i K h1 h2 h3 h4 h5 h6 h7⟩
end
end Go.Proofs.YtedfbafngmicpaaGreat.Sx
namespace Go.Proofs.YtedfbafngmicpaaGreat
open Go
def polC:BitVec 32:=0x82F63B78#32
def stC (x:BitVec 32):BitVec 32:=(x >>> 1) ^^^ (if x.getLsbD 0 then polC else 0#32)
def itC:Nat->BitVec 32->BitVec 32
 | 0,x=>x
 | n+1,x=>itC n (stC x)
theorem Ysr (a b:BitVec 32):stC (a ^^^ b)=stC a ^^^ stC b:=by
 unfold stC;rw[BitVec.getLsbD_xor,BitVec.ushiftRight_xor_distrib];cases a.getLsbD 0<;>cases b.getLsbD 0
 .simp
 .simp[ZbC]
 .simp only[Bool.bne_false,if_true,Zbf,if_false,ZbV];rw[ZbC,BitVec.xor_comm (b >>> 1),<-ZbC]
 .simp only[Bool.bne_true,Bool.not_true,if_true,Zbf,if_false,ZbV];rw[ZbC (a >>> 1),<-ZbC polC,BitVec.xor_comm polC,ZbC (b >>> 1),BitVec.xor_self,ZbV]
theorem Ynp:∀ (n:Nat) (a b:BitVec 32),itC n (a ^^^ b)=itC n a ^^^ itC n b
 | 0,_,_=>rfl
 | n+1,a,b=>by
  show itC n (stC (a ^^^ b))=itC n (stC a) ^^^ itC n (stC b);rw[Ysr,Ynp n]
theorem Ynq:∀ (n:Nat) (x:BitVec 32),(∀ i,i<n->x.getLsbD i=false)->itC n x=x >>> n
 | 0,x,_=>by simp[itC]
 | n+1,x,h=>by
  have e:stC x=x >>> 1:=by unfold stC;rw[h 0 (Nat.succ_pos n)];simp
  show itC n (stC x)=_;rw[e,Ynq n _ fun i hi=>by rw[BitVec.getLsbD_ushiftRight];exact h (1+i) (by omega),Nat.add_comm n 1,BitVec.shiftRight_add]
theorem Yss (x:BitVec 32):itC 8 x=(x >>> 8) ^^^ itC 8 (x &&& 255#32):=by
 have e:x=(x &&& ~~~ 255#32) ^^^ (x &&& 255#32):=by
  ext i hi
  simp only[BitVec.getElem_xor,BitVec.getElem_and,BitVec.getElem_not];cases x[i]<;>cases (255#32)[i]<;>rfl
 have lo:itC 8 (x &&& ~~~ 255#32)=(x &&& ~~~ 255#32) >>> 8:=Ynq 8 _ fun i hi=>by
  rw[BitVec.getLsbD_and,BitVec.getLsbD_not]
  have:(255#32).getLsbD i=true:=by
   match i,hi with
   | 0,_|1,_|2,_|3,_|4,_|5,_|6,_|7,_=>rfl
  rw[this];simp
 have hi:(x &&& ~~~ 255#32) >>> 8=x >>> 8:=by
  ext i hi
  simp only[BitVec.getElem_ushiftRight,BitVec.getLsbD_and,BitVec.getLsbD_not]
  have:(255#32).getLsbD (8+i)=false:=by
   rw[show (255#32)=BitVec.ofNat 32 255 from rfl,BitVec.getLsbD_ofNat];have:Nat.testBit 255 (8+i)=false:=Zcj (ZN (by decide:255<2 ^ 8) (Zcx (by decide) (by omega)));rw[this];simp
  rw[this]
  by_cases q:8+i<32
  .simp[q]
  .rw[BitVec.getLsbD_of_ge x _ (by omega)];simp
 conv=>lhs;rw[e]
 rw[Ynp,lo,hi]
def vE:Nat->Int->LI
 | 0,u=>[u]
 | f+1,u=>if u<128 then [u] else (u % 128+128)::vE f (u / 128)
def vD (eT eM:Int)(i:Nat):LI->Int->Int × Int × Int
 | [],_=>(0,0,eT)
 | c::r,u=>if (i=9/\1<c)∨(0<i/\c=0) then (0,0,eM) else if c<128 then (u+(c % 128)*128 ^ i,(i:Int)+1,0) else vD eT eM (i+1) r (u+(c % 128)*128 ^ i)
theorem Ynr:∀ (f:Nat) (u:Int),1<=(vE f u).length/\(vE f u).length<=f+1
 | 0,u=>⟨Zw _,Zw _⟩
 | f+1,u=>by
  have:=Ynr f (u / 128);unfold vE;split
  .simp
  .simp;omega
theorem Yns:∀ (f:Nat) (u:Int),0<=u->u<128 ^ f*128->∀ c∈vE f u,0<=c/\c<256
 | 0,u,h0,h,c,hc=>by
  have:c=u:=by simpa [vE] using hc
  rw[ZbY] at h;omega
 | f+1,u,h0,h,c,hc=>by
  unfold vE at hc;split at hc
  .have:c=u:=by simpa using hc
   omega
  .rcases ZH.1 hc with e|hc
   .omega
   .refine Yns f (u / 128) (by omega) ?_ c hc;rw[ZaC] at h;omega
theorem Yst (eT eM:Int):∀ (f i:Nat) (u a:Int) (r:LI),f+i=10->0<=u->(0<i->1<=u)->u<2 ^ (64-7*i)->vD eT eM i (vE f u++r) a=(a+u*128 ^ i,(i:Int)+(vE f u).length,0)
 | 0,i,u,a,r,hf,h0,h1,h2=>by
  obtain rfl:i=10:=by omega
  have h2:u<1:=h2;have:=h1 (by omega);omega
 | f+1,i,u,a,r,hf,h0,h1,h2=>by
  unfold vE
  by_cases c:u<128
  .rw[Zj c];show vD eT eM i (u::r) a=_;unfold vD;rw[Zf ?_,Zj c,ZcM h0 c]
   .rfl
   .rintro (⟨rfl,q⟩|⟨q1,q2⟩)
    .have h2:u<2:=h2;omega
    .have:=h1 q1;omega
  .rw[Zf c]
   have hi:i<=8:=by
    apply ZY;intro n
    obtain rfl:i=9:=by
     rcases Zad i 10 with q|q
     .omega
     .omega
    have h2:u<2:=h2;omega
   show vD eT eM i ((u % 128+128)::(vE f (u / 128)++r)) a=_;unfold vD;rw[Zf ?_,Zf (by omega),Yst eT eM f (i+1) (u / 128) _ r (by omega) (by omega) (fun _=>by omega) ?_]
   .have e:(u % 128+128) % 128=u % 128:=by omega
    have p:(128:Int) ^ (i+1)=128 ^ i*128:=ZaC ..;rw[e,p]
    congr 1
    .rw[Int.add_assoc]
     congr 1
     have d:u=u % 128+u / 128*128:=by omega
     conv=>rhs;rw[d]
     rw[Int.add_mul,<-ZcJ,ZcJ (u / 128),ZcJ (u / 128),Zcu 128]
    .congr 1
     rw[ZQ];omega
   .have e:64-7*i=(64-7*(i+1))+7:=by omega
    rw[e,Int.pow_add] at h2;have p7:(2:Int) ^ 7=128:=by decide
    rw[p7] at h2;omega
   .rintro (⟨q,_⟩|⟨_,q⟩)
    .omega
    .omega
def zz (n:Int):Int:=if 0<=n then 2*n else -2*n-1
def uz (u:Int):Int:=if u % 2=0 then u / 2 else -(u / 2)-1
theorem YxA (n:Int):uz (zz n)=n:=by
 unfold uz zz
 by_cases c:0<=n
 .rw[Zj c,Zj (by omega)];omega
 .rw[Zf c,Zf (by omega)];omega
theorem YxB {u:Int}(h:0<=u):zz (uz u)=u:=by
 unfold uz zz
 by_cases c:u % 2=0
 .rw[Zj c,Zj (by omega)];omega
 .rw[Zf c,Zf (by omega)];omega
theorem zz_rng {n:Int}(h1 : -9223372036854775808<=n)(h2:n<=9223372036854775807):0<=zz n/\zz n<=18446744073709551615:=by
 unfold zz;split<;>omega
theorem Yvb {u:Int}(h1:0<=u)(h2:u<=18446744073709551615) : -9223372036854775808<=uz u/\uz u<=9223372036854775807:=by
 unfold uz;split<;>omega
def wB:Nat->Int->LI
 | 0,_=>[]
 | n+1,u=>wB n (u / 256)++[u % 256]
def wD (l:LI):Int:=l.foldl (fun a c=>256*a+c) 0
theorem Yay:∀ (n:Nat) (u:Int),(wB n u).length=n
 | 0,_=>rfl
 | n+1,u=>by unfold wB;rw[Zh,Yay n];rfl
theorem Ynt:∀ (n:Nat) (u:Int),∀ c∈wB n u,0<=c/\c<256
 | 0,_,c,hc=>by simp[wB] at hc
 | n+1,u,c,hc=>by
  unfold wB at hc;rcases Zx.1 hc with hc|hc
  .exact Ynt n _ c hc
  .rw[ZL.1 hc];omega
theorem YcH (l:LI)(c:Int):wD (l++[c])=256*wD l+c:=by unfold wD;rw[ZaO];rfl
theorem YpB:∀ (n:Nat) (u:Int),0<=u->u<256 ^ n->wD (wB n u)=u
 | 0,u,h0,h=>by
  rw[ZbY] at h;show (0:Int)=u;omega
 | n+1,u,h0,h=>by
  unfold wB;rw[ZaC] at h;rw[YcH,YpB n (u / 256) (by omega) (by omega)];omega
def crX (b:LI)(x:BitVec 32):BitVec 32:=b.foldl (fun x v=>itC 8 (x ^^^ BitVec.ofInt 32 v)) x
def crc (b:LI):Int:=((~~~ crX b (~~~ 0#32)).toNat:Int)
theorem YcI (b:LI):0<=crc b/\crc b<4294967296:=by
 have:=(~~~ crX b (~~~ 0#32)).isLt;unfold crc;omega
def frH (p:LI):LI:=vE 10 p.length++p
def frE (p:LI):LI:=frH p++wB 4 (crc (frH p))
def frD (eT eM eC top:Int)(r:LI):LI × Int × Int :=
 match vD eT eM 0 r 0 with
 | (n,k,e)=>if e≠0 then ([],0,e) else if top<n then ([],0,eM) else if (r.length:Int)<k+n+4 then ([],0,eT) else
  if wD ((r.drop (k+n).toNat).take 4)=crc (r.take (k+n).toNat) then ((r.take (k+n).toNat).drop k.toNat,k+n+4,0) else ([],0,eC)
theorem Ysu {eT eM eC top:Int}{p s:LI}(hp:(p.length:Int)<=top)(h2:(p.length:Int)<18446744073709551616):frD eT eM eC top (frE p++s)=(p,((frE p).length:Int),(0:Int)):=by
 have v:=Yst eT eM 10 0 p.length 0 (p++(wB 4 (crc (frH p))++s)) rfl (by omega) (fun q=>absurd q (Nat.lt_irrefl _)) h2;have e0:frE p++s=vE 10 p.length++(p++(wB 4 (crc (frH p))++s)):=by unfold frE frH;simp[Zo]
 have hl:(frH p).length=(vE 10 (p.length:Int)).length+p.length:=by unfold frH;rw[Zh]
 have fl:(frE p).length=(frH p).length+4:=by unfold frE;rw[Zh,Yay]
 unfold frD;rw[<-e0] at v;rw[v];dsimp only
 have ek:((0:Nat):Int)+((vE 10 (p.length:Int)).length:Int)+(0+(p.length:Int)*128 ^ 0)=((frH p).length:Int):=by
  rw[hl,ZbY];omega
 rw[Zf (by simp),Zf (by rw[ZbY];omega),ek,Zf (by rw[Zh,fl];omega)]
 have t1:(frE p++s).take (((frH p).length:Int)).toNat=frH p:=by
  unfold frE;rw[Zo,Zau,ZbT]
  rfl
 have t2:((frE p++s).drop (((frH p).length:Int)).toNat).take 4=wB 4 (crc (frH p)):=by
  unfold frE;rw[Zo,Zau,List.drop_left' rfl,ZbT (Yay 4 _)]
 have c:=YcI (frH p);have p4:(256:Int) ^ 4=4294967296:=by decide
 rw[t1,t2,YpB 4 _ c.1 (by rw[p4];exact c.2),Zj rfl];have d0:(((0:Nat):Int)+((vE 10 (p.length:Int)).length:Int)).toNat=(vE 10 (p.length:Int)).length:=by omega
 have d1:(frH p).drop (vE 10 (p.length:Int)).length=p:=by unfold frH;exact List.drop_left' rfl
 have d2:((frH p).length:Int)+4=(frE p).length:=by omega
 rw[d0,d1,d2]
def xorI (k:IntKind)(x y:Int):Int:=k.wrap (BitVec.ofInt k.bits x ^^^ BitVec.ofInt k.bits y).toNat
def andI (k:IntKind)(x y:Int):Int:=k.wrap (BitVec.ofInt k.bits x &&& BitVec.ofInt k.bits y).toNat
def orI (k:IntKind)(x y:Int):Int:=k.wrap (BitVec.ofInt k.bits x ||| BitVec.ofInt k.bits y).toNat
theorem YH (w:Nat){x:Int}(h0:0<=x)(h:x<2 ^ w):(BitVec.ofInt w x).toNat=x.toNat:=by
 rw[BitVec.toNat_ofInt,ZcM h0 (by rw[Int.natCast_pow];exact h)]
theorem YeT {n:Nat}(h:n<256):IntKind.u8.wrap (n:Int)=n:=by
 unfold IntKind.wrap;simp[IntKind.signed,IntKind.bits];omega
theorem Yce {n:Nat}(h:n<4294967296):Ze.wrap (n:Int)=n:=by
 unfold IntKind.wrap;simp[IntKind.signed,IntKind.bits];omega
theorem Ycf {n:Nat}(h:n<18446744073709551616):Zd.wrap (n:Int)=n:=by
 unfold IntKind.wrap;simp[IntKind.signed,IntKind.bits];omega
theorem Yvc {x:Int}(h0:0<=x)(h:x<4294967296):andI .u32 x 1=x % 2:=by
 show Ze.wrap ((BitVec.ofInt 32 x &&& BitVec.ofInt 32 1).toNat:Int)=_;rw[Yce (Zbh _),Zcp,YH 32 h0 h,show (BitVec.ofInt 32 1).toNat=1 from rfl,Nat.and_one_is_mod];omega
theorem Ysv {x:Int}(h0:0<=x)(h:x<18446744073709551616):andI .u64 x 1=x % 2:=by
 show Zd.wrap ((BitVec.ofInt 64 x &&& BitVec.ofInt 64 1).toNat:Int)=_;rw[Ycf (Zbh _),Zcp,YH 64 h0 h,show (BitVec.ofInt 64 1).toNat=1 from rfl,Nat.and_one_is_mod];omega
theorem YpC {c:Int}(h0:0<=c)(h:c<256):andI .u8 c 127=c % 128:=by
 show IntKind.u8.wrap ((BitVec.ofInt 8 c &&& BitVec.ofInt 8 127).toNat:Int)=_;rw[YeT (Zbh _),Zcp,YH 8 h0 h,show (BitVec.ofInt 8 127).toNat=2 ^ 7-1 from rfl,Zcy];omega
theorem Ysw {c:Int}(h0:0<=c)(h:c<256):orI .u8 c 128=c % 128+128:=by
 show IntKind.u8.wrap ((BitVec.ofInt 8 c ||| BitVec.ofInt 8 128).toNat:Int)=_;rw[YeT (Zbh _),BitVec.toNat_or,YH 8 h0 h,show (BitVec.ofInt 8 128).toNat=128 from rfl];have key:∀ n:Nat,n<256->n ||| 128=n % 128+128:=by decide +kernel
 rw[key _ (by omega)];omega
theorem p64:(2:Int) ^ 64=18446744073709551616:=by decide +kernel
theorem Ynu {u w:Int}{i:Nat}(u0:0<=u)(u1:u<2 ^ i)(w0:0<=w)(h:u+w*2 ^ i<18446744073709551616):orI .u64 u (w*2 ^ i)=u+w*2 ^ i:=by
 have p:(0:Int)<=w*2 ^ i:=ZaY w0 (ZbZ (ZbQ (by decide)));show Zd.wrap ((BitVec.ofInt 64 u ||| BitVec.ofInt 64 (w*2 ^ i)).toNat:Int)=_;rw[Ycf (Zbh _),BitVec.toNat_or,YH 64 u0 (by rw[p64];omega),YH 64 p (by rw[p64];omega)]
 have e:(w*2 ^ i).toNat=2 ^ i*w.toNat:=by
  rw[Int.toNat_mul w0 (ZbZ (ZbQ (by decide))),ZbL]
  congr 1
 have ul:u.toNat<2 ^ i:=by
  have:((u.toNat:Nat):Int)<((2 ^ i:Nat):Int):=by rw[ZcB u0,Int.natCast_pow];exact u1
  omega
 rw[e,Nat.or_comm,<-Nat.two_pow_add_eq_or_of_lt ul,<-e];omega
end Go.Proofs.YtedfbafngmicpaaGreat
namespace Go.Proofs.YtedfbafngmicpaaGreat.Sx
open Go
def uvA (b:LI)(u:Int):LI:=b++vE 10 u
structure XUv (P:Int->LI->Prop) where
 u:Int
 o:LI
 h:P u o
def aUv (P:Int->LI->Prop)(b:LI):Ann C0:={ Γ:=[],inv:=fun n=>match n with
 | 2=>some { X:=XUv P,sl:=[1,5],tf:=fun x=>[vi .u64 x.u,.one (.at (.slc 1))],hf:=fun x=>[.row false .u8 b,.row true .u8 x.o],μ:=fun x=>x.u.toNat }
 | _=>none }
def tUv:Tfm C0:=fun args H K=>match args,H with
 | [.at (.slc 0),.at (.val (.int .u64 u))],[.row false .u8 b]=>0<=u/\u<18446744073709551616/\b.length<=1000000000/\∀ o,o=uvA b u->K (.one (.at (.slc 1))) [.row false .u8 b,.row true .u8 o] []
 | _,_=>False
theorem YN {x:Int}(_:0<=x):IntKind.u8.wrap x=x % 256:=by
 unfold IntKind.wrap;simp[IntKind.signed,IntKind.bits]
theorem YxC {x:Int}:x.fdiv (2 ^ min (Zq 7) Zd.bits)=x / 128:=by
 rw[show (2:Int) ^ min (Zq 7) Zd.bits=128 from by decide +kernel];exact Zah _ (by decide)
def PUv (b:LI)(u:Int):Int->LI->Prop:=fun x o=>0<=x/\∃ f,o.length+f=b.length+10/\x<128 ^ f*128/\o++vE f x=b++vE 10 u
theorem YxD (b:LI)(u:Int)(K:KT)(u0:0<=u)(u1:u<18446744073709551616)(hb:b.length<=1000000000)(h:∀ o,o=uvA b u->K (.one (.at (.slc 1))) [.row false .u8 b,.row true .u8 o] []) :
  vc C0 (aUv (PUv b u) b) Tryz.f124 [.at (.slc 0),.at (.val (.int .u64 u))] [.row false .u8 b] (Yh 1 K):=by
 generalize hP:PUv b u=P;refine Eq.mp (show ((0:Int)<=0/\0<=Za.wrap ((b.length:Int)+10)/\Za.wrap ((b.length:Int)+10)*(↑(Yd C0 EC.u8):Int)<=140737488355328/\(([]:LE).length+b.length)*Yd C0 EC.u8<=140737488355328/\(∃ x:XUv P,True/\(VW (u)=VW (x.u)/\True/\True)/\b=b/\([]++b)=x.o/\True)/\∀ x:XUv P,True->brS (decide (x.u≥128)) ((x.o.length+[orI IntKind.u8 (IntKind.u8.wrap x.u) 128].length)*Yd C0 EC.u8<=140737488355328/\∃ x':XUv P,True/\(((VW (x.u.fdiv (2 ^ min (Zq 7) Zd.bits)))=(VW (x'.u))/\True/\True)/\b=b/\(x.o++[orI IntKind.u8 (IntKind.u8.wrap x.u) 128])=x'.o/\True)/\x'.u.toNat<x.u.toNat) ((x.o.length+[IntKind.u8.wrap x.u].length)*Yd C0 EC.u8<=140737488355328/\K (.one (.at (.slc 1))) [(.row false .u8 (b)),(.row true .u8 (x.o++[IntKind.u8.wrap x.u]))] []))=_ by kernel_rfl) ?_;subst hP;have p10:(18446744073709551616:Int)<=128 ^ 10*128:=by decide +kernel
 rw[Yb (x:=(b.length:Int)+10) (by omega) (by omega),YaF];refine⟨by decide,by omega,by omega,by simp;omega,⟨⟨u,b,u0,10,rfl,by omega,rfl⟩,?_⟩,fun x _=>Ya (fun z=>?_) fun z=>?_⟩
 ·repeat' constructor
 .obtain⟨x,o,x0,f,hf,xl,e⟩:=x;dsimp only at z ⊢;have z:128<=x:=by have:=Zc z;omega
  cases f with
  | zero=>rw[ZbY] at xl;omega
  | succ f =>
   rw[YN x0,Ysw (by omega) (by omega),YxC]
   have ev:vE (f+1) x=(x % 128+128)::vE f (x / 128):=by
    conv=>lhs;unfold vE
    rw[Zf (by omega)]
   rw[ZaC] at xl;refine⟨by rw[Zr];omega,⟨x / 128,o++[x % 256 % 128+128],by omega,f,by rw[Zh,Zr];omega,by omega,?_⟩,trivial,?_,by show (x / 128).toNat<x.toNat;omega⟩
   .rw[<-e,ev,show x % 256 % 128=x % 128 by omega,Zo];rfl
   ·repeat' constructor
 .obtain⟨x,o,x0,f,hf,xl,e⟩:=x;dsimp only at z ⊢;have zx:x<128:=by have:=Zg z;omega
  have ev:vE f x=[x]:=by
   cases f with
   | zero=>rfl
   | succ f=>unfold vE;rw[Zj zx]
  rw[YN x0,show x % 256=x by omega];refine⟨by rw[Zr];omega,h _ (by unfold uvA;rw[<-e,ev])⟩
theorem s_uv:Tb C0 124 tUv:=by
 refine .of Tryz.func124 (by decide) rfl fun args H K h hB=>?_
 unfold tUv at h;split at h<;>try exact h.elim
 rename_i u b;refine⟨_,?_,YxD b u K h.1 h.2.1 h.2.2.1 h.2.2.2⟩;exact trivial
def allB (b:LI):Prop:=∀ c∈b,0<=c/\c<256
abbrev getB (l:LI)(i:Nat):Int:=l.getD i 0
def uvD (b:LI)(at_:Int):Int × Int × Int:=if at_<0∨(b.length:Int)<at_ then (0,0,1) else
 match vD 12 13 0 (b.drop at_.toNat) 0 with
 | (u,k,e)=>if e=0 then (u,at_+k,0) else (0,0,e)
structure XUd (P:Nat->Int->Prop) where
 i:Nat
 u:Int
 h:P i u
def aUd (P P':Nat->Int->Prop)(b:LI)(at_:Int):Ann C0:={ Γ:=[],inv:=fun n=>match n with
 | 1009=>some { X:=XUd P',sl:=[7,8,9,20,22],tf:=fun x=>[vi .u64 x.u,vi .i64 x.i,vi .u8 (getB (b.drop at_.toNat) x.i),.one (.at (.slc 1)),vi .i64 x.i],hf:=fun _=>[.row false .u8 b,.row false .u8 (b.drop at_.toNat)],rel:=fun T _ x=>YaM T 22 x.i }
 | 5=>some { X:=XUd P,sl:=[7,20,22],tf:=fun x=>[vi .u64 x.u,.one (.at (.slc 1)),vi .i64 x.i],hf:=fun _=>[.row false .u8 b,.row false .u8 (b.drop at_.toNat)],μ:=fun x=>(b.drop at_.toNat).length-x.i }
 | _=>none }
def tUd:Tfm C0:=fun args H K=>match args,H with
 | [.at (.slc 0),.at (.val (.int .i64 at_))],[.row false .u8 b]=>allB b/\b.length<=1000000000000/\∀ u n e,uvD b at_=(u,n,e)->K (.tup [.at (vU64 u),.at (vI n),.at (vI e)]) [.row false .u8 b] []
 | _,_=>False
theorem YaY {b:LI}{at_ u k e:Int}(h0:0<=at_)(h1:at_<=b.length)(h:vD 12 13 0 (b.drop at_.toNat) 0=(u,k,e)):uvD b at_=if e=0 then (u,at_+k,0) else (0,0,e):=by
 unfold uvD;rw[Zf (by omega),h]
theorem p7:∀ i:Nat,(2:Int) ^ (7*i)=128 ^ i
 | 0=>rfl
 | i+1=>by rw[Nat.mul_add,Int.pow_add,p7 i,ZaC];rfl
def PUd (r:LI):Nat->Int->Prop:=fun i u=>i<=9/\0<=u/\u<128 ^ i/\vD 12 13 i (r.drop i) u=vD 12 13 0 r 0
def PUd' (r:LI):Nat->Int->Prop:=fun i u=>PUd r i u/\i<r.length/\¬ ((i=9/\1<getB r i)∨(0<i/\getB r i=0))
theorem Ydj {r:LI}{i:Nat}(h:i<r.length):r.drop i=getB r i::r.drop (i+1):=by
 rw[Zbg h];unfold getB;rw[Zb,Zk h];rfl
theorem Yj {r:LI}{i:Nat}(h:i<r.length):getB r i∈r:=by
 unfold getB;rw[Zb,Zk h];exact Zaa h
theorem PUd.bad {r:LI}{i:Nat}{u:Int}(h:PUd r i u)(hi:i<r.length)(hc:(i=9/\1<getB r i)∨(0<i/\getB r i=0)):vD 12 13 0 r 0=(0,0,13):=by
 rw[<-h.2.2.2,Ydj hi];unfold vD;rw[Zj hc]
theorem PUd.go {r:LI}{i:Nat}{u:Int}(h:PUd' r i u)(hr:allB r):∃ v,orI .u64 u (Zd.wrap (Zd.wrap (andI .u8 (getB r i) 127)*2 ^ min (Zd.wrap (7*Zd.wrap (i:Int))).toNat Zd.bits))=v ∧
  (getB r i<128->vD 12 13 0 r 0=(v,(i:Int)+1,0))/\(¬ getB r i<128->PUd r (i+1) v):=by
 obtain⟨⟨i9,u0,u1,e⟩,hi,hc⟩:=h;obtain⟨c0,c1⟩:=hr _ (Yj hi)
 have e1:(Zd.wrap (7*Zd.wrap (i:Int))).toNat=7*i:=by
  rw[Yf (x:=(i:Int)) (by omega) (by omega),Yf (by omega) (by omega)];omega
 have e2:min (7*i) Zd.bits=7*i:=by show min (7*i) 64=_;omega
 have pp:(1:Int)<=128 ^ i:=ZbQ (by decide)
 have q9:(128:Int) ^ i*2<=18446744073709551616/\(i<=8->(128:Int) ^ i*256<=18446744073709551616):=by
  have:i=0∨i=1∨i=2∨i=3∨i=4∨i=5∨i=6∨i=7∨i=8∨i=9:=by omega
  rcases this with e|e|e|e|e|e|e|e|e|e<;>subst e<;>decide +kernel
 have hw:getB r i % 128*128 ^ i+u<18446744073709551616:=by
  by_cases i8:i<=8
  .have:=Zas (a:=getB r i % 128) (b:=127) (c:=128 ^ i) (by omega) (by omega);have:=q9.2 i8;omega
  .obtain rfl:i=9:=by omega
   have c2:¬ 1<getB r 9:=fun q=>hc (.inl ⟨rfl,q⟩)
   have:=Zas (a:=getB r 9 % 128) (b:=1) (c:=128 ^ 9) (by omega) (by omega);have:=q9.1;omega
 have w0:0<=getB r i % 128*128 ^ i:=ZaY (by omega) (by omega)
 have ev:vD 12 13 0 r 0=if getB r i<128 then (u+getB r i % 128*128 ^ i,(i:Int)+1,0) else vD 12 13 (i+1) (r.drop (i+1)) (u+getB r i % 128*128 ^ i):=by
  rw[<-e,Ydj hi]
  conv=>lhs;unfold vD
  rw[Zf hc]
 rw[e1,e2,YpC c0 c1,Yf (x:=getB r i % 128) (by omega) (by omega),p7,Yf w0 (by omega),<-p7,Ynu u0 (by rw[p7];exact u1) (by omega) (by rw[p7];omega),p7];refine⟨_,rfl,fun z=>by rw[ev,Zj z],fun z=>⟨?_,by omega,?_,by rw[ev,Zf z]⟩⟩
 .apply ZY;intro n;obtain rfl:i=9:=by omega
  exact hc (.inl ⟨rfl,by omega⟩)
 .rw[ZaC];have:=Zas (a:=getB r i % 128) (b:=127) (c:=128 ^ i) (by omega) (by omega);omega
theorem YE {b:LI}(h:allB b)(k:Nat):allB (b.drop k):=fun c hc=>h c (Zaj hc)
theorem Yaw {b:LI}(h:allB b)(k:Nat):allB (b.take k):=fun c hc=>h c (Zac hc)
theorem YaZ {a b:LI}(h:allB a)(h':allB b):allB (a++b):=fun c hc=>by
 rcases Zx.1 hc with hc|hc
 .exact h c hc
 .exact h' c hc
abbrev O40 {P:Nat → Int → Prop}(P':Nat → Int → Prop)(b:LI)(at_:Int)(x:XUd P):Prop:=∃ w0_:XUd P',((x.i:Int))=((w0_.i:Int))/\(VI (at_)=VI (at_)/\VW (x.u)=VW (w0_.u)/\VI (x.i:Int)=VI (w0_.i:Int)/\(Zm .u8 (getB (Zp at_.toNat b) (x.i:Int).toNat))=(Zm .u8 (getB (Zp at_.toNat b) w0_.i))/\True/\(VI ((↑(Zp at_.toNat (Zn (b.length:Int).toNat b)).length:Int)))=(VI ((↑(Zp at_.toNat (Zn (b.length:Int).toNat b)).length:Int)))/\VI (x.i:Int)=VI (w0_.i:Int)/\True)/\b=b/\Zp at_.toNat b=Zp at_.toNat b/\True
abbrev O41 (b:LI)(K:SV → LH C0 → LN → Prop):Prop:=K (.tup [(.at (.val (VW 0))),(.at (.val (VI 0))),(.at (.val (VI 13)))]) [(.row false .u8 (b))] []
abbrev O42 (b:LI)(at_:Int):Prop:=(VI ((↑(Zp at_.toNat (Zn (b.length:Int).toNat b)).length:Int)))=(VI ((↑(Zp at_.toNat (Zn (b.length:Int).toNat b)).length:Int)))
theorem YxE (b:LI)(at_:Int)(K:KT)(hb:allB b)(hl:b.length<=1000000000000)(h:∀ u n e,uvD b at_=(u,n,e)->K (.tup [.at (vU64 u),.at (vI n),.at (vI e)]) [.row false .u8 b] []) :
  vc C0 (aUd (PUd (b.drop at_.toNat)) (PUd' (b.drop at_.toNat)) b at_) Tryz.f127 [.at (.slc 0),.at (.val (.int .i64 at_))] [.row false .u8 b] (Yh 1 K):=by
 generalize hP:PUd (b.drop at_.toNat)=P;generalize hP':PUd' (b.drop at_.toNat)=P'
 refine Eq.mp (show (brS (decide (at_<0)) (K (.tup [(.at (.val (VW 0))),(.at (.val (VI 0))),(.at (.val (VI 1)))]) [(.row false .u8 (b))] []) (brS (decide (at_>(b.length:Int))) (K (.tup [(.at (.val (VW 0))),(.at (.val (VI 0))),(.at (.val (VI 1)))]) [(.row false .u8 (b))] []) (0<=at_/\at_<=(b.length:Int)/\(b.length:Int)<=(b.length:Int)/\(∃ x:XUd P,True/\(VI (at_)=VI (at_)/\VW 0=(VW (x.u))/\True/\O42 b at_/\VI 0=(VI (x.i:Int))/\True)/\b=b/\(Zp at_.toNat (Zn (b.length:Int).toNat b))=Zp at_.toNat b/\True)/\∀ x:XUd P,True->brS (decide ((x.i:Int)<(↑(Zp at_.toNat (Zn (b.length:Int).toNat b)).length:Int))) (0<=(x.i:Int)/\(x.i:Int)<(↑(Zp at_.toNat b).length:Int)/\brS ((x.i:Int)==9) (brS (decide (getB (Zp at_.toNat b) (x.i:Int).toNat>1)) (O41 b K) (brS (decide ((x.i:Int)>0)) (brS (getB (Zp at_.toNat b) (x.i:Int).toNat==0) (O41 b K) (O40 P' b at_ x)) (O40 P' b at_ x))) (brS (decide ((x.i:Int)>0)) (brS (getB (Zp at_.toNat b) (x.i:Int).toNat==0) (O41 b K) (O40 P' b at_ x)) (O40 P' b at_ x))/\∀ x1:XUd P',((x.i:Int))=((x1.i:Int))->0<=Zd.wrap (7*Zd.wrap (x1.i:Int))/\brS (decide (getB (Zp at_.toNat b) x1.i<128)) (K (.tup [(.at (.val (VW (orI Zd x1.u (Zd.wrap (Zd.wrap (andI IntKind.u8 (getB (Zp at_.toNat b) x1.i) 127)*2 ^ min (Zd.wrap (7*Zd.wrap (x1.i:Int))).toNat Zd.bits)))))),(.at (.val (VI (Za.wrap (Za.wrap (at_+(x1.i:Int))+1))))),(.at (.val (VI 0)))]) [(.row false .u8 (b))] []) (∃ x':XUd P,True/\
  ((VI (at_)=VI (at_)/\(VW (orI Zd x1.u (Zd.wrap (Zd.wrap (andI IntKind.u8 (getB (Zp at_.toNat b) x1.i) 127)*2 ^ min (Zd.wrap (7*Zd.wrap (x1.i:Int))).toNat Zd.bits))))=(VW (x'.u))/\True/\O42 b at_/\(VI (Za.wrap ((x1.i:Int)+1)))=(VI (x'.i:Int))/\True)/\b=b/\Zp at_.toNat b=Zp at_.toNat b/\True)/\(Zp at_.toNat b).length-x'.i<(Zp at_.toNat b).length-x.i)) (K (.tup [(.at (.val (VW 0))),(.at (.val (VI 0))),(.at (.val (VI 12)))]) [(.row false .u8 (b))] []))))=_ by kernel_rfl) ?_
 delta O40 O41 O42;subst hP hP';have tk:Zn (b.length:Int).toNat b=b:=by rw[Zau];exact ZJ
 rw[tk];refine Ya (fun z=>?_) fun z=>Ya (fun y=>?_) fun y=>?_
 .have z:=Zc z;exact h _ _ _ (by unfold uvD;rw[Zj (.inl z)])
 .have y:=Zc y;exact h _ _ _ (by unfold uvD;rw[Zj (.inr y)])
 have z:0<=at_:=by have:=Zg z;omega
 have y:at_<=b.length:=by have:=Zg y;omega
 have hr:=YE hb at_.toNat;have rl:(b.drop at_.toNat).length=b.length-at_.toNat:=Zy;generalize er:b.drop at_.toNat=r at *;refine⟨z,y,ZE _,⟨⟨0,0,by omega,by decide,by decide,rfl⟩,?_⟩,fun x _=>Ya (fun q=>?_) fun q=>?_⟩
 ·repeat' constructor
 .obtain⟨i,u,hi⟩:=x;dsimp only at q ⊢;have q:i<r.length:=by have:=Zc q;omega
  rw[show ((i:Int)).toNat=i from rfl];refine⟨by omega,by omega,?_,fun x1 e1=>?_⟩
  .have bad:∀ (hc:(i=9/\1<getB r i)∨(0<i/\getB r i=0)),K (.tup [.at (vU64 0),.at (vI 0),.at (vI 13)]) [.row false .u8 b] []:=fun hc =>
    h _ _ _ ((YaY z y (show vD 12 13 0 (b.drop at_.toNat) 0=(0,0,13) by rw[er];exact hi.bad q hc)).trans rfl)
   have good:∀ (hc:¬ ((i=9/\1<getB r i)∨(0<i/\getB r i=0))),PUd' r i u:=fun hc=>⟨hi,q,hc⟩
   refine Ya (fun a=>?_) fun a=>?_
   .have a:i=9:=by have:=eq_of_beq a;omega
    refine Ya (fun a2=>bad (.inl ⟨a,Zc a2⟩)) fun a2=>Ya (fun a3=>Ya (fun a4=>bad (.inr ⟨by omega,eq_of_beq a4⟩)) fun a4=>?_) fun a3=>?_
    .refine⟨⟨i,u,good ?_⟩,rfl,?_⟩
     .rintro (⟨_,k⟩|⟨_,k⟩)
      .exact Zg a2 k
      .rw[k] at a4;exact absurd a4 (by decide)
     ·repeat' constructor
    .exact absurd (show (i:Int)>0 by omega) (Zg a3)
   .have a:i≠9:=fun k=>by rw[k] at a;exact absurd a (by decide)
    refine Ya (fun a3=>Ya (fun a4=>bad (.inr ⟨by have:=Zc a3;omega,eq_of_beq a4⟩)) fun a4=>?_) fun a3=>?_
    .refine⟨⟨i,u,good ?_⟩,rfl,?_⟩
     .rintro (⟨k,_⟩|⟨_,k⟩)
      .exact a k
      .rw[k] at a4;exact absurd a4 (by decide)
     ·repeat' constructor
    .refine⟨⟨i,u,good ?_⟩,rfl,?_⟩
     .rintro (⟨k,_⟩|⟨k,_⟩)
      .exact a k
      .exact Zg a3 (by omega)
     ·repeat' constructor
  .obtain⟨i',u,h1⟩:=x1;dsimp only at e1 ⊢;obtain rfl:i=i':=by omega
   obtain⟨v,ev,g1,g2⟩:=PUd.go h1 hr;rw[ev];refine⟨?_,Ya (fun a=>?_) fun a=>?_⟩
   .have:=h1.1.1;rw[Yf (x:=(i:Int)) (by omega) (by omega),Yf (by omega) (by omega)];omega
   .have:=h1.1.1;rw[Yb (x:=at_+(i:Int)) (by omega) (by omega),Yb (by omega) (by omega)];exact h _ _ _ (((YaY z y (show vD 12 13 0 (b.drop at_.toNat) 0=(v,(i:Int)+1,0) by rw[er];exact g1 (Zc a))).trans (Zj rfl)).trans (by congr 2;omega))
   .have p1:=g2 (Zg a);have:=h1.1.1;rw[Yb (x:=(i:Int)+1) (by omega) (by omega)];refine⟨⟨i+1,v,p1⟩,trivial,?_,ZI q (ZO i)⟩
    repeat' constructor
 .obtain⟨i,u,hi⟩:=x;dsimp only at q;have q:r.length<=i:=by have:=Zg q;omega
  have e:=hi.2.2.2;rw[Zbr q] at e;exact h _ _ _ ((YaY z y (show vD 12 13 0 (b.drop at_.toNat) 0=(0,0,12) by rw[er,<-e];rfl)).trans rfl)
theorem s_ud:Tb C0 127 tUd:=by
 refine .of Tryz.func127 (by decide) rfl fun args H K h hB=>?_
 unfold tUd at h;split at h<;>try exact h.elim
 rename_i at_ b;refine⟨_,?_,YxE b at_ K h.1 h.2.1 h.2.2⟩;exact trivial
def kB (k:Int):LI:=wB 8 (k+9223372036854775808)
def kyA (b:LI)(k:Int):LI:=b++kB k
def kyD (b:LI)(at_:Int):Int × Int × Int:=if at_<0∨(b.length:Int)<at_ then (0,0,1) else if (b.length:Int)-at_<8 then (0,0,12) else
 (wD ((b.drop at_.toNat).take 8)-9223372036854775808,at_+8,0)
structure XKe (P:Nat->LI->Prop) where
 j:Nat
 o:LI
 h:P j o
def aKe (P:Nat->LI->Prop)(b:LI)(u:Int):Ann C0:={ Γ:=[],inv:=fun n=>match n with
 | 1003=>some { X:=Unit,sl:=[5,6],tf:=fun _=>[.one (.at (.slc 1)),vi .u64 u],hf:=fun _=>[.row false .u8 b,.row true .u8 b] }
 | 4=>some { X:=XKe P,sl:=[5,7],tf:=fun x=>[.one (.at (.slc 1)),vi .i64 (56-8*(x.j:Int))],hf:=fun x=>[.row false .u8 b,.row true .u8 x.o],μ:=fun x=>8-x.j }
 | _=>none }
def tKe:Tfm C0:=fun args H K=>match args,H with
 | [.at (.slc 0),.at (.val (.int .i64 k))],[.row false .u8 b]=>-9223372036854775808<=k/\k<=9223372036854775807/\b.length<=1000000000/\∀ o,o=kyA b k->K (.one (.at (.slc 1))) [.row false .u8 b,.row true .u8 o] []
 | _,_=>False
structure XKd (P:Nat->Int->Prop) where
 i:Nat
 u:Int
 h:P i u
def aKd (P:Nat->Int->Prop)(b:LI)(at_:Int):Ann C0:={ Γ:=[],inv:=fun n=>match n with
 | 7=>some { X:=XKd P,sl:=[7,27,29],tf:=fun x=>[vi .u64 x.u,.one (.at (.slc 1)),vi .i64 x.i],hf:=fun _=>[.row false .u8 b,.row false .u8 ((b.drop at_.toNat).take 8)],μ:=fun x=>8-x.i }
 | _=>none }
def tKd:Tfm C0:=fun args H K=>match args,H with
 | [.at (.slc 0),.at (.val (.int .i64 at_))],[.row false .u8 b]=>allB b/\b.length<=1000000000000/\∀ u n e,kyD b at_=(u,n,e)->K (.tup [.at (vI u),.at (vI n),.at (vI e)]) [.row false .u8 b] []
 | _,_=>False
def tZz:Tfm C0:=fun args H K=>match args,H with
 | [.at (.val (.int .i64 n))],[]=>-9223372036854775808<=n/\n<=9223372036854775807/\∀ u,u=zz n->K (.one (.at (vU64 u))) [] []
 | _,_=>False
def tUz:Tfm C0:=fun args H K=>match args,H with
 | [.at (.val (.int .u64 u))],[]=>0<=u/\u<18446744073709551616/\∀ n,n=uz u->K (.one (.at (vI n))) [] []
 | _,_=>False
theorem Yal (x:Int):Zd.wrap x=x % 18446744073709551616:=by
 unfold IntKind.wrap;simp[IntKind.signed,IntKind.bits]
theorem YcJ {x:Int}(h0:9223372036854775808<=x)(h:x<18446744073709551616):Za.wrap x=x-18446744073709551616:=by
 unfold IntKind.wrap;simp[IntKind.signed,IntKind.bits];omega
theorem Yko {n:Nat}(h:n<9223372036854775808):n ^^^ 9223372036854775808=9223372036854775808+n:=by
 have e:(9223372036854775808:Nat)=2 ^ 63:=by decide
 rw[e] at h ⊢;refine Nat.eq_of_testBit_eq fun i=>?_
 rw[Nat.testBit_xor,Nat.testBit_two_pow];rcases Nat.lt_trichotomy i 63 with q|q|q
 .rw[Nat.testBit_two_pow_add_gt q,show decide (63=i)=false from decide_eq_false (by omega),Bool.xor_false]
 .subst q;rw[Nat.testBit_two_pow_add_eq,show decide (63=63)=true from rfl,Bool.xor_true]
 .have h1:n<2 ^ i:=ZN h (Zcx (by decide) (by omega))
  have h2:2 ^ 63+n<2 ^ i:=by
   have:2 ^ (63+1)<=2 ^ i:=Zcx (by decide) (by omega);rw[Nat.pow_succ] at this;omega
  rw[Zcj h1,Zcj h2,show decide (63=i)=false from decide_eq_false (by omega),Bool.xor_false]
theorem YeU {x y:Int}(x0:0<=x)(x1:x<18446744073709551616)(y0:0<=y)(y1:y<18446744073709551616):xorI .u64 x y=((x.toNat ^^^ y.toNat:Nat):Int):=by
 show Zd.wrap ((BitVec.ofInt 64 x ^^^ BitVec.ofInt 64 y).toNat:Int)=_;rw[Ycf (Zbh _),Zbe,YH 64 x0 (by rw[p64];exact x1),YH 64 y0 (by rw[p64];exact y1)]
theorem Yvd {u:Int}(h0:0<=u)(h:u<9223372036854775808):xorI .u64 u 9223372036854775808=u+9223372036854775808:=by
 rw[YeU h0 (by omega) (by decide) (by decide),show Zq 9223372036854775808=9223372036854775808 from rfl,Yko (by omega)];omega
theorem Yra {u:Int}(h0:9223372036854775808<=u)(h:u<18446744073709551616):xorI .u64 u 9223372036854775808=u-9223372036854775808:=by
 have e:u.toNat=(u-9223372036854775808).toNat ^^^ 9223372036854775808:=by rw[Yko (by omega)];omega
 rw[YeU (by omega) h (by decide) (by decide),show Zq 9223372036854775808=9223372036854775808 from rfl,e,Nat.xor_assoc,Nat.xor_self,Nat.xor_zero];omega
theorem Ysx {k:Int}(h0 : -9223372036854775808<=k)(h:k<=9223372036854775807):xorI .u64 (Zd.wrap k) 9223372036854775808=k+9223372036854775808:=by
 rw[Yal];rcases Zbs k 0 with q|q
 .rw[show k % 18446744073709551616=k+18446744073709551616 by omega,Yra (by omega) (by omega)];omega
 .rw[show k % 18446744073709551616=k by omega,Yvd q (by omega)]
theorem Ynv {u:Int}(h0:0<=u)(h:u<18446744073709551616):Za.wrap (xorI .u64 u 9223372036854775808)=u-9223372036854775808:=by
 rcases Zbs u 9223372036854775808 with q|q
 .rw[Yvd h0 q,YcJ (by omega) (by omega)];omega
 .rw[Yra q h,Yb (by omega) (by omega)]
theorem YpD (k:IntKind)(x y:Int):orI k x y=orI k y x:=by unfold orI;rw[BitVec.or_comm]
theorem Ysy {u c:Int}(u0:0<=u)(u1:u<72057594037927936)(c0:0<=c)(c1:c<256):orI .u64 (u*256) c=256*u+c:=by
 have:=Ynu (u:=c) (w:=u) (i:=8) c0 (by show c<256;exact c1) u0 (by show c+u*256<_;omega);rw[YpD,show (256:Int)=2 ^ 8 from rfl,this];show c+u*256=256*u+c;omega
theorem Ysz (u:Int)(h0:0<=u)(h:u<18446744073709551616):xorI .u64 u 18446744073709551615=18446744073709551615-u:=by
 show Zd.wrap ((BitVec.ofInt 64 u ^^^ BitVec.ofInt 64 18446744073709551615).toNat:Int)=_;rw[Ycf (Zbh _),show BitVec.ofInt 64 18446744073709551615=BitVec.allOnes 64 from rfl,BitVec.xor_allOnes,BitVec.toNat_not,YH 64 h0 (by rw[p64];exact h)];omega
theorem YxF {n:Int}(h0 : -9223372036854775808<=n)(h:n<=9223372036854775807):xorI Zd (Zd.wrap (Zd.wrap n*2 ^ min (Zq 1) Zd.bits)) (Zd.wrap (n.fdiv (2 ^ min (Zq 63) Za.bits)))=zz n:=by
 rw[show (2:Int) ^ min (Zq 1) Zd.bits=2 from rfl,show (2:Int) ^ min (Zq 63) Za.bits=9223372036854775808 from by decide +kernel,Zah _ (by decide)];simp only[Yal];unfold zz;rcases Zbs n 0 with q|q
 .rw[Zf (by omega),show n / 9223372036854775808 = -1 by omega,show n % 18446744073709551616=n+18446744073709551616 by omega,show (n+18446744073709551616)*2 % 18446744073709551616=2*n+18446744073709551616 by omega,show (-1:Int) % 18446744073709551616=18446744073709551615 from rfl,Ysz _ (by omega) (by omega)];omega
 .rw[Zj q,show n / 9223372036854775808=0 by omega,show n % 18446744073709551616=n by omega,show n*2 % 18446744073709551616=2*n by omega,show (0:Int) % 18446744073709551616=0 from rfl,YeU (by omega) (by omega) (by decide) (by decide),show Zq 0=0 from rfl,Nat.xor_zero];omega
theorem YxG {u:Int}(h0:0<=u)(h:u<18446744073709551616):xorI Za (Za.wrap (u.fdiv (2 ^ min (Zq 1) Zd.bits))) (Za.wrap (0-Za.wrap (andI Zd u 1)))=uz u:=by
 rw[show (2:Int) ^ min (Zq 1) Zd.bits=2 from rfl,Zah _ (by decide),Ysv h0 h,Yb (x:=u / 2) (by omega) (by omega),Yb (x:=u % 2) (by omega) (by omega),Yb (x:=0-u % 2) (by omega) (by omega)];show Za.wrap ((BitVec.ofInt 64 (u / 2) ^^^ BitVec.ofInt 64 (0-u % 2)).toNat:Int)=_;unfold uz
 by_cases q:u % 2=0
 .rw[Zj q,q,show (BitVec.ofInt 64 (0-0))=0#64 from rfl,ZbV,YH 64 (by omega) (by rw[p64];omega),Yb (by omega) (by omega)];omega
 .rw[Zf q,show u % 2=1 by omega,show (BitVec.ofInt 64 (0-1))=BitVec.allOnes 64 from rfl,BitVec.xor_allOnes,BitVec.toNat_not,YH 64 (by omega) (by rw[p64];omega),YcJ (by omega) (by omega)];omega
theorem YxH (u:Int){j:Nat}(h:j<8):(wB 8 u).getD j 0=u / 2 ^ (56-8*j) % 256:=by
 have:j=0∨j=1∨j=2∨j=3∨j=4∨j=5∨j=6∨j=7:=by omega
 rcases this with e|e|e|e|e|e|e|e<;>subst e
 .show u / 256 / 256 / 256 / 256 / 256 / 256 / 256 % 256=u / 72057594037927936 % 256;omega
 .show u / 256 / 256 / 256 / 256 / 256 / 256 % 256=u / 281474976710656 % 256;omega
 .show u / 256 / 256 / 256 / 256 / 256 % 256=u / 1099511627776 % 256;omega
 .show u / 256 / 256 / 256 / 256 % 256=u / 4294967296 % 256;omega
 .show u / 256 / 256 / 256 % 256=u / 16777216 % 256;omega
 .show u / 256 / 256 % 256=u / 65536 % 256;omega
 .show u / 256 % 256=u / 256 % 256;rfl
 .show u % 256=u / 1 % 256;omega
theorem Yo {r:LI}{i:Nat}(h:i<r.length):r.take (i+1)=r.take i++[getB r i]:=by
 rw[ZbK];unfold getB;rw[Zb,Zk h];rfl
def PKe (b:LI)(u:Int):Nat->LI->Prop:=fun j o=>j<=8/\o=b++(wB 8 u).take j
theorem YxI (b:LI)(k:Int)(K:KT)(k0 : -9223372036854775808<=k)(k1:k<=9223372036854775807)(hb:b.length<=1000000000)(h:∀ o,o=kyA b k->K (.one (.at (.slc 1))) [.row false .u8 b,.row true .u8 o] []) :
  vc C0 (aKe (PKe b (k+9223372036854775808)) b (k+9223372036854775808)) Tryz.f97 [.at (.slc 0),.at (.val (.int .i64 k))] [.row false .u8 b] (Yh 1 K):=by
 generalize eu:k+9223372036854775808=u;generalize hP:PKe b u=P;refine Eq.mp (show ((0:Int)<=0/\0<=Za.wrap ((b.length:Int)+8)/\Za.wrap ((b.length:Int)+8)*(↑(Yd C0 EC.u8):Int)<=140737488355328/\(([]:LE).length+b.length)*Yd C0 EC.u8<=140737488355328/\(∃ x:Unit,True/\(True/\(VW (xorI Zd (Zd.wrap k) 9223372036854775808))=(VW (u))/\True)/\b=b/\([]++b)=b/\True)/\∀ x:Unit,True->(∃ x1:XKe P,True/\(True/\VW (u)=VW (u)/\VI 56=(VI (56-8*(x1.j:Int)))/\True)/\b=b/\b=x1.o/\True)/\∀ x1:XKe P,True->brS (decide (56-8*(x1.j:Int)≥0)) (0<=Zd.wrap (56-8*(x1.j:Int))/\(x1.o.length+[IntKind.u8.wrap (u.fdiv (2 ^ min (Zd.wrap (56-8*(x1.j:Int))).toNat Zd.bits))].length)*Yd C0 EC.u8<=140737488355328/\∃ x':XKe P,True/\((True/\VW (u)=VW (u)/\(VI (Za.wrap (56-8*(x1.j:Int)-8)))=(VI (56-8*(x'.j:Int)))/\True)/\b=b/\(x1.o++[IntKind.u8.wrap (u.fdiv (2 ^ min (Zd.wrap (56-8*(x1.j:Int))).toNat Zd.bits))])=x'.o/\True)/\8-x'.j<8-x1.j) (K (.one (.at (.slc 1))) [(.row false .u8 (b)),(.row true .u8 (x1.o))] []))=_ by kernel_rfl) ?_;subst hP;rw[Yb (x:=(b.length:Int)+8) (by omega) (by omega),YaF,Ysx k0 k1,eu];refine⟨by decide,by omega,by omega,by simp;omega,⟨(),?_⟩,fun _ _=>⟨⟨⟨0,b,ZC _,by simp⟩,?_⟩,fun x _=>Ya (fun z=>?_) fun z=>?_⟩⟩
 ·repeat' constructor
 ·repeat' constructor
 .obtain⟨j,o,hj,eo⟩:=x;dsimp only at z ⊢;have z:j<8:=by have:=Zc z;omega
  have l8:(wB 8 u).length=8:=Yay 8 u;have ol:o.length<=b.length+8:=by rw[eo,Zh,ZG];omega
  have e1:(Zd.wrap (56-8*(j:Int))).toNat=56-8*j:=by rw[Yf (by omega) (by omega)];omega
  have e2:min (56-8*j) Zd.bits=56-8*j:=by show min (56-8*j) 64=_;omega
  have e3:IntKind.u8.wrap (u.fdiv (2 ^ min (Zd.wrap (56-8*(j:Int))).toNat Zd.bits))=getB (wB 8 u) j:=by
   have q0:(0:Int)<=2 ^ (56-8*j):=ZbZ (ZbQ (by decide));rw[e1,e2,Zah _ q0,YN (Int.ediv_nonneg (by omega) q0)];exact (YxH u z).symm
  rw[e3];refine⟨by rw[Yf (by omega) (by omega)];omega,by rw[Zr];omega,⟨j+1,_,z,show o++[getB (wB 8 u) j]=_ by rw[eo,Yo (by omega),Zo]⟩,trivial,?_,ZI z (ZO j)⟩;rw[Yb (by omega) (by omega)];refine⟨⟨trivial,rfl,?_,trivial⟩,rfl,rfl,trivial⟩;show Zm .i64 _=Zm .i64 (56-8*((j+1:Nat):Int))
  congr 1;omega
 .obtain⟨j,o,hj,eo⟩:=x;dsimp only at z ⊢;have z:j=8:=by have:=Zg z;omega
  refine h _ ?_;rw[eo,z,Zay (by rw[Yay];exact Zw _),<-eu]
  rfl
theorem s_ke:Tb C0 97 tKe:=by
 refine .of Tryz.func97 (by decide) rfl fun args H K h hB=>?_
 unfold tKe at h;split at h<;>try exact h.elim
 rename_i k b;refine⟨_,?_,YxI b k K h.1 h.2.1 h.2.2.1 h.2.2.2⟩;exact trivial
def PKd (r:LI):Nat->Int->Prop:=fun i u=>i<=8/\u=wD (r.take i)/\0<=u/\u<256 ^ i
theorem PKd.go {r:LI}{i:Nat}{u:Int}(h:PKd r i u)(hi:i<r.length)(i8:i<8)(hr:allB r):PKd r (i+1) (orI .u64 (Zd.wrap (u*2 ^ min (Zq 8) Zd.bits)) (Zd.wrap (getB r i))):=by
 obtain⟨h1,h2,h3,h4⟩:=h;obtain⟨c0,c1⟩:=hr _ (Yj hi)
 have q:(256:Int) ^ i<=72057594037927936:=by
  have:i=0∨i=1∨i=2∨i=3∨i=4∨i=5∨i=6∨i=7:=by omega
  rcases this with e|e|e|e|e|e|e|e<;>subst e<;>decide +kernel
 rw[show (2:Int) ^ min (Zq 8) Zd.bits=256 from rfl,Yf (x:=u*256) (by omega) (by omega),Yf (x:=getB r i) c0 (by omega),Ysy h3 (by omega) c0 c1];refine⟨i8,?_,by omega,by rw[ZaC];omega⟩;rw[Yo hi,YcH,<-h2]
abbrev O43 (b:LI)(at_:Int):Prop:=(VI ((↑(Zp at_.toNat (Zn (Za.wrap (at_+8)).toNat b)).length:Int)))=(VI ((↑(Zp at_.toNat (Zn (Za.wrap (at_+8)).toNat b)).length:Int)))
theorem YxJ (b:LI)(at_:Int)(K:KT)(hb:allB b)(hl:b.length<=1000000000000)(h:∀ u n e,kyD b at_=(u,n,e)->K (.tup [.at (vI u),.at (vI n),.at (vI e)]) [.row false .u8 b] []) :
  vc C0 (aKd (PKd ((b.drop at_.toNat).take 8)) b at_) Tryz.f142 [.at (.slc 0),.at (.val (.int .i64 at_))] [.row false .u8 b] (Yh 1 K):=by
 generalize hP:PKd ((b.drop at_.toNat).take 8)=P
 refine Eq.mp (show (brS (decide (at_<0)) (K (.tup [(.at (.val (VI 0))),(.at (.val (VI 0))),(.at (.val (VI 1)))]) [(.row false .u8 (b))] []) (brS (decide (at_>(b.length:Int))) (K (.tup [(.at (.val (VI 0))),(.at (.val (VI 0))),(.at (.val (VI 1)))]) [(.row false .u8 (b))] []) (brS (decide (Za.wrap ((b.length:Int)-at_)<8)) (K (.tup [(.at (.val (VI 0))),(.at (.val (VI 0))),(.at (.val (VI 12)))]) [(.row false .u8 (b))] []) (0<=at_/\at_<=Za.wrap (at_+8)/\Za.wrap (at_+8)<=(b.length:Int)/\(∃ x:XKd P,True/\(VI (at_)=VI (at_)/\VW 0=(VW (x.u))/\True/\O43 b at_/\VI 0=(VI (x.i:Int))/\True)/\b=b/\(Zp at_.toNat (Zn (Za.wrap (at_+8)).toNat b))=(Zn 8 (Zp at_.toNat b))/\True)/\∀ x:XKd P,True->brS (decide ((x.i:Int)<(↑(Zp at_.toNat (Zn (Za.wrap (at_+8)).toNat b)).length:Int))) (0<=(x.i:Int)/\(x.i:Int)<(↑(Zn 8 (Zp at_.toNat b)).length:Int)/\∃ x':XKd P,True/\((VI (at_)=VI (at_)/\(VW (orI Zd (Zd.wrap (x.u*2 ^ min (Zq 8) Zd.bits)) (Zd.wrap (getB (Zn 8 (Zp at_.toNat b)) (x.i:Int).toNat))))=(VW (x'.u))/\True/\O43 b at_/\(VI (Za.wrap ((x.i:Int)+1)))=(VI (x'.i:Int))/\True)/\b=b/\(Zn 8 (Zp at_.toNat b))=(Zn 8 (Zp at_.toNat b))/\True)/\8-x'.i<8-x.i) (K (.tup [(.at (.val (VI (Za.wrap (xorI Zd x.u 9223372036854775808))))),(.at (.val (VI (Za.wrap (at_+8))))),(.at (.val (VI 0)))]) [(.row false .u8 (b))] [])))))=_ by kernel_rfl) ?_
 delta O43;subst hP;refine Ya (fun z=>?_) fun z=>Ya (fun y=>?_) fun y=>?_
 .have z:=Zc z;exact h _ _ _ (by unfold kyD;rw[Zj (.inl z)])
 .have y:=Zc y;exact h _ _ _ (by unfold kyD;rw[Zj (.inr y)])
 have z:0<=at_:=by have:=Zg z;omega
 have y:at_<=b.length:=by have:=Zg y;omega
 rw[Yb (x:=(b.length:Int)-at_) (by omega) (by omega),Yb (x:=at_+8) (by omega) (by omega)];refine Ya (fun x=>?_) fun x=>?_
 .have x:=Zc x;exact h _ _ _ (by unfold kyD;rw[Zf (by omega),Zj x])
 have x:at_+8<=b.length:=by have:=Zg x;omega
 have er:(b.drop at_.toNat).take 8=(b.take (at_+8).toNat).drop at_.toNat:=by
  rw[List.take_drop,show at_.toNat+8=(at_+8).toNat by omega]
 have hk:kyD b at_=(wD ((b.drop at_.toNat).take 8)-9223372036854775808,at_+8,0):=by unfold kyD;rw[Zf (by omega),Zf (by omega)]
 rw[<-er];have hr:=Yaw (YE hb at_.toNat) 8;have rl:((b.drop at_.toNat).take 8).length=8:=by rw[ZG,Zy];omega
 generalize (b.drop at_.toNat).take 8=r at *;refine⟨z,by omega,x,⟨⟨0,0,by omega,rfl,by decide,by decide⟩,?_⟩,fun x _=>Ya (fun q=>?_) fun q=>?_⟩
 ·repeat' constructor
 .obtain⟨i,u,hi⟩:=x;dsimp only at q ⊢;have q:i<r.length:=by have:=Zc q;omega
  rw[show ((i:Int)).toNat=i from rfl,Yb (x:=(i:Int)+1) (by omega) (by omega)];have p1:=hi.go q (by omega) hr;refine⟨by omega,by omega,⟨i+1,_,p1⟩,trivial,?_,by show 8-(i+1)<8-i;omega⟩
  repeat' constructor
 .obtain⟨i,u,h1,h2,h3,h4⟩:=x;dsimp only at q ⊢;have q:i=8:=by have:=Zg q;omega
  subst q;have p8:(256:Int) ^ 8=18446744073709551616:=by decide +kernel
  rw[p8] at h4;rw[Zay (by omega)] at h2;rw[Ynv h3 h4];exact h _ _ _ (by rw[hk,h2])
theorem s_kd:Tb C0 142 tKd:=by
 refine .of Tryz.func142 (by decide) rfl fun args H K h hB=>?_
 unfold tKd at h;split at h<;>try exact h.elim
 rename_i at_ b;refine⟨_,?_,YxJ b at_ K h.1 h.2.1 h.2.2⟩;exact trivial
theorem YxK (n:Int)(K:KT)(h0 : -9223372036854775808<=n)(h1:n<=9223372036854775807)(h:∀ u,u=zz n->K (.one (.at (vU64 u))) [] []):vc C0 A0 Tryz.f98 [.at (.val (.int .i64 n))] [] (Yh 0 K):=by
 refine Eq.mp (show (K (.one (.at (.val (VW (xorI Zd (Zd.wrap (Zd.wrap n*2 ^ min (Zq 1) Zd.bits)) (Zd.wrap (n.fdiv (2 ^ min (Zq 63) Za.bits)))))))) [] [])=_ by kernel_rfl) ?_;exact h _ (YxF h0 h1)
theorem s_zz:Tb C0 98 tZz:=by
 refine .of Tryz.func98 (by decide) rfl fun args H K h hB=>?_
 unfold tZz at h;split at h<;>try exact h.elim
 rename_i n;refine⟨A0,?_,YxK n K h.1 h.2.1 h.2.2⟩;exact trivial
theorem YxL (u:Int)(K:KT)(h0:0<=u)(h1:u<18446744073709551616)(h:∀ n,n=uz u->K (.one (.at (vI n))) [] []):vc C0 A0 Tryz.f130 [.at (.val (.int .u64 u))] [] (Yh 0 K):=by
 refine Eq.mp (show (K (.one (.at (.val (VI (xorI Za (Za.wrap (u.fdiv (2 ^ min (Zq 1) Zd.bits))) (Za.wrap (0-Za.wrap (andI Zd u 1)))))))) [] [])=_ by kernel_rfl) ?_;exact h _ (YxG h0 h1)
theorem s_uz:Tb C0 130 tUz:=by
 refine .of Tryz.func130 (by decide) rfl fun args H K h hB=>?_
 unfold tUz at h;split at h<;>try exact h.elim
 rename_i u;refine⟨A0,?_,YxL u K h.1 h.2.1 h.2.2⟩;exact trivial
end Go.Proofs.YtedfbafngmicpaaGreat.Sx
