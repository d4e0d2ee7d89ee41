/- The symbolic run is sound: rows that grow or shrink in place; calls. No program in sight. -/
import Derived.Test.YtedfbafngmicpaaGreatG0
import Derived.Test.YtedfbafngmicpaaGreatG1
noncomputable section
open Go.Value renaming int → Zm
namespace Go.Proofs.YtedfbafngmicpaaGreat.Sx
open Go
section
section
variable {C:Ctx}
variable {T:List SV} {H:LH C} {o:Oper} {σ:Nat->Value} {φ:Nat->Nat->Prop} {a:Act} {w:World} {ps:List Prop} {s:SV} {H':LH C}

theorem Ycx (h:Pre C T H σ φ a w){x:Operand}{n:Int}(hx:Yej (opnd T x)=some n):∃ k,a.eval x = .int k n:=by
 have hr:=h.rel x;unfold Yej at hx;split at hx
 .rename_i k m hc;rw[hc] at hr;simp only[Zl] at hx;subst hx;exact⟨k,hr⟩
 .cases hx

theorem Ylk {P:Program}{len cap:Nat}{low high:Option Value}{i j:Int}(hl:(low=none/\i=0)∨∃ k,low=some (.int k i))(hh:(high=none/\j=len)∨∃ k,high=some (.int k j))(h0:0<=i)(h1:i<=j)(h2:j<=cap)(w:World):(Instr.sliceBounds true len cap low high none).run P w = .ok (i.toNat,j.toNat,cap) w:=by
 have hj:(j.toNat:Int)=j:=by omega
 rcases hl with ⟨rfl,rfl⟩|⟨k,rfl⟩<;>rcases hh with ⟨rfl,rfl⟩|⟨k',rfl⟩
 .simp[Instr.sliceBounds]
 .have e1:=run_sliceBound (P:=P) w k' j cap .sliceAcap (by omega) h2;simp[Instr.sliceBounds,e1]
 .have e1:=run_sliceBound (P:=P) w k i len .sliceB h0 h1;simp[Instr.sliceBounds,e1]
 .have e1:=run_sliceBound (P:=P) w k' j cap .sliceAcap (by omega) h2;have e2:=run_sliceBound (P:=P) w k i j.toNat .sliceB h0 (by omega);simp[Instr.sliceBounds,e1,e2]

theorem Ycy {P:Program}{t e:TypeId}{ti:TypeInfo}{A:Option Addr}{len cap:Nat}{low high:Option Value}{i j:Int}(ht:P.underlying t=some (.slice e))(he:P.info? e=some ti)(hl:(low=none/\i=0)∨∃ k,low=some (.int k i))(hh:(high=none/\j=len)∨∃ k,high=some (.int k j))(h0:0<=i)(h1:i<=j)(h2:j<=cap)(w:World):(Instr.sliceAt t (.slice A len cap) low high none).run P w = .ok (.slice (if cap=i.toNat then A else A.map (·.add (i.toNat*ti.size))) (j.toNat-i.toNat) (cap-i.toNat)) w:=by
 have hb:=Ylk (P:=P) hl hh h0 h1 h2 w;simp[Instr.sliceAt,Instr.slice,run_underlying ht,hb,Yv he]

theorem YbM (hC:C.OK)(hs:Sat C σ φ w H){n:Nat}{e:C.EC}{l:List (C.α e)}(hH:H[n]?=some (.row true e l)) :
  Th C σ φ H σ (fun k=>if k=n then (fun _=>False) else φ k) (H.set n (.row false e l)) w:=by
 have hn:n<H.length:=(Zt.1 hH).1;have hh:=hs.holds n _ hH
 refine⟨hs.step hC (fun k=>k=n) (Zw _) (fun _ _ _=>rfl) (fun k hk=>?_) (fun _ _ _ _ _ _=>rfl) (fun k c hk hc=>?_) (fun k b hk hb=>?_) (fun k m b hk hm hb _=>hk.trans hm.symm) (fun k b hk hb=>?_)
  (fun k d hk hc b hb m hm=>?_) (fun k hk b hb=>?_) (by simp) (fun k c hk hc m hm=>?_),fun _ _=>rfl,fun k b hb=>?_,by simp,fun k hk ho=>?_,fun k hk b=>?_⟩
 .have:¬ k=n:=hk;exact⟨by rw[Zam (Zbu this)],rfl,fun b=>by simp[this]⟩
 .have hk':k=n:=hk;subst hk';rw[ZW hn] at hc;simp only[Zl] at hc;subst hc;obtain⟨A,c,h1,h2⟩:=hh.rd hC;exact⟨⟨A,c,h1,h2⟩,fun b hb=>by simp at hb⟩
 .have hk':k=n:=hk;subst hk';simp at hb
 .have hk':k=n:=hk;subst hk';simp at hb
 .have hk':k=n:=hk;subst hk';rw[ZW hn] at hc;simp only[Zl] at hc;subst hc
  by_cases e:m=k
  .subst e;simp at hm
  .simp only[Zf e] at hm;exact e (hs.dis m k b hm ((hh.2 b).2 hb.2))
 .rw[ZaB] at hk
  by_cases e:k=n
  .subst e;simp at hb
  .simp only[Zf e] at hb;exact hs.out k hk b hb
 .have hk':k=n:=hk;subst hk';rw[ZW hn] at hc;simp only[Zl] at hc;subst hc;simp[Ta.names] at hm
 .by_cases e:k=n
  .subst e;simp at hb
  .simpa [e] using hb
 .by_cases e:k=n
  .subst e;simp[Yn,ZW hn] at ho
  .simpa [Yn,Zam (Zbu e)] using ho
 .unfold Rdb
  by_cases e':k=n
  .subst e';rw[ZW hn,hH];simp
  .simp[Zam (Zbu e')]

theorem Yll (hC:C.OK)(hs:Sat C σ φ w H){n:Nat}{e:C.EC}{l:List (C.α e)}(hH:H[n]?=some (.row false e l)){i j:Nat}(hij:i<=j)(hj:j<=l.length) :
  ∃ A c,σ n = .slice A l.length c/\l.length<=c/\Th C σ φ H (fun k=>if k=H.length then .slice (if c=i then A else A.map (·.add (i*C.sz e))) (j-i) (c-i) else σ k) (fun k=>if k=H.length then (fun _=>False) else φ k)
   (H++[.row false e ((l.take j).drop i)]) w:=by
 obtain⟨⟨A,c,h1,h2⟩,_⟩:=hs.holds n _ hH;have hcap:=h2.cap;have hlen:((l.take j).drop i).length=j-i:=by simp;omega
 refine⟨A,c,h1,hcap,Th.view hC hs _ _ (fun σ'=>⟨⟨_,c-i,by rw[hlen],by rw[hlen];exact (h2.head hj).cut hij⟩,fun _ h=>h⟩) rfl (fun b hb m hm=>?_)⟩
 .obtain⟨hpos,hb⟩:=hb;rw[hlen] at hpos;have:¬ c=i:=by omega
  rw[Zf this] at hb;cases A with
  | none=>simp[Value.ownBlock] at hb
  | some ad =>
   simp only[ZaL,Value.ownBlock,Zl] at hb;refine hs.immr n e l hH (by omega) b ?_ m hm;rw[h1];simp only[Value.ownBlock,Zl];rw[<-hb];unfold Addr.add;split<;>rfl

theorem YbN (hC:C.OK){t:TypeId}{e:C.EC}(h:isEC C t e=true):C.P.underlying t=some (.slice (C.tid e)):=by
 unfold isEC at h;split at h
 .rename_i e' he;split at h
  .rename_i hee _;subst hee;exact Yq hC he
  .cases h
 .cases h

theorem YrQ {t:TypeId}{x:Operand}{lo hi mx:Option Operand}(h:Pre C T H σ φ a w)(ho:o.op = .slice t x lo hi mx)(hps:∀ p∈ps,p)(hq:Yr C T H o=some (ps,s,H')):QOut C T H o σ φ a w s H':=by
 have hx:=h.rel x;simp only[Yr,ho] at hq;split at hq<;>try (cases hq;done)
 rename_i n hc;split at hq<;>try (cases hq;done)
 rename_i own e l hH;split at hq<;>try (cases hq;done)
 rename_i he;split at hq<;>try (cases hq;done)
 rename_i i j hlo hhi;rw[hc] at hx;have ex:a.eval x=σ n:=hx;have ht:=YbN h.ok he
 have hl:(lo.map a.eval=none/\i=0)∨∃ k,lo.map a.eval=some (.int k i):=by
  cases lo with
  | none=>simp at hlo;exact .inl ⟨rfl,hlo.symm⟩
  | some p=>obtain⟨k,hk⟩:=Ycx h hlo;exact .inr ⟨k,by simp[hk]⟩
 have hh:(hi.map a.eval=none/\j=(l.length:Int))∨∃ k,hi.map a.eval=some (.int k j):=by
  cases hi with
  | none=>simp at hhi;exact .inl ⟨rfl,hhi.symm⟩
  | some p=>obtain⟨k,hk⟩:=Ycx h hhi;exact .inr ⟨k,by simp[hk]⟩
 have key:∀ (φ1:Nat->Nat->Prop) (H1:LH C),Th C σ φ H σ φ1 H1 w->H1[n]?=some (.row false e l)->H1.length=H.length->0<=i->i<=j->j<=(l.length:Int) →
   QOut C T H o σ φ a w (.one (.at (.slc H.length))) (H1++[.row false e ((l.take j.toNat).drop i.toNat)]):=by
  intro φ1 H1 g1 hH1 hlen h0 h1 h2;obtain⟨A,c,e1,e2,g2⟩:=Yll h.ok g1.sat hH1 (i:=i.toNat) (j:=j.toNat) (by omega) (by omega);obtain⟨ti,z,hti,_,hsz,_⟩:=h.ok.info e;refine⟨.slice (if c=i.toNat then A else A.map (·.add (i.toNat*C.sz e))) (j.toNat-i.toNat) (c-i.toNat),_,_,g1.trans g2,?_,fun m hm=>?_,fun w' _=>?_⟩
  .show _=_;simp only[hlen,if_true]
  .simp[SV.names,TV.names,At.names] at hm;subst hm;simp[hlen]
  .have hrun:=Ycy (P:=C.P) (A:=A) (len:=l.length) (cap:=c) ht hti hl hh h0 h1 (by omega) w';rw[hsz] at hrun;simp[execOp,ho,ex,e1,hrun]
 split at hq
 .simp only[Zl,Zs] at hq;obtain⟨rfl,rfl,rfl⟩:=hq;exact key φ H (Th.refl h.sat) hH rfl (hps _ (by simp)) (hps _ (by simp)) (hps _ (by simp))
 .simp only[Zl,Zs] at hq;obtain⟨rfl,rfl,rfl⟩:=hq;have hn:n<H.length:=(Zt.1 hH).1;have:=key _ _ (YbM h.ok h.sat hH) (by rw[ZW hn]) (by simp) (hps _ (by simp)) (hps _ (by simp)) (hps _ (by simp));exact this

theorem YaS {c:Call}{x y:Operand}(h:c.args.toList=[x,y])(f:Operand->Value):c.args.map f=#[f x,f y]:=by
 apply ZbN;simp[h]
theorem YbO {c:Call}{x:Operand}(h:c.args.toList=[x])(f:Operand->Value):c.args.map f=#[f x]:=by
 apply ZbN;simp[h]

theorem Ybi {c:Call}{b:Builtin}{ρ ρ':Operand->Value}(ho:o.op = .call c)(hc:c.callee = .builtin b)(hm:c.args.map ρ=c.args.map ρ'):execOp ρ o=execOp ρ' o:=by
 unfold execOp;rw[ho];simp only[resolve,hc,hm]

theorem Yuv {c:Call}(h:Pre C T H σ φ a w)(ho:o.op = .call c)(hq:Yr C T H o=some (ps,s,H')):QOut C T H o σ φ a w s H':=by
 simp only[Yr,ho] at hq;split at hq<;>try (cases hq;done)
 .rename_i hcal;split at hq<;>try (cases hq;done)
  rename_i x hargs;have hx:=h.rel x;split at hq
  .rename_i n hc;rw[hc] at hx;have ex:a.eval x=σ n:=hx;split at hq<;>try (cases hq;done)
   case h_2 =>
    rename_i hh e ll et hH het;simp only[Zl,Zs] at hq;obtain⟨_,rfl,rfl⟩:=hq;obtain⟨_,⟨vs,hown,_⟩,_⟩:=h.sat.holds n _ hH
    have h1:∃ A cp,σ n = .slice A ll.length cp:=by
     rcases hown.2 with ⟨e1,e0⟩|⟨g,cap,cur,e1,_⟩
     .exact⟨none,0,by rw[e1,e0]⟩
     .exact⟨_,_,e1⟩
    obtain⟨A,cp,h1⟩:=h1;refine QOut.same h.sat (.int .i64 ll.length) rfl (by simp[vi,SV.names,TV.names,At.names]) fun w' _=>?_
    cases ht:c.argTypes[0]? with
    | none=>rw[ht] at het;cases het
    | some t =>
     rw[ht] at het;have het:C.P.underlying t=some (.slice et):=het;simp[execOp,ho,resolve,hcal,invoke,builtin,YbO hargs,ex,h1,Builtin.len_,ht,run_underlying het,goInt]
   case h_3 =>
    rename_i hh e kk ll et hH het;simp only[Zl,Zs] at hq;obtain⟨_,rfl,rfl⟩:=hq;obtain⟨_,pre,us,hpl,hown,_⟩:=h.sat.holds n _ hH
    have h1:∃ A cp,σ n = .slice A (kk+ll.length) cp:=by
     rcases hown.2 with ⟨e1,e0⟩|⟨g,cap,cur,e1,_⟩
     .exact⟨none,0,by rw[e1,e0]⟩
     .exact⟨_,_,e1⟩
    obtain⟨A,cp,h1⟩:=h1;refine QOut.same h.sat (.int .i64 ((kk+ll.length:Nat):Int)) rfl (by simp[vi,SV.names,TV.names,At.names]) fun w' _=>?_
    cases ht:c.argTypes[0]? with
    | none=>rw[ht] at het;cases het
    | some t =>
     rw[ht] at het;have het:C.P.underlying t=some (.slice et):=het;simp[execOp,ho,resolve,hcal,invoke,builtin,YbO hargs,ex,h1,Builtin.len_,ht,run_underlying het,goInt]
   rename_i own e l et hH het;simp only[Zl,Zs] at hq;obtain⟨_,rfl,rfl⟩:=hq;obtain⟨A,cp,h1,h2⟩:=(h.sat.holds n _ hH).rd h.ok;refine QOut.same h.sat (.int .i64 l.length) rfl (by simp[vi,SV.names,TV.names,At.names]) fun w' _=>?_
   cases ht:c.argTypes[0]? with
   | none=>rw[ht] at het;cases het
   | some t =>
    rw[ht] at het;have het:C.P.underlying t=some (.slice et):=het;simp[execOp,ho,resolve,hcal,invoke,builtin,YbO hargs,ex,h1,Builtin.len_,ht,run_underlying het,goInt]
  .split at hq<;>try (cases hq;done)
   rename_i u hu;simp only[ZA,Zs] at hq;obtain⟨v,hp,_,rfl,rfl⟩:=hq;exact QOut.pure_ h hp (Ybi ho hcal (by rw[YbO hargs,YbO hargs,hu,h.val hu];rfl))
 .rename_i hcal;split at hq<;>try (cases hq;done)
  rename_i x y hargs;split at hq<;>try (cases hq;done)
  rename_i k1 n1 k2 n2 hx hy;simp only[ZA,Zs] at hq;obtain⟨v,hp,_,rfl,rfl⟩:=hq;exact QOut.pure_ h hp (Ybi ho hcal (by rw[YaS hargs,YaS hargs,hx,h.val hx,hy,h.val hy];rfl))
 .rename_i hcal;split at hq<;>try (cases hq;done)
  rename_i x y hargs;split at hq<;>try (cases hq;done)
  rename_i k1 n1 k2 n2 hx hy;simp only[ZA,Zs] at hq;obtain⟨v,hp,_,rfl,rfl⟩:=hq;exact QOut.pure_ h hp (Ybi ho hcal (by rw[YaS hargs,YaS hargs,hx,h.val hx,hy,h.val hy];rfl))

theorem Ylm {op:BinOp}{t yt:TypeId}{x y:Operand}{ρ ρ':Operand->Value}(ho:o.op = .binOp op t x y yt)(hx:ρ x=ρ' x)(hy:ρ y=ρ' y):execOp ρ o=execOp ρ' o:=by
 unfold execOp;rw[ho];simp only[hx,hy]

theorem YhE {P:Program}{t:TypeId}{cs:Array Value}{off:Nat}{v:Value}(h:YoN P t cs off=some v)(w:World):(part t cs off).run P w = .ok v w:=by
 unfold YoN at h;split at h
 .rename_i d i hd hi;split at h
  .rename_i ha;simp only[Zl] at h;subst h;simp[part,YaQ hd,ha,Yv hi]
  .rename_i ha;simp[part,YaQ hd,ha,h]
 .cases h

theorem YoX {P:Program}{d:Nat}{rec_:TypeId->Value->Value->Option Bool}(hrec:∀ t x y b,rec_ t x y=some b->∀ w,(Op.equalIn d t x y).run P w = .ok b w){xs ys:Array Value}:∀ {fs:List Field} {b:Bool},eqFs rec_ P xs ys fs=some b->∀ w,(Op.eqFields d xs ys fs).run P w = .ok b w:=by
 intro fs
 induction fs with
 | nil=>intro b h w;simp[eqFs] at h;subst h;simp[Op.eqFields]
 | cons f fs ih =>
  intro b h w;simp only[eqFs] at h;split at h
  .cases h
  .rename_i hf;split at h<;>try (cases h;done)
   rename_i u v hu hv;split at h<;>try (cases h;done)
   rename_i r1 r2 h1 h2;simp only[Zl] at h;subst h;have e1:=YhE hu w;have e2:=YhE hv w;have e3:=hrec _ _ _ _ h1 w;have e4:=ih h2 w;cases r1<;>simp[Op.eqFields,hf,e1,e2,e3,e4]

theorem YrR {P:Program}:∀ (d:Nat) (t:TypeId) (x y:Value) (b:Bool),eqT P d t x y=some b->∀ w,(Op.equalIn d t x y).run P w = .ok b w:=by
 intro d
 induction d with
 | zero=>intro t x y b h;simp[eqT] at h
 | succ d ih =>
  intro t x y b h w;unfold eqT at h;split at h<;>try (cases h;done)
  .rename_i k0 k a' k' b' hd;split at h
   .rename_i hk;subst hk;simp only[Zl] at h;subst h;exact run_equalIn_int w d t k k0 a' b' hd
   .cases h
  .rename_i a' b' hd;simp only[Zl] at h;subst h;exact run_equalIn_bool' w d t a' b' hd
  .rename_i fs xs ys hd;split at h
   .cases h
   .rename_i hp;have hfo:P.fieldsOf t=fs:=by simp[Program.fieldsOf,hd]
    rw[run_equalIn_struct w d t xs ys (by rw[hfo];exact hd) (by simpa using hp),hfo];exact YoX ih h w

theorem Ymr {P:Program}{t:TypeId}{x y:Value}{b:Bool}(h:Yuh P t x y=some b)(w:World):(Op.equal t x y).run P w = .ok b w:=YrR Op.maxDepth t x y b h w

theorem Ygg (t:TypeId)(xs ys:Array Value):binOp .eql t (.agg xs) (.agg ys)=(do pure (.bool (← Op.equal t (.agg xs) (.agg ys)))):=by simp only[binOp]
theorem Ygh (t:TypeId)(xs ys:Array Value):binOp .neq t (.agg xs) (.agg ys)=(do pure (.bool (!(← Op.equal t (.agg xs) (.agg ys))))):=by simp only[binOp]

theorem Ycz {P:Program}{t el:TypeId}(hd:P.underlying t=some (.pointer el))(d:Nat)(ad:Addr)(w:World):(Op.equalIn (d+1) t (.pointer (some ad)) (.pointer none)).run P w = .ok false w:=by
 simp[Op.equalIn,run_underlying hd]
theorem YcA {P:Program}{t el:TypeId}(hd:P.underlying t=some (.pointer el))(d:Nat)(ad:Addr)(w:World):(Op.equalIn (d+1) t (.pointer none) (.pointer (some ad))).run P w = .ok false w:=by
 simp[Op.equalIn,run_underlying hd]
theorem YcS (t:TypeId)(p q:Option Addr):binOp .eql t (.pointer p) (.pointer q)=(do pure (.bool (← Op.equal t (.pointer p) (.pointer q)))):=by simp only[binOp]
theorem YcT (t:TypeId)(p q:Option Addr):binOp .neq t (.pointer p) (.pointer q)=(do pure (.bool (!(← Op.equal t (.pointer p) (.pointer q))))):=by simp only[binOp]

theorem YhF (h:Pre C T H σ φ a w){t:TypeId}{x y:Operand}{b:Bool}(he:eqS C t (opnd T x) (opnd T y)=some b) :
  ∀ w',(do eqGuard .eql t x y (a.eval x) (a.eval y);binOp .eql t (a.eval x) (a.eval y):Sem Value).run C.P w' = .ok (.bool b) w' ∧
   (do eqGuard .neq t x y (a.eval x) (a.eval y);binOp .neq t (a.eval x) (a.eval y):Sem Value).run C.P w' = .ok (.bool (!b)) w':=by
 intro w';have hx:=h.rel x;have hy:=h.rel y;unfold eqS at he;split at he
 .rename_i n k h1 h2;split at he<;>try (cases he;done)
  rename_i el hd;rw[h1] at hx;rw[h2] at hy;simp only[Zl] at he;subst he;obtain⟨b',_,e1⟩:=(show At.rel σ (.ptr n k) _ from hx)
  have e2:a.eval y = .pointer none:=hy;rw[e1,e2];have hr:(Op.equal t (.pointer (some ⟨b',k,none⟩)) (.pointer none)).run C.P w' = .ok false w':=Ycz hd 9999 _ w';constructor
  .rw[eqGuard_at_pointer,YcS,Zag,ZaJ,Zax,Zag,hr];rfl
  .rw[eqGuard_at_pointer,YcT,Zag,ZaJ,Zax,Zag,hr];rfl
 .rename_i n k h1 h2;split at he<;>try (cases he;done)
  rename_i el hd;rw[h1] at hx;rw[h2] at hy;simp only[Zl] at he;subst he;obtain⟨b',_,e1⟩:=(show At.rel σ (.ptr n k) _ from hy)
  have e2:a.eval x = .pointer none:=hx;rw[e1,e2];have hr:(Op.equal t (.pointer none) (.pointer (some ⟨b',k,none⟩))).run C.P w' = .ok false w':=YcA hd 9999 _ w';constructor
  .rw[eqGuard_at_pointer,YcS,Zag,ZaJ,Zax,Zag,hr];rfl
  .rw[eqGuard_at_pointer,YcT,Zag,ZaJ,Zax,Zag,hr];rfl
 .rename_i l m h1 h2;split at he<;>try (cases he;done)
  rename_i xs ys hxs hys;split at he<;>try (cases he;done)
  rename_i hg;rw[h1] at hx;rw[h2] at hy;obtain⟨vs,e1,r1⟩:=hx;obtain⟨us,e2,r2⟩:=hy;rw[e1,e2,Yaz hxs r1,Yaz hys r2];have hr:=Ymr he w';have hg':C.P.eqGuardType C.P.depth t=false:=by simpa using hg
  constructor
  .rw[Zag,run_eqGuard_agg w' .eql t x y _ _ hg',Zax,Ygg,Zag,hr]
   rfl
  .rw[Zag,run_eqGuard_agg w' .neq t x y _ _ hg',Zax,Ygh,Zag,hr]
   rfl
 .cases he

theorem YrS {op:BinOp}{t yt:TypeId}{x y:Operand}(h:Pre C T H σ φ a w)(ho:o.op = .binOp op t x y yt)(hps:∀ p∈ps,p)(hq:Yr C T H o=some (ps,s,H')):QOut C T H o σ φ a w s H':=by
 simp only[Yr,ho] at hq
 have hpure:∀ {u u' v:Value},Ybg (opnd T x)=some u->Ybg (opnd T y)=some u'->YaR C T o=some v->QOut C T H o σ φ a w (lift v) H:=fun hu hu' hp =>
  QOut.pure_ h hp (Ylm ho (by rw[hu,h.val hu];rfl) (by rw[hu',h.val hu'];rfl))
 have heq:∀ {b:Bool} {l:LH C},op = .eql->eqS C t (opnd T x) (opnd T y)=some b->QOut C T H o σ φ a w (vb b) H:=fun hop he =>
  QOut.same h.sat (.bool _) rfl (by simp[vb,SV.names,TV.names,At.names]) fun w' _=>by
   subst hop;have e:execOp a.eval o=(do pure (.value (← (do eqGuard .eql t x y (a.eval x) (a.eval y);binOp .eql t (a.eval x) (a.eval y):Sem Value))):Sem Next):=by unfold execOp;rw[ho]
   rw[e,Zag,(YhF h he w').1];rfl
 have hneq:∀ {b:Bool} {l:LH C},op = .neq->eqS C t (opnd T x) (opnd T y)=some b->QOut C T H o σ φ a w (vb (!b)) H:=fun hop he =>
  QOut.same h.sat (.bool _) rfl (by simp[vb,SV.names,TV.names,At.names]) fun w' _=>by
   subst hop;have e:execOp a.eval o=(do pure (.value (← (do eqGuard .neq t x y (a.eval x) (a.eval y);binOp .neq t (a.eval x) (a.eval y):Sem Value))):Sem Next):=by unfold execOp;rw[ho]
   rw[e,Zag,(YhF h he w').2];rfl
 unfold binS at hq;split at hq
 .rename_i k n k' m hx hy;split at hq<;>try (cases hq;done)
  rename_i hk;subst hk;split at hq
  .simp only[ZA,Zs] at hq;obtain⟨v,hp,_,rfl,rfl⟩:=hq;exact hpure hx hy hp
  .simp only[Zl,Zs] at hq;obtain⟨rfl,rfl,rfl⟩:=hq;have hm:m≠0:=hps _ (by simp);exact QOut.same h.sat _ rfl (by simp[vi,SV.names,TV.names,At.names]) fun w' _=>by simp[execOp,ho,h.val hx,h.val hy,eqGuard_quo,binOp_quo,Op.intDiv,hm]
 .rename_i k n k' m hx hy;split at hq<;>try (cases hq;done)
  rename_i hk;subst hk;split at hq
  .simp only[ZA,Zs] at hq;obtain⟨v,hp,_,rfl,rfl⟩:=hq;exact hpure hx hy hp
  .simp only[Zl,Zs] at hq;obtain⟨rfl,rfl,rfl⟩:=hq;have hm:m≠0:=hps _ (by simp);exact QOut.same h.sat _ rfl (by simp[vi,SV.names,TV.names,At.names]) fun w' _=>by simp[execOp,ho,h.val hx,h.val hy,eqGuard_rem,binOp_rem,Op.intDiv,hm]
 .rename_i k n k' m hx hy;split at hq
  .simp only[ZA,Zs] at hq;obtain⟨v,hp,_,rfl,rfl⟩:=hq;exact hpure hx hy hp
  .simp only[Zl,Zs] at hq;obtain⟨rfl,rfl,rfl⟩:=hq;have hm:0<=m:=hps _ (by simp);exact QOut.same h.sat _ rfl (by simp[vi,SV.names,TV.names,At.names]) fun w' _=>by simp[execOp,ho,h.val hx,h.val hy,eqGuard_shl,binOp_shl,Op.shift,show ¬ m<0 by omega]
 .rename_i k n k' m hx hy;split at hq
  .simp only[ZA,Zs] at hq;obtain⟨v,hp,_,rfl,rfl⟩:=hq;exact hpure hx hy hp
  .simp only[Zl,Zs] at hq;obtain⟨rfl,rfl,rfl⟩:=hq;have hm:0<=m:=hps _ (by simp);exact QOut.same h.sat _ rfl (by simp[vi,SV.names,TV.names,At.names]) fun w' _=>by simp[execOp,ho,h.val hx,h.val hy,eqGuard_shr,binOp_shr,Op.shift,show ¬ m<0 by omega]
 .simp only[ZA,Zs] at hq;obtain⟨v,hp,_,rfl,rfl⟩:=hq;exact heq (l:=H) rfl hp
 .simp only[ZA,Zs] at hq;obtain⟨v,hp,_,rfl,rfl⟩:=hq;exact hneq (l:=H) rfl hp
 .rename_i u u' hx hy _ _ _ _ _ _;simp only[ZA,Zs] at hq;obtain⟨v,hp,_,rfl,rfl⟩:=hq;exact hpure hx hy hp
 .simp only[ZA,Zs] at hq;obtain⟨v,hp,_,rfl,rfl⟩:=hq;exact heq (l:=H) rfl hp
 .simp only[ZA,Zs] at hq;obtain⟨v,hp,_,rfl,rfl⟩:=hq;exact hneq (l:=H) rfl hp
 .cases hq

theorem YdR (h:Pre C T H σ φ a w)(hps:∀ p∈ps,p)(hq:Yr C T H o=some (ps,s,H')):QOut C T H o σ φ a w s H':=by
 cases ho:o.op with
 | move x=>exact Yur h ho hq
 | assign x=>exact YoV h ho hq
 | pick c x y=>exact Yus h ho hq
 | nilCheck x=>exact Ylf h ho hq
 | binOp op t x y yt=>exact YrS h ho hps hq
 | unOp op t x=>exact Yut h ho hq
 | convert t t' x=>exact Ymn h ho hq
 | load t x=>exact Yuu h ho hps hq
 | fieldAddr t x f=>exact YiT h ho hq
 | field t x f=>exact YrN h ho hq
 | index t x i=>exact YrO h ho hps hq
 | indexAddr t x i=>exact YiU h ho hps hq
 | slice t x lo hi mx=>exact YrQ h ho hps hq
 | extract x k=>exact Ymo h ho hq
 | lookup t x i ok=>exact YoW h ho hq
 | build t parts=>exact YrP h ho hq
 | makeFunc fn fs cs=>exact Ylh h ho hq
 | call c=>exact Yuv h ho hq
 | _=>simp[Yr,ho] at hq
end
end
section
theorem YdS {P:Program}{w w':World}{t ty e:TypeId}{i:TypeInfo}{z:Value}{size bytes:Nat}(ht:P.underlying t=some (.slice e))(hi:P.info? e=some i)(hz:i.zero=some z)(hsize:i.size=size)(hby:i.bytes=bytes)(hsz:0<size){v v':Value}{n:Nat}{xs:List Value}(hown:w.ownsRow 0 e size v n xs){a:Addr}{m c:Nat}{news:List Value}(hl:news.length=m*size)(hnews:∀ (j:Nat) (u:Value),news[j]?=some u->w.cell? (a.add j)=some u)(h1:∀ u∈news,u.oneCell'=true)(h63:n+m<=maxLen)(hbytes:(n+m)*bytes<=140737488355328)(hr:(Builtin.append_ #[t,t] ty #[v,.slice (some a) m c]).run P w = .ok v' w') :
  ∀ k,v'.ownBlock=some k->v.ownBlock=some k∨w.heap.size<=k:=by
 subst hsize hby;have hb63:n+m<=9223372036854775807:=by simp only[maxLen] at h63;omega
 intro k hk;rcases hown.2 with ⟨rfl,rfl⟩|⟨g,cap,cur,rfl,_,hg,hnc,_,hcs,_⟩
 .by_cases hm:m=0
  .subst hm;have hn:news=[]:=ZM (by simpa using hl)
   have e:(Builtin.append_ #[t,t] ty #[.slice none 0 0,.slice (some a) 0 c]).run P w = .ok (.slice none 0 0) w:=by
    simp[Builtin.append_,run_underlying ht,sizeOf,typeInfo,hi,Builtin.lenOf,Builtin.firstCells,loadCells,loadCellsFrom]
   rw[e] at hr;injection hr with h2 _
   subst h2;simp[Value.ownBlock] at hk
  .have e:=run_append_nil (P:=P) w t ty e i z ht hi hz a m c news hl hnews (by omega) (by omega) (by have hb:=hbytes;simp only[ZaM] at hb;omega);rw[e] at hr;injection hr with h2 _
   subst h2;simp only[Value.ownBlock,Zl] at hk;exact .inr (by omega)
 .by_cases hroom:n+m<=cap
  .have hfit:n*i.size+news.length<=cur.size:=by rw[hl,hcs,<-ZcF];exact Zbi _ hroom
   have e:=run_append_room (P:=P) w t ty e i ht hi g n cap cur hg a m c news hl hnews h1 hroom hfit;rw[e] at hr;injection hr with h2 _
   subst h2;exact .inl hk
  .have holds:∀ (j:Nat) (u:Value),xs[j]?=some u->w.cell? ((⟨g,0,none⟩:Addr).add j)=some u:=hown.cells (g:=g) rfl;have e:=run_append_grow (P:=P) w t ty e i z ht hi hz ⟨g,0,none⟩ n cap xs hown.1 holds a m c news hl hnews (by omega) (by omega) (growslice_fits (by omega) hbytes);rw[e] at hr;injection hr with h2 _
   subst h2;simp only[Value.ownBlock,Zl] at hk;exact .inr (by omega)

theorem YaA {α:Type}{l m:List α}{p:Nat}(h:p+m.length<=l.length)(k:Nat):(YC l p m)[k]?=if p<=k/\k<p+m.length then m[k-p]? else l[k]?:=by
 unfold YC;rcases Zad k p with h1|h1
 .rw[ZB (by simp;omega),Zae,Zj h1,Zf (by omega)]
 .rw[ZU (by simp;omega)];have e:(l.take p).length=p:=by simp;omega
  rw[e];rcases Zad k (p+m.length) with h2|h2
  .rw[ZB (by omega),Zj ⟨h1,h2⟩]
  .rw[ZU (by omega),Zf (by omega),ZaV]
   congr 1;omega

theorem Yms {α:Type}{l m:List α}{p:Nat}:YC l p m=l.take p++m++l.drop (p+m.length):=by simp[YC]

theorem Ygi {α:Type}{l m k:List α}{p q:Nat}(h1:q+k.length<=m.length)(h2:p+m.length<=l.length)(hm:∀ j,j<m.length->l[p+j]?=m[j]?):YC l p (YC m q k)=YC l (p+q) k:=by
 apply ZaI;intro i;have e1:=YaA (l:=l) (m:=YC m q k) (p:=p) (by rw[Ybk h1];exact h2) i;have e2:=YaA (l:=l) (m:=k) (p:=p+q) (by omega) i;rw[Ybk h1] at e1;rw[e1,e2]
 by_cases c:p<=i/\i<p+m.length
 .rw[Zj c,YaA h1]
  by_cases d:q<=i-p/\i-p<q+k.length
  .rw[Zj d,Zj (by omega)]
   congr 1;omega
  .rw[Zf d,Zf (by omega),<-hm (i-p) (by omega)]
   congr 1;omega
 .rw[Zf c,Zf (by omega)]

section
variable {C:Ctx}
variable {T:List SV} {H:LH C} {o:Oper} {σ:Nat->Value} {φ:Nat->Nat->Prop} {a:Act} {w:World} {ps:List Prop} {s:SV} {H':LH C}

theorem YZ (hC:C.OK)(e:C.EC)(l:List (C.α e)):(flat C e l).length=l.length*C.sz e:=YiL (hC.len e) l
theorem Yer (hC:C.OK){e:C.EC}{l:List (C.α e)}{k:Nat}{x:C.α e}(hx:l[k]?=some x){j:Nat}(hj:j<C.sz e):(flat C e l)[k*C.sz e+j]?=(C.enc e x)[j]?:=by
 have hj':j<(C.enc e x).length:=by rw[hC.len];exact hj
 rw[Zk hj'];exact YfZ (hC.len e) l k x hx j _ (Zk hj')

theorem YoY (hC:C.OK){e:C.EC}{l:List (C.α e)}{k:Nat}(hk:k<l.length)(y:C.α e):flat C e (l.set k y)=YC (flat C e l) (k*C.sz e) (C.enc e y):=by
 have hp:=hC.pos e;have hle:k*C.sz e+C.sz e<=l.length*C.sz e:=by rw[<-ZbA];exact Zbi _ hk
 apply ZaI;intro i;rw[YaA (by rw[hC.len,YZ hC];exact hle),hC.len];rcases Zad i (l.length*C.sz e) with hi|hi
 .have hq:i / C.sz e<l.length:=Zct (by rw[ZbL];exact hi);have hr:i % C.sz e<C.sz e:=Nat.mod_lt _ hp;have hd:i=i / C.sz e*C.sz e+i % C.sz e:=by rw[ZbL];exact (Nat.div_add_mod i (C.sz e)).symm
  have e1:=Yer hC (l:=l) (Zk hq) hr;have hq':i / C.sz e<(l.set k y).length:=by simpa using hq
  have e2:=Yer hC (l:=l.set k y) (Zk hq') hr;rw[<-hd] at e1 e2;rw[e1,e2]
  by_cases c:k=i / C.sz e
  .rw[Zj (by rw[c];omega)];simp only[List.getElem_set,c,if_true]
   congr 1
   omega
  .rw[Zf ?_]
   .simp[c]
   .intro hh;apply c
    have:i / C.sz e=k:=by
     apply Nat.div_eq_of_lt_le
     .exact hh.1
     .rw[ZbA];exact hh.2
    exact this.symm
 .rw[ZV (by rw[YZ hC];simpa using hi),Zf (by omega),ZV (by rw[YZ hC];exact hi)]

theorem YoZ (hC:C.OK)(e:C.EC)(l:List (C.α e)):∀ u∈flat C e l,u.oneCell'=true:=fun u hu=>by
 obtain⟨x,_,hx⟩:=ZK.1 hu;exact hC.one e x u hx

theorem Yes (hC:C.OK){e:C.EC}{z:Value}(hz:z.cells.toList=C.enc e (C.dft e))(n:Nat):(madeCells z.cells (n*C.sz e)).toList=flat C e (List.replicate n (C.dft e)):=by
 have hp:=hC.pos e;have hzs:z.cells.size=C.sz e:=by rw[<-Zal,hz,hC.len]
 apply ZaI;intro i;rcases Zad i (n*C.sz e) with hi|hi
 .have hq:i / C.sz e<n:=Zct (by rw[ZbL];exact hi);have hr:i % C.sz e<C.sz e:=Nat.mod_lt _ hp;have hd:i=i / C.sz e*C.sz e+i % C.sz e:=by rw[ZbL];exact (Nat.div_add_mod i (C.sz e)).symm
  have e1:=Yer hC (l:=List.replicate n (C.dft e)) (k:=i / C.sz e) (x:=C.dft e) (by simp[hq]) hr;rw[<-hd] at e1;rw[e1,<-hz];have hlt:i % C.sz e<z.cells.size:=by omega
  simp[madeCells,hi,hzs];rw[getElem!_pos z.cells _ hlt,Array.getElem?_eq_getElem hlt]
 .rw[ZV (by simp[madeCells];exact hi),ZV (by rw[YZ hC];simpa using hi)]

theorem Yln (hC:C.OK){e:C.EC}:∀ (n:Nat) (vs:List Value) {xs:List (C.α e)},dcdN C e n vs=some xs->vs.length=n*C.sz e->flat C e xs=vs/\xs.length=n:=by
 intro n
 induction n with
 | zero=>intro vs xs h hl;simp[dcdN] at h;subst h;exact⟨(ZM (by simpa using hl)).symm,rfl⟩
 | succ n ih =>
  intro vs xs h hl;simp only[dcdN] at h;split at h<;>try (cases h;done)
  rename_i x xs' h1 h2;simp only[Zl] at h;subst h;obtain⟨e1,e2⟩:=ih _ h2 (by rw[Zy,hl,ZbA];omega);refine⟨?_,by simp[e2]⟩;have:=hC.dcd e _ _ h1;show C.enc e x++flat C e xs'=vs;rw[this,e1,Zaw]

structure EOut (C:Ctx) (H:LH C) (σ:Nat->Value) (φ:Nat->Nat->Prop) (a:Act) (w:World) (ts:LN) (T':List SV) (H':LH C) (σ':Nat->Value) (φ':Nat->Nat->Prop) (a':Act) (w':World):Prop where
 tm:Rels (SV.rel σ') T' a'.tmps.toList
 tcl:∀ s∈T',∀ m∈s.names,m<H'.length
 sat:Sat C σ' φ' w' H'
 adv:Adv φ w φ' w'
 len:H.length<=H'.length
 dfs:a'.defers=a.defers
 agree:∀ n,n<H.length->Yn H n=false->σ' n=σ n
 own:∀ n,n<H.length->Yn H' n=true->Yn H n=true
 touch:∀ n,n<H.length->n∉ts->(∀ b,Rdb H' σ' n b↔Rdb H σ n b)/\∀ b,Rdb H σ n b->b<w.heap.size->w'.heap[b]?=w.heap[b]?
 still:∀ n,n<H.length->n∉ts->σ' n=σ n

theorem YcB (h:Rels (SV.rel σ) T a.tmps.toList){v:Value}(hs:s.rel σ v)(dst:Option Nat):Rels (SV.rel σ) (setT T dst s) (a.put dst v).tmps.toList:=by
 cases dst with
 | none=>exact h
 | some d =>
  simp only[setT,Act.put,ZbO];exact h.set d hs

theorem Ybu {x:SV}{dst:Option Nat}(h:x∈setT T dst s):x∈T∨x=s:=by
 cases dst with
 | none=>exact .inl h
 | some d=>exact Zbw h

theorem Yet {σ':Nat->Value}(h:Rels (SV.rel σ) T a.tmps.toList)(hcl:∀ s∈T,∀ m∈s.names,m<H.length)(hag:∀ n,n<H.length->σ' n=σ n):Rels (SV.rel σ') T a.tmps.toList :=
 h.mono fun x _ hx hr=>SV.rel_of hr fun m hm=>hag m (hcl x hx m hm)

theorem YaB (dst:Option Nat)(v:Value):(a.put dst v).defers=a.defers:=by cases dst<;>rfl

theorem YbP (hC:C.OK)(h:Pre C T H σ φ a w){σ1:Nat->Value}{φ1:Nat->Nat->Prop}{H1:LH C}(g:Th C σ φ H σ1 φ1 H1 w)(c:Ta C)(v:Value)(at_:At)(o':Obj)(dst:Option Nat)(hc:∀ σ':Nat->Value,(∀ n∈c.names,σ' n=σ1 n)->Holds (w.alloc o') σ' v (fun b=>b=w.heap.size) c)(hnm:∀ n∈c.names,n<H1.length)(hrow:∀ b,Ro (w.alloc o') v b c->(∀ m,¬ φ1 m b)/\b≠w.heap.size)(hat:∀ σ':Nat->Value,σ' H1.length=v->at_.rel σ' v)(hatn:∀ m∈at_.names,m=H1.length) :
  EOut C H σ φ a w [] (setT T dst (.one (.at at_))) (H1++[c]) (fun k=>if k=H1.length then v else σ1 k) (fun k=>if k=H1.length then (fun b=>b=w.heap.size) else φ1 k) (a.put dst v) (w.alloc o'):=by
 have hag:∀ n,n<H.length->(if n=H1.length then v else σ1 n)=σ n:=fun n hn=>by
  rw[Zf (by have:=g.len;omega)];exact g.agree n hn
 have hsat:Sat C (fun k=>if k=H1.length then v else σ1 k) (fun k=>if k=H1.length then (fun b=>b=w.heap.size) else φ1 k) (w.alloc o') (H1++[c]) :=
  g.sat.new hC c v (fun b=>b=w.heap.size) (by simp) (fun k hk=>heap_alloc_old w o' hk)
   (fun n hn=>hc _ fun m hm=>by
    have:¬ m=n:=fun e=>hn (e ▸ hm)
    simp[this]) hnm (fun b hb=>by subst hb;simp) hrow
 refine⟨YcB (Yet h.tm h.tcl hag) (show SV.rel _ (.one (.at at_)) v from hat _ (by simp)) dst,fun x hx m hm=>?_,hsat,⟨rfl,rfl,rfl,by simp,fun k hk _=>heap_alloc_old w o' hk,fun n b hb=>?_⟩,by have:=g.len;simp;omega,YaB _ _,fun n hn _=>hag n hn,fun n hn ho=>?_,fun n hn _=>⟨fun b=>?_,fun b _ hlt=>heap_alloc_old w o' hlt⟩,fun n hn _=>hag n hn⟩
 .have:=g.len;rcases Ybu hx with hx|rfl
  .have:=h.tcl x hx m hm;simp;omega
  .have:=hatn m hm;simp;omega
 .by_cases e:n=H1.length
  .subst e;simp only[if_true] at hb;exact .inr (by omega)
  .simp only[Zf e] at hb;exact .inl ⟨n,g.sub n b hb⟩
 .rw[YdQ (by have:=g.len;omega)] at ho;exact g.own n hn ho
 .rw[<-g.rdb n hn b];have hn1:n<H1.length:=by have:=g.len;omega
  have hne:n≠H1.length:=by omega
  unfold Rdb;simp[hne,ZB hn1]

theorem YF {P:Program}{v:Value}{w':World}{K:Act->World->Prop}{Q:Exit->Act->World->Prop}(hr:(execOp a.eval o).run P w = .ok (.value v) w')(h:K (a.put o.dst v) w'):o.wp P a w K Q:=by
 unfold Oper.wp;rw[hr];exact h
theorem YcU {P:Program}{w':World}{K:Act->World->Prop}{Q:Exit->Act->World->Prop}(hr:(execOp a.eval o).run P w = .ok .skip w')(h:K (a.put o.dst undef) w'):o.wp P a w K Q:=by
 unfold Oper.wp;rw[hr];exact h

abbrev EK (C:Ctx):=LN->List SV->LH C->Prop
variable {K:EK C} {Γ:List (FuncId × Tfm C)} {trunc:Nat->Bool} {Q:Exit->Act->World->Prop}

def YbF (C:Ctx)(H:LH C)(σ:Nat->Value)(φ:Nat->Nat->Prop)(a:Act)(w:World)(K:EK C)(a':Act)(w':World):Prop :=
 ∃ ts T' H' σ' φ',EOut C H σ φ a w ts T' H' σ' φ' a' w'/\K ts T' H'

theorem YrT {t:TypeId}(h:Pre C T H σ φ a w)(ho:o.op = .alloc t)(he:effS C Γ trunc T H o K):o.wp C.P a w (YbF C H σ φ a w K) Q:=by
 simp only[effS,ho] at he;split at he<;>try (exact he.elim)
 rename_i z hz;obtain⟨i,v,hi,hiz,rfl⟩:=Yep h.ok hz
 obtain⟨σ1,φ1,g,r,n⟩:=Ycq h.ok (v.cells.toList.map .val) (Yfz C.P 20 t) h.sat (Ybj _) (fun c hc m hm=>by
  obtain⟨u,_,rfl⟩:=ZF.1 hc;simp[At.names] at hm)
 refine YF (v:=.pointer (some ⟨w.heap.size,0,none⟩)) (w':=w.alloc (.cells v.cells t)) ?_ ⟨_,_,_,_,_,YbP h.ok h g _ (.pointer (some ⟨w.heap.size,0,none⟩)) (.ptr _ 0) _ o.dst (fun σ' hs=>?_) (fun m hm=>?_) (fun _ e=>(Ro.box e).elim) (fun σ' hs=>⟨w.heap.size,hs,rfl⟩) (fun m hm=>?_),he⟩
 .simp[execOp,ho,Instr.alloc,zeroValue,typeInfo,hi,hiz,newVar,newRow]
 .refine⟨w.heap.size,t,v.cells,rfl,fun _=>Zbt,heap_alloc_new w _,r.mono fun x u hx hr=>At.rel_of hr fun m hm=>hs m (ZK.2 ⟨x,hx,hm⟩)⟩
 .obtain⟨x,hx,hm⟩:=ZK.1 hm;exact n x hx m hm
 .simpa [At.names] using hm

theorem Yxm {t:TypeId}{x:Operand}(h:Pre C T H σ φ a w)(ho:o.op = .box t x)(he:effS C Γ trunc T H o K):o.wp C.P a w (YbF C H σ φ a w K) Q:=by
 simp only[effS,ho] at he;split at he<;>try (exact he.elim)
 rename_i cs hcs;obtain⟨r,n⟩:=Yah h.ok h.sat hcs (h.rel x);have nx:=h.nm x;refine YF (v:=.pointer (some ⟨w.heap.size,0,none⟩)) (w':=w.alloc (.cells (a.eval x).cells t)) ?_ ⟨_,_,_,_,_,YbP h.ok h (Th.refl h.sat) _ (.pointer (some ⟨w.heap.size,0,none⟩)) (.ptr _ 0) _ o.dst (fun σ' hs=>?_) (fun m hm=>?_) (fun _ e=>(Ro.box e).elim) (fun σ' hs=>⟨w.heap.size,hs,rfl⟩) (fun m hm=>?_),he⟩
 .simp[execOp,ho,Instr.box,newVar,newRow]
 .refine⟨w.heap.size,t,(a.eval x).cells,rfl,fun _=>Zbt,heap_alloc_new w _,r.mono fun y u hy hr=>At.rel_of hr fun m hm=>hs m (ZK.2 ⟨y,hy,hm⟩)⟩
 .obtain⟨y,hy,hm⟩:=ZK.1 hm;exact nx m (n y hy m hm)
 .simpa [At.names] using hm
end
end
section
section
variable {C:Ctx}
variable {T:List SV} {H:LH C} {o:Oper} {σ:Nat->Value} {φ:Nat->Nat->Prop} {a:Act} {w:World} {ps:List Prop} {s:SV} {H':LH C}
variable {K:EK C} {Γ:List (FuncId × Tfm C)} {trunc:Nat->Bool} {Q:Exit->Act->World->Prop}

theorem At.kill_rel {n:Nat}{x:At}{v:Value}(h:x.rel σ v):(x.kill n).rel σ v:=by
 unfold At.kill;split
 .trivial
 .exact h
theorem At.kill_names {n:Nat}{x:At}:∀ m∈(x.kill n).names,m∈x.names/\m≠n:=by
 unfold At.kill;split
 .intro m hm;simp[At.names] at hm
 .rename_i hn;intro m hm;refine⟨hm,fun e=>hn ?_⟩;subst e
  simpa using hm
theorem YhG {n:Nat}{l:List At}{vs:List Value}(h:Rels (At.rel σ) l vs):Rels (At.rel σ) (l.map (At.kill n)) vs :=
 ⟨by simp[h.1],fun i x v hx hv=>by
  rw[Zv] at hx;cases hl:l[i]? with
  | none=>rw[hl] at hx;cases hx
  | some y=>rw[hl] at hx;simp at hx;subst hx;exact At.kill_rel (h.2 i y v hl hv)⟩
theorem TV.kill_rel {n:Nat}{x:TV}{v:Value}(h:x.rel σ v):(x.kill n).rel σ v:=by
 cases x with
 | «at» y=>exact At.kill_rel h
 | agg l=>obtain⟨cs,e,hr⟩:=h;exact⟨cs,e,YhG hr⟩
theorem TV.kill_names {n:Nat}{x:TV}:∀ m∈(x.kill n).names,m∈x.names/\m≠n:=by
 cases x with
 | «at» y=>exact At.kill_names
 | agg l =>
  intro m hm;simp only[TV.kill,TV.names,ZK,ZF] at hm;obtain⟨_,⟨y,hy,rfl⟩,hm⟩:=hm;have:=At.kill_names m hm;exact⟨ZK.2 ⟨y,hy,this.1⟩,this.2⟩
theorem SV.kill_rel {n:Nat}{x:SV}{v:Value}(h:x.rel σ v):(x.kill n).rel σ v:=by
 cases x with
 | one y=>exact TV.kill_rel h
 | tup l =>
  obtain⟨vs,e,hr⟩:=h;refine⟨vs,e,by simp[hr.1],fun i x v hx hv=>?_⟩;rw[Zv] at hx;cases hl:l[i]? with
  | none=>rw[hl] at hx;cases hx
  | some y=>rw[hl] at hx;simp at hx;subst hx;exact TV.kill_rel (hr.2 i y v hl hv)
theorem SV.kill_names {n:Nat}{x:SV}:∀ m∈(x.kill n).names,m∈x.names/\m≠n:=by
 cases x with
 | one y=>exact TV.kill_names
 | tup l =>
  intro m hm;simp only[SV.kill,SV.names,ZK,ZF] at hm;obtain⟨_,⟨y,hy,rfl⟩,hm⟩:=hm;have:=TV.kill_names m hm;exact⟨ZK.2 ⟨y,hy,this.1⟩,this.2⟩
theorem Ydz {n:Nat}{vs:List Value}(h:Rels (SV.rel σ) T vs):Rels (SV.rel σ) (T.map (SV.kill n)) vs :=
 ⟨by simp[h.1],fun i x v hx hv=>by
  rw[Zv] at hx;cases hl:T[i]? with
  | none=>rw[hl] at hx;cases hx
  | some y=>rw[hl] at hx;simp at hx;subst hx;exact SV.kill_rel (h.2 i y v hl hv)⟩

theorem Ta.kill_names {n:Nat}{c:Ta C}:∀ m∈(c.kill n).names,m∈c.names/\m≠n:=by
 cases c with
 | box cells =>
  intro m hm;simp only[Ta.kill,Ta.names,ZK,ZF] at hm;obtain⟨_,⟨y,hy,rfl⟩,hm⟩:=hm;have:=At.kill_names m hm;exact⟨ZK.2 ⟨y,hy,this.1⟩,this.2⟩
 | _=>intro m hm;simp[Ta.kill,Ta.names] at hm

theorem Holds.kill {n:Nat}{v:Value}{f:Nat->Prop}{c:Ta C}(h:Holds w σ v f c):Holds w σ v f (c.kill n):=by
 match c with
 | .gone=>exact h
 | .box cells=>obtain⟨b,t,cs,h1,h2,h3,h4⟩:=h;exact⟨b,t,cs,h1,h2,h3,YhG h4⟩
 | .row true e l=>exact h
 | .row false e l=>exact h
 | .abs x=>exact h
 | .map kk vk l=>exact h
 | .arr _ _=>exact h
 | .orows _ _ _ _=>exact h
 | .rows _ _ _=>exact h

theorem Ypa {n k:Nat}{c:Ta C}(h:(H.map (Ta.kill n))[k]?=some c):∃ d,H[k]?=some d/\c=d.kill n:=by
 rw[Zv] at h;cases hl:H[k]? with
 | none=>rw[hl] at h;cases h
 | some d =>
  rw[hl] at h;exact⟨d,rfl,(Zai h).symm⟩

theorem YdA {n k:Nat}:Yn (H.map (Ta.kill n)) k=Yn H k:=by
 simp only[Yn,Zv];cases H[k]? with
 | none=>rfl
 | some c =>
  cases c with
  | row own e l=>cases own<;>rfl
  | _=>rfl

theorem Sat.kill (h:Sat C σ φ w H)(n:Nat):Sat C σ φ w (H.map (Ta.kill n)) where
 holds k c hc:=by
  rw[Zv] at hc;cases hl:H[k]? with
  | none=>rw[hl] at hc;cases hc
  | some d=>rw[hl] at hc;simp at hc;subst hc;exact (h.holds k d hl).kill
 dis:=h.dis
 bd:=h.bd
 imm k c hk b hb:=by
  obtain⟨d,hd,rfl⟩:=Ypa hk;exact h.imm k d hd b (by cases d<;>exact hb)
 out k hk:=h.out k (by simpa using hk)
 cl k c hc m hm:=by
  rw[Zv] at hc;cases hl:H[k]? with
  | none=>rw[hl] at hc;cases hc
  | some d =>
   rw[hl] at hc;simp at hc;subst hc
   simpa using h.cl k d hl m (Ta.kill_names m hm).1

theorem YcV (h:Sat C σ φ w H){k n b:Nat}(hb:Rdb H σ k b)(hφ:φ n b):k=n:=by
 rcases hb with ⟨hb,cells,hl⟩|⟨hb,own,e,l,hl,hpos⟩|⟨hb,kk,vk,l,hl⟩|⟨hb,hh,e,ll,hl,hpos⟩|⟨hb,kk,l,hl⟩
 .obtain⟨b',t,cs,h1,h2,_⟩:=h.holds k _ hl;rw[hb] at h1;obtain rfl:b=b':=by simpa using h1
  exact h.dis k n b ((h2 b).2 rfl) hφ
 .have hh:=h.holds k _ hl;cases own with
  | true=>exact h.dis k n b ((hh.2 b).2 hb) hφ
  | false=>exact absurd hφ (h.immr k e l hl hpos b hb n)
 .obtain⟨b',es,ck,h1,h2,_⟩:=h.holds k _ hl;rw[hb] at h1;obtain rfl:b=b':=by simpa using h1
  exact h.dis k n b ((h2 b).2 rfl) hφ
 .obtain⟨_,_,h3⟩:=h.holds k _ hl;exact h.dis k n b ((h3 b).2 hb) hφ
 .obtain⟨b',t,cs,h1,h2,_⟩:=h.holds k _ hl;rw[hb] at h1;obtain rfl:b=b':=by simpa using h1
  exact h.dis k n b ((h2 b).2 rfl) hφ

theorem YbQ (hC:C.OK)(h:Pre C T H σ φ a w){n:Nat}(hn:n<H.length)(c:Ta C){w':World}(dst:Option Nat)(hsz:w'.heap.size=w.heap.size)(hos:w'.os=w.os)(htp:w'.tape=w.tape)(hop:w'.output=w.output)(hfr:∀ k,¬ φ n k->w'.heap[k]?=w.heap[k]?)(hc:Holds w' σ (σ n) (φ n) c)(hnm:∀ m∈c.names,m<H.length)(hrow:∀ b,¬ Ro w' (σ n) b c)(hown:Yn (H.set n c) n=true->Yn H n=true) :
  EOut C H σ φ a w [n] (setT T dst (.one (.at .any))) (H.set n c) σ φ (a.put dst undef) w' where
 tm:=YcB h.tm (s:=.one (.at .any)) trivial dst
 tcl x hx m hm:=by
  rcases Ybu hx with hx|rfl
  .simpa using h.tcl x hx m hm
  .simp[SV.names,TV.names,At.names] at hm
 sat:=by
  refine h.sat.step hC (fun k=>k=n) (by omega) (fun k _ hk=>hfr k (hk n rfl)) (fun k hk=>?_) (fun _ _ _ _ _ _=>rfl) (fun k d hk hd=>?_) (fun k b hk hb=>.inl ⟨n,rfl,by have:k=n:=hk;subst this;exact hb⟩) (fun k m b hk hm _ _=>hk.trans hm.symm)
   (fun k b _ hb=>by have:=h.sat.bd k b hb;omega) (fun k e hk hd b hb m hm=>?_) (fun k hk b=>h.sat.out k (by simpa using hk) b) (by simp) (fun k d hk hd m hm=>?_)
  .have:¬ k=n:=hk;exact⟨by rw[Zam (Zbu this)],rfl,fun _=>Zbt⟩
  .have hk':k=n:=hk;subst hk';rw[ZW hn] at hd;simp only[Zl] at hd;subst hd;exact hc
  .have hk':k=n:=hk;subst hk';rw[ZW hn] at hd;simp only[Zl] at hd;subst hd;exact hrow b hb
  .have hk':k=n:=hk;subst hk';rw[ZW hn] at hd;simp only[Zl] at hd;subst hd
   simpa using hnm m hm
 adv:=⟨hos,htp,hop,by omega,fun k _ hk=>hfr k (hk n),fun k b hb=>.inl ⟨k,hb⟩⟩
 len:=by simp
 dfs:=YaB _ _
 agree _ _ _:=rfl
 still _ _ _:=rfl
 own k hk ho:=by
  by_cases e:k=n
  .subst e;exact hown ho
  .simpa [Yn,Zam (Zbu e)] using ho
 touch k hk hkn:=by
  have hne:k≠n:=fun e=>hkn (by simp[e])
  refine⟨fun b=>?_,fun b hb hlt=>hfr b fun hφ=>?_⟩
  .unfold Rdb;simp[Zam (Zbu hne)]
  .exact hne (YcV h.sat hb hφ)

theorem Ymt (hC:C.OK)(hs:Sat C σ φ w H){l:List At}{vs:List Value}(hr:Rels (At.rel σ) l vs)(h:l.all (okAt H)=true):∀ v∈vs,v.oneCell'=true:=by
 intro v hv;obtain⟨i,hi,rfl⟩:=Zbx.1 hv;have hil:i<l.length:=by rw[hr.1];exact hi
 exact YjX hC hs (Zao.1 h _ (Zaa hil)) (hr.2 i _ _ (Zk hil) (Zk hi))

theorem Ybv {P:Program}{t t':TypeId}{i:TypeInfo}{b off:Nat}{cur:Array Value}{v:Value}{fz:Nat × Nat}(hi:P.info? t=some i)(hsz:v.cells.size=i.size)(hb:w.heap[b]?=some (.cells cur t' fz))(hfz:fz=(0,0)∨cur.size<=fz.1)(hle:off+v.cells.toList.length<=cur.size)(h1:∀ u∈v.cells.toList,u.oneCell'=true):(Instr.storeAt t (.pointer (some ⟨b,off,none⟩)) v).run P w = .ok () (w.setRow b (YC cur.toList off v.cells.toList).toArray):=by
 have h:=YbH P b off t' fz v.cells.toList 0 cur w hb hfz (by simpa using hle) h1;rw[Zbb] at h;simp only[Instr.storeAt,Instr.sureAddr,storeVar,Zag,ZaJ,Zax,Yv hi];rw[Zf (by simpa using hsz),h,Yms]

theorem YrU {t:TypeId}{x y:Operand}(h:Pre C T H σ φ a w)(ho:o.op = .store t x y)(he:effS C Γ trunc T H o K):o.wp C.P a w (YbF C H σ φ a w K) Q:=by
 have hx:=h.rel x;have hy:=h.rel y;have ny:=h.nm y;simp only[effS,ho] at he;split at he<;>try (exact he.elim)
 .rename_i n off vs i hcx hcs hi;rw[hcx] at hx;split at he<;>try (exact he.elim)
  case h_2 =>
   rename_i k l hH;split at he<;>try (exact he.elim)
   case h_3 =>
    split at he<;>try (exact he.elim)
    rename_i hcond;obtain⟨hl,hok⟩:=hcond;obtain⟨h0,hll,he⟩:=he;have h0:off=0:=by omega
    have hll:l.length=vs.length:=by omega
    obtain⟨r,nn⟩:=Yah h.ok h.sat hcs hy;have hn:n<H.length:=(Zt.1 hH).1;obtain⟨b,h1,h2⟩:=(show At.rel σ (.ptr n off) _ from hx)
    obtain⟨b',t',cs,h3,h4,h5,h6⟩:=h.sat.holds n _ hH;rw[h1] at h3;obtain rfl:b=b':=by simpa using h3
    subst h0;have hvs:(a.eval y).cells.toList.length=vs.length:=r.1.symm;have hcl:cs.size=l.length:=by rw[<-Zal,h6,Zu]
    have hrun:=Ybv (w:=w) (P:=C.P) (v:=a.eval y) (t':=t') (t:=t) (off:=0) hi (by rw[<-Zal,hvs,hl]) h5 (.inl rfl) (by rw[hvs,hcl,hll];omega) (Ymt h.ok h.sat r hok);refine YcU (w':=w.setRow b (YC cs.toList 0 (a.eval y).cells.toList).toArray) (by simp[execOp,ho,h2,hrun]) ⟨_,_,_,_,_,YbQ h.ok h hn (.box vs) o.dst (by simp) rfl rfl rfl (fun k hk=>setRow_other w b k _ fun e=>hk ((h4 k).2 e)) ?_ (fun m hm=>?_) (fun _ e=>Ro.box e) (fun ho=>by simp[Yn,ZW hn] at ho),he⟩
    .refine⟨b,t',_,h1,h4,setRow_heap w b cs _ t' _ h5,?_⟩
     have:YC cs.toList 0 (a.eval y).cells.toList=(a.eval y).cells.toList:=by
      unfold YC;rw[List.take_zero,ZS,Zbr (by rw[Zal,hvs,hcl,hll];omega),ZR]
     simpa [this] using r
    .obtain⟨c,hc,hm⟩:=ZK.1 hm;exact ny m (nn c hc m hm)
   rename_i k' z;split at he<;>try (exact he.elim)
   rename_i hcond;obtain⟨rfl,hsz⟩:=hcond;obtain⟨hlt,he⟩:=he;obtain⟨r,nn⟩:=Yah h.ok h.sat hcs hy;have hev:(a.eval y).cells.toList=[.int k' z]:=Yaz (cs:=[.int k' z]) rfl r;have hn:n<H.length:=(Zt.1 hH).1;obtain⟨b,h1,h2⟩:=(show At.rel σ (.ptr n off) _ from hx)
   obtain⟨b',t',cs,h3,h4,h5,h6⟩:=h.sat.holds n _ hH;rw[h1] at h3;obtain rfl:b=b':=by simpa using h3
   have hcl:cs.size=l.length:=by rw[<-Zal,h6,Zu]
   have hrun:=Ybv (w:=w) (P:=C.P) (v:=a.eval y) (t':=t') (t:=t) hi (by rw[<-Zal,hev,hsz];rfl) h5 (.inl rfl) (by rw[hev,hcl];exact hlt) (by rw[hev];intro u hu;rw[ZL.1 hu];rfl);refine YcU (w':=w.setRow b (YC cs.toList off (a.eval y).cells.toList).toArray) (by simp[execOp,ho,h2,hrun]) ⟨_,_,_,_,_,YbQ h.ok h hn (.arr k' (l.set off z)) o.dst (by simp) rfl rfl rfl (fun k hk=>setRow_other w b k _ fun e=>hk ((h4 k).2 e)) ?_ (fun m hm=>by simp[Ta.names] at hm) (fun _ e=>Ro.arr e) (fun ho=>by simp[Yn,ZW hn] at ho),he⟩;refine⟨b,t',_,h1,h4,setRow_heap w b cs _ t' _ h5,?_⟩;rw[hev,h6];show YC (l.map (Zm k')) off [.int k' z]=_;apply ZaI;intro j;rw[YaA (by rw[Zu];exact hlt),Zv,Zv,Zbk]
   by_cases c:off=j
   .subst c;rw[Zj (by simp),Zj rfl,Zj hlt];simp
   .rw[Zf (by simp;omega),Zf c]
  rename_i cells hH;split at he<;>try (exact he.elim)
  rename_i hcond;obtain⟨hl,hle,hok⟩:=hcond;obtain⟨r,nn⟩:=Yah h.ok h.sat hcs hy;have hn:n<H.length:=(Zt.1 hH).1;obtain⟨b,h1,h2⟩:=(show At.rel σ (.ptr n off) _ from hx)
  obtain⟨b',t',cs,h3,h4,h5,h6⟩:=h.sat.holds n _ hH;rw[h1] at h3;obtain rfl:b=b':=by simpa using h3
  have hvs:(a.eval y).cells.toList.length=vs.length:=r.1.symm;have hcl:cells.length=cs.size:=by rw[h6.1];simp
  have hrun:=Ybv (w:=w) (P:=C.P) (v:=a.eval y) (t':=t') hi (by rw[<-Zal,hvs,hl]) h5 (.inl rfl) (by rw[hvs,<-hcl];exact hle) (Ymt h.ok h.sat r hok);refine YcU (w':=w.setRow b (YC cs.toList off (a.eval y).cells.toList).toArray) (by simp[execOp,ho,h2,hrun]) ⟨_,_,_,_,_,YbQ h.ok h hn (.box (YC cells off vs)) o.dst (by simp) rfl rfl rfl (fun k hk=>setRow_other w b k _ fun e=>hk ((h4 k).2 e)) ?_ (fun m hm=>?_) (fun _ e=>Ro.box e) (fun ho=>?_),he⟩
  .refine⟨b,t',_,h1,h4,setRow_heap w b cs _ t' _ h5,?_⟩
   simpa using Yeo h6 r off
  .obtain⟨c,hc,hm⟩:=ZK.1 hm;simp only[YC,Zx] at hc;rcases hc with hc|hc|hc
   .exact h.sat.cl n _ hH m (ZK.2 ⟨c,Zac hc,hm⟩)
   .exact ny m (nn c hc m hm)
   .exact h.sat.cl n _ hH m (ZK.2 ⟨c,Zaj hc,hm⟩)
  .simp[Yn,ZW hn] at ho
 .rename_i n j sz off vs i hcx hcs hi;rw[hcx] at hx;split at he<;>try (exact he.elim)
  rename_i e l us hH hus;split at he<;>try (exact he.elim)
  rename_i hcond;obtain⟨hsz,hl,hle,hok⟩:=hcond;split at he<;>try (exact he.elim)
  rename_i z hz;subst hsz;obtain⟨r,nn⟩:=Yah h.ok h.sat hcs hy;have hev:(a.eval y).cells.toList=us:=Yaz hus r;have hn:n<H.length:=(Zt.1 hH).1;obtain⟨b,o',len,cap,h1,h2,h3⟩:=(show At.rel σ (.eptr n j (C.sz e) off) _ from hx)
  obtain⟨⟨q1,q2⟩,q3⟩:=h.sat.holds n _ hH;rcases q2 with ⟨q2,_⟩|⟨g,cp,cur,fz,q2,hg,hfz,hnc,hcm,hcs',htk⟩
  .rw[h1] at q2;cases q2
  .rw[h1] at q2
   obtain⟨rfl,rfl,rfl,rfl⟩:b=g/\o'=0/\len=l.length/\cap=cp:=by
    injection q2 with e1 e2 e3
    injection e1 with e1
    injection e1 with e4 e5
    exact⟨e4,e5,e2,e3⟩
   have hus_len:us.length=vs.length:=by rw[<-hev];exact r.1.symm
   have hjl:j*C.sz e+C.sz e<=l.length*C.sz e:=by rw[<-ZbA];exact Zbi _ h2
   have hlc:l.length*C.sz e<=cap*C.sz e:=Zbi _ hnc;have hrun:=Ybv (w:=w) (P:=C.P) (v:=a.eval y) (b:=b) (off:=0+j*C.sz e+off) (t':=C.tid e) hi (by rw[<-Zal,hev,hus_len,hl]) hg hfz (by rw[hev,hus_len,hcs'];omega) (Ymt h.ok h.sat r hok);rw[hev,ZaM] at hrun;rw[ZaM] at h3;have hblk:∀ k,¬ φ n k->k≠b:=fun k hk e=>hk ((q3 k).2 (by rw[h1,e];rfl))
   have hez:C.enc e z=YC (C.enc e (l.getD j (C.dft e))) off us:=h.ok.dcd e _ _ hz;refine YcU (w':=w.setRow b (YC cur.toList (j*C.sz e+off) us).toArray) (by simp[execOp,ho,h3,hrun]) ⟨_,_,_,_,_,YbQ h.ok h hn (.row true e (l.set j z)) o.dst (by simp) rfl rfl rfl (fun k hk=>setRow_other w b k _ (hblk k hk)) ?_ (fun m hm=>by simp[Ta.names] at hm) (fun _ e=>Ro.own e) (fun _=>by simp[Yn,hH]),he⟩
   have hsz2:(YC cur.toList (j*C.sz e+off) us).toArray.size=cur.size:=by
    simp only[ZbJ];rw[Ybk (by simp;omega)];simp
   refine⟨⟨?_,.inr ⟨b,cap,_,fz,by rw[h1];simp,setRow_heap w b cur _ (C.tid e) _ hg,by rw[hsz2];exact hfz,by simpa using hnc,hcm,?_,?_⟩⟩,fun k=>by rw[q3 k]⟩
   .rw[YZ h.ok]
   .simp only[ZbJ];rw[Ybk (by simp;omega)]
    simpa using hcs'
   .rw[YoY h.ok h2,hez,Ygi (by rw[h.ok.len];omega) (by rw[h.ok.len,YZ h.ok];exact hjl) (fun k hk=>by rw[h.ok.len] at hk;exact Yer h.ok (Yy h2) hk),<-htk];simp only[ZaB];apply ZaI;intro k;rw[YaA (by rw[ZG];simp;omega),Zae,YaA (by simp;omega)]
    by_cases c:j*C.sz e+off<=k/\k<j*C.sz e+off+us.length
    .rw[Zj c,Zj (by omega),Zj c]
    .rw[Zf c,Zf c,Zae]

theorem YcW (hC:C.OK)(h:Pre C T H σ φ a w)(e:C.EC)(l:List (C.α e))(cur:Array Value)(cap:Nat)(dst:Option Nat)(hcap:l.length<=cap)(hmax:cap<=maxLen)(hsz:cur.size=cap*C.sz e)(htk:cur.toList.take (l.length*C.sz e)=flat C e l) :
  EOut C H σ φ a w [] (setT T dst (.one (.at (.slc H.length)))) (H++[.row true e l]) (fun k=>if k=H.length then .slice (some ⟨w.heap.size,0,none⟩) l.length cap else σ k) (fun k=>if k=H.length then (fun b=>b=w.heap.size) else φ k)
   (a.put dst (.slice (some ⟨w.heap.size,0,none⟩) l.length cap)) (w.alloc (.cells cur (C.tid e))) :=
 YbP hC h (Th.refl h.sat) (.row true e l) (.slice (some ⟨w.heap.size,0,none⟩) l.length cap) (.slc H.length) (.cells cur (C.tid e)) dst
  (fun σ' _=>⟨⟨YZ hC e l,.inr ⟨w.heap.size,cap,cur,(0,0),rfl,heap_alloc_new w _,.inl rfl,hcap,hmax,hsz,htk⟩⟩,fun k=>by simp[Value.ownBlock,eq_comm]⟩)
  (fun m hm=>by simp[Ta.names] at hm) (fun _ e=>(Ro.own e).elim) (fun σ' hs=>hs.symm) (fun m hm=>by simpa [At.names] using hm)

theorem YaW {e:C.EC}{i:TypeInfo}(hi:C.P.info? (C.tid e)=some i):Yd C e=i.bytes:=by simp[Yd,hi]

theorem YiV {t:TypeId}{l c:Operand}(h:Pre C T H σ φ a w)(ho:o.op = .makeSlice t l c)(he:effS C Γ trunc T H o K):o.wp C.P a w (YbF C H σ φ a w K) Q:=by
 have hl:=h.rel l;have hc:=h.rel c;simp only[effS,ho] at he;split at he<;>try (exact he.elim)
 rename_i e k1 n k2 m hec hcl hcc;rw[hcl] at hl;rw[hcc] at hc;obtain⟨h0,h1,h2,hK⟩:=he;have el:a.eval l = .int k1 n:=hl;have ec:a.eval c = .int k2 m:=hc;obtain⟨i,z,hi,hz,hsz,hzc,hbp⟩:=h.ok.info e;rw[YaW hi] at h2
 have hmb:m<=140737488355328:=by
  have:m*1<=m*(i.bytes:Int):=Int.mul_le_mul_of_nonneg_left (by omega) (by omega);omega
 have hrun:=run_make (P:=C.P) w t (C.tid e) i z (Yq h.ok hec) hi hz k1 k2 n m h0 h1 (by rw[Zcu];omega) (by omega);have hcap:(List.replicate n.toNat (C.dft e)).length<=m.toNat:=by simp;omega
 have hE:=YcW h.ok h e (List.replicate n.toNat (C.dft e)) (madeCells z.cells (m.toNat*i.size)) m.toNat o.dst hcap (by unfold maxLen;omega) (by rw[size_madeCells,hsz]) (by
  rw[hsz,Yes h.ok hzc];have:(List.replicate n.toNat (C.dft e))=(List.replicate m.toNat (C.dft e)).take n.toNat:=by rw[List.take_replicate];congr 1;omega
  rw[Zan,this];have hfl:=YZ h.ok e (List.replicate m.toNat (C.dft e))
  conv=>rhs;rw[flat]
  have hsplit:List.replicate m.toNat (C.dft e)=(List.replicate m.toNat (C.dft e)).take n.toNat++(List.replicate m.toNat (C.dft e)).drop n.toNat:=(Zaw _ _).symm
  conv=>lhs;rw[hsplit,flat,Zbn]
  apply ZbT;have:=YZ h.ok e ((List.replicate m.toNat (C.dft e)).take n.toNat);rw[flat] at this;rw[this,ZG,Zan,Nat.min_eq_left (by omega)])
 rw[Zan] at hE;exact YF (by simp[execOp,ho,el,ec,hrun]) ⟨_,_,_,_,_,hE,hK⟩

theorem YfD (place:Nat->Option (Nat × Nat)):∀ (parts:List (Nat × SV)) {z cells:List At},Yco C H place z parts=some cells->cells.length=z.length:=by
 intro parts
 induction parts with
 | nil=>intro z cells h;simp[Yco] at h;rw[h]
 | cons p parts ih =>
  obtain⟨i,x⟩:=p;intro z cells h;simp only[Yco] at h;split at h<;>try (cases h;done)
  split at h<;>try (cases h;done)
  rename_i hc;rw[ih h,Ybk hc.2]

theorem Ygj (hC:C.OK):∀ (cells:List At) {φ:Nat->Nat->Prop} {H:LH C},Sat C σ φ w H->∃ φ',Th C σ φ H σ φ' (Ydx cells H) w:=by
 intro cells
 induction cells with
 | nil=>intro φ H h;exact⟨φ,Th.refl h⟩
 | cons x r ih =>
  intro φ H h;unfold Ydx;split
  .rename_i m;split
   .rename_i e l hH;have g:=YbM hC h hH;obtain⟨φ2,g2⟩:=ih g.sat;exact⟨φ2,g.trans g2⟩
   .exact ih h
  .exact ih h
theorem YrV (hC:C.OK)(e:C.EC):Imm C w (.slice none 0 0) e [] :=
 Holds.rd (own:=true) (l:=([]:List (C.α e))) (f:=fun _=>False) (σ:=fun _=>undef) hC ⟨ownR.nil _ _ _,fun k=>by simp[Value.ownBlock]⟩
theorem Yfs (hC:C.OK){e0:C.EC}(h:Sat C σ φ w H):∀ (cells:List At) {ll:List (List (C.α e0))} {vs:List Value},Yar C e0 H cells=some ll->Rels (At.rel σ) cells vs →
  Rels (fun l u=>Imm C w u e0 l/\∀ b,0<l.length->u.ownBlock=some b->∀ m,¬ φ m b) ll vs:=by
 intro cells
 induction cells with
 | nil =>
  intro ll vs hc hr;simp[Yar] at hc;subst hc;exact⟨hr.1,fun i a b ha=>by simp at ha⟩
 | cons x r ih =>
  intro ll vs hc hr
  match vs,hr with
  | [],hr=>exact absurd hr.1 (by simp)
  | v::vs,hr =>
   have hrc:At.rel σ x v:=hr.2 0 _ _ rfl rfl;have hrt:Rels (At.rel σ) r vs:=⟨by simpa using hr.1,fun i x y hx hy=>hr.2 (i+1) x y (by simpa using hx) (by simpa using hy)⟩
   cases x with
   | val v0 =>
    have hv:v=v0:=hrc;simp only[Yar] at hc;split at hc<;>first|(cases hc;done)|(rename_i hq;cases hq;done)|skip
    rename_i heq;simp only[At.val.injEq] at heq;simp only[ZA] at hc;obtain⟨q,h1,rfl⟩:=hc;rw[hv,heq];exact Rels.cons ⟨YrV hC e0,fun b hb=>by simp at hb⟩ (ih h1 hrt)
   | «any»=>simp[Yar] at hc
   | ptr n k=>simp[Yar] at hc
   | eptr n i sz k=>simp[Yar] at hc
   | fn f cs=>simp[Yar] at hc
   | slc m =>
    have hv:v=σ m:=hrc;simp only[Yar] at hc;split at hc<;>try (cases hc;done)
    rename_i e l hH;split at hc<;>try (cases hc;done)
    rename_i hee _;subst hee;simp only[ZA] at hc;obtain⟨q,h1,rfl⟩:=hc;rw[hv];exact Rels.cons ⟨(h.holds m _ hH).1,fun b hp hb=>h.immr m _ l hH hp b hb⟩ (ih h1 hrt)

theorem YfE (hC:C.OK)(h:Pre C T H σ φ a w){m:Nat}(ho:Yn H m=true){cm cN:Ta C}(hmn:cm.names=[])(hNn:cN.names=[]){w':World}{v:Value}{fm fN:Nat->Prop}(dst:Option Nat)(hsz:w.heap.size<=w'.heap.size)(hos:w'.os=w.os)(htp:w'.tape=w.tape)(hop:w'.output=w.output)(hfr:∀ k,k<w.heap.size->w'.heap[k]?=w.heap[k]?)(hm:∀ σ',Holds w' σ' (σ m) fm cm)(hN:∀ σ',Holds w' σ' v fN cN)(hsub:∀ b,fm b->φ m b)(hsubN:∀ b,fN b->φ m b∨w.heap.size<=b)(hltN:∀ b,fN b->b<w'.heap.size)(hdis:∀ b,fm b->¬ fN b)(rm:∀ b,¬ Ro w' (σ m) b cm)(rN:∀ b,¬ Ro w' v b cN) :
  EOut C H σ φ a w [m] (setT T dst (.one (.at (.slc H.length)))) (H.set m cm++[cN]) (fun k=>if k=H.length then v else σ k) (fun k=>if k=H.length then fN else if k=m then fm else φ k) (a.put dst v) w':=by
 have hml:m<H.length:=by
  unfold Yn at ho;split at ho
  .exact (Zt.1 ‹_›).1
  .exact (Zt.1 ‹_›).1
  .exact (Zt.1 ‹_›).1
  .cases ho
 have hag:∀ k,k<H.length->(if k=H.length then v else σ k)=σ k:=fun k hk=>Zf (by omega)
 have hlen:(H.set m cm++[cN]).length=H.length+1:=by simp
 have hnew:(H.set m cm++[cN])[H.length]?=some cN:=by
  rw[ZU (by simp)];simp
 have hgm:(H.set m cm++[cN])[m]?=some cm:=by
  rw[ZB (by simpa using hml),ZW hml]
 have hrow:∀ k,k≠m->k≠H.length->(H.set m cm++[cN])[k]?=H[k]?:=fun k h1 h2=>by
  rcases Zad k H.length with hk|hk
  .rw[ZB (by simpa using hk),Zam (Zbu h1)]
  .rw[ZV (by rw[hlen];omega),ZV hk]
 have hle:∀ k b,(if k=H.length then fN else if k=m then fm else φ k) b->φ k b∨φ m b∨w.heap.size<=b:=fun k b hb=>by
  split at hb
  .exact .inr (hsubN b hb)
  .split at hb
   .rename_i e;subst e;exact .inl (hsub b hb)
   .exact .inl hb
 refine⟨YcB (s:=.one (.at (.slc H.length))) (Yet h.tm h.tcl hag) (show v=_ by simp) dst,fun x hx k hk=>?_,?_,⟨hos,htp,hop,hsz,fun k hk _=>hfr k hk,fun k b hb=>?_⟩,by rw[hlen];omega,YaB _ _,fun k hk _=>hag k hk,fun k hk hok=>?_,fun k hk hkm=>?_,fun k hk _=>hag k hk⟩
 .rw[hlen];rcases Ybu hx with hx|rfl
  .have:=h.tcl x hx k hk;omega
  .simp[SV.names,TV.names,At.names] at hk;omega
 .refine h.sat.step hC (fun k=>k=m∨k=H.length) hsz (fun k hk _=>hfr k hk) (fun k hk=>?_) (fun k c hk hc' j hj=>?_) (fun k c hk hc'=>?_) (fun k b hk hb=>?_) (fun k j b hk hj hb hb'=>?_) (fun k b hk hb=>?_)
   (fun k c hk hc' b hb j hj=>?_) (fun k hk b hb=>?_) (by rw[hlen];omega) (fun k c hk hc' j hj=>?_)
  .have h1:k≠m:=fun e=>hk (.inl e)
   have h2:k≠H.length:=fun e=>hk (.inr e)
   exact⟨hrow k h1 h2,Zf h2,fun b=>by rw[Zf h2,Zf h1]⟩
  .exact Zf (by have:=h.sat.cl k c hc' j hj;omega)
  .rcases hk with rfl|rfl
   .rw[hgm] at hc';simp only[Zl] at hc';subst hc';rw[Zf (by omega),Zf (by omega),Zj rfl];exact hm _
   .rw[hnew] at hc';simp only[Zl] at hc';subst hc';rw[Zj rfl,Zj rfl];exact hN _
  .rcases hle k b hb with h1|h1|h1
   .rcases hk with rfl|rfl
    .exact .inl ⟨k,.inl rfl,h1⟩
    .exact absurd h1 (h.sat.out _ (Zw _) b)
   .exact .inl ⟨m,.inl rfl,h1⟩
   .exact .inr h1
  .have hne:m≠H.length:=by omega
   rcases hk with rfl|rfl<;>rcases hj with rfl|rfl
   .rfl
   .rw[Zf hne,Zj rfl] at hb;rw[Zj rfl] at hb';exact absurd hb' (hdis b hb)
   .rw[Zf hne,Zj rfl] at hb';rw[Zj rfl] at hb;exact absurd hb (hdis b hb')
   .rfl
  .have hne:m≠H.length:=by omega
   rcases hk with rfl|rfl
   .rw[Zf hne,Zj rfl] at hb;exact ZN (h.sat.bd _ b (hsub b hb)) hsz
   .rw[Zj rfl] at hb;exact hltN b hb
  .have hne:m≠H.length:=by omega
   rcases hk with rfl|rfl
   .rw[hgm] at hc';simp only[Zl] at hc';subst hc';rw[Zf hne] at hb;exact rm b hb
   .rw[hnew] at hc';simp only[Zl] at hc';subst hc';rw[Zj rfl] at hb;exact rN b hb
  .rw[hlen] at hk;rw[Zf (by omega),Zf (by omega)] at hb;exact h.sat.out k (by omega) b hb
  .rcases hk with rfl|rfl
   .rw[hgm] at hc';simp only[Zl] at hc';subst hc';rw[hmn] at hj;cases hj
   .rw[hnew] at hc';simp only[Zl] at hc';subst hc';rw[hNn] at hj;cases hj
 .rcases hle k b hb with h1|h1|h1
  .exact .inl ⟨k,h1⟩
  .exact .inl ⟨m,h1⟩
  .exact .inr h1
 .by_cases e:k=m
  .subst e;exact ho
  .rw[Yn,hrow k e (by omega)] at hok;exact hok
 .have e:k≠m:=fun e=>hkm (by simp[e])
  refine⟨fun b=>?_,fun b _ hlt=>hfr b hlt⟩;unfold Rdb;rw[hrow k e (by omega)];simp only[Zf (show ¬ k=H.length by omega)]

theorem Ypb {e:C.EC}{l:List (C.α e)}{v:Value}(h:ownR w (C.tid e) (C.sz e) v l.length (flat C e l)):v.oneCell'=true:=by
 rcases h.2 with ⟨rfl,_⟩|⟨g,cap,cur,fz,rfl,_⟩<;>rfl

theorem YhH {t:TypeId}{n:Nat}{parts:Array (Nat × Operand)}(h:Pre C T H σ φ a w)(ho:o.op = .buildSlice t n parts)(he:effS C Γ trunc T H o K):o.wp C.P a w (YbF C H σ φ a w K) Q:=by
 simp only[effS,ho] at he;split at he<;>try (exact he.elim)
 rename_i e hec;split at he
 .rename_i e0 hl;split at he
  .split at he<;>try (exact he.elim)
   rename_i x hparts;split at he<;>try (exact he.elim)
   rename_i m hcx;split at he<;>try (exact he.elim)
   rename_i e1 l hH;split at he<;>try (exact he.elim)
   rename_i q _;subst q;have hx:=h.rel x;rw[hcx] at hx;have ex:a.eval x=σ m:=hx;obtain⟨i,z,hi,hz,hsz,hzc,hbp⟩:=h.ok.info e;have hs1:=h.ok.lst _ _ hl;have hs2:i.size=1:=hsz.trans hs1;obtain⟨q1,q3⟩:=h.sat.holds m _ hH;have hone:=Ypb q1;have hzs:z.cells.size=1:=by rw[<-Zal,hzc,h.ok.len,hs1]
   have hrun:(Instr.buildSlice t 1 (parts.map fun p=>(p.1,a.eval p.2))).run C.P w = .ok (.slice (some ⟨w.heap.size,0,none⟩) 1 1) (w.alloc (.cells #[σ m] (C.tid e))):=by
    obtain⟨c0,hc0⟩:∃ c0,z.cells=#[c0]:=Array.size_eq_one_iff.1 hzs
    have hvc:(σ m).cells=#[σ m]:=by
     rcases q1.2 with ⟨e0,_⟩|⟨g,cap,cur,fz,e0,_⟩<;>(rw[e0];rfl)
    have hzr:(zeroValue (C.tid e)).run C.P w = .ok z w:=by simp[zeroValue,typeInfo,hi,hz]
    simp[Instr.buildSlice,run_underlying (Yq h.ok hec),Yv hi,hs2,hzr,hparts,ex,Instr.fill,hvc,hc0,newRow,show Array.range 1=#[0] from rfl]
   have hown:(w.alloc (.cells #[σ m] (C.tid e))).ownsRow 0 (C.tid e) 1 (.slice (some ⟨w.heap.size,0,none⟩) 1 1) 1 [σ m] :=
    ⟨rfl,.inr ⟨w.heap.size,1,#[σ m],rfl,ZC _,heap_alloc_new w _,Zw _,by unfold maxLen;omega,rfl,rfl⟩⟩
   refine YF (by simp[execOp,ho,hrun]) ⟨_,_,_,_,_,YfE h.ok h (m:=m) (by simp[Yn,hH]) (cm:=.gone) (cN:=.orows e e1 0 [l]) rfl rfl (w':=w.alloc (.cells #[σ m] (C.tid e))) (v:=.slice (some ⟨w.heap.size,0,none⟩) 1 1) (fm:=fun _=>False) (fN:=fun b=>b=w.heap.size∨(σ m).ownBlock=some b) o.dst
    (by simp) rfl rfl rfl (fun k hk=>heap_alloc_old w _ hk) (fun _=>trivial) (fun _=>⟨hs1,[],[σ m],rfl,hown,⟨⟨rfl,fun j l' u hj hu=>?_⟩,List.pairwise_singleton _ _⟩,fun u hu=>?_,fun b hb=>?_,fun b=>?_⟩) (fun _ h=>h.elim) (fun b hb=>?_) (fun b hb=>?_) (fun _ h=>h.elim) (fun b hb=>hb) (fun b hb=>hb),he⟩
   .rcases j with _|j
    .simp only[List.getElem?_cons_zero,Zl] at hj hu;subst hj hu;exact q1.keep fun b hb=>heap_alloc_old w _ (h.sat.bd m b ((q3 b).2 hb))
    .simp at hj
   .simp at hu;subst hu;exact hone
   .obtain⟨u,hu,hb⟩:=hb;simp at hu;subst hu;have:=h.sat.bd m b ((q3 b).2 hb);simp[Value.ownBlock];omega
   .simp[Value.ownBlock,BlkL,eq_comm]
   .rcases hb with rfl|hb
    .exact .inr (Zw _)
    .exact .inl ((q3 b).2 hb)
   .rcases hb with rfl|hb
    .simp
    .have:=h.sat.bd m b ((q3 b).2 hb);simp;omega
  split at he<;>try (exact he.elim)
  rename_i cells hb;split at hb<;>try (cases hb;done)
  rename_i hsmall;split at he<;>try (exact he.elim)
  rename_i ll hll;obtain⟨i,z,hi,hz,hsz,hzc,hbp⟩:=h.ok.info e;obtain⟨e1,e2⟩:=Yeq h parts.toList;have hs1:=h.ok.lst _ _ hl;have hmc:=Yes h.ok hzc n
  obtain⟨cs',g1,g2,g3⟩:=Ydy (fun k=>some (k*C.sz e,C.sz e)) h.ok h.sat _ _ _ (madeCells z.cells (n*C.sz e)) e1 e2 (by rw[hmc];exact Ybj _) hb (fun p hp m hm=>by
   obtain⟨q,_,rfl⟩:=ZF.1 hp;exact h.nm q.2 m hm) (fun c hc m hm=>by
   obtain⟨u,_,rfl⟩:=ZF.1 hc;simp[At.names] at hm)
  have hlen:cs'.toList.length=n*C.sz e:=by rw[<-g2.1,YfD _ _ hb,Zu,YZ h.ok,Zan]
  obtain⟨φ1,gf⟩:=Ygj h.ok cells h.sat;have hR:=Yfs h.ok gf.sat cells hll g2;have hn1:n*C.sz e=n:=by rw[hs1,Zci]
  have hn:ll.length=n:=by rw[hR.1,hlen,hn1]
  have hrun:(Instr.buildSlice t n (parts.map fun p=>(p.1,a.eval p.2))).run C.P w = .ok (.slice (some ⟨w.heap.size,0,none⟩) n n) (w.alloc (.cells cs' (C.tid e))):=by
   have hf:Instr.fill (fun k=>some (k*C.sz e,C.sz e)) (madeCells z.cells (n*C.sz e)) (parts.map fun p=>(p.1,a.eval p.2)).toList=some cs':=by simpa using g1
   have hns:¬ 16777216<n*i.size:=by rw[hsz];omega
   by_cases h0:n*i.size=0
   .have h0':n*C.sz e=0:=by rw[<-hsz];exact h0
    rw[h0'] at hf;have hm0:madeCells z.cells 0=#[]:=by simp[madeCells,Zch]
    rw[hm0,<-hsz] at hf;simp[Instr.buildSlice,run_underlying (Yq h.ok hec),Yv hi,h0,Zch,newRow];simp at hf;rw[hf];simp
   .have hzr:(zeroValue (C.tid e)).run C.P w = .ok z w:=by simp[zeroValue,typeInfo,hi,hz]
    rw[<-hsz] at hf;simp[Instr.buildSlice,run_underlying (Yq h.ok hec),Yv hi,h0,hns,hzr,newRow];unfold madeCells at hf;simp at hf;rw[hf];simp
  have hown:(w.alloc (.cells cs' (C.tid e))).ownsRow 0 (C.tid e) 1 (.slice (some ⟨w.heap.size,0,none⟩) n n) ll.length cs'.toList :=
   ⟨by rw[hlen,hn,hs1],.inr ⟨w.heap.size,n,cs',by rw[hn],ZC _,heap_alloc_new w _,by omega,by unfold maxLen;omega,by rw[<-Zal,hlen,hs1],by rw[Zay (by omega)]⟩⟩
  refine YF (by simp[execOp,ho,hrun]) ⟨_,_,_,_,_,YbP h.ok h gf (.rows e e0 ll) (.slice (some ⟨w.heap.size,0,none⟩) n n) (.slc _) (.cells cs' (C.tid e)) o.dst
   (fun σ' _=>⟨hs1,⟨cs'.toList,hown,hR.mono fun l u _ hu=>hu.1.keep (by simp) fun _ b _ hb=>heap_alloc_old w _ hb⟩,fun k=>by simp[Value.ownBlock,eq_comm]⟩)
   (fun m hm=>by simp[Ta.names] at hm) (fun b hb=>?_) (fun σ' hs=>hs.symm) (fun m hm=>by simpa [At.names] using hm),he⟩
  obtain⟨vs,ho',i',u,l,h1,h2,h3,h4⟩:=hb;obtain rfl:=Yct ho' hown;obtain⟨hi1,hi2⟩:=hR.2 i' l u h2 h1;have:=hi1.lt h3 h4;exact⟨hi2 b h3 h4,by omega⟩
 split at he<;>try (exact he.elim)
 rename_i cells hb;split at hb<;>try (cases hb;done)
 rename_i hsmall;split at he<;>try (exact he.elim)
 rename_i vs hvs;split at he<;>try (exact he.elim)
 rename_i xs hxs;obtain⟨i,z,hi,hz,hsz,hzc,hbp⟩:=h.ok.info e;obtain⟨e1,e2⟩:=Yeq h parts.toList;have hmc:=Yes h.ok hzc n
 obtain⟨cs',g1,g2,g3⟩:=Ydy (fun k=>some (k*C.sz e,C.sz e)) h.ok h.sat _ _ _ (madeCells z.cells (n*C.sz e)) e1 e2 (by rw[hmc];exact Ybj _) hb (fun p hp m hm=>by
  obtain⟨q,_,rfl⟩:=ZF.1 hp;exact h.nm q.2 m hm) (fun c hc m hm=>by
  obtain⟨u,_,rfl⟩:=ZF.1 hc;simp[At.names] at hm)
 have hcs:cs'.toList=vs:=Yaz hvs g2;have hlen:cs'.toList.length=n*C.sz e:=by rw[<-g2.1,YfD _ _ hb,Zu,YZ h.ok,Zan]
 obtain⟨f1,f2⟩:=Yln h.ok n vs hxs (by rw[<-hcs];exact hlen);subst f2;have hp:=h.ok.pos e
 have hE:=YcW h.ok h e xs cs' xs.length o.dst (Zw _) (by
  have:xs.length*1<=xs.length*C.sz e:=Nat.mul_le_mul_left _ hp;unfold maxLen;omega) (by rw[<-Zal,hlen]) (by rw[f1,<-hcs,Zay (by omega)])
 refine YF ?_ ⟨_,_,_,_,_,hE,he⟩
 have hrun:(Instr.buildSlice t xs.length (parts.map fun p=>(p.1,a.eval p.2))).run C.P w = .ok (.slice (some ⟨w.heap.size,0,none⟩) xs.length xs.length) (w.alloc (.cells cs' (C.tid e))):=by
  have hf:Instr.fill (fun k=>some (k*C.sz e,C.sz e)) (madeCells z.cells (xs.length*C.sz e)) (parts.map fun p=>(p.1,a.eval p.2)).toList=some cs':=by simpa using g1
  have hns:¬ 16777216<xs.length*i.size:=by rw[hsz];omega
  by_cases h0:xs.length*i.size=0
  .have h0':xs.length*C.sz e=0:=by rw[<-hsz];exact h0
   rw[h0'] at hf;have hm0:madeCells z.cells 0=#[]:=by simp[madeCells,Zch]
   rw[hm0,<-hsz] at hf;simp[Instr.buildSlice,run_underlying (Yq h.ok hec),Yv hi,h0,Zch,newRow];simp at hf;rw[hf];simp
  .have hzr:(zeroValue (C.tid e)).run C.P w = .ok z w:=by simp[zeroValue,typeInfo,hi,hz]
   rw[<-hsz] at hf;simp[Instr.buildSlice,run_underlying (Yq h.ok hec),Yv hi,h0,hns,hzr,newRow];unfold madeCells at hf;simp at hf;rw[hf];simp
 simp[execOp,ho,hrun]
end
end
section
section
variable {C:Ctx}
variable {T:List SV} {H:LH C} {o:Oper} {σ:Nat->Value} {φ:Nat->Nat->Prop} {a:Act} {w:World} {ps:List Prop} {s:SV} {H':LH C}
variable {K:EK C} {Γ:List (FuncId × Tfm C)} {trunc:Nat->Bool} {Q:Exit->Act->World->Prop}

theorem YiW (hC:C.OK)(h:Pre C T H σ φ a w){σ1:Nat->Value}{φ1:Nat->Nat->Prop}{H1:LH C}(g:Th C σ φ H σ1 φ1 H1 w){n:Nat}(hno':Yn H1 n=true){c':Ta C}(hcn:c'.names=[]){w':World}{v':Value}{f':Nat->Prop}(dst:Option Nat)(hsz:w.heap.size<=w'.heap.size)(hos:w'.os=w.os)(htp:w'.tape=w.tape)(hop:w'.output=w.output)(hfr:∀ k,k<w.heap.size->¬ φ1 n k->w'.heap[k]?=w.heap[k]?)(hc:∀ σ',Holds w' σ' v' f' c')(hlt':∀ b,f' b->b<w'.heap.size)(himm':∀ b,Ro w' v' b c'->(∀ m,¬ φ1 m b)/\¬ f' b)(hgr:∀ b,f' b->φ1 n b∨w.heap.size<=b) :
  EOut C H σ φ a w [n] (setT (T.map (SV.kill n)) dst (.one (.at (.slc n)))) ((H1.map (Ta.kill n)).set n c') (fun k=>if k=n then v' else σ1 k) (fun k=>if k=n then f' else φ1 k) (a.put dst v') w':=by
 have hn:n<H1.length:=by
  unfold Yn at hno';split at hno'
  .exact (Zt.1 ‹_›).1
  .exact (Zt.1 ‹_›).1
  .exact (Zt.1 ‹_›).1
  .cases hno'
 have hnk:n<(H1.map (Ta.kill n)).length:=by simpa using hn
 have hag:∀ k,k<H.length->k≠n->(if k=n then v' else σ1 k)=σ k:=fun k hk hne=>by rw[Zf hne];exact g.agree k hk
 have hrow:∀ k,k≠n->((H1.map (Ta.kill n)).set n c')[k]?=(H1[k]?).map (Ta.kill n):=fun k hne=>by rw[Zam (Zbu hne),Zv]
 refine⟨YcB (s:=.one (.at (.slc n))) ?_ (by show v'=_;simp) dst,fun x hx m hm=>?_,?_,⟨hos,htp,hop,hsz,fun k hk hno=>hfr k hk fun hh=>hno n (g.sub n k hh),fun k b hb=>?_⟩,by have:=g.len;simp;omega,YaB _ _,fun k hk ho=>?_,fun k hk ho=>?_,fun k hk hkn=>?_,fun k hk hkn=>hag k hk (fun e'=>hkn (by simp[e']))⟩
 .have h0:Rels (SV.rel σ) (T.map (SV.kill n)) a.tmps.toList:=Ydz h.tm;refine h0.mono fun x v hx hr=>SV.rel_of hr fun m hm=>?_
  obtain⟨y,hy,rfl⟩:=ZF.1 hx;have:=SV.kill_names m hm;exact hag m (h.tcl y hy m this.1) this.2
 .have:=g.len;rcases Ybu hx with hx|rfl
  .obtain⟨y,hy,rfl⟩:=ZF.1 hx;have:=h.tcl y hy m (SV.kill_names m hm).1;simp;omega
  .simp[SV.names,TV.names,At.names] at hm;subst hm
   simpa using hn
 .refine (g.sat.kill n).step hC (fun k=>k=n) hsz (fun k hk hno=>hfr k hk (hno n rfl)) (fun k hk=>?_) (fun k c hk hc' m hm=>?_) (fun k c hk hc'=>?_) (fun k b hk hb=>?_) (fun k m b hk hm _ _=>hk.trans hm.symm) (fun k b hk hb=>?_)
   (fun k e' hk hc' b hb m hm=>?_) (fun k hk b hb=>?_) (by simp) (fun k c hk hc' m hm=>?_)
  .have hne:¬ k=n:=hk;exact⟨by rw[Zam (Zbu hne)],by simp[hne],fun b=>by simp[hne]⟩
  .rw[Zv] at hc';cases hl:H1[k]? with
   | none=>rw[hl] at hc';cases hc'
   | some d =>
    rw[hl] at hc';simp at hc';subst hc';simp[(Ta.kill_names m hm).2]
  .have hk':k=n:=hk;subst hk';rw[ZW hnk] at hc';simp only[Zl] at hc';subst hc';simp only[if_true];exact hc _
  .have hk':k=n:=hk;subst hk';simp only[if_true] at hb;rcases hgr b hb with h1|h1
   .exact .inl ⟨k,rfl,h1⟩
   .exact .inr h1
  .have hk':k=n:=hk;subst hk';simp only[if_true] at hb;exact hlt' b hb
  .have hk':k=n:=hk;subst hk';rw[ZW hnk] at hc';simp only[Zl] at hc';subst hc';simp only[if_true] at hb
   by_cases e1:m=k
   .subst e1;simp only[if_true] at hm;exact (himm' b hb).2 hm
   .simp only[Zf e1] at hm;exact (himm' b hb).1 m hm
  .rw[ZaB,Zu] at hk;rw[Zf (by omega)] at hb;exact g.sat.out k hk b hb
  .have hk':k=n:=hk;subst hk';rw[ZW hnk] at hc';simp only[Zl] at hc';subst hc';rw[hcn] at hm;cases hm
 .by_cases e':k=n
  .subst e';simp only[if_true] at hb;rcases hgr b hb with h1|h1
   .exact .inl ⟨k,g.sub k b h1⟩
   .exact .inr h1
  .simp only[Zf e'] at hb;exact .inl ⟨k,g.sub k b hb⟩
 .refine hag k hk fun e'=>?_
  subst e';have:=g.own k hk hno';rw[this] at ho;cases ho
 .by_cases e':k=n
  .subst e';exact g.own k hk hno'
  .refine g.own k hk ?_;rw[Yn,hrow k e'] at ho;have:=YdA (H:=H1) (n:=n) (k:=k);rw[Yn,Zv] at this;rw[<-this];exact ho
 .have hne:k≠n:=fun e'=>hkn (by simp[e'])
  refine⟨fun b=>?_,fun b hb hlt=>hfr b hlt fun hφ=>hne (YcV h.sat hb (g.sub n b hφ))⟩;rw[<-g.rdb k hk b];unfold Rdb;rw[hrow k hne];simp only[Zf hne];cases hl:H1[k]? with
  | none=>simp
  | some d=>cases d<;>simp[Ta.kill]

theorem YjY (hC:C.OK)(h:Pre C T H σ φ a w){σ1:Nat->Value}{φ1:Nat->Nat->Prop}{H1:LH C}(g:Th C σ φ H σ1 φ1 H1 w){n:Nat}(hno':Yn H1 n=true){m0:Nat}(hmo:Yn H1 m0=true)(hmn:m0≠n){c':Ta C}(hcn:c'.names=[]){w':World}{v':Value}{f':Nat->Prop}(dst:Option Nat)(hsz:w.heap.size<=w'.heap.size)(hos:w'.os=w.os)(htp:w'.tape=w.tape)(hop:w'.output=w.output)(hfr:∀ k,k<w.heap.size->¬ φ1 n k->w'.heap[k]?=w.heap[k]?)(hc:∀ σ',Holds w' σ' v' f' c')(hlt':∀ b,f' b->b<w'.heap.size)(himm':∀ b,Ro w' v' b c'->(∀ m,¬ φ1 m b)/\¬ f' b)(hgr:∀ b,f' b->φ1 n b∨φ1 m0 b∨w.heap.size<=b) :
  EOut C H σ φ a w [n,m0] (setT (T.map (SV.kill n)) dst (.one (.at (.slc n)))) (((H1.map (Ta.kill n)).set n c').set m0 .gone) (fun k=>if k=n then v' else σ1 k) (fun k=>if k=n then f' else if k=m0 then (fun _=>False) else φ1 k) (a.put dst v') w':=by
 have hlt:∀ {k:Nat},Yn H1 k=true->k<H1.length:=fun {k} hk=>by
  unfold Yn at hk;split at hk
  .exact (Zt.1 ‹_›).1
  .exact (Zt.1 ‹_›).1
  .exact (Zt.1 ‹_›).1
  .cases hk
 have hn:=hlt hno';have hml:=hlt hmo;have hnk:n<(H1.map (Ta.kill n)).length:=by simpa using hn
 have hag:∀ k,k<H.length->k≠n->(if k=n then v' else σ1 k)=σ k:=fun k hk hne=>by rw[Zf hne];exact g.agree k hk
 have hrow:∀ k,k≠n->k≠m0->(((H1.map (Ta.kill n)).set n c').set m0 .gone)[k]?=(H1[k]?).map (Ta.kill n):=fun k hne hne2=>by rw[Zam (Zbu hne2),Zam (Zbu hne),Zv]
 have hgn:(((H1.map (Ta.kill n)).set n c').set m0 .gone)[n]?=some c':=by rw[Zam hmn,ZW hnk]
 have hgm:(((H1.map (Ta.kill n)).set n c').set m0 .gone)[m0]?=some .gone:=ZW (by simpa using hml);have hlen:(((H1.map (Ta.kill n)).set n c').set m0 .gone).length=H1.length:=by simp
 have hle:∀ k b,(if k=n then f' else if k=m0 then (fun _=>False) else φ1 k) b->(∃ j,φ1 j b)∨w.heap.size<=b:=fun k b hb=>by
  split at hb
  .rcases hgr b hb with h1|h1|h1
   .exact .inl ⟨_,h1⟩
   .exact .inl ⟨_,h1⟩
   .exact .inr h1
  .split at hb
   .exact hb.elim
   .exact .inl ⟨_,hb⟩
 refine⟨YcB (s:=.one (.at (.slc n))) ?_ (by show v'=_;simp) dst,fun x hx m hm=>?_,?_,⟨hos,htp,hop,hsz,fun k hk hno=>hfr k hk fun hh=>hno n (g.sub n k hh),fun k b hb=>?_⟩,by rw[hlen];exact g.len,YaB _ _,fun k hk ho=>?_,fun k hk ho=>?_,fun k hk hkn=>?_,fun k hk hkn=>hag k hk (fun e'=>hkn (by simp[e']))⟩
 .have h0:Rels (SV.rel σ) (T.map (SV.kill n)) a.tmps.toList:=Ydz h.tm;refine h0.mono fun x v hx hr=>SV.rel_of hr fun m hm=>?_
  obtain⟨y,hy,rfl⟩:=ZF.1 hx;have:=SV.kill_names m hm;exact hag m (h.tcl y hy m this.1) this.2
 .have:=g.len;rw[hlen];rcases Ybu hx with hx|rfl
  .obtain⟨y,hy,rfl⟩:=ZF.1 hx;have:=h.tcl y hy m (SV.kill_names m hm).1;omega
  .simp[SV.names,TV.names,At.names] at hm;subst hm;exact hn
 .refine (g.sat.kill n).step hC (fun k=>k=n∨k=m0) hsz (fun k hk hno=>hfr k hk (hno n (.inl rfl))) (fun k hk=>?_) (fun k c hk hc' m hm=>?_) (fun k c hk hc'=>?_) (fun k b hk hb=>?_) (fun k m b hk hm hb hb'=>?_) (fun k b hk hb=>?_)
   (fun k e' hk hc' b hb m hm=>?_) (fun k hk b hb=>?_) (by simp) (fun k c hk hc' m hm=>?_)
  .have hne:¬ k=n:=fun e=>hk (.inl e)
   have hne2:¬ k=m0:=fun e=>hk (.inr e)
   exact⟨by rw[Zam (Zbu hne2),Zam (Zbu hne)],by simp[hne],fun b=>by simp[hne,hne2]⟩
  .rw[Zv] at hc';cases hl:H1[k]? with
   | none=>rw[hl] at hc';cases hc'
   | some d =>
    rw[hl] at hc';simp at hc';subst hc';simp[(Ta.kill_names m hm).2]
  .rcases hk with rfl|rfl
   .rw[hgn] at hc';simp only[Zl] at hc';subst hc';simp only[if_true];exact hc _
   .rw[hgm] at hc';simp only[Zl] at hc';subst hc';trivial
  .rcases hk with rfl|rfl
   .simp only[if_true] at hb;rcases hgr b hb with h1|h1|h1
    .exact .inl ⟨k,.inl rfl,h1⟩
    .exact .inl ⟨m0,.inr rfl,h1⟩
    .exact .inr h1
   .rw[Zf hmn,Zj rfl] at hb;exact hb.elim
  .rcases hk with rfl|rfl<;>rcases hm with rfl|rfl
   .rfl
   .rw[Zf hmn,Zj rfl] at hb';exact hb'.elim
   .rw[Zf hmn,Zj rfl] at hb;exact hb.elim
   .rfl
  .rcases hk with rfl|rfl
   .simp only[if_true] at hb;exact hlt' b hb
   .rw[Zf hmn,Zj rfl] at hb;exact hb.elim
  .rcases hk with rfl|rfl
   .rw[hgn] at hc';simp only[Zl] at hc';subst hc';simp only[if_true] at hb
    by_cases e1:m=k
    .subst e1;simp only[if_true] at hm;exact (himm' b hb).2 hm
    .simp only[Zf e1] at hm;split at hm
     .exact hm
     .exact (himm' b hb).1 m hm
   .rw[hgm] at hc';simp only[Zl] at hc';subst hc';exact hb
  .rw[hlen] at hk;rw[Zf (by omega),Zf (by omega)] at hb;exact g.sat.out k hk b hb
  .rcases hk with rfl|rfl
   .rw[hgn] at hc';simp only[Zl] at hc';subst hc';rw[hcn] at hm;cases hm
   .rw[hgm] at hc';simp only[Zl] at hc';subst hc';simp[Ta.names] at hm
 .rcases hle k b hb with ⟨j,h1⟩|h1
  .exact .inl ⟨j,g.sub j b h1⟩
  .exact .inr h1
 .refine hag k hk fun e'=>?_
  subst e';have:=g.own k hk hno';rw[this] at ho;cases ho
 .by_cases e':k=n
  .subst e';exact g.own k hk hno'
  .by_cases e2:k=m0
   .subst e2;exact g.own k hk hmo
   refine g.own k hk ?_;rw[Yn,hrow k e' e2] at ho;have:=YdA (H:=H1) (n:=n) (k:=k);rw[Yn,Zv] at this;rw[<-this];exact ho
 .have hne:k≠n:=fun e'=>hkn (by simp[e'])
  have hne2:k≠m0:=fun e'=>hkn (by simp[e'])
  refine⟨fun b=>?_,fun b hb hlt=>hfr b hlt fun hφ=>hne (YcV h.sat hb (g.sub n b hφ))⟩;rw[<-g.rdb k hk b];unfold Rdb;rw[hrow k hne hne2];simp only[Zf hne];cases hl:H1[k]? with
  | none=>simp
  | some d=>cases d<;>simp[Ta.kill]

theorem YbR (hC:C.OK)(h:Pre C T H σ φ a w){σ1:Nat->Value}{φ1:Nat->Nat->Prop}{H1:LH C}(g:Th C σ φ H σ1 φ1 H1 w){n:Nat}{e:C.EC}{l l':List (C.α e)}(hH:H1[n]?=some (.row true e l)){w':World}{v':Value}{f':Nat->Prop}(dst:Option Nat)(hsz:w.heap.size<=w'.heap.size)(hos:w'.os=w.os)(htp:w'.tape=w.tape)(hop:w'.output=w.output)(hfr:∀ k,k<w.heap.size->¬ φ1 n k->w'.heap[k]?=w.heap[k]?)(hc:ownR w' (C.tid e) (C.sz e) v' l'.length (flat C e l'))(hf:∀ b,f' b↔v'.ownBlock=some b)(hgr:∀ b,f' b->φ1 n b∨w.heap.size<=b) :
  EOut C H σ φ a w [n] (setT (T.map (SV.kill n)) dst (.one (.at (.slc n)))) ((H1.map (Ta.kill n)).set n (.row true e l')) (fun k=>if k=n then v' else σ1 k) (fun k=>if k=n then f' else φ1 k) (a.put dst v') w' :=
 YiW hC h g (by simp[Yn,hH]) (c':=.row true e l') rfl dst hsz hos htp hop hfr (fun _=>⟨hc,hf⟩) (fun b hb=>hc.lt b ((hf b).1 hb)) (fun b hb=>(Ro.own hb).elim) hgr

theorem YrW {t:TypeId}{x hi:Operand}(h:Pre C T H σ φ a w)(ho:o.op = .slice t x none (some hi) none)(he:effS C Γ trunc T H o K):o.wp C.P a w (YbF C H σ φ a w K) Q:=by
 have hx:=h.rel x;simp only[effS,ho] at he;split at he<;>try (exact he.elim)
 split at he<;>try (exact he.elim)
 rename_i n b hcx hb;rw[hcx] at hx;split at he<;>try (exact he.elim)
 rename_i e l hH;split at he<;>try (exact he.elim)
 rename_i hec;obtain⟨h0,h1,hK⟩:=he;have ex:a.eval x=σ n:=hx;obtain⟨k,hk⟩:=Ycx h hb;obtain⟨ti,z,hti,_,hsz,_⟩:=h.ok.info e;obtain⟨⟨q1,q2⟩,q3⟩:=h.sat.holds n _ hH;have hfl:=YZ h.ok e;rcases q2 with ⟨q2,q4⟩|⟨g,cap,cur,fz,q2,hg,hfz,hnc,hcm,hcs,htk⟩
 .have hb0:b=0:=by omega
  subst hb0;have hrun:=Ycy (P:=C.P) (A:=none) (len:=0) (cap:=0) (low:=none) (high:=some (.int k 0)) (i:=0) (j:=0) (YbN h.ok hec) hti (.inl ⟨rfl,rfl⟩) (.inr ⟨k,rfl⟩) (by omega) (by omega) (by omega) w;refine YF (v:=.slice none 0 0) (w':=w) (by (try simp at hrun);simp[execOp,ho,ex,q2,hk,hrun]) ⟨_,_,_,_,_,YbR h.ok h (Th.refl h.sat) hH (l':=l.take (0:Int).toNat) (v':=.slice none 0 0) (f':=φ n) o.dst (Zw _) rfl rfl rfl (fun _ _ _=>rfl) ?_ (fun b=>by rw[q3 b,q2]) (fun b hb=>.inl hb),hK⟩
  simpa [flat] using ownR.nil w (C.tid e) (C.sz e)
 .have hrun:=Ycy (P:=C.P) (A:=some ⟨g,0,none⟩) (len:=l.length) (cap:=cap) (low:=none) (high:=some (.int k b)) (i:=0) (j:=b) (YbN h.ok hec) hti (.inl ⟨rfl,rfl⟩) (.inr ⟨k,rfl⟩) (by omega) h0 (by omega) w
  have hv:(Value.slice (if cap=(0:Int).toNat then some (⟨g,0,none⟩:Addr) else (some (⟨g,0,none⟩:Addr)).map (·.add ((0:Int).toNat*ti.size))) (b.toNat-(0:Int).toNat) (cap-(0:Int).toNat)) = .slice (some ⟨g,0,none⟩) b.toNat cap:=by
   simp[Addr.add]
  rw[hv] at hrun;have hbl:(l.take b.toNat).length=b.toNat:=by simp;omega
  refine YF (v:=.slice (some ⟨g,0,none⟩) b.toNat cap) (w':=w) (by (try simp at hrun);simp[execOp,ho,ex,q2,hk,hrun]) ⟨_,_,_,_,_,YbR h.ok h (Th.refl h.sat) hH (l':=l.take b.toNat) (v':=.slice (some ⟨g,0,none⟩) b.toNat cap) (f':=φ n) o.dst (Zw _) rfl rfl rfl (fun _ _ _=>rfl) ?_ (fun b=>by rw[q3 b,q2];rfl) (fun b hb=>.inl hb),hK⟩;refine⟨hfl _,.inr ⟨g,cap,cur,fz,by rw[hbl],hg,hfz,by rw[hbl];omega,hcm,hcs,?_⟩⟩;rw[hbl]
  have e1:flat C e l=flat C e (l.take b.toNat)++flat C e (l.drop b.toNat):=by
   unfold flat;rw[<-Zbn,Zaw]
  have e2:(cur.toList.take (l.length*C.sz e)).take (b.toNat*C.sz e)=cur.toList.take (b.toNat*C.sz e):=by
   rw[List.take_take,Nat.min_eq_left (Zbi _ (by omega))]
  rw[<-e2,htk,e1];apply ZbT;rw[hfl,hbl]

theorem YjZ {c:Call}{x y:Operand}{t:TypeId}(h:Pre C T H σ φ a w)(ho:o.op = .call c)(hcal:c.callee = .builtin .append)(hargs:c.args.toList=[x,y])(hty:c.argTypes.toList=[t,t]){σ1:Nat->Value}{φ1:Nat->Nat->Prop}{H1:LH C}(g:Th C σ φ H σ1 φ1 H1 w){n:Nat}{e:C.EC}{l:List (C.α e)}(hx:a.eval x=σ1 n)(hH:H1[n]?=some (.row true e l))(hec:YbJ C t=some e){A:Option Addr}{m cp:Nat}{ys:List (C.α e)}(hy:a.eval y = .slice A m cp)(hsrc:Rd (C.enc e) (C.sz e) w A m cp ys)(hb:A≠none->(l.length+ys.length)*Yd C e<=140737488355328)(hK:K [n] (setT (T.map (SV.kill n)) o.dst (.one (.at (.slc n)))) ((H1.map (Ta.kill n)).set n (.row true e (l++ys)))):o.wp C.P a w (YbF C H σ φ a w K) Q:=by
 obtain⟨i,z,hi,hz,hsz,hzc,hbp⟩:=h.ok.info e;rw[YaW hi] at hb;obtain⟨q1,q3⟩:=g.sat.holds n _ hH;have hty':c.argTypes=#[t,t]:=ZbN (by simpa using hty)
 have hexec:∀ {v':Value} {w':World},(Builtin.append_ #[t,t] o.type #[σ1 n,.slice A m cp]).run C.P w = .ok v' w'->(execOp a.eval o).run C.P w = .ok (.value v') w':=by
  intro v' w' hr;have e1:c.args.map a.eval=#[σ1 n,.slice A m cp]:=by rw[YaS hargs,hx,hy]
  simp[execOp,ho,resolve,hcal,invoke,builtin,e1,hty',hr]
 have hm:=hsrc.len;cases A with
 | none =>
  have hcp:=hsrc.nul rfl;have hle:=hsrc.cap;have hm0:m=0:=by omega
  have hys:ys=[]:=ZM (by omega);subst hys hm0 hcp;have hr:=Yga (P:=C.P) (w:=w) t o.type (C.tid e) i (C.sz e) (Yq h.ok hec) hi (σ1 n) l.length _ q1;refine YF (hexec hr) ⟨_,_,_,_,_,YbR h.ok h g hH (l':=l++[]) (v':=σ1 n) (f':=φ1 n) o.dst (Zw _) rfl rfl rfl (fun _ _ _=>rfl) (by simpa using q1) q3 (fun b hb=>.inl hb),hK⟩
 | some ad =>
  have hb:=hb (by simp);have hbm:l.length+ys.length<=140737488355328:=Zap (Zce _ hbp) hb
  have hnews:∀ (j:Nat) (u:Value),(flat C e ys)[j]?=some u->w.cell? (ad.add j)=some u:=by
   intro j u hu;have hj:j<(flat C e ys).length:=(Zt.1 hu).1;rw[YZ h.ok] at hj;have hp:=h.ok.pos e;have hq:j / C.sz e<ys.length:=Zct (by rw[ZbL];exact hj);have hp0:0<ys.length:=Nat.lt_of_le_of_lt (ZC _) hq;obtain⟨b,o',e1,hlt,hc⟩:=hsrc.get (by omega);simp only[Zl] at e1;subst e1;have hr:j % C.sz e<C.sz e:=Nat.mod_lt _ hp;have hd:j=j / C.sz e*C.sz e+j % C.sz e:=by rw[ZbL];exact (Nat.div_add_mod j (C.sz e)).symm
   rw[hd,Yer h.ok (Zk hq) hr] at hu;rw[ZaU,hd,<-Zcl];exact hc _ _ (Zk hq) _ u hu
  have hl:(flat C e ys).length=m*C.sz e:=by rw[YZ h.ok,hm]
  have hbytes:(l.length+m)*i.bytes<=140737488355328:=by rw[hm];exact hb
  have h63:l.length+m<=maxLen:=by unfold maxLen;omega
  have hzs:z.cells.size=C.sz e:=by rw[<-Zal,hzc,h.ok.len]
  obtain⟨v',w',hr,hown,hgr,hblk⟩:=YoM (P:=C.P) (w:=w) t o.type (C.tid e) i z (C.sz e) i.bytes (Yq h.ok hec) hi hz hsz rfl hzs (h.ok.pos e) (σ1 n) l.length _ q1 ad m cp (flat C e ys) hl hnews (YoZ h.ok e ys) h63 hbytes;refine YF (hexec hr) ⟨_,_,_,_,_,YbR h.ok h g hH (l':=l++ys) (v':=v') (f':=fun b=>v'.ownBlock=some b) o.dst hgr.size hgr.os hgr.tape hgr.output (fun k hk hno=>hgr.block k hk fun e'=>hno ((q3 k).2 e'.symm)) ?_ (fun b=>Zbt) (fun b hb=>?_),hK⟩
  .rw[Zh,<-hm];have:flat C e (l++ys)=flat C e l++flat C e ys:=by simp[flat]
   rw[this];exact hown
  .rcases hblk b hb with h1|h1
   .exact .inl ((q3 b).2 h1)
   .exact .inr h1

theorem Ymu {c:Call}{x y:Operand}{t:TypeId}(h:Pre C T H σ φ a w)(ho:o.op = .call c)(hcal:c.callee = .builtin .append)(hargs:c.args.toList=[x,y])(hty:c.argTypes.toList=[t,t]){σ1:Nat->Value}{φ1:Nat->Nat->Prop}{H1:LH C}(g:Th C σ φ H σ1 φ1 H1 w){n m:Nat}{hh h2 e:C.EC}{ll l2:List (List (C.α e))}(hx:a.eval x=σ1 n)(hH:H1[n]?=some (.rows hh e ll))(hec:YbJ C t=some hh)(hy:a.eval y=σ1 m)(hHm:H1[m]?=some (.rows h2 e l2))(hb:(ll.length+l2.length)*Yd C hh<=140737488355328)(hK:K [n] (setT (T.map (SV.kill n)) o.dst (.one (.at (.slc n)))) ((H1.map (Ta.kill n)).set n (.rows hh e (ll++l2)))):o.wp C.P a w (YbF C H σ φ a w K) Q:=by
 obtain⟨i,z,hi,hz,hsz,hzc,hbp⟩:=h.ok.info hh;rw[YaW hi] at hb;obtain⟨hz1,⟨vs,q1,qR⟩,q3⟩:=g.sat.holds n _ hH;obtain⟨_,⟨vs2,p1,pR⟩,_⟩:=g.sat.holds m _ hHm;have hty':c.argTypes=#[t,t]:=ZbN (by simpa using hty)
 have hexec:∀ {v':Value} {w':World} {A:Option Addr} {k cp:Nat},σ1 m = .slice A k cp->(Builtin.append_ #[t,t] o.type #[σ1 n,.slice A k cp]).run C.P w = .ok v' w'->(execOp a.eval o).run C.P w = .ok (.value v') w':=by
  intro v' w' A k cp hs hr;have e1:c.args.map a.eval=#[σ1 n,.slice A k cp]:=by rw[YaS hargs,hx,hy,hs]
  simp[execOp,ho,resolve,hcal,invoke,builtin,e1,hty',hr]
 have hR:Rels (fun l u=>Imm C w u e l/\∀ b,0<l.length->u.ownBlock=some b->∀ m,¬ φ1 m b) (ll++l2) (vs++vs2) :=
  Rels.append ⟨qR.1,fun i l u hl hu=>⟨qR.2 i l u hl hu,fun b hp hb=>g.sat.imm n _ hH b ⟨vs,q1,i,u,l,hu,hl,hp,hb⟩⟩⟩
   ⟨pR.1,fun i l u hl hu=>⟨pR.2 i l u hl hu,fun b hp hb=>g.sat.imm m _ hHm b ⟨vs2,p1,i,u,l,hu,hl,hp,hb⟩⟩⟩
 rcases p1.2 with ⟨ev,e0⟩|⟨gb,cap,cur,ev,_,hg,hnc,hcm,hcs,htk⟩
 .have hl2:l2=[]:=ZM e0;subst hl2;have hr:=run_append_owned_none (P:=C.P) (w:=w) 0 t o.type (C.tid hh) i 1 (Yq h.ok hec) hi (σ1 n) ll.length _ q1;have q1':w.ownsRow 0 (C.tid hh) 1 (σ1 n) (ll++[]).length vs:=by simpa using q1
  refine YF (hexec ev hr) ⟨_,_,_,_,_,YiW h.ok h g (by simp[Yn,hH]) (c':=.rows hh e (ll++[])) rfl (v':=σ1 n) (f':=φ1 n) o.dst (Zw _) rfl rfl rfl (fun _ _ _=>rfl)
   (fun _=>⟨hz1,⟨vs,q1',by simpa using qR⟩,q3⟩) (fun b hb=>g.sat.bd n b hb) (fun b hb=>?_) (fun b hb=>.inl hb),hK⟩
  have hb':Ro w (σ1 n) b (.rows hh e ll):=by simpa using hb
  exact⟨fun k=>g.sat.imm n _ hH b hb' k,g.sat.imm n _ hH b hb' n⟩
 .have hs1:i.size=1:=hsz.trans hz1
  have hnews:∀ (j:Nat) (u:Value),vs2[j]?=some u->w.cell? ((⟨gb,0,none⟩:Addr).add j)=some u:=by
   intro j u hu;rw[<-htk,Zae] at hu;split at hu
   .rw[ZaU,ZaM,cell_of_row w gb j cur _ (0,0) hg]
    simpa using hu
   .cases hu
  have h1:∀ u∈vs2,u.oneCell'=true:=by
   intro u hu;obtain⟨k,hk,rfl⟩:=Zbx.1 hu;have hk2:k<l2.length:=by rw[pR.1];exact hk
   obtain⟨A,cp,e1,_⟩:=pR.2 k _ _ (Zk hk2) (Zk hk);rw[e1];rfl
  have hzs:z.cells.size=1:=by rw[<-Zal,hzc,h.ok.len,hz1]
  have hbm:ll.length+l2.length<=140737488355328:=Zap (Zce _ hbp) hb;have h63:ll.length+l2.length<=maxLen:=by unfold maxLen;omega
  obtain⟨v',w',hr,hown,hgr,_⟩:=run_append_own (P:=C.P) w 0 t o.type (C.tid hh) i z 1 i.bytes (Yq h.ok hec) hi hz hs1 rfl hzs Nat.one_pos (σ1 n) ll.length _ q1 ⟨gb,0,none⟩ l2.length cap vs2 p1.1 hnews h1 h63 hb (ZC _);have hblk:=YdS (P:=C.P) (Yq h.ok hec) hi hz hs1 rfl Nat.one_pos q1 p1.1 hnews h1 h63 hb hr;have hown':w'.ownsRow 0 (C.tid hh) 1 v' (ll++l2).length (vs++vs2):=by rw[Zh];exact hown
  have hne:∀ b,(∀ k,¬ φ1 k b)->b<w.heap.size->w'.heap[b]?=w.heap[b]?:=fun b hb hlt=>hgr.block b hlt fun e'=>hb n ((q3 b).2 e'.symm)
  refine YF (hexec ev hr) ⟨_,_,_,_,_,YiW h.ok h g (by simp[Yn,hH]) (c':=.rows hh e (ll++l2)) rfl (v':=v') (f':=fun b=>v'.ownBlock=some b) o.dst hgr.size hgr.os hgr.tape hgr.output (fun k hk hno=>hgr.block k hk fun e'=>hno ((q3 k).2 e'.symm))
   (fun _=>⟨hz1,⟨vs++vs2,hown',hR.mono fun l u _ hu=>hu.1.keep hgr.size fun hp b hb hlt=>hne b (hu.2 b hp hb) hlt⟩,fun b=>Zbt⟩) (fun b hb=>(hown'.lt b hb).2) (fun b hb=>?_) (fun b hb=>?_),hK⟩
  .obtain⟨vs',ho',i',u,l,k1,k2,k3,k4⟩:=hb;obtain rfl:=Yct ho' hown';obtain⟨hi1,hi2⟩:=hR.2 i' l u k2 k1;refine⟨hi2 b k3 k4,fun hf=>?_⟩;have hlt:=hi1.lt k3 k4;rcases hblk b hf with h1|h1
   .exact hi2 b k3 k4 n ((q3 b).2 h1)
   .omega
  .rcases hblk b hb with h1|h1
   .exact .inl ((q3 b).2 h1)
   .exact .inr h1

theorem OwnL.append {e:C.EC}{ll l2:List (List (C.α e))}{us us2:List Value}(h:OwnL C w e ll us)(h2:OwnL C w e l2 us2)(hd:∀ b,BlkL us b->¬ BlkL us2 b):OwnL C w e (ll++l2) (us++us2) :=
 ⟨h.1.append h2.1,ZaG.2 ⟨h.2,h2.2,fun u hu u' hu' b hb hb'=>hd b ⟨u,hu,hb⟩ ⟨u',hu',hb'⟩⟩⟩

theorem Ymv {c:Call}{x y:Operand}{t:TypeId}(h:Pre C T H σ φ a w)(ho:o.op = .call c)(hcal:c.callee = .builtin .append)(hargs:c.args.toList=[x,y])(hty:c.argTypes.toList=[t,t]){σ1:Nat->Value}{φ1:Nat->Nat->Prop}{H1:LH C}(g:Th C σ φ H σ1 φ1 H1 w){n m:Nat}(hmn:¬ m=n){hh h2 e:C.EC}{k:Nat}{ll l2:List (List (C.α e))}(hx:a.eval x=σ1 n)(hH:H1[n]?=some (.orows hh e k ll))(hec:YbJ C t=some hh)(hy:a.eval y=σ1 m)(hHm:H1[m]?=some (.orows h2 e 0 l2))(hb:(k+ll.length+l2.length)*Yd C hh<=140737488355328)(hK:K [n,m] (setT (T.map (SV.kill n)) o.dst (.one (.at (.slc n)))) (((H1.map (Ta.kill n)).set n (.orows hh e k (ll++l2))).set m .gone)):o.wp C.P a w (YbF C H σ φ a w K) Q:=by
 obtain⟨i,z,hi,hz,hsz,hzc,hbp⟩:=h.ok.info hh;rw[YaW hi] at hb;obtain⟨hz1,pre,us,hpre,q1,qL,qc,qd,q3⟩:=g.sat.holds n _ hH;obtain⟨_,pre2,us2,hpre2,p1,pL,pc,pd,p3⟩:=g.sat.holds m _ hHm;obtain rfl:pre2=[]:=ZM hpre2;rw[ZS,ZaM] at p1;rw[ZS] at pc;have hty':c.argTypes=#[t,t]:=ZbN (by simpa using hty)
 have hexec:∀ {v':Value} {w':World} {A:Option Addr} {j cp:Nat},σ1 m = .slice A j cp->(Builtin.append_ #[t,t] o.type #[σ1 n,.slice A j cp]).run C.P w = .ok v' w'->(execOp a.eval o).run C.P w = .ok (.value v') w':=by
  intro v' w' A j cp hs hr;have e1:c.args.map a.eval=#[σ1 n,.slice A j cp]:=by rw[YaS hargs,hx,hy,hs]
  simp[execOp,ho,resolve,hcal,invoke,builtin,e1,hty',hr]
 have hdd:∀ b,BlkL us b->¬ BlkL us2 b:=fun b h1 h2=>hmn (g.sat.dis m n b ((p3 b).2 (.inr h2)) ((q3 b).2 (.inr h1)))
 have hL:=OwnL.append qL pL hdd;have hnn:Yn H1 n=true:=by simp[Yn,hH]
 have hmm:Yn H1 m=true:=by simp[Yn,hHm]
 rcases p1.2 with ⟨ev,e0⟩|⟨gb,cap,cur,ev,_,hg,hnc,hcm,hcs,htk⟩
 .have hl2:l2=[]:=ZM e0;subst hl2;have hus2:us2=[]:=ZM (by have:=p1.1;simpa using this);subst hus2;have hr:=run_append_owned_none (P:=C.P) (w:=w) 0 t o.type (C.tid hh) i 1 (Yq h.ok hec) hi (σ1 n) (k+ll.length) _ q1
  refine YF (hexec ev hr) ⟨_,_,_,_,_,YjY h.ok h g hnn hmm hmn (c':=.orows hh e k (ll++[])) rfl (v':=σ1 n) (f':=φ1 n) o.dst (Zw _) rfl rfl rfl (fun _ _ _=>rfl)
   (fun _=>⟨hz1,pre,us,hpre,by simpa using q1,by simpa using qL,qc,qd,q3⟩) (fun b hb=>g.sat.bd n b hb) (fun b hb=>(Ro.orows hb).elim) (fun b hb=>.inl hb),hK⟩
 .have hs1:i.size=1:=hsz.trans hz1
  have hnews:∀ (j:Nat) (u:Value),us2[j]?=some u->w.cell? ((⟨gb,0,none⟩:Addr).add j)=some u:=by
   intro j u hu;rw[<-htk,Zae] at hu;split at hu
   .rw[ZaU,ZaM,cell_of_row w gb j cur _ (0,0) hg]
    simpa using hu
   .cases hu
  have hzs:z.cells.size=1:=by rw[<-Zal,hzc,h.ok.len,hz1]
  have hbm:k+ll.length+l2.length<=140737488355328:=Zap (Zce _ hbp) hb;have h63:k+ll.length+l2.length<=maxLen:=by unfold maxLen;omega
  obtain⟨v',w',hr,hown,hgr,_⟩:=run_append_own (P:=C.P) w 0 t o.type (C.tid hh) i z 1 i.bytes (Yq h.ok hec) hi hz hs1 rfl hzs Nat.one_pos (σ1 n) (k+ll.length) _ q1 ⟨gb,0,none⟩ l2.length cap us2 p1.1 hnews pc h63 hb (ZC _);have hblk:=YdS (P:=C.P) (Yq h.ok hec) hi hz hs1 rfl Nat.one_pos q1 p1.1 hnews pc h63 hb hr;have hown':w'.ownsRow 0 (C.tid hh) 1 v' (k+(ll++l2).length) (pre++(us++us2)):=by rw[Zh,<-Zcl,<-Zo];exact hown
  have hne:∀ b,BlkL (us++us2) b->(φ1 n b∨φ1 m b)/\(σ1 n).ownBlock≠some b:=fun b hb=>by
   obtain⟨u,hu,hb⟩:=hb;rcases Zx.1 hu with hu|hu
   .exact⟨.inl ((q3 b).2 (.inr ⟨u,hu,hb⟩)),qd b ⟨u,hu,hb⟩⟩
   .exact⟨.inr ((p3 b).2 (.inr ⟨u,hu,hb⟩)),fun e'=>hmn (g.sat.dis m n b ((p3 b).2 (.inr ⟨u,hu,hb⟩)) ((q3 b).2 (.inl e')))⟩
  have hold:∀ b,BlkL (us++us2) b->b<w.heap.size:=fun b hb=>(hne b hb).1.elim (g.sat.bd n b) (g.sat.bd m b)
  refine YF (hexec ev hr) ⟨_,_,_,_,_,YjY h.ok h g hnn hmm hmn (c':=.orows hh e k (ll++l2)) rfl (v':=v') (f':=fun b=>v'.ownBlock=some b∨BlkL (us++us2) b) o.dst hgr.size hgr.os hgr.tape hgr.output (fun j hj hno=>hgr.block j hj fun e'=>hno ((q3 j).2 (.inl e'.symm)))
   (fun _=>⟨hz1,pre,us++us2,hpre,hown',hL.keep fun b hb=>hgr.block b (hold b hb) fun e'=>(hne b hb).2 e'.symm,fun u hu=>?_,fun b hb e'=>?_,fun b=>Zbt⟩) (fun b hb=>?_) (fun b hb=>(Ro.orows hb).elim) (fun b hb=>?_),hK⟩
  .rw[<-Zo] at hu;rcases Zx.1 hu with hu|hu
   .exact qc u hu
   .exact pc u hu
  .rcases hblk b e' with h1|h1
   .exact (hne b hb).2 h1
   .have:=hold b hb;omega
  .rcases hb with hb|hb
   .exact (hown'.lt b hb).2
   .exact ZN (hold b hb) hgr.size
  .rcases hb with hb|hb
   .rcases hblk b hb with h1|h1
    .exact .inl ((q3 b).2 (.inl h1))
    .exact .inr (.inr h1)
   .rcases (hne b hb).1 with h1|h1
    .exact .inl h1
    .exact .inr (.inl h1)

theorem YrX {t:TypeId}{x:Operand}(h:Pre C T H σ φ a w)(ho:o.op = .load t x)(he:effS C Γ trunc T H o K):o.wp C.P a w (YbF C H σ φ a w K) Q:=by
 have hx:=h.rel x;simp only[effS,ho] at he;split at he<;>try (exact he.elim)
 rename_i n i sz off hc;split at he<;>try (exact he.elim)
 rename_i hh e k ll hH;split at he<;>try (exact he.elim)
 rename_i hso;obtain⟨rfl,rfl⟩:=hso;split at he<;>try (exact he.elim)
 rename_i d hd;split at he<;>try (exact he.elim)
 rename_i ha;obtain⟨hik,hpos,hK⟩:=he;rw[hc] at hx;obtain⟨b,o',len,cap,h2,h3,h4⟩:=(show At.rel σ (.eptr n i 1 0) _ from hx)
 obtain⟨hz,pre,us,hpre,hown,hL,hone,hdj,hf⟩:=h.sat.holds n _ hH;cases ll with
 | nil=>simp at hpos
 | cons l lt =>
 cases us with
 | nil=>exact absurd hL.1.1 (by simp)
 | cons u ut =>
 have hik:i=k:=by omega
 subst hik;have hu:(pre++u::ut)[i]?=some u:=by rw[ZU (by omega),hpre];simp
 have hR:ownR w (C.tid e) (C.sz e) u l.length (flat C e l):=hL.1.2 0 l u rfl rfl;have hlv:l=(l::lt).headD []:=rfl
 have hrun:(execOp a.eval o).run C.P w = .ok (.value u) w:=by
  have hc':w.cell? ⟨b,o'+i*1+0,none⟩=some u:=by
   rcases hown.2 with ⟨e0,_⟩|⟨g,cap',cur,e0,_,hg,hnc,_,hcs,htk⟩
   .rw[h2] at e0;cases e0
   .rw[h2] at e0;simp only[Zbl,Zl,Addr.mk.injEq] at e0;obtain⟨⟨rfl,rfl,_⟩,_,rfl⟩:=e0;rw[cell_of_row w b _ cur _ (0,0) hg];rw[<-htk,Zae] at hu;split at hu
    .simpa using hu
    .cases hu
  have hld:=Yat (P:=C.P) (w:=w) hd ha hc';simp only[Zci,Zbb] at hld;simp[execOp,ho,Instr.loadAt,h4,Instr.sureAddr,hld]
 have hp:=ZaT.1 hL.2
 refine YF hrun ⟨_,_,_,_,_,YfE h.ok h (m:=n) (by simp[Yn,hH]) (cm:=.orows hh e (i+1) lt) (cN:=.row true e l) rfl rfl (w':=w) (v:=u) (fm:=fun b=>(σ n).ownBlock=some b∨BlkL ut b) (fN:=fun b=>u.ownBlock=some b) o.dst (Zw _) rfl rfl rfl (fun _ _=>rfl)
  (fun _=>⟨hz,pre++[u],ut,by simp[hpre],?_,⟨⟨by simpa using hL.1.1,fun j l' u' hj hu'=>hL.1.2 (j+1) l' u' (by simpa using hj) (by simpa using hu')⟩,hp.2⟩,by simpa using hone,fun b hb=>hdj b ?_,fun b=>Zbt⟩) (fun _=>⟨hR,fun b=>Zbt⟩) (fun b hb=>?_) (fun b hb=>.inl ((hf b).2 (.inr ⟨u,by simp,hb⟩))) (fun b hb=>hR.lt b hb) (fun b hb hb'=>?_) (fun b hb=>hb) (fun b hb=>hb),hK⟩
 .have e1:i+1+lt.length=i+(l::lt).length:=by simp;omega
  rw[e1,Zo];exact hown
 .obtain⟨u',hu',hb⟩:=hb;exact⟨u',by simp[hu'],hb⟩
 .rcases hb with hb|⟨u',hu',hb⟩
  .exact (hf b).2 (.inl hb)
  .exact (hf b).2 (.inr ⟨u',by simp[hu'],hb⟩)
 .rcases hb with hb|⟨u',hu',hb⟩
  .exact hdj b ⟨u,by simp,hb'⟩ hb
  .exact hp.1 u' hu' b hb' hb

structure COut (C:Ctx) (H:LH C) (σ:Nat->Value) (φ:Nat->Nat->Prop) (w:World) (ts:LN) (r:SV) (v:Value) (H':LH C) (σ':Nat->Value) (φ':Nat->Nat->Prop) (w':World):Prop where
 rel:r.rel σ' v
 rcl:∀ m∈r.names,m<H'.length
 sat:Sat C σ' φ' w' H'
 adv:Adv φ w φ' w'
 len:H.length<=H'.length
 agree:∀ n,n<H.length->Yn H n=false∨n∉ts->σ' n=σ n
 own:∀ n,n<H.length->Yn H' n=true->Yn H n=true
 touch:∀ n,n<H.length->n∉ts->(∀ b,Rdb H' σ' n b↔Rdb H σ n b)/\∀ b,Rdb H σ n b->b<w.heap.size->w'.heap[b]?=w.heap[b]?

def COk (C:Ctx)(H:LH C)(σ:Nat->Value)(φ:Nat->Nat->Prop)(w:World)(K:SV->LH C->LN->Prop):Ending->World->Prop
 | .returned v,w'=>∃ r H' ts σ' φ',COut C H σ φ w ts r v H' σ' φ' w'/\K r H' ts
 | _,_=>False

def Tg (C:Ctx)(f:FuncId)(args:List TV)(H:LH C)(K:SV->LH C->LN->Prop):Prop :=
 ∀ σ φ w vs,Sat C σ φ w H->Rels (TV.rel σ) args vs->(∀ x∈args,∀ m∈x.names,m<H.length)->Calls C.P f vs.toArray w (COk C H σ φ w K)

structure Tb (C:Ctx) (f:FuncId) (t:Tfm C):Prop where
 enter:∀ args w,(callFunc f args).run C.P w = .ok (.enter f args) w
 call:∀ args H K,t args H K->Tg C f args H K

def GOK (C:Ctx):List (FuncId × Tfm C)->Prop
 | []=>True
 | (f,t)::r=>Tb C f t/\GOK C r

theorem Ylo:∀ {Γ:List (FuncId × Tfm C)} {f:FuncId} {t:Tfm C},GOK C Γ->getG C Γ f=some t->Tb C f t:=by
 intro Γ
 induction Γ with
 | nil=>intro f t _ h;simp[getG] at h
 | cons p r ih =>
  obtain⟨g,t'⟩:=p;intro f t hok h;simp only[getG] at h;split at h
  .rename_i e;subst e;simp only[Zl] at h;subst h;exact hok.1
  .exact ih hok.2 h

theorem YhI:∀ {l:List SV} {xs:List TV} {vs:List Value},YiN l=some xs->Rels (SV.rel σ) l vs->Rels (TV.rel σ) xs vs/\∀ x∈xs,(SV.one x)∈l:=by
 intro l
 induction l with
 | nil=>intro xs vs h hr;simp[YiN] at h;subst h;exact⟨⟨hr.1,fun i a b ha=>by simp at ha⟩,fun x hx=>by cases hx⟩
 | cons s l ih =>
  intro xs vs h hr;cases s with
  | tup _=>simp[YiN] at h
  | one x =>
   simp only[YiN,ZA] at h;obtain⟨xs',h1,rfl⟩:=h
   match vs,hr with
   | [],hr=>exact absurd hr.1 (by simp)
   | v::vs,hr =>
    obtain⟨h2,h3⟩:=ih h1 (vs:=vs) ⟨by simpa using hr.1,fun i x y hx hy=>hr.2 (i+1) x y (by simpa using hx) (by simpa using hy)⟩;refine⟨Rels.cons (hr.2 0 _ _ rfl rfl) h2,fun y hy=>?_⟩;rcases ZH.1 hy with rfl|hy
    .exact ZP
    .exact Zz _ (h3 y hy)

theorem Yft:∀ (ks:LN) {T:List SV} {vs:List Value},Rels (SV.rel σ) T vs->Rels (SV.rel σ) (ks.foldl (fun T n=>T.map (SV.kill n)) T) vs:=by
 intro ks
 induction ks with
 | nil=>intro T vs h;exact h
 | cons k ks ih=>intro T vs h;exact ih (Ydz h)
theorem YbB:∀ (ks:LN) {T:List SV},∀ x∈(ks.foldl (fun T n=>T.map (SV.kill n)) T),∀ m∈x.names,(∃ y∈T,m∈y.names)/\m∉ks:=by
 intro ks
 induction ks with
 | nil=>intro T x hx m hm;exact⟨⟨x,hx,hm⟩,by simp⟩
 | cons k ks ih =>
  intro T x hx m hm;obtain⟨⟨y,hy,h1⟩,h2⟩:=ih x hx m hm;obtain⟨z,hz,rfl⟩:=ZF.1 hy;have:=SV.kill_names m h1;exact⟨⟨z,hz,this.1⟩,by simp[this.2,h2]⟩

theorem Ymw {H:LH C}{t:TypeId}{x:TV}:∃ y,(Yap C H t (.one x)).1 = .one y:=by
 unfold Yap;split
 .split
  .split<;>exact⟨_,rfl⟩
  .exact⟨_,rfl⟩
 .exact⟨_,rfl⟩

theorem Ygk (hC:C.OK){w:World}:∀ (l:List TV) (ts:List TypeId) {σ:Nat->Value} {φ:Nat->Nat->Prop} {H:LH C} {cs:List Value},Sat C σ φ w H->Rels (TV.rel σ) l cs->(∀ a∈l,∀ m∈a.names,m<H.length) →
  ∃ σ' φ',Th C σ φ H σ' φ' (Yai C H l ts).2 w/\Rels (TV.rel σ') (Yai C H l ts).1 cs/\(∀ a∈(Yai C H l ts).1,∀ m∈a.names,m<(Yai C H l ts).2.length):=by
 intro l
 induction l with
 | nil=>intro ts σ φ H cs h hr hn;cases ts<;>exact⟨σ,φ,Th.refl h,hr,hn⟩
 | cons x l ih =>
  intro ts σ φ H cs h hr hn;cases ts with
  | nil=>exact⟨σ,φ,Th.refl h,hr,hn⟩
  | cons t ts =>
   match cs,hr with
   | [],hr=>exact absurd hr.1 (by simp)
   | c::cs,hr =>
    have hrc:TV.rel σ x c:=hr.2 0 _ _ rfl rfl;have hrt:Rels (TV.rel σ) l cs:=⟨by simpa using hr.1,fun i x y hx hy=>hr.2 (i+1) x y (by simpa using hx) (by simpa using hy)⟩
    obtain⟨σ1,φ1,g1,r1,n1⟩:=YaH hC h t (s:=.one x) (v:=c) hrc (hn x (by simp));obtain⟨y,hy⟩:=Ymw (C:=C) (H:=H) (t:=t) (x:=x);have hrt1:Rels (TV.rel σ1) l cs:=hrt.mono fun x y hx hxy=>TV.rel_of hxy fun m hm=>g1.agree m (hn x (by simp[hx]) m hm)
    obtain⟨σ2,φ2,g2,r2,n2⟩:=ih ts g1.sat hrt1 (fun x hx m hm=>ZN (hn x (by simp[hx]) m hm) g1.len)
    have he:Yai C H (x::l) (t::ts)=(y::(Yai C (Yap C H t (.one x)).2 l ts).1,(Yai C (Yap C H t (.one x)).2 l ts).2):=by
     rw[Yai];generalize Yap C H t (.one x)=q at *;obtain⟨q1,q2⟩:=q;simp only at hy;subst hy
     rfl
    rw[he];rw[hy] at r1 n1;have n1':∀ m∈y.names,m<(Yap C H t (.one x)).2.length:=fun m hm=>n1 m hm
    refine⟨σ2,φ2,g1.trans g2,Rels.cons (TV.rel_of (show TV.rel σ1 y c from r1) fun m hm=>g2.agree m (n1' m hm)) r2,fun z hz m hm=>?_⟩;rcases ZH.1 hz with rfl|hz
    .exact ZN (n1' m hm) g2.len
    .exact n2 z hz m hm

theorem YrY {c:Call}{x:Operand}(hG:GOK C Γ)(h:Pre C T H σ φ a w)(ho:o.op = .call c)(hcal:c.callee = .value x)(he:effS C Γ trunc T H o K)(_:True):o.wp C.P a w (YbF C H σ φ a w K) Q:=by
 simp only[effS,ho,hcal] at he;split at he<;>try (exact he.elim)
 rename_i g cs xs hf hxs;split at he<;>try (exact he.elim)
 rename_i t ht;have hS:=Ylo hG ht;have hfr:=h.rel x;have hfn:=h.nm x;rw[hf] at hfr hfn;have e1:a.eval x = .func (.func g) #[] (cs.map σ).toArray:=hfr.1;obtain⟨hr1,hm1⟩:=YhI hxs (Ybt h c.args.toList)
 obtain⟨σ1,φ1,gr,hr1,hn1⟩:=Ygk h.ok (w:=w) xs c.argTypes.toList h.sat hr1 (fun y hy m hm=>by
  obtain⟨q,_,hq⟩:=ZF.1 (hm1 y hy);exact h.nm q m (by rw[hq];exact hm))
 have hcs:cs.map σ=cs.map σ1:=ZaP fun n hn=>(gr.agree n (hfn n hn)).symm
 have hr2:Rels (TV.rel σ1) ((Yai C H xs c.argTypes.toList).1++cs.map fun n=>.at (.ptr n 0)) (c.args.toList.map a.eval++cs.map σ):=hr1.append ⟨by simp,fun i y v hy hv=>by
  rw[Zv] at hy hv;cases hi:cs[i]? with
  | none=>rw[hi] at hy;cases hy
  | some n =>
   rw[hi] at hy hv;simp only[ZaL,Zl] at hy hv;subst hy hv;obtain⟨b,hb⟩:=hfr.2 n (ZD hi);exact⟨b,(gr.agree n (hfn n (ZD hi))).trans hb,hb⟩⟩
 have hcl:∀ y∈(Yai C H xs c.argTypes.toList).1++cs.map (fun n=>TV.at (.ptr n 0)),∀ m∈y.names,m<(Yai C H xs c.argTypes.toList).2.length:=fun y hy m hm=>by
  rcases Zx.1 hy with hy|hy
  .exact hn1 y hy m hm
  .obtain⟨n,hn,rfl⟩:=ZF.1 hy;simp[TV.names,At.names] at hm;subst hm;exact ZN (hfn m hn) gr.len
 have hC:=hS.call _ _ _ he σ1 φ1 w _ gr.sat hr2 hcl
 have hrun:(execOp a.eval o).run C.P w = .ok (.enter g (c.args.toList.map a.eval++cs.map σ).toArray) w:=by
  have:=hS.enter (c.args.map a.eval++(cs.map σ).toArray) w
  have e2:(c.args.toList.map a.eval++cs.map σ).toArray=c.args.map a.eval++(cs.map σ).toArray:=by
   apply ZbN;simp
  rw[e2];simp[execOp,ho,resolve,hcal,e1,Deferred.ofValue,invoke,this]
 unfold Oper.wp;rw[hrun];refine ZcN hC fun e w' hh=>?_
 cases e with
 | panicked ch=>exact hh.elim
 | outgrown=>exact hh.elim
 | returned v =>
  obtain⟨r,H',ts,σ',φ',hout,hK⟩:=hh
  refine⟨ts,_,H',σ',φ',⟨YcB ?_ hout.rel o.dst,fun y hy m hm=>?_,hout.sat,⟨hout.adv.os,hout.adv.tape,hout.adv.output,hout.adv.size,fun k hk hn=>hout.adv.fr k hk fun n hh=>hn n (gr.sub n k hh),fun n b hb=>(hout.adv.grow n b hb).imp (fun ⟨m,hm⟩=>⟨m,gr.sub m b hm⟩) id⟩,
   Zap gr.len hout.len,YaB _ _,fun n hn ho=>(hout.agree n (ZN hn gr.len) (.inl ?_)).trans (gr.agree n hn),fun n hn ho=>gr.own n hn (hout.own n (ZN hn gr.len) ho),fun n hn hts=>?_,fun n hn hts=>(hout.agree n (ZN hn gr.len) (.inr hts)).trans (gr.agree n hn)⟩,hK⟩
  .refine (Yft _ h.tm).mono fun y v hy hr=>SV.rel_of hr fun m hm=>?_
   obtain⟨⟨z,hz,h1⟩,h2⟩:=YbB _ y hy m hm;have hmH:=h.tcl z hz m h1;refine (hout.agree m (ZN hmH gr.len) ?_).trans (gr.agree m hmH);cases hown:Yn (Yai C H xs c.argTypes.toList).2 m with
   | false=>exact .inl rfl
   | true=>exact .inr fun hts=>h2 (by simp[hts,hown])
  .rcases Ybu hy with hy|rfl
   .obtain⟨⟨z,hz,h1⟩,_⟩:=YbB _ y hy m hm;exact ZN (h.tcl z hz m h1) (Zap gr.len hout.len)
   .exact hout.rcl m hm
  .cases hown:Yn (Yai C H xs c.argTypes.toList).2 n with
   | false=>rfl
   | true=>rw[gr.own n hn hown] at ho;cases ho
  .have:=hout.touch n (ZN hn gr.len) hts;exact⟨fun b=>(this.1 b).trans (gr.rdb n hn b),fun b hb=>this.2 b ((gr.rdb n hn b).2 hb)⟩

theorem Yka:∀ (l:List (Int × Int)) (k v:Int),setM l k v=match idxM l k with
  | some j=>l.set j (k,v)
  | none=>l++[(k,v)]
 | [],_,_=>rfl
 | p::r,k,v=>by
  unfold setM idxM
  by_cases c:p.1=k
  .rw[Zj c,Zj c];rfl
  .rw[Zf c,Zf c,Yka r k v];cases idxM r k<;>rfl
theorem Ykb:∀ {l:List (Int × Int)} {k:Int} {j:Nat},idxM l k=some j->∃ v,l[j]?=some (k,v)
 | [],_,_,h=>by cases h
 | p::r,k,j,h=>by
  unfold idxM at h;split at h
  .rename_i c;simp only[Zl] at h;subst h;exact⟨p.2,by rw[<-c];rfl⟩
  .simp only[ZA] at h;obtain⟨j',h1,rfl⟩:=h;obtain⟨v,hv⟩:=Ykb h1;exact⟨v,by simpa using hv⟩
theorem Ymx {t:TypeId}{r:Option Operand}(h:Pre C T H σ φ a w)(ho:o.op = .makeMap t r)(he:effS C Γ trunc T H o K):o.wp C.P a w (YbF C H σ φ a w K) Q:=by
 cases r with
 | some r=>simp[effS,ho] at he
 | none =>
 simp only[effS,ho] at he;split at he<;>try (exact he.elim)
 rename_i kk vk hm;refine YF (v:=.map (some w.heap.size)) (w':=w.alloc (.map #[] 0)) ?_ ⟨_,_,_,_,_,YbP h.ok h (Th.refl h.sat) (.map kk vk []) (.map (some w.heap.size)) (.slc _) _ o.dst (fun σ' hs=>?_) (fun m hm=>?_) (fun _ e=>(Ro.map e).elim) (fun σ' hs=>hs.symm) (fun m hm=>?_),he⟩
 .have hr:(Instr.makeMap t none).run C.P w = .ok (.map (some w.heap.size)) (w.alloc (.map #[] 0)):=rfl;simp[execOp,ho,hr]
 .exact⟨w.heap.size,#[],0,rfl,fun _=>Zbt,heap_alloc_new w _,rfl⟩
 .simp[Ta.names] at hm
 .simpa [At.names] using hm
theorem YiX {t:TypeId}{x i y:Operand}(h:Pre C T H σ φ a w)(ho:o.op = .mapUpdate t x i y)(he:effS C Γ trunc T H o K):o.wp C.P a w (YbF C H σ φ a w K) Q:=by
 have hx:=h.rel x;have hi:=h.rel i;have hy:=h.rel y;simp only[effS,ho] at he;split at he<;>try (exact he.elim)
 rename_i kk vk n k' j v' z hm hc hci hcy;split at he<;>try (exact he.elim)
 rename_i ka va l hH;split at he<;>try (exact he.elim)
 rename_i hk;obtain⟨rfl,rfl,rfl,rfl⟩:=hk;rw[hc] at hx;rw[hci] at hi;rw[hcy] at hy;have ex:a.eval x=σ n:=hx;have ei:a.eval i = .int k' j:=hi;have ey:a.eval y = .int v' z:=hy;have hn:n<H.length:=(Zt.1 hH).1;obtain⟨b,es,ck,e1,e2,e3,e4⟩:=h.sat.holds n _ hH;obtain⟨kt,et,m1,m2,m3⟩:=YhD hm;have hf:=Ycw (kk:=k') (vk:=v') j es.toList l 0 e4;have ck1:=MapKept.run_checkKey (P:=C.P) (w:=w) (kt:=kt) (k:=.int k' j) m2 (show MapKept.IsKey (.int k') (.int k' j) from rfl) false 9999;have fk:=MapKept.run_findKey (P:=C.P) (w:=w) m2 hf
 have hgo:∀ es' ck',es'.toList.map (fun e=>(e.key,e.val))=(setM l j z).map (fun p=>(Zm k' p.1,Zm v' p.2))->(Instr.mapUpdate t (.map (some b)) (.int k' j) (.int v' z)).run C.P w = .ok () { w with heap:=w.heap.setIfInBounds b (.map es' ck') } →
   o.wp C.P a w (YbF C H σ φ a w K) Q:=fun es' ck' hes hrun=>by
  have hb:b<w.heap.size:=(Zak.1 e3).1;refine YcU (w':={ w with heap:=w.heap.setIfInBounds b (.map es' ck') }) ?_ ⟨_,_,_,_,_,YbQ h.ok h hn (.map k' v' (setM l j z)) o.dst (by simp) rfl rfl rfl (fun q hq=>?_) ?_ (fun m hm=>?_) (fun _ e=>Ro.map e) (fun ho=>?_),he⟩
  .simp[execOp,ho,ex,ei,ey,e1,hrun]
  .have:¬ b=q:=fun e=>hq ((e2 q).2 e.symm)
   simp[this]
  .refine⟨b,es',ck',e1,e2,?_,hes⟩;simp[hb]
  .simp[Ta.names] at hm
  .simp[Yn,ZW hn] at ho
 have hs:=Yka l j z;cases hj:idxM l j with
 | none =>
  rw[hj] at fk hs;refine hgo (es.push ⟨.int k' j,.int v' z,ck⟩) (ck+1) ?_ ?_
  .rw[hs,Array.toList_push,ZX,e4,ZX];rfl
  .simp[Instr.mapUpdate,run_underlying m1,ZbI e3,ck1,fk,MapKept.run_setObj_map _ e3,Result.andThen]
 | some q =>
  rw[hj] at fk hs;obtain⟨v0,hv0⟩:=Ykb hj;have hq:(es.toList.map fun e=>(e.key,e.val))[q]?=some (Zm k' j,Zm v' v0):=by rw[e4,Zv,hv0];rfl
  rw[Zv,ZA] at hq;obtain⟨e0,he0,hkv⟩:=hq;simp only[Zs] at hkv;have he0':es[q]?=some e0:=by simpa using he0
  refine hgo (es.modify q fun e=>{ e with key:=.int k' j,val:=.int v' z }) ck ?_ ?_
  .rw[hs,Array.toList_modify,ChangeMaps.modify_eq_set _ _ _ _ he0,List.map_set,e4,List.map_set]
  .have ks:(Instr.keyThatStays (.int k' j) (.int k' j)).run C.P w = .ok (.int k' j) w:=MapKept.run_keyThatStays (d:=.int k') rfl;simp[Instr.mapUpdate,run_underlying m1,ZbI e3,ck1,fk,he0',hkv.1,ks,MapKept.run_setObj_map _ e3,Result.andThen]

theorem YaT (h:Pre C T H σ φ a w){s:SV}{H':LH C}{v:Value}{σ':Nat->Value}{φ':Nat->Nat->Prop}(g:Th C σ φ H σ' φ' H' w)(hv:s.rel σ' v)(hn:∀ m∈s.names,m<H'.length)(dst:Option Nat)(ts:LN) :
  EOut C H σ φ a w ts (setT T dst s) H' σ' φ' (a.put dst v) w where
 tm:=YcB (Yet h.tm h.tcl g.agree) hv dst
 tcl x hx m hm:=by
  rcases Ybu hx with hx|rfl
  .exact ZN (h.tcl x hx m hm) g.len
  .exact hn m hm
 sat:=g.sat
 adv:=⟨rfl,rfl,rfl,Zw _,fun _ _ _=>rfl,fun n b hb=>.inl ⟨n,g.sub n b hb⟩⟩
 len:=g.len
 dfs:=YaB _ _
 agree n hn _:=g.agree n hn
 own:=g.own
 touch n hn _:=⟨g.rdb n hn,fun _ _ _=>rfl⟩
 still n hn _:=g.agree n hn

theorem YiY {t:TypeId}(h:Ymf C t=true):C.P.underlying t=some .string:=by
 unfold Ymf at h;split at h
 .assumption
 .cases h
theorem YbS {P:Program}{w:World}(f:Value->ByteArray->Sem (ForInStep ByteArray))(hf:∀ (n:Int) (r:ByteArray),(f (.int .u8 n) r).run P w = .ok (.yield (r.push (UInt8.ofNat n.toNat))) w) :
  ∀ (cs:List Value) (s:ByteArray),(∀ c∈cs,isB8 c=true)->(forIn cs s f).run P w = .ok (cs.foldl Ymg s) w
 | [],s,_=>by simp[ZaJ]
 | c::cs,s,h=>by
  have hc:=h c (ZP ..);unfold isB8 at hc;split at hc
  .rename_i n;simp only[List.forIn_cons,Zag,hf,Result.andThen,ZbS];exact YbS f hf cs _ fun x hx=>h x (Zz _ hx)
  .cases hc
theorem YiZ (hC:C.OK){t t':TypeId}{e:C.EC}{l:List (C.α e)}{A:Option Addr}{c:Nat}(ht:C.P.underlying t=some (.slice (C.tid e)))(he:C.P.underlying (C.tid e)=some (.int .u8))(hs:C.P.underlying t'=some .string)(h1:C.sz e=1)(hb:B8R (C.enc e) l)(rd:Rd (C.enc e) (C.sz e) w A l.length c l) :
  (convert t t' (.slice A l.length c)).run C.P w = .ok (.string (strR (C.enc e) l)) w:=by
 have e0:(convert t t' (.slice A l.length c)).run C.P w=(Conv.bytesToString (.slice A l.length c)).run C.P w:=by
  simp[convert,run_underlying ht,run_underlying hs,run_underlying he]
 rw[e0]
 have fl:∀ l':List (C.α e),(flat C e l').length=l'.length:=fun l'=>by
  unfold flat
  induction l' with
  | nil=>rfl
  | cons x r ih=>rw[Zab,Zh,ih,hC.len,h1,ZQ];omega
 have cells:∀ a,A=some a->(loadCells a l.length).run C.P w = .ok (flat C e l).toArray w:=fun a ea=>by
  have key:=run_loadCells_list (P:=C.P) w a (flat C e l) fun j v hv=>by
   have hj:j<l.length:=by rw[<-fl];exact (Zt.1 hv).1
   obtain⟨b,o,eA,_,hr⟩:=rd.get (by omega);rw[ea] at eA;obtain rfl:=Zai eA;have hx:l[j]?=some l[j]:=Zk hj
   have hv0:(C.enc e l[j])[0]?=some v:=by
    have:∀ (l':List (C.α e)) (j:Nat) (x:C.α e),l'[j]?=some x->(flat C e l')[j]?=(C.enc e x)[0]?:=fun l'=>by
     induction l' with
     | nil=>intro j x hx;simp at hx
     | cons y r ih =>
      intro j x hx;have ly:(C.enc e y).length=1:=by rw[hC.len,h1]
      unfold flat;rw[Zab];cases j with
      | zero =>
       simp only[List.getElem?_cons_zero,Zl] at hx;subst hx;rw[ZB (by omega)]
      | succ j =>
       rw[ZU (by omega),ly,Nat.add_sub_cancel];exact ih j x (by simpa using hx)
    rw[<-this l j _ hx];exact hv
   have:=hr j _ hx 0 v hv0;rw[h1,Zci,Zbb] at this
   by_cases q:j=0
   .subst q
    simpa [Addr.add] using this
   .simpa [Addr.add,q] using this
  rw[fl] at key;exact key
 cases hA:A with
 | none =>
  have l0:l=[]:=by
   have:=rd.nul hA;have:=rd.cap;exact ZM (by omega)
  subst l0;simp[Conv.bytesToString,ZaJ,strR]
 | some a =>
  unfold Conv.bytesToString;simp only[Zag,cells a hA,Result.andThen,List.forIn_toArray];rw[YbS _ (by intro n r;simp[ZaJ]) _ _ (show ∀ c∈flat C e l,isB8 c=true from hb)];simp[ZaJ,strR,flat]
theorem YhJ {e:C.EC}(h:isU8 C e=true):C.P.underlying (C.tid e)=some (.int .u8):=by
 unfold isU8 at h;split at h
 .assumption
 .cases h
theorem Ymy {t t':TypeId}{x:Operand}(h:Pre C T H σ φ a w)(ho:o.op = .convert t t' x)(he:effS C Γ trunc T H o K):o.wp C.P a w (YbF C H σ φ a w K) Q:=by
 have hx:=h.rel x;simp only[effS,ho] at he;split at he<;>try (exact he.elim)
 rename_i n hcx;rw[hcx] at hx;split at he
 .rename_i hst;split at he<;>try (exact he.elim)
  rename_i own e l hH;split at he<;>try (exact he.elim)
  rename_i hc;obtain⟨hec,hu8,h1⟩:=hc;have ex:a.eval x=σ n:=hx;obtain⟨A,c,e1,rd⟩:=(h.sat.holds n _ hH).rd h.ok;have hr:=YiZ h.ok (YbN h.ok hec) (YhJ hu8) (YiY hst) h1 he.1 rd;exact YF (v:=.string (strR (C.enc e) l)) (w':=w) (by simp[execOp,ho,ex,e1,hr]) ⟨_,_,_,_,_,YaT (s:=.one (.at (.val (.string (strR (C.enc e) l))))) h (Th.refl h.sat) (show SV.rel σ (.one (.at (.val (.string (strR (C.enc e) l))))) (.string (strR (C.enc e) l)) from rfl) (by simp[SV.names,TV.names,At.names]) o.dst [],he.2⟩
 split at he<;>try (exact he.elim)
 rename_i e l hH;split at he<;>try (exact he.elim)
 rename_i hc;obtain⟨rfl,hec,hu8⟩:=hc;obtain⟨hpos,hK⟩:=he;have ex:a.eval x=σ n:=hx;obtain⟨q1,q3⟩:=h.sat.holds n _ hH;obtain⟨w',hr,hown,hgr,hsz⟩:=Yme (P:=C.P) t (C.tid e) (C.sz e) (YbN h.ok hec) (YhJ hu8) q1 hpos;refine YF (v:=σ n) (w':=w') (by simp[execOp,ho,ex,hr]) ⟨_,_,_,_,_,YbR h.ok h (Th.refl h.sat) hH (l':=l) (v':=σ n) (f':=φ n) o.dst (by omega) hgr.os hgr.tape hgr.output (fun k hk hno=>hgr.block k hk fun e'=>hno ((q3 k).2 e'.symm)) hown q3 (fun b hb=>.inl hb),hK⟩

theorem YdB (hG:GOK C Γ)(h:Pre C T H σ φ a w)(he:effS C Γ trunc T H o K):o.wp C.P a w (YbF C H σ φ a w K) Q:=by
 cases ho:o.op with
 | alloc t=>exact YrT h ho he
 | box t x=>exact Yxm h ho he
 | store t x y=>exact YrU h ho he
 | makeSlice t l c=>exact YiV h ho he
 | buildSlice t n parts=>exact YhH h ho he
 | load t x=>exact YrX h ho he
 | makeMap t r=>exact Ymx h ho he
 | mapUpdate t x i y=>exact YiX h ho he
 | convert t t' x=>exact Ymy h ho he
 | slice t x lo hi mx =>
  cases lo<;>cases hi<;>cases mx<;>first
   | (simp[effS,ho] at he;done)
   | exact YrW h ho he
 | call c =>
  cases hcal:c.callee with
  | value x=>exact YrY hG h ho hcal he trivial
  | invoke r m=>simp[effS,ho,hcal] at he
  | builtin b =>
   cases b<;>try (simp[effS,ho,hcal] at he;done)
   have he':=he;simp only[effS,ho,hcal] at he';split at he'<;>try (exact he'.elim)
   rename_i x y t t' hargs hty;split at he'<;>try (exact he'.elim)
   rename_i htt;subst htt;obtain⟨σ1,φ1,g,hr1,hn1⟩:=YaH h.ok h.sat t (h.rel x) (h.nm x);split at he'<;>try (exact he'.elim)
   rename_i n e0 hfx hec;rw[hfx] at hr1;have hx:a.eval x=σ1 n:=hr1;split at he'<;>try (exact he'.elim)
   case h_2 =>
    rename_i hh e ll hH;split at he'<;>try (exact he'.elim)
    rename_i hee _;subst hee;have hy:=h.rel y;split at he'<;>try (exact he'.elim)
    rename_i m hcy;rw[hcy] at hy;split at he'<;>try (exact he'.elim)
    rename_i hmn;split at he'<;>try (exact he'.elim)
    rename_i h2 e' l' hHm;split at he'<;>try (exact he'.elim)
    rename_i hee' _;subst hee';have ny:=h.nm y;rw[hcy] at ny;have hmlt:m<H.length:=ny m (by simp[SV.names,TV.names,At.names]);have ey:a.eval y=σ1 m:=by rw[g.agree m hmlt];exact hy
    exact Ymu h ho hcal hargs hty g hx hH hec ey hHm he'.1 he'.2
   case h_3 =>
    rename_i hh e k ll hH;split at he'<;>try (exact he'.elim)
    rename_i hee _;subst hee;have hy:=h.rel y;split at he'<;>try (exact he'.elim)
    rename_i m hcy;rw[hcy] at hy;split at he'<;>try (exact he'.elim)
    rename_i hmn;split at he'<;>try (exact he'.elim)
    rename_i h2 e' k' l' hHm;split at he'<;>try (exact he'.elim)
    rename_i hk0;subst hk0;split at he'<;>try (exact he'.elim)
    rename_i hee' _;subst hee';have ny:=h.nm y;rw[hcy] at ny;have hmlt:m<H.length:=ny m (by simp[SV.names,TV.names,At.names]);have ey:a.eval y=σ1 m:=by rw[g.agree m hmlt];exact hy
    exact Ymv h ho hcal hargs hty g hmn hx hH hec ey hHm he'.1 he'.2
   rename_i e l hH;split at he'<;>try (exact he'.elim)
   rename_i hee _;subst hee;have hy:=h.rel y;split at he'
   .rename_i hcy;rw[hcy] at hy;have ey:a.eval y = .slice none 0 0:=hy;exact YjZ h ho hcal hargs hty g hx hH hec ey (Rd.nil (h.ok.len e0)) (fun h=>absurd rfl h) (by simpa using he')
   .rename_i m hcy;rw[hcy] at hy;split at he'<;>try (exact he'.elim)
    rename_i hmn;split at he'<;>try (exact he'.elim)
    rename_i own e' l' hHm;split at he'<;>try (exact he'.elim)
    rename_i hee' _;subst hee';have ny:=h.nm y;rw[hcy] at ny;have hmlt:m<H.length:=ny m (by simp[SV.names,TV.names,At.names]);have ey:a.eval y=σ m:=hy;obtain⟨A,c',h1,h2⟩:=(g.sat.holds m _ hHm).rd h.ok;rw[g.agree m hmlt] at h1;exact YjZ h ho hcal hargs hty g hx hH hec (ey.trans h1) h2 (fun _=>he'.1) he'.2
   .exact he'.elim
 | _=>simp[effS,ho] at he
end
end
end Go.Proofs.YtedfbafngmicpaaGreat.Sx
