/- What stays of an arena, trees in it, a new arena. No program in sight. -/
import Derived.Test.YtedfbafngmicpaaGreatG0
import Derived.Test.YtedfbafngmicpaaGreatG2
import Derived.Test.YtedfbafngmicpaaGreatG1
noncomputable section
open Go.IntKind renaming i64 → Za,u32 → Ze
namespace Go.Proofs.YtedfbafngmicpaaGreat.Sx
open Go
section
section
variable {P:Program} {ops:Array Oper} {Q:Exit->Act->World->Prop} {S:World->Prop} {late:Nat->Bool}

def YbC (late:Nat->Bool)(listed:Array Bool):Prop:=∀ j,late j=true->listed.getD j true=false

def wpAnyL (P:Program)(ops:Array Oper)(Q:Exit->Act->World->Prop)(S:World->Prop)(late:Nat->Bool):Nat->Array Bool->Act->World->Prop
 | 0,listed,a,w=>Region.ready .any ops listed=[]/\Q .normal a w
 | fuel+1,listed,a,w=>(Region.ready .any ops listed=[]->Q .normal a w) ∧
  ∀ i∈Region.ready .any ops listed,wpOp P ops Q i (fun a' w'=>(late i=false->YbC late listed->S w->S w')/\wpAnyL P ops Q S late fuel (listed.setIfInBounds i true) a' w') a w

theorem wpAnyL.any:∀ {fuel:Nat} {listed:Array Bool} {a:Act} {w:World},wpAnyL P ops Q S late fuel listed a w->wpAny P .any ops Q fuel listed a w
 | 0,_,_,_,h=>h
 | _+1,_,_,_,h=>⟨h.1,fun i hi=>wpOp_mono (fun _ _ h'=>wpAnyL.any h'.2) (h.2 i hi)⟩

theorem Yeu {listed:Array Bool}{a:Act}{w:World}(hr:Region.ready .any ops listed=[])(h:Q .normal a w):∀ fuel,wpAnyL P ops Q S late fuel listed a w
 | 0=>⟨hr,h⟩
 | _+1=>⟨fun _=>h,by rw[hr];simp⟩

theorem Ygl {listed:Array Bool}{i:Nat}(hi:i∈Region.ready .any ops listed):i<listed.size:=by
 rcases Zad i listed.size with h' | h'
 .exact h'
 .have:=(mem_ready.1 hi).1;simp[ZbH h'] at this

theorem Yev {listed:Array Bool}{i j:Nat}{oj:Oper}(hj:j∈Region.ready .any ops listed)(hoj:ops[j]?=some oj)(hun:listed.getD i true=false):∀ e∈oj.after,Region.binds .any e=true->e.on≠i:=by
 intro e he hb heq;obtain⟨_,o',ho',hall⟩:=mem_ready.1 hj;rw[hoj] at ho';simp only[Zl] at ho';subst ho';have h2:=hall e he hb;rw[heq] at h2;rcases Zad i listed.size with h' | h'
 .simp[h'] at h2 hun;rw[hun] at h2;cases h2
 .simp[ZbH h'] at h2

theorem YcC {Si:World->Prop}{i:Nat}{oi:Oper}{v:Value}(hi:ops[i]?=some oi)(hsel:∀ (j:Nat) (o:Oper) cs b,ops[j]?=some o->o.op≠.select cs b)(hQ:∀ c a w,Q (.panic c) (a.put oi.dst v) w->Q (.panic c) a w)(hli:late i=false)(hSi:(∀ w,Si w)∨((∀ w,S w->Si w)/\(∀ w,Si w->S w)/\∀ (j:Nat) (oj:Oper),ops[j]?=some oj->late j=true->∃ e∈oj.after,Region.binds .any e=true/\e.on=i)) :
  ∀ (fuel:Nat) (listed:Array Bool) (a:Act) (w:World),((∀ w,Si w)∨YbC late listed) →
   (∀ (j:Nat) (oj:Oper),ops[j]?=some oj->j≠i->listed.getD j true=false->(∀ e∈oj.after,Region.binds .any e=true->e.on≠i)->oi.apart ops oj=true) →
   i∈Region.ready .any ops listed->YieldsIf P ops Si oi v a->Si w →
   wpAnyL P ops Q S late fuel (listed.setIfInBounds i true) (a.put oi.dst v) w->wpAnyL P ops Q S late (fuel+1) listed a w:=by
 intro fuel
 induction fuel with
 | zero =>
  intro listed a w _ _ hr hy hS h;refine⟨fun h0=>(by rw[h0] at hr;cases hr),fun j hj=>?_⟩
  by_cases hji:j=i
  .subst hji;exact hy.wpOp hi hS ⟨fun _ _ h=>h,h⟩
  .have h1:=ready_mono hj hji;rw[h.1] at h1;cases h1
 | succ fuel ih =>
  intro listed a w hNL hfree hr hy hS h;refine⟨fun h0=>(by rw[h0] at hr;cases hr),fun j hj=>?_⟩
  by_cases hji:j=i
  .subst hji;exact hy.wpOp hi hS ⟨fun _ _ h=>h,h⟩
  .obtain⟨hjun,oj,hoj,_⟩:=mem_ready.1 hj;have hnot:=Yev hj hoj (mem_ready.1 hr).1;have hp:=wpOp_putIf hoj (hfree j oj hoj hji hjun hnot) (fun cs b=>hsel i oi cs b hi) (fun cs b=>hsel j oj cs b hoj) hQ hy (h.2 j (ready_mono hj hji));refine wpOp_mono (fun a' w' h3=>?_) hp;obtain⟨hy',hSj,hrest⟩:=h3;have hlt:=Ygl hr
   have hset:(YbC late listed)->YbC late (listed.setIfInBounds i true):=fun hl k hk=>by
    by_cases hki:i=k
    .subst hki;rw[hli] at hk;cases hk
    .rw[getD_set_ne true hki];exact hl k hk
   have hjl:(∀ w,Si w)∨(YbC late listed/\late j=false):=by
    rcases hSi with hSi|⟨hSi,hSi',hl⟩
    .exact .inl hSi
    .rcases hNL with h0|hNL
     .exact .inl h0
     .refine .inr ⟨hNL,?_⟩;cases hlj:late j with
      | false=>rfl
      | true =>
       obtain⟨e,he,hb,heq⟩:=hl j oj hoj hlj;exact absurd heq (hnot e he hb)
   refine⟨fun h1 h2 h4=>hSj h1 (hset h2) h4,ih _ a' w' ?_ (fun k ok hk hki hun hno=>hfree k ok hk hki ?_ hno) (ready_mono hr (Zbu hji)) hy' ?_ ?_⟩
   .rcases hjl with h0|⟨hN,hlj⟩
    .exact .inl h0
    .refine .inr fun k hk=>?_
     by_cases hjk:j=k
     .subst hjk;rw[hlj] at hk;cases hk
     .rw[getD_set_ne true hjk];exact hN k hk
   .by_cases hjk:j=k
    .subst hjk;exact hjun
    .rw[getD_set_ne true hjk] at hun;exact hun
   .rcases hSi with hSi|⟨hSi,hSi',hl⟩
    .exact hSi _
    .rcases hjl with h0|⟨hN,hlj⟩
     .exact h0 _
     .exact hSi _ (hSj hlj (hset hN) (hSi' _ hS))
   .rw[Array.setIfInBounds_comm _ _ hji];exact hrest
end

section
variable {C:Ctx}

structure Base (C:Ctx) where
 H:LH C
 σ:Nat->Value
 φ:Nat->Nat->Prop
 w:World

structure St (C:Ctx) (B:Base C) (W:LN) (T:List SV) (H:LH C) (σ:Nat->Value) (φ:Nat->Nat->Prop) (a:Act) (w:World):Prop where
 pre:Pre C T H σ φ a w
 dfs:a.defers=[]
 adv:Adv B.φ B.w φ w
 len:B.H.length<=H.length
 agree:∀ n,n<B.H.length->Yn B.H n=false->σ n=B.σ n
 own:∀ n,n<B.H.length->Yn H n=true->Yn B.H n=true
 stand:∀ n,n<B.H.length->n∉W->σ n=B.σ n/\(∀ b,Rdb H σ n b↔Rdb B.H B.σ n b)/\∀ b,Rdb B.H B.σ n b->b<B.w.heap.size->w.heap[b]?=B.w.heap[b]?

variable {W:LN} {B:Base C} {T:List SV} {H:LH C} {σ:Nat->Value} {φ:Nat->Nat->Prop} {a:Act} {w:World} {o:Oper}

theorem St.step (h:St C B W T H σ φ a w){ts:LN}{T':List SV}{H':LH C}{σ':Nat->Value}{φ':Nat->Nat->Prop}{a':Act}{w':World}(e:EOut C H σ φ a w ts T' H' σ' φ' a' w'):St C B (ts++W) T' H' σ' φ' a' w' where
 pre:=⟨h.pre.ok,e.tm,e.tcl,e.sat⟩
 dfs:=e.dfs.trans h.dfs
 adv:=h.adv.trans e.adv
 len:=Zap h.len e.len
 agree n hn ho:=(e.agree n (ZN hn h.len) (by
  cases hh:Yn H n with
  | false=>rfl
  | true=>rw[h.own n hn hh] at ho;cases ho)).trans (h.agree n hn ho)
 own n hn ho:=h.own n hn (e.own n (ZN hn h.len) ho)
 stand n hn hW:=by
  simp only[Zx,not_or] at hW;obtain⟨h0,h1,h2⟩:=h.stand n hn hW.2;have hn':=ZN hn h.len;obtain⟨h3,h4⟩:=e.touch n hn' hW.1;exact⟨(e.still n hn' hW.1).trans h0,fun b=>(h3 b).trans (h1 b),fun b hb hlt=>(h4 b ((h1 b).2 hb) (ZN hlt h.adv.size)).trans (h2 b hb hlt)⟩

theorem St.withT (h:St C B W T H σ φ a w){T':List SV}(hp:Pre C T' H σ φ a w):St C B W T' H σ φ a w:=⟨hp,h.dfs,h.adv,h.len,h.agree,h.own,h.stand⟩

theorem St.drawn (h:St C B W T H σ φ a w)(k:Nat):St C B W T H σ φ a { w with drawn:=k } where
 pre:=⟨h.pre.ok,h.pre.tm,h.pre.tcl,h.pre.sat.drawn h.pre.ok k⟩
 dfs:=h.dfs
 adv:=h.adv.trans ⟨rfl,rfl,rfl,Zw _,fun _ _ _=>rfl,fun n _ hb=>.inl ⟨n,hb⟩⟩
 len:=h.len
 agree:=h.agree
 own:=h.own
 stand:=h.stand

theorem Ygm (h:Pre C T H σ φ a w)(dst:Option Nat)(ts:LN):EOut C H σ φ a w ts (setT T dst YfA) H σ φ (a.put dst undef) w :=
 YaT h (Th.refl h.sat) (s:=YfA) rfl (by simp[YfA,SV.names,TV.names,At.names]) dst ts

theorem Ykc:∀ {ps:List Prop} {k:Prop},reqs ps k->(∀ p∈ps,p)/\k:=by
 intro ps
 induction ps with
 | nil=>intro k h;exact⟨fun p hp=>by simp at hp,h⟩
 | cons p ps ih =>
  intro k h;obtain⟨h1,h2⟩:=h;obtain⟨h3,h4⟩:=ih h2
  exact⟨fun q hq=>by
   rcases ZH.1 hq with rfl|hq
   .exact h1
   .exact h3 q hq,h4⟩

theorem Ymz {b:Bool}{t f:Prop}:brS b t f↔(b=true->t)/\(b=false->f):=by cases b<;>simp[brS]

theorem YbT {ops:Array Oper}{yes no:List SV->Prop}(hg:Yhx ops T o yes no)(h:Pre C T H σ φ a w) :
  (Region.wanted o (yielded ops a.tmps)=true/\∃ T1,Pre C T1 H σ φ a w/\yes T1)∨(Region.wanted o (yielded ops a.tmps)=false/\∃ T1,Pre C T1 H σ φ a w/\no T1):=by
 unfold Yhx at hg;split at hg
 .rename_i hgd;exact .inl ⟨by simp[Region.wanted,hgd],T,h,hg⟩
 .rename_i j want hgd;split at hg<;>try (exact hg.elim)
  rename_i d hd;split at hg<;>try (exact hg.elim)
  case h_2 =>
   rename_i cs hb
   have hT:T[d]?=some (.one (.at (.val (.tuple cs)))):=by
    rw[Zb] at hb;cases hT:T[d]? with
    | none=>rw[hT] at hb;simp at hb
    | some x=>rw[hT] at hb;simp at hb;rw[hb]
   obtain⟨v,hv,hr⟩:=h.tm.get hT;have hvb:v = .tuple cs:=hr;subst hvb
   have hy:yielded ops a.tmps j=none:=by
    rw[ZaR] at hv;simp[yielded,hd,hv]
   exact .inr ⟨by simp[Region.wanted,hgd,hy],_,h,hg⟩
  rename_i b hb
  have hT:T[d]?=some (.one (.at (.val (.bool b)))):=by
   rw[Zb] at hb;cases hT:T[d]? with
   | none=>rw[hT] at hb;simp at hb
   | some x=>rw[hT] at hb;simp at hb;rw[hb]
  obtain⟨v,hv,hr⟩:=h.tm.get hT;have hvb:v = .bool b:=hr;subst hvb
  have hy:yielded ops a.tmps j=some b:=by
   rw[ZaR] at hv;simp[yielded,hd,hv]
  have hset:∀ b',b=b'->Pre C (T.set d (vb b')) H σ φ a w:=fun b' hb'=>⟨h.ok,by
   have:=h.tm.set d (a:=vb b') (b:=.bool b) (by subst hb';rfl)
   have e:a.tmps.toList.set d (.bool b)=a.tmps.toList:=by
    apply ZaI;intro k;rw[Zbk];split
    .rename_i hk;subst hk;split
     .exact hv.symm
     .rename_i hlt;rw[ZV (by omega)] at hv;cases hv
    .rfl
   rw[e] at this;exact this,fun s hs m hm=>by
   rcases Zbw hs with hs|rfl
   .exact h.tcl s hs m hm
   .simp[vb,SV.names,TV.names,At.names] at hm,h.sat⟩
  rw[Ymz] at hg;cases b with
  | true =>
   have hg:=hg.1 rfl;cases want with
   | true=>exact .inl ⟨by simp[Region.wanted,hgd,hy],_,hset true rfl,hg⟩
   | false=>exact .inr ⟨by simp[Region.wanted,hgd,hy],_,hset true rfl,hg⟩
  | false =>
   have hg:=hg.2 rfl;cases want with
   | true=>exact .inr ⟨by simp[Region.wanted,hgd,hy],_,hset false rfl,hg⟩
   | false=>exact .inl ⟨by simp[Region.wanted,hgd,hy],_,hset false rfl,hg⟩

variable {Γ:List (FuncId × Tfm C)} {trunc:Nat->Bool} {K:EK C} {Q:Exit->Act->World->Prop}

theorem YhK (hC:C.OK)(hs:Sat C σ φ w H){n:Nat}{e:C.EC}{l:List (C.α e)}(hH:H[n]?=some (.row false e l)) :
  Th C σ φ H (fun k=>if k=H.length then σ n else σ k) (fun k=>if k=H.length then (fun _=>False) else φ k) (H++[.row false e l]) w :=
 Th.view hC hs _ _ (fun _=>⟨(hs.holds n _ hH).1,fun _ h=>h⟩) rfl (fun b hb m hm=>hs.immr n e l hH hb.1 b hb.2 m hm)

theorem Yew (hG:GOK C Γ)(h:Pre C T H σ φ a w)(hs:YoR C Γ trunc T H o K):o.wp C.P a w (YbF C H σ φ a w K) Q:=by
 have hq:∀ {x:Q3 C},x=Yr C T H o->(match x with|some (ps,s,H')=>reqs ps (K [] (setT T o.dst s) H')|none=>effS C Γ trunc T H o K)->o.wp C.P a w (YbF C H σ φ a w K) Q:=by
  intro x hx hm;split at hm
  .rename_i ps s H' ;obtain⟨h1,h2⟩:=Ykc hm;obtain⟨v,σ',φ',g,hv,hn,hrun⟩:=YdR h h1 hx.symm;exact YF (hrun w fun _ _ _ _=>rfl) ⟨_,_,_,_,_,YaT h g hv hn o.dst [],h2⟩
  .exact YdB hG h hm
 unfold YoR at hs;split at hs
 .split at hs
  .exact YdB hG h hs
  .split at hs
   .rename_i ps s H' hx;exact hq (x:=some (ps,s,H')) hx.symm hs
   .exact hs.elim
 .rename_i x ho;split at hs
  .split at hs<;>try (exact hs.elim)
   rename_i n hn;split at hs
   case h_2 =>
    split at hs
    .rename_i ps s H' hx;exact hq (x:=some (ps,s,H')) hx.symm hs
    .exact hs.elim
   rename_i e l hH;have hr:=h.rel x;rw[hn] at hr;have ev:a.eval x=σ n:=hr;exact YF (v:=a.eval x) (w':=w) (by simp[execOp,ho]) ⟨_,_,_,_,_,YaT h (YhK h.ok h.sat hH) (s:=.one (.at (.slc H.length))) (by show a.eval x=_;simp[ev]) (by intro m hm;simp[SV.names,TV.names,At.names] at hm;subst hm;simp) o.dst [],hs⟩
  .split at hs
   .rename_i ps s H' hx;exact hq (x:=some (ps,s,H')) hx.symm hs
   .exact hs.elim
 .split at hs
  .rename_i ps s H' hx;exact hq (x:=some (ps,s,H')) hx.symm hs
  .exact YdB hG h hs

theorem Ylp (hG:GOK C Γ){ops:Array Oper}{K:EK C}(hQ:∀ {W T H σ φ a w},St C B W T H σ φ a w->K W T H->Q .normal a w):∀ (rest:List Oper) {W:LN} {T:List SV} {H:LH C} {σ:Nat->Value} {φ:Nat->Nat->Prop} {a:Act} {w:World},
  St C B W T H σ φ a w->seqS C Γ trunc ops K rest W T H->wpList C.P ops Q rest a w:=by
 intro rest
 induction rest with
 | nil=>intro W T H σ φ a w h hs;exact hQ h hs
 | cons o rest ih =>
  intro W T H σ φ a w h hs;simp only[seqS] at hs;unfold wpList;rcases YbT hs h.pre with ⟨hw,T1,hp,hy⟩|⟨hw,T1,hp,hy⟩
  .rw[Zj hw];refine .inl (Oper.wp_mono (fun a' w' hh=>?_) (Yew hG hp hy));obtain⟨ts,T',H',σ',φ',he,hk⟩:=hh;exact ih ((h.withT hp).step he) hk
  .rw[Zf (by rw[hw];simp)];exact ih ((h.withT hp).step (Ygm hp o.dst [])) hy

def YmA (H:LH C)(σ:Nat->Value)(Z:LN)(ws w:World):Prop:=∀ n∈Z,∀ b,Rdb H σ n b->w.heap[b]?=ws.heap[b]?

theorem Ypc:∀ {l:List Prop},conj l->∀ p∈l,p:=by
 intro l
 induction l with
 | nil=>intro _ p hp;simp at hp
 | cons q l ih =>
  intro h p hp;cases l with
  | nil =>
   rcases ZH.1 hp with hp|hp
   .subst hp;exact h
   .cases hp
  | cons r l =>
   rcases ZH.1 hp with hp|hp
   .subst hp;exact h.1
   .exact ih h.2 p hp

theorem YfF {ops:Array Oper}{j:Nat}(h:Ybh trunc ops j=true){i:Nat}{oi:Oper}(hi:ops[i]?=some oi)(hl:YfB oi=true){oj:Oper}(hj:ops[j]?=some oj):∃ e∈oj.after,Region.binds .any e=true/\e.on=i:=by
 have hlt:i<ops.size:=(Zak.1 hi).1;unfold Ybh at h;rw[hj] at h;simp only[Zar] at h;have h1:=Zao.1 h.2 i (ZaK.2 hlt);simp only[hi,hl,Bool.not_true,Bool.false_or] at h1;obtain⟨e,he,h2⟩:=Array.any_eq_true'.1 h1;simp only[Zar,beq_iff_eq] at h2;exact⟨e,he,h2.2,h2.1⟩

theorem Yja {ops:Array Oper}{i:Nat}{oi:Oper}(hi:ops[i]?=some oi)(h:YjR trunc oi=true):Ybh trunc ops i=false:=by
 unfold Ybh;rw[hi];simp[h]

theorem Yjb {Z:LN}(h:YiO T Z trunc o=true):YjR trunc o=true:=by
 unfold YiO at h;simp only[Zar] at h;exact h.1.1

theorem Yfu {Z:LN}{ops:Array Oper}{listed:Array Bool}:∀ {l:LN} {i:Nat},YbK T Z trunc ops listed l=some i->i∈l/\∃ o,ops[i]?=some o/\YiO T Z trunc o=true/\Region.free .any ops listed i=true:=by
 intro l
 induction l with
 | nil=>intro i h;simp[YbK] at h
 | cons k r ih =>
  intro i h;simp only[YbK] at h;split at h
  .rename_i o ho;split at h
   .rename_i hc;simp only[Zl] at h;subst h;simp only[Zar] at hc;exact⟨ZP,o,ho,hc.1,hc.2⟩
   .obtain⟨h1,h2⟩:=ih h;exact⟨Zz _ h1,h2⟩
  .cases h

theorem Yex {n:Nat}(h:YL T o=some n):YfB o=true:=by
 unfold YL at h;unfold YfB;split at h
 .rename_i t x heq;simp only[]
 .rename_i t x i ok heq;simp only[]
 .cases h

theorem Ylq {Z:LN}(h:YiO T Z trunc o=true){n:Nat}(hn:YL T o=some n):n∈Z:=by
 unfold YiO at h;simp only[Zar] at h;have:=h.2;rw[hn] at this
 simpa using this

theorem Ylr (hG:GOK C Γ){ops:Array Oper}{Z:LN}{K:EK C}(hQ:∀ {W T H σ φ a w},St C B W T H σ φ a w->K W T H->Q .normal a w)(hpanic:∀ c a w,¬ Q (.panic c) a w)(hsel:Region.noSelect ops=true){Hs:LH C}{σs:Nat->Value}{ws:World}(hZ:∀ n∈Z,n<Hs.length) :
  ∀ (fuel:Nat) {listed:Array Bool} {W:LN} {T:List SV} {H:LH C} {σ:Nat->Value} {φ:Nat->Nat->Prop} {a:Act} {w:World},St C B W T H σ φ a w->Hs.length<=H.length →
   (YbC (Ybh trunc ops) listed->YmA Hs σs Z ws w/\∀ n∈Z,∀ b,Rdb H σ n b↔Rdb Hs σs n b) →
   (∀ (i:Nat) (oi:Oper),ops[i]?=some oi->YfB oi=true->listed.getD i true=false->YbC (Ybh trunc ops) listed) →
   anyS C Γ trunc ops Z K fuel listed W T H->wpAnyL C.P ops Q (YmA Hs σs Z ws) (Ybh trunc ops) fuel listed a w:=by
 intro fuel
 induction fuel with
 | zero =>
  intro listed W T H σ φ a w h hlen _ _ hs;simp only[anyS] at hs;split at hs
  .rename_i hr;exact Yeu hr (hQ h hs) 0
  .exact hs.elim
 | succ fuel ih =>
  intro listed W T H σ φ a w h hlen hS hL hs;simp only[anyS] at hs;split at hs
  .rename_i hr;exact Yeu hr (hQ h hs) _
  .rename_i r rs hr
   have hback:∀ {i:Nat},i∈Region.ready .any ops listed->YbC (Ybh trunc ops) (listed.setIfInBounds i true)->YbC (Ybh trunc ops) listed/\Ybh trunc ops i=false:=by
    intro i hi hN;have hlt:=Ygl hi
    have hli:Ybh trunc ops i=false:=by
     cases hl:Ybh trunc ops i with
     | false=>rfl
     | true =>
      have:=hN i hl;simp[hlt] at this
    refine⟨fun k hk=>?_,hli⟩;have:=hN k hk
    by_cases hik:i=k
    .subst hik;rw[hli] at hk;cases hk
    .rwa [getD_set_ne true hik] at this
   have hLn:∀ {i:Nat},i∈Region.ready .any ops listed->∀ (k:Nat) (ok:Oper),ops[k]?=some ok->YfB ok=true->(listed.setIfInBounds i true).getD k true=false->YbC (Ybh trunc ops) (listed.setIfInBounds i true):=by
    intro i hi k ok hk hkl hku;have hlt:=Ygl hi;have hik:i≠k:=fun e=>by subst e;simp[hlt] at hku
    rw[getD_set_ne true hik] at hku;have hN:=hL k ok hk hkl hku;obtain⟨_,oi,hoi,_⟩:=mem_ready.1 hi;intro j hj
    by_cases hij:i=j
    .subst hij;obtain⟨e,he,hb,heq⟩:=YfF hj hk hkl hoi;exact absurd heq (Yev hi hoi hku e he hb)
    .rw[getD_set_ne true hij];exact hN j hj
   have hstand:∀ {T1:List SV} {i:Nat} {T':List SV} {H':LH C} {σ':Nat->Value} {φ':Nat->Nat->Prop} {a':Act} {w':World} {ts:LN},EOut C H σ φ a w ts T' H' σ' φ' a' w'->ts.any Z.contains=false->YbC (Ybh trunc ops) listed →
     YmA Hs σs Z ws w'/\∀ n∈Z,∀ b,Rdb H' σ' n b↔Rdb Hs σs n b:=by
    intro T1 i T' H' σ' φ' a' w' ts he hts hN;obtain⟨h1,h2⟩:=hS hN
    have hnt:∀ n∈Z,n∉ts:=fun n hn hnt=>by
     have:=List.any_eq_false.1 hts n hnt;simp[hn] at this
    have hlt:∀ n∈Z,n<H.length:=fun n hn=>ZN (hZ n hn) hlen
    refine⟨fun n hn b hb=>?_,fun n hn b=>((he.touch n (hlt n hn) (hnt n hn)).1 b).trans (h2 n hn b)⟩;have hb':=(h2 n hn b).2 hb
    have hbs:b<w.heap.size:=by
     rcases hb' with ⟨e1,cells,hc⟩|⟨e1,own,e,l,hc,hpos⟩|⟨e1,kk,vk,l,hc⟩|⟨e1,hh,e,ll,hc,hpos⟩|⟨e1,kk,l,hc⟩
     .obtain⟨b',t,cs,h3,h4,h5,_⟩:=h.pre.sat.holds n _ hc;rw[e1] at h3;obtain rfl:b=b':=by simpa using h3
      exact (Zak.1 h5).1
     .cases own with
      | true=>exact (h.pre.sat.holds n _ hc).1.lt b e1
      | false=>exact (h.pre.sat.holds n _ hc).1.lt hpos e1
     .obtain⟨b',es,ck,h3,h4,h5,_⟩:=h.pre.sat.holds n _ hc;rw[e1] at h3;obtain rfl:b=b':=by simpa using h3
      exact (Zak.1 h5).1
     .obtain⟨_,⟨vs,h3,_⟩,_⟩:=h.pre.sat.holds n _ hc;exact (h3.lt b e1).2
     .obtain⟨b',t,cs,h3,h4,h5,_⟩:=h.pre.sat.holds n _ hc;rw[e1] at h3;obtain rfl:b=b':=by simpa using h3
      exact (Zak.1 h5).1
    exact ((he.touch n (hlt n hn) (hnt n hn)).2 b hb' hbs).trans (h1 n hn b hb)
   split at hs
   .rename_i i hft;obtain⟨him,o,hoi,htk0,hfree⟩:=Yfu hft;rw[<-hr] at him;simp only[hoi] at hs;have hsel':=Region.noSelect_spec hsel;have hfree':=Region.free_spec hoi hfree;have hli:=Yja (trunc:=trunc) hoi (Yjb htk0);rcases YbT hs h.pre with ⟨hw,T1,hp,hy⟩|⟨hw,T1,hp,hy⟩
    .split at hy<;>try (exact hy.elim)
     rename_i ps s H' hx;split at hx<;>try (cases hx;done)
     rename_i htk;obtain⟨h1,h2⟩:=Ykc hy;obtain⟨v,σ',φ',g,hv,hn,hrun⟩:=YdR hp h1 hx;have he:=YaT hp g hv hn o.dst [];have hnext:=ih ((h.withT hp).step he) (Zap hlen he.len) (fun hN=>hstand (T1:=T1) (i:=i) he (by simp) (hback him hN).1) (hLn him) h2;cases hrn:YL T1 o with
     | none =>
      exact YcC (Si:=fun _=>True) hoi hsel' (fun c a w hc=>absurd hc (hpanic c _ w)) hli (.inl fun _=>trivial) fuel listed a w (.inl fun _=>trivial) hfree' him (.inl ⟨hw,fun w' _=>hrun w' fun n hn=>by rw[hrn] at hn;cases hn⟩) trivial hnext
     | some n =>
      have hld:=Yex hrn;have hN:=hL i o hoi hld (mem_ready.1 him).1;obtain⟨hS1,hS2⟩:=hS hN;have hnZ:n∈Z:=Ylq htk hrn
      exact YcC (Si:=YmA Hs σs Z ws) hoi hsel' (fun c a w hc=>absurd hc (hpanic c _ w)) hli (.inr ⟨fun _ h=>h,fun _ h=>h,fun j oj hj hl=>YfF hl hoi hld hj⟩) fuel listed a w (.inr hN) hfree' him (.inl ⟨hw,fun w' hw'=>hrun w' fun m hm b hb=>by
       rw[hrn] at hm;simp only[Zl] at hm;subst hm;have hb':=(hS2 n hnZ b).1 hb;exact (hw' n hnZ b hb').trans (hS1 n hnZ b hb').symm⟩) hS1 hnext
    .have he:=Ygm hp o.dst [];have hnext:=ih ((h.withT hp).step he) (Zap hlen he.len) (fun hN=>hstand (T1:=T1) (i:=i) he (by simp) (hback him hN).1) (hLn him) hy;exact YcC (Si:=fun _=>True) hoi hsel' (fun c a w hc=>absurd hc (hpanic c _ w)) hli (.inl fun _=>trivial) fuel listed a w (.inl fun _=>trivial) hfree' him (.inr ⟨hw,rfl⟩) trivial hnext
   .refine⟨fun h0=>(by rw[h0] at hr;cases hr),fun i hi=>?_⟩;have hi':=hi;rw[hr] at hi';have hp:=Ypc hs _ (ZF.2 ⟨i,hi',rfl⟩);obtain⟨_,oi,hoi,_⟩:=mem_ready.1 hi;simp only[hoi] at hp;unfold wpOp;simp only[hoi];rcases YbT hp h.pre with ⟨hw,T1,hpre,hy⟩|⟨hw,T1,hpre,hy⟩
    .rw[Zj hw];refine .inl (Oper.wp_mono (fun a' w' hh=>?_) (Yew hG hpre hy));obtain⟨ts,T',H',σ',φ',he,hk⟩:=hh;split at hk
     .rename_i hc;have hc':Ybh trunc ops i=true∨ts.any Z.contains=false:=by simpa using hc
      refine⟨fun hl hN _=>?_,ih ((h.withT hpre).step he) (Zap hlen he.len) (fun hN=>?_) (hLn hi) hk⟩
      .rcases hc' with hc' | hc'
       .rw[hl] at hc';cases hc'
       .exact (hstand (T1:=T1) (i:=i) he hc' hN).1
      .obtain⟨hN',hl⟩:=hback hi hN;rcases hc' with hc' | hc'
       .rw[hl] at hc';cases hc'
       .exact hstand (T1:=T1) (i:=i) he hc' hN'
     .exact hk.elim
    .rw[Zf (by rw[hw];simp)];have he:=Ygm hpre oi.dst [];exact⟨fun _ _ hS0=>hS0,ih ((h.withT hpre).step he) (Zap hlen he.len) (fun hN=>hstand (T1:=T1) (i:=i) he (by simp) (hback hi hN).1) (hLn hi) hy⟩
end
end
section
section
variable {C:Ctx}
variable {H H':LH C} {σ:Nat->Value} {φ φ':Nat->Nat->Prop} {w w':World}

theorem Yp:∀ {l:LN} {n k:Nat},Yab n l=some k->l[k]?=some n:=by
 intro l
 induction l with
 | nil=>intro n k h;simp[Yab] at h
 | cons m l ih =>
  intro n k h;simp only[Yab] at h;split at h
  .rename_i e;simp only[Zl] at h;subst h e;rfl
  .simp only[ZA] at h;obtain⟨j,h1,rfl⟩:=h
   simpa using ih h1
theorem YcD:∀ {l:LN},l.Nodup->∀ {n k:Nat},l[k]?=some n->Yab n l=some k:=by
 intro l
 induction l with
 | nil=>intro _ n k h;simp at h
 | cons m l ih =>
  intro hn n k h;rw[List.nodup_cons] at hn;cases k with
  | zero=>simp at h;subst h;simp[Yab]
  | succ k =>
   simp at h;have hne:¬ m=n:=fun e=>hn.1 (e ▸ ZD h)
   simp[Yab,hne,ih hn.2 h]
theorem YfG {l:LN}{n:Nat}(h:Yab n l=none):n∉l:=by
 induction l with
 | nil=>simp
 | cons m l ih =>
  simp only[Yab] at h;split at h
  .cases h
  .rename_i e;simp only[Option.map_eq_none_iff] at h;simp only[ZH,not_or];exact⟨fun e'=>e e'.symm,ih h⟩

variable {ρ:Nat->Option Nat} {σ':Nat->Value}

theorem Yey:∀ {l r:LN},Yhz ρ l=some r->(∀ n m,ρ n=some m->σ' m=σ n)->r.map σ'=l.map σ/\(∀ m∈r,∃ n∈l,ρ n=some m):=by
 intro l
 induction l with
 | nil=>intro r h _;simp[Yhz] at h;subst h;exact⟨rfl,by simp⟩
 | cons n l ih =>
  intro r h hρ;simp only[Yhz] at h;split at h<;>try (cases h;done)
  rename_i m r' h1 h2;simp only[Zl] at h;subst h;obtain⟨e1,e2⟩:=ih h2 hρ;refine⟨by simp[e1,hρ n m h1],fun k hk=>?_⟩;rcases ZH.1 hk with rfl|hk
  .exact⟨n,by simp,h1⟩
  .obtain⟨n',hn',e⟩:=e2 k hk;exact⟨n',by simp[hn'],e⟩

theorem At.ren_rel (hρ:∀ n m,ρ n=some m->σ' m=σ n){x:At}{v:Value}(h:x.rel σ v):(x.ren ρ).rel σ' v:=by
 cases x with
 | any=>trivial
 | val u=>exact h
 | ptr n off =>
  simp only[At.ren];split
  .rename_i m hm;obtain⟨b,h1,h2⟩:=h;exact⟨b,(hρ n m hm).trans h1,h2⟩
  .trivial
 | eptr n i sz off =>
  simp only[At.ren];split
  .rename_i m hm;obtain⟨b,o,len,cap,h1,h2⟩:=h;exact⟨b,o,len,cap,(hρ n m hm).trans h1,h2⟩
  .trivial
 | slc n =>
  simp only[At.ren];split
  .rename_i m hm;exact (show v=σ n from h).trans (hρ n m hm).symm
  .trivial
 | fn f cs =>
  simp only[At.ren];split
  .rename_i l hl;obtain⟨e1,e2⟩:=Yey hl hρ;refine⟨by rw[e1];exact h.1,fun c hc=>?_⟩;obtain⟨n,hn,e⟩:=e2 c hc;rw[hρ n c e];exact h.2 n hn
  .trivial
theorem At.ren_names {x:At}:∀ m∈(x.ren ρ).names,∃ n∈x.names,ρ n=some m:=by
 cases x with
 | any=>simp[At.ren,At.names]
 | val u=>simp[At.ren,At.names]
 | ptr n off=>simp only[At.ren];split<;>simp_all [At.names]
 | eptr n i sz off=>simp only[At.ren];split<;>simp_all [At.names]
 | slc n=>simp only[At.ren];split<;>simp_all [At.names]
 | fn f cs =>
  simp only[At.ren];split
  .rename_i l hl;intro m hm;exact (Yey (σ:=fun _=>undef) (σ':=fun _=>undef) hl (fun _ _ _=>rfl)).2 m hm
  .simp[At.names]
theorem Ykd (hρ:∀ n m,ρ n=some m->σ' m=σ n){l:List At}{vs:List Value}(h:Rels (At.rel σ) l vs):Rels (At.rel σ') (l.map (At.ren ρ)) vs :=
 ⟨by simp[h.1],fun i x v hx hv=>by
  rw[Zv] at hx;cases hl:l[i]? with
  | none=>rw[hl] at hx;cases hx
  | some y=>rw[hl] at hx;simp at hx;subst hx;exact At.ren_rel hρ (h.2 i y v hl hv)⟩
theorem TV.ren_rel (hρ:∀ n m,ρ n=some m->σ' m=σ n){x:TV}{v:Value}(h:x.rel σ v):(x.ren ρ).rel σ' v:=by
 cases x with
 | «at» y=>exact At.ren_rel hρ h
 | agg l=>obtain⟨cs,e,hr⟩:=h;exact⟨cs,e,Ykd hρ hr⟩
theorem TV.ren_names {x:TV}:∀ m∈(x.ren ρ).names,∃ n∈x.names,ρ n=some m:=by
 cases x with
 | «at» y=>exact At.ren_names
 | agg l =>
  intro m hm;simp only[TV.ren,TV.names,ZK,ZF] at hm;obtain⟨_,⟨y,hy,rfl⟩,hm⟩:=hm;obtain⟨n,hn,e⟩:=At.ren_names m hm;exact⟨n,ZK.2 ⟨y,hy,hn⟩,e⟩
theorem SV.ren_rel (hρ:∀ n m,ρ n=some m->σ' m=σ n){x:SV}{v:Value}(h:x.rel σ v):(x.ren ρ).rel σ' v:=by
 cases x with
 | one y=>exact TV.ren_rel hρ h
 | tup l =>
  obtain⟨vs,e,hr⟩:=h;refine⟨vs,e,by simp[hr.1],fun i x v hx hv=>?_⟩;rw[Zv] at hx;cases hl:l[i]? with
  | none=>rw[hl] at hx;cases hx
  | some y=>rw[hl] at hx;simp at hx;subst hx;exact TV.ren_rel hρ (hr.2 i y v hl hv)
theorem SV.ren_names {x:SV}:∀ m∈(x.ren ρ).names,∃ n∈x.names,ρ n=some m:=by
 cases x with
 | one y=>exact TV.ren_names
 | tup l =>
  intro m hm;simp only[SV.ren,SV.names,ZK,ZF] at hm;obtain⟨_,⟨y,hy,rfl⟩,hm⟩:=hm;obtain⟨n,hn,e⟩:=TV.ren_names m hm;exact⟨n,ZK.2 ⟨y,hy,hn⟩,e⟩
theorem Ta.ren_names {c:Ta C}:∀ m∈(c.ren ρ).names,∃ n∈c.names,ρ n=some m:=by
 cases c with
 | box l =>
  intro m hm;simp only[Ta.ren,Ta.names,ZK,ZF] at hm;obtain⟨_,⟨y,hy,rfl⟩,hm⟩:=hm;obtain⟨n,hn,e⟩:=At.ren_names m hm;exact⟨n,ZK.2 ⟨y,hy,hn⟩,e⟩
 | _=>intro m hm;simp[Ta.ren,Ta.names] at hm
theorem Holds.ren (hρ:∀ n m,ρ n=some m->σ' m=σ n){v:Value}{f:Nat->Prop}{c:Ta C}(h:Holds w σ v f c):Holds w σ' v f (c.ren ρ):=by
 match c with
 | .gone=>exact h
 | .box cells=>obtain⟨b,t,cs,h1,h2,h3,h4⟩:=h;exact⟨b,t,cs,h1,h2,h3,Ykd hρ h4⟩
 | .row true e l=>exact h
 | .row false e l=>exact h
 | .abs x=>exact h
 | .map kk vk l=>exact h
 | .arr _ _=>exact h
 | .orows _ _ _ _=>exact h
 | .rows _ _ _=>exact h
theorem Yez {τ:LN}{k:Nat}{c:Ta C}(hlt:∀ n∈τ,n<H.length)(h:(Yas τ H)[k]?=some c):∃ n c0,τ[k]?=some n/\H[n]?=some c0/\c=c0.ren (fun n=>Yab n τ):=by
 unfold Yas at h;rw[Zv] at h;cases hk:τ[k]? with
 | none=>rw[hk] at h;cases h
 | some n =>
  rw[hk] at h;simp only[ZaL,Zl] at h;refine⟨n,H.getD n .gone,rfl,?_,h.symm⟩;exact Yy (hlt n (ZD hk))

theorem Ro.ren {ρ:Nat->Option Nat}{v:Value}{b:Nat}{c:Ta C}:Ro w v b (c.ren ρ)↔Ro w v b c:=by
 cases c<;>exact Zbt

theorem Sat.pick (h:Sat C σ φ w H){τ:LN}(hnd:τ.Nodup)(hlt:∀ n∈τ,n<H.length) :
  Sat C (fun k=>σ (τ.getD k 0)) (fun k b=>k<τ.length/\φ (τ.getD k 0) b) w (Yas τ H):=by
 have hgd:∀ {k n:Nat},τ[k]?=some n->τ.getD k 0=n/\k<τ.length:=fun {k n} hk=>by
  refine⟨by simp[Zb,hk],(Zt.1 hk).1⟩
 have hρ:∀ n m,Yab n τ=some m->σ (τ.getD m 0)=σ n:=fun n m hm=>by rw[(hgd (Yp hm)).1]
 refine⟨fun k c hc=>?_,fun k m b hk hm=>?_,fun k b hb=>h.bd _ b hb.2,fun k c hl b hb m hm=>?_,fun k hk b hb=>?_,fun k c hc m hm=>?_⟩
 .obtain⟨n,c0,h1,h2,rfl⟩:=Yez hlt hc;have hh:=(h.holds n c0 h2).ren (ρ:=fun n=>Yab n τ) (σ':=fun k=>σ (τ.getD k 0)) hρ;have e1:=hgd h1;have e2:(fun b=>k<τ.length/\φ (τ.getD k 0) b)=φ n:=funext fun b=>propext ⟨fun hh=>by rw[e1.1] at hh;exact hh.2,fun hh=>⟨e1.2,by rw[e1.1];exact hh⟩⟩
  rw[e2,e1.1];exact hh
 .have:=h.dis _ _ b hk.2 hm.2;have hk1:=Yy (d:=0) hk.1;have hm1:=Yy (d:=0) hm.1;rw[this] at hk1;exact Zai ((YcD hnd hk1).symm.trans (YcD hnd hm1))
 .obtain⟨n,c0,h1,h2,h3⟩:=Yez hlt hl;subst h3;have hb':Ro w (σ n) b c0:=by have:=(hgd h1).1;simp only[this] at hb;exact Ro.ren.1 hb
  exact h.imm n c0 h2 b hb' _ hm.2
 .simp[Yas] at hk;have:=hb.1;omega
 .obtain⟨n,c0,h1,h2,rfl⟩:=Yez hlt hc;obtain⟨n',hn',e⟩:=Ta.ren_names m hm;have:=(Zt.1 (Yp e)).1
  simpa [Yas] using this

theorem Yls {n:Nat}:Yn H n=true↔(∃ e l,H[n]?=some (.row true e l))∨(∃ hh e ll,H[n]?=some (.rows hh e ll))∨∃ hh e k ll,H[n]?=some (.orows hh e k ll):=by
 unfold Yn;split
 .rename_i e l hh;exact⟨fun _=>.inl ⟨e,l,hh⟩,fun _=>rfl⟩
 .rename_i e l ll hh;exact⟨fun _=>.inr (.inl ⟨e,l,ll,hh⟩),fun _=>rfl⟩
 .rename_i e l k ll hh;exact⟨fun _=>.inr (.inr ⟨e,l,k,ll,hh⟩),fun _=>rfl⟩
 .rename_i hh h2 h3;refine⟨fun h=>by simp at h,?_⟩
  rintro (⟨e,l,h⟩|⟨a,e,l,h⟩|⟨a,e,k,l,h⟩)
  .exact absurd h (hh e l)
  .exact absurd h (h2 a e l)
  .exact absurd h (h3 a e k l)

theorem Rdb.same {H1 H2:LH C}{σ1 σ2:Nat->Value}{n m b:Nat}{ρ:Nat->Option Nat}(hσ:σ2 m=σ1 n)(hH:H2[m]?=(H1[n]?).map (Ta.ren ρ)):Rdb H2 σ2 m b↔Rdb H1 σ1 n b:=by
 unfold Rdb;rw[hσ,hH];cases H1[n]? with
 | none=>simp
 | some c=>cases c<;>simp[Ta.ren]

theorem YcX {H2:LH C}{n m:Nat}{ρ:Nat->Option Nat}(h:H2[m]?=(H[n]?).map (Ta.ren ρ)):Yn H2 m=Yn H n:=by
 unfold Yn;rw[h];cases H[n]? with
 | none=>rfl
 | some c =>
  cases c with
  | row own e l=>cases own<;>rfl
  | _=>rfl

end
end
section
def LW (P:Program)(c:Code)(Q:Exit->Act->World->Prop)(a:Act)(w:World):Prop :=
 ∀ b k cs,∃ e a' w',Q e a' w'/\Arrives P (lone (b.at a (.code c::.inLoop c::k)) cs w) b k cs e a' w'
theorem LW.loop {P:Program}{Q:Exit->Act->World->Prop}{a:Act}{w:World}{c:Code}(h:LW P c Q a w):(Code.loop c).wp P Q a w:=by
 intro b k cs;obtain⟨e,a',w',hq,harr⟩:=h b k cs;exact⟨e,a',w',hq,.of_steps (.one step_loop) harr⟩
theorem LW.step {P:Program}{Q:Exit->Act->World->Prop}{a:Act}{w:World}{c:Code}(h:c.wp P (Exit.then (LW P c Q) Q) a w):LW P c Q a w:=by
 intro b k cs;obtain⟨e,a₁,w₁,hq,harr⟩:=h b (.inLoop c::k) cs;cases e with
 | normal =>
  obtain⟨e₂,a₂,w₂,hq₂,harr₂⟩:=hq b k cs;exact⟨e₂,a₂,w₂,hq₂,.of_steps (Steps.trans harr (.one step_inLoop)) harr₂⟩
 | exit id=>exact⟨_,a₁,w₁,hq,.pass (x:=.inLoop c) rfl (fun _ _=>.inl (by simp)) harr⟩
 | goto l=>exact⟨_,a₁,w₁,hq,.pass (x:=.inLoop c) rfl (fun _ _=>.inl (by simp)) harr⟩
 | ret=>exact⟨_,a₁,w₁,hq,.pass (x:=.inLoop c) rfl (fun _ _=>.inl (by simp)) harr⟩
 | panic ch=>exact⟨_,a₁,w₁,hq,.pass (x:=.inLoop c) rfl (fun _ _=>.inl (by simp)) harr⟩
 | outgrown=>exact⟨_,a₁,w₁,hq,.pass (x:=.inLoop c) rfl (fun _ _=>.inl (by simp)) harr⟩
theorem LW.ghost {P:Program}{Q:Exit->Act->World->Prop}{c:Code}(I:Nat->Act->World->Prop)(round:∀ n a w,I n a w->c.wp P (Exit.then (fun a' w'=>∃ n',n'<n/\I n' a' w') Q) a w):∀ n {a:Act} {w:World},I n a w->LW P c Q a w:=by
 intro n
 induction n using Nat.strongRecOn with
 | ind n ih =>
  intro a w h;refine LW.step (wp_mono (round n a w h) fun e a' w' hd=>?_);cases e with
  | normal =>
   obtain⟨n',hlt,hI⟩:=hd;exact ih n' hlt hI
  | exit id=>exact hd
  | ret=>exact hd
  | goto l=>exact hd
  | panic ch=>exact hd
  | outgrown=>exact hd

section
variable {C:Ctx}
variable {W:LN} {B:Base C} {T:List SV} {H:LH C} {σ:Nat->Value} {φ:Nat->Nat->Prop} {a:Act} {w:World} {o:Oper}

theorem At.le_rel {x y:At}{v:Value}(h:At.le x y)(hr:x.rel σ v):y.rel σ v:=by
 unfold At.le at h;split at h
 .trivial
 .split at h
  .split at h
   .rename_i hc;obtain⟨rfl,rfl⟩:=hc;exact hr
   .exact h.elim
  .exact h.elim
 .split at h
  .split at h
   .rename_i hc;subst hc;exact hr
   .exact h.elim
  .exact h.elim
 .split at h
  .subst h;exact hr
  .exact h.elim
 .subst h;exact hr

theorem YhL:∀ {l m:List At} {vs:List Value},Yhy l m->Rels (At.rel σ) l vs->Rels (At.rel σ) m vs:=by
 intro l
 induction l with
 | nil=>intro m vs h hr;cases m with
  | nil=>exact hr
  | cons _ _=>simp[Yhy] at h
 | cons x l ih =>
  intro m vs h hr;cases m with
  | nil=>simp[Yhy] at h
  | cons y m =>
   match vs,hr with
   | [],hr=>exact absurd hr.1 (by simp)
   | v::vs,hr =>
    have h0:x.rel σ v:=hr.2 0 _ _ rfl rfl;have ht:Rels (At.rel σ) l vs:=⟨by simpa using hr.1,fun i a b ha hb=>hr.2 (i+1) a b (by simpa using ha) (by simpa using hb)⟩
    unfold Yhy at h;split at h
    .exact Rels.cons trivial (ih h ht)
    .exact Rels.cons (At.le_rel h.1 h0) (ih h.2 ht)

theorem SV.le_rel {x y:SV}{v:Value}(h:SV.le x y)(hr:x.rel σ v):y.rel σ v:=by
 unfold SV.le at h;split at h
 .split at h
  .trivial
  .split at h
   .exact At.le_rel h hr
   .exact h.elim
 .split at h
  .obtain⟨cs,e,hr'⟩:=hr;exact⟨cs,e,YhL h hr'⟩
  .exact h.elim
 .subst h;exact hr

theorem Ypd:∀ {T T1:List SV} {vs:List Value},lesT T T1->Rels (SV.rel σ) T vs->Rels (SV.rel σ) T1 vs:=by
 intro T
 induction T with
 | nil=>intro m vs h hr;cases m with
  | nil=>exact hr
  | cons _ _=>simp[lesT] at h
 | cons x l ih =>
  intro m vs h hr;cases m with
  | nil=>simp[lesT] at h
  | cons y m =>
   match vs,hr with
   | [],hr=>exact absurd hr.1 (by simp)
   | v::vs,hr =>
    have h0:x.rel σ v:=hr.2 0 _ _ rfl rfl;have ht:Rels (SV.rel σ) l vs:=⟨by simpa using hr.1,fun i a b ha hb=>hr.2 (i+1) a b (by simpa using ha) (by simpa using hb)⟩
    unfold lesT at h;split at h
    .exact Rels.cons trivial (ih h ht)
    .exact Rels.cons (SV.le_rel h.1 h0) (ih h.2 ht)

theorem Ycc:∀ {H H1:LH C},lesH H H1->∀ (n:Nat) (d:Ta C),H1[n]?=some d->∃ c,H[n]?=some c/\Ta.le c d:=by
 intro H
 induction H with
 | nil=>intro H1 h n d hd;cases H1 with
  | nil=>simp at hd
  | cons _ _=>simp[lesH] at h
 | cons x l ih =>
  intro H1 h n d hd;cases H1 with
  | nil=>simp at hd
  | cons y m =>
   cases n with
   | zero=>simp at hd;subst hd;exact⟨x,rfl,h.1⟩
   | succ n=>simp at hd;simpa using ih h.2 n d hd

def Ta.keeps:Ta C->Bool
 | .gone=>false
 | .row false _ _=>false
 | _=>true

theorem Ta.le_holds (hC:C.OK){c d:Ta C}{v:Value}{f:Nat->Prop}(h:Ta.le c d)(hh:Holds w σ v f c):Holds w σ v (fun b=>f b/\d.keeps=true) d:=by
 unfold Ta.le at h;split at h
 .trivial
 .rename_i m;split at h
  .obtain⟨b,t,cs,h1,h2,h3,h4⟩:=hh;exact⟨b,t,cs,h1,fun k=>by simp[h2 k,Ta.keeps],h3,YhL h h4⟩
  .exact h.elim
 .rename_i o' e' l';split at h
  .rename_i o e l;split at h
   .rename_i hoo;split at h
    .rename_i he _;subst he;simp only at h;subst h;cases o' with
     | true =>
      have:o=true:=by simpa using hoo
      subst this;exact⟨hh.1,fun k=>by simp[hh.2 k,Ta.keeps]⟩
     | false =>
      obtain⟨A,c,h1,h2⟩:=hh.rd hC;exact⟨⟨A,c,h1,h2⟩,fun k hk=>by simp[Ta.keeps] at hk⟩
    .exact h.elim
   .exact h.elim
  .exact h.elim
 .rename_i y;split at h
  .subst h;exact⟨by simpa [Ta.keeps] using hh.1,hh.2⟩
  .exact h.elim
 .rename_i kk vk m;split at h
  .rename_i k v l;split at h
   .rename_i hkv;obtain⟨rfl,rfl⟩:=hkv;subst h;obtain⟨b,es,ck,h1,h2,h3,h4⟩:=hh;exact⟨b,es,ck,h1,fun q=>by simp[h2 q,Ta.keeps],h3,h4⟩
   .exact h.elim
  .exact h.elim
 .rename_i kk m;split at h
  .rename_i k l;split at h
   .rename_i hk;subst hk h;obtain⟨b,t,cs,h1,h2,h3,h4⟩:=hh;exact⟨b,t,cs,h1,fun q=>by simp[h2 q,Ta.keeps],h3,h4⟩
   .exact h.elim
  .subst h;obtain⟨b,t,cs,h1,h2,h3,h4⟩:=hh;refine⟨b,t,cs,h1,fun q=>by simp[h2 q,Ta.keeps],h3,?_⟩;refine ZaI fun i=>?_
   cases hi:m[i]? with
   | none =>
    have:cs.toList.length=m.length:=by have:=h4.1;simpa using this.symm
    rw[Zv,hi,ZV (by have:=ZbU.1 hi;omega)];rfl
   | some z =>
    obtain⟨u,hu,hr⟩:=h4.get (i:=i) (a:=.val (.int kk z)) (by rw[Zv,hi];rfl);rw[hu,Zv,hi];exact ZT some hr
  .exact h.elim
 .rename_i h' e' m;split at h
  .split at h
   .rename_i q1 _;subst q1;split at h
    .rename_i q2 _;subst q2;simp only at h;subst h;exact⟨hh.1,hh.2.1,fun k=>by simp[hh.2.2 k,Ta.keeps]⟩
    .exact h.elim
   .exact h.elim
  .exact h.elim
 .rename_i h' e' k' m;split at h
  .split at h
   .rename_i q1 _;subst q1;split at h
    .rename_i q2 _;subst q2;simp only at h;obtain⟨rfl,rfl⟩:=h;obtain⟨hz,pre,us,h1,h2,h3,h4,h5,h6⟩:=hh;exact⟨hz,pre,us,h1,h2,h3,h4,h5,fun q=>by simp[h6 q,Ta.keeps]⟩
    .exact h.elim
   .exact h.elim
  .split at h
   .rename_i q1 _;subst q1;split at h
    .rename_i q2 _;subst q2;obtain⟨rfl,rfl,rfl⟩:=h;obtain⟨hz,⟨vs,ho,hR⟩,h6⟩:=hh;have hv:vs=[]:=ZM (by have:=hR.1;simpa using this.symm);subst hv;exact⟨hz,[],[],rfl,by simpa using ho,⟨Rels.nil,List.Pairwise.nil⟩,fun u hu=>by simp at hu,fun b hb=>by obtain⟨u,hu,_⟩:=hb;simp at hu,fun q=>by simp[h6 q,Ta.keeps,BlkL]⟩
    .exact h.elim
   .exact h.elim
  .exact h.elim

theorem Ta.le_row {c:Ta C}{o':Bool}{e':C.EC}{l':List (C.α e')}(h:Ta.le c (.row o' e' l')):∃ o,c = .row o e' l'/\(o'=true->o=true):=by
 unfold Ta.le at h;split at h
 .rename_i heq;cases heq
 .rename_i heq;cases heq
 .rename_i o2 e2 l2 heq;injection heq with h1 h2 h3
  subst h1 h2;have h3:=eq_of_heq h3;subst h3;split at h
  .rename_i o e l;split at h
   .rename_i hoo;split at h
    .rename_i he _;subst he;simp only at h;subst h;exact⟨o,rfl,fun e=>by subst e;simpa using hoo⟩
    .exact h.elim
   .exact h.elim
  .exact h.elim
 all_goals (rename_i heq;cases heq)
theorem Ta.le_rows {c:Ta C}{h' e':C.EC}{l':List (List (C.α e'))}(h:Ta.le c (.rows h' e' l')):c = .rows h' e' l':=by
 unfold Ta.le at h;cases c<;>first|exact h.elim|skip
 dsimp only at h;split at h<;>try (exact h.elim)
 rename_i q1 _;subst q1;split at h<;>try (exact h.elim)
 rename_i q2 _;subst q2;simp only at h;subst h
 rfl

theorem Ta.le_orows {c:Ta C}{h' e':C.EC}{k':Nat}{l':List (List (C.α e'))}(h:Ta.le c (.orows h' e' k' l')):c = .orows h' e' k' l'∨(c = .rows h' e' []/\k'=0/\l'=[]):=by
 unfold Ta.le at h;cases c<;>first|exact h.elim|skip
 all_goals dsimp only at h
 all_goals split at h<;>try (exact h.elim)
 all_goals rename_i q1 _
 all_goals subst q1
 all_goals split at h<;>try (exact h.elim)
 all_goals rename_i q2 _
 all_goals subst q2
 .obtain⟨rfl,rfl,rfl⟩:=h;exact .inr ⟨rfl,rfl,rfl⟩
 .simp only at h;obtain⟨rfl,rfl⟩:=h;exact .inl rfl

theorem Sat.weaken (hC:C.OK)(h:Sat C σ φ w H){H1:LH C}(hl:lesH H H1)(hcl:∀ c∈H1,∀ m∈c.names,m<H1.length) :
  Sat C σ (fun n b=>φ n b/\∃ d,H1[n]?=some d/\d.keeps=true) w H1 where
 holds n d hd:=by
  obtain⟨c,hc,hle⟩:=Ycc hl n d hd;have:=Ta.le_holds hC hle (h.holds n c hc)
  have e:(fun b=>φ n b/\d.keeps=true)=(fun b=>φ n b/\∃ d,H1[n]?=some d/\d.keeps=true):=by
   funext b
   simp[hd]
  rw[e] at this;exact this
 dis n m b h1 h2:=h.dis n m b h1.1 h2.1
 bd n b hb:=h.bd n b hb.1
 imm n d hd b hb m hm:=by
  obtain⟨c,hc,hle⟩:=Ycc hl n _ hd;cases d with
  | rows h' e' l' =>
   obtain rfl:=Ta.le_rows hle;exact h.imm n _ hc b hb m hm.1
  | gone=>exact hb.elim
  | box _=>exact (Ro.box hb).elim
  | abs _=>exact hb.elim
  | map _ _ _=>exact (Ro.map hb).elim
  | arr _ _=>exact (Ro.arr hb).elim
  | orows _ _ _ _=>exact (Ro.orows hb).elim
  | row o' e l =>
  cases o' with
  | true=>exact (Ro.own hb).elim
  | false =>
  obtain⟨o,rfl,_⟩:=Ta.le_row hle;obtain⟨hpos,hb⟩:=hb;cases o with
  | false=>exact h.immr n e l hc hpos b hb m hm.1
  | true =>
   have hnm:=h.dis m n b hm.1 (((h.holds n _ hc).2 b).2 hb);subst hnm;obtain⟨d,hd',hk⟩:=hm.2;rw[hd] at hd';simp only[Zl] at hd';subst hd';simp[Ta.keeps] at hk
 out n hn b hb:=by
  obtain⟨d,hd,_⟩:=hb.2;rw[ZV hn] at hd;cases hd
 cl n c hc m hm:=hcl c (ZD hc) m hm

theorem YhM {base:Nat}{T:List SV}{H:LH C}(h:Yel base T H=true):base<=H.length/\(∀ s∈T,∀ m∈s.names,m<H.length)/\∀ c∈H,∀ m∈c.names,m<H.length:=by
 unfold Yel at h;simp only[Zar,ZaE,Zao] at h;exact⟨h.1.1,h.1.2,h.2⟩

theorem St.weaken (h:St C B W T H σ φ a w){T1:List SV}{H1:LH C}{W1:LN}(hT:lesT T T1)(hl:lesH H H1)(hok:Yel B.H.length T1 H1=true)(hW:∀ n,n∈W->B.H.length<=n∨n∈W1)(hst:∀ n,n<B.H.length->n∉W1->∀ b,Rdb H1 σ n b↔Rdb H σ n b) :
  St C B W1 T1 H1 σ (fun n b=>φ n b/\∃ d,H1[n]?=some d/\d.keeps=true) a w:=by
 obtain⟨h1,h2,h3⟩:=YhM hok;refine⟨⟨h.pre.ok,Ypd hT h.pre.tm,h2,h.pre.sat.weaken h.pre.ok hl h3⟩,h.dfs,?_,h1,h.agree,fun n hn ho=>h.own n hn ?_,fun n hn hnW=>?_⟩
 .exact h.adv.trans ⟨rfl,rfl,rfl,Zw _,fun _ _ _=>rfl,fun n b hb=>.inl ⟨n,hb.1⟩⟩
 .unfold Yn at ho;split at ho
  .rename_i e l hH;obtain⟨c,hc,hle⟩:=Ycc hl n _ hH;obtain⟨o,rfl,ho'⟩:=Ta.le_row hle;have:=ho' rfl;subst this;simp[Yn,hc]
  .rename_i h' e l hH;obtain⟨c,hc,hle⟩:=Ycc hl n _ hH;obtain rfl:=Ta.le_rows hle;simp[Yn,hc]
  .rename_i h' e k l hH;obtain⟨c,hc,hle⟩:=Ycc hl n _ hH;rcases Ta.le_orows hle with rfl|⟨rfl,_⟩<;>simp[Yn,hc]
  .cases ho
 .obtain⟨h4,h5,h6⟩:=h.stand n hn fun e=>(hW n e).elim (fun hle=>by omega) hnW
  exact⟨h4,fun b=>(hst n hn hnW b).trans (h5 b),h6⟩

variable {A:Ann C}

theorem YmB {n:Nat}{own:Bool}{e:C.EC}{l:List (C.α e)}(hH:H[n]?=some (.row own e l))(b:Nat):Rdb H σ n b↔(σ n).ownBlock=some b/\0<l.length:=by
 constructor
 .rintro (⟨_,cells,h⟩|⟨h,own',e',l',h2,hp⟩|⟨_,kk,vk,l',h⟩|⟨_,hh,e',l',h,_⟩|⟨_,kk,l',h⟩)
  .rw[hH] at h;cases h
  .rw[hH] at h2;simp only[Zl] at h2;injection h2 with _ h3 h4
   subst h3;have h4:=eq_of_heq h4;subst h4;exact⟨h,hp⟩
  .rw[hH] at h;cases h
  .rw[hH] at h;cases h
  .rw[hH] at h;cases h
 .rintro ⟨h1,h2⟩
  exact .inr (.inl ⟨h1,own,e,l,hH,h2⟩)

theorem Ylt {base:Nat}{wr:LN}{H1:LH C}(h:Ymk base wr H1=true)(hl:lesH H H1){n:Nat}(hn:n<base)(hw:n∉wr)(b:Nat):Rdb H1 σ n b↔Rdb H σ n b:=by
 unfold Ymk at h;have h1:=Zao.1 h n (ZaK.2 hn);simp only[Bool.or_eq_true] at h1;rcases h1 with h1|h1
 .exact absurd (by simpa using h1) hw
 .split at h1
  .cases h1
  .rename_i d hng hd;obtain⟨c,hc,hle⟩:=Ycc hl n d hd;cases d with
   | gone=>exact (hng rfl).elim
   | box m =>
    unfold Ta.le at hle;unfold Rdb;cases c<;>simp_all
   | row o e l =>
    obtain⟨o',rfl,_⟩:=Ta.le_row hle;rw[YmB hd,YmB hc]
   | abs x =>
    unfold Ta.le at hle;unfold Rdb;cases c<;>simp_all
   | map kk vk l =>
    unfold Ta.le at hle;unfold Rdb;cases c<;>simp_all
   | rows h' e' l' =>
    obtain rfl:=Ta.le_rows hle;unfold Rdb;rw[hd,hc]
   | orows h' e' k' l' =>
    rcases Ta.le_orows hle with rfl|⟨rfl,_⟩
    .unfold Rdb;rw[hd,hc]
    .unfold Rdb;rw[hd,hc];constructor
     .rintro (⟨_,_,h⟩|⟨_,_,_,_,h,_⟩|⟨_,_,_,_,h⟩|⟨_,_,_,_,h,_⟩|⟨_,_,_,h⟩)<;>simp at h
     .rintro (⟨_,_,h⟩|⟨_,_,_,_,h,_⟩|⟨_,_,_,_,h⟩|⟨_,_,_,_,h,hp⟩|⟨_,_,_,h⟩)
      .simp at h
      .simp at h
      .simp at h
      .simp only[Zl] at h;injection h with h1 h2 h3
       subst h2;have h3:=eq_of_heq h3;subst h3;simp at hp
      .simp at h
   | arr kk l =>
    unfold Ta.le at hle;unfold Rdb;cases c<;>simp_all
  .cases h1

theorem Yjc:∀ {l:LN},YjU l=true->l.Nodup:=by
 intro l
 induction l with
 | nil=>intro _;exact ZaX
 | cons n l ih =>
  intro h;simp only[YjU,Zar] at h;exact List.nodup_cons.2 ⟨by simpa using h.1,ih h.2⟩

theorem St.rename (h:St C B W T H σ φ a w){τ:LN}(hnd:τ.Nodup)(hlt:∀ n∈τ,n<H.length)(hlow:∀ n,n<B.H.length->τ[n]?=some n)(hlen:B.H.length<=τ.length) :
  St C B W (T.map (SV.ren fun n=>Yab n τ)) (Yas τ H) (fun k=>σ (τ.getD k 0)) (fun k b=>k<τ.length/\φ (τ.getD k 0) b) a w:=by
 have hgd:∀ {k n:Nat},τ[k]?=some n->τ.getD k 0=n:=fun {k n} hk=>by simp[Zb,hk]
 have hρ:∀ n m,Yab n τ=some m->σ (τ.getD m 0)=σ n:=fun n m hm=>by rw[hgd (Yp hm)]
 have hrow:∀ n,n<B.H.length->(Yas τ H)[n]?=(H[n]?).map (Ta.ren fun n=>Yab n τ):=fun n hn=>by
  unfold Yas;rw[Zv,hlow n hn,Yy (d:=.gone) (ZN hn h.len)]
  rfl
 refine⟨⟨h.pre.ok,⟨by simp[h.pre.tm.1],fun i x v hx hv=>?_⟩,fun x hx m hm=>?_,h.pre.sat.pick hnd hlt⟩,h.dfs,⟨h.adv.os,h.adv.tape,h.adv.output,h.adv.size,h.adv.fr,fun n b hb=>h.adv.grow _ b hb.2⟩,by simpa [Yas] using hlen,fun n hn ho=>?_,fun n hn ho=>?_,fun n hn hnW=>?_⟩
 .rw[Zv] at hx;cases hi:T[i]? with
  | none=>rw[hi] at hx;cases hx
  | some y=>rw[hi] at hx;simp at hx;subst hx;exact SV.ren_rel hρ (h.pre.tm.2 i y v hi hv)
 .obtain⟨y,hy,rfl⟩:=ZF.1 hx;obtain⟨n,_,e⟩:=SV.ren_names m hm
  simpa [Yas] using (Zt.1 (Yp e)).1
 .rw[hgd (hlow n hn)];exact h.agree n hn ho
 .refine h.own n hn ?_;rw[YcX (hrow n hn)] at ho;exact ho
 .obtain⟨h4,h5,h6⟩:=h.stand n hn hnW;refine⟨by simp only[hgd (hlow n hn)];exact h4,fun b=>?_,h6⟩;rw[<-h5 b];exact Rdb.same (by simp only[hgd (hlow n hn)]) (hrow n hn)

theorem YeA (h:St C B W T H σ φ a w)(hb:A.base=B.H.length){i:Inv C}{T1:List SV}{x:i.X}(hm:YoS C A i W T T1 H x):∃ σ' φ',St C B i.wr T1 (i.hf x) σ' φ' a w:=by
 unfold YoS at hm;simp only at hm;split at hm
 .rename_i hc;simp only[Zar] at hc;obtain⟨hc1,hc2,hc3,hc4,hc5⟩:=hc;rw[hb] at hc1 hc2
  have hle:B.H.length<=(i.hf x).length:=by
   simp only[Yel,Zar,ZaE] at hc1;exact hc1.1.1
  have hst:=h.rename (Yjc hc4) (fun n hn=>by simpa using Zao.1 hc5 n hn) (fun n hn=>by
   unfold YrM;simp only;rw[Zv,ZaD (by omega)];simp[hb,hn]) (by simpa [YrM] using hle)
  exact⟨_,_,hst.weaken hm.1 hm.2 hc1 (fun n hn=>by have:=Zao.1 hc3 n hn;rw[hb] at this;simpa using this) fun n hn hnw b=>Ylt hc2 hm.2 hn hnw b⟩
 .exact hm.elim

theorem St.dup (h:St C B W T H σ φ a w){s n:Nat}{e:C.EC}{l:List (C.α e)}(hT:T[s]?=some (.one (.at (.slc n))))(hH:H[n]?=some (.row false e l)):∃ σ' φ',St C B W (T.set s (.one (.at (.slc H.length)))) (H++[.row false e l]) σ' φ' a w:=by
 obtain⟨v,hv,hr⟩:=h.pre.tm.get hT;have hr:v=σ n:=hr;have g:=YhK h.pre.ok h.pre.sat hH;have e0:a.put none (σ n)=a:=rfl;have q:=YaT h.pre g (s:=.one (.at (.slc H.length))) (v:=σ n) (by show σ n=_;simp) (by intro m hm;simp[SV.names,TV.names,At.names] at hm;subst hm;simp) none [];have st:=h.step q;rw[e0] at st;refine⟨_,_,st.withT ⟨h.pre.ok,?_,?_,g.sat⟩⟩
 .have:=st.pre.tm.set s (a:=.one (.at (.slc H.length))) (b:=v) (by show v=_;simp[hr])
  have e1:a.tmps.toList.set s v=a.tmps.toList:=by
   apply ZaI;intro k;rw[Zbk];split
   .rename_i hk;subst hk;split
    .exact hv.symm
    .rename_i hlt;rw[ZV (by omega)] at hv;cases hv
   .rfl
  rw[e1] at this;exact this
 .intro x hx m hm;rcases Zbw hx with hx|rfl
  .exact ZN (h.pre.tcl x hx m hm) g.len
  .simp[SV.names,TV.names,At.names] at hm;subst hm;simp
theorem St.grow (h:St C B W T H σ φ a w){σ':Nat->Value}{φ':Nat->Nat->Prop}{H':LH C}(g:Th C σ φ H σ' φ' H' w):St C B W T H' σ' φ' a w :=
 h.step (YaT h.pre g (s:=.one (.at .any)) (v:=undef) trivial (by intro m hm;simp[SV.names,TV.names,At.names] at hm) none [])
theorem Yjd:∀ (r:LN) {T:List SV} {H:LH C} {σ:Nat->Value} {φ:Nat->Nat->Prop},St C B W T H σ φ a w->∃ σ' φ',St C B W (YhA r T H).1 (YhA r T H).2 σ' φ' a w:=by
 intro r
 induction r with
 | nil=>intro T H σ φ h;exact⟨σ,φ,h⟩
 | cons s r ih =>
  intro T H σ φ h;unfold YhA;split
  .rename_i n hn;split
   .rename_i e l hH
    have hT:T[s]?=some (.one (.at (.slc n))):=by
     rw[Zb] at hn;cases hT':T[s]? with
     | none=>rw[hT'] at hn;simp at hn
     | some x=>rw[hT'] at hn;simp at hn;rw[hn]
    obtain⟨σ1,φ1,h1⟩:=h.dup hT hH;exact ih h1
   .rename_i e l hH
    have hT:T[s]?=some (.one (.at (.slc n))):=by
     rw[Zb] at hn;cases hT':T[s]? with
     | none=>rw[hT'] at hn;simp at hn
     | some x=>rw[hT'] at hn;simp at hn;rw[hn]
    have hn':n<H.length:=(Zt.1 hH).1;have hf:=h.grow (YbM h.pre.ok h.pre.sat hH);obtain⟨σ1,φ1,h1⟩:=hf.dup hT (ZW hn');rw[ZaB] at h1;exact ih h1
   .exact ih h
  .exact ih h
theorem YcE (h:St C B W T H σ φ a w)(hb:A.base=B.H.length){i:Inv C}{T1:List SV}{x:i.X}(hm:Yml C A i W T T1 H x):∃ σ' φ',St C B i.wr T1 (i.hf x) σ' φ' a w:=by
 unfold Yml at hm;split at hm
 .exact YeA h hb hm
 .obtain⟨σ1,φ1,h1⟩:=Yjd _ h;exact YeA h1 hb hm

def Den (C:Ctx)(B:Base C)(K:Ex->LN->List SV->LH C->Prop):Exit->Act->World->Prop
 | .normal,a,w=>∃ W T H σ φ,St C B W T H σ φ a w/\K .normal W T H
 | .exit id,a,w=>∃ W T H σ φ,St C B W T H σ φ a w/\K (.exit id) W T H
 | .ret,a,w=>∃ W T H σ φ,St C B W T H σ φ a w/\K .ret W T H
 | _,_,_=>False

theorem St.setBool (h:St C B W T H σ φ a w){d:Nat}{b:Bool}(hT:T.getD d (.one (.at .any)) = .one (.at (.val (.bool b)))):a.eval (.tmp d) = .bool b/\St C B W (T.set d (vb b)) H σ φ a w:=by
 have hT':T[d]?=some (.one (.at (.val (.bool b)))):=by
  rw[Zb] at hT;cases hT':T[d]? with
  | none=>rw[hT'] at hT;simp at hT
  | some x=>rw[hT'] at hT;simp at hT;rw[hT]
 obtain⟨v,hv,hr⟩:=h.pre.tm.get hT';have hvb:v = .bool b:=hr;subst hvb;have hv':a.tmps[d]?=some (.bool b):=by rw[<-ZaR];exact hv
 refine⟨by simp[Act.eval,Array.getD_eq_getD_getElem?,hv'],?_⟩
 have e:T.set d (vb b)=T:=by
  apply ZaI;intro k;rw[Zbk];split
  .rename_i hk;subst hk;split
   .exact hT'.symm
   .rename_i hlt;rw[ZV (by omega)] at hT';cases hT'
  .rfl
 rw[e];exact h

theorem YmC (hC:C.OK)(hG:GOK C A.Γ)(hb:A.base=B.H.length):∀ (c:Code) (lv:Nat->Bool) (K:Ex->LN->List SV->LH C->Prop) {W:LN} {T:List SV} {H:LH C} {σ:Nat->Value} {φ:Nat->Nat->Prop} {a:Act} {w:World},
  run C A c lv K W T H->St C B W T H σ φ a w->c.wp C.P (Den C B K) a w:=by
 intro c
 induction c with
 | skip=>intro lv K W T H σ φ a w hr h;exact wp_skip ⟨W,T,H,σ,φ,h,hr⟩
 | region id ops d =>
  intro lv K W T H σ φ a w hr h;simp only[run] at hr;cases d with
  | true =>
   simp only[if_true] at hr;split at hr
   .rename_i hsel;refine wp_region_any hC.mixed (wpAnyL.any (S:=YmA H σ (YrK A.quiet A.trunc T H ops) { w with drawn:=w.drawn+1 }) (late:=Ybh A.trunc ops) ?_)
    have hN:YbC (Ybh A.trunc ops) (Array.replicate ops.size false):=fun j hj=>by
     have hlt:j<ops.size:=by
      unfold Ybh at hj;split at hj
      .cases hj
      .rename_i p hp;exact (Zak.1 hp).1
     simp[hlt]
    exact Ylr hG (fun hst hk=>⟨_,_,_,_,_,hst,hk⟩) (fun c a w hh=>hh) hsel (Hs:=H) (σs:=σ) (fun n hn=>by
     unfold YrK at hn;exact ZaK.1 (Zcv.1 hn).1) ops.size (h.drawn _) (Zw _) (fun _=>⟨fun _ _ _ _=>rfl,fun _ _ _=>Zbt⟩) (fun _ _ _ _ _=>hN) hr
   .exact hr.elim
  | false =>
   simp only[Zbf,if_false] at hr;exact wp_region_list (Ylp hG (fun hst hk=>⟨_,_,_,_,_,hst,hk⟩) ops.toList h hr)
 | seq x y ihx ihy =>
  intro lv K W T H σ φ a w hr h;simp only[run] at hr;split at hr
  .refine wp_seq (wp_mono (ihx _ _ hr h) fun e a' w' hd=>?_);cases e with
   | normal =>
    obtain⟨W',T',H',σ',φ',hst,hk⟩:=hd;exact ihy _ _ hk hst
   | exit id=>exact hd
   | ret=>exact hd
   | goto l=>exact hd
   | panic ch=>exact hd
   | outgrown=>exact hd
  .rename_i i _;refine wp_seq (wp_mono (ihx _ _ hr.1 h) fun e a' w' hd=>?_);cases e with
   | normal =>
    obtain⟨W',T',H',σ',φ',hst,x,hrl,hm⟩:=hd;obtain⟨σ2,φ2,hst2⟩:=YcE hst hb hm;exact ihy _ _ (hr.2 x hrl) hst2
   | exit id=>exact hd
   | ret=>exact hd
   | goto l=>exact hd
   | panic ch=>exact hd
   | outgrown=>exact hd
 | cond c x y ihx ihy =>
  intro lv K W T H σ φ a w hr h;simp only[run] at hr;split at hr<;>try (exact hr.elim)
  rename_i d;split at hr<;>try (exact hr.elim)
  rename_i t ht;obtain⟨he,hst⟩:=h.setBool ht;rw[Ymz] at hr;refine wp_cond_split he (fun e=>?_) (fun e=>?_)
  .subst e;exact ihx _ _ (hr.1 rfl) hst
  .subst e;exact ihy _ _ (hr.2 rfl) hst
 | block id b ih =>
  intro lv K W T H σ φ a w hr h;simp only[run] at hr;refine wp_block (wp_mono (ih _ _ hr h) fun e a' w' hd=>?_);cases e with
  | exit j =>
   obtain⟨W',T',H',σ',φ',hst,hk⟩:=hd;simp only at hk;show if j=id then _ else _
   by_cases hj:j=id
   .rw[Zj hj] at hk ⊢;exact⟨W',T',H',σ',φ',hst,hk⟩
   .rw[Zf hj] at hk ⊢;exact⟨W',T',H',σ',φ',hst,hk⟩
  | normal=>exact hd
  | ret=>exact hd
  | goto l=>exact hd
  | panic ch=>exact hd
  | outgrown=>exact hd
 | loop b ih =>
  intro lv K W T H σ φ a w hr h;simp only[run] at hr;refine LW.loop ?_;generalize A.rounds (Ycp b)=n at hr
  induction n generalizing W T H σ φ a w with
  | zero =>
   simp only[Ymj] at hr;split at hr<;>try (exact hr.elim)
   rename_i i _;obtain⟨⟨x0,hrl0,hm0⟩,hround⟩:=hr;obtain⟨σ0,φ0,hst0⟩:=YcE h hb hm0;refine LW.ghost (fun n a w=>∃ x σ φ,i.μ x=n/\i.rel T H x/\St C B i.wr (invS C b (Yfr b lv) T i x) (i.hf x) σ φ a w) ?_ (i.μ x0) ⟨x0,σ0,φ0,rfl,hrl0,hst0⟩
   rintro n a1 w1 ⟨x,σ1,φ1,hμ,hrl,hst⟩
   refine wp_mono (ih _ _ (hround x hrl) hst) fun e a' w' hd=>?_
   cases e with
   | normal =>
    obtain⟨W',T',H',σ',φ',hst',x',hrl',hm,hlt⟩:=hd;obtain⟨σ2,φ2,hst2⟩:=YcE hst' hb hm;exact⟨i.μ x',by omega,x',σ2,φ2,rfl,hrl',hst2⟩
   | exit id=>exact hd
   | ret=>exact hd
   | goto l=>exact hd
   | panic ch=>exact hd
   | outgrown=>exact hd
  | succ n ihn =>
   refine LW.step (wp_mono (ih _ _ hr h) fun e a' w' hd=>?_);cases e with
   | normal =>
    obtain⟨W',T',H',σ',φ',hst,hk⟩:=hd;exact ihn hst hk
   | exit id=>exact hd
   | ret=>exact hd
   | goto l=>exact hd
   | panic ch=>exact hd
   | outgrown=>exact hd
 | exit id=>intro lv K W T H σ φ a w hr h;exact wp_exit ⟨W,T,H,σ,φ,h,hr⟩
 | ret=>intro lv K W T H σ φ a w hr h;exact wp_ret ⟨W,T,H,σ,φ,h,hr⟩
 | _=>intro lv K W T H σ φ a w hr h;simp[run] at hr
end
end
section
section
variable {C:Ctx}
variable {W:LN} {B:Base C} {T:List SV} {H:LH C} {σ:Nat->Value} {φ:Nat->Nat->Prop} {a:Act} {w:World} {o:Oper} {A:Ann C}

def YhN (tmps:Array Value):ResultVar->Sem Value
 | .tmp t=>pure (tmps.getD t undef)
 | .cell x t=>do loadVar t (← asAddr (tmps.getD x undef))
theorem Ylu (fn:Func)(tmps:Array Value):results fn tmps=(do
  let vs ← fn.results.mapM (YhN tmps)
  pure (if h:vs.size=1 then vs[0] else .tuple vs)):=by
 unfold results
 congr 1

theorem Ylv (h:Pre C T H σ φ a w):∀ (rs:List ResultVar) {l:List SV},resS C T H rs=some l->∃ vs,Rels (SV.rel σ) l vs/\(∀ s∈l,∀ m∈s.names,m<H.length) ∧
  (rs.mapM (m:=Sem) (YhN a.tmps)).run C.P w = .ok vs w:=by
 intro rs
 induction rs with
 | nil=>intro l hl;simp[resS] at hl;subst hl;exact⟨[],Rels.nil,by simp,by simp⟩
 | cons r rs ih =>
  intro l hl;cases r with
  | tmp t =>
   simp only[resS,ZA] at hl;obtain⟨l',h1,rfl⟩:=hl;obtain⟨vs,h2,h3,h4⟩:=ih h1;have hr:=h.rel (.tmp t);refine⟨a.tmps.getD t undef::vs,Rels.cons hr h2,fun s hs m hm=>?_,?_⟩
   .rcases ZH.1 hs with rfl|hs
    .exact h.nm (.tmp t) m hm
    .exact h3 s hs m hm
   .rw[List.mapM_cons,Zag];simp only[YhN,ZaJ,Zax,Zag,h4]
  | cell x t =>
   simp only[resS] at hl;split at hl<;>try (cases hl;done)
   rename_i s l' hs h1;simp only[Zl] at hl;subst hl;obtain⟨vs,h2,h3,h4⟩:=ih h1;obtain⟨u,n,b,ad,_,e2,_,e4,e5,_,e7⟩:=Yem h.ok h.sat (h.rel (.tmp x)) hs;have e2':a.tmps.getD x undef = .pointer (some ad):=e2;refine⟨u::vs,Rels.cons e4 h2,fun s' hs m hm=>?_,?_⟩
   .rcases ZH.1 hs with rfl|hs
    .exact e5 m hm
    .exact h3 s' hs m hm
   .have e8:(YhN a.tmps (.cell x t)).run C.P w = .ok u w:=by
     have:=e7 w rfl;simp[YhN,e2',asAddr,this]
    rw[List.mapM_cons,Zag,e8];simp only[Zax,Zag,h4,ZaJ]

theorem Ylw (h:Pre C T H σ φ a w){fn:Func}{r:SV}(hr:retS C T H fn.results.toList=some r):∃ v,r.rel σ v/\(∀ m∈r.names,m<H.length)/\(results fn a.tmps).run C.P w = .ok v w:=by
 have key:∀ {l:List SV},resS C T H fn.results.toList=some l->∃ vs,Rels (SV.rel σ) l vs/\(∀ s∈l,∀ m∈s.names,m<H.length)/\(results fn a.tmps).run C.P w = .ok (if h:vs.toArray.size=1 then vs.toArray[0] else .tuple vs.toArray) w:=by
  intro l hl;obtain⟨vs,h1,h2,h3⟩:=Ylv h _ hl;refine⟨vs,h1,h2,?_⟩;rw[Ylu,Array.mapM_eq_mapM_toList];simp only[Zag,Sem.run_map,h3,Zax,ZaJ]
 unfold retS at hr;split at hr
 .rename_i s hs;simp only[Zl] at hr;subst hr;obtain⟨vs,h1,h2,h3⟩:=key hs
  match vs,h1,h3 with
  | [v],h1,h3=>exact⟨v,h1.2 0 _ _ rfl rfl,h2 s (by simp),by simpa using h3⟩
  | [],h1,_=>exact absurd h1.1 (by simp)
  | _::_::_,h1,_=>exact absurd h1.1 (by simp)
 .rename_i l hne hl;simp only[ZA] at hr;obtain⟨xs,hxs,rfl⟩:=hr;obtain⟨vs,h1,h2,h3⟩:=key hl;obtain⟨h4,h5⟩:=YhI hxs h1;refine⟨.tuple vs.toArray,⟨vs,rfl,h4⟩,fun m hm=>?_,?_⟩
  .obtain⟨x,hx,hm⟩:=ZK.1 hm;exact h2 _ (h5 x hx) m hm
  .have hlen:¬ vs.toArray.size=1:=fun e=>by
    rw[ZbJ,<-h1.1] at e
    match l,e,hne with
    | [s],_,hne=>exact hne s rfl
   rw[dif_neg hlen] at h3;exact h3
 .cases hr

theorem YmD {args:List TV}{vs:List Value}{n:Nat}(h:Rels (TV.rel σ) args vs):Rels (SV.rel σ) (YoT args n) (vs.toArray++Array.replicate (n-vs.toArray.size) undef).toList:=by
 simp only[Array.toList_append,YoT];refine Rels.append ⟨by simpa using h.1,fun i x v hx hv=>?_⟩ ⟨by simp[h.1],fun i x v hx hv=>?_⟩
 .rw[Zv] at hx;cases hi:args[i]? with
  | none=>rw[hi] at hx;cases hx
  | some y=>rw[hi] at hx;simp at hx hv;subst hx;exact h.2 i y v hi hv
 .rw[List.getElem?_replicate] at hx;split at hx
  .simp at hx;subst hx;trivial
  .cases hx

theorem YfH (hC:C.OK)(hG:GOK C A.Γ){f:FuncId}{fn:Func}(hf:C.P.funcs[f]?=some fn){args:List TV}{Q:SV->LH C->LN->Prop}(hv:vc C A fn args H Q):Tg C f args H Q:=by
 intro σ φ w vs hs hr hn;unfold vc at hv;split at hv
 .exact hv.elim
 .rename_i c hc
  have hst:St C ⟨H,σ,φ,w⟩ [] (YoT args fn.ntmps) H σ φ { tmps:=vs.toArray++Array.replicate (fn.ntmps-vs.toArray.size) undef,defers:=[] } w :=
   ⟨⟨hC,YmD hr,fun s hs m hm=>by
    rcases Zx.1 hs with hs|hs
    .obtain⟨x,hx,rfl⟩:=ZF.1 hs;exact hn x hx m hm
    .rw[List.mem_replicate] at hs;rw[hs.2] at hm;simp[SV.names,TV.names,At.names] at hm,hs⟩,rfl,Adv.refl _ _,Zw _,fun _ _ _=>rfl,fun _ _ h=>h,fun _ _ _=>⟨rfl,fun _=>Zbt,fun _ _ _=>rfl⟩⟩
  have hrun:=YmC (A:={ A with base:=H.length }) (B:=⟨H,σ,φ,w⟩) hC hG rfl c _ _ hv hst;refine calls_of_wp hf hc (wp_mono hrun fun e a' w' hd=>?_)
  have fin:∀ {W:LN} {T':List SV} {H':LH C} {σ':Nat->Value} {φ':Nat->Nat->Prop},St C ⟨H,σ,φ,w⟩ W T' H' σ' φ' a' w'->(match retS C T' H' fn.results.toList with|some r=>Q r H' W|none=>False) →
    a'.defers=[]/\∃ v,(results fn a'.tmps).run C.P w' = .ok v w'/\COk C H σ φ w Q (.returned v) w':=by
   intro W T' H' σ' φ' h hq;refine⟨h.dfs,?_⟩;split at hq
   .rename_i r hret;obtain⟨v,h1,h2,h3⟩:=Ylw h.pre hret;refine⟨v,h3,r,H',W,σ',φ',⟨h1,h2,h.pre.sat,h.adv,h.len,fun n hn ho=>?_,h.own,fun n hn ht=>(h.stand n hn ht).2⟩,hq⟩;rcases ho with ho|ho
    .exact h.agree n hn ho
    .exact (h.stand n hn ho).1
   .exact hq.elim
  cases e with
  | normal =>
   obtain⟨W,T',H',σ',φ',h,hq⟩:=hd;exact fin h hq
  | ret =>
   obtain⟨W,T',H',σ',φ',h,hq⟩:=hd;exact fin h hq
  | exit id =>
   obtain⟨W,T',H',σ',φ',h,hq⟩:=hd;exact hq.elim
  | goto l=>exact hd.elim
  | panic ch=>exact hd.elim
  | outgrown=>exact hd.elim

end
end
section
section
variable {C:Ctx}
variable {H H':LH C} {σ σ':Nat->Value} {φ φ':Nat->Nat->Prop} {w w':World}

def YeB:LN->LN->LN
 | acc,[]=>acc
 | acc,n::l=>if acc.contains n then YeB acc l else YeB (acc++[n]) l

theorem YdC:∀ (l acc:LN),acc.Nodup->(YeB acc l).Nodup/\(∃ x,YeB acc l=acc++x)/\∀ n,n∈YeB acc l->n∈acc∨n∈l:=by
 intro l
 induction l with
 | nil=>intro acc h;exact⟨h,⟨[],by simp[YeB]⟩,fun n hn=>.inl hn⟩
 | cons n l ih =>
  intro acc h;simp only[YeB];split
  .obtain⟨h1,h2,h3⟩:=ih acc h;exact⟨h1,h2,fun m hm=>(h3 m hm).imp id fun h=>by simp[h]⟩
  .rename_i hc;have hc':n∉acc:=by simpa using hc
   obtain⟨h1,⟨x,h2⟩,h3⟩:=ih (acc++[n]) (by
    rw[ZaN];exact⟨h,by simp,fun a ha b hb=>by simp at hb;subst hb;exact fun e=>hc' (e ▸ ha)⟩)
   refine⟨h1,⟨n::x,by simp[h2]⟩,fun m hm=>?_⟩;rcases h3 m hm with h|h
   .rcases Zx.1 h with h|h
    .exact .inl h
    .exact .inr (by simp at h;simp[h])
   .exact .inr (by simp[h])

def YcY (H:LH C):Nat->LN->LN
 | 0,l=>l
 | d+1,l=>YcY H d (YeB l (l.flatMap (YcR H)))

theorem YeC (hcl:∀ (n:Nat) (c:Ta C),H[n]?=some c->∀ m∈c.names,m<H.length):∀ (d:Nat) (l:LN),l.Nodup->(∀ n∈l,n<H.length) →
  (YcY H d l).Nodup/\(∃ x,YcY H d l=l++x)/\∀ n∈YcY H d l,n<H.length:=by
 intro d
 induction d with
 | zero=>intro l h h';exact⟨h,⟨[],by simp[YcY]⟩,h'⟩
 | succ d ih =>
  intro l h h';obtain⟨h1,⟨x,h2⟩,h3⟩:=YdC (l.flatMap (YcR H)) l h
  obtain⟨h4,⟨y,h5⟩,h6⟩:=ih _ h1 fun n hn=>by
   rcases h3 n hn with hn|hn
   .exact h' n hn
   .obtain⟨k,_,hk⟩:=ZK.1 hn;unfold YcR at hk;split at hk
    .rename_i c hc;exact hcl k c hc n hk
    .cases hk
  exact⟨h4,⟨x++y,by rw[YcY,h5,h2,Zo]⟩,h6⟩

def YdX (n0:Nat)(r:SV)(H:LH C):LN:=YcY H 6 (YeB (List.range n0) r.names)
def Ype (n0:Nat)(ts:LN):LN:=(List.range n0).filter ts.contains
def Yh (n0:Nat)(K:SV->LH C->LN->Prop):SV->LH C->LN->Prop:=fun r H ts =>
 K (r.ren (fun n=>Yab n (YdX n0 r H))) (Yas (YdX n0 r H) H) (Ype n0 ts)

theorem Ylx (hcl:∀ (n:Nat) (c:Ta C),H[n]?=some c->∀ m∈c.names,m<H.length){n0:Nat}(h0:n0<=H.length){r:SV}(hr:∀ m∈r.names,m<H.length) :
  (YdX n0 r H).Nodup/\(∃ x,YdX n0 r H=List.range n0++x)/\∀ n∈YdX n0 r H,n<H.length:=by
 obtain⟨h1,⟨x,h2⟩,h3⟩:=YdC r.names (List.range n0) List.nodup_range
 obtain⟨h4,⟨y,h5⟩,h6⟩:=YeC hcl 6 _ h1 fun n hn=>by
  rcases h3 n hn with hn|hn
  .have:=ZaK.1 hn;omega
  .exact hr n hn
 exact⟨h4,⟨x++y,by rw[YdX,h5,h2,Zo]⟩,h6⟩

theorem COut.norm {ts:LN}{r:SV}{v:Value}(h:COut C H σ φ w ts r v H' σ' φ' w') :
  COut C H σ φ w (Ype H.length ts) (r.ren (fun n=>Yab n (YdX H.length r H'))) v (Yas (YdX H.length r H') H') (fun k=>σ' ((YdX H.length r H').getD k 0))
   (fun k b=>k<(YdX H.length r H').length/\φ' ((YdX H.length r H').getD k 0) b) w':=by
 obtain⟨h1,⟨x,h2⟩,h3⟩:=Ylx (H:=H') h.sat.cl h.len h.rcl;generalize YdX H.length r H'=τ at h1 h2 h3;have hgd:∀ {k n:Nat},τ[k]?=some n->τ.getD k 0=n:=fun {k n} hk=>by simp[Zb,hk]
 have hρ:∀ n m,Yab n τ=some m->σ' (τ.getD m 0)=σ' n:=fun n m hm=>by rw[hgd (Yp hm)]
 have hlow:∀ n,n<H.length->τ[n]?=some n:=fun n hn=>by rw[h2,ZB (by simpa using hn),ZaD hn]
 have hrow:∀ n,n<H.length->(Yas τ H')[n]?=(H'[n]?).map (Ta.ren fun n=>Yab n τ):=fun n hn=>by
  unfold Yas;rw[Zv,hlow n hn,Yy (d:=.gone) (ZN hn h.len)]
  rfl
 have hts:∀ n,n<H.length->n∉Ype H.length ts->n∉ts:=fun n hn hnn hh=>hnn (by simp[Ype,hn,hh])
 refine⟨SV.ren_rel hρ h.rel,fun m hm=>?_,h.sat.pick h1 h3,⟨h.adv.os,h.adv.tape,h.adv.output,h.adv.size,h.adv.fr,fun n b hb=>h.adv.grow _ b hb.2⟩,?_,fun n hn ho=>?_,fun n hn ho=>?_,fun n hn hnt=>⟨fun b=>?_,(h.touch n hn (hts n hn hnt)).2⟩⟩
 .obtain⟨n,hn,e⟩:=SV.ren_names m hm
  simpa [Yas] using (Zt.1 (Yp e)).1
 .simp[Yas,h2]
 .rw[hgd (hlow n hn)];exact h.agree n hn (ho.imp id (hts n hn))
 .refine h.own n hn ?_;rw[YcX (hrow n hn)] at ho;exact ho
 .rw[<-(h.touch n hn (hts n hn hnt)).1 b];exact Rdb.same (by simp only[hgd (hlow n hn)]) (hrow n hn)

theorem Tg.norm {f:FuncId}{args:List TV}{K:SV->LH C->LN->Prop}(h:Tg C f args H (Yh H.length K)):Tg C f args H K:=by
 intro σ φ w vs hs hr hn;refine ZcN (h σ φ w vs hs hr hn) fun e w' hh=>?_
 cases e with
 | panicked ch=>exact hh.elim
 | outgrown=>exact hh.elim
 | returned v =>
  obtain⟨r,H',ts,σ',φ',hout,hK⟩:=hh;exact⟨_,_,_,_,_,hout.norm,hK⟩
end
end
section
section
variable {C:Ctx}
variable {H H' H1:LH C} {σ σ' σ1:Nat->Value} {φ φ' φ1:Nat->Nat->Prop} {w w':World}

def At.roots (own:Bool):At->LN
 | .ptr n _=>[n]
 | .fn _ cs=>cs
 | .slc n=>match own with
  | true=>[n]
  | false=>[]
 | _=>[]
def TV.roots (own:Bool):TV->LN
 | .at a=>a.roots own
 | .agg l=>l.flatMap (At.roots own)
def YeD:List Bool->List TV->LN
 | _,[]=>[]
 | [],x::l=>x.roots false++YeD [] l
 | m::ms,x::l=>x.roots m++YeD ms l

def At.loc (own:Bool)(Tn:LN)(a:At)(Ln:LN):At × LN:=match own,a with
 | false,.slc n=>(.slc (Tn.length+Ln.length),Ln++[n])
 | false,.eptr n i sz off=>(.eptr (Tn.length+Ln.length) i sz off,Ln++[n])
 | _,a=>(a.ren (fun n=>Yab n Tn),Ln)
def Ycr (own:Bool)(Tn:LN):List At->LN->List At × LN
 | [],Ln=>([],Ln)
 | a::l,Ln=>let p:=a.loc own Tn Ln;let q:=Ycr own Tn l p.2;(p.1::q.1,q.2)
def TV.loc (own:Bool)(Tn:LN)(x:TV)(Ln:LN):TV × LN:=match x with
 | .at a=>let p:=a.loc own Tn Ln;(.at p.1,p.2)
 | .agg l=>let p:=Ycr own Tn l Ln;(.agg p.1,p.2)
def YcF (Tn:LN):List Bool->List TV->LN->List TV × LN
 | _,[],Ln=>([],Ln)
 | [],x::l,Ln=>let p:=x.loc false Tn Ln;let q:=YcF Tn [] l p.2;(p.1::q.1,q.2)
 | m::ms,x::l,Ln=>let p:=x.loc m Tn Ln;let q:=YcF Tn ms l p.2;(p.1::q.1,q.2)

def Ta.lent {C:Ctx}:Ta C->Ta C
 | .row _ e l=>.row false e l
 | _=>.gone
def locH (Tn Ln:LN)(H:LH C):LH C:=Yas Tn H++Ln.map fun n=>(H.getD n .gone).lent

def YmE (Tn Ln:LN)(H:LH C):Bool:=Ln.all fun n=>!(Yn H n) || !(Tn.contains n)
def YhO:Ta C->Bool
 | .row false _ _=>true
 | _=>false
def YqS:Ta C->Bool
 | .rows _ _ _=>true
 | _=>false
def Yuw (kt n0:Nat)(Hl H1:LH C)(ts:LN):Bool :=
 ((List.range kt).all fun k=>!(YhO (H1.getD k .gone)) || (YhO (Hl.getD k .gone) || (Yn Hl k && !(ts.contains k)))) && ((H1.drop n0).all (fun c=>!(YhO c)) && H1.all fun c=>!(YqS c))

def YeE (L:LN)(h0:Nat)(j:Nat):Option Nat:=match L[j]? with
 | some n=>some n
 | none=>some (h0+(j-L.length))
def Ybl (ks:LN)(H:LH C):LH C:=ks.foldl (fun H n=>H.map (Ta.kill n)) H
def YdY (Tn L ts:LN)(H H1:LH C):LH C :=
 ((List.range H.length).map fun n=>match Yab n Tn with
  | some k=>(H1.getD k .gone).ren (YeE L H.length)
  | none=>(Ybl (ts.filter (Yn H)) H).getD n .gone)++(H1.drop L.length).map (Ta.ren (YeE L H.length))

def Yc (ms:List Bool)(t:Tfm C):Tfm C:=fun args H K =>
 let Tn:=YcY H 6 (YeB [] (YeD ms args))
 let p:=YcF Tn ms args []
 let L:=Tn++p.2
 let Hl:=locH Tn p.2 H
 if YmE Tn p.2 H then t p.1 Hl fun r H1 ts=>if Yuw Tn.length L.length Hl H1 ts then K (r.ren (YeE L H.length)) (YdY Tn L (ts.filterMap (Tn[·]?)) H H1) (ts.filterMap (Tn[·]?)) else False else False

theorem Ybw:∀ (ks:LN) {H:LH C},(Ybl ks H).length=H.length:=by
 intro ks
 induction ks with
 | nil=>intro H;rfl
 | cons k ks ih=>intro H;show (Ybl ks (H.map (Ta.kill k))).length=_;rw[ih];simp
theorem Sat.kills:∀ (ks:LN) {H:LH C},Sat C σ φ w H->Sat C σ φ w (Ybl ks H):=by
 intro ks
 induction ks with
 | nil=>intro H h;exact h
 | cons k ks ih=>intro H h;exact ih (h.kill k)
theorem Yly:∀ (ks:LN) {H:LH C} {n:Nat} {c:Ta C},(Ybl ks H)[n]?=some c->∀ m∈c.names,m∉ks:=by
 intro ks
 induction ks with
 | nil=>intro H n c _ m _;simp
 | cons k ks ih =>
  intro H n c h m hm;have h':(Ybl ks (H.map (Ta.kill k)))[n]?=some c:=h;have h1:=ih h' m hm
  have aux:∀ (ks:LN) {H:LH C} {c:Ta C},(Ybl ks H)[n]?=some c->∃ d,H[n]?=some d/\∀ m∈c.names,m∈d.names:=by
   intro ks
   induction ks with
   | nil=>intro H c h;exact⟨c,h,fun m hm=>hm⟩
   | cons k ks ih =>
    intro H c h;have h':(Ybl ks (H.map (Ta.kill k)))[n]?=some c:=h;obtain⟨d,hd,hm⟩:=ih h';rw[Zv,ZA] at hd;obtain⟨d0,h0,rfl⟩:=hd;exact⟨d0,h0,fun m hmm=>(Ta.kill_names m (hm m hmm)).1⟩
  obtain⟨d,hd,hmd⟩:=aux ks h';rw[Zv,ZA] at hd;obtain⟨d0,h0,rfl⟩:=hd;simp only[ZH,not_or];exact⟨(Ta.kill_names m (hmd m hm)).2,h1⟩
theorem Ylz:∀ (ks:LN) {H:LH C} {n:Nat},Yn (Ybl ks H) n=Yn H n:=by
 intro ks
 induction ks with
 | nil=>intro H n;rfl
 | cons k ks ih=>intro H n;show Yn (Ybl ks (H.map (Ta.kill k))) n=_;rw[ih,YdA]
theorem Ypf {n k b:Nat}:Rdb (H.map (Ta.kill n)) σ k b↔Rdb H σ k b:=by
 unfold Rdb;rw[Zv];cases H[k]? with
 | none=>simp
 | some c=>cases c<;>simp[Ta.kill]
theorem YlA:∀ (ks:LN) {H:LH C} {n b:Nat},Rdb (Ybl ks H) σ n b↔Rdb H σ n b:=by
 intro ks
 induction ks with
 | nil=>intro H n b;exact Zbt
 | cons k ks ih=>intro H n b;show Rdb (Ybl ks (H.map (Ta.kill k))) σ n b↔_;rw[ih,Ypf]

theorem At.loc_spec {own:Bool}{Tn:LN}{a:At}{Ln:LN}:∃ x,(a.loc own Tn Ln).2=Ln++x/\(∀ n∈x,n∈a.names)/\(∀ m∈(a.loc own Tn Ln).1.names,m<(Tn++(a.loc own Tn Ln).2).length) ∧
  ∀ (σ σ':Nat->Value) (y:LN),(∀ k n,(Tn++(Ln++x++y))[k]?=some n->σ' k=σ n)->∀ v,a.rel σ v->(a.loc own Tn Ln).1.rel σ' v:=by
 have gen:∃ x,Ln=Ln++x/\(∀ n∈x,n∈a.names)/\(∀ m∈(a.ren (fun n=>Yab n Tn)).names,m<(Tn++Ln).length) ∧
   ∀ (σ σ':Nat->Value) (y:LN),(∀ k n,(Tn++(Ln++x++y))[k]?=some n->σ' k=σ n)->∀ v,a.rel σ v->(a.ren (fun n=>Yab n Tn)).rel σ' v:=by
  refine⟨[],by simp,by simp,fun m hm=>?_,fun σ σ' y hσ v hv=>At.ren_rel (fun n m hm=>hσ m n ?_) hv⟩
  .obtain⟨n,_,e⟩:=At.ren_names m hm;have:=(Zt.1 (Yp e)).1;simp;omega
  .have:=Yp hm;rw[ZB (Zt.1 this).1];exact this
 have hlast:∀ (n:Nat) (y:LN),(Tn++(Ln++[n]++y))[Tn.length+Ln.length]?=some n:=fun n y=>by
  rw[ZU (by omega),Zo,ZU (by omega)];simp
 cases own with
 | true=>cases a<;>exact gen
 | false =>
  cases a with
  | slc n =>
   exact⟨[n],rfl,fun m hm=>hm,fun m hm=>by simp[At.loc,At.names] at hm ⊢;omega,fun σ σ' y hσ v hv=>by
    show v=σ' (Tn.length+Ln.length);rw[hσ _ _ (hlast n y)];exact hv⟩
  | eptr n i sz off =>
   exact⟨[n],rfl,fun m hm=>hm,fun m hm=>by simp[At.loc,At.names] at hm ⊢;omega,fun σ σ' y hσ v hv=>by
    obtain⟨b,o,len,cap,h1,h2⟩:=hv;exact⟨b,o,len,cap,(hσ _ _ (hlast n y)).trans h1,h2⟩⟩
  | _=>exact gen

theorem Yje {own:Bool}{Tn:LN}:∀ (l:List At) (Ln:LN),∃ x,(Ycr own Tn l Ln).2=Ln++x/\(∀ n∈x,n∈l.flatMap At.names)/\(∀ m∈(Ycr own Tn l Ln).1.flatMap At.names,m<(Tn++(Ycr own Tn l Ln).2).length) ∧
  ∀ (σ σ':Nat->Value) (y:LN),(∀ k n,(Tn++(Ln++x++y))[k]?=some n->σ' k=σ n)->∀ vs,Rels (At.rel σ) l vs->Rels (At.rel σ') (Ycr own Tn l Ln).1 vs:=by
 intro l
 induction l with
 | nil=>intro Ln;exact⟨[],by simp[Ycr],by simp,by simp[Ycr],fun σ σ' y _ vs h=>⟨h.1,fun i a b ha=>by simp[Ycr] at ha⟩⟩
 | cons a l ih =>
  intro Ln;obtain⟨x,h1,h2,h3,h4⟩:=At.loc_spec (own:=own) (Tn:=Tn) (a:=a) (Ln:=Ln);obtain⟨x',h1',h2',h3',h4'⟩:=ih (a.loc own Tn Ln).2;refine⟨x++x',h1'.trans (by rw[h1,Zo]),fun n hn=>?_,fun m hm=>?_,fun σ σ' y hσ vs hr=>?_⟩
  .rw[Zab];rcases Zx.1 hn with hn|hn
   .exact ZZ _ (h2 n hn)
   .exact Zaf _ (h2' n hn)
  .simp only[Ycr,Zab] at hm ⊢;rcases Zx.1 hm with hm|hm
   .have:=h3 m hm;rw[h1'];simp only[Zh] at this ⊢;omega
   .exact h3' m hm
  .match vs,hr with
   | [],hr=>exact absurd hr.1 (by simp)
   | v::vs,hr =>
    refine Rels.cons (h4 σ σ' (x'++y) (fun k n hk=>hσ k n (by simpa [Zo] using hk)) v (hr.2 0 a v rfl rfl)) ?_;exact h4' σ σ' y (fun k n hk=>hσ k n (by rw[h1] at hk;simpa [Zo] using hk)) vs ⟨by simpa using hr.1,fun i b u hb hu=>hr.2 (i+1) b u (by simpa using hb) (by simpa using hu)⟩

theorem TV.loc_spec {own:Bool}{Tn:LN}(x:TV)(Ln:LN):∃ z,(x.loc own Tn Ln).2=Ln++z/\(∀ n∈z,n∈x.names)/\(∀ m∈(x.loc own Tn Ln).1.names,m<(Tn++(x.loc own Tn Ln).2).length) ∧
  ∀ (σ σ':Nat->Value) (y:LN),(∀ k n,(Tn++(Ln++z++y))[k]?=some n->σ' k=σ n)->∀ v,x.rel σ v->(x.loc own Tn Ln).1.rel σ' v:=by
 cases x with
 | «at» a=>exact At.loc_spec
 | agg l =>
  obtain⟨z,h1,h2,h3,h4⟩:=Yje (own:=own) (Tn:=Tn) l Ln;exact⟨z,h1,h2,h3,fun σ σ' y hσ v ⟨cs,e,hr⟩=>⟨cs,e,h4 σ σ' y hσ cs hr⟩⟩

theorem YlB {Tn:LN}(ms:List Bool)(x:TV)(l:List TV)(Ln:LN):∃ m ms',YcF Tn ms (x::l) Ln=((x.loc m Tn Ln).1::(YcF Tn ms' l (x.loc m Tn Ln).2).1,(YcF Tn ms' l (x.loc m Tn Ln).2).2):=by
 cases ms with
 | nil=>exact⟨false,[],rfl⟩
 | cons m ms=>exact⟨m,ms,rfl⟩

theorem YlC {Tn:LN}:∀ (l:List TV) (ms:List Bool) (Ln:LN),∃ x,(YcF Tn ms l Ln).2=Ln++x/\(∀ n∈x,∃ a∈l,n∈a.names)/\(∀ a∈(YcF Tn ms l Ln).1,∀ m∈a.names,m<(Tn++(YcF Tn ms l Ln).2).length) ∧
  ∀ (σ σ':Nat->Value) (y:LN),(∀ k n,(Tn++(Ln++x++y))[k]?=some n->σ' k=σ n)->∀ vs,Rels (TV.rel σ) l vs->Rels (TV.rel σ') (YcF Tn ms l Ln).1 vs:=by
 intro l
 induction l with
 | nil=>intro ms Ln;exact⟨[],by cases ms<;>simp[YcF],by simp,by cases ms<;>simp[YcF],fun σ σ' y _ vs h=>⟨by cases ms<;>simpa [YcF] using h.1,fun i a b ha=>by cases ms<;>simp[YcF] at ha⟩⟩
 | cons a l ih =>
  intro ms Ln;obtain⟨m,ms',e⟩:=YlB (Tn:=Tn) ms a l Ln;rw[e];obtain⟨x,h1,h2,h3,h4⟩:=TV.loc_spec (own:=m) (Tn:=Tn) a Ln;obtain⟨x',h1',h2',h3',h4'⟩:=ih ms' (a.loc m Tn Ln).2;refine⟨x++x',h1'.trans (by rw[h1,Zo]),fun n hn=>?_,fun b hb k hk=>?_,fun σ σ' y hσ vs hr=>?_⟩
  .rcases Zx.1 hn with hn|hn
   .exact⟨a,by simp,h2 n hn⟩
   .obtain⟨b,hb,hbn⟩:=h2' n hn;exact⟨b,by simp[hb],hbn⟩
  .rcases ZH.1 hb with rfl|hb
   .have:=h3 k hk;simp only[h1'];simp only[Zh] at this ⊢;omega
   .exact h3' b hb k hk
  .match vs,hr with
   | [],hr=>exact absurd hr.1 (by simp)
   | v::vs,hr =>
    refine Rels.cons (h4 σ σ' (x'++y) (fun k n hk=>hσ k n (by simpa [Zo] using hk)) v (hr.2 0 a v rfl rfl)) ?_;exact h4' σ σ' y (fun k n hk=>hσ k n (by rw[h1] at hk;simpa [Zo] using hk)) vs ⟨by simpa using hr.1,fun i b u hb hu=>hr.2 (i+1) b u (by simpa using hb) (by simpa using hu)⟩

theorem At.roots_names {own:Bool}{a:At}:∀ n∈a.roots own,n∈a.names:=by
 cases a<;>cases own<;>simp[At.roots,At.names]
theorem TV.roots_names {own:Bool}{x:TV}:∀ n∈x.roots own,n∈x.names:=by
 cases x with
 | «at» a=>exact At.roots_names
 | agg l =>
  intro n hn;obtain⟨a,ha,h⟩:=ZK.1 hn;exact ZK.2 ⟨a,ha,At.roots_names n h⟩
theorem YhP:∀ (l:List TV) (ms:List Bool),∀ n∈YeD ms l,∃ x∈l,n∈x.names:=by
 intro l
 induction l with
 | nil=>intro ms n hn;cases ms<;>simp[YeD] at hn
 | cons x l ih =>
  intro ms n hn;cases ms with
  | nil =>
   rcases Zx.1 hn with hn|hn
   .exact⟨x,by simp,TV.roots_names n hn⟩
   .obtain⟨y,hy,h⟩:=ih _ n hn;exact⟨y,by simp[hy],h⟩
  | cons m ms =>
   rcases Zx.1 hn with hn|hn
   .exact⟨x,by simp,TV.roots_names n hn⟩
   .obtain⟨y,hy,h⟩:=ih _ n hn;exact⟨y,by simp[hy],h⟩

theorem Sat.loc (hC:C.OK)(h:Sat C σ φ w H){Tn Ln:LN}(hnd:Tn.Nodup)(hT:∀ n∈Tn,n<H.length)(hL:∀ n∈Ln,n<H.length)(hok:YmE Tn Ln H=true) :
  Sat C (fun k=>σ ((Tn++Ln).getD k 0)) (fun k b=>k<Tn.length/\φ ((Tn++Ln).getD k 0) b) w (locH Tn Ln H):=by
 have hp:=h.pick hnd hT;have hlen:(Yas Tn H).length=Tn.length:=by simp[Yas]
 have hgl:∀ k,k<Tn.length->(Tn++Ln).getD k 0=Tn.getD k 0:=fun k hk=>by simp[Zb,ZB hk]
 have hgr:∀ {k n:Nat},Tn.length<=k->Ln[k-Tn.length]?=some n->(Tn++Ln).getD k 0=n:=fun {k n} hk hn=>by simp[Zb,ZU hk,hn]
 have hφ:∀ k,(fun b=>k<Tn.length/\φ ((Tn++Ln).getD k 0) b)=fun b=>k<Tn.length/\φ (Tn.getD k 0) b:=fun k=>funext fun b=>propext ⟨fun hh=>⟨hh.1,by rw[<-hgl k hh.1];exact hh.2⟩,fun hh=>⟨hh.1,by rw[hgl k hh.1];exact hh.2⟩⟩
 have hget:∀ {k:Nat} {c:Ta C},Tn.length<=k->(locH Tn Ln H)[k]?=some c->∃ n c0,Ln[k-Tn.length]?=some n/\H[n]?=some c0/\c=c0.lent:=fun {k c} hk hc=>by
  unfold locH at hc;rw[ZU (by rw[hlen];exact hk),hlen,Zv,ZA] at hc;obtain⟨n,hn,e⟩:=hc;exact⟨n,_,hn,Yy (hL n (ZD hn)),e.symm⟩
 have hgetl:∀ {k:Nat},k<Tn.length->(locH Tn Ln H)[k]?=(Yas Tn H)[k]?:=fun {k} hk=>by
  unfold locH;rw[ZB (by rw[hlen];exact hk)]
 refine⟨fun k c hc=>?_,fun k m b hk hm=>?_,fun k b hb=>h.bd _ b hb.2,fun k c hl b hb m hm=>?_,fun k hk b hb=>?_,fun k c hc m hm=>?_⟩
 .rw[hφ k];rcases Zad k Tn.length with hk|hk
  .rw[hgetl hk] at hc;have hh:=hp.holds k c hc;rw[hgl k hk]
   match c with
   | .gone=>trivial
   | .box cells =>
    obtain⟨b,t,cs,h1,h2,h3,h4⟩:=hh;refine⟨b,t,cs,h1,h2,h3,h4.mono fun a v ha hr=>At.rel_of hr fun m hm=>?_⟩;have:=hp.cl k _ hc m (ZK.2 ⟨a,ha,hm⟩);exact ZT σ (hgl m (by rw[<-hlen];exact this))
   | .row true e l=>exact hh
   | .row false e l=>exact hh
   | .abs x=>exact hh
   | .map kk vk l=>exact hh
   | .arr _ _=>exact hh
   | .orows _ _ _ _=>exact hh
   | .rows _ _ _=>exact hh
  .obtain⟨n,c0,h1,h2,rfl⟩:=hget hk hc;have hh:=h.holds n c0 h2;rw[hgr hk h1];have hno:∀ b,¬ (k<Tn.length/\φ (Tn.getD k 0) b):=fun b hb=>by omega
   match c0 with
   | .gone=>trivial
   | .box cells=>trivial
   | .row own e l=>exact⟨hh.rd hC,hno⟩
   | .abs x=>trivial
   | .map kk vk l=>trivial
   | .arr _ _=>trivial
   | .orows _ _ _ _=>trivial
   | .rows _ _ _=>trivial
 .rw[hgl k hk.1] at hk;rw[hgl m hm.1] at hm;exact hp.dis k m b hk hm
 .rw[hgl m hm.1] at hm;rcases Zad k Tn.length with hk|hk
  .rw[hgetl hk] at hl;rw[hgl k hk] at hb;exact hp.imm k c hl b hb m hm
  .obtain⟨n,c0,h1,h2,rfl⟩:=hget hk hl;rw[hgr hk h1] at hb
   match c0 with
   | .gone|.box _|.abs _|.map _ _ _|.rows _ _ _|.arr _ _|.orows _ _ _ _=>exact hb.elim
   | .row own e' l' =>
    obtain⟨hpos,hb⟩:=hb;cases own with
    | false=>exact h.immr n _ _ h2 hpos b hb _ hm.2
    | true =>
     have hh:=h.holds n _ h2;have hn:φ n b:=(hh.2 b).2 hb;have:=h.dis _ _ b hm.2 hn
     have hmem:n∈Tn:=by
      rw[<-this];exact ZD (Yy (d:=0) hm.1)
     have hok':=Zao.1 hok n (ZD h1);simp[Yn,h2,hmem] at hok'
 .simp[locH,Yas] at hk;have:=hb.1;omega
 .have hle:(locH Tn Ln H).length=Tn.length+Ln.length:=by simp[locH,Yas]
  rcases Zad k Tn.length with hk|hk
  .rw[hgetl hk] at hc;have:=hp.cl k c hc m hm;rw[hlen] at this;omega
  .obtain⟨n,c0,h1,h2,rfl⟩:=hget hk hc;cases c0<;>simp[Ta.lent,Ta.names] at hm
end
end
section
section
variable {C:Ctx}
variable {H H' H1:LH C} {σ σ' σ1:Nat->Value} {φ φ' φ1:Nat->Nat->Prop} {w w':World}

def YcZ (Tn L:LN)(h0:Nat)(σ σ1:Nat->Value)(n:Nat):Value:=if n<h0 then (match Yab n Tn with|some k=>σ1 k|none=>σ n) else σ1 (n-h0+L.length)
def Yfv (Tn L:LN)(h0:Nat)(φ φ1:Nat->Nat->Prop)(n b:Nat):Prop:=if n<h0 then (match Yab n Tn with|some k=>φ1 k b|none=>φ n b) else φ1 (n-h0+L.length) b

theorem Ygn {Tn Ln:LN}{k n:Nat}(hT:∀ n∈Tn,n<H.length)(h:Tn[k]?=some n):(locH Tn Ln H)[k]?=(H[n]?).map (Ta.ren fun n=>Yab n Tn):=by
 have hk:=(Zt.1 h).1;unfold locH;rw[ZB (by simpa [Yas] using hk)];unfold Yas;rw[Zv,h,Yy (d:=.gone) (hT n (ZD h))]
 rfl
theorem YmF (hC:C.OK)(h:Sat C σ φ w H){Tn Ln:LN}(hnd:Tn.Nodup)(hT:∀ n∈Tn,n<H.length)(hL:∀ n∈Ln,n<H.length)(hok:YmE Tn Ln H=true){ts:LN}{r:SV}{v:Value}(g:COut C (locH Tn Ln H) (fun k=>σ ((Tn++Ln).getD k 0)) (fun k b=>k<Tn.length/\φ ((Tn++Ln).getD k 0) b) w ts r v H1 σ1 φ1 w')(hoo:Yuw Tn.length (Tn++Ln).length (locH Tn Ln H) H1 ts=true) :
  COut C H σ φ w (ts.filterMap (Tn[·]?)) (r.ren (YeE (Tn++Ln) H.length)) v (YdY Tn (Tn++Ln) (ts.filterMap (Tn[·]?)) H H1) (YcZ Tn (Tn++Ln) H.length σ σ1) (Yfv Tn (Tn++Ln) H.length φ φ1) w':=by
 have hl0:(locH Tn Ln H).length=(Tn++Ln).length:=by simp[locH,Yas]
 have hn0:(Tn++Ln).length<=H1.length:=hl0 ▸ g.len;have htl:Tn.length<=(Tn++Ln).length:=by simp
 have hgl:∀ {k n:Nat},Tn[k]?=some n->(Tn++Ln).getD k 0=n:=fun {k n} hk=>by
  simp[Zb,ZB (Zt.1 hk).1,hk]
 have hts:∀ {k n:Nat},Tn[k]?=some n->n∉ts.filterMap (Tn[·]?)->k∉ts:=fun {k n} hk hn hh=>hn (List.mem_filterMap.2 ⟨k,hh,hk⟩)
 have hown:∀ {k n:Nat},Tn[k]?=some n->Yn (locH Tn Ln H) k=Yn H n:=fun {k n} hk=>YcX (Ygn hT hk)
 have hks:∀ {k n:Nat},Tn[k]?=some n->k<(locH Tn Ln H).length:=fun {k n} hk=>by
  have:=(Zt.1 hk).1;omega
 have hsame:∀ {k n:Nat},Tn[k]?=some n->Yn H n=false∨n∉ts.filterMap (Tn[·]?)->σ1 k=σ n:=fun {k n} hk ho=>by
  have:=g.agree k (hks hk) (ho.imp (fun e=>(hown hk).trans e) (hts hk));rw[this,hgl hk]
 have hblen:(YdY Tn (Tn++Ln) (ts.filterMap (Tn[·]?)) H H1).length=H.length+(H1.length-(Tn++Ln).length):=by simp[YdY]
 have hbin:∀ {n k:Nat},Yab n Tn=some k->(YdY Tn (Tn++Ln) (ts.filterMap (Tn[·]?)) H H1)[n]?=(H1[k]?).map (Ta.ren (YeE (Tn++Ln) H.length)):=fun {n k} hk=>by
  have hn:=hT n (ZD (Yp hk));have:=hks (Yp hk);unfold YdY;rw[ZB (by simpa using hn),Zv,ZaD hn];simp only[ZaL,hk];rw[Yy (d:=.gone) (l:=H1) (i:=k) (by omega)]
  rfl
 have hbno:∀ {n:Nat},n<H.length->Yab n Tn=none->(YdY Tn (Tn++Ln) (ts.filterMap (Tn[·]?)) H H1)[n]?=(Ybl ((ts.filterMap (Tn[·]?)).filter (Yn H)) H)[n]?:=fun {n} hn hk=>by
  unfold YdY;rw[ZB (by simpa using hn),Zv,ZaD hn];simp only[ZaL,hk];rw[<-Yy (by rw[Ybw];exact hn)]
 have hbnew:∀ {n:Nat},H.length<=n->(YdY Tn (Tn++Ln) (ts.filterMap (Tn[·]?)) H H1)[n]?=(H1[n-H.length+(Tn++Ln).length]?).map (Ta.ren (YeE (Tn++Ln) H.length)):=fun {n} hn=>by
  unfold YdY;rw[ZU (by simpa using hn),Zv,ZaV];simp only[Zu,ZaF,Nat.add_comm]
 -- the source of a name that was handed over or is new
 have src:∀ n,(n∈Tn∨H.length<=n)->∃ k,YcZ Tn (Tn++Ln) H.length σ σ1 n=σ1 k/\(∀ b,Yfv Tn (Tn++Ln) H.length φ φ1 n b↔φ1 k b) ∧
   (YdY Tn (Tn++Ln) (ts.filterMap (Tn[·]?)) H H1)[n]?=(H1[k]?).map (Ta.ren (YeE (Tn++Ln) H.length))/\((Tn[k]?=some n/\n<H.length)∨((Tn++Ln).length<=k/\n=H.length+(k-(Tn++Ln).length))):=by
  intro n hn
  by_cases hlt:n<H.length
  .have hmem:n∈Tn:=hn.resolve_right (by omega);cases hi:Yab n Tn with
   | none=>exact absurd hmem (YfG hi)
   | some k=>exact⟨k,by simp[YcZ,hlt,hi],fun b=>by simp[Yfv,hlt,hi],hbin hi,.inl ⟨Yp hi,hlt⟩⟩
  .exact⟨n-H.length+(Tn++Ln).length,by simp only[YcZ,Zf hlt],fun b=>by simp only[Yfv,Zf hlt],hbnew (by omega),.inr ⟨by omega,by omega⟩⟩
 have hno:∀ n,¬ (n∈Tn∨H.length<=n)->n<H.length/\Yab n Tn=none:=fun n hn=>by
  have h1:n∉Tn:=fun e=>hn (.inl e)
  refine⟨by have:¬ H.length<=n:=fun e=>hn (.inr e);omega,?_⟩;cases hi:Yab n Tn with
  | none=>rfl
  | some k=>exact absurd (ZD (Yp hi)) h1
 have hρ:∀ j m,YeE (Tn++Ln) H.length j=some m->YcZ Tn (Tn++Ln) H.length σ σ1 m=σ1 j:=by
  intro j m hjm;unfold YeE at hjm;split at hjm
  .rename_i n hn;simp only[Zl] at hjm;subst hjm;rcases Zad j Tn.length with hj|hj
   .rw[ZB hj] at hn;simp[YcZ,hT n (ZD hn),YcD hnd hn]
   .have hjl:=(Zt.1 hn).1;have hn':=hn;rw[ZU hj] at hn;have hnl:=hL n (ZD hn)
    have hlent:Yn (locH Tn Ln H) j=false:=by
     unfold Yn locH;rw[ZU (by simpa [Yas] using hj)];simp only[Yas,Zu,Zv,hn,ZaL];cases H.getD n .gone<;>rfl
    have hj1:σ1 j=σ n:=by
     rw[g.agree j (by omega) (.inl hlent)];simp[Zb,hn']
    rw[hj1];unfold YcZ;rw[Zj hnl];split
    .rename_i k hk;refine hsame (Yp hk) (.inl ?_);have:=Zao.1 hok n (ZD hn);have hmem:=ZD (Yp hk)
     simpa [hmem] using this
    .rfl
  .rename_i hj;simp only[Zl] at hjm;subst hjm;have:(Tn++Ln).length<=j:=ZbU.1 hj;unfold YcZ;rw[Zf (by omega)]
   congr 1
   omega
 have hren:∀ j m,YeE (Tn++Ln) H.length j=some m->j<H1.length->m<H.length+(H1.length-(Tn++Ln).length):=by
  intro j m hjm hj;unfold YeE at hjm;split at hjm
  .rename_i n hn;simp only[Zl] at hjm;subst hjm;rcases Zx.1 (ZD hn) with hn|hn
   .have:=hT n hn;omega
   .have:=hL n hn;omega
  .rename_i hj';simp only[Zl] at hjm;subst hjm;have:(Tn++Ln).length<=j:=ZbU.1 hj';omega
 have hfrl:∀ b,b<w.heap.size->(∀ n,(n∈Tn∨H.length<=n)->¬ φ n b)->w'.heap[b]?=w.heap[b]?:=fun b hb hno=>g.adv.fr b hb fun k hk=>by
  have:=Yy (d:=0) hk.1;rw[hgl this] at hk;exact hno _ (.inl (ZD this)) hk.2
 have hold':∀ n,¬ (n∈Tn∨H.length<=n)->YcZ Tn (Tn++Ln) H.length σ σ1 n=σ n/\∀ b,Yfv Tn (Tn++Ln) H.length φ φ1 n b↔φ n b:=fun n hn=>by
  obtain⟨h1,h2⟩:=hno n hn;exact⟨by simp[YcZ,h1,h2],fun b=>by simp[Yfv,h1,h2]⟩
 have hgrow:∀ n b,(n∈Tn∨H.length<=n)->Yfv Tn (Tn++Ln) H.length φ φ1 n b->(∃ m,(m∈Tn∨H.length<=m)/\φ m b)∨w.heap.size<=b:=fun n b hn hb=>by
  obtain⟨k,_,h2,_⟩:=src n hn;rcases g.adv.grow k b ((h2 b).1 hb) with ⟨m,hm⟩|hle
  .have:=Yy (d:=0) hm.1;rw[hgl this] at hm;exact .inl ⟨_,.inl (ZD this),hm.2⟩
  .exact .inr hle
 have hagree:∀ n,n<H.length->Yn H n=false∨n∉ts.filterMap (Tn[·]?)->YcZ Tn (Tn++Ln) H.length σ σ1 n=σ n:=fun n hn ho=>by
  unfold YcZ;rw[Zj hn];split
  .rename_i k hk;exact hsame (Yp hk) ho
  .rfl
 obtain⟨hoo1,hoo23⟩:=Bool.and_eq_true_iff.1 hoo;obtain⟨hoo2,hoo3⟩:=Bool.and_eq_true_iff.1 hoo23
 have hsat:Sat C (YcZ Tn (Tn++Ln) H.length σ σ1) (Yfv Tn (Tn++Ln) H.length φ φ1) w' (YdY Tn (Tn++Ln) (ts.filterMap (Tn[·]?)) H H1):=by
  refine (h.kills ((ts.filterMap (Tn[·]?)).filter (Yn H))).step hC (fun n=>n∈Tn∨H.length<=n) g.adv.size hfrl (fun n hn=>⟨hbno (hno n hn).1 (hno n hn).2,hold' n hn⟩) (fun n c hn hc m hm=>?_) (fun n c hn hc=>?_)
   hgrow (fun n m b hn hm hb hb'=>?_) (fun n b hn hb=>?_) (fun n c hn hc b hb m hm=>?_) (fun n hn b hb=>?_) (by rw[Ybw,hblen];omega) (fun n c hn hc m hm=>?_)
  .have hlt:=(h.kills ((ts.filterMap (Tn[·]?)).filter (Yn H))).cl n c hc m hm;rw[Ybw] at hlt;refine hagree m hlt ?_;have:=Yly _ hc m hm;rw[Zcv] at this
   by_cases hm':m∈ts.filterMap (Tn[·]?)
   .refine .inl ?_;cases hx:Yn H m with
    | false=>rfl
    | true=>exact absurd ⟨hm',hx⟩ this
   .exact .inr hm'
  .obtain⟨k,h1,h2,h3,_⟩:=src n hn;rw[h3,ZA] at hc;obtain⟨c0,hc0,rfl⟩:=hc;rw[h1,show Yfv Tn (Tn++Ln) H.length φ φ1 n=φ1 k from funext fun b=>propext (h2 b)];exact (g.sat.holds k c0 hc0).ren hρ
  .obtain⟨k,_,h2,_,h4⟩:=src n hn;obtain⟨k',_,h2',_,h4'⟩:=src m hm;have:=g.sat.dis k k' b ((h2 b).1 hb) ((h2' b).1 hb');subst this;rcases h4 with ⟨h4,_⟩|⟨h4,h5⟩<;>rcases h4' with ⟨h4',_⟩|⟨h4',h5'⟩
   .exact Zai (h4.symm.trans h4')
   .have:=(Zt.1 h4).1;omega
   .have:=(Zt.1 h4').1;omega
   .omega
  .obtain⟨k,_,h2,_⟩:=src n hn;exact g.sat.bd k b ((h2 b).1 hb)
  .obtain⟨k,h1,h2,h3,h4⟩:=src n hn;rw[h3,ZA] at hc;obtain⟨c0,hc0,rfl⟩:=hc;rw[h1] at hb;have hb:=Ro.ren.1 hb
   match c0,hb with
   | .rows _ _ _,_ =>
    have:=Zao.1 hoo3 _ (ZD hc0);simp[YqS] at this
   | .gone,hb|.box _,hb|.abs _,hb|.map _ _ _,hb|.arr _ _,hb|.orows _ _ _ _,hb|.row true _ _,hb=>exact hb.elim
   | .row false e l,hb =>
   obtain⟨hpos,hb⟩:=hb
   by_cases hmS:m∈Tn∨H.length<=m
   .obtain⟨k',_,h2',_⟩:=src m hmS;exact g.sat.immr k e l hc0 hpos b hb k' ((h2' b).1 hm)
   .have hm2:=((hold' m hmS).2 b).1 hm;rcases h4 with ⟨h4,hlt⟩|⟨h4,_⟩
    .have hk:=(Zt.1 h4).1;have hkk:=Zao.1 hoo1 k (ZaK.2 hk)
     have e1:YhO (H1.getD k .gone)=true:=by
      have:H1.getD k .gone = .row false e l:=by simp[Zb,hc0]
      rw[this];rfl
     rw[e1] at hkk;simp only[Bool.not_true,Bool.false_or,Bool.or_eq_true,Zar] at hkk;have hHn:=Yy (d:=.gone) hlt;have hHl:=Ygn (Ln:=Ln) hT h4;rw[hHn] at hHl
     have hgd:(locH Tn Ln H).getD k .gone=(H.getD n .gone).ren (fun n=>Yab n Tn):=by
      rw[Zb,hHl];rfl
     rcases hkk with hkk|⟨hk1,hk2⟩
     .rw[hgd] at hkk;generalize H.getD n .gone=c at *
      match c,hkk,hHn with
      | .row false e' l',_,hHn =>
       have hnown:Yn H n=false:=by simp[Yn,hHn]
       have hσ:=hsame h4 (.inl hnown);rw[hσ] at hb;refine h.immr n e' l' hHn ?_ b hb m hm2;have i1:=(g.sat.holds k _ hc0).1;have i2:=(h.holds n _ hHn).1;obtain⟨A,c,e1,_⟩:=i1;obtain⟨A',c',e2,_⟩:=i2;rw[hσ,e2] at e1;simp only[Zbl] at e1;omega
     .have hk2':k∉ts:=by simpa using hk2
      rw[hown h4] at hk1
      have hφn:∀ b,(σ n).ownBlock=some b->φ n b:=by
       rcases Yls.1 hk1 with ⟨e',l',hHo⟩|⟨a',e',l',hHo⟩|⟨a',e',k',l',hHo⟩
       .exact fun b=>((h.holds n _ hHo).2 b).2
       .exact fun b=>((h.holds n _ hHo).2.2 b).2
       .obtain⟨_,_,_,_,_,_,_,_,hf⟩:=h.holds n _ hHo;exact fun b hb=>(hf b).2 (.inl hb)
      have hσ:σ1 k=σ n:=by
       rw[g.agree k (hks h4) (.inr hk2'),hgl h4]
      rw[hσ] at hb;have:=hφn b hb;have:=h.dis m n b hm2 this;subst this;exact hmS (.inl (ZD h4))
    .have hmem:Ta.row false e l∈H1.drop (Tn++Ln).length:=by
      refine ZD (i:=k-(Tn++Ln).length) ?_;rw[ZaV];rw[show (Tn++Ln).length+(k-(Tn++Ln).length)=k by omega];exact hc0
     have:=Zao.1 hoo2 _ hmem;simp[YhO] at this
  .rw[hblen] at hn;unfold Yfv at hb;rw[Zf (by omega)] at hb;exact g.sat.out _ (by omega) b hb
  .obtain⟨k,h1,h2,h3,h4⟩:=src n hn;rw[h3,ZA] at hc;obtain⟨c0,hc0,rfl⟩:=hc;obtain⟨j,hj,e⟩:=Ta.ren_names m hm;rw[hblen];exact hren j m e (g.sat.cl k c0 hc0 j hj)
 refine⟨SV.ren_rel hρ g.rel,fun m hm=>?_,hsat,⟨g.adv.os,g.adv.tape,g.adv.output,g.adv.size,fun k hk hn=>hfrl k hk fun n _=>hn n,fun n b hb=>?_⟩,by rw[hblen];omega,hagree,fun n hn ho=>?_,fun n hn hnt=>?_⟩
 .obtain⟨j,hj,e⟩:=SV.ren_names m hm;rw[hblen];exact hren j m e (g.rcl j hj)
 .by_cases hS:n∈Tn∨H.length<=n
  .rcases hgrow n b hS hb with ⟨m,_,hm⟩|hle
   .exact .inl ⟨m,hm⟩
   .exact .inr hle
  .exact .inl ⟨n,((hold' n hS).2 b).1 hb⟩
 .cases hi:Yab n Tn with
  | some k =>
   rw[YcX (hbin hi)] at ho;have:=g.own k (hks (Yp hi)) ho;rw[hown (Yp hi)] at this;exact this
  | none =>
   have:=hbno hn hi;unfold Yn at ho;rw[this] at ho;exact Ylz ((ts.filterMap (Tn[·]?)).filter (Yn H)) ▸ ho
 .cases hi:Yab n Tn with
  | some k =>
   obtain⟨h1,h2⟩:=g.touch k (hks (Yp hi)) (hts (Yp hi) hnt);have hl:∀ b,Rdb (locH Tn Ln H) (fun k=>σ ((Tn++Ln).getD k 0)) k b↔Rdb H σ n b:=fun b=>Rdb.same (by simp only[hgl (Yp hi)]) (Ygn hT (Yp hi))
   refine⟨fun b=>?_,fun b hb hlt=>h2 b ((hl b).2 hb) hlt⟩;rw[<-hl b,<-h1 b];exact Rdb.same (by simp[YcZ,hn,hi]) (hbin hi)
  | none =>
   have hS:¬ (n∈Tn∨H.length<=n):=fun hh=>by
    rcases hh with hh|hh
    .exact YfG hi hh
    .omega
   refine⟨fun b=>?_,fun b hb hlt=>hfrl b hlt fun m hm hφ=>hS (by rw[YcV h hb hφ];exact hm)⟩;rw[<-YlA ((ts.filterMap (Tn[·]?)).filter (Yn H)) (σ:=σ)];unfold Rdb;rw[hbno hn hi,(hold' n hS).1]

theorem Ye (hC:C.OK){f:FuncId}{t:Tfm C}(ht:Tb C f t)(ms:List Bool):Tb C f (Yc ms t) where
 enter:=ht.enter
 call args H K hk:=by
  intro σ φ w vs hs hr hn;unfold Yc at hk;simp only at hk;split at hk<;>try (exact hk.elim)
  rename_i hok;obtain⟨d1,⟨_,_⟩,d3⟩:=YdC (YeD ms args) [] ZaX
  obtain⟨c1,_,c3⟩:=YeC hs.cl 6 _ d1 fun n hn'=>by
   rcases d3 n hn' with h|h
   .cases h
   .obtain⟨x,hx,hxn⟩:=YhP args ms n h;exact hn x hx n hxn
  generalize YcY H 6 (YeB [] (YeD ms args))=Tn at *;obtain⟨x,l1,l2,l3,l4⟩:=YlC (Tn:=Tn) args ms [];have hx:(YcF Tn ms args []).2=x:=by simpa using l1
  rw[hx] at hk hok l3
  have hL:∀ n∈x,n<H.length:=fun n hnx=>by
   obtain⟨a,ha,han⟩:=l2 n hnx;exact hn a ha n han
  have hsl:=hs.loc hC c1 c3 hL hok
  have hrl:=l4 σ (fun k=>σ ((Tn++x).getD k 0)) [] (fun k n hkn=>by
   have:(Tn++x)[k]?=some n:=by simpa using hkn
   simp[Zb,this]) vs hr
  refine ZcN (ht.call _ _ _ hk _ _ w vs hsl hrl fun a ha m hm=>?_) fun e w' hh=>?_
  .have:=l3 a ha m hm
   simpa [locH,Yas] using this
  .cases e with
   | panicked ch=>exact hh.elim
   | outgrown=>exact hh.elim
   | returned v =>
    obtain⟨r,H1,ts,σ1,φ1,hout,hK⟩:=hh;split at hK<;>try (exact hK.elim)
    rename_i hoo;exact⟨_,_,_,_,_,YmF hC hs c1 c3 hL hok hout hoo,hK⟩
def RowB (H:LH C):Prop:=∀ (n:Nat) own e l,H[n]?=some (.row own e l)->l.length<=maxLen

theorem Tg.rowB (hC:C.OK){f:FuncId}{args:List TV}{K:SV->LH C->LN->Prop}(h:RowB H->Tg C f args H K):Tg C f args H K:=by
 intro σ φ w vs hs hr hn;refine h (fun n own e l hl=>?_) σ φ w vs hs hr hn;obtain⟨A,c,_,hrd⟩:=(hs.holds n _ hl).rd hC;exact Zap hrd.cap hrd.max
end
end
end Go.Proofs.YtedfbafngmicpaaGreat.Sx
section
namespace Go.Proofs.YtedfbafngmicpaaGreat

structure Chg where
 kind:Int
 key:Int
 old:Int
 new:Int
 deriving DecidableEq

def Chg.before (c:Chg):Option Int:=if c.kind=1 then none else some c.old
def Chg.after (c:Chg):Option Int:=if c.kind=2 then none else some c.new

def YmG (k:Int)(x y:Option Int):Option Chg :=
 if x=y then none else match x,y with
  | none,none=>none
  | none,some v=>some ⟨1,k,0,v⟩
  | some u,none=>some ⟨2,k,u,0⟩
  | some u,some v=>some ⟨3,k,u,v⟩

def Chg.ok (c:Chg):Prop:=YmG c.key c.before c.after=some c
instance (c:Chg):Decidable c.ok:=by unfold Chg.ok;infer_instance

theorem Chg.ok_ext {c d:Chg}(hc:c.ok)(hd:d.ok)(hk:c.key=d.key)(hb:c.before=d.before)(ha:c.after=d.after):c=d:=by
 unfold Chg.ok at hc hd;rw[hk,hb,ha,hd] at hc;exact (Zai hc).symm

def Val (p:List Chg):Prop:=Srt Chg.key p/\∀ c∈p,c.ok

abbrev pEC:=Ybs (Prod.fst:Ent->Int) Chg.key

theorem Val.ext {p q:List Chg}(hp:Val p)(hq:Val q)(h:∀ k,(fnd Chg.key p k).map (fun c=>(c.before,c.after))=(fnd Chg.key q k).map (fun c=>(c.before,c.after))):p=q:=by
 refine Srt.ext (key:=Chg.key) hp.1 hq.1 fun k=>?_
 have:=h k;cases h1:fnd Chg.key p k with
 | none=>rw[h1] at this;cases h2:fnd Chg.key q k with
  | none=>rfl
  | some d=>rw[h2] at this;cases this
 | some c =>
  cases h2:fnd Chg.key q k with
  | none=>rw[h1,h2] at this;cases this
  | some d =>
   rw[h1,h2] at this;simp at this;rw[Chg.ok_ext (hp.2 c (Ymd h1)) (hq.2 d (Ymd h2)) ((YiK h1).trans (YiK h2).symm) this.1 this.2]

end Go.Proofs.YtedfbafngmicpaaGreat
end
section
namespace Go.Proofs.YtedfbafngmicpaaGreat
open Go

structure Td where
 key:Int
 value:Int
 left:Int
 right:Int
 size:Int
 sum:Int
 min:Int
 max:Int
 deriving DecidableEq
def Td.zero:Td:=⟨0,0,0,0,0,0,0,0⟩
structure Arn where
 used:List Bool
 gen:LI
 rel:LI
 fresh:Int
 nodes:List Td
 counts:LI
 reads:Int

theorem YQ {α:Type}(l:List α)(i j:Nat)(x d:α):(l.set i x).getD j d=if i=j/\j<l.length then x else l.getD j d:=by
 simp only[Zb,Zbk]
 by_cases h:i=j
 .subst h
  by_cases h2:i<l.length
  .simp[h2]
  .simp[h2]
 .simp[h]
theorem Yac {α:Type}(p:α->Bool):∀ (l:List α) (i:Nat) (x d:α),i<l.length->(l.set i x).countP p+(if p (l.getD i d) then 1 else 0)=l.countP p+(if p x then 1 else 0):=by
 intro l
 induction l with
 | nil=>intro i x d h;simp at h
 | cons y t ih =>
  intro i x d h;cases i with
  | zero=>simp[Zbc];omega
  | succ i =>
   have:=ih i x d (by simpa using h);simp only[List.set_cons_succ,Zbc,List.getD_cons_succ];omega

namespace Arn
def us (S:Arn)(i:Int):Bool:=S.used.getD i.toNat false
def nd (S:Arn)(i:Int):Td:=S.nodes.getD i.toNat Td.zero
def ct (S:Arn)(i:Int):Int:=S.counts.getD i.toNat 0
def gn (S:Arn)(i:Int):Int:=S.gen.getD i.toNat 0
def cap (S:Arn):Int:=S.used.length-1
def free (S:Arn):Int:=S.rel.length+S.cap-S.fresh
def nu (S:Arn):Nat:=S.used.countP id
def indeg (S:Arn)(i:Int):Nat:=S.nodes.countP (fun x=>x.left==i)+S.nodes.countP (fun x=>x.right==i)
end Arn
def Ym:Int:=2147483647

def addK (n x:Td):Td:={ n with size:=Za.wrap (n.size+x.size),sum:=Za.wrap (n.sum+x.sum),min:=if x.min<n.min then x.min else n.min,max:=if n.max<x.max then x.max else n.max }
def addC (S:Arn)(n:Td)(c:Int):Td:=if c=0 then n else addK n (S.nd c)
def Yk (S:Arn)(k v l r:Int):Td:=addC S (addC S ⟨k,v,l,r,1,v,v,v⟩ l) r

structure Wf (S:Arn) (hs:LI):Prop where
 n1:2<=S.used.length
 n2:S.used.length<=65537
 ngen:S.gen.length=S.used.length
 nnod:S.nodes.length=S.used.length
 ncnt:S.counts.length=S.used.length
 fr:0<=S.fresh/\S.fresh<S.used.length
 rel:∀ i∈S.rel,1<=i/\i<=S.fresh
 dup:S.rel.Nodup
 use:∀ i:Int,S.us i=true↔1<=i/\i<=S.fresh/\i∉S.rel
 zero:∀ i:Int,S.us i=false->S.nd i=Td.zero
 kid:∀ i,S.us i=true->((S.nd i).left=0∨S.us (S.nd i).left=true)/\((S.nd i).right=0∨S.us (S.nd i).right=true)
 agg:∀ i,S.us i=true->S.nd i=Yk S (S.nd i).key (S.nd i).value (S.nd i).left (S.nd i).right
 siz:∀ i,S.us i=true->1<=(S.nd i).size/\(S.nd i).size<=Ym/\(S.nd i).size=1+(S.nd (S.nd i).left).size+(S.nd (S.nd i).right).size
 cnt:∀ i,S.us i=true->S.ct i=S.indeg i+hs.count i/\1<=S.ct i
 held:∀ i∈hs,i=0∨S.us i=true
 few:hs.length+2*S.nu<=2000000000
 nus:S.rel.length+S.nu=S.fresh.toNat
 rds:0<=S.reads/\S.reads<=4000000000000000000

variable {S:Arn} {hs:LI}
theorem Wf.pos (h:Wf S hs){i:Int}(hi:S.us i=true):1<=i/\i<S.used.length/\i.toNat<S.used.length:=by
 have:=(h.use i).1 hi;have:=h.fr;omega
theorem Wf.us0 (h:Wf S hs){i:Int}(hi:i<=0):S.us i=false:=by
 cases hb:S.us i with
 | false=>rfl
 | true=>have:=(h.pos hb).1;omega
theorem Wf.nd0 (h:Wf S hs):S.nd 0=Td.zero:=h.zero 0 (h.us0 (ZE 0))
theorem Wf.size_nonneg (h:Wf S hs)(i:Int):0<=(S.nd i).size/\(S.nd i).size<=Ym:=by
 cases hb:S.us i with
 | false=>rw[h.zero i hb];decide
 | true=>have:=h.siz i hb;omega

theorem Wf.nu_le (h:Wf S hs):S.nu<=65537:=by
 have:=Zcr (p:=id) (l:=S.used);have:=h.n2;unfold Arn.nu;omega
theorem Wf.free_nonneg (h:Wf S hs):0<=S.free/\S.free<=65536/\(S.rel.length:Int)<=S.fresh/\S.free=S.cap-S.nu:=by
 have:=h.nus;have:=h.fr;have:=h.n2;unfold Arn.free Arn.cap;omega

def rdS (S:Arn)(n:Nat):Arn:={ S with reads:=S.reads+n }
theorem Wf.rd (h:Wf S hs){n:Nat}(hn:S.reads+n<=4000000000000000000):Wf (rdS S n) hs :=
 { h with rds:=⟨by have:=h.rds;show 0<=S.reads+(n:Int);omega,hn⟩ }

def bump (l:LI)(i:Int):LI:=l.set i.toNat (Za.wrap (l.getD i.toNat 0+1))
def retA (S:Arn)(i:Int):Arn:={ S with counts:=bump S.counts i }
def decS (S:Arn)(i:Int):Arn:={ S with counts:=S.counts.set i.toNat (Za.wrap (S.ct i-1)) }
theorem Ygo (l:LI)(i:Int):(bump l i).length=l.length:=by simp[bump]
theorem Yb {x:Int}(h1 : -9223372036854775808<=x)(h2:x<=9223372036854775807):Za.wrap x=x:=by
 unfold IntKind.wrap;simp[IntKind.signed,IntKind.bits];omega
theorem Wf.indeg_le (h:Wf S hs)(i:Int):S.indeg i<=131074:=by
 have h1:=Zcr (p:=fun x:Td=>x.left==i) (l:=S.nodes);have h2:=Zcr (p:=fun x:Td=>x.right==i) (l:=S.nodes);have:=h.nnod;have:=h.n2;unfold Arn.indeg;omega
theorem Wf.ct_le (h:Wf S hs){i:Int}(hi:S.us i=true):1<=S.ct i/\S.ct i<=2000200000:=by
 have h1:=h.cnt i hi;have h2:=h.indeg_le i;have h3:=Zcw (a:=i) (l:=hs);have:=h.few;omega
theorem Wf.ret (h:Wf S hs){i:Int}(hi:S.us i=true)(hf:hs.length<1000000000):Wf (retA S i) (i::hs):=by
 have hp:=h.pos hi;have hc:=h.ct_le hi;refine { h with ncnt:=by show (bump S.counts i).length=_;rw[Ygo];exact h.ncnt,cnt:=fun j hj=>?_,held:=fun j hj=>?_,few:=by have:=h.nu_le;show (i::hs).length+2*S.nu<=_;simp;omega }
 .have hj':S.us j=true:=hj;have hpj:=h.pos hj';obtain⟨h1,h2⟩:=h.cnt j hj'
  have e:(retA S i).ct j=if i=j then S.ct j+1 else S.ct j:=by
   unfold retA Arn.ct bump;simp only[];rw[YQ]
   by_cases e:i=j
   .subst e;rw[Zj ⟨rfl,by rw[h.ncnt];omega⟩,Zj rfl];unfold Arn.ct at hc;rw[Yb (by omega) (by omega)]
   .rw[Zf (by omega),Zf e]
  have e2:(retA S i).indeg j=S.indeg j:=rfl;rw[e,e2,List.count_cons]
  by_cases e3:i=j
  .subst e3;simp;omega
  .simp[e3];omega
 .rcases ZH.1 hj with rfl|hj
  .exact .inr hi
  .exact h.held j hj
theorem Wf.dec {i:Int}(h:Wf S (i::hs))(hi:S.us i=true)(h1:1<S.ct i):Wf (decS S i) hs:=by
 have hp:=h.pos hi;have hc:=h.ct_le hi;refine { h with ncnt:=by show (S.counts.set _ _).length=_;rw[ZaB];exact h.ncnt,cnt:=fun j hj=>?_,held:=fun j hj=>h.held j (Zz _ hj),few:=by have:=h.few;show hs.length+2*S.nu<=_;simp at this;omega };have hj':S.us j=true:=hj;have hpj:=h.pos hj';obtain⟨h3,h4⟩:=h.cnt j hj'
 have e:(decS S i).ct j=if i=j then S.ct j-1 else S.ct j:=by
  unfold decS Arn.ct;simp only[];rw[YQ]
  by_cases e:i=j
  .subst e;rw[Zj ⟨rfl,by rw[h.ncnt];omega⟩,Zj rfl];unfold Arn.ct at hc;rw[Yb (by omega) (by omega)]
  .rw[Zf (by omega),Zf e]
 have e2:(decS S i).indeg j=S.indeg j:=rfl;rw[e,e2];rw[List.count_cons] at h3
 by_cases e3:i=j
 .subst e3;simp at h3 ⊢;omega
 .simp[e3] at h3 ⊢;omega
theorem Wf.perm {hs':LI}(h:Wf S hs)(p:hs.Perm hs'):Wf S hs' :=
 { h with cnt:=fun i hi=>by rw[<-p.count_eq];exact h.cnt i hi,held:=fun i hi=>h.held i (p.mem_iff.2 hi),few:=by rw[<-p.length_eq];exact h.few }
theorem Wf.zero_cons (h:Wf S hs)(hl:hs.length<=1000000000):Wf S (0::hs):=by
 refine { h with cnt:=fun i hi=>?_,held:=fun i hi=>?_,few:=by have:=h.nu_le;simp;omega }
 .have hp:=(h.pos hi).1;rw[ZbM (by omega)];exact h.cnt i hi
 .rcases ZH.1 hi with rfl|hi
  .exact .inl rfl
  .exact h.held i hi
theorem Wf.of_zero (h:Wf S (0::hs)):Wf S hs:=by
 refine { h with cnt:=fun i hi=>?_,held:=fun i hi=>h.held i (Zz _ hi),few:=by have:=h.few;simp at this;omega };have hp:=(h.pos hi).1;have:=h.cnt i hi;rw[ZbM (by omega)] at this;exact this

theorem YfI {S S':Arn}{n:Td}{c:Int}(h:c≠0->S'.nd c=S.nd c):addC S' n c=addC S n c:=by
 unfold addC
 by_cases hc:c=0
 .rw[Zj hc,Zj hc]
 .rw[Zf hc,Zf hc,h hc]
theorem YbU {S S':Arn}{k v l r:Int}(hl:l≠0->S'.nd l=S.nd l)(hr:r≠0->S'.nd r=S.nd r):Yk S' k v l r=Yk S k v l r:=by
 unfold Yk;rw[YfI hl,YfI hr]
theorem YhQ (S:Arn)(n:Td)(c:Int):(addC S n c).key=n.key/\(addC S n c).value=n.value/\(addC S n c).left=n.left/\(addC S n c).right=n.right:=by
 unfold addC;split<;>exact⟨rfl,rfl,rfl,rfl⟩
theorem Yad (S:Arn)(k v l r:Int):(Yk S k v l r).key=k/\(Yk S k v l r).value=v/\(Yk S k v l r).left=l/\(Yk S k v l r).right=r:=by
 unfold Yk;obtain⟨h1,h2,h3,h4⟩:=YhQ S (addC S ⟨k,v,l,r,1,v,v,v⟩ l) r;obtain⟨g1,g2,g3,g4⟩:=YhQ S ⟨k,v,l,r,1,v,v,v⟩ l;exact⟨h1.trans g1,h2.trans g2,h3.trans g3,h4.trans g4⟩
theorem Wf.addC_size (h:Wf S hs){n:Td}(h1:0<=n.size/\n.size<=4294967296)(c:Int):(addC S n c).size=n.size+(S.nd c).size:=by
 unfold addC
 by_cases hc:c=0
 .rw[Zj hc,hc,h.nd0];simp[Td.zero]
 .rw[Zf hc];have:=h.size_nonneg c;unfold Ym at this;show Za.wrap (n.size+(S.nd c).size)=_;rw[Yb (by omega) (by omega)]
theorem Wf.mkNode_size (h:Wf S hs)(k v l r:Int):(Yk S k v l r).size=1+(S.nd l).size+(S.nd r).size:=by
 unfold Yk;have h1:=h.size_nonneg l;unfold Ym at h1;have e:=h.addC_size (n:=⟨k,v,l,r,1,v,v,v⟩) ⟨by show (0:Int)<=1;decide,by show (1:Int)<=4294967296;decide⟩ l;have e':(addC S ⟨k,v,l,r,1,v,v,v⟩ l).size=1+(S.nd l).size:=e;rw[h.addC_size (by omega) r,e']

def Yda (rl:LI)(fr:Int):Int × LI × Int:=if 0<rl.length then (rl.getD (rl.length-1) 0,rl.take (rl.length-1),fr) else (fr+1,rl,fr+1)
def Yaq (S:Arn):Int × LI × Int:=Yda S.rel S.fresh
def nxt (S:Arn):Int:=(Yaq S).1
def    Yt (S : Arn) (k v l r : Int) : Arn :=
  { used := S.used.set (nxt S).toNat true, gen := S.gen.set (nxt S).toNat (         Ze.wrap (S.gn (nxt S) + 1)), rel := (   Yaq S).2.1, fresh := (   Yaq S).2.2,
    nodes := S.nodes.set (nxt S).toNat (    Yk S k v l r), counts := bump (bump (S.counts.set (nxt S).toNat 1) l) r, reads := S.reads }
theorem Wf.nxt_spec (h:Wf S hs)(hf:0<S.free):1<=nxt S/\nxt S<S.used.length/\S.us (nxt S)=false/\(0<=(Yaq S).2.2/\(Yaq S).2.2<S.used.length)/\(Yaq S).2.1.Nodup ∧
  (∀ i∈(Yaq S).2.1,1<=i/\i<=(Yaq S).2.2)/\(∀ i,(i=nxt S∨S.us i=true)↔1<=i/\i<=(Yaq S).2.2/\i∉(Yaq S).2.1)/\(Yaq S).2.1.length+(S.nu+1)=(Yaq S).2.2.toNat:=by
 have hfr:=h.fr;have hnus:=h.nus;unfold nxt Yaq Yda
 by_cases hr:0<S.rel.length
 .simp only[Zj hr];obtain⟨q,x,hq⟩:∃ q x,S.rel=q++[x]:=⟨S.rel.dropLast,S.rel.getLast (by intro e;rw[e] at hr;simp at hr),(List.dropLast_concat_getLast _).symm⟩
  have e1:S.rel.getD (S.rel.length-1) 0=x:=by rw[hq];simp
  have e2:S.rel.take (S.rel.length-1)=q:=by rw[hq];simp
  have hd:=h.dup;rw[hq] at hd hnus;obtain⟨d1,_,d2⟩:=ZaN.1 hd;have hx:=h.rel x (by rw[hq];simp)
  have hu:S.us x=false:=by
   cases hb:S.us x with
   | false=>rfl
   | true=>exact absurd (by rw[hq];simp) ((h.use x).1 hb).2.2
  rw[e1,e2];refine⟨hx.1,by omega,hu,hfr,d1,fun i hi=>h.rel i (by rw[hq];simp[hi]),fun i=>?_,by simp at hnus;omega⟩;rw[h.use i,hq];constructor
  .rintro (rfl|⟨h1,h2,h3⟩)
   .exact⟨hx.1,hx.2,fun hm=>d2 _ hm _ (by simp) rfl⟩
   .exact⟨h1,h2,fun hm=>h3 (by simp[hm])⟩
  .rintro ⟨h1,h2,h3⟩
   by_cases e:i=x
   .exact .inl e
   .exact .inr ⟨h1,h2,by simp[h3,e]⟩
 .simp only[Zf hr];have hr0:S.rel=[]:=Zaz.1 (by omega);unfold Arn.free Arn.cap at hf
  have hu:S.us (S.fresh+1)=false:=by
   cases hb:S.us (S.fresh+1) with
   | false=>rfl
   | true=>have:=((h.use _).1 hb).2.1;omega
  refine⟨by omega,by omega,hu,by omega,h.dup,fun i hi=>by have:=h.rel i hi;omega,fun i=>?_,by omega⟩;rw[h.use i,hr0];simp;omega
theorem YU (h:Wf S hs)(hf:0<S.free){k v l r:Int}(i:Int):(Yt S k v l r).us i=true↔i=nxt S∨S.us i=true:=by
 obtain⟨h1,h2,h3,_⟩:=h.nxt_spec hf;unfold Arn.us Yt;simp only[];rw[YQ]
 by_cases e:i=nxt S
 .rw[Zj ⟨by rw[e],by rw[e];omega⟩];simp[e]
 .by_cases e2:(nxt S).toNat=i.toNat
  .omega
  .rw[Zf (fun c=>e2 c.1)];simp[e]
theorem Yau (h:Wf S hs)(hf:0<S.free){k v l r:Int}(i:Int):(Yt S k v l r).nd i=if i=nxt S then Yk S k v l r else S.nd i:=by
 obtain⟨h1,h2,h3,_⟩:=h.nxt_spec hf;have:=h.nnod;unfold Arn.nd Yt;simp only[];rw[YQ]
 by_cases e:i=nxt S
 .rw[Zj ⟨by rw[e],by rw[e];omega⟩,Zj e]
 .rw[Zf (by omega),Zf e]
theorem Yke {cs:LI}{l j:Int}(hl:0<=l)(hj:0<=j)(hn:j.toNat<cs.length):(bump cs l).getD j.toNat 0=if l=j then Za.wrap (cs.getD j.toNat 0+1) else cs.getD j.toNat 0:=by
 unfold bump;rw[YQ]
 by_cases e:l=j
 .subst e;rw[Zj ⟨rfl,hn⟩,Zj rfl]
 .rw[Zf (by omega),Zf e]
theorem Wf.ge0 (h:Wf S hs){i:Int}(hi:i=0∨S.us i=true):0<=i:=by
 rcases hi with rfl|hi
 .exact ZE _
 .have:=(h.pos hi).1;omega
theorem Wf.indeg_free (h:Wf S hs){i:Int}(h1:1<=i)(hu:S.us i=false):S.indeg i=0:=by
 have key:∀ n∈S.nodes,n.left≠i/\n.right≠i:=by
  intro n hn;obtain⟨j,hj⟩:=ZaS.1 hn;have e:S.nd (j:Int)=n:=by unfold Arn.nd;simp[Zb,hj]
  cases hb:S.us (j:Int) with
  | false =>
   have:=h.zero _ hb;rw[e] at this;rw[this];simp[Td.zero];omega
  | true =>
   have:=h.kid _ hb;rw[e] at this;refine⟨fun c=>?_,fun c=>?_⟩
   .rcases this.1 with h2|h2
    .omega
    .rw[c,hu] at h2;cases h2
   .rcases this.2 with h2|h2
    .omega
    .rw[c,hu] at h2;cases h2
 unfold Arn.indeg;have e1:S.nodes.countP (fun x=>x.left==i)=0:=Zbo.2 fun n hn=>by have:=(key n hn).1;simpa using this
 have e2:S.nodes.countP (fun x=>x.right==i)=0:=Zbo.2 fun n hn=>by have:=(key n hn).2;simpa using this
 rw[e1,e2]
theorem YlD (h:Wf S hs)(hf:0<S.free){k v l r:Int}{i:Int}(hi:1<=i):(Yt S k v l r).indeg i=S.indeg i+(if l=i then 1 else 0)+(if r=i then 1 else 0):=by
 obtain⟨h1,h2,h3,_⟩:=h.nxt_spec hf;have hn:=h.nnod;have hz:S.nodes.getD (nxt S).toNat Td.zero=Td.zero:=h.zero _ h3;obtain⟨_,_,m1,m2⟩:=Yad S k v l r;have a1:=Yac (fun x:Td=>x.left==i) S.nodes (nxt S).toNat (Yk S k v l r) Td.zero (by omega);have a2:=Yac (fun x:Td=>x.right==i) S.nodes (nxt S).toNat (Yk S k v l r) Td.zero (by omega);rw[hz] at a1 a2;simp only[m1,m2] at a1 a2;have z1:¬ (Td.zero.left==i)=true:=by simp[Td.zero];omega
 have z2:¬ (Td.zero.right==i)=true:=by simp[Td.zero];omega
 rw[Zf z1] at a1;rw[Zf z2] at a2;unfold Arn.indeg Yt;simp only[beq_iff_eq] at a1 a2 ⊢;omega
theorem Wf.make (h : Wf S hs) {k v l r : Int} (hl : l = 0 ∨ S.us l = true) (hr : r = 0 ∨ S.us r = true) (hf : 0 < S.free) (hz : (    Yk S k v l r).size ≤      Ym) (hs1 : hs.length ≤ 1000000000) :
    Wf (   Yt S k v l r) (nxt S :: hs) := by
  obtain ⟨h1, h2, h3, h4, h5, h6, h7, h8⟩ := h.nxt_spec hf;have ln : (   Yt S k v l r).used.length = S.used.length := by simp [   Yt]
  have hl0 := h.ge0 hl;have hr0 := h.ge0 hr;have l_ne : l ≠ 0 → l ≠ nxt S := fun e c => by rcases hl with hl | hl; exact e hl; rw [c, h3] at hl; cases hl
  have r_ne : r ≠ 0 → r ≠ nxt S := fun e c => by rcases hr with hr | hr; exact e hr; rw [c, h3] at hr; cases hr
  have hnu : (   Yt S k v l r).nu = S.nu + 1 := by
    have a :=         Yac id S.used (nxt S).toNat true false (by omega);have : S.used.getD (nxt S).toNat false = false := h3;rw [this] at a;simp at a;unfold Arn.nu    Yt;simp;omega
  have hcong : ∀ c, (c = 0 ∨ S.us c = true) → c ≠ 0 → (   Yt S k v l r).nd c = S.nd c := fun c hc hc0 => by
    rw [    Yau h hf,     Zf]
    rintro rfl
    rcases hc with hc | hc
    . exact hc0 hc
    . rw [h3] at hc; cases hc
  have nd0 : (   Yt S k v l r).nd 0 = S.nd 0 := by rw [    Yau h hf,     Zf (by omega)]
  have ndk : ∀ c, (c = 0 ∨ S.us c = true) → (   Yt S k v l r).nd c = S.nd c := fun c hc => by
    by_cases e : c = 0
    . rw [e]; exact nd0
    . exact hcong c hc e
  constructor
  case n1 => rw [ln]; exact h.n1
  case n2 => rw [ln]; exact h.n2
  case ngen => rw [ln]; simp [   Yt, h.ngen]
  case nnod => rw [ln]; simp [   Yt, h.nnod]
  case ncnt => rw [ln]; simp [   Yt,      Ygo, h.ncnt]
  case fr => rw [ln]; exact h4
  case rel => exact h6
  case dup => exact h5
  case use => intro i; rw [     YU h hf]; exact h7 i
  case zero =>
    intro i hi;have hn : ¬ (i = nxt S ∨ S.us i = true) := fun c => by rw [(     YU h hf (k := k) (v := v) (l := l) (r := r) i).2 c] at hi; cases hi
    rw [    Yau h hf,     Zf fun c => hn (.inl c)];exact h.zero i (by cases hb : S.us i with | false => rfl | true => exact absurd (.inr hb) hn)
  case kid =>
    intro i hi;rw [     YU h hf] at hi;rw [    Yau h hf]
    by_cases e : i = nxt S
    . rw [    Zj e]
      obtain ⟨_, _, m1, m2⟩ :=         Yad S k v l r;rw [m1, m2,      YU h hf,      YU h hf];exact ⟨hl.imp id .inr, hr.imp id .inr⟩
    . rw [    Zf e]
      have := h.kid i (hi.resolve_left e);rw [     YU h hf,      YU h hf];exact ⟨this.1.imp id .inr, this.2.imp id .inr⟩
  case agg =>
    intro i hi;rw [     YU h hf] at hi;rw [    Yau h hf]
    by_cases e : i = nxt S
    . rw [    Zj e]
      obtain ⟨m3, m4, m1, m2⟩ :=         Yad S k v l r;rw [m1, m2, m3, m4];exact (         YbU (hcong l hl) (hcong r hr)).symm
    . rw [    Zf e]
      have hk := h.kid i (hi.resolve_left e);rw [         YbU (hcong _ hk.1) (hcong _ hk.2)];exact h.agg i (hi.resolve_left e)
  case siz =>
    intro i hi;rw [     YU h hf] at hi;rw [    Yau h hf]
    by_cases e : i = nxt S
    . rw [    Zj e]
      obtain ⟨_, _, m1, m2⟩ :=         Yad S k v l r;rw [m1, m2, ndk l hl, ndk r hr, h.mkNode_size] at *;have := h.size_nonneg l; have := h.size_nonneg r;omega
    . rw [    Zf e]
      have hk := h.kid i (hi.resolve_left e);rw [ndk _ hk.1, ndk _ hk.2];exact h.siz i (hi.resolve_left e)
  case cnt =>
    intro i hi;rw [     YU h hf] at hi
    have hi1 : 1 ≤ i ∧ i < S.used.length := by
      rcases hi with rfl | hi
      . exact ⟨h1, h2⟩
      . have := h.pos hi; omega
    have hnc := h.ncnt;rw [       YlD h hf hi1.1];have ec : (   Yt S k v l r).ct i = (bump (bump (S.counts.set (nxt S).toNat 1) l) r).getD i.toNat 0 := rfl;rw [ec,      Yke hr0 (by omega) (by rw [     Ygo,             ZaB]; omega),      Yke hl0 (by omega) (by rw [            ZaB]; omega),       YQ]
    by_cases e : i = nxt S
    . have e1 : ¬ l = i := fun c => l_ne (by omega) (c.trans e)
      have e2 : ¬ r = i := fun c => r_ne (by omega) (c.trans e)
      have hc0 : hs.count i = 0 :=                ZbG.2 fun hm => by
        rcases h.held i hm with hh | hh
        . omega
        . rw [e, h3] at hh; cases hh
      rw [    Zf e2,     Zf e1,     Zj ⟨by rw [e], by omega⟩,     Zf e1,     Zf e2, h.indeg_free hi1.1 (by rw [e]; exact h3), ← e,                  Zby, hc0];simp
    . have hu := hi.resolve_left e
      obtain ⟨c1, c2⟩ := h.cnt i hu;have c3 := h.ct_le hu;rw [    Zf (by omega : ¬ ((nxt S).toNat = i.toNat ∧ i.toNat < S.counts.length)),                   ZbM (fun c => e c.symm)];have e3 : S.counts.getD i.toNat 0 = S.ct i := rfl;rw [e3]
      by_cases e1 : l = i <;> by_cases e2 : r = i
      . rw [    Zj e2,     Zj e1,     Zj e1,     Zj e2,      Yb (x := S.ct i + 1) (by omega) (by omega),      Yb (by omega) (by omega)]; omega
      . rw [    Zf e2,     Zj e1,     Zj e1,     Zf e2,      Yb (by omega) (by omega)]; omega
      . rw [    Zj e2,     Zf e1,     Zf e1,     Zj e2,      Yb (by omega) (by omega)]; omega
      . rw [    Zf e2,     Zf e1,     Zf e1,     Zf e2]; omega
  case held =>
    intro i hi;rw [     YU h hf];rcases            ZH.1 hi with rfl | hi
    . exact .inr (.inl rfl)
    . exact (h.held i hi).imp id .inr
  case few => rw [hnu]; have := h.nu_le; simp; omega
  case nus => rw [hnu]; exact h8
  case rds => exact h.rds

def nz (c:Int):LI:=if c=0 then [] else [c]
def Yae (S:Arn)(k:Int):Arn:={ S with counts:=S.counts.set k.toNat (Za.wrap (S.ct k-1)),nodes:=S.nodes.set k.toNat Td.zero,used:=S.used.set k.toNat false,rel:=S.rel++[k] }
theorem Ykf {c i:Int}(hi:1<=i):(nz c).count i=if c=i then 1 else 0:=by
 unfold nz
 by_cases hc:c=0
 .rw[Zj hc,Zf (by omega)];rfl
 .rw[Zf hc]
  by_cases e:c=i
  .subst e;simp
  .simp[e]
theorem Wf.freed {k:Int}(h:Wf S (k::hs))(hk:S.us k=true)(hc:S.ct k=1):Wf (Yae S k) (nz (S.nd k).right++(nz (S.nd k).left++hs))/\(Yae S k).nu+1=S.nu ∧
  (∀ i,(Yae S k).us i=true↔i≠k/\S.us i=true)/\(∀ i,(Yae S k).nd i=if i=k then Td.zero else S.nd i):=by
 have hp:=h.pos hk;have hnod:=h.nnod;have hcnt:=h.ncnt;obtain⟨hc1,_⟩:=h.cnt k hk;rw[Zby] at hc1;have hin:S.indeg k=0:=by omega
 have hhk:hs.count k=0:=by omega
 have ln:(Yae S k).used.length=S.used.length:=by simp[Yae]
 have hus:∀ i,(Yae S k).us i=true↔i≠k/\S.us i=true:=by
  intro i;unfold Yae Arn.us;simp only[];rw[YQ]
  by_cases e:i=k
  .rw[Zj ⟨by rw[e],by rw[e];exact hp.2.2⟩];simp[e]
  .rw[Zf (by omega)];simp[e]
 have hnd:∀ i,(Yae S k).nd i=if i=k then Td.zero else S.nd i:=by
  intro i;unfold Yae Arn.nd;simp only[];rw[YQ]
  by_cases e:i=k
  .rw[Zj ⟨by rw[e],by rw[e];omega⟩,Zj e]
  .rw[Zf (by omega),Zf e]
 have hnu:(Yae S k).nu+1=S.nu:=by
  have a:=Yac id S.used k.toNat false false hp.2.2;have:S.used.getD k.toNat false=true:=hk;rw[this] at a;simp at a;unfold Arn.nu Yae;simp;omega
 have nok:∀ i,S.us i=true->(S.nd i).left≠k/\(S.nd i).right≠k:=by
  intro i hi;have hpi:=h.pos hi
  have hm:S.nd i∈S.nodes:=by
   have:i.toNat<S.nodes.length:=by omega
   unfold Arn.nd;rw[Zb,Zk this];exact Zaa this
  unfold Arn.indeg at hin;have e1:S.nodes.countP (fun x=>x.left==k)=0:=by omega
  have e2:S.nodes.countP (fun x=>x.right==k)=0:=by omega
  exact⟨by simpa using Zbo.1 e1 _ hm,by simpa using Zbo.1 e2 _ hm⟩
 have ndk:∀ c,c≠k->(Yae S k).nd c=S.nd c:=fun c hc=>by rw[hnd,Zf hc]
 refine⟨?_,hnu,hus,hnd⟩;constructor
 case n1=>rw[ln];exact h.n1
 case n2=>rw[ln];exact h.n2
 case ngen=>rw[ln];exact h.ngen
 case nnod=>rw[ln];simp[Yae,h.nnod]
 case ncnt=>rw[ln];simp[Yae,h.ncnt]
 case fr=>rw[ln];exact h.fr
 case rel =>
  intro i hi;rcases Zx.1 hi with hi|hi
  .exact h.rel i hi
  .simp at hi;subst hi;have:=(h.use i).1 hk;exact⟨this.1,this.2.1⟩
 case dup =>
  refine ZaN.2 ⟨h.dup,by simp,fun a ha b hb=>?_⟩;simp at hb;subst hb
  rintro rfl
  exact ((h.use a).1 hk).2.2 ha
 case use =>
  intro i;rw[hus,h.use i];show _↔1<=i/\i<=S.fresh/\i∉S.rel++[k];simp;constructor
  .rintro ⟨a,b,c,d⟩;exact⟨b,c,d,a⟩
  .rintro ⟨b,c,d,a⟩;exact⟨a,b,c,d⟩
 case zero =>
  intro i hi;rw[hnd]
  by_cases e:i=k
  .rw[Zj e]
  .rw[Zf e];refine h.zero i ?_;cases hb:S.us i with
   | false=>rfl
   | true=>rw[(hus i).2 ⟨e,hb⟩] at hi;cases hi
 case kid =>
  intro i hi;obtain⟨e,hu⟩:=(hus i).1 hi;have hkd:=h.kid i hu;have hn:=nok i hu;rw[ndk i e,hus,hus];exact⟨hkd.1.imp id fun z=>⟨hn.1,z⟩,hkd.2.imp id fun z=>⟨hn.2,z⟩⟩
 case agg =>
  intro i hi;obtain⟨e,hu⟩:=(hus i).1 hi;have hn:=nok i hu;rw[ndk i e,YbU (fun _=>ndk _ hn.1) (fun _=>ndk _ hn.2)];exact h.agg i hu
 case siz =>
  intro i hi;obtain⟨e,hu⟩:=(hus i).1 hi;have hn:=nok i hu;rw[ndk i e,ndk _ hn.1,ndk _ hn.2];exact h.siz i hu
 case cnt =>
  intro i hi;obtain⟨e,hu⟩:=(hus i).1 hi;have hpi:=h.pos hu;obtain⟨c1,c2⟩:=h.cnt i hu
  have ec:(Yae S k).ct i=S.ct i:=by
   unfold Yae Arn.ct;simp only[];rw[YQ,Zf (by omega)]
  have a1:=Yac (fun x:Td=>x.left==i) S.nodes k.toNat Td.zero Td.zero (by omega);have a2:=Yac (fun x:Td=>x.right==i) S.nodes k.toNat Td.zero Td.zero (by omega);have ek:S.nodes.getD k.toNat Td.zero=S.nd k:=rfl;have z1:¬ (Td.zero.left==i)=true:=by simp[Td.zero];omega
  have z2:¬ (Td.zero.right==i)=true:=by simp[Td.zero];omega
  rw[ek,Zf z1] at a1;rw[ek,Zf z2] at a2;have ei:(Yae S k).indeg i=(S.nodes.set k.toNat Td.zero).countP (fun x=>x.left==i)+(S.nodes.set k.toNat Td.zero).countP (fun x=>x.right==i):=rfl;rw[ZbM (fun c=>e c.symm)] at c1;rw[ec,Zbm,Zbm,Ykf hpi.1,Ykf hpi.1,ei];unfold Arn.indeg at c1;simp only[beq_iff_eq] at a1 a2 c1 ⊢;omega
 case held =>
  intro i hi;rw[hus];have hkd:=h.kid k hk;have hn:=nok k hk;rcases Zx.1 hi with hi|hi
  .unfold nz at hi;split at hi
   .simp at hi
   .simp at hi;subst hi;exact hkd.2.imp id fun z=>⟨hn.2,z⟩
  .rcases Zx.1 hi with hj|hj
   .unfold nz at hj;split at hj
    .simp at hj
    .simp at hj;subst hj;exact hkd.1.imp id fun z=>⟨hn.1,z⟩
   .refine (h.held i (Zz _ hj)).imp id fun z=>⟨fun e=>?_,z⟩
    rw[e] at hj;exact (ZbG.1 hhk) hj
 case few =>
  have h1:=h.few;have h2:∀ c,(nz c).length<=1:=fun c=>by unfold nz;split<;>simp
  have:=h2 (S.nd k).left;have:=h2 (S.nd k).right;simp at h1 ⊢;omega
 case nus =>
  have:=h.nus;show (S.rel++[k]).length+(Yae S k).nu=_;have e:(Yae S k).fresh=S.fresh:=rfl;rw[e];simp;omega
 case rds=>exact h.rds
end Go.Proofs.YtedfbafngmicpaaGreat
end
namespace Go.Proofs.YtedfbafngmicpaaGreat
open Go
section
variable {S S' S'':Arn} {hs:LI}

structure Kept (S S':Arn):Prop where
 len:S'.used.length=S.used.length
 gen:S'.gen=S.gen
 rds:S'.reads=S.reads
 kp:∀ i,S'.us i=true->S.us i=true/\S'.nd i=S.nd i
theorem Kept.refl (S:Arn):Kept S S:=⟨rfl,rfl,rfl,fun _ h=>⟨h,rfl⟩⟩
theorem Kept.trans (h:Kept S S')(h':Kept S' S''):Kept S S'' :=
 ⟨h'.len.trans h.len,h'.gen.trans h.gen,h'.rds.trans h.rds,fun i hi=>by
  obtain⟨a,b⟩:=h'.kp i hi;obtain⟨c,d⟩:=h.kp i a;exact⟨c,b.trans d⟩⟩
theorem Ypg (S:Arn)(i:Int):Kept S (decS S i):=⟨rfl,rfl,rfl,fun _ h=>⟨h,rfl⟩⟩
theorem YmH {k:Int}(h:Wf S (k::hs))(hk:S.us k=true)(hc:S.ct k=1):Kept S (Yae S k):=by
 obtain⟨_,_,hus,hnd⟩:=h.freed hk hc;refine⟨by simp[Yae],rfl,rfl,fun i hi=>?_⟩;obtain⟨e,hu⟩:=(hus i).1 hi;exact⟨hu,by rw[hnd,Zf e]⟩

inductive Rch (S:Arn) (hs:LI):Int->Prop where
 | root {i:Int}:i∈hs->S.us i=true->Rch S hs i
 | left {i:Int}:Rch S hs i->S.us (S.nd i).left=true->Rch S hs (S.nd i).left
 | right {i:Int}:Rch S hs i->S.us (S.nd i).right=true->Rch S hs (S.nd i).right
theorem Rch.us {i:Int}(h:Rch S hs i):S.us i=true:=by cases h<;>assumption
theorem Rch.mono {hs':LI}(hh:∀ i∈hs,i∈hs'){i:Int}(h:Rch S hs i):Rch S hs' i:=by
 induction h with
 | root h1 h2=>exact .root (hh _ h1) h2
 | left _ h2 ih=>exact .left ih h2
 | right _ h2 ih=>exact .right ih h2
theorem YdT {i:Int}(h:Wf S hs)(hi:1<=i)(hd:1<=S.indeg i):∃ j,S.us j=true/\((S.nd j).left=i∨(S.nd j).right=i):=by
 have:∃ n∈S.nodes,n.left=i∨n.right=i:=by
  unfold Arn.indeg at hd
  by_cases e:S.nodes.countP (fun x=>x.left==i)=0
  .have:0<S.nodes.countP (fun x=>x.right==i):=by omega
   obtain⟨n,hn,hp⟩:=Zbp.1 this;exact⟨n,hn,.inr (by simpa using hp)⟩
  .obtain⟨n,hn,hp⟩:=Zbp.1 (Nat.pos_of_ne_zero e);exact⟨n,hn,.inl (by simpa using hp)⟩
 obtain⟨n,hn,hp⟩:=this;obtain⟨j,hj⟩:=ZaS.1 hn;have e:S.nd (j:Int)=n:=by unfold Arn.nd;simp[Zb,hj]
 refine⟨j,?_,by rw[e];exact hp⟩;cases hb:S.us (j:Int) with
 | true=>rfl
 | false =>
  have:=h.zero _ hb;rw[e] at this;rw[this] at hp;simp[Td.zero] at hp;omega
theorem Wf.reach (h:Wf S hs):∀ (n:Nat) (i:Int),S.us i=true->(Ym-(S.nd i).size).toNat<=n->Rch S hs i:=by
 intro n
 induction n with
 | zero =>
  intro i hi hn;have hsz:=h.siz i hi;obtain⟨c1,c2⟩:=h.cnt i hi;have hp:=h.pos hi
  by_cases hm:0<hs.count i
  .exact .root (ZbX.1 hm) hi
  .obtain⟨j,hj,hor⟩:=YdT h hp.1 (by omega);have hz:=h.siz j hj;have:=h.size_nonneg (S.nd j).left;have:=h.size_nonneg (S.nd j).right;rcases hor with e|e<;>rw[e] at hz<;>omega
 | succ n ih =>
  intro i hi hn;have hsz:=h.siz i hi;obtain⟨c1,c2⟩:=h.cnt i hi;have hp:=h.pos hi
  by_cases hm:0<hs.count i
  .exact .root (ZbX.1 hm) hi
  .obtain⟨j,hj,hor⟩:=YdT h hp.1 (by omega);have hz:=h.siz j hj;have:=h.size_nonneg (S.nd j).left;have:=h.size_nonneg (S.nd j).right;have hr:Rch S hs j:=ih j hj (by rcases hor with e|e<;>rw[e] at hz<;>omega);rcases hor with e|e
   .rw[<-e];exact .left hr (by rw[e];exact hi)
   .rw[<-e];exact .right hr (by rw[e];exact hi)
theorem Wf.reached (h:Wf S hs){i:Int}(hi:S.us i=true):Rch S hs i:=h.reach _ i hi (Zw _)
theorem Wf.empty (h:Wf S []):S.nu=0/\S.free=S.cap:=by
 have key:∀ i,S.us i=false:=by
  intro i;cases hb:S.us i with
  | false=>rfl
  | true =>
   exfalso
   have hr:=h.reached hb;clear hb
   induction hr with
   | root h1 _=>simp at h1
   | left _ _ ih=>exact ih
   | right _ _ ih=>exact ih
 have hn:S.nu=0:=by
  unfold Arn.nu;refine Zbo.2 fun b hb=>?_
  obtain⟨j,hj⟩:=ZaS.1 hb;have:=key (j:Int);unfold Arn.us at this;simp[Zb,hj] at this;simp[this]
 have:=h.free_nonneg;exact⟨hn,by omega⟩

def Stay (S S':Arn)(hs:LI):Prop:=∀ i,Rch S hs i->S'.us i=true/\S'.nd i=S.nd i/\S'.gn i=S.gn i
theorem Stay.refl (S:Arn)(hs:LI):Stay S S hs:=fun _ h=>⟨h.us,rfl,rfl⟩
theorem Stay.reach (h:Stay S S' hs){i:Int}(hr:Rch S hs i):Rch S' hs i:=by
 induction hr with
 | root h1 h2=>exact .root h1 (h _ (.root h1 h2)).1
 | left h1 h2 ih =>
  have e:=(h _ h1).2.1;rw[<-e];exact .left ih (by rw[e];exact (h _ (.left h1 h2)).1)
 | right h1 h2 ih =>
  have e:=(h _ h1).2.1;rw[<-e];exact .right ih (by rw[e];exact (h _ (.right h1 h2)).1)
theorem Stay.trans (h:Stay S S' hs)(h':Stay S' S'' hs):Stay S S'' hs:=fun i hi=>by
 obtain⟨a,b,c⟩:=h i hi;obtain⟨a',b',c'⟩:=h' i (h.reach hi);exact⟨a',b'.trans b,c'.trans c⟩
theorem Stay.mono {hs':LI}(h:Stay S S' hs)(hh:∀ i∈hs',i∈hs):Stay S S' hs':=fun i hi=>h i (hi.mono hh)
theorem Kept.stay {hs':LI}(k:Kept S S')(h0:Wf S hs')(h:Wf S' hs):Stay S S' hs:=fun i hi=>by
 have key:S'.us i=true:=by
  induction hi with
  | root h1 h2 =>
   have:=(h0.pos h2).1;exact (h.held _ h1).resolve_left (by omega)
  | left h1 h2 ih =>
   have e:=(k.kp _ ih).2;have:=(h0.pos h2).1;have hk:=(h.kid _ ih).1;rw[e] at hk;exact hk.resolve_left (by omega)
  | right h1 h2 ih =>
   have e:=(k.kp _ ih).2;have:=(h0.pos h2).1;have hk:=(h.kid _ ih).2;rw[e] at hk;exact hk.resolve_left (by omega)
 exact⟨key,(k.kp i key).2,by unfold Arn.gn;rw[k.gen]⟩
theorem YmI (S:Arn)(n:Nat)(hs:LI):Stay S (rdS S n) hs:=fun _ h=>⟨h.us,rfl,rfl⟩
theorem YhR {hs':LI}(h:Wf S hs')(hf:0<S.free){k v l r:Int}(hs:LI):Stay S (Yt S k v l r) hs:=fun i hi=>by
 have hu:=hi.us;have h3:=(h.nxt_spec hf).2.2.1;have e:i≠nxt S:=fun e=>by rw[e,h3] at hu;cases hu
 have hp:=h.pos hu;have h1:=(h.nxt_spec hf).1;refine⟨(YU h hf i).2 (.inr hu),by rw[Yau h hf,Zf e],?_⟩;unfold Arn.gn Yt;simp only[];rw[YQ,Zf (by omega)]

inductive Tr where
 | nil
 | node (l:Tr) (k v:Int) (r:Tr)
def Tr.size:Tr->Nat
 | .nil=>0
 | .node l _ _ r=>1+l.size+r.size
def Tr.list:Tr->LE
 | .nil=>[]
 | .node l k v r=>l.list++(k,v)::r.list
theorem Tr.list_len:∀ t:Tr,t.list.length=t.size
 | .nil=>rfl
 | .node l k v r=>by simp[Tr.list,Tr.size,l.list_len,r.list_len];omega
def Rep (S:Arn):Tr->Int->Prop
 | .nil,i=>i=0
 | .node l k v r,i=>S.us i=true/\(S.nd i).key=k/\(S.nd i).value=v/\Rep S l (S.nd i).left/\Rep S r (S.nd i).right
theorem Rep.size (h:Wf S hs):∀ {t:Tr} {i:Int},Rep S t i->(S.nd i).size=t.size
 | .nil,i,hr=>by have:i=0:=hr;rw[this,h.nd0];rfl
 | .node l k v r,i,hr=>by
  obtain⟨h1,_,_,h4,h5⟩:=hr;rw[(h.siz i h1).2.2,Rep.size h h4,Rep.size h h5];simp[Tr.size]
theorem Rep.us {t:Tr}{i:Int}(hr:Rep S t i):i=0∨S.us i=true:=by
 cases t with
 | nil=>exact .inl hr
 | node l k v r=>exact .inr hr.1
theorem Rep.zero (h:Wf S hs){t:Tr}(hr:Rep S t 0):t = .nil:=by
 cases t with
 | nil=>rfl
 | node l k v r=>have:=hr.1;rw[h.us0 (ZE 0)] at this;cases this
theorem Rep.stay (h0:S.us 0=false)(st:Stay S S' hs):∀ {t:Tr} {i:Int},Rep S t i->(i=0∨Rch S hs i)->Rep S' t i
 | .nil,i,hr,_=>hr
 | .node l k v r,i,hr,hi=>by
  obtain⟨h1,h2,h3,h4,h5⟩:=hr;have e0:Rch S hs i:=hi.resolve_left fun e=>by rw[e,h0] at h1;cases h1
  obtain⟨a,b,_⟩:=st i e0;refine⟨a,by rw[b];exact h2,by rw[b];exact h3,?_,?_⟩
  .rw[b];exact Rep.stay h0 st h4 (h4.us.imp id fun z=>.left e0 z)
  .rw[b];exact Rep.stay h0 st h5 (h5.us.imp id fun z=>.right e0 z)
theorem Rep.held {hs':LI}(h:Wf S hs')(st:Stay S S' hs){t:Tr}{i:Int}(hr:Rep S t i)(hm:i=0∨i∈hs):Rep S' t i:=by
 cases t with
 | nil=>exact hr
 | node l k v r =>
  have h1:=hr.1;have hp:=(h.pos h1).1;exact hr.stay (h.us0 (ZE 0)) st (.inr (.root (hm.resolve_left (by omega)) h1))
theorem Wf.tree (h:Wf S hs):∀ (n:Nat) (i:Int),(i=0∨S.us i=true)->(S.nd i).size.toNat<=n->∃ t,Rep S t i:=by
 intro n
 induction n with
 | zero =>
  intro i hi hn;rcases hi with rfl|hi
  .exact⟨.nil,rfl⟩
  .have:=h.siz i hi;omega
 | succ n ih =>
  intro i hi hn;rcases hi with rfl|hi
  .exact⟨.nil,rfl⟩
  .have hz:=h.siz i hi;have hk:=h.kid i hi;have h1:=h.size_nonneg (S.nd i).left;have h2:=h.size_nonneg (S.nd i).right;obtain⟨l,hl⟩:=ih _ hk.1 (by omega);obtain⟨r,hr⟩:=ih _ hk.2 (by omega);exact⟨.node l _ _ r,hi,rfl,rfl,hl,hr⟩
theorem Rep.inj:∀ {t u:Tr} {i:Int},S.us 0=false->Rep S t i->Rep S u i->t=u
 | .nil,.nil,_,_,_,_=>rfl
 | .nil,.node _ _ _ _,i,h0,h1,h2=>by have e:i=0:=h1;have:=h2.1;rw[e,h0] at this;cases this
 | .node _ _ _ _,.nil,i,h0,h1,h2=>by have e:i=0:=h2;have:=h1.1;rw[e,h0] at this;cases this
 | .node l k v r,.node l' k' v' r',i,h0,h1,h2=>by
  obtain⟨_,a2,a3,a4,a5⟩:=h1;obtain⟨_,b2,b3,b4,b5⟩:=h2;rw[<-a2,<-a3,<-b2,<-b3,Rep.inj h0 a4 b4,Rep.inj h0 a5 b5]

def newS (c:Nat):Arn:={ used:=List.replicate (c+1) false,gen:=List.replicate (c+1) 0,rel:=[],fresh:=0,nodes:=List.replicate (c+1) Td.zero,counts:=List.replicate (c+1) 0,reads:=0 }
theorem Yak {α:Type}(n i:Nat)(x:α):(List.replicate n x).getD i x=x:=by
 simp only[Zb,List.getElem?_replicate];split<;>rfl
theorem YhS (c:Nat)(i:Int):(newS c).us i=false:=Yak _ _ _
theorem Yux (c:Nat)(i:Int):(newS c).nd i=Td.zero:=Yak _ _ _
theorem Wf.new {c:Nat}(h1:1<=c)(h2:c<=65536):Wf (newS c) [] where
 n1:=by simp[newS];omega
 n2:=by simp[newS];omega
 ngen:=by simp[newS]
 nnod:=by simp[newS]
 ncnt:=by simp[newS]
 fr:=by simp[newS]
 rel i hi:=by simp[newS] at hi
 dup:=by simp[newS]
 use i:=by rw[YhS];simp[newS];omega
 zero i _:=Yux c i
 kid i hi:=by rw[YhS] at hi;cases hi
 agg i hi:=by rw[YhS] at hi;cases hi
 siz i hi:=by rw[YhS] at hi;cases hi
 cnt i hi:=by rw[YhS] at hi;cases hi
 held i hi:=by simp at hi
 few:=by simp[Arn.nu,newS,List.countP_replicate]
 nus:=by simp[Arn.nu,newS,List.countP_replicate]
 rds:=by simp[newS]
end
end Go.Proofs.YtedfbafngmicpaaGreat
