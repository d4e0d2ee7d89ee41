/- A part of the proof. -/
import Derived.Test.YtedfbafngmicpaaGreatG2
import Derived.Deep.LoopGhost
import Derived.LoopN
import Derived.Test.YtedfbafngmicpaaGreatG1
section
/- The symbolic run is sound: regions, in the text's order and in any. No program in sight. -/
namespace Go.Proofs.YtedfbafngmicpaaGreat.Sx
open Go

section
variable {P:Program} {ops:Array Oper} {Q:Exit->Act->World->Prop} {S:World->Prop} {late:Nat->Bool}

def NoLate (late:Nat->Bool)(listed:Array Bool):Prop:=∀ j,late j=true->listed.getD j true=false

def wpAnyL (P:Program)(ops:Array Oper)(Q:Exit->Act->World->Prop)(S:World->Prop)(late:Nat->Bool):Nat->Array Bool->Act->World->Prop
 | 0,listed,a,w=>Region.ready .any ops listed=[]/\Q .normal a w
 | fuel+1,listed,a,w=>(Region.ready .any ops listed=[]->Q .normal a w) ∧
  ∀ i∈Region.ready .any ops listed,wpOp P ops Q i (fun a' w'=>(late i=false->NoLate late listed->S w->S w')/\wpAnyL P ops Q S late fuel (listed.setIfInBounds i true) a' w') a w

theorem wpAnyL.any:∀ {fuel:Nat} {listed:Array Bool} {a:Act} {w:World},wpAnyL P ops Q S late fuel listed a w->wpAny P .any ops Q fuel listed a w
 | 0,_,_,_,h=>h
 | _+1,_,_,_,h=>⟨h.1,fun i hi=>wpOp_mono (fun _ _ h'=>wpAnyL.any h'.2) (h.2 i hi)⟩

theorem wpAnyL_done {listed:Array Bool}{a:Act}{w:World}(hr:Region.ready .any ops listed=[])(h:Q .normal a w):∀ fuel,wpAnyL P ops Q S late fuel listed a w
 | 0=>⟨hr,h⟩
 | _+1=>⟨fun _=>h,by rw[hr];simp⟩

theorem ready_lt {listed:Array Bool}{i:Nat}(hi:i∈Region.ready .any ops listed):i<listed.size:=by
 rcases Nat.lt_or_ge i listed.size with h' | h'
 ·exact h'
 ·have:=(mem_ready.1 hi).1
  simp[Array.getElem?_eq_none h'] at this

theorem ready_waits {listed:Array Bool}{i j:Nat}{oj:Oper}(hj:j∈Region.ready .any ops listed)(hoj:ops[j]?=some oj)(hun:listed.getD i true=false):∀ e∈oj.after,Region.binds .any e=true->e.on≠i:=by
 intro e he hb heq
 obtain⟨_,o',ho',hall⟩:=mem_ready.1 hj
 rw[hoj] at ho'
 simp only[Option.some.injEq] at ho'
 subst ho'
 have h2:=hall e he hb
 rw[heq] at h2
 rcases Nat.lt_or_ge i listed.size with h' | h'
 ·simp[h'] at h2 hun;rw[hun] at h2;cases h2
 ·simp[Array.getElem?_eq_none h'] at h2

theorem wpAnyL_take {Si:World->Prop}{i:Nat}{oi:Oper}{v:Value}(hi:ops[i]?=some oi)(hsel:∀ (j:Nat) (o:Oper) cs b,ops[j]?=some o->o.op≠.select cs b)(hQ:∀ c a w,Q (.panic c) (a.put oi.dst v) w->Q (.panic c) a w)(hli:late i=false)(hSi:(∀ w,Si w)∨((∀ w,S w->Si w)/\(∀ w,Si w->S w)/\∀ (j:Nat) (oj:Oper),ops[j]?=some oj->late j=true->∃ e∈oj.after,Region.binds .any e=true/\e.on=i)) :
  ∀ (fuel:Nat) (listed:Array Bool) (a:Act) (w:World),((∀ w,Si w)∨NoLate late listed) →
   (∀ (j:Nat) (oj:Oper),ops[j]?=some oj->j≠i->listed.getD j true=false->(∀ e∈oj.after,Region.binds .any e=true->e.on≠i)->oi.apart ops oj=true) →
   i∈Region.ready .any ops listed->YieldsIf P ops Si oi v a->Si w →
   wpAnyL P ops Q S late fuel (listed.setIfInBounds i true) (a.put oi.dst v) w->wpAnyL P ops Q S late (fuel+1) listed a w:=by
 intro fuel
 induction fuel with
 | zero =>
  intro listed a w _ _ hr hy hS h
  refine⟨fun h0=>(by rw[h0] at hr;cases hr),fun j hj=>?_⟩
  by_cases hji:j=i
  ·subst hji;exact hy.wpOp hi hS ⟨fun _ _ h=>h,h⟩
  ·have h1:=ready_mono hj hji
   rw[h.1] at h1;cases h1
 | succ fuel ih =>
  intro listed a w hNL hfree hr hy hS h
  refine⟨fun h0=>(by rw[h0] at hr;cases hr),fun j hj=>?_⟩
  by_cases hji:j=i
  ·subst hji;exact hy.wpOp hi hS ⟨fun _ _ h=>h,h⟩
  ·obtain⟨hjun,oj,hoj,_⟩:=mem_ready.1 hj
   have hnot:=ready_waits hj hoj (mem_ready.1 hr).1
   have hp:=wpOp_putIf hoj (hfree j oj hoj hji hjun hnot) (fun cs b=>hsel i oi cs b hi) (fun cs b=>hsel j oj cs b hoj) hQ hy (h.2 j (ready_mono hj hji))
   refine wpOp_mono (fun a' w' h3=>?_) hp
   obtain⟨hy',hSj,hrest⟩:=h3
   have hlt:=ready_lt hr
   have hset:(NoLate late listed)->NoLate late (listed.setIfInBounds i true):=fun hl k hk=>by
    by_cases hki:i=k
    ·subst hki;rw[hli] at hk;cases hk
    ·rw[getD_set_ne true hki];exact hl k hk
   have hjl:(∀ w,Si w)∨(NoLate late listed/\late j=false):=by
    rcases hSi with hSi|⟨hSi,hSi',hl⟩
    ·exact .inl hSi
    ·rcases hNL with h0|hNL
     ·exact .inl h0
     ·refine .inr ⟨hNL,?_⟩
      cases hlj:late j with
      | false=>rfl
      | true =>
       obtain⟨e,he,hb,heq⟩:=hl j oj hoj hlj
       exact absurd heq (hnot e he hb)
   refine⟨fun h1 h2 h4=>hSj h1 (hset h2) h4,ih _ a' w' ?_ (fun k ok hk hki hun hno=>hfree k ok hk hki ?_ hno) (ready_mono hr (Ne.symm hji)) hy' ?_ ?_⟩
   ·rcases hjl with h0|⟨hN,hlj⟩
    ·exact .inl h0
    ·refine .inr fun k hk=>?_
     by_cases hjk:j=k
     ·subst hjk;rw[hlj] at hk;cases hk
     ·rw[getD_set_ne true hjk];exact hN k hk
   ·by_cases hjk:j=k
    ·subst hjk;exact hjun
    ·rw[getD_set_ne true hjk] at hun;exact hun
   ·rcases hSi with hSi|⟨hSi,hSi',hl⟩
    ·exact hSi _
    ·rcases hjl with h0|⟨hN,hlj⟩
     ·exact h0 _
     ·exact hSi _ (hSj hlj (hset hN) (hSi' _ hS))
   ·rw[Array.setIfInBounds_comm _ _ hji]
    exact hrest
end

section
variable {C:Ctx}

structure Base (C:Ctx) where
 H:List (Chunk C)
 σ:Nat->Value
 φ:Nat->Nat->Prop
 w:World

structure St (C:Ctx) (B:Base C) (W:List Nat) (T:List SV) (H:List (Chunk C)) (σ:Nat->Value) (φ:Nat->Nat->Prop) (a:Act) (w:World):Prop where
 pre:Pre C T H σ φ a w
 dfs:a.defers=[]
 adv:Adv B.φ B.w φ w
 len:B.H.length<=H.length
 agree:∀ n,n<B.H.length->isOwn B.H n=false->σ n=B.σ n
 own:∀ n,n<B.H.length->isOwn H n=true->isOwn B.H n=true
 stand:∀ n,n<B.H.length->n∉W->σ n=B.σ n/\(∀ b,Rdb H σ n b↔Rdb B.H B.σ n b)/\∀ b,Rdb B.H B.σ n b->b<B.w.heap.size->w.heap[b]?=B.w.heap[b]?

variable {W:List Nat} {B:Base C} {T:List SV} {H:List (Chunk C)} {σ:Nat->Value} {φ:Nat->Nat->Prop} {a:Act} {w:World} {o:Oper}

theorem St.step (h:St C B W T H σ φ a w){ts:List Nat}{T':List SV}{H':List (Chunk C)}{σ':Nat->Value}{φ':Nat->Nat->Prop}{a':Act}{w':World}(e:EOut C H σ φ a w ts T' H' σ' φ' a' w'):St C B (ts++W) T' H' σ' φ' a' w' where
 pre:=⟨h.pre.ok,e.tm,e.tcl,e.sat⟩
 dfs:=e.dfs.trans h.dfs
 adv:=h.adv.trans e.adv
 len:=Nat.le_trans h.len e.len
 agree n hn ho:=(e.agree n (Nat.lt_of_lt_of_le hn h.len) (by
  cases hh:isOwn H n with
  | false=>rfl
  | true=>rw[h.own n hn hh] at ho;cases ho)).trans (h.agree n hn ho)
 own n hn ho:=h.own n hn (e.own n (Nat.lt_of_lt_of_le hn h.len) ho)
 stand n hn hW:=by
  simp only[List.mem_append,not_or] at hW
  obtain⟨h0,h1,h2⟩:=h.stand n hn hW.2
  have hn':=Nat.lt_of_lt_of_le hn h.len
  obtain⟨h3,h4⟩:=e.touch n hn' hW.1
  exact⟨(e.still n hn' hW.1).trans h0,fun b=>(h3 b).trans (h1 b),fun b hb hlt=>(h4 b ((h1 b).2 hb) (Nat.lt_of_lt_of_le hlt h.adv.size)).trans (h2 b hb hlt)⟩

theorem St.withT (h:St C B W T H σ φ a w){T':List SV}(hp:Pre C T' H σ φ a w):St C B W T' H σ φ a w:=⟨hp,h.dfs,h.adv,h.len,h.agree,h.own,h.stand⟩

theorem St.drawn (h:St C B W T H σ φ a w)(k:Nat):St C B W T H σ φ a { w with drawn:=k } where
 pre:=⟨h.pre.ok,h.pre.tm,h.pre.tcl,h.pre.sat.drawn h.pre.ok k⟩
 dfs:=h.dfs
 adv:=h.adv.trans ⟨rfl,rfl,rfl,Nat.le_refl _,fun _ _ _=>rfl,fun n _ hb=>.inl ⟨n,hb⟩⟩
 len:=h.len
 agree:=h.agree
 own:=h.own
 stand:=h.stand

theorem quiet_out (h:Pre C T H σ φ a w){s:SV}{H':List (Chunk C)}{v:Value}{σ':Nat->Value}{φ':Nat->Nat->Prop}(g:Grows C σ φ H σ' φ' H' w)(hv:s.rel σ' v)(hn:∀ m∈s.names,m<H'.length)(dst:Option Nat)(ts:List Nat) :
  EOut C H σ φ a w ts (setT T dst s) H' σ' φ' (a.put dst v) w where
 tm:=put_rel (rel_agree h.tm h.tcl g.agree) hv dst
 tcl x hx m hm:=by
  rcases setT_mem hx with hx|rfl
  ·exact Nat.lt_of_lt_of_le (h.tcl x hx m hm) g.len
  ·exact hn m hm
 sat:=g.sat
 adv:=⟨rfl,rfl,rfl,Nat.le_refl _,fun _ _ _=>rfl,fun n b hb=>.inl ⟨n,g.sub n b hb⟩⟩
 len:=g.len
 dfs:=put_defers _ _
 agree n hn _:=g.agree n hn
 own:=g.own
 touch n hn _:=⟨g.rdb n hn,fun _ _ _=>rfl⟩
 still n hn _:=g.agree n hn

theorem skip_out (h:Pre C T H σ φ a w)(dst:Option Nat)(ts:List Nat):EOut C H σ φ a w ts (setT T dst undefS) H σ φ (a.put dst undef) w :=
 quiet_out h (Grows.refl h.sat) (s:=undefS) rfl (by simp[undefS,SV.names,TV.names,At.names]) dst ts

theorem reqs_iff:∀ {ps:List Prop} {k:Prop},reqs ps k->(∀ p∈ps,p)/\k:=by
 intro ps
 induction ps with
 | nil=>intro k h;exact⟨fun p hp=>by simp at hp,h⟩
 | cons p ps ih =>
  intro k h
  obtain⟨h1,h2⟩:=h
  obtain⟨h3,h4⟩:=ih h2
  exact⟨fun q hq=>by
   rcases List.mem_cons.1 hq with rfl|hq
   ·exact h1
   ·exact h3 q hq,h4⟩

theorem brS_iff {b:Bool}{t f:Prop}:brS b t f↔(b=true->t)/\(b=false->f):=by cases b<;>simp[brS]

theorem guardS_sound {ops:Array Oper}{yes no:List SV->Prop}(hg:guardS ops T o yes no)(h:Pre C T H σ φ a w) :
  (Region.wanted o (yielded ops a.tmps)=true/\∃ T1,Pre C T1 H σ φ a w/\yes T1)∨(Region.wanted o (yielded ops a.tmps)=false/\∃ T1,Pre C T1 H σ φ a w/\no T1):=by
 unfold guardS at hg
 split at hg
 ·rename_i hgd
  exact .inl ⟨by simp[Region.wanted,hgd],T,h,hg⟩
 ·rename_i j want hgd
  split at hg<;>try (exact hg.elim)
  rename_i d hd
  split at hg<;>try (exact hg.elim)
  case h_2 =>
   rename_i cs hb
   have hT:T[d]?=some (.one (.at (.val (.tuple cs)))):=by
    rw[List.getD_eq_getElem?_getD] at hb
    cases hT:T[d]? with
    | none=>rw[hT] at hb;simp at hb
    | some x=>rw[hT] at hb;simp at hb;rw[hb]
   obtain⟨v,hv,hr⟩:=h.tm.get hT
   have hvb:v = .tuple cs:=hr
   subst hvb
   have hy:yielded ops a.tmps j=none:=by
    rw[Array.getElem?_toList] at hv
    simp[yielded,hd,hv]
   exact .inr ⟨by simp[Region.wanted,hgd,hy],_,h,hg⟩
  rename_i b hb
  have hT:T[d]?=some (.one (.at (.val (.bool b)))):=by
   rw[List.getD_eq_getElem?_getD] at hb
   cases hT:T[d]? with
   | none=>rw[hT] at hb;simp at hb
   | some x=>rw[hT] at hb;simp at hb;rw[hb]
  obtain⟨v,hv,hr⟩:=h.tm.get hT
  have hvb:v = .bool b:=hr
  subst hvb
  have hy:yielded ops a.tmps j=some b:=by
   rw[Array.getElem?_toList] at hv
   simp[yielded,hd,hv]
  have hset:∀ b',b=b'->Pre C (T.set d (vb b')) H σ φ a w:=fun b' hb'=>⟨h.ok,by
   have:=h.tm.set d (a:=vb b') (b:=.bool b) (by subst hb';rfl)
   have e:a.tmps.toList.set d (.bool b)=a.tmps.toList:=by
    apply List.ext_getElem?
    intro k
    rw[List.getElem?_set]
    split
    ·rename_i hk
     subst hk
     split
     ·exact hv.symm
     ·rename_i hlt
      rw[List.getElem?_eq_none (by omega)] at hv
      cases hv
    ·rfl
   rw[e] at this
   exact this,fun s hs m hm=>by
   rcases List.mem_or_eq_of_mem_set hs with hs|rfl
   ·exact h.tcl s hs m hm
   ·simp[vb,SV.names,TV.names,At.names] at hm,h.sat⟩
  rw[brS_iff] at hg
  cases b with
  | true =>
   have hg:=hg.1 rfl
   cases want with
   | true=>exact .inl ⟨by simp[Region.wanted,hgd,hy],_,hset true rfl,hg⟩
   | false=>exact .inr ⟨by simp[Region.wanted,hgd,hy],_,hset true rfl,hg⟩
  | false =>
   have hg:=hg.2 rfl
   cases want with
   | true=>exact .inr ⟨by simp[Region.wanted,hgd,hy],_,hset false rfl,hg⟩
   | false=>exact .inl ⟨by simp[Region.wanted,hgd,hy],_,hset false rfl,hg⟩

variable {Γ:List (FuncId × Tfm C)} {trunc:Nat->Bool} {K:EK C} {Q:Exit->Act->World->Prop}

theorem dup_sound (hC:C.OK)(hs:Sat C σ φ w H){n:Nat}{e:C.EC}{l:List (C.α e)}(hH:H[n]?=some (.row false e l)) :
  Grows C σ φ H (fun k=>if k=H.length then σ n else σ k) (fun k=>if k=H.length then (fun _=>False) else φ k) (H++[.row false e l]) w :=
 Grows.view hC hs _ _ (fun _=>⟨(hs.holds n _ hH).1,fun _ h=>h⟩) rfl (fun b hb m hm=>hs.immr n e l hH hb.1 b hb.2 m hm)

theorem stepS_sound (hG:GOK C Γ)(h:Pre C T H σ φ a w)(hs:stepS C Γ trunc T H o K):o.wp C.P a w (After C H σ φ a w K) Q:=by
 have hq:∀ {x:Q3 C},x=quietS C T H o->(match x with|some (ps,s,H')=>reqs ps (K [] (setT T o.dst s) H')|none=>effS C Γ trunc T H o K)->o.wp C.P a w (After C H σ φ a w K) Q:=by
  intro x hx hm
  split at hm
  ·rename_i ps s H' 
   obtain⟨h1,h2⟩:=reqs_iff hm
   obtain⟨v,σ',φ',g,hv,hn,hrun⟩:=quietS_sound h h1 hx.symm
   exact wp_value (hrun w fun _ _ _ _=>rfl) ⟨_,_,_,_,_,quiet_out h g hv hn o.dst [],h2⟩
  ·exact effS_sound hG h hm
 unfold stepS at hs
 split at hs
 ·split at hs
  ·exact effS_sound hG h hs
  ·split at hs
   ·rename_i ps s H' hx
    exact hq (x:=some (ps,s,H')) hx.symm hs
   ·exact hs.elim
 ·rename_i x ho
  split at hs
  ·split at hs<;>try (exact hs.elim)
   rename_i n hn
   split at hs
   case h_2 =>
    split at hs
    ·rename_i ps s H' hx
     exact hq (x:=some (ps,s,H')) hx.symm hs
    ·exact hs.elim
   rename_i e l hH
   have hr:=h.rel x
   rw[hn] at hr
   have ev:a.eval x=σ n:=hr
   exact wp_value (v:=a.eval x) (w':=w) (by simp[execOp,ho]) ⟨_,_,_,_,_,quiet_out h (dup_sound h.ok h.sat hH) (s:=.one (.at (.slc H.length))) (by show a.eval x=_;simp[ev]) (by intro m hm;simp[SV.names,TV.names,At.names] at hm;subst hm;simp) o.dst [],hs⟩
  ·split at hs
   ·rename_i ps s H' hx
    exact hq (x:=some (ps,s,H')) hx.symm hs
   ·exact hs.elim
 ·split at hs
  ·rename_i ps s H' hx
   exact hq (x:=some (ps,s,H')) hx.symm hs
  ·exact effS_sound hG h hs

theorem seqS_sound (hG:GOK C Γ){ops:Array Oper}{K:EK C}(hQ:∀ {W T H σ φ a w},St C B W T H σ φ a w->K W T H->Q .normal a w):∀ (rest:List Oper) {W:List Nat} {T:List SV} {H:List (Chunk C)} {σ:Nat->Value} {φ:Nat->Nat->Prop} {a:Act} {w:World},
  St C B W T H σ φ a w->seqS C Γ trunc ops K rest W T H->wpList C.P ops Q rest a w:=by
 intro rest
 induction rest with
 | nil=>intro W T H σ φ a w h hs;exact hQ h hs
 | cons o rest ih =>
  intro W T H σ φ a w h hs
  simp only[seqS] at hs
  unfold wpList
  rcases guardS_sound hs h.pre with ⟨hw,T1,hp,hy⟩|⟨hw,T1,hp,hy⟩
  ·rw[if_pos hw]
   refine .inl (Oper.wp_mono (fun a' w' hh=>?_) (stepS_sound hG hp hy))
   obtain⟨ts,T',H',σ',φ',he,hk⟩:=hh
   exact ih ((h.withT hp).step he) hk
  ·rw[if_neg (by rw[hw];simp)]
   exact ih ((h.withT hp).step (skip_out hp o.dst [])) hy

def Stand (H:List (Chunk C))(σ:Nat->Value)(Z:List Nat)(ws w:World):Prop:=∀ n∈Z,∀ b,Rdb H σ n b->w.heap[b]?=ws.heap[b]?

theorem conj_mem:∀ {l:List Prop},conj l->∀ p∈l,p:=by
 intro l
 induction l with
 | nil=>intro _ p hp;simp at hp
 | cons q l ih =>
  intro h p hp
  cases l with
  | nil =>
   rcases List.mem_cons.1 hp with hp|hp
   ·subst hp;exact h
   ·cases hp
  | cons r l =>
   rcases List.mem_cons.1 hp with hp|hp
   ·subst hp;exact h.1
   ·exact ih h.2 p hp

theorem lateS_spec {ops:Array Oper}{j:Nat}(h:lateS trunc ops j=true){i:Nat}{oi:Oper}(hi:ops[i]?=some oi)(hl:isLoad oi=true){oj:Oper}(hj:ops[j]?=some oj):∃ e∈oj.after,Region.binds .any e=true/\e.on=i:=by
 have hlt:i<ops.size:=(Array.getElem?_eq_some_iff.1 hi).1
 unfold lateS at h
 rw[hj] at h
 simp only[Bool.and_eq_true] at h
 have h1:=List.all_eq_true.1 h.2 i (List.mem_range.2 hlt)
 simp only[hi,hl,Bool.not_true,Bool.false_or] at h1
 obtain⟨e,he,h2⟩:=Array.any_eq_true'.1 h1
 simp only[Bool.and_eq_true,beq_iff_eq] at h2
 exact⟨e,he,h2.2,h2.1⟩

theorem lateS_quiet {ops:Array Oper}{i:Nat}{oi:Oper}(hi:ops[i]?=some oi)(h:quietK trunc oi=true):lateS trunc ops i=false:=by
 unfold lateS
 rw[hi]
 simp[h]

theorem takeS_quiet {Z:List Nat}(h:takeS T Z trunc o=true):quietK trunc o=true:=by
 unfold takeS at h
 simp only[Bool.and_eq_true] at h
 exact h.1

theorem firstTake_spec {Z:List Nat}{ops:Array Oper}{listed:Array Bool}:∀ {l:List Nat} {i:Nat},firstTake T Z trunc ops listed l=some i->i∈l/\∃ o,ops[i]?=some o/\takeS T Z trunc o=true/\Region.free .any ops listed i=true:=by
 intro l
 induction l with
 | nil=>intro i h;simp[firstTake] at h
 | cons k r ih =>
  intro i h
  simp only[firstTake] at h
  split at h
  ·rename_i o ho
   split at h
   ·rename_i hc
    simp only[Option.some.injEq] at h
    subst h
    simp only[Bool.and_eq_true] at hc
    exact⟨List.mem_cons_self,o,ho,hc.1,hc.2⟩
   ·obtain⟨h1,h2⟩:=ih h
    exact⟨List.mem_cons_of_mem _ h1,h2⟩
  ·cases h

theorem readName_isLoad {n:Nat}(h:readName T o=some n):isLoad o=true:=by
 unfold readName at h
 unfold isLoad
 split at h
 ·rename_i t x heq
  simp only[]
 ·rename_i t x i ok heq
  simp only[]
 ·cases h

theorem takeS_name {Z:List Nat}(h:takeS T Z trunc o=true){n:Nat}(hn:readName T o=some n):n∈Z:=by
 unfold takeS at h
 simp only[Bool.and_eq_true] at h
 have:=h.2
 rw[hn] at this
 simpa using this

theorem anyS_sound (hG:GOK C Γ){ops:Array Oper}{Z:List Nat}{K:EK C}(hQ:∀ {W T H σ φ a w},St C B W T H σ φ a w->K W T H->Q .normal a w)(hpanic:∀ c a w,¬ Q (.panic c) a w)(hsel:Region.noSelect ops=true){Hs:List (Chunk C)}{σs:Nat->Value}{ws:World}(hZ:∀ n∈Z,n<Hs.length) :
  ∀ (fuel:Nat) {listed:Array Bool} {W:List Nat} {T:List SV} {H:List (Chunk C)} {σ:Nat->Value} {φ:Nat->Nat->Prop} {a:Act} {w:World},St C B W T H σ φ a w->Hs.length<=H.length →
   (NoLate (lateS trunc ops) listed->Stand Hs σs Z ws w/\∀ n∈Z,∀ b,Rdb H σ n b↔Rdb Hs σs n b) →
   (∀ (i:Nat) (oi:Oper),ops[i]?=some oi->isLoad oi=true->listed.getD i true=false->NoLate (lateS trunc ops) listed) →
   anyS C Γ trunc ops Z K fuel listed W T H->wpAnyL C.P ops Q (Stand Hs σs Z ws) (lateS trunc ops) fuel listed a w:=by
 intro fuel
 induction fuel with
 | zero =>
  intro listed W T H σ φ a w h hlen _ _ hs
  simp only[anyS] at hs
  split at hs
  ·rename_i hr;exact wpAnyL_done hr (hQ h hs) 0
  ·exact hs.elim
 | succ fuel ih =>
  intro listed W T H σ φ a w h hlen hS hL hs
  simp only[anyS] at hs
  split at hs
  ·rename_i hr;exact wpAnyL_done hr (hQ h hs) _
  ·rename_i r rs hr
   have hback:∀ {i:Nat},i∈Region.ready .any ops listed->NoLate (lateS trunc ops) (listed.setIfInBounds i true)->NoLate (lateS trunc ops) listed/\lateS trunc ops i=false:=by
    intro i hi hN
    have hlt:=ready_lt hi
    have hli:lateS trunc ops i=false:=by
     cases hl:lateS trunc ops i with
     | false=>rfl
     | true =>
      have:=hN i hl
      simp[hlt] at this
    refine⟨fun k hk=>?_,hli⟩
    have:=hN k hk
    by_cases hik:i=k
    ·subst hik;rw[hli] at hk;cases hk
    ·rwa [getD_set_ne true hik] at this
   have hLn:∀ {i:Nat},i∈Region.ready .any ops listed->∀ (k:Nat) (ok:Oper),ops[k]?=some ok->isLoad ok=true->(listed.setIfInBounds i true).getD k true=false->NoLate (lateS trunc ops) (listed.setIfInBounds i true):=by
    intro i hi k ok hk hkl hku
    have hlt:=ready_lt hi
    have hik:i≠k:=fun e=>by subst e;simp[hlt] at hku
    rw[getD_set_ne true hik] at hku
    have hN:=hL k ok hk hkl hku
    obtain⟨_,oi,hoi,_⟩:=mem_ready.1 hi
    intro j hj
    by_cases hij:i=j
    ·subst hij
     obtain⟨e,he,hb,heq⟩:=lateS_spec hj hk hkl hoi
     exact absurd heq (ready_waits hi hoi hku e he hb)
    ·rw[getD_set_ne true hij];exact hN j hj
   have hstand:∀ {T1:List SV} {i:Nat} {T':List SV} {H':List (Chunk C)} {σ':Nat->Value} {φ':Nat->Nat->Prop} {a':Act} {w':World} {ts:List Nat},EOut C H σ φ a w ts T' H' σ' φ' a' w'->ts.any Z.contains=false->NoLate (lateS trunc ops) listed →
     Stand Hs σs Z ws w'/\∀ n∈Z,∀ b,Rdb H' σ' n b↔Rdb Hs σs n b:=by
    intro T1 i T' H' σ' φ' a' w' ts he hts hN
    obtain⟨h1,h2⟩:=hS hN
    have hnt:∀ n∈Z,n∉ts:=fun n hn hnt=>by
     have:=List.any_eq_false.1 hts n hnt
     simp[hn] at this
    have hlt:∀ n∈Z,n<H.length:=fun n hn=>Nat.lt_of_lt_of_le (hZ n hn) hlen
    refine⟨fun n hn b hb=>?_,fun n hn b=>((he.touch n (hlt n hn) (hnt n hn)).1 b).trans (h2 n hn b)⟩
    have hb':=(h2 n hn b).2 hb
    have hbs:b<w.heap.size:=by
     rcases hb' with ⟨e1,cells,hc⟩|⟨e1,own,e,l,hc,hpos⟩|⟨e1,kk,vk,l,hc⟩|⟨e1,hh,e,ll,hc,hpos⟩|⟨e1,kk,l,hc⟩
     ·obtain⟨b',t,cs,h3,h4,h5,_⟩:=h.pre.sat.holds n _ hc
      rw[e1] at h3
      obtain rfl:b=b':=by simpa using h3
      exact (Array.getElem?_eq_some_iff.1 h5).1
     ·cases own with
      | true=>exact (h.pre.sat.holds n _ hc).1.lt b e1
      | false=>exact (h.pre.sat.holds n _ hc).1.lt hpos e1
     ·obtain⟨b',es,ck,h3,h4,h5,_⟩:=h.pre.sat.holds n _ hc
      rw[e1] at h3
      obtain rfl:b=b':=by simpa using h3
      exact (Array.getElem?_eq_some_iff.1 h5).1
     ·obtain⟨_,⟨vs,h3,_⟩,_⟩:=h.pre.sat.holds n _ hc
      exact (h3.lt b e1).2
     ·obtain⟨b',t,cs,h3,h4,h5,_⟩:=h.pre.sat.holds n _ hc
      rw[e1] at h3
      obtain rfl:b=b':=by simpa using h3
      exact (Array.getElem?_eq_some_iff.1 h5).1
    exact ((he.touch n (hlt n hn) (hnt n hn)).2 b hb' hbs).trans (h1 n hn b hb)
   split at hs
   ·rename_i i hft
    obtain⟨him,o,hoi,htk0,hfree⟩:=firstTake_spec hft
    rw[← hr] at him
    simp only[hoi] at hs
    have hsel':=Region.noSelect_spec hsel
    have hfree':=Region.free_spec hoi hfree
    have hli:=lateS_quiet (trunc:=trunc) hoi (takeS_quiet htk0)
    rcases guardS_sound hs h.pre with ⟨hw,T1,hp,hy⟩|⟨hw,T1,hp,hy⟩
    ·split at hy<;>try (exact hy.elim)
     rename_i ps s H' hx
     split at hx<;>try (cases hx;done)
     rename_i htk
     obtain⟨h1,h2⟩:=reqs_iff hy
     obtain⟨v,σ',φ',g,hv,hn,hrun⟩:=quietS_sound hp h1 hx
     have he:=quiet_out hp g hv hn o.dst []
     have hnext:=ih ((h.withT hp).step he) (Nat.le_trans hlen he.len) (fun hN=>hstand (T1:=T1) (i:=i) he (by simp) (hback him hN).1) (hLn him) h2
     cases hrn:readName T1 o with
     | none =>
      exact wpAnyL_take (Si:=fun _=>True) hoi hsel' (fun c a w hc=>absurd hc (hpanic c _ w)) hli (.inl fun _=>trivial) fuel listed a w (.inl fun _=>trivial) hfree' him (.inl ⟨hw,fun w' _=>hrun w' fun n hn=>by rw[hrn] at hn;cases hn⟩) trivial hnext
     | some n =>
      have hld:=readName_isLoad hrn
      have hN:=hL i o hoi hld (mem_ready.1 him).1
      obtain⟨hS1,hS2⟩:=hS hN
      have hnZ:n∈Z:=takeS_name htk hrn
      exact wpAnyL_take (Si:=Stand Hs σs Z ws) hoi hsel' (fun c a w hc=>absurd hc (hpanic c _ w)) hli (.inr ⟨fun _ h=>h,fun _ h=>h,fun j oj hj hl=>lateS_spec hl hoi hld hj⟩) fuel listed a w (.inr hN) hfree' him (.inl ⟨hw,fun w' hw'=>hrun w' fun m hm b hb=>by
       rw[hrn] at hm
       simp only[Option.some.injEq] at hm
       subst hm
       have hb':=(hS2 n hnZ b).1 hb
       exact (hw' n hnZ b hb').trans (hS1 n hnZ b hb').symm⟩) hS1 hnext
    ·have he:=skip_out hp o.dst []
     have hnext:=ih ((h.withT hp).step he) (Nat.le_trans hlen he.len) (fun hN=>hstand (T1:=T1) (i:=i) he (by simp) (hback him hN).1) (hLn him) hy
     exact wpAnyL_take (Si:=fun _=>True) hoi hsel' (fun c a w hc=>absurd hc (hpanic c _ w)) hli (.inl fun _=>trivial) fuel listed a w (.inl fun _=>trivial) hfree' him (.inr ⟨hw,rfl⟩) trivial hnext
   ·refine⟨fun h0=>(by rw[h0] at hr;cases hr),fun i hi=>?_⟩
    have hi':=hi
    rw[hr] at hi'
    have hp:=conj_mem hs _ (List.mem_map.2 ⟨i,hi',rfl⟩)
    obtain⟨_,oi,hoi,_⟩:=mem_ready.1 hi
    simp only[hoi] at hp
    unfold wpOp
    simp only[hoi]
    rcases guardS_sound hp h.pre with ⟨hw,T1,hpre,hy⟩|⟨hw,T1,hpre,hy⟩
    ·rw[if_pos hw]
     refine .inl (Oper.wp_mono (fun a' w' hh=>?_) (stepS_sound hG hpre hy))
     obtain⟨ts,T',H',σ',φ',he,hk⟩:=hh
     split at hk
     ·rename_i hc
      have hc':lateS trunc ops i=true∨ts.any Z.contains=false:=by simpa using hc
      refine⟨fun hl hN _=>?_,ih ((h.withT hpre).step he) (Nat.le_trans hlen he.len) (fun hN=>?_) (hLn hi) hk⟩
      ·rcases hc' with hc' | hc'
       ·rw[hl] at hc';cases hc'
       ·exact (hstand (T1:=T1) (i:=i) he hc' hN).1
      ·obtain⟨hN',hl⟩:=hback hi hN
       rcases hc' with hc' | hc'
       ·rw[hl] at hc';cases hc'
       ·exact hstand (T1:=T1) (i:=i) he hc' hN'
     ·exact hk.elim
    ·rw[if_neg (by rw[hw];simp)]
     have he:=skip_out hpre oi.dst []
     exact⟨fun _ _ hS0=>hS0,ih ((h.withT hpre).step he) (Nat.le_trans hlen he.len) (fun hN=>hstand (T1:=T1) (i:=i) he (by simp) (hback hi hN).1) (hLn hi) hy⟩
end
end Go.Proofs.YtedfbafngmicpaaGreat.Sx
end
section
/- Names anew: what holds of values and chunks holds of them under other names. No program in sight. -/
namespace Go.Proofs.YtedfbafngmicpaaGreat.Sx
open Go

section
variable {C:Ctx}
variable {H H':List (Chunk C)} {σ:Nat->Value} {φ φ':Nat->Nat->Prop} {w w':World}

theorem idxOf_spec:∀ {l:List Nat} {n k:Nat},idxOf n l=some k->l[k]?=some n:=by
 intro l
 induction l with
 | nil=>intro n k h;simp[idxOf] at h
 | cons m l ih =>
  intro n k h
  simp only[idxOf] at h
  split at h
  ·rename_i e;simp only[Option.some.injEq] at h;subst h e;rfl
  ·simp only[Option.map_eq_some_iff] at h
   obtain⟨j,h1,rfl⟩:=h
   simpa using ih h1
theorem idxOf_nodup:∀ {l:List Nat},l.Nodup->∀ {n k:Nat},l[k]?=some n->idxOf n l=some k:=by
 intro l
 induction l with
 | nil=>intro _ n k h;simp at h
 | cons m l ih =>
  intro hn n k h
  rw[List.nodup_cons] at hn
  cases k with
  | zero=>simp at h;subst h;simp[idxOf]
  | succ k =>
   simp at h
   have hne:¬ m=n:=fun e=>hn.1 (e ▸ List.mem_of_getElem? h)
   simp[idxOf,hne,ih hn.2 h]
theorem idxOf_none {l:List Nat}{n:Nat}(h:idxOf n l=none):n∉l:=by
 induction l with
 | nil=>simp
 | cons m l ih =>
  simp only[idxOf] at h
  split at h
  ·cases h
  ·rename_i e
   simp only[Option.map_eq_none_iff] at h
   simp only[List.mem_cons,not_or]
   exact⟨fun e'=>e e'.symm,ih h⟩

variable {ρ:Nat->Option Nat} {σ':Nat->Value}

theorem allIdx_spec:∀ {l r:List Nat},allIdx ρ l=some r->(∀ n m,ρ n=some m->σ' m=σ n)->r.map σ'=l.map σ/\(∀ m∈r,∃ n∈l,ρ n=some m):=by
 intro l
 induction l with
 | nil=>intro r h _;simp[allIdx] at h;subst h;exact⟨rfl,by simp⟩
 | cons n l ih =>
  intro r h hρ
  simp only[allIdx] at h
  split at h<;>try (cases h;done)
  rename_i m r' h1 h2
  simp only[Option.some.injEq] at h
  subst h
  obtain⟨e1,e2⟩:=ih h2 hρ
  refine⟨by simp[e1,hρ n m h1],fun k hk=>?_⟩
  rcases List.mem_cons.1 hk with rfl|hk
  ·exact⟨n,by simp,h1⟩
  ·obtain⟨n',hn',e⟩:=e2 k hk
   exact⟨n',by simp[hn'],e⟩

theorem At.ren_rel (hρ:∀ n m,ρ n=some m->σ' m=σ n){x:At}{v:Value}(h:x.rel σ v):(x.ren ρ).rel σ' v:=by
 cases x with
 | any=>trivial
 | val u=>exact h
 | ptr n off =>
  simp only[At.ren]
  split
  ·rename_i m hm;obtain⟨b,h1,h2⟩:=h;exact⟨b,(hρ n m hm).trans h1,h2⟩
  ·trivial
 | eptr n i sz off =>
  simp only[At.ren]
  split
  ·rename_i m hm;obtain⟨b,o,len,cap,h1,h2⟩:=h;exact⟨b,o,len,cap,(hρ n m hm).trans h1,h2⟩
  ·trivial
 | slc n =>
  simp only[At.ren]
  split
  ·rename_i m hm;exact (show v=σ n from h).trans (hρ n m hm).symm
  ·trivial
 | fn f cs =>
  simp only[At.ren]
  split
  ·rename_i l hl
   obtain⟨e1,e2⟩:=allIdx_spec hl hρ
   refine⟨by rw[e1];exact h.1,fun c hc=>?_⟩
   obtain⟨n,hn,e⟩:=e2 c hc
   rw[hρ n c e]
   exact h.2 n hn
  ·trivial
theorem At.ren_names {x:At}:∀ m∈(x.ren ρ).names,∃ n∈x.names,ρ n=some m:=by
 cases x with
 | any=>simp[At.ren,At.names]
 | val u=>simp[At.ren,At.names]
 | ptr n off=>simp only[At.ren];split<;>simp_all [At.names]
 | eptr n i sz off=>simp only[At.ren];split<;>simp_all [At.names]
 | slc n=>simp only[At.ren];split<;>simp_all [At.names]
 | fn f cs =>
  simp only[At.ren]
  split
  ·rename_i l hl
   intro m hm
   exact (allIdx_spec (σ:=fun _=>undef) (σ':=fun _=>undef) hl (fun _ _ _=>rfl)).2 m hm
  ·simp[At.names]
theorem rels_ren (hρ:∀ n m,ρ n=some m->σ' m=σ n){l:List At}{vs:List Value}(h:Rels (At.rel σ) l vs):Rels (At.rel σ') (l.map (At.ren ρ)) vs :=
 ⟨by simp[h.1],fun i x v hx hv=>by
  rw[List.getElem?_map] at hx
  cases hl:l[i]? with
  | none=>rw[hl] at hx;cases hx
  | some y=>rw[hl] at hx;simp at hx;subst hx;exact At.ren_rel hρ (h.2 i y v hl hv)⟩
theorem TV.ren_rel (hρ:∀ n m,ρ n=some m->σ' m=σ n){x:TV}{v:Value}(h:x.rel σ v):(x.ren ρ).rel σ' v:=by
 cases x with
 | «at» y=>exact At.ren_rel hρ h
 | agg l=>obtain⟨cs,e,hr⟩:=h;exact⟨cs,e,rels_ren hρ hr⟩
theorem TV.ren_names {x:TV}:∀ m∈(x.ren ρ).names,∃ n∈x.names,ρ n=some m:=by
 cases x with
 | «at» y=>exact At.ren_names
 | agg l =>
  intro m hm
  simp only[TV.ren,TV.names,List.mem_flatMap,List.mem_map] at hm
  obtain⟨_,⟨y,hy,rfl⟩,hm⟩:=hm
  obtain⟨n,hn,e⟩:=At.ren_names m hm
  exact⟨n,List.mem_flatMap.2 ⟨y,hy,hn⟩,e⟩
theorem SV.ren_rel (hρ:∀ n m,ρ n=some m->σ' m=σ n){x:SV}{v:Value}(h:x.rel σ v):(x.ren ρ).rel σ' v:=by
 cases x with
 | one y=>exact TV.ren_rel hρ h
 | tup l =>
  obtain⟨vs,e,hr⟩:=h
  refine⟨vs,e,by simp[hr.1],fun i x v hx hv=>?_⟩
  rw[List.getElem?_map] at hx
  cases hl:l[i]? with
  | none=>rw[hl] at hx;cases hx
  | some y=>rw[hl] at hx;simp at hx;subst hx;exact TV.ren_rel hρ (hr.2 i y v hl hv)
theorem SV.ren_names {x:SV}:∀ m∈(x.ren ρ).names,∃ n∈x.names,ρ n=some m:=by
 cases x with
 | one y=>exact TV.ren_names
 | tup l =>
  intro m hm
  simp only[SV.ren,SV.names,List.mem_flatMap,List.mem_map] at hm
  obtain⟨_,⟨y,hy,rfl⟩,hm⟩:=hm
  obtain⟨n,hn,e⟩:=TV.ren_names m hm
  exact⟨n,List.mem_flatMap.2 ⟨y,hy,hn⟩,e⟩
theorem Chunk.ren_names {c:Chunk C}:∀ m∈(c.ren ρ).names,∃ n∈c.names,ρ n=some m:=by
 cases c with
 | box l =>
  intro m hm
  simp only[Chunk.ren,Chunk.names,List.mem_flatMap,List.mem_map] at hm
  obtain⟨_,⟨y,hy,rfl⟩,hm⟩:=hm
  obtain⟨n,hn,e⟩:=At.ren_names m hm
  exact⟨n,List.mem_flatMap.2 ⟨y,hy,hn⟩,e⟩
 | _=>intro m hm;simp[Chunk.ren,Chunk.names] at hm
theorem Holds.ren (hρ:∀ n m,ρ n=some m->σ' m=σ n){v:Value}{f:Nat->Prop}{c:Chunk C}(h:Holds w σ v f c):Holds w σ' v f (c.ren ρ):=by
 match c with
 | .gone=>exact h
 | .box cells=>obtain⟨b,t,cs,h1,h2,h3,h4⟩:=h;exact⟨b,t,cs,h1,h2,h3,rels_ren hρ h4⟩
 | .row true e l=>exact h
 | .row false e l=>exact h
 | .abs x=>exact h
 | .map kk vk l=>exact h
 | .arr _ _=>exact h
 | .rows _ _ _=>exact h
theorem pickH_get {τ:List Nat}{k:Nat}{c:Chunk C}(hlt:∀ n∈τ,n<H.length)(h:(pickH τ H)[k]?=some c):∃ n c0,τ[k]?=some n/\H[n]?=some c0/\c=c0.ren (fun n=>idxOf n τ):=by
 unfold pickH at h
 rw[List.getElem?_map] at h
 cases hk:τ[k]? with
 | none=>rw[hk] at h;cases h
 | some n =>
  rw[hk] at h
  simp only[Option.map_some,Option.some.injEq] at h
  refine⟨n,H.getD n .gone,rfl,?_,h.symm⟩
  exact getD_some (hlt n (List.mem_of_getElem? hk))

theorem Ro.ren {ρ:Nat->Option Nat}{v:Value}{b:Nat}{c:Chunk C}:Ro w v b (c.ren ρ)↔Ro w v b c:=by
 cases c<;>exact Iff.rfl

theorem Sat.pick (h:Sat C σ φ w H){τ:List Nat}(hnd:τ.Nodup)(hlt:∀ n∈τ,n<H.length) :
  Sat C (fun k=>σ (τ.getD k 0)) (fun k b=>k<τ.length/\φ (τ.getD k 0) b) w (pickH τ H):=by
 have hgd:∀ {k n:Nat},τ[k]?=some n->τ.getD k 0=n/\k<τ.length:=fun {k n} hk=>by
  refine⟨by simp[List.getD_eq_getElem?_getD,hk],(List.getElem?_eq_some_iff.1 hk).1⟩
 have hρ:∀ n m,idxOf n τ=some m->σ (τ.getD m 0)=σ n:=fun n m hm=>by rw[(hgd (idxOf_spec hm)).1]
 refine⟨fun k c hc=>?_,fun k m b hk hm=>?_,fun k b hb=>h.bd _ b hb.2,fun k c hl b hb m hm=>?_,fun k hk b hb=>?_,fun k c hc m hm=>?_⟩
 ·obtain⟨n,c0,h1,h2,rfl⟩:=pickH_get hlt hc
  have hh:=(h.holds n c0 h2).ren (ρ:=fun n=>idxOf n τ) (σ':=fun k=>σ (τ.getD k 0)) hρ
  have e1:=hgd h1
  have e2:(fun b=>k<τ.length/\φ (τ.getD k 0) b)=φ n:=funext fun b=>propext ⟨fun hh=>by rw[e1.1] at hh;exact hh.2,fun hh=>⟨e1.2,by rw[e1.1];exact hh⟩⟩
  rw[e2,e1.1]
  exact hh
 ·have:=h.dis _ _ b hk.2 hm.2
  have hk1:=getD_some (d:=0) hk.1
  have hm1:=getD_some (d:=0) hm.1
  rw[this] at hk1
  exact Option.some.inj ((idxOf_nodup hnd hk1).symm.trans (idxOf_nodup hnd hm1))
 ·obtain⟨n,c0,h1,h2,h3⟩:=pickH_get hlt hl
  subst h3
  have hb':Ro w (σ n) b c0:=by have:=(hgd h1).1;simp only[this] at hb;exact Ro.ren.1 hb
  exact h.imm n c0 h2 b hb' _ hm.2
 ·simp[pickH] at hk
  have:=hb.1
  omega
 ·obtain⟨n,c0,h1,h2,rfl⟩:=pickH_get hlt hc
  obtain⟨n',hn',e⟩:=Chunk.ren_names m hm
  have:=(List.getElem?_eq_some_iff.1 (idxOf_spec e)).1
  simpa [pickH] using this

theorem isOwn_some {n:Nat}:isOwn H n=true↔(∃ e l,H[n]?=some (.row true e l))∨∃ hh e ll,H[n]?=some (.rows hh e ll):=by
 unfold isOwn
 split
 ·rename_i e l hh;exact⟨fun _=>.inl ⟨e,l,hh⟩,fun _=>rfl⟩
 ·rename_i e l ll hh;exact⟨fun _=>.inr ⟨e,l,ll,hh⟩,fun _=>rfl⟩
 ·rename_i hh h2
  refine⟨fun h=>by simp at h,?_⟩
  rintro (⟨e,l,h⟩|⟨a,e,l,h⟩)
  ·exact absurd h (hh e l)
  ·exact absurd h (h2 a e l)

theorem Rdb.same {H1 H2:List (Chunk C)}{σ1 σ2:Nat->Value}{n m b:Nat}{ρ:Nat->Option Nat}(hσ:σ2 m=σ1 n)(hH:H2[m]?=(H1[n]?).map (Chunk.ren ρ)):Rdb H2 σ2 m b↔Rdb H1 σ1 n b:=by
 unfold Rdb
 rw[hσ,hH]
 cases H1[n]? with
 | none=>simp
 | some c=>cases c<;>simp[Chunk.ren]

theorem isOwn_ren {H2:List (Chunk C)}{n m:Nat}{ρ:Nat->Option Nat}(h:H2[m]?=(H[n]?).map (Chunk.ren ρ)):isOwn H2 m=isOwn H n:=by
 unfold isOwn
 rw[h]
 cases H[n]? with
 | none=>rfl
 | some c =>
  cases c with
  | row own e l=>cases own<;>rfl
  | _=>rfl

end
end Go.Proofs.YtedfbafngmicpaaGreat.Sx
end
section
/- The symbolic run is sound: bodies and functions. No program in sight. -/
namespace Go.Proofs.YtedfbafngmicpaaGreat.Sx
open Go

def LW (P:Program)(c:Code)(Q:Exit->Act->World->Prop)(a:Act)(w:World):Prop :=
 ∀ b k cs,∃ e a' w',Q e a' w'/\Arrives P (lone (b.at a (.code c::.inLoop c::k)) cs w) b k cs e a' w'
theorem LW.loop {P:Program}{Q:Exit->Act->World->Prop}{a:Act}{w:World}{c:Code}(h:LW P c Q a w):(Code.loop c).wp P Q a w:=by
 intro b k cs
 obtain⟨e,a',w',hq,harr⟩:=h b k cs
 exact⟨e,a',w',hq,.of_steps (.one step_loop) harr⟩
theorem LW.step {P:Program}{Q:Exit->Act->World->Prop}{a:Act}{w:World}{c:Code}(h:c.wp P (Exit.then (LW P c Q) Q) a w):LW P c Q a w:=by
 intro b k cs
 obtain⟨e,a₁,w₁,hq,harr⟩:=h b (.inLoop c::k) cs
 cases e with
 | normal =>
  obtain⟨e₂,a₂,w₂,hq₂,harr₂⟩:=hq b k cs
  exact⟨e₂,a₂,w₂,hq₂,.of_steps (Steps.trans harr (.one step_inLoop)) harr₂⟩
 | exit id=>exact⟨_,a₁,w₁,hq,.pass (x:=.inLoop c) rfl (fun _ _=>.inl (by simp)) harr⟩
 | goto l=>exact⟨_,a₁,w₁,hq,.pass (x:=.inLoop c) rfl (fun _ _=>.inl (by simp)) harr⟩
 | ret=>exact⟨_,a₁,w₁,hq,.pass (x:=.inLoop c) rfl (fun _ _=>.inl (by simp)) harr⟩
 | panic ch=>exact⟨_,a₁,w₁,hq,.pass (x:=.inLoop c) rfl (fun _ _=>.inl (by simp)) harr⟩
 | outgrown=>exact⟨_,a₁,w₁,hq,.pass (x:=.inLoop c) rfl (fun _ _=>.inl (by simp)) harr⟩
theorem LW.ghost {P:Program}{Q:Exit->Act->World->Prop}{c:Code}(I:Nat->Act->World->Prop)(round:∀ n a w,I n a w->c.wp P (Exit.then (fun a' w'=>∃ n',n'<n/\I n' a' w') Q) a w):∀ n {a:Act} {w:World},I n a w->LW P c Q a w:=by
 intro n
 induction n using Nat.strongRecOn with
 | ind n ih =>
  intro a w h
  refine LW.step (wp_mono (round n a w h) fun e a' w' hd=>?_)
  cases e with
  | normal =>
   obtain⟨n',hlt,hI⟩:=hd
   exact ih n' hlt hI
  | exit id=>exact hd
  | ret=>exact hd
  | goto l=>exact hd
  | panic ch=>exact hd
  | outgrown=>exact hd

section
variable {C:Ctx}
variable {W:List Nat} {B:Base C} {T:List SV} {H:List (Chunk C)} {σ:Nat->Value} {φ:Nat->Nat->Prop} {a:Act} {w:World} {o:Oper}

theorem At.le_rel {x y:At}{v:Value}(h:At.le x y)(hr:x.rel σ v):y.rel σ v:=by
 unfold At.le at h
 split at h
 ·trivial
 ·split at h
  ·split at h
   ·rename_i hc;obtain⟨rfl,rfl⟩:=hc;exact hr
   ·exact h.elim
  ·exact h.elim
 ·split at h
  ·split at h
   ·rename_i hc;subst hc;exact hr
   ·exact h.elim
  ·exact h.elim
 ·split at h
  ·subst h;exact hr
  ·exact h.elim
 ·subst h;exact hr

theorem lesAt_rel:∀ {l m:List At} {vs:List Value},lesAt l m->Rels (At.rel σ) l vs->Rels (At.rel σ) m vs:=by
 intro l
 induction l with
 | nil=>intro m vs h hr;cases m with
  | nil=>exact hr
  | cons _ _=>simp[lesAt] at h
 | cons x l ih =>
  intro m vs h hr
  cases m with
  | nil=>simp[lesAt] at h
  | cons y m =>
   match vs,hr with
   | [],hr=>exact absurd hr.1 (by simp)
   | v::vs,hr =>
    have h0:x.rel σ v:=hr.2 0 _ _ rfl rfl
    have ht:Rels (At.rel σ) l vs:=⟨by simpa using hr.1,fun i a b ha hb=>hr.2 (i+1) a b (by simpa using ha) (by simpa using hb)⟩
    unfold lesAt at h
    split at h
    ·exact Rels.cons trivial (ih h ht)
    ·exact Rels.cons (At.le_rel h.1 h0) (ih h.2 ht)

theorem SV.le_rel {x y:SV}{v:Value}(h:SV.le x y)(hr:x.rel σ v):y.rel σ v:=by
 unfold SV.le at h
 split at h
 ·split at h
  ·trivial
  ·split at h
   ·exact At.le_rel h hr
   ·exact h.elim
 ·split at h
  ·obtain⟨cs,e,hr'⟩:=hr;exact⟨cs,e,lesAt_rel h hr'⟩
  ·exact h.elim
 ·subst h;exact hr

theorem lesT_rel:∀ {T T1:List SV} {vs:List Value},lesT T T1->Rels (SV.rel σ) T vs->Rels (SV.rel σ) T1 vs:=by
 intro T
 induction T with
 | nil=>intro m vs h hr;cases m with
  | nil=>exact hr
  | cons _ _=>simp[lesT] at h
 | cons x l ih =>
  intro m vs h hr
  cases m with
  | nil=>simp[lesT] at h
  | cons y m =>
   match vs,hr with
   | [],hr=>exact absurd hr.1 (by simp)
   | v::vs,hr =>
    have h0:x.rel σ v:=hr.2 0 _ _ rfl rfl
    have ht:Rels (SV.rel σ) l vs:=⟨by simpa using hr.1,fun i a b ha hb=>hr.2 (i+1) a b (by simpa using ha) (by simpa using hb)⟩
    unfold lesT at h
    split at h
    ·exact Rels.cons trivial (ih h ht)
    ·exact Rels.cons (SV.le_rel h.1 h0) (ih h.2 ht)

theorem lesH_get:∀ {H H1:List (Chunk C)},lesH H H1->∀ (n:Nat) (d:Chunk C),H1[n]?=some d->∃ c,H[n]?=some c/\Chunk.le c d:=by
 intro H
 induction H with
 | nil=>intro H1 h n d hd;cases H1 with
  | nil=>simp at hd
  | cons _ _=>simp[lesH] at h
 | cons x l ih =>
  intro H1 h n d hd
  cases H1 with
  | nil=>simp at hd
  | cons y m =>
   cases n with
   | zero=>simp at hd;subst hd;exact⟨x,rfl,h.1⟩
   | succ n=>simp at hd;simpa using ih h.2 n d hd

def Chunk.keeps:Chunk C->Bool
 | .gone=>false
 | .row false _ _=>false
 | _=>true

theorem Chunk.le_holds (hC:C.OK){c d:Chunk C}{v:Value}{f:Nat->Prop}(h:Chunk.le c d)(hh:Holds w σ v f c):Holds w σ v (fun b=>f b/\d.keeps=true) d:=by
 unfold Chunk.le at h
 split at h
 ·trivial
 ·rename_i m
  split at h
  ·obtain⟨b,t,cs,h1,h2,h3,h4⟩:=hh
   exact⟨b,t,cs,h1,fun k=>by simp[h2 k,Chunk.keeps],h3,lesAt_rel h h4⟩
  ·exact h.elim
 ·rename_i o' e' l'
  split at h
  ·rename_i o e l
   split at h
   ·rename_i hoo
    split at h
    ·rename_i he _
     subst he
     simp only at h
     subst h
     cases o' with
     | true =>
      have:o=true:=by simpa using hoo
      subst this
      exact⟨hh.1,fun k=>by simp[hh.2 k,Chunk.keeps]⟩
     | false =>
      obtain⟨A,c,h1,h2⟩:=hh.rd hC
      exact⟨⟨A,c,h1,h2⟩,fun k hk=>by simp[Chunk.keeps] at hk⟩
    ·exact h.elim
   ·exact h.elim
  ·exact h.elim
 ·rename_i y
  split at h
  ·subst h
   exact⟨by simpa [Chunk.keeps] using hh.1,hh.2⟩
  ·exact h.elim
 ·rename_i kk vk m
  split at h
  ·rename_i k v l
   split at h
   ·rename_i hkv
    obtain⟨rfl,rfl⟩:=hkv
    subst h
    obtain⟨b,es,ck,h1,h2,h3,h4⟩:=hh
    exact⟨b,es,ck,h1,fun q=>by simp[h2 q,Chunk.keeps],h3,h4⟩
   ·exact h.elim
  ·exact h.elim
 ·rename_i kk m
  split at h
  ·rename_i k l
   split at h
   ·rename_i hk
    subst hk h
    obtain⟨b,t,cs,h1,h2,h3,h4⟩:=hh
    exact⟨b,t,cs,h1,fun q=>by simp[h2 q,Chunk.keeps],h3,h4⟩
   ·exact h.elim
  ·subst h
   obtain⟨b,t,cs,h1,h2,h3,h4⟩:=hh
   refine⟨b,t,cs,h1,fun q=>by simp[h2 q,Chunk.keeps],h3,?_⟩
   refine List.ext_getElem? fun i=>?_
   cases hi:m[i]? with
   | none =>
    have:cs.toList.length=m.length:=by have:=h4.1;simpa using this.symm
    rw[List.getElem?_map,hi,List.getElem?_eq_none (by have:=List.getElem?_eq_none_iff.1 hi;omega)];rfl
   | some z =>
    obtain⟨u,hu,hr⟩:=h4.get (i:=i) (a:=.val (.int kk z)) (by rw[List.getElem?_map,hi];rfl)
    rw[hu,List.getElem?_map,hi]
    exact congrArg some hr
  ·exact h.elim
 ·rename_i h' e' m
  split at h
  ·split at h
   ·rename_i q1 _
    subst q1
    split at h
    ·rename_i q2 _
     subst q2
     simp only at h
     subst h
     exact⟨hh.1,hh.2.1,fun k=>by simp[hh.2.2 k,Chunk.keeps]⟩
    ·exact h.elim
   ·exact h.elim
  ·exact h.elim

theorem Chunk.le_row {c:Chunk C}{o':Bool}{e':C.EC}{l':List (C.α e')}(h:Chunk.le c (.row o' e' l')):∃ o,c = .row o e' l'/\(o'=true->o=true):=by
 unfold Chunk.le at h
 split at h
 ·rename_i heq;cases heq
 ·rename_i heq;cases heq
 ·rename_i o2 e2 l2 heq
  injection heq with h1 h2 h3
  subst h1 h2
  have h3:=eq_of_heq h3
  subst h3
  split at h
  ·rename_i o e l
   split at h
   ·rename_i hoo
    split at h
    ·rename_i he _
     subst he
     simp only at h
     subst h
     exact⟨o,rfl,fun e=>by subst e;simpa using hoo⟩
    ·exact h.elim
   ·exact h.elim
  ·exact h.elim
 all_goals (rename_i heq;cases heq)
theorem Chunk.le_rows {c:Chunk C}{h' e':C.EC}{l':List (List (C.α e'))}(h:Chunk.le c (.rows h' e' l')):c = .rows h' e' l':=by
 unfold Chunk.le at h
 cases c<;>first|exact h.elim|skip
 dsimp only at h
 split at h<;>try (exact h.elim)
 rename_i q1 _
 subst q1
 split at h<;>try (exact h.elim)
 rename_i q2 _
 subst q2
 simp only at h
 subst h
 rfl

theorem Sat.weaken (hC:C.OK)(h:Sat C σ φ w H){H1:List (Chunk C)}(hl:lesH H H1)(hcl:∀ c∈H1,∀ m∈c.names,m<H1.length) :
  Sat C σ (fun n b=>φ n b/\∃ d,H1[n]?=some d/\d.keeps=true) w H1 where
 holds n d hd:=by
  obtain⟨c,hc,hle⟩:=lesH_get hl n d hd
  have:=Chunk.le_holds hC hle (h.holds n c hc)
  have e:(fun b=>φ n b/\d.keeps=true)=(fun b=>φ n b/\∃ d,H1[n]?=some d/\d.keeps=true):=by
   funext b
   simp[hd]
  rw[e] at this
  exact this
 dis n m b h1 h2:=h.dis n m b h1.1 h2.1
 bd n b hb:=h.bd n b hb.1
 imm n d hd b hb m hm:=by
  obtain⟨c,hc,hle⟩:=lesH_get hl n _ hd
  cases d with
  | rows h' e' l' =>
   obtain rfl:=Chunk.le_rows hle
   exact h.imm n _ hc b hb m hm.1
  | gone=>exact hb.elim
  | box _=>exact (Ro.box hb).elim
  | abs _=>exact hb.elim
  | map _ _ _=>exact (Ro.map hb).elim
  | arr _ _=>exact (Ro.arr hb).elim
  | row o' e l =>
  cases o' with
  | true=>exact (Ro.own hb).elim
  | false =>
  obtain⟨o,rfl,_⟩:=Chunk.le_row hle
  obtain⟨hpos,hb⟩:=hb
  cases o with
  | false=>exact h.immr n e l hc hpos b hb m hm.1
  | true =>
   have hnm:=h.dis m n b hm.1 (((h.holds n _ hc).2 b).2 hb)
   subst hnm
   obtain⟨d,hd',hk⟩:=hm.2
   rw[hd] at hd'
   simp only[Option.some.injEq] at hd'
   subst hd'
   simp[Chunk.keeps] at hk
 out n hn b hb:=by
  obtain⟨d,hd,_⟩:=hb.2
  rw[List.getElem?_eq_none hn] at hd
  cases hd
 cl n c hc m hm:=hcl c (List.mem_of_getElem? hc) m hm

theorem okNames_spec {base:Nat}{T:List SV}{H:List (Chunk C)}(h:okNames base T H=true):base<=H.length/\(∀ s∈T,∀ m∈s.names,m<H.length)/\∀ c∈H,∀ m∈c.names,m<H.length:=by
 unfold okNames at h
 simp only[Bool.and_eq_true,decide_eq_true_eq,List.all_eq_true] at h
 exact⟨h.1.1,h.1.2,h.2⟩

theorem St.weaken (h:St C B W T H σ φ a w){T1:List SV}{H1:List (Chunk C)}{W1:List Nat}(hT:lesT T T1)(hl:lesH H H1)(hok:okNames B.H.length T1 H1=true)(hW:∀ n,n∈W->B.H.length<=n∨n∈W1)(hst:∀ n,n<B.H.length->n∉W1->∀ b,Rdb H1 σ n b↔Rdb H σ n b) :
  St C B W1 T1 H1 σ (fun n b=>φ n b/\∃ d,H1[n]?=some d/\d.keeps=true) a w:=by
 obtain⟨h1,h2,h3⟩:=okNames_spec hok
 refine⟨⟨h.pre.ok,lesT_rel hT h.pre.tm,h2,h.pre.sat.weaken h.pre.ok hl h3⟩,h.dfs,?_,h1,h.agree,fun n hn ho=>h.own n hn ?_,fun n hn hnW=>?_⟩
 ·exact h.adv.trans ⟨rfl,rfl,rfl,Nat.le_refl _,fun _ _ _=>rfl,fun n b hb=>.inl ⟨n,hb.1⟩⟩
 ·unfold isOwn at ho
  split at ho
  ·rename_i e l hH
   obtain⟨c,hc,hle⟩:=lesH_get hl n _ hH
   obtain⟨o,rfl,ho'⟩:=Chunk.le_row hle
   have:=ho' rfl
   subst this
   simp[isOwn,hc]
  ·rename_i h' e l hH
   obtain⟨c,hc,hle⟩:=lesH_get hl n _ hH
   obtain rfl:=Chunk.le_rows hle
   simp[isOwn,hc]
  ·cases ho
 ·obtain⟨h4,h5,h6⟩:=h.stand n hn fun e=>(hW n e).elim (fun hle=>by omega) hnW
  exact⟨h4,fun b=>(hst n hn hnW b).trans (h5 b),h6⟩

variable {A:Ann C}

theorem rdb_row {n:Nat}{own:Bool}{e:C.EC}{l:List (C.α e)}(hH:H[n]?=some (.row own e l))(b:Nat):Rdb H σ n b↔(σ n).ownBlock=some b/\0<l.length:=by
 constructor
 ·rintro (⟨_,cells,h⟩|⟨h,own',e',l',h2,hp⟩|⟨_,kk,vk,l',h⟩|⟨_,hh,e',l',h,_⟩|⟨_,kk,l',h⟩)
  ·rw[hH] at h;cases h
  ·rw[hH] at h2
   simp only[Option.some.injEq] at h2
   injection h2 with _ h3 h4
   subst h3
   have h4:=eq_of_heq h4
   subst h4
   exact⟨h,hp⟩
  ·rw[hH] at h;cases h
  ·rw[hH] at h;cases h
  ·rw[hH] at h;cases h
 ·rintro ⟨h1,h2⟩
  exact .inr (.inl ⟨h1,own,e,l,hH,h2⟩)

theorem okBase_rdb {base:Nat}{wr:List Nat}{H1:List (Chunk C)}(h:okBase base wr H1=true)(hl:lesH H H1){n:Nat}(hn:n<base)(hw:n∉wr)(b:Nat):Rdb H1 σ n b↔Rdb H σ n b:=by
 unfold okBase at h
 have h1:=List.all_eq_true.1 h n (List.mem_range.2 hn)
 simp only[Bool.or_eq_true] at h1
 rcases h1 with h1|h1
 ·exact absurd (by simpa using h1) hw
 ·split at h1
  ·cases h1
  ·rename_i d hng hd
   obtain⟨c,hc,hle⟩:=lesH_get hl n d hd
   cases d with
   | gone=>exact (hng rfl).elim
   | box m =>
    unfold Chunk.le at hle
    unfold Rdb
    cases c<;>simp_all
   | row o e l =>
    obtain⟨o',rfl,_⟩:=Chunk.le_row hle
    rw[rdb_row hd,rdb_row hc]
   | abs x =>
    unfold Chunk.le at hle
    unfold Rdb
    cases c<;>simp_all
   | map kk vk l =>
    unfold Chunk.le at hle
    unfold Rdb
    cases c<;>simp_all
   | rows h' e' l' =>
    obtain rfl:=Chunk.le_rows hle
    unfold Rdb
    rw[hd,hc]
   | arr kk l =>
    unfold Chunk.le at hle
    unfold Rdb
    cases c<;>simp_all
  ·cases h1

theorem nodupB_spec:∀ {l:List Nat},nodupB l=true->l.Nodup:=by
 intro l
 induction l with
 | nil=>intro _;exact List.nodup_nil
 | cons n l ih =>
  intro h
  simp only[nodupB,Bool.and_eq_true] at h
  exact List.nodup_cons.2 ⟨by simpa using h.1,ih h.2⟩

theorem St.rename (h:St C B W T H σ φ a w){τ:List Nat}(hnd:τ.Nodup)(hlt:∀ n∈τ,n<H.length)(hlow:∀ n,n<B.H.length->τ[n]?=some n)(hlen:B.H.length<=τ.length) :
  St C B W (T.map (SV.ren fun n=>idxOf n τ)) (pickH τ H) (fun k=>σ (τ.getD k 0)) (fun k b=>k<τ.length/\φ (τ.getD k 0) b) a w:=by
 have hgd:∀ {k n:Nat},τ[k]?=some n->τ.getD k 0=n:=fun {k n} hk=>by simp[List.getD_eq_getElem?_getD,hk]
 have hρ:∀ n m,idxOf n τ=some m->σ (τ.getD m 0)=σ n:=fun n m hm=>by rw[hgd (idxOf_spec hm)]
 have hrow:∀ n,n<B.H.length->(pickH τ H)[n]?=(H[n]?).map (Chunk.ren fun n=>idxOf n τ):=fun n hn=>by
  unfold pickH
  rw[List.getElem?_map,hlow n hn,getD_some (d:=.gone) (Nat.lt_of_lt_of_le hn h.len)]
  rfl
 refine⟨⟨h.pre.ok,⟨by simp[h.pre.tm.1],fun i x v hx hv=>?_⟩,fun x hx m hm=>?_,h.pre.sat.pick hnd hlt⟩,h.dfs,⟨h.adv.os,h.adv.tape,h.adv.output,h.adv.size,h.adv.fr,fun n b hb=>h.adv.grow _ b hb.2⟩,by simpa [pickH] using hlen,fun n hn ho=>?_,fun n hn ho=>?_,fun n hn hnW=>?_⟩
 ·rw[List.getElem?_map] at hx
  cases hi:T[i]? with
  | none=>rw[hi] at hx;cases hx
  | some y=>rw[hi] at hx;simp at hx;subst hx;exact SV.ren_rel hρ (h.pre.tm.2 i y v hi hv)
 ·obtain⟨y,hy,rfl⟩:=List.mem_map.1 hx
  obtain⟨n,_,e⟩:=SV.ren_names m hm
  simpa [pickH] using (List.getElem?_eq_some_iff.1 (idxOf_spec e)).1
 ·rw[hgd (hlow n hn)]
  exact h.agree n hn ho
 ·refine h.own n hn ?_
  rw[isOwn_ren (hrow n hn)] at ho
  exact ho
 ·obtain⟨h4,h5,h6⟩:=h.stand n hn hnW
  refine⟨by simp only[hgd (hlow n hn)];exact h4,fun b=>?_,h6⟩
  rw[← h5 b]
  exact Rdb.same (by simp only[hgd (hlow n hn)]) (hrow n hn)

theorem meetO_sound (h:St C B W T H σ φ a w)(hb:A.base=B.H.length){i:Inv C}{T1:List SV}{x:i.X}(hm:meetO C A i W T T1 H x):∃ σ' φ',St C B i.wr T1 (i.hf x) σ' φ' a w:=by
 unfold meetO at hm
 simp only at hm
 split at hm
 ·rename_i hc
  simp only[Bool.and_eq_true] at hc
  obtain⟨hc1,hc2,hc3,hc4,hc5⟩:=hc
  rw[hb] at hc1 hc2
  have hle:B.H.length<=(i.hf x).length:=by
   simp only[okNames,Bool.and_eq_true,decide_eq_true_eq] at hc1
   exact hc1.1.1
  have hst:=h.rename (nodupB_spec hc4) (fun n hn=>by simpa using List.all_eq_true.1 hc5 n hn) (fun n hn=>by
   unfold meetN
   simp only
   rw[List.getElem?_map,List.getElem?_range (by omega)]
   simp[hb,hn]) (by simpa [meetN] using hle)
  exact⟨_,_,hst.weaken hm.1 hm.2 hc1 (fun n hn=>by have:=List.all_eq_true.1 hc3 n hn;rw[hb] at this;simpa using this) fun n hn hnw b=>okBase_rdb hc2 hm.2 hn hnw b⟩
 ·exact hm.elim

theorem St.dup (h:St C B W T H σ φ a w){s n:Nat}{e:C.EC}{l:List (C.α e)}(hT:T[s]?=some (.one (.at (.slc n))))(hH:H[n]?=some (.row false e l)):∃ σ' φ',St C B W (T.set s (.one (.at (.slc H.length)))) (H++[.row false e l]) σ' φ' a w:=by
 obtain⟨v,hv,hr⟩:=h.pre.tm.get hT
 have hr:v=σ n:=hr
 have g:=dup_sound h.pre.ok h.pre.sat hH
 have e0:a.put none (σ n)=a:=rfl
 have q:=quiet_out h.pre g (s:=.one (.at (.slc H.length))) (v:=σ n) (by show σ n=_;simp) (by intro m hm;simp[SV.names,TV.names,At.names] at hm;subst hm;simp) none []
 have st:=h.step q
 rw[e0] at st
 refine⟨_,_,st.withT ⟨h.pre.ok,?_,?_,g.sat⟩⟩
 ·have:=st.pre.tm.set s (a:=.one (.at (.slc H.length))) (b:=v) (by show v=_;simp[hr])
  have e1:a.tmps.toList.set s v=a.tmps.toList:=by
   apply List.ext_getElem?
   intro k
   rw[List.getElem?_set]
   split
   ·rename_i hk
    subst hk
    split
    ·exact hv.symm
    ·rename_i hlt
     rw[List.getElem?_eq_none (by omega)] at hv
     cases hv
   ·rfl
  rw[e1] at this
  exact this
 ·intro x hx m hm
  rcases List.mem_or_eq_of_mem_set hx with hx|rfl
  ·exact Nat.lt_of_lt_of_le (h.pre.tcl x hx m hm) g.len
  ·simp[SV.names,TV.names,At.names] at hm;subst hm;simp
theorem St.grow (h:St C B W T H σ φ a w){σ':Nat->Value}{φ':Nat->Nat->Prop}{H':List (Chunk C)}(g:Grows C σ φ H σ' φ' H' w):St C B W T H' σ' φ' a w :=
 h.step (quiet_out h.pre g (s:=.one (.at .any)) (v:=undef) trivial (by intro m hm;simp[SV.names,TV.names,At.names] at hm) none [])
theorem copyS_sound:∀ (r:List Nat) {T:List SV} {H:List (Chunk C)} {σ:Nat->Value} {φ:Nat->Nat->Prop},St C B W T H σ φ a w->∃ σ' φ',St C B W (copyS r T H).1 (copyS r T H).2 σ' φ' a w:=by
 intro r
 induction r with
 | nil=>intro T H σ φ h;exact⟨σ,φ,h⟩
 | cons s r ih =>
  intro T H σ φ h
  unfold copyS
  split
  ·rename_i n hn
   split
   ·rename_i e l hH
    have hT:T[s]?=some (.one (.at (.slc n))):=by
     rw[List.getD_eq_getElem?_getD] at hn
     cases hT':T[s]? with
     | none=>rw[hT'] at hn;simp at hn
     | some x=>rw[hT'] at hn;simp at hn;rw[hn]
    obtain⟨σ1,φ1,h1⟩:=h.dup hT hH
    exact ih h1
   ·rename_i e l hH
    have hT:T[s]?=some (.one (.at (.slc n))):=by
     rw[List.getD_eq_getElem?_getD] at hn
     cases hT':T[s]? with
     | none=>rw[hT'] at hn;simp at hn
     | some x=>rw[hT'] at hn;simp at hn;rw[hn]
    have hn':n<H.length:=(List.getElem?_eq_some_iff.1 hH).1
    have hf:=h.grow (freeze_sound h.pre.ok h.pre.sat hH)
    obtain⟨σ1,φ1,h1⟩:=hf.dup hT (List.getElem?_set_self hn')
    rw[List.length_set] at h1
    exact ih h1
   ·exact ih h
  ·exact ih h
theorem meetS_sound (h:St C B W T H σ φ a w)(hb:A.base=B.H.length){i:Inv C}{T1:List SV}{x:i.X}(hm:meetS C A i W T T1 H x):∃ σ' φ',St C B i.wr T1 (i.hf x) σ' φ' a w:=by
 unfold meetS at hm
 split at hm
 ·exact meetO_sound h hb hm
 ·obtain⟨σ1,φ1,h1⟩:=copyS_sound _ h
  exact meetO_sound h1 hb hm

def Den (C:Ctx)(B:Base C)(K:Ex->List Nat->List SV->List (Chunk C)->Prop):Exit->Act->World->Prop
 | .normal,a,w=>∃ W T H σ φ,St C B W T H σ φ a w/\K .normal W T H
 | .exit id,a,w=>∃ W T H σ φ,St C B W T H σ φ a w/\K (.exit id) W T H
 | .ret,a,w=>∃ W T H σ φ,St C B W T H σ φ a w/\K .ret W T H
 | _,_,_=>False

theorem St.setBool (h:St C B W T H σ φ a w){d:Nat}{b:Bool}(hT:T.getD d (.one (.at .any)) = .one (.at (.val (.bool b)))):a.eval (.tmp d) = .bool b/\St C B W (T.set d (vb b)) H σ φ a w:=by
 have hT':T[d]?=some (.one (.at (.val (.bool b)))):=by
  rw[List.getD_eq_getElem?_getD] at hT
  cases hT':T[d]? with
  | none=>rw[hT'] at hT;simp at hT
  | some x=>rw[hT'] at hT;simp at hT;rw[hT]
 obtain⟨v,hv,hr⟩:=h.pre.tm.get hT'
 have hvb:v = .bool b:=hr
 subst hvb
 have hv':a.tmps[d]?=some (.bool b):=by rw[← Array.getElem?_toList];exact hv
 refine⟨by simp[Act.eval,Array.getD_eq_getD_getElem?,hv'],?_⟩
 have e:T.set d (vb b)=T:=by
  apply List.ext_getElem?
  intro k
  rw[List.getElem?_set]
  split
  ·rename_i hk
   subst hk
   split
   ·exact hT'.symm
   ·rename_i hlt
    rw[List.getElem?_eq_none (by omega)] at hT'
    cases hT'
  ·rfl
 rw[e]
 exact h

theorem run_sound (hC:C.OK)(hG:GOK C A.Γ)(hb:A.base=B.H.length):∀ (c:Code) (lv:Nat->Bool) (K:Ex->List Nat->List SV->List (Chunk C)->Prop) {W:List Nat} {T:List SV} {H:List (Chunk C)} {σ:Nat->Value} {φ:Nat->Nat->Prop} {a:Act} {w:World},
  run C A c lv K W T H->St C B W T H σ φ a w->c.wp C.P (Den C B K) a w:=by
 intro c
 induction c with
 | skip=>intro lv K W T H σ φ a w hr h;exact wp_skip ⟨W,T,H,σ,φ,h,hr⟩
 | region id ops d =>
  intro lv K W T H σ φ a w hr h
  simp only[run] at hr
  cases d with
  | true =>
   simp only[if_true] at hr
   split at hr
   ·rename_i hsel
    refine wp_region_any hC.mixed (wpAnyL.any (S:=Stand H σ (stayS A.quiet A.trunc T H ops) { w with drawn:=w.drawn+1 }) (late:=lateS A.trunc ops) ?_)
    have hN:NoLate (lateS A.trunc ops) (Array.replicate ops.size false):=fun j hj=>by
     have hlt:j<ops.size:=by
      unfold lateS at hj
      split at hj
      ·cases hj
      ·rename_i p hp
       exact (Array.getElem?_eq_some_iff.1 hp).1
     simp[hlt]
    exact anyS_sound hG (fun hst hk=>⟨_,_,_,_,_,hst,hk⟩) (fun c a w hh=>hh) hsel (Hs:=H) (σs:=σ) (fun n hn=>by
     unfold stayS at hn
     exact List.mem_range.1 (List.mem_filter.1 hn).1) ops.size (h.drawn _) (Nat.le_refl _) (fun _=>⟨fun _ _ _ _=>rfl,fun _ _ _=>Iff.rfl⟩) (fun _ _ _ _ _=>hN) hr
   ·exact hr.elim
  | false =>
   simp only[Bool.false_eq_true,if_false] at hr
   exact wp_region_list (seqS_sound hG (fun hst hk=>⟨_,_,_,_,_,hst,hk⟩) ops.toList h hr)
 | seq x y ihx ihy =>
  intro lv K W T H σ φ a w hr h
  simp only[run] at hr
  split at hr
  ·refine wp_seq (wp_mono (ihx _ _ hr h) fun e a' w' hd=>?_)
   cases e with
   | normal =>
    obtain⟨W',T',H',σ',φ',hst,hk⟩:=hd
    exact ihy _ _ hk hst
   | exit id=>exact hd
   | ret=>exact hd
   | goto l=>exact hd
   | panic ch=>exact hd
   | outgrown=>exact hd
  ·rename_i i _
   refine wp_seq (wp_mono (ihx _ _ hr.1 h) fun e a' w' hd=>?_)
   cases e with
   | normal =>
    obtain⟨W',T',H',σ',φ',hst,x,hrl,hm⟩:=hd
    obtain⟨σ2,φ2,hst2⟩:=meetS_sound hst hb hm
    exact ihy _ _ (hr.2 x hrl) hst2
   | exit id=>exact hd
   | ret=>exact hd
   | goto l=>exact hd
   | panic ch=>exact hd
   | outgrown=>exact hd
 | cond c x y ihx ihy =>
  intro lv K W T H σ φ a w hr h
  simp only[run] at hr
  split at hr<;>try (exact hr.elim)
  rename_i d
  split at hr<;>try (exact hr.elim)
  rename_i t ht
  obtain⟨he,hst⟩:=h.setBool ht
  rw[brS_iff] at hr
  refine wp_cond_split he (fun e=>?_) (fun e=>?_)
  ·subst e;exact ihx _ _ (hr.1 rfl) hst
  ·subst e;exact ihy _ _ (hr.2 rfl) hst
 | block id b ih =>
  intro lv K W T H σ φ a w hr h
  simp only[run] at hr
  refine wp_block (wp_mono (ih _ _ hr h) fun e a' w' hd=>?_)
  cases e with
  | exit j =>
   obtain⟨W',T',H',σ',φ',hst,hk⟩:=hd
   simp only at hk
   show if j=id then _ else _
   by_cases hj:j=id
   ·rw[if_pos hj] at hk ⊢;exact⟨W',T',H',σ',φ',hst,hk⟩
   ·rw[if_neg hj] at hk ⊢;exact⟨W',T',H',σ',φ',hst,hk⟩
  | normal=>exact hd
  | ret=>exact hd
  | goto l=>exact hd
  | panic ch=>exact hd
  | outgrown=>exact hd
 | loop b ih =>
  intro lv K W T H σ φ a w hr h
  simp only[run] at hr
  refine LW.loop ?_
  generalize A.rounds (headId b)=n at hr
  induction n generalizing W T H σ φ a w with
  | zero =>
   simp only[unroll] at hr
   split at hr<;>try (exact hr.elim)
   rename_i i _
   obtain⟨⟨x0,hrl0,hm0⟩,hround⟩:=hr
   obtain⟨σ0,φ0,hst0⟩:=meetS_sound h hb hm0
   refine LW.ghost (fun n a w=>∃ x σ φ,i.μ x=n/\i.rel T H x/\St C B i.wr (invS C b (liveC b lv) T i x) (i.hf x) σ φ a w) ?_ (i.μ x0) ⟨x0,σ0,φ0,rfl,hrl0,hst0⟩
   rintro n a1 w1 ⟨x,σ1,φ1,hμ,hrl,hst⟩
   refine wp_mono (ih _ _ (hround x hrl) hst) fun e a' w' hd=>?_
   cases e with
   | normal =>
    obtain⟨W',T',H',σ',φ',hst',x',hrl',hm,hlt⟩:=hd
    obtain⟨σ2,φ2,hst2⟩:=meetS_sound hst' hb hm
    exact⟨i.μ x',by omega,x',σ2,φ2,rfl,hrl',hst2⟩
   | exit id=>exact hd
   | ret=>exact hd
   | goto l=>exact hd
   | panic ch=>exact hd
   | outgrown=>exact hd
  | succ n ihn =>
   refine LW.step (wp_mono (ih _ _ hr h) fun e a' w' hd=>?_)
   cases e with
   | normal =>
    obtain⟨W',T',H',σ',φ',hst,hk⟩:=hd
    exact ihn hst hk
   | exit id=>exact hd
   | ret=>exact hd
   | goto l=>exact hd
   | panic ch=>exact hd
   | outgrown=>exact hd
 | exit id=>intro lv K W T H σ φ a w hr h;exact wp_exit ⟨W,T,H,σ,φ,h,hr⟩
 | ret=>intro lv K W T H σ φ a w hr h;exact wp_ret ⟨W,T,H,σ,φ,h,hr⟩
 | _=>intro lv K W T H σ φ a w hr h;simp[run] at hr
end
end Go.Proofs.YtedfbafngmicpaaGreat.Sx
end
section
/- The symbolic run is sound: functions; what is left of a call's chunks. No program in sight. -/
namespace Go.Proofs.YtedfbafngmicpaaGreat.Sx
open Go

section
variable {C:Ctx}
variable {W:List Nat} {B:Base C} {T:List SV} {H:List (Chunk C)} {σ:Nat->Value} {φ:Nat->Nat->Prop} {a:Act} {w:World} {o:Oper} {A:Ann C}

def resRun (tmps:Array Value):ResultVar->Sem Value
 | .tmp t=>pure (tmps.getD t undef)
 | .cell x t=>do loadVar t (← asAddr (tmps.getD x undef))
theorem results_eq (fn:Func)(tmps:Array Value):results fn tmps=(do
  let vs ← fn.results.mapM (resRun tmps)
  pure (if h:vs.size=1 then vs[0] else .tuple vs)):=by
 unfold results
 congr 1

theorem resS_sound (h:Pre C T H σ φ a w):∀ (rs:List ResultVar) {l:List SV},resS C T H rs=some l->∃ vs,Rels (SV.rel σ) l vs/\(∀ s∈l,∀ m∈s.names,m<H.length) ∧
  (rs.mapM (m:=Sem) (resRun a.tmps)).run C.P w = .ok vs w:=by
 intro rs
 induction rs with
 | nil=>intro l hl;simp[resS] at hl;subst hl;exact⟨[],Rels.nil,by simp,by simp⟩
 | cons r rs ih =>
  intro l hl
  cases r with
  | tmp t =>
   simp only[resS,Option.map_eq_some_iff] at hl
   obtain⟨l',h1,rfl⟩:=hl
   obtain⟨vs,h2,h3,h4⟩:=ih h1
   have hr:=h.rel (.tmp t)
   refine⟨a.tmps.getD t undef::vs,Rels.cons hr h2,fun s hs m hm=>?_,?_⟩
   ·rcases List.mem_cons.1 hs with rfl|hs
    ·exact h.nm (.tmp t) m hm
    ·exact h3 s hs m hm
   ·rw[List.mapM_cons,Sem.run_bind]
    simp only[resRun,Sem.run_pure,Result.andThen_ok,Sem.run_bind,h4]
  | cell x t =>
   simp only[resS] at hl
   split at hl<;>try (cases hl;done)
   rename_i s l' hs h1
   simp only[Option.some.injEq] at hl
   subst hl
   obtain⟨vs,h2,h3,h4⟩:=ih h1
   obtain⟨u,n,b,ad,_,e2,_,e4,e5,_,e7⟩:=loadS_sound h.ok h.sat (h.rel (.tmp x)) hs
   have e2':a.tmps.getD x undef = .pointer (some ad):=e2
   refine⟨u::vs,Rels.cons e4 h2,fun s' hs m hm=>?_,?_⟩
   ·rcases List.mem_cons.1 hs with rfl|hs
    ·exact e5 m hm
    ·exact h3 s' hs m hm
   ·have e8:(resRun a.tmps (.cell x t)).run C.P w = .ok u w:=by
     have:=e7 w rfl
     simp[resRun,e2',asAddr,this]
    rw[List.mapM_cons,Sem.run_bind,e8]
    simp only[Result.andThen_ok,Sem.run_bind,h4,Sem.run_pure]

theorem retS_sound (h:Pre C T H σ φ a w){fn:Func}{r:SV}(hr:retS C T H fn.results.toList=some r):∃ v,r.rel σ v/\(∀ m∈r.names,m<H.length)/\(results fn a.tmps).run C.P w = .ok v w:=by
 have key:∀ {l:List SV},resS C T H fn.results.toList=some l->∃ vs,Rels (SV.rel σ) l vs/\(∀ s∈l,∀ m∈s.names,m<H.length)/\(results fn a.tmps).run C.P w = .ok (if h:vs.toArray.size=1 then vs.toArray[0] else .tuple vs.toArray) w:=by
  intro l hl
  obtain⟨vs,h1,h2,h3⟩:=resS_sound h _ hl
  refine⟨vs,h1,h2,?_⟩
  rw[results_eq,Array.mapM_eq_mapM_toList]
  simp only[Sem.run_bind,Sem.run_map,h3,Result.andThen_ok,Sem.run_pure]
 unfold retS at hr
 split at hr
 ·rename_i s hs
  simp only[Option.some.injEq] at hr
  subst hr
  obtain⟨vs,h1,h2,h3⟩:=key hs
  match vs,h1,h3 with
  | [v],h1,h3=>exact⟨v,h1.2 0 _ _ rfl rfl,h2 s (by simp),by simpa using h3⟩
  | [],h1,_=>exact absurd h1.1 (by simp)
  | _::_::_,h1,_=>exact absurd h1.1 (by simp)
 ·rename_i l hne hl
  simp only[Option.map_eq_some_iff] at hr
  obtain⟨xs,hxs,rfl⟩:=hr
  obtain⟨vs,h1,h2,h3⟩:=key hl
  obtain⟨h4,h5⟩:=atsOf_rel hxs h1
  refine⟨.tuple vs.toArray,⟨vs,rfl,h4⟩,fun m hm=>?_,?_⟩
  ·obtain⟨x,hx,hm⟩:=List.mem_flatMap.1 hm
   exact h2 _ (h5 x hx) m hm
  ·have hlen:¬ vs.toArray.size=1:=fun e=>by
    rw[List.size_toArray,← h1.1] at e
    match l,e,hne with
    | [s],_,hne=>exact hne s rfl
   rw[dif_neg hlen] at h3
   exact h3
 ·cases hr

theorem initT_rel {args:List TV}{vs:List Value}{n:Nat}(h:Rels (TV.rel σ) args vs):Rels (SV.rel σ) (initT args n) (vs.toArray++Array.replicate (n-vs.toArray.size) undef).toList:=by
 simp only[Array.toList_append,initT]
 refine Rels.append ⟨by simpa using h.1,fun i x v hx hv=>?_⟩ ⟨by simp[h.1],fun i x v hx hv=>?_⟩
 ·rw[List.getElem?_map] at hx
  cases hi:args[i]? with
  | none=>rw[hi] at hx;cases hx
  | some y=>rw[hi] at hx;simp at hx hv;subst hx;exact h.2 i y v hi hv
 ·rw[List.getElem?_replicate] at hx
  split at hx
  ·simp at hx;subst hx;trivial
  ·cases hx

theorem call_of_vc (hC:C.OK)(hG:GOK C A.Γ){f:FuncId}{fn:Func}(hf:C.P.funcs[f]?=some fn){args:List TV}{Q:SV->List (Chunk C)->List Nat->Prop}(hv:vc C A fn args H Q):CallOK C f args H Q:=by
 intro σ φ w vs hs hr hn
 unfold vc at hv
 split at hv
 ·exact hv.elim
 ·rename_i c hc
  have hst:St C ⟨H,σ,φ,w⟩ [] (initT args fn.ntmps) H σ φ { tmps:=vs.toArray++Array.replicate (fn.ntmps-vs.toArray.size) undef,defers:=[] } w :=
   ⟨⟨hC,initT_rel hr,fun s hs m hm=>by
    rcases List.mem_append.1 hs with hs|hs
    ·obtain⟨x,hx,rfl⟩:=List.mem_map.1 hs
     exact hn x hx m hm
    ·rw[List.mem_replicate] at hs
     rw[hs.2] at hm
     simp[SV.names,TV.names,At.names] at hm,hs⟩,rfl,Adv.refl _ _,Nat.le_refl _,fun _ _ _=>rfl,fun _ _ h=>h,fun _ _ _=>⟨rfl,fun _=>Iff.rfl,fun _ _ _=>rfl⟩⟩
  have hrun:=run_sound (A:={ A with base:=H.length }) (B:=⟨H,σ,φ,w⟩) hC hG rfl c _ _ hv hst
  refine calls_of_wp hf hc (wp_mono hrun fun e a' w' hd=>?_)
  have fin:∀ {W:List Nat} {T':List SV} {H':List (Chunk C)} {σ':Nat->Value} {φ':Nat->Nat->Prop},St C ⟨H,σ,φ,w⟩ W T' H' σ' φ' a' w'->(match retS C T' H' fn.results.toList with|some r=>Q r H' W|none=>False) →
    a'.defers=[]/\∃ v,(results fn a'.tmps).run C.P w' = .ok v w'/\COk C H σ φ w Q (.returned v) w':=by
   intro W T' H' σ' φ' h hq
   refine⟨h.dfs,?_⟩
   split at hq
   ·rename_i r hret
    obtain⟨v,h1,h2,h3⟩:=retS_sound h.pre hret
    refine⟨v,h3,r,H',W,σ',φ',⟨h1,h2,h.pre.sat,h.adv,h.len,fun n hn ho=>?_,h.own,fun n hn ht=>(h.stand n hn ht).2⟩,hq⟩
    rcases ho with ho|ho
    ·exact h.agree n hn ho
    ·exact (h.stand n hn ho).1
   ·exact hq.elim
  cases e with
  | normal =>
   obtain⟨W,T',H',σ',φ',h,hq⟩:=hd
   exact fin h hq
  | ret =>
   obtain⟨W,T',H',σ',φ',h,hq⟩:=hd
   exact fin h hq
  | exit id =>
   obtain⟨W,T',H',σ',φ',h,hq⟩:=hd
   exact hq.elim
  | goto l=>exact hd.elim
  | panic ch=>exact hd.elim
  | outgrown=>exact hd.elim

end
end Go.Proofs.YtedfbafngmicpaaGreat.Sx
end
section
/- What a call leaves, in a form of its own; the rule of the frame. No program in sight. -/
namespace Go.Proofs.YtedfbafngmicpaaGreat.Sx
open Go

section
variable {C:Ctx}
variable {H H':List (Chunk C)} {σ σ':Nat->Value} {φ φ':Nat->Nat->Prop} {w w':World}

def dedup:List Nat->List Nat->List Nat
 | acc,[]=>acc
 | acc,n::l=>if acc.contains n then dedup acc l else dedup (acc++[n]) l

theorem dedup_spec:∀ (l acc:List Nat),acc.Nodup->(dedup acc l).Nodup/\(∃ x,dedup acc l=acc++x)/\∀ n,n∈dedup acc l->n∈acc∨n∈l:=by
 intro l
 induction l with
 | nil=>intro acc h;exact⟨h,⟨[],by simp[dedup]⟩,fun n hn=>.inl hn⟩
 | cons n l ih =>
  intro acc h
  simp only[dedup]
  split
  ·obtain⟨h1,h2,h3⟩:=ih acc h
   exact⟨h1,h2,fun m hm=>(h3 m hm).imp id fun h=>by simp[h]⟩
  ·rename_i hc
   have hc':n∉acc:=by simpa using hc
   obtain⟨h1,⟨x,h2⟩,h3⟩:=ih (acc++[n]) (by
    rw[List.nodup_append]
    exact⟨h,by simp,fun a ha b hb=>by simp at hb;subst hb;exact fun e=>hc' (e ▸ ha)⟩)
   refine⟨h1,⟨n::x,by simp[h2]⟩,fun m hm=>?_⟩
   rcases h3 m hm with h|h
   ·rcases List.mem_append.1 h with h|h
    ·exact .inl h
    ·exact .inr (by simp at h;simp[h])
   ·exact .inr (by simp[h])

def closeN (H:List (Chunk C)):Nat->List Nat->List Nat
 | 0,l=>l
 | d+1,l=>closeN H d (dedup l (l.flatMap (subNames H)))

theorem closeN_spec (hcl:∀ (n:Nat) (c:Chunk C),H[n]?=some c->∀ m∈c.names,m<H.length):∀ (d:Nat) (l:List Nat),l.Nodup->(∀ n∈l,n<H.length) →
  (closeN H d l).Nodup/\(∃ x,closeN H d l=l++x)/\∀ n∈closeN H d l,n<H.length:=by
 intro d
 induction d with
 | zero=>intro l h h';exact⟨h,⟨[],by simp[closeN]⟩,h'⟩
 | succ d ih =>
  intro l h h'
  obtain⟨h1,⟨x,h2⟩,h3⟩:=dedup_spec (l.flatMap (subNames H)) l h
  obtain⟨h4,⟨y,h5⟩,h6⟩:=ih _ h1 fun n hn=>by
   rcases h3 n hn with hn|hn
   ·exact h' n hn
   ·obtain⟨k,_,hk⟩:=List.mem_flatMap.1 hn
    unfold subNames at hk
    split at hk
    ·rename_i c hc;exact hcl k c hc n hk
    ·cases hk
  exact⟨h4,⟨x++y,by rw[closeN,h5,h2,List.append_assoc]⟩,h6⟩

def normN (n0:Nat)(r:SV)(H:List (Chunk C)):List Nat:=closeN H 6 (dedup (List.range n0) r.names)
def normW (n0:Nat)(ts:List Nat):List Nat:=(List.range n0).filter ts.contains
def normK (n0:Nat)(K:SV->List (Chunk C)->List Nat->Prop):SV->List (Chunk C)->List Nat->Prop:=fun r H ts =>
 K (r.ren (fun n=>idxOf n (normN n0 r H))) (pickH (normN n0 r H) H) (normW n0 ts)

theorem normN_spec (hcl:∀ (n:Nat) (c:Chunk C),H[n]?=some c->∀ m∈c.names,m<H.length){n0:Nat}(h0:n0<=H.length){r:SV}(hr:∀ m∈r.names,m<H.length) :
  (normN n0 r H).Nodup/\(∃ x,normN n0 r H=List.range n0++x)/\∀ n∈normN n0 r H,n<H.length:=by
 obtain⟨h1,⟨x,h2⟩,h3⟩:=dedup_spec r.names (List.range n0) List.nodup_range
 obtain⟨h4,⟨y,h5⟩,h6⟩:=closeN_spec hcl 6 _ h1 fun n hn=>by
  rcases h3 n hn with hn|hn
  ·have:=List.mem_range.1 hn;omega
  ·exact hr n hn
 exact⟨h4,⟨x++y,by rw[normN,h5,h2,List.append_assoc]⟩,h6⟩

theorem COut.norm {ts:List Nat}{r:SV}{v:Value}(h:COut C H σ φ w ts r v H' σ' φ' w') :
  COut C H σ φ w (normW H.length ts) (r.ren (fun n=>idxOf n (normN H.length r H'))) v (pickH (normN H.length r H') H') (fun k=>σ' ((normN H.length r H').getD k 0))
   (fun k b=>k<(normN H.length r H').length/\φ' ((normN H.length r H').getD k 0) b) w':=by
 obtain⟨h1,⟨x,h2⟩,h3⟩:=normN_spec (H:=H') h.sat.cl h.len h.rcl
 generalize normN H.length r H'=τ at h1 h2 h3
 have hgd:∀ {k n:Nat},τ[k]?=some n->τ.getD k 0=n:=fun {k n} hk=>by simp[List.getD_eq_getElem?_getD,hk]
 have hρ:∀ n m,idxOf n τ=some m->σ' (τ.getD m 0)=σ' n:=fun n m hm=>by rw[hgd (idxOf_spec hm)]
 have hlow:∀ n,n<H.length->τ[n]?=some n:=fun n hn=>by rw[h2,List.getElem?_append_left (by simpa using hn),List.getElem?_range hn]
 have hrow:∀ n,n<H.length->(pickH τ H')[n]?=(H'[n]?).map (Chunk.ren fun n=>idxOf n τ):=fun n hn=>by
  unfold pickH
  rw[List.getElem?_map,hlow n hn,getD_some (d:=.gone) (Nat.lt_of_lt_of_le hn h.len)]
  rfl
 have hts:∀ n,n<H.length->n∉normW H.length ts->n∉ts:=fun n hn hnn hh=>hnn (by simp[normW,hn,hh])
 refine⟨SV.ren_rel hρ h.rel,fun m hm=>?_,h.sat.pick h1 h3,⟨h.adv.os,h.adv.tape,h.adv.output,h.adv.size,h.adv.fr,fun n b hb=>h.adv.grow _ b hb.2⟩,?_,fun n hn ho=>?_,fun n hn ho=>?_,fun n hn hnt=>⟨fun b=>?_,(h.touch n hn (hts n hn hnt)).2⟩⟩
 ·obtain⟨n,hn,e⟩:=SV.ren_names m hm
  simpa [pickH] using (List.getElem?_eq_some_iff.1 (idxOf_spec e)).1
 ·simp[pickH,h2]
 ·rw[hgd (hlow n hn)]
  exact h.agree n hn (ho.imp id (hts n hn))
 ·refine h.own n hn ?_
  rw[isOwn_ren (hrow n hn)] at ho
  exact ho
 ·rw[← (h.touch n hn (hts n hn hnt)).1 b]
  exact Rdb.same (by simp only[hgd (hlow n hn)]) (hrow n hn)

theorem CallOK.norm {f:FuncId}{args:List TV}{K:SV->List (Chunk C)->List Nat->Prop}(h:CallOK C f args H (normK H.length K)):CallOK C f args H K:=by
 intro σ φ w vs hs hr hn
 refine Calls.mono (h σ φ w vs hs hr hn) fun e w' hh=>?_
 cases e with
 | panicked ch=>exact hh.elim
 | outgrown=>exact hh.elim
 | returned v =>
  obtain⟨r,H',ts,σ',φ',hout,hK⟩:=hh
  exact⟨_,_,_,_,_,hout.norm,hK⟩
end
end Go.Proofs.YtedfbafngmicpaaGreat.Sx
end
section
/- The rule of the frame: what a function does with the chunks that it is handed, it does beside others. No program in sight. -/
namespace Go.Proofs.YtedfbafngmicpaaGreat.Sx
open Go

section
variable {C:Ctx}
variable {H H' H1:List (Chunk C)} {σ σ' σ1:Nat->Value} {φ φ' φ1:Nat->Nat->Prop} {w w':World}

def At.roots (own:Bool):At->List Nat
 | .ptr n _=>[n]
 | .fn _ cs=>cs
 | .slc n=>match own with
  | true=>[n]
  | false=>[]
 | _=>[]
def TV.roots (own:Bool):TV->List Nat
 | .at a=>a.roots own
 | .agg l=>l.flatMap (At.roots own)
def rootsA:List Bool->List TV->List Nat
 | _,[]=>[]
 | [],x::l=>x.roots false++rootsA [] l
 | m::ms,x::l=>x.roots m++rootsA ms l

def At.loc (own:Bool)(Tn:List Nat)(a:At)(Ln:List Nat):At × List Nat:=match own,a with
 | false,.slc n=>(.slc (Tn.length+Ln.length),Ln++[n])
 | false,.eptr n i sz off=>(.eptr (Tn.length+Ln.length) i sz off,Ln++[n])
 | _,a=>(a.ren (fun n=>idxOf n Tn),Ln)
def locAts (own:Bool)(Tn:List Nat):List At->List Nat->List At × List Nat
 | [],Ln=>([],Ln)
 | a::l,Ln=>let p:=a.loc own Tn Ln;let q:=locAts own Tn l p.2;(p.1::q.1,q.2)
def TV.loc (own:Bool)(Tn:List Nat)(x:TV)(Ln:List Nat):TV × List Nat:=match x with
 | .at a=>let p:=a.loc own Tn Ln;(.at p.1,p.2)
 | .agg l=>let p:=locAts own Tn l Ln;(.agg p.1,p.2)
def locTs (Tn:List Nat):List Bool->List TV->List Nat->List TV × List Nat
 | _,[],Ln=>([],Ln)
 | [],x::l,Ln=>let p:=x.loc false Tn Ln;let q:=locTs Tn [] l p.2;(p.1::q.1,q.2)
 | m::ms,x::l,Ln=>let p:=x.loc m Tn Ln;let q:=locTs Tn ms l p.2;(p.1::q.1,q.2)

def Chunk.lent {C:Ctx}:Chunk C->Chunk C
 | .row _ e l=>.row false e l
 | _=>.gone
def locH (Tn Ln:List Nat)(H:List (Chunk C)):List (Chunk C):=pickH Tn H++Ln.map fun n=>(H.getD n .gone).lent

def okLent (Tn Ln:List Nat)(H:List (Chunk C)):Bool:=Ln.all fun n=>!(isOwn H n) || !(Tn.contains n)
def isRow0:Chunk C->Bool
 | .row false _ _=>true
 | _=>false
def isRows:Chunk C->Bool
 | .rows _ _ _=>true
 | _=>false
def okOut (kt n0:Nat)(Hl H1:List (Chunk C))(ts:List Nat):Bool :=
 ((List.range kt).all fun k=>!(isRow0 (H1.getD k .gone)) || (isRow0 (Hl.getD k .gone) || (isOwn Hl k && !(ts.contains k)))) && ((H1.drop n0).all (fun c=>!(isRow0 c)) && H1.all fun c=>!(isRows c))

def backN (L:List Nat)(h0:Nat)(j:Nat):Option Nat:=match L[j]? with
 | some n=>some n
 | none=>some (h0+(j-L.length))
def killsH (ks:List Nat)(H:List (Chunk C)):List (Chunk C):=ks.foldl (fun H n=>H.map (Chunk.kill n)) H
def backH (Tn L ts:List Nat)(H H1:List (Chunk C)):List (Chunk C) :=
 ((List.range H.length).map fun n=>match idxOf n Tn with
  | some k=>(H1.getD k .gone).ren (backN L H.length)
  | none=>(killsH (ts.filter (isOwn H)) H).getD n .gone)++(H1.drop L.length).map (Chunk.ren (backN L H.length))

def frameT (ms:List Bool)(t:Tfm C):Tfm C:=fun args H K =>
 let Tn:=closeN H 6 (dedup [] (rootsA ms args))
 let p:=locTs Tn ms args []
 let L:=Tn++p.2
 let Hl:=locH Tn p.2 H
 if okLent Tn p.2 H then t p.1 Hl fun r H1 ts=>if okOut Tn.length L.length Hl H1 ts then K (r.ren (backN L H.length)) (backH Tn L (ts.filterMap (Tn[·]?)) H H1) (ts.filterMap (Tn[·]?)) else False else False

theorem killsH_length:∀ (ks:List Nat) {H:List (Chunk C)},(killsH ks H).length=H.length:=by
 intro ks
 induction ks with
 | nil=>intro H;rfl
 | cons k ks ih=>intro H;show (killsH ks (H.map (Chunk.kill k))).length=_;rw[ih];simp
theorem Sat.kills:∀ (ks:List Nat) {H:List (Chunk C)},Sat C σ φ w H->Sat C σ φ w (killsH ks H):=by
 intro ks
 induction ks with
 | nil=>intro H h;exact h
 | cons k ks ih=>intro H h;exact ih (h.kill k)
theorem killsH_get:∀ (ks:List Nat) {H:List (Chunk C)} {n:Nat} {c:Chunk C},(killsH ks H)[n]?=some c->∀ m∈c.names,m∉ks:=by
 intro ks
 induction ks with
 | nil=>intro H n c _ m _;simp
 | cons k ks ih =>
  intro H n c h m hm
  have h':(killsH ks (H.map (Chunk.kill k)))[n]?=some c:=h
  have h1:=ih h' m hm
  have aux:∀ (ks:List Nat) {H:List (Chunk C)} {c:Chunk C},(killsH ks H)[n]?=some c->∃ d,H[n]?=some d/\∀ m∈c.names,m∈d.names:=by
   intro ks
   induction ks with
   | nil=>intro H c h;exact⟨c,h,fun m hm=>hm⟩
   | cons k ks ih =>
    intro H c h
    have h':(killsH ks (H.map (Chunk.kill k)))[n]?=some c:=h
    obtain⟨d,hd,hm⟩:=ih h'
    rw[List.getElem?_map,Option.map_eq_some_iff] at hd
    obtain⟨d0,h0,rfl⟩:=hd
    exact⟨d0,h0,fun m hmm=>(Chunk.kill_names m (hm m hmm)).1⟩
  obtain⟨d,hd,hmd⟩:=aux ks h'
  rw[List.getElem?_map,Option.map_eq_some_iff] at hd
  obtain⟨d0,h0,rfl⟩:=hd
  simp only[List.mem_cons,not_or]
  exact⟨(Chunk.kill_names m (hmd m hm)).2,h1⟩
theorem killsH_own:∀ (ks:List Nat) {H:List (Chunk C)} {n:Nat},isOwn (killsH ks H) n=isOwn H n:=by
 intro ks
 induction ks with
 | nil=>intro H n;rfl
 | cons k ks ih=>intro H n;show isOwn (killsH ks (H.map (Chunk.kill k))) n=_;rw[ih,isOwn_kill]
theorem rdb_kill {n k b:Nat}:Rdb (H.map (Chunk.kill n)) σ k b↔Rdb H σ k b:=by
 unfold Rdb
 rw[List.getElem?_map]
 cases H[k]? with
 | none=>simp
 | some c=>cases c<;>simp[Chunk.kill]
theorem killsH_rdb:∀ (ks:List Nat) {H:List (Chunk C)} {n b:Nat},Rdb (killsH ks H) σ n b↔Rdb H σ n b:=by
 intro ks
 induction ks with
 | nil=>intro H n b;exact Iff.rfl
 | cons k ks ih=>intro H n b;show Rdb (killsH ks (H.map (Chunk.kill k))) σ n b↔_;rw[ih,rdb_kill]

theorem At.loc_spec {own:Bool}{Tn:List Nat}{a:At}{Ln:List Nat}:∃ x,(a.loc own Tn Ln).2=Ln++x/\(∀ n∈x,n∈a.names)/\(∀ m∈(a.loc own Tn Ln).1.names,m<(Tn++(a.loc own Tn Ln).2).length) ∧
  ∀ (σ σ':Nat->Value) (y:List Nat),(∀ k n,(Tn++(Ln++x++y))[k]?=some n->σ' k=σ n)->∀ v,a.rel σ v->(a.loc own Tn Ln).1.rel σ' v:=by
 have gen:∃ x,Ln=Ln++x/\(∀ n∈x,n∈a.names)/\(∀ m∈(a.ren (fun n=>idxOf n Tn)).names,m<(Tn++Ln).length) ∧
   ∀ (σ σ':Nat->Value) (y:List Nat),(∀ k n,(Tn++(Ln++x++y))[k]?=some n->σ' k=σ n)->∀ v,a.rel σ v->(a.ren (fun n=>idxOf n Tn)).rel σ' v:=by
  refine⟨[],by simp,by simp,fun m hm=>?_,fun σ σ' y hσ v hv=>At.ren_rel (fun n m hm=>hσ m n ?_) hv⟩
  ·obtain⟨n,_,e⟩:=At.ren_names m hm
   have:=(List.getElem?_eq_some_iff.1 (idxOf_spec e)).1
   simp;omega
  ·have:=idxOf_spec hm
   rw[List.getElem?_append_left (List.getElem?_eq_some_iff.1 this).1]
   exact this
 have hlast:∀ (n:Nat) (y:List Nat),(Tn++(Ln++[n]++y))[Tn.length+Ln.length]?=some n:=fun n y=>by
  rw[List.getElem?_append_right (by omega),List.append_assoc,List.getElem?_append_right (by omega)]
  simp
 cases own with
 | true=>cases a<;>exact gen
 | false =>
  cases a with
  | slc n =>
   exact⟨[n],rfl,fun m hm=>hm,fun m hm=>by simp[At.loc,At.names] at hm ⊢;omega,fun σ σ' y hσ v hv=>by
    show v=σ' (Tn.length+Ln.length)
    rw[hσ _ _ (hlast n y)];exact hv⟩
  | eptr n i sz off =>
   exact⟨[n],rfl,fun m hm=>hm,fun m hm=>by simp[At.loc,At.names] at hm ⊢;omega,fun σ σ' y hσ v hv=>by
    obtain⟨b,o,len,cap,h1,h2⟩:=hv
    exact⟨b,o,len,cap,(hσ _ _ (hlast n y)).trans h1,h2⟩⟩
  | _=>exact gen

theorem locAts_spec {own:Bool}{Tn:List Nat}:∀ (l:List At) (Ln:List Nat),∃ x,(locAts own Tn l Ln).2=Ln++x/\(∀ n∈x,n∈l.flatMap At.names)/\(∀ m∈(locAts own Tn l Ln).1.flatMap At.names,m<(Tn++(locAts own Tn l Ln).2).length) ∧
  ∀ (σ σ':Nat->Value) (y:List Nat),(∀ k n,(Tn++(Ln++x++y))[k]?=some n->σ' k=σ n)->∀ vs,Rels (At.rel σ) l vs->Rels (At.rel σ') (locAts own Tn l Ln).1 vs:=by
 intro l
 induction l with
 | nil=>intro Ln;exact⟨[],by simp[locAts],by simp,by simp[locAts],fun σ σ' y _ vs h=>⟨h.1,fun i a b ha=>by simp[locAts] at ha⟩⟩
 | cons a l ih =>
  intro Ln
  obtain⟨x,h1,h2,h3,h4⟩:=At.loc_spec (own:=own) (Tn:=Tn) (a:=a) (Ln:=Ln)
  obtain⟨x',h1',h2',h3',h4'⟩:=ih (a.loc own Tn Ln).2
  refine⟨x++x',h1'.trans (by rw[h1,List.append_assoc]),fun n hn=>?_,fun m hm=>?_,fun σ σ' y hσ vs hr=>?_⟩
  ·rw[List.flatMap_cons]
   rcases List.mem_append.1 hn with hn|hn
   ·exact List.mem_append_left _ (h2 n hn)
   ·exact List.mem_append_right _ (h2' n hn)
  ·simp only[locAts,List.flatMap_cons] at hm ⊢
   rcases List.mem_append.1 hm with hm|hm
   ·have:=h3 m hm
    rw[h1']
    simp only[List.length_append] at this ⊢
    omega
   ·exact h3' m hm
  ·match vs,hr with
   | [],hr=>exact absurd hr.1 (by simp)
   | v::vs,hr =>
    refine Rels.cons (h4 σ σ' (x'++y) (fun k n hk=>hσ k n (by simpa [List.append_assoc] using hk)) v (hr.2 0 a v rfl rfl)) ?_
    exact h4' σ σ' y (fun k n hk=>hσ k n (by rw[h1] at hk;simpa [List.append_assoc] using hk)) vs ⟨by simpa using hr.1,fun i b u hb hu=>hr.2 (i+1) b u (by simpa using hb) (by simpa using hu)⟩

theorem TV.loc_spec {own:Bool}{Tn:List Nat}(x:TV)(Ln:List Nat):∃ z,(x.loc own Tn Ln).2=Ln++z/\(∀ n∈z,n∈x.names)/\(∀ m∈(x.loc own Tn Ln).1.names,m<(Tn++(x.loc own Tn Ln).2).length) ∧
  ∀ (σ σ':Nat->Value) (y:List Nat),(∀ k n,(Tn++(Ln++z++y))[k]?=some n->σ' k=σ n)->∀ v,x.rel σ v->(x.loc own Tn Ln).1.rel σ' v:=by
 cases x with
 | «at» a=>exact At.loc_spec
 | agg l =>
  obtain⟨z,h1,h2,h3,h4⟩:=locAts_spec (own:=own) (Tn:=Tn) l Ln
  exact⟨z,h1,h2,h3,fun σ σ' y hσ v ⟨cs,e,hr⟩=>⟨cs,e,h4 σ σ' y hσ cs hr⟩⟩

theorem locTs_cons {Tn:List Nat}(ms:List Bool)(x:TV)(l:List TV)(Ln:List Nat):∃ m ms',locTs Tn ms (x::l) Ln=((x.loc m Tn Ln).1::(locTs Tn ms' l (x.loc m Tn Ln).2).1,(locTs Tn ms' l (x.loc m Tn Ln).2).2):=by
 cases ms with
 | nil=>exact⟨false,[],rfl⟩
 | cons m ms=>exact⟨m,ms,rfl⟩

theorem locTs_spec {Tn:List Nat}:∀ (l:List TV) (ms:List Bool) (Ln:List Nat),∃ x,(locTs Tn ms l Ln).2=Ln++x/\(∀ n∈x,∃ a∈l,n∈a.names)/\(∀ a∈(locTs Tn ms l Ln).1,∀ m∈a.names,m<(Tn++(locTs Tn ms l Ln).2).length) ∧
  ∀ (σ σ':Nat->Value) (y:List Nat),(∀ k n,(Tn++(Ln++x++y))[k]?=some n->σ' k=σ n)->∀ vs,Rels (TV.rel σ) l vs->Rels (TV.rel σ') (locTs Tn ms l Ln).1 vs:=by
 intro l
 induction l with
 | nil=>intro ms Ln;exact⟨[],by cases ms<;>simp[locTs],by simp,by cases ms<;>simp[locTs],fun σ σ' y _ vs h=>⟨by cases ms<;>simpa [locTs] using h.1,fun i a b ha=>by cases ms<;>simp[locTs] at ha⟩⟩
 | cons a l ih =>
  intro ms Ln
  obtain⟨m,ms',e⟩:=locTs_cons (Tn:=Tn) ms a l Ln
  rw[e]
  obtain⟨x,h1,h2,h3,h4⟩:=TV.loc_spec (own:=m) (Tn:=Tn) a Ln
  obtain⟨x',h1',h2',h3',h4'⟩:=ih ms' (a.loc m Tn Ln).2
  refine⟨x++x',h1'.trans (by rw[h1,List.append_assoc]),fun n hn=>?_,fun b hb k hk=>?_,fun σ σ' y hσ vs hr=>?_⟩
  ·rcases List.mem_append.1 hn with hn|hn
   ·exact⟨a,by simp,h2 n hn⟩
   ·obtain⟨b,hb,hbn⟩:=h2' n hn
    exact⟨b,by simp[hb],hbn⟩
  ·rcases List.mem_cons.1 hb with rfl|hb
   ·have:=h3 k hk
    simp only[h1']
    simp only[List.length_append] at this ⊢
    omega
   ·exact h3' b hb k hk
  ·match vs,hr with
   | [],hr=>exact absurd hr.1 (by simp)
   | v::vs,hr =>
    refine Rels.cons (h4 σ σ' (x'++y) (fun k n hk=>hσ k n (by simpa [List.append_assoc] using hk)) v (hr.2 0 a v rfl rfl)) ?_
    exact h4' σ σ' y (fun k n hk=>hσ k n (by rw[h1] at hk;simpa [List.append_assoc] using hk)) vs ⟨by simpa using hr.1,fun i b u hb hu=>hr.2 (i+1) b u (by simpa using hb) (by simpa using hu)⟩

theorem At.roots_names {own:Bool}{a:At}:∀ n∈a.roots own,n∈a.names:=by
 cases a<;>cases own<;>simp[At.roots,At.names]
theorem TV.roots_names {own:Bool}{x:TV}:∀ n∈x.roots own,n∈x.names:=by
 cases x with
 | «at» a=>exact At.roots_names
 | agg l =>
  intro n hn
  obtain⟨a,ha,h⟩:=List.mem_flatMap.1 hn
  exact List.mem_flatMap.2 ⟨a,ha,At.roots_names n h⟩
theorem rootsA_names:∀ (l:List TV) (ms:List Bool),∀ n∈rootsA ms l,∃ x∈l,n∈x.names:=by
 intro l
 induction l with
 | nil=>intro ms n hn;cases ms<;>simp[rootsA] at hn
 | cons x l ih =>
  intro ms n hn
  cases ms with
  | nil =>
   rcases List.mem_append.1 hn with hn|hn
   ·exact⟨x,by simp,TV.roots_names n hn⟩
   ·obtain⟨y,hy,h⟩:=ih _ n hn;exact⟨y,by simp[hy],h⟩
  | cons m ms =>
   rcases List.mem_append.1 hn with hn|hn
   ·exact⟨x,by simp,TV.roots_names n hn⟩
   ·obtain⟨y,hy,h⟩:=ih _ n hn;exact⟨y,by simp[hy],h⟩

theorem Sat.loc (hC:C.OK)(h:Sat C σ φ w H){Tn Ln:List Nat}(hnd:Tn.Nodup)(hT:∀ n∈Tn,n<H.length)(hL:∀ n∈Ln,n<H.length)(hok:okLent Tn Ln H=true) :
  Sat C (fun k=>σ ((Tn++Ln).getD k 0)) (fun k b=>k<Tn.length/\φ ((Tn++Ln).getD k 0) b) w (locH Tn Ln H):=by
 have hp:=h.pick hnd hT
 have hlen:(pickH Tn H).length=Tn.length:=by simp[pickH]
 have hgl:∀ k,k<Tn.length->(Tn++Ln).getD k 0=Tn.getD k 0:=fun k hk=>by simp[List.getD_eq_getElem?_getD,List.getElem?_append_left hk]
 have hgr:∀ {k n:Nat},Tn.length<=k->Ln[k-Tn.length]?=some n->(Tn++Ln).getD k 0=n:=fun {k n} hk hn=>by simp[List.getD_eq_getElem?_getD,List.getElem?_append_right hk,hn]
 have hφ:∀ k,(fun b=>k<Tn.length/\φ ((Tn++Ln).getD k 0) b)=fun b=>k<Tn.length/\φ (Tn.getD k 0) b:=fun k=>funext fun b=>propext ⟨fun hh=>⟨hh.1,by rw[← hgl k hh.1];exact hh.2⟩,fun hh=>⟨hh.1,by rw[hgl k hh.1];exact hh.2⟩⟩
 have hget:∀ {k:Nat} {c:Chunk C},Tn.length<=k->(locH Tn Ln H)[k]?=some c->∃ n c0,Ln[k-Tn.length]?=some n/\H[n]?=some c0/\c=c0.lent:=fun {k c} hk hc=>by
  unfold locH at hc
  rw[List.getElem?_append_right (by rw[hlen];exact hk),hlen,List.getElem?_map,Option.map_eq_some_iff] at hc
  obtain⟨n,hn,e⟩:=hc
  exact⟨n,_,hn,getD_some (hL n (List.mem_of_getElem? hn)),e.symm⟩
 have hgetl:∀ {k:Nat},k<Tn.length->(locH Tn Ln H)[k]?=(pickH Tn H)[k]?:=fun {k} hk=>by
  unfold locH
  rw[List.getElem?_append_left (by rw[hlen];exact hk)]
 refine⟨fun k c hc=>?_,fun k m b hk hm=>?_,fun k b hb=>h.bd _ b hb.2,fun k c hl b hb m hm=>?_,fun k hk b hb=>?_,fun k c hc m hm=>?_⟩
 ·rw[hφ k]
  rcases Nat.lt_or_ge k Tn.length with hk|hk
  ·rw[hgetl hk] at hc
   have hh:=hp.holds k c hc
   rw[hgl k hk]
   match c with
   | .gone=>trivial
   | .box cells =>
    obtain⟨b,t,cs,h1,h2,h3,h4⟩:=hh
    refine⟨b,t,cs,h1,h2,h3,h4.mono fun a v ha hr=>At.rel_of hr fun m hm=>?_⟩
    have:=hp.cl k _ hc m (List.mem_flatMap.2 ⟨a,ha,hm⟩)
    exact congrArg σ (hgl m (by rw[← hlen];exact this))
   | .row true e l=>exact hh
   | .row false e l=>exact hh
   | .abs x=>exact hh
   | .map kk vk l=>exact hh
   | .arr _ _=>exact hh
   | .rows _ _ _=>exact hh
  ·obtain⟨n,c0,h1,h2,rfl⟩:=hget hk hc
   have hh:=h.holds n c0 h2
   rw[hgr hk h1]
   have hno:∀ b,¬ (k<Tn.length/\φ (Tn.getD k 0) b):=fun b hb=>by omega
   match c0 with
   | .gone=>trivial
   | .box cells=>trivial
   | .row own e l=>exact⟨hh.rd hC,hno⟩
   | .abs x=>trivial
   | .map kk vk l=>trivial
   | .arr _ _=>trivial
   | .rows _ _ _=>trivial
 ·rw[hgl k hk.1] at hk
  rw[hgl m hm.1] at hm
  exact hp.dis k m b hk hm
 ·rw[hgl m hm.1] at hm
  rcases Nat.lt_or_ge k Tn.length with hk|hk
  ·rw[hgetl hk] at hl
   rw[hgl k hk] at hb
   exact hp.imm k c hl b hb m hm
  ·obtain⟨n,c0,h1,h2,rfl⟩:=hget hk hl
   rw[hgr hk h1] at hb
   match c0 with
   | .gone|.box _|.abs _|.map _ _ _|.rows _ _ _|.arr _ _=>exact hb.elim
   | .row own e' l' =>
    obtain⟨hpos,hb⟩:=hb
    cases own with
    | false=>exact h.immr n _ _ h2 hpos b hb _ hm.2
    | true =>
     have hh:=h.holds n _ h2
     have hn:φ n b:=(hh.2 b).2 hb
     have:=h.dis _ _ b hm.2 hn
     have hmem:n∈Tn:=by
      rw[← this]
      exact List.mem_of_getElem? (getD_some (d:=0) hm.1)
     have hok':=List.all_eq_true.1 hok n (List.mem_of_getElem? h1)
     simp[isOwn,h2,hmem] at hok'
 ·simp[locH,pickH] at hk
  have:=hb.1
  omega
 ·have hle:(locH Tn Ln H).length=Tn.length+Ln.length:=by simp[locH,pickH]
  rcases Nat.lt_or_ge k Tn.length with hk|hk
  ·rw[hgetl hk] at hc
   have:=hp.cl k c hc m hm
   rw[hlen] at this
   omega
  ·obtain⟨n,c0,h1,h2,rfl⟩:=hget hk hc
   cases c0<;>simp[Chunk.lent,Chunk.names] at hm
end
end Go.Proofs.YtedfbafngmicpaaGreat.Sx
end
section
/- The rule of the frame, end. No program in sight. -/
namespace Go.Proofs.YtedfbafngmicpaaGreat.Sx
open Go

section
variable {C:Ctx}
variable {H H' H1:List (Chunk C)} {σ σ' σ1:Nat->Value} {φ φ' φ1:Nat->Nat->Prop} {w w':World}

def backσ (Tn L:List Nat)(h0:Nat)(σ σ1:Nat->Value)(n:Nat):Value:=if n<h0 then (match idxOf n Tn with|some k=>σ1 k|none=>σ n) else σ1 (n-h0+L.length)
def backφ (Tn L:List Nat)(h0:Nat)(φ φ1:Nat->Nat->Prop)(n b:Nat):Prop:=if n<h0 then (match idxOf n Tn with|some k=>φ1 k b|none=>φ n b) else φ1 (n-h0+L.length) b

theorem locH_get {Tn Ln:List Nat}{k n:Nat}(hT:∀ n∈Tn,n<H.length)(h:Tn[k]?=some n):(locH Tn Ln H)[k]?=(H[n]?).map (Chunk.ren fun n=>idxOf n Tn):=by
 have hk:=(List.getElem?_eq_some_iff.1 h).1
 unfold locH
 rw[List.getElem?_append_left (by simpa [pickH] using hk)]
 unfold pickH
 rw[List.getElem?_map,h,getD_some (d:=.gone) (hT n (List.mem_of_getElem? h))]
 rfl
theorem frame_out (hC:C.OK)(h:Sat C σ φ w H){Tn Ln:List Nat}(hnd:Tn.Nodup)(hT:∀ n∈Tn,n<H.length)(hL:∀ n∈Ln,n<H.length)(hok:okLent Tn Ln H=true){ts:List Nat}{r:SV}{v:Value}(g:COut C (locH Tn Ln H) (fun k=>σ ((Tn++Ln).getD k 0)) (fun k b=>k<Tn.length/\φ ((Tn++Ln).getD k 0) b) w ts r v H1 σ1 φ1 w')(hoo:okOut Tn.length (Tn++Ln).length (locH Tn Ln H) H1 ts=true) :
  COut C H σ φ w (ts.filterMap (Tn[·]?)) (r.ren (backN (Tn++Ln) H.length)) v (backH Tn (Tn++Ln) (ts.filterMap (Tn[·]?)) H H1) (backσ Tn (Tn++Ln) H.length σ σ1) (backφ Tn (Tn++Ln) H.length φ φ1) w':=by
 have hl0:(locH Tn Ln H).length=(Tn++Ln).length:=by simp[locH,pickH]
 have hn0:(Tn++Ln).length<=H1.length:=hl0 ▸ g.len
 have htl:Tn.length<=(Tn++Ln).length:=by simp
 have hgl:∀ {k n:Nat},Tn[k]?=some n->(Tn++Ln).getD k 0=n:=fun {k n} hk=>by
  simp[List.getD_eq_getElem?_getD,List.getElem?_append_left (List.getElem?_eq_some_iff.1 hk).1,hk]
 have hts:∀ {k n:Nat},Tn[k]?=some n->n∉ts.filterMap (Tn[·]?)->k∉ts:=fun {k n} hk hn hh=>hn (List.mem_filterMap.2 ⟨k,hh,hk⟩)
 have hown:∀ {k n:Nat},Tn[k]?=some n->isOwn (locH Tn Ln H) k=isOwn H n:=fun {k n} hk=>isOwn_ren (locH_get hT hk)
 have hks:∀ {k n:Nat},Tn[k]?=some n->k<(locH Tn Ln H).length:=fun {k n} hk=>by
  have:=(List.getElem?_eq_some_iff.1 hk).1;omega
 have hsame:∀ {k n:Nat},Tn[k]?=some n->isOwn H n=false∨n∉ts.filterMap (Tn[·]?)->σ1 k=σ n:=fun {k n} hk ho=>by
  have:=g.agree k (hks hk) (ho.imp (fun e=>(hown hk).trans e) (hts hk))
  rw[this,hgl hk]
 have hblen:(backH Tn (Tn++Ln) (ts.filterMap (Tn[·]?)) H H1).length=H.length+(H1.length-(Tn++Ln).length):=by simp[backH]
 have hbin:∀ {n k:Nat},idxOf n Tn=some k->(backH Tn (Tn++Ln) (ts.filterMap (Tn[·]?)) H H1)[n]?=(H1[k]?).map (Chunk.ren (backN (Tn++Ln) H.length)):=fun {n k} hk=>by
  have hn:=hT n (List.mem_of_getElem? (idxOf_spec hk))
  have:=hks (idxOf_spec hk)
  unfold backH
  rw[List.getElem?_append_left (by simpa using hn),List.getElem?_map,List.getElem?_range hn]
  simp only[Option.map_some,hk]
  rw[getD_some (d:=.gone) (l:=H1) (i:=k) (by omega)]
  rfl
 have hbno:∀ {n:Nat},n<H.length->idxOf n Tn=none->(backH Tn (Tn++Ln) (ts.filterMap (Tn[·]?)) H H1)[n]?=(killsH ((ts.filterMap (Tn[·]?)).filter (isOwn H)) H)[n]?:=fun {n} hn hk=>by
  unfold backH
  rw[List.getElem?_append_left (by simpa using hn),List.getElem?_map,List.getElem?_range hn]
  simp only[Option.map_some,hk]
  rw[← getD_some (by rw[killsH_length];exact hn)]
 have hbnew:∀ {n:Nat},H.length<=n->(backH Tn (Tn++Ln) (ts.filterMap (Tn[·]?)) H H1)[n]?=(H1[n-H.length+(Tn++Ln).length]?).map (Chunk.ren (backN (Tn++Ln) H.length)):=fun {n} hn=>by
  unfold backH
  rw[List.getElem?_append_right (by simpa using hn),List.getElem?_map,List.getElem?_drop]
  simp only[List.length_map,List.length_range,Nat.add_comm]
 -- the source of a name that was handed over or is new
 have src:∀ n,(n∈Tn∨H.length<=n)->∃ k,backσ Tn (Tn++Ln) H.length σ σ1 n=σ1 k/\(∀ b,backφ Tn (Tn++Ln) H.length φ φ1 n b↔φ1 k b) ∧
   (backH Tn (Tn++Ln) (ts.filterMap (Tn[·]?)) H H1)[n]?=(H1[k]?).map (Chunk.ren (backN (Tn++Ln) H.length))/\((Tn[k]?=some n/\n<H.length)∨((Tn++Ln).length<=k/\n=H.length+(k-(Tn++Ln).length))):=by
  intro n hn
  by_cases hlt:n<H.length
  ·have hmem:n∈Tn:=hn.resolve_right (by omega)
   cases hi:idxOf n Tn with
   | none=>exact absurd hmem (idxOf_none hi)
   | some k=>exact⟨k,by simp[backσ,hlt,hi],fun b=>by simp[backφ,hlt,hi],hbin hi,.inl ⟨idxOf_spec hi,hlt⟩⟩
  ·exact⟨n-H.length+(Tn++Ln).length,by simp only[backσ,if_neg hlt],fun b=>by simp only[backφ,if_neg hlt],hbnew (by omega),.inr ⟨by omega,by omega⟩⟩
 have hno:∀ n,¬ (n∈Tn∨H.length<=n)->n<H.length/\idxOf n Tn=none:=fun n hn=>by
  have h1:n∉Tn:=fun e=>hn (.inl e)
  refine⟨by have:¬ H.length<=n:=fun e=>hn (.inr e);omega,?_⟩
  cases hi:idxOf n Tn with
  | none=>rfl
  | some k=>exact absurd (List.mem_of_getElem? (idxOf_spec hi)) h1
 have hρ:∀ j m,backN (Tn++Ln) H.length j=some m->backσ Tn (Tn++Ln) H.length σ σ1 m=σ1 j:=by
  intro j m hjm
  unfold backN at hjm
  split at hjm
  ·rename_i n hn
   simp only[Option.some.injEq] at hjm
   subst hjm
   rcases Nat.lt_or_ge j Tn.length with hj|hj
   ·rw[List.getElem?_append_left hj] at hn
    simp[backσ,hT n (List.mem_of_getElem? hn),idxOf_nodup hnd hn]
   ·have hjl:=(List.getElem?_eq_some_iff.1 hn).1
    have hn':=hn
    rw[List.getElem?_append_right hj] at hn
    have hnl:=hL n (List.mem_of_getElem? hn)
    have hlent:isOwn (locH Tn Ln H) j=false:=by
     unfold isOwn locH
     rw[List.getElem?_append_right (by simpa [pickH] using hj)]
     simp only[pickH,List.length_map,List.getElem?_map,hn,Option.map_some]
     cases H.getD n .gone<;>rfl
    have hj1:σ1 j=σ n:=by
     rw[g.agree j (by omega) (.inl hlent)]
     simp[List.getD_eq_getElem?_getD,hn']
    rw[hj1]
    unfold backσ
    rw[if_pos hnl]
    split
    ·rename_i k hk
     refine hsame (idxOf_spec hk) (.inl ?_)
     have:=List.all_eq_true.1 hok n (List.mem_of_getElem? hn)
     have hmem:=List.mem_of_getElem? (idxOf_spec hk)
     simpa [hmem] using this
    ·rfl
  ·rename_i hj
   simp only[Option.some.injEq] at hjm
   subst hjm
   have:(Tn++Ln).length<=j:=List.getElem?_eq_none_iff.1 hj
   unfold backσ
   rw[if_neg (by omega)]
   congr 1
   omega
 have hren:∀ j m,backN (Tn++Ln) H.length j=some m->j<H1.length->m<H.length+(H1.length-(Tn++Ln).length):=by
  intro j m hjm hj
  unfold backN at hjm
  split at hjm
  ·rename_i n hn
   simp only[Option.some.injEq] at hjm
   subst hjm
   rcases List.mem_append.1 (List.mem_of_getElem? hn) with hn|hn
   ·have:=hT n hn;omega
   ·have:=hL n hn;omega
  ·rename_i hj'
   simp only[Option.some.injEq] at hjm
   subst hjm
   have:(Tn++Ln).length<=j:=List.getElem?_eq_none_iff.1 hj'
   omega
 have hfrl:∀ b,b<w.heap.size->(∀ n,(n∈Tn∨H.length<=n)->¬ φ n b)->w'.heap[b]?=w.heap[b]?:=fun b hb hno=>g.adv.fr b hb fun k hk=>by
  have:=getD_some (d:=0) hk.1
  rw[hgl this] at hk
  exact hno _ (.inl (List.mem_of_getElem? this)) hk.2
 have hold':∀ n,¬ (n∈Tn∨H.length<=n)->backσ Tn (Tn++Ln) H.length σ σ1 n=σ n/\∀ b,backφ Tn (Tn++Ln) H.length φ φ1 n b↔φ n b:=fun n hn=>by
  obtain⟨h1,h2⟩:=hno n hn
  exact⟨by simp[backσ,h1,h2],fun b=>by simp[backφ,h1,h2]⟩
 have hgrow:∀ n b,(n∈Tn∨H.length<=n)->backφ Tn (Tn++Ln) H.length φ φ1 n b->(∃ m,(m∈Tn∨H.length<=m)/\φ m b)∨w.heap.size<=b:=fun n b hn hb=>by
  obtain⟨k,_,h2,_⟩:=src n hn
  rcases g.adv.grow k b ((h2 b).1 hb) with ⟨m,hm⟩|hle
  ·have:=getD_some (d:=0) hm.1
   rw[hgl this] at hm
   exact .inl ⟨_,.inl (List.mem_of_getElem? this),hm.2⟩
  ·exact .inr hle
 have hagree:∀ n,n<H.length->isOwn H n=false∨n∉ts.filterMap (Tn[·]?)->backσ Tn (Tn++Ln) H.length σ σ1 n=σ n:=fun n hn ho=>by
  unfold backσ
  rw[if_pos hn]
  split
  ·rename_i k hk;exact hsame (idxOf_spec hk) ho
  ·rfl
 obtain⟨hoo1,hoo23⟩:=Bool.and_eq_true_iff.1 hoo
 obtain⟨hoo2,hoo3⟩:=Bool.and_eq_true_iff.1 hoo23
 have hsat:Sat C (backσ Tn (Tn++Ln) H.length σ σ1) (backφ Tn (Tn++Ln) H.length φ φ1) w' (backH Tn (Tn++Ln) (ts.filterMap (Tn[·]?)) H H1):=by
  refine (h.kills ((ts.filterMap (Tn[·]?)).filter (isOwn H))).step hC (fun n=>n∈Tn∨H.length<=n) g.adv.size hfrl (fun n hn=>⟨hbno (hno n hn).1 (hno n hn).2,hold' n hn⟩) (fun n c hn hc m hm=>?_) (fun n c hn hc=>?_)
   hgrow (fun n m b hn hm hb hb'=>?_) (fun n b hn hb=>?_) (fun n c hn hc b hb m hm=>?_) (fun n hn b hb=>?_) (by rw[killsH_length,hblen];omega) (fun n c hn hc m hm=>?_)
  ·have hlt:=(h.kills ((ts.filterMap (Tn[·]?)).filter (isOwn H))).cl n c hc m hm
   rw[killsH_length] at hlt
   refine hagree m hlt ?_
   have:=killsH_get _ hc m hm
   rw[List.mem_filter] at this
   by_cases hm':m∈ts.filterMap (Tn[·]?)
   ·refine .inl ?_
    cases hx:isOwn H m with
    | false=>rfl
    | true=>exact absurd ⟨hm',hx⟩ this
   ·exact .inr hm'
  ·obtain⟨k,h1,h2,h3,_⟩:=src n hn
   rw[h3,Option.map_eq_some_iff] at hc
   obtain⟨c0,hc0,rfl⟩:=hc
   rw[h1,show backφ Tn (Tn++Ln) H.length φ φ1 n=φ1 k from funext fun b=>propext (h2 b)]
   exact (g.sat.holds k c0 hc0).ren hρ
  ·obtain⟨k,_,h2,_,h4⟩:=src n hn
   obtain⟨k',_,h2',_,h4'⟩:=src m hm
   have:=g.sat.dis k k' b ((h2 b).1 hb) ((h2' b).1 hb')
   subst this
   rcases h4 with ⟨h4,_⟩|⟨h4,h5⟩<;>rcases h4' with ⟨h4',_⟩|⟨h4',h5'⟩
   ·exact Option.some.inj (h4.symm.trans h4')
   ·have:=(List.getElem?_eq_some_iff.1 h4).1;omega
   ·have:=(List.getElem?_eq_some_iff.1 h4').1;omega
   ·omega
  ·obtain⟨k,_,h2,_⟩:=src n hn
   exact g.sat.bd k b ((h2 b).1 hb)
  ·obtain⟨k,h1,h2,h3,h4⟩:=src n hn
   rw[h3,Option.map_eq_some_iff] at hc
   obtain⟨c0,hc0,rfl⟩:=hc
   rw[h1] at hb
   have hb:=Ro.ren.1 hb
   match c0,hb with
   | .rows _ _ _,_ =>
    have:=List.all_eq_true.1 hoo3 _ (List.mem_of_getElem? hc0)
    simp[isRows] at this
   | .gone,hb|.box _,hb|.abs _,hb|.map _ _ _,hb|.arr _ _,hb|.row true _ _,hb=>exact hb.elim
   | .row false e l,hb =>
   obtain⟨hpos,hb⟩:=hb
   by_cases hmS:m∈Tn∨H.length<=m
   ·obtain⟨k',_,h2',_⟩:=src m hmS
    exact g.sat.immr k e l hc0 hpos b hb k' ((h2' b).1 hm)
   ·have hm2:=((hold' m hmS).2 b).1 hm
    rcases h4 with ⟨h4,hlt⟩|⟨h4,_⟩
    ·have hk:=(List.getElem?_eq_some_iff.1 h4).1
     have hkk:=List.all_eq_true.1 hoo1 k (List.mem_range.2 hk)
     have e1:isRow0 (H1.getD k .gone)=true:=by
      have:H1.getD k .gone = .row false e l:=by simp[List.getD_eq_getElem?_getD,hc0]
      rw[this];rfl
     rw[e1] at hkk
     simp only[Bool.not_true,Bool.false_or,Bool.or_eq_true,Bool.and_eq_true] at hkk
     have hHn:=getD_some (d:=.gone) hlt
     have hHl:=locH_get (Ln:=Ln) hT h4
     rw[hHn] at hHl
     have hgd:(locH Tn Ln H).getD k .gone=(H.getD n .gone).ren (fun n=>idxOf n Tn):=by
      rw[List.getD_eq_getElem?_getD,hHl];rfl
     rcases hkk with hkk|⟨hk1,hk2⟩
     ·rw[hgd] at hkk
      generalize H.getD n .gone=c at *
      match c,hkk,hHn with
      | .row false e' l',_,hHn =>
       have hnown:isOwn H n=false:=by simp[isOwn,hHn]
       have hσ:=hsame h4 (.inl hnown)
       rw[hσ] at hb
       refine h.immr n e' l' hHn ?_ b hb m hm2
       have i1:=(g.sat.holds k _ hc0).1
       have i2:=(h.holds n _ hHn).1
       obtain⟨A,c,e1,_⟩:=i1
       obtain⟨A',c',e2,_⟩:=i2
       rw[hσ,e2] at e1
       simp only[Value.slice.injEq] at e1
       omega
     ·have hk2':k∉ts:=by simpa using hk2
      rw[hown h4] at hk1
      have hφn:∀ b,φ n b↔(σ n).ownBlock=some b:=by
       rcases isOwn_some.1 hk1 with ⟨e',l',hHo⟩|⟨a',e',l',hHo⟩
       ·exact (h.holds n _ hHo).2
       ·exact (h.holds n _ hHo).2.2
      have hσ:σ1 k=σ n:=by
       rw[g.agree k (hks h4) (.inr hk2'),hgl h4]
      rw[hσ] at hb
      have:=(hφn b).2 hb
      have:=h.dis m n b hm2 this
      subst this
      exact hmS (.inl (List.mem_of_getElem? h4))
    ·have hmem:Chunk.row false e l∈H1.drop (Tn++Ln).length:=by
      refine List.mem_of_getElem? (i:=k-(Tn++Ln).length) ?_
      rw[List.getElem?_drop]
      rw[show (Tn++Ln).length+(k-(Tn++Ln).length)=k by omega]
      exact hc0
     have:=List.all_eq_true.1 hoo2 _ hmem
     simp[isRow0] at this
  ·rw[hblen] at hn
   unfold backφ at hb
   rw[if_neg (by omega)] at hb
   exact g.sat.out _ (by omega) b hb
  ·obtain⟨k,h1,h2,h3,h4⟩:=src n hn
   rw[h3,Option.map_eq_some_iff] at hc
   obtain⟨c0,hc0,rfl⟩:=hc
   obtain⟨j,hj,e⟩:=Chunk.ren_names m hm
   rw[hblen]
   exact hren j m e (g.sat.cl k c0 hc0 j hj)
 refine⟨SV.ren_rel hρ g.rel,fun m hm=>?_,hsat,⟨g.adv.os,g.adv.tape,g.adv.output,g.adv.size,fun k hk hn=>hfrl k hk fun n _=>hn n,fun n b hb=>?_⟩,by rw[hblen];omega,hagree,fun n hn ho=>?_,fun n hn hnt=>?_⟩
 ·obtain⟨j,hj,e⟩:=SV.ren_names m hm
  rw[hblen]
  exact hren j m e (g.rcl j hj)
 ·by_cases hS:n∈Tn∨H.length<=n
  ·rcases hgrow n b hS hb with ⟨m,_,hm⟩|hle
   ·exact .inl ⟨m,hm⟩
   ·exact .inr hle
  ·exact .inl ⟨n,((hold' n hS).2 b).1 hb⟩
 ·cases hi:idxOf n Tn with
  | some k =>
   rw[isOwn_ren (hbin hi)] at ho
   have:=g.own k (hks (idxOf_spec hi)) ho
   rw[hown (idxOf_spec hi)] at this
   exact this
  | none =>
   have:=hbno hn hi
   unfold isOwn at ho
   rw[this] at ho
   exact killsH_own ((ts.filterMap (Tn[·]?)).filter (isOwn H)) ▸ ho
 ·cases hi:idxOf n Tn with
  | some k =>
   obtain⟨h1,h2⟩:=g.touch k (hks (idxOf_spec hi)) (hts (idxOf_spec hi) hnt)
   have hl:∀ b,Rdb (locH Tn Ln H) (fun k=>σ ((Tn++Ln).getD k 0)) k b↔Rdb H σ n b:=fun b=>Rdb.same (by simp only[hgl (idxOf_spec hi)]) (locH_get hT (idxOf_spec hi))
   refine⟨fun b=>?_,fun b hb hlt=>h2 b ((hl b).2 hb) hlt⟩
   rw[← hl b,← h1 b]
   exact Rdb.same (by simp[backσ,hn,hi]) (hbin hi)
  | none =>
   have hS:¬ (n∈Tn∨H.length<=n):=fun hh=>by
    rcases hh with hh|hh
    ·exact idxOf_none hi hh
    ·omega
   refine⟨fun b=>?_,fun b hb hlt=>hfrl b hlt fun m hm hφ=>hS (by rw[rdb_apart h hb hφ];exact hm)⟩
   rw[← killsH_rdb ((ts.filterMap (Tn[·]?)).filter (isOwn H)) (σ:=σ)]
   unfold Rdb
   rw[hbno hn hi,(hold' n hS).1]

theorem frame (hC:C.OK){f:FuncId}{t:Tfm C}(ht:SoundT C f t)(ms:List Bool):SoundT C f (frameT ms t) where
 enter:=ht.enter
 call args H K hk:=by
  intro σ φ w vs hs hr hn
  unfold frameT at hk
  simp only at hk
  split at hk<;>try (exact hk.elim)
  rename_i hok
  obtain⟨d1,⟨_,_⟩,d3⟩:=dedup_spec (rootsA ms args) [] List.nodup_nil
  obtain⟨c1,_,c3⟩:=closeN_spec hs.cl 6 _ d1 fun n hn'=>by
   rcases d3 n hn' with h|h
   ·cases h
   ·obtain⟨x,hx,hxn⟩:=rootsA_names args ms n h
    exact hn x hx n hxn
  generalize closeN H 6 (dedup [] (rootsA ms args))=Tn at *
  obtain⟨x,l1,l2,l3,l4⟩:=locTs_spec (Tn:=Tn) args ms []
  have hx:(locTs Tn ms args []).2=x:=by simpa using l1
  rw[hx] at hk hok l3
  have hL:∀ n∈x,n<H.length:=fun n hnx=>by
   obtain⟨a,ha,han⟩:=l2 n hnx
   exact hn a ha n han
  have hsl:=hs.loc hC c1 c3 hL hok
  have hrl:=l4 σ (fun k=>σ ((Tn++x).getD k 0)) [] (fun k n hkn=>by
   have:(Tn++x)[k]?=some n:=by simpa using hkn
   simp[List.getD_eq_getElem?_getD,this]) vs hr
  refine Calls.mono (ht.call _ _ _ hk _ _ w vs hsl hrl fun a ha m hm=>?_) fun e w' hh=>?_
  ·have:=l3 a ha m hm
   simpa [locH,pickH] using this
  ·cases e with
   | panicked ch=>exact hh.elim
   | outgrown=>exact hh.elim
   | returned v =>
    obtain⟨r,H1,ts,σ1,φ1,hout,hK⟩:=hh
    split at hK<;>try (exact hK.elim)
    rename_i hoo
    exact⟨_,_,_,_,_,frame_out hC hs c1 c3 hL hok hout hoo,hK⟩
def RowB (H:List (Chunk C)):Prop:=∀ (n:Nat) own e l,H[n]?=some (.row own e l)->l.length<=maxLen

theorem CallOK.rowB (hC:C.OK){f:FuncId}{args:List TV}{K:SV->List (Chunk C)->List Nat->Prop}(h:RowB H->CallOK C f args H K):CallOK C f args H K:=by
 intro σ φ w vs hs hr hn
 refine h (fun n own e l hl=>?_) σ φ w vs hs hr hn
 obtain⟨A,c,_,hrd⟩:=(hs.holds n _ hl).rd hC
 exact Nat.le_trans hrd.cap hrd.max
end
end Go.Proofs.YtedfbafngmicpaaGreat.Sx
end
section
/- Plain laws of patches: what each function of the patch layer comes to, on lists. No program in sight. -/
namespace Go.Proofs.YtedfbafngmicpaaGreat

structure Chg where
 kind:Int
 key:Int
 old:Int
 new:Int
 deriving DecidableEq

def Chg.before (c:Chg):Option Int:=if c.kind=1 then none else some c.old
def Chg.after (c:Chg):Option Int:=if c.kind=2 then none else some c.new

def mkChg (k:Int)(x y:Option Int):Option Chg :=
 if x=y then none else match x,y with
  | none,none=>none
  | none,some v=>some ⟨1,k,0,v⟩
  | some u,none=>some ⟨2,k,u,0⟩
  | some u,some v=>some ⟨3,k,u,v⟩

def Chg.ok (c:Chg):Prop:=mkChg c.key c.before c.after=some c
instance (c:Chg):Decidable c.ok:=by unfold Chg.ok;infer_instance

theorem Chg.ok_ext {c d:Chg}(hc:c.ok)(hd:d.ok)(hk:c.key=d.key)(hb:c.before=d.before)(ha:c.after=d.after):c=d:=by
 unfold Chg.ok at hc hd
 rw[hk,hb,ha,hd] at hc
 exact (Option.some.inj hc).symm

def Val (p:List Chg):Prop:=Srt Chg.key p/\∀ c∈p,c.ok

/-! ### The patch between two lists -/
abbrev pEC:=pairs (Prod.fst:Ent->Int) Chg.key

theorem Val.ext {p q:List Chg}(hp:Val p)(hq:Val q)(h:∀ k,(fnd Chg.key p k).map (fun c=>(c.before,c.after))=(fnd Chg.key q k).map (fun c=>(c.before,c.after))):p=q:=by
 refine Srt.ext (key:=Chg.key) hp.1 hq.1 fun k=>?_
 have:=h k
 cases h1:fnd Chg.key p k with
 | none=>rw[h1] at this;cases h2:fnd Chg.key q k with
  | none=>rfl
  | some d=>rw[h2] at this;cases this
 | some c =>
  cases h2:fnd Chg.key q k with
  | none=>rw[h1,h2] at this;cases this
  | some d =>
   rw[h1,h2] at this
   simp at this
   rw[Chg.ok_ext (hp.2 c (fnd_mem h1)) (hq.2 d (fnd_mem h2)) ((fnd_key h1).trans (fnd_key h2).symm) this.1 this.2]

end Go.Proofs.YtedfbafngmicpaaGreat
end
section
/- The arena as plain data, and what its steps keep. No program in sight. -/
namespace Go.Proofs.YtedfbafngmicpaaGreat
open Go

structure NodeT where
 key:Int
 value:Int
 left:Int
 right:Int
 size:Int
 sum:Int
 min:Int
 max:Int
 deriving DecidableEq
def NodeT.zero:NodeT:=⟨0,0,0,0,0,0,0,0⟩
structure Arn where
 used:List Bool
 gen:List Int
 rel:List Int
 fresh:Int
 nodes:List NodeT
 counts:List Int
 reads:Int

theorem getD_set {α:Type}(l:List α)(i j:Nat)(x d:α):(l.set i x).getD j d=if i=j/\j<l.length then x else l.getD j d:=by
 simp only[List.getD_eq_getElem?_getD,List.getElem?_set]
 by_cases h:i=j
 ·subst h
  by_cases h2:i<l.length
  ·simp[h2]
  ·simp[h2]
 ·simp[h]
theorem countP_set' {α:Type}(p:α->Bool):∀ (l:List α) (i:Nat) (x d:α),i<l.length->(l.set i x).countP p+(if p (l.getD i d) then 1 else 0)=l.countP p+(if p x then 1 else 0):=by
 intro l
 induction l with
 | nil=>intro i x d h;simp at h
 | cons y t ih =>
  intro i x d h
  cases i with
  | zero=>simp[List.countP_cons];omega
  | succ i =>
   have:=ih i x d (by simpa using h)
   simp only[List.set_cons_succ,List.countP_cons,List.getD_cons_succ]
   omega

namespace Arn
def us (S:Arn)(i:Int):Bool:=S.used.getD i.toNat false
def nd (S:Arn)(i:Int):NodeT:=S.nodes.getD i.toNat NodeT.zero
def ct (S:Arn)(i:Int):Int:=S.counts.getD i.toNat 0
def gn (S:Arn)(i:Int):Int:=S.gen.getD i.toNat 0
def cap (S:Arn):Int:=S.used.length-1
def free (S:Arn):Int:=S.rel.length+S.cap-S.fresh
def nu (S:Arn):Nat:=S.used.countP id
def indeg (S:Arn)(i:Int):Nat:=S.nodes.countP (fun x=>x.left==i)+S.nodes.countP (fun x=>x.right==i)
end Arn
def maxSize:Int:=2147483647

def addK (n x:NodeT):NodeT:={ n with size:=IntKind.i64.wrap (n.size+x.size),sum:=IntKind.i64.wrap (n.sum+x.sum),min:=if x.min<n.min then x.min else n.min,max:=if n.max<x.max then x.max else n.max }
def addC (S:Arn)(n:NodeT)(c:Int):NodeT:=if c=0 then n else addK n (S.nd c)
def mkNode (S:Arn)(k v l r:Int):NodeT:=addC S (addC S ⟨k,v,l,r,1,v,v,v⟩ l) r

structure Wf (S:Arn) (hs:List Int):Prop where
 n1:2<=S.used.length
 n2:S.used.length<=65537
 ngen:S.gen.length=S.used.length
 nnod:S.nodes.length=S.used.length
 ncnt:S.counts.length=S.used.length
 fr:0<=S.fresh/\S.fresh<S.used.length
 rel:∀ i∈S.rel,1<=i/\i<=S.fresh
 dup:S.rel.Nodup
 use:∀ i:Int,S.us i=true↔1<=i/\i<=S.fresh/\i∉S.rel
 zero:∀ i:Int,S.us i=false->S.nd i=NodeT.zero
 kid:∀ i,S.us i=true->((S.nd i).left=0∨S.us (S.nd i).left=true)/\((S.nd i).right=0∨S.us (S.nd i).right=true)
 agg:∀ i,S.us i=true->S.nd i=mkNode S (S.nd i).key (S.nd i).value (S.nd i).left (S.nd i).right
 siz:∀ i,S.us i=true->1<=(S.nd i).size/\(S.nd i).size<=maxSize/\(S.nd i).size=1+(S.nd (S.nd i).left).size+(S.nd (S.nd i).right).size
 cnt:∀ i,S.us i=true->S.ct i=S.indeg i+hs.count i/\1<=S.ct i
 held:∀ i∈hs,i=0∨S.us i=true
 few:hs.length+2*S.nu<=2000000000
 nus:S.rel.length+S.nu=S.fresh.toNat
 rds:0<=S.reads/\S.reads<=4000000000000000000

variable {S:Arn} {hs:List Int}
theorem Wf.pos (h:Wf S hs){i:Int}(hi:S.us i=true):1<=i/\i<S.used.length/\i.toNat<S.used.length:=by
 have:=(h.use i).1 hi
 have:=h.fr
 omega
theorem Wf.us0 (h:Wf S hs){i:Int}(hi:i<=0):S.us i=false:=by
 cases hb:S.us i with
 | false=>rfl
 | true=>have:=(h.pos hb).1;omega
theorem Wf.nd0 (h:Wf S hs):S.nd 0=NodeT.zero:=h.zero 0 (h.us0 (Int.le_refl 0))
theorem Wf.size_nonneg (h:Wf S hs)(i:Int):0<=(S.nd i).size/\(S.nd i).size<=maxSize:=by
 cases hb:S.us i with
 | false=>rw[h.zero i hb];decide
 | true=>have:=h.siz i hb;omega

/-! ### Free slots -/
theorem Wf.nu_le (h:Wf S hs):S.nu<=65537:=by
 have:=List.countP_le_length (p:=id) (l:=S.used)
 have:=h.n2
 unfold Arn.nu;omega
theorem Wf.free_nonneg (h:Wf S hs):0<=S.free/\S.free<=65536/\(S.rel.length:Int)<=S.fresh/\S.free=S.cap-S.nu:=by
 have:=h.nus;have:=h.fr;have:=h.n2
 unfold Arn.free Arn.cap
 omega

/-! ### Reading -/
def rdS (S:Arn)(n:Nat):Arn:={ S with reads:=S.reads+n }
theorem Wf.rd (h:Wf S hs){n:Nat}(hn:S.reads+n<=4000000000000000000):Wf (rdS S n) hs :=
 { h with rds:=⟨by have:=h.rds;show 0<=S.reads+(n:Int);omega,hn⟩ }

/-! ### A further reference -/
def bump (l:List Int)(i:Int):List Int:=l.set i.toNat (IntKind.i64.wrap (l.getD i.toNat 0+1))
def retA (S:Arn)(i:Int):Arn:={ S with counts:=bump S.counts i }
def decS (S:Arn)(i:Int):Arn:={ S with counts:=S.counts.set i.toNat (IntKind.i64.wrap (S.ct i-1)) }
theorem bump_len (l:List Int)(i:Int):(bump l i).length=l.length:=by simp[bump]
theorem wrap_id {x:Int}(h1 : -9223372036854775808<=x)(h2:x<=9223372036854775807):IntKind.i64.wrap x=x:=by
 unfold IntKind.wrap
 simp[IntKind.signed,IntKind.bits]
 omega
theorem Wf.indeg_le (h:Wf S hs)(i:Int):S.indeg i<=131074:=by
 have h1:=List.countP_le_length (p:=fun x:NodeT=>x.left==i) (l:=S.nodes)
 have h2:=List.countP_le_length (p:=fun x:NodeT=>x.right==i) (l:=S.nodes)
 have:=h.nnod;have:=h.n2
 unfold Arn.indeg;omega
theorem Wf.ct_le (h:Wf S hs){i:Int}(hi:S.us i=true):1<=S.ct i/\S.ct i<=2000200000:=by
 have h1:=h.cnt i hi
 have h2:=h.indeg_le i
 have h3:=List.count_le_length (a:=i) (l:=hs)
 have:=h.few
 omega
theorem Wf.ret (h:Wf S hs){i:Int}(hi:S.us i=true)(hf:hs.length<1000000000):Wf (retA S i) (i::hs):=by
 have hp:=h.pos hi
 have hc:=h.ct_le hi
 refine { h with ncnt:=by show (bump S.counts i).length=_;rw[bump_len];exact h.ncnt,cnt:=fun j hj=>?_,held:=fun j hj=>?_,few:=by have:=h.nu_le;show (i::hs).length+2*S.nu<=_;simp;omega }
 ·have hj':S.us j=true:=hj
  have hpj:=h.pos hj'
  obtain⟨h1,h2⟩:=h.cnt j hj'
  have e:(retA S i).ct j=if i=j then S.ct j+1 else S.ct j:=by
   unfold retA Arn.ct bump
   simp only[]
   rw[getD_set]
   by_cases e:i=j
   ·subst e
    rw[if_pos ⟨rfl,by rw[h.ncnt];omega⟩,if_pos rfl]
    unfold Arn.ct at hc
    rw[wrap_id (by omega) (by omega)]
   ·rw[if_neg (by omega),if_neg e]
  have e2:(retA S i).indeg j=S.indeg j:=rfl
  rw[e,e2,List.count_cons]
  by_cases e3:i=j
  ·subst e3;simp;omega
  ·simp[e3];omega
 ·rcases List.mem_cons.1 hj with rfl|hj
  ·exact .inr hi
  ·exact h.held j hj
theorem Wf.dec {i:Int}(h:Wf S (i::hs))(hi:S.us i=true)(h1:1<S.ct i):Wf (decS S i) hs:=by
 have hp:=h.pos hi
 have hc:=h.ct_le hi
 refine { h with ncnt:=by show (S.counts.set _ _).length=_;rw[List.length_set];exact h.ncnt,cnt:=fun j hj=>?_,held:=fun j hj=>h.held j (List.mem_cons_of_mem _ hj),few:=by have:=h.few;show hs.length+2*S.nu<=_;simp at this;omega }
 have hj':S.us j=true:=hj
 have hpj:=h.pos hj'
 obtain⟨h3,h4⟩:=h.cnt j hj'
 have e:(decS S i).ct j=if i=j then S.ct j-1 else S.ct j:=by
  unfold decS Arn.ct
  simp only[]
  rw[getD_set]
  by_cases e:i=j
  ·subst e
   rw[if_pos ⟨rfl,by rw[h.ncnt];omega⟩,if_pos rfl]
   unfold Arn.ct at hc
   rw[wrap_id (by omega) (by omega)]
  ·rw[if_neg (by omega),if_neg e]
 have e2:(decS S i).indeg j=S.indeg j:=rfl
 rw[e,e2]
 rw[List.count_cons] at h3
 by_cases e3:i=j
 ·subst e3;simp at h3 ⊢;omega
 ·simp[e3] at h3 ⊢;omega
theorem Wf.perm {hs':List Int}(h:Wf S hs)(p:hs.Perm hs'):Wf S hs' :=
 { h with cnt:=fun i hi=>by rw[← p.count_eq];exact h.cnt i hi,held:=fun i hi=>h.held i (p.mem_iff.2 hi),few:=by rw[← p.length_eq];exact h.few }
theorem Wf.zero_cons (h:Wf S hs)(hl:hs.length<=1000000000):Wf S (0::hs):=by
 refine { h with cnt:=fun i hi=>?_,held:=fun i hi=>?_,few:=by have:=h.nu_le;simp;omega }
 ·have hp:=(h.pos hi).1
  rw[List.count_cons_of_ne (by omega)]
  exact h.cnt i hi
 ·rcases List.mem_cons.1 hi with rfl|hi
  ·exact .inl rfl
  ·exact h.held i hi
theorem Wf.of_zero (h:Wf S (0::hs)):Wf S hs:=by
 refine { h with cnt:=fun i hi=>?_,held:=fun i hi=>h.held i (List.mem_cons_of_mem _ hi),few:=by have:=h.few;simp at this;omega }
 have hp:=(h.pos hi).1
 have:=h.cnt i hi
 rw[List.count_cons_of_ne (by omega)] at this
 exact this

/-! ### Nodes -/
theorem addC_congr {S S':Arn}{n:NodeT}{c:Int}(h:c≠0->S'.nd c=S.nd c):addC S' n c=addC S n c:=by
 unfold addC
 by_cases hc:c=0
 ·rw[if_pos hc,if_pos hc]
 ·rw[if_neg hc,if_neg hc,h hc]
theorem mkNode_congr {S S':Arn}{k v l r:Int}(hl:l≠0->S'.nd l=S.nd l)(hr:r≠0->S'.nd r=S.nd r):mkNode S' k v l r=mkNode S k v l r:=by
 unfold mkNode
 rw[addC_congr hl,addC_congr hr]
theorem addC_flds (S:Arn)(n:NodeT)(c:Int):(addC S n c).key=n.key/\(addC S n c).value=n.value/\(addC S n c).left=n.left/\(addC S n c).right=n.right:=by
 unfold addC;split<;>exact⟨rfl,rfl,rfl,rfl⟩
theorem mkNode_flds (S:Arn)(k v l r:Int):(mkNode S k v l r).key=k/\(mkNode S k v l r).value=v/\(mkNode S k v l r).left=l/\(mkNode S k v l r).right=r:=by
 unfold mkNode
 obtain⟨h1,h2,h3,h4⟩:=addC_flds S (addC S ⟨k,v,l,r,1,v,v,v⟩ l) r
 obtain⟨g1,g2,g3,g4⟩:=addC_flds S ⟨k,v,l,r,1,v,v,v⟩ l
 exact⟨h1.trans g1,h2.trans g2,h3.trans g3,h4.trans g4⟩
theorem Wf.addC_size (h:Wf S hs){n:NodeT}(h1:0<=n.size/\n.size<=4294967296)(c:Int):(addC S n c).size=n.size+(S.nd c).size:=by
 unfold addC
 by_cases hc:c=0
 ·rw[if_pos hc,hc,h.nd0];simp[NodeT.zero]
 ·rw[if_neg hc]
  have:=h.size_nonneg c
  unfold maxSize at this
  show IntKind.i64.wrap (n.size+(S.nd c).size)=_
  rw[wrap_id (by omega) (by omega)]
theorem Wf.mkNode_size (h:Wf S hs)(k v l r:Int):(mkNode S k v l r).size=1+(S.nd l).size+(S.nd r).size:=by
 unfold mkNode
 have h1:=h.size_nonneg l
 unfold maxSize at h1
 have e:=h.addC_size (n:=⟨k,v,l,r,1,v,v,v⟩) ⟨by show (0:Int)<=1;decide,by show (1:Int)<=4294967296;decide⟩ l
 have e':(addC S ⟨k,v,l,r,1,v,v,v⟩ l).size=1+(S.nd l).size:=e
 rw[h.addC_size (by omega) r,e']

/-! ### A new node -/
def fresh3 (rl:List Int)(fr:Int):Int × List Int × Int:=if 0<rl.length then (rl.getD (rl.length-1) 0,rl.take (rl.length-1),fr) else (fr+1,rl,fr+1)
def freshS (S:Arn):Int × List Int × Int:=fresh3 S.rel S.fresh
def nxt (S:Arn):Int:=(freshS S).1
def makeS (S : Arn) (k v l r : Int) : Arn :=
  { used := S.used.set (nxt S).toNat true, gen := S.gen.set (nxt S).toNat (IntKind.u32.wrap (S.gn (nxt S) + 1)), rel := (freshS S).2.1, fresh := (freshS S).2.2,
    nodes := S.nodes.set (nxt S).toNat (mkNode S k v l r), counts := bump (bump (S.counts.set (nxt S).toNat 1) l) r, reads := S.reads }
theorem Wf.nxt_spec (h:Wf S hs)(hf:0<S.free):1<=nxt S/\nxt S<S.used.length/\S.us (nxt S)=false/\(0<=(freshS S).2.2/\(freshS S).2.2<S.used.length)/\(freshS S).2.1.Nodup ∧
  (∀ i∈(freshS S).2.1,1<=i/\i<=(freshS S).2.2)/\(∀ i,(i=nxt S∨S.us i=true)↔1<=i/\i<=(freshS S).2.2/\i∉(freshS S).2.1)/\(freshS S).2.1.length+(S.nu+1)=(freshS S).2.2.toNat:=by
 have hfr:=h.fr
 have hnus:=h.nus
 unfold nxt freshS fresh3
 by_cases hr:0<S.rel.length
 ·simp only[if_pos hr]
  obtain⟨q,x,hq⟩:∃ q x,S.rel=q++[x]:=⟨S.rel.dropLast,S.rel.getLast (by intro e;rw[e] at hr;simp at hr),(List.dropLast_concat_getLast _).symm⟩
  have e1:S.rel.getD (S.rel.length-1) 0=x:=by rw[hq];simp
  have e2:S.rel.take (S.rel.length-1)=q:=by rw[hq];simp
  have hd:=h.dup
  rw[hq] at hd hnus
  obtain⟨d1,_,d2⟩:=List.nodup_append.1 hd
  have hx:=h.rel x (by rw[hq];simp)
  have hu:S.us x=false:=by
   cases hb:S.us x with
   | false=>rfl
   | true=>exact absurd (by rw[hq];simp) ((h.use x).1 hb).2.2
  rw[e1,e2]
  refine⟨hx.1,by omega,hu,hfr,d1,fun i hi=>h.rel i (by rw[hq];simp[hi]),fun i=>?_,by simp at hnus;omega⟩
  rw[h.use i,hq]
  constructor
  ·rintro (rfl|⟨h1,h2,h3⟩)
   ·exact⟨hx.1,hx.2,fun hm=>d2 _ hm _ (by simp) rfl⟩
   ·exact⟨h1,h2,fun hm=>h3 (by simp[hm])⟩
  ·rintro ⟨h1,h2,h3⟩
   by_cases e:i=x
   ·exact .inl e
   ·exact .inr ⟨h1,h2,by simp[h3,e]⟩
 ·simp only[if_neg hr]
  have hr0:S.rel=[]:=List.length_eq_zero_iff.1 (by omega)
  unfold Arn.free Arn.cap at hf
  have hu:S.us (S.fresh+1)=false:=by
   cases hb:S.us (S.fresh+1) with
   | false=>rfl
   | true=>have:=((h.use _).1 hb).2.1;omega
  refine⟨by omega,by omega,hu,by omega,h.dup,fun i hi=>by have:=h.rel i hi;omega,fun i=>?_,by omega⟩
  rw[h.use i,hr0]
  simp
  omega
theorem make_us (h:Wf S hs)(hf:0<S.free){k v l r:Int}(i:Int):(makeS S k v l r).us i=true↔i=nxt S∨S.us i=true:=by
 obtain⟨h1,h2,h3,_⟩:=h.nxt_spec hf
 unfold Arn.us makeS
 simp only[]
 rw[getD_set]
 by_cases e:i=nxt S
 ·rw[if_pos ⟨by rw[e],by rw[e];omega⟩];simp[e]
 ·by_cases e2:(nxt S).toNat=i.toNat
  ·omega
  ·rw[if_neg (fun c=>e2 c.1)];simp[e]
theorem make_nd (h:Wf S hs)(hf:0<S.free){k v l r:Int}(i:Int):(makeS S k v l r).nd i=if i=nxt S then mkNode S k v l r else S.nd i:=by
 obtain⟨h1,h2,h3,_⟩:=h.nxt_spec hf
 have:=h.nnod
 unfold Arn.nd makeS
 simp only[]
 rw[getD_set]
 by_cases e:i=nxt S
 ·rw[if_pos ⟨by rw[e],by rw[e];omega⟩,if_pos e]
 ·rw[if_neg (by omega),if_neg e]
theorem bump_get {cs:List Int}{l j:Int}(hl:0<=l)(hj:0<=j)(hn:j.toNat<cs.length):(bump cs l).getD j.toNat 0=if l=j then IntKind.i64.wrap (cs.getD j.toNat 0+1) else cs.getD j.toNat 0:=by
 unfold bump
 rw[getD_set]
 by_cases e:l=j
 ·subst e;rw[if_pos ⟨rfl,hn⟩,if_pos rfl]
 ·rw[if_neg (by omega),if_neg e]
theorem Wf.ge0 (h:Wf S hs){i:Int}(hi:i=0∨S.us i=true):0<=i:=by
 rcases hi with rfl|hi
 ·exact Int.le_refl _
 ·have:=(h.pos hi).1;omega
theorem Wf.indeg_free (h:Wf S hs){i:Int}(h1:1<=i)(hu:S.us i=false):S.indeg i=0:=by
 have key:∀ n∈S.nodes,n.left≠i/\n.right≠i:=by
  intro n hn
  obtain⟨j,hj⟩:=List.mem_iff_getElem?.1 hn
  have e:S.nd (j:Int)=n:=by unfold Arn.nd;simp[List.getD_eq_getElem?_getD,hj]
  cases hb:S.us (j:Int) with
  | false =>
   have:=h.zero _ hb
   rw[e] at this
   rw[this]
   simp[NodeT.zero];omega
  | true =>
   have:=h.kid _ hb
   rw[e] at this
   refine⟨fun c=>?_,fun c=>?_⟩
   ·rcases this.1 with h2|h2
    ·omega
    ·rw[c,hu] at h2;cases h2
   ·rcases this.2 with h2|h2
    ·omega
    ·rw[c,hu] at h2;cases h2
 unfold Arn.indeg
 have e1:S.nodes.countP (fun x=>x.left==i)=0:=List.countP_eq_zero.2 fun n hn=>by have:=(key n hn).1;simpa using this
 have e2:S.nodes.countP (fun x=>x.right==i)=0:=List.countP_eq_zero.2 fun n hn=>by have:=(key n hn).2;simpa using this
 rw[e1,e2]
theorem make_indeg (h:Wf S hs)(hf:0<S.free){k v l r:Int}{i:Int}(hi:1<=i):(makeS S k v l r).indeg i=S.indeg i+(if l=i then 1 else 0)+(if r=i then 1 else 0):=by
 obtain⟨h1,h2,h3,_⟩:=h.nxt_spec hf
 have hn:=h.nnod
 have hz:S.nodes.getD (nxt S).toNat NodeT.zero=NodeT.zero:=h.zero _ h3
 obtain⟨_,_,m1,m2⟩:=mkNode_flds S k v l r
 have a1:=countP_set' (fun x:NodeT=>x.left==i) S.nodes (nxt S).toNat (mkNode S k v l r) NodeT.zero (by omega)
 have a2:=countP_set' (fun x:NodeT=>x.right==i) S.nodes (nxt S).toNat (mkNode S k v l r) NodeT.zero (by omega)
 rw[hz] at a1 a2
 simp only[m1,m2] at a1 a2
 have z1:¬ (NodeT.zero.left==i)=true:=by simp[NodeT.zero];omega
 have z2:¬ (NodeT.zero.right==i)=true:=by simp[NodeT.zero];omega
 rw[if_neg z1] at a1
 rw[if_neg z2] at a2
 unfold Arn.indeg makeS
 simp only[beq_iff_eq] at a1 a2 ⊢
 omega
theorem Wf.make (h : Wf S hs) {k v l r : Int} (hl : l = 0 ∨ S.us l = true) (hr : r = 0 ∨ S.us r = true) (hf : 0 < S.free) (hz : (mkNode S k v l r).size ≤ maxSize) (hs1 : hs.length ≤ 1000000000) :
    Wf (makeS S k v l r) (nxt S :: hs) := by
  obtain ⟨h1, h2, h3, h4, h5, h6, h7, h8⟩ := h.nxt_spec hf
  have ln : (makeS S k v l r).used.length = S.used.length := by simp [makeS]
  have hl0 := h.ge0 hl
  have hr0 := h.ge0 hr
  have l_ne : l ≠ 0 → l ≠ nxt S := fun e c => by rcases hl with hl | hl; exact e hl; rw [c, h3] at hl; cases hl
  have r_ne : r ≠ 0 → r ≠ nxt S := fun e c => by rcases hr with hr | hr; exact e hr; rw [c, h3] at hr; cases hr
  have hnu : (makeS S k v l r).nu = S.nu + 1 := by
    have a := countP_set' id S.used (nxt S).toNat true false (by omega)
    have : S.used.getD (nxt S).toNat false = false := h3
    rw [this] at a
    simp at a
    unfold Arn.nu makeS
    simp
    omega
  have hcong : ∀ c, (c = 0 ∨ S.us c = true) → c ≠ 0 → (makeS S k v l r).nd c = S.nd c := fun c hc hc0 => by
    rw [make_nd h hf, if_neg]
    rintro rfl
    rcases hc with hc | hc
    · exact hc0 hc
    · rw [h3] at hc; cases hc
  have nd0 : (makeS S k v l r).nd 0 = S.nd 0 := by rw [make_nd h hf, if_neg (by omega)]
  have ndk : ∀ c, (c = 0 ∨ S.us c = true) → (makeS S k v l r).nd c = S.nd c := fun c hc => by
    by_cases e : c = 0
    · rw [e]; exact nd0
    · exact hcong c hc e
  constructor
  case n1 => rw [ln]; exact h.n1
  case n2 => rw [ln]; exact h.n2
  case ngen => rw [ln]; simp [makeS, h.ngen]
  case nnod => rw [ln]; simp [makeS, h.nnod]
  case ncnt => rw [ln]; simp [makeS, bump_len, h.ncnt]
  case fr => rw [ln]; exact h4
  case rel => exact h6
  case dup => exact h5
  case use => intro i; rw [make_us h hf]; exact h7 i
  case zero =>
    intro i hi
    have hn : ¬ (i = nxt S ∨ S.us i = true) := fun c => by rw [(make_us h hf (k := k) (v := v) (l := l) (r := r) i).2 c] at hi; cases hi
    rw [make_nd h hf, if_neg fun c => hn (.inl c)]
    exact h.zero i (by cases hb : S.us i with | false => rfl | true => exact absurd (.inr hb) hn)
  case kid =>
    intro i hi
    rw [make_us h hf] at hi
    rw [make_nd h hf]
    by_cases e : i = nxt S
    · rw [if_pos e]
      obtain ⟨_, _, m1, m2⟩ := mkNode_flds S k v l r
      rw [m1, m2, make_us h hf, make_us h hf]
      exact ⟨hl.imp id .inr, hr.imp id .inr⟩
    · rw [if_neg e]
      have := h.kid i (hi.resolve_left e)
      rw [make_us h hf, make_us h hf]
      exact ⟨this.1.imp id .inr, this.2.imp id .inr⟩
  case agg =>
    intro i hi
    rw [make_us h hf] at hi
    rw [make_nd h hf]
    by_cases e : i = nxt S
    · rw [if_pos e]
      obtain ⟨m3, m4, m1, m2⟩ := mkNode_flds S k v l r
      rw [m1, m2, m3, m4]
      exact (mkNode_congr (hcong l hl) (hcong r hr)).symm
    · rw [if_neg e]
      have hk := h.kid i (hi.resolve_left e)
      rw [mkNode_congr (hcong _ hk.1) (hcong _ hk.2)]
      exact h.agg i (hi.resolve_left e)
  case siz =>
    intro i hi
    rw [make_us h hf] at hi
    rw [make_nd h hf]
    by_cases e : i = nxt S
    · rw [if_pos e]
      obtain ⟨_, _, m1, m2⟩ := mkNode_flds S k v l r
      rw [m1, m2, ndk l hl, ndk r hr, h.mkNode_size] at *
      have := h.size_nonneg l; have := h.size_nonneg r
      omega
    · rw [if_neg e]
      have hk := h.kid i (hi.resolve_left e)
      rw [ndk _ hk.1, ndk _ hk.2]
      exact h.siz i (hi.resolve_left e)
  case cnt =>
    intro i hi
    rw [make_us h hf] at hi
    have hi1 : 1 ≤ i ∧ i < S.used.length := by
      rcases hi with rfl | hi
      · exact ⟨h1, h2⟩
      · have := h.pos hi; omega
    have hnc := h.ncnt
    rw [make_indeg h hf hi1.1]
    have ec : (makeS S k v l r).ct i = (bump (bump (S.counts.set (nxt S).toNat 1) l) r).getD i.toNat 0 := rfl
    rw [ec, bump_get hr0 (by omega) (by rw [bump_len, List.length_set]; omega), bump_get hl0 (by omega) (by rw [List.length_set]; omega), getD_set]
    by_cases e : i = nxt S
    · have e1 : ¬ l = i := fun c => l_ne (by omega) (c.trans e)
      have e2 : ¬ r = i := fun c => r_ne (by omega) (c.trans e)
      have hc0 : hs.count i = 0 := List.count_eq_zero.2 fun hm => by
        rcases h.held i hm with hh | hh
        · omega
        · rw [e, h3] at hh; cases hh
      rw [if_neg e2, if_neg e1, if_pos ⟨by rw [e], by omega⟩, if_neg e1, if_neg e2, h.indeg_free hi1.1 (by rw [e]; exact h3), ← e, List.count_cons_self, hc0]
      simp
    · have hu := hi.resolve_left e
      obtain ⟨c1, c2⟩ := h.cnt i hu
      have c3 := h.ct_le hu
      rw [if_neg (by omega : ¬ ((nxt S).toNat = i.toNat ∧ i.toNat < S.counts.length)), List.count_cons_of_ne (fun c => e c.symm)]
      have e3 : S.counts.getD i.toNat 0 = S.ct i := rfl
      rw [e3]
      by_cases e1 : l = i <;> by_cases e2 : r = i
      · rw [if_pos e2, if_pos e1, if_pos e1, if_pos e2, wrap_id (x := S.ct i + 1) (by omega) (by omega), wrap_id (by omega) (by omega)]; omega
      · rw [if_neg e2, if_pos e1, if_pos e1, if_neg e2, wrap_id (by omega) (by omega)]; omega
      · rw [if_pos e2, if_neg e1, if_neg e1, if_pos e2, wrap_id (by omega) (by omega)]; omega
      · rw [if_neg e2, if_neg e1, if_neg e1, if_neg e2]; omega
  case held =>
    intro i hi
    rw [make_us h hf]
    rcases List.mem_cons.1 hi with rfl | hi
    · exact .inr (.inl rfl)
    · exact (h.held i hi).imp id .inr
  case few => rw [hnu]; have := h.nu_le; simp; omega
  case nus => rw [hnu]; exact h8
  case rds => exact h.rds

/-! ### A slot that becomes free -/
def nz (c:Int):List Int:=if c=0 then [] else [c]
def freeS (S:Arn)(k:Int):Arn:={ S with counts:=S.counts.set k.toNat (IntKind.i64.wrap (S.ct k-1)),nodes:=S.nodes.set k.toNat NodeT.zero,used:=S.used.set k.toNat false,rel:=S.rel++[k] }
theorem nz_count {c i:Int}(hi:1<=i):(nz c).count i=if c=i then 1 else 0:=by
 unfold nz
 by_cases hc:c=0
 ·rw[if_pos hc,if_neg (by omega)];rfl
 ·rw[if_neg hc]
  by_cases e:c=i
  ·subst e;simp
  ·simp[e]
theorem Wf.freed {k:Int}(h:Wf S (k::hs))(hk:S.us k=true)(hc:S.ct k=1):Wf (freeS S k) (nz (S.nd k).right++(nz (S.nd k).left++hs))/\(freeS S k).nu+1=S.nu ∧
  (∀ i,(freeS S k).us i=true↔i≠k/\S.us i=true)/\(∀ i,(freeS S k).nd i=if i=k then NodeT.zero else S.nd i):=by
 have hp:=h.pos hk
 have hnod:=h.nnod
 have hcnt:=h.ncnt
 obtain⟨hc1,_⟩:=h.cnt k hk
 rw[List.count_cons_self] at hc1
 have hin:S.indeg k=0:=by omega
 have hhk:hs.count k=0:=by omega
 have ln:(freeS S k).used.length=S.used.length:=by simp[freeS]
 have hus:∀ i,(freeS S k).us i=true↔i≠k/\S.us i=true:=by
  intro i
  unfold freeS Arn.us
  simp only[]
  rw[getD_set]
  by_cases e:i=k
  ·rw[if_pos ⟨by rw[e],by rw[e];exact hp.2.2⟩];simp[e]
  ·rw[if_neg (by omega)];simp[e]
 have hnd:∀ i,(freeS S k).nd i=if i=k then NodeT.zero else S.nd i:=by
  intro i
  unfold freeS Arn.nd
  simp only[]
  rw[getD_set]
  by_cases e:i=k
  ·rw[if_pos ⟨by rw[e],by rw[e];omega⟩,if_pos e]
  ·rw[if_neg (by omega),if_neg e]
 have hnu:(freeS S k).nu+1=S.nu:=by
  have a:=countP_set' id S.used k.toNat false false hp.2.2
  have:S.used.getD k.toNat false=true:=hk
  rw[this] at a
  simp at a
  unfold Arn.nu freeS
  simp
  omega
 have nok:∀ i,S.us i=true->(S.nd i).left≠k/\(S.nd i).right≠k:=by
  intro i hi
  have hpi:=h.pos hi
  have hm:S.nd i∈S.nodes:=by
   have:i.toNat<S.nodes.length:=by omega
   unfold Arn.nd
   rw[List.getD_eq_getElem?_getD,List.getElem?_eq_getElem this]
   exact List.getElem_mem this
  unfold Arn.indeg at hin
  have e1:S.nodes.countP (fun x=>x.left==k)=0:=by omega
  have e2:S.nodes.countP (fun x=>x.right==k)=0:=by omega
  exact⟨by simpa using List.countP_eq_zero.1 e1 _ hm,by simpa using List.countP_eq_zero.1 e2 _ hm⟩
 have ndk:∀ c,c≠k->(freeS S k).nd c=S.nd c:=fun c hc=>by rw[hnd,if_neg hc]
 refine⟨?_,hnu,hus,hnd⟩
 constructor
 case n1=>rw[ln];exact h.n1
 case n2=>rw[ln];exact h.n2
 case ngen=>rw[ln];exact h.ngen
 case nnod=>rw[ln];simp[freeS,h.nnod]
 case ncnt=>rw[ln];simp[freeS,h.ncnt]
 case fr=>rw[ln];exact h.fr
 case rel =>
  intro i hi
  rcases List.mem_append.1 hi with hi|hi
  ·exact h.rel i hi
  ·simp at hi;subst hi;have:=(h.use i).1 hk;exact⟨this.1,this.2.1⟩
 case dup =>
  refine List.nodup_append.2 ⟨h.dup,by simp,fun a ha b hb=>?_⟩
  simp at hb;subst hb
  rintro rfl
  exact ((h.use a).1 hk).2.2 ha
 case use =>
  intro i
  rw[hus,h.use i]
  show _↔1<=i/\i<=S.fresh/\i∉S.rel++[k]
  simp
  constructor
  ·rintro ⟨a,b,c,d⟩;exact⟨b,c,d,a⟩
  ·rintro ⟨b,c,d,a⟩;exact⟨a,b,c,d⟩
 case zero =>
  intro i hi
  rw[hnd]
  by_cases e:i=k
  ·rw[if_pos e]
  ·rw[if_neg e]
   refine h.zero i ?_
   cases hb:S.us i with
   | false=>rfl
   | true=>rw[(hus i).2 ⟨e,hb⟩] at hi;cases hi
 case kid =>
  intro i hi
  obtain⟨e,hu⟩:=(hus i).1 hi
  have hkd:=h.kid i hu
  have hn:=nok i hu
  rw[ndk i e,hus,hus]
  exact⟨hkd.1.imp id fun z=>⟨hn.1,z⟩,hkd.2.imp id fun z=>⟨hn.2,z⟩⟩
 case agg =>
  intro i hi
  obtain⟨e,hu⟩:=(hus i).1 hi
  have hn:=nok i hu
  rw[ndk i e,mkNode_congr (fun _=>ndk _ hn.1) (fun _=>ndk _ hn.2)]
  exact h.agg i hu
 case siz =>
  intro i hi
  obtain⟨e,hu⟩:=(hus i).1 hi
  have hn:=nok i hu
  rw[ndk i e,ndk _ hn.1,ndk _ hn.2]
  exact h.siz i hu
 case cnt =>
  intro i hi
  obtain⟨e,hu⟩:=(hus i).1 hi
  have hpi:=h.pos hu
  obtain⟨c1,c2⟩:=h.cnt i hu
  have ec:(freeS S k).ct i=S.ct i:=by
   unfold freeS Arn.ct
   simp only[]
   rw[getD_set,if_neg (by omega)]
  have a1:=countP_set' (fun x:NodeT=>x.left==i) S.nodes k.toNat NodeT.zero NodeT.zero (by omega)
  have a2:=countP_set' (fun x:NodeT=>x.right==i) S.nodes k.toNat NodeT.zero NodeT.zero (by omega)
  have ek:S.nodes.getD k.toNat NodeT.zero=S.nd k:=rfl
  have z1:¬ (NodeT.zero.left==i)=true:=by simp[NodeT.zero];omega
  have z2:¬ (NodeT.zero.right==i)=true:=by simp[NodeT.zero];omega
  rw[ek,if_neg z1] at a1
  rw[ek,if_neg z2] at a2
  have ei:(freeS S k).indeg i=(S.nodes.set k.toNat NodeT.zero).countP (fun x=>x.left==i)+(S.nodes.set k.toNat NodeT.zero).countP (fun x=>x.right==i):=rfl
  rw[List.count_cons_of_ne (fun c=>e c.symm)] at c1
  rw[ec,List.count_append,List.count_append,nz_count hpi.1,nz_count hpi.1,ei]
  unfold Arn.indeg at c1
  simp only[beq_iff_eq] at a1 a2 c1 ⊢
  omega
 case held =>
  intro i hi
  rw[hus]
  have hkd:=h.kid k hk
  have hn:=nok k hk
  rcases List.mem_append.1 hi with hi|hi
  ·unfold nz at hi
   split at hi
   ·simp at hi
   ·simp at hi;subst hi;exact hkd.2.imp id fun z=>⟨hn.2,z⟩
  ·rcases List.mem_append.1 hi with hj|hj
   ·unfold nz at hj
    split at hj
    ·simp at hj
    ·simp at hj;subst hj;exact hkd.1.imp id fun z=>⟨hn.1,z⟩
   ·refine (h.held i (List.mem_cons_of_mem _ hj)).imp id fun z=>⟨fun e=>?_,z⟩
    rw[e] at hj
    exact (List.count_eq_zero.1 hhk) hj
 case few =>
  have h1:=h.few
  have h2:∀ c,(nz c).length<=1:=fun c=>by unfold nz;split<;>simp
  have:=h2 (S.nd k).left;have:=h2 (S.nd k).right
  simp at h1 ⊢
  omega
 case nus =>
  have:=h.nus
  show (S.rel++[k]).length+(freeS S k).nu=_
  have e:(freeS S k).fresh=S.fresh:=rfl
  rw[e];simp;omega
 case rds=>exact h.rds
end Go.Proofs.YtedfbafngmicpaaGreat
end
