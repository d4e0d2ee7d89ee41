/- A part of the proof. -/
import Derived.Test.YtedfbafngmicpaaGreatG2
import Derived.Deep.LoopGhost
import Derived.LoopN
section
/- The symbolic run is sound: rows that grow or shrink in place; calls. No program in sight. -/
namespace Go.Proofs.YtedfbafngmicpaaGreat.Sx
open Go

section
variable {C:Ctx}
variable {T:List SV} {H:List (Chunk C)} {o:Oper} {σ:Nat->Value} {φ:Nat->Nat->Prop} {a:Act} {w:World} {ps:List Prop} {s:SV} {H':List (Chunk C)}
variable {K:EK C} {Γ:List (FuncId × Tfm C)} {trunc:Nat->Bool} {Q:Exit->Act->World->Prop}

theorem ren_gen (hC:C.OK) (h:Pre C T H σ φ a w) {σ1:Nat->Value} {φ1:Nat->Nat->Prop} {H1:List (Chunk C)} (g:Grows C σ φ H σ1 φ1 H1 w) {n:Nat} (hno':isOwn H1 n=true) {c':Chunk C} (hcn:c'.names=[])
  {w':World} {v':Value} {f':Nat->Prop} (dst:Option Nat) (hsz:w.heap.size<=w'.heap.size) (hos:w'.os=w.os) (htp:w'.tape=w.tape) (hop:w'.output=w.output) (hfr:∀ k,k < w.heap.size->¬ φ1 n k->w'.heap[k]?=w.heap[k]?)
  (hc:∀ σ',Holds w' σ' v' f' c') (hlt':∀ b,f' b->b < w'.heap.size) (himm':∀ b,Ro w' v' b c'->(∀ m,¬ φ1 m b)/\¬ f' b) (hgr:∀ b,f' b->φ1 n b ∨ w.heap.size<=b) :
  EOut C H σ φ a w [n] (setT (T.map (SV.kill n)) dst (.one (.at (.slc n)))) ((H1.map (Chunk.kill n)).set n c') (fun k=>if k=n then v' else σ1 k) (fun k=>if k=n then f' else φ1 k) (a.put dst v') w':=by
 have hn:n < H1.length:=by
  unfold isOwn at hno'
  split at hno'
  ·exact (List.getElem?_eq_some_iff.1 ‹_›).1
  ·exact (List.getElem?_eq_some_iff.1 ‹_›).1
  ·cases hno'
 have hnk:n < (H1.map (Chunk.kill n)).length:=by simpa using hn
 have hag:∀ k,k < H.length->k ≠ n->(if k=n then v' else σ1 k)=σ k:=fun k hk hne=>by rw [if_neg hne];exact g.agree k hk
 have hrow:∀ k,k ≠ n->((H1.map (Chunk.kill n)).set n c')[k]?=(H1[k]?).map (Chunk.kill n):=fun k hne=>by rw [List.getElem?_set_ne (Ne.symm hne),List.getElem?_map]
 refine ⟨put_rel (s:=.one (.at (.slc n))) ?_ (by show v'=_;simp) dst,fun x hx m hm=>?_,?_,⟨hos,htp,hop,hsz,fun k hk hno=>hfr k hk fun hh=>hno n (g.sub n k hh),fun k b hb=>?_⟩,by have:=g.len;simp;omega,put_defers _ _,fun k hk ho=>?_,fun k hk ho=>?_,fun k hk hkn=>?_,fun k hk hkn=>hag k hk (fun e'=>hkn (by simp [e']))⟩
 ·have h0:Rels (SV.rel σ) (T.map (SV.kill n)) a.tmps.toList:=rels_killS h.tm
  refine h0.mono fun x v hx hr=>SV.rel_of hr fun m hm=>?_
  obtain ⟨y,hy,rfl⟩:=List.mem_map.1 hx
  have:=SV.kill_names m hm
  exact hag m (h.tcl y hy m this.1) this.2
 ·have:=g.len
  rcases setT_mem hx with hx | rfl
  ·obtain ⟨y,hy,rfl⟩:=List.mem_map.1 hx
   have:=h.tcl y hy m (SV.kill_names m hm).1
   simp;omega
  ·simp [SV.names,TV.names,At.names] at hm
   subst hm
   simpa using hn
 ·refine (g.sat.kill n).step hC (fun k=>k=n) hsz (fun k hk hno=>hfr k hk (hno n rfl)) (fun k hk=>?_) (fun k c hk hc' m hm=>?_) (fun k c hk hc'=>?_) (fun k b hk hb=>?_) (fun k m b hk hm _ _=>hk.trans hm.symm) (fun k b hk hb=>?_)
   (fun k e' hk hc' b hb m hm=>?_) (fun k hk b hb=>?_) (by simp) (fun k c hk hc' m hm=>?_)
  ·have hne:¬ k=n:=hk
   exact ⟨by rw [List.getElem?_set_ne (Ne.symm hne)],by simp [hne],fun b=>by simp [hne]⟩
  ·rw [List.getElem?_map] at hc'
   cases hl:H1[k]? with
   | none=>rw [hl] at hc';cases hc'
   | some d =>
    rw [hl] at hc';simp at hc';subst hc'
    simp [(Chunk.kill_names m hm).2]
  ·have hk':k=n:=hk
   subst hk'
   rw [List.getElem?_set_self hnk] at hc'
   simp only [Option.some.injEq] at hc'
   subst hc'
   simp only [if_true]
   exact hc _
  ·have hk':k=n:=hk
   subst hk'
   simp only [if_true] at hb
   rcases hgr b hb with h1 | h1
   ·exact .inl ⟨k,rfl,h1⟩
   ·exact .inr h1
  ·have hk':k=n:=hk
   subst hk'
   simp only [if_true] at hb
   exact hlt' b hb
  ·have hk':k=n:=hk
   subst hk'
   rw [List.getElem?_set_self hnk] at hc'
   simp only [Option.some.injEq] at hc'
   subst hc'
   simp only [if_true] at hb
   by_cases e1:m=k
   ·subst e1;simp only [if_true] at hm;exact (himm' b hb).2 hm
   ·simp only [if_neg e1] at hm;exact (himm' b hb).1 m hm
  ·rw [List.length_set,List.length_map] at hk
   rw [if_neg (by omega)] at hb
   exact g.sat.out k hk b hb
  ·have hk':k=n:=hk
   subst hk'
   rw [List.getElem?_set_self hnk] at hc'
   simp only [Option.some.injEq] at hc'
   subst hc'
   rw [hcn] at hm;cases hm
 ·by_cases e':k=n
  ·subst e'
   simp only [if_true] at hb
   rcases hgr b hb with h1 | h1
   ·exact .inl ⟨k,g.sub k b h1⟩
   ·exact .inr h1
  ·simp only [if_neg e'] at hb
   exact .inl ⟨k,g.sub k b hb⟩
 ·refine hag k hk fun e'=>?_
  subst e'
  have:=g.own k hk hno'
  rw [this] at ho;cases ho
 ·by_cases e':k=n
  ·subst e';exact g.own k hk hno'
  ·refine g.own k hk ?_
   rw [isOwn,hrow k e'] at ho
   have:=isOwn_kill (H:=H1) (n:=n) (k:=k)
   rw [isOwn,List.getElem?_map] at this
   rw [← this];exact ho
 ·have hne:k ≠ n:=fun e'=>hkn (by simp [e'])
  refine ⟨fun b=>?_,fun b hb hlt=>hfr b hlt fun hφ=>hne (rdb_apart h.sat hb (g.sub n b hφ))⟩
  rw [← g.rdb k hk b]
  unfold Rdb
  rw [hrow k hne]
  simp only [if_neg hne]
  cases hl:H1[k]? with
  | none=>simp
  | some d=>cases d <;> simp [Chunk.kill]

theorem ren_sound (hC:C.OK) (h:Pre C T H σ φ a w) {σ1:Nat->Value} {φ1:Nat->Nat->Prop} {H1:List (Chunk C)} (g:Grows C σ φ H σ1 φ1 H1 w) {n:Nat} {e:C.EC} {l l':List (C.α e)} (hH:H1[n]?=some (.row true e l))
  {w':World} {v':Value} {f':Nat->Prop} (dst:Option Nat) (hsz:w.heap.size<=w'.heap.size) (hos:w'.os=w.os) (htp:w'.tape=w.tape) (hop:w'.output=w.output) (hfr:∀ k,k < w.heap.size->¬ φ1 n k->w'.heap[k]?=w.heap[k]?)
  (hc:ownR w' (C.tid e) (C.sz e) v' l'.length (flat C e l')) (hf:∀ b,f' b ↔ v'.ownBlock=some b) (hgr:∀ b,f' b->φ1 n b ∨ w.heap.size<=b) :
  EOut C H σ φ a w [n] (setT (T.map (SV.kill n)) dst (.one (.at (.slc n)))) ((H1.map (Chunk.kill n)).set n (.row true e l')) (fun k=>if k=n then v' else σ1 k) (fun k=>if k=n then f' else φ1 k) (a.put dst v') w' :=
 ren_gen hC h g (by simp [isOwn,hH]) (c':=.row true e l') rfl dst hsz hos htp hop hfr (fun _=>⟨hc,hf⟩) (fun b hb=>hc.lt b ((hf b).1 hb)) (fun b hb=>(Ro.own hb).elim) hgr

theorem e_trunc {t:TypeId} {x hi:Operand} (h:Pre C T H σ φ a w) (ho:o.op = .slice t x none (some hi) none) (he:effS C Γ trunc T H o K):o.wp C.P a w (After C H σ φ a w K) Q:=by
 have hx:=h.rel x
 simp only [effS,ho] at he
 split at he <;> try (exact he.elim)
 split at he <;> try (exact he.elim)
 rename_i n b hcx hb
 rw [hcx] at hx
 split at he <;> try (exact he.elim)
 rename_i e l hH
 split at he <;> try (exact he.elim)
 rename_i hec
 obtain ⟨h0,h1,hK⟩:=he
 have ex:a.eval x=σ n:=hx
 obtain ⟨k,hk⟩:=trueInt_val h hb
 obtain ⟨ti,z,hti,_,hsz,_⟩:=h.ok.info e
 obtain ⟨⟨q1,q2⟩,q3⟩:=h.sat.holds n _ hH
 have hfl:=flat_len h.ok e
 rcases q2 with ⟨q2,q4⟩ | ⟨g,cap,cur,fz,q2,hg,hfz,hnc,hcm,hcs,htk⟩
 ·have hb0:b=0:=by omega
  subst hb0
  have hrun:=run_sliceAt (P:=C.P) (A:=none) (len:=0) (cap:=0) (low:=none) (high:=some (.int k 0)) (i:=0) (j:=0) (isEC_spec h.ok hec) hti (.inl ⟨rfl,rfl⟩) (.inr ⟨k,rfl⟩) (by omega) (by omega) (by omega) w
  refine wp_value (v:=.slice none 0 0) (w':=w) (by (try simp at hrun);simp [execOp,ho,ex,q2,hk,hrun]) ⟨_,_,_,_,_,ren_sound h.ok h (Grows.refl h.sat) hH (l':=l.take (0:Int).toNat) (v':=.slice none 0 0) (f':=φ n) o.dst (Nat.le_refl _) rfl rfl rfl (fun _ _ _=>rfl) ?_ (fun b=>by rw [q3 b,q2]) (fun b hb=>.inl hb),hK⟩
  simpa [flat] using ownR.nil w (C.tid e) (C.sz e)
 ·have hrun:=run_sliceAt (P:=C.P) (A:=some ⟨g,0,none⟩) (len:=l.length) (cap:=cap) (low:=none) (high:=some (.int k b)) (i:=0) (j:=b) (isEC_spec h.ok hec) hti (.inl ⟨rfl,rfl⟩) (.inr ⟨k,rfl⟩) (by omega) h0 (by omega) w
  have hv:(Value.slice (if cap=(0:Int).toNat then some (⟨g,0,none⟩:Addr) else (some (⟨g,0,none⟩:Addr)).map (·.add ((0:Int).toNat * ti.size))) (b.toNat - (0:Int).toNat) (cap - (0:Int).toNat)) = .slice (some ⟨g,0,none⟩) b.toNat cap:=by
   simp [Addr.add]
  rw [hv] at hrun
  have hbl:(l.take b.toNat).length=b.toNat:=by simp;omega
  refine wp_value (v:=.slice (some ⟨g,0,none⟩) b.toNat cap) (w':=w) (by (try simp at hrun);simp [execOp,ho,ex,q2,hk,hrun]) ⟨_,_,_,_,_,ren_sound h.ok h (Grows.refl h.sat) hH (l':=l.take b.toNat) (v':=.slice (some ⟨g,0,none⟩) b.toNat cap) (f':=φ n) o.dst (Nat.le_refl _) rfl rfl rfl (fun _ _ _=>rfl) ?_ (fun b=>by rw [q3 b,q2];rfl) (fun b hb=>.inl hb),hK⟩
  refine ⟨hfl _,.inr ⟨g,cap,cur,fz,by rw [hbl],hg,hfz,by rw [hbl];omega,hcm,hcs,?_⟩⟩
  rw [hbl]
  have e1:flat C e l=flat C e (l.take b.toNat) ++ flat C e (l.drop b.toNat):=by
   unfold flat
   rw [← List.flatMap_append,List.take_append_drop]
  have e2:(cur.toList.take (l.length * C.sz e)).take (b.toNat * C.sz e)=cur.toList.take (b.toNat * C.sz e):=by
   rw [List.take_take,Nat.min_eq_left (Nat.mul_le_mul_right _ (by omega))]
  rw [← e2,htk,e1]
  apply List.take_left'
  rw [hfl,hbl]

theorem e_append {c:Call} {x y:Operand} {t:TypeId} (h:Pre C T H σ φ a w) (ho:o.op = .call c) (hcal:c.callee = .builtin .append) (hargs:c.args.toList=[x,y]) (hty:c.argTypes.toList=[t,t])
  {σ1:Nat->Value} {φ1:Nat->Nat->Prop} {H1:List (Chunk C)} (g:Grows C σ φ H σ1 φ1 H1 w) {n:Nat} {e:C.EC} {l:List (C.α e)} (hx:a.eval x=σ1 n) (hH:H1[n]?=some (.row true e l)) (hec:elemEC C t=some e)
  {A:Option Addr} {m cp:Nat} {ys:List (C.α e)} (hy:a.eval y = .slice A m cp) (hsrc:Rd (C.enc e) (C.sz e) w A m cp ys) (hb:A ≠ none->(l.length+ys.length) * bytesOf C e<=140737488355328)
  (hK:K [n] (setT (T.map (SV.kill n)) o.dst (.one (.at (.slc n)))) ((H1.map (Chunk.kill n)).set n (.row true e (l ++ ys)))):o.wp C.P a w (After C H σ φ a w K) Q:=by
 obtain ⟨i,z,hi,hz,hsz,hzc,hbp⟩:=h.ok.info e
 rw [bytesOf_spec hi] at hb
 obtain ⟨q1,q3⟩:=g.sat.holds n _ hH
 have hty':c.argTypes=#[t,t]:=Array.ext' (by simpa using hty)
 have hexec:∀ {v':Value} {w':World},(Builtin.append_ #[t,t] o.type #[σ1 n,.slice A m cp]).run C.P w = .ok v' w'->(execOp a.eval o).run C.P w = .ok (.value v') w':=by
  intro v' w' hr
  have e1:c.args.map a.eval=#[σ1 n,.slice A m cp]:=by rw [map_eval2 hargs,hx,hy]
  simp [execOp,ho,resolve,hcal,invoke,builtin,e1,hty',hr]
 have hm:=hsrc.len
 cases A with
 | none =>
  have hcp:=hsrc.nul rfl
  have hle:=hsrc.cap
  have hm0:m=0:=by omega
  have hys:ys=[]:=List.eq_nil_of_length_eq_zero (by omega)
  subst hys hm0 hcp
  have hr:=append_R_none (P:=C.P) (w:=w) t o.type (C.tid e) i (C.sz e) (elemEC_spec h.ok hec) hi (σ1 n) l.length _ q1
  refine wp_value (hexec hr) ⟨_,_,_,_,_,ren_sound h.ok h g hH (l':=l ++ []) (v':=σ1 n) (f':=φ1 n) o.dst (Nat.le_refl _) rfl rfl rfl (fun _ _ _=>rfl) (by simpa using q1) q3 (fun b hb=>.inl hb),hK⟩
 | some ad =>
  have hb:=hb (by simp)
  have hbm:l.length+ys.length<=140737488355328:=Nat.le_trans (Nat.le_mul_of_pos_right _ hbp) hb
  have hnews:∀ (j:Nat) (u:Value),(flat C e ys)[j]?=some u->w.cell? (ad.add j)=some u:=by
   intro j u hu
   have hj:j < (flat C e ys).length:=(List.getElem?_eq_some_iff.1 hu).1
   rw [flat_len h.ok] at hj
   have hp:=h.ok.pos e
   have hq:j / C.sz e < ys.length:=Nat.div_lt_of_lt_mul (by rw [Nat.mul_comm];exact hj)
   have hp0:0 < ys.length:=Nat.lt_of_le_of_lt (Nat.zero_le _) hq
   obtain ⟨b,o',e1,hlt,hc⟩:=hsrc.get (by omega)
   simp only [Option.some.injEq] at e1
   subst e1
   have hr:j % C.sz e < C.sz e:=Nat.mod_lt _ hp
   have hd:j=j / C.sz e * C.sz e+j % C.sz e:=by rw [Nat.mul_comm];exact (Nat.div_add_mod j (C.sz e)).symm
   rw [hd,flat_at h.ok (List.getElem?_eq_getElem hq) hr] at hu
   rw [Addr.add_lit,hd,← Nat.add_assoc]
   exact hc _ _ (List.getElem?_eq_getElem hq) _ u hu
  have hl:(flat C e ys).length=m * C.sz e:=by rw [flat_len h.ok,hm]
  have hbytes:(l.length+m) * i.bytes<=140737488355328:=by rw [hm];exact hb
  have h63:l.length+m<=maxLen:=by unfold maxLen;omega
  have hzs:z.cells.size=C.sz e:=by rw [← Array.length_toList,hzc,h.ok.len]
  obtain ⟨v',w',hr,hown,hgr,hblk⟩:=append_R (P:=C.P) (w:=w) t o.type (C.tid e) i z (C.sz e) i.bytes (elemEC_spec h.ok hec) hi hz hsz rfl hzs (h.ok.pos e) (σ1 n) l.length _ q1 ad m cp (flat C e ys) hl hnews (flat_one h.ok e ys) h63 hbytes
  refine wp_value (hexec hr) ⟨_,_,_,_,_,ren_sound h.ok h g hH (l':=l ++ ys) (v':=v') (f':=fun b=>v'.ownBlock=some b) o.dst hgr.size hgr.os hgr.tape hgr.output (fun k hk hno=>hgr.block k hk fun e'=>hno ((q3 k).2 e'.symm)) ?_ (fun b=>Iff.rfl) (fun b hb=>?_),hK⟩
  ·rw [List.length_append,← hm]
   have:flat C e (l ++ ys)=flat C e l ++ flat C e ys:=by simp [flat]
   rw [this];exact hown
  ·rcases hblk b hb with h1 | h1
   ·exact .inl ((q3 b).2 h1)
   ·exact .inr h1

theorem e_appendR {c:Call} {x y:Operand} {t:TypeId} (h:Pre C T H σ φ a w) (ho:o.op = .call c) (hcal:c.callee = .builtin .append) (hargs:c.args.toList=[x,y]) (hty:c.argTypes.toList=[t,t])
  {σ1:Nat->Value} {φ1:Nat->Nat->Prop} {H1:List (Chunk C)} (g:Grows C σ φ H σ1 φ1 H1 w) {n m:Nat} {hh h2 e:C.EC} {ll l2:List (List (C.α e))} (hx:a.eval x=σ1 n) (hH:H1[n]?=some (.rows hh e ll)) (hec:elemEC C t=some hh)
  (hy:a.eval y=σ1 m) (hHm:H1[m]?=some (.rows h2 e l2)) (hb:(ll.length+l2.length) * bytesOf C hh<=140737488355328)
  (hK:K [n] (setT (T.map (SV.kill n)) o.dst (.one (.at (.slc n)))) ((H1.map (Chunk.kill n)).set n (.rows hh e (ll ++ l2)))):o.wp C.P a w (After C H σ φ a w K) Q:=by
 obtain ⟨i,z,hi,hz,hsz,hzc,hbp⟩:=h.ok.info hh
 rw [bytesOf_spec hi] at hb
 obtain ⟨hz1,⟨vs,q1,qR⟩,q3⟩:=g.sat.holds n _ hH
 obtain ⟨_,⟨vs2,p1,pR⟩,_⟩:=g.sat.holds m _ hHm
 have hty':c.argTypes=#[t,t]:=Array.ext' (by simpa using hty)
 have hexec:∀ {v':Value} {w':World} {A:Option Addr} {k cp:Nat},σ1 m = .slice A k cp->(Builtin.append_ #[t,t] o.type #[σ1 n,.slice A k cp]).run C.P w = .ok v' w'->(execOp a.eval o).run C.P w = .ok (.value v') w':=by
  intro v' w' A k cp hs hr
  have e1:c.args.map a.eval=#[σ1 n,.slice A k cp]:=by rw [map_eval2 hargs,hx,hy,hs]
  simp [execOp,ho,resolve,hcal,invoke,builtin,e1,hty',hr]
 have hR:Rels (fun l u=>Imm C w u e l/\∀ b,0 < l.length->u.ownBlock=some b->∀ m,¬ φ1 m b) (ll ++ l2) (vs ++ vs2) :=
  Rels.append ⟨qR.1,fun i l u hl hu=>⟨qR.2 i l u hl hu,fun b hp hb=>g.sat.imm n _ hH b ⟨vs,q1,i,u,l,hu,hl,hp,hb⟩⟩⟩
   ⟨pR.1,fun i l u hl hu=>⟨pR.2 i l u hl hu,fun b hp hb=>g.sat.imm m _ hHm b ⟨vs2,p1,i,u,l,hu,hl,hp,hb⟩⟩⟩
 rcases p1.2 with ⟨ev,e0⟩ | ⟨gb,cap,cur,ev,_,hg,hnc,hcm,hcs,htk⟩
 ·have hl2:l2=[]:=List.eq_nil_of_length_eq_zero e0
  subst hl2
  have hr:=run_append_owned_none (P:=C.P) (w:=w) 0 t o.type (C.tid hh) i 1 (elemEC_spec h.ok hec) hi (σ1 n) ll.length _ q1
  have q1':w.ownsRow 0 (C.tid hh) 1 (σ1 n) (ll ++ []).length vs:=by simpa using q1
  refine wp_value (hexec ev hr) ⟨_,_,_,_,_,ren_gen h.ok h g (by simp [isOwn,hH]) (c':=.rows hh e (ll ++ [])) rfl (v':=σ1 n) (f':=φ1 n) o.dst (Nat.le_refl _) rfl rfl rfl (fun _ _ _=>rfl)
   (fun _=>⟨hz1,⟨vs,q1',by simpa using qR⟩,q3⟩) (fun b hb=>g.sat.bd n b hb) (fun b hb=>?_) (fun b hb=>.inl hb),hK⟩
  have hb':Ro w (σ1 n) b (.rows hh e ll):=by simpa using hb
  exact ⟨fun k=>g.sat.imm n _ hH b hb' k,g.sat.imm n _ hH b hb' n⟩
 ·have hs1:i.size=1:=hsz.trans hz1
  have hnews:∀ (j:Nat) (u:Value),vs2[j]?=some u->w.cell? ((⟨gb,0,none⟩:Addr).add j)=some u:=by
   intro j u hu
   rw [← htk,List.getElem?_take] at hu
   split at hu
   ·rw [Addr.add_lit,Nat.zero_add,cell_of_row w gb j cur _ (0,0) hg]
    simpa using hu
   ·cases hu
  have h1:∀ u ∈ vs2,u.oneCell'=true:=by
   intro u hu
   obtain ⟨k,hk,rfl⟩:=List.mem_iff_getElem.1 hu
   have hk2:k < l2.length:=by rw [pR.1];exact hk
   obtain ⟨A,cp,e1,_⟩:=pR.2 k _ _ (List.getElem?_eq_getElem hk2) (List.getElem?_eq_getElem hk)
   rw [e1];rfl
  have hzs:z.cells.size=1:=by rw [← Array.length_toList,hzc,h.ok.len,hz1]
  have hbm:ll.length+l2.length<=140737488355328:=Nat.le_trans (Nat.le_mul_of_pos_right _ hbp) hb
  have h63:ll.length+l2.length<=maxLen:=by unfold maxLen;omega
  obtain ⟨v',w',hr,hown,hgr,_⟩:=run_append_own (P:=C.P) w 0 t o.type (C.tid hh) i z 1 i.bytes (elemEC_spec h.ok hec) hi hz hs1 rfl hzs Nat.one_pos (σ1 n) ll.length _ q1 ⟨gb,0,none⟩ l2.length cap vs2 p1.1 hnews h1 h63 hb (Nat.zero_le _)
  have hblk:=append_block (P:=C.P) (elemEC_spec h.ok hec) hi hz hs1 rfl Nat.one_pos q1 p1.1 hnews h1 h63 hb hr
  have hown':w'.ownsRow 0 (C.tid hh) 1 v' (ll ++ l2).length (vs ++ vs2):=by rw [List.length_append];exact hown
  have hne:∀ b,(∀ k,¬ φ1 k b)->b < w.heap.size->w'.heap[b]?=w.heap[b]?:=fun b hb hlt=>hgr.block b hlt fun e'=>hb n ((q3 b).2 e'.symm)
  refine wp_value (hexec ev hr) ⟨_,_,_,_,_,ren_gen h.ok h g (by simp [isOwn,hH]) (c':=.rows hh e (ll ++ l2)) rfl (v':=v') (f':=fun b=>v'.ownBlock=some b) o.dst hgr.size hgr.os hgr.tape hgr.output (fun k hk hno=>hgr.block k hk fun e'=>hno ((q3 k).2 e'.symm))
   (fun _=>⟨hz1,⟨vs ++ vs2,hown',hR.mono fun l u _ hu=>hu.1.keep hgr.size fun hp b hb hlt=>hne b (hu.2 b hp hb) hlt⟩,fun b=>Iff.rfl⟩) (fun b hb=>(hown'.lt b hb).2) (fun b hb=>?_) (fun b hb=>?_),hK⟩
  ·obtain ⟨vs',ho',i',u,l,k1,k2,k3,k4⟩:=hb
   obtain rfl:=ownsRow_inj ho' hown'
   obtain ⟨hi1,hi2⟩:=hR.2 i' l u k2 k1
   refine ⟨hi2 b k3 k4,fun hf=>?_⟩
   have hlt:=hi1.lt k3 k4
   rcases hblk b hf with h1 | h1
   ·exact hi2 b k3 k4 n ((q3 b).2 h1)
   ·omega
  ·rcases hblk b hb with h1 | h1
   ·exact .inl ((q3 b).2 h1)
   ·exact .inr h1

/-- What a call leaves. -/
structure COut (C:Ctx) (H:List (Chunk C)) (σ:Nat->Value) (φ:Nat->Nat->Prop) (w:World) (ts:List Nat) (r:SV) (v:Value) (H':List (Chunk C)) (σ':Nat->Value) (φ':Nat->Nat->Prop) (w':World):Prop where
 rel:r.rel σ' v
 rcl:∀ m ∈ r.names,m < H'.length
 sat:Sat C σ' φ' w' H'
 adv:Adv φ w φ' w'
 len:H.length<=H'.length
 agree:∀ n,n < H.length->isOwn H n=false ∨ n ∉ ts->σ' n=σ n
 own:∀ n,n < H.length->isOwn H' n=true->isOwn H n=true
 touch:∀ n,n < H.length->n ∉ ts->(∀ b,Rdb H' σ' n b ↔ Rdb H σ n b)/\∀ b,Rdb H σ n b->b < w.heap.size->w'.heap[b]?=w.heap[b]?

def COk (C:Ctx) (H:List (Chunk C)) (σ:Nat->Value) (φ:Nat->Nat->Prop) (w:World) (K:SV->List (Chunk C)->List Nat->Prop):Ending->World->Prop
 | .returned v,w'=>∃ r H' ts σ' φ',COut C H σ φ w ts r v H' σ' φ' w'/\K r H' ts
 | _,_=>False

/-- The call returns, and K holds of what it leaves. -/
def CallOK (C:Ctx) (f:FuncId) (args:List TV) (H:List (Chunk C)) (K:SV->List (Chunk C)->List Nat->Prop):Prop :=
 ∀ σ φ w vs,Sat C σ φ w H->Rels (TV.rel σ) args vs->(∀ x ∈ args,∀ m ∈ x.names,m < H.length)->Calls C.P f vs.toArray w (COk C H σ φ w K)

structure SoundT (C:Ctx) (f:FuncId) (t:Tfm C):Prop where
 enter:∀ args w,(callFunc f args).run C.P w = .ok (.enter f args) w
 call:∀ args H K,t args H K->CallOK C f args H K

def GOK (C:Ctx):List (FuncId × Tfm C)->Prop
 | []=>True
 | (f,t) :: r=>SoundT C f t/\GOK C r

theorem getG_sound:∀ {Γ:List (FuncId × Tfm C)} {f:FuncId} {t:Tfm C},GOK C Γ->getG C Γ f=some t->SoundT C f t:=by
 intro Γ
 induction Γ with
 | nil=>intro f t _ h;simp [getG] at h
 | cons p r ih =>
  obtain ⟨g,t'⟩:=p
  intro f t hok h
  simp only [getG] at h
  split at h
  ·rename_i e
   subst e
   simp only [Option.some.injEq] at h
   subst h
   exact hok.1
  ·exact ih hok.2 h

theorem atsOf_rel:∀ {l:List SV} {xs:List TV} {vs:List Value},atsOf l=some xs->Rels (SV.rel σ) l vs->Rels (TV.rel σ) xs vs/\∀ x ∈ xs,(SV.one x) ∈ l:=by
 intro l
 induction l with
 | nil=>intro xs vs h hr;simp [atsOf] at h;subst h;exact ⟨⟨hr.1,fun i a b ha=>by simp at ha⟩,fun x hx=>by cases hx⟩
 | cons s l ih =>
  intro xs vs h hr
  cases s with
  | tup _=>simp [atsOf] at h
  | one x =>
   simp only [atsOf,Option.map_eq_some_iff] at h
   obtain ⟨xs',h1,rfl⟩:=h
   match vs,hr with
   | [],hr=>exact absurd hr.1 (by simp)
   | v :: vs,hr =>
    obtain ⟨h2,h3⟩:=ih h1 (vs:=vs) ⟨by simpa using hr.1,fun i x y hx hy=>hr.2 (i+1) x y (by simpa using hx) (by simpa using hy)⟩
    refine ⟨Rels.cons (hr.2 0 _ _ rfl rfl) h2,fun y hy=>?_⟩
    rcases List.mem_cons.1 hy with rfl | hy
    ·exact List.mem_cons_self
    ·exact List.mem_cons_of_mem _ (h3 y hy)

theorem foldl_kill_rel:∀ (ks:List Nat) {T:List SV} {vs:List Value},Rels (SV.rel σ) T vs->Rels (SV.rel σ) (ks.foldl (fun T n=>T.map (SV.kill n)) T) vs:=by
 intro ks
 induction ks with
 | nil=>intro T vs h;exact h
 | cons k ks ih=>intro T vs h;exact ih (rels_killS h)
theorem foldl_kill_names:∀ (ks:List Nat) {T:List SV},∀ x ∈ (ks.foldl (fun T n=>T.map (SV.kill n)) T),∀ m ∈ x.names,(∃ y ∈ T,m ∈ y.names)/\m ∉ ks:=by
 intro ks
 induction ks with
 | nil=>intro T x hx m hm;exact ⟨⟨x,hx,hm⟩,by simp⟩
 | cons k ks ih =>
  intro T x hx m hm
  obtain ⟨⟨y,hy,h1⟩,h2⟩:=ih x hx m hm
  obtain ⟨z,hz,rfl⟩:=List.mem_map.1 hy
  have:=SV.kill_names m h1
  exact ⟨⟨z,hz,this.1⟩,by simp [this.2,h2]⟩

theorem nilFix_tv {H:List (Chunk C)} {t:TypeId} {x:TV}:∃ y,(nilFix C H t (.one x)).1 = .one y:=by
 unfold nilFix
 split
 ·split
  ·split <;> exact ⟨_,rfl⟩
  ·exact ⟨_,rfl⟩
 ·exact ⟨_,rfl⟩

theorem nilArgs_sound (hC:C.OK) {w:World}:∀ (l:List TV) (ts:List TypeId) {σ:Nat->Value} {φ:Nat->Nat->Prop} {H:List (Chunk C)} {cs:List Value},Sat C σ φ w H->Rels (TV.rel σ) l cs->(∀ a ∈ l,∀ m ∈ a.names,m < H.length) →
  ∃ σ' φ',Grows C σ φ H σ' φ' (nilArgs C H l ts).2 w/\Rels (TV.rel σ') (nilArgs C H l ts).1 cs/\(∀ a ∈ (nilArgs C H l ts).1,∀ m ∈ a.names,m < (nilArgs C H l ts).2.length):=by
 intro l
 induction l with
 | nil=>intro ts σ φ H cs h hr hn;cases ts <;> exact ⟨σ,φ,Grows.refl h,hr,hn⟩
 | cons x l ih =>
  intro ts σ φ H cs h hr hn
  cases ts with
  | nil=>exact ⟨σ,φ,Grows.refl h,hr,hn⟩
  | cons t ts =>
   match cs,hr with
   | [],hr=>exact absurd hr.1 (by simp)
   | c :: cs,hr =>
    have hrc:TV.rel σ x c:=hr.2 0 _ _ rfl rfl
    have hrt:Rels (TV.rel σ) l cs:=⟨by simpa using hr.1,fun i x y hx hy=>hr.2 (i+1) x y (by simpa using hx) (by simpa using hy)⟩
    obtain ⟨σ1,φ1,g1,r1,n1⟩:=nilFix_sound hC h t (s:=.one x) (v:=c) hrc (hn x (by simp))
    obtain ⟨y,hy⟩:=nilFix_tv (C:=C) (H:=H) (t:=t) (x:=x)
    have hrt1:Rels (TV.rel σ1) l cs:=hrt.mono fun x y hx hxy=>TV.rel_of hxy fun m hm=>g1.agree m (hn x (by simp [hx]) m hm)
    obtain ⟨σ2,φ2,g2,r2,n2⟩:=ih ts g1.sat hrt1 (fun x hx m hm=>Nat.lt_of_lt_of_le (hn x (by simp [hx]) m hm) g1.len)
    have he:nilArgs C H (x :: l) (t :: ts)=(y :: (nilArgs C (nilFix C H t (.one x)).2 l ts).1,(nilArgs C (nilFix C H t (.one x)).2 l ts).2):=by
     rw [nilArgs]
     generalize nilFix C H t (.one x)=q at *
     obtain ⟨q1,q2⟩:=q
     simp only at hy
     subst hy
     rfl
    rw [he]
    rw [hy] at r1 n1
    have n1':∀ m ∈ y.names,m < (nilFix C H t (.one x)).2.length:=fun m hm=>n1 m hm
    refine ⟨σ2,φ2,g1.trans g2,Rels.cons (TV.rel_of (show TV.rel σ1 y c from r1) fun m hm=>g2.agree m (n1' m hm)) r2,fun z hz m hm=>?_⟩
    rcases List.mem_cons.1 hz with rfl | hz
    ·exact Nat.lt_of_lt_of_le (n1' m hm) g2.len
    ·exact n2 z hz m hm

theorem e_callf {c:Call} {x:Operand} (hG:GOK C Γ) (h:Pre C T H σ φ a w) (ho:o.op = .call c) (hcal:c.callee = .value x) (he:effS C Γ trunc T H o K) (_:True):o.wp C.P a w (After C H σ φ a w K) Q:=by
 simp only [effS,ho,hcal] at he
 split at he <;> try (exact he.elim)
 rename_i g cs xs hf hxs
 split at he <;> try (exact he.elim)
 rename_i t ht
 have hS:=getG_sound hG ht
 have hfr:=h.rel x
 have hfn:=h.nm x
 rw [hf] at hfr hfn
 have e1:a.eval x = .func (.func g) #[] (cs.map σ).toArray:=hfr.1
 obtain ⟨hr1,hm1⟩:=atsOf_rel hxs (rels_map_eval h c.args.toList)
 obtain ⟨σ1,φ1,gr,hr1,hn1⟩:=nilArgs_sound h.ok (w:=w) xs c.argTypes.toList h.sat hr1 (fun y hy m hm=>by
  obtain ⟨q,_,hq⟩:=List.mem_map.1 (hm1 y hy)
  exact h.nm q m (by rw [hq];exact hm))
 have hcs:cs.map σ=cs.map σ1:=List.map_congr_left fun n hn=>(gr.agree n (hfn n hn)).symm
 have hr2:Rels (TV.rel σ1) ((nilArgs C H xs c.argTypes.toList).1 ++ cs.map fun n=>.at (.ptr n 0)) (c.args.toList.map a.eval ++ cs.map σ):=hr1.append ⟨by simp,fun i y v hy hv=>by
  rw [List.getElem?_map] at hy hv
  cases hi:cs[i]? with
  | none=>rw [hi] at hy;cases hy
  | some n =>
   rw [hi] at hy hv
   simp only [Option.map_some,Option.some.injEq] at hy hv
   subst hy hv
   obtain ⟨b,hb⟩:=hfr.2 n (List.mem_of_getElem? hi)
   exact ⟨b,(gr.agree n (hfn n (List.mem_of_getElem? hi))).trans hb,hb⟩⟩
 have hcl:∀ y ∈ (nilArgs C H xs c.argTypes.toList).1 ++ cs.map (fun n=>TV.at (.ptr n 0)),∀ m ∈ y.names,m < (nilArgs C H xs c.argTypes.toList).2.length:=fun y hy m hm=>by
  rcases List.mem_append.1 hy with hy | hy
  ·exact hn1 y hy m hm
  ·obtain ⟨n,hn,rfl⟩:=List.mem_map.1 hy
   simp [TV.names,At.names] at hm
   subst hm
   exact Nat.lt_of_lt_of_le (hfn m hn) gr.len
 have hC:=hS.call _ _ _ he σ1 φ1 w _ gr.sat hr2 hcl
 have hrun:(execOp a.eval o).run C.P w = .ok (.enter g (c.args.toList.map a.eval ++ cs.map σ).toArray) w:=by
  have:=hS.enter (c.args.map a.eval ++ (cs.map σ).toArray) w
  have e2:(c.args.toList.map a.eval ++ cs.map σ).toArray=c.args.map a.eval ++ (cs.map σ).toArray:=by
   apply Array.ext'
   simp
  rw [e2]
  simp [execOp,ho,resolve,hcal,e1,Deferred.ofValue,invoke,this]
 unfold Oper.wp
 rw [hrun]
 refine Calls.mono hC fun e w' hh=>?_
 cases e with
 | panicked ch=>exact hh.elim
 | outgrown=>exact hh.elim
 | returned v =>
  obtain ⟨r,H',ts,σ',φ',hout,hK⟩:=hh
  refine ⟨ts,_,H',σ',φ',⟨put_rel ?_ hout.rel o.dst,fun y hy m hm=>?_,hout.sat,⟨hout.adv.os,hout.adv.tape,hout.adv.output,hout.adv.size,fun k hk hn=>hout.adv.fr k hk fun n hh=>hn n (gr.sub n k hh),fun n b hb=>(hout.adv.grow n b hb).imp (fun ⟨m,hm⟩=>⟨m,gr.sub m b hm⟩) id⟩,
   Nat.le_trans gr.len hout.len,put_defers _ _,fun n hn ho=>(hout.agree n (Nat.lt_of_lt_of_le hn gr.len) (.inl ?_)).trans (gr.agree n hn),fun n hn ho=>gr.own n hn (hout.own n (Nat.lt_of_lt_of_le hn gr.len) ho),fun n hn hts=>?_,fun n hn hts=>(hout.agree n (Nat.lt_of_lt_of_le hn gr.len) (.inr hts)).trans (gr.agree n hn)⟩,hK⟩
  ·refine (foldl_kill_rel _ h.tm).mono fun y v hy hr=>SV.rel_of hr fun m hm=>?_
   obtain ⟨⟨z,hz,h1⟩,h2⟩:=foldl_kill_names _ y hy m hm
   have hmH:=h.tcl z hz m h1
   refine (hout.agree m (Nat.lt_of_lt_of_le hmH gr.len) ?_).trans (gr.agree m hmH)
   cases hown:isOwn (nilArgs C H xs c.argTypes.toList).2 m with
   | false=>exact .inl rfl
   | true=>exact .inr fun hts=>h2 (by simp [hts,hown])
  ·rcases setT_mem hy with hy | rfl
   ·obtain ⟨⟨z,hz,h1⟩,_⟩:=foldl_kill_names _ y hy m hm
    exact Nat.lt_of_lt_of_le (h.tcl z hz m h1) (Nat.le_trans gr.len hout.len)
   ·exact hout.rcl m hm
  ·cases hown:isOwn (nilArgs C H xs c.argTypes.toList).2 n with
   | false=>rfl
   | true=>rw [gr.own n hn hown] at ho;cases ho
  ·have:=hout.touch n (Nat.lt_of_lt_of_le hn gr.len) hts
   exact ⟨fun b=>(this.1 b).trans (gr.rdb n hn b),fun b hb=>this.2 b ((gr.rdb n hn b).2 hb)⟩

theorem setM_idx:∀ (l:List (Int × Int)) (k v:Int),setM l k v=match idxM l k with
  | some j=>l.set j (k,v)
  | none=>l ++ [(k,v)]
 | [],_,_=>rfl
 | p :: r,k,v=>by
  unfold setM idxM
  by_cases c:p.1=k
  ·rw [if_pos c,if_pos c];rfl
  ·rw [if_neg c,if_neg c,setM_idx r k v]
   cases idxM r k <;> rfl
theorem idxM_get:∀ {l:List (Int × Int)} {k:Int} {j:Nat},idxM l k=some j->∃ v,l[j]?=some (k,v)
 | [],_,_,h=>by cases h
 | p :: r,k,j,h=>by
  unfold idxM at h
  split at h
  ·rename_i c
   simp only [Option.some.injEq] at h
   subst h
   exact ⟨p.2,by rw [← c];rfl⟩
  ·simp only [Option.map_eq_some_iff] at h
   obtain ⟨j',h1,rfl⟩:=h
   obtain ⟨v,hv⟩:=idxM_get h1
   exact ⟨v,by simpa using hv⟩
theorem e_makeMap {t:TypeId} {r:Option Operand} (h:Pre C T H σ φ a w) (ho:o.op = .makeMap t r) (he:effS C Γ trunc T H o K):o.wp C.P a w (After C H σ φ a w K) Q:=by
 cases r with
 | some r=>simp [effS,ho] at he
 | none =>
 simp only [effS,ho] at he
 split at he <;> try (exact he.elim)
 rename_i kk vk hm
 refine wp_value (v:=.map (some w.heap.size)) (w':=w.alloc (.map #[] 0)) ?_ ⟨_,_,_,_,_,new_sound h.ok h (Grows.refl h.sat) (.map kk vk []) (.map (some w.heap.size)) (.slc _) _ o.dst (fun σ' hs=>?_) (fun m hm=>?_) (fun _ e=>(Ro.map e).elim) (fun σ' hs=>hs.symm) (fun m hm=>?_),he⟩
 ·have hr:(Instr.makeMap t none).run C.P w = .ok (.map (some w.heap.size)) (w.alloc (.map #[] 0)):=rfl
  simp [execOp,ho,hr]
 ·exact ⟨w.heap.size,#[],0,rfl,fun _=>Iff.rfl,heap_alloc_new w _,rfl⟩
 ·simp [Chunk.names] at hm
 ·simpa [At.names] using hm
theorem e_mapUpdate {t:TypeId} {x i y:Operand} (h:Pre C T H σ φ a w) (ho:o.op = .mapUpdate t x i y) (he:effS C Γ trunc T H o K):o.wp C.P a w (After C H σ φ a w K) Q:=by
 have hx:=h.rel x
 have hi:=h.rel i
 have hy:=h.rel y
 simp only [effS,ho] at he
 split at he <;> try (exact he.elim)
 rename_i kk vk n k' j v' z hm hc hci hcy
 split at he <;> try (exact he.elim)
 rename_i ka va l hH
 split at he <;> try (exact he.elim)
 rename_i hk
 obtain ⟨rfl,rfl,rfl,rfl⟩:=hk
 rw [hc] at hx
 rw [hci] at hi
 rw [hcy] at hy
 have ex:a.eval x=σ n:=hx
 have ei:a.eval i = .int k' j:=hi
 have ey:a.eval y = .int v' z:=hy
 have hn:n < H.length:=(List.getElem?_eq_some_iff.1 hH).1
 obtain ⟨b,es,ck,e1,e2,e3,e4⟩:=h.sat.holds n _ hH
 obtain ⟨kt,et,m1,m2,m3⟩:=mapK_spec hm
 have hf:=findNow_map (kk:=k') (vk:=v') j es.toList l 0 e4
 have ck1:=MapKept.run_checkKey (P:=C.P) (w:=w) (kt:=kt) (k:=.int k' j) m2 (show MapKept.IsKey (.int k') (.int k' j) from rfl) false 9999
 have fk:=MapKept.run_findKey (P:=C.P) (w:=w) m2 hf
 have hgo:∀ es' ck',es'.toList.map (fun e=>(e.key,e.val))=(setM l j z).map (fun p=>(Value.int k' p.1,Value.int v' p.2))->(Instr.mapUpdate t (.map (some b)) (.int k' j) (.int v' z)).run C.P w = .ok () { w with heap:=w.heap.setIfInBounds b (.map es' ck') } →
   o.wp C.P a w (After C H σ φ a w K) Q:=fun es' ck' hes hrun=>by
  have hb:b < w.heap.size:=(Array.getElem?_eq_some_iff.1 e3).1
  refine wp_skip_ (w':={ w with heap:=w.heap.setIfInBounds b (.map es' ck') }) ?_ ⟨_,_,_,_,_,upd_sound h.ok h hn (.map k' v' (setM l j z)) o.dst (by simp) rfl rfl rfl (fun q hq=>?_) ?_ (fun m hm=>?_) (fun _ e=>Ro.map e) (fun ho=>?_),he⟩
  ·simp [execOp,ho,ex,ei,ey,e1,hrun]
  ·have:¬ b=q:=fun e=>hq ((e2 q).2 e.symm)
   simp [this]
  ·refine ⟨b,es',ck',e1,e2,?_,hes⟩
   simp [hb]
  ·simp [Chunk.names] at hm
  ·simp [isOwn,List.getElem?_set_self hn] at ho
 have hs:=setM_idx l j z
 cases hj:idxM l j with
 | none =>
  rw [hj] at fk hs
  refine hgo (es.push ⟨.int k' j,.int v' z,ck⟩) (ck+1) ?_ ?_
  ·rw [hs,Array.toList_push,List.map_append,e4,List.map_append];rfl
  ·simp [Instr.mapUpdate,run_underlying m1,MapKept.run_getObj_map e3,ck1,fk,MapKept.run_setObj_map _ e3,Result.andThen]
 | some q =>
  rw [hj] at fk hs
  obtain ⟨v0,hv0⟩:=idxM_get hj
  have hq:(es.toList.map fun e=>(e.key,e.val))[q]?=some (Value.int k' j,Value.int v' v0):=by rw [e4,List.getElem?_map,hv0];rfl
  rw [List.getElem?_map,Option.map_eq_some_iff] at hq
  obtain ⟨e0,he0,hkv⟩:=hq
  simp only [Prod.mk.injEq] at hkv
  have he0':es[q]?=some e0:=by simpa using he0
  refine hgo (es.modify q fun e=>{ e with key:=.int k' j,val:=.int v' z }) ck ?_ ?_
  ·rw [hs,Array.toList_modify,ChangeMaps.modify_eq_set _ _ _ _ he0,List.map_set,e4,List.map_set]
  ·have ks:(Instr.keyThatStays (.int k' j) (.int k' j)).run C.P w = .ok (.int k' j) w:=MapKept.run_keyThatStays (d:=.int k') rfl
   simp [Instr.mapUpdate,run_underlying m1,MapKept.run_getObj_map e3,ck1,fk,he0',hkv.1,ks,MapKept.run_setObj_map _ e3,Result.andThen]

theorem isU8_spec {e:C.EC} (h:isU8 C e=true):C.P.underlying (C.tid e)=some (.int .u8):=by
 unfold isU8 at h
 split at h
 ·assumption
 ·cases h
theorem e_convert {t t':TypeId} {x:Operand} (h:Pre C T H σ φ a w) (ho:o.op = .convert t t' x) (he:effS C Γ trunc T H o K):o.wp C.P a w (After C H σ φ a w K) Q:=by
 have hx:=h.rel x
 simp only [effS,ho] at he
 split at he <;> try (exact he.elim)
 rename_i n hcx
 rw [hcx] at hx
 split at he <;> try (exact he.elim)
 rename_i e l hH
 split at he <;> try (exact he.elim)
 rename_i hc
 obtain ⟨rfl,hec,hu8⟩:=hc
 obtain ⟨hpos,hK⟩:=he
 have ex:a.eval x=σ n:=hx
 obtain ⟨q1,q3⟩:=h.sat.holds n _ hH
 obtain ⟨w',hr,hown,hgr,hsz⟩:=convert_R (P:=C.P) t (C.tid e) (C.sz e) (isEC_spec h.ok hec) (isU8_spec hu8) q1 hpos
 refine wp_value (v:=σ n) (w':=w') (by simp [execOp,ho,ex,hr]) ⟨_,_,_,_,_,ren_sound h.ok h (Grows.refl h.sat) hH (l':=l) (v':=σ n) (f':=φ n) o.dst (by omega) hgr.os hgr.tape hgr.output (fun k hk hno=>hgr.block k hk fun e'=>hno ((q3 k).2 e'.symm)) hown q3 (fun b hb=>.inl hb),hK⟩

/-- Every operation with an effect. -/
theorem effS_sound (hG:GOK C Γ) (h:Pre C T H σ φ a w) (he:effS C Γ trunc T H o K):o.wp C.P a w (After C H σ φ a w K) Q:=by
 cases ho:o.op with
 | alloc t=>exact e_alloc h ho he
 | box t x=>exact e_box h ho he
 | store t x y=>exact e_store h ho he
 | makeSlice t l c=>exact e_makeSlice h ho he
 | buildSlice t n parts=>exact e_buildSlice h ho he
 | makeMap t r=>exact e_makeMap h ho he
 | mapUpdate t x i y=>exact e_mapUpdate h ho he
 | convert t t' x=>exact e_convert h ho he
 | slice t x lo hi mx =>
  cases lo <;> cases hi <;> cases mx <;> first
   | (simp [effS,ho] at he;done)
   | exact e_trunc h ho he
 | call c =>
  cases hcal:c.callee with
  | value x=>exact e_callf hG h ho hcal he trivial
  | invoke r m=>simp [effS,ho,hcal] at he
  | builtin b =>
   cases b <;> try (simp [effS,ho,hcal] at he;done)
   have he':=he
   simp only [effS,ho,hcal] at he'
   split at he' <;> try (exact he'.elim)
   rename_i x y t t' hargs hty
   split at he' <;> try (exact he'.elim)
   rename_i htt
   subst htt
   obtain ⟨σ1,φ1,g,hr1,hn1⟩:=nilFix_sound h.ok h.sat t (h.rel x) (h.nm x)
   split at he' <;> try (exact he'.elim)
   rename_i n e0 hfx hec
   rw [hfx] at hr1
   have hx:a.eval x=σ1 n:=hr1
   split at he' <;> try (exact he'.elim)
   case h_2 =>
    rename_i hh e ll hH
    split at he' <;> try (exact he'.elim)
    rename_i hee _
    subst hee
    have hy:=h.rel y
    split at he' <;> try (exact he'.elim)
    rename_i m hcy
    rw [hcy] at hy
    split at he' <;> try (exact he'.elim)
    rename_i hmn
    split at he' <;> try (exact he'.elim)
    rename_i h2 e' l' hHm
    split at he' <;> try (exact he'.elim)
    rename_i hee' _
    subst hee'
    have ny:=h.nm y
    rw [hcy] at ny
    have hmlt:m < H.length:=ny m (by simp [SV.names,TV.names,At.names])
    have ey:a.eval y=σ1 m:=by rw [g.agree m hmlt];exact hy
    exact e_appendR h ho hcal hargs hty g hx hH hec ey hHm he'.1 he'.2
   rename_i e l hH
   split at he' <;> try (exact he'.elim)
   rename_i hee _
   subst hee
   have hy:=h.rel y
   split at he'
   ·rename_i hcy
    rw [hcy] at hy
    have ey:a.eval y = .slice none 0 0:=hy
    exact e_append h ho hcal hargs hty g hx hH hec ey (Rd.nil (h.ok.len e0)) (fun h=>absurd rfl h) (by simpa using he')
   ·rename_i m hcy
    rw [hcy] at hy
    split at he' <;> try (exact he'.elim)
    rename_i hmn
    split at he' <;> try (exact he'.elim)
    rename_i own e' l' hHm
    split at he' <;> try (exact he'.elim)
    rename_i hee' _
    subst hee'
    have ny:=h.nm y
    rw [hcy] at ny
    have hmlt:m < H.length:=ny m (by simp [SV.names,TV.names,At.names])
    have ey:a.eval y=σ m:=hy
    obtain ⟨A,c',h1,h2⟩:=(g.sat.holds m _ hHm).rd h.ok
    rw [g.agree m hmlt] at h1
    exact e_append h ho hcal hargs hty g hx hH hec (ey.trans h1) h2 (fun _=>he'.1) he'.2
   ·exact he'.elim
 | _=>simp [effS,ho] at he
end
end Go.Proofs.YtedfbafngmicpaaGreat.Sx
end
section
/- The symbolic run is sound: regions, in the text's order and in any. No program in sight. -/
namespace Go.Proofs.YtedfbafngmicpaaGreat.Sx
open Go

section
variable {P:Program} {ops:Array Oper} {Q:Exit->Act->World->Prop} {S:World->Prop} {late:Nat->Bool}

/-- No late operation has come up. -/
def NoLate (late:Nat->Bool) (listed:Array Bool):Prop:=∀ j,late j=true->listed.getD j true=false

/-- Any order; an operation that is not late leaves S standing, as long as no late one has come up. -/
def wpAnyL (P:Program) (ops:Array Oper) (Q:Exit->Act->World->Prop) (S:World->Prop) (late:Nat->Bool):Nat->Array Bool->Act->World->Prop
 | 0,listed,a,w=>Region.ready .any ops listed=[]/\Q .normal a w
 | fuel+1,listed,a,w=>(Region.ready .any ops listed=[]->Q .normal a w) ∧
  ∀ i ∈ Region.ready .any ops listed,wpOp P ops Q i (fun a' w'=>(late i=false->NoLate late listed->S w->S w')/\wpAnyL P ops Q S late fuel (listed.setIfInBounds i true) a' w') a w

theorem wpAnyL.any:∀ {fuel:Nat} {listed:Array Bool} {a:Act} {w:World},wpAnyL P ops Q S late fuel listed a w->wpAny P .any ops Q fuel listed a w
 | 0,_,_,_,h=>h
 | _+1,_,_,_,h=>⟨h.1,fun i hi=>wpOp_mono (fun _ _ h'=>wpAnyL.any h'.2) (h.2 i hi)⟩

theorem wpAnyL_done {listed:Array Bool} {a:Act} {w:World} (hr:Region.ready .any ops listed=[]) (h:Q .normal a w):∀ fuel,wpAnyL P ops Q S late fuel listed a w
 | 0=>⟨hr,h⟩
 | _+1=>⟨fun _=>h,by rw [hr];simp⟩

theorem ready_lt {listed:Array Bool} {i:Nat} (hi:i ∈ Region.ready .any ops listed):i < listed.size:=by
 rcases Nat.lt_or_ge i listed.size with h' | h'
 ·exact h'
 ·have:=(mem_ready.1 hi).1
  simp [Array.getElem?_eq_none h'] at this

/-- What waits for an operation that has not come up is not ready. -/
theorem ready_waits {listed:Array Bool} {i j:Nat} {oj:Oper} (hj:j ∈ Region.ready .any ops listed) (hoj:ops[j]?=some oj) (hun:listed.getD i true=false):∀ e ∈ oj.after,Region.binds .any e=true->e.on ≠ i:=by
 intro e he hb heq
 obtain ⟨_,o',ho',hall⟩:=mem_ready.1 hj
 rw [hoj] at ho'
 simp only [Option.some.injEq] at ho'
 subst ho'
 have h2:=hall e he hb
 rw [heq] at h2
 rcases Nat.lt_or_ge i listed.size with h' | h'
 ·simp [h'] at h2 hun;rw [hun] at h2;cases h2
 ·simp [Array.getElem?_eq_none h'] at h2

/-- An operation that yields its value in every world that meets Si comes first, where Si is nothing, or S and every late operation waits for it. -/
theorem wpAnyL_take {Si:World->Prop} {i:Nat} {oi:Oper} {v:Value} (hi:ops[i]?=some oi) (hsel:∀ (j:Nat) (o:Oper) cs b,ops[j]?=some o->o.op ≠ .select cs b)
  (hQ:∀ c a w,Q (.panic c) (a.put oi.dst v) w->Q (.panic c) a w)
  (hli:late i=false) (hSi:(∀ w,Si w) ∨ ((∀ w,S w->Si w)/\(∀ w,Si w->S w)/\∀ (j:Nat) (oj:Oper),ops[j]?=some oj->late j=true->∃ e ∈ oj.after,Region.binds .any e=true/\e.on=i)) :
  ∀ (fuel:Nat) (listed:Array Bool) (a:Act) (w:World),((∀ w,Si w) ∨ NoLate late listed) →
   (∀ (j:Nat) (oj:Oper),ops[j]?=some oj->j ≠ i->listed.getD j true=false->(∀ e ∈ oj.after,Region.binds .any e=true->e.on ≠ i)->oi.apart ops oj=true) →
   i ∈ Region.ready .any ops listed->YieldsIf P ops Si oi v a->Si w →
   wpAnyL P ops Q S late fuel (listed.setIfInBounds i true) (a.put oi.dst v) w->wpAnyL P ops Q S late (fuel+1) listed a w:=by
 intro fuel
 induction fuel with
 | zero =>
  intro listed a w _ _ hr hy hS h
  refine ⟨fun h0=>(by rw [h0] at hr;cases hr),fun j hj=>?_⟩
  by_cases hji:j=i
  ·subst hji;exact hy.wpOp hi hS ⟨fun _ _ h=>h,h⟩
  ·have h1:=ready_mono hj hji
   rw [h.1] at h1;cases h1
 | succ fuel ih =>
  intro listed a w hNL hfree hr hy hS h
  refine ⟨fun h0=>(by rw [h0] at hr;cases hr),fun j hj=>?_⟩
  by_cases hji:j=i
  ·subst hji;exact hy.wpOp hi hS ⟨fun _ _ h=>h,h⟩
  ·obtain ⟨hjun,oj,hoj,_⟩:=mem_ready.1 hj
   have hnot:=ready_waits hj hoj (mem_ready.1 hr).1
   have hp:=wpOp_putIf hoj (hfree j oj hoj hji hjun hnot) (fun cs b=>hsel i oi cs b hi) (fun cs b=>hsel j oj cs b hoj) hQ hy (h.2 j (ready_mono hj hji))
   refine wpOp_mono (fun a' w' h3=>?_) hp
   obtain ⟨hy',hSj,hrest⟩:=h3
   have hlt:=ready_lt hr
   have hset:(NoLate late listed)->NoLate late (listed.setIfInBounds i true):=fun hl k hk=>by
    by_cases hki:i=k
    ·subst hki;rw [hli] at hk;cases hk
    ·rw [getD_set_ne true hki];exact hl k hk
   have hjl:(∀ w,Si w) ∨ (NoLate late listed/\late j=false):=by
    rcases hSi with hSi | ⟨hSi,hSi',hl⟩
    ·exact .inl hSi
    ·rcases hNL with h0 | hNL
     ·exact .inl h0
     ·refine .inr ⟨hNL,?_⟩
      cases hlj:late j with
      | false=>rfl
      | true =>
       obtain ⟨e,he,hb,heq⟩:=hl j oj hoj hlj
       exact absurd heq (hnot e he hb)
   refine ⟨fun h1 h2 h4=>hSj h1 (hset h2) h4,ih _ a' w' ?_ (fun k ok hk hki hun hno=>hfree k ok hk hki ?_ hno) (ready_mono hr (Ne.symm hji)) hy' ?_ ?_⟩
   ·rcases hjl with h0 | ⟨hN,hlj⟩
    ·exact .inl h0
    ·refine .inr fun k hk=>?_
     by_cases hjk:j=k
     ·subst hjk;rw [hlj] at hk;cases hk
     ·rw [getD_set_ne true hjk];exact hN k hk
   ·by_cases hjk:j=k
    ·subst hjk;exact hjun
    ·rw [getD_set_ne true hjk] at hun;exact hun
   ·rcases hSi with hSi | ⟨hSi,hSi',hl⟩
    ·exact hSi _
    ·rcases hjl with h0 | ⟨hN,hlj⟩
     ·exact h0 _
     ·exact hSi _ (hSj hlj (hset hN) (hSi' _ hS))
   ·rw [Array.setIfInBounds_comm _ _ hji]
    exact hrest
end

section
variable {C:Ctx}

/-- Where a body began. -/
structure Base (C:Ctx) where
 H:List (Chunk C)
 σ:Nat->Value
 φ:Nat->Nat->Prop
 w:World

/-- What holds at a point of a body. -/
structure St (C:Ctx) (B:Base C) (W:List Nat) (T:List SV) (H:List (Chunk C)) (σ:Nat->Value) (φ:Nat->Nat->Prop) (a:Act) (w:World):Prop where
 pre:Pre C T H σ φ a w
 dfs:a.defers=[]
 adv:Adv B.φ B.w φ w
 len:B.H.length<=H.length
 agree:∀ n,n < B.H.length->isOwn B.H n=false->σ n=B.σ n
 own:∀ n,n < B.H.length->isOwn H n=true->isOwn B.H n=true
 stand:∀ n,n < B.H.length->n ∉ W->σ n=B.σ n/\(∀ b,Rdb H σ n b ↔ Rdb B.H B.σ n b)/\∀ b,Rdb B.H B.σ n b->b < B.w.heap.size->w.heap[b]?=B.w.heap[b]?

variable {W:List Nat} {B:Base C} {T:List SV} {H:List (Chunk C)} {σ:Nat->Value} {φ:Nat->Nat->Prop} {a:Act} {w:World} {o:Oper}

theorem St.step (h:St C B W T H σ φ a w) {ts:List Nat} {T':List SV} {H':List (Chunk C)} {σ':Nat->Value} {φ':Nat->Nat->Prop} {a':Act} {w':World} (e:EOut C H σ φ a w ts T' H' σ' φ' a' w'):St C B (ts ++ W) T' H' σ' φ' a' w' where
 pre:=⟨h.pre.ok,e.tm,e.tcl,e.sat⟩
 dfs:=e.dfs.trans h.dfs
 adv:=h.adv.trans e.adv
 len:=Nat.le_trans h.len e.len
 agree n hn ho:=(e.agree n (Nat.lt_of_lt_of_le hn h.len) (by
  cases hh:isOwn H n with
  | false=>rfl
  | true=>rw [h.own n hn hh] at ho;cases ho)).trans (h.agree n hn ho)
 own n hn ho:=h.own n hn (e.own n (Nat.lt_of_lt_of_le hn h.len) ho)
 stand n hn hW:=by
  simp only [List.mem_append,not_or] at hW
  obtain ⟨h0,h1,h2⟩:=h.stand n hn hW.2
  have hn':=Nat.lt_of_lt_of_le hn h.len
  obtain ⟨h3,h4⟩:=e.touch n hn' hW.1
  exact ⟨(e.still n hn' hW.1).trans h0,fun b=>(h3 b).trans (h1 b),fun b hb hlt=>(h4 b ((h1 b).2 hb) (Nat.lt_of_lt_of_le hlt h.adv.size)).trans (h2 b hb hlt)⟩

theorem St.withT (h:St C B W T H σ φ a w) {T':List SV} (hp:Pre C T' H σ φ a w):St C B W T' H σ φ a w:=⟨hp,h.dfs,h.adv,h.len,h.agree,h.own,h.stand⟩

theorem St.drawn (h:St C B W T H σ φ a w) (k:Nat):St C B W T H σ φ a { w with drawn:=k } where
 pre:=⟨h.pre.ok,h.pre.tm,h.pre.tcl,h.pre.sat.drawn h.pre.ok k⟩
 dfs:=h.dfs
 adv:=h.adv.trans ⟨rfl,rfl,rfl,Nat.le_refl _,fun _ _ _=>rfl,fun n _ hb=>.inl ⟨n,hb⟩⟩
 len:=h.len
 agree:=h.agree
 own:=h.own
 stand:=h.stand

/-- A quiet step, as a step. -/
theorem quiet_out (h:Pre C T H σ φ a w) {s:SV} {H':List (Chunk C)} {v:Value} {σ':Nat->Value} {φ':Nat->Nat->Prop} (g:Grows C σ φ H σ' φ' H' w) (hv:s.rel σ' v) (hn:∀ m ∈ s.names,m < H'.length) (dst:Option Nat) (ts:List Nat) :
  EOut C H σ φ a w ts (setT T dst s) H' σ' φ' (a.put dst v) w where
 tm:=put_rel (rel_agree h.tm h.tcl g.agree) hv dst
 tcl x hx m hm:=by
  rcases setT_mem hx with hx | rfl
  ·exact Nat.lt_of_lt_of_le (h.tcl x hx m hm) g.len
  ·exact hn m hm
 sat:=g.sat
 adv:=⟨rfl,rfl,rfl,Nat.le_refl _,fun _ _ _=>rfl,fun n b hb=>.inl ⟨n,g.sub n b hb⟩⟩
 len:=g.len
 dfs:=put_defers _ _
 agree n hn _:=g.agree n hn
 own:=g.own
 touch n hn _:=⟨g.rdb n hn,fun _ _ _=>rfl⟩
 still n hn _:=g.agree n hn

/-- An operation that was not carried out. -/
theorem skip_out (h:Pre C T H σ φ a w) (dst:Option Nat) (ts:List Nat):EOut C H σ φ a w ts (setT T dst undefS) H σ φ (a.put dst undef) w :=
 quiet_out h (Grows.refl h.sat) (s:=undefS) rfl (by simp [undefS,SV.names,TV.names,At.names]) dst ts

theorem reqs_iff:∀ {ps:List Prop} {k:Prop},reqs ps k->(∀ p ∈ ps,p)/\k:=by
 intro ps
 induction ps with
 | nil=>intro k h;exact ⟨fun p hp=>by simp at hp,h⟩
 | cons p ps ih =>
  intro k h
  obtain ⟨h1,h2⟩:=h
  obtain ⟨h3,h4⟩:=ih h2
  exact ⟨fun q hq=>by
   rcases List.mem_cons.1 hq with rfl | hq
   ·exact h1
   ·exact h3 q hq,h4⟩

theorem brS_iff {b:Bool} {t f:Prop}:brS b t f ↔ (b=true->t)/\(b=false->f):=by cases b <;> simp [brS]

theorem guardS_sound {ops:Array Oper} {yes no:List SV->Prop} (hg:guardS ops T o yes no) (h:Pre C T H σ φ a w) :
  (Region.wanted o (yielded ops a.tmps)=true/\∃ T1,Pre C T1 H σ φ a w/\yes T1) ∨ (Region.wanted o (yielded ops a.tmps)=false/\∃ T1,Pre C T1 H σ φ a w/\no T1):=by
 unfold guardS at hg
 split at hg
 ·rename_i hgd
  exact .inl ⟨by simp [Region.wanted,hgd],T,h,hg⟩
 ·rename_i j want hgd
  split at hg <;> try (exact hg.elim)
  rename_i d hd
  split at hg <;> try (exact hg.elim)
  case h_2 =>
   rename_i cs hb
   have hT:T[d]?=some (.one (.at (.val (.tuple cs)))):=by
    rw [List.getD_eq_getElem?_getD] at hb
    cases hT:T[d]? with
    | none=>rw [hT] at hb;simp at hb
    | some x=>rw [hT] at hb;simp at hb;rw [hb]
   obtain ⟨v,hv,hr⟩:=h.tm.get hT
   have hvb:v = .tuple cs:=hr
   subst hvb
   have hy:yielded ops a.tmps j=none:=by
    rw [Array.getElem?_toList] at hv
    simp [yielded,hd,hv]
   exact .inr ⟨by simp [Region.wanted,hgd,hy],_,h,hg⟩
  rename_i b hb
  have hT:T[d]?=some (.one (.at (.val (.bool b)))):=by
   rw [List.getD_eq_getElem?_getD] at hb
   cases hT:T[d]? with
   | none=>rw [hT] at hb;simp at hb
   | some x=>rw [hT] at hb;simp at hb;rw [hb]
  obtain ⟨v,hv,hr⟩:=h.tm.get hT
  have hvb:v = .bool b:=hr
  subst hvb
  have hy:yielded ops a.tmps j=some b:=by
   rw [Array.getElem?_toList] at hv
   simp [yielded,hd,hv]
  have hset:∀ b',b=b'->Pre C (T.set d (vb b')) H σ φ a w:=fun b' hb'=>⟨h.ok,by
   have:=h.tm.set d (a:=vb b') (b:=.bool b) (by subst hb';rfl)
   have e:a.tmps.toList.set d (.bool b)=a.tmps.toList:=by
    apply List.ext_getElem?
    intro k
    rw [List.getElem?_set]
    split
    ·rename_i hk
     subst hk
     split
     ·exact hv.symm
     ·rename_i hlt
      rw [List.getElem?_eq_none (by omega)] at hv
      cases hv
    ·rfl
   rw [e] at this
   exact this,fun s hs m hm=>by
   rcases List.mem_or_eq_of_mem_set hs with hs | rfl
   ·exact h.tcl s hs m hm
   ·simp [vb,SV.names,TV.names,At.names] at hm,h.sat⟩
  rw [brS_iff] at hg
  cases b with
  | true =>
   have hg:=hg.1 rfl
   cases want with
   | true=>exact .inl ⟨by simp [Region.wanted,hgd,hy],_,hset true rfl,hg⟩
   | false=>exact .inr ⟨by simp [Region.wanted,hgd,hy],_,hset true rfl,hg⟩
  | false =>
   have hg:=hg.2 rfl
   cases want with
   | true=>exact .inr ⟨by simp [Region.wanted,hgd,hy],_,hset false rfl,hg⟩
   | false=>exact .inl ⟨by simp [Region.wanted,hgd,hy],_,hset false rfl,hg⟩

variable {Γ:List (FuncId × Tfm C)} {trunc:Nat->Bool} {K:EK C} {Q:Exit->Act->World->Prop}

theorem dup_sound (hC:C.OK) (hs:Sat C σ φ w H) {n:Nat} {e:C.EC} {l:List (C.α e)} (hH:H[n]?=some (.row false e l)) :
  Grows C σ φ H (fun k=>if k=H.length then σ n else σ k) (fun k=>if k=H.length then (fun _=>False) else φ k) (H ++ [.row false e l]) w :=
 Grows.view hC hs _ _ (fun _=>⟨(hs.holds n _ hH).1,fun _ h=>h⟩) rfl (fun b hb m hm=>hs.immr n e l hH hb.1 b hb.2 m hm)

theorem stepS_sound (hG:GOK C Γ) (h:Pre C T H σ φ a w) (hs:stepS C Γ trunc T H o K):o.wp C.P a w (After C H σ φ a w K) Q:=by
 have hq:∀ {x:Q3 C},x=quietS C T H o->(match x with | some (ps,s,H')=>reqs ps (K [] (setT T o.dst s) H') | none=>effS C Γ trunc T H o K)->o.wp C.P a w (After C H σ φ a w K) Q:=by
  intro x hx hm
  split at hm
  ·rename_i ps s H' 
   obtain ⟨h1,h2⟩:=reqs_iff hm
   obtain ⟨v,σ',φ',g,hv,hn,hrun⟩:=quietS_sound h h1 hx.symm
   exact wp_value (hrun w fun _ _ _ _=>rfl) ⟨_,_,_,_,_,quiet_out h g hv hn o.dst [],h2⟩
  ·exact effS_sound hG h hm
 unfold stepS at hs
 split at hs
 ·split at hs
  ·exact effS_sound hG h hs
  ·split at hs
   ·rename_i ps s H' hx
    exact hq (x:=some (ps,s,H')) hx.symm hs
   ·exact hs.elim
 ·rename_i x ho
  split at hs
  ·split at hs <;> try (exact hs.elim)
   rename_i n hn
   split at hs
   case h_2 =>
    split at hs
    ·rename_i ps s H' hx
     exact hq (x:=some (ps,s,H')) hx.symm hs
    ·exact hs.elim
   rename_i e l hH
   have hr:=h.rel x
   rw [hn] at hr
   have ev:a.eval x=σ n:=hr
   exact wp_value (v:=a.eval x) (w':=w) (by simp [execOp,ho]) ⟨_,_,_,_,_,quiet_out h (dup_sound h.ok h.sat hH) (s:=.one (.at (.slc H.length))) (by show a.eval x=_;simp [ev]) (by intro m hm;simp [SV.names,TV.names,At.names] at hm;subst hm;simp) o.dst [],hs⟩
  ·split at hs
   ·rename_i ps s H' hx
    exact hq (x:=some (ps,s,H')) hx.symm hs
   ·exact hs.elim
 ·split at hs
  ·rename_i ps s H' hx
   exact hq (x:=some (ps,s,H')) hx.symm hs
  ·exact effS_sound hG h hs

theorem seqS_sound (hG:GOK C Γ) {ops:Array Oper} {K:EK C} (hQ:∀ {W T H σ φ a w},St C B W T H σ φ a w->K W T H->Q .normal a w):∀ (rest:List Oper) {W:List Nat} {T:List SV} {H:List (Chunk C)} {σ:Nat->Value} {φ:Nat->Nat->Prop} {a:Act} {w:World},
  St C B W T H σ φ a w->seqS C Γ trunc ops K rest W T H->wpList C.P ops Q rest a w:=by
 intro rest
 induction rest with
 | nil=>intro W T H σ φ a w h hs;exact hQ h hs
 | cons o rest ih =>
  intro W T H σ φ a w h hs
  simp only [seqS] at hs
  unfold wpList
  rcases guardS_sound hs h.pre with ⟨hw,T1,hp,hy⟩ | ⟨hw,T1,hp,hy⟩
  ·rw [if_pos hw]
   refine .inl (Oper.wp_mono (fun a' w' hh=>?_) (stepS_sound hG hp hy))
   obtain ⟨ts,T',H',σ',φ',he,hk⟩:=hh
   exact ih ((h.withT hp).step he) hk
  ·rw [if_neg (by rw [hw];simp)]
   exact ih ((h.withT hp).step (skip_out hp o.dst [])) hy

/-- The blocks that the loads of the region may read stay as they are. -/
def Stand (H:List (Chunk C)) (σ:Nat->Value) (Z:List Nat) (ws w:World):Prop:=∀ n ∈ Z,∀ b,Rdb H σ n b->w.heap[b]?=ws.heap[b]?

theorem conj_mem:∀ {l:List Prop},conj l->∀ p ∈ l,p:=by
 intro l
 induction l with
 | nil=>intro _ p hp;simp at hp
 | cons q l ih =>
  intro h p hp
  cases l with
  | nil =>
   rcases List.mem_cons.1 hp with hp | hp
   ·subst hp;exact h
   ·cases hp
  | cons r l =>
   rcases List.mem_cons.1 hp with hp | hp
   ·subst hp;exact h.1
   ·exact ih h.2 p hp

theorem lateS_spec {ops:Array Oper} {j:Nat} (h:lateS trunc ops j=true) {i:Nat} {oi:Oper} (hi:ops[i]?=some oi) (hl:isLoad oi=true) {oj:Oper} (hj:ops[j]?=some oj):∃ e ∈ oj.after,Region.binds .any e=true/\e.on=i:=by
 have hlt:i < ops.size:=(Array.getElem?_eq_some_iff.1 hi).1
 unfold lateS at h
 rw [hj] at h
 simp only [Bool.and_eq_true] at h
 have h1:=List.all_eq_true.1 h.2 i (List.mem_range.2 hlt)
 simp only [hi,hl,Bool.not_true,Bool.false_or] at h1
 obtain ⟨e,he,h2⟩:=Array.any_eq_true'.1 h1
 simp only [Bool.and_eq_true,beq_iff_eq] at h2
 exact ⟨e,he,h2.2,h2.1⟩

theorem lateS_quiet {ops:Array Oper} {i:Nat} {oi:Oper} (hi:ops[i]?=some oi) (h:quietK trunc oi=true):lateS trunc ops i=false:=by
 unfold lateS
 rw [hi]
 simp [h]

theorem takeS_quiet {Z:List Nat} (h:takeS T Z trunc o=true):quietK trunc o=true:=by
 unfold takeS at h
 simp only [Bool.and_eq_true] at h
 exact h.1

theorem firstTake_spec {Z:List Nat} {ops:Array Oper} {listed:Array Bool}:∀ {l:List Nat} {i:Nat},firstTake T Z trunc ops listed l=some i->i ∈ l/\∃ o,ops[i]?=some o/\takeS T Z trunc o=true/\Region.free .any ops listed i=true:=by
 intro l
 induction l with
 | nil=>intro i h;simp [firstTake] at h
 | cons k r ih =>
  intro i h
  simp only [firstTake] at h
  split at h
  ·rename_i o ho
   split at h
   ·rename_i hc
    simp only [Option.some.injEq] at h
    subst h
    simp only [Bool.and_eq_true] at hc
    exact ⟨List.mem_cons_self,o,ho,hc.1,hc.2⟩
   ·obtain ⟨h1,h2⟩:=ih h
    exact ⟨List.mem_cons_of_mem _ h1,h2⟩
  ·cases h

theorem readName_isLoad {n:Nat} (h:readName T o=some n):isLoad o=true:=by
 unfold readName at h
 unfold isLoad
 split at h
 ·rename_i t x heq
  simp only []
 ·rename_i t x i ok heq
  simp only []
 ·cases h

theorem takeS_name {Z:List Nat} (h:takeS T Z trunc o=true) {n:Nat} (hn:readName T o=some n):n ∈ Z:=by
 unfold takeS at h
 simp only [Bool.and_eq_true] at h
 have:=h.2
 rw [hn] at this
 simpa using this

theorem anyS_sound (hG:GOK C Γ) {ops:Array Oper} {Z:List Nat} {K:EK C} (hQ:∀ {W T H σ φ a w},St C B W T H σ φ a w->K W T H->Q .normal a w) (hpanic:∀ c a w,¬ Q (.panic c) a w) (hsel:Region.noSelect ops=true)
  {Hs:List (Chunk C)} {σs:Nat->Value} {ws:World} (hZ:∀ n ∈ Z,n < Hs.length) :
  ∀ (fuel:Nat) {listed:Array Bool} {W:List Nat} {T:List SV} {H:List (Chunk C)} {σ:Nat->Value} {φ:Nat->Nat->Prop} {a:Act} {w:World},St C B W T H σ φ a w->Hs.length<=H.length →
   (NoLate (lateS trunc ops) listed->Stand Hs σs Z ws w/\∀ n ∈ Z,∀ b,Rdb H σ n b ↔ Rdb Hs σs n b) →
   (∀ (i:Nat) (oi:Oper),ops[i]?=some oi->isLoad oi=true->listed.getD i true=false->NoLate (lateS trunc ops) listed) →
   anyS C Γ trunc ops Z K fuel listed W T H->wpAnyL C.P ops Q (Stand Hs σs Z ws) (lateS trunc ops) fuel listed a w:=by
 intro fuel
 induction fuel with
 | zero =>
  intro listed W T H σ φ a w h hlen _ _ hs
  simp only [anyS] at hs
  split at hs
  ·rename_i hr;exact wpAnyL_done hr (hQ h hs) 0
  ·exact hs.elim
 | succ fuel ih =>
  intro listed W T H σ φ a w h hlen hS hL hs
  simp only [anyS] at hs
  split at hs
  ·rename_i hr;exact wpAnyL_done hr (hQ h hs) _
  ·rename_i r rs hr
   have hback:∀ {i:Nat},i ∈ Region.ready .any ops listed->NoLate (lateS trunc ops) (listed.setIfInBounds i true)->NoLate (lateS trunc ops) listed/\lateS trunc ops i=false:=by
    intro i hi hN
    have hlt:=ready_lt hi
    have hli:lateS trunc ops i=false:=by
     cases hl:lateS trunc ops i with
     | false=>rfl
     | true =>
      have:=hN i hl
      simp [hlt] at this
    refine ⟨fun k hk=>?_,hli⟩
    have:=hN k hk
    by_cases hik:i=k
    ·subst hik;rw [hli] at hk;cases hk
    ·rwa [getD_set_ne true hik] at this
   have hLn:∀ {i:Nat},i ∈ Region.ready .any ops listed->∀ (k:Nat) (ok:Oper),ops[k]?=some ok->isLoad ok=true->(listed.setIfInBounds i true).getD k true=false->NoLate (lateS trunc ops) (listed.setIfInBounds i true):=by
    intro i hi k ok hk hkl hku
    have hlt:=ready_lt hi
    have hik:i ≠ k:=fun e=>by subst e;simp [hlt] at hku
    rw [getD_set_ne true hik] at hku
    have hN:=hL k ok hk hkl hku
    obtain ⟨_,oi,hoi,_⟩:=mem_ready.1 hi
    intro j hj
    by_cases hij:i=j
    ·subst hij
     obtain ⟨e,he,hb,heq⟩:=lateS_spec hj hk hkl hoi
     exact absurd heq (ready_waits hi hoi hku e he hb)
    ·rw [getD_set_ne true hij];exact hN j hj
   have hstand:∀ {T1:List SV} {i:Nat} {T':List SV} {H':List (Chunk C)} {σ':Nat->Value} {φ':Nat->Nat->Prop} {a':Act} {w':World} {ts:List Nat},EOut C H σ φ a w ts T' H' σ' φ' a' w'->ts.any Z.contains=false->NoLate (lateS trunc ops) listed →
     Stand Hs σs Z ws w'/\∀ n ∈ Z,∀ b,Rdb H' σ' n b ↔ Rdb Hs σs n b:=by
    intro T1 i T' H' σ' φ' a' w' ts he hts hN
    obtain ⟨h1,h2⟩:=hS hN
    have hnt:∀ n ∈ Z,n ∉ ts:=fun n hn hnt=>by
     have:=List.any_eq_false.1 hts n hnt
     simp [hn] at this
    have hlt:∀ n ∈ Z,n < H.length:=fun n hn=>Nat.lt_of_lt_of_le (hZ n hn) hlen
    refine ⟨fun n hn b hb=>?_,fun n hn b=>((he.touch n (hlt n hn) (hnt n hn)).1 b).trans (h2 n hn b)⟩
    have hb':=(h2 n hn b).2 hb
    have hbs:b < w.heap.size:=by
     rcases hb' with ⟨e1,cells,hc⟩ | ⟨e1,own,e,l,hc,hpos⟩ | ⟨e1,kk,vk,l,hc⟩ | ⟨e1,hh,e,ll,hc,hpos⟩ | ⟨e1,kk,l,hc⟩
     ·obtain ⟨b',t,cs,h3,h4,h5,_⟩:=h.pre.sat.holds n _ hc
      rw [e1] at h3
      obtain rfl:b=b':=by simpa using h3
      exact (Array.getElem?_eq_some_iff.1 h5).1
     ·cases own with
      | true=>exact (h.pre.sat.holds n _ hc).1.lt b e1
      | false=>exact (h.pre.sat.holds n _ hc).1.lt hpos e1
     ·obtain ⟨b',es,ck,h3,h4,h5,_⟩:=h.pre.sat.holds n _ hc
      rw [e1] at h3
      obtain rfl:b=b':=by simpa using h3
      exact (Array.getElem?_eq_some_iff.1 h5).1
     ·obtain ⟨_,⟨vs,h3,_⟩,_⟩:=h.pre.sat.holds n _ hc
      exact (h3.lt b e1).2
     ·obtain ⟨b',t,cs,h3,h4,h5,_⟩:=h.pre.sat.holds n _ hc
      rw [e1] at h3
      obtain rfl:b=b':=by simpa using h3
      exact (Array.getElem?_eq_some_iff.1 h5).1
    exact ((he.touch n (hlt n hn) (hnt n hn)).2 b hb' hbs).trans (h1 n hn b hb)
   split at hs
   ·rename_i i hft
    obtain ⟨him,o,hoi,htk0,hfree⟩:=firstTake_spec hft
    rw [← hr] at him
    simp only [hoi] at hs
    have hsel':=Region.noSelect_spec hsel
    have hfree':=Region.free_spec hoi hfree
    have hli:=lateS_quiet (trunc:=trunc) hoi (takeS_quiet htk0)
    rcases guardS_sound hs h.pre with ⟨hw,T1,hp,hy⟩ | ⟨hw,T1,hp,hy⟩
    ·split at hy <;> try (exact hy.elim)
     rename_i ps s H' hx
     split at hx <;> try (cases hx;done)
     rename_i htk
     obtain ⟨h1,h2⟩:=reqs_iff hy
     obtain ⟨v,σ',φ',g,hv,hn,hrun⟩:=quietS_sound hp h1 hx
     have he:=quiet_out hp g hv hn o.dst []
     have hnext:=ih ((h.withT hp).step he) (Nat.le_trans hlen he.len) (fun hN=>hstand (T1:=T1) (i:=i) he (by simp) (hback him hN).1) (hLn him) h2
     cases hrn:readName T1 o with
     | none =>
      exact wpAnyL_take (Si:=fun _=>True) hoi hsel' (fun c a w hc=>absurd hc (hpanic c _ w)) hli (.inl fun _=>trivial) fuel listed a w (.inl fun _=>trivial) hfree' him (.inl ⟨hw,fun w' _=>hrun w' fun n hn=>by rw [hrn] at hn;cases hn⟩) trivial hnext
     | some n =>
      have hld:=readName_isLoad hrn
      have hN:=hL i o hoi hld (mem_ready.1 him).1
      obtain ⟨hS1,hS2⟩:=hS hN
      have hnZ:n ∈ Z:=takeS_name htk hrn
      exact wpAnyL_take (Si:=Stand Hs σs Z ws) hoi hsel' (fun c a w hc=>absurd hc (hpanic c _ w)) hli (.inr ⟨fun _ h=>h,fun _ h=>h,fun j oj hj hl=>lateS_spec hl hoi hld hj⟩) fuel listed a w (.inr hN) hfree' him (.inl ⟨hw,fun w' hw'=>hrun w' fun m hm b hb=>by
       rw [hrn] at hm
       simp only [Option.some.injEq] at hm
       subst hm
       have hb':=(hS2 n hnZ b).1 hb
       exact (hw' n hnZ b hb').trans (hS1 n hnZ b hb').symm⟩) hS1 hnext
    ·have he:=skip_out hp o.dst []
     have hnext:=ih ((h.withT hp).step he) (Nat.le_trans hlen he.len) (fun hN=>hstand (T1:=T1) (i:=i) he (by simp) (hback him hN).1) (hLn him) hy
     exact wpAnyL_take (Si:=fun _=>True) hoi hsel' (fun c a w hc=>absurd hc (hpanic c _ w)) hli (.inl fun _=>trivial) fuel listed a w (.inl fun _=>trivial) hfree' him (.inr ⟨hw,rfl⟩) trivial hnext
   ·refine ⟨fun h0=>(by rw [h0] at hr;cases hr),fun i hi=>?_⟩
    have hi':=hi
    rw [hr] at hi'
    have hp:=conj_mem hs _ (List.mem_map.2 ⟨i,hi',rfl⟩)
    obtain ⟨_,oi,hoi,_⟩:=mem_ready.1 hi
    simp only [hoi] at hp
    unfold wpOp
    simp only [hoi]
    rcases guardS_sound hp h.pre with ⟨hw,T1,hpre,hy⟩ | ⟨hw,T1,hpre,hy⟩
    ·rw [if_pos hw]
     refine .inl (Oper.wp_mono (fun a' w' hh=>?_) (stepS_sound hG hpre hy))
     obtain ⟨ts,T',H',σ',φ',he,hk⟩:=hh
     split at hk
     ·rename_i hc
      have hc':lateS trunc ops i=true ∨ ts.any Z.contains=false:=by simpa using hc
      refine ⟨fun hl hN _=>?_,ih ((h.withT hpre).step he) (Nat.le_trans hlen he.len) (fun hN=>?_) (hLn hi) hk⟩
      ·rcases hc' with hc' | hc'
       ·rw [hl] at hc';cases hc'
       ·exact (hstand (T1:=T1) (i:=i) he hc' hN).1
      ·obtain ⟨hN',hl⟩:=hback hi hN
       rcases hc' with hc' | hc'
       ·rw [hl] at hc';cases hc'
       ·exact hstand (T1:=T1) (i:=i) he hc' hN'
     ·exact hk.elim
    ·rw [if_neg (by rw [hw];simp)]
     have he:=skip_out hpre oi.dst []
     exact ⟨fun _ _ hS0=>hS0,ih ((h.withT hpre).step he) (Nat.le_trans hlen he.len) (fun hN=>hstand (T1:=T1) (i:=i) he (by simp) (hback hi hN).1) (hLn hi) hy⟩
end
end Go.Proofs.YtedfbafngmicpaaGreat.Sx
end
section
/- Names anew: what holds of values and chunks holds of them under other names. No program in sight. -/
namespace Go.Proofs.YtedfbafngmicpaaGreat.Sx
open Go

section
variable {C:Ctx}
variable {H H':List (Chunk C)} {σ:Nat->Value} {φ φ':Nat->Nat->Prop} {w w':World}

theorem idxOf_spec:∀ {l:List Nat} {n k:Nat},idxOf n l=some k->l[k]?=some n:=by
 intro l
 induction l with
 | nil=>intro n k h;simp [idxOf] at h
 | cons m l ih =>
  intro n k h
  simp only [idxOf] at h
  split at h
  ·rename_i e;simp only [Option.some.injEq] at h;subst h e;rfl
  ·simp only [Option.map_eq_some_iff] at h
   obtain ⟨j,h1,rfl⟩:=h
   simpa using ih h1
theorem idxOf_nodup:∀ {l:List Nat},l.Nodup->∀ {n k:Nat},l[k]?=some n->idxOf n l=some k:=by
 intro l
 induction l with
 | nil=>intro _ n k h;simp at h
 | cons m l ih =>
  intro hn n k h
  rw [List.nodup_cons] at hn
  cases k with
  | zero=>simp at h;subst h;simp [idxOf]
  | succ k =>
   simp at h
   have hne:¬ m=n:=fun e=>hn.1 (e ▸ List.mem_of_getElem? h)
   simp [idxOf,hne,ih hn.2 h]
theorem idxOf_none {l:List Nat} {n:Nat} (h:idxOf n l=none):n ∉ l:=by
 induction l with
 | nil=>simp
 | cons m l ih =>
  simp only [idxOf] at h
  split at h
  ·cases h
  ·rename_i e
   simp only [Option.map_eq_none_iff] at h
   simp only [List.mem_cons,not_or]
   exact ⟨fun e'=>e e'.symm,ih h⟩

variable {ρ:Nat->Option Nat} {σ':Nat->Value}

theorem allIdx_spec:∀ {l r:List Nat},allIdx ρ l=some r->(∀ n m,ρ n=some m->σ' m=σ n)->r.map σ'=l.map σ/\(∀ m ∈ r,∃ n ∈ l,ρ n=some m):=by
 intro l
 induction l with
 | nil=>intro r h _;simp [allIdx] at h;subst h;exact ⟨rfl,by simp⟩
 | cons n l ih =>
  intro r h hρ
  simp only [allIdx] at h
  split at h <;> try (cases h;done)
  rename_i m r' h1 h2
  simp only [Option.some.injEq] at h
  subst h
  obtain ⟨e1,e2⟩:=ih h2 hρ
  refine ⟨by simp [e1,hρ n m h1],fun k hk=>?_⟩
  rcases List.mem_cons.1 hk with rfl | hk
  ·exact ⟨n,by simp,h1⟩
  ·obtain ⟨n',hn',e⟩:=e2 k hk
   exact ⟨n',by simp [hn'],e⟩

theorem At.ren_rel (hρ:∀ n m,ρ n=some m->σ' m=σ n) {x:At} {v:Value} (h:x.rel σ v):(x.ren ρ).rel σ' v:=by
 cases x with
 | any=>trivial
 | val u=>exact h
 | ptr n off =>
  simp only [At.ren]
  split
  ·rename_i m hm;obtain ⟨b,h1,h2⟩:=h;exact ⟨b,(hρ n m hm).trans h1,h2⟩
  ·trivial
 | eptr n i sz off =>
  simp only [At.ren]
  split
  ·rename_i m hm;obtain ⟨b,o,len,cap,h1,h2⟩:=h;exact ⟨b,o,len,cap,(hρ n m hm).trans h1,h2⟩
  ·trivial
 | slc n =>
  simp only [At.ren]
  split
  ·rename_i m hm;exact (show v=σ n from h).trans (hρ n m hm).symm
  ·trivial
 | fn f cs =>
  simp only [At.ren]
  split
  ·rename_i l hl
   obtain ⟨e1,e2⟩:=allIdx_spec hl hρ
   refine ⟨by rw [e1];exact h.1,fun c hc=>?_⟩
   obtain ⟨n,hn,e⟩:=e2 c hc
   rw [hρ n c e]
   exact h.2 n hn
  ·trivial
theorem At.ren_names {x:At}:∀ m ∈ (x.ren ρ).names,∃ n ∈ x.names,ρ n=some m:=by
 cases x with
 | any=>simp [At.ren,At.names]
 | val u=>simp [At.ren,At.names]
 | ptr n off=>simp only [At.ren];split <;> simp_all [At.names]
 | eptr n i sz off=>simp only [At.ren];split <;> simp_all [At.names]
 | slc n=>simp only [At.ren];split <;> simp_all [At.names]
 | fn f cs =>
  simp only [At.ren]
  split
  ·rename_i l hl
   intro m hm
   exact (allIdx_spec (σ:=fun _=>undef) (σ':=fun _=>undef) hl (fun _ _ _=>rfl)).2 m hm
  ·simp [At.names]
theorem rels_ren (hρ:∀ n m,ρ n=some m->σ' m=σ n) {l:List At} {vs:List Value} (h:Rels (At.rel σ) l vs):Rels (At.rel σ') (l.map (At.ren ρ)) vs :=
 ⟨by simp [h.1],fun i x v hx hv=>by
  rw [List.getElem?_map] at hx
  cases hl:l[i]? with
  | none=>rw [hl] at hx;cases hx
  | some y=>rw [hl] at hx;simp at hx;subst hx;exact At.ren_rel hρ (h.2 i y v hl hv)⟩
theorem TV.ren_rel (hρ:∀ n m,ρ n=some m->σ' m=σ n) {x:TV} {v:Value} (h:x.rel σ v):(x.ren ρ).rel σ' v:=by
 cases x with
 | «at» y=>exact At.ren_rel hρ h
 | agg l=>obtain ⟨cs,e,hr⟩:=h;exact ⟨cs,e,rels_ren hρ hr⟩
theorem TV.ren_names {x:TV}:∀ m ∈ (x.ren ρ).names,∃ n ∈ x.names,ρ n=some m:=by
 cases x with
 | «at» y=>exact At.ren_names
 | agg l =>
  intro m hm
  simp only [TV.ren,TV.names,List.mem_flatMap,List.mem_map] at hm
  obtain ⟨_,⟨y,hy,rfl⟩,hm⟩:=hm
  obtain ⟨n,hn,e⟩:=At.ren_names m hm
  exact ⟨n,List.mem_flatMap.2 ⟨y,hy,hn⟩,e⟩
theorem SV.ren_rel (hρ:∀ n m,ρ n=some m->σ' m=σ n) {x:SV} {v:Value} (h:x.rel σ v):(x.ren ρ).rel σ' v:=by
 cases x with
 | one y=>exact TV.ren_rel hρ h
 | tup l =>
  obtain ⟨vs,e,hr⟩:=h
  refine ⟨vs,e,by simp [hr.1],fun i x v hx hv=>?_⟩
  rw [List.getElem?_map] at hx
  cases hl:l[i]? with
  | none=>rw [hl] at hx;cases hx
  | some y=>rw [hl] at hx;simp at hx;subst hx;exact TV.ren_rel hρ (hr.2 i y v hl hv)
theorem SV.ren_names {x:SV}:∀ m ∈ (x.ren ρ).names,∃ n ∈ x.names,ρ n=some m:=by
 cases x with
 | one y=>exact TV.ren_names
 | tup l =>
  intro m hm
  simp only [SV.ren,SV.names,List.mem_flatMap,List.mem_map] at hm
  obtain ⟨_,⟨y,hy,rfl⟩,hm⟩:=hm
  obtain ⟨n,hn,e⟩:=TV.ren_names m hm
  exact ⟨n,List.mem_flatMap.2 ⟨y,hy,hn⟩,e⟩
theorem Chunk.ren_names {c:Chunk C}:∀ m ∈ (c.ren ρ).names,∃ n ∈ c.names,ρ n=some m:=by
 cases c with
 | box l =>
  intro m hm
  simp only [Chunk.ren,Chunk.names,List.mem_flatMap,List.mem_map] at hm
  obtain ⟨_,⟨y,hy,rfl⟩,hm⟩:=hm
  obtain ⟨n,hn,e⟩:=At.ren_names m hm
  exact ⟨n,List.mem_flatMap.2 ⟨y,hy,hn⟩,e⟩
 | _=>intro m hm;simp [Chunk.ren,Chunk.names] at hm
theorem Holds.ren (hρ:∀ n m,ρ n=some m->σ' m=σ n) {v:Value} {f:Nat->Prop} {c:Chunk C} (h:Holds w σ v f c):Holds w σ' v f (c.ren ρ):=by
 match c with
 | .gone=>exact h
 | .box cells=>obtain ⟨b,t,cs,h1,h2,h3,h4⟩:=h;exact ⟨b,t,cs,h1,h2,h3,rels_ren hρ h4⟩
 | .row true e l=>exact h
 | .row false e l=>exact h
 | .abs x=>exact h
 | .map kk vk l=>exact h
 | .arr _ _=>exact h
 | .rows _ _ _=>exact h
theorem pickH_get {τ:List Nat} {k:Nat} {c:Chunk C} (hlt:∀ n ∈ τ,n < H.length) (h:(pickH τ H)[k]?=some c):∃ n c0,τ[k]?=some n/\H[n]?=some c0/\c=c0.ren (fun n=>idxOf n τ):=by
 unfold pickH at h
 rw [List.getElem?_map] at h
 cases hk:τ[k]? with
 | none=>rw [hk] at h;cases h
 | some n =>
  rw [hk] at h
  simp only [Option.map_some,Option.some.injEq] at h
  refine ⟨n,H.getD n .gone,rfl,?_,h.symm⟩
  exact getD_some (hlt n (List.mem_of_getElem? hk))

theorem Ro.ren {ρ:Nat->Option Nat} {v:Value} {b:Nat} {c:Chunk C}:Ro w v b (c.ren ρ) ↔ Ro w v b c:=by
 cases c <;> exact Iff.rfl

/-- A choice of names. -/
theorem Sat.pick (h:Sat C σ φ w H) {τ:List Nat} (hnd:τ.Nodup) (hlt:∀ n ∈ τ,n < H.length) :
  Sat C (fun k=>σ (τ.getD k 0)) (fun k b=>k < τ.length/\φ (τ.getD k 0) b) w (pickH τ H):=by
 have hgd:∀ {k n:Nat},τ[k]?=some n->τ.getD k 0=n/\k < τ.length:=fun {k n} hk=>by
  refine ⟨by simp [List.getD_eq_getElem?_getD,hk],(List.getElem?_eq_some_iff.1 hk).1⟩
 have hρ:∀ n m,idxOf n τ=some m->σ (τ.getD m 0)=σ n:=fun n m hm=>by rw [(hgd (idxOf_spec hm)).1]
 refine ⟨fun k c hc=>?_,fun k m b hk hm=>?_,fun k b hb=>h.bd _ b hb.2,fun k c hl b hb m hm=>?_,fun k hk b hb=>?_,fun k c hc m hm=>?_⟩
 ·obtain ⟨n,c0,h1,h2,rfl⟩:=pickH_get hlt hc
  have hh:=(h.holds n c0 h2).ren (ρ:=fun n=>idxOf n τ) (σ':=fun k=>σ (τ.getD k 0)) hρ
  have e1:=hgd h1
  have e2:(fun b=>k < τ.length/\φ (τ.getD k 0) b)=φ n:=funext fun b=>propext ⟨fun hh=>by rw [e1.1] at hh;exact hh.2,fun hh=>⟨e1.2,by rw [e1.1];exact hh⟩⟩
  rw [e2,e1.1]
  exact hh
 ·have:=h.dis _ _ b hk.2 hm.2
  have hk1:=getD_some (d:=0) hk.1
  have hm1:=getD_some (d:=0) hm.1
  rw [this] at hk1
  exact Option.some.inj ((idxOf_nodup hnd hk1).symm.trans (idxOf_nodup hnd hm1))
 ·obtain ⟨n,c0,h1,h2,h3⟩:=pickH_get hlt hl
  subst h3
  have hb':Ro w (σ n) b c0:=by have:=(hgd h1).1;simp only [this] at hb;exact Ro.ren.1 hb
  exact h.imm n c0 h2 b hb' _ hm.2
 ·simp [pickH] at hk
  have:=hb.1
  omega
 ·obtain ⟨n,c0,h1,h2,rfl⟩:=pickH_get hlt hc
  obtain ⟨n',hn',e⟩:=Chunk.ren_names m hm
  have:=(List.getElem?_eq_some_iff.1 (idxOf_spec e)).1
  simpa [pickH] using this

theorem isOwn_some {n:Nat}:isOwn H n=true ↔ (∃ e l,H[n]?=some (.row true e l)) ∨ ∃ hh e ll,H[n]?=some (.rows hh e ll):=by
 unfold isOwn
 split
 ·rename_i e l hh;exact ⟨fun _=>.inl ⟨e,l,hh⟩,fun _=>rfl⟩
 ·rename_i e l ll hh;exact ⟨fun _=>.inr ⟨e,l,ll,hh⟩,fun _=>rfl⟩
 ·rename_i hh h2
  refine ⟨fun h=>by simp at h,?_⟩
  rintro (⟨e,l,h⟩ | ⟨a,e,l,h⟩)
  ·exact absurd h (hh e l)
  ·exact absurd h (h2 a e l)

/-- The same kind of chunk under other names. -/
theorem Rdb.same {H1 H2:List (Chunk C)} {σ1 σ2:Nat->Value} {n m b:Nat} {ρ:Nat->Option Nat} (hσ:σ2 m=σ1 n) (hH:H2[m]?=(H1[n]?).map (Chunk.ren ρ)):Rdb H2 σ2 m b ↔ Rdb H1 σ1 n b:=by
 unfold Rdb
 rw [hσ,hH]
 cases H1[n]? with
 | none=>simp
 | some c=>cases c <;> simp [Chunk.ren]

theorem isOwn_ren {H2:List (Chunk C)} {n m:Nat} {ρ:Nat->Option Nat} (h:H2[m]?=(H[n]?).map (Chunk.ren ρ)):isOwn H2 m=isOwn H n:=by
 unfold isOwn
 rw [h]
 cases H[n]? with
 | none=>rfl
 | some c =>
  cases c with
  | row own e l=>cases own <;> rfl
  | _=>rfl

end
end Go.Proofs.YtedfbafngmicpaaGreat.Sx
end
section
/- The symbolic run is sound: bodies and functions. No program in sight. -/
namespace Go.Proofs.YtedfbafngmicpaaGreat.Sx
open Go

/-- A loop seen from its inside. -/
def LW (P:Program) (c:Code) (Q:Exit->Act->World->Prop) (a:Act) (w:World):Prop :=
 ∀ b k cs,∃ e a' w',Q e a' w'/\Arrives P (lone (b.at a (.code c :: .inLoop c :: k)) cs w) b k cs e a' w'
theorem LW.loop {P:Program} {Q:Exit->Act->World->Prop} {a:Act} {w:World} {c:Code} (h:LW P c Q a w):(Code.loop c).wp P Q a w:=by
 intro b k cs
 obtain ⟨e,a',w',hq,harr⟩:=h b k cs
 exact ⟨e,a',w',hq,.of_steps (.one step_loop) harr⟩
theorem LW.step {P:Program} {Q:Exit->Act->World->Prop} {a:Act} {w:World} {c:Code} (h:c.wp P (Exit.then (LW P c Q) Q) a w):LW P c Q a w:=by
 intro b k cs
 obtain ⟨e,a₁,w₁,hq,harr⟩:=h b (.inLoop c :: k) cs
 cases e with
 | normal =>
  obtain ⟨e₂,a₂,w₂,hq₂,harr₂⟩:=hq b k cs
  exact ⟨e₂,a₂,w₂,hq₂,.of_steps (Steps.trans harr (.one step_inLoop)) harr₂⟩
 | exit id=>exact ⟨_,a₁,w₁,hq,.pass (x:=.inLoop c) rfl (fun _ _=>.inl (by simp)) harr⟩
 | goto l=>exact ⟨_,a₁,w₁,hq,.pass (x:=.inLoop c) rfl (fun _ _=>.inl (by simp)) harr⟩
 | ret=>exact ⟨_,a₁,w₁,hq,.pass (x:=.inLoop c) rfl (fun _ _=>.inl (by simp)) harr⟩
 | panic ch=>exact ⟨_,a₁,w₁,hq,.pass (x:=.inLoop c) rfl (fun _ _=>.inl (by simp)) harr⟩
 | outgrown=>exact ⟨_,a₁,w₁,hq,.pass (x:=.inLoop c) rfl (fun _ _=>.inl (by simp)) harr⟩
theorem LW.ghost {P:Program} {Q:Exit->Act->World->Prop} {c:Code} (I:Nat->Act->World->Prop)
  (round:∀ n a w,I n a w->c.wp P (Exit.then (fun a' w'=>∃ n',n' < n/\I n' a' w') Q) a w):∀ n {a:Act} {w:World},I n a w->LW P c Q a w:=by
 intro n
 induction n using Nat.strongRecOn with
 | ind n ih =>
  intro a w h
  refine LW.step (wp_mono (round n a w h) fun e a' w' hd=>?_)
  cases e with
  | normal =>
   obtain ⟨n',hlt,hI⟩:=hd
   exact ih n' hlt hI
  | exit id=>exact hd
  | ret=>exact hd
  | goto l=>exact hd
  | panic ch=>exact hd
  | outgrown=>exact hd

section
variable {C:Ctx}
variable {W:List Nat} {B:Base C} {T:List SV} {H:List (Chunk C)} {σ:Nat->Value} {φ:Nat->Nat->Prop} {a:Act} {w:World} {o:Oper}

theorem At.le_rel {x y:At} {v:Value} (h:At.le x y) (hr:x.rel σ v):y.rel σ v:=by
 unfold At.le at h
 split at h
 ·trivial
 ·split at h
  ·split at h
   ·rename_i hc;obtain ⟨rfl,rfl⟩:=hc;exact hr
   ·exact h.elim
  ·exact h.elim
 ·split at h
  ·split at h
   ·rename_i hc;subst hc;exact hr
   ·exact h.elim
  ·exact h.elim
 ·split at h
  ·subst h;exact hr
  ·exact h.elim
 ·subst h;exact hr

theorem lesAt_rel:∀ {l m:List At} {vs:List Value},lesAt l m->Rels (At.rel σ) l vs->Rels (At.rel σ) m vs:=by
 intro l
 induction l with
 | nil=>intro m vs h hr;cases m with
  | nil=>exact hr
  | cons _ _=>simp [lesAt] at h
 | cons x l ih =>
  intro m vs h hr
  cases m with
  | nil=>simp [lesAt] at h
  | cons y m =>
   match vs,hr with
   | [],hr=>exact absurd hr.1 (by simp)
   | v :: vs,hr =>
    have h0:x.rel σ v:=hr.2 0 _ _ rfl rfl
    have ht:Rels (At.rel σ) l vs:=⟨by simpa using hr.1,fun i a b ha hb=>hr.2 (i+1) a b (by simpa using ha) (by simpa using hb)⟩
    unfold lesAt at h
    split at h
    ·exact Rels.cons trivial (ih h ht)
    ·exact Rels.cons (At.le_rel h.1 h0) (ih h.2 ht)

theorem SV.le_rel {x y:SV} {v:Value} (h:SV.le x y) (hr:x.rel σ v):y.rel σ v:=by
 unfold SV.le at h
 split at h
 ·split at h
  ·trivial
  ·split at h
   ·exact At.le_rel h hr
   ·exact h.elim
 ·split at h
  ·obtain ⟨cs,e,hr'⟩:=hr;exact ⟨cs,e,lesAt_rel h hr'⟩
  ·exact h.elim
 ·subst h;exact hr

theorem lesT_rel:∀ {T T1:List SV} {vs:List Value},lesT T T1->Rels (SV.rel σ) T vs->Rels (SV.rel σ) T1 vs:=by
 intro T
 induction T with
 | nil=>intro m vs h hr;cases m with
  | nil=>exact hr
  | cons _ _=>simp [lesT] at h
 | cons x l ih =>
  intro m vs h hr
  cases m with
  | nil=>simp [lesT] at h
  | cons y m =>
   match vs,hr with
   | [],hr=>exact absurd hr.1 (by simp)
   | v :: vs,hr =>
    have h0:x.rel σ v:=hr.2 0 _ _ rfl rfl
    have ht:Rels (SV.rel σ) l vs:=⟨by simpa using hr.1,fun i a b ha hb=>hr.2 (i+1) a b (by simpa using ha) (by simpa using hb)⟩
    unfold lesT at h
    split at h
    ·exact Rels.cons trivial (ih h ht)
    ·exact Rels.cons (SV.le_rel h.1 h0) (ih h.2 ht)

theorem lesH_get:∀ {H H1:List (Chunk C)},lesH H H1->∀ (n:Nat) (d:Chunk C),H1[n]?=some d->∃ c,H[n]?=some c/\Chunk.le c d:=by
 intro H
 induction H with
 | nil=>intro H1 h n d hd;cases H1 with
  | nil=>simp at hd
  | cons _ _=>simp [lesH] at h
 | cons x l ih =>
  intro H1 h n d hd
  cases H1 with
  | nil=>simp at hd
  | cons y m =>
   cases n with
   | zero=>simp at hd;subst hd;exact ⟨x,rfl,h.1⟩
   | succ n=>simp at hd;simpa using ih h.2 n d hd

/-- Is the chunk's memory owned? -/
def Chunk.keeps:Chunk C->Bool
 | .gone=>false
 | .row false _ _=>false
 | _=>true

theorem Chunk.le_holds (hC:C.OK) {c d:Chunk C} {v:Value} {f:Nat->Prop} (h:Chunk.le c d) (hh:Holds w σ v f c):Holds w σ v (fun b=>f b/\d.keeps=true) d:=by
 unfold Chunk.le at h
 split at h
 ·trivial
 ·rename_i m
  split at h
  ·obtain ⟨b,t,cs,h1,h2,h3,h4⟩:=hh
   exact ⟨b,t,cs,h1,fun k=>by simp [h2 k,Chunk.keeps],h3,lesAt_rel h h4⟩
  ·exact h.elim
 ·rename_i o' e' l'
  split at h
  ·rename_i o e l
   split at h
   ·rename_i hoo
    split at h
    ·rename_i he _
     subst he
     simp only at h
     subst h
     cases o' with
     | true =>
      have:o=true:=by simpa using hoo
      subst this
      exact ⟨hh.1,fun k=>by simp [hh.2 k,Chunk.keeps]⟩
     | false =>
      obtain ⟨A,c,h1,h2⟩:=hh.rd hC
      exact ⟨⟨A,c,h1,h2⟩,fun k hk=>by simp [Chunk.keeps] at hk⟩
    ·exact h.elim
   ·exact h.elim
  ·exact h.elim
 ·rename_i y
  split at h
  ·subst h
   exact ⟨by simpa [Chunk.keeps] using hh.1,hh.2⟩
  ·exact h.elim
 ·rename_i kk vk m
  split at h
  ·rename_i k v l
   split at h
   ·rename_i hkv
    obtain ⟨rfl,rfl⟩:=hkv
    subst h
    obtain ⟨b,es,ck,h1,h2,h3,h4⟩:=hh
    exact ⟨b,es,ck,h1,fun q=>by simp [h2 q,Chunk.keeps],h3,h4⟩
   ·exact h.elim
  ·exact h.elim
 ·rename_i kk m
  split at h
  ·rename_i k l
   split at h
   ·rename_i hk
    subst hk h
    obtain ⟨b,t,cs,h1,h2,h3,h4⟩:=hh
    exact ⟨b,t,cs,h1,fun q=>by simp [h2 q,Chunk.keeps],h3,h4⟩
   ·exact h.elim
  ·subst h
   obtain ⟨b,t,cs,h1,h2,h3,h4⟩:=hh
   refine ⟨b,t,cs,h1,fun q=>by simp [h2 q,Chunk.keeps],h3,?_⟩
   refine List.ext_getElem? fun i=>?_
   cases hi:m[i]? with
   | none =>
    have:cs.toList.length=m.length:=by have:=h4.1;simpa using this.symm
    rw [List.getElem?_map,hi,List.getElem?_eq_none (by have:=List.getElem?_eq_none_iff.1 hi;omega)];rfl
   | some z =>
    obtain ⟨u,hu,hr⟩:=h4.get (i:=i) (a:=.val (.int kk z)) (by rw [List.getElem?_map,hi];rfl)
    rw [hu,List.getElem?_map,hi]
    exact congrArg some hr
  ·exact h.elim
 ·rename_i h' e' m
  split at h
  ·split at h
   ·rename_i q1 _
    subst q1
    split at h
    ·rename_i q2 _
     subst q2
     simp only at h
     subst h
     exact ⟨hh.1,hh.2.1,fun k=>by simp [hh.2.2 k,Chunk.keeps]⟩
    ·exact h.elim
   ·exact h.elim
  ·exact h.elim

theorem Chunk.le_row {c:Chunk C} {o':Bool} {e':C.EC} {l':List (C.α e')} (h:Chunk.le c (.row o' e' l')):∃ o,c = .row o e' l'/\(o'=true->o=true):=by
 unfold Chunk.le at h
 split at h
 ·rename_i heq;cases heq
 ·rename_i heq;cases heq
 ·rename_i o2 e2 l2 heq
  injection heq with h1 h2 h3
  subst h1 h2
  have h3:=eq_of_heq h3
  subst h3
  split at h
  ·rename_i o e l
   split at h
   ·rename_i hoo
    split at h
    ·rename_i he _
     subst he
     simp only at h
     subst h
     exact ⟨o,rfl,fun e=>by subst e;simpa using hoo⟩
    ·exact h.elim
   ·exact h.elim
  ·exact h.elim
 all_goals (rename_i heq;cases heq)
theorem Chunk.le_rows {c:Chunk C} {h' e':C.EC} {l':List (List (C.α e'))} (h:Chunk.le c (.rows h' e' l')):c = .rows h' e' l':=by
 unfold Chunk.le at h
 cases c <;> first | exact h.elim | skip
 dsimp only at h
 split at h <;> try (exact h.elim)
 rename_i q1 _
 subst q1
 split at h <;> try (exact h.elim)
 rename_i q2 _
 subst q2
 simp only at h
 subst h
 rfl

/-- A weaker state. -/
theorem Sat.weaken (hC:C.OK) (h:Sat C σ φ w H) {H1:List (Chunk C)} (hl:lesH H H1) (hcl:∀ c ∈ H1,∀ m ∈ c.names,m < H1.length) :
  Sat C σ (fun n b=>φ n b/\∃ d,H1[n]?=some d/\d.keeps=true) w H1 where
 holds n d hd:=by
  obtain ⟨c,hc,hle⟩:=lesH_get hl n d hd
  have:=Chunk.le_holds hC hle (h.holds n c hc)
  have e:(fun b=>φ n b/\d.keeps=true)=(fun b=>φ n b/\∃ d,H1[n]?=some d/\d.keeps=true):=by
   funext b
   simp [hd]
  rw [e] at this
  exact this
 dis n m b h1 h2:=h.dis n m b h1.1 h2.1
 bd n b hb:=h.bd n b hb.1
 imm n d hd b hb m hm:=by
  obtain ⟨c,hc,hle⟩:=lesH_get hl n _ hd
  cases d with
  | rows h' e' l' =>
   obtain rfl:=Chunk.le_rows hle
   exact h.imm n _ hc b hb m hm.1
  | gone=>exact hb.elim
  | box _=>exact (Ro.box hb).elim
  | abs _=>exact hb.elim
  | map _ _ _=>exact (Ro.map hb).elim
  | arr _ _=>exact (Ro.arr hb).elim
  | row o' e l =>
  cases o' with
  | true=>exact (Ro.own hb).elim
  | false =>
  obtain ⟨o,rfl,_⟩:=Chunk.le_row hle
  obtain ⟨hpos,hb⟩:=hb
  cases o with
  | false=>exact h.immr n e l hc hpos b hb m hm.1
  | true =>
   have hnm:=h.dis m n b hm.1 (((h.holds n _ hc).2 b).2 hb)
   subst hnm
   obtain ⟨d,hd',hk⟩:=hm.2
   rw [hd] at hd'
   simp only [Option.some.injEq] at hd'
   subst hd'
   simp [Chunk.keeps] at hk
 out n hn b hb:=by
  obtain ⟨d,hd,_⟩:=hb.2
  rw [List.getElem?_eq_none hn] at hd
  cases hd
 cl n c hc m hm:=hcl c (List.mem_of_getElem? hc) m hm

theorem okNames_spec {base:Nat} {T:List SV} {H:List (Chunk C)} (h:okNames base T H=true):base<=H.length/\(∀ s ∈ T,∀ m ∈ s.names,m < H.length)/\∀ c ∈ H,∀ m ∈ c.names,m < H.length:=by
 unfold okNames at h
 simp only [Bool.and_eq_true,decide_eq_true_eq,List.all_eq_true] at h
 exact ⟨h.1.1,h.1.2,h.2⟩

/-- What chunks of a state's beginning must still be: rows that were not touched keep their list. -/
theorem St.weaken (h:St C B W T H σ φ a w) {T1:List SV} {H1:List (Chunk C)} {W1:List Nat} (hT:lesT T T1) (hl:lesH H H1) (hok:okNames B.H.length T1 H1=true) (hW:∀ n,n ∈ W->B.H.length<=n ∨ n ∈ W1)
  (hst:∀ n,n < B.H.length->n ∉ W1->∀ b,Rdb H1 σ n b ↔ Rdb H σ n b) :
  St C B W1 T1 H1 σ (fun n b=>φ n b/\∃ d,H1[n]?=some d/\d.keeps=true) a w:=by
 obtain ⟨h1,h2,h3⟩:=okNames_spec hok
 refine ⟨⟨h.pre.ok,lesT_rel hT h.pre.tm,h2,h.pre.sat.weaken h.pre.ok hl h3⟩,h.dfs,?_,h1,h.agree,fun n hn ho=>h.own n hn ?_,fun n hn hnW=>?_⟩
 ·exact h.adv.trans ⟨rfl,rfl,rfl,Nat.le_refl _,fun _ _ _=>rfl,fun n b hb=>.inl ⟨n,hb.1⟩⟩
 ·unfold isOwn at ho
  split at ho
  ·rename_i e l hH
   obtain ⟨c,hc,hle⟩:=lesH_get hl n _ hH
   obtain ⟨o,rfl,ho'⟩:=Chunk.le_row hle
   have:=ho' rfl
   subst this
   simp [isOwn,hc]
  ·rename_i h' e l hH
   obtain ⟨c,hc,hle⟩:=lesH_get hl n _ hH
   obtain rfl:=Chunk.le_rows hle
   simp [isOwn,hc]
  ·cases ho
 ·obtain ⟨h4,h5,h6⟩:=h.stand n hn fun e=>(hW n e).elim (fun hle=>by omega) hnW
  exact ⟨h4,fun b=>(hst n hn hnW b).trans (h5 b),h6⟩

variable {A:Ann C}

theorem rdb_row {n:Nat} {own:Bool} {e:C.EC} {l:List (C.α e)} (hH:H[n]?=some (.row own e l)) (b:Nat):Rdb H σ n b ↔ (σ n).ownBlock=some b/\0 < l.length:=by
 constructor
 ·rintro (⟨_,cells,h⟩ | ⟨h,own',e',l',h2,hp⟩ | ⟨_,kk,vk,l',h⟩ | ⟨_,hh,e',l',h,_⟩ | ⟨_,kk,l',h⟩)
  ·rw [hH] at h;cases h
  ·rw [hH] at h2
   simp only [Option.some.injEq] at h2
   injection h2 with _ h3 h4
   subst h3
   have h4:=eq_of_heq h4
   subst h4
   exact ⟨h,hp⟩
  ·rw [hH] at h;cases h
  ·rw [hH] at h;cases h
  ·rw [hH] at h;cases h
 ·rintro ⟨h1,h2⟩
  exact .inr (.inl ⟨h1,own,e,l,hH,h2⟩)

theorem okBase_rdb {base:Nat} {wr:List Nat} {H1:List (Chunk C)} (h:okBase base wr H1=true) (hl:lesH H H1) {n:Nat} (hn:n < base) (hw:n ∉ wr) (b:Nat):Rdb H1 σ n b ↔ Rdb H σ n b:=by
 unfold okBase at h
 have h1:=List.all_eq_true.1 h n (List.mem_range.2 hn)
 simp only [Bool.or_eq_true] at h1
 rcases h1 with h1 | h1
 ·exact absurd (by simpa using h1) hw
 ·split at h1
  ·cases h1
  ·rename_i d hng hd
   obtain ⟨c,hc,hle⟩:=lesH_get hl n d hd
   cases d with
   | gone=>exact (hng rfl).elim
   | box m =>
    unfold Chunk.le at hle
    unfold Rdb
    cases c <;> simp_all
   | row o e l =>
    obtain ⟨o',rfl,_⟩:=Chunk.le_row hle
    rw [rdb_row hd,rdb_row hc]
   | abs x =>
    unfold Chunk.le at hle
    unfold Rdb
    cases c <;> simp_all
   | map kk vk l =>
    unfold Chunk.le at hle
    unfold Rdb
    cases c <;> simp_all
   | rows h' e' l' =>
    obtain rfl:=Chunk.le_rows hle
    unfold Rdb
    rw [hd,hc]
   | arr kk l =>
    unfold Chunk.le at hle
    unfold Rdb
    cases c <;> simp_all
  ·cases h1

theorem nodupB_spec:∀ {l:List Nat},nodupB l=true->l.Nodup:=by
 intro l
 induction l with
 | nil=>intro _;exact List.nodup_nil
 | cons n l ih =>
  intro h
  simp only [nodupB,Bool.and_eq_true] at h
  exact List.nodup_cons.2 ⟨by simpa using h.1,ih h.2⟩

theorem St.rename (h:St C B W T H σ φ a w) {τ:List Nat} (hnd:τ.Nodup) (hlt:∀ n ∈ τ,n < H.length) (hlow:∀ n,n < B.H.length->τ[n]?=some n) (hlen:B.H.length<=τ.length) :
  St C B W (T.map (SV.ren fun n=>idxOf n τ)) (pickH τ H) (fun k=>σ (τ.getD k 0)) (fun k b=>k < τ.length/\φ (τ.getD k 0) b) a w:=by
 have hgd:∀ {k n:Nat},τ[k]?=some n->τ.getD k 0=n:=fun {k n} hk=>by simp [List.getD_eq_getElem?_getD,hk]
 have hρ:∀ n m,idxOf n τ=some m->σ (τ.getD m 0)=σ n:=fun n m hm=>by rw [hgd (idxOf_spec hm)]
 have hrow:∀ n,n < B.H.length->(pickH τ H)[n]?=(H[n]?).map (Chunk.ren fun n=>idxOf n τ):=fun n hn=>by
  unfold pickH
  rw [List.getElem?_map,hlow n hn,getD_some (d:=.gone) (Nat.lt_of_lt_of_le hn h.len)]
  rfl
 refine ⟨⟨h.pre.ok,⟨by simp [h.pre.tm.1],fun i x v hx hv=>?_⟩,fun x hx m hm=>?_,h.pre.sat.pick hnd hlt⟩,h.dfs,⟨h.adv.os,h.adv.tape,h.adv.output,h.adv.size,h.adv.fr,fun n b hb=>h.adv.grow _ b hb.2⟩,by simpa [pickH] using hlen,fun n hn ho=>?_,fun n hn ho=>?_,fun n hn hnW=>?_⟩
 ·rw [List.getElem?_map] at hx
  cases hi:T[i]? with
  | none=>rw [hi] at hx;cases hx
  | some y=>rw [hi] at hx;simp at hx;subst hx;exact SV.ren_rel hρ (h.pre.tm.2 i y v hi hv)
 ·obtain ⟨y,hy,rfl⟩:=List.mem_map.1 hx
  obtain ⟨n,_,e⟩:=SV.ren_names m hm
  simpa [pickH] using (List.getElem?_eq_some_iff.1 (idxOf_spec e)).1
 ·rw [hgd (hlow n hn)]
  exact h.agree n hn ho
 ·refine h.own n hn ?_
  rw [isOwn_ren (hrow n hn)] at ho
  exact ho
 ·obtain ⟨h4,h5,h6⟩:=h.stand n hn hnW
  refine ⟨by simp only [hgd (hlow n hn)];exact h4,fun b=>?_,h6⟩
  rw [← h5 b]
  exact Rdb.same (by simp only [hgd (hlow n hn)]) (hrow n hn)

theorem meetO_sound (h:St C B W T H σ φ a w) (hb:A.base=B.H.length) {i:Inv C} {T1:List SV} {x:i.X} (hm:meetO C A i W T T1 H x):∃ σ' φ',St C B i.wr T1 (i.hf x) σ' φ' a w:=by
 unfold meetO at hm
 simp only at hm
 split at hm
 ·rename_i hc
  simp only [Bool.and_eq_true] at hc
  obtain ⟨hc1,hc2,hc3,hc4,hc5⟩:=hc
  rw [hb] at hc1 hc2
  have hle:B.H.length<=(i.hf x).length:=by
   simp only [okNames,Bool.and_eq_true,decide_eq_true_eq] at hc1
   exact hc1.1.1
  have hst:=h.rename (nodupB_spec hc4) (fun n hn=>by simpa using List.all_eq_true.1 hc5 n hn) (fun n hn=>by
   unfold meetN
   simp only
   rw [List.getElem?_map,List.getElem?_range (by omega)]
   simp [hb,hn]) (by simpa [meetN] using hle)
  exact ⟨_,_,hst.weaken hm.1 hm.2 hc1 (fun n hn=>by have:=List.all_eq_true.1 hc3 n hn;rw [hb] at this;simpa using this) fun n hn hnw b=>okBase_rdb hc2 hm.2 hn hnw b⟩
 ·exact hm.elim

theorem St.dup (h:St C B W T H σ φ a w) {s n:Nat} {e:C.EC} {l:List (C.α e)} (hT:T[s]?=some (.one (.at (.slc n)))) (hH:H[n]?=some (.row false e l)):∃ σ' φ',St C B W (T.set s (.one (.at (.slc H.length)))) (H ++ [.row false e l]) σ' φ' a w:=by
 obtain ⟨v,hv,hr⟩:=h.pre.tm.get hT
 have hr:v=σ n:=hr
 have g:=dup_sound h.pre.ok h.pre.sat hH
 have e0:a.put none (σ n)=a:=rfl
 have q:=quiet_out h.pre g (s:=.one (.at (.slc H.length))) (v:=σ n) (by show σ n=_;simp) (by intro m hm;simp [SV.names,TV.names,At.names] at hm;subst hm;simp) none []
 have st:=h.step q
 rw [e0] at st
 refine ⟨_,_,st.withT ⟨h.pre.ok,?_,?_,g.sat⟩⟩
 ·have:=st.pre.tm.set s (a:=.one (.at (.slc H.length))) (b:=v) (by show v=_;simp [hr])
  have e1:a.tmps.toList.set s v=a.tmps.toList:=by
   apply List.ext_getElem?
   intro k
   rw [List.getElem?_set]
   split
   ·rename_i hk
    subst hk
    split
    ·exact hv.symm
    ·rename_i hlt
     rw [List.getElem?_eq_none (by omega)] at hv
     cases hv
   ·rfl
  rw [e1] at this
  exact this
 ·intro x hx m hm
  rcases List.mem_or_eq_of_mem_set hx with hx | rfl
  ·exact Nat.lt_of_lt_of_le (h.pre.tcl x hx m hm) g.len
  ·simp [SV.names,TV.names,At.names] at hm;subst hm;simp
theorem St.grow (h:St C B W T H σ φ a w) {σ':Nat->Value} {φ':Nat->Nat->Prop} {H':List (Chunk C)} (g:Grows C σ φ H σ' φ' H' w):St C B W T H' σ' φ' a w :=
 h.step (quiet_out h.pre g (s:=.one (.at .any)) (v:=undef) trivial (by intro m hm;simp [SV.names,TV.names,At.names] at hm) none [])
theorem copyS_sound:∀ (r:List Nat) {T:List SV} {H:List (Chunk C)} {σ:Nat->Value} {φ:Nat->Nat->Prop},St C B W T H σ φ a w->∃ σ' φ',St C B W (copyS r T H).1 (copyS r T H).2 σ' φ' a w:=by
 intro r
 induction r with
 | nil=>intro T H σ φ h;exact ⟨σ,φ,h⟩
 | cons s r ih =>
  intro T H σ φ h
  unfold copyS
  split
  ·rename_i n hn
   split
   ·rename_i e l hH
    have hT:T[s]?=some (.one (.at (.slc n))):=by
     rw [List.getD_eq_getElem?_getD] at hn
     cases hT':T[s]? with
     | none=>rw [hT'] at hn;simp at hn
     | some x=>rw [hT'] at hn;simp at hn;rw [hn]
    obtain ⟨σ1,φ1,h1⟩:=h.dup hT hH
    exact ih h1
   ·rename_i e l hH
    have hT:T[s]?=some (.one (.at (.slc n))):=by
     rw [List.getD_eq_getElem?_getD] at hn
     cases hT':T[s]? with
     | none=>rw [hT'] at hn;simp at hn
     | some x=>rw [hT'] at hn;simp at hn;rw [hn]
    have hn':n < H.length:=(List.getElem?_eq_some_iff.1 hH).1
    have hf:=h.grow (freeze_sound h.pre.ok h.pre.sat hH)
    obtain ⟨σ1,φ1,h1⟩:=hf.dup hT (List.getElem?_set_self hn')
    rw [List.length_set] at h1
    exact ih h1
   ·exact ih h
  ·exact ih h
theorem meetS_sound (h:St C B W T H σ φ a w) (hb:A.base=B.H.length) {i:Inv C} {T1:List SV} {x:i.X} (hm:meetS C A i W T T1 H x):∃ σ' φ',St C B i.wr T1 (i.hf x) σ' φ' a w:=by
 unfold meetS at hm
 split at hm
 ·exact meetO_sound h hb hm
 ·obtain ⟨σ1,φ1,h1⟩:=copyS_sound _ h
  exact meetO_sound h1 hb hm

/-- What a body's run comes to, of the real thing. -/
def Den (C:Ctx) (B:Base C) (K:Ex->List Nat->List SV->List (Chunk C)->Prop):Exit->Act->World->Prop
 | .normal,a,w=>∃ W T H σ φ,St C B W T H σ φ a w/\K .normal W T H
 | .exit id,a,w=>∃ W T H σ φ,St C B W T H σ φ a w/\K (.exit id) W T H
 | .ret,a,w=>∃ W T H σ φ,St C B W T H σ φ a w/\K .ret W T H
 | _,_,_=>False

theorem St.setBool (h:St C B W T H σ φ a w) {d:Nat} {b:Bool} (hT:T.getD d (.one (.at .any)) = .one (.at (.val (.bool b)))):a.eval (.tmp d) = .bool b/\St C B W (T.set d (vb b)) H σ φ a w:=by
 have hT':T[d]?=some (.one (.at (.val (.bool b)))):=by
  rw [List.getD_eq_getElem?_getD] at hT
  cases hT':T[d]? with
  | none=>rw [hT'] at hT;simp at hT
  | some x=>rw [hT'] at hT;simp at hT;rw [hT]
 obtain ⟨v,hv,hr⟩:=h.pre.tm.get hT'
 have hvb:v = .bool b:=hr
 subst hvb
 have hv':a.tmps[d]?=some (.bool b):=by rw [← Array.getElem?_toList];exact hv
 refine ⟨by simp [Act.eval,Array.getD_eq_getD_getElem?,hv'],?_⟩
 have e:T.set d (vb b)=T:=by
  apply List.ext_getElem?
  intro k
  rw [List.getElem?_set]
  split
  ·rename_i hk
   subst hk
   split
   ·exact hT'.symm
   ·rename_i hlt
    rw [List.getElem?_eq_none (by omega)] at hT'
    cases hT'
  ·rfl
 rw [e]
 exact h

theorem run_sound (hC:C.OK) (hG:GOK C A.Γ) (hb:A.base=B.H.length):∀ (c:Code) (lv:Nat->Bool) (K:Ex->List Nat->List SV->List (Chunk C)->Prop) {W:List Nat} {T:List SV} {H:List (Chunk C)} {σ:Nat->Value} {φ:Nat->Nat->Prop} {a:Act} {w:World},
  run C A c lv K W T H->St C B W T H σ φ a w->c.wp C.P (Den C B K) a w:=by
 intro c
 induction c with
 | skip=>intro lv K W T H σ φ a w hr h;exact wp_skip ⟨W,T,H,σ,φ,h,hr⟩
 | region id ops d =>
  intro lv K W T H σ φ a w hr h
  simp only [run] at hr
  cases d with
  | true =>
   simp only [if_true] at hr
   split at hr
   ·rename_i hsel
    refine wp_region_any hC.mixed (wpAnyL.any (S:=Stand H σ (stayS A.quiet A.trunc T H ops) { w with drawn:=w.drawn+1 }) (late:=lateS A.trunc ops) ?_)
    have hN:NoLate (lateS A.trunc ops) (Array.replicate ops.size false):=fun j hj=>by
     have hlt:j < ops.size:=by
      unfold lateS at hj
      split at hj
      ·cases hj
      ·rename_i p hp
       exact (Array.getElem?_eq_some_iff.1 hp).1
     simp [hlt]
    exact anyS_sound hG (fun hst hk=>⟨_,_,_,_,_,hst,hk⟩) (fun c a w hh=>hh) hsel (Hs:=H) (σs:=σ) (fun n hn=>by
     unfold stayS at hn
     exact List.mem_range.1 (List.mem_filter.1 hn).1) ops.size (h.drawn _) (Nat.le_refl _) (fun _=>⟨fun _ _ _ _=>rfl,fun _ _ _=>Iff.rfl⟩) (fun _ _ _ _ _=>hN) hr
   ·exact hr.elim
  | false =>
   simp only [Bool.false_eq_true,if_false] at hr
   exact wp_region_list (seqS_sound hG (fun hst hk=>⟨_,_,_,_,_,hst,hk⟩) ops.toList h hr)
 | seq x y ihx ihy =>
  intro lv K W T H σ φ a w hr h
  simp only [run] at hr
  split at hr
  ·refine wp_seq (wp_mono (ihx _ _ hr h) fun e a' w' hd=>?_)
   cases e with
   | normal =>
    obtain ⟨W',T',H',σ',φ',hst,hk⟩:=hd
    exact ihy _ _ hk hst
   | exit id=>exact hd
   | ret=>exact hd
   | goto l=>exact hd
   | panic ch=>exact hd
   | outgrown=>exact hd
  ·rename_i i _
   refine wp_seq (wp_mono (ihx _ _ hr.1 h) fun e a' w' hd=>?_)
   cases e with
   | normal =>
    obtain ⟨W',T',H',σ',φ',hst,x,hrl,hm⟩:=hd
    obtain ⟨σ2,φ2,hst2⟩:=meetS_sound hst hb hm
    exact ihy _ _ (hr.2 x hrl) hst2
   | exit id=>exact hd
   | ret=>exact hd
   | goto l=>exact hd
   | panic ch=>exact hd
   | outgrown=>exact hd
 | cond c x y ihx ihy =>
  intro lv K W T H σ φ a w hr h
  simp only [run] at hr
  split at hr <;> try (exact hr.elim)
  rename_i d
  split at hr <;> try (exact hr.elim)
  rename_i t ht
  obtain ⟨he,hst⟩:=h.setBool ht
  rw [brS_iff] at hr
  refine wp_cond_split he (fun e=>?_) (fun e=>?_)
  ·subst e;exact ihx _ _ (hr.1 rfl) hst
  ·subst e;exact ihy _ _ (hr.2 rfl) hst
 | block id b ih =>
  intro lv K W T H σ φ a w hr h
  simp only [run] at hr
  refine wp_block (wp_mono (ih _ _ hr h) fun e a' w' hd=>?_)
  cases e with
  | exit j =>
   obtain ⟨W',T',H',σ',φ',hst,hk⟩:=hd
   simp only at hk
   show if j=id then _ else _
   by_cases hj:j=id
   ·rw [if_pos hj] at hk ⊢;exact ⟨W',T',H',σ',φ',hst,hk⟩
   ·rw [if_neg hj] at hk ⊢;exact ⟨W',T',H',σ',φ',hst,hk⟩
  | normal=>exact hd
  | ret=>exact hd
  | goto l=>exact hd
  | panic ch=>exact hd
  | outgrown=>exact hd
 | loop b ih =>
  intro lv K W T H σ φ a w hr h
  simp only [run] at hr
  refine LW.loop ?_
  generalize A.rounds (headId b)=n at hr
  induction n generalizing W T H σ φ a w with
  | zero =>
   simp only [unroll] at hr
   split at hr <;> try (exact hr.elim)
   rename_i i _
   obtain ⟨⟨x0,hrl0,hm0⟩,hround⟩:=hr
   obtain ⟨σ0,φ0,hst0⟩:=meetS_sound h hb hm0
   refine LW.ghost (fun n a w=>∃ x σ φ,i.μ x=n/\i.rel T H x/\St C B i.wr (invS C b (liveC b lv) T i x) (i.hf x) σ φ a w) ?_ (i.μ x0) ⟨x0,σ0,φ0,rfl,hrl0,hst0⟩
   rintro n a1 w1 ⟨x,σ1,φ1,hμ,hrl,hst⟩
   refine wp_mono (ih _ _ (hround x hrl) hst) fun e a' w' hd=>?_
   cases e with
   | normal =>
    obtain ⟨W',T',H',σ',φ',hst',x',hrl',hm,hlt⟩:=hd
    obtain ⟨σ2,φ2,hst2⟩:=meetS_sound hst' hb hm
    exact ⟨i.μ x',by omega,x',σ2,φ2,rfl,hrl',hst2⟩
   | exit id=>exact hd
   | ret=>exact hd
   | goto l=>exact hd
   | panic ch=>exact hd
   | outgrown=>exact hd
  | succ n ihn =>
   refine LW.step (wp_mono (ih _ _ hr h) fun e a' w' hd=>?_)
   cases e with
   | normal =>
    obtain ⟨W',T',H',σ',φ',hst,hk⟩:=hd
    exact ihn hst hk
   | exit id=>exact hd
   | ret=>exact hd
   | goto l=>exact hd
   | panic ch=>exact hd
   | outgrown=>exact hd
 | exit id=>intro lv K W T H σ φ a w hr h;exact wp_exit ⟨W,T,H,σ,φ,h,hr⟩
 | ret=>intro lv K W T H σ φ a w hr h;exact wp_ret ⟨W,T,H,σ,φ,h,hr⟩
 | _=>intro lv K W T H σ φ a w hr h;simp [run] at hr
end
end Go.Proofs.YtedfbafngmicpaaGreat.Sx
end
section
/- The symbolic run is sound: functions; what is left of a call's chunks. No program in sight. -/
namespace Go.Proofs.YtedfbafngmicpaaGreat.Sx
open Go

section
variable {C:Ctx}
variable {W:List Nat} {B:Base C} {T:List SV} {H:List (Chunk C)} {σ:Nat->Value} {φ:Nat->Nat->Prop} {a:Act} {w:World} {o:Oper} {A:Ann C}

def resRun (tmps:Array Value):ResultVar->Sem Value
 | .tmp t=>pure (tmps.getD t undef)
 | .cell x t=>do loadVar t (← asAddr (tmps.getD x undef))
theorem results_eq (fn:Func) (tmps:Array Value):results fn tmps=(do
  let vs ← fn.results.mapM (resRun tmps)
  pure (if h:vs.size=1 then vs[0] else .tuple vs)):=by
 unfold results
 congr 1

theorem resS_sound (h:Pre C T H σ φ a w):∀ (rs:List ResultVar) {l:List SV},resS C T H rs=some l->∃ vs,Rels (SV.rel σ) l vs/\(∀ s ∈ l,∀ m ∈ s.names,m < H.length) ∧
  (rs.mapM (m:=Sem) (resRun a.tmps)).run C.P w = .ok vs w:=by
 intro rs
 induction rs with
 | nil=>intro l hl;simp [resS] at hl;subst hl;exact ⟨[],Rels.nil,by simp,by simp⟩
 | cons r rs ih =>
  intro l hl
  cases r with
  | tmp t =>
   simp only [resS,Option.map_eq_some_iff] at hl
   obtain ⟨l',h1,rfl⟩:=hl
   obtain ⟨vs,h2,h3,h4⟩:=ih h1
   have hr:=h.rel (.tmp t)
   refine ⟨a.tmps.getD t undef :: vs,Rels.cons hr h2,fun s hs m hm=>?_,?_⟩
   ·rcases List.mem_cons.1 hs with rfl | hs
    ·exact h.nm (.tmp t) m hm
    ·exact h3 s hs m hm
   ·rw [List.mapM_cons,Sem.run_bind]
    simp only [resRun,Sem.run_pure,Result.andThen_ok,Sem.run_bind,h4]
  | cell x t =>
   simp only [resS] at hl
   split at hl <;> try (cases hl;done)
   rename_i s l' hs h1
   simp only [Option.some.injEq] at hl
   subst hl
   obtain ⟨vs,h2,h3,h4⟩:=ih h1
   obtain ⟨u,n,b,ad,_,e2,_,e4,e5,_,e7⟩:=loadS_sound h.ok h.sat (h.rel (.tmp x)) hs
   have e2':a.tmps.getD x undef = .pointer (some ad):=e2
   refine ⟨u :: vs,Rels.cons e4 h2,fun s' hs m hm=>?_,?_⟩
   ·rcases List.mem_cons.1 hs with rfl | hs
    ·exact e5 m hm
    ·exact h3 s' hs m hm
   ·have e8:(resRun a.tmps (.cell x t)).run C.P w = .ok u w:=by
     have:=e7 w rfl
     simp [resRun,e2',asAddr,this]
    rw [List.mapM_cons,Sem.run_bind,e8]
    simp only [Result.andThen_ok,Sem.run_bind,h4,Sem.run_pure]

theorem retS_sound (h:Pre C T H σ φ a w) {fn:Func} {r:SV} (hr:retS C T H fn.results.toList=some r):∃ v,r.rel σ v/\(∀ m ∈ r.names,m < H.length)/\(results fn a.tmps).run C.P w = .ok v w:=by
 have key:∀ {l:List SV},resS C T H fn.results.toList=some l->∃ vs,Rels (SV.rel σ) l vs/\(∀ s ∈ l,∀ m ∈ s.names,m < H.length)/\(results fn a.tmps).run C.P w = .ok (if h:vs.toArray.size=1 then vs.toArray[0] else .tuple vs.toArray) w:=by
  intro l hl
  obtain ⟨vs,h1,h2,h3⟩:=resS_sound h _ hl
  refine ⟨vs,h1,h2,?_⟩
  rw [results_eq,Array.mapM_eq_mapM_toList]
  simp only [Sem.run_bind,Sem.run_map,h3,Result.andThen_ok,Sem.run_pure]
 unfold retS at hr
 split at hr
 ·rename_i s hs
  simp only [Option.some.injEq] at hr
  subst hr
  obtain ⟨vs,h1,h2,h3⟩:=key hs
  match vs,h1,h3 with
  | [v],h1,h3=>exact ⟨v,h1.2 0 _ _ rfl rfl,h2 s (by simp),by simpa using h3⟩
  | [],h1,_=>exact absurd h1.1 (by simp)
  | _ :: _ :: _,h1,_=>exact absurd h1.1 (by simp)
 ·rename_i l hne hl
  simp only [Option.map_eq_some_iff] at hr
  obtain ⟨xs,hxs,rfl⟩:=hr
  obtain ⟨vs,h1,h2,h3⟩:=key hl
  obtain ⟨h4,h5⟩:=atsOf_rel hxs h1
  refine ⟨.tuple vs.toArray,⟨vs,rfl,h4⟩,fun m hm=>?_,?_⟩
  ·obtain ⟨x,hx,hm⟩:=List.mem_flatMap.1 hm
   exact h2 _ (h5 x hx) m hm
  ·have hlen:¬ vs.toArray.size=1:=fun e=>by
    rw [List.size_toArray,← h1.1] at e
    match l,e,hne with
    | [s],_,hne=>exact hne s rfl
   rw [dif_neg hlen] at h3
   exact h3
 ·cases hr

theorem initT_rel {args:List TV} {vs:List Value} {n:Nat} (h:Rels (TV.rel σ) args vs):Rels (SV.rel σ) (initT args n) (vs.toArray ++ Array.replicate (n - vs.toArray.size) undef).toList:=by
 simp only [Array.toList_append,initT]
 refine Rels.append ⟨by simpa using h.1,fun i x v hx hv=>?_⟩ ⟨by simp [h.1],fun i x v hx hv=>?_⟩
 ·rw [List.getElem?_map] at hx
  cases hi:args[i]? with
  | none=>rw [hi] at hx;cases hx
  | some y=>rw [hi] at hx;simp at hx hv;subst hx;exact h.2 i y v hi hv
 ·rw [List.getElem?_replicate] at hx
  split at hx
  ·simp at hx;subst hx;trivial
  ·cases hx

/-- A function does what its run says. -/
theorem call_of_vc (hC:C.OK) (hG:GOK C A.Γ) {f:FuncId} {fn:Func} (hf:C.P.funcs[f]?=some fn) {args:List TV} {Q:SV->List (Chunk C)->List Nat->Prop} (hv:vc C A fn args H Q):CallOK C f args H Q:=by
 intro σ φ w vs hs hr hn
 unfold vc at hv
 split at hv
 ·exact hv.elim
 ·rename_i c hc
  have hst:St C ⟨H,σ,φ,w⟩ [] (initT args fn.ntmps) H σ φ { tmps:=vs.toArray ++ Array.replicate (fn.ntmps - vs.toArray.size) undef,defers:=[] } w :=
   ⟨⟨hC,initT_rel hr,fun s hs m hm=>by
    rcases List.mem_append.1 hs with hs | hs
    ·obtain ⟨x,hx,rfl⟩:=List.mem_map.1 hs
     exact hn x hx m hm
    ·rw [List.mem_replicate] at hs
     rw [hs.2] at hm
     simp [SV.names,TV.names,At.names] at hm,hs⟩,rfl,Adv.refl _ _,Nat.le_refl _,fun _ _ _=>rfl,fun _ _ h=>h,fun _ _ _=>⟨rfl,fun _=>Iff.rfl,fun _ _ _=>rfl⟩⟩
  have hrun:=run_sound (A:={ A with base:=H.length }) (B:=⟨H,σ,φ,w⟩) hC hG rfl c _ _ hv hst
  refine calls_of_wp hf hc (wp_mono hrun fun e a' w' hd=>?_)
  have fin:∀ {W:List Nat} {T':List SV} {H':List (Chunk C)} {σ':Nat->Value} {φ':Nat->Nat->Prop},St C ⟨H,σ,φ,w⟩ W T' H' σ' φ' a' w'->(match retS C T' H' fn.results.toList with | some r=>Q r H' W | none=>False) →
    a'.defers=[]/\∃ v,(results fn a'.tmps).run C.P w' = .ok v w'/\COk C H σ φ w Q (.returned v) w':=by
   intro W T' H' σ' φ' h hq
   refine ⟨h.dfs,?_⟩
   split at hq
   ·rename_i r hret
    obtain ⟨v,h1,h2,h3⟩:=retS_sound h.pre hret
    refine ⟨v,h3,r,H',W,σ',φ',⟨h1,h2,h.pre.sat,h.adv,h.len,fun n hn ho=>?_,h.own,fun n hn ht=>(h.stand n hn ht).2⟩,hq⟩
    rcases ho with ho | ho
    ·exact h.agree n hn ho
    ·exact (h.stand n hn ho).1
   ·exact hq.elim
  cases e with
  | normal =>
   obtain ⟨W,T',H',σ',φ',h,hq⟩:=hd
   exact fin h hq
  | ret =>
   obtain ⟨W,T',H',σ',φ',h,hq⟩:=hd
   exact fin h hq
  | exit id =>
   obtain ⟨W,T',H',σ',φ',h,hq⟩:=hd
   exact hq.elim
  | goto l=>exact hd.elim
  | panic ch=>exact hd.elim
  | outgrown=>exact hd.elim

end
end Go.Proofs.YtedfbafngmicpaaGreat.Sx
end
section
/- What a call leaves, in a form of its own; the rule of the frame. No program in sight. -/
namespace Go.Proofs.YtedfbafngmicpaaGreat.Sx
open Go

section
variable {C:Ctx}
variable {H H':List (Chunk C)} {σ σ':Nat->Value} {φ φ':Nat->Nat->Prop} {w w':World}

def dedup:List Nat->List Nat->List Nat
 | acc,[]=>acc
 | acc,n :: l=>if acc.contains n then dedup acc l else dedup (acc ++ [n]) l

theorem dedup_spec:∀ (l acc:List Nat),acc.Nodup->(dedup acc l).Nodup/\(∃ x,dedup acc l=acc ++ x)/\∀ n,n ∈ dedup acc l->n ∈ acc ∨ n ∈ l:=by
 intro l
 induction l with
 | nil=>intro acc h;exact ⟨h,⟨[],by simp [dedup]⟩,fun n hn=>.inl hn⟩
 | cons n l ih =>
  intro acc h
  simp only [dedup]
  split
  ·obtain ⟨h1,h2,h3⟩:=ih acc h
   exact ⟨h1,h2,fun m hm=>(h3 m hm).imp id fun h=>by simp [h]⟩
  ·rename_i hc
   have hc':n ∉ acc:=by simpa using hc
   obtain ⟨h1,⟨x,h2⟩,h3⟩:=ih (acc ++ [n]) (by
    rw [List.nodup_append]
    exact ⟨h,by simp,fun a ha b hb=>by simp at hb;subst hb;exact fun e=>hc' (e ▸ ha)⟩)
   refine ⟨h1,⟨n :: x,by simp [h2]⟩,fun m hm=>?_⟩
   rcases h3 m hm with h | h
   ·rcases List.mem_append.1 h with h | h
    ·exact .inl h
    ·exact .inr (by simp at h;simp [h])
   ·exact .inr (by simp [h])

def closeN (H:List (Chunk C)):Nat->List Nat->List Nat
 | 0,l=>l
 | d+1,l=>closeN H d (dedup l (l.flatMap (subNames H)))

theorem closeN_spec (hcl:∀ (n:Nat) (c:Chunk C),H[n]?=some c->∀ m ∈ c.names,m < H.length):∀ (d:Nat) (l:List Nat),l.Nodup->(∀ n ∈ l,n < H.length) →
  (closeN H d l).Nodup/\(∃ x,closeN H d l=l ++ x)/\∀ n ∈ closeN H d l,n < H.length:=by
 intro d
 induction d with
 | zero=>intro l h h';exact ⟨h,⟨[],by simp [closeN]⟩,h'⟩
 | succ d ih =>
  intro l h h'
  obtain ⟨h1,⟨x,h2⟩,h3⟩:=dedup_spec (l.flatMap (subNames H)) l h
  obtain ⟨h4,⟨y,h5⟩,h6⟩:=ih _ h1 fun n hn=>by
   rcases h3 n hn with hn | hn
   ·exact h' n hn
   ·obtain ⟨k,_,hk⟩:=List.mem_flatMap.1 hn
    unfold subNames at hk
    split at hk
    ·rename_i c hc;exact hcl k c hc n hk
    ·cases hk
  exact ⟨h4,⟨x ++ y,by rw [closeN,h5,h2,List.append_assoc]⟩,h6⟩

def normN (n0:Nat) (r:SV) (H:List (Chunk C)):List Nat:=closeN H 6 (dedup (List.range n0) r.names)
def normW (n0:Nat) (ts:List Nat):List Nat:=(List.range n0).filter ts.contains
/-- What is said of a call's end, of the names that count alone. -/
def normK (n0:Nat) (K:SV->List (Chunk C)->List Nat->Prop):SV->List (Chunk C)->List Nat->Prop:=fun r H ts =>
 K (r.ren (fun n=>idxOf n (normN n0 r H))) (pickH (normN n0 r H) H) (normW n0 ts)

theorem normN_spec (hcl:∀ (n:Nat) (c:Chunk C),H[n]?=some c->∀ m ∈ c.names,m < H.length) {n0:Nat} (h0:n0<=H.length) {r:SV} (hr:∀ m ∈ r.names,m < H.length) :
  (normN n0 r H).Nodup/\(∃ x,normN n0 r H=List.range n0 ++ x)/\∀ n ∈ normN n0 r H,n < H.length:=by
 obtain ⟨h1,⟨x,h2⟩,h3⟩:=dedup_spec r.names (List.range n0) List.nodup_range
 obtain ⟨h4,⟨y,h5⟩,h6⟩:=closeN_spec hcl 6 _ h1 fun n hn=>by
  rcases h3 n hn with hn | hn
  ·have:=List.mem_range.1 hn;omega
  ·exact hr n hn
 exact ⟨h4,⟨x ++ y,by rw [normN,h5,h2,List.append_assoc]⟩,h6⟩

theorem COut.norm {ts:List Nat} {r:SV} {v:Value} (h:COut C H σ φ w ts r v H' σ' φ' w') :
  COut C H σ φ w (normW H.length ts) (r.ren (fun n=>idxOf n (normN H.length r H'))) v (pickH (normN H.length r H') H') (fun k=>σ' ((normN H.length r H').getD k 0))
   (fun k b=>k < (normN H.length r H').length/\φ' ((normN H.length r H').getD k 0) b) w':=by
 obtain ⟨h1,⟨x,h2⟩,h3⟩:=normN_spec (H:=H') h.sat.cl h.len h.rcl
 generalize normN H.length r H'=τ at h1 h2 h3
 have hgd:∀ {k n:Nat},τ[k]?=some n->τ.getD k 0=n:=fun {k n} hk=>by simp [List.getD_eq_getElem?_getD,hk]
 have hρ:∀ n m,idxOf n τ=some m->σ' (τ.getD m 0)=σ' n:=fun n m hm=>by rw [hgd (idxOf_spec hm)]
 have hlow:∀ n,n < H.length->τ[n]?=some n:=fun n hn=>by rw [h2,List.getElem?_append_left (by simpa using hn),List.getElem?_range hn]
 have hrow:∀ n,n < H.length->(pickH τ H')[n]?=(H'[n]?).map (Chunk.ren fun n=>idxOf n τ):=fun n hn=>by
  unfold pickH
  rw [List.getElem?_map,hlow n hn,getD_some (d:=.gone) (Nat.lt_of_lt_of_le hn h.len)]
  rfl
 have hts:∀ n,n < H.length->n ∉ normW H.length ts->n ∉ ts:=fun n hn hnn hh=>hnn (by simp [normW,hn,hh])
 refine ⟨SV.ren_rel hρ h.rel,fun m hm=>?_,h.sat.pick h1 h3,⟨h.adv.os,h.adv.tape,h.adv.output,h.adv.size,h.adv.fr,fun n b hb=>h.adv.grow _ b hb.2⟩,?_,fun n hn ho=>?_,fun n hn ho=>?_,fun n hn hnt=>⟨fun b=>?_,(h.touch n hn (hts n hn hnt)).2⟩⟩
 ·obtain ⟨n,hn,e⟩:=SV.ren_names m hm
  simpa [pickH] using (List.getElem?_eq_some_iff.1 (idxOf_spec e)).1
 ·simp [pickH,h2]
 ·rw [hgd (hlow n hn)]
  exact h.agree n hn (ho.imp id (hts n hn))
 ·refine h.own n hn ?_
  rw [isOwn_ren (hrow n hn)] at ho
  exact ho
 ·rw [← (h.touch n hn (hts n hn hnt)).1 b]
  exact Rdb.same (by simp only [hgd (hlow n hn)]) (hrow n hn)

theorem CallOK.norm {f:FuncId} {args:List TV} {K:SV->List (Chunk C)->List Nat->Prop} (h:CallOK C f args H (normK H.length K)):CallOK C f args H K:=by
 intro σ φ w vs hs hr hn
 refine Calls.mono (h σ φ w vs hs hr hn) fun e w' hh=>?_
 cases e with
 | panicked ch=>exact hh.elim
 | outgrown=>exact hh.elim
 | returned v =>
  obtain ⟨r,H',ts,σ',φ',hout,hK⟩:=hh
  exact ⟨_,_,_,_,_,hout.norm,hK⟩
end
end Go.Proofs.YtedfbafngmicpaaGreat.Sx
end
section
/- The rule of the frame: what a function does with the chunks that it is handed, it does beside others. No program in sight. -/
namespace Go.Proofs.YtedfbafngmicpaaGreat.Sx
open Go

section
variable {C:Ctx}
variable {H H' H1:List (Chunk C)} {σ σ' σ1:Nat->Value} {φ φ' φ1:Nat->Nat->Prop} {w w':World}

def At.roots (own:Bool):At->List Nat
 | .ptr n _=>[n]
 | .fn _ cs=>cs
 | .slc n=>match own with
  | true=>[n]
  | false=>[]
 | _=>[]
def TV.roots (own:Bool):TV->List Nat
 | .at a=>a.roots own
 | .agg l=>l.flatMap (At.roots own)
def rootsA:List Bool->List TV->List Nat
 | _,[]=>[]
 | [],x :: l=>x.roots false ++ rootsA [] l
 | m :: ms,x :: l=>x.roots m ++ rootsA ms l

/-- An argument under the names of the callee; what is lent to it. -/
def At.loc (own:Bool) (Tn:List Nat) (a:At) (Ln:List Nat):At × List Nat:=match own,a with
 | false,.slc n=>(.slc (Tn.length+Ln.length),Ln ++ [n])
 | false,.eptr n i sz off=>(.eptr (Tn.length+Ln.length) i sz off,Ln ++ [n])
 | _,a=>(a.ren (fun n=>idxOf n Tn),Ln)
def locAts (own:Bool) (Tn:List Nat):List At->List Nat->List At × List Nat
 | [],Ln=>([],Ln)
 | a :: l,Ln=>let p:=a.loc own Tn Ln;let q:=locAts own Tn l p.2;(p.1 :: q.1,q.2)
def TV.loc (own:Bool) (Tn:List Nat) (x:TV) (Ln:List Nat):TV × List Nat:=match x with
 | .at a=>let p:=a.loc own Tn Ln;(.at p.1,p.2)
 | .agg l=>let p:=locAts own Tn l Ln;(.agg p.1,p.2)
def locTs (Tn:List Nat):List Bool->List TV->List Nat->List TV × List Nat
 | _,[],Ln=>([],Ln)
 | [],x :: l,Ln=>let p:=x.loc false Tn Ln;let q:=locTs Tn [] l p.2;(p.1 :: q.1,q.2)
 | m :: ms,x :: l,Ln=>let p:=x.loc m Tn Ln;let q:=locTs Tn ms l p.2;(p.1 :: q.1,q.2)

def Chunk.lent {C:Ctx}:Chunk C->Chunk C
 | .row _ e l=>.row false e l
 | _=>.gone
def locH (Tn Ln:List Nat) (H:List (Chunk C)):List (Chunk C):=pickH Tn H ++ Ln.map fun n=>(H.getD n .gone).lent

def okLent (Tn Ln:List Nat) (H:List (Chunk C)):Bool:=Ln.all fun n=>!(isOwn H n) || !(Tn.contains n)
def isRow0:Chunk C->Bool
 | .row false _ _=>true
 | _=>false
def isRows:Chunk C->Bool
 | .rows _ _ _=>true
 | _=>false
/-- No new row that is read alone. -/
def okOut (kt n0:Nat) (Hl H1:List (Chunk C)) (ts:List Nat):Bool :=
 ((List.range kt).all fun k=>!(isRow0 (H1.getD k .gone)) || (isRow0 (Hl.getD k .gone) || (isOwn Hl k && !(ts.contains k)))) && ((H1.drop n0).all (fun c=>!(isRow0 c)) && H1.all fun c=>!(isRows c))

def backN (L:List Nat) (h0:Nat) (j:Nat):Option Nat:=match L[j]? with
 | some n=>some n
 | none=>some (h0+(j - L.length))
def killsH (ks:List Nat) (H:List (Chunk C)):List (Chunk C):=ks.foldl (fun H n=>H.map (Chunk.kill n)) H
def backH (Tn L ts:List Nat) (H H1:List (Chunk C)):List (Chunk C) :=
 ((List.range H.length).map fun n=>match idxOf n Tn with
  | some k=>(H1.getD k .gone).ren (backN L H.length)
  | none=>(killsH (ts.filter (isOwn H)) H).getD n .gone) ++ (H1.drop L.length).map (Chunk.ren (backN L H.length))

/-- A function beside other chunks. ms: the arguments whose rows are handed over for good. -/
def frameT (ms:List Bool) (t:Tfm C):Tfm C:=fun args H K =>
 let Tn:=closeN H 6 (dedup [] (rootsA ms args))
 let p:=locTs Tn ms args []
 let L:=Tn ++ p.2
 let Hl:=locH Tn p.2 H
 if okLent Tn p.2 H then t p.1 Hl fun r H1 ts=>if okOut Tn.length L.length Hl H1 ts then K (r.ren (backN L H.length)) (backH Tn L (ts.filterMap (Tn[·]?)) H H1) (ts.filterMap (Tn[·]?)) else False else False

theorem killsH_length:∀ (ks:List Nat) {H:List (Chunk C)},(killsH ks H).length=H.length:=by
 intro ks
 induction ks with
 | nil=>intro H;rfl
 | cons k ks ih=>intro H;show (killsH ks (H.map (Chunk.kill k))).length=_;rw [ih];simp
theorem Sat.kills:∀ (ks:List Nat) {H:List (Chunk C)},Sat C σ φ w H->Sat C σ φ w (killsH ks H):=by
 intro ks
 induction ks with
 | nil=>intro H h;exact h
 | cons k ks ih=>intro H h;exact ih (h.kill k)
theorem killsH_get:∀ (ks:List Nat) {H:List (Chunk C)} {n:Nat} {c:Chunk C},(killsH ks H)[n]?=some c->∀ m ∈ c.names,m ∉ ks:=by
 intro ks
 induction ks with
 | nil=>intro H n c _ m _;simp
 | cons k ks ih =>
  intro H n c h m hm
  have h':(killsH ks (H.map (Chunk.kill k)))[n]?=some c:=h
  have h1:=ih h' m hm
  have aux:∀ (ks:List Nat) {H:List (Chunk C)} {c:Chunk C},(killsH ks H)[n]?=some c->∃ d,H[n]?=some d/\∀ m ∈ c.names,m ∈ d.names:=by
   intro ks
   induction ks with
   | nil=>intro H c h;exact ⟨c,h,fun m hm=>hm⟩
   | cons k ks ih =>
    intro H c h
    have h':(killsH ks (H.map (Chunk.kill k)))[n]?=some c:=h
    obtain ⟨d,hd,hm⟩:=ih h'
    rw [List.getElem?_map,Option.map_eq_some_iff] at hd
    obtain ⟨d0,h0,rfl⟩:=hd
    exact ⟨d0,h0,fun m hmm=>(Chunk.kill_names m (hm m hmm)).1⟩
  obtain ⟨d,hd,hmd⟩:=aux ks h'
  rw [List.getElem?_map,Option.map_eq_some_iff] at hd
  obtain ⟨d0,h0,rfl⟩:=hd
  simp only [List.mem_cons,not_or]
  exact ⟨(Chunk.kill_names m (hmd m hm)).2,h1⟩
theorem killsH_own:∀ (ks:List Nat) {H:List (Chunk C)} {n:Nat},isOwn (killsH ks H) n=isOwn H n:=by
 intro ks
 induction ks with
 | nil=>intro H n;rfl
 | cons k ks ih=>intro H n;show isOwn (killsH ks (H.map (Chunk.kill k))) n=_;rw [ih,isOwn_kill]
theorem rdb_kill {n k b:Nat}:Rdb (H.map (Chunk.kill n)) σ k b ↔ Rdb H σ k b:=by
 unfold Rdb
 rw [List.getElem?_map]
 cases H[k]? with
 | none=>simp
 | some c=>cases c <;> simp [Chunk.kill]
theorem killsH_rdb:∀ (ks:List Nat) {H:List (Chunk C)} {n b:Nat},Rdb (killsH ks H) σ n b ↔ Rdb H σ n b:=by
 intro ks
 induction ks with
 | nil=>intro H n b;exact Iff.rfl
 | cons k ks ih=>intro H n b;show Rdb (killsH ks (H.map (Chunk.kill k))) σ n b ↔ _;rw [ih,rdb_kill]

theorem At.loc_spec {own:Bool} {Tn:List Nat} {a:At} {Ln:List Nat}:∃ x,(a.loc own Tn Ln).2=Ln ++ x/\(∀ n ∈ x,n ∈ a.names)/\(∀ m ∈ (a.loc own Tn Ln).1.names,m < (Tn ++ (a.loc own Tn Ln).2).length) ∧
  ∀ (σ σ':Nat->Value) (y:List Nat),(∀ k n,(Tn ++ (Ln ++ x ++ y))[k]?=some n->σ' k=σ n)->∀ v,a.rel σ v->(a.loc own Tn Ln).1.rel σ' v:=by
 have gen:∃ x,Ln=Ln ++ x/\(∀ n ∈ x,n ∈ a.names)/\(∀ m ∈ (a.ren (fun n=>idxOf n Tn)).names,m < (Tn ++ Ln).length) ∧
   ∀ (σ σ':Nat->Value) (y:List Nat),(∀ k n,(Tn ++ (Ln ++ x ++ y))[k]?=some n->σ' k=σ n)->∀ v,a.rel σ v->(a.ren (fun n=>idxOf n Tn)).rel σ' v:=by
  refine ⟨[],by simp,by simp,fun m hm=>?_,fun σ σ' y hσ v hv=>At.ren_rel (fun n m hm=>hσ m n ?_) hv⟩
  ·obtain ⟨n,_,e⟩:=At.ren_names m hm
   have:=(List.getElem?_eq_some_iff.1 (idxOf_spec e)).1
   simp;omega
  ·have:=idxOf_spec hm
   rw [List.getElem?_append_left (List.getElem?_eq_some_iff.1 this).1]
   exact this
 have hlast:∀ (n:Nat) (y:List Nat),(Tn ++ (Ln ++ [n] ++ y))[Tn.length+Ln.length]?=some n:=fun n y=>by
  rw [List.getElem?_append_right (by omega),List.append_assoc,List.getElem?_append_right (by omega)]
  simp
 cases own with
 | true=>cases a <;> exact gen
 | false =>
  cases a with
  | slc n =>
   exact ⟨[n],rfl,fun m hm=>hm,fun m hm=>by simp [At.loc,At.names] at hm ⊢;omega,fun σ σ' y hσ v hv=>by
    show v=σ' (Tn.length+Ln.length)
    rw [hσ _ _ (hlast n y)];exact hv⟩
  | eptr n i sz off =>
   exact ⟨[n],rfl,fun m hm=>hm,fun m hm=>by simp [At.loc,At.names] at hm ⊢;omega,fun σ σ' y hσ v hv=>by
    obtain ⟨b,o,len,cap,h1,h2⟩:=hv
    exact ⟨b,o,len,cap,(hσ _ _ (hlast n y)).trans h1,h2⟩⟩
  | _=>exact gen

theorem locAts_spec {own:Bool} {Tn:List Nat}:∀ (l:List At) (Ln:List Nat),∃ x,(locAts own Tn l Ln).2=Ln ++ x/\(∀ n ∈ x,n ∈ l.flatMap At.names)/\(∀ m ∈ (locAts own Tn l Ln).1.flatMap At.names,m < (Tn ++ (locAts own Tn l Ln).2).length) ∧
  ∀ (σ σ':Nat->Value) (y:List Nat),(∀ k n,(Tn ++ (Ln ++ x ++ y))[k]?=some n->σ' k=σ n)->∀ vs,Rels (At.rel σ) l vs->Rels (At.rel σ') (locAts own Tn l Ln).1 vs:=by
 intro l
 induction l with
 | nil=>intro Ln;exact ⟨[],by simp [locAts],by simp,by simp [locAts],fun σ σ' y _ vs h=>⟨h.1,fun i a b ha=>by simp [locAts] at ha⟩⟩
 | cons a l ih =>
  intro Ln
  obtain ⟨x,h1,h2,h3,h4⟩:=At.loc_spec (own:=own) (Tn:=Tn) (a:=a) (Ln:=Ln)
  obtain ⟨x',h1',h2',h3',h4'⟩:=ih (a.loc own Tn Ln).2
  refine ⟨x ++ x',h1'.trans (by rw [h1,List.append_assoc]),fun n hn=>?_,fun m hm=>?_,fun σ σ' y hσ vs hr=>?_⟩
  ·rw [List.flatMap_cons]
   rcases List.mem_append.1 hn with hn | hn
   ·exact List.mem_append_left _ (h2 n hn)
   ·exact List.mem_append_right _ (h2' n hn)
  ·simp only [locAts,List.flatMap_cons] at hm ⊢
   rcases List.mem_append.1 hm with hm | hm
   ·have:=h3 m hm
    rw [h1']
    simp only [List.length_append] at this ⊢
    omega
   ·exact h3' m hm
  ·match vs,hr with
   | [],hr=>exact absurd hr.1 (by simp)
   | v :: vs,hr =>
    refine Rels.cons (h4 σ σ' (x' ++ y) (fun k n hk=>hσ k n (by simpa [List.append_assoc] using hk)) v (hr.2 0 a v rfl rfl)) ?_
    exact h4' σ σ' y (fun k n hk=>hσ k n (by rw [h1] at hk;simpa [List.append_assoc] using hk)) vs ⟨by simpa using hr.1,fun i b u hb hu=>hr.2 (i+1) b u (by simpa using hb) (by simpa using hu)⟩

theorem TV.loc_spec {own:Bool} {Tn:List Nat} (x:TV) (Ln:List Nat):∃ z,(x.loc own Tn Ln).2=Ln ++ z/\(∀ n ∈ z,n ∈ x.names)/\(∀ m ∈ (x.loc own Tn Ln).1.names,m < (Tn ++ (x.loc own Tn Ln).2).length) ∧
  ∀ (σ σ':Nat->Value) (y:List Nat),(∀ k n,(Tn ++ (Ln ++ z ++ y))[k]?=some n->σ' k=σ n)->∀ v,x.rel σ v->(x.loc own Tn Ln).1.rel σ' v:=by
 cases x with
 | «at» a=>exact At.loc_spec
 | agg l =>
  obtain ⟨z,h1,h2,h3,h4⟩:=locAts_spec (own:=own) (Tn:=Tn) l Ln
  exact ⟨z,h1,h2,h3,fun σ σ' y hσ v ⟨cs,e,hr⟩=>⟨cs,e,h4 σ σ' y hσ cs hr⟩⟩

theorem locTs_cons {Tn:List Nat} (ms:List Bool) (x:TV) (l:List TV) (Ln:List Nat):∃ m ms',locTs Tn ms (x :: l) Ln=((x.loc m Tn Ln).1 :: (locTs Tn ms' l (x.loc m Tn Ln).2).1,(locTs Tn ms' l (x.loc m Tn Ln).2).2):=by
 cases ms with
 | nil=>exact ⟨false,[],rfl⟩
 | cons m ms=>exact ⟨m,ms,rfl⟩

theorem locTs_spec {Tn:List Nat}:∀ (l:List TV) (ms:List Bool) (Ln:List Nat),∃ x,(locTs Tn ms l Ln).2=Ln ++ x/\(∀ n ∈ x,∃ a ∈ l,n ∈ a.names)/\(∀ a ∈ (locTs Tn ms l Ln).1,∀ m ∈ a.names,m < (Tn ++ (locTs Tn ms l Ln).2).length) ∧
  ∀ (σ σ':Nat->Value) (y:List Nat),(∀ k n,(Tn ++ (Ln ++ x ++ y))[k]?=some n->σ' k=σ n)->∀ vs,Rels (TV.rel σ) l vs->Rels (TV.rel σ') (locTs Tn ms l Ln).1 vs:=by
 intro l
 induction l with
 | nil=>intro ms Ln;exact ⟨[],by cases ms <;> simp [locTs],by simp,by cases ms <;> simp [locTs],fun σ σ' y _ vs h=>⟨by cases ms <;> simpa [locTs] using h.1,fun i a b ha=>by cases ms <;> simp [locTs] at ha⟩⟩
 | cons a l ih =>
  intro ms Ln
  obtain ⟨m,ms',e⟩:=locTs_cons (Tn:=Tn) ms a l Ln
  rw [e]
  obtain ⟨x,h1,h2,h3,h4⟩:=TV.loc_spec (own:=m) (Tn:=Tn) a Ln
  obtain ⟨x',h1',h2',h3',h4'⟩:=ih ms' (a.loc m Tn Ln).2
  refine ⟨x ++ x',h1'.trans (by rw [h1,List.append_assoc]),fun n hn=>?_,fun b hb k hk=>?_,fun σ σ' y hσ vs hr=>?_⟩
  ·rcases List.mem_append.1 hn with hn | hn
   ·exact ⟨a,by simp,h2 n hn⟩
   ·obtain ⟨b,hb,hbn⟩:=h2' n hn
    exact ⟨b,by simp [hb],hbn⟩
  ·rcases List.mem_cons.1 hb with rfl | hb
   ·have:=h3 k hk
    simp only [h1']
    simp only [List.length_append] at this ⊢
    omega
   ·exact h3' b hb k hk
  ·match vs,hr with
   | [],hr=>exact absurd hr.1 (by simp)
   | v :: vs,hr =>
    refine Rels.cons (h4 σ σ' (x' ++ y) (fun k n hk=>hσ k n (by simpa [List.append_assoc] using hk)) v (hr.2 0 a v rfl rfl)) ?_
    exact h4' σ σ' y (fun k n hk=>hσ k n (by rw [h1] at hk;simpa [List.append_assoc] using hk)) vs ⟨by simpa using hr.1,fun i b u hb hu=>hr.2 (i+1) b u (by simpa using hb) (by simpa using hu)⟩

theorem At.roots_names {own:Bool} {a:At}:∀ n ∈ a.roots own,n ∈ a.names:=by
 cases a <;> cases own <;> simp [At.roots,At.names]
theorem TV.roots_names {own:Bool} {x:TV}:∀ n ∈ x.roots own,n ∈ x.names:=by
 cases x with
 | «at» a=>exact At.roots_names
 | agg l =>
  intro n hn
  obtain ⟨a,ha,h⟩:=List.mem_flatMap.1 hn
  exact List.mem_flatMap.2 ⟨a,ha,At.roots_names n h⟩
theorem rootsA_names:∀ (l:List TV) (ms:List Bool),∀ n ∈ rootsA ms l,∃ x ∈ l,n ∈ x.names:=by
 intro l
 induction l with
 | nil=>intro ms n hn;cases ms <;> simp [rootsA] at hn
 | cons x l ih =>
  intro ms n hn
  cases ms with
  | nil =>
   rcases List.mem_append.1 hn with hn | hn
   ·exact ⟨x,by simp,TV.roots_names n hn⟩
   ·obtain ⟨y,hy,h⟩:=ih _ n hn;exact ⟨y,by simp [hy],h⟩
  | cons m ms =>
   rcases List.mem_append.1 hn with hn | hn
   ·exact ⟨x,by simp,TV.roots_names n hn⟩
   ·obtain ⟨y,hy,h⟩:=ih _ n hn;exact ⟨y,by simp [hy],h⟩

/-- The chunks that the callee sees. -/
theorem Sat.loc (hC:C.OK) (h:Sat C σ φ w H) {Tn Ln:List Nat} (hnd:Tn.Nodup) (hT:∀ n ∈ Tn,n < H.length) (hL:∀ n ∈ Ln,n < H.length) (hok:okLent Tn Ln H=true) :
  Sat C (fun k=>σ ((Tn ++ Ln).getD k 0)) (fun k b=>k < Tn.length/\φ ((Tn ++ Ln).getD k 0) b) w (locH Tn Ln H):=by
 have hp:=h.pick hnd hT
 have hlen:(pickH Tn H).length=Tn.length:=by simp [pickH]
 have hgl:∀ k,k < Tn.length->(Tn ++ Ln).getD k 0=Tn.getD k 0:=fun k hk=>by simp [List.getD_eq_getElem?_getD,List.getElem?_append_left hk]
 have hgr:∀ {k n:Nat},Tn.length<=k->Ln[k - Tn.length]?=some n->(Tn ++ Ln).getD k 0=n:=fun {k n} hk hn=>by simp [List.getD_eq_getElem?_getD,List.getElem?_append_right hk,hn]
 have hφ:∀ k,(fun b=>k < Tn.length/\φ ((Tn ++ Ln).getD k 0) b)=fun b=>k < Tn.length/\φ (Tn.getD k 0) b:=fun k=>funext fun b=>propext ⟨fun hh=>⟨hh.1,by rw [← hgl k hh.1];exact hh.2⟩,fun hh=>⟨hh.1,by rw [hgl k hh.1];exact hh.2⟩⟩
 have hget:∀ {k:Nat} {c:Chunk C},Tn.length<=k->(locH Tn Ln H)[k]?=some c->∃ n c0,Ln[k - Tn.length]?=some n/\H[n]?=some c0/\c=c0.lent:=fun {k c} hk hc=>by
  unfold locH at hc
  rw [List.getElem?_append_right (by rw [hlen];exact hk),hlen,List.getElem?_map,Option.map_eq_some_iff] at hc
  obtain ⟨n,hn,e⟩:=hc
  exact ⟨n,_,hn,getD_some (hL n (List.mem_of_getElem? hn)),e.symm⟩
 have hgetl:∀ {k:Nat},k < Tn.length->(locH Tn Ln H)[k]?=(pickH Tn H)[k]?:=fun {k} hk=>by
  unfold locH
  rw [List.getElem?_append_left (by rw [hlen];exact hk)]
 refine ⟨fun k c hc=>?_,fun k m b hk hm=>?_,fun k b hb=>h.bd _ b hb.2,fun k c hl b hb m hm=>?_,fun k hk b hb=>?_,fun k c hc m hm=>?_⟩
 ·rw [hφ k]
  rcases Nat.lt_or_ge k Tn.length with hk | hk
  ·rw [hgetl hk] at hc
   have hh:=hp.holds k c hc
   rw [hgl k hk]
   match c with
   | .gone=>trivial
   | .box cells =>
    obtain ⟨b,t,cs,h1,h2,h3,h4⟩:=hh
    refine ⟨b,t,cs,h1,h2,h3,h4.mono fun a v ha hr=>At.rel_of hr fun m hm=>?_⟩
    have:=hp.cl k _ hc m (List.mem_flatMap.2 ⟨a,ha,hm⟩)
    exact congrArg σ (hgl m (by rw [← hlen];exact this))
   | .row true e l=>exact hh
   | .row false e l=>exact hh
   | .abs x=>exact hh
   | .map kk vk l=>exact hh
   | .arr _ _=>exact hh
   | .rows _ _ _=>exact hh
  ·obtain ⟨n,c0,h1,h2,rfl⟩:=hget hk hc
   have hh:=h.holds n c0 h2
   rw [hgr hk h1]
   have hno:∀ b,¬ (k < Tn.length/\φ (Tn.getD k 0) b):=fun b hb=>by omega
   match c0 with
   | .gone=>trivial
   | .box cells=>trivial
   | .row own e l=>exact ⟨hh.rd hC,hno⟩
   | .abs x=>trivial
   | .map kk vk l=>trivial
   | .arr _ _=>trivial
   | .rows _ _ _=>trivial
 ·rw [hgl k hk.1] at hk
  rw [hgl m hm.1] at hm
  exact hp.dis k m b hk hm
 ·rw [hgl m hm.1] at hm
  rcases Nat.lt_or_ge k Tn.length with hk | hk
  ·rw [hgetl hk] at hl
   rw [hgl k hk] at hb
   exact hp.imm k c hl b hb m hm
  ·obtain ⟨n,c0,h1,h2,rfl⟩:=hget hk hl
   rw [hgr hk h1] at hb
   match c0 with
   | .gone | .box _ | .abs _ | .map _ _ _ | .rows _ _ _ | .arr _ _=>exact hb.elim
   | .row own e' l' =>
    obtain ⟨hpos,hb⟩:=hb
    cases own with
    | false=>exact h.immr n _ _ h2 hpos b hb _ hm.2
    | true =>
     have hh:=h.holds n _ h2
     have hn:φ n b:=(hh.2 b).2 hb
     have:=h.dis _ _ b hm.2 hn
     have hmem:n ∈ Tn:=by
      rw [← this]
      exact List.mem_of_getElem? (getD_some (d:=0) hm.1)
     have hok':=List.all_eq_true.1 hok n (List.mem_of_getElem? h1)
     simp [isOwn,h2,hmem] at hok'
 ·simp [locH,pickH] at hk
  have:=hb.1
  omega
 ·have hle:(locH Tn Ln H).length=Tn.length+Ln.length:=by simp [locH,pickH]
  rcases Nat.lt_or_ge k Tn.length with hk | hk
  ·rw [hgetl hk] at hc
   have:=hp.cl k c hc m hm
   rw [hlen] at this
   omega
  ·obtain ⟨n,c0,h1,h2,rfl⟩:=hget hk hc
   cases c0 <;> simp [Chunk.lent,Chunk.names] at hm
end
end Go.Proofs.YtedfbafngmicpaaGreat.Sx
end
