/- A part of the proof. -/
import Derived.Test.YtedfbafngmicpaaGreatG1
section
/- The symbolic run is sound: loads, addresses, parts. No program in sight. -/
namespace Go.Proofs.YtedfbafngmicpaaGreat.Sx
open Go

section
variable {C:Ctx}
variable {T:List SV} {H:List (Chunk C)} {o:Oper} {σ:Nat->Value} {φ:Nat->Nat->Prop} {a:Act} {w:World} {ps:List Prop} {s:SV} {H':List (Chunk C)}

theorem run_isAggD {P:Program} {t:TypeId} {d:TypeDesc} (h:P.underlying t=some d) (w:World):(isAgg t).run P w = .ok (isAggD d) w:=by
 unfold isAgg
 rw [Sem.run_bind,run_underlying h]
 cases d <;> rfl
theorem run_sizeOf {P:Program} {t:TypeId} {i:TypeInfo} (h:P.info? t=some i) (w:World):(sizeOf t).run P w = .ok i.size w:=by
 simp [sizeOf,typeInfo,h]

theorem run_loadVar_agg {P:Program} {t:TypeId} {d:TypeDesc} {i:TypeInfo} {ad:Addr} {w:World} (hd:P.underlying t=some d) (ha:isAggD d=true) (hi:P.info? t=some i) (vs:List Value) (hl:vs.length=i.size)
  (hc:∀ j u,vs[j]?=some u->w.cell? (ad.add j)=some u):(loadVar t ad).run P w = .ok (.agg vs.toArray) w:=by
 have h1:=run_loadCells_list (P:=P) w ad vs hc
 rw [hl] at h1
 simp [loadVar,run_isAggD hd,ha,run_sizeOf hi,h1]
theorem run_loadVar_one {P:Program} {t:TypeId} {d:TypeDesc} {ad:Addr} {w:World} {u:Value} (hd:P.underlying t=some d) (ha:isAggD d=false) (hc:w.cell? ad=some u):(loadVar t ad).run P w = .ok u w:=by
 simp [loadVar,run_isAggD hd,ha,hc]

/-- A row reads as its list. -/
theorem Holds.rd (hC:C.OK) {w:World} {v:Value} {f:Nat->Prop} {own:Bool} {e:C.EC} {l:List (C.α e)} (h:Holds w σ v f (.row own e l)):∃ A c,v = .slice A l.length c/\Rd (C.enc e) (C.sz e) w A l.length c l:=by
 cases own with
 | false=>exact h.1
 | true =>
  exact ownR.form (f:=C.enc e) (hC.len e) h.1

theorem getD_some {α:Type} {l:List α} {i:Nat} {d:α} (h:i < l.length):l[i]?=some (l.getD i d):=by
 simp [List.getD_eq_getElem?_getD,List.getElem?_eq_getElem h]

/-- What an address leads to. -/
theorem cellAt_sound (hC:C.OK) (hs:Sat C σ φ w H) {x:SV} {v:Value} {cells:List At} {off:Nat} (hx:x.rel σ v) (hc:cellAt H x=some (cells,off)) :
  ∃ n b k vs,(x.names=[n])/\v = .pointer (some ⟨b,k+off,none⟩)/\Rdb H σ n b/\Rels (At.rel σ) cells vs/\(∀ c ∈ cells,∀ m ∈ c.names,m < H.length) ∧
   ((∃ i,x = .one (.at (.ptr i off))) ∨ ∃ i j sz,x = .one (.at (.eptr i j sz off))) ∧
   ∀ (w':World),w'.heap[b]?=w.heap[b]?->∀ (j:Nat) (u:Value),vs[j]?=some u->w'.cell? ⟨b,k+j,none⟩=some u:=by
 unfold cellAt at hc
 split at hc
 ·rename_i n off'
  split at hc
  ·rename_i cells' hH
   simp only [Option.some.injEq,Prod.mk.injEq] at hc
   obtain ⟨rfl,rfl⟩:=hc
   obtain ⟨b,h1,h2⟩:=(show At.rel σ (.ptr n off') v from hx)
   obtain ⟨b',t,cs,h3,h4,h5,h6⟩:=hs.holds n _ hH
   rw [h1] at h3
   obtain rfl:b=b':=by simpa using h3
   refine ⟨n,b,0,cs.toList,rfl,by simpa using h2,.inl ⟨h1,_,hH⟩,h6,fun c hc m hm=>hs.cl n _ hH m (List.mem_flatMap.2 ⟨c,hc,hm⟩),.inl ⟨n,rfl⟩,fun w' hw' j u hu=>?_⟩
   rw [Nat.zero_add,cell_of_row w' b j cs t (0,0) (hw'.trans h5)]
   simpa using hu
  ·cases hc
 ·rename_i n i sz off'
  split at hc
  ·rename_i own e l hH
   split at hc
   ·rename_i hsz
    simp only [Option.some.injEq,Prod.mk.injEq] at hc
    obtain ⟨rfl,rfl⟩:=hc
    obtain ⟨b,o',len,cap,h1,h2,h3⟩:=(show At.rel σ (.eptr n i sz off') v from hx)
    obtain ⟨A,c,h4,h5⟩:=(hs.holds n _ hH).rd hC
    rw [h1] at h4
    obtain ⟨rfl,rfl,rfl⟩:A=some ⟨b,o',none⟩/\len=l.length/\cap=c:=by
     injection h4 with e1 e2 e3
     exact ⟨e1.symm,e2,e3⟩
    obtain ⟨b2,o2,e2,hlt,hcl⟩:=h5.get (by omega)
    obtain ⟨rfl,rfl⟩:b=b2/\o'=o2:=by simpa using e2
    refine ⟨n,b,o'+i * sz,C.enc e (l.getD i (C.dft e)),rfl,by rw [h3],.inr (.inl ⟨by rw [h1];rfl,own,e,l,hH,by omega⟩),rels_vals _,fun c hc m hm=>?_,.inr ⟨n,i,sz,rfl⟩,fun w' hw' j u hu=>?_⟩
    ·obtain ⟨u,_,rfl⟩:=List.mem_map.1 hc
     simp [At.names] at hm
    ·rw [hsz]
     exact (World.cell?_of_block (w:=w) (w':=w') (a:=⟨b,o'+i * C.sz e+j,none⟩) hw').trans (hcl i _ (getD_some h2) j u hu)
   ·cases hc
  ·cases hc
 ·cases hc

theorem names_sub {l:List At} {n k j:Nat} (h:∀ c ∈ l,∀ m ∈ c.names,m < n):∀ m ∈ (SV.one (.agg ((l.drop k).take j))).names,m < n:=by
 intro m hm
 simp only [SV.names,TV.names,List.mem_flatMap] at hm
 obtain ⟨c,hc,hm⟩:=hm
 exact h c (List.mem_of_mem_drop (List.mem_of_mem_take hc)) m hm

theorem loadS_sound (hC:C.OK) (hs:Sat C σ φ w H) {t:TypeId} {x:SV} {v:Value} (hx:x.rel σ v) (h:loadS C H t x=some s) :
  ∃ u n b ad,x.names=[n]/\v = .pointer (some ad)/\Rdb H σ n b/\s.rel σ u/\(∀ m ∈ s.names,m < H.length) ∧
   ((∃ i k,x = .one (.at (.ptr i k))) ∨ ∃ i j sz k,x = .one (.at (.eptr i j sz k)))/\∀ (w':World),w'.heap[b]?=w.heap[b]?->(loadVar t ad).run C.P w' = .ok u w':=by
 unfold loadS at h
 split at h
 ·rename_i cells off d i hc hd hi
  obtain ⟨n,b,k,vs,h1,h2,h3,h4,h5,h6,h7⟩:=cellAt_sound hC hs hx hc
  have hkind:(∃ i k,x = .one (.at (.ptr i k))) ∨ ∃ i j sz k,x = .one (.at (.eptr i j sz k)):=by
   rcases h6 with ⟨i,rfl⟩ | ⟨i,j,sz,rfl⟩
   ·exact .inl ⟨_,_,rfl⟩
   ·exact .inr ⟨_,_,_,_,rfl⟩
  split at h
  ·rename_i ha
   split at h
   ·rename_i hle
    simp only [Option.some.injEq] at h
    subst h
    refine ⟨.agg ((vs.drop off).take i.size).toArray,n,b,_,h1,h2,h3,⟨_,rfl,(h4.drop off).take i.size⟩,names_sub h5,hkind,fun w' hw'=>?_⟩
    refine run_loadVar_agg hd ha hi _ ?_ fun j u hu=>?_
    ·rw [List.length_take,List.length_drop,← h4.1];omega
    ·rw [List.getElem?_take] at hu
     split at hu
     ·rw [List.getElem?_drop] at hu
      rw [Addr.add_lit,Nat.add_assoc]
      exact h7 w' hw' _ u hu
     ·cases hu
   ·cases h
  ·rename_i ha
   split at h
   ·rename_i x' hx'
    simp only [Option.some.injEq] at h
    subst h
    obtain ⟨u,hu,hr⟩:=h4.get hx'
    refine ⟨u,n,b,_,h1,h2,h3,hr,fun m hm=>h5 x' (List.mem_of_getElem? hx') m hm,hkind,fun w' hw'=>run_loadVar_one hd (by simpa using ha) (h7 w' hw' _ u hu)⟩
   ·cases h
 ·cases h

theorem q_load {t:TypeId} {x:Operand} (h:Pre C T H σ φ a w) (ho:o.op = .load t x) (hps:∀ p ∈ ps,p) (hq:quietS C T H o=some (ps,s,H')):QOut C T H o σ φ a w s H':=by
 simp only [quietS,ho] at hq
 split at hq
 ·rename_i r hr
  split at hq <;> try (cases hq;done)
  rename_i hh e ll
  split at hq <;> try (cases hq;done)
  rename_i d hd
  split at hq <;> try (cases hq;done)
  rename_i ha
  split at hq <;> try (cases hq;done)
  rename_i n i sz off hc
  simp only [Option.some.injEq,Prod.mk.injEq] at hq
  obtain ⟨_,rfl,rfl⟩:=hq
  rw [hc] at hr
  unfold rowsOf at hr
  dsimp only at hr
  split at hr <;> try (cases hr;done)
  rename_i h1 e1 l1 hH
  split at hr <;> try (cases hr;done)
  rename_i hso
  obtain ⟨rfl,rfl⟩:=hso
  simp only [Option.some.injEq,Chunk.rows.injEq] at hr
  obtain ⟨rfl,rfl,hr⟩:=hr
  obtain rfl:=eq_of_heq hr
  have hx:=h.rel x
  rw [hc] at hx
  obtain ⟨b,o',len,cap,h2,h3,h4⟩:=(show At.rel σ (.eptr n i 1 0) _ from hx)
  obtain ⟨hz,⟨vs,hown,hR⟩,hf⟩:=h.sat.holds n _ hH
  have hil:len=l1.length/\i < l1.length:=by
   rcases hown.2 with ⟨e0,_⟩ | ⟨g,cap',cur,e0,_⟩
   ·rw [h2] at e0;cases e0
   ·rw [h2] at e0
    simp only [Value.slice.injEq] at e0
    omega
  obtain ⟨u,hu,hI⟩:=hR.get (List.getElem?_eq_getElem hil.2)
  have hg:l1.getD i []=l1[i]:=by simp [List.getD_eq_getElem?_getD,List.getElem?_eq_getElem hil.2]
  rw [hg]
  refine ⟨u,_,_,Grows.view h.ok h.sat (.row false e1 l1[i]) u (fun σ'=>⟨hI,fun _ h=>h⟩) rfl (fun b' hb'=>h.sat.imm n _ hH b' ⟨vs,hown,i,u,_,hu,List.getElem?_eq_getElem hil.2,hb'.1,hb'.2⟩),?_,?_,fun w' hw'=>?_⟩
  ·show u=_;simp
  ·intro m hm;simp [SV.names,TV.names,At.names] at hm;subst hm;simp
  ·have hn:readName T o=some n:=by
    unfold readName
    rw [ho];simp only [hc]
   have hob:(σ n).ownBlock=some b:=by rw [h2];rfl
   have hw:=hw' n hn b (.inr (.inr (.inr (.inl ⟨hob,_,_,_,hH,by omega⟩))))
   have hc':w'.cell? ⟨b,o'+i * 1+0,none⟩=some u:=by
    rcases hown.2 with ⟨e0,_⟩ | ⟨g,cap',cur,e0,_,hg,hnc,_,hcs,htk⟩
    ·rw [h2] at e0;cases e0
    ·rw [h2] at e0
     simp only [Value.slice.injEq,Option.some.injEq,Addr.mk.injEq] at e0
     obtain ⟨⟨rfl,rfl,_⟩,_,rfl⟩:=e0
     rw [cell_of_row w' b _ cur _ (0,0) (hw.trans hg)]
     rw [← htk,List.getElem?_take] at hu
     split at hu
     ·simpa using hu
     ·cases hu
   have hld:=run_loadVar_one (P:=C.P) (w:=w') hd ha hc'
   simp only [Nat.mul_one,Nat.add_zero] at hld
   simp [execOp,ho,Instr.loadAt,h4,Instr.sureAddr,hld]
 split at hq
 ·rename_i hr0 _ k l off hr
  unfold arrOf at hr
  split at hr <;> try (cases hr;done)
  rename_i n off' hc
  split at hr <;> try (cases hr;done)
  rename_i k' l' hH
  simp only [Option.some.injEq,Prod.mk.injEq] at hr
  obtain ⟨rfl,rfl,rfl⟩:=hr
  have hx:=h.rel x
  rw [hc] at hx
  obtain ⟨b,e1,e2⟩:=(show At.rel σ (.ptr n off') _ from hx)
  obtain ⟨b',t',cs,e3,e4,e5,e6⟩:=h.sat.holds n _ hH
  rw [e1] at e3
  obtain rfl:b=b':=by simpa using e3
  split at hq <;> try (cases hq;done)
  rename_i d hd
  split at hq <;> try (cases hq;done)
  case h_2 =>
   rename_i ha
   split at hq <;> try (cases hq;done)
   rename_i i hi
   simp only [Option.some.injEq,Prod.mk.injEq] at hq
   obtain ⟨rfl,rfl,rfl⟩:=hq
   have h0:(off':Int)=0:=hps _ (by simp)
   have hl:(l'.length:Int)=(i.size:Int):=hps _ (by simp)
   have h0:off'=0:=by omega
   have hl:l'.length=i.size:=by omega
   subst h0
   refine QOut.same h.sat (.agg (l'.map (Value.int k')).toArray) ⟨l'.map (Value.int k'),rfl,by simp,fun j a b ha hb=>?_⟩ (fun m hm=>?_) fun w' hw'=>?_
   ·rw [List.getElem?_map] at ha hb
    cases hj:l'[j]? with
    | none=>rw [hj] at ha;cases ha
    | some z=>rw [hj] at ha hb;simp only [Option.map_some,Option.some.injEq] at ha hb;rw [← ha,← hb];rfl
   ·simp only [SV.names,TV.names,List.mem_flatMap,List.mem_map] at hm
    obtain ⟨_,⟨z,_,rfl⟩,hm⟩:=hm
    simp [At.names] at hm
   ·have hn:readName T o=some n:=by unfold readName;rw [ho];simp only [hc]
    have hw:=hw' n hn b (.inr (.inr (.inr (.inr ⟨e1,_,_,hH⟩))))
    have hld:=run_loadVar_agg (w:=w') (ad:=⟨b,0,none⟩) hd ha hi (l'.map (Value.int k')) (by simpa using hl) fun j u hu=>by
     rw [Addr.add_lit,Nat.zero_add,cell_of_row w' b j cs t' (0,0) (hw.trans e5)]
     have:cs[j]?=cs.toList[j]?:=by simp
     rw [this,e6];exact hu
    simp [execOp,ho,Instr.loadAt,e2,Instr.sureAddr,hld]
  rename_i ha
  simp only [Option.some.injEq,Prod.mk.injEq] at hq
  obtain ⟨rfl,rfl,rfl⟩:=hq
  have hlt:off' < l'.length:=hps _ (by simp)
  refine QOut.same h.sat (.int k' (l'.getD off' 0)) rfl (by simp [vi,SV.names,TV.names,At.names]) fun w' hw'=>?_
  have hn:readName T o=some n:=by unfold readName;rw [ho];simp only [hc]
  have hw:=hw' n hn b (.inr (.inr (.inr (.inr ⟨e1,_,_,hH⟩))))
  have hcell:w'.cell? ⟨b,off',none⟩=some (.int k' (l'.getD off' 0)):=by
   rw [cell_of_row w' b off' cs t' (0,0) (hw.trans e5)]
   have:cs[off']?=cs.toList[off']?:=by simp
   rw [this,e6,List.getElem?_map,getD_some (d:=(0:Int)) hlt]
   rfl
  have hld:=run_loadVar_one (P:=C.P) (w:=w') hd ha hcell
  simp [execOp,ho,Instr.loadAt,e2,Instr.sureAddr,hld]
 simp only [Option.map_eq_some_iff,Prod.mk.injEq] at hq
 obtain ⟨s',hl,_,rfl,rfl⟩:=hq
 obtain ⟨u,n,b,ad,h1,h2,h3,h4,h5,h6,h7⟩:=loadS_sound h.ok h.sat (h.rel x) hl
 refine QOut.same h.sat u h4 h5 fun w' hw'=>?_
 have hn:readName T o=some n:=by
  unfold readName
  rw [ho]
  rcases h6 with ⟨i,k,e⟩ | ⟨i,j,sz,k,e⟩
  ·rw [e] at h1;simp [SV.names,TV.names,At.names] at h1;subst h1;simp [e]
  ·rw [e] at h1;simp [SV.names,TV.names,At.names] at h1;subst h1;simp [e]
 have:=h7 w' (hw' n hn b h3)
 simp [execOp,ho,Instr.loadAt,h2,Instr.sureAddr,this]

theorem idxM_has:∀ (l:List (Int × Int)) (k:Int),hasM l k=(idxM l k).isSome
 | [],_=>rfl
 | p :: r,k=>by
  unfold hasM idxM
  by_cases h:p.1=k
  ·rw [if_pos h,if_pos h];rfl
  ·rw [if_neg h,if_neg h,idxM_has r k,Option.isSome_map]
theorem mapK_spec {t:TypeId} {kk vk:IntKind} (h:mapK C t=some (kk,vk)):∃ kt et,C.P.underlying t=some (.map kt et)/\C.P.underlying kt=some (.int kk)/\∀ w:World,(zeroValue et).run C.P w = .ok (.int vk 0) w:=by
 unfold mapK at h
 split at h <;> try (cases h;done)
 rename_i kt et ht
 split at h <;> try (cases h;done)
 rename_i a b i h1 h2 h3
 split at h <;> try (cases h;done)
 rename_i k z hz
 split at h <;> try (cases h;done)
 rename_i hc
 obtain ⟨rfl,rfl⟩:=hc
 simp only [Option.some.injEq,Prod.mk.injEq] at h
 obtain ⟨rfl,rfl⟩:=h
 exact ⟨kt,et,ht,h1,fun w=>by simp [zeroValue,typeInfo,h3,hz]⟩
theorem findNow_map {kk vk:IntKind} (k:Int):∀ (es:List MapEntry) (l:List (Int × Int)) (i:Nat),es.map (fun e=>(e.key,e.val))=l.map (fun p=>(Value.int kk p.1,Value.int vk p.2)) →
  Instr.findNow (.int kk) (.int kk k) es i=some ((idxM l k).map fun j=>(i+j,.int vk (lookM l k)))
 | [],[],_,_=>rfl
 | [],_ :: _,_,h=>by simp at h
 | _ :: _,[],_,h=>by simp at h
 | e :: es,p :: l,i,h=>by
  simp only [List.map_cons,List.cons.injEq,Prod.mk.injEq] at h
  obtain ⟨⟨h1,h2⟩,h3⟩:=h
  have ih:=findNow_map k es l (i+1) h3
  unfold Instr.findNow idxM lookM
  rw [h1,h2]
  by_cases c:p.1=k
  ·rw [if_pos c,if_pos c]
   simp [Instr.sameNow,c]
  ·rw [if_neg c,if_neg c]
   have c':(k == p.1)=false:=beq_false_of_ne fun e=>c e.symm
   simp only [Instr.sameNow,if_true,c',ih,Option.map_map]
   congr 2
   funext j
   simp
   omega
theorem q_lookup {t:TypeId} {x i:Operand} {ok:Bool} (h:Pre C T H σ φ a w) (ho:o.op = .lookup t x i ok) (hq:quietS C T H o=some (ps,s,H')):QOut C T H o σ φ a w s H':=by
 have hx:=h.rel x
 have hi:=h.rel i
 simp only [quietS,ho] at hq
 split at hq <;> try (cases hq;done)
 rename_i kk vk n k' j hm hc hci
 split at hq <;> try (cases hq;done)
 rename_i ka va l hH
 split at hq <;> try (cases hq;done)
 rename_i hk
 obtain ⟨rfl,rfl,rfl⟩:=hk
 rw [hc] at hx
 rw [hci] at hi
 have ex:a.eval x=σ n:=hx
 have ei:a.eval i = .int k' j:=hi
 obtain ⟨b,es,ck,e1,e2,e3,e4⟩:=h.sat.holds n _ hH
 obtain ⟨kt,et,m1,m2,m3⟩:=mapK_spec hm
 have hn:readName T o=some n:=by unfold readName;rw [ho];simp only [hc]
 have hrun:∀ w':World,w'.heap[b]?=w.heap[b]?->(Instr.lookup t (.map (some b)) (.int k' j) ok).run C.P w' = .ok (if ok then .tuple #[.int va (lookM l j),.bool (hasM l j)] else .int va (lookM l j)) w':=fun w' hw'=>by
  have hb:=hw'.trans e3
  have hf:=findNow_map (kk:=k') (vk:=va) j es.toList l 0 e4
  have ck1:=MapKept.run_checkKey (P:=C.P) (w:=w') (kt:=kt) (k:=.int k' j) m2 (show MapKept.IsKey (.int k') (.int k' j) from rfl) es.isEmpty 9999
  have fk:=MapKept.run_findKey (P:=C.P) (w:=w') m2 hf
  rw [idxM_has]
  cases hj:idxM l j with
  | none =>
   have l0:lookM l j=0:=by
    have:∀ l:List (Int × Int),idxM l j=none->lookM l j=0:=by
     intro l
     induction l with
     | nil=>intro _;rfl
     | cons p r ih =>
      intro hl
      unfold idxM at hl
      unfold lookM
      split at hl
      ·cases hl
      ·rename_i c
       rw [if_neg c]
       exact ih (by simpa using hl)
    exact this l hj
   rw [hj] at fk
   simp [Instr.lookup,run_underlying m1,MapKept.run_getObj_map hb,ck1,fk,m3,Result.andThen,l0]
  | some q =>
   rw [hj] at fk
   simp [Instr.lookup,run_underlying m1,MapKept.run_getObj_map hb,ck1,fk,Result.andThen]
 cases ok with
 | true =>
  simp only [Option.some.injEq,Prod.mk.injEq] at hq
  obtain ⟨_,rfl,rfl⟩:=hq
  refine QOut.same h.sat (.tuple #[.int va (lookM l j),.bool (hasM l j)]) ⟨_,rfl,Rels.cons rfl (Rels.cons rfl Rels.nil)⟩ (by simp [SV.names,TV.names,At.names]) fun w' hw'=>?_
  have:=hrun w' (hw' n hn b (.inr (.inr (.inl ⟨e1,_,_,_,hH⟩))))
  simp [execOp,ho,ex,ei,e1,this]
 | false =>
  simp only [Option.some.injEq,Prod.mk.injEq] at hq
  obtain ⟨_,rfl,rfl⟩:=hq
  refine QOut.same h.sat (.int va (lookM l j)) rfl (by simp [vi,SV.names,TV.names,At.names]) fun w' hw'=>?_
  have:=hrun w' (hw' n hn b (.inr (.inr (.inl ⟨e1,_,_,_,hH⟩))))
  simp [execOp,ho,ex,ei,e1,this]

theorem q_fieldAddr {t:TypeId} {x:Operand} {f:Nat} (h:Pre C T H σ φ a w) (ho:o.op = .fieldAddr t x f) (hq:quietS C T H o=some (ps,s,H')):QOut C T H o σ φ a w s H':=by
 have hx:=h.rel x
 have nx:=h.nm x
 simp only [quietS,ho] at hq
 have key:∀ {d:Nat},fieldS C t f=some d->∀ (b k:Nat) w',(Instr.fieldAt t (.pointer (some ⟨b,k,none⟩)) f).run C.P w' = .ok (.pointer (some ⟨b,k+d,none⟩)) w':=by
  intro d hd b k w'
  unfold fieldS at hd
  split at hd <;> try (cases hd;done)
  rename_i fs hfs
  split at hd <;> try (cases hd;done)
  rename_i fd hfd
  split at hd <;> try (cases hd;done)
  rename_i i hi
  split at hd <;> try (cases hd;done)
  rename_i hz
  simp only [Option.some.injEq] at hd
  subst hd
  simp [Instr.fieldAt,run_underlying hfs,hfd,Instr.sureAddr,fieldPlace,run_sizeOf hi,hz,Addr.add_lit]
 split at hq <;> try (cases hq;done)
 ·rename_i d n k hd hc
  rw [hc] at hx nx
  simp only [Option.some.injEq,Prod.mk.injEq] at hq
  obtain ⟨_,rfl,rfl⟩:=hq
  obtain ⟨b,h1,h2⟩:=(show At.rel σ (.ptr n k) _ from hx)
  exact QOut.same h.sat (.pointer (some ⟨b,k+d,none⟩)) ⟨b,h1,rfl⟩ (by simpa [SV.names,TV.names,At.names] using nx) fun w' _=>by
   have:=key hd b k w'
   simp [execOp,ho,h2,this]
 ·rename_i d n i sz k hd hc
  rw [hc] at hx nx
  simp only [Option.some.injEq,Prod.mk.injEq] at hq
  obtain ⟨_,rfl,rfl⟩:=hq
  obtain ⟨b,o',len,cap,h1,h2,h3⟩:=(show At.rel σ (.eptr n i sz k) _ from hx)
  exact QOut.same h.sat (.pointer (some ⟨b,o'+i * sz+k+d,none⟩)) ⟨b,o',len,cap,h1,h2,by rw [Nat.add_assoc _ k d]⟩ (by simpa [SV.names,TV.names,At.names] using nx) fun w' _=>by
   have:=key hd b (o'+i * sz+k) w'
   simp [execOp,ho,h3,this]

theorem partS_sound {t:TypeId} {l:List At} {off n:Nat} {vs:List Value} (hr:Rels (At.rel σ) l vs) (hn:∀ c ∈ l,∀ m ∈ c.names,m < n) (h:partS C t l off=some s) :
  ∃ u,s.rel σ u/\(∀ m ∈ s.names,m < n)/\∀ (w':World),(part t vs.toArray off).run C.P w' = .ok u w':=by
 unfold partS at h
 split at h
 ·rename_i d i hd hi
  split at h
  ·rename_i ha
   split at h
   ·simp only [Option.some.injEq] at h
    subst h
    refine ⟨.agg ((vs.drop off).take i.size).toArray,⟨_,rfl,(hr.drop off).take i.size⟩,names_sub hn,fun w'=>?_⟩
    simp [part,run_isAggD hd,ha,run_sizeOf hi]
   ·cases h
  ·rename_i ha
   split at h
   ·rename_i x' hx'
    simp only [Option.some.injEq] at h
    subst h
    obtain ⟨u,hu,hr'⟩:=hr.get hx'
    exact ⟨u,hr',fun m hm=>hn x' (List.mem_of_getElem? hx') m hm,fun w'=>by simp [part,run_isAggD hd,ha,hu]⟩
   ·cases h
 ·cases h

theorem q_field {t:TypeId} {x:Operand} {f:Nat} (h:Pre C T H σ φ a w) (ho:o.op = .field t x f) (hq:quietS C T H o=some (ps,s,H')):QOut C T H o σ φ a w s H':=by
 have hx:=h.rel x
 have nx:=h.nm x
 simp only [quietS,ho] at hq
 split at hq <;> try (cases hq;done)
 rename_i fs l hfs hc
 split at hq <;> try (cases hq;done)
 rename_i fd hfd
 simp only [Option.map_eq_some_iff,Prod.mk.injEq] at hq
 obtain ⟨s',hp,_,rfl,rfl⟩:=hq
 rw [hc] at hx nx
 obtain ⟨vs,e,hr⟩:=(show TV.rel σ (.agg l) _ from hx)
 obtain ⟨u,h1,h2,h3⟩:=partS_sound hr (fun c hc m hm=>nx m (List.mem_flatMap.2 ⟨c,hc,hm⟩)) hp
 exact QOut.same h.sat u h1 h2 fun w' _=>by simp [execOp,ho,e,Instr.field,run_underlying hfs,hfd,asAgg,h3 w']

theorem q_index {t:TypeId} {x i:Operand} (h:Pre C T H σ φ a w) (ho:o.op = .index t x i) (hps:∀ p ∈ ps,p) (hq:quietS C T H o=some (ps,s,H')):QOut C T H o σ φ a w s H':=by
 have hx:=h.rel x
 have nx:=h.nm x
 have hi:=h.rel i
 simp only [quietS,ho] at hq
 split at hq <;> try (cases hq;done)
 case h_2 =>
  rename_i s0 k0 j0 hd hc hci
  simp only [Option.map_eq_some_iff,Prod.mk.injEq] at hq
  obtain ⟨v,hp,_,rfl,rfl⟩:=hq
  have e1:valOf (opnd T x)=some (.string s0):=by rw [hc];rfl
  have e2:valOf (opnd T i)=some (.int k0 j0):=by rw [hci];rfl
  exact QOut.pure_ h hp (by unfold execOp;rw [ho];simp only [e1,e2,Option.getD_some,h.val e1,h.val e2])
 rename_i n e l k j hd hc hci
 split at hq <;> try (cases hq;done)
 rename_i ei hei
 simp only [Option.map_eq_some_iff,Prod.mk.injEq] at hq
 obtain ⟨s',hp,rfl,rfl,rfl⟩:=hq
 rw [hc] at hx nx
 rw [hci] at hi
 have hj0:0<=j:=hps _ (by simp)
 have hj1:j < (n:Int):=hps _ (by simp)
 have ei':a.eval i = .int k j:=hi
 obtain ⟨vs,e',hr⟩:=(show TV.rel σ (.agg l) _ from hx)
 obtain ⟨u,h1,h2,h3⟩:=partS_sound hr (fun c hc m hm=>nx m (List.mem_flatMap.2 ⟨c,hc,hm⟩)) hp
 exact QOut.same h.sat u h1 h2 fun w' _=>by
  have:=h3 w'
  simp [execOp,ho,e',ei',Instr.index,asIntOf,run_underlying hd,hj0,hj1,run_sizeOf hei,this]

theorem elemEC_spec (hC:C.OK) {t:TypeId} {e:C.EC} (h:elemEC C t=some e):C.P.underlying t=some (.slice (C.tid e)):=by
 unfold elemEC at h
 split at h
 ·rename_i x hx
  rw [hx,hC.byT _ _ h]
 ·cases h

theorem q_indexAddr {t:TypeId} {x i:Operand} (h:Pre C T H σ φ a w) (ho:o.op = .indexAddr t x i) (hps:∀ p ∈ ps,p) (hq:quietS C T H o=some (ps,s,H')):QOut C T H o σ φ a w s H':=by
 have hx:=h.rel x
 have nx:=h.nm x
 have hi:=h.rel i
 simp only [quietS,ho] at hq
 split at hq <;> try (cases hq;done)
 ·rename_i n k j hc hci
  split at hq <;> try (cases hq;done)
  case h_2 =>
   rename_i hh e ll e' hH he
   split at hq <;> try (cases hq;done)
   rename_i hee hdq
   subst hee
   simp only [Option.some.injEq,Prod.mk.injEq] at hq
   obtain ⟨rfl,rfl,rfl⟩:=hq
   rw [hc] at hx nx
   rw [hci] at hi
   have hj0:0<=j:=hps _ (by simp)
   have hj1:j < (ll.length:Int):=hps _ (by simp)
   have ei':a.eval i = .int k j:=hi
   have ex:a.eval x=σ n:=hx
   obtain ⟨hz,⟨vs,hown,hR⟩,hf⟩:=h.sat.holds n _ hH
   obtain ⟨ti,z,hti,_,hsz,_⟩:=h.ok.info e'
   rcases hown.2 with ⟨_,e0⟩ | ⟨g,cap,cur,h4,_⟩
   ·omega
   ·refine QOut.same h.sat (.pointer (some ⟨g,0+j.toNat * 1+0,none⟩)) ⟨g,0,_,_,h4,by omega,rfl⟩ (by simpa [SV.names,TV.names,At.names] using nx) fun w' _=>?_
    simp [execOp,ho,ei',ex,h4,Instr.indexAt,asIntOf,run_underlying (elemEC_spec h.ok he),hj0,hj1,run_sizeOf hti,hsz,hz,Addr.add_lit]
  rename_i own e l e' hH he
  split at hq <;> try (cases hq;done)
  rename_i hee hdq
  subst hee
  simp only [Option.some.injEq,Prod.mk.injEq] at hq
  obtain ⟨rfl,rfl,rfl⟩:=hq
  rw [hc] at hx nx
  rw [hci] at hi
  have hj0:0<=j:=hps _ (by simp)
  have hj1:j < (l.length:Int):=hps _ (by simp)
  have ei':a.eval i = .int k j:=hi
  have ex:a.eval x=σ n:=hx
  obtain ⟨A,c,h4,h5⟩:=(h.sat.holds n _ hH).rd h.ok
  obtain ⟨b,o',rfl,_,_⟩:=h5.get (by omega)
  obtain ⟨ti,z,hti,_,hsz,_⟩:=h.ok.info e'
  refine QOut.same h.sat (.pointer (some ⟨b,o'+j.toNat * C.sz e'+0,none⟩)) ⟨b,o',_,_,h4,by omega,rfl⟩ (by simpa [SV.names,TV.names,At.names] using nx) fun w' _=>?_
  simp [execOp,ho,ei',ex,h4,Instr.indexAt,asIntOf,run_underlying (elemEC_spec h.ok he),hj0,hj1,run_sizeOf hti,hsz,Addr.add_lit]
 ·rename_i n k kd j hc hci
  split at hq <;> try (cases hq;done)
  rename_i m e hd
  split at hq <;> try (cases hq;done)
  rename_i ei hei
  simp only [Option.some.injEq,Prod.mk.injEq] at hq
  obtain ⟨rfl,rfl,rfl⟩:=hq
  rw [hc] at hx nx
  rw [hci] at hi
  have hj0:0<=j:=hps _ (by simp)
  have hj1:j < (m:Int):=hps _ (by simp)
  have ei':a.eval i = .int kd j:=hi
  obtain ⟨b,h1,h2⟩:=hx
  have ex:a.eval x = .pointer (some ⟨b,k,none⟩):=h2
  refine QOut.same h.sat (.pointer (some ⟨b,k+j.toNat * ei.size,none⟩)) ⟨b,h1,rfl⟩ (by simpa [SV.names,TV.names,At.names] using nx) fun w' _=>?_
  simp [execOp,ho,ei',ex,Instr.indexAt,Instr.sureAddr,asIntOf,run_underlying hd,hj0,hj1,run_sizeOf hei,Addr.add_lit]

theorem q_extract {x:Operand} {k:Nat} (h:Pre C T H σ φ a w) (ho:o.op = .extract x k) (hq:quietS C T H o=some (ps,s,H')):QOut C T H o σ φ a w s H':=by
 have hx:=h.rel x
 have nx:=h.nm x
 simp only [quietS,ho] at hq
 split at hq <;> try (cases hq;done)
 rename_i l hc
 simp only [Option.map_eq_some_iff,Prod.mk.injEq] at hq
 obtain ⟨y,hy,_,rfl,rfl⟩:=hq
 rw [hc] at hx nx
 obtain ⟨vs,e,hr⟩:=hx
 obtain ⟨u,hu,hru⟩:=hr.get hy
 exact QOut.same h.sat u hru (fun m hm=>nx m (List.mem_flatMap.2 ⟨y,List.mem_of_getElem? hy,hm⟩)) fun w' _=>by simp [execOp,ho,e,Instr.extract,hu]

theorem caps_sound:∀ {l:List SV} {cs:List Nat} {vs:List Value},caps l=some cs->Rels (SV.rel σ) l vs->vs=cs.map σ/\(∀ c ∈ cs,∃ b,σ c = .pointer (some ⟨b,0,none⟩))/\∀ n,(∀ s ∈ l,∀ m ∈ s.names,m < n)->∀ c ∈ cs,c < n:=by
 intro l
 induction l with
 | nil=>intro cs vs h hr;simp [caps] at h;subst h;exact ⟨List.eq_nil_of_length_eq_zero hr.1.symm,by simp,by simp⟩
 | cons x l ih =>
  intro cs vs h hr
  unfold caps at h
  split at h
  ·cases ‹_ :: _=[]›
  ·rename_i n t heq
   obtain ⟨rfl,rfl⟩:x = .one (.at (.ptr n 0))/\l=t:=by simpa using heq
   simp only [Option.map_eq_some_iff] at h
   obtain ⟨cs',h1,rfl⟩:=h
   match vs,hr with
   | [],hr=>exact absurd hr.1 (by simp)
   | v :: vs,hr =>
    obtain ⟨b,e1,e2⟩:=(show At.rel σ (.ptr n 0) v from hr.2 0 _ _ rfl rfl)
    obtain ⟨e3,e5,e4⟩:=ih h1 (vs:=vs) ⟨by simpa using hr.1,fun i x y hx hy=>hr.2 (i+1) x y (by simpa using hx) (by simpa using hy)⟩
    refine ⟨by rw [e3,e2,List.map_cons,e1],fun c hc=>?_,fun k hk c hc=>?_⟩
    ·rcases List.mem_cons.1 hc with rfl | hc
     ·exact ⟨b,e1⟩
     ·exact e5 c hc
    rcases List.mem_cons.1 hc with rfl | hc
    ·exact hk (.one (.at (.ptr c 0))) (by simp) c (by simp [SV.names,TV.names,At.names])
    ·exact e4 k (fun s hs=>hk s (by simp [hs])) c hc
  ·cases h

theorem rels_map_eval (h:Pre C T H σ φ a w) (l:List Operand):Rels (SV.rel σ) (l.map (opnd T)) (l.map a.eval) :=
 ⟨by simp,fun i x y hx hy=>by
  rw [List.getElem?_map] at hx hy
  cases hl:l[i]? with
  | none=>rw [hl] at hx;cases hx
  | some p=>rw [hl] at hx hy;simp at hx hy;subst hx hy;exact h.rel p⟩

theorem q_makeFunc {fn:Fn} {fs cs:Array Operand} (h:Pre C T H σ φ a w) (ho:o.op = .makeFunc fn fs cs) (hq:quietS C T H o=some (ps,s,H')):QOut C T H o σ φ a w s H':=by
 cases fn <;> try (simp [quietS,ho] at hq;done)
 rename_i f
 simp only [quietS,ho] at hq
 split at hq <;> try (cases hq;done)
 rename_i hfs
 simp only [Option.map_eq_some_iff,Prod.mk.injEq] at hq
 obtain ⟨l,hl,_,rfl,rfl⟩:=hq
 obtain ⟨e1,e5,e2⟩:=caps_sound hl (rels_map_eval h cs.toList)
 refine QOut.same h.sat (.func (.func f) #[] (l.map σ).toArray) ⟨rfl,e5⟩ (fun m hm=>?_) fun w' _=>?_
 ·simp [SV.names,TV.names,At.names] at hm
  refine e2 H.length (fun s hs m hm=>?_) m hm
  obtain ⟨x,_,rfl⟩:=List.mem_map.1 hs
  exact h.nm x m hm
 ·have e3:fs=#[]:=Array.ext' (by simpa using hfs)
  have e4:cs.map a.eval=(l.map σ).toArray:=by
   apply Array.ext'
   simp [← e1]
  rw [← e4]
  simp [execOp,ho,Instr.makeFunc,e3]
end
end Go.Proofs.YtedfbafngmicpaaGreat.Sx
end
section
/- The symbolic run is sound: the other quiet operations. No program in sight. -/
namespace Go.Proofs.YtedfbafngmicpaaGreat.Sx
open Go

section
variable {C:Ctx}
variable {T:List SV} {H:List (Chunk C)} {o:Oper} {σ:Nat->Value} {φ:Nat->Nat->Prop} {a:Act} {w:World} {ps:List Prop} {s:SV} {H':List (Chunk C)}

/-- What okAt says. -/
theorem okAt_one (hC:C.OK) (hs:Sat C σ φ w H) {x:At} {v:Value} (h:okAt H x=true) (hr:x.rel σ v):v.oneCell'=true:=by
 cases x with
 | any=>simp [okAt] at h
 | val u =>
  have:v=u:=hr
  subst this
  cases v <;> simp_all [okAt,Value.oneCell']
 | ptr n off=>obtain ⟨b,_,rfl⟩:=hr;rfl
 | eptr n i sz off=>obtain ⟨b,o,len,cap,_,_,rfl⟩:=hr;rfl
 | slc n =>
  simp only [okAt] at h
  split at h
  ·rename_i own e l hH
   obtain ⟨A,c,h1,_⟩:=(hs.holds n _ hH).rd hC
   have:v=σ n:=hr
   rw [this,h1];rfl
  ·rename_i kk vk l hH
   obtain ⟨b,es,ck,h1,_⟩:=hs.holds n _ hH
   have:v=σ n:=hr
   rw [this,h1];rfl
  ·rename_i hh e ll hH
   obtain ⟨_,⟨vs,ho,_⟩,_⟩:=hs.holds n _ hH
   have:v=σ n:=hr
   rw [this]
   rcases ho.2 with ⟨h1,_⟩ | ⟨g,cap,cur,h1,_⟩
   ·rw [h1];rfl
   ·rw [h1];rfl
  ·cases h
 | fn f cs=>have:v=_:=hr.1;subst this;rfl

theorem oneCell_cells {v:Value} (h:v.oneCell'=true):v.cells.toList=[v]:=by
 cases v <;> simp_all [Value.oneCell',Value.cells]

theorem svCells_sound (hC:C.OK) (hs:Sat C σ φ w H) {x:SV} {v:Value} {cs:List At} (h:svCells H x=some cs) (hr:x.rel σ v):Rels (At.rel σ) cs v.cells.toList/\∀ c ∈ cs,∀ m ∈ c.names,m ∈ x.names:=by
 match x with
 | .one (.at y) =>
  simp only [svCells] at h
  split at h
  ·rename_i hy
   simp only [Option.some.injEq] at h
   subst h
   have h1:=okAt_one hC hs hy hr
   rw [oneCell_cells h1]
   exact ⟨Rels.cons hr Rels.nil,fun c hc m hm=>by simp at hc;subst hc;exact hm⟩
  ·cases h
 | .one (.agg l) =>
  simp only [svCells,Option.some.injEq] at h
  subst h
  obtain ⟨vs,rfl,hr'⟩:=hr
  exact ⟨hr',fun c hc m hm=>List.mem_flatMap.2 ⟨c,hc,hm⟩⟩
 | .tup l=>simp [svCells] at h

theorem splice_rels {α β:Type} {R:α->β->Prop} {l:List α} {m:List β} {l':List α} {m':List β} (h:Rels R l m) (h':Rels R l' m') (off:Nat):Rels R (splice l off l') (splice m off m'):=by
 unfold splice
 rw [← h'.1]
 exact (h.take off).append (h'.append (h.drop _))

theorem splice_len {α:Type} {l l':List α} {off:Nat} (h:off+l'.length<=l.length):(splice l off l').length=l.length:=by
 simp [splice];omega

theorem splice_set {α:Type} {l vs:List α} {v:α} {p:Nat} (h:p+(vs.length+1)<=l.length):splice (l.set p v) (p+1) vs=splice l p (v :: vs):=by
 have hA:(l.take p).length=p:=by simp;omega
 have e:l.set p v=l.take p ++ v :: l.drop (p+1):=by rw [List.set_eq_take_append_cons_drop,if_pos (by omega)]
 unfold splice
 rw [e,List.take_append,List.drop_append,hA,List.take_of_length_le (by omega),show p+1 - p=1 by omega,List.drop_eq_nil_of_le (by omega:(l.take p).length<=p+1+vs.length)]
 simp only [List.take_succ_cons,List.take_zero,List.nil_append,List.length_cons,List.append_assoc,List.cons_append]
 rw [show p+1+vs.length - p=vs.length+1 by omega,List.drop_succ_cons,List.drop_drop]
 rw [show p+1+vs.length=p+(vs.length+1) by omega]

theorem foldl_set (off:Nat):∀ (vs:List Value) (k:Nat) (cs:Array Value),off+k+vs.length<=cs.size →
  ((vs.zipIdx k).foldl (fun cs (x:Value × Nat)=>cs.setIfInBounds (off+x.2) x.1) cs).toList=splice cs.toList (off+k) vs:=by
 intro vs
 induction vs with
 | nil=>intro k cs h;simp [splice]
 | cons v vs ih =>
  intro k cs h
  simp only [List.length_cons] at h
  rw [List.zipIdx_cons,List.foldl_cons,ih (k+1) _ (by simp;omega)]
  simp only [Array.toList_setIfInBounds]
  exact splice_set (by simp;omega)

theorem fill_sound (place:Nat->Option (Nat × Nat)) (hC:C.OK) (hs:Sat C σ φ w H):∀ (parts:List (Nat × SV)) (vs:List (Nat × Value)) (z:List At) (cs:Array Value) {cells:List At},
  parts.map (·.1)=vs.map (·.1)->Rels (SV.rel σ) (parts.map (·.2)) (vs.map (·.2))->Rels (At.rel σ) z cs.toList->buildS C H place z parts=some cells →
  (∀ p ∈ parts,∀ m ∈ p.2.names,m < H.length)->(∀ c ∈ z,∀ m ∈ c.names,m < H.length) →
  ∃ cs',Instr.fill place cs vs=some cs'/\Rels (At.rel σ) cells cs'.toList/\∀ c ∈ cells,∀ m ∈ c.names,m < H.length:=by
 intro parts
 induction parts with
 | nil =>
  intro vs z cs cells hk hr hz hb _ hn
  cases vs with
  | nil=>simp [buildS] at hb;subst hb;exact ⟨cs,rfl,hz,hn⟩
  | cons v vs=>simp at hk
 | cons p parts ih =>
  intro vs z cs cells hk hr hz hb hn hzn
  obtain ⟨i,x⟩:=p
  cases vs with
  | nil=>simp at hk
  | cons q vs =>
   obtain ⟨i',v⟩:=q
   simp only [List.map_cons,List.cons.injEq] at hk
   obtain ⟨rfl,hk⟩:=hk
   have hrx:x.rel σ v:=hr.2 0 _ _ rfl rfl
   have hrt:Rels (SV.rel σ) (parts.map (·.2)) (vs.map (·.2)):=⟨by simpa using hr.1,fun i a b ha hb=>hr.2 (i+1) a b (by simpa using ha) (by simpa using hb)⟩
   simp only [buildS] at hb
   split at hb <;> try (cases hb;done)
   rename_i off size cl hp hc
   split at hb <;> try (cases hb;done)
   rename_i hle
   obtain ⟨h1,h2⟩:=svCells_sound hC hs hc hrx
   have hsz:v.cells.size=cl.length:=by rw [h1.1];simp
   have hzs:z.length=cs.size:=by rw [hz.1];simp
   have hf:=foldl_set off v.cells.toList 0 cs (by simp;omega)
   rw [Nat.add_zero] at hf
   have hset:v.cells.zipIdx.foldl (fun cs (x:Value × Nat)=>cs.setIfInBounds (off+x.2) x.1) cs=(v.cells.toList.zipIdx).foldl (fun cs (x:Value × Nat)=>cs.setIfInBounds (off+x.2) x.1) cs:=by
    rw [← Array.foldl_toList,Array.toList_zipIdx]
   obtain ⟨cs',g1,g2,g3⟩:=ih vs (splice z off cl) (v.cells.zipIdx.foldl (fun cs (x:Value × Nat)=>cs.setIfInBounds (off+x.2) x.1) cs) hk hrt (by rw [hset,hf];exact splice_rels hz h1 off) hb
    (fun p hp=>hn p (List.mem_cons_of_mem _ hp)) (fun c hc m hm=>by
     simp only [splice,List.mem_append] at hc
     rcases hc with hc | hc | hc
     ·exact hzn c (List.mem_of_mem_take hc) m hm
     ·exact hn (i,x) List.mem_cons_self m (h2 c hc m hm)
     ·exact hzn c (List.mem_of_mem_drop hc) m hm)
   refine ⟨cs',?_,g2,g3⟩
   rw [Instr.fill]
   simp only [hp]
   rw [if_neg (by simp only [Bool.or_eq_true,decide_eq_true_eq,not_or];omega)]
   exact g1

theorem zeroS_sound (_:C.OK) {t:TypeId} {z:List At} (h:zeroS C t=some z):∃ i v,C.P.info? t=some i/\i.zero=some v/\z=v.cells.toList.map .val:=by
 unfold zeroS at h
 split at h
 ·rename_i i hi
  simp only [Option.map_eq_some_iff] at h
  obtain ⟨v,h1,rfl⟩:=h
  exact ⟨i,v,hi,h1,rfl⟩
 ·cases h

theorem run_places {P:Program}:∀ (fs:List Field),(∀ f ∈ fs,(P.info? f.type).isSome=true)->∀ w,(fs.mapM (m:=Sem) fun f=>do pure (f.offset,← sizeOf f.type)).run P w = .ok (fs.map fun f=>(f.offset,((P.info? f.type).map (·.size)).getD 0)) w:=by
 intro fs
 induction fs with
 | nil=>intro _ w;simp
 | cons f fs ih =>
  intro h w
  obtain ⟨i,hi⟩:=Option.isSome_iff_exists.1 (h f (by simp))
  have:=ih (fun g hg=>h g (by simp [hg])) w
  simp only [List.mapM_cons,Sem.run_bind,run_sizeOf hi,Result.andThen_ok,Sem.run_pure,this,List.map_cons,hi,Option.map_some,Option.getD_some]

theorem run_build (_:C.OK) {t:TypeId} {i:TypeInfo} {v:Value} (hb:buildOK C t=true) (hi:C.P.info? t=some i) (hz:i.zero=some v) {vs:Array (Nat × Value)} {cs:Array Value} (hf:Instr.fill (placeS C t) v.cells vs.toList=some cs) (w:World) :
  (Instr.build t vs).run C.P w = .ok (.agg cs) w:=by
 unfold buildOK at hb
 have hzr:(zeroValue t).run C.P w = .ok v w:=by simp [zeroValue,typeInfo,hi,hz]
 split at hb
 ·rename_i fs hfs
  have hpl:placeS C t=fun i=>(fs.toList.map fun f=>(f.offset,((C.P.info? f.type).map (·.size)).getD 0)).toArray[i]?:=by
   funext k
   unfold placeS
   rw [hfs]
   simp only [List.getElem?_toArray,List.getElem?_map,Array.getElem?_toList]
   cases hk:fs[k]? with
   | none=>rfl
   | some f =>
    have hm:f ∈ fs.toList:=by
     have:=Array.mem_of_getElem? hk
     simpa using this
    obtain ⟨j,hj⟩:=Option.isSome_iff_exists.1 (List.all_eq_true.1 hb f hm)
    simp [hj]
  have hrun:=run_places (P:=C.P) fs.toList (fun f hf=>List.all_eq_true.1 hb f hf) w
  rw [hpl] at hf
  unfold Instr.build
  have hm:(fs.mapM (m:=Sem) fun f=>do pure (f.offset,← sizeOf f.type)).run C.P w = .ok (fs.toList.map fun f=>(f.offset,((C.P.info? f.type).map (·.size)).getD 0)).toArray w:=by
   rw [Array.mapM_eq_mapM_toList,Sem.run_map,hrun]
   rfl
  simp only [Sem.run_bind,hzr,Result.andThen_ok,run_underlying hfs,hm,hf,Sem.run_pure]
 ·rename_i n e he
  obtain ⟨j,hj⟩:=Option.isSome_iff_exists.1 hb
  have hpl:placeS C t=fun i=>some (i * j.size,j.size):=by funext k;simp [placeS,he,hj]
  rw [hpl] at hf
  unfold Instr.build
  simp [hzr,run_underlying he,run_sizeOf hj,hf]
 ·cases hb

theorem parts_rel (h:Pre C T H σ φ a w) (parts:List (Nat × Operand)) :
  (parts.map fun p=>(p.1,opnd T p.2)).map (·.1)=(parts.map fun p=>(p.1,a.eval p.2)).map (·.1)/\Rels (SV.rel σ) ((parts.map fun p=>(p.1,opnd T p.2)).map (·.2)) ((parts.map fun p=>(p.1,a.eval p.2)).map (·.2)):=by
 constructor
 ·simp [Function.comp_def]
 ·have:=rels_map_eval h (parts.map (·.2))
  simpa [Function.comp_def] using this

theorem q_build {t:TypeId} {parts:Array (Nat × Operand)} (h:Pre C T H σ φ a w) (ho:o.op = .build t parts) (hq:quietS C T H o=some (ps,s,H')):QOut C T H o σ φ a w s H':=by
 simp only [quietS,ho] at hq
 split at hq <;> try (cases hq;done)
 rename_i z hz
 split at hz <;> try (cases hz;done)
 rename_i hok
 split at hq <;> try (cases hq;done)
 rename_i cells hb
 simp only [Option.some.injEq,Prod.mk.injEq] at hq
 obtain ⟨_,rfl,rfl⟩:=hq
 obtain ⟨i,v,hi,hiz,rfl⟩:=zeroS_sound h.ok hz
 obtain ⟨e1,e2⟩:=parts_rel h parts.toList
 obtain ⟨cs',g1,g2,g3⟩:=fill_sound (placeS C t) h.ok h.sat _ _ _ v.cells e1 e2 (rels_vals _) hb (fun p hp m hm=>by
  obtain ⟨q,_,rfl⟩:=List.mem_map.1 hp
  exact h.nm q.2 m hm) (fun c hc m hm=>by
  obtain ⟨u,_,rfl⟩:=List.mem_map.1 hc
  simp [At.names] at hm)
 obtain ⟨σ',φ',g,r,n⟩:=nilCells_sound h.ok cells (cellTs C.P 20 t) h.sat g2 g3
 refine ⟨.agg cs',σ',φ',g,⟨cs'.toList,by simp,r⟩,fun m hm=>?_,fun w' _=>?_⟩
 ·obtain ⟨c,hc,hm⟩:=List.mem_flatMap.1 hm
  exact n c hc m hm
 ·have hrun:=run_build h.ok hok hi hiz (vs:=parts.map fun p=>(p.1,a.eval p.2)) (cs:=cs') (by simpa using g1) w'
  simp [execOp,ho,hrun]
end
end Go.Proofs.YtedfbafngmicpaaGreat.Sx
end
section
/- The symbolic run is sound: slices, lengths, binary operations; all quiet operations. No program in sight. -/
namespace Go.Proofs.YtedfbafngmicpaaGreat.Sx
open Go

section
variable {C:Ctx}
variable {T:List SV} {H:List (Chunk C)} {o:Oper} {σ:Nat->Value} {φ:Nat->Nat->Prop} {a:Act} {w:World} {ps:List Prop} {s:SV} {H':List (Chunk C)}

theorem trueInt_val (h:Pre C T H σ φ a w) {x:Operand} {n:Int} (hx:trueInt (opnd T x)=some n):∃ k,a.eval x = .int k n:=by
 have hr:=h.rel x
 unfold trueInt at hx
 split at hx
 ·rename_i k m hc
  rw [hc] at hr
  simp only [Option.some.injEq] at hx
  subst hx
  exact ⟨k,hr⟩
 ·cases hx

theorem run_bounds {P:Program} {len cap:Nat} {low high:Option Value} {i j:Int} (hl:(low=none/\i=0) ∨ ∃ k,low=some (.int k i)) (hh:(high=none/\j=len) ∨ ∃ k,high=some (.int k j))
  (h0:0<=i) (h1:i<=j) (h2:j<=cap) (w:World):(Instr.sliceBounds true len cap low high none).run P w = .ok (i.toNat,j.toNat,cap) w:=by
 have hj:(j.toNat:Int)=j:=by omega
 rcases hl with ⟨rfl,rfl⟩ | ⟨k,rfl⟩ <;> rcases hh with ⟨rfl,rfl⟩ | ⟨k',rfl⟩
 ·simp [Instr.sliceBounds]
 ·have e1:=run_sliceBound (P:=P) w k' j cap .sliceAcap (by omega) h2
  simp [Instr.sliceBounds,e1]
 ·have e1:=run_sliceBound (P:=P) w k i len .sliceB h0 h1
  simp [Instr.sliceBounds,e1]
 ·have e1:=run_sliceBound (P:=P) w k' j cap .sliceAcap (by omega) h2
  have e2:=run_sliceBound (P:=P) w k i j.toNat .sliceB h0 (by omega)
  simp [Instr.sliceBounds,e1,e2]

theorem run_sliceAt {P:Program} {t e:TypeId} {ti:TypeInfo} {A:Option Addr} {len cap:Nat} {low high:Option Value} {i j:Int} (ht:P.underlying t=some (.slice e)) (he:P.info? e=some ti)
  (hl:(low=none/\i=0) ∨ ∃ k,low=some (.int k i)) (hh:(high=none/\j=len) ∨ ∃ k,high=some (.int k j))
  (h0:0<=i) (h1:i<=j) (h2:j<=cap) (w:World):(Instr.sliceAt t (.slice A len cap) low high none).run P w = .ok (.slice (if cap=i.toNat then A else A.map (·.add (i.toNat * ti.size))) (j.toNat - i.toNat) (cap - i.toNat)) w:=by
 have hb:=run_bounds (P:=P) hl hh h0 h1 h2 w
 simp [Instr.sliceAt,Instr.slice,run_underlying ht,hb,run_sizeOf he]

/-- An owner gives up. -/
theorem freeze_sound (hC:C.OK) (hs:Sat C σ φ w H) {n:Nat} {e:C.EC} {l:List (C.α e)} (hH:H[n]?=some (.row true e l)) :
  Grows C σ φ H σ (fun k=>if k=n then (fun _=>False) else φ k) (H.set n (.row false e l)) w:=by
 have hn:n < H.length:=(List.getElem?_eq_some_iff.1 hH).1
 have hh:=hs.holds n _ hH
 refine ⟨hs.step hC (fun k=>k=n) (Nat.le_refl _) (fun _ _ _=>rfl) (fun k hk=>?_) (fun _ _ _ _ _ _=>rfl) (fun k c hk hc=>?_) (fun k b hk hb=>?_) (fun k m b hk hm hb _=>hk.trans hm.symm) (fun k b hk hb=>?_)
  (fun k d hk hc b hb m hm=>?_) (fun k hk b hb=>?_) (by simp) (fun k c hk hc m hm=>?_),fun _ _=>rfl,fun k b hb=>?_,by simp,fun k hk ho=>?_,fun k hk b=>?_⟩
 ·have:¬ k=n:=hk
  exact ⟨by rw [List.getElem?_set_ne (Ne.symm this)],rfl,fun b=>by simp [this]⟩
 ·have hk':k=n:=hk
  subst hk'
  rw [List.getElem?_set_self hn] at hc
  simp only [Option.some.injEq] at hc
  subst hc
  obtain ⟨A,c,h1,h2⟩:=hh.rd hC
  exact ⟨⟨A,c,h1,h2⟩,fun b hb=>by simp at hb⟩
 ·have hk':k=n:=hk
  subst hk'
  simp at hb
 ·have hk':k=n:=hk
  subst hk'
  simp at hb
 ·have hk':k=n:=hk
  subst hk'
  rw [List.getElem?_set_self hn] at hc
  simp only [Option.some.injEq] at hc
  subst hc
  by_cases e:m=k
  ·subst e;simp at hm
  ·simp only [if_neg e] at hm
   exact e (hs.dis m k b hm ((hh.2 b).2 hb.2))
 ·rw [List.length_set] at hk
  by_cases e:k=n
  ·subst e;simp at hb
  ·simp only [if_neg e] at hb;exact hs.out k hk b hb
 ·have hk':k=n:=hk
  subst hk'
  rw [List.getElem?_set_self hn] at hc
  simp only [Option.some.injEq] at hc
  subst hc
  simp [Chunk.names] at hm
 ·by_cases e:k=n
  ·subst e;simp at hb
  ·simpa [e] using hb
 ·by_cases e:k=n
  ·subst e;simp [isOwn,List.getElem?_set_self hn] at ho
  ·simpa [isOwn,List.getElem?_set_ne (Ne.symm e)] using ho
 ·unfold Rdb
  by_cases e':k=n
  ·subst e'
   rw [List.getElem?_set_self hn,hH]
   simp
  ·simp [List.getElem?_set_ne (Ne.symm e')]

/-- A part of a row that is read alone. -/
theorem view_sound (hC:C.OK) (hs:Sat C σ φ w H) {n:Nat} {e:C.EC} {l:List (C.α e)} (hH:H[n]?=some (.row false e l)) {i j:Nat} (hij:i<=j) (hj:j<=l.length) :
  ∃ A c,σ n = .slice A l.length c/\l.length<=c/\Grows C σ φ H (fun k=>if k=H.length then .slice (if c=i then A else A.map (·.add (i * C.sz e))) (j - i) (c - i) else σ k) (fun k=>if k=H.length then (fun _=>False) else φ k)
   (H ++ [.row false e ((l.take j).drop i)]) w:=by
 obtain ⟨⟨A,c,h1,h2⟩,_⟩:=hs.holds n _ hH
 have hcap:=h2.cap
 have hlen:((l.take j).drop i).length=j - i:=by simp;omega
 refine ⟨A,c,h1,hcap,Grows.view hC hs _ _ (fun σ'=>⟨⟨_,c - i,by rw [hlen],by rw [hlen];exact (h2.head hj).cut hij⟩,fun _ h=>h⟩) rfl (fun b hb m hm=>?_)⟩
 ·obtain ⟨hpos,hb⟩:=hb
  rw [hlen] at hpos
  have:¬ c=i:=by omega
  rw [if_neg this] at hb
  cases A with
  | none=>simp [Value.ownBlock] at hb
  | some ad =>
   simp only [Option.map_some,Value.ownBlock,Option.some.injEq] at hb
   refine hs.immr n e l hH (by omega) b ?_ m hm
   rw [h1]
   simp only [Value.ownBlock,Option.some.injEq]
   rw [← hb]
   unfold Addr.add
   split <;> rfl

theorem isEC_spec (hC:C.OK) {t:TypeId} {e:C.EC} (h:isEC C t e=true):C.P.underlying t=some (.slice (C.tid e)):=by
 unfold isEC at h
 split at h
 ·rename_i e' he
  split at h
  ·rename_i hee _
   subst hee
   exact elemEC_spec hC he
  ·cases h
 ·cases h

theorem q_slice {t:TypeId} {x:Operand} {lo hi mx:Option Operand} (h:Pre C T H σ φ a w) (ho:o.op = .slice t x lo hi mx) (hps:∀ p ∈ ps,p) (hq:quietS C T H o=some (ps,s,H')):QOut C T H o σ φ a w s H':=by
 have hx:=h.rel x
 simp only [quietS,ho] at hq
 split at hq <;> try (cases hq;done)
 rename_i n hc
 split at hq <;> try (cases hq;done)
 rename_i own e l hH
 split at hq <;> try (cases hq;done)
 rename_i he
 split at hq <;> try (cases hq;done)
 rename_i i j hlo hhi
 rw [hc] at hx
 have ex:a.eval x=σ n:=hx
 have ht:=isEC_spec h.ok he
 have hl:(lo.map a.eval=none/\i=0) ∨ ∃ k,lo.map a.eval=some (.int k i):=by
  cases lo with
  | none=>simp at hlo;exact .inl ⟨rfl,hlo.symm⟩
  | some p=>obtain ⟨k,hk⟩:=trueInt_val h hlo;exact .inr ⟨k,by simp [hk]⟩
 have hh:(hi.map a.eval=none/\j=(l.length:Int)) ∨ ∃ k,hi.map a.eval=some (.int k j):=by
  cases hi with
  | none=>simp at hhi;exact .inl ⟨rfl,hhi.symm⟩
  | some p=>obtain ⟨k,hk⟩:=trueInt_val h hhi;exact .inr ⟨k,by simp [hk]⟩
 have key:∀ (φ1:Nat->Nat->Prop) (H1:List (Chunk C)),Grows C σ φ H σ φ1 H1 w->H1[n]?=some (.row false e l)->H1.length=H.length->0<=i->i<=j->j<=(l.length:Int) →
   QOut C T H o σ φ a w (.one (.at (.slc H.length))) (H1 ++ [.row false e ((l.take j.toNat).drop i.toNat)]):=by
  intro φ1 H1 g1 hH1 hlen h0 h1 h2
  obtain ⟨A,c,e1,e2,g2⟩:=view_sound h.ok g1.sat hH1 (i:=i.toNat) (j:=j.toNat) (by omega) (by omega)
  obtain ⟨ti,z,hti,_,hsz,_⟩:=h.ok.info e
  refine ⟨.slice (if c=i.toNat then A else A.map (·.add (i.toNat * C.sz e))) (j.toNat - i.toNat) (c - i.toNat),_,_,g1.trans g2,?_,fun m hm=>?_,fun w' _=>?_⟩
  ·show _=_
   simp only [hlen,if_true]
  ·simp [SV.names,TV.names,At.names] at hm
   subst hm
   simp [hlen]
  ·have hrun:=run_sliceAt (P:=C.P) (A:=A) (len:=l.length) (cap:=c) ht hti hl hh h0 h1 (by omega) w'
   rw [hsz] at hrun
   simp [execOp,ho,ex,e1,hrun]
 split at hq
 ·simp only [Option.some.injEq,Prod.mk.injEq] at hq
  obtain ⟨rfl,rfl,rfl⟩:=hq
  exact key φ H (Grows.refl h.sat) hH rfl (hps _ (by simp)) (hps _ (by simp)) (hps _ (by simp))
 ·simp only [Option.some.injEq,Prod.mk.injEq] at hq
  obtain ⟨rfl,rfl,rfl⟩:=hq
  have hn:n < H.length:=(List.getElem?_eq_some_iff.1 hH).1
  have:=key _ _ (freeze_sound h.ok h.sat hH) (by rw [List.getElem?_set_self hn]) (by simp) (hps _ (by simp)) (hps _ (by simp)) (hps _ (by simp))
  exact this

theorem map_eval2 {c:Call} {x y:Operand} (h:c.args.toList=[x,y]) (f:Operand->Value):c.args.map f=#[f x,f y]:=by
 apply Array.ext'
 simp [h]
theorem map_eval1 {c:Call} {x:Operand} (h:c.args.toList=[x]) (f:Operand->Value):c.args.map f=#[f x]:=by
 apply Array.ext'
 simp [h]

theorem execOp_builtin {c:Call} {b:Builtin} {ρ ρ':Operand->Value} (ho:o.op = .call c) (hc:c.callee = .builtin b) (hm:c.args.map ρ=c.args.map ρ'):execOp ρ o=execOp ρ' o:=by
 unfold execOp
 rw [ho]
 simp only [resolve,hc,hm]

theorem q_call {c:Call} (h:Pre C T H σ φ a w) (ho:o.op = .call c) (hq:quietS C T H o=some (ps,s,H')):QOut C T H o σ φ a w s H':=by
 simp only [quietS,ho] at hq
 split at hq <;> try (cases hq;done)
 ·rename_i hcal
  split at hq <;> try (cases hq;done)
  rename_i x hargs
  have hx:=h.rel x
  split at hq
  ·rename_i n hc
   rw [hc] at hx
   have ex:a.eval x=σ n:=hx
   split at hq <;> try (cases hq;done)
   case h_2 =>
    rename_i hh e ll et hH het
    simp only [Option.some.injEq,Prod.mk.injEq] at hq
    obtain ⟨_,rfl,rfl⟩:=hq
    obtain ⟨_,⟨vs,hown,_⟩,_⟩:=h.sat.holds n _ hH
    have h1:∃ A cp,σ n = .slice A ll.length cp:=by
     rcases hown.2 with ⟨e1,e0⟩ | ⟨g,cap,cur,e1,_⟩
     ·exact ⟨none,0,by rw [e1,e0]⟩
     ·exact ⟨_,_,e1⟩
    obtain ⟨A,cp,h1⟩:=h1
    refine QOut.same h.sat (.int .i64 ll.length) rfl (by simp [vi,SV.names,TV.names,At.names]) fun w' _=>?_
    cases ht:c.argTypes[0]? with
    | none=>rw [ht] at het;cases het
    | some t =>
     rw [ht] at het
     have het:C.P.underlying t=some (.slice et):=het
     simp [execOp,ho,resolve,hcal,invoke,builtin,map_eval1 hargs,ex,h1,Builtin.len_,ht,run_underlying het,goInt]
   rename_i own e l et hH het
   simp only [Option.some.injEq,Prod.mk.injEq] at hq
   obtain ⟨_,rfl,rfl⟩:=hq
   obtain ⟨A,cp,h1,h2⟩:=(h.sat.holds n _ hH).rd h.ok
   refine QOut.same h.sat (.int .i64 l.length) rfl (by simp [vi,SV.names,TV.names,At.names]) fun w' _=>?_
   cases ht:c.argTypes[0]? with
   | none=>rw [ht] at het;cases het
   | some t =>
    rw [ht] at het
    have het:C.P.underlying t=some (.slice et):=het
    simp [execOp,ho,resolve,hcal,invoke,builtin,map_eval1 hargs,ex,h1,Builtin.len_,ht,run_underlying het,goInt]
  ·split at hq <;> try (cases hq;done)
   rename_i u hu
   simp only [Option.map_eq_some_iff,Prod.mk.injEq] at hq
   obtain ⟨v,hp,_,rfl,rfl⟩:=hq
   exact QOut.pure_ h hp (execOp_builtin ho hcal (by rw [map_eval1 hargs,map_eval1 hargs,hu,h.val hu];rfl))
 ·rename_i hcal
  split at hq <;> try (cases hq;done)
  rename_i x y hargs
  split at hq <;> try (cases hq;done)
  rename_i k1 n1 k2 n2 hx hy
  simp only [Option.map_eq_some_iff,Prod.mk.injEq] at hq
  obtain ⟨v,hp,_,rfl,rfl⟩:=hq
  exact QOut.pure_ h hp (execOp_builtin ho hcal (by rw [map_eval2 hargs,map_eval2 hargs,hx,h.val hx,hy,h.val hy];rfl))
 ·rename_i hcal
  split at hq <;> try (cases hq;done)
  rename_i x y hargs
  split at hq <;> try (cases hq;done)
  rename_i k1 n1 k2 n2 hx hy
  simp only [Option.map_eq_some_iff,Prod.mk.injEq] at hq
  obtain ⟨v,hp,_,rfl,rfl⟩:=hq
  exact QOut.pure_ h hp (execOp_builtin ho hcal (by rw [map_eval2 hargs,map_eval2 hargs,hx,h.val hx,hy,h.val hy];rfl))

theorem execOp_bin {op:BinOp} {t yt:TypeId} {x y:Operand} {ρ ρ':Operand->Value} (ho:o.op = .binOp op t x y yt) (hx:ρ x=ρ' x) (hy:ρ y=ρ' y):execOp ρ o=execOp ρ' o:=by
 unfold execOp
 rw [ho]
 simp only [hx,hy]

theorem run_partV {P:Program} {t:TypeId} {cs:Array Value} {off:Nat} {v:Value} (h:partV P t cs off=some v) (w:World):(part t cs off).run P w = .ok v w:=by
 unfold partV at h
 split at h
 ·rename_i d i hd hi
  split at h
  ·rename_i ha
   simp only [Option.some.injEq] at h
   subst h
   simp [part,run_isAggD hd,ha,run_sizeOf hi]
  ·rename_i ha
   simp [part,run_isAggD hd,ha,h]
 ·cases h

theorem run_eqFs {P:Program} {d:Nat} {rec_:TypeId->Value->Value->Option Bool} (hrec:∀ t x y b,rec_ t x y=some b->∀ w,(Op.equalIn d t x y).run P w = .ok b w) {xs ys:Array Value}:∀ {fs:List Field} {b:Bool},eqFs rec_ P xs ys fs=some b->∀ w,(Op.eqFields d xs ys fs).run P w = .ok b w:=by
 intro fs
 induction fs with
 | nil=>intro b h w;simp [eqFs] at h;subst h;simp [Op.eqFields]
 | cons f fs ih =>
  intro b h w
  simp only [eqFs] at h
  split at h
  ·cases h
  ·rename_i hf
   split at h <;> try (cases h;done)
   rename_i u v hu hv
   split at h <;> try (cases h;done)
   rename_i r1 r2 h1 h2
   simp only [Option.some.injEq] at h
   subst h
   have e1:=run_partV hu w
   have e2:=run_partV hv w
   have e3:=hrec _ _ _ _ h1 w
   have e4:=ih h2 w
   cases r1 <;> simp [Op.eqFields,hf,e1,e2,e3,e4]

theorem run_eqT {P:Program}:∀ (d:Nat) (t:TypeId) (x y:Value) (b:Bool),eqT P d t x y=some b->∀ w,(Op.equalIn d t x y).run P w = .ok b w:=by
 intro d
 induction d with
 | zero=>intro t x y b h;simp [eqT] at h
 | succ d ih =>
  intro t x y b h w
  unfold eqT at h
  split at h <;> try (cases h;done)
  ·rename_i k0 k a' k' b' hd
   split at h
   ·rename_i hk
    subst hk
    simp only [Option.some.injEq] at h
    subst h
    exact run_equalIn_int w d t k k0 a' b' hd
   ·cases h
  ·rename_i a' b' hd
   simp only [Option.some.injEq] at h
   subst h
   exact run_equalIn_bool' w d t a' b' hd
  ·rename_i fs xs ys hd
   split at h
   ·cases h
   ·rename_i hp
    have hfo:P.fieldsOf t=fs:=by simp [Program.fieldsOf,hd]
    rw [run_equalIn_struct w d t xs ys (by rw [hfo];exact hd) (by simpa using hp),hfo]
    exact run_eqFs ih h w

theorem run_eqTop {P:Program} {t:TypeId} {x y:Value} {b:Bool} (h:eqTop P t x y=some b) (w:World):(Op.equal t x y).run P w = .ok b w:=run_eqT Op.maxDepth t x y b h w

theorem binOp_eql_agg (t:TypeId) (xs ys:Array Value):binOp .eql t (.agg xs) (.agg ys)=(do pure (.bool (← Op.equal t (.agg xs) (.agg ys)))):=by simp only [binOp]
theorem binOp_neq_agg (t:TypeId) (xs ys:Array Value):binOp .neq t (.agg xs) (.agg ys)=(do pure (.bool (!(← Op.equal t (.agg xs) (.agg ys))))):=by simp only [binOp]

theorem run_equalIn_ptr_nil {P:Program} {t el:TypeId} (hd:P.underlying t=some (.pointer el)) (d:Nat) (ad:Addr) (w:World):(Op.equalIn (d+1) t (.pointer (some ad)) (.pointer none)).run P w = .ok false w:=by
 simp [Op.equalIn,run_underlying hd]
theorem run_equalIn_nil_ptr {P:Program} {t el:TypeId} (hd:P.underlying t=some (.pointer el)) (d:Nat) (ad:Addr) (w:World):(Op.equalIn (d+1) t (.pointer none) (.pointer (some ad))).run P w = .ok false w:=by
 simp [Op.equalIn,run_underlying hd]
theorem binOp_eql_ptr (t:TypeId) (p q:Option Addr):binOp .eql t (.pointer p) (.pointer q)=(do pure (.bool (← Op.equal t (.pointer p) (.pointer q)))):=by simp only [binOp]
theorem binOp_neq_ptr (t:TypeId) (p q:Option Addr):binOp .neq t (.pointer p) (.pointer q)=(do pure (.bool (!(← Op.equal t (.pointer p) (.pointer q))))):=by simp only [binOp]

theorem eqS_sound (h:Pre C T H σ φ a w) {t:TypeId} {x y:Operand} {b:Bool} (he:eqS C t (opnd T x) (opnd T y)=some b) :
  ∀ w',(do eqGuard .eql t x y (a.eval x) (a.eval y);binOp .eql t (a.eval x) (a.eval y):Sem Value).run C.P w' = .ok (.bool b) w' ∧
   (do eqGuard .neq t x y (a.eval x) (a.eval y);binOp .neq t (a.eval x) (a.eval y):Sem Value).run C.P w' = .ok (.bool (!b)) w':=by
 intro w'
 have hx:=h.rel x
 have hy:=h.rel y
 unfold eqS at he
 split at he
 ·rename_i n k h1 h2
  split at he <;> try (cases he;done)
  rename_i el hd
  rw [h1] at hx;rw [h2] at hy
  simp only [Option.some.injEq] at he
  subst he
  obtain ⟨b',_,e1⟩:=(show At.rel σ (.ptr n k) _ from hx)
  have e2:a.eval y = .pointer none:=hy
  rw [e1,e2]
  have hr:(Op.equal t (.pointer (some ⟨b',k,none⟩)) (.pointer none)).run C.P w' = .ok false w':=run_equalIn_ptr_nil hd 9999 _ w'
  constructor
  ·rw [eqGuard_at_pointer,binOp_eql_ptr,Sem.run_bind,Sem.run_pure,Result.andThen_ok,Sem.run_bind,hr];rfl
  ·rw [eqGuard_at_pointer,binOp_neq_ptr,Sem.run_bind,Sem.run_pure,Result.andThen_ok,Sem.run_bind,hr];rfl
 ·rename_i n k h1 h2
  split at he <;> try (cases he;done)
  rename_i el hd
  rw [h1] at hx;rw [h2] at hy
  simp only [Option.some.injEq] at he
  subst he
  obtain ⟨b',_,e1⟩:=(show At.rel σ (.ptr n k) _ from hy)
  have e2:a.eval x = .pointer none:=hx
  rw [e1,e2]
  have hr:(Op.equal t (.pointer none) (.pointer (some ⟨b',k,none⟩))).run C.P w' = .ok false w':=run_equalIn_nil_ptr hd 9999 _ w'
  constructor
  ·rw [eqGuard_at_pointer,binOp_eql_ptr,Sem.run_bind,Sem.run_pure,Result.andThen_ok,Sem.run_bind,hr];rfl
  ·rw [eqGuard_at_pointer,binOp_neq_ptr,Sem.run_bind,Sem.run_pure,Result.andThen_ok,Sem.run_bind,hr];rfl
 ·rename_i l m h1 h2
  split at he <;> try (cases he;done)
  rename_i xs ys hxs hys
  split at he <;> try (cases he;done)
  rename_i hg
  rw [h1] at hx;rw [h2] at hy
  obtain ⟨vs,e1,r1⟩:=hx
  obtain ⟨us,e2,r2⟩:=hy
  rw [e1,e2,allVals_rel hxs r1,allVals_rel hys r2]
  have hr:=run_eqTop he w'
  have hg':C.P.eqGuardType C.P.depth t=false:=by simpa using hg
  constructor
  ·rw [Sem.run_bind,run_eqGuard_agg w' .eql t x y _ _ hg',Result.andThen_ok,binOp_eql_agg,Sem.run_bind,hr]
   rfl
  ·rw [Sem.run_bind,run_eqGuard_agg w' .neq t x y _ _ hg',Result.andThen_ok,binOp_neq_agg,Sem.run_bind,hr]
   rfl
 ·cases he

theorem q_binOp {op:BinOp} {t yt:TypeId} {x y:Operand} (h:Pre C T H σ φ a w) (ho:o.op = .binOp op t x y yt) (hps:∀ p ∈ ps,p) (hq:quietS C T H o=some (ps,s,H')):QOut C T H o σ φ a w s H':=by
 simp only [quietS,ho] at hq
 have hpure:∀ {u u' v:Value},valOf (opnd T x)=some u->valOf (opnd T y)=some u'->pureOp C T o=some v->QOut C T H o σ φ a w (lift v) H:=fun hu hu' hp =>
  QOut.pure_ h hp (execOp_bin ho (by rw [hu,h.val hu];rfl) (by rw [hu',h.val hu'];rfl))
 have heq:∀ {b:Bool} {l:List (Chunk C)},op = .eql->eqS C t (opnd T x) (opnd T y)=some b->QOut C T H o σ φ a w (vb b) H:=fun hop he =>
  QOut.same h.sat (.bool _) rfl (by simp [vb,SV.names,TV.names,At.names]) fun w' _=>by
   subst hop
   have e:execOp a.eval o=(do pure (.value (← (do eqGuard .eql t x y (a.eval x) (a.eval y);binOp .eql t (a.eval x) (a.eval y):Sem Value))):Sem Next):=by unfold execOp;rw [ho]
   rw [e,Sem.run_bind,(eqS_sound h he w').1];rfl
 have hneq:∀ {b:Bool} {l:List (Chunk C)},op = .neq->eqS C t (opnd T x) (opnd T y)=some b->QOut C T H o σ φ a w (vb (!b)) H:=fun hop he =>
  QOut.same h.sat (.bool _) rfl (by simp [vb,SV.names,TV.names,At.names]) fun w' _=>by
   subst hop
   have e:execOp a.eval o=(do pure (.value (← (do eqGuard .neq t x y (a.eval x) (a.eval y);binOp .neq t (a.eval x) (a.eval y):Sem Value))):Sem Next):=by unfold execOp;rw [ho]
   rw [e,Sem.run_bind,(eqS_sound h he w').2];rfl
 unfold binS at hq
 split at hq
 ·rename_i k n k' m hx hy
  split at hq <;> try (cases hq;done)
  rename_i hk
  subst hk
  split at hq
  ·simp only [Option.map_eq_some_iff,Prod.mk.injEq] at hq
   obtain ⟨v,hp,_,rfl,rfl⟩:=hq
   exact hpure hx hy hp
  ·simp only [Option.some.injEq,Prod.mk.injEq] at hq
   obtain ⟨rfl,rfl,rfl⟩:=hq
   have hm:m ≠ 0:=hps _ (by simp)
   exact QOut.same h.sat _ rfl (by simp [vi,SV.names,TV.names,At.names]) fun w' _=>by simp [execOp,ho,h.val hx,h.val hy,eqGuard_quo,binOp_quo,Op.intDiv,hm]
 ·rename_i k n k' m hx hy
  split at hq <;> try (cases hq;done)
  rename_i hk
  subst hk
  split at hq
  ·simp only [Option.map_eq_some_iff,Prod.mk.injEq] at hq
   obtain ⟨v,hp,_,rfl,rfl⟩:=hq
   exact hpure hx hy hp
  ·simp only [Option.some.injEq,Prod.mk.injEq] at hq
   obtain ⟨rfl,rfl,rfl⟩:=hq
   have hm:m ≠ 0:=hps _ (by simp)
   exact QOut.same h.sat _ rfl (by simp [vi,SV.names,TV.names,At.names]) fun w' _=>by simp [execOp,ho,h.val hx,h.val hy,eqGuard_rem,binOp_rem,Op.intDiv,hm]
 ·rename_i k n k' m hx hy
  split at hq
  ·simp only [Option.map_eq_some_iff,Prod.mk.injEq] at hq
   obtain ⟨v,hp,_,rfl,rfl⟩:=hq
   exact hpure hx hy hp
  ·simp only [Option.some.injEq,Prod.mk.injEq] at hq
   obtain ⟨rfl,rfl,rfl⟩:=hq
   have hm:0<=m:=hps _ (by simp)
   exact QOut.same h.sat _ rfl (by simp [vi,SV.names,TV.names,At.names]) fun w' _=>by simp [execOp,ho,h.val hx,h.val hy,eqGuard_shl,binOp_shl,Op.shift,show ¬ m < 0 by omega]
 ·rename_i k n k' m hx hy
  split at hq
  ·simp only [Option.map_eq_some_iff,Prod.mk.injEq] at hq
   obtain ⟨v,hp,_,rfl,rfl⟩:=hq
   exact hpure hx hy hp
  ·simp only [Option.some.injEq,Prod.mk.injEq] at hq
   obtain ⟨rfl,rfl,rfl⟩:=hq
   have hm:0<=m:=hps _ (by simp)
   exact QOut.same h.sat _ rfl (by simp [vi,SV.names,TV.names,At.names]) fun w' _=>by simp [execOp,ho,h.val hx,h.val hy,eqGuard_shr,binOp_shr,Op.shift,show ¬ m < 0 by omega]
 ·simp only [Option.map_eq_some_iff,Prod.mk.injEq] at hq
  obtain ⟨v,hp,_,rfl,rfl⟩:=hq
  exact heq (l:=H) rfl hp
 ·simp only [Option.map_eq_some_iff,Prod.mk.injEq] at hq
  obtain ⟨v,hp,_,rfl,rfl⟩:=hq
  exact hneq (l:=H) rfl hp
 ·rename_i u u' hx hy _ _ _ _ _ _
  simp only [Option.map_eq_some_iff,Prod.mk.injEq] at hq
  obtain ⟨v,hp,_,rfl,rfl⟩:=hq
  exact hpure hx hy hp
 ·simp only [Option.map_eq_some_iff,Prod.mk.injEq] at hq
  obtain ⟨v,hp,_,rfl,rfl⟩:=hq
  exact heq (l:=H) rfl hp
 ·simp only [Option.map_eq_some_iff,Prod.mk.injEq] at hq
  obtain ⟨v,hp,_,rfl,rfl⟩:=hq
  exact hneq (l:=H) rfl hp
 ·cases hq

/-- Every quiet operation. -/
theorem quietS_sound (h:Pre C T H σ φ a w) (hps:∀ p ∈ ps,p) (hq:quietS C T H o=some (ps,s,H')):QOut C T H o σ φ a w s H':=by
 cases ho:o.op with
 | move x=>exact q_move h ho hq
 | assign x=>exact q_assign h ho hq
 | pick c x y=>exact q_pick h ho hq
 | nilCheck x=>exact q_nilCheck h ho hq
 | binOp op t x y yt=>exact q_binOp h ho hps hq
 | unOp op t x=>exact q_unOp h ho hq
 | convert t t' x=>exact q_convert h ho hq
 | load t x=>exact q_load h ho hps hq
 | fieldAddr t x f=>exact q_fieldAddr h ho hq
 | field t x f=>exact q_field h ho hq
 | index t x i=>exact q_index h ho hps hq
 | indexAddr t x i=>exact q_indexAddr h ho hps hq
 | slice t x lo hi mx=>exact q_slice h ho hps hq
 | extract x k=>exact q_extract h ho hq
 | lookup t x i ok=>exact q_lookup h ho hq
 | build t parts=>exact q_build h ho hq
 | makeFunc fn fs cs=>exact q_makeFunc h ho hq
 | call c=>exact q_call h ho hq
 | _=>simp [quietS,ho] at hq
end
end Go.Proofs.YtedfbafngmicpaaGreat.Sx
end
section
/- The symbolic run is sound: operations that make memory or write it. No program in sight. -/
namespace Go.Proofs.YtedfbafngmicpaaGreat.Sx
open Go

theorem append_block {P:Program} {w w':World} {t ty e:TypeId} {i:TypeInfo} {z:Value} {size bytes:Nat} (ht:P.underlying t=some (.slice e)) (hi:P.info? e=some i) (hz:i.zero=some z)
  (hsize:i.size=size) (hby:i.bytes=bytes) (hsz:0 < size)
  {v v':Value} {n:Nat} {xs:List Value} (hown:w.ownsRow 0 e size v n xs)
  {a:Addr} {m c:Nat} {news:List Value} (hl:news.length=m * size) (hnews:∀ (j:Nat) (u:Value),news[j]?=some u->w.cell? (a.add j)=some u) (h1:∀ u ∈ news,u.oneCell'=true)
  (h63:n+m<=maxLen) (hbytes:(n+m) * bytes<=140737488355328) (hr:(Builtin.append_ #[t,t] ty #[v,.slice (some a) m c]).run P w = .ok v' w') :
  ∀ k,v'.ownBlock=some k->v.ownBlock=some k ∨ w.heap.size<=k:=by
 subst hsize hby
 have hb63:n+m<=9223372036854775807:=by simp only [maxLen] at h63;omega
 intro k hk
 rcases hown.2 with ⟨rfl,rfl⟩ | ⟨g,cap,cur,rfl,_,hg,hnc,_,hcs,_⟩
 ·by_cases hm:m=0
  ·subst hm
   have hn:news=[]:=List.eq_nil_of_length_eq_zero (by simpa using hl)
   have e:(Builtin.append_ #[t,t] ty #[.slice none 0 0,.slice (some a) 0 c]).run P w = .ok (.slice none 0 0) w:=by
    simp [Builtin.append_,run_underlying ht,sizeOf,typeInfo,hi,Builtin.lenOf,Builtin.firstCells,loadCells,loadCellsFrom]
   rw [e] at hr
   injection hr with h2 _
   subst h2
   simp [Value.ownBlock] at hk
  ·have e:=run_append_nil (P:=P) w t ty e i z ht hi hz a m c news hl hnews (by omega) (by omega) (by have hb:=hbytes;simp only [Nat.zero_add] at hb;omega)
   rw [e] at hr
   injection hr with h2 _
   subst h2
   simp only [Value.ownBlock,Option.some.injEq] at hk
   exact .inr (by omega)
 ·by_cases hroom:n+m<=cap
  ·have hfit:n * i.size+news.length<=cur.size:=by rw [hl,hcs,← Nat.add_mul];exact Nat.mul_le_mul_right _ hroom
   have e:=run_append_room (P:=P) w t ty e i ht hi g n cap cur hg a m c news hl hnews h1 hroom hfit
   rw [e] at hr
   injection hr with h2 _
   subst h2
   exact .inl hk
  ·have holds:∀ (j:Nat) (u:Value),xs[j]?=some u->w.cell? ((⟨g,0,none⟩:Addr).add j)=some u:=hown.cells (g:=g) rfl
   have e:=run_append_grow (P:=P) w t ty e i z ht hi hz ⟨g,0,none⟩ n cap xs hown.1 holds a m c news hl hnews (by omega) (by omega) (growslice_fits (by omega) hbytes)
   rw [e] at hr
   injection hr with h2 _
   subst h2
   simp only [Value.ownBlock,Option.some.injEq] at hk
   exact .inr (by omega)

theorem splice_get {α:Type} {l m:List α} {p:Nat} (h:p+m.length<=l.length) (k:Nat):(splice l p m)[k]?=if p<=k/\k < p+m.length then m[k - p]? else l[k]?:=by
 unfold splice
 rcases Nat.lt_or_ge k p with h1 | h1
 ·rw [List.getElem?_append_left (by simp;omega),List.getElem?_take,if_pos h1,if_neg (by omega)]
 ·rw [List.getElem?_append_right (by simp;omega)]
  have e:(l.take p).length=p:=by simp;omega
  rw [e]
  rcases Nat.lt_or_ge k (p+m.length) with h2 | h2
  ·rw [List.getElem?_append_left (by omega),if_pos ⟨h1,h2⟩]
  ·rw [List.getElem?_append_right (by omega),if_neg (by omega),List.getElem?_drop]
   congr 1;omega

theorem splice_eq {α:Type} {l m:List α} {p:Nat}:splice l p m=l.take p ++ m ++ l.drop (p+m.length):=by simp [splice]

theorem splice_splice {α:Type} {l m k:List α} {p q:Nat} (h1:q+k.length<=m.length) (h2:p+m.length<=l.length) (hm:∀ j,j < m.length->l[p+j]?=m[j]?):splice l p (splice m q k)=splice l (p+q) k:=by
 apply List.ext_getElem?
 intro i
 have e1:=splice_get (l:=l) (m:=splice m q k) (p:=p) (by rw [splice_len h1];exact h2) i
 have e2:=splice_get (l:=l) (m:=k) (p:=p+q) (by omega) i
 rw [splice_len h1] at e1
 rw [e1,e2]
 by_cases c:p<=i/\i < p+m.length
 ·rw [if_pos c,splice_get h1]
  by_cases d:q<=i - p/\i - p < q+k.length
  ·rw [if_pos d,if_pos (by omega)]
   congr 1;omega
  ·rw [if_neg d,if_neg (by omega),← hm (i - p) (by omega)]
   congr 1;omega
 ·rw [if_neg c,if_neg (by omega)]

section
variable {C:Ctx}
variable {T:List SV} {H:List (Chunk C)} {o:Oper} {σ:Nat->Value} {φ:Nat->Nat->Prop} {a:Act} {w:World} {ps:List Prop} {s:SV} {H':List (Chunk C)}

theorem flat_len (hC:C.OK) (e:C.EC) (l:List (C.α e)):(flat C e l).length=l.length * C.sz e:=length_flat (hC.len e) l
theorem flat_at (hC:C.OK) {e:C.EC} {l:List (C.α e)} {k:Nat} {x:C.α e} (hx:l[k]?=some x) {j:Nat} (hj:j < C.sz e):(flat C e l)[k * C.sz e+j]?=(C.enc e x)[j]?:=by
 have hj':j < (C.enc e x).length:=by rw [hC.len];exact hj
 rw [List.getElem?_eq_getElem hj']
 exact flat_get (hC.len e) l k x hx j _ (List.getElem?_eq_getElem hj')

theorem flat_set (hC:C.OK) {e:C.EC} {l:List (C.α e)} {k:Nat} (hk:k < l.length) (y:C.α e):flat C e (l.set k y)=splice (flat C e l) (k * C.sz e) (C.enc e y):=by
 have hp:=hC.pos e
 have hle:k * C.sz e+C.sz e<=l.length * C.sz e:=by rw [← Nat.succ_mul];exact Nat.mul_le_mul_right _ hk
 apply List.ext_getElem?
 intro i
 rw [splice_get (by rw [hC.len,flat_len hC];exact hle),hC.len]
 rcases Nat.lt_or_ge i (l.length * C.sz e) with hi | hi
 ·have hq:i / C.sz e < l.length:=Nat.div_lt_of_lt_mul (by rw [Nat.mul_comm];exact hi)
  have hr:i % C.sz e < C.sz e:=Nat.mod_lt _ hp
  have hd:i=i / C.sz e * C.sz e+i % C.sz e:=by rw [Nat.mul_comm];exact (Nat.div_add_mod i (C.sz e)).symm
  have e1:=flat_at hC (l:=l) (List.getElem?_eq_getElem hq) hr
  have hq':i / C.sz e < (l.set k y).length:=by simpa using hq
  have e2:=flat_at hC (l:=l.set k y) (List.getElem?_eq_getElem hq') hr
  rw [← hd] at e1 e2
  rw [e1,e2]
  by_cases c:k=i / C.sz e
  ·rw [if_pos (by rw [c];omega)]
   simp only [List.getElem_set,c,if_true]
   congr 1
   omega
  ·rw [if_neg ?_]
   ·simp [c]
   ·intro hh
    apply c
    have:i / C.sz e=k:=by
     apply Nat.div_eq_of_lt_le
     ·exact hh.1
     ·rw [Nat.succ_mul];exact hh.2
    exact this.symm
 ·rw [List.getElem?_eq_none (by rw [flat_len hC];simpa using hi),if_neg (by omega),List.getElem?_eq_none (by rw [flat_len hC];exact hi)]

theorem flat_one (hC:C.OK) (e:C.EC) (l:List (C.α e)):∀ u ∈ flat C e l,u.oneCell'=true:=fun u hu=>by
 obtain ⟨x,_,hx⟩:=List.mem_flatMap.1 hu
 exact hC.one e x u hx

theorem made_flat (hC:C.OK) {e:C.EC} {z:Value} (hz:z.cells.toList=C.enc e (C.dft e)) (n:Nat):(madeCells z.cells (n * C.sz e)).toList=flat C e (List.replicate n (C.dft e)):=by
 have hp:=hC.pos e
 have hzs:z.cells.size=C.sz e:=by rw [← Array.length_toList,hz,hC.len]
 apply List.ext_getElem?
 intro i
 rcases Nat.lt_or_ge i (n * C.sz e) with hi | hi
 ·have hq:i / C.sz e < n:=Nat.div_lt_of_lt_mul (by rw [Nat.mul_comm];exact hi)
  have hr:i % C.sz e < C.sz e:=Nat.mod_lt _ hp
  have hd:i=i / C.sz e * C.sz e+i % C.sz e:=by rw [Nat.mul_comm];exact (Nat.div_add_mod i (C.sz e)).symm
  have e1:=flat_at hC (l:=List.replicate n (C.dft e)) (k:=i / C.sz e) (x:=C.dft e) (by simp [hq]) hr
  rw [← hd] at e1
  rw [e1,← hz]
  have hlt:i % C.sz e < z.cells.size:=by omega
  simp [madeCells,hi,hzs]
  rw [getElem!_pos z.cells _ hlt,Array.getElem?_eq_getElem hlt]
 ·rw [List.getElem?_eq_none (by simp [madeCells];exact hi),List.getElem?_eq_none (by rw [flat_len hC];simpa using hi)]

theorem dcdN_sound (hC:C.OK) {e:C.EC}:∀ (n:Nat) (vs:List Value) {xs:List (C.α e)},dcdN C e n vs=some xs->vs.length=n * C.sz e->flat C e xs=vs/\xs.length=n:=by
 intro n
 induction n with
 | zero=>intro vs xs h hl;simp [dcdN] at h;subst h;exact ⟨(List.eq_nil_of_length_eq_zero (by simpa using hl)).symm,rfl⟩
 | succ n ih =>
  intro vs xs h hl
  simp only [dcdN] at h
  split at h <;> try (cases h;done)
  rename_i x xs' h1 h2
  simp only [Option.some.injEq] at h
  subst h
  obtain ⟨e1,e2⟩:=ih _ h2 (by rw [List.length_drop,hl,Nat.succ_mul];omega)
  refine ⟨?_,by simp [e2]⟩
  have:=hC.dcd e _ _ h1
  show C.enc e x ++ flat C e xs'=vs
  rw [this,e1,List.take_append_drop]

/-- What an operation with an effect comes to. -/
structure EOut (C:Ctx) (H:List (Chunk C)) (σ:Nat->Value) (φ:Nat->Nat->Prop) (a:Act) (w:World) (ts:List Nat) (T':List SV) (H':List (Chunk C)) (σ':Nat->Value) (φ':Nat->Nat->Prop) (a':Act) (w':World):Prop where
 tm:Rels (SV.rel σ') T' a'.tmps.toList
 tcl:∀ s ∈ T',∀ m ∈ s.names,m < H'.length
 sat:Sat C σ' φ' w' H'
 adv:Adv φ w φ' w'
 len:H.length<=H'.length
 dfs:a'.defers=a.defers
 agree:∀ n,n < H.length->isOwn H n=false->σ' n=σ n
 own:∀ n,n < H.length->isOwn H' n=true->isOwn H n=true
 touch:∀ n,n < H.length->n ∉ ts->(∀ b,Rdb H' σ' n b ↔ Rdb H σ n b)/\∀ b,Rdb H σ n b->b < w.heap.size->w'.heap[b]?=w.heap[b]?
 still:∀ n,n < H.length->n ∉ ts->σ' n=σ n

theorem put_rel (h:Rels (SV.rel σ) T a.tmps.toList) {v:Value} (hs:s.rel σ v) (dst:Option Nat):Rels (SV.rel σ) (setT T dst s) (a.put dst v).tmps.toList:=by
 cases dst with
 | none=>exact h
 | some d =>
  simp only [setT,Act.put,Array.toList_setIfInBounds]
  exact h.set d hs

theorem setT_mem {x:SV} {dst:Option Nat} (h:x ∈ setT T dst s):x ∈ T ∨ x=s:=by
 cases dst with
 | none=>exact .inl h
 | some d=>exact List.mem_or_eq_of_mem_set h

theorem rel_agree {σ':Nat->Value} (h:Rels (SV.rel σ) T a.tmps.toList) (hcl:∀ s ∈ T,∀ m ∈ s.names,m < H.length) (hag:∀ n,n < H.length->σ' n=σ n):Rels (SV.rel σ') T a.tmps.toList :=
 h.mono fun x _ hx hr=>SV.rel_of hr fun m hm=>hag m (hcl x hx m hm)

theorem put_defers (dst:Option Nat) (v:Value):(a.put dst v).defers=a.defers:=by cases dst <;> rfl

/-- A new block under a new name, behind chunks that were added. -/
theorem new_sound (hC:C.OK) (h:Pre C T H σ φ a w) {σ1:Nat->Value} {φ1:Nat->Nat->Prop} {H1:List (Chunk C)} (g:Grows C σ φ H σ1 φ1 H1 w) (c:Chunk C) (v:Value) (at_:At) (o':Obj) (dst:Option Nat)
  (hc:∀ σ':Nat->Value,(∀ n ∈ c.names,σ' n=σ1 n)->Holds (w.alloc o') σ' v (fun b=>b=w.heap.size) c) (hnm:∀ n ∈ c.names,n < H1.length) (hrow:∀ b,Ro (w.alloc o') v b c->(∀ m,¬ φ1 m b)/\b ≠ w.heap.size)
  (hat:∀ σ':Nat->Value,σ' H1.length=v->at_.rel σ' v) (hatn:∀ m ∈ at_.names,m=H1.length) :
  EOut C H σ φ a w [] (setT T dst (.one (.at at_))) (H1 ++ [c]) (fun k=>if k=H1.length then v else σ1 k) (fun k=>if k=H1.length then (fun b=>b=w.heap.size) else φ1 k) (a.put dst v) (w.alloc o'):=by
 have hag:∀ n,n < H.length->(if n=H1.length then v else σ1 n)=σ n:=fun n hn=>by
  rw [if_neg (by have:=g.len;omega)];exact g.agree n hn
 have hsat:Sat C (fun k=>if k=H1.length then v else σ1 k) (fun k=>if k=H1.length then (fun b=>b=w.heap.size) else φ1 k) (w.alloc o') (H1 ++ [c]) :=
  g.sat.new hC c v (fun b=>b=w.heap.size) (by simp) (fun k hk=>heap_alloc_old w o' hk)
   (fun n hn=>hc _ fun m hm=>by
    have:¬ m=n:=fun e=>hn (e ▸ hm)
    simp [this]) hnm (fun b hb=>by subst hb;simp) hrow
 refine ⟨put_rel (rel_agree h.tm h.tcl hag) (show SV.rel _ (.one (.at at_)) v from hat _ (by simp)) dst,fun x hx m hm=>?_,hsat,⟨rfl,rfl,rfl,by simp,fun k hk _=>heap_alloc_old w o' hk,fun n b hb=>?_⟩,by have:=g.len;simp;omega,put_defers _ _,fun n hn _=>hag n hn,fun n hn ho=>?_,fun n hn _=>⟨fun b=>?_,fun b _ hlt=>heap_alloc_old w o' hlt⟩,fun n hn _=>hag n hn⟩
 ·have:=g.len
  rcases setT_mem hx with hx | rfl
  ·have:=h.tcl x hx m hm;simp;omega
  ·have:=hatn m hm;simp;omega
 ·by_cases e:n=H1.length
  ·subst e
   simp only [if_true] at hb
   exact .inr (by omega)
  ·simp only [if_neg e] at hb
   exact .inl ⟨n,g.sub n b hb⟩
 ·rw [isOwn_append (by have:=g.len;omega)] at ho
  exact g.own n hn ho
 ·rw [← g.rdb n hn b]
  have hn1:n < H1.length:=by have:=g.len;omega
  have hne:n ≠ H1.length:=by omega
  unfold Rdb
  simp [hne,List.getElem?_append_left hn1]

theorem wp_value {P:Program} {v:Value} {w':World} {K:Act->World->Prop} {Q:Exit->Act->World->Prop} (hr:(execOp a.eval o).run P w = .ok (.value v) w') (h:K (a.put o.dst v) w'):o.wp P a w K Q:=by
 unfold Oper.wp
 rw [hr]
 exact h
theorem wp_skip_ {P:Program} {w':World} {K:Act->World->Prop} {Q:Exit->Act->World->Prop} (hr:(execOp a.eval o).run P w = .ok .skip w') (h:K (a.put o.dst undef) w'):o.wp P a w K Q:=by
 unfold Oper.wp
 rw [hr]
 exact h

abbrev EK (C:Ctx):=List Nat->List SV->List (Chunk C)->Prop
variable {K:EK C} {Γ:List (FuncId × Tfm C)} {trunc:Nat->Bool} {Q:Exit->Act->World->Prop}

/-- What is behind an operation. -/
def After (C:Ctx) (H:List (Chunk C)) (σ:Nat->Value) (φ:Nat->Nat->Prop) (a:Act) (w:World) (K:EK C) (a':Act) (w':World):Prop :=
 ∃ ts T' H' σ' φ',EOut C H σ φ a w ts T' H' σ' φ' a' w'/\K ts T' H'

theorem e_alloc {t:TypeId} (h:Pre C T H σ φ a w) (ho:o.op = .alloc t) (he:effS C Γ trunc T H o K):o.wp C.P a w (After C H σ φ a w K) Q:=by
 simp only [effS,ho] at he
 split at he <;> try (exact he.elim)
 rename_i z hz
 obtain ⟨i,v,hi,hiz,rfl⟩:=zeroS_sound h.ok hz
 obtain ⟨σ1,φ1,g,r,n⟩:=nilCells_sound h.ok (v.cells.toList.map .val) (cellTs C.P 20 t) h.sat (rels_vals _) (fun c hc m hm=>by
  obtain ⟨u,_,rfl⟩:=List.mem_map.1 hc
  simp [At.names] at hm)
 refine wp_value (v:=.pointer (some ⟨w.heap.size,0,none⟩)) (w':=w.alloc (.cells v.cells t)) ?_ ⟨_,_,_,_,_,new_sound h.ok h g _ (.pointer (some ⟨w.heap.size,0,none⟩)) (.ptr _ 0) _ o.dst (fun σ' hs=>?_) (fun m hm=>?_) (fun _ e=>(Ro.box e).elim) (fun σ' hs=>⟨w.heap.size,hs,rfl⟩) (fun m hm=>?_),he⟩
 ·simp [execOp,ho,Instr.alloc,zeroValue,typeInfo,hi,hiz,newVar,newRow]
 ·refine ⟨w.heap.size,t,v.cells,rfl,fun _=>Iff.rfl,heap_alloc_new w _,r.mono fun x u hx hr=>At.rel_of hr fun m hm=>hs m (List.mem_flatMap.2 ⟨x,hx,hm⟩)⟩
 ·obtain ⟨x,hx,hm⟩:=List.mem_flatMap.1 hm
  exact n x hx m hm
 ·simpa [At.names] using hm

theorem e_box {t:TypeId} {x:Operand} (h:Pre C T H σ φ a w) (ho:o.op = .box t x) (he:effS C Γ trunc T H o K):o.wp C.P a w (After C H σ φ a w K) Q:=by
 simp only [effS,ho] at he
 split at he <;> try (exact he.elim)
 rename_i cs hcs
 obtain ⟨r,n⟩:=svCells_sound h.ok h.sat hcs (h.rel x)
 have nx:=h.nm x
 refine wp_value (v:=.pointer (some ⟨w.heap.size,0,none⟩)) (w':=w.alloc (.cells (a.eval x).cells t)) ?_ ⟨_,_,_,_,_,new_sound h.ok h (Grows.refl h.sat) _ (.pointer (some ⟨w.heap.size,0,none⟩)) (.ptr _ 0) _ o.dst (fun σ' hs=>?_) (fun m hm=>?_) (fun _ e=>(Ro.box e).elim) (fun σ' hs=>⟨w.heap.size,hs,rfl⟩) (fun m hm=>?_),he⟩
 ·simp [execOp,ho,Instr.box,newVar,newRow]
 ·refine ⟨w.heap.size,t,(a.eval x).cells,rfl,fun _=>Iff.rfl,heap_alloc_new w _,r.mono fun y u hy hr=>At.rel_of hr fun m hm=>hs m (List.mem_flatMap.2 ⟨y,hy,hm⟩)⟩
 ·obtain ⟨y,hy,hm⟩:=List.mem_flatMap.1 hm
  exact nx m (n y hy m hm)
 ·simpa [At.names] using hm
end
end Go.Proofs.YtedfbafngmicpaaGreat.Sx
end
section
/- The symbolic run is sound: stores, new rows, appends. No program in sight. -/
namespace Go.Proofs.YtedfbafngmicpaaGreat.Sx
open Go

section
variable {C:Ctx}
variable {T:List SV} {H:List (Chunk C)} {o:Oper} {σ:Nat->Value} {φ:Nat->Nat->Prop} {a:Act} {w:World} {ps:List Prop} {s:SV} {H':List (Chunk C)}
variable {K:EK C} {Γ:List (FuncId × Tfm C)} {trunc:Nat->Bool} {Q:Exit->Act->World->Prop}

theorem At.kill_rel {n:Nat} {x:At} {v:Value} (h:x.rel σ v):(x.kill n).rel σ v:=by
 unfold At.kill
 split
 ·trivial
 ·exact h
theorem At.kill_names {n:Nat} {x:At}:∀ m ∈ (x.kill n).names,m ∈ x.names/\m ≠ n:=by
 unfold At.kill
 split
 ·intro m hm;simp [At.names] at hm
 ·rename_i hn
  intro m hm
  refine ⟨hm,fun e=>hn ?_⟩
  subst e
  simpa using hm
theorem rels_kill {n:Nat} {l:List At} {vs:List Value} (h:Rels (At.rel σ) l vs):Rels (At.rel σ) (l.map (At.kill n)) vs :=
 ⟨by simp [h.1],fun i x v hx hv=>by
  rw [List.getElem?_map] at hx
  cases hl:l[i]? with
  | none=>rw [hl] at hx;cases hx
  | some y=>rw [hl] at hx;simp at hx;subst hx;exact At.kill_rel (h.2 i y v hl hv)⟩
theorem TV.kill_rel {n:Nat} {x:TV} {v:Value} (h:x.rel σ v):(x.kill n).rel σ v:=by
 cases x with
 | «at» y=>exact At.kill_rel h
 | agg l=>obtain ⟨cs,e,hr⟩:=h;exact ⟨cs,e,rels_kill hr⟩
theorem TV.kill_names {n:Nat} {x:TV}:∀ m ∈ (x.kill n).names,m ∈ x.names/\m ≠ n:=by
 cases x with
 | «at» y=>exact At.kill_names
 | agg l =>
  intro m hm
  simp only [TV.kill,TV.names,List.mem_flatMap,List.mem_map] at hm
  obtain ⟨_,⟨y,hy,rfl⟩,hm⟩:=hm
  have:=At.kill_names m hm
  exact ⟨List.mem_flatMap.2 ⟨y,hy,this.1⟩,this.2⟩
theorem SV.kill_rel {n:Nat} {x:SV} {v:Value} (h:x.rel σ v):(x.kill n).rel σ v:=by
 cases x with
 | one y=>exact TV.kill_rel h
 | tup l =>
  obtain ⟨vs,e,hr⟩:=h
  refine ⟨vs,e,by simp [hr.1],fun i x v hx hv=>?_⟩
  rw [List.getElem?_map] at hx
  cases hl:l[i]? with
  | none=>rw [hl] at hx;cases hx
  | some y=>rw [hl] at hx;simp at hx;subst hx;exact TV.kill_rel (hr.2 i y v hl hv)
theorem SV.kill_names {n:Nat} {x:SV}:∀ m ∈ (x.kill n).names,m ∈ x.names/\m ≠ n:=by
 cases x with
 | one y=>exact TV.kill_names
 | tup l =>
  intro m hm
  simp only [SV.kill,SV.names,List.mem_flatMap,List.mem_map] at hm
  obtain ⟨_,⟨y,hy,rfl⟩,hm⟩:=hm
  have:=TV.kill_names m hm
  exact ⟨List.mem_flatMap.2 ⟨y,hy,this.1⟩,this.2⟩
theorem rels_killS {n:Nat} {vs:List Value} (h:Rels (SV.rel σ) T vs):Rels (SV.rel σ) (T.map (SV.kill n)) vs :=
 ⟨by simp [h.1],fun i x v hx hv=>by
  rw [List.getElem?_map] at hx
  cases hl:T[i]? with
  | none=>rw [hl] at hx;cases hx
  | some y=>rw [hl] at hx;simp at hx;subst hx;exact SV.kill_rel (h.2 i y v hl hv)⟩

theorem Chunk.kill_names {n:Nat} {c:Chunk C}:∀ m ∈ (c.kill n).names,m ∈ c.names/\m ≠ n:=by
 cases c with
 | box cells =>
  intro m hm
  simp only [Chunk.kill,Chunk.names,List.mem_flatMap,List.mem_map] at hm
  obtain ⟨_,⟨y,hy,rfl⟩,hm⟩:=hm
  have:=At.kill_names m hm
  exact ⟨List.mem_flatMap.2 ⟨y,hy,this.1⟩,this.2⟩
 | _=>intro m hm;simp [Chunk.kill,Chunk.names] at hm

theorem Holds.kill {n:Nat} {v:Value} {f:Nat->Prop} {c:Chunk C} (h:Holds w σ v f c):Holds w σ v f (c.kill n):=by
 match c with
 | .gone=>exact h
 | .box cells=>obtain ⟨b,t,cs,h1,h2,h3,h4⟩:=h;exact ⟨b,t,cs,h1,h2,h3,rels_kill h4⟩
 | .row true e l=>exact h
 | .row false e l=>exact h
 | .abs x=>exact h
 | .map kk vk l=>exact h
 | .arr _ _=>exact h
 | .rows _ _ _=>exact h

theorem kill_get {n k:Nat} {c:Chunk C} (h:(H.map (Chunk.kill n))[k]?=some c):∃ d,H[k]?=some d/\c=d.kill n:=by
 rw [List.getElem?_map] at h
 cases hl:H[k]? with
 | none=>rw [hl] at h;cases h
 | some d =>
  rw [hl] at h
  exact ⟨d,rfl,(Option.some.inj h).symm⟩

theorem isOwn_kill {n k:Nat}:isOwn (H.map (Chunk.kill n)) k=isOwn H k:=by
 simp only [isOwn,List.getElem?_map]
 cases H[k]? with
 | none=>rfl
 | some c =>
  cases c with
  | row own e l=>cases own <;> rfl
  | _=>rfl

theorem Sat.kill (h:Sat C σ φ w H) (n:Nat):Sat C σ φ w (H.map (Chunk.kill n)) where
 holds k c hc:=by
  rw [List.getElem?_map] at hc
  cases hl:H[k]? with
  | none=>rw [hl] at hc;cases hc
  | some d=>rw [hl] at hc;simp at hc;subst hc;exact (h.holds k d hl).kill
 dis:=h.dis
 bd:=h.bd
 imm k c hk b hb:=by
  obtain ⟨d,hd,rfl⟩:=kill_get hk
  exact h.imm k d hd b (by cases d <;> exact hb)
 out k hk:=h.out k (by simpa using hk)
 cl k c hc m hm:=by
  rw [List.getElem?_map] at hc
  cases hl:H[k]? with
  | none=>rw [hl] at hc;cases hc
  | some d =>
   rw [hl] at hc;simp at hc;subst hc
   simpa using h.cl k d hl m (Chunk.kill_names m hm).1

theorem rdb_apart (h:Sat C σ φ w H) {k n b:Nat} (hb:Rdb H σ k b) (hφ:φ n b):k=n:=by
 rcases hb with ⟨hb,cells,hl⟩ | ⟨hb,own,e,l,hl,hpos⟩ | ⟨hb,kk,vk,l,hl⟩ | ⟨hb,hh,e,ll,hl,hpos⟩ | ⟨hb,kk,l,hl⟩
 ·obtain ⟨b',t,cs,h1,h2,_⟩:=h.holds k _ hl
  rw [hb] at h1
  obtain rfl:b=b':=by simpa using h1
  exact h.dis k n b ((h2 b).2 rfl) hφ
 ·have hh:=h.holds k _ hl
  cases own with
  | true=>exact h.dis k n b ((hh.2 b).2 hb) hφ
  | false=>exact absurd hφ (h.immr k e l hl hpos b hb n)
 ·obtain ⟨b',es,ck,h1,h2,_⟩:=h.holds k _ hl
  rw [hb] at h1
  obtain rfl:b=b':=by simpa using h1
  exact h.dis k n b ((h2 b).2 rfl) hφ
 ·obtain ⟨_,_,h3⟩:=h.holds k _ hl
  exact h.dis k n b ((h3 b).2 hb) hφ
 ·obtain ⟨b',t,cs,h1,h2,_⟩:=h.holds k _ hl
  rw [hb] at h1
  obtain rfl:b=b':=by simpa using h1
  exact h.dis k n b ((h2 b).2 rfl) hφ

/-- One chunk is written; its place stays. -/
theorem upd_sound (hC:C.OK) (h:Pre C T H σ φ a w) {n:Nat} (hn:n < H.length) (c:Chunk C) {w':World} (dst:Option Nat)
  (hsz:w'.heap.size=w.heap.size) (hos:w'.os=w.os) (htp:w'.tape=w.tape) (hop:w'.output=w.output) (hfr:∀ k,¬ φ n k->w'.heap[k]?=w.heap[k]?)
  (hc:Holds w' σ (σ n) (φ n) c) (hnm:∀ m ∈ c.names,m < H.length) (hrow:∀ b,¬ Ro w' (σ n) b c) (hown:isOwn (H.set n c) n=true->isOwn H n=true) :
  EOut C H σ φ a w [n] (setT T dst (.one (.at .any))) (H.set n c) σ φ (a.put dst undef) w' where
 tm:=put_rel h.tm (s:=.one (.at .any)) trivial dst
 tcl x hx m hm:=by
  rcases setT_mem hx with hx | rfl
  ·simpa using h.tcl x hx m hm
  ·simp [SV.names,TV.names,At.names] at hm
 sat:=by
  refine h.sat.step hC (fun k=>k=n) (by omega) (fun k _ hk=>hfr k (hk n rfl)) (fun k hk=>?_) (fun _ _ _ _ _ _=>rfl) (fun k d hk hd=>?_) (fun k b hk hb=>.inl ⟨n,rfl,by have:k=n:=hk;subst this;exact hb⟩) (fun k m b hk hm _ _=>hk.trans hm.symm)
   (fun k b _ hb=>by have:=h.sat.bd k b hb;omega) (fun k e hk hd b hb m hm=>?_) (fun k hk b=>h.sat.out k (by simpa using hk) b) (by simp) (fun k d hk hd m hm=>?_)
  ·have:¬ k=n:=hk
   exact ⟨by rw [List.getElem?_set_ne (Ne.symm this)],rfl,fun _=>Iff.rfl⟩
  ·have hk':k=n:=hk
   subst hk'
   rw [List.getElem?_set_self hn] at hd
   simp only [Option.some.injEq] at hd
   subst hd
   exact hc
  ·have hk':k=n:=hk
   subst hk'
   rw [List.getElem?_set_self hn] at hd
   simp only [Option.some.injEq] at hd
   subst hd
   exact hrow b hb
  ·have hk':k=n:=hk
   subst hk'
   rw [List.getElem?_set_self hn] at hd
   simp only [Option.some.injEq] at hd
   subst hd
   simpa using hnm m hm
 adv:=⟨hos,htp,hop,by omega,fun k _ hk=>hfr k (hk n),fun k b hb=>.inl ⟨k,hb⟩⟩
 len:=by simp
 dfs:=put_defers _ _
 agree _ _ _:=rfl
 still _ _ _:=rfl
 own k hk ho:=by
  by_cases e:k=n
  ·subst e;exact hown ho
  ·simpa [isOwn,List.getElem?_set_ne (Ne.symm e)] using ho
 touch k hk hkn:=by
  have hne:k ≠ n:=fun e=>hkn (by simp [e])
  refine ⟨fun b=>?_,fun b hb hlt=>hfr b fun hφ=>?_⟩
  ·unfold Rdb
   simp [List.getElem?_set_ne (Ne.symm hne)]
  ·exact hne (rdb_apart h.sat hb hφ)

theorem all_ok (hC:C.OK) (hs:Sat C σ φ w H) {l:List At} {vs:List Value} (hr:Rels (At.rel σ) l vs) (h:l.all (okAt H)=true):∀ v ∈ vs,v.oneCell'=true:=by
 intro v hv
 obtain ⟨i,hi,rfl⟩:=List.mem_iff_getElem.1 hv
 have hil:i < l.length:=by rw [hr.1];exact hi
 exact okAt_one hC hs (List.all_eq_true.1 h _ (List.getElem_mem hil)) (hr.2 i _ _ (List.getElem?_eq_getElem hil) (List.getElem?_eq_getElem hi))

theorem run_storeAt {P:Program} {t t':TypeId} {i:TypeInfo} {b off:Nat} {cur:Array Value} {v:Value} {fz:Nat × Nat} (hi:P.info? t=some i) (hsz:v.cells.size=i.size) (hb:w.heap[b]?=some (.cells cur t' fz)) (hfz:fz=(0,0) ∨ cur.size<=fz.1) (hle:off+v.cells.toList.length<=cur.size)
  (h1:∀ u ∈ v.cells.toList,u.oneCell'=true):(Instr.storeAt t (.pointer (some ⟨b,off,none⟩)) v).run P w = .ok () (w.setRow b (splice cur.toList off v.cells.toList).toArray):=by
 have h:=storeCells_R P b off t' fz v.cells.toList 0 cur w hb hfz (by simpa using hle) h1
 rw [Nat.add_zero] at h
 simp only [Instr.storeAt,Instr.sureAddr,storeVar,Sem.run_bind,Sem.run_pure,Result.andThen_ok,run_sizeOf hi]
 rw [if_neg (by simpa using hsz),h,splice_eq]

theorem e_store {t:TypeId} {x y:Operand} (h:Pre C T H σ φ a w) (ho:o.op = .store t x y) (he:effS C Γ trunc T H o K):o.wp C.P a w (After C H σ φ a w K) Q:=by
 have hx:=h.rel x
 have hy:=h.rel y
 have ny:=h.nm y
 simp only [effS,ho] at he
 split at he <;> try (exact he.elim)
 ·rename_i n off vs i hcx hcs hi
  rw [hcx] at hx
  split at he <;> try (exact he.elim)
  case h_2 =>
   rename_i k l hH
   split at he <;> try (exact he.elim)
   case h_3 =>
    split at he <;> try (exact he.elim)
    rename_i hcond
    obtain ⟨hl,hok⟩:=hcond
    obtain ⟨h0,hll,he⟩:=he
    have h0:off=0:=by omega
    have hll:l.length=vs.length:=by omega
    obtain ⟨r,nn⟩:=svCells_sound h.ok h.sat hcs hy
    have hn:n < H.length:=(List.getElem?_eq_some_iff.1 hH).1
    obtain ⟨b,h1,h2⟩:=(show At.rel σ (.ptr n off) _ from hx)
    obtain ⟨b',t',cs,h3,h4,h5,h6⟩:=h.sat.holds n _ hH
    rw [h1] at h3
    obtain rfl:b=b':=by simpa using h3
    subst h0
    have hvs:(a.eval y).cells.toList.length=vs.length:=r.1.symm
    have hcl:cs.size=l.length:=by rw [← Array.length_toList,h6,List.length_map]
    have hrun:=run_storeAt (w:=w) (P:=C.P) (v:=a.eval y) (t':=t') (t:=t) (off:=0) hi (by rw [← Array.length_toList,hvs,hl]) h5 (.inl rfl) (by rw [hvs,hcl,hll];omega) (all_ok h.ok h.sat r hok)
    refine wp_skip_ (w':=w.setRow b (splice cs.toList 0 (a.eval y).cells.toList).toArray) (by simp [execOp,ho,h2,hrun]) ⟨_,_,_,_,_,upd_sound h.ok h hn (.box vs) o.dst (by simp) rfl rfl rfl (fun k hk=>setRow_other w b k _ fun e=>hk ((h4 k).2 e)) ?_ (fun m hm=>?_) (fun _ e=>Ro.box e) (fun ho=>by simp [isOwn,List.getElem?_set_self hn] at ho),he⟩
    ·refine ⟨b,t',_,h1,h4,setRow_heap w b cs _ t' _ h5,?_⟩
     have:splice cs.toList 0 (a.eval y).cells.toList=(a.eval y).cells.toList:=by
      unfold splice
      rw [List.take_zero,List.nil_append,List.drop_eq_nil_of_le (by rw [Array.length_toList,hvs,hcl,hll];omega),List.append_nil]
     simpa [this] using r
    ·obtain ⟨c,hc,hm⟩:=List.mem_flatMap.1 hm
     exact ny m (nn c hc m hm)
   rename_i k' z
   split at he <;> try (exact he.elim)
   rename_i hcond
   obtain ⟨rfl,hsz⟩:=hcond
   obtain ⟨hlt,he⟩:=he
   obtain ⟨r,nn⟩:=svCells_sound h.ok h.sat hcs hy
   have hev:(a.eval y).cells.toList=[.int k' z]:=allVals_rel (cs:=[.int k' z]) rfl r
   have hn:n < H.length:=(List.getElem?_eq_some_iff.1 hH).1
   obtain ⟨b,h1,h2⟩:=(show At.rel σ (.ptr n off) _ from hx)
   obtain ⟨b',t',cs,h3,h4,h5,h6⟩:=h.sat.holds n _ hH
   rw [h1] at h3
   obtain rfl:b=b':=by simpa using h3
   have hcl:cs.size=l.length:=by rw [← Array.length_toList,h6,List.length_map]
   have hrun:=run_storeAt (w:=w) (P:=C.P) (v:=a.eval y) (t':=t') (t:=t) hi (by rw [← Array.length_toList,hev,hsz];rfl) h5 (.inl rfl) (by rw [hev,hcl];exact hlt) (by rw [hev];intro u hu;rw [List.mem_singleton.1 hu];rfl)
   refine wp_skip_ (w':=w.setRow b (splice cs.toList off (a.eval y).cells.toList).toArray) (by simp [execOp,ho,h2,hrun]) ⟨_,_,_,_,_,upd_sound h.ok h hn (.arr k' (l.set off z)) o.dst (by simp) rfl rfl rfl (fun k hk=>setRow_other w b k _ fun e=>hk ((h4 k).2 e)) ?_ (fun m hm=>by simp [Chunk.names] at hm) (fun _ e=>Ro.arr e) (fun ho=>by simp [isOwn,List.getElem?_set_self hn] at ho),he⟩
   refine ⟨b,t',_,h1,h4,setRow_heap w b cs _ t' _ h5,?_⟩
   rw [hev,h6]
   show splice (l.map (Value.int k')) off [.int k' z]=_
   apply List.ext_getElem?
   intro j
   rw [splice_get (by rw [List.length_map];exact hlt),List.getElem?_map,List.getElem?_map,List.getElem?_set]
   by_cases c:off=j
   ·subst c
    rw [if_pos (by simp),if_pos rfl,if_pos hlt];simp
   ·rw [if_neg (by simp;omega),if_neg c]
  rename_i cells hH
  split at he <;> try (exact he.elim)
  rename_i hcond
  obtain ⟨hl,hle,hok⟩:=hcond
  obtain ⟨r,nn⟩:=svCells_sound h.ok h.sat hcs hy
  have hn:n < H.length:=(List.getElem?_eq_some_iff.1 hH).1
  obtain ⟨b,h1,h2⟩:=(show At.rel σ (.ptr n off) _ from hx)
  obtain ⟨b',t',cs,h3,h4,h5,h6⟩:=h.sat.holds n _ hH
  rw [h1] at h3
  obtain rfl:b=b':=by simpa using h3
  have hvs:(a.eval y).cells.toList.length=vs.length:=r.1.symm
  have hcl:cells.length=cs.size:=by rw [h6.1];simp
  have hrun:=run_storeAt (w:=w) (P:=C.P) (v:=a.eval y) (t':=t') hi (by rw [← Array.length_toList,hvs,hl]) h5 (.inl rfl) (by rw [hvs,← hcl];exact hle) (all_ok h.ok h.sat r hok)
  refine wp_skip_ (w':=w.setRow b (splice cs.toList off (a.eval y).cells.toList).toArray) (by simp [execOp,ho,h2,hrun]) ⟨_,_,_,_,_,upd_sound h.ok h hn (.box (splice cells off vs)) o.dst (by simp) rfl rfl rfl (fun k hk=>setRow_other w b k _ fun e=>hk ((h4 k).2 e)) ?_ (fun m hm=>?_) (fun _ e=>Ro.box e) (fun ho=>?_),he⟩
  ·refine ⟨b,t',_,h1,h4,setRow_heap w b cs _ t' _ h5,?_⟩
   simpa using splice_rels h6 r off
  ·obtain ⟨c,hc,hm⟩:=List.mem_flatMap.1 hm
   simp only [splice,List.mem_append] at hc
   rcases hc with hc | hc | hc
   ·exact h.sat.cl n _ hH m (List.mem_flatMap.2 ⟨c,List.mem_of_mem_take hc,hm⟩)
   ·exact ny m (nn c hc m hm)
   ·exact h.sat.cl n _ hH m (List.mem_flatMap.2 ⟨c,List.mem_of_mem_drop hc,hm⟩)
  ·simp [isOwn,List.getElem?_set_self hn] at ho
 ·rename_i n j sz off vs i hcx hcs hi
  rw [hcx] at hx
  split at he <;> try (exact he.elim)
  rename_i e l us hH hus
  split at he <;> try (exact he.elim)
  rename_i hcond
  obtain ⟨hsz,hl,hle,hok⟩:=hcond
  split at he <;> try (exact he.elim)
  rename_i z hz
  subst hsz
  obtain ⟨r,nn⟩:=svCells_sound h.ok h.sat hcs hy
  have hev:(a.eval y).cells.toList=us:=allVals_rel hus r
  have hn:n < H.length:=(List.getElem?_eq_some_iff.1 hH).1
  obtain ⟨b,o',len,cap,h1,h2,h3⟩:=(show At.rel σ (.eptr n j (C.sz e) off) _ from hx)
  obtain ⟨⟨q1,q2⟩,q3⟩:=h.sat.holds n _ hH
  rcases q2 with ⟨q2,_⟩ | ⟨g,cp,cur,fz,q2,hg,hfz,hnc,hcm,hcs',htk⟩
  ·rw [h1] at q2;cases q2
  ·rw [h1] at q2
   obtain ⟨rfl,rfl,rfl,rfl⟩:b=g/\o'=0/\len=l.length/\cap=cp:=by
    injection q2 with e1 e2 e3
    injection e1 with e1
    injection e1 with e4 e5
    exact ⟨e4,e5,e2,e3⟩
   have hus_len:us.length=vs.length:=by rw [← hev];exact r.1.symm
   have hjl:j * C.sz e+C.sz e<=l.length * C.sz e:=by rw [← Nat.succ_mul];exact Nat.mul_le_mul_right _ h2
   have hlc:l.length * C.sz e<=cap * C.sz e:=Nat.mul_le_mul_right _ hnc
   have hrun:=run_storeAt (w:=w) (P:=C.P) (v:=a.eval y) (b:=b) (off:=0+j * C.sz e+off) (t':=C.tid e) hi (by rw [← Array.length_toList,hev,hus_len,hl]) hg hfz (by rw [hev,hus_len,hcs'];omega) (all_ok h.ok h.sat r hok)
   rw [hev,Nat.zero_add] at hrun
   rw [Nat.zero_add] at h3
   have hblk:∀ k,¬ φ n k->k ≠ b:=fun k hk e=>hk ((q3 k).2 (by rw [h1,e];rfl))
   have hez:C.enc e z=splice (C.enc e (l.getD j (C.dft e))) off us:=h.ok.dcd e _ _ hz
   refine wp_skip_ (w':=w.setRow b (splice cur.toList (j * C.sz e+off) us).toArray) (by simp [execOp,ho,h3,hrun]) ⟨_,_,_,_,_,upd_sound h.ok h hn (.row true e (l.set j z)) o.dst (by simp) rfl rfl rfl (fun k hk=>setRow_other w b k _ (hblk k hk)) ?_ (fun m hm=>by simp [Chunk.names] at hm) (fun _ e=>Ro.own e) (fun _=>by simp [isOwn,hH]),he⟩
   have hsz2:(splice cur.toList (j * C.sz e+off) us).toArray.size=cur.size:=by
    simp only [List.size_toArray]
    rw [splice_len (by simp;omega)]
    simp
   refine ⟨⟨?_,.inr ⟨b,cap,_,fz,by rw [h1];simp,setRow_heap w b cur _ (C.tid e) _ hg,by rw [hsz2];exact hfz,by simpa using hnc,hcm,?_,?_⟩⟩,fun k=>by rw [q3 k]⟩
   ·rw [flat_len h.ok]
   ·simp only [List.size_toArray]
    rw [splice_len (by simp;omega)]
    simpa using hcs'
   ·rw [flat_set h.ok h2,hez,splice_splice (by rw [h.ok.len];omega) (by rw [h.ok.len,flat_len h.ok];exact hjl) (fun k hk=>by rw [h.ok.len] at hk;exact flat_at h.ok (getD_some h2) hk),← htk]
    simp only [List.length_set]
    apply List.ext_getElem?
    intro k
    rw [splice_get (by rw [List.length_take];simp;omega),List.getElem?_take,splice_get (by simp;omega)]
    by_cases c:j * C.sz e+off<=k/\k < j * C.sz e+off+us.length
    ·rw [if_pos c,if_pos (by omega),if_pos c]
    ·rw [if_neg c,if_neg c,List.getElem?_take]

theorem row_new_sound (hC:C.OK) (h:Pre C T H σ φ a w) (e:C.EC) (l:List (C.α e)) (cur:Array Value) (cap:Nat) (dst:Option Nat) (hcap:l.length<=cap) (hmax:cap<=maxLen) (hsz:cur.size=cap * C.sz e) (htk:cur.toList.take (l.length * C.sz e)=flat C e l) :
  EOut C H σ φ a w [] (setT T dst (.one (.at (.slc H.length)))) (H ++ [.row true e l]) (fun k=>if k=H.length then .slice (some ⟨w.heap.size,0,none⟩) l.length cap else σ k) (fun k=>if k=H.length then (fun b=>b=w.heap.size) else φ k)
   (a.put dst (.slice (some ⟨w.heap.size,0,none⟩) l.length cap)) (w.alloc (.cells cur (C.tid e))) :=
 new_sound hC h (Grows.refl h.sat) (.row true e l) (.slice (some ⟨w.heap.size,0,none⟩) l.length cap) (.slc H.length) (.cells cur (C.tid e)) dst
  (fun σ' _=>⟨⟨flat_len hC e l,.inr ⟨w.heap.size,cap,cur,(0,0),rfl,heap_alloc_new w _,.inl rfl,hcap,hmax,hsz,htk⟩⟩,fun k=>by simp [Value.ownBlock,eq_comm]⟩)
  (fun m hm=>by simp [Chunk.names] at hm) (fun _ e=>(Ro.own e).elim) (fun σ' hs=>hs.symm) (fun m hm=>by simpa [At.names] using hm)

theorem bytesOf_spec {e:C.EC} {i:TypeInfo} (hi:C.P.info? (C.tid e)=some i):bytesOf C e=i.bytes:=by simp [bytesOf,hi]

theorem e_makeSlice {t:TypeId} {l c:Operand} (h:Pre C T H σ φ a w) (ho:o.op = .makeSlice t l c) (he:effS C Γ trunc T H o K):o.wp C.P a w (After C H σ φ a w K) Q:=by
 have hl:=h.rel l
 have hc:=h.rel c
 simp only [effS,ho] at he
 split at he <;> try (exact he.elim)
 rename_i e k1 n k2 m hec hcl hcc
 rw [hcl] at hl;rw [hcc] at hc
 obtain ⟨h0,h1,h2,hK⟩:=he
 have el:a.eval l = .int k1 n:=hl
 have ec:a.eval c = .int k2 m:=hc
 obtain ⟨i,z,hi,hz,hsz,hzc,hbp⟩:=h.ok.info e
 rw [bytesOf_spec hi] at h2
 have hmb:m<=140737488355328:=by
  have:m * 1<=m * (i.bytes:Int):=Int.mul_le_mul_of_nonneg_left (by omega) (by omega)
  omega
 have hrun:=run_make (P:=C.P) w t (C.tid e) i z (elemEC_spec h.ok hec) hi hz k1 k2 n m h0 h1 (by rw [Int.mul_comm];omega) (by omega)
 have hcap:(List.replicate n.toNat (C.dft e)).length<=m.toNat:=by simp;omega
 have hE:=row_new_sound h.ok h e (List.replicate n.toNat (C.dft e)) (madeCells z.cells (m.toNat * i.size)) m.toNat o.dst hcap (by unfold maxLen;omega) (by rw [size_madeCells,hsz]) (by
  rw [hsz,made_flat h.ok hzc]
  have:(List.replicate n.toNat (C.dft e))=(List.replicate m.toNat (C.dft e)).take n.toNat:=by rw [List.take_replicate];congr 1;omega
  rw [List.length_replicate,this]
  have hfl:=flat_len h.ok e (List.replicate m.toNat (C.dft e))
  conv=>rhs;rw [flat]
  have hsplit:List.replicate m.toNat (C.dft e)=(List.replicate m.toNat (C.dft e)).take n.toNat ++ (List.replicate m.toNat (C.dft e)).drop n.toNat:=(List.take_append_drop _ _).symm
  conv=>lhs;rw [hsplit,flat,List.flatMap_append]
  apply List.take_left'
  have:=flat_len h.ok e ((List.replicate m.toNat (C.dft e)).take n.toNat)
  rw [flat] at this
  rw [this,List.length_take,List.length_replicate,Nat.min_eq_left (by omega)])
 rw [List.length_replicate] at hE
 exact wp_value (by simp [execOp,ho,el,ec,hrun]) ⟨_,_,_,_,_,hE,hK⟩

theorem buildS_len (place:Nat->Option (Nat × Nat)):∀ (parts:List (Nat × SV)) {z cells:List At},buildS C H place z parts=some cells->cells.length=z.length:=by
 intro parts
 induction parts with
 | nil=>intro z cells h;simp [buildS] at h;rw [h]
 | cons p parts ih =>
  obtain ⟨i,x⟩:=p
  intro z cells h
  simp only [buildS] at h
  split at h <;> try (cases h;done)
  split at h <;> try (cases h;done)
  rename_i hc
  rw [ih h,splice_len hc.2]

theorem freezeS_sound (hC:C.OK):∀ (cells:List At) {φ:Nat->Nat->Prop} {H:List (Chunk C)},Sat C σ φ w H->∃ φ',Grows C σ φ H σ φ' (freezeS cells H) w:=by
 intro cells
 induction cells with
 | nil=>intro φ H h;exact ⟨φ,Grows.refl h⟩
 | cons x r ih =>
  intro φ H h
  unfold freezeS
  split
  ·rename_i m
   split
   ·rename_i e l hH
    have g:=freeze_sound hC h hH
    obtain ⟨φ2,g2⟩:=ih g.sat
    exact ⟨φ2,g.trans g2⟩
   ·exact ih h
  ·exact ih h
theorem imm_nil (hC:C.OK) (e:C.EC):Imm C w (.slice none 0 0) e [] :=
 Holds.rd (own:=true) (l:=([]:List (C.α e))) (f:=fun _=>False) (σ:=fun _=>undef) hC ⟨ownR.nil _ _ _,fun k=>by simp [Value.ownBlock]⟩
theorem cellRows_sound (hC:C.OK) {e0:C.EC} (h:Sat C σ φ w H):∀ (cells:List At) {ll:List (List (C.α e0))} {vs:List Value},cellRows C e0 H cells=some ll->Rels (At.rel σ) cells vs →
  Rels (fun l u=>Imm C w u e0 l/\∀ b,0 < l.length->u.ownBlock=some b->∀ m,¬ φ m b) ll vs:=by
 intro cells
 induction cells with
 | nil =>
  intro ll vs hc hr
  simp [cellRows] at hc;subst hc
  exact ⟨hr.1,fun i a b ha=>by simp at ha⟩
 | cons x r ih =>
  intro ll vs hc hr
  match vs,hr with
  | [],hr=>exact absurd hr.1 (by simp)
  | v :: vs,hr =>
   have hrc:At.rel σ x v:=hr.2 0 _ _ rfl rfl
   have hrt:Rels (At.rel σ) r vs:=⟨by simpa using hr.1,fun i x y hx hy=>hr.2 (i+1) x y (by simpa using hx) (by simpa using hy)⟩
   cases x with
   | val v0 =>
    have hv:v=v0:=hrc
    simp only [cellRows] at hc
    split at hc <;> first | (cases hc;done) | (rename_i hq;cases hq;done) | skip
    rename_i heq
    simp only [At.val.injEq] at heq
    simp only [Option.map_eq_some_iff] at hc
    obtain ⟨q,h1,rfl⟩:=hc
    rw [hv,heq]
    exact Rels.cons ⟨imm_nil hC e0,fun b hb=>by simp at hb⟩ (ih h1 hrt)
   | «any»=>simp [cellRows] at hc
   | ptr n k=>simp [cellRows] at hc
   | eptr n i sz k=>simp [cellRows] at hc
   | fn f cs=>simp [cellRows] at hc
   | slc m =>
    have hv:v=σ m:=hrc
    simp only [cellRows] at hc
    split at hc <;> try (cases hc;done)
    rename_i e l hH
    split at hc <;> try (cases hc;done)
    rename_i hee _
    subst hee
    simp only [Option.map_eq_some_iff] at hc
    obtain ⟨q,h1,rfl⟩:=hc
    rw [hv]
    exact Rels.cons ⟨(h.holds m _ hH).1,fun b hp hb=>h.immr m _ l hH hp b hb⟩ (ih h1 hrt)

theorem e_buildSlice {t:TypeId} {n:Nat} {parts:Array (Nat × Operand)} (h:Pre C T H σ φ a w) (ho:o.op = .buildSlice t n parts) (he:effS C Γ trunc T H o K):o.wp C.P a w (After C H σ φ a w K) Q:=by
 simp only [effS,ho] at he
 split at he <;> try (exact he.elim)
 rename_i e hec
 split at he
 ·rename_i e0 hl
  split at he <;> try (exact he.elim)
  rename_i cells hb
  split at hb <;> try (cases hb;done)
  rename_i hsmall
  split at he <;> try (exact he.elim)
  rename_i ll hll
  obtain ⟨i,z,hi,hz,hsz,hzc,hbp⟩:=h.ok.info e
  obtain ⟨e1,e2⟩:=parts_rel h parts.toList
  have hs1:=h.ok.lst _ _ hl
  have hmc:=made_flat h.ok hzc n
  obtain ⟨cs',g1,g2,g3⟩:=fill_sound (fun k=>some (k * C.sz e,C.sz e)) h.ok h.sat _ _ _ (madeCells z.cells (n * C.sz e)) e1 e2 (by rw [hmc];exact rels_vals _) hb (fun p hp m hm=>by
   obtain ⟨q,_,rfl⟩:=List.mem_map.1 hp
   exact h.nm q.2 m hm) (fun c hc m hm=>by
   obtain ⟨u,_,rfl⟩:=List.mem_map.1 hc
   simp [At.names] at hm)
  have hlen:cs'.toList.length=n * C.sz e:=by rw [← g2.1,buildS_len _ _ hb,List.length_map,flat_len h.ok,List.length_replicate]
  obtain ⟨φ1,gf⟩:=freezeS_sound h.ok cells h.sat
  have hR:=cellRows_sound h.ok gf.sat cells hll g2
  have hn1:n * C.sz e=n:=by rw [hs1,Nat.mul_one]
  have hn:ll.length=n:=by rw [hR.1,hlen,hn1]
  have hrun:(Instr.buildSlice t n (parts.map fun p=>(p.1,a.eval p.2))).run C.P w = .ok (.slice (some ⟨w.heap.size,0,none⟩) n n) (w.alloc (.cells cs' (C.tid e))):=by
   have hf:Instr.fill (fun k=>some (k * C.sz e,C.sz e)) (madeCells z.cells (n * C.sz e)) (parts.map fun p=>(p.1,a.eval p.2)).toList=some cs':=by simpa using g1
   have hns:¬ 16777216 < n * i.size:=by rw [hsz];omega
   by_cases h0:n * i.size=0
   ·have h0':n * C.sz e=0:=by rw [← hsz];exact h0
    rw [h0'] at hf
    have hm0:madeCells z.cells 0=#[]:=by simp [madeCells,Array.range_zero']
    rw [hm0,← hsz] at hf
    simp [Instr.buildSlice,run_underlying (elemEC_spec h.ok hec),run_sizeOf hi,h0,Array.range_zero',newRow]
    simp at hf
    rw [hf]
    simp
   ·have hzr:(zeroValue (C.tid e)).run C.P w = .ok z w:=by simp [zeroValue,typeInfo,hi,hz]
    rw [← hsz] at hf
    simp [Instr.buildSlice,run_underlying (elemEC_spec h.ok hec),run_sizeOf hi,h0,hns,hzr,newRow]
    unfold madeCells at hf
    simp at hf
    rw [hf]
    simp
  have hown:(w.alloc (.cells cs' (C.tid e))).ownsRow 0 (C.tid e) 1 (.slice (some ⟨w.heap.size,0,none⟩) n n) ll.length cs'.toList :=
   ⟨by rw [hlen,hn,hs1],.inr ⟨w.heap.size,n,cs',by rw [hn],Nat.zero_le _,heap_alloc_new w _,by omega,by unfold maxLen;omega,by rw [← Array.length_toList,hlen,hs1],by rw [List.take_of_length_le (by omega)]⟩⟩
  refine wp_value (by simp [execOp,ho,hrun]) ⟨_,_,_,_,_,new_sound h.ok h gf (.rows e e0 ll) (.slice (some ⟨w.heap.size,0,none⟩) n n) (.slc _) (.cells cs' (C.tid e)) o.dst
   (fun σ' _=>⟨hs1,⟨cs'.toList,hown,hR.mono fun l u _ hu=>hu.1.keep (by simp) fun _ b _ hb=>heap_alloc_old w _ hb⟩,fun k=>by simp [Value.ownBlock,eq_comm]⟩)
   (fun m hm=>by simp [Chunk.names] at hm) (fun b hb=>?_) (fun σ' hs=>hs.symm) (fun m hm=>by simpa [At.names] using hm),he⟩
  obtain ⟨vs,ho',i',u,l,h1,h2,h3,h4⟩:=hb
  obtain rfl:=ownsRow_inj ho' hown
  obtain ⟨hi1,hi2⟩:=hR.2 i' l u h2 h1
  have:=hi1.lt h3 h4
  exact ⟨hi2 b h3 h4,by omega⟩
 split at he <;> try (exact he.elim)
 rename_i cells hb
 split at hb <;> try (cases hb;done)
 rename_i hsmall
 split at he <;> try (exact he.elim)
 rename_i vs hvs
 split at he <;> try (exact he.elim)
 rename_i xs hxs
 obtain ⟨i,z,hi,hz,hsz,hzc,hbp⟩:=h.ok.info e
 obtain ⟨e1,e2⟩:=parts_rel h parts.toList
 have hmc:=made_flat h.ok hzc n
 obtain ⟨cs',g1,g2,g3⟩:=fill_sound (fun k=>some (k * C.sz e,C.sz e)) h.ok h.sat _ _ _ (madeCells z.cells (n * C.sz e)) e1 e2 (by rw [hmc];exact rels_vals _) hb (fun p hp m hm=>by
  obtain ⟨q,_,rfl⟩:=List.mem_map.1 hp
  exact h.nm q.2 m hm) (fun c hc m hm=>by
  obtain ⟨u,_,rfl⟩:=List.mem_map.1 hc
  simp [At.names] at hm)
 have hcs:cs'.toList=vs:=allVals_rel hvs g2
 have hlen:cs'.toList.length=n * C.sz e:=by rw [← g2.1,buildS_len _ _ hb,List.length_map,flat_len h.ok,List.length_replicate]
 obtain ⟨f1,f2⟩:=dcdN_sound h.ok n vs hxs (by rw [← hcs];exact hlen)
 subst f2
 have hp:=h.ok.pos e
 have hE:=row_new_sound h.ok h e xs cs' xs.length o.dst (Nat.le_refl _) (by
  have:xs.length * 1<=xs.length * C.sz e:=Nat.mul_le_mul_left _ hp
  unfold maxLen;omega) (by rw [← Array.length_toList,hlen]) (by rw [f1,← hcs,List.take_of_length_le (by omega)])
 refine wp_value ?_ ⟨_,_,_,_,_,hE,he⟩
 have hrun:(Instr.buildSlice t xs.length (parts.map fun p=>(p.1,a.eval p.2))).run C.P w = .ok (.slice (some ⟨w.heap.size,0,none⟩) xs.length xs.length) (w.alloc (.cells cs' (C.tid e))):=by
  have hf:Instr.fill (fun k=>some (k * C.sz e,C.sz e)) (madeCells z.cells (xs.length * C.sz e)) (parts.map fun p=>(p.1,a.eval p.2)).toList=some cs':=by simpa using g1
  have hns:¬ 16777216 < xs.length * i.size:=by rw [hsz];omega
  by_cases h0:xs.length * i.size=0
  ·have h0':xs.length * C.sz e=0:=by rw [← hsz];exact h0
   rw [h0'] at hf
   have hm0:madeCells z.cells 0=#[]:=by simp [madeCells,Array.range_zero']
   rw [hm0,← hsz] at hf
   simp [Instr.buildSlice,run_underlying (elemEC_spec h.ok hec),run_sizeOf hi,h0,Array.range_zero',newRow]
   simp at hf
   rw [hf]
   simp
  ·have hzr:(zeroValue (C.tid e)).run C.P w = .ok z w:=by simp [zeroValue,typeInfo,hi,hz]
   rw [← hsz] at hf
   simp [Instr.buildSlice,run_underlying (elemEC_spec h.ok hec),run_sizeOf hi,h0,hns,hzr,newRow]
   unfold madeCells at hf
   simp at hf
   rw [hf]
   simp
 simp [execOp,ho,hrun]
end
end Go.Proofs.YtedfbafngmicpaaGreat.Sx
end
