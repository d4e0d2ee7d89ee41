/- A part of the proof. -/
import Derived.Test.YtedfbafngmicpaaGreatG1
section
/- The symbolic run is sound: the other quiet operations. No program in sight. -/
namespace Go.Proofs.YtedfbafngmicpaaGreat.Sx
open Go

section
variable {C:Ctx}
variable {T:List SV} {H:List (Chunk C)} {o:Oper} {σ:Nat->Value} {φ:Nat->Nat->Prop} {a:Act} {w:World} {ps:List Prop} {s:SV} {H':List (Chunk C)}

theorem okAt_one (hC:C.OK)(hs:Sat C σ φ w H){x:At}{v:Value}(h:okAt H x=true)(hr:x.rel σ v):v.oneCell'=true:=by
 cases x with
 | any=>simp[okAt] at h
 | val u =>
  have:v=u:=hr
  subst this
  cases v<;>simp_all [okAt,Value.oneCell']
 | ptr n off=>obtain⟨b,_,rfl⟩:=hr;rfl
 | eptr n i sz off=>obtain⟨b,o,len,cap,_,_,rfl⟩:=hr;rfl
 | slc n =>
  simp only[okAt] at h
  split at h
  ·rename_i own e l hH
   obtain⟨A,c,h1,_⟩:=(hs.holds n _ hH).rd hC
   have:v=σ n:=hr
   rw[this,h1];rfl
  ·rename_i kk vk l hH
   obtain⟨b,es,ck,h1,_⟩:=hs.holds n _ hH
   have:v=σ n:=hr
   rw[this,h1];rfl
  ·rename_i hh e ll hH
   obtain⟨_,⟨vs,ho,_⟩,_⟩:=hs.holds n _ hH
   have:v=σ n:=hr
   rw[this]
   rcases ho.2 with ⟨h1,_⟩|⟨g,cap,cur,h1,_⟩
   ·rw[h1];rfl
   ·rw[h1];rfl
  ·cases h
 | fn f cs=>have:v=_:=hr.1;subst this;rfl

theorem oneCell_cells {v:Value}(h:v.oneCell'=true):v.cells.toList=[v]:=by
 cases v<;>simp_all [Value.oneCell',Value.cells]

theorem svCells_sound (hC:C.OK)(hs:Sat C σ φ w H){x:SV}{v:Value}{cs:List At}(h:svCells H x=some cs)(hr:x.rel σ v):Rels (At.rel σ) cs v.cells.toList/\∀ c∈cs,∀ m∈c.names,m∈x.names:=by
 match x with
 | .one (.at y) =>
  simp only[svCells] at h
  split at h
  ·rename_i hy
   simp only[Option.some.injEq] at h
   subst h
   have h1:=okAt_one hC hs hy hr
   rw[oneCell_cells h1]
   exact⟨Rels.cons hr Rels.nil,fun c hc m hm=>by simp at hc;subst hc;exact hm⟩
  ·cases h
 | .one (.agg l) =>
  simp only[svCells,Option.some.injEq] at h
  subst h
  obtain⟨vs,rfl,hr'⟩:=hr
  exact⟨hr',fun c hc m hm=>List.mem_flatMap.2 ⟨c,hc,hm⟩⟩
 | .tup l=>simp[svCells] at h

theorem splice_rels {α β:Type}{R:α->β->Prop}{l:List α}{m:List β}{l':List α}{m':List β}(h:Rels R l m)(h':Rels R l' m')(off:Nat):Rels R (splice l off l') (splice m off m'):=by
 unfold splice
 rw[← h'.1]
 exact (h.take off).append (h'.append (h.drop _))

theorem splice_len {α:Type}{l l':List α}{off:Nat}(h:off+l'.length<=l.length):(splice l off l').length=l.length:=by
 simp[splice];omega

theorem splice_set {α:Type}{l vs:List α}{v:α}{p:Nat}(h:p+(vs.length+1)<=l.length):splice (l.set p v) (p+1) vs=splice l p (v::vs):=by
 have hA:(l.take p).length=p:=by simp;omega
 have e:l.set p v=l.take p++v::l.drop (p+1):=by rw[List.set_eq_take_append_cons_drop,if_pos (by omega)]
 unfold splice
 rw[e,List.take_append,List.drop_append,hA,List.take_of_length_le (by omega),show p+1-p=1 by omega,List.drop_eq_nil_of_le (by omega:(l.take p).length<=p+1+vs.length)]
 simp only[List.take_succ_cons,List.take_zero,List.nil_append,List.length_cons,List.append_assoc,List.cons_append]
 rw[show p+1+vs.length-p=vs.length+1 by omega,List.drop_succ_cons,List.drop_drop]
 rw[show p+1+vs.length=p+(vs.length+1) by omega]

theorem foldl_set (off:Nat):∀ (vs:List Value) (k:Nat) (cs:Array Value),off+k+vs.length<=cs.size →
  ((vs.zipIdx k).foldl (fun cs (x:Value × Nat)=>cs.setIfInBounds (off+x.2) x.1) cs).toList=splice cs.toList (off+k) vs:=by
 intro vs
 induction vs with
 | nil=>intro k cs h;simp[splice]
 | cons v vs ih =>
  intro k cs h
  simp only[List.length_cons] at h
  rw[List.zipIdx_cons,List.foldl_cons,ih (k+1) _ (by simp;omega)]
  simp only[Array.toList_setIfInBounds]
  exact splice_set (by simp;omega)

theorem fill_sound (place:Nat->Option (Nat × Nat))(hC:C.OK)(hs:Sat C σ φ w H):∀ (parts:List (Nat × SV)) (vs:List (Nat × Value)) (z:List At) (cs:Array Value) {cells:List At},
  parts.map (·.1)=vs.map (·.1)->Rels (SV.rel σ) (parts.map (·.2)) (vs.map (·.2))->Rels (At.rel σ) z cs.toList->buildS C H place z parts=some cells →
  (∀ p∈parts,∀ m∈p.2.names,m<H.length)->(∀ c∈z,∀ m∈c.names,m<H.length) →
  ∃ cs',Instr.fill place cs vs=some cs'/\Rels (At.rel σ) cells cs'.toList/\∀ c∈cells,∀ m∈c.names,m<H.length:=by
 intro parts
 induction parts with
 | nil =>
  intro vs z cs cells hk hr hz hb _ hn
  cases vs with
  | nil=>simp[buildS] at hb;subst hb;exact⟨cs,rfl,hz,hn⟩
  | cons v vs=>simp at hk
 | cons p parts ih =>
  intro vs z cs cells hk hr hz hb hn hzn
  obtain⟨i,x⟩:=p
  cases vs with
  | nil=>simp at hk
  | cons q vs =>
   obtain⟨i',v⟩:=q
   simp only[List.map_cons,List.cons.injEq] at hk
   obtain⟨rfl,hk⟩:=hk
   have hrx:x.rel σ v:=hr.2 0 _ _ rfl rfl
   have hrt:Rels (SV.rel σ) (parts.map (·.2)) (vs.map (·.2)):=⟨by simpa using hr.1,fun i a b ha hb=>hr.2 (i+1) a b (by simpa using ha) (by simpa using hb)⟩
   simp only[buildS] at hb
   split at hb<;>try (cases hb;done)
   rename_i off size cl hp hc
   split at hb<;>try (cases hb;done)
   rename_i hle
   obtain⟨h1,h2⟩:=svCells_sound hC hs hc hrx
   have hsz:v.cells.size=cl.length:=by rw[h1.1];simp
   have hzs:z.length=cs.size:=by rw[hz.1];simp
   have hf:=foldl_set off v.cells.toList 0 cs (by simp;omega)
   rw[Nat.add_zero] at hf
   have hset:v.cells.zipIdx.foldl (fun cs (x:Value × Nat)=>cs.setIfInBounds (off+x.2) x.1) cs=(v.cells.toList.zipIdx).foldl (fun cs (x:Value × Nat)=>cs.setIfInBounds (off+x.2) x.1) cs:=by
    rw[← Array.foldl_toList,Array.toList_zipIdx]
   obtain⟨cs',g1,g2,g3⟩:=ih vs (splice z off cl) (v.cells.zipIdx.foldl (fun cs (x:Value × Nat)=>cs.setIfInBounds (off+x.2) x.1) cs) hk hrt (by rw[hset,hf];exact splice_rels hz h1 off) hb
    (fun p hp=>hn p (List.mem_cons_of_mem _ hp)) (fun c hc m hm=>by
     simp only[splice,List.mem_append] at hc
     rcases hc with hc|hc|hc
     ·exact hzn c (List.mem_of_mem_take hc) m hm
     ·exact hn (i,x) List.mem_cons_self m (h2 c hc m hm)
     ·exact hzn c (List.mem_of_mem_drop hc) m hm)
   refine⟨cs',?_,g2,g3⟩
   rw[Instr.fill]
   simp only[hp]
   rw[if_neg (by simp only[Bool.or_eq_true,decide_eq_true_eq,not_or];omega)]
   exact g1

theorem zeroS_sound (_:C.OK){t:TypeId}{z:List At}(h:zeroS C t=some z):∃ i v,C.P.info? t=some i/\i.zero=some v/\z=v.cells.toList.map .val:=by
 unfold zeroS at h
 split at h
 ·rename_i i hi
  simp only[Option.map_eq_some_iff] at h
  obtain⟨v,h1,rfl⟩:=h
  exact⟨i,v,hi,h1,rfl⟩
 ·cases h

theorem run_places {P:Program}:∀ (fs:List Field),(∀ f∈fs,(P.info? f.type).isSome=true)->∀ w,(fs.mapM (m:=Sem) fun f=>do pure (f.offset,← sizeOf f.type)).run P w = .ok (fs.map fun f=>(f.offset,((P.info? f.type).map (·.size)).getD 0)) w:=by
 intro fs
 induction fs with
 | nil=>intro _ w;simp
 | cons f fs ih =>
  intro h w
  obtain⟨i,hi⟩:=Option.isSome_iff_exists.1 (h f (by simp))
  have:=ih (fun g hg=>h g (by simp[hg])) w
  simp only[List.mapM_cons,Sem.run_bind,run_sizeOf hi,Result.andThen_ok,Sem.run_pure,this,List.map_cons,hi,Option.map_some,Option.getD_some]

theorem run_build (_:C.OK){t:TypeId}{i:TypeInfo}{v:Value}(hb:buildOK C t=true)(hi:C.P.info? t=some i)(hz:i.zero=some v){vs:Array (Nat × Value)}{cs:Array Value}(hf:Instr.fill (placeS C t) v.cells vs.toList=some cs)(w:World) :
  (Instr.build t vs).run C.P w = .ok (.agg cs) w:=by
 unfold buildOK at hb
 have hzr:(zeroValue t).run C.P w = .ok v w:=by simp[zeroValue,typeInfo,hi,hz]
 split at hb
 ·rename_i fs hfs
  have hpl:placeS C t=fun i=>(fs.toList.map fun f=>(f.offset,((C.P.info? f.type).map (·.size)).getD 0)).toArray[i]?:=by
   funext k
   unfold placeS
   rw[hfs]
   simp only[List.getElem?_toArray,List.getElem?_map,Array.getElem?_toList]
   cases hk:fs[k]? with
   | none=>rfl
   | some f =>
    have hm:f∈fs.toList:=by
     have:=Array.mem_of_getElem? hk
     simpa using this
    obtain⟨j,hj⟩:=Option.isSome_iff_exists.1 (List.all_eq_true.1 hb f hm)
    simp[hj]
  have hrun:=run_places (P:=C.P) fs.toList (fun f hf=>List.all_eq_true.1 hb f hf) w
  rw[hpl] at hf
  unfold Instr.build
  have hm:(fs.mapM (m:=Sem) fun f=>do pure (f.offset,← sizeOf f.type)).run C.P w = .ok (fs.toList.map fun f=>(f.offset,((C.P.info? f.type).map (·.size)).getD 0)).toArray w:=by
   rw[Array.mapM_eq_mapM_toList,Sem.run_map,hrun]
   rfl
  simp only[Sem.run_bind,hzr,Result.andThen_ok,run_underlying hfs,hm,hf,Sem.run_pure]
 ·rename_i n e he
  obtain⟨j,hj⟩:=Option.isSome_iff_exists.1 hb
  have hpl:placeS C t=fun i=>some (i*j.size,j.size):=by funext k;simp[placeS,he,hj]
  rw[hpl] at hf
  unfold Instr.build
  simp[hzr,run_underlying he,run_sizeOf hj,hf]
 ·cases hb

theorem parts_rel (h:Pre C T H σ φ a w)(parts:List (Nat × Operand)) :
  (parts.map fun p=>(p.1,opnd T p.2)).map (·.1)=(parts.map fun p=>(p.1,a.eval p.2)).map (·.1)/\Rels (SV.rel σ) ((parts.map fun p=>(p.1,opnd T p.2)).map (·.2)) ((parts.map fun p=>(p.1,a.eval p.2)).map (·.2)):=by
 constructor
 ·simp[Function.comp_def]
 ·have:=rels_map_eval h (parts.map (·.2))
  simpa [Function.comp_def] using this

theorem q_build {t:TypeId}{parts:Array (Nat × Operand)}(h:Pre C T H σ φ a w)(ho:o.op = .build t parts)(hq:quietS C T H o=some (ps,s,H')):QOut C T H o σ φ a w s H':=by
 simp only[quietS,ho] at hq
 split at hq<;>try (cases hq;done)
 rename_i z hz
 split at hz<;>try (cases hz;done)
 rename_i hok
 split at hq<;>try (cases hq;done)
 rename_i cells hb
 simp only[Option.some.injEq,Prod.mk.injEq] at hq
 obtain⟨_,rfl,rfl⟩:=hq
 obtain⟨i,v,hi,hiz,rfl⟩:=zeroS_sound h.ok hz
 obtain⟨e1,e2⟩:=parts_rel h parts.toList
 obtain⟨cs',g1,g2,g3⟩:=fill_sound (placeS C t) h.ok h.sat _ _ _ v.cells e1 e2 (rels_vals _) hb (fun p hp m hm=>by
  obtain⟨q,_,rfl⟩:=List.mem_map.1 hp
  exact h.nm q.2 m hm) (fun c hc m hm=>by
  obtain⟨u,_,rfl⟩:=List.mem_map.1 hc
  simp[At.names] at hm)
 obtain⟨σ',φ',g,r,n⟩:=nilCells_sound h.ok cells (cellTs C.P 20 t) h.sat g2 g3
 refine⟨.agg cs',σ',φ',g,⟨cs'.toList,by simp,r⟩,fun m hm=>?_,fun w' _=>?_⟩
 ·obtain⟨c,hc,hm⟩:=List.mem_flatMap.1 hm
  exact n c hc m hm
 ·have hrun:=run_build h.ok hok hi hiz (vs:=parts.map fun p=>(p.1,a.eval p.2)) (cs:=cs') (by simpa using g1) w'
  simp[execOp,ho,hrun]
end
end Go.Proofs.YtedfbafngmicpaaGreat.Sx
end
section
/- The symbolic run is sound: slices, lengths, binary operations; all quiet operations. No program in sight. -/
namespace Go.Proofs.YtedfbafngmicpaaGreat.Sx
open Go

section
variable {C:Ctx}
variable {T:List SV} {H:List (Chunk C)} {o:Oper} {σ:Nat->Value} {φ:Nat->Nat->Prop} {a:Act} {w:World} {ps:List Prop} {s:SV} {H':List (Chunk C)}

theorem trueInt_val (h:Pre C T H σ φ a w){x:Operand}{n:Int}(hx:trueInt (opnd T x)=some n):∃ k,a.eval x = .int k n:=by
 have hr:=h.rel x
 unfold trueInt at hx
 split at hx
 ·rename_i k m hc
  rw[hc] at hr
  simp only[Option.some.injEq] at hx
  subst hx
  exact⟨k,hr⟩
 ·cases hx

theorem run_bounds {P:Program}{len cap:Nat}{low high:Option Value}{i j:Int}(hl:(low=none/\i=0)∨∃ k,low=some (.int k i))(hh:(high=none/\j=len)∨∃ k,high=some (.int k j))(h0:0<=i)(h1:i<=j)(h2:j<=cap)(w:World):(Instr.sliceBounds true len cap low high none).run P w = .ok (i.toNat,j.toNat,cap) w:=by
 have hj:(j.toNat:Int)=j:=by omega
 rcases hl with ⟨rfl,rfl⟩|⟨k,rfl⟩<;>rcases hh with ⟨rfl,rfl⟩|⟨k',rfl⟩
 ·simp[Instr.sliceBounds]
 ·have e1:=run_sliceBound (P:=P) w k' j cap .sliceAcap (by omega) h2
  simp[Instr.sliceBounds,e1]
 ·have e1:=run_sliceBound (P:=P) w k i len .sliceB h0 h1
  simp[Instr.sliceBounds,e1]
 ·have e1:=run_sliceBound (P:=P) w k' j cap .sliceAcap (by omega) h2
  have e2:=run_sliceBound (P:=P) w k i j.toNat .sliceB h0 (by omega)
  simp[Instr.sliceBounds,e1,e2]

theorem run_sliceAt {P:Program}{t e:TypeId}{ti:TypeInfo}{A:Option Addr}{len cap:Nat}{low high:Option Value}{i j:Int}(ht:P.underlying t=some (.slice e))(he:P.info? e=some ti)(hl:(low=none/\i=0)∨∃ k,low=some (.int k i))(hh:(high=none/\j=len)∨∃ k,high=some (.int k j))(h0:0<=i)(h1:i<=j)(h2:j<=cap)(w:World):(Instr.sliceAt t (.slice A len cap) low high none).run P w = .ok (.slice (if cap=i.toNat then A else A.map (·.add (i.toNat*ti.size))) (j.toNat-i.toNat) (cap-i.toNat)) w:=by
 have hb:=run_bounds (P:=P) hl hh h0 h1 h2 w
 simp[Instr.sliceAt,Instr.slice,run_underlying ht,hb,run_sizeOf he]

theorem freeze_sound (hC:C.OK)(hs:Sat C σ φ w H){n:Nat}{e:C.EC}{l:List (C.α e)}(hH:H[n]?=some (.row true e l)) :
  Grows C σ φ H σ (fun k=>if k=n then (fun _=>False) else φ k) (H.set n (.row false e l)) w:=by
 have hn:n<H.length:=(List.getElem?_eq_some_iff.1 hH).1
 have hh:=hs.holds n _ hH
 refine⟨hs.step hC (fun k=>k=n) (Nat.le_refl _) (fun _ _ _=>rfl) (fun k hk=>?_) (fun _ _ _ _ _ _=>rfl) (fun k c hk hc=>?_) (fun k b hk hb=>?_) (fun k m b hk hm hb _=>hk.trans hm.symm) (fun k b hk hb=>?_)
  (fun k d hk hc b hb m hm=>?_) (fun k hk b hb=>?_) (by simp) (fun k c hk hc m hm=>?_),fun _ _=>rfl,fun k b hb=>?_,by simp,fun k hk ho=>?_,fun k hk b=>?_⟩
 ·have:¬ k=n:=hk
  exact⟨by rw[List.getElem?_set_ne (Ne.symm this)],rfl,fun b=>by simp[this]⟩
 ·have hk':k=n:=hk
  subst hk'
  rw[List.getElem?_set_self hn] at hc
  simp only[Option.some.injEq] at hc
  subst hc
  obtain⟨A,c,h1,h2⟩:=hh.rd hC
  exact⟨⟨A,c,h1,h2⟩,fun b hb=>by simp at hb⟩
 ·have hk':k=n:=hk
  subst hk'
  simp at hb
 ·have hk':k=n:=hk
  subst hk'
  simp at hb
 ·have hk':k=n:=hk
  subst hk'
  rw[List.getElem?_set_self hn] at hc
  simp only[Option.some.injEq] at hc
  subst hc
  by_cases e:m=k
  ·subst e;simp at hm
  ·simp only[if_neg e] at hm
   exact e (hs.dis m k b hm ((hh.2 b).2 hb.2))
 ·rw[List.length_set] at hk
  by_cases e:k=n
  ·subst e;simp at hb
  ·simp only[if_neg e] at hb;exact hs.out k hk b hb
 ·have hk':k=n:=hk
  subst hk'
  rw[List.getElem?_set_self hn] at hc
  simp only[Option.some.injEq] at hc
  subst hc
  simp[Chunk.names] at hm
 ·by_cases e:k=n
  ·subst e;simp at hb
  ·simpa [e] using hb
 ·by_cases e:k=n
  ·subst e;simp[isOwn,List.getElem?_set_self hn] at ho
  ·simpa [isOwn,List.getElem?_set_ne (Ne.symm e)] using ho
 ·unfold Rdb
  by_cases e':k=n
  ·subst e'
   rw[List.getElem?_set_self hn,hH]
   simp
  ·simp[List.getElem?_set_ne (Ne.symm e')]

theorem view_sound (hC:C.OK)(hs:Sat C σ φ w H){n:Nat}{e:C.EC}{l:List (C.α e)}(hH:H[n]?=some (.row false e l)){i j:Nat}(hij:i<=j)(hj:j<=l.length) :
  ∃ A c,σ n = .slice A l.length c/\l.length<=c/\Grows C σ φ H (fun k=>if k=H.length then .slice (if c=i then A else A.map (·.add (i*C.sz e))) (j-i) (c-i) else σ k) (fun k=>if k=H.length then (fun _=>False) else φ k)
   (H++[.row false e ((l.take j).drop i)]) w:=by
 obtain⟨⟨A,c,h1,h2⟩,_⟩:=hs.holds n _ hH
 have hcap:=h2.cap
 have hlen:((l.take j).drop i).length=j-i:=by simp;omega
 refine⟨A,c,h1,hcap,Grows.view hC hs _ _ (fun σ'=>⟨⟨_,c-i,by rw[hlen],by rw[hlen];exact (h2.head hj).cut hij⟩,fun _ h=>h⟩) rfl (fun b hb m hm=>?_)⟩
 ·obtain⟨hpos,hb⟩:=hb
  rw[hlen] at hpos
  have:¬ c=i:=by omega
  rw[if_neg this] at hb
  cases A with
  | none=>simp[Value.ownBlock] at hb
  | some ad =>
   simp only[Option.map_some,Value.ownBlock,Option.some.injEq] at hb
   refine hs.immr n e l hH (by omega) b ?_ m hm
   rw[h1]
   simp only[Value.ownBlock,Option.some.injEq]
   rw[← hb]
   unfold Addr.add
   split<;>rfl

theorem isEC_spec (hC:C.OK){t:TypeId}{e:C.EC}(h:isEC C t e=true):C.P.underlying t=some (.slice (C.tid e)):=by
 unfold isEC at h
 split at h
 ·rename_i e' he
  split at h
  ·rename_i hee _
   subst hee
   exact elemEC_spec hC he
  ·cases h
 ·cases h

theorem q_slice {t:TypeId}{x:Operand}{lo hi mx:Option Operand}(h:Pre C T H σ φ a w)(ho:o.op = .slice t x lo hi mx)(hps:∀ p∈ps,p)(hq:quietS C T H o=some (ps,s,H')):QOut C T H o σ φ a w s H':=by
 have hx:=h.rel x
 simp only[quietS,ho] at hq
 split at hq<;>try (cases hq;done)
 rename_i n hc
 split at hq<;>try (cases hq;done)
 rename_i own e l hH
 split at hq<;>try (cases hq;done)
 rename_i he
 split at hq<;>try (cases hq;done)
 rename_i i j hlo hhi
 rw[hc] at hx
 have ex:a.eval x=σ n:=hx
 have ht:=isEC_spec h.ok he
 have hl:(lo.map a.eval=none/\i=0)∨∃ k,lo.map a.eval=some (.int k i):=by
  cases lo with
  | none=>simp at hlo;exact .inl ⟨rfl,hlo.symm⟩
  | some p=>obtain⟨k,hk⟩:=trueInt_val h hlo;exact .inr ⟨k,by simp[hk]⟩
 have hh:(hi.map a.eval=none/\j=(l.length:Int))∨∃ k,hi.map a.eval=some (.int k j):=by
  cases hi with
  | none=>simp at hhi;exact .inl ⟨rfl,hhi.symm⟩
  | some p=>obtain⟨k,hk⟩:=trueInt_val h hhi;exact .inr ⟨k,by simp[hk]⟩
 have key:∀ (φ1:Nat->Nat->Prop) (H1:List (Chunk C)),Grows C σ φ H σ φ1 H1 w->H1[n]?=some (.row false e l)->H1.length=H.length->0<=i->i<=j->j<=(l.length:Int) →
   QOut C T H o σ φ a w (.one (.at (.slc H.length))) (H1++[.row false e ((l.take j.toNat).drop i.toNat)]):=by
  intro φ1 H1 g1 hH1 hlen h0 h1 h2
  obtain⟨A,c,e1,e2,g2⟩:=view_sound h.ok g1.sat hH1 (i:=i.toNat) (j:=j.toNat) (by omega) (by omega)
  obtain⟨ti,z,hti,_,hsz,_⟩:=h.ok.info e
  refine⟨.slice (if c=i.toNat then A else A.map (·.add (i.toNat*C.sz e))) (j.toNat-i.toNat) (c-i.toNat),_,_,g1.trans g2,?_,fun m hm=>?_,fun w' _=>?_⟩
  ·show _=_
   simp only[hlen,if_true]
  ·simp[SV.names,TV.names,At.names] at hm
   subst hm
   simp[hlen]
  ·have hrun:=run_sliceAt (P:=C.P) (A:=A) (len:=l.length) (cap:=c) ht hti hl hh h0 h1 (by omega) w'
   rw[hsz] at hrun
   simp[execOp,ho,ex,e1,hrun]
 split at hq
 ·simp only[Option.some.injEq,Prod.mk.injEq] at hq
  obtain⟨rfl,rfl,rfl⟩:=hq
  exact key φ H (Grows.refl h.sat) hH rfl (hps _ (by simp)) (hps _ (by simp)) (hps _ (by simp))
 ·simp only[Option.some.injEq,Prod.mk.injEq] at hq
  obtain⟨rfl,rfl,rfl⟩:=hq
  have hn:n<H.length:=(List.getElem?_eq_some_iff.1 hH).1
  have:=key _ _ (freeze_sound h.ok h.sat hH) (by rw[List.getElem?_set_self hn]) (by simp) (hps _ (by simp)) (hps _ (by simp)) (hps _ (by simp))
  exact this

theorem map_eval2 {c:Call}{x y:Operand}(h:c.args.toList=[x,y])(f:Operand->Value):c.args.map f=#[f x,f y]:=by
 apply Array.ext'
 simp[h]
theorem map_eval1 {c:Call}{x:Operand}(h:c.args.toList=[x])(f:Operand->Value):c.args.map f=#[f x]:=by
 apply Array.ext'
 simp[h]

theorem execOp_builtin {c:Call}{b:Builtin}{ρ ρ':Operand->Value}(ho:o.op = .call c)(hc:c.callee = .builtin b)(hm:c.args.map ρ=c.args.map ρ'):execOp ρ o=execOp ρ' o:=by
 unfold execOp
 rw[ho]
 simp only[resolve,hc,hm]

theorem q_call {c:Call}(h:Pre C T H σ φ a w)(ho:o.op = .call c)(hq:quietS C T H o=some (ps,s,H')):QOut C T H o σ φ a w s H':=by
 simp only[quietS,ho] at hq
 split at hq<;>try (cases hq;done)
 ·rename_i hcal
  split at hq<;>try (cases hq;done)
  rename_i x hargs
  have hx:=h.rel x
  split at hq
  ·rename_i n hc
   rw[hc] at hx
   have ex:a.eval x=σ n:=hx
   split at hq<;>try (cases hq;done)
   case h_2 =>
    rename_i hh e ll et hH het
    simp only[Option.some.injEq,Prod.mk.injEq] at hq
    obtain⟨_,rfl,rfl⟩:=hq
    obtain⟨_,⟨vs,hown,_⟩,_⟩:=h.sat.holds n _ hH
    have h1:∃ A cp,σ n = .slice A ll.length cp:=by
     rcases hown.2 with ⟨e1,e0⟩|⟨g,cap,cur,e1,_⟩
     ·exact⟨none,0,by rw[e1,e0]⟩
     ·exact⟨_,_,e1⟩
    obtain⟨A,cp,h1⟩:=h1
    refine QOut.same h.sat (.int .i64 ll.length) rfl (by simp[vi,SV.names,TV.names,At.names]) fun w' _=>?_
    cases ht:c.argTypes[0]? with
    | none=>rw[ht] at het;cases het
    | some t =>
     rw[ht] at het
     have het:C.P.underlying t=some (.slice et):=het
     simp[execOp,ho,resolve,hcal,invoke,builtin,map_eval1 hargs,ex,h1,Builtin.len_,ht,run_underlying het,goInt]
   rename_i own e l et hH het
   simp only[Option.some.injEq,Prod.mk.injEq] at hq
   obtain⟨_,rfl,rfl⟩:=hq
   obtain⟨A,cp,h1,h2⟩:=(h.sat.holds n _ hH).rd h.ok
   refine QOut.same h.sat (.int .i64 l.length) rfl (by simp[vi,SV.names,TV.names,At.names]) fun w' _=>?_
   cases ht:c.argTypes[0]? with
   | none=>rw[ht] at het;cases het
   | some t =>
    rw[ht] at het
    have het:C.P.underlying t=some (.slice et):=het
    simp[execOp,ho,resolve,hcal,invoke,builtin,map_eval1 hargs,ex,h1,Builtin.len_,ht,run_underlying het,goInt]
  ·split at hq<;>try (cases hq;done)
   rename_i u hu
   simp only[Option.map_eq_some_iff,Prod.mk.injEq] at hq
   obtain⟨v,hp,_,rfl,rfl⟩:=hq
   exact QOut.pure_ h hp (execOp_builtin ho hcal (by rw[map_eval1 hargs,map_eval1 hargs,hu,h.val hu];rfl))
 ·rename_i hcal
  split at hq<;>try (cases hq;done)
  rename_i x y hargs
  split at hq<;>try (cases hq;done)
  rename_i k1 n1 k2 n2 hx hy
  simp only[Option.map_eq_some_iff,Prod.mk.injEq] at hq
  obtain⟨v,hp,_,rfl,rfl⟩:=hq
  exact QOut.pure_ h hp (execOp_builtin ho hcal (by rw[map_eval2 hargs,map_eval2 hargs,hx,h.val hx,hy,h.val hy];rfl))
 ·rename_i hcal
  split at hq<;>try (cases hq;done)
  rename_i x y hargs
  split at hq<;>try (cases hq;done)
  rename_i k1 n1 k2 n2 hx hy
  simp only[Option.map_eq_some_iff,Prod.mk.injEq] at hq
  obtain⟨v,hp,_,rfl,rfl⟩:=hq
  exact QOut.pure_ h hp (execOp_builtin ho hcal (by rw[map_eval2 hargs,map_eval2 hargs,hx,h.val hx,hy,h.val hy];rfl))

theorem execOp_bin {op:BinOp}{t yt:TypeId}{x y:Operand}{ρ ρ':Operand->Value}(ho:o.op = .binOp op t x y yt)(hx:ρ x=ρ' x)(hy:ρ y=ρ' y):execOp ρ o=execOp ρ' o:=by
 unfold execOp
 rw[ho]
 simp only[hx,hy]

theorem run_partV {P:Program}{t:TypeId}{cs:Array Value}{off:Nat}{v:Value}(h:partV P t cs off=some v)(w:World):(part t cs off).run P w = .ok v w:=by
 unfold partV at h
 split at h
 ·rename_i d i hd hi
  split at h
  ·rename_i ha
   simp only[Option.some.injEq] at h
   subst h
   simp[part,run_isAggD hd,ha,run_sizeOf hi]
  ·rename_i ha
   simp[part,run_isAggD hd,ha,h]
 ·cases h

theorem run_eqFs {P:Program}{d:Nat}{rec_:TypeId->Value->Value->Option Bool}(hrec:∀ t x y b,rec_ t x y=some b->∀ w,(Op.equalIn d t x y).run P w = .ok b w){xs ys:Array Value}:∀ {fs:List Field} {b:Bool},eqFs rec_ P xs ys fs=some b->∀ w,(Op.eqFields d xs ys fs).run P w = .ok b w:=by
 intro fs
 induction fs with
 | nil=>intro b h w;simp[eqFs] at h;subst h;simp[Op.eqFields]
 | cons f fs ih =>
  intro b h w
  simp only[eqFs] at h
  split at h
  ·cases h
  ·rename_i hf
   split at h<;>try (cases h;done)
   rename_i u v hu hv
   split at h<;>try (cases h;done)
   rename_i r1 r2 h1 h2
   simp only[Option.some.injEq] at h
   subst h
   have e1:=run_partV hu w
   have e2:=run_partV hv w
   have e3:=hrec _ _ _ _ h1 w
   have e4:=ih h2 w
   cases r1<;>simp[Op.eqFields,hf,e1,e2,e3,e4]

theorem run_eqT {P:Program}:∀ (d:Nat) (t:TypeId) (x y:Value) (b:Bool),eqT P d t x y=some b->∀ w,(Op.equalIn d t x y).run P w = .ok b w:=by
 intro d
 induction d with
 | zero=>intro t x y b h;simp[eqT] at h
 | succ d ih =>
  intro t x y b h w
  unfold eqT at h
  split at h<;>try (cases h;done)
  ·rename_i k0 k a' k' b' hd
   split at h
   ·rename_i hk
    subst hk
    simp only[Option.some.injEq] at h
    subst h
    exact run_equalIn_int w d t k k0 a' b' hd
   ·cases h
  ·rename_i a' b' hd
   simp only[Option.some.injEq] at h
   subst h
   exact run_equalIn_bool' w d t a' b' hd
  ·rename_i fs xs ys hd
   split at h
   ·cases h
   ·rename_i hp
    have hfo:P.fieldsOf t=fs:=by simp[Program.fieldsOf,hd]
    rw[run_equalIn_struct w d t xs ys (by rw[hfo];exact hd) (by simpa using hp),hfo]
    exact run_eqFs ih h w

theorem run_eqTop {P:Program}{t:TypeId}{x y:Value}{b:Bool}(h:eqTop P t x y=some b)(w:World):(Op.equal t x y).run P w = .ok b w:=run_eqT Op.maxDepth t x y b h w

theorem binOp_eql_agg (t:TypeId)(xs ys:Array Value):binOp .eql t (.agg xs) (.agg ys)=(do pure (.bool (← Op.equal t (.agg xs) (.agg ys)))):=by simp only[binOp]
theorem binOp_neq_agg (t:TypeId)(xs ys:Array Value):binOp .neq t (.agg xs) (.agg ys)=(do pure (.bool (!(← Op.equal t (.agg xs) (.agg ys))))):=by simp only[binOp]

theorem run_equalIn_ptr_nil {P:Program}{t el:TypeId}(hd:P.underlying t=some (.pointer el))(d:Nat)(ad:Addr)(w:World):(Op.equalIn (d+1) t (.pointer (some ad)) (.pointer none)).run P w = .ok false w:=by
 simp[Op.equalIn,run_underlying hd]
theorem run_equalIn_nil_ptr {P:Program}{t el:TypeId}(hd:P.underlying t=some (.pointer el))(d:Nat)(ad:Addr)(w:World):(Op.equalIn (d+1) t (.pointer none) (.pointer (some ad))).run P w = .ok false w:=by
 simp[Op.equalIn,run_underlying hd]
theorem binOp_eql_ptr (t:TypeId)(p q:Option Addr):binOp .eql t (.pointer p) (.pointer q)=(do pure (.bool (← Op.equal t (.pointer p) (.pointer q)))):=by simp only[binOp]
theorem binOp_neq_ptr (t:TypeId)(p q:Option Addr):binOp .neq t (.pointer p) (.pointer q)=(do pure (.bool (!(← Op.equal t (.pointer p) (.pointer q))))):=by simp only[binOp]

theorem eqS_sound (h:Pre C T H σ φ a w){t:TypeId}{x y:Operand}{b:Bool}(he:eqS C t (opnd T x) (opnd T y)=some b) :
  ∀ w',(do eqGuard .eql t x y (a.eval x) (a.eval y);binOp .eql t (a.eval x) (a.eval y):Sem Value).run C.P w' = .ok (.bool b) w' ∧
   (do eqGuard .neq t x y (a.eval x) (a.eval y);binOp .neq t (a.eval x) (a.eval y):Sem Value).run C.P w' = .ok (.bool (!b)) w':=by
 intro w'
 have hx:=h.rel x
 have hy:=h.rel y
 unfold eqS at he
 split at he
 ·rename_i n k h1 h2
  split at he<;>try (cases he;done)
  rename_i el hd
  rw[h1] at hx;rw[h2] at hy
  simp only[Option.some.injEq] at he
  subst he
  obtain⟨b',_,e1⟩:=(show At.rel σ (.ptr n k) _ from hx)
  have e2:a.eval y = .pointer none:=hy
  rw[e1,e2]
  have hr:(Op.equal t (.pointer (some ⟨b',k,none⟩)) (.pointer none)).run C.P w' = .ok false w':=run_equalIn_ptr_nil hd 9999 _ w'
  constructor
  ·rw[eqGuard_at_pointer,binOp_eql_ptr,Sem.run_bind,Sem.run_pure,Result.andThen_ok,Sem.run_bind,hr];rfl
  ·rw[eqGuard_at_pointer,binOp_neq_ptr,Sem.run_bind,Sem.run_pure,Result.andThen_ok,Sem.run_bind,hr];rfl
 ·rename_i n k h1 h2
  split at he<;>try (cases he;done)
  rename_i el hd
  rw[h1] at hx;rw[h2] at hy
  simp only[Option.some.injEq] at he
  subst he
  obtain⟨b',_,e1⟩:=(show At.rel σ (.ptr n k) _ from hy)
  have e2:a.eval x = .pointer none:=hx
  rw[e1,e2]
  have hr:(Op.equal t (.pointer none) (.pointer (some ⟨b',k,none⟩))).run C.P w' = .ok false w':=run_equalIn_nil_ptr hd 9999 _ w'
  constructor
  ·rw[eqGuard_at_pointer,binOp_eql_ptr,Sem.run_bind,Sem.run_pure,Result.andThen_ok,Sem.run_bind,hr];rfl
  ·rw[eqGuard_at_pointer,binOp_neq_ptr,Sem.run_bind,Sem.run_pure,Result.andThen_ok,Sem.run_bind,hr];rfl
 ·rename_i l m h1 h2
  split at he<;>try (cases he;done)
  rename_i xs ys hxs hys
  split at he<;>try (cases he;done)
  rename_i hg
  rw[h1] at hx;rw[h2] at hy
  obtain⟨vs,e1,r1⟩:=hx
  obtain⟨us,e2,r2⟩:=hy
  rw[e1,e2,allVals_rel hxs r1,allVals_rel hys r2]
  have hr:=run_eqTop he w'
  have hg':C.P.eqGuardType C.P.depth t=false:=by simpa using hg
  constructor
  ·rw[Sem.run_bind,run_eqGuard_agg w' .eql t x y _ _ hg',Result.andThen_ok,binOp_eql_agg,Sem.run_bind,hr]
   rfl
  ·rw[Sem.run_bind,run_eqGuard_agg w' .neq t x y _ _ hg',Result.andThen_ok,binOp_neq_agg,Sem.run_bind,hr]
   rfl
 ·cases he

theorem q_binOp {op:BinOp}{t yt:TypeId}{x y:Operand}(h:Pre C T H σ φ a w)(ho:o.op = .binOp op t x y yt)(hps:∀ p∈ps,p)(hq:quietS C T H o=some (ps,s,H')):QOut C T H o σ φ a w s H':=by
 simp only[quietS,ho] at hq
 have hpure:∀ {u u' v:Value},valOf (opnd T x)=some u->valOf (opnd T y)=some u'->pureOp C T o=some v->QOut C T H o σ φ a w (lift v) H:=fun hu hu' hp =>
  QOut.pure_ h hp (execOp_bin ho (by rw[hu,h.val hu];rfl) (by rw[hu',h.val hu'];rfl))
 have heq:∀ {b:Bool} {l:List (Chunk C)},op = .eql->eqS C t (opnd T x) (opnd T y)=some b->QOut C T H o σ φ a w (vb b) H:=fun hop he =>
  QOut.same h.sat (.bool _) rfl (by simp[vb,SV.names,TV.names,At.names]) fun w' _=>by
   subst hop
   have e:execOp a.eval o=(do pure (.value (← (do eqGuard .eql t x y (a.eval x) (a.eval y);binOp .eql t (a.eval x) (a.eval y):Sem Value))):Sem Next):=by unfold execOp;rw[ho]
   rw[e,Sem.run_bind,(eqS_sound h he w').1];rfl
 have hneq:∀ {b:Bool} {l:List (Chunk C)},op = .neq->eqS C t (opnd T x) (opnd T y)=some b->QOut C T H o σ φ a w (vb (!b)) H:=fun hop he =>
  QOut.same h.sat (.bool _) rfl (by simp[vb,SV.names,TV.names,At.names]) fun w' _=>by
   subst hop
   have e:execOp a.eval o=(do pure (.value (← (do eqGuard .neq t x y (a.eval x) (a.eval y);binOp .neq t (a.eval x) (a.eval y):Sem Value))):Sem Next):=by unfold execOp;rw[ho]
   rw[e,Sem.run_bind,(eqS_sound h he w').2];rfl
 unfold binS at hq
 split at hq
 ·rename_i k n k' m hx hy
  split at hq<;>try (cases hq;done)
  rename_i hk
  subst hk
  split at hq
  ·simp only[Option.map_eq_some_iff,Prod.mk.injEq] at hq
   obtain⟨v,hp,_,rfl,rfl⟩:=hq
   exact hpure hx hy hp
  ·simp only[Option.some.injEq,Prod.mk.injEq] at hq
   obtain⟨rfl,rfl,rfl⟩:=hq
   have hm:m≠0:=hps _ (by simp)
   exact QOut.same h.sat _ rfl (by simp[vi,SV.names,TV.names,At.names]) fun w' _=>by simp[execOp,ho,h.val hx,h.val hy,eqGuard_quo,binOp_quo,Op.intDiv,hm]
 ·rename_i k n k' m hx hy
  split at hq<;>try (cases hq;done)
  rename_i hk
  subst hk
  split at hq
  ·simp only[Option.map_eq_some_iff,Prod.mk.injEq] at hq
   obtain⟨v,hp,_,rfl,rfl⟩:=hq
   exact hpure hx hy hp
  ·simp only[Option.some.injEq,Prod.mk.injEq] at hq
   obtain⟨rfl,rfl,rfl⟩:=hq
   have hm:m≠0:=hps _ (by simp)
   exact QOut.same h.sat _ rfl (by simp[vi,SV.names,TV.names,At.names]) fun w' _=>by simp[execOp,ho,h.val hx,h.val hy,eqGuard_rem,binOp_rem,Op.intDiv,hm]
 ·rename_i k n k' m hx hy
  split at hq
  ·simp only[Option.map_eq_some_iff,Prod.mk.injEq] at hq
   obtain⟨v,hp,_,rfl,rfl⟩:=hq
   exact hpure hx hy hp
  ·simp only[Option.some.injEq,Prod.mk.injEq] at hq
   obtain⟨rfl,rfl,rfl⟩:=hq
   have hm:0<=m:=hps _ (by simp)
   exact QOut.same h.sat _ rfl (by simp[vi,SV.names,TV.names,At.names]) fun w' _=>by simp[execOp,ho,h.val hx,h.val hy,eqGuard_shl,binOp_shl,Op.shift,show ¬ m<0 by omega]
 ·rename_i k n k' m hx hy
  split at hq
  ·simp only[Option.map_eq_some_iff,Prod.mk.injEq] at hq
   obtain⟨v,hp,_,rfl,rfl⟩:=hq
   exact hpure hx hy hp
  ·simp only[Option.some.injEq,Prod.mk.injEq] at hq
   obtain⟨rfl,rfl,rfl⟩:=hq
   have hm:0<=m:=hps _ (by simp)
   exact QOut.same h.sat _ rfl (by simp[vi,SV.names,TV.names,At.names]) fun w' _=>by simp[execOp,ho,h.val hx,h.val hy,eqGuard_shr,binOp_shr,Op.shift,show ¬ m<0 by omega]
 ·simp only[Option.map_eq_some_iff,Prod.mk.injEq] at hq
  obtain⟨v,hp,_,rfl,rfl⟩:=hq
  exact heq (l:=H) rfl hp
 ·simp only[Option.map_eq_some_iff,Prod.mk.injEq] at hq
  obtain⟨v,hp,_,rfl,rfl⟩:=hq
  exact hneq (l:=H) rfl hp
 ·rename_i u u' hx hy _ _ _ _ _ _
  simp only[Option.map_eq_some_iff,Prod.mk.injEq] at hq
  obtain⟨v,hp,_,rfl,rfl⟩:=hq
  exact hpure hx hy hp
 ·simp only[Option.map_eq_some_iff,Prod.mk.injEq] at hq
  obtain⟨v,hp,_,rfl,rfl⟩:=hq
  exact heq (l:=H) rfl hp
 ·simp only[Option.map_eq_some_iff,Prod.mk.injEq] at hq
  obtain⟨v,hp,_,rfl,rfl⟩:=hq
  exact hneq (l:=H) rfl hp
 ·cases hq

theorem quietS_sound (h:Pre C T H σ φ a w)(hps:∀ p∈ps,p)(hq:quietS C T H o=some (ps,s,H')):QOut C T H o σ φ a w s H':=by
 cases ho:o.op with
 | move x=>exact q_move h ho hq
 | assign x=>exact q_assign h ho hq
 | pick c x y=>exact q_pick h ho hq
 | nilCheck x=>exact q_nilCheck h ho hq
 | binOp op t x y yt=>exact q_binOp h ho hps hq
 | unOp op t x=>exact q_unOp h ho hq
 | convert t t' x=>exact q_convert h ho hq
 | load t x=>exact q_load h ho hps hq
 | fieldAddr t x f=>exact q_fieldAddr h ho hq
 | field t x f=>exact q_field h ho hq
 | index t x i=>exact q_index h ho hps hq
 | indexAddr t x i=>exact q_indexAddr h ho hps hq
 | slice t x lo hi mx=>exact q_slice h ho hps hq
 | extract x k=>exact q_extract h ho hq
 | lookup t x i ok=>exact q_lookup h ho hq
 | build t parts=>exact q_build h ho hq
 | makeFunc fn fs cs=>exact q_makeFunc h ho hq
 | call c=>exact q_call h ho hq
 | _=>simp[quietS,ho] at hq
end
end Go.Proofs.YtedfbafngmicpaaGreat.Sx
end
section
/- The symbolic run is sound: operations that make memory or write it. No program in sight. -/
namespace Go.Proofs.YtedfbafngmicpaaGreat.Sx
open Go

theorem append_block {P:Program}{w w':World}{t ty e:TypeId}{i:TypeInfo}{z:Value}{size bytes:Nat}(ht:P.underlying t=some (.slice e))(hi:P.info? e=some i)(hz:i.zero=some z)(hsize:i.size=size)(hby:i.bytes=bytes)(hsz:0<size){v v':Value}{n:Nat}{xs:List Value}(hown:w.ownsRow 0 e size v n xs){a:Addr}{m c:Nat}{news:List Value}(hl:news.length=m*size)(hnews:∀ (j:Nat) (u:Value),news[j]?=some u->w.cell? (a.add j)=some u)(h1:∀ u∈news,u.oneCell'=true)(h63:n+m<=maxLen)(hbytes:(n+m)*bytes<=140737488355328)(hr:(Builtin.append_ #[t,t] ty #[v,.slice (some a) m c]).run P w = .ok v' w') :
  ∀ k,v'.ownBlock=some k->v.ownBlock=some k∨w.heap.size<=k:=by
 subst hsize hby
 have hb63:n+m<=9223372036854775807:=by simp only[maxLen] at h63;omega
 intro k hk
 rcases hown.2 with ⟨rfl,rfl⟩|⟨g,cap,cur,rfl,_,hg,hnc,_,hcs,_⟩
 ·by_cases hm:m=0
  ·subst hm
   have hn:news=[]:=List.eq_nil_of_length_eq_zero (by simpa using hl)
   have e:(Builtin.append_ #[t,t] ty #[.slice none 0 0,.slice (some a) 0 c]).run P w = .ok (.slice none 0 0) w:=by
    simp[Builtin.append_,run_underlying ht,sizeOf,typeInfo,hi,Builtin.lenOf,Builtin.firstCells,loadCells,loadCellsFrom]
   rw[e] at hr
   injection hr with h2 _
   subst h2
   simp[Value.ownBlock] at hk
  ·have e:=run_append_nil (P:=P) w t ty e i z ht hi hz a m c news hl hnews (by omega) (by omega) (by have hb:=hbytes;simp only[Nat.zero_add] at hb;omega)
   rw[e] at hr
   injection hr with h2 _
   subst h2
   simp only[Value.ownBlock,Option.some.injEq] at hk
   exact .inr (by omega)
 ·by_cases hroom:n+m<=cap
  ·have hfit:n*i.size+news.length<=cur.size:=by rw[hl,hcs,← Nat.add_mul];exact Nat.mul_le_mul_right _ hroom
   have e:=run_append_room (P:=P) w t ty e i ht hi g n cap cur hg a m c news hl hnews h1 hroom hfit
   rw[e] at hr
   injection hr with h2 _
   subst h2
   exact .inl hk
  ·have holds:∀ (j:Nat) (u:Value),xs[j]?=some u->w.cell? ((⟨g,0,none⟩:Addr).add j)=some u:=hown.cells (g:=g) rfl
   have e:=run_append_grow (P:=P) w t ty e i z ht hi hz ⟨g,0,none⟩ n cap xs hown.1 holds a m c news hl hnews (by omega) (by omega) (growslice_fits (by omega) hbytes)
   rw[e] at hr
   injection hr with h2 _
   subst h2
   simp only[Value.ownBlock,Option.some.injEq] at hk
   exact .inr (by omega)

theorem splice_get {α:Type}{l m:List α}{p:Nat}(h:p+m.length<=l.length)(k:Nat):(splice l p m)[k]?=if p<=k/\k<p+m.length then m[k-p]? else l[k]?:=by
 unfold splice
 rcases Nat.lt_or_ge k p with h1|h1
 ·rw[List.getElem?_append_left (by simp;omega),List.getElem?_take,if_pos h1,if_neg (by omega)]
 ·rw[List.getElem?_append_right (by simp;omega)]
  have e:(l.take p).length=p:=by simp;omega
  rw[e]
  rcases Nat.lt_or_ge k (p+m.length) with h2|h2
  ·rw[List.getElem?_append_left (by omega),if_pos ⟨h1,h2⟩]
  ·rw[List.getElem?_append_right (by omega),if_neg (by omega),List.getElem?_drop]
   congr 1;omega

theorem splice_eq {α:Type}{l m:List α}{p:Nat}:splice l p m=l.take p++m++l.drop (p+m.length):=by simp[splice]

theorem splice_splice {α:Type}{l m k:List α}{p q:Nat}(h1:q+k.length<=m.length)(h2:p+m.length<=l.length)(hm:∀ j,j<m.length->l[p+j]?=m[j]?):splice l p (splice m q k)=splice l (p+q) k:=by
 apply List.ext_getElem?
 intro i
 have e1:=splice_get (l:=l) (m:=splice m q k) (p:=p) (by rw[splice_len h1];exact h2) i
 have e2:=splice_get (l:=l) (m:=k) (p:=p+q) (by omega) i
 rw[splice_len h1] at e1
 rw[e1,e2]
 by_cases c:p<=i/\i<p+m.length
 ·rw[if_pos c,splice_get h1]
  by_cases d:q<=i-p/\i-p<q+k.length
  ·rw[if_pos d,if_pos (by omega)]
   congr 1;omega
  ·rw[if_neg d,if_neg (by omega),← hm (i-p) (by omega)]
   congr 1;omega
 ·rw[if_neg c,if_neg (by omega)]

section
variable {C:Ctx}
variable {T:List SV} {H:List (Chunk C)} {o:Oper} {σ:Nat->Value} {φ:Nat->Nat->Prop} {a:Act} {w:World} {ps:List Prop} {s:SV} {H':List (Chunk C)}

theorem flat_len (hC:C.OK)(e:C.EC)(l:List (C.α e)):(flat C e l).length=l.length*C.sz e:=length_flat (hC.len e) l
theorem flat_at (hC:C.OK){e:C.EC}{l:List (C.α e)}{k:Nat}{x:C.α e}(hx:l[k]?=some x){j:Nat}(hj:j<C.sz e):(flat C e l)[k*C.sz e+j]?=(C.enc e x)[j]?:=by
 have hj':j<(C.enc e x).length:=by rw[hC.len];exact hj
 rw[List.getElem?_eq_getElem hj']
 exact flat_get (hC.len e) l k x hx j _ (List.getElem?_eq_getElem hj')

theorem flat_set (hC:C.OK){e:C.EC}{l:List (C.α e)}{k:Nat}(hk:k<l.length)(y:C.α e):flat C e (l.set k y)=splice (flat C e l) (k*C.sz e) (C.enc e y):=by
 have hp:=hC.pos e
 have hle:k*C.sz e+C.sz e<=l.length*C.sz e:=by rw[← Nat.succ_mul];exact Nat.mul_le_mul_right _ hk
 apply List.ext_getElem?
 intro i
 rw[splice_get (by rw[hC.len,flat_len hC];exact hle),hC.len]
 rcases Nat.lt_or_ge i (l.length*C.sz e) with hi|hi
 ·have hq:i / C.sz e<l.length:=Nat.div_lt_of_lt_mul (by rw[Nat.mul_comm];exact hi)
  have hr:i % C.sz e<C.sz e:=Nat.mod_lt _ hp
  have hd:i=i / C.sz e*C.sz e+i % C.sz e:=by rw[Nat.mul_comm];exact (Nat.div_add_mod i (C.sz e)).symm
  have e1:=flat_at hC (l:=l) (List.getElem?_eq_getElem hq) hr
  have hq':i / C.sz e<(l.set k y).length:=by simpa using hq
  have e2:=flat_at hC (l:=l.set k y) (List.getElem?_eq_getElem hq') hr
  rw[← hd] at e1 e2
  rw[e1,e2]
  by_cases c:k=i / C.sz e
  ·rw[if_pos (by rw[c];omega)]
   simp only[List.getElem_set,c,if_true]
   congr 1
   omega
  ·rw[if_neg ?_]
   ·simp[c]
   ·intro hh
    apply c
    have:i / C.sz e=k:=by
     apply Nat.div_eq_of_lt_le
     ·exact hh.1
     ·rw[Nat.succ_mul];exact hh.2
    exact this.symm
 ·rw[List.getElem?_eq_none (by rw[flat_len hC];simpa using hi),if_neg (by omega),List.getElem?_eq_none (by rw[flat_len hC];exact hi)]

theorem flat_one (hC:C.OK)(e:C.EC)(l:List (C.α e)):∀ u∈flat C e l,u.oneCell'=true:=fun u hu=>by
 obtain⟨x,_,hx⟩:=List.mem_flatMap.1 hu
 exact hC.one e x u hx

theorem made_flat (hC:C.OK){e:C.EC}{z:Value}(hz:z.cells.toList=C.enc e (C.dft e))(n:Nat):(madeCells z.cells (n*C.sz e)).toList=flat C e (List.replicate n (C.dft e)):=by
 have hp:=hC.pos e
 have hzs:z.cells.size=C.sz e:=by rw[← Array.length_toList,hz,hC.len]
 apply List.ext_getElem?
 intro i
 rcases Nat.lt_or_ge i (n*C.sz e) with hi|hi
 ·have hq:i / C.sz e<n:=Nat.div_lt_of_lt_mul (by rw[Nat.mul_comm];exact hi)
  have hr:i % C.sz e<C.sz e:=Nat.mod_lt _ hp
  have hd:i=i / C.sz e*C.sz e+i % C.sz e:=by rw[Nat.mul_comm];exact (Nat.div_add_mod i (C.sz e)).symm
  have e1:=flat_at hC (l:=List.replicate n (C.dft e)) (k:=i / C.sz e) (x:=C.dft e) (by simp[hq]) hr
  rw[← hd] at e1
  rw[e1,← hz]
  have hlt:i % C.sz e<z.cells.size:=by omega
  simp[madeCells,hi,hzs]
  rw[getElem!_pos z.cells _ hlt,Array.getElem?_eq_getElem hlt]
 ·rw[List.getElem?_eq_none (by simp[madeCells];exact hi),List.getElem?_eq_none (by rw[flat_len hC];simpa using hi)]

theorem dcdN_sound (hC:C.OK){e:C.EC}:∀ (n:Nat) (vs:List Value) {xs:List (C.α e)},dcdN C e n vs=some xs->vs.length=n*C.sz e->flat C e xs=vs/\xs.length=n:=by
 intro n
 induction n with
 | zero=>intro vs xs h hl;simp[dcdN] at h;subst h;exact⟨(List.eq_nil_of_length_eq_zero (by simpa using hl)).symm,rfl⟩
 | succ n ih =>
  intro vs xs h hl
  simp only[dcdN] at h
  split at h<;>try (cases h;done)
  rename_i x xs' h1 h2
  simp only[Option.some.injEq] at h
  subst h
  obtain⟨e1,e2⟩:=ih _ h2 (by rw[List.length_drop,hl,Nat.succ_mul];omega)
  refine⟨?_,by simp[e2]⟩
  have:=hC.dcd e _ _ h1
  show C.enc e x++flat C e xs'=vs
  rw[this,e1,List.take_append_drop]

structure EOut (C:Ctx) (H:List (Chunk C)) (σ:Nat->Value) (φ:Nat->Nat->Prop) (a:Act) (w:World) (ts:List Nat) (T':List SV) (H':List (Chunk C)) (σ':Nat->Value) (φ':Nat->Nat->Prop) (a':Act) (w':World):Prop where
 tm:Rels (SV.rel σ') T' a'.tmps.toList
 tcl:∀ s∈T',∀ m∈s.names,m<H'.length
 sat:Sat C σ' φ' w' H'
 adv:Adv φ w φ' w'
 len:H.length<=H'.length
 dfs:a'.defers=a.defers
 agree:∀ n,n<H.length->isOwn H n=false->σ' n=σ n
 own:∀ n,n<H.length->isOwn H' n=true->isOwn H n=true
 touch:∀ n,n<H.length->n∉ts->(∀ b,Rdb H' σ' n b↔Rdb H σ n b)/\∀ b,Rdb H σ n b->b<w.heap.size->w'.heap[b]?=w.heap[b]?
 still:∀ n,n<H.length->n∉ts->σ' n=σ n

theorem put_rel (h:Rels (SV.rel σ) T a.tmps.toList){v:Value}(hs:s.rel σ v)(dst:Option Nat):Rels (SV.rel σ) (setT T dst s) (a.put dst v).tmps.toList:=by
 cases dst with
 | none=>exact h
 | some d =>
  simp only[setT,Act.put,Array.toList_setIfInBounds]
  exact h.set d hs

theorem setT_mem {x:SV}{dst:Option Nat}(h:x∈setT T dst s):x∈T∨x=s:=by
 cases dst with
 | none=>exact .inl h
 | some d=>exact List.mem_or_eq_of_mem_set h

theorem rel_agree {σ':Nat->Value}(h:Rels (SV.rel σ) T a.tmps.toList)(hcl:∀ s∈T,∀ m∈s.names,m<H.length)(hag:∀ n,n<H.length->σ' n=σ n):Rels (SV.rel σ') T a.tmps.toList :=
 h.mono fun x _ hx hr=>SV.rel_of hr fun m hm=>hag m (hcl x hx m hm)

theorem put_defers (dst:Option Nat)(v:Value):(a.put dst v).defers=a.defers:=by cases dst<;>rfl

theorem new_sound (hC:C.OK)(h:Pre C T H σ φ a w){σ1:Nat->Value}{φ1:Nat->Nat->Prop}{H1:List (Chunk C)}(g:Grows C σ φ H σ1 φ1 H1 w)(c:Chunk C)(v:Value)(at_:At)(o':Obj)(dst:Option Nat)(hc:∀ σ':Nat->Value,(∀ n∈c.names,σ' n=σ1 n)->Holds (w.alloc o') σ' v (fun b=>b=w.heap.size) c)(hnm:∀ n∈c.names,n<H1.length)(hrow:∀ b,Ro (w.alloc o') v b c->(∀ m,¬ φ1 m b)/\b≠w.heap.size)(hat:∀ σ':Nat->Value,σ' H1.length=v->at_.rel σ' v)(hatn:∀ m∈at_.names,m=H1.length) :
  EOut C H σ φ a w [] (setT T dst (.one (.at at_))) (H1++[c]) (fun k=>if k=H1.length then v else σ1 k) (fun k=>if k=H1.length then (fun b=>b=w.heap.size) else φ1 k) (a.put dst v) (w.alloc o'):=by
 have hag:∀ n,n<H.length->(if n=H1.length then v else σ1 n)=σ n:=fun n hn=>by
  rw[if_neg (by have:=g.len;omega)];exact g.agree n hn
 have hsat:Sat C (fun k=>if k=H1.length then v else σ1 k) (fun k=>if k=H1.length then (fun b=>b=w.heap.size) else φ1 k) (w.alloc o') (H1++[c]) :=
  g.sat.new hC c v (fun b=>b=w.heap.size) (by simp) (fun k hk=>heap_alloc_old w o' hk)
   (fun n hn=>hc _ fun m hm=>by
    have:¬ m=n:=fun e=>hn (e ▸ hm)
    simp[this]) hnm (fun b hb=>by subst hb;simp) hrow
 refine⟨put_rel (rel_agree h.tm h.tcl hag) (show SV.rel _ (.one (.at at_)) v from hat _ (by simp)) dst,fun x hx m hm=>?_,hsat,⟨rfl,rfl,rfl,by simp,fun k hk _=>heap_alloc_old w o' hk,fun n b hb=>?_⟩,by have:=g.len;simp;omega,put_defers _ _,fun n hn _=>hag n hn,fun n hn ho=>?_,fun n hn _=>⟨fun b=>?_,fun b _ hlt=>heap_alloc_old w o' hlt⟩,fun n hn _=>hag n hn⟩
 ·have:=g.len
  rcases setT_mem hx with hx|rfl
  ·have:=h.tcl x hx m hm;simp;omega
  ·have:=hatn m hm;simp;omega
 ·by_cases e:n=H1.length
  ·subst e
   simp only[if_true] at hb
   exact .inr (by omega)
  ·simp only[if_neg e] at hb
   exact .inl ⟨n,g.sub n b hb⟩
 ·rw[isOwn_append (by have:=g.len;omega)] at ho
  exact g.own n hn ho
 ·rw[← g.rdb n hn b]
  have hn1:n<H1.length:=by have:=g.len;omega
  have hne:n≠H1.length:=by omega
  unfold Rdb
  simp[hne,List.getElem?_append_left hn1]

theorem wp_value {P:Program}{v:Value}{w':World}{K:Act->World->Prop}{Q:Exit->Act->World->Prop}(hr:(execOp a.eval o).run P w = .ok (.value v) w')(h:K (a.put o.dst v) w'):o.wp P a w K Q:=by
 unfold Oper.wp
 rw[hr]
 exact h
theorem wp_skip_ {P:Program}{w':World}{K:Act->World->Prop}{Q:Exit->Act->World->Prop}(hr:(execOp a.eval o).run P w = .ok .skip w')(h:K (a.put o.dst undef) w'):o.wp P a w K Q:=by
 unfold Oper.wp
 rw[hr]
 exact h

abbrev EK (C:Ctx):=List Nat->List SV->List (Chunk C)->Prop
variable {K:EK C} {Γ:List (FuncId × Tfm C)} {trunc:Nat->Bool} {Q:Exit->Act->World->Prop}

def After (C:Ctx)(H:List (Chunk C))(σ:Nat->Value)(φ:Nat->Nat->Prop)(a:Act)(w:World)(K:EK C)(a':Act)(w':World):Prop :=
 ∃ ts T' H' σ' φ',EOut C H σ φ a w ts T' H' σ' φ' a' w'/\K ts T' H'

theorem e_alloc {t:TypeId}(h:Pre C T H σ φ a w)(ho:o.op = .alloc t)(he:effS C Γ trunc T H o K):o.wp C.P a w (After C H σ φ a w K) Q:=by
 simp only[effS,ho] at he
 split at he<;>try (exact he.elim)
 rename_i z hz
 obtain⟨i,v,hi,hiz,rfl⟩:=zeroS_sound h.ok hz
 obtain⟨σ1,φ1,g,r,n⟩:=nilCells_sound h.ok (v.cells.toList.map .val) (cellTs C.P 20 t) h.sat (rels_vals _) (fun c hc m hm=>by
  obtain⟨u,_,rfl⟩:=List.mem_map.1 hc
  simp[At.names] at hm)
 refine wp_value (v:=.pointer (some ⟨w.heap.size,0,none⟩)) (w':=w.alloc (.cells v.cells t)) ?_ ⟨_,_,_,_,_,new_sound h.ok h g _ (.pointer (some ⟨w.heap.size,0,none⟩)) (.ptr _ 0) _ o.dst (fun σ' hs=>?_) (fun m hm=>?_) (fun _ e=>(Ro.box e).elim) (fun σ' hs=>⟨w.heap.size,hs,rfl⟩) (fun m hm=>?_),he⟩
 ·simp[execOp,ho,Instr.alloc,zeroValue,typeInfo,hi,hiz,newVar,newRow]
 ·refine⟨w.heap.size,t,v.cells,rfl,fun _=>Iff.rfl,heap_alloc_new w _,r.mono fun x u hx hr=>At.rel_of hr fun m hm=>hs m (List.mem_flatMap.2 ⟨x,hx,hm⟩)⟩
 ·obtain⟨x,hx,hm⟩:=List.mem_flatMap.1 hm
  exact n x hx m hm
 ·simpa [At.names] using hm

theorem e_box {t:TypeId}{x:Operand}(h:Pre C T H σ φ a w)(ho:o.op = .box t x)(he:effS C Γ trunc T H o K):o.wp C.P a w (After C H σ φ a w K) Q:=by
 simp only[effS,ho] at he
 split at he<;>try (exact he.elim)
 rename_i cs hcs
 obtain⟨r,n⟩:=svCells_sound h.ok h.sat hcs (h.rel x)
 have nx:=h.nm x
 refine wp_value (v:=.pointer (some ⟨w.heap.size,0,none⟩)) (w':=w.alloc (.cells (a.eval x).cells t)) ?_ ⟨_,_,_,_,_,new_sound h.ok h (Grows.refl h.sat) _ (.pointer (some ⟨w.heap.size,0,none⟩)) (.ptr _ 0) _ o.dst (fun σ' hs=>?_) (fun m hm=>?_) (fun _ e=>(Ro.box e).elim) (fun σ' hs=>⟨w.heap.size,hs,rfl⟩) (fun m hm=>?_),he⟩
 ·simp[execOp,ho,Instr.box,newVar,newRow]
 ·refine⟨w.heap.size,t,(a.eval x).cells,rfl,fun _=>Iff.rfl,heap_alloc_new w _,r.mono fun y u hy hr=>At.rel_of hr fun m hm=>hs m (List.mem_flatMap.2 ⟨y,hy,hm⟩)⟩
 ·obtain⟨y,hy,hm⟩:=List.mem_flatMap.1 hm
  exact nx m (n y hy m hm)
 ·simpa [At.names] using hm
end
end Go.Proofs.YtedfbafngmicpaaGreat.Sx
end
section
/- The symbolic run is sound: stores, new rows, appends. No program in sight. -/
namespace Go.Proofs.YtedfbafngmicpaaGreat.Sx
open Go

section
variable {C:Ctx}
variable {T:List SV} {H:List (Chunk C)} {o:Oper} {σ:Nat->Value} {φ:Nat->Nat->Prop} {a:Act} {w:World} {ps:List Prop} {s:SV} {H':List (Chunk C)}
variable {K:EK C} {Γ:List (FuncId × Tfm C)} {trunc:Nat->Bool} {Q:Exit->Act->World->Prop}

theorem At.kill_rel {n:Nat}{x:At}{v:Value}(h:x.rel σ v):(x.kill n).rel σ v:=by
 unfold At.kill
 split
 ·trivial
 ·exact h
theorem At.kill_names {n:Nat}{x:At}:∀ m∈(x.kill n).names,m∈x.names/\m≠n:=by
 unfold At.kill
 split
 ·intro m hm;simp[At.names] at hm
 ·rename_i hn
  intro m hm
  refine⟨hm,fun e=>hn ?_⟩
  subst e
  simpa using hm
theorem rels_kill {n:Nat}{l:List At}{vs:List Value}(h:Rels (At.rel σ) l vs):Rels (At.rel σ) (l.map (At.kill n)) vs :=
 ⟨by simp[h.1],fun i x v hx hv=>by
  rw[List.getElem?_map] at hx
  cases hl:l[i]? with
  | none=>rw[hl] at hx;cases hx
  | some y=>rw[hl] at hx;simp at hx;subst hx;exact At.kill_rel (h.2 i y v hl hv)⟩
theorem TV.kill_rel {n:Nat}{x:TV}{v:Value}(h:x.rel σ v):(x.kill n).rel σ v:=by
 cases x with
 | «at» y=>exact At.kill_rel h
 | agg l=>obtain⟨cs,e,hr⟩:=h;exact⟨cs,e,rels_kill hr⟩
theorem TV.kill_names {n:Nat}{x:TV}:∀ m∈(x.kill n).names,m∈x.names/\m≠n:=by
 cases x with
 | «at» y=>exact At.kill_names
 | agg l =>
  intro m hm
  simp only[TV.kill,TV.names,List.mem_flatMap,List.mem_map] at hm
  obtain⟨_,⟨y,hy,rfl⟩,hm⟩:=hm
  have:=At.kill_names m hm
  exact⟨List.mem_flatMap.2 ⟨y,hy,this.1⟩,this.2⟩
theorem SV.kill_rel {n:Nat}{x:SV}{v:Value}(h:x.rel σ v):(x.kill n).rel σ v:=by
 cases x with
 | one y=>exact TV.kill_rel h
 | tup l =>
  obtain⟨vs,e,hr⟩:=h
  refine⟨vs,e,by simp[hr.1],fun i x v hx hv=>?_⟩
  rw[List.getElem?_map] at hx
  cases hl:l[i]? with
  | none=>rw[hl] at hx;cases hx
  | some y=>rw[hl] at hx;simp at hx;subst hx;exact TV.kill_rel (hr.2 i y v hl hv)
theorem SV.kill_names {n:Nat}{x:SV}:∀ m∈(x.kill n).names,m∈x.names/\m≠n:=by
 cases x with
 | one y=>exact TV.kill_names
 | tup l =>
  intro m hm
  simp only[SV.kill,SV.names,List.mem_flatMap,List.mem_map] at hm
  obtain⟨_,⟨y,hy,rfl⟩,hm⟩:=hm
  have:=TV.kill_names m hm
  exact⟨List.mem_flatMap.2 ⟨y,hy,this.1⟩,this.2⟩
theorem rels_killS {n:Nat}{vs:List Value}(h:Rels (SV.rel σ) T vs):Rels (SV.rel σ) (T.map (SV.kill n)) vs :=
 ⟨by simp[h.1],fun i x v hx hv=>by
  rw[List.getElem?_map] at hx
  cases hl:T[i]? with
  | none=>rw[hl] at hx;cases hx
  | some y=>rw[hl] at hx;simp at hx;subst hx;exact SV.kill_rel (h.2 i y v hl hv)⟩

theorem Chunk.kill_names {n:Nat}{c:Chunk C}:∀ m∈(c.kill n).names,m∈c.names/\m≠n:=by
 cases c with
 | box cells =>
  intro m hm
  simp only[Chunk.kill,Chunk.names,List.mem_flatMap,List.mem_map] at hm
  obtain⟨_,⟨y,hy,rfl⟩,hm⟩:=hm
  have:=At.kill_names m hm
  exact⟨List.mem_flatMap.2 ⟨y,hy,this.1⟩,this.2⟩
 | _=>intro m hm;simp[Chunk.kill,Chunk.names] at hm

theorem Holds.kill {n:Nat}{v:Value}{f:Nat->Prop}{c:Chunk C}(h:Holds w σ v f c):Holds w σ v f (c.kill n):=by
 match c with
 | .gone=>exact h
 | .box cells=>obtain⟨b,t,cs,h1,h2,h3,h4⟩:=h;exact⟨b,t,cs,h1,h2,h3,rels_kill h4⟩
 | .row true e l=>exact h
 | .row false e l=>exact h
 | .abs x=>exact h
 | .map kk vk l=>exact h
 | .arr _ _=>exact h
 | .rows _ _ _=>exact h

theorem kill_get {n k:Nat}{c:Chunk C}(h:(H.map (Chunk.kill n))[k]?=some c):∃ d,H[k]?=some d/\c=d.kill n:=by
 rw[List.getElem?_map] at h
 cases hl:H[k]? with
 | none=>rw[hl] at h;cases h
 | some d =>
  rw[hl] at h
  exact⟨d,rfl,(Option.some.inj h).symm⟩

theorem isOwn_kill {n k:Nat}:isOwn (H.map (Chunk.kill n)) k=isOwn H k:=by
 simp only[isOwn,List.getElem?_map]
 cases H[k]? with
 | none=>rfl
 | some c =>
  cases c with
  | row own e l=>cases own<;>rfl
  | _=>rfl

theorem Sat.kill (h:Sat C σ φ w H)(n:Nat):Sat C σ φ w (H.map (Chunk.kill n)) where
 holds k c hc:=by
  rw[List.getElem?_map] at hc
  cases hl:H[k]? with
  | none=>rw[hl] at hc;cases hc
  | some d=>rw[hl] at hc;simp at hc;subst hc;exact (h.holds k d hl).kill
 dis:=h.dis
 bd:=h.bd
 imm k c hk b hb:=by
  obtain⟨d,hd,rfl⟩:=kill_get hk
  exact h.imm k d hd b (by cases d<;>exact hb)
 out k hk:=h.out k (by simpa using hk)
 cl k c hc m hm:=by
  rw[List.getElem?_map] at hc
  cases hl:H[k]? with
  | none=>rw[hl] at hc;cases hc
  | some d =>
   rw[hl] at hc;simp at hc;subst hc
   simpa using h.cl k d hl m (Chunk.kill_names m hm).1

theorem rdb_apart (h:Sat C σ φ w H){k n b:Nat}(hb:Rdb H σ k b)(hφ:φ n b):k=n:=by
 rcases hb with ⟨hb,cells,hl⟩|⟨hb,own,e,l,hl,hpos⟩|⟨hb,kk,vk,l,hl⟩|⟨hb,hh,e,ll,hl,hpos⟩|⟨hb,kk,l,hl⟩
 ·obtain⟨b',t,cs,h1,h2,_⟩:=h.holds k _ hl
  rw[hb] at h1
  obtain rfl:b=b':=by simpa using h1
  exact h.dis k n b ((h2 b).2 rfl) hφ
 ·have hh:=h.holds k _ hl
  cases own with
  | true=>exact h.dis k n b ((hh.2 b).2 hb) hφ
  | false=>exact absurd hφ (h.immr k e l hl hpos b hb n)
 ·obtain⟨b',es,ck,h1,h2,_⟩:=h.holds k _ hl
  rw[hb] at h1
  obtain rfl:b=b':=by simpa using h1
  exact h.dis k n b ((h2 b).2 rfl) hφ
 ·obtain⟨_,_,h3⟩:=h.holds k _ hl
  exact h.dis k n b ((h3 b).2 hb) hφ
 ·obtain⟨b',t,cs,h1,h2,_⟩:=h.holds k _ hl
  rw[hb] at h1
  obtain rfl:b=b':=by simpa using h1
  exact h.dis k n b ((h2 b).2 rfl) hφ

theorem upd_sound (hC:C.OK)(h:Pre C T H σ φ a w){n:Nat}(hn:n<H.length)(c:Chunk C){w':World}(dst:Option Nat)(hsz:w'.heap.size=w.heap.size)(hos:w'.os=w.os)(htp:w'.tape=w.tape)(hop:w'.output=w.output)(hfr:∀ k,¬ φ n k->w'.heap[k]?=w.heap[k]?)(hc:Holds w' σ (σ n) (φ n) c)(hnm:∀ m∈c.names,m<H.length)(hrow:∀ b,¬ Ro w' (σ n) b c)(hown:isOwn (H.set n c) n=true->isOwn H n=true) :
  EOut C H σ φ a w [n] (setT T dst (.one (.at .any))) (H.set n c) σ φ (a.put dst undef) w' where
 tm:=put_rel h.tm (s:=.one (.at .any)) trivial dst
 tcl x hx m hm:=by
  rcases setT_mem hx with hx|rfl
  ·simpa using h.tcl x hx m hm
  ·simp[SV.names,TV.names,At.names] at hm
 sat:=by
  refine h.sat.step hC (fun k=>k=n) (by omega) (fun k _ hk=>hfr k (hk n rfl)) (fun k hk=>?_) (fun _ _ _ _ _ _=>rfl) (fun k d hk hd=>?_) (fun k b hk hb=>.inl ⟨n,rfl,by have:k=n:=hk;subst this;exact hb⟩) (fun k m b hk hm _ _=>hk.trans hm.symm)
   (fun k b _ hb=>by have:=h.sat.bd k b hb;omega) (fun k e hk hd b hb m hm=>?_) (fun k hk b=>h.sat.out k (by simpa using hk) b) (by simp) (fun k d hk hd m hm=>?_)
  ·have:¬ k=n:=hk
   exact⟨by rw[List.getElem?_set_ne (Ne.symm this)],rfl,fun _=>Iff.rfl⟩
  ·have hk':k=n:=hk
   subst hk'
   rw[List.getElem?_set_self hn] at hd
   simp only[Option.some.injEq] at hd
   subst hd
   exact hc
  ·have hk':k=n:=hk
   subst hk'
   rw[List.getElem?_set_self hn] at hd
   simp only[Option.some.injEq] at hd
   subst hd
   exact hrow b hb
  ·have hk':k=n:=hk
   subst hk'
   rw[List.getElem?_set_self hn] at hd
   simp only[Option.some.injEq] at hd
   subst hd
   simpa using hnm m hm
 adv:=⟨hos,htp,hop,by omega,fun k _ hk=>hfr k (hk n),fun k b hb=>.inl ⟨k,hb⟩⟩
 len:=by simp
 dfs:=put_defers _ _
 agree _ _ _:=rfl
 still _ _ _:=rfl
 own k hk ho:=by
  by_cases e:k=n
  ·subst e;exact hown ho
  ·simpa [isOwn,List.getElem?_set_ne (Ne.symm e)] using ho
 touch k hk hkn:=by
  have hne:k≠n:=fun e=>hkn (by simp[e])
  refine⟨fun b=>?_,fun b hb hlt=>hfr b fun hφ=>?_⟩
  ·unfold Rdb
   simp[List.getElem?_set_ne (Ne.symm hne)]
  ·exact hne (rdb_apart h.sat hb hφ)

theorem all_ok (hC:C.OK)(hs:Sat C σ φ w H){l:List At}{vs:List Value}(hr:Rels (At.rel σ) l vs)(h:l.all (okAt H)=true):∀ v∈vs,v.oneCell'=true:=by
 intro v hv
 obtain⟨i,hi,rfl⟩:=List.mem_iff_getElem.1 hv
 have hil:i<l.length:=by rw[hr.1];exact hi
 exact okAt_one hC hs (List.all_eq_true.1 h _ (List.getElem_mem hil)) (hr.2 i _ _ (List.getElem?_eq_getElem hil) (List.getElem?_eq_getElem hi))

theorem run_storeAt {P:Program}{t t':TypeId}{i:TypeInfo}{b off:Nat}{cur:Array Value}{v:Value}{fz:Nat × Nat}(hi:P.info? t=some i)(hsz:v.cells.size=i.size)(hb:w.heap[b]?=some (.cells cur t' fz))(hfz:fz=(0,0)∨cur.size<=fz.1)(hle:off+v.cells.toList.length<=cur.size)(h1:∀ u∈v.cells.toList,u.oneCell'=true):(Instr.storeAt t (.pointer (some ⟨b,off,none⟩)) v).run P w = .ok () (w.setRow b (splice cur.toList off v.cells.toList).toArray):=by
 have h:=storeCells_R P b off t' fz v.cells.toList 0 cur w hb hfz (by simpa using hle) h1
 rw[Nat.add_zero] at h
 simp only[Instr.storeAt,Instr.sureAddr,storeVar,Sem.run_bind,Sem.run_pure,Result.andThen_ok,run_sizeOf hi]
 rw[if_neg (by simpa using hsz),h,splice_eq]

theorem e_store {t:TypeId}{x y:Operand}(h:Pre C T H σ φ a w)(ho:o.op = .store t x y)(he:effS C Γ trunc T H o K):o.wp C.P a w (After C H σ φ a w K) Q:=by
 have hx:=h.rel x
 have hy:=h.rel y
 have ny:=h.nm y
 simp only[effS,ho] at he
 split at he<;>try (exact he.elim)
 ·rename_i n off vs i hcx hcs hi
  rw[hcx] at hx
  split at he<;>try (exact he.elim)
  case h_2 =>
   rename_i k l hH
   split at he<;>try (exact he.elim)
   case h_3 =>
    split at he<;>try (exact he.elim)
    rename_i hcond
    obtain⟨hl,hok⟩:=hcond
    obtain⟨h0,hll,he⟩:=he
    have h0:off=0:=by omega
    have hll:l.length=vs.length:=by omega
    obtain⟨r,nn⟩:=svCells_sound h.ok h.sat hcs hy
    have hn:n<H.length:=(List.getElem?_eq_some_iff.1 hH).1
    obtain⟨b,h1,h2⟩:=(show At.rel σ (.ptr n off) _ from hx)
    obtain⟨b',t',cs,h3,h4,h5,h6⟩:=h.sat.holds n _ hH
    rw[h1] at h3
    obtain rfl:b=b':=by simpa using h3
    subst h0
    have hvs:(a.eval y).cells.toList.length=vs.length:=r.1.symm
    have hcl:cs.size=l.length:=by rw[← Array.length_toList,h6,List.length_map]
    have hrun:=run_storeAt (w:=w) (P:=C.P) (v:=a.eval y) (t':=t') (t:=t) (off:=0) hi (by rw[← Array.length_toList,hvs,hl]) h5 (.inl rfl) (by rw[hvs,hcl,hll];omega) (all_ok h.ok h.sat r hok)
    refine wp_skip_ (w':=w.setRow b (splice cs.toList 0 (a.eval y).cells.toList).toArray) (by simp[execOp,ho,h2,hrun]) ⟨_,_,_,_,_,upd_sound h.ok h hn (.box vs) o.dst (by simp) rfl rfl rfl (fun k hk=>setRow_other w b k _ fun e=>hk ((h4 k).2 e)) ?_ (fun m hm=>?_) (fun _ e=>Ro.box e) (fun ho=>by simp[isOwn,List.getElem?_set_self hn] at ho),he⟩
    ·refine⟨b,t',_,h1,h4,setRow_heap w b cs _ t' _ h5,?_⟩
     have:splice cs.toList 0 (a.eval y).cells.toList=(a.eval y).cells.toList:=by
      unfold splice
      rw[List.take_zero,List.nil_append,List.drop_eq_nil_of_le (by rw[Array.length_toList,hvs,hcl,hll];omega),List.append_nil]
     simpa [this] using r
    ·obtain⟨c,hc,hm⟩:=List.mem_flatMap.1 hm
     exact ny m (nn c hc m hm)
   rename_i k' z
   split at he<;>try (exact he.elim)
   rename_i hcond
   obtain⟨rfl,hsz⟩:=hcond
   obtain⟨hlt,he⟩:=he
   obtain⟨r,nn⟩:=svCells_sound h.ok h.sat hcs hy
   have hev:(a.eval y).cells.toList=[.int k' z]:=allVals_rel (cs:=[.int k' z]) rfl r
   have hn:n<H.length:=(List.getElem?_eq_some_iff.1 hH).1
   obtain⟨b,h1,h2⟩:=(show At.rel σ (.ptr n off) _ from hx)
   obtain⟨b',t',cs,h3,h4,h5,h6⟩:=h.sat.holds n _ hH
   rw[h1] at h3
   obtain rfl:b=b':=by simpa using h3
   have hcl:cs.size=l.length:=by rw[← Array.length_toList,h6,List.length_map]
   have hrun:=run_storeAt (w:=w) (P:=C.P) (v:=a.eval y) (t':=t') (t:=t) hi (by rw[← Array.length_toList,hev,hsz];rfl) h5 (.inl rfl) (by rw[hev,hcl];exact hlt) (by rw[hev];intro u hu;rw[List.mem_singleton.1 hu];rfl)
   refine wp_skip_ (w':=w.setRow b (splice cs.toList off (a.eval y).cells.toList).toArray) (by simp[execOp,ho,h2,hrun]) ⟨_,_,_,_,_,upd_sound h.ok h hn (.arr k' (l.set off z)) o.dst (by simp) rfl rfl rfl (fun k hk=>setRow_other w b k _ fun e=>hk ((h4 k).2 e)) ?_ (fun m hm=>by simp[Chunk.names] at hm) (fun _ e=>Ro.arr e) (fun ho=>by simp[isOwn,List.getElem?_set_self hn] at ho),he⟩
   refine⟨b,t',_,h1,h4,setRow_heap w b cs _ t' _ h5,?_⟩
   rw[hev,h6]
   show splice (l.map (Value.int k')) off [.int k' z]=_
   apply List.ext_getElem?
   intro j
   rw[splice_get (by rw[List.length_map];exact hlt),List.getElem?_map,List.getElem?_map,List.getElem?_set]
   by_cases c:off=j
   ·subst c
    rw[if_pos (by simp),if_pos rfl,if_pos hlt];simp
   ·rw[if_neg (by simp;omega),if_neg c]
  rename_i cells hH
  split at he<;>try (exact he.elim)
  rename_i hcond
  obtain⟨hl,hle,hok⟩:=hcond
  obtain⟨r,nn⟩:=svCells_sound h.ok h.sat hcs hy
  have hn:n<H.length:=(List.getElem?_eq_some_iff.1 hH).1
  obtain⟨b,h1,h2⟩:=(show At.rel σ (.ptr n off) _ from hx)
  obtain⟨b',t',cs,h3,h4,h5,h6⟩:=h.sat.holds n _ hH
  rw[h1] at h3
  obtain rfl:b=b':=by simpa using h3
  have hvs:(a.eval y).cells.toList.length=vs.length:=r.1.symm
  have hcl:cells.length=cs.size:=by rw[h6.1];simp
  have hrun:=run_storeAt (w:=w) (P:=C.P) (v:=a.eval y) (t':=t') hi (by rw[← Array.length_toList,hvs,hl]) h5 (.inl rfl) (by rw[hvs,← hcl];exact hle) (all_ok h.ok h.sat r hok)
  refine wp_skip_ (w':=w.setRow b (splice cs.toList off (a.eval y).cells.toList).toArray) (by simp[execOp,ho,h2,hrun]) ⟨_,_,_,_,_,upd_sound h.ok h hn (.box (splice cells off vs)) o.dst (by simp) rfl rfl rfl (fun k hk=>setRow_other w b k _ fun e=>hk ((h4 k).2 e)) ?_ (fun m hm=>?_) (fun _ e=>Ro.box e) (fun ho=>?_),he⟩
  ·refine⟨b,t',_,h1,h4,setRow_heap w b cs _ t' _ h5,?_⟩
   simpa using splice_rels h6 r off
  ·obtain⟨c,hc,hm⟩:=List.mem_flatMap.1 hm
   simp only[splice,List.mem_append] at hc
   rcases hc with hc|hc|hc
   ·exact h.sat.cl n _ hH m (List.mem_flatMap.2 ⟨c,List.mem_of_mem_take hc,hm⟩)
   ·exact ny m (nn c hc m hm)
   ·exact h.sat.cl n _ hH m (List.mem_flatMap.2 ⟨c,List.mem_of_mem_drop hc,hm⟩)
  ·simp[isOwn,List.getElem?_set_self hn] at ho
 ·rename_i n j sz off vs i hcx hcs hi
  rw[hcx] at hx
  split at he<;>try (exact he.elim)
  rename_i e l us hH hus
  split at he<;>try (exact he.elim)
  rename_i hcond
  obtain⟨hsz,hl,hle,hok⟩:=hcond
  split at he<;>try (exact he.elim)
  rename_i z hz
  subst hsz
  obtain⟨r,nn⟩:=svCells_sound h.ok h.sat hcs hy
  have hev:(a.eval y).cells.toList=us:=allVals_rel hus r
  have hn:n<H.length:=(List.getElem?_eq_some_iff.1 hH).1
  obtain⟨b,o',len,cap,h1,h2,h3⟩:=(show At.rel σ (.eptr n j (C.sz e) off) _ from hx)
  obtain⟨⟨q1,q2⟩,q3⟩:=h.sat.holds n _ hH
  rcases q2 with ⟨q2,_⟩|⟨g,cp,cur,fz,q2,hg,hfz,hnc,hcm,hcs',htk⟩
  ·rw[h1] at q2;cases q2
  ·rw[h1] at q2
   obtain⟨rfl,rfl,rfl,rfl⟩:b=g/\o'=0/\len=l.length/\cap=cp:=by
    injection q2 with e1 e2 e3
    injection e1 with e1
    injection e1 with e4 e5
    exact⟨e4,e5,e2,e3⟩
   have hus_len:us.length=vs.length:=by rw[← hev];exact r.1.symm
   have hjl:j*C.sz e+C.sz e<=l.length*C.sz e:=by rw[← Nat.succ_mul];exact Nat.mul_le_mul_right _ h2
   have hlc:l.length*C.sz e<=cap*C.sz e:=Nat.mul_le_mul_right _ hnc
   have hrun:=run_storeAt (w:=w) (P:=C.P) (v:=a.eval y) (b:=b) (off:=0+j*C.sz e+off) (t':=C.tid e) hi (by rw[← Array.length_toList,hev,hus_len,hl]) hg hfz (by rw[hev,hus_len,hcs'];omega) (all_ok h.ok h.sat r hok)
   rw[hev,Nat.zero_add] at hrun
   rw[Nat.zero_add] at h3
   have hblk:∀ k,¬ φ n k->k≠b:=fun k hk e=>hk ((q3 k).2 (by rw[h1,e];rfl))
   have hez:C.enc e z=splice (C.enc e (l.getD j (C.dft e))) off us:=h.ok.dcd e _ _ hz
   refine wp_skip_ (w':=w.setRow b (splice cur.toList (j*C.sz e+off) us).toArray) (by simp[execOp,ho,h3,hrun]) ⟨_,_,_,_,_,upd_sound h.ok h hn (.row true e (l.set j z)) o.dst (by simp) rfl rfl rfl (fun k hk=>setRow_other w b k _ (hblk k hk)) ?_ (fun m hm=>by simp[Chunk.names] at hm) (fun _ e=>Ro.own e) (fun _=>by simp[isOwn,hH]),he⟩
   have hsz2:(splice cur.toList (j*C.sz e+off) us).toArray.size=cur.size:=by
    simp only[List.size_toArray]
    rw[splice_len (by simp;omega)]
    simp
   refine⟨⟨?_,.inr ⟨b,cap,_,fz,by rw[h1];simp,setRow_heap w b cur _ (C.tid e) _ hg,by rw[hsz2];exact hfz,by simpa using hnc,hcm,?_,?_⟩⟩,fun k=>by rw[q3 k]⟩
   ·rw[flat_len h.ok]
   ·simp only[List.size_toArray]
    rw[splice_len (by simp;omega)]
    simpa using hcs'
   ·rw[flat_set h.ok h2,hez,splice_splice (by rw[h.ok.len];omega) (by rw[h.ok.len,flat_len h.ok];exact hjl) (fun k hk=>by rw[h.ok.len] at hk;exact flat_at h.ok (getD_some h2) hk),← htk]
    simp only[List.length_set]
    apply List.ext_getElem?
    intro k
    rw[splice_get (by rw[List.length_take];simp;omega),List.getElem?_take,splice_get (by simp;omega)]
    by_cases c:j*C.sz e+off<=k/\k<j*C.sz e+off+us.length
    ·rw[if_pos c,if_pos (by omega),if_pos c]
    ·rw[if_neg c,if_neg c,List.getElem?_take]

theorem row_new_sound (hC:C.OK)(h:Pre C T H σ φ a w)(e:C.EC)(l:List (C.α e))(cur:Array Value)(cap:Nat)(dst:Option Nat)(hcap:l.length<=cap)(hmax:cap<=maxLen)(hsz:cur.size=cap*C.sz e)(htk:cur.toList.take (l.length*C.sz e)=flat C e l) :
  EOut C H σ φ a w [] (setT T dst (.one (.at (.slc H.length)))) (H++[.row true e l]) (fun k=>if k=H.length then .slice (some ⟨w.heap.size,0,none⟩) l.length cap else σ k) (fun k=>if k=H.length then (fun b=>b=w.heap.size) else φ k)
   (a.put dst (.slice (some ⟨w.heap.size,0,none⟩) l.length cap)) (w.alloc (.cells cur (C.tid e))) :=
 new_sound hC h (Grows.refl h.sat) (.row true e l) (.slice (some ⟨w.heap.size,0,none⟩) l.length cap) (.slc H.length) (.cells cur (C.tid e)) dst
  (fun σ' _=>⟨⟨flat_len hC e l,.inr ⟨w.heap.size,cap,cur,(0,0),rfl,heap_alloc_new w _,.inl rfl,hcap,hmax,hsz,htk⟩⟩,fun k=>by simp[Value.ownBlock,eq_comm]⟩)
  (fun m hm=>by simp[Chunk.names] at hm) (fun _ e=>(Ro.own e).elim) (fun σ' hs=>hs.symm) (fun m hm=>by simpa [At.names] using hm)

theorem bytesOf_spec {e:C.EC}{i:TypeInfo}(hi:C.P.info? (C.tid e)=some i):bytesOf C e=i.bytes:=by simp[bytesOf,hi]

theorem e_makeSlice {t:TypeId}{l c:Operand}(h:Pre C T H σ φ a w)(ho:o.op = .makeSlice t l c)(he:effS C Γ trunc T H o K):o.wp C.P a w (After C H σ φ a w K) Q:=by
 have hl:=h.rel l
 have hc:=h.rel c
 simp only[effS,ho] at he
 split at he<;>try (exact he.elim)
 rename_i e k1 n k2 m hec hcl hcc
 rw[hcl] at hl;rw[hcc] at hc
 obtain⟨h0,h1,h2,hK⟩:=he
 have el:a.eval l = .int k1 n:=hl
 have ec:a.eval c = .int k2 m:=hc
 obtain⟨i,z,hi,hz,hsz,hzc,hbp⟩:=h.ok.info e
 rw[bytesOf_spec hi] at h2
 have hmb:m<=140737488355328:=by
  have:m*1<=m*(i.bytes:Int):=Int.mul_le_mul_of_nonneg_left (by omega) (by omega)
  omega
 have hrun:=run_make (P:=C.P) w t (C.tid e) i z (elemEC_spec h.ok hec) hi hz k1 k2 n m h0 h1 (by rw[Int.mul_comm];omega) (by omega)
 have hcap:(List.replicate n.toNat (C.dft e)).length<=m.toNat:=by simp;omega
 have hE:=row_new_sound h.ok h e (List.replicate n.toNat (C.dft e)) (madeCells z.cells (m.toNat*i.size)) m.toNat o.dst hcap (by unfold maxLen;omega) (by rw[size_madeCells,hsz]) (by
  rw[hsz,made_flat h.ok hzc]
  have:(List.replicate n.toNat (C.dft e))=(List.replicate m.toNat (C.dft e)).take n.toNat:=by rw[List.take_replicate];congr 1;omega
  rw[List.length_replicate,this]
  have hfl:=flat_len h.ok e (List.replicate m.toNat (C.dft e))
  conv=>rhs;rw[flat]
  have hsplit:List.replicate m.toNat (C.dft e)=(List.replicate m.toNat (C.dft e)).take n.toNat++(List.replicate m.toNat (C.dft e)).drop n.toNat:=(List.take_append_drop _ _).symm
  conv=>lhs;rw[hsplit,flat,List.flatMap_append]
  apply List.take_left'
  have:=flat_len h.ok e ((List.replicate m.toNat (C.dft e)).take n.toNat)
  rw[flat] at this
  rw[this,List.length_take,List.length_replicate,Nat.min_eq_left (by omega)])
 rw[List.length_replicate] at hE
 exact wp_value (by simp[execOp,ho,el,ec,hrun]) ⟨_,_,_,_,_,hE,hK⟩

theorem buildS_len (place:Nat->Option (Nat × Nat)):∀ (parts:List (Nat × SV)) {z cells:List At},buildS C H place z parts=some cells->cells.length=z.length:=by
 intro parts
 induction parts with
 | nil=>intro z cells h;simp[buildS] at h;rw[h]
 | cons p parts ih =>
  obtain⟨i,x⟩:=p
  intro z cells h
  simp only[buildS] at h
  split at h<;>try (cases h;done)
  split at h<;>try (cases h;done)
  rename_i hc
  rw[ih h,splice_len hc.2]

theorem freezeS_sound (hC:C.OK):∀ (cells:List At) {φ:Nat->Nat->Prop} {H:List (Chunk C)},Sat C σ φ w H->∃ φ',Grows C σ φ H σ φ' (freezeS cells H) w:=by
 intro cells
 induction cells with
 | nil=>intro φ H h;exact⟨φ,Grows.refl h⟩
 | cons x r ih =>
  intro φ H h
  unfold freezeS
  split
  ·rename_i m
   split
   ·rename_i e l hH
    have g:=freeze_sound hC h hH
    obtain⟨φ2,g2⟩:=ih g.sat
    exact⟨φ2,g.trans g2⟩
   ·exact ih h
  ·exact ih h
theorem imm_nil (hC:C.OK)(e:C.EC):Imm C w (.slice none 0 0) e [] :=
 Holds.rd (own:=true) (l:=([]:List (C.α e))) (f:=fun _=>False) (σ:=fun _=>undef) hC ⟨ownR.nil _ _ _,fun k=>by simp[Value.ownBlock]⟩
theorem cellRows_sound (hC:C.OK){e0:C.EC}(h:Sat C σ φ w H):∀ (cells:List At) {ll:List (List (C.α e0))} {vs:List Value},cellRows C e0 H cells=some ll->Rels (At.rel σ) cells vs →
  Rels (fun l u=>Imm C w u e0 l/\∀ b,0<l.length->u.ownBlock=some b->∀ m,¬ φ m b) ll vs:=by
 intro cells
 induction cells with
 | nil =>
  intro ll vs hc hr
  simp[cellRows] at hc;subst hc
  exact⟨hr.1,fun i a b ha=>by simp at ha⟩
 | cons x r ih =>
  intro ll vs hc hr
  match vs,hr with
  | [],hr=>exact absurd hr.1 (by simp)
  | v::vs,hr =>
   have hrc:At.rel σ x v:=hr.2 0 _ _ rfl rfl
   have hrt:Rels (At.rel σ) r vs:=⟨by simpa using hr.1,fun i x y hx hy=>hr.2 (i+1) x y (by simpa using hx) (by simpa using hy)⟩
   cases x with
   | val v0 =>
    have hv:v=v0:=hrc
    simp only[cellRows] at hc
    split at hc<;>first|(cases hc;done)|(rename_i hq;cases hq;done)|skip
    rename_i heq
    simp only[At.val.injEq] at heq
    simp only[Option.map_eq_some_iff] at hc
    obtain⟨q,h1,rfl⟩:=hc
    rw[hv,heq]
    exact Rels.cons ⟨imm_nil hC e0,fun b hb=>by simp at hb⟩ (ih h1 hrt)
   | «any»=>simp[cellRows] at hc
   | ptr n k=>simp[cellRows] at hc
   | eptr n i sz k=>simp[cellRows] at hc
   | fn f cs=>simp[cellRows] at hc
   | slc m =>
    have hv:v=σ m:=hrc
    simp only[cellRows] at hc
    split at hc<;>try (cases hc;done)
    rename_i e l hH
    split at hc<;>try (cases hc;done)
    rename_i hee _
    subst hee
    simp only[Option.map_eq_some_iff] at hc
    obtain⟨q,h1,rfl⟩:=hc
    rw[hv]
    exact Rels.cons ⟨(h.holds m _ hH).1,fun b hp hb=>h.immr m _ l hH hp b hb⟩ (ih h1 hrt)

theorem e_buildSlice {t:TypeId}{n:Nat}{parts:Array (Nat × Operand)}(h:Pre C T H σ φ a w)(ho:o.op = .buildSlice t n parts)(he:effS C Γ trunc T H o K):o.wp C.P a w (After C H σ φ a w K) Q:=by
 simp only[effS,ho] at he
 split at he<;>try (exact he.elim)
 rename_i e hec
 split at he
 ·rename_i e0 hl
  split at he<;>try (exact he.elim)
  rename_i cells hb
  split at hb<;>try (cases hb;done)
  rename_i hsmall
  split at he<;>try (exact he.elim)
  rename_i ll hll
  obtain⟨i,z,hi,hz,hsz,hzc,hbp⟩:=h.ok.info e
  obtain⟨e1,e2⟩:=parts_rel h parts.toList
  have hs1:=h.ok.lst _ _ hl
  have hmc:=made_flat h.ok hzc n
  obtain⟨cs',g1,g2,g3⟩:=fill_sound (fun k=>some (k*C.sz e,C.sz e)) h.ok h.sat _ _ _ (madeCells z.cells (n*C.sz e)) e1 e2 (by rw[hmc];exact rels_vals _) hb (fun p hp m hm=>by
   obtain⟨q,_,rfl⟩:=List.mem_map.1 hp
   exact h.nm q.2 m hm) (fun c hc m hm=>by
   obtain⟨u,_,rfl⟩:=List.mem_map.1 hc
   simp[At.names] at hm)
  have hlen:cs'.toList.length=n*C.sz e:=by rw[← g2.1,buildS_len _ _ hb,List.length_map,flat_len h.ok,List.length_replicate]
  obtain⟨φ1,gf⟩:=freezeS_sound h.ok cells h.sat
  have hR:=cellRows_sound h.ok gf.sat cells hll g2
  have hn1:n*C.sz e=n:=by rw[hs1,Nat.mul_one]
  have hn:ll.length=n:=by rw[hR.1,hlen,hn1]
  have hrun:(Instr.buildSlice t n (parts.map fun p=>(p.1,a.eval p.2))).run C.P w = .ok (.slice (some ⟨w.heap.size,0,none⟩) n n) (w.alloc (.cells cs' (C.tid e))):=by
   have hf:Instr.fill (fun k=>some (k*C.sz e,C.sz e)) (madeCells z.cells (n*C.sz e)) (parts.map fun p=>(p.1,a.eval p.2)).toList=some cs':=by simpa using g1
   have hns:¬ 16777216<n*i.size:=by rw[hsz];omega
   by_cases h0:n*i.size=0
   ·have h0':n*C.sz e=0:=by rw[← hsz];exact h0
    rw[h0'] at hf
    have hm0:madeCells z.cells 0=#[]:=by simp[madeCells,Array.range_zero']
    rw[hm0,← hsz] at hf
    simp[Instr.buildSlice,run_underlying (elemEC_spec h.ok hec),run_sizeOf hi,h0,Array.range_zero',newRow]
    simp at hf
    rw[hf]
    simp
   ·have hzr:(zeroValue (C.tid e)).run C.P w = .ok z w:=by simp[zeroValue,typeInfo,hi,hz]
    rw[← hsz] at hf
    simp[Instr.buildSlice,run_underlying (elemEC_spec h.ok hec),run_sizeOf hi,h0,hns,hzr,newRow]
    unfold madeCells at hf
    simp at hf
    rw[hf]
    simp
  have hown:(w.alloc (.cells cs' (C.tid e))).ownsRow 0 (C.tid e) 1 (.slice (some ⟨w.heap.size,0,none⟩) n n) ll.length cs'.toList :=
   ⟨by rw[hlen,hn,hs1],.inr ⟨w.heap.size,n,cs',by rw[hn],Nat.zero_le _,heap_alloc_new w _,by omega,by unfold maxLen;omega,by rw[← Array.length_toList,hlen,hs1],by rw[List.take_of_length_le (by omega)]⟩⟩
  refine wp_value (by simp[execOp,ho,hrun]) ⟨_,_,_,_,_,new_sound h.ok h gf (.rows e e0 ll) (.slice (some ⟨w.heap.size,0,none⟩) n n) (.slc _) (.cells cs' (C.tid e)) o.dst
   (fun σ' _=>⟨hs1,⟨cs'.toList,hown,hR.mono fun l u _ hu=>hu.1.keep (by simp) fun _ b _ hb=>heap_alloc_old w _ hb⟩,fun k=>by simp[Value.ownBlock,eq_comm]⟩)
   (fun m hm=>by simp[Chunk.names] at hm) (fun b hb=>?_) (fun σ' hs=>hs.symm) (fun m hm=>by simpa [At.names] using hm),he⟩
  obtain⟨vs,ho',i',u,l,h1,h2,h3,h4⟩:=hb
  obtain rfl:=ownsRow_inj ho' hown
  obtain⟨hi1,hi2⟩:=hR.2 i' l u h2 h1
  have:=hi1.lt h3 h4
  exact⟨hi2 b h3 h4,by omega⟩
 split at he<;>try (exact he.elim)
 rename_i cells hb
 split at hb<;>try (cases hb;done)
 rename_i hsmall
 split at he<;>try (exact he.elim)
 rename_i vs hvs
 split at he<;>try (exact he.elim)
 rename_i xs hxs
 obtain⟨i,z,hi,hz,hsz,hzc,hbp⟩:=h.ok.info e
 obtain⟨e1,e2⟩:=parts_rel h parts.toList
 have hmc:=made_flat h.ok hzc n
 obtain⟨cs',g1,g2,g3⟩:=fill_sound (fun k=>some (k*C.sz e,C.sz e)) h.ok h.sat _ _ _ (madeCells z.cells (n*C.sz e)) e1 e2 (by rw[hmc];exact rels_vals _) hb (fun p hp m hm=>by
  obtain⟨q,_,rfl⟩:=List.mem_map.1 hp
  exact h.nm q.2 m hm) (fun c hc m hm=>by
  obtain⟨u,_,rfl⟩:=List.mem_map.1 hc
  simp[At.names] at hm)
 have hcs:cs'.toList=vs:=allVals_rel hvs g2
 have hlen:cs'.toList.length=n*C.sz e:=by rw[← g2.1,buildS_len _ _ hb,List.length_map,flat_len h.ok,List.length_replicate]
 obtain⟨f1,f2⟩:=dcdN_sound h.ok n vs hxs (by rw[← hcs];exact hlen)
 subst f2
 have hp:=h.ok.pos e
 have hE:=row_new_sound h.ok h e xs cs' xs.length o.dst (Nat.le_refl _) (by
  have:xs.length*1<=xs.length*C.sz e:=Nat.mul_le_mul_left _ hp
  unfold maxLen;omega) (by rw[← Array.length_toList,hlen]) (by rw[f1,← hcs,List.take_of_length_le (by omega)])
 refine wp_value ?_ ⟨_,_,_,_,_,hE,he⟩
 have hrun:(Instr.buildSlice t xs.length (parts.map fun p=>(p.1,a.eval p.2))).run C.P w = .ok (.slice (some ⟨w.heap.size,0,none⟩) xs.length xs.length) (w.alloc (.cells cs' (C.tid e))):=by
  have hf:Instr.fill (fun k=>some (k*C.sz e,C.sz e)) (madeCells z.cells (xs.length*C.sz e)) (parts.map fun p=>(p.1,a.eval p.2)).toList=some cs':=by simpa using g1
  have hns:¬ 16777216<xs.length*i.size:=by rw[hsz];omega
  by_cases h0:xs.length*i.size=0
  ·have h0':xs.length*C.sz e=0:=by rw[← hsz];exact h0
   rw[h0'] at hf
   have hm0:madeCells z.cells 0=#[]:=by simp[madeCells,Array.range_zero']
   rw[hm0,← hsz] at hf
   simp[Instr.buildSlice,run_underlying (elemEC_spec h.ok hec),run_sizeOf hi,h0,Array.range_zero',newRow]
   simp at hf
   rw[hf]
   simp
  ·have hzr:(zeroValue (C.tid e)).run C.P w = .ok z w:=by simp[zeroValue,typeInfo,hi,hz]
   rw[← hsz] at hf
   simp[Instr.buildSlice,run_underlying (elemEC_spec h.ok hec),run_sizeOf hi,h0,hns,hzr,newRow]
   unfold madeCells at hf
   simp at hf
   rw[hf]
   simp
 simp[execOp,ho,hrun]
end
end Go.Proofs.YtedfbafngmicpaaGreat.Sx
end
section
/- The symbolic run is sound: rows that grow or shrink in place; calls. No program in sight. -/
namespace Go.Proofs.YtedfbafngmicpaaGreat.Sx
open Go

section
variable {C:Ctx}
variable {T:List SV} {H:List (Chunk C)} {o:Oper} {σ:Nat->Value} {φ:Nat->Nat->Prop} {a:Act} {w:World} {ps:List Prop} {s:SV} {H':List (Chunk C)}
variable {K:EK C} {Γ:List (FuncId × Tfm C)} {trunc:Nat->Bool} {Q:Exit->Act->World->Prop}

theorem ren_gen (hC:C.OK)(h:Pre C T H σ φ a w){σ1:Nat->Value}{φ1:Nat->Nat->Prop}{H1:List (Chunk C)}(g:Grows C σ φ H σ1 φ1 H1 w){n:Nat}(hno':isOwn H1 n=true){c':Chunk C}(hcn:c'.names=[]){w':World}{v':Value}{f':Nat->Prop}(dst:Option Nat)(hsz:w.heap.size<=w'.heap.size)(hos:w'.os=w.os)(htp:w'.tape=w.tape)(hop:w'.output=w.output)(hfr:∀ k,k<w.heap.size->¬ φ1 n k->w'.heap[k]?=w.heap[k]?)(hc:∀ σ',Holds w' σ' v' f' c')(hlt':∀ b,f' b->b<w'.heap.size)(himm':∀ b,Ro w' v' b c'->(∀ m,¬ φ1 m b)/\¬ f' b)(hgr:∀ b,f' b->φ1 n b∨w.heap.size<=b) :
  EOut C H σ φ a w [n] (setT (T.map (SV.kill n)) dst (.one (.at (.slc n)))) ((H1.map (Chunk.kill n)).set n c') (fun k=>if k=n then v' else σ1 k) (fun k=>if k=n then f' else φ1 k) (a.put dst v') w':=by
 have hn:n<H1.length:=by
  unfold isOwn at hno'
  split at hno'
  ·exact (List.getElem?_eq_some_iff.1 ‹_›).1
  ·exact (List.getElem?_eq_some_iff.1 ‹_›).1
  ·cases hno'
 have hnk:n<(H1.map (Chunk.kill n)).length:=by simpa using hn
 have hag:∀ k,k<H.length->k≠n->(if k=n then v' else σ1 k)=σ k:=fun k hk hne=>by rw[if_neg hne];exact g.agree k hk
 have hrow:∀ k,k≠n->((H1.map (Chunk.kill n)).set n c')[k]?=(H1[k]?).map (Chunk.kill n):=fun k hne=>by rw[List.getElem?_set_ne (Ne.symm hne),List.getElem?_map]
 refine⟨put_rel (s:=.one (.at (.slc n))) ?_ (by show v'=_;simp) dst,fun x hx m hm=>?_,?_,⟨hos,htp,hop,hsz,fun k hk hno=>hfr k hk fun hh=>hno n (g.sub n k hh),fun k b hb=>?_⟩,by have:=g.len;simp;omega,put_defers _ _,fun k hk ho=>?_,fun k hk ho=>?_,fun k hk hkn=>?_,fun k hk hkn=>hag k hk (fun e'=>hkn (by simp[e']))⟩
 ·have h0:Rels (SV.rel σ) (T.map (SV.kill n)) a.tmps.toList:=rels_killS h.tm
  refine h0.mono fun x v hx hr=>SV.rel_of hr fun m hm=>?_
  obtain⟨y,hy,rfl⟩:=List.mem_map.1 hx
  have:=SV.kill_names m hm
  exact hag m (h.tcl y hy m this.1) this.2
 ·have:=g.len
  rcases setT_mem hx with hx|rfl
  ·obtain⟨y,hy,rfl⟩:=List.mem_map.1 hx
   have:=h.tcl y hy m (SV.kill_names m hm).1
   simp;omega
  ·simp[SV.names,TV.names,At.names] at hm
   subst hm
   simpa using hn
 ·refine (g.sat.kill n).step hC (fun k=>k=n) hsz (fun k hk hno=>hfr k hk (hno n rfl)) (fun k hk=>?_) (fun k c hk hc' m hm=>?_) (fun k c hk hc'=>?_) (fun k b hk hb=>?_) (fun k m b hk hm _ _=>hk.trans hm.symm) (fun k b hk hb=>?_)
   (fun k e' hk hc' b hb m hm=>?_) (fun k hk b hb=>?_) (by simp) (fun k c hk hc' m hm=>?_)
  ·have hne:¬ k=n:=hk
   exact⟨by rw[List.getElem?_set_ne (Ne.symm hne)],by simp[hne],fun b=>by simp[hne]⟩
  ·rw[List.getElem?_map] at hc'
   cases hl:H1[k]? with
   | none=>rw[hl] at hc';cases hc'
   | some d =>
    rw[hl] at hc';simp at hc';subst hc'
    simp[(Chunk.kill_names m hm).2]
  ·have hk':k=n:=hk
   subst hk'
   rw[List.getElem?_set_self hnk] at hc'
   simp only[Option.some.injEq] at hc'
   subst hc'
   simp only[if_true]
   exact hc _
  ·have hk':k=n:=hk
   subst hk'
   simp only[if_true] at hb
   rcases hgr b hb with h1|h1
   ·exact .inl ⟨k,rfl,h1⟩
   ·exact .inr h1
  ·have hk':k=n:=hk
   subst hk'
   simp only[if_true] at hb
   exact hlt' b hb
  ·have hk':k=n:=hk
   subst hk'
   rw[List.getElem?_set_self hnk] at hc'
   simp only[Option.some.injEq] at hc'
   subst hc'
   simp only[if_true] at hb
   by_cases e1:m=k
   ·subst e1;simp only[if_true] at hm;exact (himm' b hb).2 hm
   ·simp only[if_neg e1] at hm;exact (himm' b hb).1 m hm
  ·rw[List.length_set,List.length_map] at hk
   rw[if_neg (by omega)] at hb
   exact g.sat.out k hk b hb
  ·have hk':k=n:=hk
   subst hk'
   rw[List.getElem?_set_self hnk] at hc'
   simp only[Option.some.injEq] at hc'
   subst hc'
   rw[hcn] at hm;cases hm
 ·by_cases e':k=n
  ·subst e'
   simp only[if_true] at hb
   rcases hgr b hb with h1|h1
   ·exact .inl ⟨k,g.sub k b h1⟩
   ·exact .inr h1
  ·simp only[if_neg e'] at hb
   exact .inl ⟨k,g.sub k b hb⟩
 ·refine hag k hk fun e'=>?_
  subst e'
  have:=g.own k hk hno'
  rw[this] at ho;cases ho
 ·by_cases e':k=n
  ·subst e';exact g.own k hk hno'
  ·refine g.own k hk ?_
   rw[isOwn,hrow k e'] at ho
   have:=isOwn_kill (H:=H1) (n:=n) (k:=k)
   rw[isOwn,List.getElem?_map] at this
   rw[← this];exact ho
 ·have hne:k≠n:=fun e'=>hkn (by simp[e'])
  refine⟨fun b=>?_,fun b hb hlt=>hfr b hlt fun hφ=>hne (rdb_apart h.sat hb (g.sub n b hφ))⟩
  rw[← g.rdb k hk b]
  unfold Rdb
  rw[hrow k hne]
  simp only[if_neg hne]
  cases hl:H1[k]? with
  | none=>simp
  | some d=>cases d<;>simp[Chunk.kill]

theorem ren_sound (hC:C.OK)(h:Pre C T H σ φ a w){σ1:Nat->Value}{φ1:Nat->Nat->Prop}{H1:List (Chunk C)}(g:Grows C σ φ H σ1 φ1 H1 w){n:Nat}{e:C.EC}{l l':List (C.α e)}(hH:H1[n]?=some (.row true e l)){w':World}{v':Value}{f':Nat->Prop}(dst:Option Nat)(hsz:w.heap.size<=w'.heap.size)(hos:w'.os=w.os)(htp:w'.tape=w.tape)(hop:w'.output=w.output)(hfr:∀ k,k<w.heap.size->¬ φ1 n k->w'.heap[k]?=w.heap[k]?)(hc:ownR w' (C.tid e) (C.sz e) v' l'.length (flat C e l'))(hf:∀ b,f' b↔v'.ownBlock=some b)(hgr:∀ b,f' b->φ1 n b∨w.heap.size<=b) :
  EOut C H σ φ a w [n] (setT (T.map (SV.kill n)) dst (.one (.at (.slc n)))) ((H1.map (Chunk.kill n)).set n (.row true e l')) (fun k=>if k=n then v' else σ1 k) (fun k=>if k=n then f' else φ1 k) (a.put dst v') w' :=
 ren_gen hC h g (by simp[isOwn,hH]) (c':=.row true e l') rfl dst hsz hos htp hop hfr (fun _=>⟨hc,hf⟩) (fun b hb=>hc.lt b ((hf b).1 hb)) (fun b hb=>(Ro.own hb).elim) hgr

theorem e_trunc {t:TypeId}{x hi:Operand}(h:Pre C T H σ φ a w)(ho:o.op = .slice t x none (some hi) none)(he:effS C Γ trunc T H o K):o.wp C.P a w (After C H σ φ a w K) Q:=by
 have hx:=h.rel x
 simp only[effS,ho] at he
 split at he<;>try (exact he.elim)
 split at he<;>try (exact he.elim)
 rename_i n b hcx hb
 rw[hcx] at hx
 split at he<;>try (exact he.elim)
 rename_i e l hH
 split at he<;>try (exact he.elim)
 rename_i hec
 obtain⟨h0,h1,hK⟩:=he
 have ex:a.eval x=σ n:=hx
 obtain⟨k,hk⟩:=trueInt_val h hb
 obtain⟨ti,z,hti,_,hsz,_⟩:=h.ok.info e
 obtain⟨⟨q1,q2⟩,q3⟩:=h.sat.holds n _ hH
 have hfl:=flat_len h.ok e
 rcases q2 with ⟨q2,q4⟩|⟨g,cap,cur,fz,q2,hg,hfz,hnc,hcm,hcs,htk⟩
 ·have hb0:b=0:=by omega
  subst hb0
  have hrun:=run_sliceAt (P:=C.P) (A:=none) (len:=0) (cap:=0) (low:=none) (high:=some (.int k 0)) (i:=0) (j:=0) (isEC_spec h.ok hec) hti (.inl ⟨rfl,rfl⟩) (.inr ⟨k,rfl⟩) (by omega) (by omega) (by omega) w
  refine wp_value (v:=.slice none 0 0) (w':=w) (by (try simp at hrun);simp[execOp,ho,ex,q2,hk,hrun]) ⟨_,_,_,_,_,ren_sound h.ok h (Grows.refl h.sat) hH (l':=l.take (0:Int).toNat) (v':=.slice none 0 0) (f':=φ n) o.dst (Nat.le_refl _) rfl rfl rfl (fun _ _ _=>rfl) ?_ (fun b=>by rw[q3 b,q2]) (fun b hb=>.inl hb),hK⟩
  simpa [flat] using ownR.nil w (C.tid e) (C.sz e)
 ·have hrun:=run_sliceAt (P:=C.P) (A:=some ⟨g,0,none⟩) (len:=l.length) (cap:=cap) (low:=none) (high:=some (.int k b)) (i:=0) (j:=b) (isEC_spec h.ok hec) hti (.inl ⟨rfl,rfl⟩) (.inr ⟨k,rfl⟩) (by omega) h0 (by omega) w
  have hv:(Value.slice (if cap=(0:Int).toNat then some (⟨g,0,none⟩:Addr) else (some (⟨g,0,none⟩:Addr)).map (·.add ((0:Int).toNat*ti.size))) (b.toNat-(0:Int).toNat) (cap-(0:Int).toNat)) = .slice (some ⟨g,0,none⟩) b.toNat cap:=by
   simp[Addr.add]
  rw[hv] at hrun
  have hbl:(l.take b.toNat).length=b.toNat:=by simp;omega
  refine wp_value (v:=.slice (some ⟨g,0,none⟩) b.toNat cap) (w':=w) (by (try simp at hrun);simp[execOp,ho,ex,q2,hk,hrun]) ⟨_,_,_,_,_,ren_sound h.ok h (Grows.refl h.sat) hH (l':=l.take b.toNat) (v':=.slice (some ⟨g,0,none⟩) b.toNat cap) (f':=φ n) o.dst (Nat.le_refl _) rfl rfl rfl (fun _ _ _=>rfl) ?_ (fun b=>by rw[q3 b,q2];rfl) (fun b hb=>.inl hb),hK⟩
  refine⟨hfl _,.inr ⟨g,cap,cur,fz,by rw[hbl],hg,hfz,by rw[hbl];omega,hcm,hcs,?_⟩⟩
  rw[hbl]
  have e1:flat C e l=flat C e (l.take b.toNat)++flat C e (l.drop b.toNat):=by
   unfold flat
   rw[← List.flatMap_append,List.take_append_drop]
  have e2:(cur.toList.take (l.length*C.sz e)).take (b.toNat*C.sz e)=cur.toList.take (b.toNat*C.sz e):=by
   rw[List.take_take,Nat.min_eq_left (Nat.mul_le_mul_right _ (by omega))]
  rw[← e2,htk,e1]
  apply List.take_left'
  rw[hfl,hbl]

theorem e_append {c:Call}{x y:Operand}{t:TypeId}(h:Pre C T H σ φ a w)(ho:o.op = .call c)(hcal:c.callee = .builtin .append)(hargs:c.args.toList=[x,y])(hty:c.argTypes.toList=[t,t]){σ1:Nat->Value}{φ1:Nat->Nat->Prop}{H1:List (Chunk C)}(g:Grows C σ φ H σ1 φ1 H1 w){n:Nat}{e:C.EC}{l:List (C.α e)}(hx:a.eval x=σ1 n)(hH:H1[n]?=some (.row true e l))(hec:elemEC C t=some e){A:Option Addr}{m cp:Nat}{ys:List (C.α e)}(hy:a.eval y = .slice A m cp)(hsrc:Rd (C.enc e) (C.sz e) w A m cp ys)(hb:A≠none->(l.length+ys.length)*bytesOf C e<=140737488355328)(hK:K [n] (setT (T.map (SV.kill n)) o.dst (.one (.at (.slc n)))) ((H1.map (Chunk.kill n)).set n (.row true e (l++ys)))):o.wp C.P a w (After C H σ φ a w K) Q:=by
 obtain⟨i,z,hi,hz,hsz,hzc,hbp⟩:=h.ok.info e
 rw[bytesOf_spec hi] at hb
 obtain⟨q1,q3⟩:=g.sat.holds n _ hH
 have hty':c.argTypes=#[t,t]:=Array.ext' (by simpa using hty)
 have hexec:∀ {v':Value} {w':World},(Builtin.append_ #[t,t] o.type #[σ1 n,.slice A m cp]).run C.P w = .ok v' w'->(execOp a.eval o).run C.P w = .ok (.value v') w':=by
  intro v' w' hr
  have e1:c.args.map a.eval=#[σ1 n,.slice A m cp]:=by rw[map_eval2 hargs,hx,hy]
  simp[execOp,ho,resolve,hcal,invoke,builtin,e1,hty',hr]
 have hm:=hsrc.len
 cases A with
 | none =>
  have hcp:=hsrc.nul rfl
  have hle:=hsrc.cap
  have hm0:m=0:=by omega
  have hys:ys=[]:=List.eq_nil_of_length_eq_zero (by omega)
  subst hys hm0 hcp
  have hr:=append_R_none (P:=C.P) (w:=w) t o.type (C.tid e) i (C.sz e) (elemEC_spec h.ok hec) hi (σ1 n) l.length _ q1
  refine wp_value (hexec hr) ⟨_,_,_,_,_,ren_sound h.ok h g hH (l':=l++[]) (v':=σ1 n) (f':=φ1 n) o.dst (Nat.le_refl _) rfl rfl rfl (fun _ _ _=>rfl) (by simpa using q1) q3 (fun b hb=>.inl hb),hK⟩
 | some ad =>
  have hb:=hb (by simp)
  have hbm:l.length+ys.length<=140737488355328:=Nat.le_trans (Nat.le_mul_of_pos_right _ hbp) hb
  have hnews:∀ (j:Nat) (u:Value),(flat C e ys)[j]?=some u->w.cell? (ad.add j)=some u:=by
   intro j u hu
   have hj:j<(flat C e ys).length:=(List.getElem?_eq_some_iff.1 hu).1
   rw[flat_len h.ok] at hj
   have hp:=h.ok.pos e
   have hq:j / C.sz e<ys.length:=Nat.div_lt_of_lt_mul (by rw[Nat.mul_comm];exact hj)
   have hp0:0<ys.length:=Nat.lt_of_le_of_lt (Nat.zero_le _) hq
   obtain⟨b,o',e1,hlt,hc⟩:=hsrc.get (by omega)
   simp only[Option.some.injEq] at e1
   subst e1
   have hr:j % C.sz e<C.sz e:=Nat.mod_lt _ hp
   have hd:j=j / C.sz e*C.sz e+j % C.sz e:=by rw[Nat.mul_comm];exact (Nat.div_add_mod j (C.sz e)).symm
   rw[hd,flat_at h.ok (List.getElem?_eq_getElem hq) hr] at hu
   rw[Addr.add_lit,hd,← Nat.add_assoc]
   exact hc _ _ (List.getElem?_eq_getElem hq) _ u hu
  have hl:(flat C e ys).length=m*C.sz e:=by rw[flat_len h.ok,hm]
  have hbytes:(l.length+m)*i.bytes<=140737488355328:=by rw[hm];exact hb
  have h63:l.length+m<=maxLen:=by unfold maxLen;omega
  have hzs:z.cells.size=C.sz e:=by rw[← Array.length_toList,hzc,h.ok.len]
  obtain⟨v',w',hr,hown,hgr,hblk⟩:=append_R (P:=C.P) (w:=w) t o.type (C.tid e) i z (C.sz e) i.bytes (elemEC_spec h.ok hec) hi hz hsz rfl hzs (h.ok.pos e) (σ1 n) l.length _ q1 ad m cp (flat C e ys) hl hnews (flat_one h.ok e ys) h63 hbytes
  refine wp_value (hexec hr) ⟨_,_,_,_,_,ren_sound h.ok h g hH (l':=l++ys) (v':=v') (f':=fun b=>v'.ownBlock=some b) o.dst hgr.size hgr.os hgr.tape hgr.output (fun k hk hno=>hgr.block k hk fun e'=>hno ((q3 k).2 e'.symm)) ?_ (fun b=>Iff.rfl) (fun b hb=>?_),hK⟩
  ·rw[List.length_append,← hm]
   have:flat C e (l++ys)=flat C e l++flat C e ys:=by simp[flat]
   rw[this];exact hown
  ·rcases hblk b hb with h1|h1
   ·exact .inl ((q3 b).2 h1)
   ·exact .inr h1

theorem e_appendR {c:Call}{x y:Operand}{t:TypeId}(h:Pre C T H σ φ a w)(ho:o.op = .call c)(hcal:c.callee = .builtin .append)(hargs:c.args.toList=[x,y])(hty:c.argTypes.toList=[t,t]){σ1:Nat->Value}{φ1:Nat->Nat->Prop}{H1:List (Chunk C)}(g:Grows C σ φ H σ1 φ1 H1 w){n m:Nat}{hh h2 e:C.EC}{ll l2:List (List (C.α e))}(hx:a.eval x=σ1 n)(hH:H1[n]?=some (.rows hh e ll))(hec:elemEC C t=some hh)(hy:a.eval y=σ1 m)(hHm:H1[m]?=some (.rows h2 e l2))(hb:(ll.length+l2.length)*bytesOf C hh<=140737488355328)(hK:K [n] (setT (T.map (SV.kill n)) o.dst (.one (.at (.slc n)))) ((H1.map (Chunk.kill n)).set n (.rows hh e (ll++l2)))):o.wp C.P a w (After C H σ φ a w K) Q:=by
 obtain⟨i,z,hi,hz,hsz,hzc,hbp⟩:=h.ok.info hh
 rw[bytesOf_spec hi] at hb
 obtain⟨hz1,⟨vs,q1,qR⟩,q3⟩:=g.sat.holds n _ hH
 obtain⟨_,⟨vs2,p1,pR⟩,_⟩:=g.sat.holds m _ hHm
 have hty':c.argTypes=#[t,t]:=Array.ext' (by simpa using hty)
 have hexec:∀ {v':Value} {w':World} {A:Option Addr} {k cp:Nat},σ1 m = .slice A k cp->(Builtin.append_ #[t,t] o.type #[σ1 n,.slice A k cp]).run C.P w = .ok v' w'->(execOp a.eval o).run C.P w = .ok (.value v') w':=by
  intro v' w' A k cp hs hr
  have e1:c.args.map a.eval=#[σ1 n,.slice A k cp]:=by rw[map_eval2 hargs,hx,hy,hs]
  simp[execOp,ho,resolve,hcal,invoke,builtin,e1,hty',hr]
 have hR:Rels (fun l u=>Imm C w u e l/\∀ b,0<l.length->u.ownBlock=some b->∀ m,¬ φ1 m b) (ll++l2) (vs++vs2) :=
  Rels.append ⟨qR.1,fun i l u hl hu=>⟨qR.2 i l u hl hu,fun b hp hb=>g.sat.imm n _ hH b ⟨vs,q1,i,u,l,hu,hl,hp,hb⟩⟩⟩
   ⟨pR.1,fun i l u hl hu=>⟨pR.2 i l u hl hu,fun b hp hb=>g.sat.imm m _ hHm b ⟨vs2,p1,i,u,l,hu,hl,hp,hb⟩⟩⟩
 rcases p1.2 with ⟨ev,e0⟩|⟨gb,cap,cur,ev,_,hg,hnc,hcm,hcs,htk⟩
 ·have hl2:l2=[]:=List.eq_nil_of_length_eq_zero e0
  subst hl2
  have hr:=run_append_owned_none (P:=C.P) (w:=w) 0 t o.type (C.tid hh) i 1 (elemEC_spec h.ok hec) hi (σ1 n) ll.length _ q1
  have q1':w.ownsRow 0 (C.tid hh) 1 (σ1 n) (ll++[]).length vs:=by simpa using q1
  refine wp_value (hexec ev hr) ⟨_,_,_,_,_,ren_gen h.ok h g (by simp[isOwn,hH]) (c':=.rows hh e (ll++[])) rfl (v':=σ1 n) (f':=φ1 n) o.dst (Nat.le_refl _) rfl rfl rfl (fun _ _ _=>rfl)
   (fun _=>⟨hz1,⟨vs,q1',by simpa using qR⟩,q3⟩) (fun b hb=>g.sat.bd n b hb) (fun b hb=>?_) (fun b hb=>.inl hb),hK⟩
  have hb':Ro w (σ1 n) b (.rows hh e ll):=by simpa using hb
  exact⟨fun k=>g.sat.imm n _ hH b hb' k,g.sat.imm n _ hH b hb' n⟩
 ·have hs1:i.size=1:=hsz.trans hz1
  have hnews:∀ (j:Nat) (u:Value),vs2[j]?=some u->w.cell? ((⟨gb,0,none⟩:Addr).add j)=some u:=by
   intro j u hu
   rw[← htk,List.getElem?_take] at hu
   split at hu
   ·rw[Addr.add_lit,Nat.zero_add,cell_of_row w gb j cur _ (0,0) hg]
    simpa using hu
   ·cases hu
  have h1:∀ u∈vs2,u.oneCell'=true:=by
   intro u hu
   obtain⟨k,hk,rfl⟩:=List.mem_iff_getElem.1 hu
   have hk2:k<l2.length:=by rw[pR.1];exact hk
   obtain⟨A,cp,e1,_⟩:=pR.2 k _ _ (List.getElem?_eq_getElem hk2) (List.getElem?_eq_getElem hk)
   rw[e1];rfl
  have hzs:z.cells.size=1:=by rw[← Array.length_toList,hzc,h.ok.len,hz1]
  have hbm:ll.length+l2.length<=140737488355328:=Nat.le_trans (Nat.le_mul_of_pos_right _ hbp) hb
  have h63:ll.length+l2.length<=maxLen:=by unfold maxLen;omega
  obtain⟨v',w',hr,hown,hgr,_⟩:=run_append_own (P:=C.P) w 0 t o.type (C.tid hh) i z 1 i.bytes (elemEC_spec h.ok hec) hi hz hs1 rfl hzs Nat.one_pos (σ1 n) ll.length _ q1 ⟨gb,0,none⟩ l2.length cap vs2 p1.1 hnews h1 h63 hb (Nat.zero_le _)
  have hblk:=append_block (P:=C.P) (elemEC_spec h.ok hec) hi hz hs1 rfl Nat.one_pos q1 p1.1 hnews h1 h63 hb hr
  have hown':w'.ownsRow 0 (C.tid hh) 1 v' (ll++l2).length (vs++vs2):=by rw[List.length_append];exact hown
  have hne:∀ b,(∀ k,¬ φ1 k b)->b<w.heap.size->w'.heap[b]?=w.heap[b]?:=fun b hb hlt=>hgr.block b hlt fun e'=>hb n ((q3 b).2 e'.symm)
  refine wp_value (hexec ev hr) ⟨_,_,_,_,_,ren_gen h.ok h g (by simp[isOwn,hH]) (c':=.rows hh e (ll++l2)) rfl (v':=v') (f':=fun b=>v'.ownBlock=some b) o.dst hgr.size hgr.os hgr.tape hgr.output (fun k hk hno=>hgr.block k hk fun e'=>hno ((q3 k).2 e'.symm))
   (fun _=>⟨hz1,⟨vs++vs2,hown',hR.mono fun l u _ hu=>hu.1.keep hgr.size fun hp b hb hlt=>hne b (hu.2 b hp hb) hlt⟩,fun b=>Iff.rfl⟩) (fun b hb=>(hown'.lt b hb).2) (fun b hb=>?_) (fun b hb=>?_),hK⟩
  ·obtain⟨vs',ho',i',u,l,k1,k2,k3,k4⟩:=hb
   obtain rfl:=ownsRow_inj ho' hown'
   obtain⟨hi1,hi2⟩:=hR.2 i' l u k2 k1
   refine⟨hi2 b k3 k4,fun hf=>?_⟩
   have hlt:=hi1.lt k3 k4
   rcases hblk b hf with h1|h1
   ·exact hi2 b k3 k4 n ((q3 b).2 h1)
   ·omega
  ·rcases hblk b hb with h1|h1
   ·exact .inl ((q3 b).2 h1)
   ·exact .inr h1

structure COut (C:Ctx) (H:List (Chunk C)) (σ:Nat->Value) (φ:Nat->Nat->Prop) (w:World) (ts:List Nat) (r:SV) (v:Value) (H':List (Chunk C)) (σ':Nat->Value) (φ':Nat->Nat->Prop) (w':World):Prop where
 rel:r.rel σ' v
 rcl:∀ m∈r.names,m<H'.length
 sat:Sat C σ' φ' w' H'
 adv:Adv φ w φ' w'
 len:H.length<=H'.length
 agree:∀ n,n<H.length->isOwn H n=false∨n∉ts->σ' n=σ n
 own:∀ n,n<H.length->isOwn H' n=true->isOwn H n=true
 touch:∀ n,n<H.length->n∉ts->(∀ b,Rdb H' σ' n b↔Rdb H σ n b)/\∀ b,Rdb H σ n b->b<w.heap.size->w'.heap[b]?=w.heap[b]?

def COk (C:Ctx)(H:List (Chunk C))(σ:Nat->Value)(φ:Nat->Nat->Prop)(w:World)(K:SV->List (Chunk C)->List Nat->Prop):Ending->World->Prop
 | .returned v,w'=>∃ r H' ts σ' φ',COut C H σ φ w ts r v H' σ' φ' w'/\K r H' ts
 | _,_=>False

def CallOK (C:Ctx)(f:FuncId)(args:List TV)(H:List (Chunk C))(K:SV->List (Chunk C)->List Nat->Prop):Prop :=
 ∀ σ φ w vs,Sat C σ φ w H->Rels (TV.rel σ) args vs->(∀ x∈args,∀ m∈x.names,m<H.length)->Calls C.P f vs.toArray w (COk C H σ φ w K)

structure SoundT (C:Ctx) (f:FuncId) (t:Tfm C):Prop where
 enter:∀ args w,(callFunc f args).run C.P w = .ok (.enter f args) w
 call:∀ args H K,t args H K->CallOK C f args H K

def GOK (C:Ctx):List (FuncId × Tfm C)->Prop
 | []=>True
 | (f,t)::r=>SoundT C f t/\GOK C r

theorem getG_sound:∀ {Γ:List (FuncId × Tfm C)} {f:FuncId} {t:Tfm C},GOK C Γ->getG C Γ f=some t->SoundT C f t:=by
 intro Γ
 induction Γ with
 | nil=>intro f t _ h;simp[getG] at h
 | cons p r ih =>
  obtain⟨g,t'⟩:=p
  intro f t hok h
  simp only[getG] at h
  split at h
  ·rename_i e
   subst e
   simp only[Option.some.injEq] at h
   subst h
   exact hok.1
  ·exact ih hok.2 h

theorem atsOf_rel:∀ {l:List SV} {xs:List TV} {vs:List Value},atsOf l=some xs->Rels (SV.rel σ) l vs->Rels (TV.rel σ) xs vs/\∀ x∈xs,(SV.one x)∈l:=by
 intro l
 induction l with
 | nil=>intro xs vs h hr;simp[atsOf] at h;subst h;exact⟨⟨hr.1,fun i a b ha=>by simp at ha⟩,fun x hx=>by cases hx⟩
 | cons s l ih =>
  intro xs vs h hr
  cases s with
  | tup _=>simp[atsOf] at h
  | one x =>
   simp only[atsOf,Option.map_eq_some_iff] at h
   obtain⟨xs',h1,rfl⟩:=h
   match vs,hr with
   | [],hr=>exact absurd hr.1 (by simp)
   | v::vs,hr =>
    obtain⟨h2,h3⟩:=ih h1 (vs:=vs) ⟨by simpa using hr.1,fun i x y hx hy=>hr.2 (i+1) x y (by simpa using hx) (by simpa using hy)⟩
    refine⟨Rels.cons (hr.2 0 _ _ rfl rfl) h2,fun y hy=>?_⟩
    rcases List.mem_cons.1 hy with rfl|hy
    ·exact List.mem_cons_self
    ·exact List.mem_cons_of_mem _ (h3 y hy)

theorem foldl_kill_rel:∀ (ks:List Nat) {T:List SV} {vs:List Value},Rels (SV.rel σ) T vs->Rels (SV.rel σ) (ks.foldl (fun T n=>T.map (SV.kill n)) T) vs:=by
 intro ks
 induction ks with
 | nil=>intro T vs h;exact h
 | cons k ks ih=>intro T vs h;exact ih (rels_killS h)
theorem foldl_kill_names:∀ (ks:List Nat) {T:List SV},∀ x∈(ks.foldl (fun T n=>T.map (SV.kill n)) T),∀ m∈x.names,(∃ y∈T,m∈y.names)/\m∉ks:=by
 intro ks
 induction ks with
 | nil=>intro T x hx m hm;exact⟨⟨x,hx,hm⟩,by simp⟩
 | cons k ks ih =>
  intro T x hx m hm
  obtain⟨⟨y,hy,h1⟩,h2⟩:=ih x hx m hm
  obtain⟨z,hz,rfl⟩:=List.mem_map.1 hy
  have:=SV.kill_names m h1
  exact⟨⟨z,hz,this.1⟩,by simp[this.2,h2]⟩

theorem nilFix_tv {H:List (Chunk C)}{t:TypeId}{x:TV}:∃ y,(nilFix C H t (.one x)).1 = .one y:=by
 unfold nilFix
 split
 ·split
  ·split<;>exact⟨_,rfl⟩
  ·exact⟨_,rfl⟩
 ·exact⟨_,rfl⟩

theorem nilArgs_sound (hC:C.OK){w:World}:∀ (l:List TV) (ts:List TypeId) {σ:Nat->Value} {φ:Nat->Nat->Prop} {H:List (Chunk C)} {cs:List Value},Sat C σ φ w H->Rels (TV.rel σ) l cs->(∀ a∈l,∀ m∈a.names,m<H.length) →
  ∃ σ' φ',Grows C σ φ H σ' φ' (nilArgs C H l ts).2 w/\Rels (TV.rel σ') (nilArgs C H l ts).1 cs/\(∀ a∈(nilArgs C H l ts).1,∀ m∈a.names,m<(nilArgs C H l ts).2.length):=by
 intro l
 induction l with
 | nil=>intro ts σ φ H cs h hr hn;cases ts<;>exact⟨σ,φ,Grows.refl h,hr,hn⟩
 | cons x l ih =>
  intro ts σ φ H cs h hr hn
  cases ts with
  | nil=>exact⟨σ,φ,Grows.refl h,hr,hn⟩
  | cons t ts =>
   match cs,hr with
   | [],hr=>exact absurd hr.1 (by simp)
   | c::cs,hr =>
    have hrc:TV.rel σ x c:=hr.2 0 _ _ rfl rfl
    have hrt:Rels (TV.rel σ) l cs:=⟨by simpa using hr.1,fun i x y hx hy=>hr.2 (i+1) x y (by simpa using hx) (by simpa using hy)⟩
    obtain⟨σ1,φ1,g1,r1,n1⟩:=nilFix_sound hC h t (s:=.one x) (v:=c) hrc (hn x (by simp))
    obtain⟨y,hy⟩:=nilFix_tv (C:=C) (H:=H) (t:=t) (x:=x)
    have hrt1:Rels (TV.rel σ1) l cs:=hrt.mono fun x y hx hxy=>TV.rel_of hxy fun m hm=>g1.agree m (hn x (by simp[hx]) m hm)
    obtain⟨σ2,φ2,g2,r2,n2⟩:=ih ts g1.sat hrt1 (fun x hx m hm=>Nat.lt_of_lt_of_le (hn x (by simp[hx]) m hm) g1.len)
    have he:nilArgs C H (x::l) (t::ts)=(y::(nilArgs C (nilFix C H t (.one x)).2 l ts).1,(nilArgs C (nilFix C H t (.one x)).2 l ts).2):=by
     rw[nilArgs]
     generalize nilFix C H t (.one x)=q at *
     obtain⟨q1,q2⟩:=q
     simp only at hy
     subst hy
     rfl
    rw[he]
    rw[hy] at r1 n1
    have n1':∀ m∈y.names,m<(nilFix C H t (.one x)).2.length:=fun m hm=>n1 m hm
    refine⟨σ2,φ2,g1.trans g2,Rels.cons (TV.rel_of (show TV.rel σ1 y c from r1) fun m hm=>g2.agree m (n1' m hm)) r2,fun z hz m hm=>?_⟩
    rcases List.mem_cons.1 hz with rfl|hz
    ·exact Nat.lt_of_lt_of_le (n1' m hm) g2.len
    ·exact n2 z hz m hm

theorem e_callf {c:Call}{x:Operand}(hG:GOK C Γ)(h:Pre C T H σ φ a w)(ho:o.op = .call c)(hcal:c.callee = .value x)(he:effS C Γ trunc T H o K)(_:True):o.wp C.P a w (After C H σ φ a w K) Q:=by
 simp only[effS,ho,hcal] at he
 split at he<;>try (exact he.elim)
 rename_i g cs xs hf hxs
 split at he<;>try (exact he.elim)
 rename_i t ht
 have hS:=getG_sound hG ht
 have hfr:=h.rel x
 have hfn:=h.nm x
 rw[hf] at hfr hfn
 have e1:a.eval x = .func (.func g) #[] (cs.map σ).toArray:=hfr.1
 obtain⟨hr1,hm1⟩:=atsOf_rel hxs (rels_map_eval h c.args.toList)
 obtain⟨σ1,φ1,gr,hr1,hn1⟩:=nilArgs_sound h.ok (w:=w) xs c.argTypes.toList h.sat hr1 (fun y hy m hm=>by
  obtain⟨q,_,hq⟩:=List.mem_map.1 (hm1 y hy)
  exact h.nm q m (by rw[hq];exact hm))
 have hcs:cs.map σ=cs.map σ1:=List.map_congr_left fun n hn=>(gr.agree n (hfn n hn)).symm
 have hr2:Rels (TV.rel σ1) ((nilArgs C H xs c.argTypes.toList).1++cs.map fun n=>.at (.ptr n 0)) (c.args.toList.map a.eval++cs.map σ):=hr1.append ⟨by simp,fun i y v hy hv=>by
  rw[List.getElem?_map] at hy hv
  cases hi:cs[i]? with
  | none=>rw[hi] at hy;cases hy
  | some n =>
   rw[hi] at hy hv
   simp only[Option.map_some,Option.some.injEq] at hy hv
   subst hy hv
   obtain⟨b,hb⟩:=hfr.2 n (List.mem_of_getElem? hi)
   exact⟨b,(gr.agree n (hfn n (List.mem_of_getElem? hi))).trans hb,hb⟩⟩
 have hcl:∀ y∈(nilArgs C H xs c.argTypes.toList).1++cs.map (fun n=>TV.at (.ptr n 0)),∀ m∈y.names,m<(nilArgs C H xs c.argTypes.toList).2.length:=fun y hy m hm=>by
  rcases List.mem_append.1 hy with hy|hy
  ·exact hn1 y hy m hm
  ·obtain⟨n,hn,rfl⟩:=List.mem_map.1 hy
   simp[TV.names,At.names] at hm
   subst hm
   exact Nat.lt_of_lt_of_le (hfn m hn) gr.len
 have hC:=hS.call _ _ _ he σ1 φ1 w _ gr.sat hr2 hcl
 have hrun:(execOp a.eval o).run C.P w = .ok (.enter g (c.args.toList.map a.eval++cs.map σ).toArray) w:=by
  have:=hS.enter (c.args.map a.eval++(cs.map σ).toArray) w
  have e2:(c.args.toList.map a.eval++cs.map σ).toArray=c.args.map a.eval++(cs.map σ).toArray:=by
   apply Array.ext'
   simp
  rw[e2]
  simp[execOp,ho,resolve,hcal,e1,Deferred.ofValue,invoke,this]
 unfold Oper.wp
 rw[hrun]
 refine Calls.mono hC fun e w' hh=>?_
 cases e with
 | panicked ch=>exact hh.elim
 | outgrown=>exact hh.elim
 | returned v =>
  obtain⟨r,H',ts,σ',φ',hout,hK⟩:=hh
  refine⟨ts,_,H',σ',φ',⟨put_rel ?_ hout.rel o.dst,fun y hy m hm=>?_,hout.sat,⟨hout.adv.os,hout.adv.tape,hout.adv.output,hout.adv.size,fun k hk hn=>hout.adv.fr k hk fun n hh=>hn n (gr.sub n k hh),fun n b hb=>(hout.adv.grow n b hb).imp (fun ⟨m,hm⟩=>⟨m,gr.sub m b hm⟩) id⟩,
   Nat.le_trans gr.len hout.len,put_defers _ _,fun n hn ho=>(hout.agree n (Nat.lt_of_lt_of_le hn gr.len) (.inl ?_)).trans (gr.agree n hn),fun n hn ho=>gr.own n hn (hout.own n (Nat.lt_of_lt_of_le hn gr.len) ho),fun n hn hts=>?_,fun n hn hts=>(hout.agree n (Nat.lt_of_lt_of_le hn gr.len) (.inr hts)).trans (gr.agree n hn)⟩,hK⟩
  ·refine (foldl_kill_rel _ h.tm).mono fun y v hy hr=>SV.rel_of hr fun m hm=>?_
   obtain⟨⟨z,hz,h1⟩,h2⟩:=foldl_kill_names _ y hy m hm
   have hmH:=h.tcl z hz m h1
   refine (hout.agree m (Nat.lt_of_lt_of_le hmH gr.len) ?_).trans (gr.agree m hmH)
   cases hown:isOwn (nilArgs C H xs c.argTypes.toList).2 m with
   | false=>exact .inl rfl
   | true=>exact .inr fun hts=>h2 (by simp[hts,hown])
  ·rcases setT_mem hy with hy|rfl
   ·obtain⟨⟨z,hz,h1⟩,_⟩:=foldl_kill_names _ y hy m hm
    exact Nat.lt_of_lt_of_le (h.tcl z hz m h1) (Nat.le_trans gr.len hout.len)
   ·exact hout.rcl m hm
  ·cases hown:isOwn (nilArgs C H xs c.argTypes.toList).2 n with
   | false=>rfl
   | true=>rw[gr.own n hn hown] at ho;cases ho
  ·have:=hout.touch n (Nat.lt_of_lt_of_le hn gr.len) hts
   exact⟨fun b=>(this.1 b).trans (gr.rdb n hn b),fun b hb=>this.2 b ((gr.rdb n hn b).2 hb)⟩

theorem setM_idx:∀ (l:List (Int × Int)) (k v:Int),setM l k v=match idxM l k with
  | some j=>l.set j (k,v)
  | none=>l++[(k,v)]
 | [],_,_=>rfl
 | p::r,k,v=>by
  unfold setM idxM
  by_cases c:p.1=k
  ·rw[if_pos c,if_pos c];rfl
  ·rw[if_neg c,if_neg c,setM_idx r k v]
   cases idxM r k<;>rfl
theorem idxM_get:∀ {l:List (Int × Int)} {k:Int} {j:Nat},idxM l k=some j->∃ v,l[j]?=some (k,v)
 | [],_,_,h=>by cases h
 | p::r,k,j,h=>by
  unfold idxM at h
  split at h
  ·rename_i c
   simp only[Option.some.injEq] at h
   subst h
   exact⟨p.2,by rw[← c];rfl⟩
  ·simp only[Option.map_eq_some_iff] at h
   obtain⟨j',h1,rfl⟩:=h
   obtain⟨v,hv⟩:=idxM_get h1
   exact⟨v,by simpa using hv⟩
theorem e_makeMap {t:TypeId}{r:Option Operand}(h:Pre C T H σ φ a w)(ho:o.op = .makeMap t r)(he:effS C Γ trunc T H o K):o.wp C.P a w (After C H σ φ a w K) Q:=by
 cases r with
 | some r=>simp[effS,ho] at he
 | none =>
 simp only[effS,ho] at he
 split at he<;>try (exact he.elim)
 rename_i kk vk hm
 refine wp_value (v:=.map (some w.heap.size)) (w':=w.alloc (.map #[] 0)) ?_ ⟨_,_,_,_,_,new_sound h.ok h (Grows.refl h.sat) (.map kk vk []) (.map (some w.heap.size)) (.slc _) _ o.dst (fun σ' hs=>?_) (fun m hm=>?_) (fun _ e=>(Ro.map e).elim) (fun σ' hs=>hs.symm) (fun m hm=>?_),he⟩
 ·have hr:(Instr.makeMap t none).run C.P w = .ok (.map (some w.heap.size)) (w.alloc (.map #[] 0)):=rfl
  simp[execOp,ho,hr]
 ·exact⟨w.heap.size,#[],0,rfl,fun _=>Iff.rfl,heap_alloc_new w _,rfl⟩
 ·simp[Chunk.names] at hm
 ·simpa [At.names] using hm
theorem e_mapUpdate {t:TypeId}{x i y:Operand}(h:Pre C T H σ φ a w)(ho:o.op = .mapUpdate t x i y)(he:effS C Γ trunc T H o K):o.wp C.P a w (After C H σ φ a w K) Q:=by
 have hx:=h.rel x
 have hi:=h.rel i
 have hy:=h.rel y
 simp only[effS,ho] at he
 split at he<;>try (exact he.elim)
 rename_i kk vk n k' j v' z hm hc hci hcy
 split at he<;>try (exact he.elim)
 rename_i ka va l hH
 split at he<;>try (exact he.elim)
 rename_i hk
 obtain⟨rfl,rfl,rfl,rfl⟩:=hk
 rw[hc] at hx
 rw[hci] at hi
 rw[hcy] at hy
 have ex:a.eval x=σ n:=hx
 have ei:a.eval i = .int k' j:=hi
 have ey:a.eval y = .int v' z:=hy
 have hn:n<H.length:=(List.getElem?_eq_some_iff.1 hH).1
 obtain⟨b,es,ck,e1,e2,e3,e4⟩:=h.sat.holds n _ hH
 obtain⟨kt,et,m1,m2,m3⟩:=mapK_spec hm
 have hf:=findNow_map (kk:=k') (vk:=v') j es.toList l 0 e4
 have ck1:=MapKept.run_checkKey (P:=C.P) (w:=w) (kt:=kt) (k:=.int k' j) m2 (show MapKept.IsKey (.int k') (.int k' j) from rfl) false 9999
 have fk:=MapKept.run_findKey (P:=C.P) (w:=w) m2 hf
 have hgo:∀ es' ck',es'.toList.map (fun e=>(e.key,e.val))=(setM l j z).map (fun p=>(Value.int k' p.1,Value.int v' p.2))->(Instr.mapUpdate t (.map (some b)) (.int k' j) (.int v' z)).run C.P w = .ok () { w with heap:=w.heap.setIfInBounds b (.map es' ck') } →
   o.wp C.P a w (After C H σ φ a w K) Q:=fun es' ck' hes hrun=>by
  have hb:b<w.heap.size:=(Array.getElem?_eq_some_iff.1 e3).1
  refine wp_skip_ (w':={ w with heap:=w.heap.setIfInBounds b (.map es' ck') }) ?_ ⟨_,_,_,_,_,upd_sound h.ok h hn (.map k' v' (setM l j z)) o.dst (by simp) rfl rfl rfl (fun q hq=>?_) ?_ (fun m hm=>?_) (fun _ e=>Ro.map e) (fun ho=>?_),he⟩
  ·simp[execOp,ho,ex,ei,ey,e1,hrun]
  ·have:¬ b=q:=fun e=>hq ((e2 q).2 e.symm)
   simp[this]
  ·refine⟨b,es',ck',e1,e2,?_,hes⟩
   simp[hb]
  ·simp[Chunk.names] at hm
  ·simp[isOwn,List.getElem?_set_self hn] at ho
 have hs:=setM_idx l j z
 cases hj:idxM l j with
 | none =>
  rw[hj] at fk hs
  refine hgo (es.push ⟨.int k' j,.int v' z,ck⟩) (ck+1) ?_ ?_
  ·rw[hs,Array.toList_push,List.map_append,e4,List.map_append];rfl
  ·simp[Instr.mapUpdate,run_underlying m1,MapKept.run_getObj_map e3,ck1,fk,MapKept.run_setObj_map _ e3,Result.andThen]
 | some q =>
  rw[hj] at fk hs
  obtain⟨v0,hv0⟩:=idxM_get hj
  have hq:(es.toList.map fun e=>(e.key,e.val))[q]?=some (Value.int k' j,Value.int v' v0):=by rw[e4,List.getElem?_map,hv0];rfl
  rw[List.getElem?_map,Option.map_eq_some_iff] at hq
  obtain⟨e0,he0,hkv⟩:=hq
  simp only[Prod.mk.injEq] at hkv
  have he0':es[q]?=some e0:=by simpa using he0
  refine hgo (es.modify q fun e=>{ e with key:=.int k' j,val:=.int v' z }) ck ?_ ?_
  ·rw[hs,Array.toList_modify,ChangeMaps.modify_eq_set _ _ _ _ he0,List.map_set,e4,List.map_set]
  ·have ks:(Instr.keyThatStays (.int k' j) (.int k' j)).run C.P w = .ok (.int k' j) w:=MapKept.run_keyThatStays (d:=.int k') rfl
   simp[Instr.mapUpdate,run_underlying m1,MapKept.run_getObj_map e3,ck1,fk,he0',hkv.1,ks,MapKept.run_setObj_map _ e3,Result.andThen]

theorem isU8_spec {e:C.EC}(h:isU8 C e=true):C.P.underlying (C.tid e)=some (.int .u8):=by
 unfold isU8 at h
 split at h
 ·assumption
 ·cases h
theorem e_convert {t t':TypeId}{x:Operand}(h:Pre C T H σ φ a w)(ho:o.op = .convert t t' x)(he:effS C Γ trunc T H o K):o.wp C.P a w (After C H σ φ a w K) Q:=by
 have hx:=h.rel x
 simp only[effS,ho] at he
 split at he<;>try (exact he.elim)
 rename_i n hcx
 rw[hcx] at hx
 split at he<;>try (exact he.elim)
 rename_i e l hH
 split at he<;>try (exact he.elim)
 rename_i hc
 obtain⟨rfl,hec,hu8⟩:=hc
 obtain⟨hpos,hK⟩:=he
 have ex:a.eval x=σ n:=hx
 obtain⟨q1,q3⟩:=h.sat.holds n _ hH
 obtain⟨w',hr,hown,hgr,hsz⟩:=convert_R (P:=C.P) t (C.tid e) (C.sz e) (isEC_spec h.ok hec) (isU8_spec hu8) q1 hpos
 refine wp_value (v:=σ n) (w':=w') (by simp[execOp,ho,ex,hr]) ⟨_,_,_,_,_,ren_sound h.ok h (Grows.refl h.sat) hH (l':=l) (v':=σ n) (f':=φ n) o.dst (by omega) hgr.os hgr.tape hgr.output (fun k hk hno=>hgr.block k hk fun e'=>hno ((q3 k).2 e'.symm)) hown q3 (fun b hb=>.inl hb),hK⟩

theorem effS_sound (hG:GOK C Γ)(h:Pre C T H σ φ a w)(he:effS C Γ trunc T H o K):o.wp C.P a w (After C H σ φ a w K) Q:=by
 cases ho:o.op with
 | alloc t=>exact e_alloc h ho he
 | box t x=>exact e_box h ho he
 | store t x y=>exact e_store h ho he
 | makeSlice t l c=>exact e_makeSlice h ho he
 | buildSlice t n parts=>exact e_buildSlice h ho he
 | makeMap t r=>exact e_makeMap h ho he
 | mapUpdate t x i y=>exact e_mapUpdate h ho he
 | convert t t' x=>exact e_convert h ho he
 | slice t x lo hi mx =>
  cases lo<;>cases hi<;>cases mx<;>first
   | (simp[effS,ho] at he;done)
   | exact e_trunc h ho he
 | call c =>
  cases hcal:c.callee with
  | value x=>exact e_callf hG h ho hcal he trivial
  | invoke r m=>simp[effS,ho,hcal] at he
  | builtin b =>
   cases b<;>try (simp[effS,ho,hcal] at he;done)
   have he':=he
   simp only[effS,ho,hcal] at he'
   split at he'<;>try (exact he'.elim)
   rename_i x y t t' hargs hty
   split at he'<;>try (exact he'.elim)
   rename_i htt
   subst htt
   obtain⟨σ1,φ1,g,hr1,hn1⟩:=nilFix_sound h.ok h.sat t (h.rel x) (h.nm x)
   split at he'<;>try (exact he'.elim)
   rename_i n e0 hfx hec
   rw[hfx] at hr1
   have hx:a.eval x=σ1 n:=hr1
   split at he'<;>try (exact he'.elim)
   case h_2 =>
    rename_i hh e ll hH
    split at he'<;>try (exact he'.elim)
    rename_i hee _
    subst hee
    have hy:=h.rel y
    split at he'<;>try (exact he'.elim)
    rename_i m hcy
    rw[hcy] at hy
    split at he'<;>try (exact he'.elim)
    rename_i hmn
    split at he'<;>try (exact he'.elim)
    rename_i h2 e' l' hHm
    split at he'<;>try (exact he'.elim)
    rename_i hee' _
    subst hee'
    have ny:=h.nm y
    rw[hcy] at ny
    have hmlt:m<H.length:=ny m (by simp[SV.names,TV.names,At.names])
    have ey:a.eval y=σ1 m:=by rw[g.agree m hmlt];exact hy
    exact e_appendR h ho hcal hargs hty g hx hH hec ey hHm he'.1 he'.2
   rename_i e l hH
   split at he'<;>try (exact he'.elim)
   rename_i hee _
   subst hee
   have hy:=h.rel y
   split at he'
   ·rename_i hcy
    rw[hcy] at hy
    have ey:a.eval y = .slice none 0 0:=hy
    exact e_append h ho hcal hargs hty g hx hH hec ey (Rd.nil (h.ok.len e0)) (fun h=>absurd rfl h) (by simpa using he')
   ·rename_i m hcy
    rw[hcy] at hy
    split at he'<;>try (exact he'.elim)
    rename_i hmn
    split at he'<;>try (exact he'.elim)
    rename_i own e' l' hHm
    split at he'<;>try (exact he'.elim)
    rename_i hee' _
    subst hee'
    have ny:=h.nm y
    rw[hcy] at ny
    have hmlt:m<H.length:=ny m (by simp[SV.names,TV.names,At.names])
    have ey:a.eval y=σ m:=hy
    obtain⟨A,c',h1,h2⟩:=(g.sat.holds m _ hHm).rd h.ok
    rw[g.agree m hmlt] at h1
    exact e_append h ho hcal hargs hty g hx hH hec (ey.trans h1) h2 (fun _=>he'.1) he'.2
   ·exact he'.elim
 | _=>simp[effS,ho] at he
end
end Go.Proofs.YtedfbafngmicpaaGreat.Sx
end
