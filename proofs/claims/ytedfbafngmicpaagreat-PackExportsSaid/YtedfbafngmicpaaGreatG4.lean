/- A part of the proof. -/
import Derived.Test.YtedfbafngmicpaaGreatG3
import Derived.Test.YtedfbafngmicpaaGreatG1
import Derived.Test.YtedfbafngmicpaaGreatProg
import Derived.Test.YtedfbafngmicpaaGreatChecked
import Derived.Conc.MuLone
section
/- The rule of the frame, end. No program in sight. -/
namespace Go.Proofs.YtedfbafngmicpaaGreat.Sx
open Go

section
variable {C:Ctx}
variable {H H' H1:List (Chunk C)} {σ σ' σ1:Nat->Value} {φ φ' φ1:Nat->Nat->Prop} {w w':World}

def backσ (Tn L:List Nat) (h0:Nat) (σ σ1:Nat->Value) (n:Nat):Value:=if n < h0 then (match idxOf n Tn with | some k=>σ1 k | none=>σ n) else σ1 (n - h0+L.length)
def backφ (Tn L:List Nat) (h0:Nat) (φ φ1:Nat->Nat->Prop) (n b:Nat):Prop:=if n < h0 then (match idxOf n Tn with | some k=>φ1 k b | none=>φ n b) else φ1 (n - h0+L.length) b

theorem locH_get {Tn Ln:List Nat} {k n:Nat} (hT:∀ n ∈ Tn,n < H.length) (h:Tn[k]?=some n):(locH Tn Ln H)[k]?=(H[n]?).map (Chunk.ren fun n=>idxOf n Tn):=by
 have hk:=(List.getElem?_eq_some_iff.1 h).1
 unfold locH
 rw [List.getElem?_append_left (by simpa [pickH] using hk)]
 unfold pickH
 rw [List.getElem?_map,h,getD_some (d:=.gone) (hT n (List.mem_of_getElem? h))]
 rfl
theorem frame_out (hC:C.OK) (h:Sat C σ φ w H) {Tn Ln:List Nat} (hnd:Tn.Nodup) (hT:∀ n ∈ Tn,n < H.length) (hL:∀ n ∈ Ln,n < H.length) (hok:okLent Tn Ln H=true) {ts:List Nat} {r:SV} {v:Value}
  (g:COut C (locH Tn Ln H) (fun k=>σ ((Tn ++ Ln).getD k 0)) (fun k b=>k < Tn.length/\φ ((Tn ++ Ln).getD k 0) b) w ts r v H1 σ1 φ1 w')
  (hoo:okOut Tn.length (Tn ++ Ln).length (locH Tn Ln H) H1 ts=true) :
  COut C H σ φ w (ts.filterMap (Tn[·]?)) (r.ren (backN (Tn ++ Ln) H.length)) v (backH Tn (Tn ++ Ln) (ts.filterMap (Tn[·]?)) H H1) (backσ Tn (Tn ++ Ln) H.length σ σ1) (backφ Tn (Tn ++ Ln) H.length φ φ1) w':=by
 have hl0:(locH Tn Ln H).length=(Tn ++ Ln).length:=by simp [locH,pickH]
 have hn0:(Tn ++ Ln).length<=H1.length:=hl0 ▸ g.len
 have htl:Tn.length<=(Tn ++ Ln).length:=by simp
 have hgl:∀ {k n:Nat},Tn[k]?=some n->(Tn ++ Ln).getD k 0=n:=fun {k n} hk=>by
  simp [List.getD_eq_getElem?_getD,List.getElem?_append_left (List.getElem?_eq_some_iff.1 hk).1,hk]
 have hts:∀ {k n:Nat},Tn[k]?=some n->n ∉ ts.filterMap (Tn[·]?)->k ∉ ts:=fun {k n} hk hn hh=>hn (List.mem_filterMap.2 ⟨k,hh,hk⟩)
 have hown:∀ {k n:Nat},Tn[k]?=some n->isOwn (locH Tn Ln H) k=isOwn H n:=fun {k n} hk=>isOwn_ren (locH_get hT hk)
 have hks:∀ {k n:Nat},Tn[k]?=some n->k < (locH Tn Ln H).length:=fun {k n} hk=>by
  have:=(List.getElem?_eq_some_iff.1 hk).1;omega
 have hsame:∀ {k n:Nat},Tn[k]?=some n->isOwn H n=false ∨ n ∉ ts.filterMap (Tn[·]?)->σ1 k=σ n:=fun {k n} hk ho=>by
  have:=g.agree k (hks hk) (ho.imp (fun e=>(hown hk).trans e) (hts hk))
  rw [this,hgl hk]
 have hblen:(backH Tn (Tn ++ Ln) (ts.filterMap (Tn[·]?)) H H1).length=H.length+(H1.length - (Tn ++ Ln).length):=by simp [backH]
 have hbin:∀ {n k:Nat},idxOf n Tn=some k->(backH Tn (Tn ++ Ln) (ts.filterMap (Tn[·]?)) H H1)[n]?=(H1[k]?).map (Chunk.ren (backN (Tn ++ Ln) H.length)):=fun {n k} hk=>by
  have hn:=hT n (List.mem_of_getElem? (idxOf_spec hk))
  have:=hks (idxOf_spec hk)
  unfold backH
  rw [List.getElem?_append_left (by simpa using hn),List.getElem?_map,List.getElem?_range hn]
  simp only [Option.map_some,hk]
  rw [getD_some (d:=.gone) (l:=H1) (i:=k) (by omega)]
  rfl
 have hbno:∀ {n:Nat},n < H.length->idxOf n Tn=none->(backH Tn (Tn ++ Ln) (ts.filterMap (Tn[·]?)) H H1)[n]?=(killsH ((ts.filterMap (Tn[·]?)).filter (isOwn H)) H)[n]?:=fun {n} hn hk=>by
  unfold backH
  rw [List.getElem?_append_left (by simpa using hn),List.getElem?_map,List.getElem?_range hn]
  simp only [Option.map_some,hk]
  rw [← getD_some (by rw [killsH_length];exact hn)]
 have hbnew:∀ {n:Nat},H.length<=n->(backH Tn (Tn ++ Ln) (ts.filterMap (Tn[·]?)) H H1)[n]?=(H1[n - H.length+(Tn ++ Ln).length]?).map (Chunk.ren (backN (Tn ++ Ln) H.length)):=fun {n} hn=>by
  unfold backH
  rw [List.getElem?_append_right (by simpa using hn),List.getElem?_map,List.getElem?_drop]
  simp only [List.length_map,List.length_range,Nat.add_comm]
 -- the source of a name that was handed over or is new
 have src:∀ n,(n ∈ Tn ∨ H.length<=n)->∃ k,backσ Tn (Tn ++ Ln) H.length σ σ1 n=σ1 k/\(∀ b,backφ Tn (Tn ++ Ln) H.length φ φ1 n b ↔ φ1 k b) ∧
   (backH Tn (Tn ++ Ln) (ts.filterMap (Tn[·]?)) H H1)[n]?=(H1[k]?).map (Chunk.ren (backN (Tn ++ Ln) H.length))/\((Tn[k]?=some n/\n < H.length) ∨ ((Tn ++ Ln).length<=k/\n=H.length+(k - (Tn ++ Ln).length))):=by
  intro n hn
  by_cases hlt:n < H.length
  ·have hmem:n ∈ Tn:=hn.resolve_right (by omega)
   cases hi:idxOf n Tn with
   | none=>exact absurd hmem (idxOf_none hi)
   | some k=>exact ⟨k,by simp [backσ,hlt,hi],fun b=>by simp [backφ,hlt,hi],hbin hi,.inl ⟨idxOf_spec hi,hlt⟩⟩
  ·exact ⟨n - H.length+(Tn ++ Ln).length,by simp only [backσ,if_neg hlt],fun b=>by simp only [backφ,if_neg hlt],hbnew (by omega),.inr ⟨by omega,by omega⟩⟩
 have hno:∀ n,¬ (n ∈ Tn ∨ H.length<=n)->n < H.length/\idxOf n Tn=none:=fun n hn=>by
  have h1:n ∉ Tn:=fun e=>hn (.inl e)
  refine ⟨by have:¬ H.length<=n:=fun e=>hn (.inr e);omega,?_⟩
  cases hi:idxOf n Tn with
  | none=>rfl
  | some k=>exact absurd (List.mem_of_getElem? (idxOf_spec hi)) h1
 have hρ:∀ j m,backN (Tn ++ Ln) H.length j=some m->backσ Tn (Tn ++ Ln) H.length σ σ1 m=σ1 j:=by
  intro j m hjm
  unfold backN at hjm
  split at hjm
  ·rename_i n hn
   simp only [Option.some.injEq] at hjm
   subst hjm
   rcases Nat.lt_or_ge j Tn.length with hj | hj
   ·rw [List.getElem?_append_left hj] at hn
    simp [backσ,hT n (List.mem_of_getElem? hn),idxOf_nodup hnd hn]
   ·have hjl:=(List.getElem?_eq_some_iff.1 hn).1
    have hn':=hn
    rw [List.getElem?_append_right hj] at hn
    have hnl:=hL n (List.mem_of_getElem? hn)
    have hlent:isOwn (locH Tn Ln H) j=false:=by
     unfold isOwn locH
     rw [List.getElem?_append_right (by simpa [pickH] using hj)]
     simp only [pickH,List.length_map,List.getElem?_map,hn,Option.map_some]
     cases H.getD n .gone <;> rfl
    have hj1:σ1 j=σ n:=by
     rw [g.agree j (by omega) (.inl hlent)]
     simp [List.getD_eq_getElem?_getD,hn']
    rw [hj1]
    unfold backσ
    rw [if_pos hnl]
    split
    ·rename_i k hk
     refine hsame (idxOf_spec hk) (.inl ?_)
     have:=List.all_eq_true.1 hok n (List.mem_of_getElem? hn)
     have hmem:=List.mem_of_getElem? (idxOf_spec hk)
     simpa [hmem] using this
    ·rfl
  ·rename_i hj
   simp only [Option.some.injEq] at hjm
   subst hjm
   have:(Tn ++ Ln).length<=j:=List.getElem?_eq_none_iff.1 hj
   unfold backσ
   rw [if_neg (by omega)]
   congr 1
   omega
 have hren:∀ j m,backN (Tn ++ Ln) H.length j=some m->j < H1.length->m < H.length+(H1.length - (Tn ++ Ln).length):=by
  intro j m hjm hj
  unfold backN at hjm
  split at hjm
  ·rename_i n hn
   simp only [Option.some.injEq] at hjm
   subst hjm
   rcases List.mem_append.1 (List.mem_of_getElem? hn) with hn | hn
   ·have:=hT n hn;omega
   ·have:=hL n hn;omega
  ·rename_i hj'
   simp only [Option.some.injEq] at hjm
   subst hjm
   have:(Tn ++ Ln).length<=j:=List.getElem?_eq_none_iff.1 hj'
   omega
 have hfrl:∀ b,b < w.heap.size->(∀ n,(n ∈ Tn ∨ H.length<=n)->¬ φ n b)->w'.heap[b]?=w.heap[b]?:=fun b hb hno=>g.adv.fr b hb fun k hk=>by
  have:=getD_some (d:=0) hk.1
  rw [hgl this] at hk
  exact hno _ (.inl (List.mem_of_getElem? this)) hk.2
 have hold':∀ n,¬ (n ∈ Tn ∨ H.length<=n)->backσ Tn (Tn ++ Ln) H.length σ σ1 n=σ n/\∀ b,backφ Tn (Tn ++ Ln) H.length φ φ1 n b ↔ φ n b:=fun n hn=>by
  obtain ⟨h1,h2⟩:=hno n hn
  exact ⟨by simp [backσ,h1,h2],fun b=>by simp [backφ,h1,h2]⟩
 have hgrow:∀ n b,(n ∈ Tn ∨ H.length<=n)->backφ Tn (Tn ++ Ln) H.length φ φ1 n b->(∃ m,(m ∈ Tn ∨ H.length<=m)/\φ m b) ∨ w.heap.size<=b:=fun n b hn hb=>by
  obtain ⟨k,_,h2,_⟩:=src n hn
  rcases g.adv.grow k b ((h2 b).1 hb) with ⟨m,hm⟩ | hle
  ·have:=getD_some (d:=0) hm.1
   rw [hgl this] at hm
   exact .inl ⟨_,.inl (List.mem_of_getElem? this),hm.2⟩
  ·exact .inr hle
 have hagree:∀ n,n < H.length->isOwn H n=false ∨ n ∉ ts.filterMap (Tn[·]?)->backσ Tn (Tn ++ Ln) H.length σ σ1 n=σ n:=fun n hn ho=>by
  unfold backσ
  rw [if_pos hn]
  split
  ·rename_i k hk;exact hsame (idxOf_spec hk) ho
  ·rfl
 obtain ⟨hoo1,hoo23⟩:=Bool.and_eq_true_iff.1 hoo
 obtain ⟨hoo2,hoo3⟩:=Bool.and_eq_true_iff.1 hoo23
 have hsat:Sat C (backσ Tn (Tn ++ Ln) H.length σ σ1) (backφ Tn (Tn ++ Ln) H.length φ φ1) w' (backH Tn (Tn ++ Ln) (ts.filterMap (Tn[·]?)) H H1):=by
  refine (h.kills ((ts.filterMap (Tn[·]?)).filter (isOwn H))).step hC (fun n=>n ∈ Tn ∨ H.length<=n) g.adv.size hfrl (fun n hn=>⟨hbno (hno n hn).1 (hno n hn).2,hold' n hn⟩) (fun n c hn hc m hm=>?_) (fun n c hn hc=>?_)
   hgrow (fun n m b hn hm hb hb'=>?_) (fun n b hn hb=>?_) (fun n c hn hc b hb m hm=>?_) (fun n hn b hb=>?_) (by rw [killsH_length,hblen];omega) (fun n c hn hc m hm=>?_)
  ·have hlt:=(h.kills ((ts.filterMap (Tn[·]?)).filter (isOwn H))).cl n c hc m hm
   rw [killsH_length] at hlt
   refine hagree m hlt ?_
   have:=killsH_get _ hc m hm
   rw [List.mem_filter] at this
   by_cases hm':m ∈ ts.filterMap (Tn[·]?)
   ·refine .inl ?_
    cases hx:isOwn H m with
    | false=>rfl
    | true=>exact absurd ⟨hm',hx⟩ this
   ·exact .inr hm'
  ·obtain ⟨k,h1,h2,h3,_⟩:=src n hn
   rw [h3,Option.map_eq_some_iff] at hc
   obtain ⟨c0,hc0,rfl⟩:=hc
   rw [h1,show backφ Tn (Tn ++ Ln) H.length φ φ1 n=φ1 k from funext fun b=>propext (h2 b)]
   exact (g.sat.holds k c0 hc0).ren hρ
  ·obtain ⟨k,_,h2,_,h4⟩:=src n hn
   obtain ⟨k',_,h2',_,h4'⟩:=src m hm
   have:=g.sat.dis k k' b ((h2 b).1 hb) ((h2' b).1 hb')
   subst this
   rcases h4 with ⟨h4,_⟩ | ⟨h4,h5⟩ <;> rcases h4' with ⟨h4',_⟩ | ⟨h4',h5'⟩
   ·exact Option.some.inj (h4.symm.trans h4')
   ·have:=(List.getElem?_eq_some_iff.1 h4).1;omega
   ·have:=(List.getElem?_eq_some_iff.1 h4').1;omega
   ·omega
  ·obtain ⟨k,_,h2,_⟩:=src n hn
   exact g.sat.bd k b ((h2 b).1 hb)
  ·obtain ⟨k,h1,h2,h3,h4⟩:=src n hn
   rw [h3,Option.map_eq_some_iff] at hc
   obtain ⟨c0,hc0,rfl⟩:=hc
   rw [h1] at hb
   have hb:=Ro.ren.1 hb
   match c0,hb with
   | .rows _ _ _,_ =>
    have:=List.all_eq_true.1 hoo3 _ (List.mem_of_getElem? hc0)
    simp [isRows] at this
   | .gone,hb | .box _,hb | .abs _,hb | .map _ _ _,hb | .arr _ _,hb | .row true _ _,hb=>exact hb.elim
   | .row false e l,hb =>
   obtain ⟨hpos,hb⟩:=hb
   by_cases hmS:m ∈ Tn ∨ H.length<=m
   ·obtain ⟨k',_,h2',_⟩:=src m hmS
    exact g.sat.immr k e l hc0 hpos b hb k' ((h2' b).1 hm)
   ·have hm2:=((hold' m hmS).2 b).1 hm
    rcases h4 with ⟨h4,hlt⟩ | ⟨h4,_⟩
    ·have hk:=(List.getElem?_eq_some_iff.1 h4).1
     have hkk:=List.all_eq_true.1 hoo1 k (List.mem_range.2 hk)
     have e1:isRow0 (H1.getD k .gone)=true:=by
      have:H1.getD k .gone = .row false e l:=by simp [List.getD_eq_getElem?_getD,hc0]
      rw [this];rfl
     rw [e1] at hkk
     simp only [Bool.not_true,Bool.false_or,Bool.or_eq_true,Bool.and_eq_true] at hkk
     have hHn:=getD_some (d:=.gone) hlt
     have hHl:=locH_get (Ln:=Ln) hT h4
     rw [hHn] at hHl
     have hgd:(locH Tn Ln H).getD k .gone=(H.getD n .gone).ren (fun n=>idxOf n Tn):=by
      rw [List.getD_eq_getElem?_getD,hHl];rfl
     rcases hkk with hkk | ⟨hk1,hk2⟩
     ·rw [hgd] at hkk
      generalize H.getD n .gone=c at *
      match c,hkk,hHn with
      | .row false e' l',_,hHn =>
       have hnown:isOwn H n=false:=by simp [isOwn,hHn]
       have hσ:=hsame h4 (.inl hnown)
       rw [hσ] at hb
       refine h.immr n e' l' hHn ?_ b hb m hm2
       have i1:=(g.sat.holds k _ hc0).1
       have i2:=(h.holds n _ hHn).1
       obtain ⟨A,c,e1,_⟩:=i1
       obtain ⟨A',c',e2,_⟩:=i2
       rw [hσ,e2] at e1
       simp only [Value.slice.injEq] at e1
       omega
     ·have hk2':k ∉ ts:=by simpa using hk2
      rw [hown h4] at hk1
      have hφn:∀ b,φ n b ↔ (σ n).ownBlock=some b:=by
       rcases isOwn_some.1 hk1 with ⟨e',l',hHo⟩ | ⟨a',e',l',hHo⟩
       ·exact (h.holds n _ hHo).2
       ·exact (h.holds n _ hHo).2.2
      have hσ:σ1 k=σ n:=by
       rw [g.agree k (hks h4) (.inr hk2'),hgl h4]
      rw [hσ] at hb
      have:=(hφn b).2 hb
      have:=h.dis m n b hm2 this
      subst this
      exact hmS (.inl (List.mem_of_getElem? h4))
    ·have hmem:Chunk.row false e l ∈ H1.drop (Tn ++ Ln).length:=by
      refine List.mem_of_getElem? (i:=k - (Tn ++ Ln).length) ?_
      rw [List.getElem?_drop]
      rw [show (Tn ++ Ln).length+(k - (Tn ++ Ln).length)=k by omega]
      exact hc0
     have:=List.all_eq_true.1 hoo2 _ hmem
     simp [isRow0] at this
  ·rw [hblen] at hn
   unfold backφ at hb
   rw [if_neg (by omega)] at hb
   exact g.sat.out _ (by omega) b hb
  ·obtain ⟨k,h1,h2,h3,h4⟩:=src n hn
   rw [h3,Option.map_eq_some_iff] at hc
   obtain ⟨c0,hc0,rfl⟩:=hc
   obtain ⟨j,hj,e⟩:=Chunk.ren_names m hm
   rw [hblen]
   exact hren j m e (g.sat.cl k c0 hc0 j hj)
 refine ⟨SV.ren_rel hρ g.rel,fun m hm=>?_,hsat,⟨g.adv.os,g.adv.tape,g.adv.output,g.adv.size,fun k hk hn=>hfrl k hk fun n _=>hn n,fun n b hb=>?_⟩,by rw [hblen];omega,hagree,fun n hn ho=>?_,fun n hn hnt=>?_⟩
 ·obtain ⟨j,hj,e⟩:=SV.ren_names m hm
  rw [hblen]
  exact hren j m e (g.rcl j hj)
 ·by_cases hS:n ∈ Tn ∨ H.length<=n
  ·rcases hgrow n b hS hb with ⟨m,_,hm⟩ | hle
   ·exact .inl ⟨m,hm⟩
   ·exact .inr hle
  ·exact .inl ⟨n,((hold' n hS).2 b).1 hb⟩
 ·cases hi:idxOf n Tn with
  | some k =>
   rw [isOwn_ren (hbin hi)] at ho
   have:=g.own k (hks (idxOf_spec hi)) ho
   rw [hown (idxOf_spec hi)] at this
   exact this
  | none =>
   have:=hbno hn hi
   unfold isOwn at ho
   rw [this] at ho
   exact killsH_own ((ts.filterMap (Tn[·]?)).filter (isOwn H)) ▸ ho
 ·cases hi:idxOf n Tn with
  | some k =>
   obtain ⟨h1,h2⟩:=g.touch k (hks (idxOf_spec hi)) (hts (idxOf_spec hi) hnt)
   have hl:∀ b,Rdb (locH Tn Ln H) (fun k=>σ ((Tn ++ Ln).getD k 0)) k b ↔ Rdb H σ n b:=fun b=>Rdb.same (by simp only [hgl (idxOf_spec hi)]) (locH_get hT (idxOf_spec hi))
   refine ⟨fun b=>?_,fun b hb hlt=>h2 b ((hl b).2 hb) hlt⟩
   rw [← hl b,← h1 b]
   exact Rdb.same (by simp [backσ,hn,hi]) (hbin hi)
  | none =>
   have hS:¬ (n ∈ Tn ∨ H.length<=n):=fun hh=>by
    rcases hh with hh | hh
    ·exact idxOf_none hi hh
    ·omega
   refine ⟨fun b=>?_,fun b hb hlt=>hfrl b hlt fun m hm hφ=>hS (by rw [rdb_apart h hb hφ];exact hm)⟩
   rw [← killsH_rdb ((ts.filterMap (Tn[·]?)).filter (isOwn H)) (σ:=σ)]
   unfold Rdb
   rw [hbno hn hi,(hold' n hS).1]

theorem frame (hC:C.OK) {f:FuncId} {t:Tfm C} (ht:SoundT C f t) (ms:List Bool):SoundT C f (frameT ms t) where
 enter:=ht.enter
 call args H K hk:=by
  intro σ φ w vs hs hr hn
  unfold frameT at hk
  simp only at hk
  split at hk <;> try (exact hk.elim)
  rename_i hok
  obtain ⟨d1,⟨_,_⟩,d3⟩:=dedup_spec (rootsA ms args) [] List.nodup_nil
  obtain ⟨c1,_,c3⟩:=closeN_spec hs.cl 6 _ d1 fun n hn'=>by
   rcases d3 n hn' with h | h
   ·cases h
   ·obtain ⟨x,hx,hxn⟩:=rootsA_names args ms n h
    exact hn x hx n hxn
  generalize closeN H 6 (dedup [] (rootsA ms args))=Tn at *
  obtain ⟨x,l1,l2,l3,l4⟩:=locTs_spec (Tn:=Tn) args ms []
  have hx:(locTs Tn ms args []).2=x:=by simpa using l1
  rw [hx] at hk hok l3
  have hL:∀ n ∈ x,n < H.length:=fun n hnx=>by
   obtain ⟨a,ha,han⟩:=l2 n hnx
   exact hn a ha n han
  have hsl:=hs.loc hC c1 c3 hL hok
  have hrl:=l4 σ (fun k=>σ ((Tn ++ x).getD k 0)) [] (fun k n hkn=>by
   have:(Tn ++ x)[k]?=some n:=by simpa using hkn
   simp [List.getD_eq_getElem?_getD,this]) vs hr
  refine Calls.mono (ht.call _ _ _ hk _ _ w vs hsl hrl fun a ha m hm=>?_) fun e w' hh=>?_
  ·have:=l3 a ha m hm
   simpa [locH,pickH] using this
  ·cases e with
   | panicked ch=>exact hh.elim
   | outgrown=>exact hh.elim
   | returned v =>
    obtain ⟨r,H1,ts,σ1,φ1,hout,hK⟩:=hh
    split at hK <;> try (exact hK.elim)
    rename_i hoo
    exact ⟨_,_,_,_,_,frame_out hC hs c1 c3 hL hok hout hoo,hK⟩
/-- Every row is of a length that the machine bears. -/
def RowB (H:List (Chunk C)):Prop:=∀ (n:Nat) own e l,H[n]?=some (.row own e l)->l.length<=maxLen

theorem CallOK.rowB (hC:C.OK) {f:FuncId} {args:List TV} {K:SV->List (Chunk C)->List Nat->Prop} (h:RowB H->CallOK C f args H K):CallOK C f args H K:=by
 intro σ φ w vs hs hr hn
 refine h (fun n own e l hl=>?_) σ φ w vs hs hr hn
 obtain ⟨A,c,_,hrd⟩:=(hs.holds n _ hl).rd hC
 exact Nat.le_trans hrd.cap hrd.max
end
end Go.Proofs.YtedfbafngmicpaaGreat.Sx
end
section
/- Plain laws of patches: what each function of the patch layer comes to, on lists. No program in sight. -/
namespace Go.Proofs.YtedfbafngmicpaaGreat

structure Chg where
 kind:Int
 key:Int
 old:Int
 new:Int
 deriving DecidableEq

def Chg.before (c:Chg):Option Int:=if c.kind=1 then none else some c.old
def Chg.after (c:Chg):Option Int:=if c.kind=2 then none else some c.new

/-- The change of a key from one value to another one, if they differ. -/
def mkChg (k:Int) (x y:Option Int):Option Chg :=
 if x=y then none else match x,y with
  | none,none=>none
  | none,some v=>some ⟨1,k,0,v⟩
  | some u,none=>some ⟨2,k,u,0⟩
  | some u,some v=>some ⟨3,k,u,v⟩

/-- A change that is what its own values say. -/
def Chg.ok (c:Chg):Prop:=mkChg c.key c.before c.after=some c
instance (c:Chg):Decidable c.ok:=by unfold Chg.ok;infer_instance

theorem Chg.ok_ext {c d:Chg} (hc:c.ok) (hd:d.ok) (hk:c.key=d.key) (hb:c.before=d.before) (ha:c.after=d.after):c=d:=by
 unfold Chg.ok at hc hd
 rw [hk,hb,ha,hd] at hc
 exact (Option.some.inj hc).symm

/-- A valid patch. -/
def Val (p:List Chg):Prop:=Srt Chg.key p/\∀ c ∈ p,c.ok

/-! ### The patch between two lists -/
abbrev pEC:=pairs (Prod.fst:Ent->Int) Chg.key

/-- A valid patch is known by its changes' values, key by key. -/
theorem Val.ext {p q:List Chg} (hp:Val p) (hq:Val q) (h:∀ k,(fnd Chg.key p k).map (fun c=>(c.before,c.after))=(fnd Chg.key q k).map (fun c=>(c.before,c.after))):p=q:=by
 refine Srt.ext (key:=Chg.key) hp.1 hq.1 fun k=>?_
 have:=h k
 cases h1:fnd Chg.key p k with
 | none=>rw [h1] at this;cases h2:fnd Chg.key q k with
  | none=>rfl
  | some d=>rw [h2] at this;cases this
 | some c =>
  cases h2:fnd Chg.key q k with
  | none=>rw [h1,h2] at this;cases this
  | some d =>
   rw [h1,h2] at this
   simp at this
   rw [Chg.ok_ext (hp.2 c (fnd_mem h1)) (hq.2 d (fnd_mem h2)) ((fnd_key h1).trans (fnd_key h2).symm) this.1 this.2]

end Go.Proofs.YtedfbafngmicpaaGreat
end
section
/- The arena as plain data, and what its steps keep. No program in sight. -/
namespace Go.Proofs.YtedfbafngmicpaaGreat
open Go

structure NodeT where
 key:Int
 value:Int
 left:Int
 right:Int
 size:Int
 sum:Int
 min:Int
 max:Int
 deriving DecidableEq
def NodeT.zero:NodeT:=⟨0,0,0,0,0,0,0,0⟩
structure Arn where
 used:List Bool
 gen:List Int
 rel:List Int
 fresh:Int
 nodes:List NodeT
 counts:List Int
 reads:Int

theorem getD_set {α:Type} (l:List α) (i j:Nat) (x d:α):(l.set i x).getD j d=if i=j/\j < l.length then x else l.getD j d:=by
 simp only [List.getD_eq_getElem?_getD,List.getElem?_set]
 by_cases h:i=j
 ·subst h
  by_cases h2:i < l.length
  ·simp [h2]
  ·simp [h2]
 ·simp [h]
theorem countP_set' {α:Type} (p:α->Bool):∀ (l:List α) (i:Nat) (x d:α),i < l.length->(l.set i x).countP p+(if p (l.getD i d) then 1 else 0)=l.countP p+(if p x then 1 else 0):=by
 intro l
 induction l with
 | nil=>intro i x d h;simp at h
 | cons y t ih =>
  intro i x d h
  cases i with
  | zero=>simp [List.countP_cons];omega
  | succ i =>
   have:=ih i x d (by simpa using h)
   simp only [List.set_cons_succ,List.countP_cons,List.getD_cons_succ]
   omega

namespace Arn
def us (S:Arn) (i:Int):Bool:=S.used.getD i.toNat false
def nd (S:Arn) (i:Int):NodeT:=S.nodes.getD i.toNat NodeT.zero
def ct (S:Arn) (i:Int):Int:=S.counts.getD i.toNat 0
def gn (S:Arn) (i:Int):Int:=S.gen.getD i.toNat 0
def cap (S:Arn):Int:=S.used.length - 1
def free (S:Arn):Int:=S.rel.length+S.cap - S.fresh
def nu (S:Arn):Nat:=S.used.countP id
def indeg (S:Arn) (i:Int):Nat:=S.nodes.countP (fun x=>x.left == i)+S.nodes.countP (fun x=>x.right == i)
end Arn
def maxSize:Int:=2147483647

def addK (n x:NodeT):NodeT:={ n with size:=IntKind.i64.wrap (n.size+x.size),sum:=IntKind.i64.wrap (n.sum+x.sum),min:=if x.min < n.min then x.min else n.min,max:=if n.max < x.max then x.max else n.max }
def addC (S:Arn) (n:NodeT) (c:Int):NodeT:=if c=0 then n else addK n (S.nd c)
def mkNode (S:Arn) (k v l r:Int):NodeT:=addC S (addC S ⟨k,v,l,r,1,v,v,v⟩ l) r

/-- The arena is whole, and hs are the references held from outside. -/
structure Wf (S:Arn) (hs:List Int):Prop where
 n1:2<=S.used.length
 n2:S.used.length<=65537
 ngen:S.gen.length=S.used.length
 nnod:S.nodes.length=S.used.length
 ncnt:S.counts.length=S.used.length
 fr:0<=S.fresh/\S.fresh < S.used.length
 rel:∀ i ∈ S.rel,1<=i/\i<=S.fresh
 dup:S.rel.Nodup
 use:∀ i:Int,S.us i=true ↔ 1<=i/\i<=S.fresh/\i ∉ S.rel
 zero:∀ i:Int,S.us i=false->S.nd i=NodeT.zero
 kid:∀ i,S.us i=true->((S.nd i).left=0 ∨ S.us (S.nd i).left=true)/\((S.nd i).right=0 ∨ S.us (S.nd i).right=true)
 agg:∀ i,S.us i=true->S.nd i=mkNode S (S.nd i).key (S.nd i).value (S.nd i).left (S.nd i).right
 siz:∀ i,S.us i=true->1<=(S.nd i).size/\(S.nd i).size<=maxSize/\(S.nd i).size=1+(S.nd (S.nd i).left).size+(S.nd (S.nd i).right).size
 cnt:∀ i,S.us i=true->S.ct i=S.indeg i+hs.count i/\1<=S.ct i
 held:∀ i ∈ hs,i=0 ∨ S.us i=true
 few:hs.length+2 * S.nu<=2000000000
 nus:S.rel.length+S.nu=S.fresh.toNat
 rds:0<=S.reads/\S.reads<=4000000000000000000

variable {S:Arn} {hs:List Int}
theorem Wf.pos (h:Wf S hs) {i:Int} (hi:S.us i=true):1<=i/\i < S.used.length/\i.toNat < S.used.length:=by
 have:=(h.use i).1 hi
 have:=h.fr
 omega
theorem Wf.us0 (h:Wf S hs) {i:Int} (hi:i<=0):S.us i=false:=by
 cases hb:S.us i with
 | false=>rfl
 | true=>have:=(h.pos hb).1;omega
theorem Wf.nd0 (h:Wf S hs):S.nd 0=NodeT.zero:=h.zero 0 (h.us0 (Int.le_refl 0))
theorem Wf.size_nonneg (h:Wf S hs) (i:Int):0<=(S.nd i).size/\(S.nd i).size<=maxSize:=by
 cases hb:S.us i with
 | false=>rw [h.zero i hb];decide
 | true=>have:=h.siz i hb;omega

/-! ### Free slots -/
theorem Wf.nu_le (h:Wf S hs):S.nu<=65537:=by
 have:=List.countP_le_length (p:=id) (l:=S.used)
 have:=h.n2
 unfold Arn.nu;omega
theorem Wf.free_nonneg (h:Wf S hs):0<=S.free/\S.free<=65536/\(S.rel.length:Int)<=S.fresh/\S.free=S.cap - S.nu:=by
 have:=h.nus;have:=h.fr;have:=h.n2
 unfold Arn.free Arn.cap
 omega

/-! ### Reading -/
def rdS (S:Arn) (n:Nat):Arn:={ S with reads:=S.reads+n }
theorem Wf.rd (h:Wf S hs) {n:Nat} (hn:S.reads+n<=4000000000000000000):Wf (rdS S n) hs :=
 { h with rds:=⟨by have:=h.rds;show 0<=S.reads+(n:Int);omega,hn⟩ }

/-! ### A further reference -/
def bump (l:List Int) (i:Int):List Int:=l.set i.toNat (IntKind.i64.wrap (l.getD i.toNat 0+1))
def retA (S:Arn) (i:Int):Arn:={ S with counts:=bump S.counts i }
def decS (S:Arn) (i:Int):Arn:={ S with counts:=S.counts.set i.toNat (IntKind.i64.wrap (S.ct i - 1)) }
theorem bump_len (l:List Int) (i:Int):(bump l i).length=l.length:=by simp [bump]
theorem wrap_id {x:Int} (h1 : -9223372036854775808<=x) (h2:x<=9223372036854775807):IntKind.i64.wrap x=x:=by
 unfold IntKind.wrap
 simp [IntKind.signed,IntKind.bits]
 omega
theorem Wf.indeg_le (h:Wf S hs) (i:Int):S.indeg i<=131074:=by
 have h1:=List.countP_le_length (p:=fun x:NodeT=>x.left == i) (l:=S.nodes)
 have h2:=List.countP_le_length (p:=fun x:NodeT=>x.right == i) (l:=S.nodes)
 have:=h.nnod;have:=h.n2
 unfold Arn.indeg;omega
theorem Wf.ct_le (h:Wf S hs) {i:Int} (hi:S.us i=true):1<=S.ct i/\S.ct i<=2000200000:=by
 have h1:=h.cnt i hi
 have h2:=h.indeg_le i
 have h3:=List.count_le_length (a:=i) (l:=hs)
 have:=h.few
 omega
theorem Wf.ret (h:Wf S hs) {i:Int} (hi:S.us i=true) (hf:hs.length < 1000000000):Wf (retA S i) (i :: hs):=by
 have hp:=h.pos hi
 have hc:=h.ct_le hi
 refine { h with ncnt:=by show (bump S.counts i).length=_;rw [bump_len];exact h.ncnt,cnt:=fun j hj=>?_,held:=fun j hj=>?_,few:=by have:=h.nu_le;show (i :: hs).length+2 * S.nu<=_;simp;omega }
 ·have hj':S.us j=true:=hj
  have hpj:=h.pos hj'
  obtain ⟨h1,h2⟩:=h.cnt j hj'
  have e:(retA S i).ct j=if i=j then S.ct j+1 else S.ct j:=by
   unfold retA Arn.ct bump
   simp only []
   rw [getD_set]
   by_cases e:i=j
   ·subst e
    rw [if_pos ⟨rfl,by rw [h.ncnt];omega⟩,if_pos rfl]
    unfold Arn.ct at hc
    rw [wrap_id (by omega) (by omega)]
   ·rw [if_neg (by omega),if_neg e]
  have e2:(retA S i).indeg j=S.indeg j:=rfl
  rw [e,e2,List.count_cons]
  by_cases e3:i=j
  ·subst e3;simp;omega
  ·simp [e3];omega
 ·rcases List.mem_cons.1 hj with rfl | hj
  ·exact .inr hi
  ·exact h.held j hj
theorem Wf.dec {i:Int} (h:Wf S (i :: hs)) (hi:S.us i=true) (h1:1 < S.ct i):Wf (decS S i) hs:=by
 have hp:=h.pos hi
 have hc:=h.ct_le hi
 refine { h with ncnt:=by show (S.counts.set _ _).length=_;rw [List.length_set];exact h.ncnt,cnt:=fun j hj=>?_,held:=fun j hj=>h.held j (List.mem_cons_of_mem _ hj),few:=by have:=h.few;show hs.length+2 * S.nu<=_;simp at this;omega }
 have hj':S.us j=true:=hj
 have hpj:=h.pos hj'
 obtain ⟨h3,h4⟩:=h.cnt j hj'
 have e:(decS S i).ct j=if i=j then S.ct j - 1 else S.ct j:=by
  unfold decS Arn.ct
  simp only []
  rw [getD_set]
  by_cases e:i=j
  ·subst e
   rw [if_pos ⟨rfl,by rw [h.ncnt];omega⟩,if_pos rfl]
   unfold Arn.ct at hc
   rw [wrap_id (by omega) (by omega)]
  ·rw [if_neg (by omega),if_neg e]
 have e2:(decS S i).indeg j=S.indeg j:=rfl
 rw [e,e2]
 rw [List.count_cons] at h3
 by_cases e3:i=j
 ·subst e3;simp at h3 ⊢;omega
 ·simp [e3] at h3 ⊢;omega
theorem Wf.perm {hs':List Int} (h:Wf S hs) (p:hs.Perm hs'):Wf S hs' :=
 { h with cnt:=fun i hi=>by rw [← p.count_eq];exact h.cnt i hi,held:=fun i hi=>h.held i (p.mem_iff.2 hi),few:=by rw [← p.length_eq];exact h.few }
/-- Nothing is held by holding the empty tree. -/
theorem Wf.zero_cons (h:Wf S hs) (hl:hs.length<=1000000000):Wf S (0 :: hs):=by
 refine { h with cnt:=fun i hi=>?_,held:=fun i hi=>?_,few:=by have:=h.nu_le;simp;omega }
 ·have hp:=(h.pos hi).1
  rw [List.count_cons_of_ne (by omega)]
  exact h.cnt i hi
 ·rcases List.mem_cons.1 hi with rfl | hi
  ·exact .inl rfl
  ·exact h.held i hi
theorem Wf.of_zero (h:Wf S (0 :: hs)):Wf S hs:=by
 refine { h with cnt:=fun i hi=>?_,held:=fun i hi=>h.held i (List.mem_cons_of_mem _ hi),few:=by have:=h.few;simp at this;omega }
 have hp:=(h.pos hi).1
 have:=h.cnt i hi
 rw [List.count_cons_of_ne (by omega)] at this
 exact this

/-! ### Nodes -/
theorem addC_congr {S S':Arn} {n:NodeT} {c:Int} (h:c ≠ 0->S'.nd c=S.nd c):addC S' n c=addC S n c:=by
 unfold addC
 by_cases hc:c=0
 ·rw [if_pos hc,if_pos hc]
 ·rw [if_neg hc,if_neg hc,h hc]
theorem mkNode_congr {S S':Arn} {k v l r:Int} (hl:l ≠ 0->S'.nd l=S.nd l) (hr:r ≠ 0->S'.nd r=S.nd r):mkNode S' k v l r=mkNode S k v l r:=by
 unfold mkNode
 rw [addC_congr hl,addC_congr hr]
theorem addC_flds (S:Arn) (n:NodeT) (c:Int):(addC S n c).key=n.key/\(addC S n c).value=n.value/\(addC S n c).left=n.left/\(addC S n c).right=n.right:=by
 unfold addC;split <;> exact ⟨rfl,rfl,rfl,rfl⟩
theorem mkNode_flds (S:Arn) (k v l r:Int):(mkNode S k v l r).key=k/\(mkNode S k v l r).value=v/\(mkNode S k v l r).left=l/\(mkNode S k v l r).right=r:=by
 unfold mkNode
 obtain ⟨h1,h2,h3,h4⟩:=addC_flds S (addC S ⟨k,v,l,r,1,v,v,v⟩ l) r
 obtain ⟨g1,g2,g3,g4⟩:=addC_flds S ⟨k,v,l,r,1,v,v,v⟩ l
 exact ⟨h1.trans g1,h2.trans g2,h3.trans g3,h4.trans g4⟩
theorem Wf.addC_size (h:Wf S hs) {n:NodeT} (h1:0<=n.size/\n.size<=4294967296) (c:Int):(addC S n c).size=n.size+(S.nd c).size:=by
 unfold addC
 by_cases hc:c=0
 ·rw [if_pos hc,hc,h.nd0];simp [NodeT.zero]
 ·rw [if_neg hc]
  have:=h.size_nonneg c
  unfold maxSize at this
  show IntKind.i64.wrap (n.size+(S.nd c).size)=_
  rw [wrap_id (by omega) (by omega)]
theorem Wf.mkNode_size (h:Wf S hs) (k v l r:Int):(mkNode S k v l r).size=1+(S.nd l).size+(S.nd r).size:=by
 unfold mkNode
 have h1:=h.size_nonneg l
 unfold maxSize at h1
 have e:=h.addC_size (n:=⟨k,v,l,r,1,v,v,v⟩) ⟨by show (0:Int)<=1;decide,by show (1:Int)<=4294967296;decide⟩ l
 have e':(addC S ⟨k,v,l,r,1,v,v,v⟩ l).size=1+(S.nd l).size:=e
 rw [h.addC_size (by omega) r,e']

/-! ### A new node -/
def fresh3 (rl:List Int) (fr:Int):Int × List Int × Int:=if 0 < rl.length then (rl.getD (rl.length - 1) 0,rl.take (rl.length - 1),fr) else (fr+1,rl,fr+1)
def freshS (S:Arn):Int × List Int × Int:=fresh3 S.rel S.fresh
def nxt (S:Arn):Int:=(freshS S).1
def makeS (S : Arn) (k v l r : Int) : Arn :=
  { used := S.used.set (nxt S).toNat true, gen := S.gen.set (nxt S).toNat (IntKind.u32.wrap (S.gn (nxt S) + 1)), rel := (freshS S).2.1, fresh := (freshS S).2.2,
    nodes := S.nodes.set (nxt S).toNat (mkNode S k v l r), counts := bump (bump (S.counts.set (nxt S).toNat 1) l) r, reads := S.reads }
theorem Wf.nxt_spec (h:Wf S hs) (hf:0 < S.free):1<=nxt S/\nxt S < S.used.length/\S.us (nxt S)=false/\(0<=(freshS S).2.2/\(freshS S).2.2 < S.used.length)/\(freshS S).2.1.Nodup ∧
  (∀ i ∈ (freshS S).2.1,1<=i/\i<=(freshS S).2.2)/\(∀ i,(i=nxt S ∨ S.us i=true) ↔ 1<=i/\i<=(freshS S).2.2/\i ∉ (freshS S).2.1)/\(freshS S).2.1.length+(S.nu+1)=(freshS S).2.2.toNat:=by
 have hfr:=h.fr
 have hnus:=h.nus
 unfold nxt freshS fresh3
 by_cases hr:0 < S.rel.length
 ·simp only [if_pos hr]
  obtain ⟨q,x,hq⟩:∃ q x,S.rel=q ++ [x]:=⟨S.rel.dropLast,S.rel.getLast (by intro e;rw [e] at hr;simp at hr),(List.dropLast_concat_getLast _).symm⟩
  have e1:S.rel.getD (S.rel.length - 1) 0=x:=by rw [hq];simp
  have e2:S.rel.take (S.rel.length - 1)=q:=by rw [hq];simp
  have hd:=h.dup
  rw [hq] at hd hnus
  obtain ⟨d1,_,d2⟩:=List.nodup_append.1 hd
  have hx:=h.rel x (by rw [hq];simp)
  have hu:S.us x=false:=by
   cases hb:S.us x with
   | false=>rfl
   | true=>exact absurd (by rw [hq];simp) ((h.use x).1 hb).2.2
  rw [e1,e2]
  refine ⟨hx.1,by omega,hu,hfr,d1,fun i hi=>h.rel i (by rw [hq];simp [hi]),fun i=>?_,by simp at hnus;omega⟩
  rw [h.use i,hq]
  constructor
  ·rintro (rfl | ⟨h1,h2,h3⟩)
   ·exact ⟨hx.1,hx.2,fun hm=>d2 _ hm _ (by simp) rfl⟩
   ·exact ⟨h1,h2,fun hm=>h3 (by simp [hm])⟩
  ·rintro ⟨h1,h2,h3⟩
   by_cases e:i=x
   ·exact .inl e
   ·exact .inr ⟨h1,h2,by simp [h3,e]⟩
 ·simp only [if_neg hr]
  have hr0:S.rel=[]:=List.length_eq_zero_iff.1 (by omega)
  unfold Arn.free Arn.cap at hf
  have hu:S.us (S.fresh+1)=false:=by
   cases hb:S.us (S.fresh+1) with
   | false=>rfl
   | true=>have:=((h.use _).1 hb).2.1;omega
  refine ⟨by omega,by omega,hu,by omega,h.dup,fun i hi=>by have:=h.rel i hi;omega,fun i=>?_,by omega⟩
  rw [h.use i,hr0]
  simp
  omega
theorem make_us (h:Wf S hs) (hf:0 < S.free) {k v l r:Int} (i:Int):(makeS S k v l r).us i=true ↔ i=nxt S ∨ S.us i=true:=by
 obtain ⟨h1,h2,h3,_⟩:=h.nxt_spec hf
 unfold Arn.us makeS
 simp only []
 rw [getD_set]
 by_cases e:i=nxt S
 ·rw [if_pos ⟨by rw [e],by rw [e];omega⟩];simp [e]
 ·by_cases e2:(nxt S).toNat=i.toNat
  ·omega
  ·rw [if_neg (fun c=>e2 c.1)];simp [e]
theorem make_nd (h:Wf S hs) (hf:0 < S.free) {k v l r:Int} (i:Int):(makeS S k v l r).nd i=if i=nxt S then mkNode S k v l r else S.nd i:=by
 obtain ⟨h1,h2,h3,_⟩:=h.nxt_spec hf
 have:=h.nnod
 unfold Arn.nd makeS
 simp only []
 rw [getD_set]
 by_cases e:i=nxt S
 ·rw [if_pos ⟨by rw [e],by rw [e];omega⟩,if_pos e]
 ·rw [if_neg (by omega),if_neg e]
theorem bump_get {cs:List Int} {l j:Int} (hl:0<=l) (hj:0<=j) (hn:j.toNat < cs.length):(bump cs l).getD j.toNat 0=if l=j then IntKind.i64.wrap (cs.getD j.toNat 0+1) else cs.getD j.toNat 0:=by
 unfold bump
 rw [getD_set]
 by_cases e:l=j
 ·subst e;rw [if_pos ⟨rfl,hn⟩,if_pos rfl]
 ·rw [if_neg (by omega),if_neg e]
theorem Wf.ge0 (h:Wf S hs) {i:Int} (hi:i=0 ∨ S.us i=true):0<=i:=by
 rcases hi with rfl | hi
 ·exact Int.le_refl _
 ·have:=(h.pos hi).1;omega
theorem Wf.indeg_free (h:Wf S hs) {i:Int} (h1:1<=i) (hu:S.us i=false):S.indeg i=0:=by
 have key:∀ n ∈ S.nodes,n.left ≠ i/\n.right ≠ i:=by
  intro n hn
  obtain ⟨j,hj⟩:=List.mem_iff_getElem?.1 hn
  have e:S.nd (j:Int)=n:=by unfold Arn.nd;simp [List.getD_eq_getElem?_getD,hj]
  cases hb:S.us (j:Int) with
  | false =>
   have:=h.zero _ hb
   rw [e] at this
   rw [this]
   simp [NodeT.zero];omega
  | true =>
   have:=h.kid _ hb
   rw [e] at this
   refine ⟨fun c=>?_,fun c=>?_⟩
   ·rcases this.1 with h2 | h2
    ·omega
    ·rw [c,hu] at h2;cases h2
   ·rcases this.2 with h2 | h2
    ·omega
    ·rw [c,hu] at h2;cases h2
 unfold Arn.indeg
 have e1:S.nodes.countP (fun x=>x.left == i)=0:=List.countP_eq_zero.2 fun n hn=>by have:=(key n hn).1;simpa using this
 have e2:S.nodes.countP (fun x=>x.right == i)=0:=List.countP_eq_zero.2 fun n hn=>by have:=(key n hn).2;simpa using this
 rw [e1,e2]
theorem make_indeg (h:Wf S hs) (hf:0 < S.free) {k v l r:Int} {i:Int} (hi:1<=i):(makeS S k v l r).indeg i=S.indeg i+(if l=i then 1 else 0)+(if r=i then 1 else 0):=by
 obtain ⟨h1,h2,h3,_⟩:=h.nxt_spec hf
 have hn:=h.nnod
 have hz:S.nodes.getD (nxt S).toNat NodeT.zero=NodeT.zero:=h.zero _ h3
 obtain ⟨_,_,m1,m2⟩:=mkNode_flds S k v l r
 have a1:=countP_set' (fun x:NodeT=>x.left == i) S.nodes (nxt S).toNat (mkNode S k v l r) NodeT.zero (by omega)
 have a2:=countP_set' (fun x:NodeT=>x.right == i) S.nodes (nxt S).toNat (mkNode S k v l r) NodeT.zero (by omega)
 rw [hz] at a1 a2
 simp only [m1,m2] at a1 a2
 have z1:¬ (NodeT.zero.left == i)=true:=by simp [NodeT.zero];omega
 have z2:¬ (NodeT.zero.right == i)=true:=by simp [NodeT.zero];omega
 rw [if_neg z1] at a1
 rw [if_neg z2] at a2
 unfold Arn.indeg makeS
 simp only [beq_iff_eq] at a1 a2 ⊢
 omega
theorem Wf.make (h : Wf S hs) {k v l r : Int} (hl : l = 0 ∨ S.us l = true) (hr : r = 0 ∨ S.us r = true) (hf : 0 < S.free) (hz : (mkNode S k v l r).size ≤ maxSize) (hs1 : hs.length ≤ 1000000000) :
    Wf (makeS S k v l r) (nxt S :: hs) := by
  obtain ⟨h1, h2, h3, h4, h5, h6, h7, h8⟩ := h.nxt_spec hf
  have ln : (makeS S k v l r).used.length = S.used.length := by simp [makeS]
  have hl0 := h.ge0 hl
  have hr0 := h.ge0 hr
  have l_ne : l ≠ 0 → l ≠ nxt S := fun e c => by rcases hl with hl | hl; exact e hl; rw [c, h3] at hl; cases hl
  have r_ne : r ≠ 0 → r ≠ nxt S := fun e c => by rcases hr with hr | hr; exact e hr; rw [c, h3] at hr; cases hr
  have hnu : (makeS S k v l r).nu = S.nu + 1 := by
    have a := countP_set' id S.used (nxt S).toNat true false (by omega)
    have : S.used.getD (nxt S).toNat false = false := h3
    rw [this] at a
    simp at a
    unfold Arn.nu makeS
    simp
    omega
  have hcong : ∀ c, (c = 0 ∨ S.us c = true) → c ≠ 0 → (makeS S k v l r).nd c = S.nd c := fun c hc hc0 => by
    rw [make_nd h hf, if_neg]
    rintro rfl
    rcases hc with hc | hc
    · exact hc0 hc
    · rw [h3] at hc; cases hc
  have nd0 : (makeS S k v l r).nd 0 = S.nd 0 := by rw [make_nd h hf, if_neg (by omega)]
  have ndk : ∀ c, (c = 0 ∨ S.us c = true) → (makeS S k v l r).nd c = S.nd c := fun c hc => by
    by_cases e : c = 0
    · rw [e]; exact nd0
    · exact hcong c hc e
  constructor
  case n1 => rw [ln]; exact h.n1
  case n2 => rw [ln]; exact h.n2
  case ngen => rw [ln]; simp [makeS, h.ngen]
  case nnod => rw [ln]; simp [makeS, h.nnod]
  case ncnt => rw [ln]; simp [makeS, bump_len, h.ncnt]
  case fr => rw [ln]; exact h4
  case rel => exact h6
  case dup => exact h5
  case use => intro i; rw [make_us h hf]; exact h7 i
  case zero =>
    intro i hi
    have hn : ¬ (i = nxt S ∨ S.us i = true) := fun c => by rw [(make_us h hf (k := k) (v := v) (l := l) (r := r) i).2 c] at hi; cases hi
    rw [make_nd h hf, if_neg fun c => hn (.inl c)]
    exact h.zero i (by cases hb : S.us i with | false => rfl | true => exact absurd (.inr hb) hn)
  case kid =>
    intro i hi
    rw [make_us h hf] at hi
    rw [make_nd h hf]
    by_cases e : i = nxt S
    · rw [if_pos e]
      obtain ⟨_, _, m1, m2⟩ := mkNode_flds S k v l r
      rw [m1, m2, make_us h hf, make_us h hf]
      exact ⟨hl.imp id .inr, hr.imp id .inr⟩
    · rw [if_neg e]
      have := h.kid i (hi.resolve_left e)
      rw [make_us h hf, make_us h hf]
      exact ⟨this.1.imp id .inr, this.2.imp id .inr⟩
  case agg =>
    intro i hi
    rw [make_us h hf] at hi
    rw [make_nd h hf]
    by_cases e : i = nxt S
    · rw [if_pos e]
      obtain ⟨m3, m4, m1, m2⟩ := mkNode_flds S k v l r
      rw [m1, m2, m3, m4]
      exact (mkNode_congr (hcong l hl) (hcong r hr)).symm
    · rw [if_neg e]
      have hk := h.kid i (hi.resolve_left e)
      rw [mkNode_congr (hcong _ hk.1) (hcong _ hk.2)]
      exact h.agg i (hi.resolve_left e)
  case siz =>
    intro i hi
    rw [make_us h hf] at hi
    rw [make_nd h hf]
    by_cases e : i = nxt S
    · rw [if_pos e]
      obtain ⟨_, _, m1, m2⟩ := mkNode_flds S k v l r
      rw [m1, m2, ndk l hl, ndk r hr, h.mkNode_size] at *
      have := h.size_nonneg l; have := h.size_nonneg r
      omega
    · rw [if_neg e]
      have hk := h.kid i (hi.resolve_left e)
      rw [ndk _ hk.1, ndk _ hk.2]
      exact h.siz i (hi.resolve_left e)
  case cnt =>
    intro i hi
    rw [make_us h hf] at hi
    have hi1 : 1 ≤ i ∧ i < S.used.length := by
      rcases hi with rfl | hi
      · exact ⟨h1, h2⟩
      · have := h.pos hi; omega
    have hnc := h.ncnt
    rw [make_indeg h hf hi1.1]
    have ec : (makeS S k v l r).ct i = (bump (bump (S.counts.set (nxt S).toNat 1) l) r).getD i.toNat 0 := rfl
    rw [ec, bump_get hr0 (by omega) (by rw [bump_len, List.length_set]; omega), bump_get hl0 (by omega) (by rw [List.length_set]; omega), getD_set]
    by_cases e : i = nxt S
    · have e1 : ¬ l = i := fun c => l_ne (by omega) (c.trans e)
      have e2 : ¬ r = i := fun c => r_ne (by omega) (c.trans e)
      have hc0 : hs.count i = 0 := List.count_eq_zero.2 fun hm => by
        rcases h.held i hm with hh | hh
        · omega
        · rw [e, h3] at hh; cases hh
      rw [if_neg e2, if_neg e1, if_pos ⟨by rw [e], by omega⟩, if_neg e1, if_neg e2, h.indeg_free hi1.1 (by rw [e]; exact h3), ← e, List.count_cons_self, hc0]
      simp
    · have hu := hi.resolve_left e
      obtain ⟨c1, c2⟩ := h.cnt i hu
      have c3 := h.ct_le hu
      rw [if_neg (by omega : ¬ ((nxt S).toNat = i.toNat ∧ i.toNat < S.counts.length)), List.count_cons_of_ne (fun c => e c.symm)]
      have e3 : S.counts.getD i.toNat 0 = S.ct i := rfl
      rw [e3]
      by_cases e1 : l = i <;> by_cases e2 : r = i
      · rw [if_pos e2, if_pos e1, if_pos e1, if_pos e2, wrap_id (x := S.ct i + 1) (by omega) (by omega), wrap_id (by omega) (by omega)]; omega
      · rw [if_neg e2, if_pos e1, if_pos e1, if_neg e2, wrap_id (by omega) (by omega)]; omega
      · rw [if_pos e2, if_neg e1, if_neg e1, if_pos e2, wrap_id (by omega) (by omega)]; omega
      · rw [if_neg e2, if_neg e1, if_neg e1, if_neg e2]; omega
  case held =>
    intro i hi
    rw [make_us h hf]
    rcases List.mem_cons.1 hi with rfl | hi
    · exact .inr (.inl rfl)
    · exact (h.held i hi).imp id .inr
  case few => rw [hnu]; have := h.nu_le; simp; omega
  case nus => rw [hnu]; exact h8
  case rds => exact h.rds

/-! ### A slot that becomes free -/
def nz (c:Int):List Int:=if c=0 then [] else [c]
def freeS (S:Arn) (k:Int):Arn:={ S with counts:=S.counts.set k.toNat (IntKind.i64.wrap (S.ct k - 1)),nodes:=S.nodes.set k.toNat NodeT.zero,used:=S.used.set k.toNat false,rel:=S.rel ++ [k] }
theorem nz_count {c i:Int} (hi:1<=i):(nz c).count i=if c=i then 1 else 0:=by
 unfold nz
 by_cases hc:c=0
 ·rw [if_pos hc,if_neg (by omega)];rfl
 ·rw [if_neg hc]
  by_cases e:c=i
  ·subst e;simp
  ·simp [e]
theorem Wf.freed {k:Int} (h:Wf S (k :: hs)) (hk:S.us k=true) (hc:S.ct k=1):Wf (freeS S k) (nz (S.nd k).right ++ (nz (S.nd k).left ++ hs))/\(freeS S k).nu+1=S.nu ∧
  (∀ i,(freeS S k).us i=true ↔ i ≠ k/\S.us i=true)/\(∀ i,(freeS S k).nd i=if i=k then NodeT.zero else S.nd i):=by
 have hp:=h.pos hk
 have hnod:=h.nnod
 have hcnt:=h.ncnt
 obtain ⟨hc1,_⟩:=h.cnt k hk
 rw [List.count_cons_self] at hc1
 have hin:S.indeg k=0:=by omega
 have hhk:hs.count k=0:=by omega
 have ln:(freeS S k).used.length=S.used.length:=by simp [freeS]
 have hus:∀ i,(freeS S k).us i=true ↔ i ≠ k/\S.us i=true:=by
  intro i
  unfold freeS Arn.us
  simp only []
  rw [getD_set]
  by_cases e:i=k
  ·rw [if_pos ⟨by rw [e],by rw [e];exact hp.2.2⟩];simp [e]
  ·rw [if_neg (by omega)];simp [e]
 have hnd:∀ i,(freeS S k).nd i=if i=k then NodeT.zero else S.nd i:=by
  intro i
  unfold freeS Arn.nd
  simp only []
  rw [getD_set]
  by_cases e:i=k
  ·rw [if_pos ⟨by rw [e],by rw [e];omega⟩,if_pos e]
  ·rw [if_neg (by omega),if_neg e]
 have hnu:(freeS S k).nu+1=S.nu:=by
  have a:=countP_set' id S.used k.toNat false false hp.2.2
  have:S.used.getD k.toNat false=true:=hk
  rw [this] at a
  simp at a
  unfold Arn.nu freeS
  simp
  omega
 have nok:∀ i,S.us i=true->(S.nd i).left ≠ k/\(S.nd i).right ≠ k:=by
  intro i hi
  have hpi:=h.pos hi
  have hm:S.nd i ∈ S.nodes:=by
   have:i.toNat < S.nodes.length:=by omega
   unfold Arn.nd
   rw [List.getD_eq_getElem?_getD,List.getElem?_eq_getElem this]
   exact List.getElem_mem this
  unfold Arn.indeg at hin
  have e1:S.nodes.countP (fun x=>x.left == k)=0:=by omega
  have e2:S.nodes.countP (fun x=>x.right == k)=0:=by omega
  exact ⟨by simpa using List.countP_eq_zero.1 e1 _ hm,by simpa using List.countP_eq_zero.1 e2 _ hm⟩
 have ndk:∀ c,c ≠ k->(freeS S k).nd c=S.nd c:=fun c hc=>by rw [hnd,if_neg hc]
 refine ⟨?_,hnu,hus,hnd⟩
 constructor
 case n1=>rw [ln];exact h.n1
 case n2=>rw [ln];exact h.n2
 case ngen=>rw [ln];exact h.ngen
 case nnod=>rw [ln];simp [freeS,h.nnod]
 case ncnt=>rw [ln];simp [freeS,h.ncnt]
 case fr=>rw [ln];exact h.fr
 case rel =>
  intro i hi
  rcases List.mem_append.1 hi with hi | hi
  ·exact h.rel i hi
  ·simp at hi;subst hi;have:=(h.use i).1 hk;exact ⟨this.1,this.2.1⟩
 case dup =>
  refine List.nodup_append.2 ⟨h.dup,by simp,fun a ha b hb=>?_⟩
  simp at hb;subst hb
  rintro rfl
  exact ((h.use a).1 hk).2.2 ha
 case use =>
  intro i
  rw [hus,h.use i]
  show _ ↔ 1<=i/\i<=S.fresh/\i ∉ S.rel ++ [k]
  simp
  constructor
  ·rintro ⟨a,b,c,d⟩;exact ⟨b,c,d,a⟩
  ·rintro ⟨b,c,d,a⟩;exact ⟨a,b,c,d⟩
 case zero =>
  intro i hi
  rw [hnd]
  by_cases e:i=k
  ·rw [if_pos e]
  ·rw [if_neg e]
   refine h.zero i ?_
   cases hb:S.us i with
   | false=>rfl
   | true=>rw [(hus i).2 ⟨e,hb⟩] at hi;cases hi
 case kid =>
  intro i hi
  obtain ⟨e,hu⟩:=(hus i).1 hi
  have hkd:=h.kid i hu
  have hn:=nok i hu
  rw [ndk i e,hus,hus]
  exact ⟨hkd.1.imp id fun z=>⟨hn.1,z⟩,hkd.2.imp id fun z=>⟨hn.2,z⟩⟩
 case agg =>
  intro i hi
  obtain ⟨e,hu⟩:=(hus i).1 hi
  have hn:=nok i hu
  rw [ndk i e,mkNode_congr (fun _=>ndk _ hn.1) (fun _=>ndk _ hn.2)]
  exact h.agg i hu
 case siz =>
  intro i hi
  obtain ⟨e,hu⟩:=(hus i).1 hi
  have hn:=nok i hu
  rw [ndk i e,ndk _ hn.1,ndk _ hn.2]
  exact h.siz i hu
 case cnt =>
  intro i hi
  obtain ⟨e,hu⟩:=(hus i).1 hi
  have hpi:=h.pos hu
  obtain ⟨c1,c2⟩:=h.cnt i hu
  have ec:(freeS S k).ct i=S.ct i:=by
   unfold freeS Arn.ct
   simp only []
   rw [getD_set,if_neg (by omega)]
  have a1:=countP_set' (fun x:NodeT=>x.left == i) S.nodes k.toNat NodeT.zero NodeT.zero (by omega)
  have a2:=countP_set' (fun x:NodeT=>x.right == i) S.nodes k.toNat NodeT.zero NodeT.zero (by omega)
  have ek:S.nodes.getD k.toNat NodeT.zero=S.nd k:=rfl
  have z1:¬ (NodeT.zero.left == i)=true:=by simp [NodeT.zero];omega
  have z2:¬ (NodeT.zero.right == i)=true:=by simp [NodeT.zero];omega
  rw [ek,if_neg z1] at a1
  rw [ek,if_neg z2] at a2
  have ei:(freeS S k).indeg i=(S.nodes.set k.toNat NodeT.zero).countP (fun x=>x.left == i)+(S.nodes.set k.toNat NodeT.zero).countP (fun x=>x.right == i):=rfl
  rw [List.count_cons_of_ne (fun c=>e c.symm)] at c1
  rw [ec,List.count_append,List.count_append,nz_count hpi.1,nz_count hpi.1,ei]
  unfold Arn.indeg at c1
  simp only [beq_iff_eq] at a1 a2 c1 ⊢
  omega
 case held =>
  intro i hi
  rw [hus]
  have hkd:=h.kid k hk
  have hn:=nok k hk
  rcases List.mem_append.1 hi with hi | hi
  ·unfold nz at hi
   split at hi
   ·simp at hi
   ·simp at hi;subst hi;exact hkd.2.imp id fun z=>⟨hn.2,z⟩
  ·rcases List.mem_append.1 hi with hj | hj
   ·unfold nz at hj
    split at hj
    ·simp at hj
    ·simp at hj;subst hj;exact hkd.1.imp id fun z=>⟨hn.1,z⟩
   ·refine (h.held i (List.mem_cons_of_mem _ hj)).imp id fun z=>⟨fun e=>?_,z⟩
    rw [e] at hj
    exact (List.count_eq_zero.1 hhk) hj
 case few =>
  have h1:=h.few
  have h2:∀ c,(nz c).length<=1:=fun c=>by unfold nz;split <;> simp
  have:=h2 (S.nd k).left;have:=h2 (S.nd k).right
  simp at h1 ⊢
  omega
 case nus =>
  have:=h.nus
  show (S.rel ++ [k]).length+(freeS S k).nu=_
  have e:(freeS S k).fresh=S.fresh:=rfl
  rw [e];simp;omega
 case rds=>exact h.rds
end Go.Proofs.YtedfbafngmicpaaGreat
end
section
/- What stays of an arena, trees in it, a new arena. No program in sight. -/
namespace Go.Proofs.YtedfbafngmicpaaGreat
open Go

variable {S S' S'':Arn} {hs:List Int}

structure Kept (S S':Arn):Prop where
 len:S'.used.length=S.used.length
 gen:S'.gen=S.gen
 rds:S'.reads=S.reads
 kp:∀ i,S'.us i=true->S.us i=true/\S'.nd i=S.nd i
theorem Kept.refl (S:Arn):Kept S S:=⟨rfl,rfl,rfl,fun _ h=>⟨h,rfl⟩⟩
theorem Kept.trans (h:Kept S S') (h':Kept S' S''):Kept S S'' :=
 ⟨h'.len.trans h.len,h'.gen.trans h.gen,h'.rds.trans h.rds,fun i hi=>by
  obtain ⟨a,b⟩:=h'.kp i hi
  obtain ⟨c,d⟩:=h.kp i a
  exact ⟨c,b.trans d⟩⟩
theorem kept_dec (S:Arn) (i:Int):Kept S (decS S i):=⟨rfl,rfl,rfl,fun _ h=>⟨h,rfl⟩⟩
theorem kept_free {k:Int} (h:Wf S (k :: hs)) (hk:S.us k=true) (hc:S.ct k=1):Kept S (freeS S k):=by
 obtain ⟨_,_,hus,hnd⟩:=h.freed hk hc
 refine ⟨by simp [freeS],rfl,rfl,fun i hi=>?_⟩
 obtain ⟨e,hu⟩:=(hus i).1 hi
 exact ⟨hu,by rw [hnd,if_neg e]⟩

/-! ### What can be reached -/
inductive Rch (S:Arn) (hs:List Int):Int->Prop where
 | root {i:Int}:i ∈ hs->S.us i=true->Rch S hs i
 | left {i:Int}:Rch S hs i->S.us (S.nd i).left=true->Rch S hs (S.nd i).left
 | right {i:Int}:Rch S hs i->S.us (S.nd i).right=true->Rch S hs (S.nd i).right
theorem Rch.us {i:Int} (h:Rch S hs i):S.us i=true:=by cases h <;> assumption
theorem Rch.mono {hs':List Int} (hh:∀ i ∈ hs,i ∈ hs') {i:Int} (h:Rch S hs i):Rch S hs' i:=by
 induction h with
 | root h1 h2=>exact .root (hh _ h1) h2
 | left _ h2 ih=>exact .left ih h2
 | right _ h2 ih=>exact .right ih h2
theorem indeg_parent {i:Int} (h:Wf S hs) (hi:1<=i) (hd:1<=S.indeg i):∃ j,S.us j=true/\((S.nd j).left=i ∨ (S.nd j).right=i):=by
 have:∃ n ∈ S.nodes,n.left=i ∨ n.right=i:=by
  unfold Arn.indeg at hd
  by_cases e:S.nodes.countP (fun x=>x.left == i)=0
  ·have:0 < S.nodes.countP (fun x=>x.right == i):=by omega
   obtain ⟨n,hn,hp⟩:=List.countP_pos_iff.1 this
   exact ⟨n,hn,.inr (by simpa using hp)⟩
  ·obtain ⟨n,hn,hp⟩:=List.countP_pos_iff.1 (Nat.pos_of_ne_zero e)
   exact ⟨n,hn,.inl (by simpa using hp)⟩
 obtain ⟨n,hn,hp⟩:=this
 obtain ⟨j,hj⟩:=List.mem_iff_getElem?.1 hn
 have e:S.nd (j:Int)=n:=by unfold Arn.nd;simp [List.getD_eq_getElem?_getD,hj]
 refine ⟨j,?_,by rw [e];exact hp⟩
 cases hb:S.us (j:Int) with
 | true=>rfl
 | false =>
  have:=h.zero _ hb
  rw [e] at this
  rw [this] at hp
  simp [NodeT.zero] at hp
  omega
/-- All that is in use can be reached from what is held. -/
theorem Wf.reach (h:Wf S hs):∀ (n:Nat) (i:Int),S.us i=true->(maxSize - (S.nd i).size).toNat<=n->Rch S hs i:=by
 intro n
 induction n with
 | zero =>
  intro i hi hn
  have hsz:=h.siz i hi
  obtain ⟨c1,c2⟩:=h.cnt i hi
  have hp:=h.pos hi
  by_cases hm:0 < hs.count i
  ·exact .root (List.count_pos_iff.1 hm) hi
  ·obtain ⟨j,hj,hor⟩:=indeg_parent h hp.1 (by omega)
   have hz:=h.siz j hj
   have:=h.size_nonneg (S.nd j).left
   have:=h.size_nonneg (S.nd j).right
   rcases hor with e | e <;> rw [e] at hz <;> omega
 | succ n ih =>
  intro i hi hn
  have hsz:=h.siz i hi
  obtain ⟨c1,c2⟩:=h.cnt i hi
  have hp:=h.pos hi
  by_cases hm:0 < hs.count i
  ·exact .root (List.count_pos_iff.1 hm) hi
  ·obtain ⟨j,hj,hor⟩:=indeg_parent h hp.1 (by omega)
   have hz:=h.siz j hj
   have:=h.size_nonneg (S.nd j).left
   have:=h.size_nonneg (S.nd j).right
   have hr:Rch S hs j:=ih j hj (by rcases hor with e | e <;> rw [e] at hz <;> omega)
   rcases hor with e | e
   ·rw [← e];exact .left hr (by rw [e];exact hi)
   ·rw [← e];exact .right hr (by rw [e];exact hi)
theorem Wf.reached (h:Wf S hs) {i:Int} (hi:S.us i=true):Rch S hs i:=h.reach _ i hi (Nat.le_refl _)
/-- What is reached from hs stays as it is. -/
def Stay (S S':Arn) (hs:List Int):Prop:=∀ i,Rch S hs i->S'.us i=true/\S'.nd i=S.nd i/\S'.gn i=S.gn i
theorem Stay.refl (S:Arn) (hs:List Int):Stay S S hs:=fun _ h=>⟨h.us,rfl,rfl⟩
theorem Stay.reach (h:Stay S S' hs) {i:Int} (hr:Rch S hs i):Rch S' hs i:=by
 induction hr with
 | root h1 h2=>exact .root h1 (h _ (.root h1 h2)).1
 | left h1 h2 ih =>
  have e:=(h _ h1).2.1
  rw [← e]
  exact .left ih (by rw [e];exact (h _ (.left h1 h2)).1)
 | right h1 h2 ih =>
  have e:=(h _ h1).2.1
  rw [← e]
  exact .right ih (by rw [e];exact (h _ (.right h1 h2)).1)
theorem Stay.trans (h:Stay S S' hs) (h':Stay S' S'' hs):Stay S S'' hs:=fun i hi=>by
 obtain ⟨a,b,c⟩:=h i hi
 obtain ⟨a',b',c'⟩:=h' i (h.reach hi)
 exact ⟨a',b'.trans b,c'.trans c⟩
theorem Stay.mono {hs':List Int} (h:Stay S S' hs) (hh:∀ i ∈ hs',i ∈ hs):Stay S S' hs':=fun i hi=>h i (hi.mono hh)
theorem Kept.stay {hs':List Int} (k:Kept S S') (h0:Wf S hs') (h:Wf S' hs):Stay S S' hs:=fun i hi=>by
 have key:S'.us i=true:=by
  induction hi with
  | root h1 h2 =>
   have:=(h0.pos h2).1
   exact (h.held _ h1).resolve_left (by omega)
  | left h1 h2 ih =>
   have e:=(k.kp _ ih).2
   have:=(h0.pos h2).1
   have hk:=(h.kid _ ih).1
   rw [e] at hk
   exact hk.resolve_left (by omega)
  | right h1 h2 ih =>
   have e:=(k.kp _ ih).2
   have:=(h0.pos h2).1
   have hk:=(h.kid _ ih).2
   rw [e] at hk
   exact hk.resolve_left (by omega)
 exact ⟨key,(k.kp i key).2,by unfold Arn.gn;rw [k.gen]⟩
theorem stay_rd (S:Arn) (n:Nat) (hs:List Int):Stay S (rdS S n) hs:=fun _ h=>⟨h.us,rfl,rfl⟩
theorem stay_make {hs':List Int} (h:Wf S hs') (hf:0 < S.free) {k v l r:Int} (hs:List Int):Stay S (makeS S k v l r) hs:=fun i hi=>by
 have hu:=hi.us
 have h3:=(h.nxt_spec hf).2.2.1
 have e:i ≠ nxt S:=fun e=>by rw [e,h3] at hu;cases hu
 have hp:=h.pos hu
 have h1:=(h.nxt_spec hf).1
 refine ⟨(make_us h hf i).2 (.inr hu),by rw [make_nd h hf,if_neg e],?_⟩
 unfold Arn.gn makeS
 simp only []
 rw [getD_set,if_neg (by omega)]

/-! ### Trees -/
inductive Tr where
 | nil
 | node (l:Tr) (k v:Int) (r:Tr)
def Tr.size:Tr->Nat
 | .nil=>0
 | .node l _ _ r=>1+l.size+r.size
def Tr.list:Tr->List Ent
 | .nil=>[]
 | .node l k v r=>l.list ++ (k,v) :: r.list
theorem Tr.list_len:∀ t:Tr,t.list.length=t.size
 | .nil=>rfl
 | .node l k v r=>by simp [Tr.list,Tr.size,l.list_len,r.list_len];omega
def Rep (S:Arn):Tr->Int->Prop
 | .nil,i=>i=0
 | .node l k v r,i=>S.us i=true/\(S.nd i).key=k/\(S.nd i).value=v/\Rep S l (S.nd i).left/\Rep S r (S.nd i).right
theorem Rep.size (h:Wf S hs):∀ {t:Tr} {i:Int},Rep S t i->(S.nd i).size=t.size
 | .nil,i,hr=>by have:i=0:=hr;rw [this,h.nd0];rfl
 | .node l k v r,i,hr=>by
  obtain ⟨h1,_,_,h4,h5⟩:=hr
  rw [(h.siz i h1).2.2,Rep.size h h4,Rep.size h h5]
  simp [Tr.size]
theorem Rep.us {t:Tr} {i:Int} (hr:Rep S t i):i=0 ∨ S.us i=true:=by
 cases t with
 | nil=>exact .inl hr
 | node l k v r=>exact .inr hr.1
theorem Rep.zero (h:Wf S hs) {t:Tr} (hr:Rep S t 0):t = .nil:=by
 cases t with
 | nil=>rfl
 | node l k v r=>have:=hr.1;rw [h.us0 (Int.le_refl 0)] at this;cases this
theorem Rep.stay (h0:S.us 0=false) (st:Stay S S' hs):∀ {t:Tr} {i:Int},Rep S t i->(i=0 ∨ Rch S hs i)->Rep S' t i
 | .nil,i,hr,_=>hr
 | .node l k v r,i,hr,hi=>by
  obtain ⟨h1,h2,h3,h4,h5⟩:=hr
  have e0:Rch S hs i:=hi.resolve_left fun e=>by rw [e,h0] at h1;cases h1
  obtain ⟨a,b,_⟩:=st i e0
  refine ⟨a,by rw [b];exact h2,by rw [b];exact h3,?_,?_⟩
  ·rw [b];exact Rep.stay h0 st h4 (h4.us.imp id fun z=>.left e0 z)
  ·rw [b];exact Rep.stay h0 st h5 (h5.us.imp id fun z=>.right e0 z)
theorem Rep.held {hs':List Int} (h:Wf S hs') (st:Stay S S' hs) {t:Tr} {i:Int} (hr:Rep S t i) (hm:i=0 ∨ i ∈ hs):Rep S' t i:=by
 cases t with
 | nil=>exact hr
 | node l k v r =>
  have h1:=hr.1
  have hp:=(h.pos h1).1
  exact hr.stay (h.us0 (Int.le_refl 0)) st (.inr (.root (hm.resolve_left (by omega)) h1))
/-- Each index stands for one tree. -/
theorem Wf.tree (h:Wf S hs):∀ (n:Nat) (i:Int),(i=0 ∨ S.us i=true)->(S.nd i).size.toNat<=n->∃ t,Rep S t i:=by
 intro n
 induction n with
 | zero =>
  intro i hi hn
  rcases hi with rfl | hi
  ·exact ⟨.nil,rfl⟩
  ·have:=h.siz i hi;omega
 | succ n ih =>
  intro i hi hn
  rcases hi with rfl | hi
  ·exact ⟨.nil,rfl⟩
  ·have hz:=h.siz i hi
   have hk:=h.kid i hi
   have h1:=h.size_nonneg (S.nd i).left
   have h2:=h.size_nonneg (S.nd i).right
   obtain ⟨l,hl⟩:=ih _ hk.1 (by omega)
   obtain ⟨r,hr⟩:=ih _ hk.2 (by omega)
   exact ⟨.node l _ _ r,hi,rfl,rfl,hl,hr⟩
theorem Rep.inj:∀ {t u:Tr} {i:Int},S.us 0=false->Rep S t i->Rep S u i->t=u
 | .nil,.nil,_,_,_,_=>rfl
 | .nil,.node _ _ _ _,i,h0,h1,h2=>by have e:i=0:=h1;have:=h2.1;rw [e,h0] at this;cases this
 | .node _ _ _ _,.nil,i,h0,h1,h2=>by have e:i=0:=h2;have:=h1.1;rw [e,h0] at this;cases this
 | .node l k v r,.node l' k' v' r',i,h0,h1,h2=>by
  obtain ⟨_,a2,a3,a4,a5⟩:=h1
  obtain ⟨_,b2,b3,b4,b5⟩:=h2
  rw [← a2,← a3,← b2,← b3,Rep.inj h0 a4 b4,Rep.inj h0 a5 b5]

/-! ### A new arena -/
def newS (c:Nat):Arn:={ used:=List.replicate (c+1) false,gen:=List.replicate (c+1) 0,rel:=[],fresh:=0,nodes:=List.replicate (c+1) NodeT.zero,counts:=List.replicate (c+1) 0,reads:=0 }
theorem getD_replicate {α:Type} (n i:Nat) (x:α):(List.replicate n x).getD i x=x:=by
 simp only [List.getD_eq_getElem?_getD,List.getElem?_replicate]
 split <;> rfl
theorem new_us (c:Nat) (i:Int):(newS c).us i=false:=getD_replicate _ _ _
theorem new_nd (c:Nat) (i:Int):(newS c).nd i=NodeT.zero:=getD_replicate _ _ _
theorem Wf.new {c:Nat} (h1:1<=c) (h2:c<=65536):Wf (newS c) [] where
 n1:=by simp [newS];omega
 n2:=by simp [newS];omega
 ngen:=by simp [newS]
 nnod:=by simp [newS]
 ncnt:=by simp [newS]
 fr:=by simp [newS]
 rel i hi:=by simp [newS] at hi
 dup:=by simp [newS]
 use i:=by rw [new_us];simp [newS];omega
 zero i _:=new_nd c i
 kid i hi:=by rw [new_us] at hi;cases hi
 agg i hi:=by rw [new_us] at hi;cases hi
 siz i hi:=by rw [new_us] at hi;cases hi
 cnt i hi:=by rw [new_us] at hi;cases hi
 held i hi:=by simp at hi
 few:=by simp [Arn.nu,newS,List.countP_replicate]
 nus:=by simp [Arn.nu,newS,List.countP_replicate]
 rds:=by simp [newS]
end Go.Proofs.YtedfbafngmicpaaGreat
end
section
/- The kinds of elements of the arena's programs, and the logic over them. -/
namespace Go.Proofs.YtedfbafngmicpaaGreat.Sx
open Go

structure SlotT where
 alloc:Bool
 count:Int
 gen:Int
 node:NodeT
 deriving DecidableEq
structure FindT where
 kind:Int
 slot:Int
 want:Int
 have_:Int
 deriving DecidableEq
structure ItemT where
 index:Int
 size:Int
 key:Int
 value:Int
 single:Bool
 deriving DecidableEq
structure PStepT where
 index:Int
 open_:Bool
 deriving DecidableEq
structure LStepT where
 drop:Bool
 key:Int
 value:Int
 left:Int
 right:Int
 deriving DecidableEq
structure MoveT where
 kind:Int
 key:Int
 at_:Int
 deriving DecidableEq
structure EdtT where
 del:Bool
 at_:Int
 ent:Ent
 deriving DecidableEq
structure PNT where
 key:Int
 value:Int
 left:Int
 right:Int
 deriving DecidableEq
structure ExtT where
 tree:Bool
 size:Int
 first:Int
 last:Int
 deriving DecidableEq
structure StpT where
 at_:Int
 ent:Ent
 del:Bool
 fresh:Bool
 deriving DecidableEq
structure EduT where
 del:Bool
 ent:Ent
 deriving DecidableEq

inductive EC where
 | ent
 | i64
 | int
 | u32
 | bool
 | u8
 | u64
 | node
 | slot
 | find
 | pstep
 | pn
 | ext
 | stp
 | hent
 | hu8
 deriving DecidableEq

def EC.α:EC->Type
 | .ent=>Ent
 | .i64=>Int
 | .int=>Int
 | .u32=>Int
 | .bool=>Bool
 | .u8=>Int
 | .u64=>Int
 | .node=>NodeT
 | .slot=>SlotT
 | .find=>FindT
 | .pstep=>PStepT
 | .pn=>PNT
 | .ext=>ExtT
 | .stp=>StpT
 | .hent=>Unit
 | .hu8=>Unit

def EC.enc:(e:EC)->e.α->List Value
 | .ent,x=>[.int .i64 x.1,.int .i64 x.2]
 | .i64,x=>[.int .i64 x]
 | .int,x=>[.int .i64 x]
 | .u32,x=>[.int .u32 x]
 | .bool,x=>[.bool x]
 | .u8,x=>[.int .u8 x]
 | .u64,x=>[.int .u64 x]
 | .node,x=>[.int .i64 x.key,.int .i64 x.value,.int .u32 x.left,.int .u32 x.right,.int .i64 x.size,.int .i64 x.sum,.int .i64 x.min,.int .i64 x.max]
 | .slot,x=>[.bool x.alloc,.int .i64 x.count,.int .u32 x.gen,.int .i64 x.node.key,.int .i64 x.node.value,.int .u32 x.node.left,.int .u32 x.node.right,.int .i64 x.node.size,.int .i64 x.node.sum,.int .i64 x.node.min,.int .i64 x.node.max]
 | .find,x=>[.int .i64 x.kind,.int .u32 x.slot,.int .i64 x.want,.int .i64 x.have_]
 | .pstep,x=>[.int .u32 x.index,.bool x.open_]
 | .pn,x=>[.int .i64 x.key,.int .i64 x.value,.int .u64 x.left,.int .u64 x.right]
 | .ext,x=>[.bool x.tree,.int .i64 x.size,.int .i64 x.first,.int .i64 x.last]
 | .stp,x=>[.int .i64 x.at_,.int .i64 x.ent.1,.int .i64 x.ent.2,.bool x.del,.bool x.fresh]
 | .hent,_=>[.slice none 0 0]
 | .hu8,_=>[.slice none 0 0]

def dcd_ent:List Value->Option Ent:=fun l=>match l with | [.int .i64 x0,.int .i64 x1]=>some (x0,x1) | _=>none
def dcd_i64:List Value->Option Int:=fun l=>match l with | [.int .i64 x0]=>some x0 | _=>none
def dcd_int:List Value->Option Int:=fun l=>match l with | [.int .i64 x0]=>some x0 | _=>none
def dcd_u32:List Value->Option Int:=fun l=>match l with | [.int .u32 x0]=>some x0 | _=>none
def dcd_bool:List Value->Option Bool:=fun l=>match l with | [.bool x0]=>some x0 | _=>none
def dcd_u8:List Value->Option Int:=fun l=>match l with | [.int .u8 x0]=>some x0 | _=>none
def dcd_u64:List Value->Option Int:=fun l=>match l with | [.int .u64 x0]=>some x0 | _=>none
def dcd_node:List Value->Option NodeT:=fun l=>match l with | [.int .i64 x0,.int .i64 x1,.int .u32 x2,.int .u32 x3,.int .i64 x4,.int .i64 x5,.int .i64 x6,.int .i64 x7]=>some ⟨x0,x1,x2,x3,x4,x5,x6,x7⟩ | _=>none
def dcd_slot:List Value->Option SlotT:=fun l=>match l with | [.bool x0,.int .i64 x1,.int .u32 x2,.int .i64 x3,.int .i64 x4,.int .u32 x5,.int .u32 x6,.int .i64 x7,.int .i64 x8,.int .i64 x9,.int .i64 x10]=>some ⟨x0,x1,x2,⟨x3,x4,x5,x6,x7,x8,x9,x10⟩⟩ | _=>none
def dcd_find:List Value->Option FindT:=fun l=>match l with | [.int .i64 x0,.int .u32 x1,.int .i64 x2,.int .i64 x3]=>some ⟨x0,x1,x2,x3⟩ | _=>none
def dcd_pstep:List Value->Option PStepT:=fun l=>match l with | [.int .u32 x0,.bool x1]=>some ⟨x0,x1⟩ | _=>none
def dcd_pn:List Value->Option PNT:=fun l=>match l with | [.int .i64 x0,.int .i64 x1,.int .u64 x2,.int .u64 x3]=>some ⟨x0,x1,x2,x3⟩ | _=>none
def dcd_ext:List Value->Option ExtT:=fun l=>match l with | [.bool x0,.int .i64 x1,.int .i64 x2,.int .i64 x3]=>some ⟨x0,x1,x2,x3⟩ | _=>none
def dcd_stp:List Value->Option StpT:=fun l=>match l with | [.int .i64 x0,.int .i64 x1,.int .i64 x2,.bool x3,.bool x4]=>some ⟨x0,(x1,x2),x3,x4⟩ | _=>none
def dcd_hent:List Value->Option Unit:=fun _=>none
def dcd_hu8:List Value->Option Unit:=fun _=>none
def EC.dcd:(e:EC)->List Value->Option e.α
 | .ent=>dcd_ent
 | .i64=>dcd_i64
 | .int=>dcd_int
 | .u32=>dcd_u32
 | .bool=>dcd_bool
 | .u8=>dcd_u8
 | .u64=>dcd_u64
 | .node=>dcd_node
 | .slot=>dcd_slot
 | .find=>dcd_find
 | .pstep=>dcd_pstep
 | .pn=>dcd_pn
 | .ext=>dcd_ext
 | .stp=>dcd_stp
 | .hent=>dcd_hent
 | .hu8=>dcd_hu8

def EC.dft:(e:EC)->e.α
 | .ent=>((0:Int),(0:Int))
 | .i64=>(0:Int)
 | .int=>(0:Int)
 | .u32=>(0:Int)
 | .bool=>false
 | .u8=>(0:Int)
 | .u64=>(0:Int)
 | .node=>⟨0,0,0,0,0,0,0,0⟩
 | .slot=>⟨false,0,0,⟨0,0,0,0,0,0,0,0⟩⟩
 | .find=>⟨0,0,0,0⟩
 | .pstep=>⟨0,false⟩
 | .pn=>⟨0,0,0,0⟩
 | .ext=>⟨false,0,0,0⟩
 | .stp=>⟨0,(0,0),false,false⟩
 | .hent=>()
 | .hu8=>()

def EC.sz:EC->Nat
 | .ent=>2
 | .i64=>1
 | .int=>1
 | .u32=>1
 | .bool=>1
 | .u8=>1
 | .u64=>1
 | .node=>8
 | .slot=>11
 | .find=>4
 | .pstep=>2
 | .pn=>4
 | .ext=>4
 | .stp=>5
 | .hent=>1
 | .hu8=>1

def EC.tid:EC->TypeId
 | .ent=>24
 | .i64=>2
 | .int=>3
 | .u32=>28
 | .bool=>4
 | .u8=>5
 | .u64=>22
 | .node=>102
 | .slot=>120
 | .find=>217
 | .pstep=>199
 | .pn=>179
 | .ext=>181
 | .stp=>123
 | .hent=>26
 | .hu8=>35

def EC.byT (t:TypeId):Option EC :=
 if t=24 then some .ent else
 if t=2 then some .i64 else
 if t=3 then some .int else
 if t=28 then some .u32 else
 if t=4 then some .bool else
 if t=5 then some .u8 else
 if t=22 then some .u64 else
 if t=102 then some .node else
 if t=120 then some .slot else
 if t=217 then some .find else
 if t=199 then some .pstep else
 if t=179 then some .pn else
 if t=181 then some .ext else
 if t=123 then some .stp else
 if t=26 then some .hent else
 if t=35 then some .hu8 else
 none

def EC.lst (e:EC):Option EC :=
 if e = .hent then some .ent else
 if e = .hu8 then some .u8 else
 none
noncomputable def C0:Ctx where
 P:=Tryz.prog
 EC:=EC
 deq:=inferInstance
 α:=EC.α
 enc:=EC.enc
 dcd:=EC.dcd
 dft:=EC.dft
 sz:=EC.sz
 tid:=EC.tid
 byT:=EC.byT
 lst:=EC.lst
 X:=Empty
 I:=fun _ _ _ _=>False

theorem dcd_ent_spec {cs:List Value} {x:Ent} (h:dcd_ent cs=some x):EC.enc .ent x=cs:=by unfold dcd_ent at h;split at h <;> simp at h;subst h;rfl
theorem dcd_i64_spec {cs:List Value} {x:Int} (h:dcd_i64 cs=some x):EC.enc .i64 x=cs:=by unfold dcd_i64 at h;split at h <;> simp at h;subst h;rfl
theorem dcd_int_spec {cs:List Value} {x:Int} (h:dcd_int cs=some x):EC.enc .int x=cs:=by unfold dcd_int at h;split at h <;> simp at h;subst h;rfl
theorem dcd_u32_spec {cs:List Value} {x:Int} (h:dcd_u32 cs=some x):EC.enc .u32 x=cs:=by unfold dcd_u32 at h;split at h <;> simp at h;subst h;rfl
theorem dcd_bool_spec {cs:List Value} {x:Bool} (h:dcd_bool cs=some x):EC.enc .bool x=cs:=by unfold dcd_bool at h;split at h <;> simp at h;subst h;rfl
theorem dcd_u8_spec {cs:List Value} {x:Int} (h:dcd_u8 cs=some x):EC.enc .u8 x=cs:=by unfold dcd_u8 at h;split at h <;> simp at h;subst h;rfl
theorem dcd_u64_spec {cs:List Value} {x:Int} (h:dcd_u64 cs=some x):EC.enc .u64 x=cs:=by unfold dcd_u64 at h;split at h <;> simp at h;subst h;rfl
theorem dcd_node_spec {cs:List Value} {x:NodeT} (h:dcd_node cs=some x):EC.enc .node x=cs:=by unfold dcd_node at h;split at h <;> simp at h;subst h;rfl
theorem dcd_slot_spec {cs:List Value} {x:SlotT} (h:dcd_slot cs=some x):EC.enc .slot x=cs:=by unfold dcd_slot at h;split at h <;> simp at h;subst h;rfl
theorem dcd_find_spec {cs:List Value} {x:FindT} (h:dcd_find cs=some x):EC.enc .find x=cs:=by unfold dcd_find at h;split at h <;> simp at h;subst h;rfl
theorem dcd_pstep_spec {cs:List Value} {x:PStepT} (h:dcd_pstep cs=some x):EC.enc .pstep x=cs:=by unfold dcd_pstep at h;split at h <;> simp at h;subst h;rfl
theorem dcd_pn_spec {cs:List Value} {x:PNT} (h:dcd_pn cs=some x):EC.enc .pn x=cs:=by unfold dcd_pn at h;split at h <;> simp at h;subst h;rfl
theorem dcd_ext_spec {cs:List Value} {x:ExtT} (h:dcd_ext cs=some x):EC.enc .ext x=cs:=by unfold dcd_ext at h;split at h <;> simp at h;subst h;rfl
theorem dcd_stp_spec {cs:List Value} {x:StpT} (h:dcd_stp cs=some x):EC.enc .stp x=cs:=by unfold dcd_stp at h;split at h <;> simp at h;subst h;rfl
theorem dcd_hent_spec {cs:List Value} {x:Unit} (h:dcd_hent cs=some x):EC.enc .hent x=cs:=by cases h
theorem dcd_hu8_spec {cs:List Value} {x:Unit} (h:dcd_hu8 cs=some x):EC.enc .hu8 x=cs:=by cases h
theorem byT_spec {t:TypeId} {e:EC} (h:EC.byT t=some e):t=e.tid:=by
 unfold EC.byT at h
 by_cases h_ent:t=24;(rw [if_pos h_ent] at h;cases h;exact h_ent);rw [if_neg h_ent] at h
 by_cases h_i64:t=2;(rw [if_pos h_i64] at h;cases h;exact h_i64);rw [if_neg h_i64] at h
 by_cases h_int:t=3;(rw [if_pos h_int] at h;cases h;exact h_int);rw [if_neg h_int] at h
 by_cases h_u32:t=28;(rw [if_pos h_u32] at h;cases h;exact h_u32);rw [if_neg h_u32] at h
 by_cases h_bool:t=4;(rw [if_pos h_bool] at h;cases h;exact h_bool);rw [if_neg h_bool] at h
 by_cases h_u8:t=5;(rw [if_pos h_u8] at h;cases h;exact h_u8);rw [if_neg h_u8] at h
 by_cases h_u64:t=22;(rw [if_pos h_u64] at h;cases h;exact h_u64);rw [if_neg h_u64] at h
 by_cases h_node:t=102;(rw [if_pos h_node] at h;cases h;exact h_node);rw [if_neg h_node] at h
 by_cases h_slot:t=120;(rw [if_pos h_slot] at h;cases h;exact h_slot);rw [if_neg h_slot] at h
 by_cases h_find:t=217;(rw [if_pos h_find] at h;cases h;exact h_find);rw [if_neg h_find] at h
 by_cases h_pstep:t=199;(rw [if_pos h_pstep] at h;cases h;exact h_pstep);rw [if_neg h_pstep] at h
 by_cases h_pn:t=179;(rw [if_pos h_pn] at h;cases h;exact h_pn);rw [if_neg h_pn] at h
 by_cases h_ext:t=181;(rw [if_pos h_ext] at h;cases h;exact h_ext);rw [if_neg h_ext] at h
 by_cases h_stp:t=123;(rw [if_pos h_stp] at h;cases h;exact h_stp);rw [if_neg h_stp] at h
 by_cases h_hent:t=26;(rw [if_pos h_hent] at h;cases h;exact h_hent);rw [if_neg h_hent] at h
 by_cases h_hu8:t=35;(rw [if_pos h_hu8] at h;cases h;exact h_hu8);rw [if_neg h_hu8] at h
 cases h
theorem info_of {P:Program} {t:TypeId} {z:Value} {n b:Nat} {l:List Value} (h:(P.info? t).map (fun i=>(i.zero,i.size,i.bytes))=some (some z,n,b)) (hz:z.cells.toList=l) (hb:0 < b) :
  ∃ i z,P.info? t=some i/\i.zero=some z/\i.size=n/\z.cells.toList=l/\0 < i.bytes:=by
 rw [Option.map_eq_some_iff] at h
 obtain ⟨i,h1,h2⟩:=h
 simp only [Prod.mk.injEq] at h2
 exact ⟨i,z,h1,h2.1,h2.2.1,hz,h2.2.2 ▸ hb⟩

theorem lst_spec {h e:EC} (hl:EC.lst h=some e):h.sz=1:=by
 unfold EC.lst at hl
 by_cases h_hent:h = .hent;(rw [h_hent];rfl);rw [if_neg h_hent] at hl
 by_cases h_hu8:h = .hu8;(rw [h_hu8];rfl);rw [if_neg h_hu8] at hl
 cases hl
theorem C0.ok:C0.OK where
 len e x:=by cases e <;> rfl
 one e x:=by
  have h:∀ u ∈ EC.enc e x,u.oneCell'=true:=by cases e <;> (intro u hu;simp [EC.enc] at hu;(first | (repeat (rcases hu with rfl | hu;exact rfl));done | (repeat (rcases hu with rfl | hu;exact rfl));(subst hu;rfl)))
  exact h
 dcd e cs x h:=by
  cases e with
  | ent=>exact dcd_ent_spec h
  | i64=>exact dcd_i64_spec h
  | int=>exact dcd_int_spec h
  | u32=>exact dcd_u32_spec h
  | bool=>exact dcd_bool_spec h
  | u8=>exact dcd_u8_spec h
  | u64=>exact dcd_u64_spec h
  | node=>exact dcd_node_spec h
  | slot=>exact dcd_slot_spec h
  | find=>exact dcd_find_spec h
  | pstep=>exact dcd_pstep_spec h
  | pn=>exact dcd_pn_spec h
  | ext=>exact dcd_ext_spec h
  | stp=>exact dcd_stp_spec h
  | hent=>exact dcd_hent_spec h
  | hu8=>exact dcd_hu8_spec h
 pos e:=by cases e <;> decide
 info e:=by
  cases e with
  | ent=>exact info_of (z:=.agg #[.int .i64 0,.int .i64 0]) (n:=2) (b:=16) (by kernel_rfl) rfl (by decide)
  | i64=>exact info_of (z:=.int .i64 0) (n:=1) (b:=8) (by kernel_rfl) rfl (by decide)
  | int=>exact info_of (z:=.int .i64 0) (n:=1) (b:=8) (by kernel_rfl) rfl (by decide)
  | u32=>exact info_of (z:=.int .u32 0) (n:=1) (b:=4) (by kernel_rfl) rfl (by decide)
  | bool=>exact info_of (z:=.bool false) (n:=1) (b:=1) (by kernel_rfl) rfl (by decide)
  | u8=>exact info_of (z:=.int .u8 0) (n:=1) (b:=1) (by kernel_rfl) rfl (by decide)
  | u64=>exact info_of (z:=.int .u64 0) (n:=1) (b:=8) (by kernel_rfl) rfl (by decide)
  | node=>exact info_of (z:=.agg #[.int .i64 0,.int .i64 0,.int .u32 0,.int .u32 0,.int .i64 0,.int .i64 0,.int .i64 0,.int .i64 0]) (n:=8) (b:=56) (by kernel_rfl) rfl (by decide)
  | slot=>exact info_of (z:=.agg #[.bool false,.int .i64 0,.int .u32 0,.int .i64 0,.int .i64 0,.int .u32 0,.int .u32 0,.int .i64 0,.int .i64 0,.int .i64 0,.int .i64 0]) (n:=11) (b:=80) (by kernel_rfl) rfl (by decide)
  | find=>exact info_of (z:=.agg #[.int .i64 0,.int .u32 0,.int .i64 0,.int .i64 0]) (n:=4) (b:=32) (by kernel_rfl) rfl (by decide)
  | pstep=>exact info_of (z:=.agg #[.int .u32 0,.bool false]) (n:=2) (b:=8) (by kernel_rfl) rfl (by decide)
  | pn=>exact info_of (z:=.agg #[.int .i64 0,.int .i64 0,.int .u64 0,.int .u64 0]) (n:=4) (b:=32) (by kernel_rfl) rfl (by decide)
  | ext=>exact info_of (z:=.agg #[.bool false,.int .i64 0,.int .i64 0,.int .i64 0]) (n:=4) (b:=32) (by kernel_rfl) rfl (by decide)
  | stp=>exact info_of (z:=.agg #[.int .i64 0,.int .i64 0,.int .i64 0,.bool false,.bool false]) (n:=5) (b:=32) (by kernel_rfl) rfl (by decide)
  | hent=>exact info_of (z:=.slice none 0 0) (n:=1) (b:=24) (by kernel_rfl) rfl (by decide)
  | hu8=>exact info_of (z:=.slice none 0 0) (n:=1) (b:=24) (by kernel_rfl) rfl (by decide)
 byT t e h:=by
  exact byT_spec h
 lst h e hl:=lst_spec hl
 local_ x:=x.elim
 mixed:=Tryz.checked.mixed

theorem enter_of {f:FuncId} {fn:Func} {c:Code} (hf:Tryz.prog.funcs[f]?=some fn) (hname:(fn.name == "runtime.NumGoroutine")=false) (hb:fn.body=some c) (args:Array Value) (w:World) :
  (callFunc f args).run C0.P w = .ok (.enter f args) w:=MuLone.run_callFunc_enter hf hname hb args w

abbrev vI (x:Int):At:=.val (.int .i64 x)
abbrev vU (x:Int):At:=.val (.int .u32 x)
abbrev vU64 (x:Int):At:=.val (.int .u64 x)
abbrev vB (b:Bool):At:=.val (.bool b)
abbrev KT:=SV->List (Chunk C0)->List Nat->Prop
/-- A contract out of a run. -/
theorem SoundT.of {f:FuncId} {fn:Func} {c:Code} {t:Tfm C0} (hf:Tryz.prog.funcs[f]?=some fn) (hname:(fn.name == "runtime.NumGoroutine")=false) (hb:fn.body=some c)
  (h:∀ args H K,t args H K->RowB H->∃ A:Ann C0,GOK C0 A.Γ/\vc C0 A fn args H (normK H.length K)):SoundT C0 f t :=
 ⟨enter_of hf hname hb,fun args H K hk=>by
  refine CallOK.rowB C0.ok fun hB=>?_
  obtain ⟨A,hG,hv⟩:=h args H K hk hB
  exact CallOK.norm (call_of_vc C0.ok hG hf hv)⟩
/-- The same names touched, whichever way a run takes. -/
def wideK (W0:List Nat) (K:KT):KT:=fun r H ts=>if ts.all W0.contains then K r H W0 else False
theorem CallOK.wide {f:FuncId} {args:List TV} {H:List (Chunk C0)} {K:KT} (W0:List Nat) (h:CallOK C0 f args H (wideK W0 K)):CallOK C0 f args H K:=by
 intro σ φ w vs hs hr hn
 refine Calls.mono (h σ φ w vs hs hr hn) fun e w' hh=>?_
 cases e with
 | panicked ch=>exact hh.elim
 | outgrown=>exact hh.elim
 | returned v =>
  obtain ⟨r,H',ts,σ',φ',hout,hK⟩:=hh
  unfold wideK at hK
  split at hK <;> try exact hK.elim
  rename_i hsub
  have hts:∀ n,n ∉ W0->n ∉ ts:=fun n hn ht=>hn (by simpa using List.all_eq_true.1 hsub n ht)
  exact ⟨r,H',W0,σ',φ',⟨hout.rel,hout.rcl,hout.sat,hout.adv,hout.len,fun n hn ho=>hout.agree n hn (ho.imp id (hts n)),hout.own,fun n hn ht=>hout.touch n hn (hts n ht)⟩,hK⟩
theorem SoundT.ofW {f:FuncId} {fn:Func} {c:Code} {t:Tfm C0} (W0:List Nat) (hf:Tryz.prog.funcs[f]?=some fn) (hname:(fn.name == "runtime.NumGoroutine")=false) (hb:fn.body=some c)
  (h:∀ args H K,t args H K->RowB H->∃ A:Ann C0,GOK C0 A.Γ/\vc C0 A fn args H (normK H.length (wideK W0 K))):SoundT C0 f t :=
 ⟨enter_of hf hname hb,fun args H K hk=>by
  refine CallOK.wide W0 (CallOK.rowB C0.ok fun hB=>?_)
  obtain ⟨A,hG,hv⟩:=h args H K hk hB
  exact CallOK.norm (call_of_vc C0.ok hG hf hv)⟩

theorem SoundT.weak {f:FuncId} {t t':Tfm C0} (h:SoundT C0 f t) (hw:∀ args H K,t' args H K->t args H K):SoundT C0 f t':=⟨h.enter,fun args H K hk=>h.call args H K (hw args H K hk)⟩
noncomputable def A0:Ann C0:={ Γ:=[] }
theorem brS_of {b:Bool} {t f:Prop} (ht:b=true->t) (hf:b=false->f):brS b t f:=by cases b <;> simp_all [brS]
theorem bytes_ent:bytesOf C0 EC.ent=16:=by kernel_rfl
theorem bytes_int:bytesOf C0 EC.int=8:=by kernel_rfl
theorem bytes_u32:bytesOf C0 EC.u32=4:=by kernel_rfl
theorem bytes_bool:bytesOf C0 EC.bool=1:=by kernel_rfl
theorem bytes_u8:bytesOf C0 EC.u8=1:=by kernel_rfl
theorem bytes_u64:bytesOf C0 EC.u64=8:=by kernel_rfl
theorem bytes_node:bytesOf C0 EC.node=56:=by kernel_rfl
theorem bytes_slot:bytesOf C0 EC.slot=80:=by kernel_rfl
theorem bytes_pstep:bytesOf C0 EC.pstep=8:=by kernel_rfl
theorem bytes_pn:bytesOf C0 EC.pn=32:=by kernel_rfl
theorem bytes_ext:bytesOf C0 EC.ext=32:=by kernel_rfl
theorem bytes_hent:bytesOf C0 EC.hent=24:=by kernel_rfl
end Go.Proofs.YtedfbafngmicpaaGreat.Sx
end
section
/- The checksum of bytes: a table's step is eight steps of a bit. No program in sight. -/
namespace Go.Proofs.YtedfbafngmicpaaGreat
open Go

def polC:BitVec 32:=0x82F63B78#32
def stC (x:BitVec 32):BitVec 32:=(x >>> 1) ^^^ (if x.getLsbD 0 then polC else 0#32)
def itC:Nat->BitVec 32->BitVec 32
 | 0,x=>x
 | n+1,x=>itC n (stC x)
theorem stC_xor (a b:BitVec 32):stC (a ^^^ b)=stC a ^^^ stC b:=by
 unfold stC
 rw [BitVec.getLsbD_xor,BitVec.ushiftRight_xor_distrib]
 cases a.getLsbD 0 <;> cases b.getLsbD 0
 ·simp
 ·simp [BitVec.xor_assoc]
 ·simp only [Bool.bne_false,if_true,Bool.false_eq_true,if_false,BitVec.xor_zero]
  rw [BitVec.xor_assoc,BitVec.xor_comm (b >>> 1),← BitVec.xor_assoc]
 ·simp only [Bool.bne_true,Bool.not_true,if_true,Bool.false_eq_true,if_false,BitVec.xor_zero]
  rw [BitVec.xor_assoc (a >>> 1),← BitVec.xor_assoc polC,BitVec.xor_comm polC,BitVec.xor_assoc (b >>> 1),BitVec.xor_self,BitVec.xor_zero]
theorem itC_xor:∀ (n:Nat) (a b:BitVec 32),itC n (a ^^^ b)=itC n a ^^^ itC n b
 | 0,_,_=>rfl
 | n+1,a,b=>by
  show itC n (stC (a ^^^ b))=itC n (stC a) ^^^ itC n (stC b)
  rw [stC_xor,itC_xor n]
/-- Steps of a number whose low bits are none. -/
theorem itC_low:∀ (n:Nat) (x:BitVec 32),(∀ i,i < n->x.getLsbD i=false)->itC n x=x >>> n
 | 0,x,_=>by simp [itC]
 | n+1,x,h=>by
  have e:stC x=x >>> 1:=by unfold stC;rw [h 0 (Nat.succ_pos n)];simp
  show itC n (stC x)=_
  rw [e,itC_low n _ fun i hi=>by rw [BitVec.getLsbD_ushiftRight];exact h (1+i) (by omega),Nat.add_comm n 1,BitVec.shiftRight_add]
/-- The table's step. -/
theorem itC_tab (x:BitVec 32):itC 8 x=(x >>> 8) ^^^ itC 8 (x &&& 255#32):=by
 have e:x=(x &&& ~~~ 255#32) ^^^ (x &&& 255#32):=by
  ext i hi
  simp only [BitVec.getElem_xor,BitVec.getElem_and,BitVec.getElem_not]
  cases x[i] <;> cases (255#32)[i] <;> rfl
 have lo:itC 8 (x &&& ~~~ 255#32)=(x &&& ~~~ 255#32) >>> 8:=itC_low 8 _ fun i hi=>by
  rw [BitVec.getLsbD_and,BitVec.getLsbD_not]
  have:(255#32).getLsbD i=true:=by
   match i,hi with
   | 0,_ | 1,_ | 2,_ | 3,_ | 4,_ | 5,_ | 6,_ | 7,_=>rfl
  rw [this];simp
 have hi:(x &&& ~~~ 255#32) >>> 8=x >>> 8:=by
  ext i hi
  simp only [BitVec.getElem_ushiftRight,BitVec.getLsbD_and,BitVec.getLsbD_not]
  have:(255#32).getLsbD (8+i)=false:=by
   rw [show (255#32)=BitVec.ofNat 32 255 from rfl,BitVec.getLsbD_ofNat]
   have:Nat.testBit 255 (8+i)=false:=Nat.testBit_lt_two_pow (Nat.lt_of_lt_of_le (by decide:255 < 2 ^ 8) (Nat.pow_le_pow_right (by decide) (by omega)))
   rw [this];simp
  rw [this]
  by_cases q:8+i < 32
  ·simp [q]
  ·rw [BitVec.getLsbD_of_ge x _ (by omega)];simp
 conv=>lhs;rw [e]
 rw [itC_xor,lo,hi]
end Go.Proofs.YtedfbafngmicpaaGreat
end
section
/- Numbers as bytes: varints, zigzag, words. No program in sight. -/
namespace Go.Proofs.YtedfbafngmicpaaGreat
open Go

def vE:Nat->Int->List Int
 | 0,u=>[u]
 | f+1,u=>if u < 128 then [u] else (u % 128+128) :: vE f (u / 128)
/-- Reading a varint: value, bytes, error (6: malformed, 5: truncated, in the numbers that are given). -/
def vD (eT eM:Int) (i:Nat):List Int->Int->Int × Int × Int
 | [],_=>(0,0,eT)
 | c :: r,u=>if (i=9/\1 < c) ∨ (0 < i/\c=0) then (0,0,eM) else if c < 128 then (u+(c % 128) * 128 ^ i,(i:Int)+1,0) else vD eT eM (i+1) r (u+(c % 128) * 128 ^ i)
theorem vE_len:∀ (f:Nat) (u:Int),1<=(vE f u).length/\(vE f u).length<=f+1
 | 0,u=>⟨Nat.le_refl _,Nat.le_refl _⟩
 | f+1,u=>by
  have:=vE_len f (u / 128)
  unfold vE
  split
  ·simp
  ·simp;omega
theorem vE_byte:∀ (f:Nat) (u:Int),0<=u->u < 128 ^ f * 128->∀ c ∈ vE f u,0<=c/\c < 256
 | 0,u,h0,h,c,hc=>by
  have:c=u:=by simpa [vE] using hc
  rw [Int.pow_zero] at h
  omega
 | f+1,u,h0,h,c,hc=>by
  unfold vE at hc
  split at hc
  ·have:c=u:=by simpa using hc
   omega
  ·rcases List.mem_cons.1 hc with e | hc
   ·omega
   ·refine vE_byte f (u / 128) (by omega) ?_ c hc
    rw [Int.pow_succ] at h
    omega
theorem vD_vE (eT eM:Int):∀ (f i:Nat) (u a:Int) (r:List Int),f+i=10->0<=u->(0 < i->1<=u)->u < 2 ^ (64 - 7 * i)->vD eT eM i (vE f u ++ r) a=(a+u * 128 ^ i,(i:Int)+(vE f u).length,0)
 | 0,i,u,a,r,hf,h0,h1,h2=>by
  obtain rfl:i=10:=by omega
  have h2:u < 1:=h2
  have:=h1 (by omega)
  omega
 | f+1,i,u,a,r,hf,h0,h1,h2=>by
  unfold vE
  by_cases c:u < 128
  ·rw [if_pos c]
   show vD eT eM i (u :: r) a=_
   unfold vD
   rw [if_neg ?_,if_pos c,Int.emod_eq_of_lt h0 c]
   ·rfl
   ·rintro (⟨rfl,q⟩ | ⟨q1,q2⟩)
    ·have h2:u < 2:=h2
     omega
    ·have:=h1 q1;omega
  ·rw [if_neg c]
   have hi:i<=8:=by
    apply Classical.byContradiction
    intro n
    obtain rfl:i=9:=by
     rcases Nat.lt_or_ge i 10 with q | q
     ·omega
     ·omega
    have h2:u < 2:=h2
    omega
   show vD eT eM i ((u % 128+128) :: (vE f (u / 128) ++ r)) a=_
   unfold vD
   rw [if_neg ?_,if_neg (by omega),vD_vE eT eM f (i+1) (u / 128) _ r (by omega) (by omega) (fun _=>by omega) ?_]
   ·have e:(u % 128+128) % 128=u % 128:=by omega
    have p:(128:Int) ^ (i+1)=128 ^ i * 128:=Int.pow_succ ..
    rw [e,p]
    congr 1
    ·rw [Int.add_assoc]
     congr 1
     have d:u=u % 128+u / 128 * 128:=by omega
     conv=>rhs;rw [d]
     rw [Int.add_mul,← Int.mul_assoc,Int.mul_assoc (u / 128),Int.mul_assoc (u / 128),Int.mul_comm 128]
    ·congr 1
     rw [List.length_cons];omega
   ·have e:64 - 7 * i=(64 - 7 * (i+1))+7:=by omega
    rw [e,Int.pow_add] at h2
    have p7:(2:Int) ^ 7=128:=by decide
    rw [p7] at h2
    omega
   ·rintro (⟨q,_⟩ | ⟨_,q⟩)
    ·omega
    ·omega
def zz (n:Int):Int:=if 0<=n then 2 * n else -2 * n - 1
def uz (u:Int):Int:=if u % 2=0 then u / 2 else -(u / 2) - 1
theorem uz_zz (n:Int):uz (zz n)=n:=by
 unfold uz zz
 by_cases c:0<=n
 ·rw [if_pos c,if_pos (by omega)];omega
 ·rw [if_neg c,if_neg (by omega)];omega
theorem zz_rng {n:Int} (h1 : -9223372036854775808<=n) (h2:n<=9223372036854775807):0<=zz n/\zz n<=18446744073709551615:=by
 unfold zz;split <;> omega
/-- The n bytes of a number, the greatest first. -/
def wB:Nat->Int->List Int
 | 0,_=>[]
 | n+1,u=>wB n (u / 256) ++ [u % 256]
def wD (l:List Int):Int:=l.foldl (fun a c=>256 * a+c) 0
theorem wB_len:∀ (n:Nat) (u:Int),(wB n u).length=n
 | 0,_=>rfl
 | n+1,u=>by unfold wB;rw [List.length_append,wB_len n];rfl
theorem wB_byte:∀ (n:Nat) (u:Int),∀ c ∈ wB n u,0<=c/\c < 256
 | 0,_,c,hc=>by simp [wB] at hc
 | n+1,u,c,hc=>by
  unfold wB at hc
  rcases List.mem_append.1 hc with hc | hc
  ·exact wB_byte n _ c hc
  ·rw [List.mem_singleton.1 hc];omega
theorem wD_snoc (l:List Int) (c:Int):wD (l ++ [c])=256 * wD l+c:=by unfold wD;rw [List.foldl_append];rfl
theorem wD_wB:∀ (n:Nat) (u:Int),0<=u->u < 256 ^ n->wD (wB n u)=u
 | 0,u,h0,h=>by
  rw [Int.pow_zero] at h
  show (0:Int)=u
  omega
 | n+1,u,h0,h=>by
  unfold wB
  rw [Int.pow_succ] at h
  rw [wD_snoc,wD_wB n (u / 256) (by omega) (by omega)]
  omega
end Go.Proofs.YtedfbafngmicpaaGreat
end
section
/- Frames: a length, bytes, a checksum. No program in sight. -/
namespace Go.Proofs.YtedfbafngmicpaaGreat
open Go

def crX (b:List Int) (x:BitVec 32):BitVec 32:=b.foldl (fun x v=>itC 8 (x ^^^ BitVec.ofInt 32 v)) x
/-- The checksum of bytes. -/
def crc (b:List Int):Int:=((~~~ crX b (~~~ 0#32)).toNat:Int)
theorem crc_rng (b:List Int):0<=crc b/\crc b < 4294967296:=by
 have:=(~~~ crX b (~~~ 0#32)).isLt
 unfold crc
 omega
def frH (p:List Int):List Int:=vE 10 p.length ++ p
def frE (p:List Int):List Int:=frH p ++ wB 4 (crc (frH p))
/-- Reading a frame: payload, bytes, error. -/
def frD (eT eM eC top:Int) (r:List Int):List Int × Int × Int :=
 match vD eT eM 0 r 0 with
 | (n,k,e)=>if e ≠ 0 then ([],0,e) else if top < n then ([],0,eM) else if (r.length:Int) < k+n+4 then ([],0,eT) else
  if wD ((r.drop (k+n).toNat).take 4)=crc (r.take (k+n).toNat) then ((r.take (k+n).toNat).drop k.toNat,k+n+4,0) else ([],0,eC)
theorem frD_frE {eT eM eC top:Int} {p s:List Int} (hp:(p.length:Int)<=top) (h2:(p.length:Int) < 18446744073709551616):frD eT eM eC top (frE p ++ s)=(p,((frE p).length:Int),(0:Int)):=by
 have v:=vD_vE eT eM 10 0 p.length 0 (p ++ (wB 4 (crc (frH p)) ++ s)) rfl (by omega) (fun q=>absurd q (Nat.lt_irrefl _)) h2
 have e0:frE p ++ s=vE 10 p.length ++ (p ++ (wB 4 (crc (frH p)) ++ s)):=by unfold frE frH;simp [List.append_assoc]
 have hl:(frH p).length=(vE 10 (p.length:Int)).length+p.length:=by unfold frH;rw [List.length_append]
 have fl:(frE p).length=(frH p).length+4:=by unfold frE;rw [List.length_append,wB_len]
 unfold frD
 rw [← e0] at v
 rw [v]
 dsimp only
 have ek:((0:Nat):Int)+((vE 10 (p.length:Int)).length:Int)+(0+(p.length:Int) * 128 ^ 0)=((frH p).length:Int):=by
  rw [hl,Int.pow_zero];omega
 rw [if_neg (by simp),if_neg (by rw [Int.pow_zero];omega),ek,if_neg (by rw [List.length_append,fl];omega)]
 have t1:(frE p ++ s).take (((frH p).length:Int)).toNat=frH p:=by
  unfold frE
  rw [List.append_assoc,Int.toNat_natCast,List.take_left']
  rfl
 have t2:((frE p ++ s).drop (((frH p).length:Int)).toNat).take 4=wB 4 (crc (frH p)):=by
  unfold frE
  rw [List.append_assoc,Int.toNat_natCast,List.drop_left' rfl,List.take_left' (wB_len 4 _)]
 have c:=crc_rng (frH p)
 have p4:(256:Int) ^ 4=4294967296:=by decide
 rw [t1,t2,wD_wB 4 _ c.1 (by rw [p4];exact c.2),if_pos rfl]
 have d0:(((0:Nat):Int)+((vE 10 (p.length:Int)).length:Int)).toNat=(vE 10 (p.length:Int)).length:=by omega
 have d1:(frH p).drop (vE 10 (p.length:Int)).length=p:=by unfold frH;exact List.drop_left' rfl
 have d2:((frH p).length:Int)+4=(frE p).length:=by omega
 rw [d0,d1,d2]
end Go.Proofs.YtedfbafngmicpaaGreat
end
section
/- Operations on bits, as numbers. No program in sight. -/
namespace Go.Proofs.YtedfbafngmicpaaGreat
open Go

def xorI (k:IntKind) (x y:Int):Int:=k.wrap (BitVec.ofInt k.bits x ^^^ BitVec.ofInt k.bits y).toNat
def andI (k:IntKind) (x y:Int):Int:=k.wrap (BitVec.ofInt k.bits x &&& BitVec.ofInt k.bits y).toNat
def orI (k:IntKind) (x y:Int):Int:=k.wrap (BitVec.ofInt k.bits x ||| BitVec.ofInt k.bits y).toNat
theorem toNat_of (w:Nat) {x:Int} (h0:0<=x) (h:x < 2 ^ w):(BitVec.ofInt w x).toNat=x.toNat:=by
 rw [BitVec.toNat_ofInt,Int.emod_eq_of_lt h0 (by rw [Int.natCast_pow];exact h)]
theorem wrap_nat8 {n:Nat} (h:n < 256):IntKind.u8.wrap (n:Int)=n:=by
 unfold IntKind.wrap
 simp [IntKind.signed,IntKind.bits]
 omega
theorem wrap_nat32 {n:Nat} (h:n < 4294967296):IntKind.u32.wrap (n:Int)=n:=by
 unfold IntKind.wrap
 simp [IntKind.signed,IntKind.bits]
 omega
theorem wrap_nat64 {n:Nat} (h:n < 18446744073709551616):IntKind.u64.wrap (n:Int)=n:=by
 unfold IntKind.wrap
 simp [IntKind.signed,IntKind.bits]
 omega
/-- The low bit. -/
theorem andI_1 {x:Int} (h0:0<=x) (h:x < 4294967296):andI .u32 x 1=x % 2:=by
 show IntKind.u32.wrap ((BitVec.ofInt 32 x &&& BitVec.ofInt 32 1).toNat:Int)=_
 rw [wrap_nat32 (BitVec.isLt _),BitVec.toNat_and,toNat_of 32 h0 h,show (BitVec.ofInt 32 1).toNat=1 from rfl,Nat.and_one_is_mod]
 omega
theorem andI_64 {x:Int} (h0:0<=x) (h:x < 18446744073709551616):andI .u64 x 1=x % 2:=by
 show IntKind.u64.wrap ((BitVec.ofInt 64 x &&& BitVec.ofInt 64 1).toNat:Int)=_
 rw [wrap_nat64 (BitVec.isLt _),BitVec.toNat_and,toNat_of 64 h0 h,show (BitVec.ofInt 64 1).toNat=1 from rfl,Nat.and_one_is_mod]
 omega
/-- The low seven bits of a byte. -/
theorem andI_127 {c:Int} (h0:0<=c) (h:c < 256):andI .u8 c 127=c % 128:=by
 show IntKind.u8.wrap ((BitVec.ofInt 8 c &&& BitVec.ofInt 8 127).toNat:Int)=_
 rw [wrap_nat8 (BitVec.isLt _),BitVec.toNat_and,toNat_of 8 h0 h,show (BitVec.ofInt 8 127).toNat=2 ^ 7 - 1 from rfl,Nat.and_two_pow_sub_one_eq_mod]
 omega
/-- The highest bit of a byte set. -/
theorem orI_128 {c:Int} (h0:0<=c) (h:c < 256):orI .u8 c 128=c % 128+128:=by
 show IntKind.u8.wrap ((BitVec.ofInt 8 c ||| BitVec.ofInt 8 128).toNat:Int)=_
 rw [wrap_nat8 (BitVec.isLt _),BitVec.toNat_or,toNat_of 8 h0 h,show (BitVec.ofInt 8 128).toNat=128 from rfl]
 have key:∀ n:Nat,n < 256->n ||| 128=n % 128+128:=by decide +kernel
 rw [key _ (by omega)]
 omega
theorem p64:(2:Int) ^ 64=18446744073709551616:=by decide +kernel
/-- Bits that do not meet are added. -/
theorem orI_add {u w:Int} {i:Nat} (u0:0<=u) (u1:u < 2 ^ i) (w0:0<=w) (h:u+w * 2 ^ i < 18446744073709551616):orI .u64 u (w * 2 ^ i)=u+w * 2 ^ i:=by
 have p:(0:Int)<=w * 2 ^ i:=Int.mul_nonneg w0 (Int.le_of_lt (Int.pow_pos (by decide)))
 show IntKind.u64.wrap ((BitVec.ofInt 64 u ||| BitVec.ofInt 64 (w * 2 ^ i)).toNat:Int)=_
 rw [wrap_nat64 (BitVec.isLt _),BitVec.toNat_or,toNat_of 64 u0 (by rw [p64];omega),toNat_of 64 p (by rw [p64];omega)]
 have e:(w * 2 ^ i).toNat=2 ^ i * w.toNat:=by
  rw [Int.toNat_mul w0 (Int.le_of_lt (Int.pow_pos (by decide))),Nat.mul_comm]
  congr 1
 have ul:u.toNat < 2 ^ i:=by
  have:((u.toNat:Nat):Int) < ((2 ^ i:Nat):Int):=by rw [Int.toNat_of_nonneg u0,Int.natCast_pow];exact u1
  omega
 rw [e,Nat.or_comm,← Nat.two_pow_add_eq_or_of_lt ul,← e]
 omega
end Go.Proofs.YtedfbafngmicpaaGreat
end
section
/- word: varints, keys. -/
namespace Go.Proofs.YtedfbafngmicpaaGreat.Sx
open Go

/-KEEP vE orI xorI andI uvA-/
def uvA (b:List Int) (u:Int):List Int:=b ++ vE 10 u
structure XUv (P:Int->List Int->Prop) where
 u:Int
 o:List Int
 h:P u o
noncomputable def aUv (P:Int->List Int->Prop) (b:List Int):Ann C0:={ Γ:=[],inv:=fun n=>match n with
 | 2=>some { X:=XUv P,sl:=[1,5],tf:=fun x=>[vi .u64 x.u,.one (.at (.slc 1))],hf:=fun x=>[.row false EC.u8 b,.row true EC.u8 x.o],μ:=fun x=>x.u.toNat }
 | _=>none }
def tUv:Tfm C0:=fun args H K=>match args,H with
 | [.at (.slc 0),.at (.val (.int .u64 u))],[.row false .u8 b]=>0<=u/\u < 18446744073709551616/\b.length<=1000000000/\∀ o,o=uvA b u->K (.one (.at (.slc 1))) [.row false EC.u8 b,.row true EC.u8 o] []
 | _,_=>False
theorem wrap_u8m {x:Int} (_:0<=x):IntKind.u8.wrap x=x % 256:=by
 unfold IntKind.wrap
 simp [IntKind.signed,IntKind.bits]
theorem fdiv7 {x:Int}:x.fdiv (2 ^ min (Int.toNat 7) IntKind.u64.bits)=x / 128:=by
 rw [show (2:Int) ^ min (Int.toNat 7) IntKind.u64.bits=128 from by decide +kernel]
 exact Int.fdiv_eq_ediv_of_nonneg _ (by decide)
def PUv (b:List Int) (u:Int):Int->List Int->Prop:=fun x o=>0<=x/\∃ f,o.length+f=b.length+10/\x < 128 ^ f * 128/\o ++ vE f x=b ++ vE 10 u
theorem vc_uv (b:List Int) (u:Int) (K:KT) (u0:0<=u) (u1:u < 18446744073709551616) (hb:b.length<=1000000000) (h:∀ o,o=uvA b u->K (.one (.at (.slc 1))) [.row false EC.u8 b,.row true EC.u8 o] []) :
  vc C0 (aUv (PUv b u) b) Tryz.f124 [.at (.slc 0),.at (.val (.int .u64 u))] [.row false EC.u8 b] (normK 1 K):=by
 generalize hP:PUv b u=P
 refine Eq.mp (show (((0:Int)<=0)/\(0<=IntKind.i64.wrap ((b.length:Int)+10))/\(IntKind.i64.wrap ((b.length:Int)+10) * (↑(bytesOf C0 EC.u8):Int)<=140737488355328)/\((([]:List Ent).length+b.length) * bytesOf C0 EC.u8<=140737488355328)/\(∃ x:XUv P,(True/\(((Value.int .u64 (u))=(Value.int .u64 (x.u)))/\True/\True)/\((b)=(b))/\(([] ++ b)=(x.o))/\True))/\(∀ x:XUv P,(True->(brS (decide (x.u ≥ 128)) ((((x.o.length+[orI IntKind.u8 (IntKind.u8.wrap x.u) 128].length) * bytesOf C0 EC.u8<=140737488355328)/\(∃ x':XUv P,(True/\((((Value.int .u64 (x.u.fdiv (2 ^ min (Int.toNat 7) IntKind.u64.bits)))=(Value.int .u64 (x'.u)))/\True/\True)/\((b)=(b))/\((x.o ++ [orI IntKind.u8 (IntKind.u8.wrap x.u) 128])=(x'.o))/\True)/\(x'.u.toNat < x.u.toNat))))) ((((x.o.length+[IntKind.u8.wrap x.u].length) * bytesOf C0 EC.u8<=140737488355328)/\(K (.one (.at (.slc 1))) [(.row false EC.u8 (b)),(.row true EC.u8 (x.o ++ [IntKind.u8.wrap x.u]))] [])))))))=_ by kernel_rfl) ?_
 subst hP
 have p10:(18446744073709551616:Int)<=128 ^ 10 * 128:=by decide +kernel
 rw [wrap_id (x:=(b.length:Int)+10) (by omega) (by omega),bytes_u8]
 refine ⟨by decide,by omega,by omega,by simp;omega,⟨⟨u,b,u0,10,rfl,by omega,rfl⟩,?_⟩,fun x _=>brS_of (fun z=>?_) fun z=>?_⟩
 ·(repeat' first | exact trivial | exact rfl | refine And.intro ?_ ?_)
 ·obtain ⟨x,o,x0,f,hf,xl,e⟩:=x
  dsimp only at z ⊢
  have z:128<=x:=by have:=of_decide_eq_true z;omega
  cases f with
  | zero=>rw [Int.pow_zero] at xl;omega
  | succ f =>
   rw [wrap_u8m x0,orI_128 (by omega) (by omega),fdiv7]
   have ev:vE (f+1) x=(x % 128+128) :: vE f (x / 128):=by
    conv=>lhs;unfold vE
    rw [if_neg (by omega)]
   rw [Int.pow_succ] at xl
   refine ⟨by rw [List.length_singleton];omega,⟨x / 128,o ++ [x % 256 % 128+128],by omega,f,by rw [List.length_append,List.length_singleton];omega,by omega,?_⟩,trivial,?_,by show (x / 128).toNat < x.toNat;omega⟩
   ·rw [← e,ev,show x % 256 % 128=x % 128 by omega,List.append_assoc];rfl
   ·(repeat' first | exact trivial | exact rfl | refine And.intro ?_ ?_)
 ·obtain ⟨x,o,x0,f,hf,xl,e⟩:=x
  dsimp only at z ⊢
  have zx:x < 128:=by have:=of_decide_eq_false z;omega
  have ev:vE f x=[x]:=by
   cases f with
   | zero=>rfl
   | succ f=>unfold vE;rw [if_pos zx]
  rw [wrap_u8m x0,show x % 256=x by omega]
  refine ⟨by rw [List.length_singleton];omega,h _ (by unfold uvA;rw [← e,ev])⟩
theorem s_uv:SoundT C0 124 tUv:=by
 refine .of Tryz.func124 (by decide) rfl fun args H K h hB=>?_
 unfold tUv at h
 split at h <;> try exact h.elim
 rename_i u b
 refine ⟨_,?_,vc_uv b u K h.1 h.2.1 h.2.2.1 h.2.2.2⟩
 exact trivial
end Go.Proofs.YtedfbafngmicpaaGreat.Sx
end
section
/- The slots of an arena. -/
namespace Go.Proofs.YtedfbafngmicpaaGreat.Sx
open Go

def relOK (rl:List Int) (n:Nat):Prop:=∀ i ∈ rl,0<=i/\i < (n:Int)
def slM (H:List (Chunk C0)) (k:List Bool->List Int->List Int->Int->Prop):Prop:=match H with
 | [.box [.slc 1,.slc 2,.slc 3,.val (.int .u32 fr)],.row true .bool us,.row true .u32 gn,.row true .u32 rl]=>k us gn rl fr
 | _=>False
abbrev slC (us:List Bool) (gn rl:List Int) (fr:Int):List (Chunk C0):=[.box [.slc 1,.slc 2,.slc 3,vU fr],.row true EC.bool us,.row true EC.u32 gn,.row true EC.u32 rl]
def tSlCap:Tfm C0:=fun args H K=>match args with
 | [.at (.ptr 0 0)]=>slM H fun us gn rl fr=>1<=us.length/\us.length<=65537/\K (.one (.at (vI (us.length - 1)))) (slC us gn rl fr) []
 | _=>False
def tSlAllocated:Tfm C0:=fun args H K=>match args with
 | [.at (.ptr 0 0),.at (.val (.int .u32 i))]=>slM H fun us gn rl fr=>0<=i/\i < 4294967296/\us.length<=65537/\K (.one (.at (vB (us.getD i.toNat false)))) (slC us gn rl fr) []
 | _=>False
def tSlGen:Tfm C0:=fun args H K=>match args with
 | [.at (.ptr 0 0),.at (.val (.int .u32 i))]=>slM H fun us gn rl fr=>0<=i/\i < 4294967296/\gn.length<=65537/\K (.one (.at (vU (gn.getD i.toNat 0)))) (slC us gn rl fr) []
 | _=>False
noncomputable def aSlFree:Ann C0:={ Γ:=[(77,frameT [] tSlCap)],quiet:=[77] }
def tSlFree:Tfm C0:=fun args H K=>match args with
 | [.at (.ptr 0 0)]=>slM H fun us gn rl fr=>1<=us.length/\us.length<=65537/\rl.length<=65537/\0<=fr/\fr<=65537/\K (.one (.at (vI (rl.length+(us.length - 1) - fr)))) (slC us gn rl fr) []
 | _=>False
noncomputable def aSlAlloc:Ann C0:={ trunc:=fun n=>n == 30,Γ:=[(75,frameT [] tSlFree)] }
def tSlAlloc:Tfm C0:=fun args H K=>match args with
 | [.at (.ptr 0 0)]=>slM H fun us gn rl fr=>1<=us.length/\us.length<=65537/\rl.length<=65537/\0<=fr/\fr<=65537/\gn.length=us.length/\relOK rl us.length/\0<=(rl.length:Int)+(us.length - 1) - fr ∧
  ((rl.length:Int)+(us.length - 1) - fr=0->K (.tup [.at (vU 0),.at (vI 2)]) (slC us gn rl fr) [0,1,2,3]) ∧
  (0 < (rl.length:Int)+(us.length - 1) - fr->∀ i rl' fr',(i,rl',fr')=fresh3 rl fr->K (.tup [.at (vU i),.at (vI 0)]) (slC (us.set i.toNat true) (gn.set i.toNat (IntKind.u32.wrap (gn.getD i.toNat 0+1))) rl' fr') [0,1,2,3])
 | _=>False
noncomputable def aSlRelease:Ann C0:={ Γ:=[(59,frameT [] tSlAllocated)] }
def tSlRelease:Tfm C0:=fun args H K=>match args with
 | [.at (.ptr 0 0),.at (.val (.int .u32 i))]=>slM H fun us gn rl fr=>0<=i/\i < 4294967296/\us.length<=65537/\rl.length<=65537/\us.getD i.toNat false=true/\K (.one (.at (vI 0))) (slC (us.set i.toNat false) gn (rl ++ [i]) fr) [0,1,3]
 | _=>False
theorem vc_slCap (us:List Bool) (gn rl:List Int) (fr:Int) (K:KT) (h1:1<=us.length) (h2:us.length<=65537) (h:K (.one (.at (vI (us.length - 1)))) (slC us gn rl fr) []) :
  vc C0 A0 Tryz.f77 [.at (.ptr 0 0)] (slC us gn rl fr) (normK 4 K):=by
 refine Eq.mp (show (K (.one (.at (.val (Value.int .i64 (IntKind.i64.wrap ((us.length:Int) - 1)))))) [(.box [(.slc 1),(.slc 2),(.slc 3),(.val (Value.int .u32 (fr)))]),(.row true EC.bool (us)),(.row true EC.u32 (gn)),(.row true EC.u32 (rl))] [])=_ by kernel_rfl) ?_
 rw [wrap_id (by omega) (by omega)]
 exact h
theorem s_slCap:SoundT C0 77 tSlCap:=by
 refine .of Tryz.func77 (by decide) rfl fun args H K h hB=>?_
 unfold tSlCap at h
 split at h <;> try exact h.elim
 unfold slM at h
 split at h <;> try exact h.elim
 rename_i fr us gn rl
 exact ⟨A0,trivial,vc_slCap us gn rl _ K h.1 h.2.1 h.2.2⟩
theorem vc_slAllocated (us:List Bool) (gn rl:List Int) (fr i:Int) (K:KT) (h1:0<=i) (h2:i < 4294967296) (h3:us.length<=65537) (h:K (.one (.at (vB (us.getD i.toNat false)))) (slC us gn rl fr) []) :
  vc C0 A0 Tryz.f59 [.at (.ptr 0 0),.at (vU i)] (slC us gn rl fr) (normK 4 K):=by
 refine Eq.mp (show (brS (decide (IntKind.i64.wrap i < (us.length:Int))) (((0<=i)/\(i < (us.length:Int))/\(K (.one (.at (.val (Value.bool (us.getD i.toNat false))))) [(.box [(.slc 1),(.slc 2),(.slc 3),(.val (Value.int .u32 (fr)))]),(.row true EC.bool (us)),(.row true EC.u32 (gn)),(.row true EC.u32 (rl))] []))) ((K (.one (.at (.val (Value.bool false)))) [(.box [(.slc 1),(.slc 2),(.slc 3),(.val (Value.int .u32 (fr)))]),(.row true EC.bool (us)),(.row true EC.u32 (gn)),(.row true EC.u32 (rl))] [])))=_ by kernel_rfl) ?_
 rw [wrap_id (by omega) (by omega)]
 refine brS_of (fun c=>⟨h1,by simpa using c,h⟩) fun c=>?_
 have e:us.getD i.toNat false=false:=by
  have c:¬ i < (us.length:Int):=by simpa using c
  rw [List.getD_eq_getElem?_getD,List.getElem?_eq_none (by omega)];rfl
 rw [e] at h
 exact h
theorem s_slAllocated:SoundT C0 59 tSlAllocated:=by
 refine .of Tryz.func59 (by decide) rfl fun args H K h hB=>?_
 unfold tSlAllocated at h
 split at h <;> try exact h.elim
 unfold slM at h
 split at h <;> try exact h.elim
 rename_i i _ fr us gn rl
 exact ⟨A0,trivial,vc_slAllocated us gn rl fr i K h.1 h.2.1 h.2.2.1 h.2.2.2⟩
theorem vc_slGen (us:List Bool) (gn rl:List Int) (fr i:Int) (K:KT) (h1:0<=i) (h2:i < 4294967296) (h3:gn.length<=65537) (h:K (.one (.at (vU (gn.getD i.toNat 0)))) (slC us gn rl fr) []) :
  vc C0 A0 Tryz.f111 [.at (.ptr 0 0),.at (vU i)] (slC us gn rl fr) (normK 4 K):=by
 refine Eq.mp (show (brS (decide (IntKind.i64.wrap i ≥ (gn.length:Int))) ((K (.one (.at (.val (Value.int .u32 0)))) [(.box [(.slc 1),(.slc 2),(.slc 3),(.val (Value.int .u32 (fr)))]),(.row true EC.bool (us)),(.row true EC.u32 (gn)),(.row true EC.u32 (rl))] [])) (((0<=i)/\(i < (gn.length:Int))/\(K (.one (.at (.val (Value.int .u32 (gn.getD i.toNat 0))))) [(.box [(.slc 1),(.slc 2),(.slc 3),(.val (Value.int .u32 (fr)))]),(.row true EC.bool (us)),(.row true EC.u32 (gn)),(.row true EC.u32 (rl))] []))))=_ by kernel_rfl) ?_
 rw [wrap_id (by omega) (by omega)]
 refine brS_of (fun c=>?_) fun c=>⟨h1,by simp at c;omega,h⟩
 have e:gn.getD i.toNat 0=0:=by
  have c:(gn.length:Int)<=i:=by simpa using c
  rw [List.getD_eq_getElem?_getD,List.getElem?_eq_none (by omega)];rfl
 rw [e] at h
 exact h
theorem s_slGen:SoundT C0 111 tSlGen:=by
 refine .of Tryz.func111 (by decide) rfl fun args H K h hB=>?_
 unfold tSlGen at h
 split at h <;> try exact h.elim
 unfold slM at h
 split at h <;> try exact h.elim
 rename_i i _ fr us gn rl
 exact ⟨A0,trivial,vc_slGen us gn rl fr i K h.1 h.2.1 h.2.2.1 h.2.2.2⟩
theorem vc_slFree (us:List Bool) (gn rl:List Int) (fr:Int) (K:KT) (h1:1<=us.length) (h2:us.length<=65537) (h3:rl.length<=65537) (h4:0<=fr) (h5:fr<=65537) (h:K (.one (.at (vI (rl.length+(us.length - 1) - fr)))) (slC us gn rl fr) []) :
  vc C0 aSlFree Tryz.f75 [.at (.ptr 0 0)] (slC us gn rl fr) (normK 4 K):=by
 refine Eq.mp (show ((1<=us.length)/\(us.length<=65537)/\(K (.one (.at (.val (Value.int .i64 (IntKind.i64.wrap (IntKind.i64.wrap ((rl.length:Int)+((us.length:Int) - 1)) - IntKind.i64.wrap fr)))))) [(.box [(.slc 1),(.slc 2),(.slc 3),(.val (Value.int .u32 (fr)))]),(.row true EC.bool (us)),(.row true EC.u32 (gn)),(.row true EC.u32 (rl))] []))=_ by kernel_rfl) ?_
 refine ⟨h1,h2,?_⟩
 rw [wrap_id (x:=fr) (by omega) (by omega),wrap_id (x:=(rl.length:Int)+((us.length:Int) - 1)) (by omega) (by omega),wrap_id (by omega) (by omega)]
 exact h
theorem s_slFree:SoundT C0 75 tSlFree:=by
 refine .of Tryz.func75 (by decide) rfl fun args H K h hB=>?_
 unfold tSlFree at h
 split at h <;> try exact h.elim
 unfold slM at h
 split at h <;> try exact h.elim
 rename_i fr us gn rl
 exact ⟨aSlFree,⟨frame C0.ok s_slCap _,trivial⟩,vc_slFree us gn rl fr K h.1 h.2.1 h.2.2.1 h.2.2.2.1 h.2.2.2.2.1 h.2.2.2.2.2⟩
theorem wrap_u32 {x:Int} (h1:0<=x) (h2:x < 4294967296):IntKind.u32.wrap x=x:=by
 unfold IntKind.wrap
 simp [IntKind.signed,IntKind.bits]
 omega
theorem vc_slAlloc (us:List Bool) (gn rl:List Int) (fr:Int) (K:KT) (h1:1<=us.length) (h2:us.length<=65537) (h3:rl.length<=65537) (h4:0<=fr) (h5:fr<=65537) (h6:gn.length=us.length) (h7:relOK rl us.length)
  (h8:0<=(rl.length:Int)+(us.length - 1) - fr)
  (ha:(rl.length:Int)+(us.length - 1) - fr=0->K (.tup [.at (vU 0),.at (vI 2)]) (slC us gn rl fr) [0,1,2,3])
  (hb:0 < (rl.length:Int)+(us.length - 1) - fr->∀ i rl' fr',(i,rl',fr')=fresh3 rl fr->K (.tup [.at (vU i),.at (vI 0)]) (slC (us.set i.toNat true) (gn.set i.toNat (IntKind.u32.wrap (gn.getD i.toNat 0+1))) rl' fr') [0,1,2,3]) :
  vc C0 aSlAlloc Tryz.f80 [.at (.ptr 0 0)] (slC us gn rl fr) (normK 4 (wideK [0,1,2,3] K)):=by
 refine Eq.mp (show ((1<=us.length)/\(us.length<=65537)/\(rl.length<=65537)/\(0<=fr)/\(fr<=65537)/\(brS ((rl.length:Int)+((us.length:Int) - 1) - fr == 0) ((K (.tup [(.at (.val (Value.int .u32 0))),(.at (.val (Value.int .i64 2)))]) [(.box [(.slc 1),(.slc 2),(.slc 3),(.val (Value.int .u32 (fr)))]),(.row true EC.bool (us)),(.row true EC.u32 (gn)),(.row true EC.u32 (rl))] [0,1,2,3])) ((brS (decide (IntKind.i64.wrap ((rl.length:Int) - 1) ≥ 0)) (((0<=IntKind.i64.wrap ((rl.length:Int) - 1))/\(IntKind.i64.wrap ((rl.length:Int) - 1) < (rl.length:Int))/\(0<=IntKind.i64.wrap ((rl.length:Int) - 1))/\(IntKind.i64.wrap ((rl.length:Int) - 1)<=(rl.length:Int))/\(0<=rl.getD (IntKind.i64.wrap ((rl.length:Int) - 1)).toNat 0)/\(rl.getD (IntKind.i64.wrap ((rl.length:Int) - 1)).toNat 0 < (us.length:Int))/\(0<=rl.getD (IntKind.i64.wrap ((rl.length:Int) - 1)).toNat 0)/\(rl.getD (IntKind.i64.wrap ((rl.length:Int) - 1)).toNat 0 < (gn.length:Int))/\(0<=rl.getD (IntKind.i64.wrap ((rl.length:Int) - 1)).toNat 0)/\(rl.getD (IntKind.i64.wrap ((rl.length:Int) - 1)).toNat 0 < (gn.length:Int))/\(K (.tup [(.at (.val (Value.int .u32 (rl.getD (IntKind.i64.wrap ((rl.length:Int) - 1)).toNat 0)))),(.at (.val (Value.int .i64 0)))]) [(.box [(.slc 1),(.slc 2),(.slc 3),(.val (Value.int .u32 (fr)))]),(.row true EC.bool (us.set (rl.getD (IntKind.i64.wrap ((rl.length:Int) - 1)).toNat 0).toNat true)),(.row true EC.u32 (gn.set (rl.getD (IntKind.i64.wrap ((rl.length:Int) - 1)).toNat 0).toNat (IntKind.u32.wrap (gn.getD (rl.getD (IntKind.i64.wrap ((rl.length:Int) - 1)).toNat 0).toNat 0+1)))),(.row true EC.u32 (List.take (IntKind.i64.wrap ((rl.length:Int) - 1)).toNat rl))] [0,1,2,3]))) (((0<=IntKind.u32.wrap (fr+1))/\
 (IntKind.u32.wrap (fr+1) < (us.length:Int))/\(0<=IntKind.u32.wrap (fr+1))/\(IntKind.u32.wrap (fr+1) < (gn.length:Int))/\(0<=IntKind.u32.wrap (fr+1))/\(IntKind.u32.wrap (fr+1) < (gn.length:Int))/\(K (.tup [(.at (.val (Value.int .u32 (IntKind.u32.wrap (fr+1))))),(.at (.val (Value.int .i64 0)))]) [(.box [(.slc 1),(.slc 2),(.slc 3),(.val (Value.int .u32 (IntKind.u32.wrap (fr+1))))]),(.row true EC.bool (us.set (IntKind.u32.wrap (fr+1)).toNat true)),(.row true EC.u32 (gn.set (IntKind.u32.wrap (fr+1)).toNat (IntKind.u32.wrap (gn.getD (IntKind.u32.wrap (fr+1)).toNat 0+1)))),(.row true EC.u32 (rl))] [0,1,2,3])))))))=_ by kernel_rfl) ?_
 rw [wrap_id (x:=(rl.length:Int) - 1) (by omega) (by omega),wrap_u32 (x:=fr+1) (by omega) (by omega)]
 refine ⟨h1,h2,h3,h4,h5,brS_of (fun c=>ha (by simpa using c)) fun c=>?_⟩
 have c:¬ (rl.length:Int)+(us.length - 1) - fr=0:=by simpa using c
 have hb:=hb (by omega)
 refine brS_of (fun d=>?_) fun d=>?_
 ·have d:0<=(rl.length:Int) - 1:=by simpa using d
  have e:((rl.length:Int) - 1).toNat=rl.length - 1:=by omega
  rw [e]
  have hm:rl.getD (rl.length - 1) 0 ∈ rl:=by
   have:rl.length - 1 < rl.length:=by omega
   rw [List.getD_eq_getElem?_getD,List.getElem?_eq_getElem this]
   exact List.getElem_mem this
  have hr:=h7 _ hm
  exact ⟨by omega,by omega,by omega,by omega,hr.1,hr.2,hr.1,by omega,hr.1,by omega,hb _ _ _ (by unfold fresh3;rw [if_pos (by omega)];rfl)⟩
 ·have d:¬ 0<=(rl.length:Int) - 1:=by simpa using d
  exact ⟨by omega,by omega,by omega,by omega,by omega,by omega,hb _ _ _ (by unfold fresh3;rw [if_neg (by omega)])⟩
theorem s_slAlloc:SoundT C0 80 tSlAlloc:=by
 refine .ofW [0,1,2,3] Tryz.func80 (by decide) rfl fun args H K h hB=>?_
 unfold tSlAlloc at h
 split at h <;> try exact h.elim
 unfold slM at h
 split at h <;> try exact h.elim
 rename_i fr us gn rl
 exact ⟨aSlAlloc,⟨frame C0.ok s_slFree _,trivial⟩,vc_slAlloc us gn rl fr K h.1 h.2.1 h.2.2.1 h.2.2.2.1 h.2.2.2.2.1 h.2.2.2.2.2.1 h.2.2.2.2.2.2.1 h.2.2.2.2.2.2.2.1 h.2.2.2.2.2.2.2.2.1 h.2.2.2.2.2.2.2.2.2⟩
theorem vc_slRelease (us:List Bool) (gn rl:List Int) (fr i:Int) (K:KT) (h1:0<=i) (h2:i < 4294967296) (h3:us.length<=65537) (h4:rl.length<=65537) (h5:us.getD i.toNat false=true) (h:K (.one (.at (vI 0))) (slC (us.set i.toNat false) gn (rl ++ [i]) fr) [0,1,3]) :
  vc C0 aSlRelease Tryz.f74 [.at (.ptr 0 0),.at (vU i)] (slC us gn rl fr) (normK 4 K):=by
 refine Eq.mp (show ((0<=i)/\(i < 4294967296)/\(us.length<=65537)/\(brS (!us.getD i.toNat false) ((K (.one (.at (.val (Value.int .i64 3)))) [(.box [(.slc 1),(.slc 2),(.slc 3),(.val (Value.int .u32 (fr)))]),(.row true EC.bool (us)),(.row true EC.u32 (gn)),(.row true EC.u32 (rl))] [])) (((0<=i)/\(i < (us.length:Int))/\((rl.length+[i].length) * bytesOf C0 EC.u32<=140737488355328)/\(K (.one (.at (.val (Value.int .i64 0)))) [(.box [(.slc 1),(.slc 2),(.slc 3),(.val (Value.int .u32 (fr)))]),(.row true EC.bool (us.set i.toNat false)),(.row true EC.u32 (gn)),(.row true EC.u32 (rl ++ [i]))] [0,1,3])))))=_ by kernel_rfl) ?_
 simp only [bytes_u32]
 refine ⟨h1,h2,h3,brS_of (fun c=>?_) fun c=>⟨h1,?_,?_,h⟩⟩
 ·rw [h5] at c;cases c
 ·rcases Nat.lt_or_ge i.toNat us.length with hh | hh
  ·omega
  ·rw [List.getD_eq_getElem?_getD,List.getElem?_eq_none hh] at h5;cases h5
 ·simp;omega
theorem s_slRelease:SoundT C0 74 tSlRelease:=by
 refine .of Tryz.func74 (by decide) rfl fun args H K h hB=>?_
 unfold tSlRelease at h
 split at h <;> try exact h.elim
 unfold slM at h
 split at h <;> try exact h.elim
 rename_i i _ fr us gn rl
 exact ⟨aSlRelease,⟨frame C0.ok s_slAllocated _,trivial⟩,vc_slRelease us gn rl fr i K h.1 h.2.1 h.2.2.1 h.2.2.2.1 h.2.2.2.2.1 h.2.2.2.2.2⟩
end Go.Proofs.YtedfbafngmicpaaGreat.Sx
end
section
/- The arena's functions. -/
namespace Go.Proofs.YtedfbafngmicpaaGreat.Sx
open Go

abbrev chS (S:Arn):List (Chunk C0):=[.box [.ptr 1 0,.slc 2,.slc 3,vU64 S.reads],.box [.slc 4,.slc 5,.slc 6,vU S.fresh],.row true EC.node S.nodes,.row true EC.int S.counts,.row true EC.bool S.used,.row true EC.u32 S.gen,.row true EC.u32 S.rel]
def arM (H:List (Chunk C0)) (k:Arn->Prop):Prop:=match H with
 | [.box [.ptr 1 0,.slc 2,.slc 3,.val (.int .u64 rd)],.box [.slc 4,.slc 5,.slc 6,.val (.int .u32 fr)],.row true .node nd,.row true .int ct,.row true .bool us,.row true .u32 gn,.row true .u32 rl]=>k ⟨us,gn,rl,fr,nd,ct,rd⟩
 | _=>False
def arMr (H:List (Chunk C0)) (k:Arn->List (Chunk C0)->Prop):Prop:=match H with
 | .box [.ptr 1 0,.slc 2,.slc 3,.val (.int .u64 rd)] :: .box [.slc 4,.slc 5,.slc 6,.val (.int .u32 fr)] :: .row true .node nd :: .row true .int ct :: .row true .bool us :: .row true .u32 gn :: .row true .u32 rl :: rest=>k ⟨us,gn,rl,fr,nd,ct,rd⟩ rest
 | _=>False
abbrev nodeA (n:NodeT):TV:=.agg [vI n.key,vI n.value,vU n.left,vU n.right,vI n.size,vI n.sum,vI n.min,vI n.max]
abbrev W7:List Nat:=[0,1,2,3,4,5,6]
def inU (i:Int):Prop:=0<=i/\i < 4294967296
def exW (S:Arn):Prop:=∃ hs,Wf S hs
def live (S:Arn) (i:Int):Prop:=i=0 ∨ S.us i=true

noncomputable def aFree:Ann C0:={ Γ:=[(75,frameT [] tSlFree)] }
def tFree:Tfm C0:=fun args H K=>match args with
 | [.at (.ptr 0 0)]=>arM H fun S=>exW S/\K (.one (.at (vI S.free))) (chS S) []
 | _=>False
noncomputable def aCap:Ann C0:={ Γ:=[(77,frameT [] tSlCap)] }
def tCap:Tfm C0:=fun args H K=>match args with
 | [.at (.ptr 0 0)]=>arM H fun S=>exW S/\K (.one (.at (vI S.cap))) (chS S) []
 | _=>False
noncomputable def aAlc:Ann C0:={ Γ:=[(59,frameT [] tSlAllocated)] }
def tNode:Tfm C0:=fun args H K=>match args with
 | [.at (.ptr 0 0),.at (.val (.int .u32 i))]=>arM H fun S=>inU i/\exW S/\S.reads < 4000000000000000000/\∀ S',S'=rdS S (S.us i).toNat->K (.tup [nodeA (S.nd i),.at (vB (S.us i))]) (chS S') [0]
 | _=>False
def tSize:Tfm C0:=fun args H K=>match args with
 | [.at (.ptr 0 0),.at (.val (.int .u32 i))]=>arM H fun S=>inU i/\exW S/\S.reads < 4000000000000000000/\∀ S',S'=rdS S (S.us i).toNat->K (.one (.at (vI (S.nd i).size))) (chS S') [0]
 | _=>False
def tCount:Tfm C0:=fun args H K=>match args with
 | [.at (.ptr 0 0),.at (.val (.int .u32 i))]=>arM H fun S=>inU i/\exW S/\K (.one (.at (vI (if S.us i then S.ct i else 0)))) (chS S) []
 | _=>False
noncomputable def aGen:Ann C0:={ Γ:=[(111,frameT [] tSlGen)] }
def tGen:Tfm C0:=fun args H K=>match args with
 | [.at (.ptr 0 0),.at (.val (.int .u32 i))]=>arM H fun S=>inU i/\exW S/\K (.one (.at (vU (S.gn i)))) (chS S) []
 | _=>False
def tRetain:Tfm C0:=fun args H K=>match args with
 | [.at (.ptr 0 0),.at (.val (.int .u32 i))]=>arM H fun S=>inU i/\exW S/\(i=0->K (.one (.at (vI 0))) (chS S) [3])/\(i ≠ 0->S.us i=false->K (.one (.at (vI 3))) (chS S) [3])/\(S.us i=true->∀ S',S'=retA S i->K (.one (.at (vI 0))) (chS S') [3])
 | _=>False
def newUs (c:Int):List Bool:=List.replicate (c.toNat+1) false
def newGn (c:Int):List Int:=List.replicate (c.toNat+1) 0
noncomputable def aSlNew:Ann C0:={ Γ:=[] }
def tSlNew:Tfm C0:=fun args H K=>match args,H with
 | [.at (.val (.int .i64 c))],[]=>(c < 1 ∨ 65536 < c->K (.tup [.at (.val (.pointer none)),.at (vI 1)]) [] [])/\(1<=c->c<=65536->∀ (us:List Bool) (gn:List Int),us=newUs c->gn=newGn c->K (.tup [.at (.ptr 0 0),.at (vI 0)]) (slC us gn [] 0) [])
 | _,_=>False
noncomputable def aNew:Ann C0:={ Γ:=[(76,frameT [] tSlNew)] }
def tNew:Tfm C0:=fun args H K=>match args,H with
 | [.at (.val (.int .i64 c))],[]=>(c < 1 ∨ 65536 < c->K (.tup [.at (.val (.pointer none)),.at (vI 1)]) [] [])/\(1<=c->c<=65536->∀ S,S=newS c.toNat->K (.tup [.at (.ptr 0 0),.at (vI 0)]) (chS S) [])
 | _,_=>False
theorem getD_false {l:List Bool} {i:Nat} (h:l.getD i false=true):i < l.length:=by
 rcases Nat.lt_or_ge i l.length with hh | hh
 ·exact hh
 ·rw [List.getD_eq_getElem?_getD,List.getElem?_eq_none hh] at h;cases h
theorem vc_free (S:Arn) (K:KT) (hw:exW S) (h:K (.one (.at (vI S.free))) (chS S) []):vc C0 aFree Tryz.f27 [.at (.ptr 0 0)] (chS S) (normK 7 K):=by
 refine Eq.mp (show ((1<=S.used.length)/\(S.used.length<=65537)/\(S.rel.length<=65537)/\(0<=S.fresh)/\(S.fresh<=65537)/\(K (.one (.at (.val (Value.int .i64 ((S.rel.length:Int)+((S.used.length:Int) - 1) - S.fresh))))) [(.box [(.ptr 1 0),(.slc 2),(.slc 3),(.val (Value.int .u64 (S.reads)))]),(.box [(.slc 4),(.slc 5),(.slc 6),(.val (Value.int .u32 (S.fresh)))]),(.row true EC.node (S.nodes)),(.row true EC.int (S.counts)),(.row true EC.bool (S.used)),(.row true EC.u32 (S.gen)),(.row true EC.u32 (S.rel))] []))=_ by kernel_rfl) ?_
 obtain ⟨hs,hw⟩:=hw
 have h1:=hw.n1;have h2:=hw.n2;have h3:=hw.fr;have h4:=hw.free_nonneg
 exact ⟨by omega,by omega,by omega,by omega,by omega,h⟩
theorem s_free:SoundT C0 27 tFree:=by
 refine .of Tryz.func27 (by decide) rfl fun args H K h hB=>?_
 unfold tFree at h
 split at h <;> try exact h.elim
 unfold arM at h
 split at h <;> try exact h.elim
 rename_i rd fr nd ct us gn rl
 exact ⟨aFree,⟨frame C0.ok s_slFree _,trivial⟩,vc_free ⟨us,gn,rl,fr,nd,ct,rd⟩ K h.1 h.2⟩
theorem vc_cap (S:Arn) (K:KT) (hw:exW S) (h:K (.one (.at (vI S.cap))) (chS S) []):vc C0 aCap Tryz.f29 [.at (.ptr 0 0)] (chS S) (normK 7 K):=by
 refine Eq.mp (show ((1<=S.used.length)/\(S.used.length<=65537)/\(K (.one (.at (.val (Value.int .i64 ((S.used.length:Int) - 1))))) [(.box [(.ptr 1 0),(.slc 2),(.slc 3),(.val (Value.int .u64 (S.reads)))]),(.box [(.slc 4),(.slc 5),(.slc 6),(.val (Value.int .u32 (S.fresh)))]),(.row true EC.node (S.nodes)),(.row true EC.int (S.counts)),(.row true EC.bool (S.used)),(.row true EC.u32 (S.gen)),(.row true EC.u32 (S.rel))] []))=_ by kernel_rfl) ?_
 obtain ⟨hs,hw⟩:=hw
 have h1:=hw.n1;have h2:=hw.n2
 exact ⟨by omega,by omega,h⟩
theorem s_cap:SoundT C0 29 tCap:=by
 refine .of Tryz.func29 (by decide) rfl fun args H K h hB=>?_
 unfold tCap at h
 split at h <;> try exact h.elim
 unfold arM at h
 split at h <;> try exact h.elim
 rename_i rd fr nd ct us gn rl
 exact ⟨aCap,⟨frame C0.ok s_slCap _,trivial⟩,vc_cap ⟨us,gn,rl,fr,nd,ct,rd⟩ K h.1 h.2⟩
theorem wrap_u64 {x:Int} (h1:0<=x) (h2:x < 18446744073709551616):IntKind.u64.wrap x=x:=by
 unfold IntKind.wrap
 simp [IntKind.signed,IntKind.bits]
 omega
theorem vc_node (S:Arn) (i:Int) (K:KT) (hi:inU i) (hw:exW S) (hr:S.reads < 4000000000000000000) (h:∀ S',S'=rdS S (S.us i).toNat->K (.tup [nodeA (S.nd i),.at (vB (S.us i))]) (chS S') [0]) :
  vc C0 aAlc Tryz.f86 [.at (.ptr 0 0),.at (vU i)] (chS S) (normK 7 (wideK [0] K)):=by
 refine Eq.mp (show ((0<=i)/\(i < 4294967296)/\(S.used.length<=65537)/\(brS (!S.us i) ((K (.tup [(TV.agg [(.val (Value.int .i64 0)),(.val (Value.int .i64 0)),(.val (Value.int .u32 0)),(.val (Value.int .u32 0)),(.val (Value.int .i64 0)),(.val (Value.int .i64 0)),(.val (Value.int .i64 0)),(.val (Value.int .i64 0))]),(.at (.val (Value.bool false)))]) [(.box [(.ptr 1 0),(.slc 2),(.slc 3),(.val (Value.int .u64 (S.reads)))]),(.box [(.slc 4),(.slc 5),(.slc 6),(.val (Value.int .u32 (S.fresh)))]),(.row true EC.node (S.nodes)),(.row true EC.int (S.counts)),(.row true EC.bool (S.used)),(.row true EC.u32 (S.gen)),(.row true EC.u32 (S.rel))] [0])) (((0<=i)/\(i < (S.nodes.length:Int))/\(K (.tup [(TV.agg [(.val (Value.int .i64 ((S.nd i).key))),(.val (Value.int .i64 ((S.nd i).value))),(.val (Value.int .u32 ((S.nd i).left))),(.val (Value.int .u32 ((S.nd i).right))),(.val (Value.int .i64 ((S.nd i).size))),(.val (Value.int .i64 ((S.nd i).sum))),(.val (Value.int .i64 ((S.nd i).min))),(.val (Value.int .i64 ((S.nd i).max)))]),(.at (.val (Value.bool true)))]) [(.box [(.ptr 1 0),(.slc 2),(.slc 3),(.val (Value.int .u64 (IntKind.u64.wrap (S.reads+1))))]),(.box [(.slc 4),(.slc 5),(.slc 6),(.val (Value.int .u32 (S.fresh)))]),(.row true EC.node (S.nodes)),(.row true EC.int (S.counts)),(.row true EC.bool (S.used)),(.row true EC.u32 (S.gen)),(.row true EC.u32 (S.rel))] [0])))))=_ by kernel_rfl) ?_
 obtain ⟨hs,hw⟩:=hw
 have h2:=hw.n2;have h3:=hw.nnod;have h4:=hw.rds
 rw [wrap_u64 (by omega) (by omega)]
 refine ⟨hi.1,hi.2,by omega,brS_of (fun c=>?_) fun c=>?_⟩
 ·have c:S.us i=false:=by simpa using c
  have h5:=h _ rfl
  rw [hw.zero i c,c] at h5
  have e:rdS S (false.toNat)=S:=by simp [rdS]
  rw [e] at h5
  exact h5
 ·have c:S.us i=true:=by simpa using c
  have hp:=hw.pos c
  have h5:=h _ rfl
  rw [c] at h5
  exact ⟨hi.1,by omega,h5⟩
theorem s_node:SoundT C0 86 tNode:=by
 refine .ofW [0] Tryz.func86 (by decide) rfl fun args H K h hB=>?_
 unfold tNode at h
 split at h <;> try exact h.elim
 unfold arM at h
 split at h <;> try exact h.elim
 rename_i i _ rd fr nd ct us gn rl
 exact ⟨aAlc,⟨frame C0.ok s_slAllocated _,trivial⟩,vc_node ⟨us,gn,rl,fr,nd,ct,rd⟩ i K h.1 h.2.1 h.2.2.1 h.2.2.2⟩
theorem vc_size (S:Arn) (i:Int) (K:KT) (hi:inU i) (hw:exW S) (hr:S.reads < 4000000000000000000) (h:∀ S',S'=rdS S (S.us i).toNat->K (.one (.at (vI (S.nd i).size))) (chS S') [0]) :
  vc C0 aAlc Tryz.f41 [.at (.ptr 0 0),.at (vU i)] (chS S) (normK 7 (wideK [0] K)):=by
 refine Eq.mp (show ((0<=i)/\(i < 4294967296)/\(S.used.length<=65537)/\(brS (!S.us i) ((K (.one (.at (.val (Value.int .i64 0)))) [(.box [(.ptr 1 0),(.slc 2),(.slc 3),(.val (Value.int .u64 (S.reads)))]),(.box [(.slc 4),(.slc 5),(.slc 6),(.val (Value.int .u32 (S.fresh)))]),(.row true EC.node (S.nodes)),(.row true EC.int (S.counts)),(.row true EC.bool (S.used)),(.row true EC.u32 (S.gen)),(.row true EC.u32 (S.rel))] [0])) (((0<=i)/\(i < (S.nodes.length:Int))/\(K (.one (.at (.val (Value.int .i64 ((S.nd i).size))))) [(.box [(.ptr 1 0),(.slc 2),(.slc 3),(.val (Value.int .u64 (IntKind.u64.wrap (S.reads+1))))]),(.box [(.slc 4),(.slc 5),(.slc 6),(.val (Value.int .u32 (S.fresh)))]),(.row true EC.node (S.nodes)),(.row true EC.int (S.counts)),(.row true EC.bool (S.used)),(.row true EC.u32 (S.gen)),(.row true EC.u32 (S.rel))] [0])))))=_ by kernel_rfl) ?_
 obtain ⟨hs,hw⟩:=hw
 have h2:=hw.n2;have h3:=hw.nnod;have h4:=hw.rds
 rw [wrap_u64 (by omega) (by omega)]
 refine ⟨hi.1,hi.2,by omega,brS_of (fun c=>?_) fun c=>?_⟩
 ·have c:S.us i=false:=by simpa using c
  have h5:=h _ rfl
  rw [hw.zero i c,c] at h5
  have e:rdS S (false.toNat)=S:=by simp [rdS]
  rw [e] at h5
  exact h5
 ·have c:S.us i=true:=by simpa using c
  have hp:=hw.pos c
  have h5:=h _ rfl
  rw [c] at h5
  exact ⟨hi.1,by omega,h5⟩
theorem s_size:SoundT C0 41 tSize:=by
 refine .ofW [0] Tryz.func41 (by decide) rfl fun args H K h hB=>?_
 unfold tSize at h
 split at h <;> try exact h.elim
 unfold arM at h
 split at h <;> try exact h.elim
 rename_i i _ rd fr nd ct us gn rl
 exact ⟨aAlc,⟨frame C0.ok s_slAllocated _,trivial⟩,vc_size ⟨us,gn,rl,fr,nd,ct,rd⟩ i K h.1 h.2.1 h.2.2.1 h.2.2.2⟩
theorem vc_count (S:Arn) (i:Int) (K:KT) (hi:inU i) (hw:exW S) (h:K (.one (.at (vI (if S.us i then S.ct i else 0)))) (chS S) []) :
  vc C0 aAlc Tryz.f60 [.at (.ptr 0 0),.at (vU i)] (chS S) (normK 7 K):=by
 refine Eq.mp (show ((0<=i)/\(i < 4294967296)/\(S.used.length<=65537)/\(brS (!S.us i) ((K (.one (.at (.val (Value.int .i64 0)))) [(.box [(.ptr 1 0),(.slc 2),(.slc 3),(.val (Value.int .u64 (S.reads)))]),(.box [(.slc 4),(.slc 5),(.slc 6),(.val (Value.int .u32 (S.fresh)))]),(.row true EC.node (S.nodes)),(.row true EC.int (S.counts)),(.row true EC.bool (S.used)),(.row true EC.u32 (S.gen)),(.row true EC.u32 (S.rel))] [])) (((0<=i)/\(i < (S.counts.length:Int))/\(K (.one (.at (.val (Value.int .i64 (S.ct i))))) [(.box [(.ptr 1 0),(.slc 2),(.slc 3),(.val (Value.int .u64 (S.reads)))]),(.box [(.slc 4),(.slc 5),(.slc 6),(.val (Value.int .u32 (S.fresh)))]),(.row true EC.node (S.nodes)),(.row true EC.int (S.counts)),(.row true EC.bool (S.used)),(.row true EC.u32 (S.gen)),(.row true EC.u32 (S.rel))] [])))))=_ by kernel_rfl) ?_
 obtain ⟨hs,hw⟩:=hw
 have h2:=hw.n2;have h3:=hw.ncnt
 refine ⟨hi.1,hi.2,by omega,brS_of (fun c=>?_) fun c=>?_⟩
 ·have c:S.us i=false:=by simpa using c
  rw [c] at h
  exact h
 ·have c:S.us i=true:=by simpa using c
  have hp:=hw.pos c
  rw [c] at h
  exact ⟨hi.1,by omega,h⟩
theorem s_count:SoundT C0 60 tCount:=by
 refine .of Tryz.func60 (by decide) rfl fun args H K h hB=>?_
 unfold tCount at h
 split at h <;> try exact h.elim
 unfold arM at h
 split at h <;> try exact h.elim
 rename_i i _ rd fr nd ct us gn rl
 exact ⟨aAlc,⟨frame C0.ok s_slAllocated _,trivial⟩,vc_count ⟨us,gn,rl,fr,nd,ct,rd⟩ i K h.1 h.2.1 h.2.2⟩
theorem vc_gen (S:Arn) (i:Int) (K:KT) (hi:inU i) (hw:exW S) (h:K (.one (.at (vU (S.gn i)))) (chS S) []) :
  vc C0 aGen Tryz.f61 [.at (.ptr 0 0),.at (vU i)] (chS S) (normK 7 K):=by
 refine Eq.mp (show ((0<=i)/\(i < 4294967296)/\(S.gen.length<=65537)/\(K (.one (.at (.val (Value.int .u32 (S.gn i))))) [(.box [(.ptr 1 0),(.slc 2),(.slc 3),(.val (Value.int .u64 (S.reads)))]),(.box [(.slc 4),(.slc 5),(.slc 6),(.val (Value.int .u32 (S.fresh)))]),(.row true EC.node (S.nodes)),(.row true EC.int (S.counts)),(.row true EC.bool (S.used)),(.row true EC.u32 (S.gen)),(.row true EC.u32 (S.rel))] []))=_ by kernel_rfl) ?_
 obtain ⟨hs,hw⟩:=hw
 have h2:=hw.n2;have h3:=hw.ngen
 exact ⟨hi.1,hi.2,by omega,h⟩
theorem s_gen:SoundT C0 61 tGen:=by
 refine .of Tryz.func61 (by decide) rfl fun args H K h hB=>?_
 unfold tGen at h
 split at h <;> try exact h.elim
 unfold arM at h
 split at h <;> try exact h.elim
 rename_i i _ rd fr nd ct us gn rl
 exact ⟨aGen,⟨frame C0.ok s_slGen _,trivial⟩,vc_gen ⟨us,gn,rl,fr,nd,ct,rd⟩ i K h.1 h.2.1 h.2.2⟩
theorem vc_retain (S:Arn) (i:Int) (K:KT) (hi:inU i) (hw:exW S) (h0:i=0->K (.one (.at (vI 0))) (chS S) [3]) (h1:i ≠ 0->S.us i=false->K (.one (.at (vI 3))) (chS S) [3]) (h:S.us i=true->∀ S',S'=retA S i->K (.one (.at (vI 0))) (chS S') [3]) :
  vc C0 aAlc Tryz.f87 [.at (.ptr 0 0),.at (vU i)] (chS S) (normK 7 (wideK [3] K)):=by
 refine Eq.mp (show (brS (i == 0) ((K (.one (.at (.val (Value.int .i64 0)))) [(.box [(.ptr 1 0),(.slc 2),(.slc 3),(.val (Value.int .u64 (S.reads)))]),(.box [(.slc 4),(.slc 5),(.slc 6),(.val (Value.int .u32 (S.fresh)))]),(.row true EC.node (S.nodes)),(.row true EC.int (S.counts)),(.row true EC.bool (S.used)),(.row true EC.u32 (S.gen)),(.row true EC.u32 (S.rel))] [3])) (((0<=i)/\(i < 4294967296)/\(S.used.length<=65537)/\(brS (!S.us i) ((K (.one (.at (.val (Value.int .i64 3)))) [(.box [(.ptr 1 0),(.slc 2),(.slc 3),(.val (Value.int .u64 (S.reads)))]),(.box [(.slc 4),(.slc 5),(.slc 6),(.val (Value.int .u32 (S.fresh)))]),(.row true EC.node (S.nodes)),(.row true EC.int (S.counts)),(.row true EC.bool (S.used)),(.row true EC.u32 (S.gen)),(.row true EC.u32 (S.rel))] [3])) (((0<=i)/\(i < (S.counts.length:Int))/\(0<=i)/\(i < (S.counts.length:Int))/\(K (.one (.at (.val (Value.int .i64 0)))) [(.box [(.ptr 1 0),(.slc 2),(.slc 3),(.val (Value.int .u64 (S.reads)))]),(.box [(.slc 4),(.slc 5),(.slc 6),(.val (Value.int .u32 (S.fresh)))]),(.row true EC.node (S.nodes)),(.row true EC.int (S.counts.set i.toNat (IntKind.i64.wrap (S.ct i+1)))),(.row true EC.bool (S.used)),(.row true EC.u32 (S.gen)),(.row true EC.u32 (S.rel))] [3])))))))=_ by kernel_rfl) ?_
 obtain ⟨hs,hw⟩:=hw
 have h2:=hw.n2;have h3:=hw.ncnt
 refine brS_of (fun c=>h0 (by simpa using c)) fun c=>⟨hi.1,hi.2,by omega,brS_of (fun d=>?_) fun d=>?_⟩
 ·exact h1 (by simpa using c) (by simpa using d)
 ·have d:S.us i=true:=by simpa using d
  have hp:=hw.pos d
  exact ⟨hi.1,by omega,hi.1,by omega,h d _ rfl⟩
theorem s_retain:SoundT C0 87 tRetain:=by
 refine .ofW [3] Tryz.func87 (by decide) rfl fun args H K h hB=>?_
 unfold tRetain at h
 split at h <;> try exact h.elim
 unfold arM at h
 split at h <;> try exact h.elim
 rename_i i _ rd fr nd ct us gn rl
 exact ⟨aAlc,⟨frame C0.ok s_slAllocated _,trivial⟩,vc_retain ⟨us,gn,rl,fr,nd,ct,rd⟩ i K h.1 h.2.1 h.2.2.1 h.2.2.2.1 h.2.2.2.2⟩
theorem vc_slNew (c:Int) (K:KT) (hb:c < 1 ∨ 65536 < c->K (.tup [.at (.val (.pointer none)),.at (vI 1)]) [] []) (h:1<=c->c<=65536->∀ (us:List Bool) (gn:List Int),us=newUs c->gn=newGn c->K (.tup [.at (.ptr 0 0),.at (vI 0)]) (slC us gn [] 0) []) :
  vc C0 aSlNew Tryz.f76 [.at (vI c)] [] (normK 0 K):=by
 refine Eq.mp (show (brS (decide (c < 1)) ((K (.tup [(.at (.val (Value.pointer none))),(.at (.val (Value.int .i64 1)))]) [] [])) ((brS (decide (c > 65536)) ((K (.tup [(.at (.val (Value.pointer none))),(.at (.val (Value.int .i64 1)))]) [] [])) ((((0<=IntKind.i64.wrap (c+1))/\(IntKind.i64.wrap (c+1)<=IntKind.i64.wrap (c+1))/\(IntKind.i64.wrap (c+1) * (↑(bytesOf C0 EC.bool):Int)<=140737488355328)/\(0<=IntKind.i64.wrap (c+1))/\(IntKind.i64.wrap (c+1)<=IntKind.i64.wrap (c+1))/\(IntKind.i64.wrap (c+1) * (↑(bytesOf C0 EC.u32):Int)<=140737488355328)/\(K (.tup [(.at (.ptr 0 0)),(.at (.val (Value.int .i64 0)))]) [(.box [(.slc 1),(.slc 2),(.slc 3),(.val (Value.int .u32 0))]),(.row true EC.bool (List.replicate (IntKind.i64.wrap (c+1)).toNat false)),(.row true EC.u32 (List.replicate (IntKind.i64.wrap (c+1)).toNat (0:Int))),(.row true EC.u32 [])] []))/\(0<=IntKind.i64.wrap (c+1))/\(IntKind.i64.wrap (c+1)<=IntKind.i64.wrap (c+1))/\(IntKind.i64.wrap (c+1) * (↑(bytesOf C0 EC.u32):Int)<=140737488355328)/\(0<=IntKind.i64.wrap (c+1))/\(IntKind.i64.wrap (c+1)<=IntKind.i64.wrap (c+1))/\(IntKind.i64.wrap (c+1) * (↑(bytesOf C0 EC.bool):Int)<=140737488355328)/\(K (.tup [(.at (.ptr 0 0)),(.at (.val (Value.int .i64 0)))]) [(.box [(.slc 1),(.slc 2),(.slc 3),(.val (Value.int .u32 0))]),(.row true EC.bool (List.replicate (IntKind.i64.wrap (c+1)).toNat false)),(.row true EC.u32 (List.replicate (IntKind.i64.wrap (c+1)).toNat (0:Int))),(.row true EC.u32 [])] []))))))=_ by kernel_rfl) ?_
 simp only [bytes_bool,bytes_u32]
 refine brS_of (fun d=>hb (.inl (by simpa using d))) fun d=>brS_of (fun e=>hb (.inr (by simpa using e))) fun e=>?_
 have d:1<=c:=by simp at d;omega
 have e:c<=65536:=by simp at e;omega
 have h:=h d e _ _ rfl rfl
 unfold newUs newGn at h
 rw [wrap_id (x:=c+1) (by omega) (by omega),show (c+1).toNat=c.toNat+1 by omega]
 exact ⟨⟨by omega,by omega,by omega,by omega,by omega,by omega,h⟩,by omega,by omega,by omega,by omega,by omega,by omega,h⟩
theorem s_slNew:SoundT C0 76 tSlNew:=by
 refine .of Tryz.func76 (by decide) rfl fun args H K h hB=>?_
 unfold tSlNew at h
 split at h <;> try exact h.elim
 rename_i c
 exact ⟨aSlNew,trivial,vc_slNew c K h.1 h.2⟩
theorem vc_new (c:Int) (K:KT) (hb:c < 1 ∨ 65536 < c->K (.tup [.at (.val (.pointer none)),.at (vI 1)]) [] []) (h:1<=c->c<=65536->∀ S,S=newS c.toNat->K (.tup [.at (.ptr 0 0),.at (vI 0)]) (chS S) []) :
  vc C0 aNew Tryz.f28 [.at (vI c)] [] (normK 0 K):=by
 refine Eq.mp (show (((c < 1 ∨ 65536 < c)->(K (.tup [(.at (.val (Value.pointer none))),(.at (.val (Value.int .i64 1)))]) [] []))/\((1<=c)->((c<=65536)->(∀ us:List Bool,(∀ gn:List Int,(((us)=(newUs c))->(((gn)=(newGn c))->(((0<=IntKind.i64.wrap (c+1))/\(IntKind.i64.wrap (c+1)<=IntKind.i64.wrap (c+1))/\(IntKind.i64.wrap (c+1) * (↑(bytesOf C0 EC.node):Int)<=140737488355328)/\(0<=IntKind.i64.wrap (c+1))/\(IntKind.i64.wrap (c+1)<=IntKind.i64.wrap (c+1))/\(IntKind.i64.wrap (c+1) * (↑(bytesOf C0 EC.int):Int)<=140737488355328)/\(K (.tup [(.at (.ptr 0 0)),(.at (.val (Value.int .i64 0)))]) [(.box [(.ptr 1 0),(.slc 2),(.slc 3),(.val (Value.int .u64 0))]),(.box [(.slc 4),(.slc 5),(.slc 6),(.val (Value.int .u32 0))]),(.row true EC.node (List.replicate (IntKind.i64.wrap (c+1)).toNat { key:=0,value:=0,left:=0,right:=0,size:=0,sum:=0,min:=0,max:=0:NodeT })),(.row true EC.int (List.replicate (IntKind.i64.wrap (c+1)).toNat (0:Int))),(.row true EC.bool (us)),(.row true EC.u32 (gn)),(.row true EC.u32 [])] []))/\(0<=IntKind.i64.wrap (c+1))/\(IntKind.i64.wrap (c+1)<=IntKind.i64.wrap (c+1))/\(IntKind.i64.wrap (c+1) * (↑(bytesOf C0 EC.int):Int)<=140737488355328)/\(0<=IntKind.i64.wrap (c+1))/\(IntKind.i64.wrap (c+1)<=IntKind.i64.wrap (c+1))/\(IntKind.i64.wrap (c+1) * (↑(bytesOf C0 EC.node):Int)<=140737488355328)/\(K (.tup [(.at (.ptr 0 0)),(.at (.val (Value.int .i64 0)))]) [(.box [(.ptr 1 0),(.slc 2),(.slc 3),(.val (Value.int .u64 0))]),(.box [(.slc 4),(.slc 5),(.slc 6),(.val (Value.int .u32 0))]),(.row true EC.node (List.replicate (IntKind.i64.wrap (c+1)).toNat { key:=0,value:=0,left:=0,right:=0,size:=0,sum:=0,min:=0,max:=0:NodeT })),(.row true EC.int (List.replicate (IntKind.i64.wrap (c+1)).toNat (0:Int))),(.row true EC.bool (us)),(.row true EC.u32 (gn)),(.row true EC.u32 [])] [])))))))))=_ by kernel_rfl) ?_
 simp only [bytes_node,bytes_int]
 refine ⟨hb,fun d e us gn hu hg=>?_⟩
 have h:=h d e _ rfl
 subst hu hg
 unfold newUs newGn
 rw [wrap_id (x:=c+1) (by omega) (by omega),show (c+1).toNat=c.toNat+1 by omega]
 exact ⟨⟨by omega,by omega,by omega,by omega,by omega,by omega,h⟩,by omega,by omega,by omega,by omega,by omega,by omega,h⟩
theorem s_new:SoundT C0 28 tNew:=by
 refine .of Tryz.func28 (by decide) rfl fun args H K h hB=>?_
 unfold tNew at h
 split at h <;> try exact h.elim
 rename_i c
 exact ⟨aNew,⟨frame C0.ok s_slNew _,trivial⟩,vc_new c K h.1 h.2⟩
end Go.Proofs.YtedfbafngmicpaaGreat.Sx
end
