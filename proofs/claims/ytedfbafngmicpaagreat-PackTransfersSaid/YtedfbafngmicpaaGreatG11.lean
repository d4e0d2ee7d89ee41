/- A part of the proof. -/
import Derived.Test.YtedfbafngmicpaaGreatG10
import Derived.Test.YtedfbafngmicpaaGreatG5
import Derived.Test.YtedfbafngmicpaaGreatG6
import Derived.Test.YtedfbafngmicpaaGreatG8
section
/- A dump's allocated slots, edges, marks; the reference's Check; Sound. -/
namespace Go.Proofs.YtedfbafngmicpaaGreat.Sx
open Go

/-KEEP Wf exW inU allU Arn.cap Arn.free alcD cntL kidsL slotsOf orderOf MarksR CleanD kidsU-/
def alcD (d:List SlotT)(i:Int):Bool:=decide (1<=i) && (decide (i<=(d.length:Int)) && (d.getD (i-1).toNat SlotT.zero).alloc)
def cntL (l:List Int)(n:Nat):List Int:=(List.range n).map fun (j:Nat)=>((l.count ((j:Int)+1):Nat):Int)
def kidsL (d:List SlotT):List Int:=d.flatMap fun x=>if x.alloc=true then [x.node.left,x.node.right] else []
def allU (l:List Int):Prop:=∀ x∈l,inU x
def kidsU (d:List SlotT):Prop:=∀ x∈d,inU x.node.left/\inU x.node.right
def mkd (m:List Bool)(i:Int):Prop:=1<=i/\m.getD (i-1).toNat false=true
def sltD (d:List SlotT)(i:Int):SlotT:=d.getD (i-1).toNat SlotT.zero
abbrev eS (d:List SlotT)(i:Nat):SlotT:=d.getD i SlotT.zero
structure MarksR (d:List SlotT) (roots:List Int) (m:List Bool):Prop where
 len:m.length=d.length
 root:∀ i∈roots,alcD d i=true->mkd m i
 left:∀ i,mkd m i->alcD d (sltD d i).node.left=true->mkd m (sltD d i).node.left
 right:∀ i,mkd m i->alcD d (sltD d i).node.right=true->mkd m (sltD d i).node.right
def szD (d:List SlotT)(i:Int):Int:=if alcD d i=true then (sltD d i).node.size else 0
structure CleanD (d:List SlotT) (fl roots:List Int):Prop where
 free:∀ i<d.length,fl.count ((i:Int)+1)=if (d.getD i SlotT.zero).alloc=true then 0 else 1
 left:∀ i<d.length,(d.getD i SlotT.zero).alloc=true->(d.getD i SlotT.zero).node.left=0∨alcD d (d.getD i SlotT.zero).node.left=true
 right:∀ i<d.length,(d.getD i SlotT.zero).alloc=true->(d.getD i SlotT.zero).node.right=0∨alcD d (d.getD i SlotT.zero).node.right=true
 size:∀ i<d.length,(d.getD i SlotT.zero).alloc=true->(d.getD i SlotT.zero).node.size=1+szD d (d.getD i SlotT.zero).node.left+szD d (d.getD i SlotT.zero).node.right
 zr:∀ i<d.length,0<=(d.getD i SlotT.zero).node.size/\(d.getD i SlotT.zero).node.size<=4294967296
 count:∀ i<d.length,(d.getD i SlotT.zero).count=if (d.getD i SlotT.zero).alloc=true then ((kidsL d).count ((i:Int)+1):Int)+(roots.count ((i:Int)+1):Int) else 0
 mark:∀ m,MarksR d roots m->∀ i<d.length,(d.getD i SlotT.zero).alloc=true->m.getD i false=true
 rng:∀ x∈fl,1<=x/\x<=d.length
 held:∀ x∈roots,x=0∨alcD d x=true
def tAlc:Tfm C0:=fun args H K=>match args,H with
 | [.agg [.slc 0,.slc 1],.at (.val (.int .u32 i))],[.row false .slot d,.row false .u32 fl]=>inU i/\d.length<=1000000/\K (.one (.at (vB (alcD d i)))) [.row false EC.slot d,.row false EC.u32 fl] []
 | _,_=>False
def tKids:Tfm C0:=fun args H K=>match args,H with
 | [.agg [.val (.bool _),.val (.int .i64 _),.val (.int .u32 _),.val (.int .i64 _),.val (.int .i64 _),.val (.int .u32 l),.val (.int .u32 r),.val (.int .i64 _),.val (.int .i64 _),.val (.int .i64 _),.val (.int .i64 _)]],[]=>K (.one (.agg [vU l,vU r])) [] []
 | _,_=>False
structure XIx (n:Nat) where
 i:Nat
 h:i<=n
structure XIn (d:List SlotT) where
 i:Nat
 h:i<d.length
noncomputable def aInE (d:List SlotT)(fl:List Int):Ann C0:={ Γ:=[(138,frameT [] tKids)],rounds:=fun n=>if n=7 then 3 else 0,inv:=fun n=>match n with
 | 3=>some { X:=XIx d.length,sl:=[4,1,3],tf:=fun x=>[vi .i64 x.i,.one (.at (.ptr 2 0)),.one (.at (.slc 3))],hf:=fun x=>[.row false EC.slot d,.row false EC.u32 fl,.box [.slc 0,.slc 1],.row true EC.int (cntL (kidsL (d.take x.i)) d.length)],μ:=fun x=>d.length-x.i }
 | 1004=>some { X:=XIn d,sl:=[4,1,3],tf:=fun x=>[vi .i64 x.i,.one (.at (.ptr 2 0)),.one (.at (.slc 3))],hf:=fun x=>[.row false EC.slot d,.row false EC.u32 fl,.box [.slc 0,.slc 1],.row true EC.int (cntL (kidsL (d.take (x.i+1))) d.length)],rel:=fun T _ z=>slotI T 4 z.i }
 | _=>none }
def tInE:Tfm C0:=fun args H K=>match args,H with
 | [.agg [.slc 0,.slc 1]],[.row false .slot d,.row false .u32 fl]=>d.length<=100000/\kidsU d/\∀ o,o=cntL (kidsL d) d.length->K (.one (.at (.slc 2))) [.row false EC.slot d,.row false EC.u32 fl,.row true EC.int o] []
 | _,_=>False
noncomputable def aCnt (l:List Int)(n:Int):Ann C0:={ Γ:=[],inv:=fun k=>match k with
 | 3=>some { X:=XIx l.length,sl:=[6,5],tf:=fun x=>[vi .i64 x.i,.one (.at (.slc 1))],hf:=fun x=>[.row false EC.u32 l,.row true EC.int (cntL (l.take x.i) n.toNat)],μ:=fun x=>l.length-x.i }
 | _=>none }
def tCnt:Tfm C0:=fun args H K=>match args,H with
 | [.at (.slc 0),.at (.val (.int .i64 n))],[.row false .u32 l]=>0<=n/\n<=100000/\l.length<=1000000/\allU l/\∀ o,o=cntL l n.toNat->K (.one (.at (.slc 1))) [.row false EC.u32 l,.row true EC.int o] []
 | _,_=>False
structure XMks (P:List Bool->List Int->Prop) where
 m:List Bool
 w:List Int
 h:P m w
noncomputable def aMk (P:List Bool->List Int->Prop)(d:List SlotT)(fl roots:List Int):Ann C0:={ Γ:=[(108,frameT [] tAlc),(138,frameT [] tKids)],trunc:=fun n=>n=28,inv:=fun k=>match k with
 | 3=>some { X:=XMks P,sl:=[2,5,6],tf:=fun _=>[.one (.at (.ptr 3 0)),.one (.at (.slc 4)),.one (.at (.slc 5))],hf:=fun x=>[.row false EC.slot d,.row false EC.u32 fl,.row false EC.u32 roots,.box [.slc 0,.slc 1],.row true EC.bool x.m,.row true EC.u32 x.w],μ:=fun x=>x.w.length+3*x.m.count false }
 | _=>none }
def tMk:Tfm C0:=fun args H K=>match args,H with
 | [.agg [.slc 0,.slc 1],.at (.slc 2)],[.row false .slot d,.row false .u32 fl,.row false .u32 roots]=>d.length<=100000/\roots.length<=1000000/\kidsU d/\allU roots/\∀ m,MarksR d roots m->K (.one (.at (.slc 3))) [.row false EC.slot d,.row false EC.u32 fl,.row false EC.u32 roots,.row true EC.bool m] []
 | _,_=>False
theorem alcD_at {d:List SlotT}{i:Int}(h1:1<=i)(h2:i<=(d.length:Int)):alcD d i=(d.getD (i-1).toNat SlotT.zero).alloc:=by simp[alcD,h1,h2]
theorem alcD_lo {d:List SlotT}{i:Int}(h:¬ 1<=i):alcD d i=false:=by simp[alcD,h]
theorem alcD_hi {d:List SlotT}{i:Int}(h:¬ i<=(d.length:Int)):alcD d i=false:=by simp[alcD,h]
theorem alcD_rng {d:List SlotT}{i:Int}(h:alcD d i=true):1<=i/\i<=(d.length:Int):=by simp[alcD] at h;exact⟨h.1,h.2.1⟩
theorem vc_alc (d:List SlotT)(fl:List Int)(i:Int)(K:KT)(h1:inU i)(h2:d.length<=1000000)(h:K (.one (.at (vB (alcD d i)))) [.row false EC.slot d,.row false EC.u32 fl] []) :
  vc C0 A0 Tryz.f108 [.agg [.slc 0,.slc 1],.at (vU i)] [.row false EC.slot d,.row false EC.u32 fl] (normK 2 K):=by
 refine Eq.mp (show (brS (decide (i≥1)) (brS (decide (IntKind.u64.wrap i<=IntKind.u64.wrap (d.length:Int))) (0<=IntKind.u32.wrap (i-1)/\IntKind.u32.wrap (i-1)<(d.length:Int)/\K (.one (.at (.val (Value.bool ((d.getD (IntKind.u32.wrap (i-1)).toNat SlotT.zero).alloc))))) [(.row false EC.slot (d)),(.row false EC.u32 (fl))] []) (K (.one (.at (.val (Value.bool false)))) [(.row false EC.slot (d)),(.row false EC.u32 (fl))] [])) (K (.one (.at (.val (Value.bool false)))) [(.row false EC.slot (d)),(.row false EC.u32 (fl))] []))=_ by kernel_rfl) ?_
 obtain⟨ha,hb⟩:=h1
 rw[wrap_u64 (x:=i) ha (by omega),wrap_u64 (x:=(d.length:Int)) (by omega) (by omega)]
 refine brS_of (fun c=>?_) fun c=>?_
 ·have c:1<=i:=by have:=of_decide_eq_true c;omega
  rw[wrap_u32 (by omega) (by omega)]
  refine brS_of (fun e=>?_) fun e=>?_
  ·have e:i<=(d.length:Int):=of_decide_eq_true e
   rw[alcD_at c e] at h
   exact⟨by omega,by omega,h⟩
  ·rw[alcD_hi (of_decide_eq_false e)] at h;exact h
 ·rw[alcD_lo (by have:=of_decide_eq_false c;omega)] at h;exact h
theorem s_alc:SoundT C0 108 tAlc:=by
 refine .of Tryz.func108 (by decide) rfl fun args H K h hB=>?_
 unfold tAlc at h
 split at h<;>try exact h.elim
 rename_i i d fl
 exact⟨A0,trivial,vc_alc d fl i K h.1 h.2.1 h.2.2⟩
theorem vc_kids (al:Bool)(c g k v l r s sm mn mx:Int)(K:KT)(h:K (.one (.agg [vU l,vU r])) [] []) :
  vc C0 A0 Tryz.f138 [.agg [.val (.bool al),.val (.int .i64 c),.val (.int .u32 g),vI k,vI v,vU l,vU r,vI s,vI sm,vI mn,vI mx]] [] (normK 0 K):=by
 refine Eq.mp (show (K (.one (TV.agg [(.val (VU (l))),(.val (VU (r)))])) [] [])=_ by kernel_rfl) ?_
 exact h
theorem s_kids:SoundT C0 138 tKids:=by
 refine .of Tryz.func138 (by decide) rfl fun args H K h hB=>?_
 unfold tKids at h
 split at h<;>try exact h.elim
 exact⟨A0,trivial,vc_kids _ _ _ _ _ _ _ _ _ _ _ K h⟩
theorem cntL_len (l:List Int)(n:Nat):(cntL l n).length=n:=by simp[cntL]
theorem cntL_nil (n:Nat):List.replicate n (0:Int)=cntL [] n:=by
 unfold cntL
 refine List.ext_getElem (by simp) fun i h1 h2=>by simp
theorem cntL_get (l:List Int)(n j:Nat)(h:j<n):(cntL l n).getD j 0=((l.count ((j:Int)+1):Nat):Int):=by
 unfold cntL
 simp[List.getD_eq_getElem?_getD,h]
theorem cntL_snoc_in {l:List Int}{n:Nat}{x:Int}(h1:1<=x)(h2:x<=n):(cntL l n).set (x-1).toNat ((cntL l n).getD (x-1).toNat 0+1)=cntL (l++[x]) n:=by
 rw[cntL_get l n _ (by omega)]
 unfold cntL
 refine List.ext_getElem (by simp) fun i h3 h4=>?_
 simp only[List.getElem_set,List.getElem_map,List.getElem_range,List.count_append]
 by_cases e:(x-1).toNat=i
 ·rw[if_pos e]
  have ex:((i:Int)+1)=x:=by omega
  have ey:(((x-1).toNat:Int)+1)=x:=by omega
  rw[ex,ey];simp
 ·rw[if_neg e]
  have:[x].count ((i:Int)+1)=0:=List.count_eq_zero.2 (by simp;omega)
  rw[this];simp
theorem cntL_snoc_out {l:List Int}{n:Nat}{x:Int}(h:¬ (1<=x/\x<=n)):cntL (l++[x]) n=cntL l n:=by
 unfold cntL
 refine List.map_congr_left fun i hi=>?_
 have hi:i<n:=List.mem_range.1 hi
 have:[x].count ((i:Int)+1)=0:=List.count_eq_zero.2 (by simp;omega)
 rw[List.count_append,this];simp
theorem takeD_snoc {α:Type}{l:List α}{i:Nat}{dft:α}(h:i<l.length):l.take (i+1)=l.take i++[l.getD i dft]:=by
 rw[List.take_add_one,List.getD_eq_getElem?_getD,List.getElem?_eq_getElem h];rfl
theorem cntL_rng (l:List Int)(n j:Nat)(h:j<n):0<=(cntL l n).getD j 0/\(cntL l n).getD j 0<=l.length:=by
 rw[cntL_get l n j h]
 have:=List.count_le_length (a:=(j:Int)+1) (l:=l)
 omega
theorem vc_cnt (l:List Int)(n:Int)(K:KT)(h1:0<=n)(h2:n<=100000)(h3:l.length<=1000000)(h4:∀ x∈l,inU x)(h:∀ o,o=cntL l n.toNat->K (.one (.at (.slc 1))) [.row false EC.u32 l,.row true EC.int o] []) :
  vc C0 (aCnt l n) Tryz.f137 [.at (.slc 0),.at (vI n)] [.row false EC.u32 l] (normK 1 K):=by
 refine Eq.mp (show (0<=n/\n<=n/\n*(↑(bytesOf C0 EC.int):Int)<=140737488355328/\(∃ x:XIx l.length,True/\(True/\VI (n)=VI (n)/\True/\VI 0=(VI (x.i:Int))/\True)/\l=l/\List.replicate n.toNat 0=(cntL (List.take x.i l) n.toNat)/\True)/\∀ x:XIx l.length,True->brS (decide ((x.i:Int)<(l.length:Int))) (0<=(x.i:Int)/\(x.i:Int)<(l.length:Int)/\brS (decide (l.getD (x.i:Int).toNat 0≥1)) (0<=(x.i:Int)/\(x.i:Int)<(l.length:Int)/\brS (decide (IntKind.u64.wrap (l.getD (x.i:Int).toNat 0)<=IntKind.u64.wrap n)) (0<=(x.i:Int)/\(x.i:Int)<(l.length:Int)/\0<=IntKind.u32.wrap (l.getD (x.i:Int).toNat 0-1)/\IntKind.u32.wrap (l.getD (x.i:Int).toNat 0-1)<(↑(cntL (List.take x.i l) n.toNat).length:Int)/\0<=IntKind.u32.wrap (l.getD (x.i:Int).toNat 0-1)/\IntKind.u32.wrap (l.getD (x.i:Int).toNat 0-1)<(↑(cntL (List.take x.i l) n.toNat).length:Int)/\∃ x':XIx l.length,True/\((True/\VI (n)=VI (n)/\True/\(VI (IntKind.i64.wrap ((x.i:Int)+1)))=(VI (x'.i:Int))/\True)/\l=l/\((cntL (List.take x.i l) n.toNat).set (IntKind.u32.wrap (l.getD (x.i:Int).toNat 0-1)).toNat (IntKind.i64.wrap ((cntL (List.take x.i l) n.toNat).getD (IntKind.u32.wrap (l.getD (x.i:Int).toNat 0-1)).toNat 0+1)))=(cntL (List.take x'.i l) n.toNat)/\True)/\l.length-x'.i<l.length-x.i) (∃ x':XIx l.length,True/\((True/\VI (n)=VI (n)/\True/\(VI (IntKind.i64.wrap ((x.i:Int)+1)))=(VI (x'.i:Int))/\True)/\l=l/\(cntL (List.take x.i l) n.toNat)=(cntL (List.take x'.i l) n.toNat)/\True)/\l.length-x'.i<l.length-x.i)) (∃ x':XIx l.length,True/\((True/\VI (n)=VI (n)/\True/\(VI (IntKind.i64.wrap ((x.i:Int)+1)))=(VI (x'.i:Int))/\
 True)/\l=l/\(cntL (List.take x.i l) n.toNat)=(cntL (List.take x'.i l) n.toNat)/\True)/\l.length-x'.i<l.length-x.i)) (K (.one (.at (.slc 1))) [(.row false EC.u32 (l)),(.row true EC.int (cntL (List.take x.i l) n.toNat))] []))=_ by kernel_rfl) ?_
 rw[bytes_int]
 refine⟨h1,Int.le_refl _,by omega,⟨⟨0,Nat.zero_le _⟩,⟨trivial,⟨trivial,rfl,trivial,rfl,trivial⟩,rfl,cntL_nil _,trivial⟩⟩,fun x _=>brS_of (fun c=>?_) fun c=>?_⟩
 ·have c:x.i<l.length:=by have:=of_decide_eq_true c;omega
  have hx:l.getD x.i 0∈l:=by rw[List.getD_eq_getElem?_getD,List.getElem?_eq_getElem c];exact List.getElem_mem c
  have hu:=h4 _ hx
  have ts:=takeD_snoc (dft:=(0:Int)) c
  rw[show ((x.i:Int)).toNat=x.i from rfl]
  generalize l.getD x.i 0=v at *
  obtain⟨u1,u2⟩:=hu
  rw[wrap_u64 (x:=v) u1 (by omega),wrap_u64 (x:=n) h1 (by omega),wrap_id (x:=(x.i:Int)+1) (by omega) (by omega)]
  have hne:∀ (w:List Int),w=cntL (l.take (x.i+1)) n.toNat->(∃ x':XIx l.length,(True/\((True/\((Value.int IntKind.i64 (n))=(Value.int IntKind.i64 (n)))/\True/\((Value.int IntKind.i64 ((x.i:Int)+1))=(Value.int IntKind.i64 ((↑x'.i:Int))))/\True)/\((l)=(l))/\(w=(cntL (List.take x'.i l) n.toNat))/\True)/\(l.length-x'.i<l.length-x.i))):=fun w hw=>⟨⟨x.i+1,c⟩,trivial,⟨⟨trivial,rfl,trivial,rfl,trivial⟩,rfl,hw,trivial⟩,by show l.length-(x.i+1)<_;omega⟩
  refine⟨by omega,by omega,brS_of (fun e=>?_) fun e=>?_⟩
  ·have e:1<=v:=by have:=of_decide_eq_true e;omega
   refine⟨by omega,by omega,brS_of (fun f=>?_) fun f=>?_⟩
   ·have f:v<=n:=of_decide_eq_true f
    have hr:=cntL_rng (l.take x.i) n.toNat (v-1).toNat (by omega)
    have hl:(l.take x.i).length<=l.length:=by simp;omega
    rw[wrap_u32 (x:=v-1) (by omega) (by omega),cntL_len]
    rw[wrap_id (x:=(cntL (l.take x.i) n.toNat).getD (v-1).toNat 0+1) (by omega) (by omega)]
    refine⟨by omega,by omega,by omega,by omega,by omega,by omega,hne _ ?_⟩
    rw[ts];exact cntL_snoc_in e (by omega)
   ·refine hne _ ?_
    rw[ts,cntL_snoc_out]
    have:=of_decide_eq_false f;omega
  ·refine hne _ ?_
   rw[ts,cntL_snoc_out]
   have:=of_decide_eq_false e;omega
 ·have c:x.i=l.length:=by have:=of_decide_eq_false c;have:=x.h;omega
  exact h _ (by rw[c,List.take_length])
theorem s_cnt:SoundT C0 137 tCnt:=by
 refine .of Tryz.func137 (by decide) rfl fun args H K h hB=>?_
 unfold tCnt at h
 split at h<;>try exact h.elim
 rename_i n l
 exact⟨aCnt l n,trivial,vc_cnt l n K h.1 h.2.1 h.2.2.1 h.2.2.2.1 h.2.2.2.2⟩
structure PMk (d:List SlotT) (roots:List Int) (m:List Bool) (w:List Int):Prop where
 len:m.length=d.length
 u:∀ x∈w,inU x
 wl:w.length+2*m.count false<=roots.length+2*d.length
 root:∀ i∈roots,alcD d i=true->mkd m i∨i∈w
 left:∀ i,mkd m i->alcD d (sltD d i).node.left=true->mkd m (sltD d i).node.left∨(sltD d i).node.left∈w
 right:∀ i,mkd m i->alcD d (sltD d i).node.right=true->mkd m (sltD d i).node.right∨(sltD d i).node.right∈w
theorem PMk.start (d:List SlotT)(roots:List Int)(h:∀ x∈roots,inU x):PMk d roots (List.replicate d.length false) roots:=by
 have z:∀ i,¬ mkd (List.replicate d.length false) i:=fun i hi=>by
  have:=hi.2
  rw[getD_replicate] at this;cases this
 exact⟨by simp,h,by simp,fun i hi _=>.inr hi,fun i hi=>(z i hi).elim,fun i hi=>(z i hi).elim⟩
theorem PMk.done {d:List SlotT}{roots:List Int}{m:List Bool}(h:PMk d roots m []):MarksR d roots m :=
 ⟨h.len,fun i a b=>(h.root i a b).resolve_right (by simp),fun i a b=>(h.left i a b).resolve_right (by simp),fun i a b=>(h.right i a b).resolve_right (by simp)⟩
theorem PMk.skip {d:List SlotT}{roots:List Int}{m:List Bool}{w:List Int}{x:Int}(h:PMk d roots m (w++[x]))(hx:alcD d x=true->mkd m x):PMk d roots m w:=by
 have key:∀ j,alcD d j=true->mkd m j∨j∈w++[x]->mkd m j∨j∈w:=fun j ha hj=>by
  rcases hj with hj|hj
  ·exact .inl hj
  ·rcases List.mem_append.1 hj with hj|hj
   ·exact .inr hj
   ·have e:j=x:=by simpa using hj
    subst e;exact .inl (hx ha)
 refine⟨h.len,fun y hy=>h.u y (by simp[hy]),by have:=h.wl;simp at this;omega,fun i a b=>key i b (h.root i a b),fun i a b=>key _ b (h.left i a b),fun i a b=>key _ b (h.right i a b)⟩
theorem count_mark {m:List Bool}{k:Nat}(h1:k<m.length)(h2:m.getD k false=false):(m.set k true).count false+1=m.count false:=by
 have:=countP_set' (fun b:Bool=>b==false) m k true false h1
 rw[h2] at this
 simpa [List.count] using this
theorem PMk.mark {d:List SlotT}{roots:List Int}{m:List Bool}{w:List Int}{x:Int}(h:PMk d roots m (w++[x]))(hx:alcD d x=true)(hm:m.getD (x-1).toNat false=false)(hk:inU (sltD d x).node.left/\inU (sltD d x).node.right) :
  PMk d roots (m.set (x-1).toNat true) (w++[(sltD d x).node.left,(sltD d x).node.right]):=by
 obtain⟨x1,x2⟩:=alcD_rng hx
 have hl:=h.len
 have hs:∀ j,mkd (m.set (x-1).toNat true) j↔j=x∨mkd m j:=fun j=>by
  unfold mkd
  rw[getD_set]
  constructor
  ·rintro ⟨a,b⟩
   by_cases e:j=x
   ·exact .inl e
   ·rw[if_neg (by omega)] at b;exact .inr ⟨a,b⟩
  ·rintro (e|⟨a,b⟩)
   ·subst e;exact⟨x1,by rw[if_pos ⟨rfl,by omega⟩]⟩
   ·refine⟨a,?_⟩
    split
    ·rfl
    ·exact b
 have key:∀ j,mkd m j∨j∈w++[x]->mkd (m.set (x-1).toNat true) j∨j∈w++[(sltD d x).node.left,(sltD d x).node.right]:=fun j hj=>by
  rw[hs]
  rcases hj with hj|hj
  ·exact .inl (.inr hj)
  ·rcases List.mem_append.1 hj with hj|hj
   ·exact .inr (by simp[hj])
   ·exact .inl (.inl (by simpa using hj))
 have hc:=count_mark (m:=m) (k:=(x-1).toNat) (by omega) hm
 have l1:(w++[(sltD d x).node.left,(sltD d x).node.right]).length=w.length+2:=by simp
 have l2:(w++[x]).length=w.length+1:=by simp
 refine⟨by simp[hl],fun y hy=>?_,by have:=h.wl;omega,fun i a b=>key i (h.root i a b),fun i a b=>?_,fun i a b=>?_⟩
 ·simp at hy
  rcases hy with hy|hy|hy
  ·exact h.u y (by simp[hy])
  ·subst hy;exact hk.1
  ·subst hy;exact hk.2
 ·rcases (hs i).1 a with e|e
  ·subst e;exact .inr (by simp)
  ·exact key _ (h.left i e b)
 ·rcases (hs i).1 a with e|e
  ·subst e;exact .inr (by simp)
  ·exact key _ (h.right i e b)
theorem vc_mk (d:List SlotT)(fl roots:List Int)(K:KT)(h1:d.length<=100000)(h2:roots.length<=1000000)(h3:kidsU d)(h4:∀ x∈roots,inU x)(h:∀ m,MarksR d roots m->K (.one (.at (.slc 3))) [.row false EC.slot d,.row false EC.u32 fl,.row false EC.u32 roots,.row true EC.bool m] []) :
  vc C0 (aMk (PMk d roots) d fl roots) Tryz.f136 [.agg [.slc 0,.slc 1],.at (.slc 2)] [.row false EC.slot d,.row false EC.u32 fl,.row false EC.u32 roots] (normK 3 K):=by
 generalize hP:PMk d roots=P
 refine Eq.mp (show (0<=(d.length:Int)/\(d.length:Int)<=(d.length:Int)/\(d.length:Int)*(↑(bytesOf C0 EC.bool):Int)<=140737488355328/\(([]:List Ent).length+roots.length)*bytesOf C0 EC.u32<=140737488355328/\(∃ x:XMks P,True/\(True/\True/\True/\True)/\d=d/\fl=fl/\roots=roots/\(True/\True/\True)/\(List.replicate (d.length:Int).toNat false)=x.m/\([]++roots)=x.w/\True)/\∀ x:XMks P,True->brS (decide ((x.w.length:Int)>0)) (0<=IntKind.i64.wrap ((x.w.length:Int)-1)/\IntKind.i64.wrap ((x.w.length:Int)-1)<(x.w.length:Int)/\0<=IntKind.i64.wrap ((x.w.length:Int)-1)/\IntKind.i64.wrap ((x.w.length:Int)-1)<=(x.w.length:Int)/\inU (x.w.getD (IntKind.i64.wrap ((x.w.length:Int)-1)).toNat 0)/\d.length<=1000000/\brS (!alcD d (x.w.getD (IntKind.i64.wrap ((x.w.length:Int)-1)).toNat 0)) (∃ x':XMks P,True/\((True/\True/\True/\True)/\d=d/\fl=fl/\roots=roots/\(True/\True/\True)/\x.m=x'.m/\(List.take (IntKind.i64.wrap ((x.w.length:Int)-1)).toNat x.w)=x'.w/\True)/\x'.w.length+3*List.count false x'.m<x.w.length+3*List.count false x.m) (0<=IntKind.u32.wrap (x.w.getD (IntKind.i64.wrap ((x.w.length:Int)-1)).toNat 0-1)/\IntKind.u32.wrap (x.w.getD (IntKind.i64.wrap ((x.w.length:Int)-1)).toNat 0-1)<(x.m.length:Int)/\brS (x.m.getD (IntKind.u32.wrap (x.w.getD (IntKind.i64.wrap ((x.w.length:Int)-1)).toNat 0-1)).toNat false) (∃ x':XMks P,True/\((True/\True/\True/\True)/\d=d/\fl=fl/\roots=roots/\(True/\True/\True)/\x.m=x'.m/\(List.take (IntKind.i64.wrap ((x.w.length:Int)-1)).toNat x.w)=x'.w/\True)/\x'.w.length+3*List.count false x'.m<x.w.length+3*List.count false x.m) (0<=IntKind.u32.wrap (x.w.getD (IntKind.i64.wrap ((x.w.length:Int)-1)).toNat 0-1)/\
 IntKind.u32.wrap (x.w.getD (IntKind.i64.wrap ((x.w.length:Int)-1)).toNat 0-1)<(x.m.length:Int)/\0<=IntKind.u32.wrap (x.w.getD (IntKind.i64.wrap ((x.w.length:Int)-1)).toNat 0-1)/\IntKind.u32.wrap (x.w.getD (IntKind.i64.wrap ((x.w.length:Int)-1)).toNat 0-1)<(d.length:Int)/\(0:Int)<=0/\0<((2:Nat):Int)/\(0:Int)<=1/\1<((2:Nat):Int)/\((List.take (IntKind.i64.wrap ((x.w.length:Int)-1)).toNat x.w).length+[(d.getD (IntKind.u32.wrap (x.w.getD (IntKind.i64.wrap ((x.w.length:Int)-1)).toNat 0-1)).toNat SlotT.zero).node.left,(d.getD (IntKind.u32.wrap (x.w.getD (IntKind.i64.wrap ((x.w.length:Int)-1)).toNat 0-1)).toNat SlotT.zero).node.right].length)*bytesOf C0 EC.u32<=140737488355328/\∃ x':XMks P,True/\((True/\True/\True/\True)/\d=d/\fl=fl/\roots=roots/\(True/\True/\True)/\(x.m.set (IntKind.u32.wrap (x.w.getD (IntKind.i64.wrap ((x.w.length:Int)-1)).toNat 0-1)).toNat true)=x'.m/\(List.take (IntKind.i64.wrap ((x.w.length:Int)-1)).toNat x.w++[(d.getD (IntKind.u32.wrap (x.w.getD (IntKind.i64.wrap ((x.w.length:Int)-1)).toNat 0-1)).toNat SlotT.zero).node.left,(d.getD (IntKind.u32.wrap (x.w.getD (IntKind.i64.wrap ((x.w.length:Int)-1)).toNat 0-1)).toNat SlotT.zero).node.right])=x'.w/\True)/\x'.w.length+3*List.count false x'.m<x.w.length+3*List.count false x.m))) (K (.one (.at (.slc 3))) [(.row false EC.slot (d)),(.row false EC.u32 (fl)),(.row false EC.u32 (roots)),(.row true EC.bool (x.m))] []))=_ by kernel_rfl) ?_
 subst hP
 rw[bytes_bool,bytes_u32]
 refine⟨by omega,Int.le_refl _,by omega,by simp;omega,⟨⟨_,_,PMk.start d roots h4⟩,⟨trivial,⟨trivial,trivial,trivial,trivial⟩,rfl,rfl,rfl,⟨trivial,trivial,trivial⟩,rfl,rfl,trivial⟩⟩,fun x _=>?_⟩
 obtain⟨m,w,hp⟩:=x
 dsimp only
 refine brS_of (fun c=>?_) fun c=>?_
 ·have c:0<w.length:=by have:=of_decide_eq_true c;omega
  have hwl:=hp.wl
  have hml:=hp.len
  have ew:=list_last (d:=(0:Int)) c
  rw[wrap_id (x:=(w.length:Int)-1) (by omega) (by omega),show ((w.length:Int)-1).toNat=w.length-1 by omega]
  have lw:(w.take (w.length-1)).length+1=w.length:=by simp;omega
  have hux:inU (w.getD (w.length-1) 0):=hp.u _ (by rw[← ew];simp)
  generalize w.getD (w.length-1) 0=v at *
  generalize w.take (w.length-1)=q at *
  subst ew
  refine⟨by omega,by omega,by omega,by omega,hux,by omega,brS_of (fun e=>?_) fun e=>?_⟩
  ·have e:alcD d v=false:=by simpa using e
   refine⟨⟨m,q,hp.skip (by rw[e];intro z;cases z)⟩,trivial,⟨⟨trivial,trivial,trivial,trivial⟩,rfl,rfl,rfl,⟨trivial,trivial,trivial⟩,rfl,rfl,trivial⟩,?_⟩
   show q.length+3*m.count false<_
   simp
  ·have e:alcD d v=true:=by simpa using e
   obtain⟨v1,v2⟩:=alcD_rng e
   rw[wrap_u32 (x:=v-1) (by omega) (by omega)]
   refine⟨by omega,by omega,brS_of (fun f=>?_) fun f=>?_⟩
   ·refine⟨⟨m,q,hp.skip fun _=>⟨v1,f⟩⟩,trivial,⟨⟨trivial,trivial,trivial,trivial⟩,rfl,rfl,rfl,⟨trivial,trivial,trivial⟩,rfl,rfl,trivial⟩,?_⟩
    show q.length+3*m.count false<_
    simp
   ·have hd:(v-1).toNat<d.length:=by omega
    have hmem:sltD d v∈d:=by unfold sltD;rw[List.getD_eq_getElem?_getD,List.getElem?_eq_getElem hd];exact List.getElem_mem hd
    have hc:=count_mark (m:=m) (k:=(v-1).toNat) (by omega) f
    have hb:m.count false<=m.length:=List.count_le_length
    have l2:(q++[v]).length=q.length+1:=by simp
    have l3:(q++[(sltD d v).node.left,(sltD d v).node.right]).length=q.length+2:=by simp
    refine⟨by omega,by omega,by omega,by omega,by decide,by decide,by decide,by decide,(show (q.length+2)*4<=140737488355328 by omega),⟨_,_,hp.mark e f (h3 _ hmem)⟩,trivial,⟨⟨trivial,trivial,trivial,trivial⟩,rfl,rfl,rfl,⟨trivial,trivial,trivial⟩,rfl,rfl,trivial⟩,?_⟩
    show (q++[(sltD d v).node.left,(sltD d v).node.right]).length+3*(m.set (v-1).toNat true).count false<(q++[v]).length+3*m.count false
    omega
 ·have c:w=[]:=by have:=of_decide_eq_false c;exact List.length_eq_zero_iff.1 (by omega)
  subst c
  exact h m hp.done
theorem s_mk:SoundT C0 136 tMk:=by
 refine .of Tryz.func136 (by decide) rfl fun args H K h hB=>?_
 unfold tMk at h
 split at h<;>try exact h.elim
 rename_i d fl roots
 exact⟨aMk (PMk d roots) d fl roots,⟨frame C0.ok s_alc _,frame C0.ok s_kids _,trivial⟩,vc_mk d fl roots K h.1 h.2.1 h.2.2.1 h.2.2.2.1 h.2.2.2.2⟩
/-! ### The plain law: a whole arena's dump is clean. -/
theorem slotsOf_len (S:Arn):(slotsOf S).length=ncap S:=by simp[slotsOf]
theorem slotsOf_get (S:Arn){i:Nat}(h:i<ncap S):(slotsOf S).getD i SlotT.zero=slotAt S i:=by
 simp[slotsOf,List.getD_eq_getElem?_getD,h]
theorem us_hi {S:Arn}{i:Int}(h:(ncap S:Int)<i):S.us i=false:=by
 cases hb:S.us i with
 | false=>rfl
 | true=>have:=getD_false hb;unfold ncap at h;omega
theorem alcD_slots {S:Arn}{hs:List Int}(w:Wf S hs)(i:Int):alcD (slotsOf S) i=S.us i:=by
 by_cases h1:1<=i
 ·by_cases h2:i<=(ncap S:Int)
  ·rw[alcD_at h1 (by rw[slotsOf_len];exact h2),slotsOf_get S (by omega)]
   show S.us _=S.us i
   congr 1;omega
  ·rw[alcD_hi (by rw[slotsOf_len];exact h2),us_hi (by omega)]
 ·rw[alcD_lo h1,w.us0 (by omega)]
theorem sltD_slots {S:Arn}{hs:List Int}(w:Wf S hs){i:Int}(h:S.us i=true):(sltD (slotsOf S) i).node=S.nd i:=by
 have hp:=w.pos h
 have h2:(i-1).toNat<ncap S:=by unfold ncap;omega
 unfold sltD
 rw[slotsOf_get S h2]
 show S.nd _=S.nd i
 congr 1;omega
theorem szD_slots {S:Arn}{hs:List Int}(w:Wf S hs)(i:Int):szD (slotsOf S) i=(S.nd i).size:=by
 unfold szD
 rw[alcD_slots w]
 cases hb:S.us i with
 | false=>rw[w.zero i hb];rfl
 | true=>rw[if_pos rfl,sltD_slots w hb]
theorem mem_upTo {fr:Int}{n:Nat}{x:Int}:x∈upTo fr n↔fr+1<=x/\x<=fr+n:=by
 unfold upTo
 simp only[List.mem_map,List.mem_range]
 constructor
 ·rintro ⟨k,hk,rfl⟩;omega
 ·rintro ⟨h1,h2⟩;exact⟨(x-fr-1).toNat,by omega,by omega⟩
theorem upTo_nodup (fr:Int)(n:Nat):(upTo fr n).Nodup:=by
 unfold upTo
 refine List.pairwise_map.2 (List.nodup_range.imp fun h e=>h (by omega))
theorem order_mem {S:Arn}{hs:List Int}(w:Wf S hs)(x:Int):x∈orderOf S↔(1<=x/\x<=(ncap S:Int))/\S.us x=false:=by
 have hfr:=w.fr
 unfold orderOf orderL
 rw[List.mem_append,List.mem_reverse,mem_upTo]
 have hn:(ncap S:Int)=S.used.length-1:=by have:=w.n1;unfold ncap;omega
 constructor
 ·rintro (h|h)
  ·have hr:=w.rel x h
   refine⟨by omega,?_⟩
   cases hb:S.us x with
   | false=>rfl
   | true=>exact absurd h ((w.use x).1 hb).2.2
  ·refine⟨by omega,?_⟩
   cases hb:S.us x with
   | false=>rfl
   | true=>have:=((w.use x).1 hb).2.1;omega
 ·rintro ⟨h1,h2⟩
  by_cases e:x<=S.fresh
  ·refine .inl ?_
   by_cases hm:x∈S.rel
   ·exact hm
   ·rw[(w.use x).2 ⟨h1.1,e,hm⟩] at h2;cases h2
  ·exact .inr (by omega)
theorem order_nodup {S:Arn}{hs:List Int}(w:Wf S hs):(orderOf S).Nodup:=by
 unfold orderOf orderL
 refine List.nodup_append.2 ⟨List.pairwise_reverse.2 (w.dup.imp fun h=>h.symm),upTo_nodup _ _,fun a ha b hb=>?_⟩
 have:=w.rel a (List.mem_reverse.1 ha)
 have:=mem_upTo.1 hb
 omega
theorem order_len {S:Arn}{hs:List Int}(w:Wf S hs):(orderOf S).length<=131074:=by
 have h1:=w.n2;have h2:=w.nus;have h3:=w.fr
 unfold orderOf orderL upTo
 simp;omega
theorem kids_count {S:Arn}{hs:List Int}(w:Wf S hs){j:Int}(hj:1<=j):∀ L:List Nat,
  ((L.map (slotAt S)).flatMap fun x=>if x.alloc=true then [x.node.left,x.node.right] else []).count j=(L.map fun (k:Nat)=>S.nd ((k:Int)+1)).countP (fun x=>x.left==j)+(L.map fun (k:Nat)=>S.nd ((k:Int)+1)).countP (fun x=>x.right==j)
 | []=>rfl
 | k::L=>by
  have ih:=kids_count w hj L
  simp only[List.map_cons,List.flatMap_cons,List.count_append,List.countP_cons,ih]
  have e1:(slotAt S k).alloc=S.us ((k:Int)+1):=rfl
  have e2:(slotAt S k).node=S.nd ((k:Int)+1):=rfl
  rw[e1,e2]
  cases hb:S.us ((k:Int)+1) with
  | false =>
   rw[w.zero _ hb]
   have z1:(NodeT.zero.left==j)=false:=by simp[NodeT.zero];omega
   have z2:(NodeT.zero.right==j)=false:=by simp[NodeT.zero];omega
   simp[z1,z2]
  | true=>simp only[if_true,List.count_cons,List.count_nil];omega
theorem kids_indeg {S:Arn}{hs:List Int}(w:Wf S hs){j:Int}(hj:1<=j):(kidsL (slotsOf S)).count j=S.indeg j:=by
 unfold kidsL slotsOf
 rw[kids_count w hj]
 have hn:S.nodes=S.nd 0::(List.range (ncap S)).map fun (k:Nat)=>S.nd ((k:Int)+1):=by
  have h1:=w.nnod;have h2:=w.n1
  have hc:ncap S=S.used.length-1:=rfl
  refine List.ext_getElem (by simp;omega) fun i a b=>?_
  cases i with
  | zero=>unfold Arn.nd;simp[List.getD_eq_getElem?_getD,List.getElem?_eq_getElem a]
  | succ i =>
   simp only[List.getElem_cons_succ,List.getElem_map,List.getElem_range]
   unfold Arn.nd
   rw[show ((i:Int)+1).toNat=i+1 by omega,List.getD_eq_getElem?_getD,List.getElem?_eq_getElem a];rfl
 have z:S.nd 0=NodeT.zero:=w.nd0
 unfold Arn.indeg
 conv=>rhs;rw[hn,z]
 have z1:(NodeT.zero.left==j)=false:=by simp[NodeT.zero];omega
 have z2:(NodeT.zero.right==j)=false:=by simp[NodeT.zero];omega
 simp only[List.countP_cons,z1,z2]
 simp
theorem kidsU_slots {S:Arn}{hs:List Int}(w:Wf S hs):kidsU (slotsOf S):=by
 have hn:=w.n2
 have key:∀ c,c=0∨S.us c=true->inU c:=fun c h=>by
  rcases h with rfl|h
  ·exact⟨by omega,by omega⟩
  ·have:=w.pos h;exact⟨by omega,by omega⟩
 intro x hx
 unfold slotsOf at hx
 obtain⟨k,hk,rfl⟩:=List.mem_map.1 hx
 show inU (S.nd _).left/\inU (S.nd _).right
 cases hb:S.us ((k:Int)+1) with
 | false=>rw[w.zero _ hb];exact⟨key 0 (.inl rfl),key 0 (.inl rfl)⟩
 | true=>exact⟨key _ (w.kid _ hb).1,key _ (w.kid _ hb).2⟩
theorem Wf.inU_held {S:Arn}{hs:List Int}(w:Wf S hs){x:Int}(h:x∈hs):inU x:=by
 have hn:=w.n2
 rcases w.held x h with rfl|h
 ·exact⟨by omega,by omega⟩
 ·have:=w.pos h;exact⟨by omega,by omega⟩
theorem clean_slots {S:Arn}{hs roots:List Int}(w:Wf S hs)(p:roots.Perm hs):CleanD (slotsOf S) (orderOf S) roots where
 free i hi:=by
  rw[slotsOf_len] at hi
  rw[slotsOf_get S hi]
  show _=if S.us ((i:Int)+1)=true then 0 else 1
  have hm:=order_mem w ((i:Int)+1)
  cases hb:S.us ((i:Int)+1) with
  | true=>rw[if_pos rfl];exact List.count_eq_zero.2 fun h=>by have:=(hm.1 h).2;rw[hb] at this;cases this
  | false=>rw[if_neg (by simp)];exact List.Nodup.count (order_nodup w) |>.trans (by rw[if_pos (hm.2 ⟨by omega,hb⟩)])
 left i hi hb:=by
  rw[slotsOf_len] at hi
  rw[slotsOf_get S hi] at hb ⊢
  rw[alcD_slots w]
  exact (w.kid _ hb).1
 right i hi hb:=by
  rw[slotsOf_len] at hi
  rw[slotsOf_get S hi] at hb ⊢
  rw[alcD_slots w]
  exact (w.kid _ hb).2
 size i hi hb:=by
  rw[slotsOf_len] at hi
  rw[slotsOf_get S hi] at hb ⊢
  rw[szD_slots w,szD_slots w]
  exact (w.siz _ hb).2.2
 zr i hi:=by
  rw[slotsOf_len] at hi
  rw[slotsOf_get S hi]
  have:=w.size_nonneg ((i:Int)+1)
  unfold maxSize at this
  show 0<=(S.nd _).size/\(S.nd _).size<=4294967296
  omega
 count i hi:=by
  rw[slotsOf_len] at hi
  rw[slotsOf_get S hi]
  show (if S.us ((i:Int)+1)=true then S.ct ((i:Int)+1) else 0)=if S.us ((i:Int)+1)=true then _ else 0
  cases hb:S.us ((i:Int)+1) with
  | false=>rfl
  | true =>
   rw[if_pos rfl,if_pos rfl,kids_indeg w (by omega),p.count_eq,(w.cnt _ hb).1]
 mark m hm i hi hb:=by
  rw[slotsOf_len] at hi
  rw[slotsOf_get S hi] at hb
  have hb:S.us ((i:Int)+1)=true:=hb
  have key:∀ j,Rch S hs j->mkd m j:=fun j hj=>by
   induction hj with
   | root h1 h2=>exact hm.root _ (p.mem_iff.2 h1) (by rw[alcD_slots w];exact h2)
   | left h1 h2 ih=>have:=hm.left _ ih;rw[sltD_slots w h1.us,alcD_slots w] at this;exact this h2
   | right h1 h2 ih=>have:=hm.right _ ih;rw[sltD_slots w h1.us,alcD_slots w] at this;exact this h2
  have:=(key _ (w.reached hb)).2
  rw[show ((i:Int)+1-1).toNat=i by omega] at this
  exact this
 rng x hx:=by rw[slotsOf_len];exact ((order_mem w x).1 hx).1
 held x hx:=by rw[alcD_slots w];exact w.held x (p.mem_iff.1 hx)
def ineQ (out:List Int)(c:Int)(al:Bool)(ja jb:Prop)(G:List Int->Prop):Prop :=
 brS al (ja/\jb/\brS (decide (c≥1)) (ja/\jb/\brS (decide (IntKind.u64.wrap c<=IntKind.u64.wrap (out.length:Int))) (ja/\jb/\0<=IntKind.u32.wrap (c-1)/\IntKind.u32.wrap (c-1)<(out.length:Int)/\0<=IntKind.u32.wrap (c-1)/\IntKind.u32.wrap (c-1)<(out.length:Int) ∧
  G (out.set (IntKind.u32.wrap (c-1)).toNat (IntKind.i64.wrap (out.getD (IntKind.u32.wrap (c-1)).toNat 0+1)))) (G out)) (G out)) (G out)
theorem ineQ_of {out L:List Int}{n:Nat}{c:Int}{al:Bool}{ja jb:Prop}{G:List Int->Prop}(e:out=cntL L n)(hu:inU c)(hn:n<=100000)(hL:L.length<=1000000)(ha:ja)(hb:jb)(hG:∀ o,o=cntL (L++if al=true then [c] else []) n->G o):ineQ out c al ja jb G:=by
 obtain⟨u1,u2⟩:=hu
 have hl:out.length=n:=by rw[e,cntL_len]
 unfold ineQ
 rw[hl,wrap_u64 (x:=c) u1 (by omega),wrap_u64 (x:=(n:Int)) (by omega) (by omega)]
 refine brS_of (fun z=>⟨ha,hb,brS_of (fun c1=>⟨ha,hb,brS_of (fun c2=>?_) fun c2=>?_⟩) fun c1=>?_⟩) fun z=>?_
 ·have c1:1<=c:=by have:=of_decide_eq_true c1;omega
  have c2:c<=(n:Int):=of_decide_eq_true c2
  rw[wrap_u32 (x:=c-1) (by omega) (by omega)]
  refine⟨ha,hb,by omega,by omega,by omega,by omega,hG _ ?_⟩
  have hr:=cntL_rng L n (c-1).toNat (by omega)
  rw[← e] at hr
  rw[if_pos z,wrap_id (by omega) (by omega),e]
  exact cntL_snoc_in c1 c2
 ·have c2:¬ c<=(n:Int):=of_decide_eq_false c2
  refine hG _ ?_
  rw[if_pos z,cntL_snoc_out (by omega)];exact e
 ·have c1:¬ 1<=c:=by have:=of_decide_eq_false c1;omega
  refine hG _ ?_
  rw[if_pos z,cntL_snoc_out (by omega)];exact e
 ·refine hG _ ?_
  rw[z,if_neg (by simp),List.append_nil];exact e
theorem kidsL_len (d:List SlotT):(kidsL d).length<=2*d.length:=by
 induction d with
 | nil=>exact Nat.le_refl _
 | cons x d ih =>
  have e:kidsL (x::d)=(if x.alloc=true then [x.node.left,x.node.right] else [])++kidsL d:=rfl
  rw[e,List.length_append,List.length_cons]
  split<;>simp<;>omega
theorem kidsL_snoc {d:List SlotT}{i:Nat}(h:i<d.length):kidsL (d.take (i+1))=(kidsL (d.take i)++if (eS d i).alloc=true then [(eS d i).node.left] else [])++if (eS d i).alloc=true then [(eS d i).node.right] else []:=by
 rw[takeD_snoc (dft:=SlotT.zero) h]
 unfold kidsL
 rw[List.flatMap_append]
 show _++((if (eS d i).alloc=true then _ else _)++[])=_
 cases (eS d i).alloc<;>simp
theorem vc_ine (d:List SlotT)(fl:List Int)(K:KT)(h1:d.length<=100000)(h2:kidsU d)(h:∀ o,o=cntL (kidsL d) d.length->K (.one (.at (.slc 2))) [.row false EC.slot d,.row false EC.u32 fl,.row true EC.int o] []) :
  vc C0 (aInE d fl) Tryz.f135 [.agg [.slc 0,.slc 1]] [.row false EC.slot d,.row false EC.u32 fl] (normK 2 K):=by
 refine Eq.mp (show (0<=(d.length:Int)/\(d.length:Int)<=(d.length:Int)/\(d.length:Int)*(↑(bytesOf C0 EC.int):Int)<=140737488355328/\(∃ x:XIx d.length,True/\(True/\True/\VI 0=(VI (x.i:Int))/\True)/\d=d/\fl=fl/\(True/\True/\True)/\(List.replicate (d.length:Int).toNat (0:Int))=(cntL (kidsL (List.take x.i d)) d.length)/\True)/\∀ x:XIx d.length,True->brS (decide ((x.i:Int)<(d.length:Int))) ((0<=(x.i:Int)/\(x.i:Int)<(d.length:Int)/\0<=(x.i:Int)/\(x.i:Int)<(d.length:Int)/\brS ((d.getD (x.i:Int).toNat SlotT.zero).alloc) ((0:Int)<=0/\0<((2:Nat):Int)/\brS (decide ((d.getD (x.i:Int).toNat SlotT.zero).node.left≥1)) ((0:Int)<=0/\0<((2:Nat):Int)/\brS (decide (IntKind.u64.wrap (d.getD (x.i:Int).toNat SlotT.zero).node.left<=IntKind.u64.wrap (↑(cntL (kidsL (List.take x.i d)) d.length).length:Int))) ((0:Int)<=0/\0<((2:Nat):Int)/\0<=IntKind.u32.wrap ((d.getD (x.i:Int).toNat SlotT.zero).node.left-1)/\IntKind.u32.wrap ((d.getD (x.i:Int).toNat SlotT.zero).node.left-1)<(↑(cntL (kidsL (List.take x.i d)) d.length).length:Int)/\0<=IntKind.u32.wrap ((d.getD (x.i:Int).toNat SlotT.zero).node.left-1)/\IntKind.u32.wrap ((d.getD (x.i:Int).toNat SlotT.zero).node.left-1)<(↑(cntL (kidsL (List.take x.i d)) d.length).length:Int)/\0<=(x.i:Int)/\(x.i:Int)<(d.length:Int)/\brS ((d.getD (x.i:Int).toNat SlotT.zero).alloc) (0<=IntKind.i64.wrap (0+1)/\IntKind.i64.wrap (0+1)<((2:Nat):Int)/\brS (decide ((d.getD (x.i:Int).toNat SlotT.zero).node.right≥1)) (0<=IntKind.i64.wrap (0+1)/\IntKind.i64.wrap (0+1)<((2:Nat):Int)/\brS (decide (IntKind.u64.wrap (d.getD (x.i:Int).toNat SlotT.zero).node.right<=IntKind.u64.wrap (↑((cntL (kidsL (List.take x.i d)) d.length).set (IntKind.u32.wrap ((d.getD (x.i:Int).toNat SlotT.zero).node.left-1)).toNat (IntKind.i64.wrap ((cntL (kidsL (List.take x.i d)) d.length).getD (IntKind.u32.wrap ((d.getD (x.i:Int).toNat SlotT.zero).node.left-1)).toNat 0+1))).length:Int))) (0<=IntKind.i64.wrap (0+1)/\
 IntKind.i64.wrap (0+1)<((2:Nat):Int)/\0<=IntKind.u32.wrap ((d.getD (x.i:Int).toNat SlotT.zero).node.right-1)/\IntKind.u32.wrap ((d.getD (x.i:Int).toNat SlotT.zero).node.right-1)<(↑((cntL (kidsL (List.take x.i d)) d.length).set (IntKind.u32.wrap ((d.getD (x.i:Int).toNat SlotT.zero).node.left-1)).toNat (IntKind.i64.wrap ((cntL (kidsL (List.take x.i d)) d.length).getD (IntKind.u32.wrap ((d.getD (x.i:Int).toNat SlotT.zero).node.left-1)).toNat 0+1))).length:Int)/\0<=IntKind.u32.wrap ((d.getD (x.i:Int).toNat SlotT.zero).node.right-1)/\IntKind.u32.wrap ((d.getD (x.i:Int).toNat SlotT.zero).node.right-1)<(↑((cntL (kidsL (List.take x.i d)) d.length).set (IntKind.u32.wrap ((d.getD (x.i:Int).toNat SlotT.zero).node.left-1)).toNat (IntKind.i64.wrap ((cntL (kidsL (List.take x.i d)) d.length).getD (IntKind.u32.wrap ((d.getD (x.i:Int).toNat SlotT.zero).node.left-1)).toNat 0+1))).length:Int)/\∃ x1:XIn d,((x.i:Int))=((x1.i:Int))/\(True/\True/\VI (x.i:Int)=VI (x1.i:Int)/\True)/\d=d/\fl=fl/\(True/\True/\True)/\(((cntL (kidsL (List.take x.i d)) d.length).set (IntKind.u32.wrap ((d.getD (x.i:Int).toNat SlotT.zero).node.left-1)).toNat (IntKind.i64.wrap ((cntL (kidsL (List.take x.i d)) d.length).getD (IntKind.u32.wrap ((d.getD (x.i:Int).toNat SlotT.zero).node.left-1)).toNat 0+1))).set (IntKind.u32.wrap ((d.getD (x.i:Int).toNat SlotT.zero).node.right-1)).toNat (IntKind.i64.wrap (((cntL (kidsL (List.take x.i d)) d.length).set (IntKind.u32.wrap ((d.getD (x.i:Int).toNat SlotT.zero).node.left-1)).toNat (IntKind.i64.wrap ((cntL (kidsL (List.take x.i d)) d.length).getD (IntKind.u32.wrap ((d.getD (x.i:Int).toNat SlotT.zero).node.left-1)).toNat 0+1))).getD (IntKind.u32.wrap ((d.getD (x.i:Int).toNat SlotT.zero).node.right-1)).toNat 0+1)))=(cntL (kidsL (List.take (x1.i+1) d)) d.length)/\
 True) (∃ x1:XIn d,((x.i:Int))=((x1.i:Int))/\(True/\True/\VI (x.i:Int)=VI (x1.i:Int)/\True)/\d=d/\fl=fl/\(True/\True/\True)/\((cntL (kidsL (List.take x.i d)) d.length).set (IntKind.u32.wrap ((d.getD (x.i:Int).toNat SlotT.zero).node.left-1)).toNat (IntKind.i64.wrap ((cntL (kidsL (List.take x.i d)) d.length).getD (IntKind.u32.wrap ((d.getD (x.i:Int).toNat SlotT.zero).node.left-1)).toNat 0+1)))=(cntL (kidsL (List.take (x1.i+1) d)) d.length)/\True)) (∃ x1:XIn d,((x.i:Int))=((x1.i:Int))/\(True/\True/\VI (x.i:Int)=VI (x1.i:Int)/\True)/\d=d/\fl=fl/\(True/\True/\True)/\((cntL (kidsL (List.take x.i d)) d.length).set (IntKind.u32.wrap ((d.getD (x.i:Int).toNat SlotT.zero).node.left-1)).toNat (IntKind.i64.wrap ((cntL (kidsL (List.take x.i d)) d.length).getD (IntKind.u32.wrap ((d.getD (x.i:Int).toNat SlotT.zero).node.left-1)).toNat 0+1)))=(cntL (kidsL (List.take (x1.i+1) d)) d.length)/\True)) (∃ x1:XIn d,((x.i:Int))=((x1.i:Int))/\(True/\True/\VI (x.i:Int)=VI (x1.i:Int)/\True)/\d=d/\fl=fl/\(True/\True/\True)/\((cntL (kidsL (List.take x.i d)) d.length).set (IntKind.u32.wrap ((d.getD (x.i:Int).toNat SlotT.zero).node.left-1)).toNat (IntKind.i64.wrap ((cntL (kidsL (List.take x.i d)) d.length).getD (IntKind.u32.wrap ((d.getD (x.i:Int).toNat SlotT.zero).node.left-1)).toNat 0+1)))=(cntL (kidsL (List.take (x1.i+1) d)) d.length)/\True)) (0<=(x.i:Int)/\(x.i:Int)<(d.length:Int)/\brS ((d.getD (x.i:Int).toNat SlotT.zero).alloc) (0<=IntKind.i64.wrap (0+1)/\IntKind.i64.wrap (0+1)<((2:Nat):Int)/\brS (decide ((d.getD (x.i:Int).toNat SlotT.zero).node.right≥1)) (0<=IntKind.i64.wrap (0+1)/\
 IntKind.i64.wrap (0+1)<((2:Nat):Int)/\brS (decide (IntKind.u64.wrap (d.getD (x.i:Int).toNat SlotT.zero).node.right<=IntKind.u64.wrap (↑(cntL (kidsL (List.take x.i d)) d.length).length:Int))) (0<=IntKind.i64.wrap (0+1)/\IntKind.i64.wrap (0+1)<((2:Nat):Int)/\0<=IntKind.u32.wrap ((d.getD (x.i:Int).toNat SlotT.zero).node.right-1)/\IntKind.u32.wrap ((d.getD (x.i:Int).toNat SlotT.zero).node.right-1)<(↑(cntL (kidsL (List.take x.i d)) d.length).length:Int)/\0<=IntKind.u32.wrap ((d.getD (x.i:Int).toNat SlotT.zero).node.right-1)/\IntKind.u32.wrap ((d.getD (x.i:Int).toNat SlotT.zero).node.right-1)<(↑(cntL (kidsL (List.take x.i d)) d.length).length:Int)/\∃ x1:XIn d,((x.i:Int))=((x1.i:Int))/\(True/\True/\VI (x.i:Int)=VI (x1.i:Int)/\True)/\d=d/\fl=fl/\(True/\True/\True)/\((cntL (kidsL (List.take x.i d)) d.length).set (IntKind.u32.wrap ((d.getD (x.i:Int).toNat SlotT.zero).node.right-1)).toNat (IntKind.i64.wrap ((cntL (kidsL (List.take x.i d)) d.length).getD (IntKind.u32.wrap ((d.getD (x.i:Int).toNat SlotT.zero).node.right-1)).toNat 0+1)))=(cntL (kidsL (List.take (x1.i+1) d)) d.length)/\True) (∃ x1:XIn d,((x.i:Int))=((x1.i:Int))/\(True/\True/\VI (x.i:Int)=VI (x1.i:Int)/\True)/\d=d/\fl=fl/\(True/\True/\True)/\(cntL (kidsL (List.take x.i d)) d.length)=(cntL (kidsL (List.take (x1.i+1) d)) d.length)/\True)) (∃ x1:XIn d,((x.i:Int))=((x1.i:Int))/\(True/\True/\VI (x.i:Int)=VI (x1.i:Int)/\True)/\d=d/\fl=fl/\(True/\True/\True)/\(cntL (kidsL (List.take x.i d)) d.length)=(cntL (kidsL (List.take (x1.i+1) d)) d.length)/\
 True)) (∃ x1:XIn d,((x.i:Int))=((x1.i:Int))/\(True/\True/\VI (x.i:Int)=VI (x1.i:Int)/\True)/\d=d/\fl=fl/\(True/\True/\True)/\(cntL (kidsL (List.take x.i d)) d.length)=(cntL (kidsL (List.take (x1.i+1) d)) d.length)/\True))) (0<=(x.i:Int)/\(x.i:Int)<(d.length:Int)/\brS ((d.getD (x.i:Int).toNat SlotT.zero).alloc) (0<=IntKind.i64.wrap (0+1)/\IntKind.i64.wrap (0+1)<((2:Nat):Int)/\brS (decide ((d.getD (x.i:Int).toNat SlotT.zero).node.right≥1)) (0<=IntKind.i64.wrap (0+1)/\IntKind.i64.wrap (0+1)<((2:Nat):Int)/\brS (decide (IntKind.u64.wrap (d.getD (x.i:Int).toNat SlotT.zero).node.right<=IntKind.u64.wrap (↑(cntL (kidsL (List.take x.i d)) d.length).length:Int))) (0<=IntKind.i64.wrap (0+1)/\IntKind.i64.wrap (0+1)<((2:Nat):Int)/\0<=IntKind.u32.wrap ((d.getD (x.i:Int).toNat SlotT.zero).node.right-1)/\IntKind.u32.wrap ((d.getD (x.i:Int).toNat SlotT.zero).node.right-1)<(↑(cntL (kidsL (List.take x.i d)) d.length).length:Int)/\0<=IntKind.u32.wrap ((d.getD (x.i:Int).toNat SlotT.zero).node.right-1)/\IntKind.u32.wrap ((d.getD (x.i:Int).toNat SlotT.zero).node.right-1)<(↑(cntL (kidsL (List.take x.i d)) d.length).length:Int)/\∃ x1:XIn d,((x.i:Int))=((x1.i:Int))/\(True/\True/\VI (x.i:Int)=VI (x1.i:Int)/\True)/\d=d/\fl=fl/\(True/\True/\True)/\((cntL (kidsL (List.take x.i d)) d.length).set (IntKind.u32.wrap ((d.getD (x.i:Int).toNat SlotT.zero).node.right-1)).toNat (IntKind.i64.wrap ((cntL (kidsL (List.take x.i d)) d.length).getD (IntKind.u32.wrap ((d.getD (x.i:Int).toNat SlotT.zero).node.right-1)).toNat 0+1)))=(cntL (kidsL (List.take (x1.i+1) d)) d.length)/\
 True) (∃ x1:XIn d,((x.i:Int))=((x1.i:Int))/\(True/\True/\VI (x.i:Int)=VI (x1.i:Int)/\True)/\d=d/\fl=fl/\(True/\True/\True)/\(cntL (kidsL (List.take x.i d)) d.length)=(cntL (kidsL (List.take (x1.i+1) d)) d.length)/\True)) (∃ x1:XIn d,((x.i:Int))=((x1.i:Int))/\(True/\True/\VI (x.i:Int)=VI (x1.i:Int)/\True)/\d=d/\fl=fl/\(True/\True/\True)/\(cntL (kidsL (List.take x.i d)) d.length)=(cntL (kidsL (List.take (x1.i+1) d)) d.length)/\True)) (∃ x1:XIn d,((x.i:Int))=((x1.i:Int))/\(True/\True/\VI (x.i:Int)=VI (x1.i:Int)/\True)/\d=d/\fl=fl/\(True/\True/\True)/\(cntL (kidsL (List.take x.i d)) d.length)=(cntL (kidsL (List.take (x1.i+1) d)) d.length)/\True))) (0<=(x.i:Int)/\(x.i:Int)<(d.length:Int)/\brS ((d.getD (x.i:Int).toNat SlotT.zero).alloc) (0<=IntKind.i64.wrap (0+1)/\IntKind.i64.wrap (0+1)<((2:Nat):Int)/\brS (decide ((d.getD (x.i:Int).toNat SlotT.zero).node.right≥1)) (0<=IntKind.i64.wrap (0+1)/\IntKind.i64.wrap (0+1)<((2:Nat):Int)/\brS (decide (IntKind.u64.wrap (d.getD (x.i:Int).toNat SlotT.zero).node.right<=IntKind.u64.wrap (↑(cntL (kidsL (List.take x.i d)) d.length).length:Int))) (0<=IntKind.i64.wrap (0+1)/\IntKind.i64.wrap (0+1)<((2:Nat):Int)/\0<=IntKind.u32.wrap ((d.getD (x.i:Int).toNat SlotT.zero).node.right-1)/\IntKind.u32.wrap ((d.getD (x.i:Int).toNat SlotT.zero).node.right-1)<(↑(cntL (kidsL (List.take x.i d)) d.length).length:Int)/\0<=IntKind.u32.wrap ((d.getD (x.i:Int).toNat SlotT.zero).node.right-1)/\IntKind.u32.wrap ((d.getD (x.i:Int).toNat SlotT.zero).node.right-1)<(↑(cntL (kidsL (List.take x.i d)) d.length).length:Int)/\
 ∃ x1:XIn d,((x.i:Int))=((x1.i:Int))/\(True/\True/\VI (x.i:Int)=VI (x1.i:Int)/\True)/\d=d/\fl=fl/\(True/\True/\True)/\((cntL (kidsL (List.take x.i d)) d.length).set (IntKind.u32.wrap ((d.getD (x.i:Int).toNat SlotT.zero).node.right-1)).toNat (IntKind.i64.wrap ((cntL (kidsL (List.take x.i d)) d.length).getD (IntKind.u32.wrap ((d.getD (x.i:Int).toNat SlotT.zero).node.right-1)).toNat 0+1)))=(cntL (kidsL (List.take (x1.i+1) d)) d.length)/\True) (∃ x1:XIn d,((x.i:Int))=((x1.i:Int))/\(True/\True/\VI (x.i:Int)=VI (x1.i:Int)/\True)/\d=d/\fl=fl/\(True/\True/\True)/\(cntL (kidsL (List.take x.i d)) d.length)=(cntL (kidsL (List.take (x1.i+1) d)) d.length)/\True)) (∃ x1:XIn d,((x.i:Int))=((x1.i:Int))/\(True/\True/\VI (x.i:Int)=VI (x1.i:Int)/\True)/\d=d/\fl=fl/\(True/\True/\True)/\(cntL (kidsL (List.take x.i d)) d.length)=(cntL (kidsL (List.take (x1.i+1) d)) d.length)/\True)) (∃ x1:XIn d,((x.i:Int))=((x1.i:Int))/\(True/\True/\VI (x.i:Int)=VI (x1.i:Int)/\True)/\d=d/\fl=fl/\(True/\True/\True)/\(cntL (kidsL (List.take x.i d)) d.length)=(cntL (kidsL (List.take (x1.i+1) d)) d.length)/\True)))/\∀ x1:XIn d,((x.i:Int))=((x1.i:Int))->∃ x':XIx d.length,True/\((True/\True/\(VI (IntKind.i64.wrap ((x1.i:Int)+1)))=(VI (x'.i:Int))/\True)/\d=d/\fl=fl/\(True/\True/\True)/\(cntL (kidsL (List.take (x1.i+1) d)) d.length)=(cntL (kidsL (List.take x'.i d)) d.length)/\True)/\d.length-x'.i<d.length-x.i) (K (.one (.at (.slc 2))) [(.row false EC.slot (d)),(.row false EC.u32 (fl)),(.row true EC.int (cntL (kidsL (List.take x.i d)) d.length))] []))=_ by kernel_rfl) ?_
 rw[bytes_int]
 refine⟨by omega,Int.le_refl _,by omega,⟨⟨0,Nat.zero_le _⟩,trivial,⟨trivial,trivial,rfl,trivial⟩,rfl,rfl,⟨trivial,trivial,trivial⟩,cntL_nil _,trivial⟩,fun x _=>brS_of (fun c=>?_) fun c=>?_⟩
 ·have c:x.i<d.length:=by have:=of_decide_eq_true c;omega
  have hm:eS d x.i∈d:=by unfold eS;rw[List.getD_eq_getElem?_getD,List.getElem?_eq_getElem c];exact List.getElem_mem c
  obtain⟨k1,k2⟩:=h2 _ hm
  have ks:=kidsL_snoc c
  have kl:=kidsL_len (d.take x.i)
  have tl:(d.take x.i).length<=d.length:=by simp;omega
  have xa:(0:Int)<=(x.i:Int):=by omega
  have xb:(x.i:Int)<(d.length:Int):=by omega
  refine⟨?_,fun y e=>⟨⟨y.i+1,y.h⟩,trivial,⟨⟨trivial,trivial,?_,trivial⟩,rfl,rfl,⟨trivial,trivial,trivial⟩,rfl,trivial⟩,?_⟩⟩
  ·show _/\_/\_/\_/\ineQ (cntL (kidsL (d.take x.i)) d.length) (eS d x.i).node.left (eS d x.i).alloc ((0:Int)<=0) ((0:Int)<2) fun o=>(0:Int)<=(x.i:Int)/\(x.i:Int)<(d.length:Int)/\ineQ o (eS d x.i).node.right (eS d x.i).alloc (0<=IntKind.i64.wrap (0+1)) (IntKind.i64.wrap (0+1)<2) fun o=>∃ x1:XIn d,(((x.i:Int)=(x1.i:Int))/\(True/\True/\(Value.int IntKind.i64 (x.i:Int)=Value.int IntKind.i64 (x1.i:Int))/\True)/\(d=d)/\(fl=fl)/\(True/\True/\True)/\(o=cntL (kidsL (d.take (x1.i+1))) d.length)/\True)
   refine⟨xa,xb,xa,xb,ineQ_of rfl k1 h1 (by omega) (by decide) (by decide) fun o ho=>⟨xa,xb,ineQ_of ho k2 h1 ?_ (by decide) (by decide) fun o ho=>⟨⟨x.i,c⟩,rfl,⟨trivial,trivial,rfl,trivial⟩,rfl,rfl,⟨trivial,trivial,trivial⟩,by rw[ho,ks],trivial⟩⟩⟩
   rw[List.length_append]
   split<;>simp<;>omega
  ·have:=y.h
   rw[wrap_id (by omega) (by omega)];congr 1
  ·have e:(x.i:Int)=(y.i:Int):=e
   show d.length-(y.i+1)<d.length-x.i
   have:=y.h;omega
 ·have c:x.i=d.length:=by have:=of_decide_eq_false c;have:=x.h;omega
  exact h _ (by rw[c,List.take_length])
theorem s_ine:SoundT C0 135 tInE:=by
 refine .of Tryz.func135 (by decide) rfl fun args H K h hB=>?_
 unfold tInE at h
 split at h<;>try exact h.elim
 rename_i d fl
 exact⟨aInE d fl,⟨frame C0.ok s_kids _,trivial⟩,vc_ine d fl K h.1 h.2.1 h.2.2⟩
end Go.Proofs.YtedfbafngmicpaaGreat.Sx
end
section
/- The reference's numbering of nodes, on a dump. -/
namespace Go.Proofs.YtedfbafngmicpaaGreat.Sx
open Go

/-KEEP Wf exW inU allVb alcD sltD slotsOf orderOf SeenR DgW NumD NumsD szT lfD rgD-/
def lfD (d:List SlotT)(i:Int):Int:=(sltD d i).node.left
def rgD (d:List SlotT)(i:Int):Int:=(sltD d i).node.right
abbrev NumD (d:List SlotT):=NumG (alcD d) (lfD d) (rgD d)
abbrev NumsD (d:List SlotT):=NumsG (alcD d) (lfD d) (rgD d)
def allVb (l:List Int):Prop:=∀ x∈l,inU x
def szT (d:List SlotT)(i:Int):Nat:=if alcD d i=true then (sltD d i).node.size.toNat else 0
structure DgW (d:List SlotT):Prop where
 len:d.length<=100000
 sz:∀ i,alcD d i=true->szT d (lfD d i)<szT d i/\szT d (rgD d i)<szT d i
 kid:∀ i,alcD d i=true->inU (lfD d i)/\inU (rgD d i)
 top:∀ i,szT d i<2147483648
structure SeenR (d:List SlotT) (m:List Bool) (l:List Int) (A:Int->Prop):Prop where
 len:m.length=d.length
 nd:l.Nodup
 us:∀ j∈l,alcD d j=true
 sn:∀ j,mkd m j↔(j∈l∨A j)
def tVis (n:Nat):Tfm C0:=fun args H K=>match args,H with
 | [.at (.ptr 0 0),.at (.val (.int .u32 i))],[.box [.slc 1,.slc 2,.slc 3,.slc 4],.row false .slot d,.row false .u32 fl,.row true .bool m,.row true .u32 l]=>DgW d/\inU i/\szT d i<n/\∃ A,(∀ j,A j->szT d i<szT d j)/\SeenR d m l A/\∀ m' l',NumD d i l l'->SeenR d m' l' A->K (.tup []) [.box [.slc 1,.slc 2,.slc 3,.slc 4],.row false EC.slot d,.row false EC.u32 fl,.row true EC.bool m',.row true EC.u32 l'] [0,3,4]
 | _,_=>False
noncomputable def aVis (n:Nat):Ann C0:={ quiet:=[108],Γ:=[(108,frameT [] tAlc),(66,frameT [] (tVis n))] }
structure XNb (P:List Bool->List Int->Nat->Prop) where
 m:List Bool
 l:List Int
 i:Nat
 h:P m l i
noncomputable def aN28 (n:Nat)(P:List Bool->List Int->Nat->Prop)(d:List SlotT)(fl rs:List Int):Ann C0:={ Γ:=[(66,frameT [] (tVis n))],inv:=fun k=>match k with
 | 3=>some { X:=XNb P,sl:=[5,6],tf:=fun x=>[.one (.at (.ptr 3 0)),vi .i64 x.i],hf:=fun x=>[.row false EC.slot d,.row false EC.u32 fl,.row false EC.u32 rs,.box [.slc 0,.slc 1,.slc 4,.slc 5],.row true EC.bool x.m,.row true EC.u32 x.l],μ:=fun x=>rs.length-x.i }
 | _=>none }
def tN28:Tfm C0:=fun args H K=>match args,H with
 | [.agg [.slc 0,.slc 1],.at (.slc 2)],[.row false .slot d,.row false .u32 fl,.row false .u32 rs]=>DgW d/\rs.length<=1000000/\allVb rs/\∀ l,NumsD d rs [] l->K (.one (.at (.slc 3))) [.row false EC.slot d,.row false EC.u32 fl,.row false EC.u32 rs,.row true EC.u32 l] []
 | _,_=>False
theorem SeenR.few {d:List SlotT}{m:List Bool}{l:List Int}{A:Int->Prop}(h:SeenR d m l A):l.length<=d.length:=by
 have q:=len_nd l ((List.range d.length).map fun (n:Nat)=>(n:Int)+1) h.nd fun x hx=>by
  have p:=alcD_rng (h.us x hx)
  exact List.mem_map.2 ⟨(x-1).toNat,List.mem_range.2 (by omega),by omega⟩
 rw[List.length_map,List.length_range] at q
 exact q
theorem vc_vis (n:Nat)(d:List SlotT)(fl:List Int)(m:List Bool)(l:List Int)(i:Int)(K:KT)(hd:DgW d)(iu:inU i)(hz:szT d i<n+1)(A:Int->Prop)(hA:∀ j,A j->szT d i<szT d j)(sn:SeenR d m l A)(h:∀ m' l',NumD d i l l'->SeenR d m' l' A->K (.tup []) [.box [.slc 1,.slc 2,.slc 3,.slc 4],.row false EC.slot d,.row false EC.u32 fl,.row true EC.bool m',.row true EC.u32 l'] [0,3,4]) :
  vc C0 (aVis n) Tryz.f66 [.at (.ptr 0 0),.at (vU i)] [.box [.slc 1,.slc 2,.slc 3,.slc 4],.row false EC.slot d,.row false EC.u32 fl,.row true EC.bool m,.row true EC.u32 l] (normK 5 (wideK [0,3,4] K)):=by
 refine Eq.mp (show (inU i/\d.length<=1000000/\brS (!alcD d i) (K (.tup []) [(.box [(.slc 1),(.slc 2),(.slc 3),(.slc 4)]),(.row false EC.slot (d)),(.row false EC.u32 (fl)),(.row true EC.bool (m)),(.row true EC.u32 (l))] [0,3,4]) (0<=IntKind.u32.wrap (i-1)/\IntKind.u32.wrap (i-1)<(m.length:Int)/\brS (m.getD (IntKind.u32.wrap (i-1)).toNat false) (K (.tup []) [(.box [(.slc 1),(.slc 2),(.slc 3),(.slc 4)]),(.row false EC.slot (d)),(.row false EC.u32 (fl)),(.row true EC.bool (m)),(.row true EC.u32 (l))] [0,3,4]) (0<=IntKind.u32.wrap (i-1)/\IntKind.u32.wrap (i-1)<(m.length:Int)/\0<=IntKind.u32.wrap (i-1)/\IntKind.u32.wrap (i-1)<(d.length:Int)/\DgW d/\inU (eS d (IntKind.u32.wrap (i-1)).toNat).node.left/\szT d (eS d (IntKind.u32.wrap (i-1)).toNat).node.left<n/\∃ A:Int->Prop,(∀ j:Int,A (j)->szT d (eS d (IntKind.u32.wrap (i-1)).toNat).node.left<szT d j)/\SeenR d (m.set (IntKind.u32.wrap (i-1)).toNat true) l A/\∀ m':List Bool,∀ l':List Int,NumD d (eS d (IntKind.u32.wrap (i-1)).toNat).node.left l l'->SeenR d m' l' A->DgW d/\inU (eS d (IntKind.u32.wrap (i-1)).toNat).node.right/\szT d (eS d (IntKind.u32.wrap (i-1)).toNat).node.right<n/\∃ A1:Int->Prop,(∀ j:Int,A1 (j)->szT d (eS d (IntKind.u32.wrap (i-1)).toNat).node.right<szT d j)/\SeenR d m' l' A1/\∀ m'1:List Bool,∀ l'1:List Int,NumD d (eS d (IntKind.u32.wrap (i-1)).toNat).node.right l' l'1->SeenR d m'1 l'1 A1->(l'1.length+[i].length)*bytesOf C0 EC.u32<=140737488355328/\K (.tup []) [(.box [(.slc 1),(.slc 2),(.slc 3),(.slc 4)]),(.row false EC.slot (d)),(.row false EC.u32 (fl)),(.row true EC.bool (m'1)),(.row true EC.u32 (l'1++[i]))] [0,3,4])))=_ by kernel_rfl) ?_
 have dl:=hd.len
 refine⟨iu,by omega,brS_of (fun c=>?_) fun c=>?_⟩
 ·exact h m l (.skip (.inl (by simpa using c))) sn
 have u:alcD d i=true:=by simpa using c
 have rg:=alcD_rng u
 rw[wrap_u32 (x:=i-1) (by omega) (by omega)]
 have ml:=sn.len
 refine⟨by omega,by omega,brS_of (fun c=>?_) fun c=>?_⟩
 ·refine h m l (.skip (.inr ?_)) sn
  rcases (sn.sn i).1 ⟨rg.1,c⟩ with q|q
  ·exact q
  ·exact absurd (hA i q) (Nat.lt_irrefl _)
 have ni:i∉l:=fun q=>by
  have:=((sn.sn i).2 (.inl q)).2
  rw[c] at this;cases this
 have sz:=hd.sz i u
 have kd:=hd.kid i u
 have s1:SeenR d (m.set (i-1).toNat true) l (fun j=>A j∨j=i):=⟨by rw[List.length_set];exact ml,sn.nd,sn.us,fun j=>by
  unfold mkd
  rw[getD_set]
  by_cases e:j=i
  ·subst e
   rw[if_pos ⟨rfl,by omega⟩]
   exact⟨fun _=>.inr (.inr rfl),fun _=>⟨rg.1,rfl⟩⟩
  ·by_cases j1:1<=j
   ·rw[if_neg (by omega)]
    have:=sn.sn j
    unfold mkd at this
    rw[this]
    exact⟨fun q=>q.imp id .inl,fun q=>q.imp id fun q=>q.resolve_right e⟩
   ·have:=sn.sn j
    unfold mkd at this
    constructor
    ·intro q;exact absurd q.1 j1
    ·intro q
     exact absurd (this.2 (q.imp id fun q=>q.resolve_right e)).1 j1⟩
 refine⟨by omega,by omega,by omega,by omega,hd,kd.1,Nat.lt_of_lt_of_le sz.1 (Nat.le_of_lt_succ hz),_,fun j hj=>?_,s1,fun m1 l1 n1 r1=>⟨hd,kd.2,Nat.lt_of_lt_of_le sz.2 (Nat.le_of_lt_succ hz),_,fun j hj=>?_,r1,fun m2 l2 n2 r2=>⟨?_,?_⟩⟩⟩
 ·rcases hj with q|q
  ·exact Nat.lt_trans sz.1 (hA j q)
  ·rw[q];exact sz.1
 ·rcases hj with q|q
  ·exact Nat.lt_trans sz.2 (hA j q)
  ·rw[q];exact sz.2
 ·have:=r2.few
  rw[bytes_u32,List.length_singleton];omega
 ·have n1:NumD d (lfD d i) l l1:=n1
  have n2:NumD d (rgD d i) l1 l2:=n2
  have f:=NumG.fresh hd.sz u ni n1 n2
  refine h m2 _ (.go u ni n1 n2) ⟨r2.len,?_,fun j hj=>?_,fun j=>?_⟩
  ·refine List.nodup_append.2 ⟨r2.nd,by simp,fun a ha b hb e=>?_⟩
   rw[List.mem_singleton.1 hb] at e
   exact f (e ▸ ha)
  ·rcases List.mem_append.1 hj with hj|hj
   ·exact r2.us j hj
   ·rw[List.mem_singleton.1 hj];exact u
  ·rw[r2.sn,List.mem_append,List.mem_singleton]
   constructor
   ·rintro (q|q|q)
    ·exact .inl (.inl q)
    ·exact .inr q
    ·exact .inl (.inr q)
   ·rintro ((q|q)|q)
    ·exact .inl q
    ·exact .inr (.inr q)
    ·exact .inr (.inl q)
theorem s_vis:∀ n:Nat,SoundT C0 66 (tVis n)
 | 0=>by
  refine .of Tryz.func66 (by decide) rfl fun args H K h hB=>?_
  unfold tVis at h
  split at h<;>try exact h.elim
  exact absurd h.2.2.1 (Nat.not_lt_zero _)
 | n+1=>by
  refine .ofW [0,3,4] Tryz.func66 (by decide) rfl fun args H K h hB=>?_
  unfold tVis at h
  split at h<;>try exact h.elim
  rename_i i d fl m l
  obtain⟨h1,h2,h3,A,h4,h5,h6⟩:=h
  refine⟨_,?_,vc_vis n d fl m l i K h1 h2 h3 A h4 h5 h6⟩
  exact⟨frame C0.ok s_alc _,frame C0.ok (s_vis n) _,trivial⟩
def PN28 (d:List SlotT)(rs:List Int):List Bool->List Int->Nat->Prop:=fun m l i=>i<=rs.length/\NumsD d (rs.take i) [] l/\SeenR d m l fun _=>False
theorem vc_n28 (n:Nat)(d:List SlotT)(fl rs:List Int)(K:KT)(hd:DgW d)(hN:∀ i,szT d i<n)(hr:rs.length<=1000000)(hv:allVb rs)(h:∀ l,NumsD d rs [] l->K (.one (.at (.slc 3))) [.row false EC.slot d,.row false EC.u32 fl,.row false EC.u32 rs,.row true EC.u32 l] []) :
  vc C0 (aN28 n (PN28 d rs) d fl rs) Tryz.f23 [.agg [.slc 0,.slc 1],.at (.slc 2)] [.row false EC.slot d,.row false EC.u32 fl,.row false EC.u32 rs] (normK 3 K):=by
 generalize hP:PN28 d rs=P
 refine Eq.mp (show (0<=(d.length:Int)/\(d.length:Int)<=(d.length:Int)/\(d.length:Int)*(↑(bytesOf C0 EC.bool):Int)<=140737488355328/\(∃ x:XNb P,True/\(True/\True/\VI 0=(VI (x.i:Int))/\True)/\d=d/\fl=fl/\rs=rs/\(True/\True/\True/\True/\True)/\(List.replicate (d.length:Int).toNat false)=x.m/\[]=x.l/\True)/\∀ x:XNb P,True->brS (decide ((x.i:Int)<(rs.length:Int))) (0<=(x.i:Int)/\(x.i:Int)<(rs.length:Int)/\DgW d/\inU (rs.getD (x.i:Int).toNat 0)/\szT d (rs.getD (x.i:Int).toNat 0)<n/\∃ A:Int->Prop,(∀ j:Int,A (j)->szT d (rs.getD (x.i:Int).toNat 0)<szT d j)/\SeenR d x.m x.l A/\∀ m':List Bool,∀ l':List Int,NumD d (rs.getD (x.i:Int).toNat 0) x.l l'->SeenR d m' l' A->∃ x':XNb P,True/\((True/\True/\(VI (IntKind.i64.wrap ((x.i:Int)+1)))=(VI (x'.i:Int))/\True)/\d=d/\fl=fl/\rs=rs/\(True/\True/\True/\True/\True)/\m'=x'.m/\l'=x'.l/\True)/\rs.length-x'.i<rs.length-x.i) (K (.one (.at (.slc 3))) [(.row false EC.slot (d)),(.row false EC.u32 (fl)),(.row false EC.u32 (rs)),(.row true EC.u32 (x.l))] []))=_ by kernel_rfl) ?_
 subst hP
 have dl:=hd.len
 rw[bytes_bool]
 refine⟨by omega,by omega,by omega,⟨⟨List.replicate ((d.length:Int)).toNat false,[],0,Nat.zero_le _,.nil,?_⟩,?_⟩,fun x _=>brS_of (fun z=>?_) fun z=>?_⟩
 ·refine⟨by rw[List.length_replicate];omega,List.nodup_nil,by simp,fun j=>?_⟩
  unfold mkd
  rw[getD_replicate]
  simp
 ·(repeat' first|exact trivial|exact rfl|refine And.intro ?_ ?_)
 ·obtain⟨m,l,i,hi,nn,sn⟩:=x
  dsimp only at z ⊢
  have z:i<rs.length:=by have:=of_decide_eq_true z;omega
  rw[show ((i:Int)).toNat=i from rfl,wrap_id (x:=(i:Int)+1) (by omega) (by omega)]
  have hm:rs.getD i 0∈rs:=by rw[List.getD_eq_getElem?_getD,List.getElem?_eq_getElem z];exact List.getElem_mem z
  have ts:rs.take (i+1)=rs.take i++[rs.getD i 0]:=takeD_snoc z
  refine⟨by omega,by omega,hd,hv _ hm,hN _,fun _=>False,fun j hj=>hj.elim,sn,fun m1 l1 n1 r1=>⟨⟨m1,l1,i+1,z,?_,r1⟩,trivial,?_,Nat.sub_lt_sub_left z (Nat.lt_succ_self i)⟩⟩
  ·rw[ts];exact nn.app (NumsG.one n1)
  ·(repeat' first|exact trivial|exact rfl|refine And.intro ?_ ?_)
 ·obtain⟨m,l,i,hi,nn,sn⟩:=x
  dsimp only at z
  have z:i=rs.length:=by have:=of_decide_eq_false z;omega
  rw[z,List.take_length] at nn
  exact h l nn
theorem s_n28:SoundT C0 23 tN28:=by
 refine .of Tryz.func23 (by decide) rfl fun args H K h hB=>?_
 unfold tN28 at h
 split at h<;>try exact h.elim
 rename_i d fl rs
 refine⟨_,?_,vc_n28 2147483648 d fl rs K h.1 h.1.top h.2.1 h.2.2.1 h.2.2.2⟩
 exact⟨frame C0.ok (s_vis 2147483648) _,trivial⟩
section
variable {S:Arn} {hs:List Int}
theorem lfD_slots (w:Wf S hs){i:Int}(u:S.us i=true):lfD (slotsOf S) i=lfA S i/\rgD (slotsOf S) i=rgA S i:=by
 unfold lfD rgD lfA rgA
 rw[sltD_slots w u]
 exact⟨rfl,rfl⟩
theorem szT_slots (w:Wf S hs)(i:Int):szT (slotsOf S) i=(S.nd i).size.toNat:=by
 unfold szT
 rw[alcD_slots w]
 cases u:S.us i with
 | true=>rw[if_pos rfl,sltD_slots w u]
 | false=>rw[w.zero i u];rfl
theorem dgW_slots (w:Wf S hs):DgW (slotsOf S) where
 len:=by have:=w.n2;rw[slotsOf_len];unfold ncap;omega
 sz i u:=by
  rw[alcD_slots w] at u
  obtain⟨e1,e2⟩:=lfD_slots w u
  rw[e1,e2,szT_slots w,szT_slots w,szT_slots w]
  exact sz_kids w i u
 kid i u:=by
  rw[alcD_slots w] at u
  obtain⟨e1,e2⟩:=lfD_slots w u
  rw[e1,e2]
  have k:=w.kid i u
  exact⟨inU_of w k.1,inU_of w k.2⟩
 top i:=by
  rw[szT_slots w]
  have:=w.size_nonneg i
  unfold maxSize at this
  omega
theorem numD_A (w:Wf S hs){rs l:List Int}(h:NumsD (slotsOf S) rs [] l):NumsA S rs [] l :=
 h.congr (fun i=>(alcD_slots w i).symm) (fun _ u=>((lfD_slots w (by rw[alcD_slots w] at u;exact u)).1).symm) fun _ u=>((lfD_slots w (by rw[alcD_slots w] at u;exact u)).2).symm
end
end Go.Proofs.YtedfbafngmicpaaGreat.Sx
end
section
/- Numbering behind what is known: the same as numbering alone, without what is known. No program in sight. -/
namespace Go.Proofs.YtedfbafngmicpaaGreat.Sx
open Go

section
variable {us:Int->Bool} {lf rg:Int->Int}
end
end Go.Proofs.YtedfbafngmicpaaGreat.Sx
end
section
/- The reference's table of references. -/
namespace Go.Proofs.YtedfbafngmicpaaGreat.Sx
open Go

/-KEEP allB vE wB kB zz crc exI frE itC xorI getB jnA DgW allVb NumD NumsD refL notI plcN sltD alcD slotsOf-/
theorem NumsD.few {d:List SlotT}(hd:DgW d){rs l:List Int}(h:NumsD d rs [] l):l.length<=d.length/\l.Nodup/\∀ j∈l,1<=j/\j<=d.length:=by
 have nd:=h.nodup (sz:=szT d) hd.sz List.nodup_nil
 have us:=h.used (fun j hj=>by cases hj)
 have rg:∀ j∈l,1<=j/\j<=(d.length:Int):=fun j hj=>alcD_rng (us j hj)
 have q:=len_nd l ((List.range d.length).map fun (n:Nat)=>(n:Int)+1) nd fun x hx=>by
  have p:=rg x hx
  exact List.mem_map.2 ⟨(x-1).toNat,List.mem_range.2 (by omega),by omega⟩
 rw[List.length_map,List.length_range] at q
 exact⟨q,nd,rg⟩
end Go.Proofs.YtedfbafngmicpaaGreat.Sx
end
section
/- The reference's Export and Digest, on a dump. -/
namespace Go.Proofs.YtedfbafngmicpaaGreat.Sx
open Go

/-KEEP allB allQ vE vsE wB kB zz crc exI frE itC xorI getB jnA DgW allVb NumD NumsD refL notI plcN sltD alcD slotsOf lfD rgD pkE encN rcE magB hdE uvA ExD DgD eNq-/
def InD (d:List SlotT)(l:List Int):Prop:=∀ i∈l,rngI (sltD d i).node.key/\rngI (sltD d i).node.value
def KyD (d:List SlotT)(rs:List Int):Prop:=∀ l,NumsD d rs [] l->InD d l
def inL (d:List SlotT)(l:List Int):Prop:=∀ x∈l,0<=x/\x<=(d.length:Int)
theorem inL.v {d:List SlotT}(hd:DgW d){l:List Int}(h:inL d l):allVb l:=fun x hx=>by
 have:=h x hx
 have:=hd.len
 exact⟨by omega,by omega⟩
theorem repG_D {d:List SlotT}(hd:DgW d):∀ (n:Nat) (i:Int),szT d i<=n->RepG (alcD d) (lfD d) (rgD d) n i
 | 0,i,h=>by
  cases u:alcD d i with
  | false=>exact u
  | true=>have:=hd.sz i u;omega
 | n+1,i,h=>by
  cases u:alcD d i with
  | false=>exact .inl u
  | true =>
   have:=hd.sz i u
   exact .inr ⟨repG_D hd n _ (by omega),repG_D hd n _ (by omega)⟩
theorem numsD_ex {d:List SlotT}(hd:DgW d)(r acc:List Int):∃ a,NumsD d r acc a:=NumsG.ex r acc fun i _=>⟨_,repG_D hd _ i (Nat.le_refl _)⟩
theorem KyD.left {d:List SlotT}(hd:DgW d){ks rs:List Int}(h:KyD d (ks++rs)):KyD d ks:=fun l nl=>by
 obtain⟨la,na⟩:=numsD_ex hd rs l
 intro i hi
 exact h la (nl.app na) i (na.sub hi)
section
variable {S:Arn} {hs:List Int}
end
end Go.Proofs.YtedfbafngmicpaaGreat.Sx
end
section
/- Choosing twice; Same of bytes; pack.Digest. -/
namespace Go.Proofs.YtedfbafngmicpaaGreat.Sx
open Go

/-KEEP rowG Wf exW inU allV allB rdS NumsA DgB DgS-/
end Go.Proofs.YtedfbafngmicpaaGreat.Sx
end
section
/- Equal dumps, and the count of a slot of a dump. -/
namespace Go.Proofs.YtedfbafngmicpaaGreat.Sx
open Go

/-KEEP Wf exW inU alcD slotsOf orderOf-/
end Go.Proofs.YtedfbafngmicpaaGreat.Sx
end
section
/- The reference's Check of a dump, Clean and Sound. -/
namespace Go.Proofs.YtedfbafngmicpaaGreat.Sx
open Go

/-KEEP Wf exW inU allU Arn.cap Arn.free alcD cntL kidsL slotsOf orderOf MarksR CleanD kidsU-/
structure XCk (d:List SlotT) (roots:List Int) where
 i:Nat
 m:List Bool
 h:i<=d.length/\MarksR d roots m
structure XCj (d:List SlotT) (roots:List Int) (P:Nat->Int->Prop) where
 i:Nat
 m:List Bool
 c:Int
 h:i<d.length/\MarksR d roots m/\P i c
abbrev bxSl (x:SlotT):Chunk C0:=.box [.val (.bool x.alloc),vI x.count,vU x.gen,vI x.node.key,vI x.node.value,vU x.node.left,vU x.node.right,vI x.node.size,vI x.node.sum,vI x.node.min,vI x.node.max]
abbrev chK (d:List SlotT)(fl roots:List Int)(m:List Bool):List (Chunk C0):=[.row false EC.slot d,.row false EC.u32 fl,.row false EC.u32 roots,.box [.slc 0,.slc 1],.row true EC.int (cntL (kidsL d) d.length),.row true EC.bool m,.row true EC.int (cntL fl d.length),.row true EC.int (cntL roots d.length),.row true EC.find []]
structure XIy (n:Nat) where
 i:Nat
 h:i<n
noncomputable def aChk (P0 P1 P2 P3 P4:Nat->Int->Prop)(d:List SlotT)(fl roots:List Int):Ann C0:={ Γ:=[(135,frameT [] tInE),(136,frameT [] tMk),(137,frameT [] tCnt),(108,frameT [] tAlc),(138,frameT [] tKids)],quiet:=[135,136,137,108,138],rounds:=fun n=>if n=19 then 3 else 0,inv:=fun n=>match n with
 | 5=>some { X:=XCk d roots,sl:=[2,6,7,8,9,5,10],tf:=fun x=>[.one (.at (.ptr 3 0)),.one (.at (.slc 4)),.one (.at (.slc 5)),.one (.at (.slc 6)),.one (.at (.slc 7)),.one (.at (.slc 8)),vi .i64 x.i],hf:=fun x=>chK d fl roots x.m,μ:=fun x=>d.length-x.i }
 | 1011=>some { X:=XCj d roots P4,sl:=[2,6,7,8,9,5,10,12,13],tf:=fun x=>[.one (.at (.ptr 3 0)),.one (.at (.slc 4)),.one (.at (.slc 5)),.one (.at (.slc 6)),.one (.at (.slc 7)),.one (.at (.slc 8)),vi .i64 x.i,.one (.at (.ptr 9 0)),vi .i64 x.c],hf:=fun x=>chK d fl roots x.m++[bxSl (eS d x.i)],rel:=fun T _ z=>slotI T 10 z.i }
 | 1013=>some { X:=XCj d roots P0,sl:=[2,6,7,8,9,5,10,12,60],tf:=fun x=>[.one (.at (.ptr 3 0)),.one (.at (.slc 4)),.one (.at (.slc 5)),.one (.at (.slc 6)),.one (.at (.slc 7)),.one (.at (.slc 8)),vi .i64 x.i,.one (.at (.ptr 9 0)),vb false],hf:=fun x=>chK d fl roots x.m++[bxSl (eS d x.i)],rel:=fun T _ z=>slotI T 10 z.i }
 | 1025=>some { X:=XCj d roots P1,sl:=[2,6,7,8,9,5,10,12,17],tf:=fun x=>[.one (.at (.ptr 3 0)),.one (.at (.slc 4)),.one (.at (.slc 5)),.one (.at (.slc 6)),.one (.at (.slc 7)),.one (.at (.slc 8)),vi .i64 x.i,.one (.at (.ptr 9 0)),vi .i64 x.c],hf:=fun x=>chK d fl roots x.m++[bxSl (eS d x.i)],rel:=fun T _ z=>slotI T 10 z.i }
 | 1026=>some { X:=XCj d roots P2,sl:=[2,6,7,8,9,5,10,12,110],tf:=fun x=>[.one (.at (.ptr 3 0)),.one (.at (.slc 4)),.one (.at (.slc 5)),.one (.at (.slc 6)),.one (.at (.slc 7)),.one (.at (.slc 8)),vi .i64 x.i,.one (.at (.ptr 9 0)),vb false],hf:=fun x=>chK d fl roots x.m++[bxSl (eS d x.i)],rel:=fun T _ z=>slotI T 10 z.i }
 | 1028=>some { X:=XCj d roots P3,sl:=[2,6,7,8,9,5,10,12,15],tf:=fun x=>[.one (.at (.ptr 3 0)),.one (.at (.slc 4)),.one (.at (.slc 5)),.one (.at (.slc 6)),.one (.at (.slc 7)),.one (.at (.slc 8)),vi .i64 x.i,.one (.at (.ptr 9 0)),vi .i64 x.c],hf:=fun x=>chK d fl roots x.m++[bxSl (eS d x.i)],rel:=fun T _ z=>slotI T 10 z.i }
 | 1029=>some { X:=XCj d roots P0,sl:=[2,6,7,8,9,5,10,12,132],tf:=fun x=>[.one (.at (.ptr 3 0)),.one (.at (.slc 4)),.one (.at (.slc 5)),.one (.at (.slc 6)),.one (.at (.slc 7)),.one (.at (.slc 8)),vi .i64 x.i,.one (.at (.ptr 9 0)),vb false],hf:=fun x=>chK d fl roots x.m++[bxSl (eS d x.i)],rel:=fun T _ z=>slotI T 10 z.i }
 | 1031=>some { X:=XCj d roots P0,sl:=[2,6,7,8,9,5,10,12,149],tf:=fun x=>[.one (.at (.ptr 3 0)),.one (.at (.slc 4)),.one (.at (.slc 5)),.one (.at (.slc 6)),.one (.at (.slc 7)),.one (.at (.slc 8)),vi .i64 x.i,.one (.at (.ptr 9 0)),vb false],hf:=fun x=>chK d fl roots x.m++[bxSl (eS d x.i)],rel:=fun T _ z=>slotI T 10 z.i }
 | 33=>some { X:=XIx fl.length,sl:=[2,5,19],tf:=fun x=>[.one (.at (.ptr 3 0)),.one (.at (.slc 4)),vi .i64 x.i],hf:=fun _=>[.row false EC.slot d,.row false EC.u32 fl,.row false EC.u32 roots,.box [.slc 0,.slc 1],.row true EC.find []],μ:=fun x=>fl.length-x.i }
 | 1036=>some { X:=XIy fl.length,sl:=[2,5,19,180],tf:=fun x=>[.one (.at (.ptr 3 0)),.one (.at (.slc 4)),vi .i64 x.i,vb false],hf:=fun _=>[.row false EC.slot d,.row false EC.u32 fl,.row false EC.u32 roots,.box [.slc 0,.slc 1],.row true EC.find []],rel:=fun T _ z=>slotI T 19 z.i }
 | 38=>some { X:=XIx roots.length,sl:=[2,5,20],tf:=fun x=>[.one (.at (.ptr 3 0)),.one (.at (.slc 4)),vi .i64 x.i],hf:=fun _=>[.row false EC.slot d,.row false EC.u32 fl,.row false EC.u32 roots,.box [.slc 0,.slc 1],.row true EC.find []],μ:=fun x=>roots.length-x.i }
 | 1041=>some { X:=XIy roots.length,sl:=[2,5,20,209],tf:=fun x=>[.one (.at (.ptr 3 0)),.one (.at (.slc 4)),vi .i64 x.i,vb false],hf:=fun _=>[.row false EC.slot d,.row false EC.u32 fl,.row false EC.u32 roots,.box [.slc 0,.slc 1],.row true EC.find []],rel:=fun T _ z=>slotI T 20 z.i }
 | _=>none }
def tChk:Tfm C0:=fun args H K=>match args,H with
 | [.agg [.slc 0,.slc 1],.at (.slc 2)],[.row false .slot d,.row false .u32 fl,.row false .u32 roots]=>CleanD d fl roots/\kidsU d/\allU fl/\allU roots/\d.length<=100000/\fl.length<=1000000/\roots.length<=1000000 ∧
  K (.one (.at (.slc 3))) [.row false EC.slot d,.row false EC.u32 fl,.row false EC.u32 roots,.row true EC.find []] []
 | _,_=>False
noncomputable def aCln:Ann C0:={ Γ:=[(115,frameT [] tChk)] }
def tCln:Tfm C0:=fun args H K=>match args,H with
 | [.agg [.slc 0,.slc 1],.at (.slc 2)],[.row false .slot d,.row false .u32 fl,.row false .u32 roots]=>CleanD d fl roots/\kidsU d/\allU fl/\allU roots/\d.length<=100000/\fl.length<=1000000/\roots.length<=1000000 ∧
  K (.one (.at (vB true))) [.row false EC.slot d,.row false EC.u32 fl,.row false EC.u32 roots] []
 | _,_=>False
noncomputable def aSound:Ann C0:={ Γ:=[(17,frameT [] tDump),(65,frameT [] tCln)] }
def tSound:Tfm C0:=fun args H K=>match args with
 | [.at (.ptr 0 0),.at (.slc 7)]=>arMr H fun S rest=>match rest with
  | [.row false .u32 roots]=>∃ hs,Wf S hs/\roots.Perm hs/\roots.length<=1000000/\K (.one (.at (vB true))) (chS S++[.row false EC.u32 roots]) []
  | _=>False
 | _=>False
def P0c (_:Nat)(_:Int):Prop:=True
def P4c (d:List SlotT)(i:Nat)(c:Int):Prop:=c=if (eS d i).alloc=true then 0 else 1
def P1c (d:List SlotT)(i:Nat)(c:Int):Prop:=(eS d i).alloc=true/\c=1+szD d (eS d i).node.left+szD d (eS d i).node.right
def P2c (d:List SlotT)(i:Nat)(_:Int):Prop:=(eS d i).alloc=true
def P3c (d:List SlotT)(roots:List Int)(i:Nat)(c:Int):Prop:=c=if (eS d i).alloc=true then ((kidsL d).count ((i:Int)+1):Int)+(roots.count ((i:Int)+1):Int) else 0
theorem eS_sz {d:List SlotT}{fl roots:List Int}(_:CleanD d fl roots)(hl:d.length<=100000){j:Int}(h:alcD d j=true):0<=IntKind.u32.wrap (j-1)/\IntKind.u32.wrap (j-1)<(d.length:Int)/\(eS d (IntKind.u32.wrap (j-1)).toNat).node.size=szD d j:=by
 obtain⟨a,b⟩:=alcD_rng h
 rw[wrap_u32 (x:=j-1) (by omega) (by omega)]
 refine⟨by omega,by omega,?_⟩
 unfold szD;rw[if_pos h];rfl
theorem szD_no {d:List SlotT}{j:Int}(h:alcD d j=false):szD d j=0:=by unfold szD;rw[h];rfl
theorem szD_rng {d:List SlotT}{fl roots:List Int}(hc:CleanD d fl roots)(j:Int):0<=szD d j/\szD d j<=4294967296:=by
 cases h:alcD d j with
 | false=>rw[szD_no h];omega
 | true =>
  obtain⟨a,b⟩:=alcD_rng h
  unfold szD;rw[if_pos h]
  exact hc.zr (j-1).toNat (by omega)
theorem vc_chk (d:List SlotT)(fl roots:List Int)(K:KT)(hc:CleanD d fl roots)(hk:kidsU d)(hfu:allU fl)(hru:allU roots)(hl:d.length<=100000)(hf:fl.length<=1000000)(hr:roots.length<=1000000)(h:K (.one (.at (.slc 3))) [.row false EC.slot d,.row false EC.u32 fl,.row false EC.u32 roots,.row true EC.find []] []) :
  vc C0 (aChk P0c (P1c d) (P2c d) (P3c d roots) (P4c d) d fl roots) Tryz.f115 [.agg [.slc 0,.slc 1],.at (.slc 2)] [.row false EC.slot d,.row false EC.u32 fl,.row false EC.u32 roots] (normK 3 K):=by
 generalize hP0:P0c=P0
 generalize hP1:P1c d=P1
 generalize hP2:P2c d=P2
 generalize hP3:P3c d roots=P3
 generalize hP4:P4c d=P4
 refine Eq.mp (show (d.length<=100000/\kidsU d/\∀ o:List Int,o=(cntL (kidsL d) d.length)->d.length<=100000/\roots.length<=1000000/\kidsU d/\allU roots/\∀ m:List Bool,MarksR d roots m->0<=(d.length:Int)/\(d.length:Int)<=100000/\fl.length<=1000000/\allU fl/\∀ o1:List Int,o1=(cntL fl (d.length:Int).toNat)->0<=(d.length:Int)/\(d.length:Int)<=100000/\roots.length<=1000000/\allU roots/\∀ o2:List Int,o2=(cntL roots (d.length:Int).toNat)->(∃ x:XCk d roots,True/\(True/\True/\True/\True/\True/\True/\True/\VI 0=(VI (x.i:Int))/\True)/\d=d/\fl=fl/\roots=roots/\(True/\True/\True)/\o=(cntL (kidsL d) d.length)/\m=x.m/\o1=cntL fl d.length/\o2=cntL roots d.length/\([]:List FindT)=[]/\True)/\∀ x:XCk d roots,True->brS (decide ((x.i:Int)<(d.length:Int))) (0<=(x.i:Int)/\(x.i:Int)<(d.length:Int)/\brS ((eS d (x.i:Int).toNat).alloc) (∃ x1:XCj d roots P4,((x.i:Int))=((x1.i:Int))/\(True/\True/\True/\True/\True/\True/\True/\VI (x.i:Int)=VI (x1.i:Int)/\(VU (IntKind.u32.wrap (IntKind.i64.wrap ((x.i:Int)+1))))=(VU (IntKind.u32.wrap (IntKind.i64.wrap ((x.i:Int)+1))))/\True/\VI 0=(VI (x1.c))/\True)/\d=d/\fl=fl/\roots=roots/\(True/\True/\True)/\(cntL (kidsL d) d.length)=(cntL (kidsL d) d.length)/\x.m=x1.m/\cntL fl d.length=cntL fl d.length/\cntL roots d.length=cntL roots d.length/\([]:List FindT)=[]/\((Value.bool ((eS d (x.i:Int).toNat).alloc))=(Value.bool ((eS d x1.i).alloc))/\(VI ((eS d (x.i:Int).toNat).count))=(VI ((eS d x1.i).count))/\(VU ((eS d (x.i:Int).toNat).gen))=(VU ((eS d x1.i).gen))/\(VI ((eS d (x.i:Int).toNat).node.key))=(VI ((eS d x1.i).node.key))/\
 (VI ((eS d (x.i:Int).toNat).node.value))=(VI ((eS d x1.i).node.value))/\(VU ((eS d (x.i:Int).toNat).node.left))=(VU ((eS d x1.i).node.left))/\(VU ((eS d (x.i:Int).toNat).node.right))=(VU ((eS d x1.i).node.right))/\(VI ((eS d (x.i:Int).toNat).node.size))=(VI ((eS d x1.i).node.size))/\(VI ((eS d (x.i:Int).toNat).node.sum))=(VI ((eS d x1.i).node.sum))/\(VI ((eS d (x.i:Int).toNat).node.min))=(VI ((eS d x1.i).node.min))/\(VI ((eS d (x.i:Int).toNat).node.max))=(VI ((eS d x1.i).node.max))/\True)/\True) (∃ x1:XCj d roots P4,((x.i:Int))=((x1.i:Int))/\(True/\True/\True/\True/\True/\True/\True/\VI (x.i:Int)=VI (x1.i:Int)/\(VU (IntKind.u32.wrap (IntKind.i64.wrap ((x.i:Int)+1))))=(VU (IntKind.u32.wrap (IntKind.i64.wrap ((x.i:Int)+1))))/\True/\VI 1=(VI (x1.c))/\True)/\d=d/\fl=fl/\roots=roots/\(True/\True/\True)/\(cntL (kidsL d) d.length)=(cntL (kidsL d) d.length)/\x.m=x1.m/\cntL fl d.length=cntL fl d.length/\cntL roots d.length=cntL roots d.length/\([]:List FindT)=[]/\((Value.bool ((eS d (x.i:Int).toNat).alloc))=(Value.bool ((eS d x1.i).alloc))/\(VI ((eS d (x.i:Int).toNat).count))=(VI ((eS d x1.i).count))/\(VU ((eS d (x.i:Int).toNat).gen))=(VU ((eS d x1.i).gen))/\(VI ((eS d (x.i:Int).toNat).node.key))=(VI ((eS d x1.i).node.key))/\(VI ((eS d (x.i:Int).toNat).node.value))=(VI ((eS d x1.i).node.value))/\(VU ((eS d (x.i:Int).toNat).node.left))=(VU ((eS d x1.i).node.left))/\(VU ((eS d (x.i:Int).toNat).node.right))=(VU ((eS d x1.i).node.right))/\(VI ((eS d (x.i:Int).toNat).node.size))=(VI ((eS d x1.i).node.size))/\
 (VI ((eS d (x.i:Int).toNat).node.sum))=(VI ((eS d x1.i).node.sum))/\(VI ((eS d (x.i:Int).toNat).node.min))=(VI ((eS d x1.i).node.min))/\(VI ((eS d (x.i:Int).toNat).node.max))=(VI ((eS d x1.i).node.max))/\True)/\True)/\∀ x1:XCj d roots P4,((x.i:Int))=((x1.i:Int))->0<=(x1.i:Int)/\(x1.i:Int)<(↑(cntL fl d.length).length:Int)/\(∃ x2:XCj d roots P0,((x1.i:Int))=((x2.i:Int))/\(True/\True/\True/\True/\True/\True/\True/\VI (x1.i:Int)=VI (x2.i:Int)/\(VU (IntKind.u32.wrap (IntKind.i64.wrap ((x.i:Int)+1))))=(VU (IntKind.u32.wrap (IntKind.i64.wrap ((x.i:Int)+1))))/\True/\VI (x1.c)=VI (x1.c)/\(VI ((cntL fl d.length).getD (x1.i:Int).toNat 0))=(VI ((cntL fl d.length).getD (x1.i:Int).toNat 0))/\(Value.bool ((cntL fl d.length).getD (x1.i:Int).toNat 0 != x1.c))=Value.bool false/\True)/\d=d/\fl=fl/\roots=roots/\(True/\True/\True)/\(cntL (kidsL d) d.length)=(cntL (kidsL d) d.length)/\x1.m=x2.m/\cntL fl d.length=cntL fl d.length/\cntL roots d.length=cntL roots d.length/\([]:List FindT)=[]/\((Value.bool ((eS d x1.i).alloc))=(Value.bool ((eS d x2.i).alloc))/\(VI ((eS d x1.i).count))=(VI ((eS d x2.i).count))/\(VU ((eS d x1.i).gen))=(VU ((eS d x2.i).gen))/\(VI ((eS d x1.i).node.key))=(VI ((eS d x2.i).node.key))/\(VI ((eS d x1.i).node.value))=(VI ((eS d x2.i).node.value))/\(VU ((eS d x1.i).node.left))=(VU ((eS d x2.i).node.left))/\(VU ((eS d x1.i).node.right))=(VU ((eS d x2.i).node.right))/\(VI ((eS d x1.i).node.size))=(VI ((eS d x2.i).node.size))/\(VI ((eS d x1.i).node.sum))=(VI ((eS d x2.i).node.sum))/\
 (VI ((eS d x1.i).node.min))=(VI ((eS d x2.i).node.min))/\(VI ((eS d x1.i).node.max))=(VI ((eS d x2.i).node.max))/\True)/\True)/\∀ x2:XCj d roots P0,((x1.i:Int))=((x2.i:Int))->brS ((eS d x2.i).alloc) (((0:Int)<=0/\0<((2:Nat):Int)/\inU (eS d x2.i).node.left/\d.length<=1000000/\brS (alcD d (eS d x2.i).node.left) ((0:Int)<=0/\0<((2:Nat):Int)/\0<=IntKind.u32.wrap ((eS d x2.i).node.left-1)/\IntKind.u32.wrap ((eS d x2.i).node.left-1)<(d.length:Int)/\0<=IntKind.i64.wrap (0+1)/\IntKind.i64.wrap (0+1)<((2:Nat):Int)/\inU (eS d x2.i).node.right/\d.length<=1000000/\brS (alcD d (eS d x2.i).node.right) (0<=IntKind.i64.wrap (0+1)/\IntKind.i64.wrap (0+1)<((2:Nat):Int)/\0<=IntKind.u32.wrap ((eS d x2.i).node.right-1)/\IntKind.u32.wrap ((eS d x2.i).node.right-1)<(d.length:Int)/\∃ x3:XCj d roots P1,((x2.i:Int))=((x3.i:Int))/\(True/\True/\True/\True/\True/\True/\True/\VI (x2.i:Int)=VI (x3.i:Int)/\(VU (IntKind.u32.wrap (IntKind.i64.wrap ((x.i:Int)+1))))=(VU (IntKind.u32.wrap (IntKind.i64.wrap ((x.i:Int)+1))))/\True/\(VI (IntKind.i64.wrap (IntKind.i64.wrap (1+(eS d (IntKind.u32.wrap ((eS d x2.i).node.left-1)).toNat).node.size)+(eS d (IntKind.u32.wrap ((eS d x2.i).node.right-1)).toNat).node.size)))=(VI (x3.c))/\True)/\d=d/\fl=fl/\roots=roots/\(True/\True/\True)/\(cntL (kidsL d) d.length)=(cntL (kidsL d) d.length)/\x2.m=x3.m/\cntL fl d.length=cntL fl d.length/\cntL roots d.length=cntL roots d.length/\([]:List FindT)=[]/\((Value.bool ((eS d x2.i).alloc))=(Value.bool ((eS d x3.i).alloc))/\(VI ((eS d x2.i).count))=(VI ((eS d x3.i).count))/\
 (VU ((eS d x2.i).gen))=(VU ((eS d x3.i).gen))/\(VI ((eS d x2.i).node.key))=(VI ((eS d x3.i).node.key))/\(VI ((eS d x2.i).node.value))=(VI ((eS d x3.i).node.value))/\(VU ((eS d x2.i).node.left))=(VU ((eS d x3.i).node.left))/\(VU ((eS d x2.i).node.right))=(VU ((eS d x3.i).node.right))/\(VI ((eS d x2.i).node.size))=(VI ((eS d x3.i).node.size))/\(VI ((eS d x2.i).node.sum))=(VI ((eS d x3.i).node.sum))/\(VI ((eS d x2.i).node.min))=(VI ((eS d x3.i).node.min))/\(VI ((eS d x2.i).node.max))=(VI ((eS d x3.i).node.max))/\True)/\True) (0<=IntKind.i64.wrap (0+1)/\IntKind.i64.wrap (0+1)<((2:Nat):Int)/\brS ((eS d x2.i).node.right != 0) (0<=IntKind.i64.wrap (0+1)/\IntKind.i64.wrap (0+1)<((2:Nat):Int)/\(([]:List Ent).length+[{ kind:=2,slot:=IntKind.u32.wrap (IntKind.i64.wrap ((x.i:Int)+1)),want:=0,have_:=IntKind.i64.wrap (eS d x2.i).node.right:FindT }].length)*bytesOf C0 EC.find<=140737488355328/\∃ x3:XCj d roots P1,((x2.i:Int))=((x3.i:Int))/\(True/\True/\True/\True/\True/\True/\True/\VI (x2.i:Int)=VI (x3.i:Int)/\(VU (IntKind.u32.wrap (IntKind.i64.wrap ((x.i:Int)+1))))=(VU (IntKind.u32.wrap (IntKind.i64.wrap ((x.i:Int)+1))))/\True/\(VI (IntKind.i64.wrap (1+(eS d (IntKind.u32.wrap ((eS d x2.i).node.left-1)).toNat).node.size)))=(VI (x3.c))/\True)/\d=d/\fl=fl/\roots=roots/\(True/\True/\True)/\(cntL (kidsL d) d.length)=(cntL (kidsL d) d.length)/\x2.m=x3.m/\cntL fl d.length=cntL fl d.length/\cntL roots d.length=cntL roots d.length/\[({ kind:=2,slot:=IntKind.u32.wrap (IntKind.i64.wrap ((x.i:Int)+1)),want:=0,have_:=IntKind.i64.wrap (eS d x2.i).node.right:FindT })]=[]/\
 ((Value.bool ((eS d x2.i).alloc))=(Value.bool ((eS d x3.i).alloc))/\(VI ((eS d x2.i).count))=(VI ((eS d x3.i).count))/\(VU ((eS d x2.i).gen))=(VU ((eS d x3.i).gen))/\(VI ((eS d x2.i).node.key))=(VI ((eS d x3.i).node.key))/\(VI ((eS d x2.i).node.value))=(VI ((eS d x3.i).node.value))/\(VU ((eS d x2.i).node.left))=(VU ((eS d x3.i).node.left))/\(VU ((eS d x2.i).node.right))=(VU ((eS d x3.i).node.right))/\(VI ((eS d x2.i).node.size))=(VI ((eS d x3.i).node.size))/\(VI ((eS d x2.i).node.sum))=(VI ((eS d x3.i).node.sum))/\(VI ((eS d x2.i).node.min))=(VI ((eS d x3.i).node.min))/\(VI ((eS d x2.i).node.max))=(VI ((eS d x3.i).node.max))/\True)/\True) (∃ x3:XCj d roots P1,((x2.i:Int))=((x3.i:Int))/\(True/\True/\True/\True/\True/\True/\True/\VI (x2.i:Int)=VI (x3.i:Int)/\(VU (IntKind.u32.wrap (IntKind.i64.wrap ((x.i:Int)+1))))=(VU (IntKind.u32.wrap (IntKind.i64.wrap ((x.i:Int)+1))))/\True/\(VI (IntKind.i64.wrap (1+(eS d (IntKind.u32.wrap ((eS d x2.i).node.left-1)).toNat).node.size)))=(VI (x3.c))/\True)/\d=d/\fl=fl/\roots=roots/\(True/\True/\True)/\(cntL (kidsL d) d.length)=(cntL (kidsL d) d.length)/\x2.m=x3.m/\cntL fl d.length=cntL fl d.length/\cntL roots d.length=cntL roots d.length/\([]:List FindT)=[]/\((Value.bool ((eS d x2.i).alloc))=(Value.bool ((eS d x3.i).alloc))/\(VI ((eS d x2.i).count))=(VI ((eS d x3.i).count))/\(VU ((eS d x2.i).gen))=(VU ((eS d x3.i).gen))/\(VI ((eS d x2.i).node.key))=(VI ((eS d x3.i).node.key))/\(VI ((eS d x2.i).node.value))=(VI ((eS d x3.i).node.value))/\(VU ((eS d x2.i).node.left))=(VU ((eS d x3.i).node.left))/\
 (VU ((eS d x2.i).node.right))=(VU ((eS d x3.i).node.right))/\(VI ((eS d x2.i).node.size))=(VI ((eS d x3.i).node.size))/\(VI ((eS d x2.i).node.sum))=(VI ((eS d x3.i).node.sum))/\(VI ((eS d x2.i).node.min))=(VI ((eS d x3.i).node.min))/\(VI ((eS d x2.i).node.max))=(VI ((eS d x3.i).node.max))/\True)/\True))) ((0:Int)<=0/\0<((2:Nat):Int)/\brS ((eS d x2.i).node.left != 0) ((0:Int)<=0/\0<((2:Nat):Int)/\(([]:List Ent).length+[{ kind:=2,slot:=IntKind.u32.wrap (IntKind.i64.wrap ((x.i:Int)+1)),want:=0,have_:=IntKind.i64.wrap (eS d x2.i).node.left:FindT }].length)*bytesOf C0 EC.find<=140737488355328/\0<=IntKind.i64.wrap (0+1)/\IntKind.i64.wrap (0+1)<((2:Nat):Int)/\inU (eS d x2.i).node.right/\d.length<=1000000/\brS (alcD d (eS d x2.i).node.right) (0<=IntKind.i64.wrap (0+1)/\IntKind.i64.wrap (0+1)<((2:Nat):Int)/\0<=IntKind.u32.wrap ((eS d x2.i).node.right-1)/\IntKind.u32.wrap ((eS d x2.i).node.right-1)<(d.length:Int)/\∃ x3:XCj d roots P1,((x2.i:Int))=((x3.i:Int))/\(True/\True/\True/\True/\True/\True/\True/\VI (x2.i:Int)=VI (x3.i:Int)/\(VU (IntKind.u32.wrap (IntKind.i64.wrap ((x.i:Int)+1))))=(VU (IntKind.u32.wrap (IntKind.i64.wrap ((x.i:Int)+1))))/\True/\(VI (IntKind.i64.wrap (1+(eS d (IntKind.u32.wrap ((eS d x2.i).node.right-1)).toNat).node.size)))=(VI (x3.c))/\True)/\d=d/\fl=fl/\roots=roots/\(True/\True/\True)/\(cntL (kidsL d) d.length)=(cntL (kidsL d) d.length)/\x2.m=x3.m/\cntL fl d.length=cntL fl d.length/\cntL roots d.length=cntL roots d.length/\[({ kind:=2,slot:=IntKind.u32.wrap (IntKind.i64.wrap ((x.i:Int)+1)),want:=0,have_:=IntKind.i64.wrap (eS d x2.i).node.left:FindT })]=[]/\
 ((Value.bool ((eS d x2.i).alloc))=(Value.bool ((eS d x3.i).alloc))/\(VI ((eS d x2.i).count))=(VI ((eS d x3.i).count))/\(VU ((eS d x2.i).gen))=(VU ((eS d x3.i).gen))/\(VI ((eS d x2.i).node.key))=(VI ((eS d x3.i).node.key))/\(VI ((eS d x2.i).node.value))=(VI ((eS d x3.i).node.value))/\(VU ((eS d x2.i).node.left))=(VU ((eS d x3.i).node.left))/\(VU ((eS d x2.i).node.right))=(VU ((eS d x3.i).node.right))/\(VI ((eS d x2.i).node.size))=(VI ((eS d x3.i).node.size))/\(VI ((eS d x2.i).node.sum))=(VI ((eS d x3.i).node.sum))/\(VI ((eS d x2.i).node.min))=(VI ((eS d x3.i).node.min))/\(VI ((eS d x2.i).node.max))=(VI ((eS d x3.i).node.max))/\True)/\True) (0<=IntKind.i64.wrap (0+1)/\IntKind.i64.wrap (0+1)<((2:Nat):Int)/\brS ((eS d x2.i).node.right != 0) (0<=IntKind.i64.wrap (0+1)/\IntKind.i64.wrap (0+1)<((2:Nat):Int)/\([{ kind:=2,slot:=IntKind.u32.wrap (IntKind.i64.wrap ((x.i:Int)+1)),want:=0,have_:=IntKind.i64.wrap (eS d x2.i).node.left:FindT }].length+[{ kind:=2,slot:=IntKind.u32.wrap (IntKind.i64.wrap ((x.i:Int)+1)),want:=0,have_:=IntKind.i64.wrap (eS d x2.i).node.right:FindT }].length)*bytesOf C0 EC.find<=140737488355328/\∃ x3:XCj d roots P1,((x2.i:Int))=((x3.i:Int))/\(True/\True/\True/\True/\True/\True/\True/\VI (x2.i:Int)=VI (x3.i:Int)/\(VU (IntKind.u32.wrap (IntKind.i64.wrap ((x.i:Int)+1))))=(VU (IntKind.u32.wrap (IntKind.i64.wrap ((x.i:Int)+1))))/\True/\VI 1=(VI (x3.c))/\True)/\d=d/\fl=fl/\roots=roots/\(True/\True/\True)/\(cntL (kidsL d) d.length)=(cntL (kidsL d) d.length)/\x2.m=x3.m/\
 cntL fl d.length=cntL fl d.length/\cntL roots d.length=cntL roots d.length/\[({ kind:=2,slot:=IntKind.u32.wrap (IntKind.i64.wrap ((x.i:Int)+1)),want:=0,have_:=IntKind.i64.wrap (eS d x2.i).node.left:FindT }),({ kind:=2,slot:=IntKind.u32.wrap (IntKind.i64.wrap ((x.i:Int)+1)),want:=0,have_:=IntKind.i64.wrap (eS d x2.i).node.right:FindT })]=[]/\((Value.bool ((eS d x2.i).alloc))=(Value.bool ((eS d x3.i).alloc))/\(VI ((eS d x2.i).count))=(VI ((eS d x3.i).count))/\(VU ((eS d x2.i).gen))=(VU ((eS d x3.i).gen))/\(VI ((eS d x2.i).node.key))=(VI ((eS d x3.i).node.key))/\(VI ((eS d x2.i).node.value))=(VI ((eS d x3.i).node.value))/\(VU ((eS d x2.i).node.left))=(VU ((eS d x3.i).node.left))/\(VU ((eS d x2.i).node.right))=(VU ((eS d x3.i).node.right))/\(VI ((eS d x2.i).node.size))=(VI ((eS d x3.i).node.size))/\(VI ((eS d x2.i).node.sum))=(VI ((eS d x3.i).node.sum))/\(VI ((eS d x2.i).node.min))=(VI ((eS d x3.i).node.min))/\(VI ((eS d x2.i).node.max))=(VI ((eS d x3.i).node.max))/\True)/\True) (∃ x3:XCj d roots P1,((x2.i:Int))=((x3.i:Int))/\(True/\True/\True/\True/\True/\True/\True/\VI (x2.i:Int)=VI (x3.i:Int)/\(VU (IntKind.u32.wrap (IntKind.i64.wrap ((x.i:Int)+1))))=(VU (IntKind.u32.wrap (IntKind.i64.wrap ((x.i:Int)+1))))/\True/\VI 1=(VI (x3.c))/\True)/\d=d/\fl=fl/\roots=roots/\(True/\True/\True)/\(cntL (kidsL d) d.length)=(cntL (kidsL d) d.length)/\x2.m=x3.m/\cntL fl d.length=cntL fl d.length/\cntL roots d.length=cntL roots d.length/\[({ kind:=2,slot:=IntKind.u32.wrap (IntKind.i64.wrap ((x.i:Int)+1)),want:=0,have_:=IntKind.i64.wrap (eS d x2.i).node.left:FindT })]=[]/\
 ((Value.bool ((eS d x2.i).alloc))=(Value.bool ((eS d x3.i).alloc))/\(VI ((eS d x2.i).count))=(VI ((eS d x3.i).count))/\(VU ((eS d x2.i).gen))=(VU ((eS d x3.i).gen))/\(VI ((eS d x2.i).node.key))=(VI ((eS d x3.i).node.key))/\(VI ((eS d x2.i).node.value))=(VI ((eS d x3.i).node.value))/\(VU ((eS d x2.i).node.left))=(VU ((eS d x3.i).node.left))/\(VU ((eS d x2.i).node.right))=(VU ((eS d x3.i).node.right))/\(VI ((eS d x2.i).node.size))=(VI ((eS d x3.i).node.size))/\(VI ((eS d x2.i).node.sum))=(VI ((eS d x3.i).node.sum))/\(VI ((eS d x2.i).node.min))=(VI ((eS d x3.i).node.min))/\(VI ((eS d x2.i).node.max))=(VI ((eS d x3.i).node.max))/\True)/\True))) (0<=IntKind.i64.wrap (0+1)/\IntKind.i64.wrap (0+1)<((2:Nat):Int)/\inU (eS d x2.i).node.right/\d.length<=1000000/\brS (alcD d (eS d x2.i).node.right) (0<=IntKind.i64.wrap (0+1)/\IntKind.i64.wrap (0+1)<((2:Nat):Int)/\0<=IntKind.u32.wrap ((eS d x2.i).node.right-1)/\IntKind.u32.wrap ((eS d x2.i).node.right-1)<(d.length:Int)/\∃ x3:XCj d roots P1,((x2.i:Int))=((x3.i:Int))/\(True/\True/\True/\True/\True/\True/\True/\VI (x2.i:Int)=VI (x3.i:Int)/\(VU (IntKind.u32.wrap (IntKind.i64.wrap ((x.i:Int)+1))))=(VU (IntKind.u32.wrap (IntKind.i64.wrap ((x.i:Int)+1))))/\True/\(VI (IntKind.i64.wrap (1+(eS d (IntKind.u32.wrap ((eS d x2.i).node.right-1)).toNat).node.size)))=(VI (x3.c))/\True)/\d=d/\fl=fl/\roots=roots/\(True/\True/\True)/\(cntL (kidsL d) d.length)=(cntL (kidsL d) d.length)/\x2.m=x3.m/\cntL fl d.length=cntL fl d.length/\cntL roots d.length=cntL roots d.length/\
 ([]:List FindT)=[]/\((Value.bool ((eS d x2.i).alloc))=(Value.bool ((eS d x3.i).alloc))/\(VI ((eS d x2.i).count))=(VI ((eS d x3.i).count))/\(VU ((eS d x2.i).gen))=(VU ((eS d x3.i).gen))/\(VI ((eS d x2.i).node.key))=(VI ((eS d x3.i).node.key))/\(VI ((eS d x2.i).node.value))=(VI ((eS d x3.i).node.value))/\(VU ((eS d x2.i).node.left))=(VU ((eS d x3.i).node.left))/\(VU ((eS d x2.i).node.right))=(VU ((eS d x3.i).node.right))/\(VI ((eS d x2.i).node.size))=(VI ((eS d x3.i).node.size))/\(VI ((eS d x2.i).node.sum))=(VI ((eS d x3.i).node.sum))/\(VI ((eS d x2.i).node.min))=(VI ((eS d x3.i).node.min))/\(VI ((eS d x2.i).node.max))=(VI ((eS d x3.i).node.max))/\True)/\True) (0<=IntKind.i64.wrap (0+1)/\IntKind.i64.wrap (0+1)<((2:Nat):Int)/\brS ((eS d x2.i).node.right != 0) (0<=IntKind.i64.wrap (0+1)/\IntKind.i64.wrap (0+1)<((2:Nat):Int)/\(([]:List Ent).length+[{ kind:=2,slot:=IntKind.u32.wrap (IntKind.i64.wrap ((x.i:Int)+1)),want:=0,have_:=IntKind.i64.wrap (eS d x2.i).node.right:FindT }].length)*bytesOf C0 EC.find<=140737488355328/\∃ x3:XCj d roots P1,((x2.i:Int))=((x3.i:Int))/\(True/\True/\True/\True/\True/\True/\True/\VI (x2.i:Int)=VI (x3.i:Int)/\(VU (IntKind.u32.wrap (IntKind.i64.wrap ((x.i:Int)+1))))=(VU (IntKind.u32.wrap (IntKind.i64.wrap ((x.i:Int)+1))))/\True/\VI 1=(VI (x3.c))/\True)/\d=d/\fl=fl/\roots=roots/\(True/\True/\True)/\(cntL (kidsL d) d.length)=(cntL (kidsL d) d.length)/\x2.m=x3.m/\cntL fl d.length=cntL fl d.length/\cntL roots d.length=cntL roots d.length/\[({ kind:=2,slot:=IntKind.u32.wrap (IntKind.i64.wrap ((x.i:Int)+1)),want:=0,have_:=IntKind.i64.wrap (eS d x2.i).node.right:FindT })]=[]/\
 ((Value.bool ((eS d x2.i).alloc))=(Value.bool ((eS d x3.i).alloc))/\(VI ((eS d x2.i).count))=(VI ((eS d x3.i).count))/\(VU ((eS d x2.i).gen))=(VU ((eS d x3.i).gen))/\(VI ((eS d x2.i).node.key))=(VI ((eS d x3.i).node.key))/\(VI ((eS d x2.i).node.value))=(VI ((eS d x3.i).node.value))/\(VU ((eS d x2.i).node.left))=(VU ((eS d x3.i).node.left))/\(VU ((eS d x2.i).node.right))=(VU ((eS d x3.i).node.right))/\(VI ((eS d x2.i).node.size))=(VI ((eS d x3.i).node.size))/\(VI ((eS d x2.i).node.sum))=(VI ((eS d x3.i).node.sum))/\(VI ((eS d x2.i).node.min))=(VI ((eS d x3.i).node.min))/\(VI ((eS d x2.i).node.max))=(VI ((eS d x3.i).node.max))/\True)/\True) (∃ x3:XCj d roots P1,((x2.i:Int))=((x3.i:Int))/\(True/\True/\True/\True/\True/\True/\True/\VI (x2.i:Int)=VI (x3.i:Int)/\(VU (IntKind.u32.wrap (IntKind.i64.wrap ((x.i:Int)+1))))=(VU (IntKind.u32.wrap (IntKind.i64.wrap ((x.i:Int)+1))))/\True/\VI 1=(VI (x3.c))/\True)/\d=d/\fl=fl/\roots=roots/\(True/\True/\True)/\(cntL (kidsL d) d.length)=(cntL (kidsL d) d.length)/\x2.m=x3.m/\cntL fl d.length=cntL fl d.length/\cntL roots d.length=cntL roots d.length/\([]:List FindT)=[]/\((Value.bool ((eS d x2.i).alloc))=(Value.bool ((eS d x3.i).alloc))/\(VI ((eS d x2.i).count))=(VI ((eS d x3.i).count))/\(VU ((eS d x2.i).gen))=(VU ((eS d x3.i).gen))/\(VI ((eS d x2.i).node.key))=(VI ((eS d x3.i).node.key))/\(VI ((eS d x2.i).node.value))=(VI ((eS d x3.i).node.value))/\(VU ((eS d x2.i).node.left))=(VU ((eS d x3.i).node.left))/\(VU ((eS d x2.i).node.right))=(VU ((eS d x3.i).node.right))/\
 (VI ((eS d x2.i).node.size))=(VI ((eS d x3.i).node.size))/\(VI ((eS d x2.i).node.sum))=(VI ((eS d x3.i).node.sum))/\(VI ((eS d x2.i).node.min))=(VI ((eS d x3.i).node.min))/\(VI ((eS d x2.i).node.max))=(VI ((eS d x3.i).node.max))/\True)/\True)))))/\∀ x3:XCj d roots P1,((x2.i:Int))=((x3.i:Int))->(∃ x4:XCj d roots P2,((x3.i:Int))=((x4.i:Int))/\(True/\True/\True/\True/\True/\True/\True/\VI (x3.i:Int)=VI (x4.i:Int)/\(VU (IntKind.u32.wrap (IntKind.i64.wrap ((x.i:Int)+1))))=(VU (IntKind.u32.wrap (IntKind.i64.wrap ((x.i:Int)+1))))/\True/\VI (x3.c)=VI (x3.c)/\(Value.bool (x3.c != (eS d x3.i).node.size))=Value.bool false/\True)/\d=d/\fl=fl/\roots=roots/\(True/\True/\True)/\(cntL (kidsL d) d.length)=(cntL (kidsL d) d.length)/\x3.m=x4.m/\cntL fl d.length=cntL fl d.length/\cntL roots d.length=cntL roots d.length/\([]:List FindT)=[]/\((Value.bool ((eS d x3.i).alloc))=(Value.bool ((eS d x4.i).alloc))/\(VI ((eS d x3.i).count))=(VI ((eS d x4.i).count))/\(VU ((eS d x3.i).gen))=(VU ((eS d x4.i).gen))/\(VI ((eS d x3.i).node.key))=(VI ((eS d x4.i).node.key))/\(VI ((eS d x3.i).node.value))=(VI ((eS d x4.i).node.value))/\(VU ((eS d x3.i).node.left))=(VU ((eS d x4.i).node.left))/\(VU ((eS d x3.i).node.right))=(VU ((eS d x4.i).node.right))/\(VI ((eS d x3.i).node.size))=(VI ((eS d x4.i).node.size))/\(VI ((eS d x3.i).node.sum))=(VI ((eS d x4.i).node.sum))/\(VI ((eS d x3.i).node.min))=(VI ((eS d x4.i).node.min))/\(VI ((eS d x3.i).node.max))=(VI ((eS d x4.i).node.max))/\True)/\True)/\∀ x4:XCj d roots P2,((x3.i:Int))=((x4.i:Int))->0<=(x4.i:Int)/\
 (x4.i:Int)<(↑(cntL (kidsL d) d.length).length:Int)/\0<=(x4.i:Int)/\(x4.i:Int)<(↑(cntL roots d.length).length:Int)/\∃ x5:XCj d roots P3,((x2.i:Int))=((x5.i:Int))/\(True/\True/\True/\True/\True/\True/\True/\VI (x4.i:Int)=VI (x5.i:Int)/\(VU (IntKind.u32.wrap (IntKind.i64.wrap ((x.i:Int)+1))))=(VU (IntKind.u32.wrap (IntKind.i64.wrap ((x.i:Int)+1))))/\True/\(VI (IntKind.i64.wrap ((cntL (kidsL d) d.length).getD (x4.i:Int).toNat 0+(cntL roots d.length).getD (x4.i:Int).toNat 0)))=(VI (x5.c))/\True)/\d=d/\fl=fl/\roots=roots/\(True/\True/\True)/\(cntL (kidsL d) d.length)=(cntL (kidsL d) d.length)/\x4.m=x5.m/\cntL fl d.length=cntL fl d.length/\cntL roots d.length=cntL roots d.length/\([]:List FindT)=[]/\((Value.bool ((eS d x4.i).alloc))=(Value.bool ((eS d x5.i).alloc))/\(VI ((eS d x4.i).count))=(VI ((eS d x5.i).count))/\(VU ((eS d x4.i).gen))=(VU ((eS d x5.i).gen))/\(VI ((eS d x4.i).node.key))=(VI ((eS d x5.i).node.key))/\(VI ((eS d x4.i).node.value))=(VI ((eS d x5.i).node.value))/\(VU ((eS d x4.i).node.left))=(VU ((eS d x5.i).node.left))/\(VU ((eS d x4.i).node.right))=(VU ((eS d x5.i).node.right))/\(VI ((eS d x4.i).node.size))=(VI ((eS d x5.i).node.size))/\(VI ((eS d x4.i).node.sum))=(VI ((eS d x5.i).node.sum))/\(VI ((eS d x4.i).node.min))=(VI ((eS d x5.i).node.min))/\(VI ((eS d x4.i).node.max))=(VI ((eS d x5.i).node.max))/\True)/\True) (∃ x3:XCj d roots P3,((x2.i:Int))=((x3.i:Int))/\(True/\True/\True/\True/\True/\True/\True/\VI (x2.i:Int)=VI (x3.i:Int)/\(VU (IntKind.u32.wrap (IntKind.i64.wrap ((x.i:Int)+1))))=(VU (IntKind.u32.wrap (IntKind.i64.wrap ((x.i:Int)+1))))/\
 True/\VI 0=(VI (x3.c))/\True)/\d=d/\fl=fl/\roots=roots/\(True/\True/\True)/\(cntL (kidsL d) d.length)=(cntL (kidsL d) d.length)/\x2.m=x3.m/\cntL fl d.length=cntL fl d.length/\cntL roots d.length=cntL roots d.length/\([]:List FindT)=[]/\((Value.bool ((eS d x2.i).alloc))=(Value.bool ((eS d x3.i).alloc))/\(VI ((eS d x2.i).count))=(VI ((eS d x3.i).count))/\(VU ((eS d x2.i).gen))=(VU ((eS d x3.i).gen))/\(VI ((eS d x2.i).node.key))=(VI ((eS d x3.i).node.key))/\(VI ((eS d x2.i).node.value))=(VI ((eS d x3.i).node.value))/\(VU ((eS d x2.i).node.left))=(VU ((eS d x3.i).node.left))/\(VU ((eS d x2.i).node.right))=(VU ((eS d x3.i).node.right))/\(VI ((eS d x2.i).node.size))=(VI ((eS d x3.i).node.size))/\(VI ((eS d x2.i).node.sum))=(VI ((eS d x3.i).node.sum))/\(VI ((eS d x2.i).node.min))=(VI ((eS d x3.i).node.min))/\(VI ((eS d x2.i).node.max))=(VI ((eS d x3.i).node.max))/\True)/\True)/\∀ x3:XCj d roots P3,((x2.i:Int))=((x3.i:Int))->(∃ x4:XCj d roots P0,((x3.i:Int))=((x4.i:Int))/\(True/\True/\True/\True/\True/\True/\True/\VI (x3.i:Int)=VI (x4.i:Int)/\(VU (IntKind.u32.wrap (IntKind.i64.wrap ((x.i:Int)+1))))=(VU (IntKind.u32.wrap (IntKind.i64.wrap ((x.i:Int)+1))))/\True/\VI (x3.c)=VI (x3.c)/\(Value.bool (x3.c != (eS d x3.i).count))=Value.bool false/\True)/\d=d/\fl=fl/\roots=roots/\(True/\True/\True)/\(cntL (kidsL d) d.length)=(cntL (kidsL d) d.length)/\x3.m=x4.m/\cntL fl d.length=cntL fl d.length/\cntL roots d.length=cntL roots d.length/\([]:List FindT)=[]/\((Value.bool ((eS d x3.i).alloc))=(Value.bool ((eS d x4.i).alloc))/\
 (VI ((eS d x3.i).count))=(VI ((eS d x4.i).count))/\(VU ((eS d x3.i).gen))=(VU ((eS d x4.i).gen))/\(VI ((eS d x3.i).node.key))=(VI ((eS d x4.i).node.key))/\(VI ((eS d x3.i).node.value))=(VI ((eS d x4.i).node.value))/\(VU ((eS d x3.i).node.left))=(VU ((eS d x4.i).node.left))/\(VU ((eS d x3.i).node.right))=(VU ((eS d x4.i).node.right))/\(VI ((eS d x3.i).node.size))=(VI ((eS d x4.i).node.size))/\(VI ((eS d x3.i).node.sum))=(VI ((eS d x4.i).node.sum))/\(VI ((eS d x3.i).node.min))=(VI ((eS d x4.i).node.min))/\(VI ((eS d x3.i).node.max))=(VI ((eS d x4.i).node.max))/\True)/\True)/\∀ x4:XCj d roots P0,((x3.i:Int))=((x4.i:Int))->brS ((eS d x4.i).alloc) (0<=(x4.i:Int)/\(x4.i:Int)<(x4.m.length:Int)/\∃ x5:XCj d roots P0,((x4.i:Int))=((x5.i:Int))/\(True/\True/\True/\True/\True/\True/\True/\VI (x4.i:Int)=VI (x5.i:Int)/\(VU (IntKind.u32.wrap (IntKind.i64.wrap ((x.i:Int)+1))))=(VU (IntKind.u32.wrap (IntKind.i64.wrap ((x.i:Int)+1))))/\True/\(Value.bool (!x4.m.getD (x4.i:Int).toNat false))=Value.bool false/\True)/\d=d/\fl=fl/\roots=roots/\(True/\True/\True)/\(cntL (kidsL d) d.length)=(cntL (kidsL d) d.length)/\x4.m=x5.m/\cntL fl d.length=cntL fl d.length/\cntL roots d.length=cntL roots d.length/\([]:List FindT)=[]/\((Value.bool ((eS d x4.i).alloc))=(Value.bool ((eS d x5.i).alloc))/\(VI ((eS d x4.i).count))=(VI ((eS d x5.i).count))/\(VU ((eS d x4.i).gen))=(VU ((eS d x5.i).gen))/\(VI ((eS d x4.i).node.key))=(VI ((eS d x5.i).node.key))/\(VI ((eS d x4.i).node.value))=(VI ((eS d x5.i).node.value))/\(VU ((eS d x4.i).node.left))=(VU ((eS d x5.i).node.left))/\
 (VU ((eS d x4.i).node.right))=(VU ((eS d x5.i).node.right))/\(VI ((eS d x4.i).node.size))=(VI ((eS d x5.i).node.size))/\(VI ((eS d x4.i).node.sum))=(VI ((eS d x5.i).node.sum))/\(VI ((eS d x4.i).node.min))=(VI ((eS d x5.i).node.min))/\(VI ((eS d x4.i).node.max))=(VI ((eS d x5.i).node.max))/\True)/\True) (∃ x5:XCj d roots P0,((x4.i:Int))=((x5.i:Int))/\(True/\True/\True/\True/\True/\True/\True/\VI (x4.i:Int)=VI (x5.i:Int)/\(VU (IntKind.u32.wrap (IntKind.i64.wrap ((x.i:Int)+1))))=(VU (IntKind.u32.wrap (IntKind.i64.wrap ((x.i:Int)+1))))/\True/\Value.bool false=Value.bool false/\True)/\d=d/\fl=fl/\roots=roots/\(True/\True/\True)/\(cntL (kidsL d) d.length)=(cntL (kidsL d) d.length)/\x4.m=x5.m/\cntL fl d.length=cntL fl d.length/\cntL roots d.length=cntL roots d.length/\([]:List FindT)=[]/\((Value.bool ((eS d x4.i).alloc))=(Value.bool ((eS d x5.i).alloc))/\(VI ((eS d x4.i).count))=(VI ((eS d x5.i).count))/\(VU ((eS d x4.i).gen))=(VU ((eS d x5.i).gen))/\(VI ((eS d x4.i).node.key))=(VI ((eS d x5.i).node.key))/\(VI ((eS d x4.i).node.value))=(VI ((eS d x5.i).node.value))/\(VU ((eS d x4.i).node.left))=(VU ((eS d x5.i).node.left))/\(VU ((eS d x4.i).node.right))=(VU ((eS d x5.i).node.right))/\(VI ((eS d x4.i).node.size))=(VI ((eS d x5.i).node.size))/\(VI ((eS d x4.i).node.sum))=(VI ((eS d x5.i).node.sum))/\(VI ((eS d x4.i).node.min))=(VI ((eS d x5.i).node.min))/\(VI ((eS d x4.i).node.max))=(VI ((eS d x5.i).node.max))/\True)/\True)/\∀ x5:XCj d roots P0,((x4.i:Int))=((x5.i:Int))->∃ x':XCk d roots,True/\
 ((True/\True/\True/\True/\True/\True/\True/\(VI (IntKind.i64.wrap ((x5.i:Int)+1)))=(VI (x'.i:Int))/\True)/\d=d/\fl=fl/\roots=roots/\(True/\True/\True)/\(cntL (kidsL d) d.length)=(cntL (kidsL d) d.length)/\x5.m=x'.m/\cntL fl d.length=cntL fl d.length/\cntL roots d.length=cntL roots d.length/\([]:List FindT)=[]/\True)/\d.length-x'.i<d.length-x.i) ((∃ x1:XIx fl.length,True/\(True/\True/\True/\VI 0=(VI (x1.i:Int))/\True)/\d=d/\fl=fl/\roots=roots/\(True/\True/\True)/\([]:List FindT)=[]/\True)/\∀ x1:XIx fl.length,True->brS (decide ((x1.i:Int)<(fl.length:Int))) ((0<=(x1.i:Int)/\(x1.i:Int)<(fl.length:Int)/\brS (decide (fl.getD (x1.i:Int).toNat 0<1)) (∃ x2:XIy fl.length,((x1.i:Int))=((x2.i:Int))/\(True/\True/\True/\VI (x1.i:Int)=VI (x2.i:Int)/\Value.bool true=Value.bool false/\True)/\d=d/\fl=fl/\roots=roots/\(True/\True/\True)/\([]:List FindT)=[]/\True) (0<=(x1.i:Int)/\(x1.i:Int)<(fl.length:Int)/\∃ x2:XIy fl.length,((x1.i:Int))=((x2.i:Int))/\(True/\True/\True/\VI (x1.i:Int)=VI (x2.i:Int)/\(Value.bool (decide (IntKind.u64.wrap (fl.getD (x1.i:Int).toNat 0)>IntKind.u64.wrap (d.length:Int))))=Value.bool false/\True)/\d=d/\fl=fl/\roots=roots/\(True/\True/\True)/\([]:List FindT)=[]/\True))/\∀ x2:XIy fl.length,((x1.i:Int))=((x2.i:Int))->∃ x':XIx fl.length,True/\((True/\True/\True/\(VI (IntKind.i64.wrap ((x2.i:Int)+1)))=(VI (x'.i:Int))/\True)/\d=d/\fl=fl/\roots=roots/\(True/\True/\True)/\([]:List FindT)=[]/\True)/\fl.length-x'.i<fl.length-x1.i) ((∃ x2:XIx roots.length,True/\(True/\True/\True/\
 VI 0=(VI (x2.i:Int))/\True)/\d=d/\fl=fl/\roots=roots/\(True/\True/\True)/\([]:List FindT)=[]/\True)/\∀ x2:XIx roots.length,True->brS (decide ((x2.i:Int)<(roots.length:Int))) ((0<=(x2.i:Int)/\(x2.i:Int)<(roots.length:Int)/\brS (roots.getD (x2.i:Int).toNat 0 != 0) (0<=(x2.i:Int)/\(x2.i:Int)<(roots.length:Int)/\inU (roots.getD (x2.i:Int).toNat 0)/\d.length<=1000000/\∃ x3:XIy roots.length,((x2.i:Int))=((x3.i:Int))/\(True/\True/\True/\VI (x2.i:Int)=VI (x3.i:Int)/\(Value.bool (!alcD d (roots.getD (x2.i:Int).toNat 0)))=Value.bool false/\True)/\d=d/\fl=fl/\roots=roots/\(True/\True/\True)/\([]:List FindT)=[]/\True) (∃ x3:XIy roots.length,((x2.i:Int))=((x3.i:Int))/\(True/\True/\True/\VI (x2.i:Int)=VI (x3.i:Int)/\Value.bool false=Value.bool false/\True)/\d=d/\fl=fl/\roots=roots/\(True/\True/\True)/\([]:List FindT)=[]/\True))/\∀ x3:XIy roots.length,((x2.i:Int))=((x3.i:Int))->∃ x':XIx roots.length,True/\((True/\True/\True/\(VI (IntKind.i64.wrap ((x3.i:Int)+1)))=(VI (x'.i:Int))/\True)/\d=d/\fl=fl/\roots=roots/\(True/\True/\True)/\([]:List FindT)=[]/\True)/\roots.length-x'.i<roots.length-x2.i) (K (.one (.at (.slc 3))) [(.row false EC.slot (d)),(.row false EC.u32 (fl)),(.row false EC.u32 (roots)),(.row true EC.find [])] []))))=_ by kernel_rfl) ?_
 subst hP0 hP1 hP2 hP3 hP4
 refine⟨hl,hk,fun o eo=>⟨hl,hr,hk,hru,fun m hm=>⟨by omega,by omega,hf,hfu,fun o1 e1=>⟨by omega,by omega,hr,hru,fun o2 e2=>⟨⟨⟨0,m,Nat.zero_le _,hm⟩,?_⟩,fun x _=>?_⟩⟩⟩⟩⟩
 ·(repeat' first|exact trivial|exact rfl|exact eo|exact e1|exact e2|refine And.intro ?_ ?_)
 obtain⟨i,m,hi,hm⟩:=x
 dsimp only
 refine brS_of (fun c=>?_) fun c=>?_
 ·have c:i<d.length:=by have:=of_decide_eq_true c;omega
  refine⟨by omega,by omega,brS_of (fun a=>⟨⟨i,m,0,c,hm,(if_pos a).symm⟩,?_⟩) fun a=>⟨⟨i,m,1,c,hm,(if_neg (fun z=>by rw[show (eS d i).alloc=false from a] at z;cases z)).symm⟩,?_⟩,fun x1 e1=>?_⟩
  ·(repeat' first|exact trivial|exact rfl|refine And.intro ?_ ?_)
  ·(repeat' first|exact trivial|exact rfl|refine And.intro ?_ ?_)
  obtain⟨i1,m1,c1,hi1,hm1,p1⟩:=x1
  have e1:(i:Int)=(i1:Int):=e1
  have e1:i=i1:=by omega
  subst e1
  dsimp only
  have b1:((cntL fl d.length).getD i 0 != c1)=false:=by
   rw[cntL_get fl _ _ c,hc.free i c,show c1=_ from p1]
   show (((if (eS d i).alloc=true then (0:Nat) else 1:Nat):Int) != if (eS d i).alloc=true then (0:Int) else 1)=false
   cases (eS d i).alloc<;>rfl
  refine⟨by omega,by rw[cntL_len];omega,⟨⟨i,m1,0,c,hm1,trivial⟩,?_⟩,fun x2 e2=>?_⟩
  ·(repeat' first|exact trivial|exact rfl|exact congrArg Value.bool b1|refine And.intro ?_ ?_)
  obtain⟨i2,m2,c2,hi2,hm2,p2⟩:=x2
  have e2:(i:Int)=(i2:Int):=e2
  have e2:i=i2:=by omega
  subst e2
  dsimp only
  have hmem:eS d i∈d:=by unfold eS;rw[List.getD_eq_getElem?_getD,List.getElem?_eq_getElem c];exact List.getElem_mem c
  obtain⟨kl,kr⟩:=hk _ hmem
  refine⟨brS_of (fun a=>⟨?_,fun x3 e3=>?_⟩) fun a=>⟨⟨i,m2,0,c,hm2,(if_neg (fun z=>by rw[show (eS d i).alloc=false from a] at z;cases z)).symm⟩,?_⟩,fun x3 e3=>?_⟩
  ·have sl:=szD_rng hc (eS d i).node.left
   have sr:=szD_rng hc (eS d i).node.right
   have il:=hc.left i c a
   have ir:=hc.right i c a
   have dl:d.length<=1000000:=by omega
   have w1:(0:Int)<=IntKind.i64.wrap (0+1):=by decide
   have w2:IntKind.i64.wrap (0+1)<((2:Nat):Int):=by decide
   refine⟨by decide,by decide,kl,dl,brS_of (fun al=>?_) fun al=>?_⟩
   ·obtain⟨q1,q2,q3⟩:=eS_sz hc hl al
    refine⟨by decide,by decide,q1,q2,w1,w2,kr,dl,brS_of (fun ar=>?_) fun ar=>?_⟩
    ·obtain⟨t1,t2,t3⟩:=eS_sz hc hl ar
     refine⟨w1,w2,t1,t2,⟨i,m2,_,c,hm2,a,rfl⟩,?_⟩
     have v:IntKind.i64.wrap (IntKind.i64.wrap (1+(eS d (IntKind.u32.wrap ((eS d i).node.left-1)).toNat).node.size)+(eS d (IntKind.u32.wrap ((eS d i).node.right-1)).toNat).node.size)=1+szD d (eS d i).node.left+szD d (eS d i).node.right:=by
      rw[q3,t3,wrap_id (x:=1+szD d (eS d i).node.left) (by omega) (by omega),wrap_id (by omega) (by omega)]
     (repeat' first|exact trivial|exact rfl|exact congrArg (Value.int IntKind.i64) v|refine And.intro ?_ ?_)
    ·have z:=szD_no ar
     refine⟨w1,w2,brS_of (fun f=>?_) fun f=>⟨⟨i,m2,_,c,hm2,a,rfl⟩,?_⟩⟩
     ·exfalso
      rcases ir with e|e
      ·rw[show (eS d i).node.right=0 from e] at f;cases f
      ·rw[show alcD d (eS d i).node.right=true from e] at ar;cases ar
     ·have v:IntKind.i64.wrap (1+(eS d (IntKind.u32.wrap ((eS d i).node.left-1)).toNat).node.size)=1+szD d (eS d i).node.left+szD d (eS d i).node.right:=by
       rw[q3,z,wrap_id (x:=1+szD d (eS d i).node.left) (by omega) (by omega)];omega
      (repeat' first|exact trivial|exact rfl|exact congrArg (Value.int IntKind.i64) v|refine And.intro ?_ ?_)
   ·have z1:=szD_no al
    refine⟨by decide,by decide,brS_of (fun f=>?_) fun f=>⟨w1,w2,kr,dl,brS_of (fun ar=>?_) fun ar=>?_⟩⟩
    ·exfalso
     rcases il with e|e
     ·rw[show (eS d i).node.left=0 from e] at f;cases f
     ·rw[show alcD d (eS d i).node.left=true from e] at al;cases al
    ·obtain⟨t1,t2,t3⟩:=eS_sz hc hl ar
     refine⟨w1,w2,t1,t2,⟨i,m2,_,c,hm2,a,rfl⟩,?_⟩
     have v:IntKind.i64.wrap (1+(eS d (IntKind.u32.wrap ((eS d i).node.right-1)).toNat).node.size)=1+szD d (eS d i).node.left+szD d (eS d i).node.right:=by
      rw[t3,z1,wrap_id (x:=1+szD d (eS d i).node.right) (by omega) (by omega)];omega
     (repeat' first|exact trivial|exact rfl|exact congrArg (Value.int IntKind.i64) v|refine And.intro ?_ ?_)
    ·have z:=szD_no ar
     refine⟨w1,w2,brS_of (fun f=>?_) fun f=>⟨⟨i,m2,_,c,hm2,a,rfl⟩,?_⟩⟩
     ·exfalso
      rcases ir with e|e
      ·rw[show (eS d i).node.right=0 from e] at f;cases f
      ·rw[show alcD d (eS d i).node.right=true from e] at ar;cases ar
     ·have v:1=1+szD d (eS d i).node.left+szD d (eS d i).node.right:=by omega
      (repeat' first|exact trivial|exact rfl|exact congrArg (Value.int IntKind.i64) v|refine And.intro ?_ ?_)
  ·obtain⟨i3,m3,c3,hi3,hm3,a3,p3⟩:=x3
   have e3:(i:Int)=(i3:Int):=e3
   have e3:i=i3:=by omega
   subst e3
   dsimp only
   have b3:(c3 != (eS d i).node.size)=false:=by
    have:=hc.size i c a3
    rw[p3,show (eS d i).node.size=_ from this];simp
   refine⟨⟨⟨i,m3,0,c,hm3,a3⟩,?_⟩,fun x4 e4=>?_⟩
   ·(repeat' first|exact trivial|exact rfl|exact congrArg Value.bool b3|refine And.intro ?_ ?_)
   obtain⟨i4,m4,c4,hi4,hm4,p4⟩:=x4
   have e4:(i:Int)=(i4:Int):=e4
   have e4:i=i4:=by omega
   subst e4
   dsimp only
   refine⟨by omega,by rw[cntL_len];omega,by omega,by rw[cntL_len];omega,⟨i,m4,_,c,hm4,rfl⟩,?_⟩
   have v:IntKind.i64.wrap ((cntL (kidsL d) d.length).getD i 0+(cntL roots d.length).getD i 0)=if (eS d i).alloc=true then ((kidsL d).count ((i:Int)+1):Int)+(roots.count ((i:Int)+1):Int) else 0:=by
    have k1:=cntL_rng (kidsL d) d.length i c
    have k2:=cntL_rng roots d.length i c
    have k3:=kidsL_len d
    rw[wrap_id (by omega) (by omega),cntL_get _ _ _ c,cntL_get _ _ _ c,if_pos a3]
   (repeat' first|exact trivial|exact rfl|exact congrArg (Value.int IntKind.i64) v|refine And.intro ?_ ?_)
  ·(repeat' first|exact trivial|exact rfl|refine And.intro ?_ ?_)
  obtain⟨i3,m3,c3,hi3,hm3,p3⟩:=x3
  have e3:(i:Int)=(i3:Int):=e3
  have e3:i=i3:=by omega
  subst e3
  dsimp only
  have b3:(c3 != (eS d i).count)=false:=by
   have:=hc.count i c
   rw[show c3=_ from p3,show (eS d i).count=_ from this];simp
  refine⟨⟨⟨i,m3,0,c,hm3,trivial⟩,?_⟩,fun x4 e4=>?_⟩
  ·(repeat' first|exact trivial|exact rfl|exact congrArg Value.bool b3|refine And.intro ?_ ?_)
  obtain⟨i4,m4,c4,hi4,hm4,p4⟩:=x4
  have e4:(i:Int)=(i4:Int):=e4
  have e4:i=i4:=by omega
  subst e4
  dsimp only
  refine⟨brS_of (fun a=>⟨by omega,by rw[hm4.len];omega,⟨i,m4,0,c,hm4,trivial⟩,?_⟩) fun a=>⟨⟨i,m4,0,c,hm4,trivial⟩,?_⟩,fun x5 e5=>?_⟩
  ·have b4:(!m4.getD i false)=false:=by rw[hc.mark m4 hm4 i c a];rfl
   (repeat' first|exact trivial|exact rfl|exact congrArg Value.bool b4|refine And.intro ?_ ?_)
  ·(repeat' first|exact trivial|exact rfl|refine And.intro ?_ ?_)
  obtain⟨i5,m5,c5,hi5,hm5,p5⟩:=x5
  have e5:(i:Int)=(i5:Int):=e5
  have e5:i=i5:=by omega
  subst e5
  dsimp only
  refine⟨⟨i+1,m5,c,hm5⟩,?_⟩
  have v:IntKind.i64.wrap ((i:Int)+1)=((i+1:Nat):Int):=by rw[wrap_id (by omega) (by omega)];rfl
  (repeat' first|exact trivial|exact rfl|exact congrArg (Value.int IntKind.i64) v|refine And.intro ?_ ?_)
  show d.length-(i+1)<d.length-i
  omega
 ·refine⟨⟨⟨0,Nat.zero_le _⟩,?_⟩,fun x _=>?_⟩
  ·(repeat' first|exact trivial|exact rfl|refine And.intro ?_ ?_)
  obtain⟨j,hj⟩:=x
  dsimp only
  refine brS_of (fun c=>?_) fun _=>?_
  ·have c:j<fl.length:=by have:=of_decide_eq_true c;omega
   have hx:fl.getD j 0∈fl:=by rw[List.getD_eq_getElem?_getD,List.getElem?_eq_getElem c];exact List.getElem_mem c
   have hg:=hc.rng _ hx
   obtain⟨u1,u2⟩:=hfu _ hx
   refine⟨⟨by omega,by omega,brS_of (fun f=>?_) fun _=>⟨by omega,by omega,⟨j,c⟩,?_⟩⟩,fun y e=>?_⟩
   ·have f:fl.getD j 0<1:=of_decide_eq_true f
    omega
   ·have b:decide (IntKind.u64.wrap (fl.getD j 0)>IntKind.u64.wrap (d.length:Int))=false:=by
     rw[wrap_u64 (x:=fl.getD j 0) u1 (by omega),wrap_u64 (x:=(d.length:Int)) (by omega) (by omega)]
     exact decide_eq_false (by omega)
    (repeat' first|exact trivial|exact rfl|exact congrArg Value.bool b|refine And.intro ?_ ?_)
   ·obtain⟨j1,hj1⟩:=y
    have e:(j:Int)=(j1:Int):=e
    have e:j=j1:=by omega
    subst e
    dsimp only
    refine⟨⟨j+1,c⟩,?_⟩
    have v:IntKind.i64.wrap ((j:Int)+1)=((j+1:Nat):Int):=by rw[wrap_id (by omega) (by omega)];rfl
    (repeat' first|exact trivial|exact rfl|exact congrArg (Value.int IntKind.i64) v|refine And.intro ?_ ?_)
    show fl.length-(j+1)<fl.length-j
    omega
  ·refine⟨⟨⟨0,Nat.zero_le _⟩,?_⟩,fun x _=>?_⟩
   ·(repeat' first|exact trivial|exact rfl|refine And.intro ?_ ?_)
   obtain⟨j,hj⟩:=x
   dsimp only
   refine brS_of (fun c=>?_) fun _=>h
   have c:j<roots.length:=by have:=of_decide_eq_true c;omega
   have hx:roots.getD j 0∈roots:=by rw[List.getD_eq_getElem?_getD,List.getElem?_eq_getElem c];exact List.getElem_mem c
   have hg:=hc.held _ hx
   refine⟨⟨by omega,by omega,brS_of (fun f=>⟨by omega,by omega,hru _ hx,by omega,⟨j,c⟩,?_⟩) fun _=>⟨⟨j,c⟩,?_⟩⟩,fun y e=>?_⟩
   ·have b:(!alcD d (roots.getD j 0))=false:=by
     rcases hg with e|e
     ·have f:(roots.getD j 0 != 0)=true:=f
      rw[e] at f;cases f
     ·rw[e];rfl
    (repeat' first|exact trivial|exact rfl|exact congrArg Value.bool b|refine And.intro ?_ ?_)
   ·(repeat' first|exact trivial|exact rfl|refine And.intro ?_ ?_)
   ·obtain⟨j1,hj1⟩:=y
    have e:(j:Int)=(j1:Int):=e
    have e:j=j1:=by omega
    subst e
    dsimp only
    refine⟨⟨j+1,c⟩,?_⟩
    have v:IntKind.i64.wrap ((j:Int)+1)=((j+1:Nat):Int):=by rw[wrap_id (by omega) (by omega)];rfl
    (repeat' first|exact trivial|exact rfl|exact congrArg (Value.int IntKind.i64) v|refine And.intro ?_ ?_)
    show roots.length-(j+1)<roots.length-j
    omega
theorem s_chk:SoundT C0 115 tChk:=by
 refine .of Tryz.func115 (by decide) rfl fun args H K h hB=>?_
 unfold tChk at h
 split at h<;>try exact h.elim
 rename_i d fl roots
 obtain⟨h1,h2,h3,h4,h5,h6,h7,h⟩:=h
 exact⟨aChk P0c (P1c d) (P2c d) (P3c d roots) (P4c d) d fl roots,⟨frame C0.ok s_ine _,frame C0.ok s_mk _,frame C0.ok s_cnt _,frame C0.ok s_alc _,frame C0.ok s_kids _,trivial⟩,vc_chk d fl roots K h1 h2 h3 h4 h5 h6 h7 h⟩
theorem s_cln:SoundT C0 65 tCln:=by
 refine .of Tryz.func65 (by decide) rfl fun args H K h hB=>?_
 unfold tCln at h
 split at h<;>try exact h.elim
 rename_i d fl roots
 exact⟨aCln,⟨frame C0.ok s_chk _,trivial⟩,Eq.mp (show (CleanD d fl roots/\kidsU d/\allU fl/\allU roots/\d.length<=100000/\fl.length<=1000000/\roots.length<=1000000/\K (.one (.at (.val (Value.bool true)))) [(.row false EC.slot (d)),(.row false EC.u32 (fl)),(.row false EC.u32 (roots))] [])=_ by kernel_rfl) h⟩
theorem vc_sound (S:Arn)(roots hs:List Int)(K:KT)(w:Wf S hs)(p:roots.Perm hs)(hr:roots.length<=1000000)(h:K (.one (.at (vB true))) (chS S++[.row false EC.u32 roots]) []) :
  vc C0 aSound Tryz.f22 [.at (.ptr 0 0),.at (.slc 7)] (chS S++[.row false EC.u32 roots]) (normK 8 K):=by
 refine Eq.mp (show (exW S/\∀ d:List SlotT,∀ o:List Int,d=slotsOf S->o=orderOf S->CleanD d o roots/\kidsU d/\allU o/\allU roots/\d.length<=100000/\o.length<=1000000/\roots.length<=1000000/\K (.one (.at (.val (Value.bool true)))) [(.box [(.ptr 1 0),(.slc 2),(.slc 3),(.val (VW (S.reads)))]),(.box [(.slc 4),(.slc 5),(.slc 6),(.val (VU (S.fresh)))]),(.row true EC.node (S.nodes)),(.row true EC.int (S.counts)),(.row true EC.bool (S.used)),(.row true EC.u32 (S.gen)),(.row true EC.u32 (S.rel)),(.row false EC.u32 (roots))] [])=_ by kernel_rfl) ?_
 have nc:ncap S<=65537:=by have:=w.n2;unfold ncap;omega
 have ol:=order_len w
 have ku:=kidsU_slots w
 have cs:=clean_slots w p
 have sl:=slotsOf_len S
 refine⟨⟨hs,w⟩,fun d o ed eo=>?_⟩
 subst ed eo
 refine⟨cs,ku,fun x hx=>?_,fun x hx=>Wf.inU_held w (p.mem_iff.1 hx),by omega,by omega,hr,h⟩
 have:=((order_mem w x).1 hx).1
 exact⟨by omega,by omega⟩
theorem s_sound:SoundT C0 22 tSound:=by
 refine .of Tryz.func22 (by decide) rfl fun args H K h hB=>?_
 unfold tSound at h
 split at h<;>try exact h.elim
 unfold arMr at h
 split at h<;>try exact h.elim
 split at h<;>try exact h.elim
 rename_i rd fr nd ct us gn rl _ roots
 obtain⟨hs,w,p,hr,h⟩:=h
 exact⟨aSound,⟨frame C0.ok s_dump _,frame C0.ok s_cln _,trivial⟩,vc_sound ⟨us,gn,rl,fr,nd,ct,rd⟩ roots hs K w p hr h⟩
end Go.Proofs.YtedfbafngmicpaaGreat.Sx
end
