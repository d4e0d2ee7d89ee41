/- A part of the proof. -/
import Derived.Test.YtedfbafngmicpaaGreatG11
import Derived.Test.YtedfbafngmicpaaGreatG6
import Derived.Test.YtedfbafngmicpaaGreatG10
import Derived.Test.YtedfbafngmicpaaGreatG5
section
/- The reference's Export and Digest, on a dump. -/
namespace Go.Proofs.YtedfbafngmicpaaGreat.Sx
open Go

/-KEEP allB allQ vE vsE wB kB zz crc exI frE itC xorI getB jnA DgW allVb NumD NumsD refL notI plcN sltD alcD slotsOf lfD rgD pkE encN rcE magB hdE uvA ExD DgD eNq-/
def nodQ (d:List SlotT)(la:List Int)(i:Int):PNT:=⟨(sltD d i).node.key,(sltD d i).node.value,plcN la (lfD d i),plcN la (rgD d i)⟩
def pkQ (d:List SlotT)(lk la rs:List Int)(D:Int):List Int:=pkE lk.length D ((la.drop lk.length).map (nodQ d la)) (rs.map (plcN la))
def DgD (d:List SlotT)(rs:List Int)(D:Int):Prop:=(rs=[]/\D=0)∨(rs≠[]/\∃ l,NumsD d rs [] l/\D=crc (pkQ d [] l rs 0))
structure ExD (d:List SlotT) (rs ks o:List Int):Prop where
 ex:∃ lk la D,NumsD d ks [] lk/\NumsD d rs lk la/\DgD d ks D/\o=pkQ d lk la rs D
 ab:allB o
 bl:o.length<=8000000
def InD (d:List SlotT)(l:List Int):Prop:=∀ i∈l,rngI (sltD d i).node.key/\rngI (sltD d i).node.value
def KyD (d:List SlotT)(rs:List Int):Prop:=∀ l,NumsD d rs [] l->InD d l
def inL (d:List SlotT)(l:List Int):Prop:=∀ x∈l,0<=x/\x<=(d.length:Int)
def KdD (d:List SlotT):Prop:=∀ i,alcD d i=true->(0<=lfD d i/\lfD d i<=(d.length:Int))/\0<=rgD d i/\rgD d i<=(d.length:Int)
structure ExB8 (d:List SlotT) (rs ks:List Int):Prop where
 w:DgW d
 kd:KdD d
 rl:rs.length<=90000
 kl:ks.length<=90000
 ri:inL d rs
 ki:inL d ks
 ky:KyD d (ks++rs)
def tExQ (B:List SlotT->List Int->List Int->Prop):Tfm C0:=fun args H K=>match args with
 | [.agg [.slc 0,.slc 1],.at (.slc 2),.at (.slc 3)]=>dgM H fun d fl rs ks=>B d rs ks/\∀ o,ExD d rs ks o->K (.one (.at (.slc 4))) (hD4 d fl rs ks++[.row true EC.u8 o]) []
 | _=>False
def tDgD (Q:List SlotT->List Int->Prop):Tfm C0:=fun args H K=>match args,H with
 | [.agg [.slc 0,.slc 1],.at (.slc 2)],[.row false .slot d,.row false .u32 fl,.row false .u32 rs]=>Q d rs/\∀ D,DgD d rs D->0<=D->D<4294967296->K (.one (.at (vU D))) [.row false EC.slot d,.row false EC.u32 fl,.row false EC.u32 rs] []
 | _,_=>False
abbrev bxN8 (x:NodeT):Chunk C0:=.box [vI x.key,vI x.value,vU x.left,vU x.right,vI x.size,vI x.sum,vI x.min,vI x.max]
def eNq (d:List SlotT)(lk la:List Int)(i:Nat):NodeT:=(eS d (getB (la.drop lk.length) i-1).toNat).node
structure XE8a (P:List Int->List Int->List Int->Nat->Prop) where
 lk:List Int
 la:List Int
 o:List Int
 i:Nat
 h:P lk la o i
structure XE8b (P:List Int->List Int->List Int->List Int->Nat->Prop) where
 lk:List Int
 la:List Int
 o:List Int
 q:List Int
 i:Nat
 h:P lk la o q i
noncomputable def aEx28 (B:List SlotT->List Int->Prop)(P1 P0 P3:List Int->List Int->List Int->Nat->Prop)(P4 P2:List Int->List Int->List Int->List Int->Nat->Prop)(d:List SlotT)(fl rs ks:List Int):Ann C0:={ quiet:=[9999999,68,69,72,73],Γ:=[(67,frameT [] tRf),(68,frameT [] tVr),(69,frameT [] tFr8),(72,frameT [] tKb),(73,frameT [] tZr),(70,frameT [] tJnR),(71,frameT [] tWd),(37,frameT [] (tDgD B))],inv:=fun m=>match m with
 | 5=>some { X:=XE8a P1,sl:=[3,7,8,11,12],tf:=fun x=>[.one (.at (.ptr 4 0)),.one (.at (.slc 5)),.one (.at (.slc 6)),.one (.at (.slc 7)),vi .i64 x.i],hf:=fun x=>hD4 d fl rs ks++[.box [.slc 0,.slc 1],.row true EC.u64 (refL d.length x.la),.row true EC.u32 (x.la.drop x.lk.length),.row true EC.u8 x.o],μ:=fun x=>200000-x.i }
 | 1008=>some { X:=XE8a P0,sl:=[3,7,8,11,12,13],tf:=fun x=>[.one (.at (.ptr 4 0)),.one (.at (.slc 5)),.one (.at (.slc 6)),.one (.at (.slc 7)),vi .i64 x.i,.one (.at (.ptr 8 0))],hf:=fun x=>hD4 d fl rs ks++[.box [.slc 0,.slc 1],.row true EC.u64 (refL d.length x.la),.row true EC.u32 (x.la.drop x.lk.length),.row true EC.u8 x.o,bxN8 (eNq d x.lk x.la x.i)],rel:=fun T _ x=>slotI T 12 x.i }
 | 1009=>some { X:=XE8b P2,sl:=[3,7,8,11,12,13,14],tf:=fun x=>[.one (.at (.ptr 4 0)),.one (.at (.slc 5)),.one (.at (.slc 6)),.one (.at (.slc 7)),vi .i64 x.i,.one (.at (.ptr 8 0)),.one (.at (.slc 9))],hf:=fun x=>hD4 d fl rs ks++[.box [.slc 0,.slc 1],.row true EC.u64 (refL d.length x.la),.row true EC.u32 (x.la.drop x.lk.length),.row true EC.u8 x.o,bxN8 (eNq d x.lk x.la x.i),.row true EC.u8 x.q],rel:=fun T _ x=>slotI T 12 x.i }
 | 1006=>some { X:=XE8a P3,sl:=[3,7,8,11,12],tf:=fun x=>[.one (.at (.ptr 4 0)),.one (.at (.slc 5)),.one (.at (.slc 6)),.one (.at (.slc 7)),vi .i64 x.i],hf:=fun x=>hD4 d fl rs ks++[.box [.slc 0,.slc 1],.row true EC.u64 (refL d.length x.la),.row true EC.u32 (x.la.drop x.lk.length),.row true EC.u8 x.o],rel:=fun T _ x=>slotI T 12 x.i }
 | 12=>some { X:=XE8b P4,sl:=[7,10,11,15],tf:=fun x=>[.one (.at (.slc 4)),.one (.at (.slc 5)),.one (.at (.slc 6)),vi .i64 x.i],hf:=fun x=>hD4 d fl rs ks++[.row true EC.u64 (refL d.length x.la),.row true EC.u8 x.q,.row true EC.u8 x.o],μ:=fun x=>rs.length-x.i }
 | _=>none }
noncomputable def aDg28 (B:List SlotT->List Int->List Int->Prop):Ann C0:={ Γ:=[(25,frameT [] (tExQ B)),(83,frameT [] tCk)] }
theorem inL.v {d:List SlotT}(hd:DgW d){l:List Int}(h:inL d l):allVb l:=fun x hx=>by
 have:=h x hx
 have:=hd.len
 exact⟨by omega,by omega⟩
theorem repG_D {d:List SlotT}(hd:DgW d):∀ (n:Nat) (i:Int),szT d i<=n->RepG (alcD d) (lfD d) (rgD d) n i
 | 0,i,h=>by
  cases u:alcD d i with
  | false=>exact u
  | true=>have:=hd.sz i u;omega
 | n+1,i,h=>by
  cases u:alcD d i with
  | false=>exact .inl u
  | true =>
   have:=hd.sz i u
   exact .inr ⟨repG_D hd n _ (by omega),repG_D hd n _ (by omega)⟩
theorem numsD_ex {d:List SlotT}(hd:DgW d)(r acc:List Int):∃ a,NumsD d r acc a:=NumsG.ex r acc fun i _=>⟨_,repG_D hd _ i (Nat.le_refl _)⟩
theorem KyD.left {d:List SlotT}(hd:DgW d){ks rs:List Int}(h:KyD d (ks++rs)):KyD d ks:=fun l nl=>by
 obtain⟨la,na⟩:=numsD_ex hd rs l
 intro i hi
 exact h la (nl.app na) i (na.sub hi)
def woF (f:Int->PNT)(l:List Int)(D:Int)(k nr i:Nat):List Int:=(((l.drop k).take i).map f).foldl (fun o x=>rcE o (encN x)) (headS k ((l.drop k).length:Nat) nr D)
theorem woF_len (f:Int->PNT)(l:List Int)(D:Int)(k nr i:Nat):(woF f l D k nr i).length<=56+56*l.length:=by
 have h1:=foldE_len (((l.drop k).take i).map f) (headS k ((l.drop k).length:Nat) nr D)
 have h2:=headS_len k ((l.drop k).length:Nat) nr D
 have h3:(((l.drop k).take i).map f).length<=l.length:=by rw[List.length_map,List.length_take,List.length_drop];omega
 unfold woF;omega
theorem woF_go (f:Int->PNT){l:List Int}(D:Int){k nr i:Nat}(h:i<(l.drop k).length):woF f l D k nr (i+1)=rcE (woF f l D k nr i) (encN (f (getB (l.drop k) i))):=by
 unfold woF
 rw[take_getB h,List.map_append,List.foldl_append];rfl
theorem nodQ_ok {d:List SlotT}{l:List Int}(hk:InD d l)(hl:l.length<=100000){i:Int}(hi:i∈l):okP (nodQ d l i):=by
 have a:=plcN_rng l (lfD d i)
 have b:=plcN_rng l (rgD d i)
 exact⟨(hk i hi).1,(hk i hi).2,⟨a.1,by show plcN l (lfD d i)<_;omega⟩,b.1,by show plcN l (rgD d i)<_;omega⟩
theorem woF_allB {d:List SlotT}{l:List Int}{D:Int}{k nr i:Nat}(hk:InD d l)(hl:l.length<=100000)(h1:k<=1000000)(h2:nr<=1000000):allB (woF (nodQ d l) l D k nr i):=by
 refine foldE_allB _ _ (headS_allB D h1 (by rw[List.length_drop];omega) h2) fun x hx=>?_
 obtain⟨j,hj,rfl⟩:=List.mem_map.1 hx
 exact nodQ_ok hk hl (List.mem_of_mem_drop (List.mem_of_mem_take hj))
structure ExF8 (d:List SlotT) (rs ks lk la:List Int) (D:Int):Prop where
 nk:NumsD d ks [] lk
 na:NumsD d rs lk la
 dg:DgD d ks D
 kin:InD d la
 len:la.length<=100000
 us:∀ j∈la,alcD d j=true
 le:lk.length<=la.length
def PE1 (d:List SlotT)(rs ks:List Int):List Int->List Int->List Int->Nat->Prop:=fun lk la o i=>∃ D,ExF8 d rs ks lk la D/\i<=(la.drop lk.length).length/\o=woF (nodQ d la) la D lk.length rs.length i
def PE0 (d:List SlotT)(rs ks:List Int):List Int->List Int->List Int->Nat->Prop:=fun lk la o i=>∃ D,ExF8 d rs ks lk la D/\i<(la.drop lk.length).length/\o=woF (nodQ d la) la D lk.length rs.length i
def PE3 (d:List SlotT)(rs ks:List Int):List Int->List Int->List Int->Nat->Prop:=fun lk la o i=>∃ D,ExF8 d rs ks lk la D/\i<(la.drop lk.length).length/\o=woF (nodQ d la) la D lk.length rs.length (i+1)
def PE2 (d:List SlotT)(rs ks:List Int):List Int->List Int->List Int->List Int->Nat->Prop:=fun lk la o q i=>PE0 d rs ks lk la o i/\q=uvA (kB (eNq d lk la i).key) (zz (eNq d lk la i).value)
def PE4 (d:List SlotT)(rs ks:List Int):List Int->List Int->List Int->List Int->Nat->Prop:=fun lk la o q i=>i<=rs.length/\PE1 d rs ks lk la o (la.drop lk.length).length/\q=vsE [] ((rs.take i).map (plcN la))
theorem enc_uv (x:PNT):uvA (uvA (uvA (kB x.key) (zz x.value)) x.left) x.right=encN x:=by
 unfold uvA encN vsE
 simp[List.append_assoc]
theorem hd_uv (k m r D:Int):jnA (uvA (uvA (uvA [] k) m) r) (wB 4 D)=hdE k m r D:=by
 unfold jnA uvA hdE vsE
 simp[List.append_assoc]
theorem vs_uv (l:List Int)(u:Int):uvA (vsE [] l) u=vsE [] (l++[u]):=by
 unfold uvA vsE
 rw[List.flatMap_append,List.append_assoc]
 simp
theorem vs_len (l:List Int):(vsE [] l).length<=11*l.length:=by
 have:=vsE_len l
 unfold vsE
 rw[List.nil_append];exact this
theorem vs_plc {l r:List Int}(h:l.length<=100000):allB (vsE [] (r.map (plcN l))):=vsE_allB allB_nil fun u hu=>by
 obtain⟨r,_,rfl⟩:=List.mem_map.1 hu
 have pr:=plcN_rng l r
 omega
theorem vc_ex28 (B:List SlotT->List Int->Prop)(d:List SlotT)(fl rs ks:List Int)(K:KT)(hb:ExB8 d rs ks)(hB:B d ks)(h:∀ o,ExD d rs ks o->K (.one (.at (.slc 4))) (hD4 d fl rs ks++[.row true EC.u8 o]) []) :
  vc C0 (aEx28 B (PE1 d rs ks) (PE0 d rs ks) (PE3 d rs ks) (PE4 d rs ks) (PE2 d rs ks) d fl rs ks) Tryz.f25 [.agg [.slc 0,.slc 1],.at (.slc 2),.at (.slc 3)] (hD4 d fl rs ks) (normK 4 K):=by
 generalize hP1:PE1 d rs ks=P1
 generalize hP0:PE0 d rs ks=P0
 generalize hP3:PE3 d rs ks=P3
 generalize hP4:PE4 d rs ks=P4
 generalize hP2:PE2 d rs ks=P2
 refine Eq.mp (show (DgW d/\rs.length<=1000000/\ks.length<=1000000/\allVb rs/\allVb ks/\∀ lk:List Int,∀ la:List Int,NumsD d ks [] lk->NumsD d rs lk la->∀ r:List Int,∀ f:List Int,∀ n:Int,r=refL d.length la->f=List.drop lk.length la->n=((lk.length:Int))->0<=IntKind.u64.wrap n/\IntKind.u64.wrap n<18446744073709551616/\([]:List Ent).length<=900000000/\∀ o:List Int,o=(uvA [] (IntKind.u64.wrap n))->0<=IntKind.u64.wrap (f.length:Int)/\IntKind.u64.wrap (f.length:Int)<18446744073709551616/\o.length<=900000000/\∀ o1:List Int,o1=(uvA o (IntKind.u64.wrap (f.length:Int)))->0<=IntKind.u64.wrap (rs.length:Int)/\IntKind.u64.wrap (rs.length:Int)<18446744073709551616/\o1.length<=900000000/\∀ o2:List Int,o2=(uvA o1 (IntKind.u64.wrap (rs.length:Int)))->0<[86,77,80,49].length/\B (d) (ks)/\∀ D:Int,DgD d ks D->0<=D->D<4294967296->0<=IntKind.u64.wrap D/\IntKind.u64.wrap D<18446744073709551616/\(0:Int)<=4/\(4:Int)<=8/\∀ o3:List Int,o3=(wB (Int.toNat 4) (IntKind.u64.wrap D))->o2.length<=1000000000/\o3.length<=1000000000/\∀ o4:List Int,o4=jnA o2 o3->allB o4/\o4.length<=900000000/\[86,77,80,49].length<=900000000/\∀ o5:List Int,o5=(rcE [86,77,80,49] o4)->(∃ x:XE8a P1,True/\(True/\True/\True/\True/\True/\VI 0=(VI (x.i:Int))/\True)/\d=d/\fl=fl/\rs=rs/\ks=ks/\(True/\True/\True)/\r=refL d.length x.la/\f=List.drop x.lk.length x.la/\o5=x.o/\True)/\∀ x:XE8a P1,True->brS (decide ((x.i:Int)<(↑(List.drop x.lk.length x.la).length:Int))) (((0<=(x.i:Int)/\(x.i:Int)<(↑(List.drop x.lk.length x.la).length:Int)/\0<=IntKind.u32.wrap (getB (List.drop x.lk.length x.la) (x.i:Int).toNat-1)/\
 IntKind.u32.wrap (getB (List.drop x.lk.length x.la) (x.i:Int).toNat-1)<(d.length:Int)/\∃ x1:XE8a P0,((x.i:Int))=((x1.i:Int))/\(True/\True/\True/\True/\True/\VI (x.i:Int)=VI (x1.i:Int)/\True/\True)/\d=d/\fl=fl/\rs=rs/\ks=ks/\(True/\True/\True)/\refL d.length x.la=refL d.length x1.la/\List.drop x.lk.length x.la=List.drop x1.lk.length x1.la/\x.o=x1.o/\((VI ((eS d (IntKind.u32.wrap (getB (List.drop x.lk.length x.la) (x.i:Int).toNat-1)).toNat).node.key))=(VI ((eNq d x1.lk x1.la x1.i).key))/\(VI ((eS d (IntKind.u32.wrap (getB (List.drop x.lk.length x.la) (x.i:Int).toNat-1)).toNat).node.value))=(VI ((eNq d x1.lk x1.la x1.i).value))/\(VU ((eS d (IntKind.u32.wrap (getB (List.drop x.lk.length x.la) (x.i:Int).toNat-1)).toNat).node.left))=(VU ((eNq d x1.lk x1.la x1.i).left))/\(VU ((eS d (IntKind.u32.wrap (getB (List.drop x.lk.length x.la) (x.i:Int).toNat-1)).toNat).node.right))=(VU ((eNq d x1.lk x1.la x1.i).right))/\(VI ((eS d (IntKind.u32.wrap (getB (List.drop x.lk.length x.la) (x.i:Int).toNat-1)).toNat).node.size))=(VI ((eNq d x1.lk x1.la x1.i).size))/\(VI ((eS d (IntKind.u32.wrap (getB (List.drop x.lk.length x.la) (x.i:Int).toNat-1)).toNat).node.sum))=(VI ((eNq d x1.lk x1.la x1.i).sum))/\(VI ((eS d (IntKind.u32.wrap (getB (List.drop x.lk.length x.la) (x.i:Int).toNat-1)).toNat).node.min))=(VI ((eNq d x1.lk x1.la x1.i).min))/\(VI ((eS d (IntKind.u32.wrap (getB (List.drop x.lk.length x.la) (x.i:Int).toNat-1)).toNat).node.max))=(VI ((eNq d x1.lk x1.la x1.i).max))/\True)/\True)/\∀ x1:XE8a P0,((x.i:Int))=((x1.i:Int))->((-9223372036854775808<=(eNq d x1.lk x1.la x1.i).key/\
 (eNq d x1.lk x1.la x1.i).key<=9223372036854775807)/\∀ o6:List Int,o6=(kB (eNq d x1.lk x1.la x1.i).key)->(-9223372036854775808<=(eNq d x1.lk x1.la x1.i).value/\(eNq d x1.lk x1.la x1.i).value<=9223372036854775807)/\∀ u:Int,u=(zz (eNq d x1.lk x1.la x1.i).value)->0<=u/\u<18446744073709551616/\o6.length<=900000000/\∀ o7:List Int,o7=uvA o6 u->∃ x2:XE8b P2,((x1.i:Int))=((x2.i:Int))/\(True/\True/\True/\True/\True/\VI (x1.i:Int)=VI (x2.i:Int)/\True/\True/\True)/\d=d/\fl=fl/\rs=rs/\ks=ks/\(True/\True/\True)/\refL d.length x1.la=refL d.length x2.la/\List.drop x1.lk.length x1.la=List.drop x2.lk.length x2.la/\x1.o=x2.o/\((VI ((eNq d x1.lk x1.la x1.i).key))=(VI ((eNq d x2.lk x2.la x2.i).key))/\(VI ((eNq d x1.lk x1.la x1.i).value))=(VI ((eNq d x2.lk x2.la x2.i).value))/\(VU ((eNq d x1.lk x1.la x1.i).left))=(VU ((eNq d x2.lk x2.la x2.i).left))/\(VU ((eNq d x1.lk x1.la x1.i).right))=(VU ((eNq d x2.lk x2.la x2.i).right))/\(VI ((eNq d x1.lk x1.la x1.i).size))=(VI ((eNq d x2.lk x2.la x2.i).size))/\(VI ((eNq d x1.lk x1.la x1.i).sum))=(VI ((eNq d x2.lk x2.la x2.i).sum))/\(VI ((eNq d x1.lk x1.la x1.i).min))=(VI ((eNq d x2.lk x2.la x2.i).min))/\(VI ((eNq d x1.lk x1.la x1.i).max))=(VI ((eNq d x2.lk x2.la x2.i).max))/\True)/\o7=x2.q/\True)/\∀ x2:XE8b P2,((x1.i:Int))=((x2.i:Int))->0<=(eNq d x2.lk x2.la x2.i).left/\(eNq d x2.lk x2.la x2.i).left<(↑(refL d.length x2.la).length:Int)/\0<=(eNq d x2.lk x2.la x2.i).right/\(eNq d x2.lk x2.la x2.i).right<(↑(refL d.length x2.la).length:Int)/\0<=getB (refL d.length x2.la) (eNq d x2.lk x2.la x2.i).left.toNat/\
 getB (refL d.length x2.la) (eNq d x2.lk x2.la x2.i).left.toNat<18446744073709551616/\x2.q.length<=900000000/\∀ o6:List Int,o6=(uvA x2.q (getB (refL d.length x2.la) (eNq d x2.lk x2.la x2.i).left.toNat))->0<=getB (refL d.length x2.la) (eNq d x2.lk x2.la x2.i).right.toNat/\getB (refL d.length x2.la) (eNq d x2.lk x2.la x2.i).right.toNat<18446744073709551616/\o6.length<=900000000/\∀ o7:List Int,o7=(uvA o6 (getB (refL d.length x2.la) (eNq d x2.lk x2.la x2.i).right.toNat))->allB o7/\o7.length<=900000000/\x2.o.length<=900000000/\∀ o8:List Int,o8=rcE x2.o o7->∃ x3:XE8a P3,((x.i:Int))=((x3.i:Int))/\(True/\True/\True/\True/\True/\VI (x2.i:Int)=VI (x3.i:Int)/\True)/\d=d/\fl=fl/\rs=rs/\ks=ks/\(True/\True/\True)/\refL d.length x2.la=refL d.length x3.la/\List.drop x2.lk.length x2.la=List.drop x3.lk.length x3.la/\o8=x3.o/\True)/\∀ x1:XE8a P3,((x.i:Int))=((x1.i:Int))->∃ x':XE8a P1,True/\((True/\True/\True/\True/\True/\(VI (IntKind.i64.wrap ((x1.i:Int)+1)))=(VI (x'.i:Int))/\True)/\d=d/\fl=fl/\rs=rs/\ks=ks/\(True/\True/\True)/\refL d.length x1.la=refL d.length x'.la/\List.drop x1.lk.length x1.la=List.drop x'.lk.length x'.la/\x1.o=x'.o/\True)/\200000-x'.i<200000-x.i) ((∃ x1:XE8b P4,True/\(True/\True/\True/\True/\VI 0=(VI (x1.i:Int))/\True)/\d=d/\fl=fl/\rs=rs/\ks=ks/\refL d.length x.la=refL d.length x1.la/\[]=x1.q/\x.o=x1.o/\True)/\∀ x1:XE8b P4,True->brS (decide ((x1.i:Int)<(rs.length:Int))) (0<=(x1.i:Int)/\(x1.i:Int)<(rs.length:Int)/\0<=getB rs (x1.i:Int).toNat/\getB rs (x1.i:Int).toNat<(↑(refL d.length x1.la).length:Int)/\
 0<=getB (refL d.length x1.la) (getB rs (x1.i:Int).toNat).toNat/\getB (refL d.length x1.la) (getB rs (x1.i:Int).toNat).toNat<18446744073709551616/\x1.q.length<=900000000/\∀ o6:List Int,o6=(uvA x1.q (getB (refL d.length x1.la) (getB rs (x1.i:Int).toNat).toNat))->∃ x':XE8b P4,True/\((True/\True/\True/\True/\(VI (IntKind.i64.wrap ((x1.i:Int)+1)))=(VI (x'.i:Int))/\True)/\d=d/\fl=fl/\rs=rs/\ks=ks/\refL d.length x1.la=refL d.length x'.la/\o6=x'.q/\x1.o=x'.o/\True)/\rs.length-x'.i<rs.length-x1.i) (allB x1.q/\x1.q.length<=900000000/\x1.o.length<=900000000/\∀ o6:List Int,o6=rcE x1.o x1.q->K (.one (.at (.slc 4))) [(.row false EC.slot (d)),(.row false EC.u32 (fl)),(.row false EC.u32 (rs)),(.row false EC.u32 (ks)),(.row true EC.u8 (o6))] [])))=_ by kernel_rfl) ?_
 subst hP1 hP0 hP3 hP4 hP2
 have dl:=hb.w.len
 have hrl:=hb.rl
 have hkl:=hb.kl
 have ri:=hb.ri
 refine⟨hb.w,by omega,by omega,ri.v hb.w,hb.ki.v hb.w,fun lk la nk na r f n er ef en=>?_⟩
 obtain⟨y,hy⟩:=na.pre
 have all:NumsD d (ks++rs) [] la:=nk.app na
 obtain⟨q1,q2,q3⟩:=all.few hb.w
 have lle:lk.length<=la.length:=by rw[hy,List.length_append];omega
 have us:=all.used (fun j hj=>by cases hj)
 have fl_:f.length=(la.drop lk.length).length:=by rw[ef]
 have fl2:(la.drop lk.length).length<=100000:=by rw[List.length_drop];omega
 subst en
 rw[wrap_u64 (x:=(lk.length:Int)) (by omega) (by omega),wrap_u64 (x:=(f.length:Int)) (by omega) (by omega),wrap_u64 (x:=(rs.length:Int)) (by omega) (by omega)]
 have v1:=vE_len10 (lk.length:Int)
 have v2:=vE_len10 (f.length:Int)
 have v3:=vE_len10 (rs.length:Int)
 have uvl:∀ b u,(uvA b u).length<=b.length+11:=fun b u=>by
  have:=vE_len10 u
  unfold uvA
  rw[List.length_append];omega
 refine⟨by omega,by omega,by decide,fun o eo=>⟨by omega,by omega,by have:=uvl [] (lk.length:Int);rw[← eo] at this;simp at this;omega,fun o1 e1=>⟨by omega,by omega,?_,fun o2 e2=>⟨by decide,hB,fun D hD D0 D1=>?_⟩⟩⟩⟩
 ·have a1:=uvl [] (lk.length:Int)
  have a2:=uvl o (f.length:Int)
  rw[← eo] at a1
  rw[← e1] at a2
  simp at a1;omega
 rw[wrap_u64 (x:=D) (by omega) (by omega)]
 have a1:=uvl [] (lk.length:Int)
 have a2:=uvl o (f.length:Int)
 have a3:=uvl o1 (rs.length:Int)
 rw[← eo] at a1
 rw[← e1] at a2
 rw[← e2] at a3
 have a0:([]:List Int).length=0:=rfl
 refine⟨by omega,by omega,by decide,by decide,fun o3 e3=>⟨by omega,by rw[e3,wB_len];decide,fun o4 e4=>?_⟩⟩
 have e4:o4=hdE lk.length ((la.drop lk.length).length:Nat) rs.length D:=by rw[e4,e3,e2,e1,eo,fl_];exact hd_uv _ _ _ _
 have hl:=hdE_len lk.length ((la.drop lk.length).length:Nat) rs.length D
 have h3:allQ [(lk.length:Int),((la.drop lk.length).length:Nat),(rs.length:Int)]:=fun u hu=>by
  simp only[List.mem_cons,List.not_mem_nil,or_false] at hu
  rcases hu with rfl|rfl|rfl<;>omega
 rw[← e4] at hl
 refine⟨by rw[e4];exact hdE_allB h3,by omega,by decide,fun o5 e5=>⟨⟨⟨lk,la,o5,0,D,⟨nk,na,hD,hb.ky la all,by omega,us,lle⟩,Nat.zero_le _,by rw[e5,e4];rfl⟩,trivial,?_⟩,fun x _=>brS_of (fun z=>?_) fun z=>?_⟩⟩
 ·rw[er,ef]
  (repeat' first|exact trivial|exact rfl|refine And.intro ?_ ?_)
 ·obtain⟨lk,la,o,i,D,F,hi,eo⟩:=x
  dsimp only at z ⊢
  have zi:i<(la.drop lk.length).length:=by have:=of_decide_eq_true z;omega
  clear z
  have ll:=F.len
  have jm:getB (la.drop lk.length) i∈la:=List.mem_of_mem_drop (getB_mem zi)
  have uj:=F.us _ jm
  have rg:=alcD_rng uj
  rw[show ((i:Int)).toNat=i from rfl,wrap_u32 (x:=getB (la.drop lk.length) i-1) (by omega) (by omega)]
  refine⟨⟨⟨by omega,by omega,by omega,by omega,⟨lk,la,o,i,D,F,zi,eo⟩,rfl,?_⟩,fun x1 e1=>?_⟩,fun x1 e1=>?_⟩
  ·(repeat' first|exact trivial|exact rfl|refine And.intro ?_ ?_)
  ·obtain⟨lk,la,o,i',D,F,zi,eo⟩:=x1
   dsimp only at e1 ⊢
   obtain rfl:i=i':=by omega
   have ll:=F.len
   have jm:getB (la.drop lk.length) i∈la:=List.mem_of_mem_drop (getB_mem zi)
   have kj:=F.kin _ jm
   refine⟨⟨⟨kj.1.1,kj.1.2⟩,fun o6 e6=>⟨⟨kj.2.1,kj.2.2⟩,fun u eu=>?_⟩⟩,fun x2 e2=>?_⟩
   ·have zr:=Go.Proofs.YtedfbafngmicpaaGreat.zz_rng kj.2.1 kj.2.2
    have eu:u=zz (sltD d (getB (la.drop lk.length) i)).node.value:=eu
    refine⟨by omega,by omega,by rw[e6];unfold kB;rw[wB_len];decide,fun o7 e7=>⟨⟨lk,la,o,o7,i,⟨D,F,zi,eo⟩,by rw[e7,e6,eu];rfl⟩,rfl,?_⟩⟩
    (repeat' first|exact trivial|exact rfl|refine And.intro ?_ ?_)
   ·obtain⟨lk,la,o,q,i',⟨D,F,zi,eo⟩,eq⟩:=x2
    dsimp only at e2 ⊢
    obtain rfl:i=i':=by omega
    have ll:=F.len
    have jm:getB (la.drop lk.length) i∈la:=List.mem_of_mem_drop (getB_mem zi)
    have uj:=F.us _ jm
    have kd:=hb.kd _ uj
    have ok:=nodQ_ok F.kin ll jm
    have eg:=woF_go (nodQ d la) (nr:=rs.length) D zi
    have ol:=woF_len (nodQ d la) la D lk.length rs.length i
    rw[← eo] at ol
    have ev:=enc_uv (nodQ d la (getB (la.drop lk.length) i))
    have el:=encN_len (nodQ d la (getB (la.drop lk.length) i))
    have ea:=encN_allB ok
    have n1:(eNq d lk la i).left=lfD d (getB (la.drop lk.length) i):=rfl
    have n2:(eNq d lk la i).right=rgD d (getB (la.drop lk.length) i):=rfl
    have eq:q=uvA (kB (nodQ d la (getB (la.drop lk.length) i)).key) (zz (nodQ d la (getB (la.drop lk.length) i)).value):=eq
    have ql:=uvl (kB (nodQ d la (getB (la.drop lk.length) i)).key) (zz (nodQ d la (getB (la.drop lk.length) i)).value)
    rw[← eq,show (kB (nodQ d la (getB (la.drop lk.length) i)).key).length=8 from wB_len _ _] at ql
    have okl:=ok.2.2.1
    have okr:=ok.2.2.2
    rw[n1,n2,refL_at kd.1.1 kd.1.2,refL_at kd.2.1 kd.2.2,refL_len]
    show 0<=lfD d (getB (la.drop lk.length) i)/\lfD d (getB (la.drop lk.length) i)<_/\0<=rgD d (getB (la.drop lk.length) i)/\rgD d (getB (la.drop lk.length) i)<_/\0<=(nodQ d la (getB (la.drop lk.length) i)).left/\_
    refine⟨kd.1.1,by omega,kd.2.1,by omega,okl.1,okl.2,by omega,fun o6 e6=>⟨okr.1,okr.2,?_,fun o7 e7=>?_⟩⟩
    ·have:=uvl q (plcN la (lfD d (getB (la.drop lk.length) i)))
     rw[← e6] at this;omega
    ·have e7:o7=encN (nodQ d la (getB (la.drop lk.length) i)):=by rw[← ev,e7,e6,eq];rfl
     rw[e7]
     refine⟨ea,by omega,by omega,fun o8 e8=>⟨⟨lk,la,o8,i,D,F,zi,by rw[e8,eo];exact eg.symm⟩,rfl,?_⟩⟩
     (repeat' first|exact trivial|exact rfl|refine And.intro ?_ ?_)
  ·obtain⟨lk1,la1,o,i',D,F,zi1,eo⟩:=x1
   dsimp only at e1 ⊢
   obtain rfl:i=i':=by omega
   have ll1:=F.len
   have zl1:=zi1
   rw[List.length_drop] at zl1
   rw[wrap_id (x:=(i:Int)+1) (by omega) (by omega)]
   refine⟨⟨lk1,la1,o,i+1,D,F,zi1,eo⟩,trivial,?_,by show 200000-(i+1)<200000-i;omega⟩
   (repeat' first|exact trivial|exact rfl|refine And.intro ?_ ?_)
 ·obtain⟨lk,la,o,i,D,F,hi,eo⟩:=x
  dsimp only at z ⊢
  have z:i=(la.drop lk.length).length:=by have:=of_decide_eq_false z;omega
  subst z
  refine⟨⟨⟨lk,la,o,[],0,Nat.zero_le _,⟨D,F,Nat.le_refl _,eo⟩,rfl⟩,trivial,?_⟩,fun x1 _=>brS_of (fun z=>?_) fun z=>?_⟩
  ·(repeat' first|exact trivial|exact rfl|refine And.intro ?_ ?_)
  ·obtain⟨lk,la,o,q,i,hi,⟨D,F,hl,eo⟩,eq⟩:=x1
   dsimp only at z ⊢
   have zi:i<rs.length:=by have:=of_decide_eq_true z;omega
   clear z
   have ll:=F.len
   have rr:=ri _ (getB_mem zi)
   have pr:=plcN_rng la (getB rs i)
   rw[show ((i:Int)).toNat=i from rfl,wrap_id (x:=(i:Int)+1) (by omega) (by omega),refL_at rr.1 rr.2,refL_len]
   have ql:=vs_len ((rs.take i).map (plcN la))
   rw[List.length_map,List.length_take,← eq] at ql
   refine⟨by omega,by omega,rr.1,by omega,pr.1,by omega,by omega,fun o6 e6=>⟨⟨lk,la,o,o6,i+1,zi,⟨D,F,hl,eo⟩,?_⟩,trivial,?_,Nat.sub_lt_sub_left zi (Nat.lt_succ_self i)⟩⟩
   ·rw[e6,eq,vs_uv,take_getB zi,List.map_append];rfl
   ·(repeat' first|exact trivial|exact rfl|refine And.intro ?_ ?_)
  ·obtain⟨lk,la,o,q,i,hi,⟨D,F,hl,eo⟩,eq⟩:=x1
   dsimp only at z ⊢
   have z:i=rs.length:=by have:=of_decide_eq_false z;omega
   rw[z,List.take_length] at eq
   have ll:=F.len
   have ql:=vs_len (rs.map (plcN la))
   rw[List.length_map,← eq] at ql
   have ol:=woF_len (nodQ d la) la D lk.length rs.length (la.drop lk.length).length
   rw[← eo] at ol
   have qa:allB q:=by rw[eq];exact vs_plc ll
   have fa:=F.le
   refine⟨qa,by omega,by omega,fun o6 e6=>h o6 ⟨⟨lk,la,D,F.nk,F.na,F.dg,?_⟩,?_,?_⟩⟩
   ·rw[e6,eo,eq]
    unfold pkQ pkE woF headS
    rw[List.take_length,List.length_map,List.length_map]
   ·rw[e6,eo]
    exact frE_allB' qa (by omega) (woF_allB F.kin ll (by omega) (by omega))
   ·have:=rcE_len o q
    rw[e6];omega
theorem s_exQ (Q:List SlotT->List Int->Prop)(sD:SoundT C0 37 (tDgD Q))(B:List SlotT->List Int->List Int->Prop)(hB:∀ d rs ks,B d rs ks->ExB8 d rs ks/\Q d ks):SoundT C0 25 (tExQ B):=by
 refine .of Tryz.func25 (by decide) rfl fun args H K h hC=>?_
 unfold tExQ at h
 split at h<;>try exact h.elim
 unfold dgM at h
 split at h<;>try exact h.elim
 rename_i _ d fl rs ks
 obtain⟨h1,h2⟩:=hB _ _ _ h.1
 refine⟨_,?_,vc_ex28 Q d fl rs ks K h1 h2 h.2⟩
 exact⟨frame C0.ok s_rf _,frame C0.ok s_vr _,frame C0.ok s_fr8 _,frame C0.ok s_kb _,frame C0.ok s_zr _,frame C0.ok s_jnR _,frame C0.ok s_wd _,frame C0.ok sD _,trivial⟩
theorem vc_dg28 (B:List SlotT->List Int->List Int->Prop)(d:List SlotT)(fl rs:List Int)(K:KT)(hB:rs≠[]->B d rs [])(h:∀ D,DgD d rs D->0<=D->D<4294967296->K (.one (.at (vU D))) [.row false EC.slot d,.row false EC.u32 fl,.row false EC.u32 rs] []) :
  vc C0 (aDg28 B) Tryz.f37 [.agg [.slc 0,.slc 1],.at (.slc 2)] [.row false EC.slot d,.row false EC.u32 fl,.row false EC.u32 rs] (normK 3 K):=by
 refine Eq.mp (show (brS ((rs.length:Int)==0) (K (.one (.at (.val (VU 0)))) [(.row false EC.slot (d)),(.row false EC.u32 (fl)),(.row false EC.u32 (rs))] []) (B (d) (rs) []/\∀ o:List Int,ExD d rs [] o->allB o/\o.length<=1000000000000/\∀ r:Int,r=crc o->K (.one (.at (.val (VU (r))))) [(.row false EC.slot (d)),(.row false EC.u32 (fl)),(.row false EC.u32 (rs))] []))=_ by kernel_rfl) ?_
 refine brS_of (fun z=>?_) fun z=>?_
 ·have z:rs=[]:=List.eq_nil_of_length_eq_zero (by have:=eq_of_beq z;omega)
  exact h 0 (.inl ⟨z,rfl⟩) (by decide) (by decide)
 ·have z:rs≠[]:=fun e=>by rw[e] at z;exact absurd z (by decide)
  refine⟨hB z,fun o w=>⟨w.ab,by have:=w.bl;omega,fun r er=>?_⟩⟩
  have rr:=crc_rng o
  rw[← er] at rr
  refine h r (.inr ⟨z,?_⟩) rr.1 rr.2
  obtain⟨lk,la,D,n1,n2,d,eo⟩:=w.ex
  cases n1
  rcases d with ⟨_,d⟩|⟨d,_⟩
  ·subst d
   exact⟨la,n2,by rw[er,eo]⟩
  ·exact absurd rfl d
theorem s_dgQ (B:List SlotT->List Int->List Int->Prop)(sW:SoundT C0 25 (tExQ B))(Q:List SlotT->List Int->Prop)(hB:∀ d rs,Q d rs->rs≠[]->B d rs []):SoundT C0 37 (tDgD Q):=by
 refine .of Tryz.func37 (by decide) rfl fun args H K h hC=>?_
 unfold tDgD at h
 split at h<;>try exact h.elim
 rename_i d fl rs
 exact⟨aDg28 B,⟨frame C0.ok sW _,frame C0.ok s_cr _,trivial⟩,vc_dg28 B d fl rs K (hB _ _ h.1) h.2⟩
theorem s_exF:SoundT C0 25 (tExQ fun _ _ _=>False):=by
 refine .of Tryz.func25 (by decide) rfl fun args H K h hC=>?_
 unfold tExQ at h
 split at h<;>try exact h.elim
 unfold dgM at h
 split at h<;>try exact h.elim
 exact h.1.elim
theorem s_dg0D:SoundT C0 37 (tDgD fun _ rs=>rs=[]):=s_dgQ _ s_exF _ fun _ _ h n=>absurd h n
theorem s_ex0D:SoundT C0 25 (tExQ fun d rs ks=>ks=[]/\ExB8 d rs ks):=s_exQ _ s_dg0D _ fun _ _ _ h=>⟨h.2,h.1⟩
def tDg28:Tfm C0:=tDgD fun d rs=>ExB8 d rs []
theorem s_dg28:SoundT C0 37 tDg28:=s_dgQ _ s_ex0D _ fun _ _ h _=>⟨rfl,h⟩
def tEx28:Tfm C0:=tExQ ExB8
theorem s_ex28:SoundT C0 25 tEx28:=s_exQ _ s_dg28 _ fun d rs ks h=>⟨h,⟨h.w,h.kd,h.kl,by simp,h.ki,fun x hx=>by simp at hx,by rw[List.nil_append];exact KyD.left h.w h.ky⟩⟩
section
variable {S:Arn} {hs:List Int}
theorem kdD_slots (w:Wf S hs):KdD (slotsOf S):=fun i u=>by
 have u':=u
 rw[alcD_slots w] at u'
 obtain⟨e1,e2⟩:=lfD_slots w u'
 have k:=w.kid i u'
 rw[e1,e2]
 have q:∀ j,j=0∨S.us j=true->0<=j/\j<=((slotsOf S).length:Int):=fun j hj=>by
  rcases hj with rfl|hj
  ·omega
  ·rw[← alcD_slots w] at hj
   have:=alcD_rng hj
   omega
 exact⟨q _ k.1,q _ k.2⟩
theorem inL_slots (w:Wf S hs){l:List Int}(h:∀ j∈l,j=0∨S.us j=true):inL (slotsOf S) l:=fun j hj=>by
 rcases h j hj with rfl|hj
 ·omega
 ·rw[← alcD_slots w] at hj
  have:=alcD_rng hj
  omega
theorem nodQ_slots (w:Wf S hs){l:List Int}{i:Int}(u:S.us i=true):nodQ (slotsOf S) l i=nodP S l i:=by
 obtain⟨e1,e2⟩:=lfD_slots w u
 unfold nodQ nodP
 rw[e1,e2,sltD_slots w u]
theorem pkQ_slots (w:Wf S hs){lk la rs:List Int}{D:Int}(u:∀ j∈la,S.us j=true):pkQ (slotsOf S) lk la rs D=pkS S lk la rs D:=by
 unfold pkQ pkS
 congr 1
 refine List.map_congr_left fun i hi=>nodQ_slots w (u i (List.mem_of_mem_drop hi))
theorem numG_D (w:Wf S hs){rs a l:List Int}(h:NumsD (slotsOf S) rs a l):NumsA S rs a l :=
 h.congr (fun i=>(alcD_slots w i).symm) (fun _ u=>((lfD_slots w (by rw[alcD_slots w] at u;exact u)).1).symm) fun _ u=>((lfD_slots w (by rw[alcD_slots w] at u;exact u)).2).symm
theorem dgD_slots (w:Wf S hs){rs:List Int}{D:Int}(h:DgD (slotsOf S) rs D):DgR S rs D:=by
 rcases h with h|⟨a,l,n,e⟩
 ·exact .inl h
 ·have n':=numD_A w n
  exact .inr ⟨a,l,n',by rw[e,pkQ_slots w (n'.used (fun j hj=>by cases hj))]⟩
theorem exD_slots (w:Wf S hs){rs ks o:List Int}(h:ExD (slotsOf S) rs ks o):∃ lk la D,NumsA S ks [] lk/\NumsA S rs lk la/\DgR S ks D/\o=pkS S lk la rs D:=by
 obtain⟨lk,la,D,a,b,c,d⟩:=h.ex
 have a':=numG_D w a
 have b':=numG_D w b
 exact⟨lk,la,D,a',b',dgD_slots w c,by rw[d,pkQ_slots w (b'.used (a'.used fun j hj=>by cases hj))]⟩
theorem kyD_slots (w:Wf S hs){rs:List Int}(h:KyN S rs):KyD (slotsOf S) rs:=fun l n=>by
 have n':=numG_D w n
 have us:=n'.used (fun j hj=>by cases hj)
 intro i hi
 have:=h l n' i hi
 rw[sltD_slots w (us i hi)]
 exact this
theorem exB_slots (w:Wf S hs){rs ks:List Int}(rl:rs.length<=90000)(kl:ks.length<=90000)(hr:∀ j∈rs,j=0∨S.us j=true)(hk:∀ j∈ks,j=0∨S.us j=true)(ky:KyN S (ks++rs)):ExB8 (slotsOf S) rs ks :=
 ⟨dgW_slots w,kdD_slots w,rl,kl,inL_slots w hr,inL_slots w hk,kyD_slots w ky⟩
end
end Go.Proofs.YtedfbafngmicpaaGreat.Sx
end
section
/- Choosing twice; Same of bytes; pack.Digest. -/
namespace Go.Proofs.YtedfbafngmicpaaGreat.Sx
open Go

/-KEEP rowG Wf exW inU allV allB rdS NumsA DgB DgS-/
abbrev chF2 (raw:List Ent)(l:List StpT)(S:Arn)(rs:List Int)(ll:List (List Ent))(r0:List Int)(L0:List (List Ent)):List (Chunk C0):=chF raw l S rs ll++[.row true EC.u32 r0,.rows EC.hent EC.ent L0]
noncomputable def aPi2 (P:List Int->List (List Ent)->Nat->Prop)(rs:List Int)(H:List (Chunk C0)):Ann C0:={ quiet:=[9999999],Γ:=[],inv:=fun m=>match m with
 | 4=>some { X:=XPi P,sl:=[8,9,10],tf:=fun x=>[.one (.at (.slc 13)),.one (.at (.slc 14)),vi .i64 x.i],hf:=fun x=>H++[.row true EC.u32 x.r,.rows EC.hent EC.ent x.L],μ:=fun x=>rs.length-x.i }
 | _=>none }
abbrev pfM2 (H:List (Chunk C0))(q:List Ent->List StpT->Arn->List Int->List (List Ent)->List Int->List (List Ent)->Prop):Prop:=match H with
 | [.row false .ent raw,.row false .stp l,.box [.ptr 5 0,.slc 6,.slc 7,.val (.int .u64 rd)],.row true .u32 rs,.rows .hent .ent ll,.box [.slc 8,.slc 9,.slc 10,.val (.int .u32 fr)],.row true .node nd,.row true .int ct,.row true .bool us,.row true .u32 gn,.row true .u32 rl,.row true .u32 r0,.rows .hent .ent L0]=>q raw l ⟨us,gn,rl,fr,nd,ct,rd⟩ rs ll r0 L0
 | _=>False
def tPi2:Tfm C0:=fun args H K=>match args with
 | [.at (.slc 3),.at (.slc 4),.at (.val (.int .u8 b))]=>pfM2 H fun raw l S rs ll r0 L0=>rs.length=ll.length/\rs.length<=1000/\∀ r L,r=(pkZ b (rs.zip ll)).map Prod.fst->L=(pkZ b (rs.zip ll)).map Prod.snd->K (.tup [.at (.slc 13),.at (.slc 14)]) (chF2 raw l S rs ll r0 L0++[.row true EC.u32 r,.rows EC.hent EC.ent L]) []
 | _=>False
noncomputable def aSmB (l m:List Int):Ann C0:={ Γ:=[],inv:=fun n=>match n with
 | 4=>some { X:=XI8 l.length,sl:=[5],tf:=fun x=>[vi .i64 x.i],hf:=fun _=>[.row false EC.u8 l,.row false EC.u8 m],μ:=fun x=>l.length-x.i }
 | _=>none }
def tSmB:Tfm C0:=fun args H K=>match args,H with
 | [.at (.slc 0),.at (.slc 1)],[.row false .u8 l,.row false .u8 m]=>l=m/\l.length<=100000000/\K (.one (.at (vB true))) [.row false EC.u8 l,.row false EC.u8 m] []
 | _,_=>False
theorem vc_pi2 (raw:List Ent)(l:List StpT)(S:Arn)(rs:List Int)(ll:List (List Ent))(r0:List Int)(L0:List (List Ent))(b:Int)(K:KT)(e:rs.length=ll.length)(hl:rs.length<=1000)(h:∀ r L,r=(pkZ b (rs.zip ll)).map Prod.fst->L=(pkZ b (rs.zip ll)).map Prod.snd->K (.tup [.at (.slc 13),.at (.slc 14)]) (chF2 raw l S rs ll r0 L0++[.row true EC.u32 r,.rows EC.hent EC.ent L]) []) :
  vc C0 (aPi2 (PPi b rs ll) rs (chF2 raw l S rs ll r0 L0)) Tryz.f20 [.at (.slc 3),.at (.slc 4),.at (.val (.int .u8 b))] (chF2 raw l S rs ll r0 L0) (normK 13 K):=by
 generalize hP:PPi b rs ll=P
 refine Eq.mp (show ((∃ x:XPi P,True/\(True/\True/\(Value.int .u8 (b))=(Value.int .u8 (b))/\True/\True/\VI 0=(VI (x.i:Int))/\True)/\raw=raw/\l=l/\(True/\True/\True/\VW (S.reads)=VW (S.reads)/\True)/\rs=rs/\ll=ll/\(True/\True/\True/\VU (S.fresh)=VU (S.fresh)/\True)/\S.nodes=S.nodes/\S.counts=S.counts/\S.used=S.used/\S.gen=S.gen/\S.rel=S.rel/\r0=r0/\L0=L0/\[]=x.r/\[]=x.L/\True)/\∀ x:XPi P,True->brS (decide ((x.i:Int)<(rs.length:Int))) (brS (decide ((x.i:Int)<7)) (0<=IntKind.u64.wrap (x.i:Int)/\brS ((b.fdiv (2 ^ min (IntKind.u64.wrap (x.i:Int)).toNat IntKind.u8.bits)).tmod 2==1) (0<=(x.i:Int)/\(x.i:Int)<(rs.length:Int)/\0<=(x.i:Int)/\(x.i:Int)<(ll.length:Int)/\(((x.r.length+[getB rs (x.i:Int).toNat].length)*bytesOf C0 EC.u32<=140737488355328/\(x.L.length+[rowG ll (x.i:Int).toNat].length)*bytesOf C0 EC.hent<=140737488355328/\∃ x':XPi P,True/\((True/\True/\(Value.int .u8 (b))=(Value.int .u8 (b))/\True/\True/\(VI (IntKind.i64.wrap ((x.i:Int)+1)))=(VI (x'.i:Int))/\True)/\raw=raw/\l=l/\(True/\True/\True/\VW (S.reads)=VW (S.reads)/\True)/\rs=rs/\ll=ll/\(True/\True/\True/\VU (S.fresh)=VU (S.fresh)/\True)/\S.nodes=S.nodes/\S.counts=S.counts/\S.used=S.used/\S.gen=S.gen/\S.rel=S.rel/\r0=r0/\L0=L0/\(x.r++[getB rs (x.i:Int).toNat])=x'.r/\(x.L++[rowG ll (x.i:Int).toNat])=x'.L/\True)/\rs.length-x'.i<rs.length-x.i)/\(x.r.length+[getB rs (x.i:Int).toNat].length)*bytesOf C0 EC.u32<=140737488355328/\(x.L.length+[rowG ll (x.i:Int).toNat].length)*bytesOf C0 EC.hent<=140737488355328/\∃ x':XPi P,True/\((True/\True/\(Value.int .u8 (b))=(Value.int .u8 (b))/\
 True/\True/\(VI (IntKind.i64.wrap ((x.i:Int)+1)))=(VI (x'.i:Int))/\True)/\raw=raw/\l=l/\(True/\True/\True/\VW (S.reads)=VW (S.reads)/\True)/\rs=rs/\ll=ll/\(True/\True/\True/\VU (S.fresh)=VU (S.fresh)/\True)/\S.nodes=S.nodes/\S.counts=S.counts/\S.used=S.used/\S.gen=S.gen/\S.rel=S.rel/\r0=r0/\L0=L0/\(x.r++[getB rs (x.i:Int).toNat])=x'.r/\(x.L++[rowG ll (x.i:Int).toNat])=x'.L/\True)/\rs.length-x'.i<rs.length-x.i)/\(x.r.length+[getB rs (x.i:Int).toNat].length)*bytesOf C0 EC.u32<=140737488355328/\(x.L.length+[rowG ll (x.i:Int).toNat].length)*bytesOf C0 EC.hent<=140737488355328/\∃ x':XPi P,True/\((True/\True/\(Value.int .u8 (b))=(Value.int .u8 (b))/\True/\True/\(VI (IntKind.i64.wrap ((x.i:Int)+1)))=(VI (x'.i:Int))/\True)/\raw=raw/\l=l/\(True/\True/\True/\VW (S.reads)=VW (S.reads)/\True)/\rs=rs/\ll=ll/\(True/\True/\True/\VU (S.fresh)=VU (S.fresh)/\True)/\S.nodes=S.nodes/\S.counts=S.counts/\S.used=S.used/\S.gen=S.gen/\S.rel=S.rel/\r0=r0/\L0=L0/\(x.r++[getB rs (x.i:Int).toNat])=x'.r/\(x.L++[rowG ll (x.i:Int).toNat])=x'.L/\True)/\rs.length-x'.i<rs.length-x.i) (∃ x':XPi P,True/\((True/\True/\(Value.int .u8 (b))=(Value.int .u8 (b))/\True/\True/\(VI (IntKind.i64.wrap ((x.i:Int)+1)))=(VI (x'.i:Int))/\True)/\raw=raw/\l=l/\(True/\True/\True/\VW (S.reads)=VW (S.reads)/\True)/\rs=rs/\ll=ll/\(True/\True/\True/\VU (S.fresh)=VU (S.fresh)/\True)/\S.nodes=S.nodes/\S.counts=S.counts/\S.used=S.used/\S.gen=S.gen/\S.rel=S.rel/\r0=r0/\L0=L0/\x.r=x'.r/\x.L=x'.L/\True)/\rs.length-x'.i<rs.length-x.i)) (brS (decide (b≥128)) ((x.r.length+[0].length)*bytesOf C0 EC.u32<=140737488355328/\
 (x.L.length+([[]]:List (List Ent)).length)*bytesOf C0 EC.hent<=140737488355328/\K (.tup [(.at (.slc 13)),(.at (.slc 14))]) [(.row false EC.ent (raw)),(.row false EC.stp (l)),(.box [(.ptr 5 0),(.slc 6),(.slc 7),(.val (VW (S.reads)))]),(.row true EC.u32 (rs)),(Chunk.rows EC.hent EC.ent (ll)),(.box [(.slc 8),(.slc 9),(.slc 10),(.val (VU (S.fresh)))]),(.row true EC.node (S.nodes)),(.row true EC.int (S.counts)),(.row true EC.bool (S.used)),(.row true EC.u32 (S.gen)),(.row true EC.u32 (S.rel)),(.row true EC.u32 (r0)),(Chunk.rows EC.hent EC.ent (L0)),(.row true EC.u32 (x.r++[0])),(Chunk.rows EC.hent EC.ent (x.L++([[]]:List (List Ent))))] []) (K (.tup [(.at (.slc 13)),(.at (.slc 14))]) [(.row false EC.ent (raw)),(.row false EC.stp (l)),(.box [(.ptr 5 0),(.slc 6),(.slc 7),(.val (VW (S.reads)))]),(.row true EC.u32 (rs)),(Chunk.rows EC.hent EC.ent (ll)),(.box [(.slc 8),(.slc 9),(.slc 10),(.val (VU (S.fresh)))]),(.row true EC.node (S.nodes)),(.row true EC.int (S.counts)),(.row true EC.bool (S.used)),(.row true EC.u32 (S.gen)),(.row true EC.u32 (S.rel)),(.row true EC.u32 (r0)),(Chunk.rows EC.hent EC.ent (L0)),(.row true EC.u32 (x.r)),(Chunk.rows EC.hent EC.ent (x.L))] []))) (brS (decide (b≥128)) ((x.r.length+[0].length)*bytesOf C0 EC.u32<=140737488355328/\(x.L.length+([[]]:List (List Ent)).length)*bytesOf C0 EC.hent<=140737488355328/\K (.tup [(.at (.slc 13)),(.at (.slc 14))]) [(.row false EC.ent (raw)),(.row false EC.stp (l)),(.box [(.ptr 5 0),(.slc 6),(.slc 7),(.val (VW (S.reads)))]),(.row true EC.u32 (rs)),(Chunk.rows EC.hent EC.ent (ll)),(.box [(.slc 8),(.slc 9),(.slc 10),(.val (VU (S.fresh)))]),(.row true EC.node (S.nodes)),(.row true EC.int (S.counts)),(.row true EC.bool (S.used)),(.row true EC.u32 (S.gen)),(.row true EC.u32 (S.rel)),(.row true EC.u32 (r0)),(Chunk.rows EC.hent EC.ent (L0)),(.row true EC.u32 (x.r++[0])),(Chunk.rows EC.hent EC.ent (x.L++([[]]:List (List Ent))))] []) (K (.tup [(.at (.slc 13)),(.at (.slc 14))]) [(.row false EC.ent (raw)),(.row false EC.stp (l)),(.box [(.ptr 5 0),(.slc 6),(.slc 7),(.val (VW (S.reads)))]),(.row true EC.u32 (rs)),(Chunk.rows EC.hent EC.ent (ll)),(.box [(.slc 8),(.slc 9),(.slc 10),(.val (VU (S.fresh)))]),(.row true EC.node (S.nodes)),(.row true EC.int (S.counts)),(.row true EC.bool (S.used)),(.row true EC.u32 (S.gen)),(.row true EC.u32 (S.rel)),(.row true EC.u32 (r0)),(Chunk.rows EC.hent EC.ent (L0)),(.row true EC.u32 (x.r)),(Chunk.rows EC.hent EC.ent (x.L))] [])))=_ by kernel_rfl) ?_
 subst hP
 have out:∀ i,i<=rs.length->i<=7->¬ (i<rs.length/\i<7)->pkG b (rs.zip ll) (min (rs.zip ll).length 7)=pkG b (rs.zip ll) i:=fun i h1 h2 h3=>by
  rw[List.length_zip,show min (min rs.length ll.length) 7=i by omega]
 have fin:∀ i,i<=rs.length->i<=7->¬ (i<rs.length/\i<7)->brS (decide (b≥128))
   (((((pkG b (rs.zip ll) i).map Prod.fst).length+[(0:Int)].length)*bytesOf C0 EC.u32<=140737488355328)/\((((pkG b (rs.zip ll) i).map Prod.snd).length+[([]:List Ent)].length)*bytesOf C0 EC.hent<=140737488355328)/\K (.tup [.at (.slc 13),.at (.slc 14)]) (chF2 raw l S rs ll r0 L0++[.row true EC.u32 ((pkG b (rs.zip ll) i).map Prod.fst++[0]),.rows EC.hent EC.ent ((pkG b (rs.zip ll) i).map Prod.snd++[[]])]) [])
   (K (.tup [.at (.slc 13),.at (.slc 14)]) (chF2 raw l S rs ll r0 L0++[.row true EC.u32 ((pkG b (rs.zip ll) i).map Prod.fst),.rows EC.hent EC.ent ((pkG b (rs.zip ll) i).map Prod.snd)]) []):=fun i h1 h2 h3=>by
  have gl:=pkG_len b (rs.zip ll) i
  refine brS_of (fun z=>⟨by rw[bytes_u32,List.length_map,List.length_singleton];omega,by rw[bytes_hent,List.length_map,List.length_singleton];omega,h _ _ ?_ ?_⟩) fun z=>h _ _ ?_ ?_
  ·unfold pkZ
   rw[out i h1 h2 h3,if_pos (of_decide_eq_true z),List.map_append];rfl
  ·unfold pkZ
   rw[out i h1 h2 h3,if_pos (of_decide_eq_true z),List.map_append];rfl
  ·unfold pkZ
   rw[out i h1 h2 h3,if_neg (of_decide_eq_false z)]
   simp only[List.append_nil]
   exact rfl
  ·unfold pkZ
   rw[out i h1 h2 h3,if_neg (of_decide_eq_false z)]
   simp only[List.append_nil]
   exact rfl
 refine⟨⟨⟨[],[],0,Nat.zero_le _,by decide,rfl,rfl⟩,trivial,?_⟩,fun x _=>brS_of (fun y=>brS_of (fun z=>⟨wrap_u64_nonneg _,?_⟩) fun z=>?_) fun y=>?_⟩
 ·(repeat' first|exact trivial|exact rfl|refine And.intro ?_ ?_)
 ·obtain⟨r,L,i,h1,h2,rfl,rfl⟩:=x
  dsimp only at y z ⊢
  have yi:i<rs.length:=by have:=of_decide_eq_true y;omega
  have zi:i<7:=by have:=of_decide_eq_true z;omega
  clear y z
  have gl:=pkG_len b (rs.zip ll) i
  rw[show ((i:Int)).toNat=i from rfl,wrap_id (x:=(i:Int)+1) (by omega) (by omega),wrap_u64 (x:=(i:Int)) (by omega) (by omega),show ((i:Int)).toNat=i from rfl]
  refine brS_of (fun t=>?_) fun t=>?_
  ·have bt:bitB b i=true:=t
   have e1:(pkG b (rs.zip ll) i).map Prod.fst++[getB rs i]=(pkG b (rs.zip ll) (i+1)).map Prod.fst:=by
    show _=(if bitB b i then pkG b (rs.zip ll) i++[(rs.zip ll).getD i (0,[])] else pkG b (rs.zip ll) i).map Prod.fst
    rw[bt,if_pos rfl,zip_getD e yi,List.map_append];rfl
   have e2:(pkG b (rs.zip ll) i).map Prod.snd++[rowG ll i]=(pkG b (rs.zip ll) (i+1)).map Prod.snd:=by
    show _=(if bitB b i then pkG b (rs.zip ll) i++[(rs.zip ll).getD i (0,[])] else pkG b (rs.zip ll) i).map Prod.snd
    rw[bt,if_pos rfl,zip_getD e yi,List.map_append];rfl
   have b1:(((pkG b (rs.zip ll) i).map Prod.fst).length+[getB rs i].length)*bytesOf C0 EC.u32<=140737488355328:=by rw[bytes_u32,List.length_map,List.length_singleton];omega
   have b2:(((pkG b (rs.zip ll) i).map Prod.snd).length+[rowG ll i].length)*bytesOf C0 EC.hent<=140737488355328:=by rw[bytes_hent,List.length_map,List.length_singleton];omega
   refine⟨by omega,by omega,by omega,by omega,?_⟩
   repeat' (first|with_reducible exact b1|with_reducible exact b2|with_reducible apply And.intro)
   all_goals refine⟨⟨_,_,i+1,yi,zi,e1,e2⟩,trivial,?_,Nat.sub_lt_sub_left yi (Nat.lt_succ_self i)⟩
   all_goals (repeat' first|exact trivial|exact rfl|refine And.intro ?_ ?_)
  ·have bt:bitB b i=false:=t
   have e1:pkG b (rs.zip ll) (i+1)=pkG b (rs.zip ll) i:=by
    show (if bitB b i then _ else _)=_
    rw[bt];rfl
   refine⟨⟨(pkG b (rs.zip ll) i).map Prod.fst,(pkG b (rs.zip ll) i).map Prod.snd,i+1,yi,zi,by rw[e1],by rw[e1]⟩,trivial,?_,Nat.sub_lt_sub_left yi (Nat.lt_succ_self i)⟩
   (repeat' first|exact trivial|exact rfl|refine And.intro ?_ ?_)
 ·obtain⟨r,L,i,h1,h2,rfl,rfl⟩:=x
  dsimp only at z ⊢
  have zi:¬ i<7:=by have:=of_decide_eq_false z;omega
  exact fin i h1 h2 (by omega)
 ·obtain⟨r,L,i,h1,h2,rfl,rfl⟩:=x
  dsimp only at y ⊢
  have yi:¬ i<rs.length:=by have:=of_decide_eq_false y;omega
  exact fin i h1 h2 (by omega)
theorem s_pi2:SoundT C0 20 tPi2:=by
 refine .of Tryz.func20 (by decide) rfl fun args H K h hB=>?_
 unfold tPi2 pfM2 at h
 split at h<;>try exact h.elim
 split at h<;>try exact h.elim
 refine⟨_,?_,vc_pi2 _ _ ⟨_,_,_,_,_,_,_⟩ _ _ _ _ _ K h.1 h.2.1 h.2.2⟩
 exact trivial
def tPiU:Tfm C0:=fun args H K=>match H with
 | [_,_,_,_,_,_,_,_,_,_,_]=>tPi args H K
 | [_,_,_,_,_,_,_,_,_,_,_,_,_]=>tPi2 args H K
 | _=>False
theorem s_piU:SoundT C0 20 tPiU:=⟨s_pi.enter,fun args H K h=>by
 unfold tPiU at h
 split at h
 ·exact s_pi.call _ _ _ h
 ·exact s_pi2.call _ _ _ h
 ·exact h.elim⟩
theorem vc_smB (l:List Int)(K:KT)(h1:l.length<=100000000)(h:K (.one (.at (vB true))) [.row false EC.u8 l,.row false EC.u8 l] []) :
  vc C0 (aSmB l l) Tryz.f24 [.at (.slc 0),.at (.slc 1)] [.row false EC.u8 l,.row false EC.u8 l] (normK 2 K):=by
 have hm:∀ m:List Int,m=l->vc C0 (aSmB l m) Tryz.f24 [.at (.slc 0),.at (.slc 1)] [.row false EC.u8 l,.row false EC.u8 m] (normK 2 K):=fun m em=>by
  refine Eq.mp (show (brS ((l.length:Int) != (m.length:Int)) (K (.one (.at (.val (Value.bool false)))) [(.row false EC.u8 (l)),(.row false EC.u8 (m))] []) ((∃ x:XI8 l.length,True/\(True/\True/\VI 0=(VI (x.i:Int))/\True)/\l=l/\m=m/\True)/\∀ x:XI8 l.length,True->brS (decide ((x.i:Int)<(l.length:Int))) (0<=(x.i:Int)/\(x.i:Int)<(l.length:Int)/\0<=(x.i:Int)/\(x.i:Int)<(m.length:Int)/\brS (l.getD (x.i:Int).toNat 0 != m.getD (x.i:Int).toNat 0) (K (.one (.at (.val (Value.bool false)))) [(.row false EC.u8 (l)),(.row false EC.u8 (m))] []) (∃ x':XI8 l.length,True/\((True/\True/\(VI (IntKind.i64.wrap ((x.i:Int)+1)))=(VI (x'.i:Int))/\True)/\l=l/\m=m/\True)/\l.length-x'.i<l.length-x.i)) (K (.one (.at (.val (Value.bool true)))) [(.row false EC.u8 (l)),(.row false EC.u8 (m))] [])))=_ by kernel_rfl) ?_
  subst em
  refine brS_of (fun c=>by simp at c) fun _=>⟨⟨⟨0,Nat.zero_le _⟩,?_⟩,fun x _=>brS_of (fun c=>?_) fun c=>h⟩
  ·(repeat' first|exact trivial|exact rfl|refine And.intro ?_ ?_)
  have c:x.i<m.length:=by have:=of_decide_eq_true c;omega
  refine⟨by omega,by omega,by omega,by omega,brS_of (fun e=>by simp at e) fun _=>⟨⟨x.i+1,c⟩,?_⟩⟩
  (repeat' first|exact trivial|exact rfl|refine And.intro ?_ ?_)
  ·rw[wrap_id (by omega) (by omega)];congr 1
  ·show m.length-(x.i+1)<_;omega
 exact hm l rfl
theorem s_smB:SoundT C0 24 tSmB:=by
 refine .of Tryz.func24 (by decide) rfl fun args H K h hB=>?_
 unfold tSmB at h
 split at h<;>try exact h.elim
 rename_i l m
 obtain⟨rfl,h1,h⟩:=h
 exact⟨aSmB l l,trivial,vc_smB l K h1 h⟩
end Go.Proofs.YtedfbafngmicpaaGreat.Sx
end
section
/- Equal dumps, and the count of a slot of a dump. -/
namespace Go.Proofs.YtedfbafngmicpaaGreat.Sx
open Go

/-KEEP Wf exW inU alcD slotsOf orderOf-/
end Go.Proofs.YtedfbafngmicpaaGreat.Sx
end
section
/- The reference's Check of a dump, Clean and Sound. -/
namespace Go.Proofs.YtedfbafngmicpaaGreat.Sx
open Go

/-KEEP Wf exW inU allU Arn.cap Arn.free alcD cntL kidsL slotsOf orderOf MarksR CleanD kidsU-/
structure XCk (d:List SlotT) (roots:List Int) where
 i:Nat
 m:List Bool
 h:i<=d.length/\MarksR d roots m
structure XCj (d:List SlotT) (roots:List Int) (P:Nat->Int->Prop) where
 i:Nat
 m:List Bool
 c:Int
 h:i<d.length/\MarksR d roots m/\P i c
abbrev bxSl (x:SlotT):Chunk C0:=.box [.val (.bool x.alloc),vI x.count,vU x.gen,vI x.node.key,vI x.node.value,vU x.node.left,vU x.node.right,vI x.node.size,vI x.node.sum,vI x.node.min,vI x.node.max]
abbrev chK (d:List SlotT)(fl roots:List Int)(m:List Bool):List (Chunk C0):=[.row false EC.slot d,.row false EC.u32 fl,.row false EC.u32 roots,.box [.slc 0,.slc 1],.row true EC.int (cntL (kidsL d) d.length),.row true EC.bool m,.row true EC.int (cntL fl d.length),.row true EC.int (cntL roots d.length),.row true EC.find []]
structure XIy (n:Nat) where
 i:Nat
 h:i<n
noncomputable def aChk (P0 P1 P2 P3 P4:Nat->Int->Prop)(d:List SlotT)(fl roots:List Int):Ann C0:={ Γ:=[(135,frameT [] tInE),(136,frameT [] tMk),(137,frameT [] tCnt),(108,frameT [] tAlc),(138,frameT [] tKids)],quiet:=[135,136,137,108,138],rounds:=fun n=>if n=19 then 3 else 0,inv:=fun n=>match n with
 | 5=>some { X:=XCk d roots,sl:=[2,6,7,8,9,5,10],tf:=fun x=>[.one (.at (.ptr 3 0)),.one (.at (.slc 4)),.one (.at (.slc 5)),.one (.at (.slc 6)),.one (.at (.slc 7)),.one (.at (.slc 8)),vi .i64 x.i],hf:=fun x=>chK d fl roots x.m,μ:=fun x=>d.length-x.i }
 | 1011=>some { X:=XCj d roots P4,sl:=[2,6,7,8,9,5,10,12,13],tf:=fun x=>[.one (.at (.ptr 3 0)),.one (.at (.slc 4)),.one (.at (.slc 5)),.one (.at (.slc 6)),.one (.at (.slc 7)),.one (.at (.slc 8)),vi .i64 x.i,.one (.at (.ptr 9 0)),vi .i64 x.c],hf:=fun x=>chK d fl roots x.m++[bxSl (eS d x.i)],rel:=fun T _ z=>slotI T 10 z.i }
 | 1013=>some { X:=XCj d roots P0,sl:=[2,6,7,8,9,5,10,12,60],tf:=fun x=>[.one (.at (.ptr 3 0)),.one (.at (.slc 4)),.one (.at (.slc 5)),.one (.at (.slc 6)),.one (.at (.slc 7)),.one (.at (.slc 8)),vi .i64 x.i,.one (.at (.ptr 9 0)),vb false],hf:=fun x=>chK d fl roots x.m++[bxSl (eS d x.i)],rel:=fun T _ z=>slotI T 10 z.i }
 | 1025=>some { X:=XCj d roots P1,sl:=[2,6,7,8,9,5,10,12,17],tf:=fun x=>[.one (.at (.ptr 3 0)),.one (.at (.slc 4)),.one (.at (.slc 5)),.one (.at (.slc 6)),.one (.at (.slc 7)),.one (.at (.slc 8)),vi .i64 x.i,.one (.at (.ptr 9 0)),vi .i64 x.c],hf:=fun x=>chK d fl roots x.m++[bxSl (eS d x.i)],rel:=fun T _ z=>slotI T 10 z.i }
 | 1026=>some { X:=XCj d roots P2,sl:=[2,6,7,8,9,5,10,12,110],tf:=fun x=>[.one (.at (.ptr 3 0)),.one (.at (.slc 4)),.one (.at (.slc 5)),.one (.at (.slc 6)),.one (.at (.slc 7)),.one (.at (.slc 8)),vi .i64 x.i,.one (.at (.ptr 9 0)),vb false],hf:=fun x=>chK d fl roots x.m++[bxSl (eS d x.i)],rel:=fun T _ z=>slotI T 10 z.i }
 | 1028=>some { X:=XCj d roots P3,sl:=[2,6,7,8,9,5,10,12,15],tf:=fun x=>[.one (.at (.ptr 3 0)),.one (.at (.slc 4)),.one (.at (.slc 5)),.one (.at (.slc 6)),.one (.at (.slc 7)),.one (.at (.slc 8)),vi .i64 x.i,.one (.at (.ptr 9 0)),vi .i64 x.c],hf:=fun x=>chK d fl roots x.m++[bxSl (eS d x.i)],rel:=fun T _ z=>slotI T 10 z.i }
 | 1029=>some { X:=XCj d roots P0,sl:=[2,6,7,8,9,5,10,12,132],tf:=fun x=>[.one (.at (.ptr 3 0)),.one (.at (.slc 4)),.one (.at (.slc 5)),.one (.at (.slc 6)),.one (.at (.slc 7)),.one (.at (.slc 8)),vi .i64 x.i,.one (.at (.ptr 9 0)),vb false],hf:=fun x=>chK d fl roots x.m++[bxSl (eS d x.i)],rel:=fun T _ z=>slotI T 10 z.i }
 | 1031=>some { X:=XCj d roots P0,sl:=[2,6,7,8,9,5,10,12,149],tf:=fun x=>[.one (.at (.ptr 3 0)),.one (.at (.slc 4)),.one (.at (.slc 5)),.one (.at (.slc 6)),.one (.at (.slc 7)),.one (.at (.slc 8)),vi .i64 x.i,.one (.at (.ptr 9 0)),vb false],hf:=fun x=>chK d fl roots x.m++[bxSl (eS d x.i)],rel:=fun T _ z=>slotI T 10 z.i }
 | 33=>some { X:=XIx fl.length,sl:=[2,5,19],tf:=fun x=>[.one (.at (.ptr 3 0)),.one (.at (.slc 4)),vi .i64 x.i],hf:=fun _=>[.row false EC.slot d,.row false EC.u32 fl,.row false EC.u32 roots,.box [.slc 0,.slc 1],.row true EC.find []],μ:=fun x=>fl.length-x.i }
 | 1036=>some { X:=XIy fl.length,sl:=[2,5,19,180],tf:=fun x=>[.one (.at (.ptr 3 0)),.one (.at (.slc 4)),vi .i64 x.i,vb false],hf:=fun _=>[.row false EC.slot d,.row false EC.u32 fl,.row false EC.u32 roots,.box [.slc 0,.slc 1],.row true EC.find []],rel:=fun T _ z=>slotI T 19 z.i }
 | 38=>some { X:=XIx roots.length,sl:=[2,5,20],tf:=fun x=>[.one (.at (.ptr 3 0)),.one (.at (.slc 4)),vi .i64 x.i],hf:=fun _=>[.row false EC.slot d,.row false EC.u32 fl,.row false EC.u32 roots,.box [.slc 0,.slc 1],.row true EC.find []],μ:=fun x=>roots.length-x.i }
 | 1041=>some { X:=XIy roots.length,sl:=[2,5,20,209],tf:=fun x=>[.one (.at (.ptr 3 0)),.one (.at (.slc 4)),vi .i64 x.i,vb false],hf:=fun _=>[.row false EC.slot d,.row false EC.u32 fl,.row false EC.u32 roots,.box [.slc 0,.slc 1],.row true EC.find []],rel:=fun T _ z=>slotI T 20 z.i }
 | _=>none }
def tChk:Tfm C0:=fun args H K=>match args,H with
 | [.agg [.slc 0,.slc 1],.at (.slc 2)],[.row false .slot d,.row false .u32 fl,.row false .u32 roots]=>CleanD d fl roots/\kidsU d/\allU fl/\allU roots/\d.length<=100000/\fl.length<=1000000/\roots.length<=1000000 ∧
  K (.one (.at (.slc 3))) [.row false EC.slot d,.row false EC.u32 fl,.row false EC.u32 roots,.row true EC.find []] []
 | _,_=>False
noncomputable def aCln:Ann C0:={ Γ:=[(115,frameT [] tChk)] }
def tCln:Tfm C0:=fun args H K=>match args,H with
 | [.agg [.slc 0,.slc 1],.at (.slc 2)],[.row false .slot d,.row false .u32 fl,.row false .u32 roots]=>CleanD d fl roots/\kidsU d/\allU fl/\allU roots/\d.length<=100000/\fl.length<=1000000/\roots.length<=1000000 ∧
  K (.one (.at (vB true))) [.row false EC.slot d,.row false EC.u32 fl,.row false EC.u32 roots] []
 | _,_=>False
noncomputable def aSound:Ann C0:={ Γ:=[(17,frameT [] tDump),(65,frameT [] tCln)] }
def tSound:Tfm C0:=fun args H K=>match args with
 | [.at (.ptr 0 0),.at (.slc 7)]=>arMr H fun S rest=>match rest with
  | [.row false .u32 roots]=>∃ hs,Wf S hs/\roots.Perm hs/\roots.length<=1000000/\K (.one (.at (vB true))) (chS S++[.row false EC.u32 roots]) []
  | _=>False
 | _=>False
def P0c (_:Nat)(_:Int):Prop:=True
def P4c (d:List SlotT)(i:Nat)(c:Int):Prop:=c=if (eS d i).alloc=true then 0 else 1
def P1c (d:List SlotT)(i:Nat)(c:Int):Prop:=(eS d i).alloc=true/\c=1+szD d (eS d i).node.left+szD d (eS d i).node.right
def P2c (d:List SlotT)(i:Nat)(_:Int):Prop:=(eS d i).alloc=true
def P3c (d:List SlotT)(roots:List Int)(i:Nat)(c:Int):Prop:=c=if (eS d i).alloc=true then ((kidsL d).count ((i:Int)+1):Int)+(roots.count ((i:Int)+1):Int) else 0
theorem eS_sz {d:List SlotT}{fl roots:List Int}(_:CleanD d fl roots)(hl:d.length<=100000){j:Int}(h:alcD d j=true):0<=IntKind.u32.wrap (j-1)/\IntKind.u32.wrap (j-1)<(d.length:Int)/\(eS d (IntKind.u32.wrap (j-1)).toNat).node.size=szD d j:=by
 obtain⟨a,b⟩:=alcD_rng h
 rw[wrap_u32 (x:=j-1) (by omega) (by omega)]
 refine⟨by omega,by omega,?_⟩
 unfold szD;rw[if_pos h];rfl
theorem szD_no {d:List SlotT}{j:Int}(h:alcD d j=false):szD d j=0:=by unfold szD;rw[h];rfl
theorem szD_rng {d:List SlotT}{fl roots:List Int}(hc:CleanD d fl roots)(j:Int):0<=szD d j/\szD d j<=4294967296:=by
 cases h:alcD d j with
 | false=>rw[szD_no h];omega
 | true =>
  obtain⟨a,b⟩:=alcD_rng h
  unfold szD;rw[if_pos h]
  exact hc.zr (j-1).toNat (by omega)
theorem vc_chk (d:List SlotT)(fl roots:List Int)(K:KT)(hc:CleanD d fl roots)(hk:kidsU d)(hfu:allU fl)(hru:allU roots)(hl:d.length<=100000)(hf:fl.length<=1000000)(hr:roots.length<=1000000)(h:K (.one (.at (.slc 3))) [.row false EC.slot d,.row false EC.u32 fl,.row false EC.u32 roots,.row true EC.find []] []) :
  vc C0 (aChk P0c (P1c d) (P2c d) (P3c d roots) (P4c d) d fl roots) Tryz.f115 [.agg [.slc 0,.slc 1],.at (.slc 2)] [.row false EC.slot d,.row false EC.u32 fl,.row false EC.u32 roots] (normK 3 K):=by
 generalize hP0:P0c=P0
 generalize hP1:P1c d=P1
 generalize hP2:P2c d=P2
 generalize hP3:P3c d roots=P3
 generalize hP4:P4c d=P4
 refine Eq.mp (show (d.length<=100000/\kidsU d/\∀ o:List Int,o=(cntL (kidsL d) d.length)->d.length<=100000/\roots.length<=1000000/\kidsU d/\allU roots/\∀ m:List Bool,MarksR d roots m->0<=(d.length:Int)/\(d.length:Int)<=100000/\fl.length<=1000000/\allU fl/\∀ o1:List Int,o1=(cntL fl (d.length:Int).toNat)->0<=(d.length:Int)/\(d.length:Int)<=100000/\roots.length<=1000000/\allU roots/\∀ o2:List Int,o2=(cntL roots (d.length:Int).toNat)->(∃ x:XCk d roots,True/\(True/\True/\True/\True/\True/\True/\True/\VI 0=(VI (x.i:Int))/\True)/\d=d/\fl=fl/\roots=roots/\(True/\True/\True)/\o=(cntL (kidsL d) d.length)/\m=x.m/\o1=cntL fl d.length/\o2=cntL roots d.length/\([]:List FindT)=[]/\True)/\∀ x:XCk d roots,True->brS (decide ((x.i:Int)<(d.length:Int))) (0<=(x.i:Int)/\(x.i:Int)<(d.length:Int)/\brS ((eS d (x.i:Int).toNat).alloc) (∃ x1:XCj d roots P4,((x.i:Int))=((x1.i:Int))/\(True/\True/\True/\True/\True/\True/\True/\VI (x.i:Int)=VI (x1.i:Int)/\(VU (IntKind.u32.wrap (IntKind.i64.wrap ((x.i:Int)+1))))=(VU (IntKind.u32.wrap (IntKind.i64.wrap ((x.i:Int)+1))))/\True/\VI 0=(VI (x1.c))/\True)/\d=d/\fl=fl/\roots=roots/\(True/\True/\True)/\(cntL (kidsL d) d.length)=(cntL (kidsL d) d.length)/\x.m=x1.m/\cntL fl d.length=cntL fl d.length/\cntL roots d.length=cntL roots d.length/\([]:List FindT)=[]/\((Value.bool ((eS d (x.i:Int).toNat).alloc))=(Value.bool ((eS d x1.i).alloc))/\(VI ((eS d (x.i:Int).toNat).count))=(VI ((eS d x1.i).count))/\(VU ((eS d (x.i:Int).toNat).gen))=(VU ((eS d x1.i).gen))/\(VI ((eS d (x.i:Int).toNat).node.key))=(VI ((eS d x1.i).node.key))/\
 (VI ((eS d (x.i:Int).toNat).node.value))=(VI ((eS d x1.i).node.value))/\(VU ((eS d (x.i:Int).toNat).node.left))=(VU ((eS d x1.i).node.left))/\(VU ((eS d (x.i:Int).toNat).node.right))=(VU ((eS d x1.i).node.right))/\(VI ((eS d (x.i:Int).toNat).node.size))=(VI ((eS d x1.i).node.size))/\(VI ((eS d (x.i:Int).toNat).node.sum))=(VI ((eS d x1.i).node.sum))/\(VI ((eS d (x.i:Int).toNat).node.min))=(VI ((eS d x1.i).node.min))/\(VI ((eS d (x.i:Int).toNat).node.max))=(VI ((eS d x1.i).node.max))/\True)/\True) (∃ x1:XCj d roots P4,((x.i:Int))=((x1.i:Int))/\(True/\True/\True/\True/\True/\True/\True/\VI (x.i:Int)=VI (x1.i:Int)/\(VU (IntKind.u32.wrap (IntKind.i64.wrap ((x.i:Int)+1))))=(VU (IntKind.u32.wrap (IntKind.i64.wrap ((x.i:Int)+1))))/\True/\VI 1=(VI (x1.c))/\True)/\d=d/\fl=fl/\roots=roots/\(True/\True/\True)/\(cntL (kidsL d) d.length)=(cntL (kidsL d) d.length)/\x.m=x1.m/\cntL fl d.length=cntL fl d.length/\cntL roots d.length=cntL roots d.length/\([]:List FindT)=[]/\((Value.bool ((eS d (x.i:Int).toNat).alloc))=(Value.bool ((eS d x1.i).alloc))/\(VI ((eS d (x.i:Int).toNat).count))=(VI ((eS d x1.i).count))/\(VU ((eS d (x.i:Int).toNat).gen))=(VU ((eS d x1.i).gen))/\(VI ((eS d (x.i:Int).toNat).node.key))=(VI ((eS d x1.i).node.key))/\(VI ((eS d (x.i:Int).toNat).node.value))=(VI ((eS d x1.i).node.value))/\(VU ((eS d (x.i:Int).toNat).node.left))=(VU ((eS d x1.i).node.left))/\(VU ((eS d (x.i:Int).toNat).node.right))=(VU ((eS d x1.i).node.right))/\(VI ((eS d (x.i:Int).toNat).node.size))=(VI ((eS d x1.i).node.size))/\
 (VI ((eS d (x.i:Int).toNat).node.sum))=(VI ((eS d x1.i).node.sum))/\(VI ((eS d (x.i:Int).toNat).node.min))=(VI ((eS d x1.i).node.min))/\(VI ((eS d (x.i:Int).toNat).node.max))=(VI ((eS d x1.i).node.max))/\True)/\True)/\∀ x1:XCj d roots P4,((x.i:Int))=((x1.i:Int))->0<=(x1.i:Int)/\(x1.i:Int)<(↑(cntL fl d.length).length:Int)/\(∃ x2:XCj d roots P0,((x1.i:Int))=((x2.i:Int))/\(True/\True/\True/\True/\True/\True/\True/\VI (x1.i:Int)=VI (x2.i:Int)/\(VU (IntKind.u32.wrap (IntKind.i64.wrap ((x.i:Int)+1))))=(VU (IntKind.u32.wrap (IntKind.i64.wrap ((x.i:Int)+1))))/\True/\VI (x1.c)=VI (x1.c)/\(VI ((cntL fl d.length).getD (x1.i:Int).toNat 0))=(VI ((cntL fl d.length).getD (x1.i:Int).toNat 0))/\(Value.bool ((cntL fl d.length).getD (x1.i:Int).toNat 0 != x1.c))=Value.bool false/\True)/\d=d/\fl=fl/\roots=roots/\(True/\True/\True)/\(cntL (kidsL d) d.length)=(cntL (kidsL d) d.length)/\x1.m=x2.m/\cntL fl d.length=cntL fl d.length/\cntL roots d.length=cntL roots d.length/\([]:List FindT)=[]/\((Value.bool ((eS d x1.i).alloc))=(Value.bool ((eS d x2.i).alloc))/\(VI ((eS d x1.i).count))=(VI ((eS d x2.i).count))/\(VU ((eS d x1.i).gen))=(VU ((eS d x2.i).gen))/\(VI ((eS d x1.i).node.key))=(VI ((eS d x2.i).node.key))/\(VI ((eS d x1.i).node.value))=(VI ((eS d x2.i).node.value))/\(VU ((eS d x1.i).node.left))=(VU ((eS d x2.i).node.left))/\(VU ((eS d x1.i).node.right))=(VU ((eS d x2.i).node.right))/\(VI ((eS d x1.i).node.size))=(VI ((eS d x2.i).node.size))/\(VI ((eS d x1.i).node.sum))=(VI ((eS d x2.i).node.sum))/\
 (VI ((eS d x1.i).node.min))=(VI ((eS d x2.i).node.min))/\(VI ((eS d x1.i).node.max))=(VI ((eS d x2.i).node.max))/\True)/\True)/\∀ x2:XCj d roots P0,((x1.i:Int))=((x2.i:Int))->brS ((eS d x2.i).alloc) (((0:Int)<=0/\0<((2:Nat):Int)/\inU (eS d x2.i).node.left/\d.length<=1000000/\brS (alcD d (eS d x2.i).node.left) ((0:Int)<=0/\0<((2:Nat):Int)/\0<=IntKind.u32.wrap ((eS d x2.i).node.left-1)/\IntKind.u32.wrap ((eS d x2.i).node.left-1)<(d.length:Int)/\0<=IntKind.i64.wrap (0+1)/\IntKind.i64.wrap (0+1)<((2:Nat):Int)/\inU (eS d x2.i).node.right/\d.length<=1000000/\brS (alcD d (eS d x2.i).node.right) (0<=IntKind.i64.wrap (0+1)/\IntKind.i64.wrap (0+1)<((2:Nat):Int)/\0<=IntKind.u32.wrap ((eS d x2.i).node.right-1)/\IntKind.u32.wrap ((eS d x2.i).node.right-1)<(d.length:Int)/\∃ x3:XCj d roots P1,((x2.i:Int))=((x3.i:Int))/\(True/\True/\True/\True/\True/\True/\True/\VI (x2.i:Int)=VI (x3.i:Int)/\(VU (IntKind.u32.wrap (IntKind.i64.wrap ((x.i:Int)+1))))=(VU (IntKind.u32.wrap (IntKind.i64.wrap ((x.i:Int)+1))))/\True/\(VI (IntKind.i64.wrap (IntKind.i64.wrap (1+(eS d (IntKind.u32.wrap ((eS d x2.i).node.left-1)).toNat).node.size)+(eS d (IntKind.u32.wrap ((eS d x2.i).node.right-1)).toNat).node.size)))=(VI (x3.c))/\True)/\d=d/\fl=fl/\roots=roots/\(True/\True/\True)/\(cntL (kidsL d) d.length)=(cntL (kidsL d) d.length)/\x2.m=x3.m/\cntL fl d.length=cntL fl d.length/\cntL roots d.length=cntL roots d.length/\([]:List FindT)=[]/\((Value.bool ((eS d x2.i).alloc))=(Value.bool ((eS d x3.i).alloc))/\(VI ((eS d x2.i).count))=(VI ((eS d x3.i).count))/\
 (VU ((eS d x2.i).gen))=(VU ((eS d x3.i).gen))/\(VI ((eS d x2.i).node.key))=(VI ((eS d x3.i).node.key))/\(VI ((eS d x2.i).node.value))=(VI ((eS d x3.i).node.value))/\(VU ((eS d x2.i).node.left))=(VU ((eS d x3.i).node.left))/\(VU ((eS d x2.i).node.right))=(VU ((eS d x3.i).node.right))/\(VI ((eS d x2.i).node.size))=(VI ((eS d x3.i).node.size))/\(VI ((eS d x2.i).node.sum))=(VI ((eS d x3.i).node.sum))/\(VI ((eS d x2.i).node.min))=(VI ((eS d x3.i).node.min))/\(VI ((eS d x2.i).node.max))=(VI ((eS d x3.i).node.max))/\True)/\True) (0<=IntKind.i64.wrap (0+1)/\IntKind.i64.wrap (0+1)<((2:Nat):Int)/\brS ((eS d x2.i).node.right != 0) (0<=IntKind.i64.wrap (0+1)/\IntKind.i64.wrap (0+1)<((2:Nat):Int)/\(([]:List Ent).length+[{ kind:=2,slot:=IntKind.u32.wrap (IntKind.i64.wrap ((x.i:Int)+1)),want:=0,have_:=IntKind.i64.wrap (eS d x2.i).node.right:FindT }].length)*bytesOf C0 EC.find<=140737488355328/\∃ x3:XCj d roots P1,((x2.i:Int))=((x3.i:Int))/\(True/\True/\True/\True/\True/\True/\True/\VI (x2.i:Int)=VI (x3.i:Int)/\(VU (IntKind.u32.wrap (IntKind.i64.wrap ((x.i:Int)+1))))=(VU (IntKind.u32.wrap (IntKind.i64.wrap ((x.i:Int)+1))))/\True/\(VI (IntKind.i64.wrap (1+(eS d (IntKind.u32.wrap ((eS d x2.i).node.left-1)).toNat).node.size)))=(VI (x3.c))/\True)/\d=d/\fl=fl/\roots=roots/\(True/\True/\True)/\(cntL (kidsL d) d.length)=(cntL (kidsL d) d.length)/\x2.m=x3.m/\cntL fl d.length=cntL fl d.length/\cntL roots d.length=cntL roots d.length/\[({ kind:=2,slot:=IntKind.u32.wrap (IntKind.i64.wrap ((x.i:Int)+1)),want:=0,have_:=IntKind.i64.wrap (eS d x2.i).node.right:FindT })]=[]/\
 ((Value.bool ((eS d x2.i).alloc))=(Value.bool ((eS d x3.i).alloc))/\(VI ((eS d x2.i).count))=(VI ((eS d x3.i).count))/\(VU ((eS d x2.i).gen))=(VU ((eS d x3.i).gen))/\(VI ((eS d x2.i).node.key))=(VI ((eS d x3.i).node.key))/\(VI ((eS d x2.i).node.value))=(VI ((eS d x3.i).node.value))/\(VU ((eS d x2.i).node.left))=(VU ((eS d x3.i).node.left))/\(VU ((eS d x2.i).node.right))=(VU ((eS d x3.i).node.right))/\(VI ((eS d x2.i).node.size))=(VI ((eS d x3.i).node.size))/\(VI ((eS d x2.i).node.sum))=(VI ((eS d x3.i).node.sum))/\(VI ((eS d x2.i).node.min))=(VI ((eS d x3.i).node.min))/\(VI ((eS d x2.i).node.max))=(VI ((eS d x3.i).node.max))/\True)/\True) (∃ x3:XCj d roots P1,((x2.i:Int))=((x3.i:Int))/\(True/\True/\True/\True/\True/\True/\True/\VI (x2.i:Int)=VI (x3.i:Int)/\(VU (IntKind.u32.wrap (IntKind.i64.wrap ((x.i:Int)+1))))=(VU (IntKind.u32.wrap (IntKind.i64.wrap ((x.i:Int)+1))))/\True/\(VI (IntKind.i64.wrap (1+(eS d (IntKind.u32.wrap ((eS d x2.i).node.left-1)).toNat).node.size)))=(VI (x3.c))/\True)/\d=d/\fl=fl/\roots=roots/\(True/\True/\True)/\(cntL (kidsL d) d.length)=(cntL (kidsL d) d.length)/\x2.m=x3.m/\cntL fl d.length=cntL fl d.length/\cntL roots d.length=cntL roots d.length/\([]:List FindT)=[]/\((Value.bool ((eS d x2.i).alloc))=(Value.bool ((eS d x3.i).alloc))/\(VI ((eS d x2.i).count))=(VI ((eS d x3.i).count))/\(VU ((eS d x2.i).gen))=(VU ((eS d x3.i).gen))/\(VI ((eS d x2.i).node.key))=(VI ((eS d x3.i).node.key))/\(VI ((eS d x2.i).node.value))=(VI ((eS d x3.i).node.value))/\(VU ((eS d x2.i).node.left))=(VU ((eS d x3.i).node.left))/\
 (VU ((eS d x2.i).node.right))=(VU ((eS d x3.i).node.right))/\(VI ((eS d x2.i).node.size))=(VI ((eS d x3.i).node.size))/\(VI ((eS d x2.i).node.sum))=(VI ((eS d x3.i).node.sum))/\(VI ((eS d x2.i).node.min))=(VI ((eS d x3.i).node.min))/\(VI ((eS d x2.i).node.max))=(VI ((eS d x3.i).node.max))/\True)/\True))) ((0:Int)<=0/\0<((2:Nat):Int)/\brS ((eS d x2.i).node.left != 0) ((0:Int)<=0/\0<((2:Nat):Int)/\(([]:List Ent).length+[{ kind:=2,slot:=IntKind.u32.wrap (IntKind.i64.wrap ((x.i:Int)+1)),want:=0,have_:=IntKind.i64.wrap (eS d x2.i).node.left:FindT }].length)*bytesOf C0 EC.find<=140737488355328/\0<=IntKind.i64.wrap (0+1)/\IntKind.i64.wrap (0+1)<((2:Nat):Int)/\inU (eS d x2.i).node.right/\d.length<=1000000/\brS (alcD d (eS d x2.i).node.right) (0<=IntKind.i64.wrap (0+1)/\IntKind.i64.wrap (0+1)<((2:Nat):Int)/\0<=IntKind.u32.wrap ((eS d x2.i).node.right-1)/\IntKind.u32.wrap ((eS d x2.i).node.right-1)<(d.length:Int)/\∃ x3:XCj d roots P1,((x2.i:Int))=((x3.i:Int))/\(True/\True/\True/\True/\True/\True/\True/\VI (x2.i:Int)=VI (x3.i:Int)/\(VU (IntKind.u32.wrap (IntKind.i64.wrap ((x.i:Int)+1))))=(VU (IntKind.u32.wrap (IntKind.i64.wrap ((x.i:Int)+1))))/\True/\(VI (IntKind.i64.wrap (1+(eS d (IntKind.u32.wrap ((eS d x2.i).node.right-1)).toNat).node.size)))=(VI (x3.c))/\True)/\d=d/\fl=fl/\roots=roots/\(True/\True/\True)/\(cntL (kidsL d) d.length)=(cntL (kidsL d) d.length)/\x2.m=x3.m/\cntL fl d.length=cntL fl d.length/\cntL roots d.length=cntL roots d.length/\[({ kind:=2,slot:=IntKind.u32.wrap (IntKind.i64.wrap ((x.i:Int)+1)),want:=0,have_:=IntKind.i64.wrap (eS d x2.i).node.left:FindT })]=[]/\
 ((Value.bool ((eS d x2.i).alloc))=(Value.bool ((eS d x3.i).alloc))/\(VI ((eS d x2.i).count))=(VI ((eS d x3.i).count))/\(VU ((eS d x2.i).gen))=(VU ((eS d x3.i).gen))/\(VI ((eS d x2.i).node.key))=(VI ((eS d x3.i).node.key))/\(VI ((eS d x2.i).node.value))=(VI ((eS d x3.i).node.value))/\(VU ((eS d x2.i).node.left))=(VU ((eS d x3.i).node.left))/\(VU ((eS d x2.i).node.right))=(VU ((eS d x3.i).node.right))/\(VI ((eS d x2.i).node.size))=(VI ((eS d x3.i).node.size))/\(VI ((eS d x2.i).node.sum))=(VI ((eS d x3.i).node.sum))/\(VI ((eS d x2.i).node.min))=(VI ((eS d x3.i).node.min))/\(VI ((eS d x2.i).node.max))=(VI ((eS d x3.i).node.max))/\True)/\True) (0<=IntKind.i64.wrap (0+1)/\IntKind.i64.wrap (0+1)<((2:Nat):Int)/\brS ((eS d x2.i).node.right != 0) (0<=IntKind.i64.wrap (0+1)/\IntKind.i64.wrap (0+1)<((2:Nat):Int)/\([{ kind:=2,slot:=IntKind.u32.wrap (IntKind.i64.wrap ((x.i:Int)+1)),want:=0,have_:=IntKind.i64.wrap (eS d x2.i).node.left:FindT }].length+[{ kind:=2,slot:=IntKind.u32.wrap (IntKind.i64.wrap ((x.i:Int)+1)),want:=0,have_:=IntKind.i64.wrap (eS d x2.i).node.right:FindT }].length)*bytesOf C0 EC.find<=140737488355328/\∃ x3:XCj d roots P1,((x2.i:Int))=((x3.i:Int))/\(True/\True/\True/\True/\True/\True/\True/\VI (x2.i:Int)=VI (x3.i:Int)/\(VU (IntKind.u32.wrap (IntKind.i64.wrap ((x.i:Int)+1))))=(VU (IntKind.u32.wrap (IntKind.i64.wrap ((x.i:Int)+1))))/\True/\VI 1=(VI (x3.c))/\True)/\d=d/\fl=fl/\roots=roots/\(True/\True/\True)/\(cntL (kidsL d) d.length)=(cntL (kidsL d) d.length)/\x2.m=x3.m/\
 cntL fl d.length=cntL fl d.length/\cntL roots d.length=cntL roots d.length/\[({ kind:=2,slot:=IntKind.u32.wrap (IntKind.i64.wrap ((x.i:Int)+1)),want:=0,have_:=IntKind.i64.wrap (eS d x2.i).node.left:FindT }),({ kind:=2,slot:=IntKind.u32.wrap (IntKind.i64.wrap ((x.i:Int)+1)),want:=0,have_:=IntKind.i64.wrap (eS d x2.i).node.right:FindT })]=[]/\((Value.bool ((eS d x2.i).alloc))=(Value.bool ((eS d x3.i).alloc))/\(VI ((eS d x2.i).count))=(VI ((eS d x3.i).count))/\(VU ((eS d x2.i).gen))=(VU ((eS d x3.i).gen))/\(VI ((eS d x2.i).node.key))=(VI ((eS d x3.i).node.key))/\(VI ((eS d x2.i).node.value))=(VI ((eS d x3.i).node.value))/\(VU ((eS d x2.i).node.left))=(VU ((eS d x3.i).node.left))/\(VU ((eS d x2.i).node.right))=(VU ((eS d x3.i).node.right))/\(VI ((eS d x2.i).node.size))=(VI ((eS d x3.i).node.size))/\(VI ((eS d x2.i).node.sum))=(VI ((eS d x3.i).node.sum))/\(VI ((eS d x2.i).node.min))=(VI ((eS d x3.i).node.min))/\(VI ((eS d x2.i).node.max))=(VI ((eS d x3.i).node.max))/\True)/\True) (∃ x3:XCj d roots P1,((x2.i:Int))=((x3.i:Int))/\(True/\True/\True/\True/\True/\True/\True/\VI (x2.i:Int)=VI (x3.i:Int)/\(VU (IntKind.u32.wrap (IntKind.i64.wrap ((x.i:Int)+1))))=(VU (IntKind.u32.wrap (IntKind.i64.wrap ((x.i:Int)+1))))/\True/\VI 1=(VI (x3.c))/\True)/\d=d/\fl=fl/\roots=roots/\(True/\True/\True)/\(cntL (kidsL d) d.length)=(cntL (kidsL d) d.length)/\x2.m=x3.m/\cntL fl d.length=cntL fl d.length/\cntL roots d.length=cntL roots d.length/\[({ kind:=2,slot:=IntKind.u32.wrap (IntKind.i64.wrap ((x.i:Int)+1)),want:=0,have_:=IntKind.i64.wrap (eS d x2.i).node.left:FindT })]=[]/\
 ((Value.bool ((eS d x2.i).alloc))=(Value.bool ((eS d x3.i).alloc))/\(VI ((eS d x2.i).count))=(VI ((eS d x3.i).count))/\(VU ((eS d x2.i).gen))=(VU ((eS d x3.i).gen))/\(VI ((eS d x2.i).node.key))=(VI ((eS d x3.i).node.key))/\(VI ((eS d x2.i).node.value))=(VI ((eS d x3.i).node.value))/\(VU ((eS d x2.i).node.left))=(VU ((eS d x3.i).node.left))/\(VU ((eS d x2.i).node.right))=(VU ((eS d x3.i).node.right))/\(VI ((eS d x2.i).node.size))=(VI ((eS d x3.i).node.size))/\(VI ((eS d x2.i).node.sum))=(VI ((eS d x3.i).node.sum))/\(VI ((eS d x2.i).node.min))=(VI ((eS d x3.i).node.min))/\(VI ((eS d x2.i).node.max))=(VI ((eS d x3.i).node.max))/\True)/\True))) (0<=IntKind.i64.wrap (0+1)/\IntKind.i64.wrap (0+1)<((2:Nat):Int)/\inU (eS d x2.i).node.right/\d.length<=1000000/\brS (alcD d (eS d x2.i).node.right) (0<=IntKind.i64.wrap (0+1)/\IntKind.i64.wrap (0+1)<((2:Nat):Int)/\0<=IntKind.u32.wrap ((eS d x2.i).node.right-1)/\IntKind.u32.wrap ((eS d x2.i).node.right-1)<(d.length:Int)/\∃ x3:XCj d roots P1,((x2.i:Int))=((x3.i:Int))/\(True/\True/\True/\True/\True/\True/\True/\VI (x2.i:Int)=VI (x3.i:Int)/\(VU (IntKind.u32.wrap (IntKind.i64.wrap ((x.i:Int)+1))))=(VU (IntKind.u32.wrap (IntKind.i64.wrap ((x.i:Int)+1))))/\True/\(VI (IntKind.i64.wrap (1+(eS d (IntKind.u32.wrap ((eS d x2.i).node.right-1)).toNat).node.size)))=(VI (x3.c))/\True)/\d=d/\fl=fl/\roots=roots/\(True/\True/\True)/\(cntL (kidsL d) d.length)=(cntL (kidsL d) d.length)/\x2.m=x3.m/\cntL fl d.length=cntL fl d.length/\cntL roots d.length=cntL roots d.length/\
 ([]:List FindT)=[]/\((Value.bool ((eS d x2.i).alloc))=(Value.bool ((eS d x3.i).alloc))/\(VI ((eS d x2.i).count))=(VI ((eS d x3.i).count))/\(VU ((eS d x2.i).gen))=(VU ((eS d x3.i).gen))/\(VI ((eS d x2.i).node.key))=(VI ((eS d x3.i).node.key))/\(VI ((eS d x2.i).node.value))=(VI ((eS d x3.i).node.value))/\(VU ((eS d x2.i).node.left))=(VU ((eS d x3.i).node.left))/\(VU ((eS d x2.i).node.right))=(VU ((eS d x3.i).node.right))/\(VI ((eS d x2.i).node.size))=(VI ((eS d x3.i).node.size))/\(VI ((eS d x2.i).node.sum))=(VI ((eS d x3.i).node.sum))/\(VI ((eS d x2.i).node.min))=(VI ((eS d x3.i).node.min))/\(VI ((eS d x2.i).node.max))=(VI ((eS d x3.i).node.max))/\True)/\True) (0<=IntKind.i64.wrap (0+1)/\IntKind.i64.wrap (0+1)<((2:Nat):Int)/\brS ((eS d x2.i).node.right != 0) (0<=IntKind.i64.wrap (0+1)/\IntKind.i64.wrap (0+1)<((2:Nat):Int)/\(([]:List Ent).length+[{ kind:=2,slot:=IntKind.u32.wrap (IntKind.i64.wrap ((x.i:Int)+1)),want:=0,have_:=IntKind.i64.wrap (eS d x2.i).node.right:FindT }].length)*bytesOf C0 EC.find<=140737488355328/\∃ x3:XCj d roots P1,((x2.i:Int))=((x3.i:Int))/\(True/\True/\True/\True/\True/\True/\True/\VI (x2.i:Int)=VI (x3.i:Int)/\(VU (IntKind.u32.wrap (IntKind.i64.wrap ((x.i:Int)+1))))=(VU (IntKind.u32.wrap (IntKind.i64.wrap ((x.i:Int)+1))))/\True/\VI 1=(VI (x3.c))/\True)/\d=d/\fl=fl/\roots=roots/\(True/\True/\True)/\(cntL (kidsL d) d.length)=(cntL (kidsL d) d.length)/\x2.m=x3.m/\cntL fl d.length=cntL fl d.length/\cntL roots d.length=cntL roots d.length/\[({ kind:=2,slot:=IntKind.u32.wrap (IntKind.i64.wrap ((x.i:Int)+1)),want:=0,have_:=IntKind.i64.wrap (eS d x2.i).node.right:FindT })]=[]/\
 ((Value.bool ((eS d x2.i).alloc))=(Value.bool ((eS d x3.i).alloc))/\(VI ((eS d x2.i).count))=(VI ((eS d x3.i).count))/\(VU ((eS d x2.i).gen))=(VU ((eS d x3.i).gen))/\(VI ((eS d x2.i).node.key))=(VI ((eS d x3.i).node.key))/\(VI ((eS d x2.i).node.value))=(VI ((eS d x3.i).node.value))/\(VU ((eS d x2.i).node.left))=(VU ((eS d x3.i).node.left))/\(VU ((eS d x2.i).node.right))=(VU ((eS d x3.i).node.right))/\(VI ((eS d x2.i).node.size))=(VI ((eS d x3.i).node.size))/\(VI ((eS d x2.i).node.sum))=(VI ((eS d x3.i).node.sum))/\(VI ((eS d x2.i).node.min))=(VI ((eS d x3.i).node.min))/\(VI ((eS d x2.i).node.max))=(VI ((eS d x3.i).node.max))/\True)/\True) (∃ x3:XCj d roots P1,((x2.i:Int))=((x3.i:Int))/\(True/\True/\True/\True/\True/\True/\True/\VI (x2.i:Int)=VI (x3.i:Int)/\(VU (IntKind.u32.wrap (IntKind.i64.wrap ((x.i:Int)+1))))=(VU (IntKind.u32.wrap (IntKind.i64.wrap ((x.i:Int)+1))))/\True/\VI 1=(VI (x3.c))/\True)/\d=d/\fl=fl/\roots=roots/\(True/\True/\True)/\(cntL (kidsL d) d.length)=(cntL (kidsL d) d.length)/\x2.m=x3.m/\cntL fl d.length=cntL fl d.length/\cntL roots d.length=cntL roots d.length/\([]:List FindT)=[]/\((Value.bool ((eS d x2.i).alloc))=(Value.bool ((eS d x3.i).alloc))/\(VI ((eS d x2.i).count))=(VI ((eS d x3.i).count))/\(VU ((eS d x2.i).gen))=(VU ((eS d x3.i).gen))/\(VI ((eS d x2.i).node.key))=(VI ((eS d x3.i).node.key))/\(VI ((eS d x2.i).node.value))=(VI ((eS d x3.i).node.value))/\(VU ((eS d x2.i).node.left))=(VU ((eS d x3.i).node.left))/\(VU ((eS d x2.i).node.right))=(VU ((eS d x3.i).node.right))/\
 (VI ((eS d x2.i).node.size))=(VI ((eS d x3.i).node.size))/\(VI ((eS d x2.i).node.sum))=(VI ((eS d x3.i).node.sum))/\(VI ((eS d x2.i).node.min))=(VI ((eS d x3.i).node.min))/\(VI ((eS d x2.i).node.max))=(VI ((eS d x3.i).node.max))/\True)/\True)))))/\∀ x3:XCj d roots P1,((x2.i:Int))=((x3.i:Int))->(∃ x4:XCj d roots P2,((x3.i:Int))=((x4.i:Int))/\(True/\True/\True/\True/\True/\True/\True/\VI (x3.i:Int)=VI (x4.i:Int)/\(VU (IntKind.u32.wrap (IntKind.i64.wrap ((x.i:Int)+1))))=(VU (IntKind.u32.wrap (IntKind.i64.wrap ((x.i:Int)+1))))/\True/\VI (x3.c)=VI (x3.c)/\(Value.bool (x3.c != (eS d x3.i).node.size))=Value.bool false/\True)/\d=d/\fl=fl/\roots=roots/\(True/\True/\True)/\(cntL (kidsL d) d.length)=(cntL (kidsL d) d.length)/\x3.m=x4.m/\cntL fl d.length=cntL fl d.length/\cntL roots d.length=cntL roots d.length/\([]:List FindT)=[]/\((Value.bool ((eS d x3.i).alloc))=(Value.bool ((eS d x4.i).alloc))/\(VI ((eS d x3.i).count))=(VI ((eS d x4.i).count))/\(VU ((eS d x3.i).gen))=(VU ((eS d x4.i).gen))/\(VI ((eS d x3.i).node.key))=(VI ((eS d x4.i).node.key))/\(VI ((eS d x3.i).node.value))=(VI ((eS d x4.i).node.value))/\(VU ((eS d x3.i).node.left))=(VU ((eS d x4.i).node.left))/\(VU ((eS d x3.i).node.right))=(VU ((eS d x4.i).node.right))/\(VI ((eS d x3.i).node.size))=(VI ((eS d x4.i).node.size))/\(VI ((eS d x3.i).node.sum))=(VI ((eS d x4.i).node.sum))/\(VI ((eS d x3.i).node.min))=(VI ((eS d x4.i).node.min))/\(VI ((eS d x3.i).node.max))=(VI ((eS d x4.i).node.max))/\True)/\True)/\∀ x4:XCj d roots P2,((x3.i:Int))=((x4.i:Int))->0<=(x4.i:Int)/\
 (x4.i:Int)<(↑(cntL (kidsL d) d.length).length:Int)/\0<=(x4.i:Int)/\(x4.i:Int)<(↑(cntL roots d.length).length:Int)/\∃ x5:XCj d roots P3,((x2.i:Int))=((x5.i:Int))/\(True/\True/\True/\True/\True/\True/\True/\VI (x4.i:Int)=VI (x5.i:Int)/\(VU (IntKind.u32.wrap (IntKind.i64.wrap ((x.i:Int)+1))))=(VU (IntKind.u32.wrap (IntKind.i64.wrap ((x.i:Int)+1))))/\True/\(VI (IntKind.i64.wrap ((cntL (kidsL d) d.length).getD (x4.i:Int).toNat 0+(cntL roots d.length).getD (x4.i:Int).toNat 0)))=(VI (x5.c))/\True)/\d=d/\fl=fl/\roots=roots/\(True/\True/\True)/\(cntL (kidsL d) d.length)=(cntL (kidsL d) d.length)/\x4.m=x5.m/\cntL fl d.length=cntL fl d.length/\cntL roots d.length=cntL roots d.length/\([]:List FindT)=[]/\((Value.bool ((eS d x4.i).alloc))=(Value.bool ((eS d x5.i).alloc))/\(VI ((eS d x4.i).count))=(VI ((eS d x5.i).count))/\(VU ((eS d x4.i).gen))=(VU ((eS d x5.i).gen))/\(VI ((eS d x4.i).node.key))=(VI ((eS d x5.i).node.key))/\(VI ((eS d x4.i).node.value))=(VI ((eS d x5.i).node.value))/\(VU ((eS d x4.i).node.left))=(VU ((eS d x5.i).node.left))/\(VU ((eS d x4.i).node.right))=(VU ((eS d x5.i).node.right))/\(VI ((eS d x4.i).node.size))=(VI ((eS d x5.i).node.size))/\(VI ((eS d x4.i).node.sum))=(VI ((eS d x5.i).node.sum))/\(VI ((eS d x4.i).node.min))=(VI ((eS d x5.i).node.min))/\(VI ((eS d x4.i).node.max))=(VI ((eS d x5.i).node.max))/\True)/\True) (∃ x3:XCj d roots P3,((x2.i:Int))=((x3.i:Int))/\(True/\True/\True/\True/\True/\True/\True/\VI (x2.i:Int)=VI (x3.i:Int)/\(VU (IntKind.u32.wrap (IntKind.i64.wrap ((x.i:Int)+1))))=(VU (IntKind.u32.wrap (IntKind.i64.wrap ((x.i:Int)+1))))/\
 True/\VI 0=(VI (x3.c))/\True)/\d=d/\fl=fl/\roots=roots/\(True/\True/\True)/\(cntL (kidsL d) d.length)=(cntL (kidsL d) d.length)/\x2.m=x3.m/\cntL fl d.length=cntL fl d.length/\cntL roots d.length=cntL roots d.length/\([]:List FindT)=[]/\((Value.bool ((eS d x2.i).alloc))=(Value.bool ((eS d x3.i).alloc))/\(VI ((eS d x2.i).count))=(VI ((eS d x3.i).count))/\(VU ((eS d x2.i).gen))=(VU ((eS d x3.i).gen))/\(VI ((eS d x2.i).node.key))=(VI ((eS d x3.i).node.key))/\(VI ((eS d x2.i).node.value))=(VI ((eS d x3.i).node.value))/\(VU ((eS d x2.i).node.left))=(VU ((eS d x3.i).node.left))/\(VU ((eS d x2.i).node.right))=(VU ((eS d x3.i).node.right))/\(VI ((eS d x2.i).node.size))=(VI ((eS d x3.i).node.size))/\(VI ((eS d x2.i).node.sum))=(VI ((eS d x3.i).node.sum))/\(VI ((eS d x2.i).node.min))=(VI ((eS d x3.i).node.min))/\(VI ((eS d x2.i).node.max))=(VI ((eS d x3.i).node.max))/\True)/\True)/\∀ x3:XCj d roots P3,((x2.i:Int))=((x3.i:Int))->(∃ x4:XCj d roots P0,((x3.i:Int))=((x4.i:Int))/\(True/\True/\True/\True/\True/\True/\True/\VI (x3.i:Int)=VI (x4.i:Int)/\(VU (IntKind.u32.wrap (IntKind.i64.wrap ((x.i:Int)+1))))=(VU (IntKind.u32.wrap (IntKind.i64.wrap ((x.i:Int)+1))))/\True/\VI (x3.c)=VI (x3.c)/\(Value.bool (x3.c != (eS d x3.i).count))=Value.bool false/\True)/\d=d/\fl=fl/\roots=roots/\(True/\True/\True)/\(cntL (kidsL d) d.length)=(cntL (kidsL d) d.length)/\x3.m=x4.m/\cntL fl d.length=cntL fl d.length/\cntL roots d.length=cntL roots d.length/\([]:List FindT)=[]/\((Value.bool ((eS d x3.i).alloc))=(Value.bool ((eS d x4.i).alloc))/\
 (VI ((eS d x3.i).count))=(VI ((eS d x4.i).count))/\(VU ((eS d x3.i).gen))=(VU ((eS d x4.i).gen))/\(VI ((eS d x3.i).node.key))=(VI ((eS d x4.i).node.key))/\(VI ((eS d x3.i).node.value))=(VI ((eS d x4.i).node.value))/\(VU ((eS d x3.i).node.left))=(VU ((eS d x4.i).node.left))/\(VU ((eS d x3.i).node.right))=(VU ((eS d x4.i).node.right))/\(VI ((eS d x3.i).node.size))=(VI ((eS d x4.i).node.size))/\(VI ((eS d x3.i).node.sum))=(VI ((eS d x4.i).node.sum))/\(VI ((eS d x3.i).node.min))=(VI ((eS d x4.i).node.min))/\(VI ((eS d x3.i).node.max))=(VI ((eS d x4.i).node.max))/\True)/\True)/\∀ x4:XCj d roots P0,((x3.i:Int))=((x4.i:Int))->brS ((eS d x4.i).alloc) (0<=(x4.i:Int)/\(x4.i:Int)<(x4.m.length:Int)/\∃ x5:XCj d roots P0,((x4.i:Int))=((x5.i:Int))/\(True/\True/\True/\True/\True/\True/\True/\VI (x4.i:Int)=VI (x5.i:Int)/\(VU (IntKind.u32.wrap (IntKind.i64.wrap ((x.i:Int)+1))))=(VU (IntKind.u32.wrap (IntKind.i64.wrap ((x.i:Int)+1))))/\True/\(Value.bool (!x4.m.getD (x4.i:Int).toNat false))=Value.bool false/\True)/\d=d/\fl=fl/\roots=roots/\(True/\True/\True)/\(cntL (kidsL d) d.length)=(cntL (kidsL d) d.length)/\x4.m=x5.m/\cntL fl d.length=cntL fl d.length/\cntL roots d.length=cntL roots d.length/\([]:List FindT)=[]/\((Value.bool ((eS d x4.i).alloc))=(Value.bool ((eS d x5.i).alloc))/\(VI ((eS d x4.i).count))=(VI ((eS d x5.i).count))/\(VU ((eS d x4.i).gen))=(VU ((eS d x5.i).gen))/\(VI ((eS d x4.i).node.key))=(VI ((eS d x5.i).node.key))/\(VI ((eS d x4.i).node.value))=(VI ((eS d x5.i).node.value))/\(VU ((eS d x4.i).node.left))=(VU ((eS d x5.i).node.left))/\
 (VU ((eS d x4.i).node.right))=(VU ((eS d x5.i).node.right))/\(VI ((eS d x4.i).node.size))=(VI ((eS d x5.i).node.size))/\(VI ((eS d x4.i).node.sum))=(VI ((eS d x5.i).node.sum))/\(VI ((eS d x4.i).node.min))=(VI ((eS d x5.i).node.min))/\(VI ((eS d x4.i).node.max))=(VI ((eS d x5.i).node.max))/\True)/\True) (∃ x5:XCj d roots P0,((x4.i:Int))=((x5.i:Int))/\(True/\True/\True/\True/\True/\True/\True/\VI (x4.i:Int)=VI (x5.i:Int)/\(VU (IntKind.u32.wrap (IntKind.i64.wrap ((x.i:Int)+1))))=(VU (IntKind.u32.wrap (IntKind.i64.wrap ((x.i:Int)+1))))/\True/\Value.bool false=Value.bool false/\True)/\d=d/\fl=fl/\roots=roots/\(True/\True/\True)/\(cntL (kidsL d) d.length)=(cntL (kidsL d) d.length)/\x4.m=x5.m/\cntL fl d.length=cntL fl d.length/\cntL roots d.length=cntL roots d.length/\([]:List FindT)=[]/\((Value.bool ((eS d x4.i).alloc))=(Value.bool ((eS d x5.i).alloc))/\(VI ((eS d x4.i).count))=(VI ((eS d x5.i).count))/\(VU ((eS d x4.i).gen))=(VU ((eS d x5.i).gen))/\(VI ((eS d x4.i).node.key))=(VI ((eS d x5.i).node.key))/\(VI ((eS d x4.i).node.value))=(VI ((eS d x5.i).node.value))/\(VU ((eS d x4.i).node.left))=(VU ((eS d x5.i).node.left))/\(VU ((eS d x4.i).node.right))=(VU ((eS d x5.i).node.right))/\(VI ((eS d x4.i).node.size))=(VI ((eS d x5.i).node.size))/\(VI ((eS d x4.i).node.sum))=(VI ((eS d x5.i).node.sum))/\(VI ((eS d x4.i).node.min))=(VI ((eS d x5.i).node.min))/\(VI ((eS d x4.i).node.max))=(VI ((eS d x5.i).node.max))/\True)/\True)/\∀ x5:XCj d roots P0,((x4.i:Int))=((x5.i:Int))->∃ x':XCk d roots,True/\
 ((True/\True/\True/\True/\True/\True/\True/\(VI (IntKind.i64.wrap ((x5.i:Int)+1)))=(VI (x'.i:Int))/\True)/\d=d/\fl=fl/\roots=roots/\(True/\True/\True)/\(cntL (kidsL d) d.length)=(cntL (kidsL d) d.length)/\x5.m=x'.m/\cntL fl d.length=cntL fl d.length/\cntL roots d.length=cntL roots d.length/\([]:List FindT)=[]/\True)/\d.length-x'.i<d.length-x.i) ((∃ x1:XIx fl.length,True/\(True/\True/\True/\VI 0=(VI (x1.i:Int))/\True)/\d=d/\fl=fl/\roots=roots/\(True/\True/\True)/\([]:List FindT)=[]/\True)/\∀ x1:XIx fl.length,True->brS (decide ((x1.i:Int)<(fl.length:Int))) ((0<=(x1.i:Int)/\(x1.i:Int)<(fl.length:Int)/\brS (decide (fl.getD (x1.i:Int).toNat 0<1)) (∃ x2:XIy fl.length,((x1.i:Int))=((x2.i:Int))/\(True/\True/\True/\VI (x1.i:Int)=VI (x2.i:Int)/\Value.bool true=Value.bool false/\True)/\d=d/\fl=fl/\roots=roots/\(True/\True/\True)/\([]:List FindT)=[]/\True) (0<=(x1.i:Int)/\(x1.i:Int)<(fl.length:Int)/\∃ x2:XIy fl.length,((x1.i:Int))=((x2.i:Int))/\(True/\True/\True/\VI (x1.i:Int)=VI (x2.i:Int)/\(Value.bool (decide (IntKind.u64.wrap (fl.getD (x1.i:Int).toNat 0)>IntKind.u64.wrap (d.length:Int))))=Value.bool false/\True)/\d=d/\fl=fl/\roots=roots/\(True/\True/\True)/\([]:List FindT)=[]/\True))/\∀ x2:XIy fl.length,((x1.i:Int))=((x2.i:Int))->∃ x':XIx fl.length,True/\((True/\True/\True/\(VI (IntKind.i64.wrap ((x2.i:Int)+1)))=(VI (x'.i:Int))/\True)/\d=d/\fl=fl/\roots=roots/\(True/\True/\True)/\([]:List FindT)=[]/\True)/\fl.length-x'.i<fl.length-x1.i) ((∃ x2:XIx roots.length,True/\(True/\True/\True/\
 VI 0=(VI (x2.i:Int))/\True)/\d=d/\fl=fl/\roots=roots/\(True/\True/\True)/\([]:List FindT)=[]/\True)/\∀ x2:XIx roots.length,True->brS (decide ((x2.i:Int)<(roots.length:Int))) ((0<=(x2.i:Int)/\(x2.i:Int)<(roots.length:Int)/\brS (roots.getD (x2.i:Int).toNat 0 != 0) (0<=(x2.i:Int)/\(x2.i:Int)<(roots.length:Int)/\inU (roots.getD (x2.i:Int).toNat 0)/\d.length<=1000000/\∃ x3:XIy roots.length,((x2.i:Int))=((x3.i:Int))/\(True/\True/\True/\VI (x2.i:Int)=VI (x3.i:Int)/\(Value.bool (!alcD d (roots.getD (x2.i:Int).toNat 0)))=Value.bool false/\True)/\d=d/\fl=fl/\roots=roots/\(True/\True/\True)/\([]:List FindT)=[]/\True) (∃ x3:XIy roots.length,((x2.i:Int))=((x3.i:Int))/\(True/\True/\True/\VI (x2.i:Int)=VI (x3.i:Int)/\Value.bool false=Value.bool false/\True)/\d=d/\fl=fl/\roots=roots/\(True/\True/\True)/\([]:List FindT)=[]/\True))/\∀ x3:XIy roots.length,((x2.i:Int))=((x3.i:Int))->∃ x':XIx roots.length,True/\((True/\True/\True/\(VI (IntKind.i64.wrap ((x3.i:Int)+1)))=(VI (x'.i:Int))/\True)/\d=d/\fl=fl/\roots=roots/\(True/\True/\True)/\([]:List FindT)=[]/\True)/\roots.length-x'.i<roots.length-x2.i) (K (.one (.at (.slc 3))) [(.row false EC.slot (d)),(.row false EC.u32 (fl)),(.row false EC.u32 (roots)),(.row true EC.find [])] []))))=_ by kernel_rfl) ?_
 subst hP0 hP1 hP2 hP3 hP4
 refine⟨hl,hk,fun o eo=>⟨hl,hr,hk,hru,fun m hm=>⟨by omega,by omega,hf,hfu,fun o1 e1=>⟨by omega,by omega,hr,hru,fun o2 e2=>⟨⟨⟨0,m,Nat.zero_le _,hm⟩,?_⟩,fun x _=>?_⟩⟩⟩⟩⟩
 ·(repeat' first|exact trivial|exact rfl|exact eo|exact e1|exact e2|refine And.intro ?_ ?_)
 obtain⟨i,m,hi,hm⟩:=x
 dsimp only
 refine brS_of (fun c=>?_) fun c=>?_
 ·have c:i<d.length:=by have:=of_decide_eq_true c;omega
  refine⟨by omega,by omega,brS_of (fun a=>⟨⟨i,m,0,c,hm,(if_pos a).symm⟩,?_⟩) fun a=>⟨⟨i,m,1,c,hm,(if_neg (fun z=>by rw[show (eS d i).alloc=false from a] at z;cases z)).symm⟩,?_⟩,fun x1 e1=>?_⟩
  ·(repeat' first|exact trivial|exact rfl|refine And.intro ?_ ?_)
  ·(repeat' first|exact trivial|exact rfl|refine And.intro ?_ ?_)
  obtain⟨i1,m1,c1,hi1,hm1,p1⟩:=x1
  have e1:(i:Int)=(i1:Int):=e1
  have e1:i=i1:=by omega
  subst e1
  dsimp only
  have b1:((cntL fl d.length).getD i 0 != c1)=false:=by
   rw[cntL_get fl _ _ c,hc.free i c,show c1=_ from p1]
   show (((if (eS d i).alloc=true then (0:Nat) else 1:Nat):Int) != if (eS d i).alloc=true then (0:Int) else 1)=false
   cases (eS d i).alloc<;>rfl
  refine⟨by omega,by rw[cntL_len];omega,⟨⟨i,m1,0,c,hm1,trivial⟩,?_⟩,fun x2 e2=>?_⟩
  ·(repeat' first|exact trivial|exact rfl|exact congrArg Value.bool b1|refine And.intro ?_ ?_)
  obtain⟨i2,m2,c2,hi2,hm2,p2⟩:=x2
  have e2:(i:Int)=(i2:Int):=e2
  have e2:i=i2:=by omega
  subst e2
  dsimp only
  have hmem:eS d i∈d:=by unfold eS;rw[List.getD_eq_getElem?_getD,List.getElem?_eq_getElem c];exact List.getElem_mem c
  obtain⟨kl,kr⟩:=hk _ hmem
  refine⟨brS_of (fun a=>⟨?_,fun x3 e3=>?_⟩) fun a=>⟨⟨i,m2,0,c,hm2,(if_neg (fun z=>by rw[show (eS d i).alloc=false from a] at z;cases z)).symm⟩,?_⟩,fun x3 e3=>?_⟩
  ·have sl:=szD_rng hc (eS d i).node.left
   have sr:=szD_rng hc (eS d i).node.right
   have il:=hc.left i c a
   have ir:=hc.right i c a
   have dl:d.length<=1000000:=by omega
   have w1:(0:Int)<=IntKind.i64.wrap (0+1):=by decide
   have w2:IntKind.i64.wrap (0+1)<((2:Nat):Int):=by decide
   refine⟨by decide,by decide,kl,dl,brS_of (fun al=>?_) fun al=>?_⟩
   ·obtain⟨q1,q2,q3⟩:=eS_sz hc hl al
    refine⟨by decide,by decide,q1,q2,w1,w2,kr,dl,brS_of (fun ar=>?_) fun ar=>?_⟩
    ·obtain⟨t1,t2,t3⟩:=eS_sz hc hl ar
     refine⟨w1,w2,t1,t2,⟨i,m2,_,c,hm2,a,rfl⟩,?_⟩
     have v:IntKind.i64.wrap (IntKind.i64.wrap (1+(eS d (IntKind.u32.wrap ((eS d i).node.left-1)).toNat).node.size)+(eS d (IntKind.u32.wrap ((eS d i).node.right-1)).toNat).node.size)=1+szD d (eS d i).node.left+szD d (eS d i).node.right:=by
      rw[q3,t3,wrap_id (x:=1+szD d (eS d i).node.left) (by omega) (by omega),wrap_id (by omega) (by omega)]
     (repeat' first|exact trivial|exact rfl|exact congrArg (Value.int IntKind.i64) v|refine And.intro ?_ ?_)
    ·have z:=szD_no ar
     refine⟨w1,w2,brS_of (fun f=>?_) fun f=>⟨⟨i,m2,_,c,hm2,a,rfl⟩,?_⟩⟩
     ·exfalso
      rcases ir with e|e
      ·rw[show (eS d i).node.right=0 from e] at f;cases f
      ·rw[show alcD d (eS d i).node.right=true from e] at ar;cases ar
     ·have v:IntKind.i64.wrap (1+(eS d (IntKind.u32.wrap ((eS d i).node.left-1)).toNat).node.size)=1+szD d (eS d i).node.left+szD d (eS d i).node.right:=by
       rw[q3,z,wrap_id (x:=1+szD d (eS d i).node.left) (by omega) (by omega)];omega
      (repeat' first|exact trivial|exact rfl|exact congrArg (Value.int IntKind.i64) v|refine And.intro ?_ ?_)
   ·have z1:=szD_no al
    refine⟨by decide,by decide,brS_of (fun f=>?_) fun f=>⟨w1,w2,kr,dl,brS_of (fun ar=>?_) fun ar=>?_⟩⟩
    ·exfalso
     rcases il with e|e
     ·rw[show (eS d i).node.left=0 from e] at f;cases f
     ·rw[show alcD d (eS d i).node.left=true from e] at al;cases al
    ·obtain⟨t1,t2,t3⟩:=eS_sz hc hl ar
     refine⟨w1,w2,t1,t2,⟨i,m2,_,c,hm2,a,rfl⟩,?_⟩
     have v:IntKind.i64.wrap (1+(eS d (IntKind.u32.wrap ((eS d i).node.right-1)).toNat).node.size)=1+szD d (eS d i).node.left+szD d (eS d i).node.right:=by
      rw[t3,z1,wrap_id (x:=1+szD d (eS d i).node.right) (by omega) (by omega)];omega
     (repeat' first|exact trivial|exact rfl|exact congrArg (Value.int IntKind.i64) v|refine And.intro ?_ ?_)
    ·have z:=szD_no ar
     refine⟨w1,w2,brS_of (fun f=>?_) fun f=>⟨⟨i,m2,_,c,hm2,a,rfl⟩,?_⟩⟩
     ·exfalso
      rcases ir with e|e
      ·rw[show (eS d i).node.right=0 from e] at f;cases f
      ·rw[show alcD d (eS d i).node.right=true from e] at ar;cases ar
     ·have v:1=1+szD d (eS d i).node.left+szD d (eS d i).node.right:=by omega
      (repeat' first|exact trivial|exact rfl|exact congrArg (Value.int IntKind.i64) v|refine And.intro ?_ ?_)
  ·obtain⟨i3,m3,c3,hi3,hm3,a3,p3⟩:=x3
   have e3:(i:Int)=(i3:Int):=e3
   have e3:i=i3:=by omega
   subst e3
   dsimp only
   have b3:(c3 != (eS d i).node.size)=false:=by
    have:=hc.size i c a3
    rw[p3,show (eS d i).node.size=_ from this];simp
   refine⟨⟨⟨i,m3,0,c,hm3,a3⟩,?_⟩,fun x4 e4=>?_⟩
   ·(repeat' first|exact trivial|exact rfl|exact congrArg Value.bool b3|refine And.intro ?_ ?_)
   obtain⟨i4,m4,c4,hi4,hm4,p4⟩:=x4
   have e4:(i:Int)=(i4:Int):=e4
   have e4:i=i4:=by omega
   subst e4
   dsimp only
   refine⟨by omega,by rw[cntL_len];omega,by omega,by rw[cntL_len];omega,⟨i,m4,_,c,hm4,rfl⟩,?_⟩
   have v:IntKind.i64.wrap ((cntL (kidsL d) d.length).getD i 0+(cntL roots d.length).getD i 0)=if (eS d i).alloc=true then ((kidsL d).count ((i:Int)+1):Int)+(roots.count ((i:Int)+1):Int) else 0:=by
    have k1:=cntL_rng (kidsL d) d.length i c
    have k2:=cntL_rng roots d.length i c
    have k3:=kidsL_len d
    rw[wrap_id (by omega) (by omega),cntL_get _ _ _ c,cntL_get _ _ _ c,if_pos a3]
   (repeat' first|exact trivial|exact rfl|exact congrArg (Value.int IntKind.i64) v|refine And.intro ?_ ?_)
  ·(repeat' first|exact trivial|exact rfl|refine And.intro ?_ ?_)
  obtain⟨i3,m3,c3,hi3,hm3,p3⟩:=x3
  have e3:(i:Int)=(i3:Int):=e3
  have e3:i=i3:=by omega
  subst e3
  dsimp only
  have b3:(c3 != (eS d i).count)=false:=by
   have:=hc.count i c
   rw[show c3=_ from p3,show (eS d i).count=_ from this];simp
  refine⟨⟨⟨i,m3,0,c,hm3,trivial⟩,?_⟩,fun x4 e4=>?_⟩
  ·(repeat' first|exact trivial|exact rfl|exact congrArg Value.bool b3|refine And.intro ?_ ?_)
  obtain⟨i4,m4,c4,hi4,hm4,p4⟩:=x4
  have e4:(i:Int)=(i4:Int):=e4
  have e4:i=i4:=by omega
  subst e4
  dsimp only
  refine⟨brS_of (fun a=>⟨by omega,by rw[hm4.len];omega,⟨i,m4,0,c,hm4,trivial⟩,?_⟩) fun a=>⟨⟨i,m4,0,c,hm4,trivial⟩,?_⟩,fun x5 e5=>?_⟩
  ·have b4:(!m4.getD i false)=false:=by rw[hc.mark m4 hm4 i c a];rfl
   (repeat' first|exact trivial|exact rfl|exact congrArg Value.bool b4|refine And.intro ?_ ?_)
  ·(repeat' first|exact trivial|exact rfl|refine And.intro ?_ ?_)
  obtain⟨i5,m5,c5,hi5,hm5,p5⟩:=x5
  have e5:(i:Int)=(i5:Int):=e5
  have e5:i=i5:=by omega
  subst e5
  dsimp only
  refine⟨⟨i+1,m5,c,hm5⟩,?_⟩
  have v:IntKind.i64.wrap ((i:Int)+1)=((i+1:Nat):Int):=by rw[wrap_id (by omega) (by omega)];rfl
  (repeat' first|exact trivial|exact rfl|exact congrArg (Value.int IntKind.i64) v|refine And.intro ?_ ?_)
  show d.length-(i+1)<d.length-i
  omega
 ·refine⟨⟨⟨0,Nat.zero_le _⟩,?_⟩,fun x _=>?_⟩
  ·(repeat' first|exact trivial|exact rfl|refine And.intro ?_ ?_)
  obtain⟨j,hj⟩:=x
  dsimp only
  refine brS_of (fun c=>?_) fun _=>?_
  ·have c:j<fl.length:=by have:=of_decide_eq_true c;omega
   have hx:fl.getD j 0∈fl:=by rw[List.getD_eq_getElem?_getD,List.getElem?_eq_getElem c];exact List.getElem_mem c
   have hg:=hc.rng _ hx
   obtain⟨u1,u2⟩:=hfu _ hx
   refine⟨⟨by omega,by omega,brS_of (fun f=>?_) fun _=>⟨by omega,by omega,⟨j,c⟩,?_⟩⟩,fun y e=>?_⟩
   ·have f:fl.getD j 0<1:=of_decide_eq_true f
    omega
   ·have b:decide (IntKind.u64.wrap (fl.getD j 0)>IntKind.u64.wrap (d.length:Int))=false:=by
     rw[wrap_u64 (x:=fl.getD j 0) u1 (by omega),wrap_u64 (x:=(d.length:Int)) (by omega) (by omega)]
     exact decide_eq_false (by omega)
    (repeat' first|exact trivial|exact rfl|exact congrArg Value.bool b|refine And.intro ?_ ?_)
   ·obtain⟨j1,hj1⟩:=y
    have e:(j:Int)=(j1:Int):=e
    have e:j=j1:=by omega
    subst e
    dsimp only
    refine⟨⟨j+1,c⟩,?_⟩
    have v:IntKind.i64.wrap ((j:Int)+1)=((j+1:Nat):Int):=by rw[wrap_id (by omega) (by omega)];rfl
    (repeat' first|exact trivial|exact rfl|exact congrArg (Value.int IntKind.i64) v|refine And.intro ?_ ?_)
    show fl.length-(j+1)<fl.length-j
    omega
  ·refine⟨⟨⟨0,Nat.zero_le _⟩,?_⟩,fun x _=>?_⟩
   ·(repeat' first|exact trivial|exact rfl|refine And.intro ?_ ?_)
   obtain⟨j,hj⟩:=x
   dsimp only
   refine brS_of (fun c=>?_) fun _=>h
   have c:j<roots.length:=by have:=of_decide_eq_true c;omega
   have hx:roots.getD j 0∈roots:=by rw[List.getD_eq_getElem?_getD,List.getElem?_eq_getElem c];exact List.getElem_mem c
   have hg:=hc.held _ hx
   refine⟨⟨by omega,by omega,brS_of (fun f=>⟨by omega,by omega,hru _ hx,by omega,⟨j,c⟩,?_⟩) fun _=>⟨⟨j,c⟩,?_⟩⟩,fun y e=>?_⟩
   ·have b:(!alcD d (roots.getD j 0))=false:=by
     rcases hg with e|e
     ·have f:(roots.getD j 0 != 0)=true:=f
      rw[e] at f;cases f
     ·rw[e];rfl
    (repeat' first|exact trivial|exact rfl|exact congrArg Value.bool b|refine And.intro ?_ ?_)
   ·(repeat' first|exact trivial|exact rfl|refine And.intro ?_ ?_)
   ·obtain⟨j1,hj1⟩:=y
    have e:(j:Int)=(j1:Int):=e
    have e:j=j1:=by omega
    subst e
    dsimp only
    refine⟨⟨j+1,c⟩,?_⟩
    have v:IntKind.i64.wrap ((j:Int)+1)=((j+1:Nat):Int):=by rw[wrap_id (by omega) (by omega)];rfl
    (repeat' first|exact trivial|exact rfl|exact congrArg (Value.int IntKind.i64) v|refine And.intro ?_ ?_)
    show roots.length-(j+1)<roots.length-j
    omega
theorem s_chk:SoundT C0 115 tChk:=by
 refine .of Tryz.func115 (by decide) rfl fun args H K h hB=>?_
 unfold tChk at h
 split at h<;>try exact h.elim
 rename_i d fl roots
 obtain⟨h1,h2,h3,h4,h5,h6,h7,h⟩:=h
 exact⟨aChk P0c (P1c d) (P2c d) (P3c d roots) (P4c d) d fl roots,⟨frame C0.ok s_ine _,frame C0.ok s_mk _,frame C0.ok s_cnt _,frame C0.ok s_alc _,frame C0.ok s_kids _,trivial⟩,vc_chk d fl roots K h1 h2 h3 h4 h5 h6 h7 h⟩
theorem s_cln:SoundT C0 65 tCln:=by
 refine .of Tryz.func65 (by decide) rfl fun args H K h hB=>?_
 unfold tCln at h
 split at h<;>try exact h.elim
 rename_i d fl roots
 exact⟨aCln,⟨frame C0.ok s_chk _,trivial⟩,Eq.mp (show (CleanD d fl roots/\kidsU d/\allU fl/\allU roots/\d.length<=100000/\fl.length<=1000000/\roots.length<=1000000/\K (.one (.at (.val (Value.bool true)))) [(.row false EC.slot (d)),(.row false EC.u32 (fl)),(.row false EC.u32 (roots))] [])=_ by kernel_rfl) h⟩
theorem vc_sound (S:Arn)(roots hs:List Int)(K:KT)(w:Wf S hs)(p:roots.Perm hs)(hr:roots.length<=1000000)(h:K (.one (.at (vB true))) (chS S++[.row false EC.u32 roots]) []) :
  vc C0 aSound Tryz.f22 [.at (.ptr 0 0),.at (.slc 7)] (chS S++[.row false EC.u32 roots]) (normK 8 K):=by
 refine Eq.mp (show (exW S/\∀ d:List SlotT,∀ o:List Int,d=slotsOf S->o=orderOf S->CleanD d o roots/\kidsU d/\allU o/\allU roots/\d.length<=100000/\o.length<=1000000/\roots.length<=1000000/\K (.one (.at (.val (Value.bool true)))) [(.box [(.ptr 1 0),(.slc 2),(.slc 3),(.val (VW (S.reads)))]),(.box [(.slc 4),(.slc 5),(.slc 6),(.val (VU (S.fresh)))]),(.row true EC.node (S.nodes)),(.row true EC.int (S.counts)),(.row true EC.bool (S.used)),(.row true EC.u32 (S.gen)),(.row true EC.u32 (S.rel)),(.row false EC.u32 (roots))] [])=_ by kernel_rfl) ?_
 have nc:ncap S<=65537:=by have:=w.n2;unfold ncap;omega
 have ol:=order_len w
 have ku:=kidsU_slots w
 have cs:=clean_slots w p
 have sl:=slotsOf_len S
 refine⟨⟨hs,w⟩,fun d o ed eo=>?_⟩
 subst ed eo
 refine⟨cs,ku,fun x hx=>?_,fun x hx=>Wf.inU_held w (p.mem_iff.1 hx),by omega,by omega,hr,h⟩
 have:=((order_mem w x).1 hx).1
 exact⟨by omega,by omega⟩
theorem s_sound:SoundT C0 22 tSound:=by
 refine .of Tryz.func22 (by decide) rfl fun args H K h hB=>?_
 unfold tSound at h
 split at h<;>try exact h.elim
 unfold arMr at h
 split at h<;>try exact h.elim
 split at h<;>try exact h.elim
 rename_i rd fr nd ct us gn rl _ roots
 obtain⟨hs,w,p,hr,h⟩:=h
 exact⟨aSound,⟨frame C0.ok s_dump _,frame C0.ok s_cln _,trivial⟩,vc_sound ⟨us,gn,rl,fr,nd,ct,rd⟩ roots hs K w p hr h⟩
end Go.Proofs.YtedfbafngmicpaaGreat.Sx
end
section
/- The reference's trees over a dump: nodes, balance, height, list, order, Check, Tree. -/
namespace Go.Proofs.YtedfbafngmicpaaGreat.Sx
open Go

/-KEEP Wf exW inU alcD slotsOf orderOf ndD RepD Asc Tr.Bal Tr.size Tr.list ht balB lastK anyK gtL ShpT-/
def ndD (d:List SlotT)(i:Int):NodeT:=if alcD d i=true then (sltD d i).node else NodeT.zero
def lastK:Tr->Int->Int
 | .nil,x=>x
 | .node _ k _ r,_=>lastK r k
def anyK:Tr->Bool->Bool
 | .nil,b=>b
 | .node _ _ _ _,_=>true
def gtL (x:Int)(l:List Ent):Prop:=∀ y∈l,x<y.1
def RepD (d:List SlotT):Tr->Int->Prop
 | .nil,i=>i=0
 | .node l k v r,i=>alcD d i=true/\(ndD d i).key=k/\(ndD d i).value=v/\(ndD d i).size=1+l.size+r.size/\RepD d l (ndD d i).left/\RepD d r (ndD d i).right
noncomputable def aAlcG:Ann C0:={ Γ:=[(108,frameT [] tAlc)] }
def tNd:Tfm C0:=fun args H K=>match args,H with
 | [.agg [.slc 0,.slc 1],.at (.val (.int .u32 i))],[.row false .slot d,.row false .u32 fl]=>inU i/\d.length<=1000000/\∀ n,n=ndD d i->K (.one (nodeA n)) [.row false EC.slot d,.row false EC.u32 fl] []
 | _,_=>False
def tBl7 (n:Nat):Tfm C0:=fun args H K=>match args,H with
 | [.agg [.slc 0,.slc 1],.at (.val (.int .u32 i))],[.row false .slot d,.row false .u32 fl]=>d.length<=1000000/\(∃ t,RepD d t i/\t.Bal/\t.size<n/\t.size<=1000000)/\K (.one (.at (vB true))) [.row false EC.slot d,.row false EC.u32 fl] []
 | _,_=>False
noncomputable def aBl7 (n:Nat):Ann C0:={ quiet:=[57,120,110],Γ:=[(57,frameT [] tNd),(120,frameT [] tBal),(110,frameT [] (tBl7 n))] }
def tLi7 (n:Nat):Tfm C0:=fun args H K=>match args,H with
 | [.agg [.slc 0,.slc 1],.at (.val (.int .u32 i))],[.row false .slot d,.row false .u32 fl]=>d.length<=1000000/\∃ t,RepD d t i/\t.size<n/\t.size<=1000000/\∀ r,r=t.list->K (.one (.at (.slc 2))) [.row false EC.slot d,.row false EC.u32 fl,.row true EC.ent r] []
 | _,_=>False
noncomputable def aLi7 (n:Nat):Ann C0:={ quiet:=[57,35],Γ:=[(57,frameT [] tNd),(35,frameT [] (tLi7 n))] }
def tOr7 (n:Nat):Tfm C0:=fun args H K=>match args,H with
 | [.at (.ptr 0 0),.at (.val (.int .u32 i))],[.box [.slc 1,.slc 2,.val (.int .i64 last),.val (.bool any),.val (.int .i64 most)],.row false .slot d,.row false .u32 fl]=>d.length<=1000000/\∃ t,RepD d t i/\Asc t.list/\t.size<n/\(t.size:Int)<=most/\most<=10000000/\(any=true->gtL last t.list) ∧
  ∀ la an mo,la=lastK t last->an=anyK t any->mo=most-t.size->K (.one (.at (vB true))) [.box [.slc 1,.slc 2,vI la,vB an,vI mo],.row false EC.slot d,.row false EC.u32 fl] [0]
 | _,_=>False
noncomputable def aOr7 (n:Nat):Ann C0:={ Γ:=[(57,frameT [] tNd),(109,frameT [] (tOr7 n))] }
noncomputable def aCk7 (n:Nat):Ann C0:={ Γ:=[(108,frameT [] tAlc),(109,frameT [] (tOr7 n)),(110,frameT [] (tBl7 n))] }
def tCk7:Tfm C0:=fun args H K=>match args,H with
 | [.agg [.slc 0,.slc 1],.at (.val (.int .u32 i))],[.row false .slot d,.row false .u32 fl]=>d.length<=1000000/\(∃ t,RepD d t i/\Asc t.list/\t.Bal/\t.size<=2*d.length+2/\t.size<=1000000)/\K (.one (.at (vI 0))) [.row false EC.slot d,.row false EC.u32 fl] []
 | _,_=>False
noncomputable def aTr7 (n:Nat)(l:List Ent)(d:List SlotT)(fl:List Int):Ann C0:={ Γ:=[(56,frameT [] tCk7),(57,frameT [] tNd),(35,frameT [] (tLi7 n))],inv:=fun k=>match k with
 | 7=>some { X:=XIx l.length,sl:=[8,3,7],tf:=fun x=>[vi .i64 x.i,.one (.at (.ptr 3 0)),.one (.at (.slc 4))],hf:=fun _=>[.row false EC.slot d,.row false EC.u32 fl,.row false EC.ent l,.box [.slc 0,.slc 1],.row true EC.ent l],μ:=fun x=>l.length-x.i }
 | _=>none }
def tTr7:Tfm C0:=fun args H K=>match args,H with
 | [.agg [.slc 0,.slc 1],.at (.val (.int .u32 i)),.at (.slc 2)],[.row false .slot d,.row false .u32 fl,.row false .ent l]=>d.length<=1000000/\(∃ t,RepD d t i/\Asc t.list/\t.Bal/\t.size<=2*d.length+2/\t.size<=1000000/\t.list=l)/\K (.one (.at (vB true))) [.row false EC.slot d,.row false EC.u32 fl,.row false EC.ent l] []
 | _,_=>False
theorem bt7 {b:Bool}{t f:Prop}(h:b=true)(ht:t):brS b t f:=by rw[h];exact ht
theorem bf7 {b:Bool}{t f:Prop}(h:b=false)(hf:f):brS b t f:=by rw[h];exact hf
theorem RepD.inU {d:List SlotT}{t:Tr}{i:Int}(h:RepD d t i)(hl:d.length<=1000000):inU i:=by
 cases t with
 | nil=>have:i=0:=h;rw[this];exact⟨by omega,by omega⟩
 | node l k v r=>have:=alcD_rng h.1;exact⟨by omega,by omega⟩
theorem RepD.sz {d:List SlotT}{t:Tr}{i:Int}(h:RepD d t i):(ndD d i).size=t.size:=by
 cases t with
 | nil =>
  have:i=0:=h
  unfold ndD
  rw[this,alcD_lo (by omega)];rfl
 | node l k v r=>rw[h.2.2.2.1];simp[Tr.size]
theorem RepD.ne {d:List SlotT}{l r:Tr}{k v i:Int}(h:RepD d (.node l k v r) i):i≠0:=by have:=alcD_rng h.1;omega
theorem s_nd7:SoundT C0 57 tNd:=by
 refine .of Tryz.func57 (by decide) rfl fun args H K h hB=>?_
 unfold tNd at h
 split at h<;>try exact h.elim
 rename_i i d fl
 obtain⟨h1,h2,h⟩:=h
 have key:∀ d:List SlotT,d.length<=1000000->(∀ n,n=ndD d i->K (.one (nodeA n)) [.row false EC.slot d,.row false EC.u32 fl] [])->vc C0 aAlcG Tryz.f57 [.agg [.slc 0,.slc 1],.at (vU i)] [.row false EC.slot d,.row false EC.u32 fl] (normK 2 K):=fun d h2 h=>by
  refine Eq.mp (show (inU i/\d.length<=1000000/\brS (!alcD d i) (K (.one (TV.agg [(.val (VI 0)),(.val (VI 0)),(.val (VU 0)),(.val (VU 0)),(.val (VI 0)),(.val (VI 0)),(.val (VI 0)),(.val (VI 0))])) [(.row false EC.slot (d)),(.row false EC.u32 (fl))] []) (0<=IntKind.u32.wrap (i-1)/\IntKind.u32.wrap (i-1)<(d.length:Int)/\K (.one (TV.agg [(.val (VI ((eS d (IntKind.u32.wrap (i-1)).toNat).node.key))),(.val (VI ((eS d (IntKind.u32.wrap (i-1)).toNat).node.value))),(.val (VU ((eS d (IntKind.u32.wrap (i-1)).toNat).node.left))),(.val (VU ((eS d (IntKind.u32.wrap (i-1)).toNat).node.right))),(.val (VI ((eS d (IntKind.u32.wrap (i-1)).toNat).node.size))),(.val (VI ((eS d (IntKind.u32.wrap (i-1)).toNat).node.sum))),(.val (VI ((eS d (IntKind.u32.wrap (i-1)).toNat).node.min))),(.val (VI ((eS d (IntKind.u32.wrap (i-1)).toNat).node.max)))])) [(.row false EC.slot (d)),(.row false EC.u32 (fl))] []))=_ by kernel_rfl) ?_
  refine⟨h1,h2,brS_of (fun c=>?_) fun c=>?_⟩
  ·have c:alcD d i=false:=by simpa using c
   exact h NodeT.zero (by unfold ndD;rw[c];rfl)
  ·have c:alcD d i=true:=by simpa using c
   obtain⟨a,b⟩:=alcD_rng c
   obtain⟨u1,u2⟩:=h1
   rw[wrap_u32 (x:=i-1) (by omega) (by omega)]
   exact⟨by omega,by omega,h (eS d (i-1).toNat).node (by unfold ndD;rw[if_pos c];rfl)⟩
 exact⟨aAlcG,⟨frame C0.ok s_alc _,trivial⟩,key d h2 h⟩
theorem vc_bl7 (n:Nat)(d:List SlotT)(fl:List Int)(i:Int)(K:KT)(hl:d.length<=1000000)(t:Tr)(rp:RepD d t i)(bal:t.Bal)(hn:t.size<n+1)(hs:t.size<=1000000)(h:K (.one (.at (vB true))) [.row false EC.slot d,.row false EC.u32 fl] []) :
  vc C0 (aBl7 n) Tryz.f110 [.agg [.slc 0,.slc 1],.at (vU i)] [.row false EC.slot d,.row false EC.u32 fl] (normK 2 K):=by
 refine Eq.mp (show (brS (i==0) (K (.one (.at (.val (Value.bool true)))) [(.row false EC.slot (d)),(.row false EC.u32 (fl))] []) (inU i/\d.length<=1000000/\∀ n1:NodeT,n1=ndD d i->inU n1.left/\d.length<=1000000/\∀ n2:NodeT,n2=ndD d n1.left->inU n1.right/\d.length<=1000000/\∀ n3:NodeT,n3=ndD d n1.right->0<=n2.size/\n2.size<=1000000/\0<=n3.size/\n3.size<=1000000/\∀ b:Bool,b=balB n2.size n3.size->brS (b) (d.length<=1000000/\(∃ t:Tr,RepD d t n1.left/\t.Bal/\t.size<n/\t.size<=1000000)/\d.length<=1000000/\(∃ t:Tr,RepD d t n1.right/\t.Bal/\t.size<n/\t.size<=1000000)/\K (.one (.at (.val (Value.bool true)))) [(.row false EC.slot (d)),(.row false EC.u32 (fl))] []) (K (.one (.at (.val (Value.bool false)))) [(.row false EC.slot (d)),(.row false EC.u32 (fl))] [])))=_ by kernel_rfl) ?_
 cases t with
 | nil=>have e:i=0:=rp;exact bt7 (by rw[e];rfl) h
 | node l k v r =>
  have hi:=rp.inU hl
  have hne:=rp.ne
  obtain⟨h1,h2,h3,h4,h5,h6⟩:=rp
  obtain⟨b0,bl,br⟩:=bal
  have hz:(Tr.node l k v r).size=1+l.size+r.size:=rfl
  refine bf7 (by simp[hne]) ⟨hi,hl,fun n1 e1=>?_⟩
  subst e1
  refine⟨h5.inU hl,hl,fun n2 e2=>⟨h6.inU hl,hl,fun n3 e3=>?_⟩⟩
  have s2:n2.size=l.size:=by rw[e2,h5.sz]
  have s3:n3.size=r.size:=by rw[e3,h6.sz]
  refine⟨by omega,by omega,by omega,by omega,fun b eb=>bt7 (by rw[eb,s2,s3];exact decide_eq_true b0) ⟨hl,⟨l,h5,bl,by omega,by omega⟩,hl,⟨r,h6,br,by omega,by omega⟩,h⟩⟩
theorem s_bl7:∀ n:Nat,SoundT C0 110 (tBl7 n)
 | 0=>by
  refine .of Tryz.func110 (by decide) rfl fun args H K h hB=>?_
  unfold tBl7 at h
  split at h<;>try exact h.elim
  obtain⟨_,⟨t,_,_,hn,_⟩,_⟩:=h
  omega
 | n+1=>by
  refine .of Tryz.func110 (by decide) rfl fun args H K h hB=>?_
  unfold tBl7 at h
  split at h<;>try exact h.elim
  rename_i i d fl
  obtain⟨hl,⟨t,rp,bal,hn,hs⟩,h⟩:=h
  exact⟨aBl7 n,⟨frame C0.ok s_nd7 _,frame C0.ok s_bal _,frame C0.ok (s_bl7 n) _,trivial⟩,vc_bl7 n d fl i K hl t rp bal hn hs h⟩
theorem vc_li7 (n:Nat)(d:List SlotT)(fl:List Int)(i:Int)(K:KT)(hl:d.length<=1000000)(t:Tr)(rp:RepD d t i)(hn:t.size<n+1)(hs:t.size<=1000000)(h:∀ r,r=t.list->K (.one (.at (.slc 2))) [.row false EC.slot d,.row false EC.u32 fl,.row true EC.ent r] []) :
  vc C0 (aLi7 n) Tryz.f35 [.agg [.slc 0,.slc 1],.at (vU i)] [.row false EC.slot d,.row false EC.u32 fl] (normK 2 K):=by
 refine Eq.mp (show (brS (i==0) (K (.one (.at (.slc 2))) [(.row false EC.slot (d)),(.row false EC.u32 (fl)),(.row true EC.ent [])] []) (inU i/\d.length<=1000000/\∀ n1:NodeT,n1=ndD d i->(d.length<=1000000/\∃ t:Tr,RepD d t n1.left/\t.size<n/\t.size<=1000000/\∀ r:List Ent,r=t.list->(r.length+[(n1.key,n1.value)].length)*bytesOf C0 EC.ent<=140737488355328/\d.length<=1000000/\∃ t1:Tr,RepD d t1 n1.right/\t1.size<n/\t1.size<=1000000/\∀ r1:List Ent,r1=t1.list->((r++[(n1.key,n1.value)]).length+r1.length)*bytesOf C0 EC.ent<=140737488355328/\K (.one (.at (.slc 2))) [(.row false EC.slot (d)),(.row false EC.u32 (fl)),(.row true EC.ent (r++[(n1.key,n1.value)]++r1))] [])/\d.length<=1000000/\∃ t:Tr,RepD d t n1.left/\t.size<n/\t.size<=1000000/\∀ r:List Ent,r=t.list->(r.length+[(n1.key,n1.value)].length)*bytesOf C0 EC.ent<=140737488355328/\d.length<=1000000/\∃ t1:Tr,RepD d t1 n1.right/\t1.size<n/\t1.size<=1000000/\∀ r1:List Ent,r1=t1.list->((r++[(n1.key,n1.value)]).length+r1.length)*bytesOf C0 EC.ent<=140737488355328/\K (.one (.at (.slc 2))) [(.row false EC.slot (d)),(.row false EC.u32 (fl)),(.row true EC.ent (r++[(n1.key,n1.value)]++r1))] []))=_ by kernel_rfl) ?_
 rw[bytes_ent]
 cases t with
 | nil=>have e:i=0:=rp;exact bt7 (by rw[e];rfl) (h [] rfl)
 | node l k v r =>
  have hi:=rp.inU hl
  have hne:=rp.ne
  obtain⟨h1,h2,h3,h4,h5,h6⟩:=rp
  have hz:(Tr.node l k v r).size=1+l.size+r.size:=rfl
  refine bf7 (by simp[hne]) ⟨hi,hl,fun n1 e1=>?_⟩
  subst e1
  have ll:=l.list_len
  have lr:=r.list_len
  constructor
  all_goals
   refine⟨hl,l,h5,by omega,by omega,fun a ea=>⟨?_,hl,r,h6,by omega,by omega,fun b eb=>⟨?_,h _ ?_⟩⟩⟩
   ·rw[ea,ll];show (l.size+1)*16<=140737488355328;omega
   ·rw[List.length_append,ea,eb,ll,lr];show (l.size+1+r.size)*16<=140737488355328;omega
   ·rw[ea,eb,h2,h3];simp[Tr.list]
theorem s_li7:∀ n:Nat,SoundT C0 35 (tLi7 n)
 | 0=>by
  refine .of Tryz.func35 (by decide) rfl fun args H K h hB=>?_
  unfold tLi7 at h
  split at h<;>try exact h.elim
  obtain⟨_,t,_,hn,_⟩:=h
  omega
 | n+1=>by
  refine .of Tryz.func35 (by decide) rfl fun args H K h hB=>?_
  unfold tLi7 at h
  split at h<;>try exact h.elim
  rename_i i d fl
  obtain⟨hl,t,rp,hn,hs,h⟩:=h
  exact⟨aLi7 n,⟨frame C0.ok s_nd7 _,frame C0.ok (s_li7 n) _,trivial⟩,vc_li7 n d fl i K hl t rp hn hs h⟩
theorem lastK_mem:∀ (t:Tr) (x:Int),lastK t x=x∨∃ y∈t.list,y.1=lastK t x
 | .nil,x=>.inl rfl
 | .node l k v r,x=>by
  rcases lastK_mem r k with e|⟨y,hy,e⟩
  ·exact .inr ⟨(k,v),by simp[Tr.list],e.symm⟩
  ·exact .inr ⟨y,by simp[Tr.list,hy],e⟩
theorem lastK_lt {t:Tr}{any:Bool}{last k:Int}(h1:any=true->last<k)(h2:∀ x∈t.list,x.1<k)(h3:anyK t any=true):lastK t last<k:=by
 cases t with
 | nil=>exact h1 h3
 | node l k' v r =>
  show lastK r k'<k
  rcases lastK_mem r k' with e|⟨y,hy,e⟩
  ·rw[e];exact h2 (k',v) (by simp[Tr.list])
  ·rw[← e];exact h2 y (by simp[Tr.list,hy])
theorem anyK_true (t:Tr):anyK t true=true:=by cases t<;>rfl
theorem vc_or7 (n:Nat)(d:List SlotT)(fl:List Int)(last most i:Int)(any:Bool)(K:KT)(hl:d.length<=1000000)(t:Tr)(rp:RepD d t i)(hasc:Asc t.list)(hn:t.size<n+1)(hm:(t.size:Int)<=most)(hm2:most<=10000000)(hg:any=true->gtL last t.list)(h:∀ la an mo,la=lastK t last->an=anyK t any->mo=most-t.size->K (.one (.at (vB true))) [.box [.slc 1,.slc 2,vI la,vB an,vI mo],.row false EC.slot d,.row false EC.u32 fl] [0]) :
  vc C0 (aOr7 n) Tryz.f109 [.at (.ptr 0 0),.at (vU i)] [.box [.slc 1,.slc 2,vI last,vB any,vI most],.row false EC.slot d,.row false EC.u32 fl] (normK 3 (wideK [0] K)):=by
 refine Eq.mp (show (brS (i==0) (K (.one (.at (.val (Value.bool true)))) [(.box [(.slc 1),(.slc 2),(.val (VI (last))),(.val (Value.bool (any))),(.val (VI (most)))]),(.row false EC.slot (d)),(.row false EC.u32 (fl))] [0]) (brS (most==0) (K (.one (.at (.val (Value.bool false)))) [(.box [(.slc 1),(.slc 2),(.val (VI (last))),(.val (Value.bool (any))),(.val (VI (most)))]),(.row false EC.slot (d)),(.row false EC.u32 (fl))] [0]) (inU i/\d.length<=1000000/\∀ n1:NodeT,n1=ndD d i->d.length<=1000000/\∃ t:Tr,RepD d t n1.left/\Asc t.list/\t.size<n/\(t.size:Int)<=IntKind.i64.wrap (most-1)/\IntKind.i64.wrap (most-1)<=10000000/\(any=true->gtL last t.list)/\∀ la:Int,∀ an:Bool,∀ mo:Int,la=lastK t last->an=anyK t any->mo=(IntKind.i64.wrap (most-1)-(t.size:Int))->brS (an) (brS (decide (n1.key<=la)) (K (.one (.at (.val (Value.bool false)))) [(.box [(.slc 1),(.slc 2),(.val (VI (la))),(.val (Value.bool (an))),(.val (VI (mo)))]),(.row false EC.slot (d)),(.row false EC.u32 (fl))] [0]) (d.length<=1000000/\∃ t1:Tr,RepD d t1 n1.right/\Asc t1.list/\t1.size<n/\(t1.size:Int)<=mo/\mo<=10000000/\(true=true->gtL n1.key t1.list)/\∀ la1:Int,∀ an1:Bool,∀ mo1:Int,la1=lastK t1 n1.key->an1=anyK t1 true->mo1=(mo-(t1.size:Int))->K (.one (.at (.val (Value.bool true)))) [(.box [(.slc 1),(.slc 2),(.val (VI (la1))),(.val (Value.bool (an1))),(.val (VI (mo1)))]),(.row false EC.slot (d)),(.row false EC.u32 (fl))] [0])) (d.length<=1000000/\∃ t1:Tr,RepD d t1 n1.right/\Asc t1.list/\t1.size<n/\(t1.size:Int)<=mo/\mo<=10000000/\(true=true->gtL n1.key t1.list)/\
 ∀ la1:Int,∀ an1:Bool,∀ mo1:Int,la1=lastK t1 n1.key->an1=anyK t1 true->mo1=(mo-(t1.size:Int))->K (.one (.at (.val (Value.bool true)))) [(.box [(.slc 1),(.slc 2),(.val (VI (la1))),(.val (Value.bool (an1))),(.val (VI (mo1)))]),(.row false EC.slot (d)),(.row false EC.u32 (fl))] [0]))))=_ by kernel_rfl) ?_
 cases t with
 | nil=>have e:i=0:=rp;exact bt7 (by rw[e];rfl) (h last any most rfl rfl (by simp[Tr.size]))
 | node l k v r =>
  have hi:=rp.inU hl
  have hne:=rp.ne
  obtain⟨h1,h2,h3,h4,h5,h6⟩:=rp
  have hz:(Tr.node l k v r).size=1+l.size+r.size:=rfl
  obtain⟨al,ar,lk,kr⟩:=node_asc hasc
  have mz:most≠0:=by omega
  refine bf7 (by simp[hne]) (bf7 (by simp[mz]) ⟨hi,hl,fun n1 e1=>?_⟩)
  subst e1
  rw[wrap_id (x:=most-1) (by omega) (by omega)]
  refine⟨hl,l,h5,al,by omega,by omega,by omega,fun a x hx=>hg a x (by simp[Tr.list,hx]),fun la an mo e1 e2 e3=>?_⟩
  have gr:gtL (ndD d i).key r.list:=fun x hx=>by rw[h2];exact kr x hx
  have fin:∀ la1 an1 mo1,la1=lastK r (ndD d i).key->an1=anyK r true->mo1=mo-r.size->K (.one (.at (vB true))) [.box [.slc 1,.slc 2,vI la1,vB an1,vI mo1],.row false EC.slot d,.row false EC.u32 fl] [0]:=fun la1 an1 mo1 f1 f2 f3=>h la1 an1 mo1 (by rw[f1,h2];rfl) (by rw[f2,anyK_true];rfl) (by omega)
  refine brS_of (fun ha=>bf7 ?_ ⟨hl,r,h6,ar,by omega,by omega,by omega,fun _=>gr,fin⟩) fun _=>⟨hl,r,h6,ar,by omega,by omega,by omega,fun _=>gr,fin⟩
  have hlt:la<k:=by
   rw[e1]
   refine lastK_lt (any:=any) (fun a=>?_) lk (by rw[← e2];exact ha)
   exact hg a (k,v) (by simp[Tr.list])
  rw[h2]
  exact decide_eq_false (by omega)
theorem s_or7:∀ n:Nat,SoundT C0 109 (tOr7 n)
 | 0=>by
  refine .ofW [0] Tryz.func109 (by decide) rfl fun args H K h hB=>?_
  unfold tOr7 at h
  split at h<;>try exact h.elim
  obtain⟨_,t,_,_,hn,_⟩:=h
  omega
 | n+1=>by
  refine .ofW [0] Tryz.func109 (by decide) rfl fun args H K h hB=>?_
  unfold tOr7 at h
  split at h<;>try exact h.elim
  rename_i i last any most d fl
  obtain⟨hl,t,rp,hasc,hn,hm,hm2,hg,h⟩:=h
  exact⟨aOr7 n,⟨frame C0.ok s_nd7 _,frame C0.ok (s_or7 n) _,trivial⟩,vc_or7 n d fl last most i any K hl t rp hasc hn hm hm2 hg h⟩
theorem vc_ck7 (d:List SlotT)(fl:List Int)(i:Int)(K:KT)(hl:d.length<=1000000)(t:Tr)(rp:RepD d t i)(hasc:Asc t.list)(bal:t.Bal)(h2:t.size<=2*d.length+2)(hs:t.size<=1000000)(h:K (.one (.at (vI 0))) [.row false EC.slot d,.row false EC.u32 fl] []) :
  vc C0 (aCk7 1000001) Tryz.f56 [.agg [.slc 0,.slc 1],.at (vU i)] [.row false EC.slot d,.row false EC.u32 fl] (normK 2 K):=by
 generalize hn:1000001=n
 refine Eq.mp (show (brS (i != 0) (inU i/\d.length<=1000000/\brS (!alcD d i) (K (.one (.at (.val (VI 1)))) [(.row false EC.slot (d)),(.row false EC.u32 (fl))] []) (d.length<=1000000/\∃ t:Tr,RepD d t i/\Asc t.list/\t.size<n/\(t.size:Int)<=IntKind.i64.wrap (IntKind.i64.wrap (2*(d.length:Int))+2)/\IntKind.i64.wrap (IntKind.i64.wrap (2*(d.length:Int))+2)<=10000000/\(false=true->gtL 0 t.list)/\∀ la:Int,∀ an:Bool,∀ mo:Int,la=lastK t 0->an=anyK t false->mo=(IntKind.i64.wrap (IntKind.i64.wrap (2*(d.length:Int))+2)-(t.size:Int))->d.length<=1000000/\(∃ t1:Tr,RepD d t1 i/\t1.Bal/\t1.size<n/\t1.size<=1000000)/\K (.one (.at (.val (VI 0)))) [(.row false EC.slot (d)),(.row false EC.u32 (fl))] [])) (d.length<=1000000/\∃ t:Tr,RepD d t i/\Asc t.list/\t.size<n/\(t.size:Int)<=IntKind.i64.wrap (IntKind.i64.wrap (2*(d.length:Int))+2)/\IntKind.i64.wrap (IntKind.i64.wrap (2*(d.length:Int))+2)<=10000000/\(false=true->gtL 0 t.list)/\∀ la:Int,∀ an:Bool,∀ mo:Int,la=lastK t 0->an=anyK t false->mo=(IntKind.i64.wrap (IntKind.i64.wrap (2*(d.length:Int))+2)-(t.size:Int))->d.length<=1000000/\(∃ t1:Tr,RepD d t1 i/\t1.Bal/\t1.size<n/\t1.size<=1000000)/\K (.one (.at (.val (VI 0)))) [(.row false EC.slot (d)),(.row false EC.u32 (fl))] []))=_ by kernel_rfl) ?_
 have hi:=rp.inU hl
 rw[wrap_id (x:=2*(d.length:Int)) (by omega) (by omega),wrap_id (x:=2*(d.length:Int)+2) (by omega) (by omega)]
 have hz:i≠0->alcD d i=true:=fun z=>by
  cases t with
  | nil=>exact absurd rp z
  | node l k v r=>exact rp.1
 refine brS_of (fun c=>?_) fun _=>⟨hl,t,rp,hasc,by omega,by omega,by omega,(fun z=>by cases z),fun _ _ _ _ _ _=>⟨hl,⟨t,rp,bal,by omega,hs⟩,h⟩⟩
 have c:i≠0:=by simpa using c
 exact⟨hi,hl,bf7 (by rw[hz c];rfl) ⟨hl,t,rp,hasc,by omega,by omega,by omega,(fun z=>by cases z),fun _ _ _ _ _ _=>⟨hl,⟨t,rp,bal,by omega,hs⟩,h⟩⟩⟩
theorem s_ck7:SoundT C0 56 tCk7:=by
 refine .of Tryz.func56 (by decide) rfl fun args H K h hB=>?_
 unfold tCk7 at h
 split at h<;>try exact h.elim
 rename_i i d fl
 obtain⟨hl,⟨t,rp,hasc,bal,h2,hs⟩,h⟩:=h
 exact⟨aCk7 1000001,⟨frame C0.ok s_alc _,frame C0.ok (s_or7 _) _,frame C0.ok (s_bl7 _) _,trivial⟩,vc_ck7 d fl i K hl t rp hasc bal h2 hs h⟩
theorem vc_tr7 (d:List SlotT)(fl:List Int)(i:Int)(l:List Ent)(K:KT)(hl:d.length<=1000000)(t:Tr)(rp:RepD d t i)(hasc:Asc t.list)(bal:t.Bal)(h2:t.size<=2*d.length+2)(hs:t.size<=1000000)(e:t.list=l)(h:K (.one (.at (vB true))) [.row false EC.slot d,.row false EC.u32 fl,.row false EC.ent l] []) :
  vc C0 (aTr7 1000001 l d fl) Tryz.f16 [.agg [.slc 0,.slc 1],.at (vU i),.at (.slc 2)] [.row false EC.slot d,.row false EC.u32 fl,.row false EC.ent l] (normK 3 K):=by
 generalize hn:1000001=n
 refine Eq.mp (show (d.length<=1000000/\(∃ t:Tr,RepD d t i/\Asc t.list/\t.Bal/\t.size<=2*d.length+2/\t.size<=1000000)/\inU i/\d.length<=1000000/\∀ n1:NodeT,n1=ndD d i->brS (n1.size != (l.length:Int)) (K (.one (.at (.val (Value.bool false)))) [(.row false EC.slot (d)),(.row false EC.u32 (fl)),(.row false EC.ent (l))] []) (d.length<=1000000/\∃ t:Tr,RepD d t i/\t.size<n/\t.size<=1000000/\∀ r:List Ent,r=t.list->brS ((r.length:Int) != (l.length:Int)) (K (.one (.at (.val (Value.bool false)))) [(.row false EC.slot (d)),(.row false EC.u32 (fl)),(.row false EC.ent (l))] []) ((∃ x:XIx l.length,True/\(True/\True/\True/\VI 0=(VI (x.i:Int))/\True)/\d=d/\fl=fl/\l=l/\(True/\True/\True)/\r=l/\True)/\∀ x:XIx l.length,True->brS (decide ((x.i:Int)<(l.length:Int))) (0<=(x.i:Int)/\(x.i:Int)<(l.length:Int)/\0<=(x.i:Int)/\(x.i:Int)<(l.length:Int)/\brS (!((eA l x.i).fst==(eA l x.i).fst && ((eA l x.i).snd==(eA l x.i).snd && true))) (K (.one (.at (.val (Value.bool false)))) [(.row false EC.slot (d)),(.row false EC.u32 (fl)),(.row false EC.ent (l))] []) (∃ x':XIx l.length,True/\((True/\True/\True/\(VI (IntKind.i64.wrap ((x.i:Int)+1)))=(VI (x'.i:Int))/\True)/\d=d/\fl=fl/\l=l/\(True/\True/\True)/\l=l/\True)/\l.length-x'.i<l.length-x.i)) (K (.one (.at (.val (Value.bool true)))) [(.row false EC.slot (d)),(.row false EC.u32 (fl)),(.row false EC.ent (l))] []))))=_ by kernel_rfl) ?_
 have hi:=rp.inU hl
 have sz:t.size=l.length:=by rw[← e,t.list_len]
 refine⟨hl,⟨t,rp,hasc,bal,h2,hs⟩,hi,hl,fun n1 e1=>bf7 (by rw[e1,rp.sz,sz];simp) ⟨hl,t,rp,by omega,hs,fun r er=>bf7 (by rw[er,e];simp) ⟨⟨⟨0,Nat.zero_le _⟩,?_⟩,fun x _=>brS_of (fun c=>?_) fun _=>h⟩⟩⟩
 ·have er:r=l:=er.trans e
  (repeat' first|exact trivial|exact rfl|exact er|refine And.intro ?_ ?_)
 have c:x.i<l.length:=by have:=of_decide_eq_true c;omega
 refine⟨by omega,by omega,by omega,by omega,bf7 (by simp) ⟨⟨x.i+1,c⟩,?_⟩⟩
 have v:IntKind.i64.wrap ((x.i:Int)+1)=((x.i+1:Nat):Int):=by rw[wrap_id (by omega) (by omega)];rfl
 (repeat' first|exact trivial|exact rfl|exact congrArg (Value.int IntKind.i64) v|refine And.intro ?_ ?_)
 show l.length-(x.i+1)<l.length-x.i
 omega
theorem s_tr7:SoundT C0 16 tTr7:=by
 refine .of Tryz.func16 (by decide) rfl fun args H K h hB=>?_
 unfold tTr7 at h
 split at h<;>try exact h.elim
 rename_i i d fl l
 obtain⟨hl,⟨t,rp,hasc,bal,h2,hs,e⟩,h⟩:=h
 exact⟨aTr7 1000001 l d fl,⟨frame C0.ok s_ck7 _,frame C0.ok s_nd7 _,frame C0.ok (s_li7 _) _,trivial⟩,vc_tr7 d fl i l K hl t rp hasc bal h2 hs e h⟩

/-! ### From the arena to its dump -/
theorem ndD_slots {S:Arn}{hs:List Int}(w:Wf S hs)(i:Int):ndD (slotsOf S) i=S.nd i:=by
 unfold ndD
 rw[alcD_slots w]
 cases hb:S.us i with
 | false=>rw[w.zero i hb];rfl
 | true=>rw[if_pos rfl,sltD_slots w hb]
theorem repD_of {S:Arn}{hs:List Int}(w:Wf S hs):∀ {t:Tr} {i:Int},Rep S t i->RepD (slotsOf S) t i
 | .nil,i,h=>h
 | .node l k v r,i,h=>by
  have sz:=Rep.size w h
  obtain⟨h1,h2,h3,h4,h5⟩:=h
  refine⟨by rw[alcD_slots w];exact h1,?_⟩
  rw[ndD_slots w]
  exact⟨h2,h3,by rw[sz];simp[Tr.size],repD_of w h4,repD_of w h5⟩
theorem len_of_nodup {α:Type}[DecidableEq α]:∀ (a b:List α),a.Nodup->(∀ x∈a,x∈b)->a.length<=b.length
 | [],_,_,_=>Nat.zero_le _
 | x::a,b,hn,hs=>by
  obtain⟨h1,h2⟩:=List.pairwise_cons.1 hn
  have hx:=hs x (by simp)
  have:=len_of_nodup a (b.erase x) h2 fun y hy=>(List.mem_erase_of_ne (Ne.symm (h1 y hy))).2 (hs y (by simp[hy]))
  rw[List.length_erase_of_mem hx] at this
  have:0<b.length:=List.length_pos_of_mem hx
  simp;omega
theorem rep_keys {S:Arn}{hs:List Int}(w:Wf S hs):∀ {t:Tr} {i:Int},Rep S t i->∀ x∈t.list,x.1∈(slotsOf S).map fun s=>s.node.key
 | .nil,_,_,x,hx=>by simp[Tr.list] at hx
 | .node l k v r,i,h,x,hx=>by
  obtain⟨h1,h2,h3,h4,h5⟩:=h
  simp only[Tr.list,List.mem_append,List.mem_cons] at hx
  rcases hx with hx|rfl|hx
  ·exact rep_keys w h4 x hx
  ·have hp:=w.pos h1
   have hi:(i-1).toNat<ncap S:=by unfold ncap;omega
   refine List.mem_map.2 ⟨slotAt S (i-1).toNat,?_,?_⟩
   ·unfold slotsOf;exact List.mem_map.2 ⟨_,List.mem_range.2 hi,rfl⟩
   ·show (S.nd (((i-1).toNat:Int)+1)).key=k
    rw[show (((i-1).toNat:Nat):Int)+1=i by omega];exact h2
  ·exact rep_keys w h5 x hx
theorem rep_few {S:Arn}{hs:List Int}(w:Wf S hs){t:Tr}{i:Int}(h:Rep S t i)(hasc:Asc t.list):t.size<=(slotsOf S).length:=by
 have:=len_of_nodup (t.list.map Prod.fst) ((slotsOf S).map fun s=>s.node.key) (List.pairwise_map.2 ((show List.Pairwise (fun (a b:Ent)=>a.1<b.1) t.list from hasc).imp fun c e=>by omega)) (fun x hx=>by
  obtain⟨y,hy,rfl⟩:=List.mem_map.1 hx
  exact rep_keys w h y hy)
 rw[List.length_map,List.length_map,t.list_len] at this
 exact this
end Go.Proofs.YtedfbafngmicpaaGreat.Sx
end
section
/- Kept, lengths of dumps, what is planted. -/
namespace Go.Proofs.YtedfbafngmicpaaGreat.Sx
open Go

/-KEEP Wf exW inU live Arn.cap Arn.free Rep rdS Tr.size Tr.list alcD slotsOf orderOf PlantR newS insE flt getE TrR upM Hn-/
def keptD (d e:List SlotT):Prop:=d.length=e.length/\∀ i:Nat,i<d.length->(eS d i).alloc=true->(eS e i).alloc=true/\(eS e i).node=(eS d i).node/\(eS e i).gen=(eS d i).gen
structure XKp (d:List SlotT) where
 i:Nat
 h:i<=d.length
noncomputable def aKp (d e:List SlotT)(fl gl:List Int):Ann C0:={ Γ:=[],inv:=fun n=>match n with
 | 4=>some { X:=XKp d,sl:=[5,2,3],tf:=fun x=>[vi .i64 x.i,.one (.at (.ptr 4 0)),.one (.at (.ptr 5 0))],hf:=fun _=>[.row false EC.slot d,.row false EC.u32 fl,.row false EC.slot e,.row false EC.u32 gl,.box [.slc 0,.slc 1],.box [.slc 2,.slc 3]],μ:=fun x=>d.length-x.i }
 | _=>none }
def tKept:Tfm C0:=fun args H K=>match args,H with
 | [.agg [.slc 0,.slc 1],.agg [.slc 2,.slc 3]],[.row false .slot d,.row false .u32 fl,.row false .slot e,.row false .u32 gl]=>keptD d e/\d.length<=1000000/\K (.one (.at (vB true))) [.row false EC.slot d,.row false EC.u32 fl,.row false EC.slot e,.row false EC.u32 gl] []
 | _,_=>False
theorem vc_kept (d e:List SlotT)(fl gl:List Int)(K:KT)(hk:keptD d e)(hl:d.length<=1000000)(h:K (.one (.at (vB true))) [.row false EC.slot d,.row false EC.u32 fl,.row false EC.slot e,.row false EC.u32 gl] []) :
  vc C0 (aKp d e fl gl) Tryz.f21 [.agg [.slc 0,.slc 1],.agg [.slc 2,.slc 3]] [.row false EC.slot d,.row false EC.u32 fl,.row false EC.slot e,.row false EC.u32 gl] (normK 4 K):=by
 refine Eq.mp (show (brS ((d.length:Int) != (e.length:Int)) (K (.one (.at (.val (Value.bool false)))) [(.row false EC.slot (d)),(.row false EC.u32 (fl)),(.row false EC.slot (e)),(.row false EC.u32 (gl))] []) ((∃ x:XKp d,True/\(True/\True/\VI 0=(VI (x.i:Int))/\True)/\d=d/\fl=fl/\e=e/\gl=gl/\(True/\True/\True)/\(True/\True/\True)/\True)/\∀ x:XKp d,True->brS (decide ((x.i:Int)<(d.length:Int))) (0<=(x.i:Int)/\(x.i:Int)<(d.length:Int)/\0<=(x.i:Int)/\(x.i:Int)<(e.length:Int)/\brS ((eS d (x.i:Int).toNat).alloc) (brS (!(eS e (x.i:Int).toNat).alloc) (K (.one (.at (.val (Value.bool false)))) [(.row false EC.slot (d)),(.row false EC.u32 (fl)),(.row false EC.slot (e)),(.row false EC.u32 (gl))] []) (brS (!((eS d (x.i:Int).toNat).node.key==(eS e (x.i:Int).toNat).node.key && ((eS d (x.i:Int).toNat).node.value==(eS e (x.i:Int).toNat).node.value && ((eS d (x.i:Int).toNat).node.left==(eS e (x.i:Int).toNat).node.left && ((eS d (x.i:Int).toNat).node.right==(eS e (x.i:Int).toNat).node.right && ((eS d (x.i:Int).toNat).node.size==(eS e (x.i:Int).toNat).node.size && ((eS d (x.i:Int).toNat).node.sum==(eS e (x.i:Int).toNat).node.sum && ((eS d (x.i:Int).toNat).node.min==(eS e (x.i:Int).toNat).node.min && ((eS d (x.i:Int).toNat).node.max==(eS e (x.i:Int).toNat).node.max && true))))))))) (K (.one (.at (.val (Value.bool false)))) [(.row false EC.slot (d)),(.row false EC.u32 (fl)),(.row false EC.slot (e)),(.row false EC.u32 (gl))] []) (brS ((eS d (x.i:Int).toNat).gen != (eS e (x.i:Int).toNat).gen) (K (.one (.at (.val (Value.bool false)))) [(.row false EC.slot (d)),(.row false EC.u32 (fl)),(.row false EC.slot (e)),(.row false EC.u32 (gl))] []) (∃ x':XKp d,True/\
 ((True/\True/\(VI (IntKind.i64.wrap ((x.i:Int)+1)))=(VI (x'.i:Int))/\True)/\d=d/\fl=fl/\e=e/\gl=gl/\(True/\True/\True)/\(True/\True/\True)/\True)/\d.length-x'.i<d.length-x.i)))) (∃ x':XKp d,True/\((True/\True/\(VI (IntKind.i64.wrap ((x.i:Int)+1)))=(VI (x'.i:Int))/\True)/\d=d/\fl=fl/\e=e/\gl=gl/\(True/\True/\True)/\(True/\True/\True)/\True)/\d.length-x'.i<d.length-x.i)/\brS ((eS d (x.i:Int).toNat).alloc) (brS (!(eS e (x.i:Int).toNat).alloc) (K (.one (.at (.val (Value.bool false)))) [(.row false EC.slot (d)),(.row false EC.u32 (fl)),(.row false EC.slot (e)),(.row false EC.u32 (gl))] []) (brS (!((eS d (x.i:Int).toNat).node.key==(eS e (x.i:Int).toNat).node.key && ((eS d (x.i:Int).toNat).node.value==(eS e (x.i:Int).toNat).node.value && ((eS d (x.i:Int).toNat).node.left==(eS e (x.i:Int).toNat).node.left && ((eS d (x.i:Int).toNat).node.right==(eS e (x.i:Int).toNat).node.right && ((eS d (x.i:Int).toNat).node.size==(eS e (x.i:Int).toNat).node.size && ((eS d (x.i:Int).toNat).node.sum==(eS e (x.i:Int).toNat).node.sum && ((eS d (x.i:Int).toNat).node.min==(eS e (x.i:Int).toNat).node.min && ((eS d (x.i:Int).toNat).node.max==(eS e (x.i:Int).toNat).node.max && true))))))))) (K (.one (.at (.val (Value.bool false)))) [(.row false EC.slot (d)),(.row false EC.u32 (fl)),(.row false EC.slot (e)),(.row false EC.u32 (gl))] []) (brS ((eS d (x.i:Int).toNat).gen != (eS e (x.i:Int).toNat).gen) (K (.one (.at (.val (Value.bool false)))) [(.row false EC.slot (d)),(.row false EC.u32 (fl)),(.row false EC.slot (e)),(.row false EC.u32 (gl))] []) (∃ x':XKp d,True/\
 ((True/\True/\(VI (IntKind.i64.wrap ((x.i:Int)+1)))=(VI (x'.i:Int))/\True)/\d=d/\fl=fl/\e=e/\gl=gl/\(True/\True/\True)/\(True/\True/\True)/\True)/\d.length-x'.i<d.length-x.i)))) (∃ x':XKp d,True/\((True/\True/\(VI (IntKind.i64.wrap ((x.i:Int)+1)))=(VI (x'.i:Int))/\True)/\d=d/\fl=fl/\e=e/\gl=gl/\(True/\True/\True)/\(True/\True/\True)/\True)/\d.length-x'.i<d.length-x.i)) (K (.one (.at (.val (Value.bool true)))) [(.row false EC.slot (d)),(.row false EC.u32 (fl)),(.row false EC.slot (e)),(.row false EC.u32 (gl))] [])))=_ by kernel_rfl) ?_
 obtain⟨k1,k2⟩:=hk
 refine bf7 (by simp[k1]) ⟨⟨⟨0,Nat.zero_le _⟩,?_⟩,fun x _=>brS_of (fun c=>?_) fun c=>h⟩
 ·(repeat' first|exact trivial|exact rfl|refine And.intro ?_ ?_)
 obtain⟨j,hj⟩:=x
 have c:j<d.length:=by have:=of_decide_eq_true c;dsimp only at this;omega
 have e0:((j:Int)).toNat=j:=rfl
 dsimp only
 rw[e0]
 have fin:∃ x':XKp d,True/\((True/\True/\((Value.int IntKind.i64 (IntKind.i64.wrap ((j:Int)+1)))=(Value.int IntKind.i64 ((x'.i:Int))))/\True)/\(d=d)/\(fl=fl)/\(e=e)/\(gl=gl)/\(True/\True/\True)/\(True/\True/\True)/\True)/\(d.length-x'.i<d.length-j):=by
  refine⟨⟨j+1,c⟩,?_⟩
  (repeat' first|exact trivial|exact rfl|refine And.intro ?_ ?_)
  ·rw[wrap_id (by omega) (by omega)];congr 1
  ·show d.length-(j+1)<d.length-j;omega
 refine⟨by omega,by omega,by omega,by omega,?_,?_⟩
 all_goals
  refine brS_of (fun a=>?_) fun _=>fin
  obtain⟨a1,a2,a3⟩:=k2 j c a
  refine bf7 (by rw[a1];rfl) (bf7 ?_ (bf7 (by rw[a3];simp) fin))
  rw[a2];simp
theorem s_kept:SoundT C0 21 tKept:=by
 refine .of Tryz.func21 (by decide) rfl fun args H K h hB=>?_
 unfold tKept at h
 split at h<;>try exact h.elim
 rename_i d fl e gl
 exact⟨aKp d e fl gl,trivial,vc_kept d e fl gl K h.1 h.2.1 h.2.2⟩
theorem order_free {S:Arn}{hs:List Int}(w:Wf S hs):((orderOf S).length:Int)=S.free:=by
 have h1:=w.n1;have h3:=w.fr
 unfold orderOf orderL upTo Arn.free Arn.cap
 simp
 omega
theorem kept_of {S S':Arn}{hs:List Int}(w:Wf S hs)(st:Stay S S' hs)(hl:S'.used.length=S.used.length):keptD (slotsOf S) (slotsOf S'):=by
 have e:ncap S'=ncap S:=by unfold ncap;rw[hl]
 refine⟨by rw[slotsOf_len,slotsOf_len,e],fun i hi ha=>?_⟩
 rw[slotsOf_len] at hi
 have g1:eS (slotsOf S) i=slotAt S i:=slotsOf_get S hi
 have g2:eS (slotsOf S') i=slotAt S' i:=slotsOf_get S' (by omega)
 rw[g1] at ha ⊢
 rw[g2]
 have ha:S.us ((i:Int)+1)=true:=ha
 obtain⟨s1,s2,s3⟩:=st _ (w.reached ha)
 exact⟨s1,s2,s3⟩
theorem slots_le {S:Arn}{hs:List Int}(w:Wf S hs):(slotsOf S).length<=65537:=by have:=w.n2;rw[slotsOf_len];unfold ncap;omega
theorem tr_tree {S:Arn}{hs:List Int}{t:Tr}{j:Int}{L:List Ent}(w:Wf S hs)(rp:Rep S t j)(hL:t.list=L)(bal:t.Bal)(asc:Asc L) :
  ∃ t,RepD (slotsOf S) t j/\Asc t.list/\t.Bal/\t.size<=2*(slotsOf S).length+2/\t.size<=1000000/\t.list=L:=by
 have asc':Asc t.list:=by rw[hL];exact asc
 have few:=rep_few w rp asc'
 have:=slots_le w
 exact⟨t,repD_of w rp,asc',bal,by omega,by omega,hL⟩
end Go.Proofs.YtedfbafngmicpaaGreat.Sx
end
section
/- Law PackExports. -/
namespace Go.Proofs.YtedfbafngmicpaaGreat.Sx
open Go

/-KEEP Wf exW inU allV allB rdS Arn.free RtB ExO ImR FrB RngL RngS FoR pkZ slotsOf orderOf DgW ExB8 ExD DgD DgB DgS NmB NmR NumsD allVb-/
theorem FoR.own {sp:Int}{S:Arn}{rs:List Int}{ll:List (List Ent)}(h:FoR sp S rs ll){b:Int}{r:List Int}(er:r=(pkZ b (rs.zip ll)).map Prod.fst):r.length<=8/\(∀ j∈r,j=0∨S.us j=true)/\allV r/\allVb r/\KyN S r:=by
 have l1:=pkZ_len b (rs.zip ll)
 have us:∀ j∈r,j=0∨S.us j=true:=fun j hj=>by
  rw[er] at hj
  obtain⟨q,hq,rfl⟩:=List.mem_map.1 hj
  obtain⟨⟨t,rp,_⟩,_⟩:=h.ok (pkZ_mem hq)
  exact rp.us
 have rt:=h.rt 0 b
 rw[← er] at rt
 exact⟨by rw[er,List.length_map];exact l1,us,fun j hj=>inU_of h.wf (us j hj),fun j hj=>inU_of h.wf (us j hj),by
  obtain h0:=h.rt b 0
  rw[← er] at h0
  exact KyN.left h.wf h0.ky⟩
end Go.Proofs.YtedfbafngmicpaaGreat.Sx
end
