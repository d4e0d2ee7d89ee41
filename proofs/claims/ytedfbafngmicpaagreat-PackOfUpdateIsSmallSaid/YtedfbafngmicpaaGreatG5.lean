/- A part of the proof. -/
import Derived.Test.YtedfbafngmicpaaGreatG4
import Derived.Test.YtedfbafngmicpaaGreatG3
import Derived.Test.YtedfbafngmicpaaGreatG1
section
/- frame: Append, Next. -/
namespace Go.Proofs.YtedfbafngmicpaaGreat.Sx
open Go

/-KEEP itC andI xorI orI crc allB uvA uvD vE frE frH nxD wD getB-/
def nxD (b:List Int)(at_:Int):List Int × Int × Int:=if at_<0∨(b.length:Int)<at_ then ([],0,1) else
 match frD 12 13 14 1048576 (b.drop at_.toNat) with
 | (p,k,e)=>if e=0 then (p,at_+k,0) else ([],0,e)
noncomputable def aAf:Ann C0:={ Γ:=[(124,frameT [] tUv),(117,frameT [] tCk)] }
def afA (b p:List Int):List Int:=b++frE p
def tAf:Tfm C0:=fun args H K=>match args,H with
 | [.at (.slc 0),.at (.slc 1)],[.row false .u8 b,.row false .u8 p]=>allB p/\p.length<=1048576/\b.length<=1000000000/\∀ o,o=afA b p->K (.tup [.at (.slc 2),.at (vI 0)]) [.row false EC.u8 b,.row false EC.u8 p,.row true EC.u8 o] []
 | _,_=>False
structure XNx (P:Int->Int->Prop) where
 u:Int
 n:Int
 h:P u n
noncomputable def aNx (P1 P2:Int->Int->Prop)(b:List Int):Ann C0:={ Γ:=[(127,frameT [] tUd),(117,frameT [] tCk)],inv:=fun n=>match n with
 | 1004=>some { X:=XNx P1,sl:=[7,8],tf:=fun x=>[vi .u64 x.u,vi .i64 x.n],hf:=fun _=>[.row false EC.u8 b] }
 | 1009=>some { X:=XNx P2,sl:=[8,10],tf:=fun x=>[vi .i64 x.u,vi .i64 x.n],hf:=fun _=>[.row false EC.u8 b] }
 | _=>none }
def tNx:Tfm C0:=fun args H K=>match args,H with
 | [.at (.slc 0),.at (.val (.int .i64 at_))],[.row false .u8 b]=>allB b/\b.length<=1000000000/\∀ p n e,nxD b at_=(p,n,e)->K (.tup [.at (.slc 1),.at (vI n),.at (vI e)]) [.row false EC.u8 b,.row true EC.u8 p] []
 | _,_=>False
theorem w4_num {r:Int}(r0:0<=r):[IntKind.u8.wrap (r.fdiv (2 ^ min (Int.toNat 24) IntKind.u32.bits)),IntKind.u8.wrap (r.fdiv (2 ^ min (Int.toNat 16) IntKind.u32.bits)),IntKind.u8.wrap (r.fdiv (2 ^ min (Int.toNat 8) IntKind.u32.bits)),IntKind.u8.wrap r]=wB 4 r:=by
 rw[show (2:Int) ^ min (Int.toNat 24) IntKind.u32.bits=16777216 from rfl,show (2:Int) ^ min (Int.toNat 16) IntKind.u32.bits=65536 from rfl,show (2:Int) ^ min (Int.toNat 8) IntKind.u32.bits=256 from rfl]
 simp only[Int.fdiv_eq_ediv_of_nonneg _ (show (0:Int)<=16777216 by decide),Int.fdiv_eq_ediv_of_nonneg _ (show (0:Int)<=65536 by decide),Int.fdiv_eq_ediv_of_nonneg _ (show (0:Int)<=256 by decide)]
 rw[wrap_u8m (by omega),wrap_u8m (by omega),wrap_u8m (by omega),wrap_u8m r0]
 show _=[r / 256 / 256 / 256 % 256,r / 256 / 256 % 256,r / 256 % 256,r % 256]
 rw[show r / 256 / 256 / 256=r / 16777216 by omega,show r / 256 / 256=r / 65536 by omega]
theorem vE_allB {f:Nat}{u:Int}(h0:0<=u)(h:u<128 ^ f*128):allB (vE f u):=vE_byte f u h0 h
theorem pow10:(18446744073709551616:Int)<=128 ^ 10*128:=by decide +kernel
theorem allB_vE {u:Int}(h0:0<=u)(h:u<18446744073709551616):allB (vE 10 u):=vE_allB h0 (Int.lt_of_lt_of_le h pow10)
theorem allB_wB (n:Nat)(u:Int):allB (wB n u):=fun c hc=>by
 have:=wB_byte n u c hc
 exact⟨by omega,by omega⟩
theorem vE_len10 (u:Int):(vE 10 u).length<=11:=(vE_len 10 u).2
theorem frH_allB {p:List Int}(h:allB p)(hl:p.length<=1048576):allB (frH p):=allB_app (allB_vE (by omega) (by omega)) h
theorem frE_allB {p:List Int}(h:allB p)(hl:p.length<=1048576):allB (frE p):=allB_app (frH_allB h hl) (allB_wB _ _)
theorem frE_len (p:List Int):(frE p).length<=p.length+15:=by
 have:=vE_len10 (p.length:Int)
 unfold frE frH
 rw[List.length_append,List.length_append,wB_len];omega
theorem vc_af (b p:List Int)(K:KT)(hp:allB p)(hl:p.length<=1048576)(hb:b.length<=1000000000)(h:∀ o,o=afA b p->K (.tup [.at (.slc 2),.at (vI 0)]) [.row false EC.u8 b,.row false EC.u8 p,.row true EC.u8 o] []) :
  vc C0 aAf Tryz.f125 [.at (.slc 0),.at (.slc 1)] [.row false EC.u8 b,.row false EC.u8 p] (normK 2 K):=by
 refine Eq.mp (show (brS (decide ((p.length:Int)>1048576)) (K (.tup [(.at (.slc 2)),(.at (.val (VI 1)))]) [(.row false EC.u8 (b)),(.row false EC.u8 (p)),(.row true EC.u8 [])] []) (0<=IntKind.u64.wrap (p.length:Int)/\IntKind.u64.wrap (p.length:Int)<18446744073709551616/\([]:List Ent).length<=1000000000/\∀ o:List Int,o=(uvA [] (IntKind.u64.wrap (p.length:Int)))->(o.length+p.length)*bytesOf C0 EC.u8<=140737488355328/\allB (o++p)/\(o++p).length<=1000000000000/\∀ r:Int,r=(crc (o++p))->((o++p).length+[IntKind.u8.wrap (r.fdiv (2 ^ min (Int.toNat 24) IntKind.u32.bits)),IntKind.u8.wrap (r.fdiv (2 ^ min (Int.toNat 16) IntKind.u32.bits)),IntKind.u8.wrap (r.fdiv (2 ^ min (Int.toNat 8) IntKind.u32.bits)),IntKind.u8.wrap r].length)*bytesOf C0 EC.u8<=140737488355328/\(0:Int)<=0/\0<=IntKind.i64.wrap ((b.length:Int)+(↑(o++p++[IntKind.u8.wrap (r.fdiv (2 ^ min (Int.toNat 24) IntKind.u32.bits)),IntKind.u8.wrap (r.fdiv (2 ^ min (Int.toNat 16) IntKind.u32.bits)),IntKind.u8.wrap (r.fdiv (2 ^ min (Int.toNat 8) IntKind.u32.bits)),IntKind.u8.wrap r]).length:Int))/\IntKind.i64.wrap ((b.length:Int)+(↑(o++p++[IntKind.u8.wrap (r.fdiv (2 ^ min (Int.toNat 24) IntKind.u32.bits)),IntKind.u8.wrap (r.fdiv (2 ^ min (Int.toNat 16) IntKind.u32.bits)),IntKind.u8.wrap (r.fdiv (2 ^ min (Int.toNat 8) IntKind.u32.bits)),IntKind.u8.wrap r]).length:Int))*(↑(bytesOf C0 EC.u8):Int)<=140737488355328/\(([]:List Ent).length+b.length)*bytesOf C0 EC.u8<=140737488355328/\(([]++b).length+(o++p++[IntKind.u8.wrap (r.fdiv (2 ^ min (Int.toNat 24) IntKind.u32.bits)),IntKind.u8.wrap (r.fdiv (2 ^ min (Int.toNat 16) IntKind.u32.bits)),IntKind.u8.wrap (r.fdiv (2 ^ min (Int.toNat 8) IntKind.u32.bits)),IntKind.u8.wrap r]).length)*bytesOf C0 EC.u8<=140737488355328/\
 K (.tup [(.at (.slc 2)),(.at (.val (VI 0)))]) [(.row false EC.u8 (b)),(.row false EC.u8 (p)),(.row true EC.u8 ([]++b++(o++p++[IntKind.u8.wrap (r.fdiv (2 ^ min (Int.toNat 24) IntKind.u32.bits)),IntKind.u8.wrap (r.fdiv (2 ^ min (Int.toNat 16) IntKind.u32.bits)),IntKind.u8.wrap (r.fdiv (2 ^ min (Int.toNat 8) IntKind.u32.bits)),IntKind.u8.wrap r])))] []))=_ by kernel_rfl) ?_
 refine brS_of (fun z=>?_) fun _=>?_
 ·have:=of_decide_eq_true z;omega
 rw[wrap_u64 (x:=(p.length:Int)) (by omega) (by omega),bytes_u8]
 refine⟨by omega,by omega,by simp,fun o eo=>?_⟩
 have eo:o=vE 10 p.length:=eo.trans (List.nil_append _)
 have ol:o.length<=11:=by rw[eo];exact vE_len10 _
 have ef:o++p=frH p:=by rw[eo];rfl
 have fl:(frH p).length<=2000000:=by rw[← ef,List.length_append];omega
 rw[ef]
 refine⟨by omega,frH_allB hp hl,by omega,fun r er=>?_⟩
 have rr:=crc_rng (frH p)
 rw[← er] at rr
 rw[w4_num rr.1]
 have ee:frH p++wB 4 r=frE p:=by rw[er];rfl
 have el:=frE_len p
 rw[ee,wrap_id (by omega) (by omega)]
 refine⟨by rw[wB_len];omega,by decide,by omega,by omega,by simp;omega,by simp;omega,h _ ?_⟩
 unfold afA
 rw[List.nil_append]
 rfl
theorem s_af:SoundT C0 125 tAf:=by
 refine .of Tryz.func125 (by decide) rfl fun args H K h hB=>?_
 unfold tAf at h
 split at h<;>try exact h.elim
 rename_i b p
 refine⟨_,?_,vc_af b p K h.1 h.2.1 h.2.2.1 h.2.2.2⟩
 exact⟨frame C0.ok s_uv _,frame C0.ok s_ck _,trivial⟩
theorem vD_ok:∀ (l:List Int) (i:Nat) (a u k:Int),allB l->0<=a->vD 12 13 i l a=(u,k,0)->a<=u/\(i:Int)+1<=k/\k<=i+l.length
 | [],_,_,_,_,_,_,h=>by simp[vD] at h
 | c::r,i,a,u,k,hb,h0,h=>by
  have c0:=(hb c List.mem_cons_self).1
  have pp:(0:Int)<=c % 128*128 ^ i:=Int.mul_nonneg (by omega) (Int.le_of_lt (Int.pow_pos (by decide)))
  unfold vD at h
  split at h
  ·simp at h
  ·split at h
   ·simp only[Prod.mk.injEq] at h
    obtain⟨h1,h2,_⟩:=h
    rw[List.length_cons]
    omega
   ·have:=vD_ok r (i+1) _ u k (fun x hx=>hb x (List.mem_cons_of_mem _ hx)) (by omega) h
    rw[List.length_cons]
    omega
theorem four {s:List Int}(h:s.length=4):wD s=((getB s 0*256+getB s 1)*256+getB s 2)*256+getB s 3:=by
 match s,h with
 | [a,b,c,d],_ =>
  show 256*(256*(256*(256*0+a)+b)+c)+d=((a*256+b)*256+c)*256+d
  omega
theorem nxD_eq {b p:List Int}{at_ k e:Int}(h0:0<=at_)(h1:at_<=b.length)(h:frD 12 13 14 1048576 (b.drop at_.toNat)=(p,k,e)):nxD b at_=if e=0 then (p,at_+k,0) else ([],0,e):=by
 unfold nxD
 rw[if_neg (by omega),h]
theorem frD_eq {r:List Int}{n k e:Int}(h:vD 12 13 0 r 0=(n,k,e)):frD 12 13 14 1048576 r=if e≠0 then ([],0,e) else if 1048576<n then ([],0,13) else if (r.length:Int)<k+n+4 then ([],0,12) else
  if wD ((r.drop (k+n).toNat).take 4)=crc (r.take (k+n).toNat) then ((r.take (k+n).toNat).drop k.toNat,k+n+4,0) else ([],0,14):=by
 unfold frD
 rw[h]
def PNx1 (b:List Int)(at_:Int):Int->Int->Prop:=fun u n=>0<=at_/\at_<=b.length/\∃ k,vD 12 13 0 (b.drop at_.toNat) 0=(u,k,0)/\n=at_+k
def PNx2 (b:List Int)(at_:Int):Int->Int->Prop:=fun u n=>0<=at_/\at_<=b.length/\∃ v k,vD 12 13 0 (b.drop at_.toNat) 0=(v,k,0)/\v<=1048576/\u=at_+k/\n=at_+k+v/\at_+k+v+4<=b.length
theorem vc_nx (b:List Int)(at_:Int)(K:KT)(hb:allB b)(hl:b.length<=1000000000)(h:∀ p n e,nxD b at_=(p,n,e)->K (.tup [.at (.slc 1),.at (vI n),.at (vI e)]) [.row false EC.u8 b,.row true EC.u8 p] []) :
  vc C0 (aNx (PNx1 b at_) (PNx2 b at_) b) Tryz.f101 [.at (.slc 0),.at (.val (.int .i64 at_))] [.row false EC.u8 b] (normK 1 K):=by
 generalize hP:PNx1 b at_=P1
 generalize hP':PNx2 b at_=P2
 refine Eq.mp (show (allB b/\b.length<=1000000000000/\∀ u:Int,∀ n:Int,∀ e:Int,uvD b at_=(Prod.mk (u) (Prod.mk (n) (e)))->brS (e != 0) (K (.tup [(.at (.slc 1)),(.at (.val (VI 0))),(.at (.val (VI (e))))]) [(.row false EC.u8 (b)),(.row true EC.u8 [])] []) (∃ x:XNx P1,True/\(True/\VI (at_)=VI (at_)/\VW (u)=VW (x.u)/\VI (n)=VI (x.n)/\True)/\b=b/\True)/\∀ x:XNx P1,True->brS (decide (x.u>1048576)) (K (.tup [(.at (.slc 1)),(.at (.val (VI 0))),(.at (.val (VI 13)))]) [(.row false EC.u8 (b)),(.row true EC.u8 [])] []) (brS (decide (IntKind.i64.wrap ((b.length:Int)-4)<IntKind.i64.wrap (x.n+IntKind.i64.wrap x.u))) (K (.tup [(.at (.slc 1)),(.at (.val (VI 0))),(.at (.val (VI 12)))]) [(.row false EC.u8 (b)),(.row true EC.u8 [])] []) (∃ x1:XNx P2,True/\(True/\VI (at_)=VI (at_)/\VI (x.n)=VI (x1.u)/\(VI (IntKind.i64.wrap (x.n+IntKind.i64.wrap x.u)))=(VI (x1.n))/\True)/\b=b/\True)/\∀ x1:XNx P2,True->0<=at_/\at_<=x1.n/\x1.n<=(b.length:Int)/\allB (List.drop at_.toNat (List.take x1.n.toNat b))/\(List.drop at_.toNat (List.take x1.n.toNat b)).length<=1000000000000/\∀ r:Int,r=(crc (List.drop at_.toNat (List.take x1.n.toNat b)))->0<=x1.n/\x1.n<=IntKind.i64.wrap (x1.n+4)/\IntKind.i64.wrap (x1.n+4)<=(b.length:Int)/\(0:Int)<=0/\0<(↑(List.drop x1.n.toNat (List.take (IntKind.i64.wrap (x1.n+4)).toNat b)).length:Int)/\brS (getB (List.drop x1.n.toNat (List.take (IntKind.i64.wrap (x1.n+4)).toNat b)) (Int.toNat 0) != IntKind.u8.wrap (r.fdiv (2 ^ min (Int.toNat 24) IntKind.u32.bits))) (K (.tup [(.at (.slc 1)),(.at (.val (VI 0))),(.at (.val (VI 14)))]) [(.row false EC.u8 (b)),(.row true EC.u8 [])] []) ((0:Int)<=1/\
 1<(↑(List.drop x1.n.toNat (List.take (IntKind.i64.wrap (x1.n+4)).toNat b)).length:Int)/\brS (getB (List.drop x1.n.toNat (List.take (IntKind.i64.wrap (x1.n+4)).toNat b)) (Int.toNat 1) != IntKind.u8.wrap (r.fdiv (2 ^ min (Int.toNat 16) IntKind.u32.bits))) (K (.tup [(.at (.slc 1)),(.at (.val (VI 0))),(.at (.val (VI 14)))]) [(.row false EC.u8 (b)),(.row true EC.u8 [])] []) ((0:Int)<=2/\2<(↑(List.drop x1.n.toNat (List.take (IntKind.i64.wrap (x1.n+4)).toNat b)).length:Int)/\brS (getB (List.drop x1.n.toNat (List.take (IntKind.i64.wrap (x1.n+4)).toNat b)) (Int.toNat 2) != IntKind.u8.wrap (r.fdiv (2 ^ min (Int.toNat 8) IntKind.u32.bits))) (K (.tup [(.at (.slc 1)),(.at (.val (VI 0))),(.at (.val (VI 14)))]) [(.row false EC.u8 (b)),(.row true EC.u8 [])] []) ((0:Int)<=3/\3<(↑(List.drop x1.n.toNat (List.take (IntKind.i64.wrap (x1.n+4)).toNat b)).length:Int)/\brS (getB (List.drop x1.n.toNat (List.take (IntKind.i64.wrap (x1.n+4)).toNat b)) (Int.toNat 3) != IntKind.u8.wrap r) (K (.tup [(.at (.slc 1)),(.at (.val (VI 0))),(.at (.val (VI 14)))]) [(.row false EC.u8 (b)),(.row true EC.u8 [])] []) (0<=x1.u/\x1.u<=x1.n/\x1.n<=(b.length:Int)/\(([]:List Ent).length+(List.drop x1.u.toNat (List.take x1.n.toNat b)).length)*bytesOf C0 EC.u8<=140737488355328/\K (.tup [(.at (.slc 1)),(.at (.val (VI (IntKind.i64.wrap (x1.n+4))))),(.at (.val (VI 0)))]) [(.row false EC.u8 (b)),(.row true EC.u8 ([]++List.drop x1.u.toNat (List.take x1.n.toNat b)))] []))))))=_ by kernel_rfl) ?_
 subst hP hP'
 have hr:=allB_drop hb at_.toNat
 refine⟨hb,by omega,fun u n e ud=>⟨brS_of (fun z=>?_) fun z=>?_,fun x _=>brS_of (fun z=>?_) fun z=>⟨brS_of (fun y=>?_) fun y=>?_,fun x1 _=>?_⟩⟩⟩
 ·have z:e≠0:=fun k=>by rw[k] at z;exact absurd z (by decide)
  refine h _ _ _ ?_
  by_cases c:at_<0∨(b.length:Int)<at_
  ·unfold uvD at ud
   rw[if_pos c] at ud
   injection ud with e1 e2
   injection e2 with e2 e3
   unfold nxD
   rw[if_pos c,e3]
   rfl
  ·obtain⟨v,k,e',hv⟩:∃ v k e',vD 12 13 0 (b.drop at_.toNat) 0=(v,k,e'):=⟨_,_,_,rfl⟩
   have ue:=uvD_eq (by omega) (by omega) hv
   rw[ud] at ue
   by_cases q:e'=0
   ·rw[if_pos q] at ue
    injection ue with e1 e2
    injection e2 with e2 e3
    exact absurd e3 z
   ·rw[if_neg q] at ue
    injection ue with e1 e2
    injection e2 with e2 e3
    have ef:=frD_eq hv
    rw[if_pos q] at ef
    rw[nxD_eq (by omega) (by omega) ef,if_neg q,e3]
    rfl
 ·have z:e=0:=by simpa using z
  subst z
  refine⟨⟨u,n,?_⟩,trivial,?_⟩
  ·by_cases c:at_<0∨(b.length:Int)<at_
   ·unfold uvD at ud
    rw[if_pos c] at ud
    injection ud with e1 e2
    injection e2 with e2 e3
    exact absurd e3 (by decide)
   ·obtain⟨v,k,e',hv⟩:∃ v k e',vD 12 13 0 (b.drop at_.toNat) 0=(v,k,e'):=⟨_,_,_,rfl⟩
    have ue:=uvD_eq (by omega) (by omega) hv
    rw[ud] at ue
    by_cases q:e'=0
    ·rw[if_pos q] at ue
     injection ue with e1 e2
     injection e2 with e2 e3
     rw[q] at hv
     exact⟨by omega,by omega,k,by rw[e1];exact hv,e2⟩
    ·rw[if_neg q] at ue
     injection ue with e1 e2
     injection e2 with e2 e3
     exact absurd e3.symm q
  ·(repeat' first|exact trivial|exact rfl|refine And.intro ?_ ?_)
 ·obtain⟨v,m,a0,a1,k,hv,en⟩:=x
  dsimp only at z ⊢
  have z:1048576<v:=of_decide_eq_true z
  have ef:=frD_eq hv
  rw[if_neg (by decide),if_pos z] at ef
  exact h _ _ _ (by rw[nxD_eq a0 a1 ef];rfl)
 ·obtain⟨v,m,a0,a1,k,hv,en⟩:=x
  dsimp only at z y ⊢
  have z:v<=1048576:=by have:=of_decide_eq_false z;omega
  have vk:=vD_ok _ 0 0 v k hr (Int.le_refl 0) hv
  have dl:(b.drop at_.toNat).length=b.length-at_.toNat:=List.length_drop
  rw[wrap_id (x:=(b.length:Int)-4) (by omega) (by omega),wrap_id (x:=v) (by omega) (by omega),wrap_id (x:=m+v) (by omega) (by omega)] at y
  have y:=of_decide_eq_true y
  have ef:=frD_eq hv
  rw[if_neg (by decide),if_neg (by omega),if_pos (by omega)] at ef
  exact h _ _ _ (by rw[nxD_eq a0 a1 ef];rfl)
 ·obtain⟨v,m,a0,a1,k,hv,en⟩:=x
  dsimp only at z y ⊢
  have z:v<=1048576:=by have:=of_decide_eq_false z;omega
  have vk:=vD_ok _ 0 0 v k hr (Int.le_refl 0) hv
  have dl:(b.drop at_.toNat).length=b.length-at_.toNat:=List.length_drop
  rw[wrap_id (x:=v) (by omega) (by omega),wrap_id (x:=m+v) (by omega) (by omega)]
  rw[wrap_id (x:=(b.length:Int)-4) (by omega) (by omega),wrap_id (x:=v) (by omega) (by omega),wrap_id (x:=m+v) (by omega) (by omega)] at y
  have y:=of_decide_eq_false y
  refine⟨⟨m,m+v,a0,a1,v,k,hv,z,en,by omega,by omega⟩,trivial,?_⟩
  (repeat' first|exact trivial|exact rfl|refine And.intro ?_ ?_)
 ·obtain⟨m,q,a0,a1,v,k,hv,z,em,eq,hle⟩:=x1
  dsimp only
  have vk:=vD_ok _ 0 0 v k hr (Int.le_refl 0) hv
  have dl:(b.drop at_.toNat).length=b.length-at_.toNat:=List.length_drop
  have t1:List.drop at_.toNat (List.take q.toNat b)=(b.drop at_.toNat).take (k+v).toNat:=by
   rw[List.take_drop,show at_.toNat+(k+v).toNat=q.toNat by omega]
  have t2:List.drop q.toNat (List.take (q+4).toNat b)=((b.drop at_.toNat).drop (k+v).toNat).take 4:=by
   rw[List.drop_drop,List.take_drop,show at_.toNat+(k+v).toNat=q.toNat by omega,show q.toNat+4=(q+4).toNat by omega]
  have t3:List.drop m.toNat (List.take q.toNat b)=((b.drop at_.toNat).take (k+v).toNat).drop k.toNat:=by
   rw[← t1,List.drop_drop,show at_.toNat+k.toNat=m.toNat by omega]
  rw[wrap_id (x:=q+4) (by omega) (by omega),t1,t2,t3]
  have ef:=frD_eq hv
  rw[if_neg (by decide),if_neg (by omega),if_neg (by omega)] at ef
  have hs:=allB_take (allB_drop hr (k+v).toNat) 4
  have sl:(((b.drop at_.toNat).drop (k+v).toNat).take 4).length=4:=by rw[List.length_take,List.length_drop];omega
  have tl:((b.drop at_.toNat).take (k+v).toNat).length<=b.length:=by rw[List.length_take];omega
  have hp:=allB_take hr (k+v).toNat
  generalize ((b.drop at_.toNat).drop (k+v).toNat).take 4=s at *
  generalize (b.drop at_.toNat).take (k+v).toNat=t at *
  have w4:=four sl
  have g0:=hs _ (getB_mem (i:=0) (by omega))
  have g1:=hs _ (getB_mem (i:=1) (by omega))
  have g2:=hs _ (getB_mem (i:=2) (by omega))
  have g3:=hs _ (getB_mem (i:=3) (by omega))
  refine⟨a0,by omega,by omega,hp,by omega,fun r er=>?_⟩
  have rr:=crc_rng t
  rw[← er] at rr ef
  rw[show (2:Int) ^ min (Int.toNat 24) IntKind.u32.bits=16777216 from rfl,show (2:Int) ^ min (Int.toNat 16) IntKind.u32.bits=65536 from rfl,show (2:Int) ^ min (Int.toNat 8) IntKind.u32.bits=256 from rfl,
   Int.fdiv_eq_ediv_of_nonneg _ (show (0:Int)<=16777216 by decide),Int.fdiv_eq_ediv_of_nonneg _ (show (0:Int)<=65536 by decide),Int.fdiv_eq_ediv_of_nonneg _ (show (0:Int)<=256 by decide),
   wrap_u8m (x:=r / 16777216) (by omega),wrap_u8m (x:=r / 65536) (by omega),wrap_u8m (x:=r / 256) (by omega),wrap_u8m (x:=r) rr.1,
   show Int.toNat 0=0 from rfl,show Int.toNat 1=1 from rfl,show Int.toNat 2=2 from rfl,show Int.toNat 3=3 from rfl]
  have bad:wD s≠r->K (.tup [.at (.slc 1),.at (vI 0),.at (vI 14)]) [.row false EC.u8 b,.row true EC.u8 []] []:=fun q=>by
   rw[if_neg q] at ef
   exact h _ _ _ (by rw[nxD_eq a0 a1 ef];rfl)
  have ne_of:∀ {x y:Int},(x != y)=true->x≠y:=fun {x y} q e=>by rw[e] at q;simp at q
  have eq_of:∀ {x y:Int},(x != y)=false->x=y:=fun {x y} q=>by simpa using q
  refine⟨by omega,by omega,by omega,by decide,by omega,brS_of (fun q=>bad fun k=>?_) fun q0=>⟨by decide,by omega,brS_of (fun q=>bad fun k=>?_) fun q1=>⟨by decide,by omega,brS_of (fun q=>bad fun k=>?_) fun q2=>⟨by decide,by omega,brS_of (fun q=>bad fun k=>?_) fun q3=>?_⟩⟩⟩⟩
  ·have:=ne_of q;omega
  ·have:=ne_of q;omega
  ·have:=ne_of q;omega
  ·have:=ne_of q;omega
  ·have e0:=eq_of q0
   have e1:=eq_of q1
   have e2:=eq_of q2
   have e3:=eq_of q3
   rw[if_pos (by omega)] at ef
   refine⟨by omega,by omega,by omega,?_,h _ _ _ ?_⟩
   ·have:(t.drop k.toNat).length<=t.length:=by rw[List.length_drop];omega
    rw[bytes_u8];simp;omega
   ·rw[nxD_eq a0 a1 ef,if_pos rfl]
    show (List.drop k.toNat t,at_+(k+v+4),(0:Int))=(List.drop k.toNat t,q+4,0)
    congr 2;omega
theorem s_nx:SoundT C0 101 tNx:=by
 refine .of Tryz.func101 (by decide) rfl fun args H K h hB=>?_
 unfold tNx at h
 split at h<;>try exact h.elim
 rename_i at_ b
 refine⟨_,?_,vc_nx b at_ K h.1 h.2.1 h.2.2⟩
 exact⟨frame C0.ok s_ud _,frame C0.ok s_ck _,trivial⟩
end Go.Proofs.YtedfbafngmicpaaGreat.Sx
end
section
/- packwork: varints, record, the reader. -/
namespace Go.Proofs.YtedfbafngmicpaaGreat.Sx
open Go

/-KEEP allB allQ uvD kyD vE vsE frE rvD ryD getB-/
def allQ (l:List Int):Prop:=∀ u∈l,0<=u/\u<18446744073709551616
def vsE (b l:List Int):List Int:=b++l.flatMap (vE 10)
def rvD (b:List Int)(at_:Int)(bad:Bool):Int × Int × Bool:=if bad then (0,at_,true) else match uvD b at_ with|(u,n,e)=>(u,n,e != 0)
def ryD (b:List Int)(at_:Int)(bad:Bool):Int × Int × Bool:=if bad then (0,at_,true) else match kyD b at_ with|(u,n,e)=>(u,n,e != 0)
structure XVs (P:Nat->List Int->Prop) where
 i:Nat
 o:List Int
 h:P i o
noncomputable def aVs (P:Nat->List Int->Prop)(l:List Int):Ann C0:={ Γ:=[(124,frameT [] tUv)],inv:=fun n=>match n with
 | 2=>some { X:=XVs P,sl:=[0,9],tf:=fun x=>[.one (.at (.slc 0)),vi .i64 x.i],hf:=fun x=>[.row true EC.u8 x.o,.row false EC.u64 l],μ:=fun x=>l.length-x.i,wr:=[0] }
 | _=>none }
def tVs:Tfm C0:=fun args H K=>match args,H with
 | [.at (.slc 0),.at (.slc 1)],[.row true .u8 b,.row false .u64 l]=>allQ l/\l.length<=1000000/\b.length<=1000000000/\∀ o,o=vsE b l->K (.one (.at (.slc 0))) [.row true EC.u8 o,.row false EC.u64 l] [0]
 | _,_=>False
def rcE (b p:List Int):List Int:=b++frE p
noncomputable def aRc:Ann C0:={ Γ:=[(125,frameT [] tAf)] }
def tRc:Tfm C0:=fun args H K=>match args,H with
 | [.at (.slc 0),.at (.slc 1)],[.row true .u8 b,.row false .u8 p]=>allB p/\p.length<=1048576/\b.length<=1000000000/\∀ o,o=rcE b p->K (.one (.at (.slc 0))) [.row true EC.u8 o,.row false EC.u8 p] [0]
 | _,_=>False
abbrev rdM (H:List (Chunk C0))(k:Int->Bool->List Int->Prop):Prop:=match H with
 | [.box [.slc 1,.val (.int .i64 at_),.val (.bool bad)],.row false .u8 b]=>k at_ bad b
 | _=>False
abbrev chR (at_:Int)(bad:Bool)(b:List Int):List (Chunk C0):=[.box [.slc 1,vI at_,vB bad],.row false EC.u8 b]
noncomputable def aRv:Ann C0:={ quiet:=[127],Γ:=[(127,frameT [] tUd)] }
def tRv:Tfm C0:=fun args H K=>match args with
 | [.at (.ptr 0 0)]=>rdM H fun at_ bad b=>allB b/\b.length<=1000000000000/\∀ u n f,rvD b at_ bad=(u,n,f)->K (.one (.at (vU64 u))) (chR n f b) [0]
 | _=>False
noncomputable def aRy:Ann C0:={ quiet:=[142],Γ:=[(142,frameT [] tKd)] }
def tRy:Tfm C0:=fun args H K=>match args with
 | [.at (.ptr 0 0)]=>rdM H fun at_ bad b=>allB b/\b.length<=1000000000000/\∀ u n f,ryD b at_ bad=(u,n,f)->K (.one (.at (vI u))) (chR n f b) [0]
 | _=>False
def tRd:Tfm C0:=fun args H K=>match args with
 | [.at (.ptr 0 0)]=>rdM H fun at_ bad b=>∀ r,r=(!bad && at_==b.length)->K (.one (.at (vB r))) (chR at_ bad b) []
 | _=>False
def PVs (b l:List Int):Nat->List Int->Prop:=fun i o=>i<=l.length/\o=b++(l.take i).flatMap (vE 10)
theorem vsE_len:∀ (l:List Int),(l.flatMap (vE 10)).length<=11*l.length
 | []=>Nat.le_refl _
 | u::l=>by
  have:=vsE_len l
  have:=vE_len10 u
  rw[List.flatMap_cons,List.length_append,List.length_cons];omega
theorem vc_vs (b l:List Int)(K:KT)(hl:allQ l)(h1:l.length<=1000000)(hb:b.length<=1000000000)(h:∀ o,o=vsE b l->K (.one (.at (.slc 0))) [.row true EC.u8 o,.row false EC.u64 l] [0]) :
  vc C0 (aVs (PVs b l) l) Tryz.f95 [.at (.slc 0),.at (.slc 1)] [.row true EC.u8 b,.row false EC.u64 l] (normK 2 (wideK [0] K)):=by
 generalize hP:PVs b l=P
 refine Eq.mp (show ((∃ x:XVs P,True/\(True/\True/\VI (l.length:Int)=VI (l.length:Int)/\VI 0=(VI (x.i:Int))/\True)/\b=x.o/\l=l/\True)/\∀ x:XVs P,True->brS (decide ((x.i:Int)<(l.length:Int))) (0<=(x.i:Int)/\(x.i:Int)<(l.length:Int)/\0<=getB l (x.i:Int).toNat/\getB l (x.i:Int).toNat<18446744073709551616/\([]:List Ent).length<=1000000000/\∀ o:List Int,o=(uvA [] (getB l (x.i:Int).toNat))->(x.o.length+o.length)*bytesOf C0 EC.u8<=140737488355328/\∃ x':XVs P,True/\((True/\True/\VI (l.length:Int)=VI (l.length:Int)/\(VI (IntKind.i64.wrap ((x.i:Int)+1)))=(VI (x'.i:Int))/\True)/\(x.o++o)=x'.o/\l=l/\True)/\l.length-x'.i<l.length-x.i) (K (.one (.at (.slc 0))) [(.row true EC.u8 (x.o)),(.row false EC.u64 (l))] [0]))=_ by kernel_rfl) ?_
 subst hP
 refine⟨⟨⟨0,b,Nat.zero_le _,(List.append_nil b).symm⟩,?_⟩,fun x _=>brS_of (fun z=>?_) fun z=>?_⟩
 ·(repeat' first|exact trivial|exact rfl|refine And.intro ?_ ?_)
 ·obtain⟨i,o,hi,eo⟩:=x
  dsimp only at z ⊢
  have z:i<l.length:=by have:=of_decide_eq_true z;omega
  rw[show ((i:Int)).toNat=i from rfl,wrap_id (x:=(i:Int)+1) (by omega) (by omega)]
  obtain⟨u0,u1⟩:=hl _ (getB_mem z)
  refine⟨by omega,by omega,u0,u1,by simp,fun v ev=>?_⟩
  have ev:v=vE 10 (getB l i):=ev.trans (List.nil_append _)
  have vl:v.length<=11:=by rw[ev];exact vE_len10 _
  have ol:o.length<=b.length+11*l.length:=by
   have:=vsE_len (l.take i)
   have:(l.take i).length<=l.length:=by rw[List.length_take];omega
   rw[eo,List.length_append];omega
  have en:o++v=b++(l.take (i+1)).flatMap (vE 10):=by rw[take_getB z,List.flatMap_append,List.flatMap_singleton,eo,ev,List.append_assoc]
  refine⟨by rw[bytes_u8];omega,⟨i+1,o++v,z,en⟩,trivial,?_,Nat.sub_lt_sub_left z (Nat.lt_succ_self i)⟩
  ·(repeat' first|exact trivial|exact rfl|refine And.intro ?_ ?_)
 ·obtain⟨i,o,hi,eo⟩:=x
  dsimp only at z ⊢
  have z:i=l.length:=by have:=of_decide_eq_false z;omega
  rw[z,List.take_length] at eo
  exact h _ eo
theorem s_vs:SoundT C0 95 tVs:=by
 refine .ofW [0] Tryz.func95 (by decide) rfl fun args H K h hB=>?_
 unfold tVs at h
 split at h<;>try exact h.elim
 rename_i b l
 refine⟨_,?_,vc_vs b l K h.1 h.2.1 h.2.2.1 h.2.2.2⟩
 exact⟨frame C0.ok s_uv _,trivial⟩
theorem vc_rc (b p:List Int)(K:KT)(hp:allB p)(h1:p.length<=1048576)(hb:b.length<=1000000000)(h:∀ o,o=rcE b p->K (.one (.at (.slc 0))) [.row true EC.u8 o,.row false EC.u8 p] [0]) :
  vc C0 aRc Tryz.f96 [.at (.slc 0),.at (.slc 1)] [.row true EC.u8 b,.row false EC.u8 p] (normK 2 (wideK [0] K)):=by
 refine Eq.mp (show (allB p/\p.length<=1048576/\([]:List Ent).length<=1000000000/\∀ o:List Int,o=(afA [] p)->(b.length+o.length)*bytesOf C0 EC.u8<=140737488355328/\K (.one (.at (.slc 0))) [(.row true EC.u8 (b++o)),(.row false EC.u8 (p))] [0])=_ by kernel_rfl) ?_
 refine⟨hp,h1,by simp,fun o eo=>?_⟩
 have eo:o=frE p:=eo.trans (List.nil_append _)
 have:=frE_len p
 exact⟨by rw[bytes_u8,eo];omega,h _ (by rw[eo];rfl)⟩
theorem s_rc:SoundT C0 96 tRc:=by
 refine .ofW [0] Tryz.func96 (by decide) rfl fun args H K h hB=>?_
 unfold tRc at h
 split at h<;>try exact h.elim
 rename_i b p
 refine⟨_,?_,vc_rc b p K h.1 h.2.1 h.2.2.1 h.2.2.2⟩
 exact⟨frame C0.ok s_af _,trivial⟩
theorem vc_rv (at_:Int)(bad:Bool)(b:List Int)(K:KT)(hb:allB b)(hl:b.length<=1000000000000)(h:∀ u n f,rvD b at_ bad=(u,n,f)->K (.one (.at (vU64 u))) (chR n f b) [0]) :
  vc C0 aRv Tryz.f128 [.at (.ptr 0 0)] (chR at_ bad b) (normK 2 (wideK [0] K)):=by
 refine Eq.mp (show (brS (bad) (K (.one (.at (.val (VW 0)))) [(.box [(.slc 1),(.val (VI (at_))),(.val (Value.bool (bad)))]),(.row false EC.u8 (b))] [0]) (allB b/\b.length<=1000000000000/\∀ u:Int,∀ n:Int,∀ e:Int,uvD b at_=(Prod.mk (u) (Prod.mk (n) (e)))->K (.one (.at (.val (VW (u))))) [(.box [(.slc 1),(.val (VI (n))),(.val (Value.bool (e != 0)))]),(.row false EC.u8 (b))] [0]))=_ by kernel_rfl) ?_
 refine brS_of (fun z=>?_) fun z=>⟨hb,hl,fun u n e he=>?_⟩
 ·subst z;exact h _ _ _ rfl
 ·subst z
  exact h _ _ _ (by unfold rvD;rw[he];rfl)
theorem s_rv:SoundT C0 128 tRv:=by
 refine .ofW [0] Tryz.func128 (by decide) rfl fun args H K h hB=>?_
 unfold tRv rdM at h
 split at h<;>try exact h.elim
 split at h<;>try exact h.elim
 rename_i at_ bad b
 refine⟨_,?_,vc_rv at_ bad b K h.1 h.2.1 h.2.2⟩
 exact⟨frame C0.ok s_ud _,trivial⟩
theorem vc_ry (at_:Int)(bad:Bool)(b:List Int)(K:KT)(hb:allB b)(hl:b.length<=1000000000000)(h:∀ u n f,ryD b at_ bad=(u,n,f)->K (.one (.at (vI u))) (chR n f b) [0]) :
  vc C0 aRy Tryz.f129 [.at (.ptr 0 0)] (chR at_ bad b) (normK 2 (wideK [0] K)):=by
 refine Eq.mp (show (brS (bad) (K (.one (.at (.val (VI 0)))) [(.box [(.slc 1),(.val (VI (at_))),(.val (Value.bool (bad)))]),(.row false EC.u8 (b))] [0]) (allB b/\b.length<=1000000000000/\∀ u:Int,∀ n:Int,∀ e:Int,kyD b at_=(Prod.mk (u) (Prod.mk (n) (e)))->K (.one (.at (.val (VI (u))))) [(.box [(.slc 1),(.val (VI (n))),(.val (Value.bool (e != 0)))]),(.row false EC.u8 (b))] [0]))=_ by kernel_rfl) ?_
 refine brS_of (fun z=>?_) fun z=>⟨hb,hl,fun u n e he=>?_⟩
 ·subst z;exact h _ _ _ rfl
 ·subst z
  exact h _ _ _ (by unfold ryD;rw[he];rfl)
theorem s_ry:SoundT C0 129 tRy:=by
 refine .ofW [0] Tryz.func129 (by decide) rfl fun args H K h hB=>?_
 unfold tRy rdM at h
 split at h<;>try exact h.elim
 split at h<;>try exact h.elim
 rename_i at_ bad b
 refine⟨_,?_,vc_ry at_ bad b K h.1 h.2.1 h.2.2⟩
 exact⟨frame C0.ok s_kd _,trivial⟩
theorem vc_rd (at_:Int)(bad:Bool)(b:List Int)(K:KT)(h:∀ r,r=(!bad && at_==b.length)->K (.one (.at (vB r))) (chR at_ bad b) []) :
  vc C0 A0 Tryz.f131 [.at (.ptr 0 0)] (chR at_ bad b) (normK 2 K):=by
 refine Eq.mp (show (brS (!bad) (K (.one (.at (.val (Value.bool (at_==(b.length:Int)))))) [(.box [(.slc 1),(.val (VI (at_))),(.val (Value.bool (bad)))]),(.row false EC.u8 (b))] []) (K (.one (.at (.val (Value.bool false)))) [(.box [(.slc 1),(.val (VI (at_))),(.val (Value.bool (bad)))]),(.row false EC.u8 (b))] []))=_ by kernel_rfl) ?_
 refine brS_of (fun z=>?_) fun z=>?_
 ·exact h _ (by rw[z];rfl)
 ·exact h _ (by rw[z];rfl)
theorem s_rd:SoundT C0 131 tRd:=by
 refine .of Tryz.func131 (by decide) rfl fun args H K h hB=>?_
 unfold tRd rdM at h
 split at h<;>try exact h.elim
 split at h<;>try exact h.elim
 rename_i at_ bad b
 refine⟨A0,?_,vc_rd at_ bad b K h⟩
 exact trivial
end Go.Proofs.YtedfbafngmicpaaGreat.Sx
end
section
/- Plain laws of patches: what is carried through the loop of a check. No program in sight. -/
namespace Go.Proofs.YtedfbafngmicpaaGreat.Sx
open Go

def eA (p:List Ent)(n:Nat):Ent:=p.getD n (0,0)
theorem eA_get {p:List Ent}{n:Nat}(h:n<p.length):p[n]?=some (eA p n):=by simp[eA,List.getD_eq_getElem?_getD,List.getElem?_eq_getElem h]
theorem drop_cons {α:Type}{l:List α}{n:Nat}{x:α}(h:l[n]?=some x):l.drop n=x::l.drop (n+1):=by
 obtain⟨h1,h2⟩:=List.getElem?_eq_some_iff.1 h
 rw[List.drop_eq_getElem_cons h1,h2]
theorem take_snoc {α:Type}{l:List α}{n:Nat}{x:α}(h:l[n]?=some x):l.take (n+1)=l.take n++[x]:=by
 rw[List.take_add_one,h];rfl

def CmpR (c d:Chg)(ok:Bool):Prop:=ok=(mkChg c.key c.before c.after).isSome/\∀ e,mkChg c.key c.before c.after=some e->d=e
theorem CmpR.ok {c d:Chg}{ok:Bool}(h:CmpR c d ok):decide c.ok=(ok && decide (d=c)):=by
 obtain⟨h1,h2⟩:=h
 cases hm:mkChg c.key c.before c.after with
 | none=>rw[hm] at h1;subst h1;simp[Chg.ok,hm]
 | some e=>rw[hm] at h1;subst h1;simp[Chg.ok,hm,h2 e hm]
end Go.Proofs.YtedfbafngmicpaaGreat.Sx
end
section
/- The arena's Make and Release. -/
namespace Go.Proofs.YtedfbafngmicpaaGreat.Sx
open Go

structure XMk (S:Arn) (k v l r:Int) where
 i:Nat
 n:NodeT
 h:n=if i=0 then addC S ⟨k,v,l,r,1,v,v,v⟩ l else mkNode S k v l r
abbrev bxN (n:NodeT):Chunk C0:=.box [vI n.key,vI n.value,vU n.left,vU n.right,vI n.size,vI n.sum,vI n.min,vI n.max]
noncomputable def aMake (S:Arn)(k v l r:Int):Ann C0:={ rounds:=fun n=>if n=3 then 3 else 0,Γ:=[(59,frameT [] tSlAllocated),(80,frameT [] tSlAlloc)],inv:=fun n=>match n with
 | 1013=>some { X:=XMk S k v l r,sl:=[12],tf:=fun _=>[.one (.at (.ptr 7 0))],hf:=fun x=>chS S++[bxN x.n],rel:=fun T _ x=>slotI T 29 x.i }
 | _=>none }
def tMake:Tfm C0:=fun args H K=>match args with
 | [.at (.ptr 0 0),.at (.val (.int .i64 k)),.at (.val (.int .i64 v)),.at (.val (.int .u32 l)),.at (.val (.int .u32 r))]=>arM H fun S=>exW S/\live S l/\live S r ∧
  (maxSize<(mkNode S k v l r).size->K (.tup [.at (vU 0),.at (vI 1)]) (chS S) W7) ∧
  ((mkNode S k v l r).size<=maxSize->S.free=0->K (.tup [.at (vU 0),.at (vI 2)]) (chS S) W7) ∧
  ((mkNode S k v l r).size<=maxSize->0<S.free->∀ S' i,S'=makeS S k v l r->i=nxt S->K (.tup [.at (vU i),.at (vI 0)]) (chS S') W7)
 | _=>False
structure XRel (S:Arn) (hs:List Int) (i:Int) where
 S':Arn
 work:List Int
 freed:Int
 h:Wf S' (work++hs)/\Kept S S'/\0<=freed/\freed+S'.nu=S.nu/\(∀ w∈work,S'.us w=true)/\(1<S.ct i->(work=[i]/\S'=S)∨(work=[]/\S'=decS S i))
structure XRelK (S:Arn) (hs:List Int) (i:Int) where
 S':Arn
 rest:List Int
 k:Int
 freed:Int
 h:Wf S' ((rest++[k])++hs)/\Kept S S'/\0<=freed/\freed+S'.nu=S.nu/\(∀ w∈rest++[k],S'.us w=true)/\(1<S.ct i->rest=[]/\k=i/\S'=S)
noncomputable def aRelease (S:Arn)(hs:List Int)(i:Int):Ann C0:={ trunc:=fun n=>n==34,Γ:=[(59,frameT [] tSlAllocated),(74,frameT [] tSlRelease)],inv:=fun n=>match n with
 | 7=>some { X:=XRel S hs i,sl:=[7,6],tf:=fun x=>[.one (.at (.slc 7)),vi .i64 x.freed],hf:=fun x=>chS x.S'++[.row true EC.u32 x.work],μ:=fun x=>2*x.S'.nu+x.work.length,wr:=W7 }
 | 1010=>some { X:=XRelK S hs i,sl:=[7,8],tf:=fun x=>[.one (.at (.slc 7)),vi .u32 x.k],hf:=fun x=>chS x.S'++[.row true EC.u32 x.rest],wr:=W7,rel:=fun T _ x=>slotI T 6 x.freed/\slotI T 22 (x.rest.length+1) }
 | _=>none }
def tRelease:Tfm C0:=fun args H K=>match args with
 | [.at (.ptr 0 0),.at (.val (.int .u32 i))]=>arM H fun S=>∃ hs,Wf S (i::hs)/\∀ S' (fr:Int),Wf S' hs->Kept S S'->fr+S'.nu=S.nu->(1<S.ct i->S.us i=true->S'=decS S i)->(S.us i=false->S'=S)->K (.tup [.at (vI fr),.at (vI 0)]) (chS S') W7
 | _=>False
theorem list_last {α:Type}{l:List α}{d:α}(h:0<l.length):l.take (l.length-1)++[l.getD (l.length-1) d]=l:=by
 have h1:l[l.length-1]?=some (l.getD (l.length-1) d):=by
  have:l.length-1<l.length:=by omega
  simp[List.getD_eq_getElem?_getD,List.getElem?_eq_getElem this]
 rw[← take_snoc h1,show l.length-1+1=l.length by omega,List.take_length]
theorem XRelK.freed' {S:Arn}{hs:List Int}{i:Int}(x:XRelK S hs i)(hc:x.S'.ct x.k=1) :
  Wf (freeS x.S' x.k) ((x.rest++nz (x.S'.nd x.k).right++nz (x.S'.nd x.k).left)++hs)/\Kept S (freeS x.S' x.k)/\0<=x.freed+1/\(x.freed+1)+(freeS x.S' x.k).nu=S.nu ∧
  (∀ w∈x.rest++nz (x.S'.nd x.k).right++nz (x.S'.nd x.k).left,(freeS x.S' x.k).us w=true)/\(1<S.ct i->((x.rest++nz (x.S'.nd x.k).right++nz (x.S'.nd x.k).left)=[i]/\freeS x.S' x.k=S)∨((x.rest++nz (x.S'.nd x.k).right++nz (x.S'.nd x.k).left)=[]/\freeS x.S' x.k=decS S i)):=by
 obtain⟨h1,h2,h3,h4,h5,h6⟩:=x.h
 have hk:x.S'.us x.k=true:=h5 _ (by simp)
 have hw:Wf x.S' (x.k::(x.rest++hs)):=h1.perm (by
  rw[List.append_assoc]
  exact List.perm_middle)
 obtain⟨f1,f2,f3,f4⟩:=hw.freed hk hc
 have f1':Wf (freeS x.S' x.k) ((x.rest++nz (x.S'.nd x.k).right++nz (x.S'.nd x.k).left)++hs):=f1.perm (by
  rw[List.append_assoc,List.append_assoc]
  exact ((List.perm_append_comm_assoc _ _ _).append_left _).trans (List.perm_append_comm_assoc _ _ _))
 refine⟨f1',h2.trans (kept_free hw hk hc),by omega,by omega,fun w hm=>?_,fun hc1=>?_⟩
 ·refine (f1'.held w (List.mem_append_left _ hm)).resolve_left fun e=>?_
  subst e
  rcases List.mem_append.1 hm with hm|hm
  ·rcases List.mem_append.1 hm with hm|hm
   ·have:=h5 0 (by simp[hm])
    rw[h1.us0 (Int.le_refl 0)] at this;cases this
   ·unfold nz at hm;split at hm<;>simp at hm;omega
  ·unfold nz at hm;split at hm<;>simp at hm;omega
 ·obtain⟨_,e2,e3⟩:=h6 hc1
  rw[e2,e3] at hc
  omega
theorem vc_release (S:Arn)(hs:List Int)(i:Int)(K:KT)(hw:Wf S (i::hs))(h:∀ S' (fr:Int),Wf S' hs->Kept S S'->fr+S'.nu=S.nu->(1<S.ct i->S.us i=true->S'=decS S i)->(S.us i=false->S'=S)->K (.tup [.at (vI fr),.at (vI 0)]) (chS S') W7) :
  vc C0 (aRelease S hs i) Tryz.f26 [.at (.ptr 0 0),.at (vU i)] (chS S) (normK 7 (wideK W7 K)):=by
 refine Eq.mp (show (brS (i==0) (K (.tup [(.at (.val (VI 0))),(.at (.val (VI 0)))]) [(.box [(.ptr 1 0),(.slc 2),(.slc 3),(.val (VW (S.reads)))]),(.box [(.slc 4),(.slc 5),(.slc 6),(.val (VU (S.fresh)))]),(.row true EC.node (S.nodes)),(.row true EC.int (S.counts)),(.row true EC.bool (S.used)),(.row true EC.u32 (S.gen)),(.row true EC.u32 (S.rel))] [0,1,2,3,4,5,6]) (0<=i/\i<4294967296/\S.used.length<=65537/\brS (!S.us i) (K (.tup [(.at (.val (VI 0))),(.at (.val (VI 3)))]) [(.box [(.ptr 1 0),(.slc 2),(.slc 3),(.val (VW (S.reads)))]),(.box [(.slc 4),(.slc 5),(.slc 6),(.val (VU (S.fresh)))]),(.row true EC.node (S.nodes)),(.row true EC.int (S.counts)),(.row true EC.bool (S.used)),(.row true EC.u32 (S.gen)),(.row true EC.u32 (S.rel))] [0,1,2,3,4,5,6]) ((∃ x:XRel S hs i,True/\(True/\VI 0=(VI (x.freed))/\True/\True)/\(True/\True/\True/\VW (S.reads)=VW (x.S'.reads)/\True)/\(True/\True/\True/\VU (S.fresh)=VU (x.S'.fresh)/\True)/\S.nodes=x.S'.nodes/\S.counts=x.S'.counts/\S.used=x.S'.used/\S.gen=x.S'.gen/\S.rel=x.S'.rel/\[(i)]=x.work/\True)/\∀ x:XRel S hs i,True->brS (decide ((x.work.length:Int)>0)) (0<=IntKind.i64.wrap ((x.work.length:Int)-1)/\IntKind.i64.wrap ((x.work.length:Int)-1)<(x.work.length:Int)/\(0<=IntKind.i64.wrap ((x.work.length:Int)-1)/\IntKind.i64.wrap ((x.work.length:Int)-1)<=(x.work.length:Int)/\∃ x1:XRelK S hs i,(x.freed=x1.freed/\((x.work.length:Int))=((x1.rest.length:Int)+1))/\(True/\VI (x.freed)=VI (x.freed)/\True/\(VU (x.work.getD (IntKind.i64.wrap ((x.work.length:Int)-1)).toNat 0))=(VU (x1.k))/\
 True)/\(True/\True/\True/\VW (x.S'.reads)=VW (x1.S'.reads)/\True)/\(True/\True/\True/\VU (x.S'.fresh)=VU (x1.S'.fresh)/\True)/\x.S'.nodes=x1.S'.nodes/\x.S'.counts=x1.S'.counts/\x.S'.used=x1.S'.used/\x.S'.gen=x1.S'.gen/\x.S'.rel=x1.S'.rel/\(List.take (IntKind.i64.wrap ((x.work.length:Int)-1)).toNat x.work)=x1.rest/\True)/\∀ x1:XRelK S hs i,x.freed=x1.freed/\((x.work.length:Int))=((x1.rest.length:Int)+1)->0<=x1.k/\x1.k<(x1.S'.counts.length:Int)/\0<=x1.k/\x1.k<(x1.S'.counts.length:Int)/\0<=x1.k/\x1.k<(↑(x1.S'.counts.set x1.k.toNat (IntKind.i64.wrap (x1.S'.ct x1.k-1))).length:Int)/\brS (decide ((x1.S'.counts.set x1.k.toNat (IntKind.i64.wrap (x1.S'.ct x1.k-1))).getD x1.k.toNat 0>0)) (∃ x':XRel S hs i,True/\((True/\VI (x.freed)=VI (x'.freed)/\True/\True)/\(True/\True/\True/\VW (x1.S'.reads)=VW (x'.S'.reads)/\True)/\(True/\True/\True/\VU (x1.S'.fresh)=VU (x'.S'.fresh)/\True)/\x1.S'.nodes=x'.S'.nodes/\(x1.S'.counts.set x1.k.toNat (IntKind.i64.wrap (x1.S'.ct x1.k-1)))=x'.S'.counts/\x1.S'.used=x'.S'.used/\x1.S'.gen=x'.S'.gen/\x1.S'.rel=x'.S'.rel/\x1.rest=x'.work/\True)/\2*x'.S'.nu+x'.work.length<2*x.S'.nu+x.work.length) (0<=x1.k/\x1.k<(x1.S'.nodes.length:Int)/\0<=x1.k/\x1.k<(x1.S'.nodes.length:Int)/\0<=x1.k/\x1.k<4294967296/\x1.S'.used.length<=65537/\x1.S'.rel.length<=65537/\x1.S'.us x1.k=true/\brS ((x1.S'.nd x1.k).right != 0) ((x1.rest.length+[(x1.S'.nd x1.k).right].length)*bytesOf C0 EC.u32<=140737488355328/\brS ((x1.S'.nd x1.k).left != 0) (((x1.rest++[(x1.S'.nd x1.k).right]).length+[(x1.S'.nd x1.k).left].length)*bytesOf C0 EC.u32<=140737488355328/\
 ∃ x':XRel S hs i,True/\((True/\(VI (IntKind.i64.wrap (x.freed+1)))=(VI (x'.freed))/\True/\True)/\(True/\True/\True/\VW (x1.S'.reads)=VW (x'.S'.reads)/\True)/\(True/\True/\True/\VU (x1.S'.fresh)=VU (x'.S'.fresh)/\True)/\x1.S'.nodes.set x1.k.toNat NodeT.zero=x'.S'.nodes/\(x1.S'.counts.set x1.k.toNat (IntKind.i64.wrap (x1.S'.ct x1.k-1)))=x'.S'.counts/\x1.S'.used.set x1.k.toNat false=x'.S'.used/\x1.S'.gen=x'.S'.gen/\(x1.S'.rel++[x1.k])=x'.S'.rel/\(x1.rest++[(x1.S'.nd x1.k).right]++[(x1.S'.nd x1.k).left])=x'.work/\True)/\2*x'.S'.nu+x'.work.length<2*x.S'.nu+x.work.length) (∃ x':XRel S hs i,True/\((True/\(VI (IntKind.i64.wrap (x.freed+1)))=(VI (x'.freed))/\True/\True)/\(True/\True/\True/\VW (x1.S'.reads)=VW (x'.S'.reads)/\True)/\(True/\True/\True/\VU (x1.S'.fresh)=VU (x'.S'.fresh)/\True)/\x1.S'.nodes.set x1.k.toNat NodeT.zero=x'.S'.nodes/\(x1.S'.counts.set x1.k.toNat (IntKind.i64.wrap (x1.S'.ct x1.k-1)))=x'.S'.counts/\x1.S'.used.set x1.k.toNat false=x'.S'.used/\x1.S'.gen=x'.S'.gen/\(x1.S'.rel++[x1.k])=x'.S'.rel/\(x1.rest++[(x1.S'.nd x1.k).right])=x'.work/\True)/\2*x'.S'.nu+x'.work.length<2*x.S'.nu+x.work.length)) (brS ((x1.S'.nd x1.k).left != 0) ((x1.rest.length+[(x1.S'.nd x1.k).left].length)*bytesOf C0 EC.u32<=140737488355328/\∃ x':XRel S hs i,True/\((True/\(VI (IntKind.i64.wrap (x.freed+1)))=(VI (x'.freed))/\True/\True)/\(True/\True/\True/\VW (x1.S'.reads)=VW (x'.S'.reads)/\True)/\(True/\True/\True/\VU (x1.S'.fresh)=VU (x'.S'.fresh)/\True)/\x1.S'.nodes.set x1.k.toNat NodeT.zero=x'.S'.nodes/\
 (x1.S'.counts.set x1.k.toNat (IntKind.i64.wrap (x1.S'.ct x1.k-1)))=x'.S'.counts/\x1.S'.used.set x1.k.toNat false=x'.S'.used/\x1.S'.gen=x'.S'.gen/\(x1.S'.rel++[x1.k])=x'.S'.rel/\(x1.rest++[(x1.S'.nd x1.k).left])=x'.work/\True)/\2*x'.S'.nu+x'.work.length<2*x.S'.nu+x.work.length) (∃ x':XRel S hs i,True/\((True/\(VI (IntKind.i64.wrap (x.freed+1)))=(VI (x'.freed))/\True/\True)/\(True/\True/\True/\VW (x1.S'.reads)=VW (x'.S'.reads)/\True)/\(True/\True/\True/\VU (x1.S'.fresh)=VU (x'.S'.fresh)/\True)/\x1.S'.nodes.set x1.k.toNat NodeT.zero=x'.S'.nodes/\(x1.S'.counts.set x1.k.toNat (IntKind.i64.wrap (x1.S'.ct x1.k-1)))=x'.S'.counts/\x1.S'.used.set x1.k.toNat false=x'.S'.used/\x1.S'.gen=x'.S'.gen/\(x1.S'.rel++[x1.k])=x'.S'.rel/\x1.rest=x'.work/\True)/\2*x'.S'.nu+x'.work.length<2*x.S'.nu+x.work.length)))) (K (.tup [(.at (.val (VI (x.freed)))),(.at (.val (VI 0)))]) [(.box [(.ptr 1 0),(.slc 2),(.slc 3),(.val (VW (x.S'.reads)))]),(.box [(.slc 4),(.slc 5),(.slc 6),(.val (VU (x.S'.fresh)))]),(.row true EC.node (x.S'.nodes)),(.row true EC.int (x.S'.counts)),(.row true EC.bool (x.S'.used)),(.row true EC.u32 (x.S'.gen)),(.row true EC.u32 (x.S'.rel))] [0,1,2,3,4,5,6]))))=_ by kernel_rfl) ?_
 simp only[bytes_u32]
 have hin:=hw.held i (by simp)
 have hge:=hw.ge0 hin
 have h2:=hw.n2
 refine brS_of (fun c=>?_) fun c=>?_
 ·have c:i=0:=by simpa using c
  subst c
  exact h S 0 hw.of_zero (Kept.refl S) (by omega) (fun _ e=>by rw[hw.us0 (Int.le_refl 0)] at e;cases e) fun _=>rfl
 have c:i≠0:=by simpa using c
 have hu:=hin.resolve_left c
 have hp:=hw.pos hu
 refine⟨hge,by omega,by omega,brS_of (fun d=>by rw[hu] at d;cases d) fun _=>⟨⟨⟨S,[i],0,hw,Kept.refl S,by omega,by omega,by simpa using hu,fun _=>.inl ⟨rfl,rfl⟩⟩,?_⟩,fun x _=>brS_of (fun e=>?_) fun e=>?_⟩⟩
 ·(repeat' first|exact trivial|exact rfl|refine And.intro ?_ ?_)
 ·obtain⟨g1,g2,g3,g4,g5,g6⟩:=x.h
  have e:0<x.work.length:=by have:=of_decide_eq_true e;omega
  have hl:=list_last (d:=(0:Int)) e
  have hn1:=g1.n2
  have hfew:=g1.few
  have hfl:x.work.length<=2000000000:=by simp at hfew;omega
  rw[wrap_id (by omega) (by omega),show ((x.work.length:Int)-1).toNat=x.work.length-1 by omega]
  refine⟨by omega,by omega,⟨by omega,by omega,⟨x.S',x.work.take (x.work.length-1),x.work.getD (x.work.length-1) 0,x.freed,?_⟩,?_⟩,fun z rz=>?_⟩
  ·rw[hl]
   refine⟨g1,g2,g3,g4,g5,fun hc=>?_⟩
   rcases g6 hc with ⟨q1,q2⟩|⟨q1,_⟩
   ·rw[q1];exact⟨rfl,rfl,q2⟩
   ·rw[q1] at e;simp at e
  ·refine⟨⟨rfl,?_⟩,?_⟩
   ·have:(x.work.take (x.work.length-1)).length=x.work.length-1:=by simp
    show (x.work.length:Int)=((x.work.take (x.work.length-1)).length:Int)+1
    omega
   ·(repeat' first|exact trivial|exact rfl|refine And.intro ?_ ?_)
  ·obtain⟨r1,r2⟩:=rz
   obtain⟨h1,h2,h3,h4,h5,h6⟩:=z.h
   have hk:z.S'.us z.k=true:=h5 _ (by simp)
   have hpk:=h1.pos hk
   have hcn:=h1.ncnt
   have hnn:=h1.nnod
   have hn2:=h1.n2
   have hfn:=h1.free_nonneg
   have hfrr:=h1.fr
   have hct:=h1.ct_le hk
   have hw':Wf z.S' (z.k::(z.rest++hs)):=h1.perm (by rw[List.append_assoc];exact List.perm_middle)
   refine⟨by omega,by omega,by omega,by omega,by omega,by rw[List.length_set];omega,?_⟩
   rw[getD_set,if_pos ⟨rfl,by omega⟩,wrap_id (by omega) (by omega)]
   refine brS_of (fun d=>?_) fun d=>?_
   ·have d:1<z.S'.ct z.k:=by simp at d;omega
    refine⟨⟨decS z.S' z.k,z.rest,z.freed,hw'.dec hk d,h2.trans (kept_dec _ _),h3,h4,fun w hm=>h5 w (by simp[hm]),fun hc=>?_⟩,?_⟩
    ·obtain⟨q1,q2,q3⟩:=h6 hc
     exact .inr ⟨q1,by rw[q2,q3]⟩
    ·have e1:(decS z.S' z.k).nu=z.S'.nu:=rfl
     have e2:(z.S'.counts.set z.k.toNat (z.S'.ct z.k-1))=(decS z.S' z.k).counts:=by
      show _=z.S'.counts.set z.k.toNat (IntKind.i64.wrap (z.S'.ct z.k-1))
      rw[wrap_id (by omega) (by omega)]
     refine⟨trivial,⟨⟨trivial,by rw[r1],trivial,trivial⟩,⟨trivial,trivial,trivial,rfl,trivial⟩,⟨trivial,trivial,trivial,rfl,trivial⟩,rfl,e2,rfl,rfl,rfl,rfl,trivial⟩,?_⟩
     show 2*(decS z.S' z.k).nu+z.rest.length<_
     omega
   ·have d:z.S'.ct z.k=1:=by simp at d;omega
    obtain⟨k1,k2,k3,k4,k5,k6⟩:=z.freed' d
    have hm:=(hw'.freed hk d).2.1
    have e2:(z.S'.counts.set z.k.toNat (z.S'.ct z.k-1))=(freeS z.S' z.k).counts:=by
     show _=z.S'.counts.set z.k.toNat (IntKind.i64.wrap (z.S'.ct z.k-1))
     rw[wrap_id (by omega) (by omega)]
    have hwf:IntKind.i64.wrap (x.freed+1)=z.freed+1:=by
     have:=h1.nu_le;have:=hw.nu_le
     rw[wrap_id (by omega) (by omega),r1]
    have nl:∀ c,(nz c).length<=1:=fun c=>by unfold nz;split<;>simp
    rw[hwf]
    refine⟨by omega,by omega,by omega,by omega,by omega,by omega,by omega,by omega,hk,brS_of (fun q1=>⟨by simp;omega,brS_of (fun q2=>⟨by simp;omega,⟨⟨freeS z.S' z.k,_,z.freed+1,k1,k2,k3,k4,k5,k6⟩,?_⟩⟩) fun q2=>⟨⟨freeS z.S' z.k,_,z.freed+1,k1,k2,k3,k4,k5,k6⟩,?_⟩⟩) fun q1=>brS_of (fun q2=>⟨by simp;omega,⟨⟨freeS z.S' z.k,_,z.freed+1,k1,k2,k3,k4,k5,k6⟩,?_⟩⟩) fun q2=>⟨⟨freeS z.S' z.k,_,z.freed+1,k1,k2,k3,k4,k5,k6⟩,?_⟩⟩
    all_goals
     refine⟨trivial,⟨⟨trivial,rfl,trivial,trivial⟩,⟨trivial,trivial,trivial,rfl,trivial⟩,⟨trivial,trivial,trivial,rfl,trivial⟩,rfl,e2,rfl,rfl,rfl,?_,trivial⟩,?_⟩
    all_goals (try simp at q1 q2)
    case refine_1.refine_1=>simp[nz,q1,q2]
    all_goals first
     | (show 2*(freeS z.S' z.k).nu+(z.rest++nz _++nz _).length<_;have:=nl (z.S'.nd z.k).left;have:=nl (z.S'.nd z.k).right;simp only[List.length_append];omega)
     | simp[nz,q1,q2]
 ·have e:x.work=[]:=by have:=of_decide_eq_false e;exact List.length_eq_zero_iff.1 (by omega)
  obtain⟨g1,g2,g3,g4,g5,g6⟩:=x.h
  rw[e] at g1
  refine h x.S' x.freed g1 g2 g4 (fun hc _=>?_) fun hc=>by rw[hu] at hc;cases hc
  rcases g6 hc with ⟨q1,_⟩|⟨_,q2⟩
  ·rw[e] at q1;cases q1
  ·exact q2
theorem s_release:SoundT C0 26 tRelease:=by
 refine .ofW W7 Tryz.func26 (by decide) rfl fun args H K h hB=>?_
 unfold tRelease at h
 split at h<;>try exact h.elim
 unfold arM at h
 split at h<;>try exact h.elim
 rename_i i _ rd fr nd ct us gn rl
 obtain⟨hs,h1,h2⟩:=h
 exact⟨aRelease ⟨us,gn,rl,fr,nd,ct,rd⟩ hs i,⟨frame C0.ok s_slAllocated _,frame C0.ok s_slRelease _,trivial⟩,vc_release ⟨us,gn,rl,fr,nd,ct,rd⟩ hs i K h1 h2⟩
theorem vc_make (S:Arn)(k v l r:Int)(K:KT)(hw:exW S)(hl:live S l)(hr:live S r)(h1:maxSize<(mkNode S k v l r).size->K (.tup [.at (vU 0),.at (vI 1)]) (chS S) W7)(h2:(mkNode S k v l r).size<=maxSize->S.free=0->K (.tup [.at (vU 0),.at (vI 2)]) (chS S) W7)(h3:(mkNode S k v l r).size<=maxSize->0<S.free->∀ S' i,S'=makeS S k v l r->i=nxt S->K (.tup [.at (vU i),.at (vI 0)]) (chS S') W7) :
  vc C0 (aMake S k v l r) Tryz.f32 [.at (.ptr 0 0),.at (vI k),.at (vI v),.at (vU l),.at (vU r)] (chS S) (normK 7 (wideK W7 K)):=by
 refine Eq.mp (show (((0:Int)<=0/\0<((2:Nat):Int)/\brS (l==0) (∃ x:XMk S k v l r,0=((x.i:Int))/\(True/\VU (l)=VU (l)/\VU (r)=VU (r)/\True/\(VU (l)=VU (l)/\VU (r)=VU (r)/\True)/\VI 0=VI 0/\True)/\(True/\True/\True/\VW (S.reads)=VW (S.reads)/\True)/\(True/\True/\True/\VU (S.fresh)=VU (S.fresh)/\True)/\S.nodes=S.nodes/\S.counts=S.counts/\S.used=S.used/\S.gen=S.gen/\S.rel=S.rel/\(VI (k)=VI (x.n.key)/\VI (v)=VI (x.n.value)/\VU (l)=VU (x.n.left)/\VU (r)=VU (x.n.right)/\VI 1=(VI (x.n.size))/\VI (v)=VI (x.n.sum)/\VI (v)=VI (x.n.min)/\VI (v)=VI (x.n.max)/\True)/\True) (0<=l/\l<4294967296/\S.used.length<=65537/\brS (!S.us l) (K (.tup [(.at (.val (VU 0))),(.at (.val (VI 1)))]) [(.box [(.ptr 1 0),(.slc 2),(.slc 3),(.val (VW (S.reads)))]),(.box [(.slc 4),(.slc 5),(.slc 6),(.val (VU (S.fresh)))]),(.row true EC.node (S.nodes)),(.row true EC.int (S.counts)),(.row true EC.bool (S.used)),(.row true EC.u32 (S.gen)),(.row true EC.u32 (S.rel))] [0,1,2,3,4,5,6]) (0<=l/\l<(S.nodes.length:Int)/\∃ x:XMk S k v l r,0=((x.i:Int))/\(True/\VU (l)=VU (l)/\VU (r)=VU (r)/\True/\(VU (l)=VU (l)/\VU (r)=VU (r)/\True)/\VI 0=VI 0/\True)/\(True/\True/\True/\VW (S.reads)=VW (S.reads)/\True)/\(True/\True/\True/\VU (S.fresh)=VU (S.fresh)/\True)/\S.nodes=S.nodes/\S.counts=S.counts/\S.used=S.used/\S.gen=S.gen/\S.rel=S.rel/\(VI (k)=VI (x.n.key)/\VI (v)=VI (x.n.value)/\VU (l)=VU (x.n.left)/\VU (r)=VU (x.n.right)/\(VI (IntKind.i64.wrap (1+(S.nd l).size)))=(VI (x.n.size))/\(VI (IntKind.i64.wrap (v+(S.nd l).sum)))=(VI (x.n.sum))/\(VI (if (S.nd l).min<v then (S.nd l).min else v))=(VI (x.n.min))/\
 (VI (if (S.nd l).max>v then (S.nd l).max else v))=(VI (x.n.max))/\True)/\True)))/\∀ x:XMk S k v l r,0=((x.i:Int))->(0<=IntKind.i64.wrap (0+1)/\IntKind.i64.wrap (0+1)<((2:Nat):Int)/\brS (r==0) (∃ x1:XMk S k v l r,1=((x1.i:Int))/\(True/\VU (l)=VU (l)/\VU (r)=VU (r)/\True/\(VU (l)=VU (l)/\VU (r)=VU (r)/\True)/\VI 1=VI 1/\True)/\(True/\True/\True/\VW (S.reads)=VW (S.reads)/\True)/\(True/\True/\True/\VU (S.fresh)=VU (S.fresh)/\True)/\S.nodes=S.nodes/\S.counts=S.counts/\S.used=S.used/\S.gen=S.gen/\S.rel=S.rel/\(VI (x.n.key)=VI (x1.n.key)/\VI (x.n.value)=VI (x1.n.value)/\VU (x.n.left)=VU (x1.n.left)/\VU (x.n.right)=VU (x1.n.right)/\VI (x.n.size)=VI (x1.n.size)/\VI (x.n.sum)=VI (x1.n.sum)/\VI (x.n.min)=VI (x1.n.min)/\VI (x.n.max)=VI (x1.n.max)/\True)/\True) (0<=r/\r<4294967296/\S.used.length<=65537/\brS (!S.us r) (K (.tup [(.at (.val (VU 0))),(.at (.val (VI 1)))]) [(.box [(.ptr 1 0),(.slc 2),(.slc 3),(.val (VW (S.reads)))]),(.box [(.slc 4),(.slc 5),(.slc 6),(.val (VU (S.fresh)))]),(.row true EC.node (S.nodes)),(.row true EC.int (S.counts)),(.row true EC.bool (S.used)),(.row true EC.u32 (S.gen)),(.row true EC.u32 (S.rel))] [0,1,2,3,4,5,6]) (0<=r/\r<(S.nodes.length:Int)/\∃ x1:XMk S k v l r,1=((x1.i:Int))/\(True/\VU (l)=VU (l)/\VU (r)=VU (r)/\True/\(VU (l)=VU (l)/\VU (r)=VU (r)/\True)/\VI 1=VI 1/\True)/\(True/\True/\True/\VW (S.reads)=VW (S.reads)/\True)/\(True/\True/\True/\VU (S.fresh)=VU (S.fresh)/\True)/\S.nodes=S.nodes/\S.counts=S.counts/\S.used=S.used/\S.gen=S.gen/\S.rel=S.rel/\(VI (x.n.key)=VI (x1.n.key)/\
 VI (x.n.value)=VI (x1.n.value)/\VU (x.n.left)=VU (x1.n.left)/\VU (x.n.right)=VU (x1.n.right)/\(VI (IntKind.i64.wrap (x.n.size+(S.nd r).size)))=(VI (x1.n.size))/\(VI (IntKind.i64.wrap (x.n.sum+(S.nd r).sum)))=(VI (x1.n.sum))/\(VI (if (S.nd r).min<x.n.min then (S.nd r).min else x.n.min))=(VI (x1.n.min))/\(VI (if (S.nd r).max>x.n.max then (S.nd r).max else x.n.max))=(VI (x1.n.max))/\True)/\True)))/\∀ x1:XMk S k v l r,1=((x1.i:Int))->brS (decide (x1.n.size>2147483647)) (K (.tup [(.at (.val (VU 0))),(.at (.val (VI 1)))]) [(.box [(.ptr 1 0),(.slc 2),(.slc 3),(.val (VW (S.reads)))]),(.box [(.slc 4),(.slc 5),(.slc 6),(.val (VU (S.fresh)))]),(.row true EC.node (S.nodes)),(.row true EC.int (S.counts)),(.row true EC.bool (S.used)),(.row true EC.u32 (S.gen)),(.row true EC.u32 (S.rel))] [0,1,2,3,4,5,6]) (1<=S.used.length/\S.used.length<=65537/\S.rel.length<=65537/\0<=S.fresh/\S.fresh<=65537/\S.gen.length=S.used.length/\relOK S.rel S.used.length/\0<=(S.rel.length:Int)+((S.used.length:Int)-1)-S.fresh/\(((S.rel.length:Int)+((S.used.length:Int)-1)-S.fresh)=0->K (.tup [(.at (.val (VU 0))),(.at (.val (VI 2)))]) [(.box [(.ptr 1 0),(.slc 2),(.slc 3),(.val (VW (S.reads)))]),(.box [(.slc 4),(.slc 5),(.slc 6),(.val (VU (S.fresh)))]),(.row true EC.node (S.nodes)),(.row true EC.int (S.counts)),(.row true EC.bool (S.used)),(.row true EC.u32 (S.gen)),(.row true EC.u32 (S.rel))] [0,1,2,3,4,5,6])/\(0<(S.rel.length:Int)+((S.used.length:Int)-1)-S.fresh->∀ i:Int,∀ rl':List Int,∀ fr':Int,(Prod.mk (i) (Prod.mk (rl') (fr')))=fresh3 S.rel S.fresh->0<=i/\
 i<(S.nodes.length:Int)/\0<=i/\i<(S.counts.length:Int)/\0<=l/\l<(↑(S.counts.set i.toNat 1).length:Int)/\0<=l/\l<(↑(S.counts.set i.toNat 1).length:Int)/\0<=r/\r<(↑((S.counts.set i.toNat 1).set l.toNat (IntKind.i64.wrap ((S.counts.set i.toNat 1).getD l.toNat 0+1))).length:Int)/\0<=r/\r<(↑((S.counts.set i.toNat 1).set l.toNat (IntKind.i64.wrap ((S.counts.set i.toNat 1).getD l.toNat 0+1))).length:Int)/\K (.tup [(.at (.val (VU (i)))),(.at (.val (VI 0)))]) [(.box [(.ptr 1 0),(.slc 2),(.slc 3),(.val (VW (S.reads)))]),(.box [(.slc 4),(.slc 5),(.slc 6),(.val (VU (fr')))]),(.row true EC.node (S.nodes.set i.toNat { key:=x1.n.key,value:=x1.n.value,left:=x1.n.left,right:=x1.n.right,size:=x1.n.size,sum:=x1.n.sum,min:=x1.n.min,max:=x1.n.max:NodeT })),(.row true EC.int (((S.counts.set i.toNat 1).set l.toNat (IntKind.i64.wrap ((S.counts.set i.toNat 1).getD l.toNat 0+1))).set r.toNat (IntKind.i64.wrap (((S.counts.set i.toNat 1).set l.toNat (IntKind.i64.wrap ((S.counts.set i.toNat 1).getD l.toNat 0+1))).getD r.toNat 0+1)))),(.row true EC.bool (S.used.set i.toNat true)),(.row true EC.u32 (S.gen.set i.toNat (IntKind.u32.wrap (S.gn i+1)))),(.row true EC.u32 (rl'))] [0,1,2,3,4,5,6])))=_ by kernel_rfl) ?_
 obtain⟨hs,hw⟩:=hw
 have hn1:=hw.n1;have hn2:=hw.n2;have hnn:=hw.nnod;have hng:=hw.ngen;have hnc:=hw.ncnt;have hfr:=hw.fr;have hfree:=hw.free_nonneg
 have hl0:=hw.ge0 hl
 have hr0:=hw.ge0 hr
 have hl1:l<S.used.length:=by rcases hl with e|e;omega;have:=hw.pos e;omega
 have hr1:r<S.used.length:=by rcases hr with e|e;omega;have:=hw.pos e;omega
 refine⟨⟨by decide,by decide,brS_of (fun c=>⟨⟨0,⟨k,v,l,r,1,v,v,v⟩,?_⟩,?_⟩) fun c=>⟨hl0,by omega,by omega,brS_of (fun d=>?_) fun d=>⟨hl0,by omega,⟨⟨0,addK ⟨k,v,l,r,1,v,v,v⟩ (S.nd l),?_⟩,?_⟩⟩⟩⟩,
  fun x rx=>⟨⟨by decide,by decide,brS_of (fun c=>⟨⟨1,x.n,?_⟩,?_⟩) fun c=>⟨hr0,by omega,by omega,brS_of (fun d=>?_) fun d=>⟨hr0,by omega,⟨⟨1,addK x.n (S.nd r),?_⟩,?_⟩⟩⟩⟩,fun x1 r1=>?_⟩⟩
 ·have c:l=0:=by simpa using c
  rw[if_pos rfl];unfold addC;rw[if_pos c]
 ·(repeat' first|exact trivial|exact rfl|refine And.intro ?_ ?_)
 ·have c:l≠0:=by simpa using c
  have:=hl.resolve_left c
  rw[this] at d;cases d
 ·have c:l≠0:=by simpa using c
  rw[if_pos rfl];unfold addC;rw[if_neg c]
 ·(repeat' first|exact trivial|exact rfl|refine And.intro ?_ ?_)
 ·have c:r=0:=by simpa using c
  have hx:=x.h
  rw[if_pos (by omega)] at hx
  rw[if_neg (by decide)];unfold mkNode;rw[← hx];unfold addC;rw[if_pos c]
 ·(repeat' first|exact trivial|exact rfl|refine And.intro ?_ ?_)
 ·have c:r≠0:=by simpa using c
  have:=hr.resolve_left c
  rw[this] at d;cases d
 ·have c:r≠0:=by simpa using c
  have hx:=x.h
  rw[if_pos (by omega)] at hx
  rw[if_neg (by decide)];unfold mkNode;rw[← hx];unfold addC;rw[if_neg c]
 ·(repeat' first|exact trivial|exact rfl|refine And.intro ?_ ?_)
 ·obtain⟨i1,n1,hx⟩:=x1
  have r1:i1=1:=by have:(1:Int)=(i1:Int):=r1;omega
  subst r1
  rw[if_neg (by decide)] at hx
  subst hx
  refine brS_of (fun c=>h1 (by have:(mkNode S k v l r).size>2147483647:=of_decide_eq_true c;unfold maxSize;omega)) fun c=>?_
  have c:(mkNode S k v l r).size<=maxSize:=by have:¬ (mkNode S k v l r).size>2147483647:=of_decide_eq_false c;unfold maxSize;omega
  refine⟨by omega,hn2,by omega,hfr.1,by omega,hng,fun i hi=>by have:=hw.rel i hi;omega,by have:=hfree.1;unfold Arn.free Arn.cap at this;omega,fun e=>h2 c (by unfold Arn.free Arn.cap;omega),fun e i rl' fr' he=>?_⟩
  have e:0<S.free:=by unfold Arn.free Arn.cap;omega
  have h4:=h3 c e _ _ rfl rfl
  obtain⟨b1,b2,_⟩:=hw.nxt_spec e
  have e1:i=nxt S:=congrArg Prod.fst he
  have e2:rl'=(freshS S).2.1:=congrArg (fun p:Int × List Int × Int=>p.2.1) he
  have e3:fr'=(freshS S).2.2:=congrArg (fun p:Int × List Int × Int=>p.2.2) he
  subst e1 e2 e3
  refine⟨by omega,by omega,by omega,by omega,hl0,?_,hl0,?_,hr0,?_,hr0,?_,h4⟩
  all_goals (simp only[List.length_set];omega)
theorem s_make:SoundT C0 32 tMake:=by
 refine .ofW W7 Tryz.func32 (by decide) rfl fun args H K h hB=>?_
 unfold tMake at h
 split at h<;>try exact h.elim
 unfold arM at h
 split at h<;>try exact h.elim
 rename_i k v l r _ rd fr nd ct us gn rl
 obtain⟨h1,h2,h3,h4,h5,h6⟩:=h
 exact⟨aMake ⟨us,gn,rl,fr,nd,ct,rd⟩ k v l r,⟨frame C0.ok s_slAllocated _,frame C0.ok s_slAlloc _,trivial⟩,vc_make ⟨us,gn,rl,fr,nd,ct,rd⟩ k v l r K h1 h2 h3 h4 h5 h6⟩
end Go.Proofs.YtedfbafngmicpaaGreat.Sx
end
section
/- Making a node of two trees that are handed over; planting a tree. No program in sight. -/
namespace Go.Proofs.YtedfbafngmicpaaGreat
open Go

variable {S S' S'':Arn} {hs:List Int}

theorem indeg_pos (h:Wf S hs){i j:Int}(hj:S.us j=true)(he:(S.nd j).left=i∨(S.nd j).right=i):1<=S.indeg i:=by
 have hp:=h.pos hj
 have hn:=h.nnod
 have hm:S.nd j∈S.nodes:=by
  have:j.toNat<S.nodes.length:=by omega
  unfold Arn.nd
  rw[List.getD_eq_getElem?_getD,List.getElem?_eq_getElem this]
  exact List.getElem_mem this
 unfold Arn.indeg
 rcases he with he|he
 ·have:=(List.countP_pos_iff (p:=fun x:NodeT=>x.left==i)).2 ⟨S.nd j,hm,by simpa using he⟩
  omega
 ·have:=(List.countP_pos_iff (p:=fun x:NodeT=>x.right==i)).2 ⟨S.nd j,hm,by simpa using he⟩
  omega
def relA (S:Arn)(i:Int):Arn:=if S.us i then decS S i else S
theorem relA_same (S:Arn)(i j:Int):(relA S i).us j=S.us j/\(relA S i).nd j=S.nd j/\(relA S i).gn j=S.gn j/\(relA S i).indeg j=S.indeg j:=by
 unfold relA;split<;>exact⟨rfl,rfl,rfl,rfl⟩
theorem relA_flds (S:Arn)(i:Int):(relA S i).reads=S.reads/\(relA S i).used=S.used/\(relA S i).nu=S.nu/\(relA S i).free=S.free/\(relA S i).nodes=S.nodes/\(relA S i).rel=S.rel/\(relA S i).fresh=S.fresh:=by
 unfold relA;split<;>exact⟨rfl,rfl,rfl,rfl,rfl,rfl,rfl⟩
theorem Wf.two {i:Int}(h:Wf S (i::hs))(hi:S.us i=true)(hd:1<=S.indeg i):1<S.ct i:=by
 obtain⟨h1,_⟩:=h.cnt i hi
 rw[List.count_cons_self] at h1
 omega
theorem Wf.give {i:Int}(h:Wf S (i::hs))(hd:S.us i=true->1<=S.indeg i):Wf (relA S i) hs:=by
 unfold relA
 split
 ·rename_i hi
  exact h.dec hi (h.two hi (hd hi))
 ·rename_i hi
  have:i=0:=(h.held i (by simp)).resolve_right hi
  subst this
  exact h.of_zero
theorem Wf.given {i:Int}(h:Wf S (i::hs))(hd:S.us i=true->1<=S.indeg i)(h1:1<S.ct i->S.us i=true->S'=decS S i)(h2:S.us i=false->S'=S):S'=relA S i:=by
 unfold relA
 cases hi:S.us i with
 | true=>rw[if_pos rfl];exact h1 (h.two hi (hd hi)) hi
 | false=>simp;exact h2 hi
theorem Rep.same (hu:∀ j,S'.us j=S.us j)(hn:∀ j,S'.nd j=S.nd j):∀ {t:Tr} {i:Int},Rep S t i->Rep S' t i
 | .nil,i,hr=>hr
 | .node l k v r,i,hr=>by
  obtain⟨h1,h2,h3,h4,h5⟩:=hr
  exact⟨(hu i).trans h1,by rw[hn];exact h2,by rw[hn];exact h3,by rw[hn];exact Rep.same hu hn h4,by rw[hn];exact Rep.same hu hn h5⟩
theorem stay_same (hu:∀ j,S'.us j=S.us j)(hn:∀ j,S'.nd j=S.nd j)(hg:∀ j,S'.gn j=S.gn j)(hs:List Int):Stay S S' hs:=fun i hi=>⟨(hu i).trans hi.us,hn i,hg i⟩
def nodeS (S:Arn)(k v l r:Int):Arn:=relA (relA (makeS S k v l r) l) r
theorem make_flds (h:Wf S hs)(hf:0<S.free){k v l r:Int}:(makeS S k v l r).reads=S.reads/\(makeS S k v l r).used.length=S.used.length/\(makeS S k v l r).nu=S.nu+1:=by
 obtain⟨h1,h2,h3,_⟩:=h.nxt_spec hf
 refine⟨rfl,by simp[makeS],?_⟩
 have a:=countP_set' id S.used (nxt S).toNat true false (by omega)
 have:S.used.getD (nxt S).toNat false=false:=h3
 rw[this] at a
 simp at a
 unfold Arn.nu makeS
 simp
 omega
theorem make_rep (h:Wf S hs)(hf:0<S.free){k v l r:Int}:∀ {t:Tr} {i:Int},Rep S t i->Rep (makeS S k v l r) t i
 | .nil,i,hr=>hr
 | .node tl kk vv tr,i,hr=>by
  obtain⟨h1,h2,h3,h4,h5⟩:=hr
  have hx:=(h.nxt_spec hf).2.2.1
  have e:i≠nxt S:=fun e=>by rw[e,hx] at h1;cases h1
  have en:(makeS S k v l r).nd i=S.nd i:=by rw[make_nd h hf,if_neg e]
  exact⟨(make_us h hf i).2 (.inr h1),by rw[en];exact h2,by rw[en];exact h3,by rw[en];exact make_rep h hf h4,by rw[en];exact make_rep h hf h5⟩

structure NodeR (S:Arn) (hs:List Int) (k v:Int) (tl tr:Tr) (S':Arn) (i:Int):Prop where
 wf:Wf S' (i::hs)
 rep:Rep S' (.node tl k v tr) i
 stay:Stay S S' hs
 len:S'.used.length=S.used.length
 rds:S'.reads=S.reads
 nu:S'.nu=S.nu+1
 pos:1<=i
theorem node_two {k v l r:Int}(h:Wf S (l::r::hs))(hf:0<S.free)(hz:(mkNode S k v l r).size<=maxSize)(hl:hs.length<=999999990) :
  Wf (makeS S k v l r) (l::(nxt S::r::hs))/\((makeS S k v l r).us l=true->1<=(makeS S k v l r).indeg l)/\Wf (relA (makeS S k v l r) l) (r::(nxt S::hs))/\((relA (makeS S k v l r) l).us r=true->1<=(relA (makeS S k v l r) l).indeg r):=by
 have hl1:=h.held l (by simp)
 have hr1:=h.held r (by simp)
 have hm:=h.make (k:=k) (v:=v) hl1 hr1 hf hz (by simp;omega)
 obtain⟨h1,h2,h3,_⟩:=h.nxt_spec hf
 have hm1:Wf (makeS S k v l r) (l::(nxt S::r::hs)):=hm.perm (List.Perm.swap _ _ _)
 have hu:(makeS S k v l r).us (nxt S)=true:=(make_us h hf _).2 (.inl rfl)
 have hn:(makeS S k v l r).nd (nxt S)=mkNode S k v l r:=by rw[make_nd h hf,if_pos rfl]
 obtain⟨_,_,m1,m2⟩:=mkNode_flds S k v l r
 have d1:1<=(makeS S k v l r).indeg l:=indeg_pos hm hu (.inl (by rw[hn,m1]))
 have d2:1<=(makeS S k v l r).indeg r:=indeg_pos hm hu (.inr (by rw[hn,m2]))
 refine⟨hm1,fun _=>d1,(hm1.give fun _=>d1).perm (List.Perm.swap _ _ _),fun _=>?_⟩
 rw[(relA_same _ _ _).2.2.2];exact d2
theorem node_ok {k v l r:Int}{tl tr:Tr}(h:Wf S (l::r::hs))(hf:0<S.free)(hz:(mkNode S k v l r).size<=maxSize)(hl:hs.length<=999999990)(h1:Rep S tl l)(h2:Rep S tr r):NodeR S hs k v tl tr (nodeS S k v l r) (nxt S):=by
 obtain⟨a1,a2,a3,a4⟩:=node_two (k:=k) (v:=v) h hf hz hl
 obtain⟨x1,x2,x3,_⟩:=h.nxt_spec hf
 have e1:∀ j,(nodeS S k v l r).us j=(makeS S k v l r).us j:=fun j=>by unfold nodeS;rw[(relA_same _ _ _).1,(relA_same _ _ _).1]
 have e2:∀ j,(nodeS S k v l r).nd j=(makeS S k v l r).nd j:=fun j=>by unfold nodeS;rw[(relA_same _ _ _).2.1,(relA_same _ _ _).2.1]
 have e3:∀ j,(nodeS S k v l r).gn j=(makeS S k v l r).gn j:=fun j=>by unfold nodeS;rw[(relA_same _ _ _).2.2.1,(relA_same _ _ _).2.2.1]
 obtain⟨f1,f2,f3⟩:=make_flds h hf (k:=k) (v:=v) (l:=l) (r:=r)
 obtain⟨p1,p2,p3,_⟩:=relA_flds (makeS S k v l r) l
 obtain⟨q1,q2,q3,_⟩:=relA_flds (relA (makeS S k v l r) l) r
 have hn:(makeS S k v l r).nd (nxt S)=mkNode S k v l r:=by rw[make_nd h hf,if_pos rfl]
 obtain⟨m3,m4,m1,m2⟩:=mkNode_flds S k v l r
 refine⟨a3.give a4,?_,(stay_make h hf hs).trans (stay_same e1 e2 e3 hs),?_,?_,?_,x1⟩
 ·refine⟨by rw[e1,make_us h hf];exact .inl rfl,by rw[e2,hn,m3],by rw[e2,hn,m4],?_,?_⟩
  ·rw[e2,hn,m1];exact (make_rep h hf h1).same e1 e2
  ·rw[e2,hn,m2];exact (make_rep h hf h2).same e1 e2
 ·unfold nodeS;rw[q2,p2];exact f2
 ·unfold nodeS;rw[q1,p1];exact f1
 ·unfold nodeS;rw[q3,p3];exact f3
theorem mk_size {k v l r:Int}(h:Wf S hs){tl tr:Tr}(h1:Rep S tl l)(h2:Rep S tr r):(mkNode S k v l r).size=1+tl.size+tr.size:=by
 rw[h.mkNode_size,h1.size h,h2.size h]

/-! ### Balance -/
def balN (l r:Int):Prop:=l+1<=3*(r+1)/\r+1<=3*(l+1)
instance (l r:Int):Decidable (balN l r):=by unfold balN;infer_instance
def Tr.Bal:Tr->Prop
 | .nil=>True
 | .node l _ _ r=>balN l.size r.size/\l.Bal/\r.Bal

structure PlantR (S:Arn) (hs:List Int) (l:List Ent) (S':Arn) (i:Int):Prop where
 wf:Wf S' (i::hs)
 rep:∃ t,Rep S' t i/\t.list=l/\t.Bal
 stay:Stay S S' hs
 len:S'.used.length=S.used.length
 rds:S'.reads=S.reads
 nu:S'.nu=S.nu+l.length
theorem PlantR.nil (h:Wf S hs)(hl:hs.length<=1000000000):PlantR S hs [] S 0:=⟨h.zero_cons hl,⟨.nil,rfl,rfl,trivial⟩,Stay.refl _ _,rfl,rfl,rfl⟩
theorem PlantR.node {S1 S2 S3:Arn}{a b:List Ent}{e:Ent}{il ir i:Int}(h1:PlantR S hs a S1 il)(h2:PlantR S1 (il::hs) b S2 ir)(hb:balN a.length b.length)(h3:∀ tl tr,Rep S2 tl il->Rep S2 tr ir->NodeR S2 hs e.1 e.2 tl tr S3 i):PlantR S hs (a++e::b) S3 i:=by
 obtain⟨tl,r1,r2,r3⟩:=h1.rep
 obtain⟨tr,q1,q2,q3⟩:=h2.rep
 have r1':Rep S2 tl il:=r1.held h1.wf h2.stay (.inr (by simp))
 have n:=h3 tl tr r1' q1
 refine⟨n.wf,⟨_,n.rep,?_,?_,r3,q3⟩,?_,?_,?_,?_⟩
 ·simp[Tr.list,r2,q2]
 ·rw[← tl.list_len,← tr.list_len,r2,q2];exact hb
 ·exact (h1.stay.trans (h2.stay.mono (by simp_all))).trans n.stay
 ·rw[n.len,h2.len,h1.len]
 ·rw[n.rds,h2.rds,h1.rds]
 ·rw[n.nu,h2.nu,h1.nu];simp;omega
end Go.Proofs.YtedfbafngmicpaaGreat
end
section
/- Make where it succeeds, Release where another reference is left. -/
namespace Go.Proofs.YtedfbafngmicpaaGreat.Sx
open Go

def tMakeOk:Tfm C0:=fun args H K=>match args with
 | [.at (.ptr 0 0),.at (.val (.int .i64 k)),.at (.val (.int .i64 v)),.at (.val (.int .u32 l)),.at (.val (.int .u32 r))]=>arM H fun S=>exW S/\live S l/\live S r/\(mkNode S k v l r).size<=maxSize/\0<S.free ∧
  ∀ S' i,S'=makeS S k v l r->i=nxt S->K (.tup [.at (vU i),.at (vI 0)]) (chS S') W7
 | _=>False
theorem s_makeOk:SoundT C0 32 tMakeOk:=s_make.weak fun args H K h=>by
 unfold tMakeOk at h
 unfold tMake
 split at h<;>try exact h.elim
 unfold arM at h ⊢
 split at h<;>try exact h.elim
 obtain⟨h1,h2,h3,h4,h5,h6⟩:=h
 exact⟨h1,h2,h3,fun e=>absurd h4 (by omega),fun _ e=>absurd h5 (by omega),fun _ _=>h6⟩
def tGive:Tfm C0:=fun args H K=>match args with
 | [.at (.ptr 0 0),.at (.val (.int .u32 i))]=>arM H fun S=>∃ hs,Wf S (i::hs)/\(S.us i=true->1<=S.indeg i)/\∀ S',S'=relA S i->K (.tup [.at (vI 0),.at (vI 0)]) (chS S') W7
 | _=>False
theorem s_give:SoundT C0 26 tGive:=s_release.weak fun args H K h=>by
 unfold tGive at h
 unfold tRelease
 split at h<;>try exact h.elim
 unfold arM at h ⊢
 split at h<;>try exact h.elim
 obtain⟨hs,h1,h2,h3⟩:=h
 refine⟨hs,h1,fun S' fr _ _ h4 h5 h6=>?_⟩
 have e:=h1.given h2 h5 h6
 have h7:=h3 S' e
 have:fr=0:=by rw[e,(relA_flds _ _).2.2.1] at h4;omega
 rw[this]
 exact h7
end Go.Proofs.YtedfbafngmicpaaGreat.Sx
end
section
/- Listing a tree, and trees of a given shape. No program in sight. -/
namespace Go.Proofs.YtedfbafngmicpaaGreat
open Go

def lk:Tr->Int->Int->Nat->List Ent × Nat
 | .nil,_,_,_=>([],0)
 | .node l k v r,lo,hi,room=>if room=0 then ([],0) else
  let a:=if lo<k then lk l lo hi room else ([],0)
  let b:List Ent:=if lo<=k/\k<=hi/\a.1.length<room then [(k,v)] else []
  let c:=if k<hi then lk r lo hi (room-(a.1.length+b.length)) else ([],0)
  (a.1++(b++c.1),1+a.2+c.2)
def ne0 (t:Tr):Nat:=match t with
 | .nil=>0
 | .node _ _ _ _=>1
def pl:Tr->Int->Int->List Ent × Nat
 | .nil,_,_=>([],0)
 | .node l k v r,f,t=>if t<=f then ([],0) else
  let s:Int:=l.size
  let a:=if f<s then pl l f (if s<t then s else t) else ([],0)
  let b:List Ent:=if f<=s/\s<t then [(k,v)] else []
  let c:=if s+1<t then pl r (if 0<f-s-1 then f-s-1 else 0) (t-s-1) else ([],0)
  (a.1++(b++c.1),1+ne0 l+a.2+c.2)
def ShpT:Tr->List Ent->Prop
 | .nil,l=>l=[]
 | .node a k v b,l=>0<l.length/\l.getD (l.length / 2) (0,0)=(k,v)/\ShpT a (l.take (l.length / 2))/\ShpT b (l.drop (l.length / 2+1))
theorem ShpT.list:∀ {t:Tr} {l:List Ent},ShpT t l->t.list=l
 | .nil,l,h=>by have:l=[]:=h;rw[this];rfl
 | .node a k v b,l,h=>by
  obtain⟨h1,h2,h3,h4⟩:=h
  simp only[Tr.list]
  rw[h3.list,h4.list,← h2]
  have hp:l.length / 2<l.length:=by omega
  have e:l[l.length / 2]?=some (l.getD (l.length / 2) (0,0)):=by simp[List.getD_eq_getElem?_getD,List.getElem?_eq_getElem hp]
  obtain⟨q1,q2⟩:=List.getElem?_eq_some_iff.1 e
  have e2:l.drop (l.length / 2)=l.getD (l.length / 2) (0,0)::l.drop (l.length / 2+1):=by rw[List.drop_eq_getElem_cons q1,q2]
  rw[← e2,List.take_append_drop]
end Go.Proofs.YtedfbafngmicpaaGreat
end
section
/- Small facts on states. -/
namespace Go.Proofs.YtedfbafngmicpaaGreat.Sx
open Go

theorem rdS_zero (S:Arn):rdS S 0=S:=by simp[rdS]
theorem rdS_rdS (S:Arn)(a b:Nat):rdS (rdS S a) b=rdS S (a+b):=by simp[rdS];omega
theorem rep_rd {S:Arn}{t:Tr}{i:Int}(h:Rep S t i)(n:Nat):Rep (rdS S n) t i:=Rep.same (S:=S) (S':=rdS S n) (fun _=>rfl) (fun _=>rfl) h
theorem inU_of {S:Arn}{hs:List Int}(h:Wf S hs){i:Int}(hi:live S i):inU i:=by
 have h2:=h.n2
 rcases hi with rfl|hi
 ·exact⟨by decide,by decide⟩
 ·have:=h.pos hi;exact⟨by omega,by omega⟩
end Go.Proofs.YtedfbafngmicpaaGreat.Sx
end
section
/- Listing trees. -/
namespace Go.Proofs.YtedfbafngmicpaaGreat.Sx
open Go

/-KEEP Wf exW inU live Arn.cap Arn.free maxSize mkNode makeS relA nxt NodeR BuildR Rep lk pl rdS Tr.size-/
def room (lim:Int)(out:List Ent):Nat:=(lim-out.length).toNat
def lkA (t:Tr)(lo hi:Int)(rm:Nat):List Ent × Nat:=match t with
 | .nil=>([],0)
 | .node l k _ _=>if lo<k then lk l lo hi rm else ([],0)
def lkB (t:Tr)(lo hi:Int)(rm:Nat):List Ent:=match t with
 | .nil=>[]
 | .node _ k v _=>if lo<=k/\k<=hi/\(lkA t lo hi rm).1.length<rm then [(k,v)] else []
end Go.Proofs.YtedfbafngmicpaaGreat.Sx
end
section
/- Range, Slice and List; Build. -/
namespace Go.Proofs.YtedfbafngmicpaaGreat.Sx
open Go

/-KEEP Wf exW inU live Arn.cap Arn.free maxSize mkNode makeS relA nxt NodeR BuildR Rep lk pl rdS Tr.size rangeR sliceR ne0-/
end Go.Proofs.YtedfbafngmicpaaGreat.Sx
end
section
/- Plain laws of patches: apply, compose, rebase, invert. No program in sight. -/
namespace Go.Proofs.YtedfbafngmicpaaGreat

/-! ### Apply -/
def optE (k:Int)(v:Option Int):List Ent:=(v.map fun v=>(k,v)).toList

def appGo:List (Option Ent × Option Chg)->Option (List Ent)
 | []=>some []
 | (x,none)::t=>(appGo t).map (x.toList ++ ·)
 | (x,some c)::t=>if x.map Prod.snd=c.before then (appGo t).map (optE c.key c.after ++ ·) else none

def app (l:List Ent)(p:List Chg):Option (List Ent):=appGo (pEC l p)

def AppAt (l:List Ent)(p:List Chg)(i k:Nat)(acc:List Ent):Prop:=app l p=(appGo (pEC (l.drop i) (p.drop k))).map (acc ++ ·)
theorem AppAt.start (l:List Ent)(p:List Chg):AppAt l p 0 0 []:=by
 unfold AppAt app;rw[List.drop_zero,List.drop_zero];cases appGo (pEC l p)<;>rfl
theorem appGo_keep {l':List Ent}{p':List Chg}{x:Ent}{c:Chg}(h:x.1<c.key):appGo (pEC (x::l') (c::p'))=(appGo (pEC l' (c::p'))).map (x::·):=by
 show appGo (pairs Prod.fst Chg.key (x::l') (c::p'))=_
 rw[pairs,if_pos h];rfl
theorem AppAt.keep {l:List Ent}{p:List Chg}{i k:Nat}{acc:List Ent}{x:Ent}{c:Chg}(h:AppAt l p i k acc)(hl:l.drop i=x::l.drop (i+1))(hp:p.drop k=c::p.drop (k+1))(hlt:x.1<c.key):AppAt l p (i+1) k (acc++[x]):=by
 unfold AppAt at *
 rw[h,hl,hp,appGo_keep hlt,← hp,Option.map_map]
 congr 1
 funext t;simp
theorem AppAt.take {l:List Ent}{p:List Chg}{i k:Nat}{acc:List Ent}{x:Ent}{c:Chg}(h:AppAt l p i k acc)(hl:l.drop i=x::l.drop (i+1))(hp:p.drop k=c::p.drop (k+1))(he:x.1=c.key) :
  if some x.2=c.before then AppAt l p (i+1) (k+1) (acc++optE c.key c.after) else app l p=none:=by
 have e:pEC (x::l.drop (i+1)) (c::p.drop (k+1))=(some x,some c)::pEC (l.drop (i+1)) (p.drop (k+1)):=by
  show pairs Prod.fst Chg.key _ _=_
  rw[pairs,if_neg (by omega),if_neg (by omega)]
 split
 ·rename_i hb
  unfold AppAt at *
  rw[h,hl,hp,e]
  simp only[appGo,Option.map_some,hb,if_true,Option.map_map]
  congr 1
  funext t;simp
 ·rename_i hb
  unfold AppAt at h
  rw[h,hl,hp,e]
  simp only[appGo,Option.map_some,hb,if_false,Option.map_none]
theorem AppAt.new {l:List Ent}{p:List Chg}{i k:Nat}{acc:List Ent}{c:Chg}(h:AppAt l p i k acc)(hl:l.drop i=[]∨∃ x t,l.drop i=x::t/\c.key<x.1)(hp:p.drop k=c::p.drop (k+1)) :
  if none=c.before then AppAt l p i (k+1) (acc++optE c.key c.after) else app l p=none:=by
 have e:pEC (l.drop i) (c::p.drop (k+1))=(none,some c)::pEC (l.drop i) (p.drop (k+1)):=by
  show pairs Prod.fst Chg.key _ _=_::pairs Prod.fst Chg.key _ _
  rcases hl with hl|⟨x,t,hl,hlt⟩
  ·rw[hl,pairs]
  ·rw[hl,pairs,if_neg (by omega),if_pos hlt]
 split
 ·rename_i hb
  unfold AppAt at *
  rw[h,hp,e]
  simp only[appGo,Option.map_none,hb,if_true,Option.map_map]
  congr 1
  funext t;simp
 ·rename_i hb
  unfold AppAt at h
  rw[h,hp,e]
  simp only[appGo,Option.map_none,hb,if_false]
theorem AppAt.fin {l:List Ent}{p:List Chg}{i k:Nat}{acc:List Ent}(h:AppAt l p i k acc)(hk:p.length<=k):app l p=some (acc++l.drop i):=by
 unfold AppAt at h
 rw[h,List.drop_eq_nil_of_le hk]
 have:∀ m:List Ent,appGo (pEC m [])=some m:=by
  intro m
  induction m with
  | nil=>simp[pairs,appGo]
  | cons x t ih=>simp[pairs,appGo,ih]
 rw[this];rfl

def put (x:Option Int)(c:Option Chg):Option Int:=match c with
 | none=>x
 | some c=>c.after

def Fits (l:List Ent)(p:List Chg):Prop:=∀ c∈p,getE l c.key=c.before
instance (l:List Ent) (p:List Chg):Decidable (Fits l p):=by unfold Fits;infer_instance

/-! ### Invert -/
def inv1 (c:Chg):Chg:=(mkChg c.key c.after c.before).getD ⟨0,0,0,0⟩
def inv (p:List Chg):List Chg:=p.map inv1

end Go.Proofs.YtedfbafngmicpaaGreat
end
section
/- Plain laws of patches: compose and rebase. No program in sight. -/
namespace Go.Proofs.YtedfbafngmicpaaGreat

/-! ### Compose -/
/-! ### Rebase -/
def Cf (l m n:List Ent)(k:Int):Prop:=getE m k≠getE n k/\getE l k≠getE m k/\getE l k≠getE n k
instance (l m n:List Ent) (k:Int):Decidable (Cf l m n k):=by unfold Cf;infer_instance

end Go.Proofs.YtedfbafngmicpaaGreat
end
section
/- Plain laws of insertion into ascending lists, of key lists, of unions. No program in sight. -/
namespace Go.Proofs.YtedfbafngmicpaaGreat

def insGo (e:Ent):Bool->List Ent->List Ent
 | put,[]=>if put then [] else [e]
 | put,x::t=>(if !put && decide (e.1<=x.1) then [e] else [])++((if x.1=e.1 then [] else [x])++insGo e (put || decide (e.1<=x.1)) t)

theorem insGo_len (e:Ent):∀ (l:List Ent) (put:Bool),(insGo e put l).length<=l.length+(if put then 0 else 1):=by
 intro l
 induction l with
 | nil=>intro put;cases put<;>simp[insGo]
 | cons x t ih =>
  intro put
  simp only[insGo,List.length_append,List.length_cons]
  have h1:=ih (put || decide (e.1<=x.1))
  have h2:(if x.1=e.1 then ([]:List Ent) else [x]).length<=1:=by split<;>simp
  cases put
  ·by_cases h:e.1<=x.1
   ·simp[h] at h1 ⊢;omega
   ·simp[h] at h1 ⊢;omega
  ·simp at h1 ⊢;omega

abbrev insE (l:List Ent)(e:Ent):List Ent:=insGo e false l

theorem insE_len (l:List Ent)(e:Ent):(insE l e).length<=l.length+1:=by simpa using insGo_len e l false

theorem insGo_true {e:Ent}:∀ {l:List Ent},(∀ x∈l,e.1<x.1)->insGo e true l=l:=by
 intro l
 induction l with
 | nil=>intro _;simp[insGo]
 | cons x t ih =>
  intro h
  have hx:=h x List.mem_cons_self
  have:¬ x.1=e.1:=by omega
  simp[insGo,this,ih fun y hy=>h y (List.mem_cons_of_mem _ hy)]

theorem insE_cons {e x:Ent}{t:List Ent}(h:Asc (x::t)):insE (x::t) e=if e.1<x.1 then e::x::t else if x.1=e.1 then e::t else x::insE t e:=by
 have hh:=h.head
 rcases Int.lt_trichotomy e.1 x.1 with c|c|c
 ·have h1:e.1<=x.1:=by omega
  have h2:¬ x.1=e.1:=by omega
  simp[insE,insGo,h1,h2,c,insGo_true (e:=e) (l:=t) fun y hy=>by have:=hh y hy;omega]
 ·have h1:e.1<=x.1:=by omega
  have h2:¬ e.1<x.1:=by omega
  simp[insE,insGo,c,insGo_true (e:=e) (l:=t) fun y hy=>by have:=hh y hy;omega]
 ·have h1:¬ e.1<=x.1:=by omega
  have h2:¬ x.1=e.1:=by omega
  have h3:¬ e.1<x.1:=by omega
  simp[insE,insGo,h1,h2,h3]

theorem insE_mem {l:List Ent}{e z:Ent}(h:Asc l)(hz:z∈insE l e):z=e∨z∈l:=by
 induction l with
 | nil=>simp[insE,insGo] at hz;exact .inl hz
 | cons x t ih =>
  rw[insE_cons h] at hz
  split at hz
  ·rcases List.mem_cons.1 hz with rfl|hz
   ·exact .inl rfl
   ·exact .inr hz
  ·split at hz
   ·rcases List.mem_cons.1 hz with rfl|hz
    ·exact .inl rfl
    ·exact .inr (List.mem_cons_of_mem _ hz)
   ·rcases List.mem_cons.1 hz with rfl|hz
    ·exact .inr List.mem_cons_self
    ·rcases ih h.tail hz with rfl|hz
     ·exact .inl rfl
     ·exact .inr (List.mem_cons_of_mem _ hz)

theorem insE_asc {l:List Ent}(e:Ent)(h:Asc l):Asc (insE l e):=by
 induction l with
 | nil=>simp[insE,insGo,Srt]
 | cons x t ih =>
  rw[insE_cons h]
  split
  ·rename_i c
   exact Srt.cons h fun y hy=>by
    rcases List.mem_cons.1 hy with rfl|hy
    ·exact c
    ·have:=h.head y hy;omega
  ·split
   ·rename_i c
    exact Srt.cons h.tail fun y hy=>by have:=h.head y hy;omega
   ·rename_i c1 c2
    refine Srt.cons (ih h.tail) fun y hy=>?_
    rcases insE_mem h.tail hy with rfl|hy
    ·omega
    ·exact h.head y hy

theorem insE_get {l:List Ent}(e:Ent)(h:Asc l)(q:Int):getE (insE l e) q=if e.1=q then some e.2 else getE l q:=by
 obtain⟨k,v⟩:=e
 induction l with
 | nil=>simp[insE,insGo,getE]
 | cons x t ih =>
  obtain⟨a,b⟩:=x
  rw[insE_cons h]
  by_cases c1:k<a
  ·simp only[if_pos c1,getE]
  ·rw[if_neg c1]
   by_cases c2:a=k
   ·subst c2;simp[getE]
    split<;>simp_all
   ·rw[if_neg c2]
    simp only[getE,ih h.tail]
    by_cases c3:a=q
    ·simp[c3,show ¬ k=q by omega]
    ·simp[c3]

end Go.Proofs.YtedfbafngmicpaaGreat
end
section
/- The reference's lists: what their functions answer. -/
namespace Go.Proofs.YtedfbafngmicpaaGreat.Sx
open Go

theorem wrap_in {x:Int}(h0 : -9223372036854775808<=x)(h1:x<=9223372036854775807):IntKind.i64.wrap x=x:=by
 rw[IntKind.wrap_i64];omega
theorem drop_eq_iff {α:Type}{l m:List α}{k:Nat}{x y:α}(hl:l[k]?=some x)(hm:m[k]?=some y):(l.drop k=m.drop k)↔x=y/\l.drop (k+1)=m.drop (k+1):=by
 rw[drop_cons hl,drop_cons hm,List.cons.injEq]
def sameB {α:Type}[DecidableEq α](l m:List α):Bool:=decide (l=m)
structure XS {α:Type} [DecidableEq α] (l m:List α) where
 i:Nat
 h:i<=l.length/\l.length=m.length/\sameB l m=decide (l.drop i=m.drop i)
theorem XS.next {α:Type}[DecidableEq α]{l m:List α}(z:XS l m){x y:α}(hx:l[z.i]?=some x)(hy:m[z.i]?=some y)(he:x=y):∃ z':XS l m,z'.i=z.i+1:=by
 have h1:=(List.getElem?_eq_some_iff.1 hx).1
 refine⟨⟨z.i+1,by omega,z.h.2.1,?_⟩,rfl⟩
 rw[z.h.2.2]
 apply decide_eq_decide.2
 rw[drop_eq_iff hx hy]
 exact⟨fun h=>h.2,fun h=>⟨he,h⟩⟩
theorem XS.fin {α:Type}[DecidableEq α]{l m:List α}(z:XS l m)(h:z.i=l.length):sameB l m=true:=by
 rw[z.h.2.2,h,List.drop_length,z.h.2.1,List.drop_length];rfl
theorem asc_step {l:List Ent}{k:Nat}{x y:Ent}(hx:l[k]?=some x)(hy:l[k+1]?=some y):Asc (l.drop k)↔x.1<y.1/\Asc (l.drop (k+1)):=by
 rw[drop_cons hx,drop_cons hy]
 constructor
 ·intro h;exact⟨h.head _ (by simp),h.tail⟩
 ·rintro ⟨h1,h2⟩
  refine h2.cons fun z hz=>?_
  rcases List.mem_cons.1 hz with rfl|hz
  ·exact h1
  ·have:=h2.head z hz;omega
structure XA (l:List Ent) where
 i:Nat
 h:1<=i/\(i<=l.length∨i=1)/\(Asc l↔Asc (l.drop (i-1)))
theorem XA.split {l:List Ent}(z:XA l)(hi:z.i<l.length):(ascB l=true↔(eA l (z.i-1)).1<(eA l z.i).1/\Asc (l.drop z.i)):=by
 obtain⟨k,hk⟩:∃ k,z.i=k+1:=⟨z.i-1,by have:=z.h.1;omega⟩
 have h1:=eA_get (p:=l) (n:=k) (by omega)
 have h2:=eA_get (p:=l) (n:=k+1) (by omega)
 have h3:=asc_step h1 h2
 have h4:=z.h.2.2
 rw[hk] at h4 ⊢
 simp only[Nat.add_sub_cancel] at h4 ⊢
 rw[ascB,decide_eq_true_eq,h4,h3]
theorem XA.fin {l:List Ent}(z:XA l)(hi:l.length<=z.i):ascB l=true:=by
 rw[ascB,decide_eq_true_eq,z.h.2.2]
 have:(l.drop (z.i-1)).length<=1:=by simp;omega
 match l.drop (z.i-1),this with
 | [],_=>exact Srt.nil
 | [x],_=>exact Srt.nil.cons (by simp)
structure XIns (l:List Ent) (e:Ent) where
 i:Nat
 acc:List Ent
 put:Bool
 h:i<=l.length/\acc.length<=i+put.toNat/\insE l e=acc++insGo e put (l.drop i)
noncomputable def aIns (l:List Ent)(e:Ent):Ann C0:={ Γ:=[],inv:=fun n=>match n with
 | 4=>some { X:=XIns l e,sl:=[7,6,5,3],tf:=fun x=>[vi .i64 x.i,vb x.put,.one (.at (.slc 2)),.one (.at (.ptr 1 0))],hf:=fun x=>[.row false EC.ent l,.box [vI e.1,vI e.2],.row true EC.ent x.acc],μ:=fun x=>l.length-x.i }
 | _=>none }
def tIns:Tfm C0:=fun args H K=>match args,H with
 | [.at (.slc 0),.agg [.val (.int .i64 k),.val (.int .i64 v)]],[.row false .ent l]=>l.length<=1000000/\K (.one (.at (.slc 1))) [.row false EC.ent l,.row true EC.ent (insE l (k,v))] []
 | _,_=>False
theorem insGo_step {e x:Ent}{put:Bool}{l:List Ent}{i:Nat}(h:l[i]?=some x):insGo e put (l.drop i)=(if !put && decide (e.1<=x.1) then [e] else [])++((if x.1=e.1 then [] else [x])++insGo e (put || decide (e.1<=x.1)) (l.drop (i+1))):=by
 rw[drop_cons h,insGo]
theorem XIns.next {l:List Ent}{e:Ent}(z:XIns l e){x:Ent}(hx:l[z.i]?=some x){put':Bool}{acc':List Ent}(hp:put'=(z.put || decide (e.1<=x.1)))(ha:acc'=z.acc++((if !z.put && decide (e.1<=x.1) then [e] else [])++(if x.1=e.1 then [] else [x]))):∃ z':XIns l e,z'.i=z.i+1/\z'.put=put'/\z'.acc=acc':=by
 have h1:=(List.getElem?_eq_some_iff.1 hx).1
 obtain⟨hi,hl,he⟩:=z.h
 rw[insGo_step hx] at he
 refine⟨⟨z.i+1,acc',put',by omega,?_,?_⟩,rfl,rfl,rfl⟩
 ·subst hp ha
  have h2:(if x.1=e.1 then ([]:List Ent) else [x]).length<=1:=by split<;>simp
  cases hz:z.put<;>rw[hz] at hl<;>by_cases hc:e.1<=x.1<;>simp[hc] at hl⊢<;> omega
 ·subst hp ha
  rw[he];simp only[List.append_assoc]
theorem XIns.fin {l:List Ent}{e:Ent}(z:XIns l e)(h:z.i=l.length):insE l e=z.acc++(if z.put then [] else [e]):=by
 rw[z.h.2.2,h,List.drop_length];rfl
theorem vc_ins (l : List Ent) (k v : Int) (K : KT) (hsm : l.length ≤ 1000000) (h : K (.one (.at (.slc 1))) [.row false EC.ent l, .row true EC.ent (insE l (k, v))] []) :
    vc C0 (aIns l (k, v)) Tryz.f18 [.at (.slc 0), .agg [.val (.int .i64 k), .val (.int .i64 v)]] [.row false EC.ent l] (normK 1 K) := by
  refine Eq.mp (show ((∃ x : XIns l (k, v), (True ∧ (True ∧ True ∧ True ∧ ((Value.bool false) = (Value.bool (x.put))) ∧ ((Value.int IntKind.i64 0) = (Value.int IntKind.i64 ((↑x.i : Int)))) ∧ True) ∧ ((l) = (l)) ∧ (((Value.int IntKind.i64 (k)) = (Value.int IntKind.i64 (k))) ∧ ((Value.int IntKind.i64 (v)) = (Value.int IntKind.i64 (v))) ∧ True) ∧ ([] = (x.acc)) ∧ True)) ∧
(∀ x : XIns l (k, v), (True → (brS (decide ((↑x.i : Int) < (↑l.length : Int))) ((brS (!x.put) (((0 ≤ (↑x.i : Int)) ∧ ((↑x.i : Int) < (↑l.length : Int)) ∧ (brS (decide ((eA l x.i).fst ≥ k)) ((((x.acc.length + [(k, v)].length) * bytesOf C0 EC.ent ≤ 140737488355328) ∧ (0 ≤ (↑x.i : Int)) ∧ ((↑x.i : Int) < (↑l.length : Int)) ∧ (brS ((eA l x.i).fst != k) (((0 ≤ (↑x.i : Int)) ∧ ((↑x.i : Int) < (↑l.length : Int)) ∧ (((x.acc ++ [(k, v)]).length + [((eA l x.i).fst, (eA l x.i).snd)].length) * bytesOf C0 EC.ent ≤ 140737488355328) ∧ (∃ x' : XIns l (k, v), (True ∧ ((True ∧ True ∧ True ∧ ((Value.bool true) = (Value.bool (x'.put))) ∧ ((Value.int IntKind.i64 (IntKind.i64.wrap ((↑x.i : Int) + 1))) = (Value.int IntKind.i64 ((↑x'.i : Int)))) ∧ True) ∧ ((l) = (l)) ∧ (((Value.int IntKind.i64 (k)) = (Value.int IntKind.i64 (k))) ∧ ((Value.int IntKind.i64 (v)) = (Value.int IntKind.i64 (v))) ∧ True) ∧ ((x.acc ++ [(k, v)] ++ [((eA l x.i).fst, (eA l x.i).snd)]) = (x'.acc)) ∧ True) ∧ (l.length - x'.i < l.length - x.i))))) ((∃ x' : XIns l (k, v), (True ∧ ((True ∧ True ∧ True ∧ ((Value.bool true) = (Value.bool (x'.put))) ∧
    ((Value.int IntKind.i64 (IntKind.i64.wrap ((↑x.i : Int) + 1))) = (Value.int IntKind.i64 ((↑x'.i : Int)))) ∧ True) ∧ ((l) = (l)) ∧ (((Value.int IntKind.i64 (k)) = (Value.int IntKind.i64 (k))) ∧ ((Value.int IntKind.i64 (v)) = (Value.int IntKind.i64 (v))) ∧ True) ∧ ((x.acc ++ [(k, v)]) = (x'.acc)) ∧ True) ∧ (l.length - x'.i < l.length - x.i))))))) (((0 ≤ (↑x.i : Int)) ∧ ((↑x.i : Int) < (↑l.length : Int)) ∧ (brS ((eA l x.i).fst != k) (((0 ≤ (↑x.i : Int)) ∧ ((↑x.i : Int) < (↑l.length : Int)) ∧ ((x.acc.length + [((eA l x.i).fst, (eA l x.i).snd)].length) * bytesOf C0 EC.ent ≤ 140737488355328) ∧ (∃ x' : XIns l (k, v), (True ∧ ((True ∧ True ∧ True ∧ ((Value.bool (x.put)) = (Value.bool (x'.put))) ∧ ((Value.int IntKind.i64 (IntKind.i64.wrap ((↑x.i : Int) + 1))) = (Value.int IntKind.i64 ((↑x'.i : Int)))) ∧ True) ∧ ((l) = (l)) ∧ (((Value.int IntKind.i64 (k)) = (Value.int IntKind.i64 (k))) ∧ ((Value.int IntKind.i64 (v)) = (Value.int IntKind.i64 (v))) ∧ True) ∧ ((x.acc ++ [((eA l x.i).fst, (eA l x.i).snd)]) = (x'.acc)) ∧ True) ∧ (l.length - x'.i < l.length - x.i))))) ((∃ x' : XIns l (k, v), (True ∧ ((True ∧ True ∧ True ∧ ((Value.bool (x.put)) = (Value.bool (x'.put))) ∧ ((Value.int IntKind.i64 (IntKind.i64.wrap ((↑x.i : Int) + 1))) = (Value.int IntKind.i64 ((↑x'.i : Int)))) ∧ True) ∧ ((l) = (l)) ∧ (((Value.int IntKind.i64 (k)) = (Value.int IntKind.i64 (k))) ∧ ((Value.int IntKind.i64 (v)) = (Value.int IntKind.i64 (v))) ∧ True) ∧ ((x.acc) = (x'.acc)) ∧ True) ∧
    (l.length - x'.i < l.length - x.i)))))))))) (((0 ≤ (↑x.i : Int)) ∧ ((↑x.i : Int) < (↑l.length : Int)) ∧ (brS ((eA l x.i).fst != k) (((0 ≤ (↑x.i : Int)) ∧ ((↑x.i : Int) < (↑l.length : Int)) ∧ ((x.acc.length + [((eA l x.i).fst, (eA l x.i).snd)].length) * bytesOf C0 EC.ent ≤ 140737488355328) ∧ (∃ x' : XIns l (k, v), (True ∧ ((True ∧ True ∧ True ∧ ((Value.bool (x.put)) = (Value.bool (x'.put))) ∧ ((Value.int IntKind.i64 (IntKind.i64.wrap ((↑x.i : Int) + 1))) = (Value.int IntKind.i64 ((↑x'.i : Int)))) ∧ True) ∧ ((l) = (l)) ∧ (((Value.int IntKind.i64 (k)) = (Value.int IntKind.i64 (k))) ∧ ((Value.int IntKind.i64 (v)) = (Value.int IntKind.i64 (v))) ∧ True) ∧ ((x.acc ++ [((eA l x.i).fst, (eA l x.i).snd)]) = (x'.acc)) ∧ True) ∧ (l.length - x'.i < l.length - x.i))))) ((∃ x' : XIns l (k, v), (True ∧ ((True ∧ True ∧ True ∧ ((Value.bool (x.put)) = (Value.bool (x'.put))) ∧ ((Value.int IntKind.i64 (IntKind.i64.wrap ((↑x.i : Int) + 1))) = (Value.int IntKind.i64 ((↑x'.i : Int)))) ∧ True) ∧ ((l) = (l)) ∧ (((Value.int IntKind.i64 (k)) = (Value.int IntKind.i64 (k))) ∧ ((Value.int IntKind.i64 (v)) = (Value.int IntKind.i64 (v))) ∧ True) ∧ ((x.acc) = (x'.acc)) ∧ True) ∧ (l.length - x'.i < l.length - x.i))))))))) ((brS (!x.put) ((((x.acc.length + [(k, v)].length) * bytesOf C0 EC.ent ≤ 140737488355328) ∧ (K (SV.one (TV.at (At.slc 1))) [(Chunk.row false (EC.ent) (l)), (Chunk.row true (EC.ent) (x.acc ++ [(k, v)]))] [])))
    ((K (SV.one (TV.at (At.slc 1))) [(Chunk.row false (EC.ent) (l)), (Chunk.row true (EC.ent) (x.acc))] [])))))))) = _ by kernel_rfl) ?_
  refine ⟨⟨⟨0, [], false, Nat.zero_le _, by simp, by simp⟩, by simp⟩, fun x _ => brS_of (fun hi => ?_) fun hi => ?_⟩
  · have hi : x.i < l.length := by simpa using hi
    have hx := eA_get hi
    have hlen := x.h.2.1
    have hpt : x.put.toNat ≤ 1 := by cases x.put <;> decide
    have w1 : IntKind.i64.wrap ((x.i : Int) + 1) = ((x.i + 1 : Nat) : Int) := by rw [wrap_in (by omega) (by omega)]; simp
    simp only [w1, bytes_ent]
    have go : ∀ (put' : Bool) (acc' : List Ent), put' = (x.put || decide (k ≤ (eA l x.i).1)) → acc' = x.acc ++ ((if !x.put && decide (k ≤ (eA l x.i).1) then [(k, v)] else []) ++ (if (eA l x.i).1 = k then [] else [eA l x.i])) →
        ∃ z' : XIns l (k, v), z'.i = x.i + 1 ∧ z'.put = put' ∧ z'.acc = acc' := fun put' acc' hp ha => x.next hx hp ha
    refine brS_of (fun hp => ⟨by omega, by omega, brS_of (fun hc => ⟨?_, by omega, by omega, brS_of (fun hn => ⟨by omega, by omega, ?_, ?_⟩) fun hn => ?_⟩) fun hc => ⟨by omega, by omega, brS_of (fun hn => ⟨by omega, by omega, ?_, ?_⟩) fun hn => ?_⟩⟩) fun hp => ⟨by omega, by omega, brS_of (fun hn => ⟨by omega, by omega, ?_, ?_⟩) fun hn => ?_⟩
    all_goals try simp only [decide_eq_true_eq, decide_eq_false_iff_not, bne_iff_ne, ne_eq, Bool.not_eq_true', Bool.not_eq_false', bne_eq_false_iff_eq, ge_iff_le] at *
    all_goals first
      | (simp; omega)
      | (obtain ⟨z', e1, e2, e3⟩ := go _ _ rfl rfl
         refine ⟨z', ?_⟩
         simp [*]
         omega)
  · have hi : x.i = l.length := by have := x.h.1; simp at hi; omega
    have hf := x.fin hi
    have hlen := x.h.2.1
    have hpt : x.put.toNat ≤ 1 := by cases x.put <;> decide
    refine brS_of (fun hp => ⟨?_, ?_⟩) fun hp => ?_
    · simp [bytes_ent]; omega
    · simp at hp; rw [hp] at hf; simp at hf; rw [hf] at h; exact h
    · simp at hp; rw [hp] at hf; simp at hf; rw [hf] at h; exact h
theorem s_ins:SoundT C0 18 tIns:=by
 refine .of Tryz.func18 (by decide) rfl fun args H K h hB=>?_
 unfold tIns at h
 split at h<;>try exact h.elim
 rename_i k v l
 exact⟨aIns l (k,v),trivial,vc_ins l k v K h.1 h.2⟩
def tMod:Tfm C0:=fun args H K=>match args,H with
 | [.at (.val (.int .i64 k)),.at (.val (.int .i64 n))],[]=>0<n/\n<=9223372036854775807/\∀ x,x=k % n->K (.one (.at (vI x))) [] []
 | _,_=>False
theorem s_mod:SoundT C0 8 tMod:=by
 refine .of Tryz.func8 (by decide) rfl fun args H K h hB=>⟨A0,trivial,?_⟩
 unfold tMod at h
 split at h<;>try exact h.elim
 rename_i k n
 obtain⟨h0,h1,h⟩:=h
 have h:=h _ rfl
 refine Eq.mp (show (n≠0/\brS (decide (k.tmod n<0)) (K (.one (.at (.val (VI (IntKind.i64.wrap (k.tmod n+n)))))) [] []) (K (.one (.at (.val (VI (k.tmod n))))) [] []))=_ by kernel_rfl) ⟨by omega,brS_of (fun e=>?_) fun e=>?_⟩
 all_goals simp only[decide_eq_true_eq,decide_eq_false_iff_not] at e
 ·have e1:k.tmod n+n=k % n:=by
   rw[Int.tmod_eq_emod] at e ⊢
   split at e<;>rename_i hc
   ·have:=Int.emod_nonneg k (show n≠0 by omega);omega
   ·rw[if_neg hc]
    have:(n.natAbs:Int)=n:=by omega
    omega
  have h2:=Int.emod_nonneg k (show n≠0 by omega)
  have h3:=Int.emod_lt_of_pos k h0
  rw[e1,wrap_in (by omega) (by omega)];exact h
 ·have e1:k.tmod n=k % n:=by
   rw[Int.tmod_eq_emod] at e ⊢
   split at e<;>rename_i hc
   ·rw[if_pos hc];omega
   ·have h3:=Int.emod_lt_of_pos k h0
    have:(n.natAbs:Int)=n:=by omega
    omega
  rw[e1];exact h
end Go.Proofs.YtedfbafngmicpaaGreat.Sx
end
section
/- Planting trees: the statements' helpers. -/
namespace Go.Proofs.YtedfbafngmicpaaGreat.Sx
open Go

/-KEEP Wf Kept makeS relA nxt decS NodeR exW inU live Arn.cap Arn.free balN PlantR maxSize mkNode-/
def tLeast:Tfm C0:=fun args H K=>match args,H with
 | [.at (.val (.int .i64 n))],[]=>0<=n/\n<=1000000/\∀ x,x=n / 4->K (.one (.at (vI x))) [] []
 | _,_=>False
def balB (l r:Int):Bool:=decide (balN l r)
def tBal:Tfm C0:=fun args H K=>match args,H with
 | [.at (.val (.int .i64 l)),.at (.val (.int .i64 r))],[]=>0<=l/\l<=1000000/\0<=r/\r<=1000000/\∀ b,b=balB l r->K (.one (.at (vB b))) [] []
 | _,_=>False
structure XPv (n:Int) where
 lo:Int
 h:0<=lo/\lo<n/\balN lo (n-1-lo)
noncomputable def aPivot (n:Int):Ann C0:={ Γ:=[(119,frameT [] tLeast),(120,frameT [] tBal)],inv:=fun k=>match k with
 | 2=>some { X:=XPv n,sl:=[5],tf:=fun x=>[vi .i64 x.lo],hf:=fun _=>[],μ:=fun x=>x.lo.toNat }
 | 4=>some { X:=XPv n,sl:=[5],tf:=fun x=>[vi .i64 x.lo],hf:=fun _=>[],μ:=fun x=>(n-x.lo).toNat }
 | _=>none }
def tPivot:Tfm C0:=fun args H K=>match args,H with
 | [.at (.val (.int .i64 n)),.at (.val (.int .u64 t))],[]=>1<=n/\n<=100000/\0<=t/\∀ p,0<=p->p<n->balN p (n-1-p)->K (.one (.at (vI p))) [] []
 | _,_=>False
def tPlant (n:Nat):Tfm C0:=fun args H K=>match args with
 | [.at (.ptr 0 0),.at (.slc 7),.at (.val (.int .u64 t))]=>arMr H fun S rest=>match rest with
  | [.row false .ent l]=>∃ hs,Wf S hs/\l.length<n/\l.length<=100000/\(l.length:Int)<=S.free/\hs.length+l.length<=900000000/\0<=t/\∀ S' i,PlantR S hs l S' i->K (.tup [.at (vU i),.at (vB true)]) (chS S'++[.row false EC.ent l]) W7
  | _=>False
 | _=>False
noncomputable def aPlant (n:Nat):Ann C0:={ Γ:=[(85,frameT [] tPivot),(40,frameT [] (tPlant n)),(32,frameT [] tMakeOk),(26,frameT [] tGive)] }
theorem vc_least (n:Int)(K:KT)(h1:0<=n)(h2:n<=1000000)(h:∀ x,x=n / 4->K (.one (.at (vI x))) [] []):vc C0 A0 Tryz.f119 [.at (vI n)] [] (normK 0 K):=by
 refine Eq.mp (show (K (.one (.at (.val (VI (IntKind.i64.wrap ((if n>0 then n else 0).tdiv 4)))))) [] [])=_ by kernel_rfl) ?_
 have e:(if n>0 then n else 0)=n:=by split<;>omega
 rw[e,Int.tdiv_eq_ediv_of_nonneg h1,wrap_id (by omega) (by omega)]
 exact h _ rfl
theorem s_least:SoundT C0 119 tLeast:=by
 refine .of Tryz.func119 (by decide) rfl fun args H K h hB=>?_
 unfold tLeast at h
 split at h<;>try exact h.elim
 rename_i n
 exact⟨A0,trivial,vc_least n K h.1 h.2.1 h.2.2⟩
theorem vc_bal (l r:Int)(K:KT)(h1:0<=l)(h2:l<=1000000)(h3:0<=r)(h4:r<=1000000)(h:∀ b,b=balB l r->K (.one (.at (vB b))) [] []):vc C0 A0 Tryz.f120 [.at (vI l),.at (vI r)] [] (normK 0 K):=by
 refine Eq.mp (show (brS (decide (l<0)) (K (.one (.at (.val (Value.bool false)))) [] []) (brS (decide (l>2147483647)) (K (.one (.at (.val (Value.bool false)))) [] []) (brS (decide (r<0)) (K (.one (.at (.val (Value.bool false)))) [] []) (brS (decide (r>2147483647)) (K (.one (.at (.val (Value.bool false)))) [] []) (brS (decide (IntKind.i64.wrap (l+1)<=IntKind.i64.wrap (3*IntKind.i64.wrap (r+1)))) (K (.one (.at (.val (Value.bool (decide (IntKind.i64.wrap (r+1)<=IntKind.i64.wrap (3*IntKind.i64.wrap (l+1)))))))) [] []) (K (.one (.at (.val (Value.bool false)))) [] []))))))=_ by kernel_rfl) ?_
 rw[wrap_id (x:=l+1) (by omega) (by omega),wrap_id (x:=r+1) (by omega) (by omega),wrap_id (x:=3*(l+1)) (by omega) (by omega),wrap_id (x:=3*(r+1)) (by omega) (by omega)]
 refine brS_of (fun c=>?_) fun _=>brS_of (fun c=>?_) fun _=>brS_of (fun c=>?_) fun _=>brS_of (fun c=>?_) fun _=>brS_of (fun c=>?_) fun c=>?_
 ·have:=of_decide_eq_true c;omega
 ·have:l>2147483647:=of_decide_eq_true c;omega
 ·have:=of_decide_eq_true c;omega
 ·have:r>2147483647:=of_decide_eq_true c;omega
 ·have c:l+1<=3*(r+1):=of_decide_eq_true c
  exact h _ (by unfold balB balN;simp[c])
 ·have c:¬ l+1<=3*(r+1):=of_decide_eq_false c
  exact h _ (by unfold balB balN;simp[c])
theorem s_bal:SoundT C0 120 tBal:=by
 refine .of Tryz.func120 (by decide) rfl fun args H K h hB=>?_
 unfold tBal at h
 split at h<;>try exact h.elim
 rename_i l r
 exact⟨A0,trivial,vc_bal l r K h.1 h.2.1 h.2.2.1 h.2.2.2.1 h.2.2.2.2⟩
theorem vc_pivot (n t:Int)(K:KT)(h1:1<=n)(h2:n<=100000)(h3:0<=t)(h:∀ p,0<=p->p<n->balN p (n-1-p)->K (.one (.at (vI p))) [] []) :
  vc C0 (aPivot n) Tryz.f85 [.at (vI n),.at (vU64 t)] [] (normK 0 K):=by
 refine Eq.mp (show (0<=n/\n<=1000000/\∀ x:Int,x=(n / 4)->(∃ x1:XPv n,True/\(VI (n)=VI (n)/\VW (t)=VW (t)/\VI (x)=VI (x1.lo)/\True)/\True)/\∀ x1:XPv n,True->brS (decide (x1.lo>0)) (0<=IntKind.i64.wrap (x1.lo-1)/\IntKind.i64.wrap (x1.lo-1)<=1000000/\0<=IntKind.i64.wrap (n-x1.lo)/\IntKind.i64.wrap (n-x1.lo)<=1000000/\∀ b:Bool,b=(balB (IntKind.i64.wrap (x1.lo-1)) (IntKind.i64.wrap (n-x1.lo)))->brS (b) (∃ x':XPv n,True/\((VI (n)=VI (n)/\VW (t)=VW (t)/\(VI (IntKind.i64.wrap (x1.lo-1)))=(VI (x'.lo))/\True)/\True)/\x'.lo.toNat<x1.lo.toNat) ((∃ x2:XPv n,True/\(VI (n)=VI (n)/\VW (t)=VW (t)/\VI (x1.lo)=VI (x2.lo)/\True)/\True)/\∀ x2:XPv n,True->brS (decide (x2.lo<IntKind.i64.wrap (n-1))) (0<=x2.lo/\x2.lo<=1000000/\0<=IntKind.i64.wrap (IntKind.i64.wrap (n-1)-x2.lo)/\IntKind.i64.wrap (IntKind.i64.wrap (n-1)-x2.lo)<=1000000/\∀ b1:Bool,b1=(balB x2.lo (IntKind.i64.wrap (IntKind.i64.wrap (n-1)-x2.lo)))->brS (!b1) (∃ x':XPv n,True/\((VI (n)=VI (n)/\VW (t)=VW (t)/\(VI (IntKind.i64.wrap (x2.lo+1)))=(VI (x'.lo))/\True)/\True)/\(n-x'.lo).toNat<(n-x2.lo).toNat) (brS (decide (IntKind.i64.wrap (IntKind.i64.wrap (n-1)-x2.lo)<x2.lo)) (K (.one (.at (.val (VI (IntKind.i64.wrap (n.tdiv 2)))))) [] []) (IntKind.u64.wrap (IntKind.i64.wrap (IntKind.i64.wrap (IntKind.i64.wrap (IntKind.i64.wrap (n-1)-x2.lo)-x2.lo)+1))≠0/\K (.one (.at (.val (VI (IntKind.i64.wrap (x2.lo+IntKind.i64.wrap (t.tmod (IntKind.u64.wrap (IntKind.i64.wrap (IntKind.i64.wrap (IntKind.i64.wrap (IntKind.i64.wrap (n-1)-x2.lo)-x2.lo)+1)))))))))) [] []))) (brS (decide (IntKind.i64.wrap (IntKind.i64.wrap (n-1)-x2.lo)<x2.lo)) (K (.one (.at (.val (VI (IntKind.i64.wrap (n.tdiv 2)))))) [] []) (IntKind.u64.wrap (IntKind.i64.wrap (IntKind.i64.wrap (IntKind.i64.wrap (IntKind.i64.wrap (n-1)-x2.lo)-x2.lo)+1))≠0/\
 K (.one (.at (.val (VI (IntKind.i64.wrap (x2.lo+IntKind.i64.wrap (t.tmod (IntKind.u64.wrap (IntKind.i64.wrap (IntKind.i64.wrap (IntKind.i64.wrap (IntKind.i64.wrap (n-1)-x2.lo)-x2.lo)+1)))))))))) [] [])))) ((∃ x2:XPv n,True/\(VI (n)=VI (n)/\VW (t)=VW (t)/\VI (x1.lo)=VI (x2.lo)/\True)/\True)/\∀ x2:XPv n,True->brS (decide (x2.lo<IntKind.i64.wrap (n-1))) (0<=x2.lo/\x2.lo<=1000000/\0<=IntKind.i64.wrap (IntKind.i64.wrap (n-1)-x2.lo)/\IntKind.i64.wrap (IntKind.i64.wrap (n-1)-x2.lo)<=1000000/\∀ b:Bool,b=(balB x2.lo (IntKind.i64.wrap (IntKind.i64.wrap (n-1)-x2.lo)))->brS (!b) (∃ x':XPv n,True/\((VI (n)=VI (n)/\VW (t)=VW (t)/\(VI (IntKind.i64.wrap (x2.lo+1)))=(VI (x'.lo))/\True)/\True)/\(n-x'.lo).toNat<(n-x2.lo).toNat) (brS (decide (IntKind.i64.wrap (IntKind.i64.wrap (n-1)-x2.lo)<x2.lo)) (K (.one (.at (.val (VI (IntKind.i64.wrap (n.tdiv 2)))))) [] []) (IntKind.u64.wrap (IntKind.i64.wrap (IntKind.i64.wrap (IntKind.i64.wrap (IntKind.i64.wrap (n-1)-x2.lo)-x2.lo)+1))≠0/\K (.one (.at (.val (VI (IntKind.i64.wrap (x2.lo+IntKind.i64.wrap (t.tmod (IntKind.u64.wrap (IntKind.i64.wrap (IntKind.i64.wrap (IntKind.i64.wrap (IntKind.i64.wrap (n-1)-x2.lo)-x2.lo)+1)))))))))) [] []))) (brS (decide (IntKind.i64.wrap (IntKind.i64.wrap (n-1)-x2.lo)<x2.lo)) (K (.one (.at (.val (VI (IntKind.i64.wrap (n.tdiv 2)))))) [] []) (IntKind.u64.wrap (IntKind.i64.wrap (IntKind.i64.wrap (IntKind.i64.wrap (IntKind.i64.wrap (n-1)-x2.lo)-x2.lo)+1))≠0/\K (.one (.at (.val (VI (IntKind.i64.wrap (x2.lo+IntKind.i64.wrap (t.tmod (IntKind.u64.wrap (IntKind.i64.wrap (IntKind.i64.wrap (IntKind.i64.wrap (IntKind.i64.wrap (n-1)-x2.lo)-x2.lo)+1)))))))))) [] []))))=_ by kernel_rfl) ?_
 refine⟨by omega,by omega,fun x hx=>⟨⟨⟨x,by omega,by omega,⟨by omega,by omega⟩⟩,trivial,⟨rfl,rfl,rfl,trivial⟩,trivial⟩,fun x1 _=>?_⟩⟩
 obtain⟨k1,k2,k3,k4⟩:=x1.h
 rw[wrap_id (x:=x1.lo-1) (by omega) (by omega),wrap_id (x:=n-x1.lo) (by omega) (by omega)]
 refine brS_of (fun c=>?_) fun c=>?_
 ·have c:x1.lo>0:=of_decide_eq_true c
  refine⟨by omega,by omega,by omega,by omega,fun b hb=>brS_of (fun d=>?_) fun d=>?_⟩
  ·rw[d] at hb
   have hb:balN (x1.lo-1) (n-x1.lo):=of_decide_eq_true hb.symm
   refine⟨⟨x1.lo-1,by omega,by omega,by rw[show n-1-(x1.lo-1)=n-x1.lo by omega];exact hb⟩,trivial,⟨⟨rfl,rfl,rfl,trivial⟩,trivial⟩,?_⟩
   show (x1.lo-1).toNat<x1.lo.toNat
   omega
  ·skip
   refine⟨⟨x1,trivial,⟨rfl,rfl,rfl,trivial⟩,trivial⟩,fun x2 _=>?_⟩
   obtain⟨l1,l2,l3,l4⟩:=x2.h
   rw[wrap_id (x:=n-1) (by omega) (by omega),wrap_id (x:=n-1-x2.lo) (by omega) (by omega)]
   refine brS_of (fun e=>⟨l1,by omega,by omega,by omega,fun b1 hb1=>brS_of (fun f=>?_) fun f=>?_⟩) fun e=>?_
   ·have e:b1=true:=by rw[hb1];exact decide_eq_true ⟨l3,l4⟩
    rw[e] at f;cases f
   ·skip
    rw[wrap_id (x:=n-1-x2.lo-x2.lo) (by omega) (by omega),wrap_id (x:=n-1-x2.lo-x2.lo+1) (by omega) (by omega)]
    refine brS_of (fun g=>?_) fun g=>?_
    ·have g:n-1-x2.lo<x2.lo:=of_decide_eq_true g
     rw[Int.tdiv_eq_ediv_of_nonneg (by omega),wrap_id (by omega) (by omega)]
     exact h _ (by omega) (by omega) ⟨by omega,by omega⟩
    ·have g:¬ n-1-x2.lo<x2.lo:=of_decide_eq_false g
     have hm:=Int.emod_nonneg t (show n-1-x2.lo-x2.lo+1≠0 by omega)
     have hm2:=Int.emod_lt_of_pos t (show 0<n-1-x2.lo-x2.lo+1 by omega)
     rw[wrap_u64 (by omega) (by omega),Int.tmod_eq_emod_of_nonneg h3,wrap_id (x:=t % _) (by omega) (by omega),wrap_id (by omega) (by omega)]
     exact⟨by omega,h _ (by omega) (by omega) ⟨by omega,by omega⟩⟩
   ·skip
    rw[wrap_id (x:=n-1-x2.lo-x2.lo) (by omega) (by omega),wrap_id (x:=n-1-x2.lo-x2.lo+1) (by omega) (by omega)]
    refine brS_of (fun g=>?_) fun g=>?_
    ·have g:n-1-x2.lo<x2.lo:=of_decide_eq_true g
     rw[Int.tdiv_eq_ediv_of_nonneg (by omega),wrap_id (by omega) (by omega)]
     exact h _ (by omega) (by omega) ⟨by omega,by omega⟩
    ·have g:¬ n-1-x2.lo<x2.lo:=of_decide_eq_false g
     have hm:=Int.emod_nonneg t (show n-1-x2.lo-x2.lo+1≠0 by omega)
     have hm2:=Int.emod_lt_of_pos t (show 0<n-1-x2.lo-x2.lo+1 by omega)
     rw[wrap_u64 (by omega) (by omega),Int.tmod_eq_emod_of_nonneg h3,wrap_id (x:=t % _) (by omega) (by omega),wrap_id (by omega) (by omega)]
     exact⟨by omega,h _ (by omega) (by omega) ⟨by omega,by omega⟩⟩
 ·skip
  refine⟨⟨x1,trivial,⟨rfl,rfl,rfl,trivial⟩,trivial⟩,fun x2 _=>?_⟩
  obtain⟨l1,l2,l3,l4⟩:=x2.h
  rw[wrap_id (x:=n-1) (by omega) (by omega),wrap_id (x:=n-1-x2.lo) (by omega) (by omega)]
  refine brS_of (fun e=>⟨l1,by omega,by omega,by omega,fun b1 hb1=>brS_of (fun f=>?_) fun f=>?_⟩) fun e=>?_
  ·have e:b1=true:=by rw[hb1];exact decide_eq_true ⟨l3,l4⟩
   rw[e] at f;cases f
  ·skip
   rw[wrap_id (x:=n-1-x2.lo-x2.lo) (by omega) (by omega),wrap_id (x:=n-1-x2.lo-x2.lo+1) (by omega) (by omega)]
   refine brS_of (fun g=>?_) fun g=>?_
   ·have g:n-1-x2.lo<x2.lo:=of_decide_eq_true g
    rw[Int.tdiv_eq_ediv_of_nonneg (by omega),wrap_id (by omega) (by omega)]
    exact h _ (by omega) (by omega) ⟨by omega,by omega⟩
   ·have g:¬ n-1-x2.lo<x2.lo:=of_decide_eq_false g
    have hm:=Int.emod_nonneg t (show n-1-x2.lo-x2.lo+1≠0 by omega)
    have hm2:=Int.emod_lt_of_pos t (show 0<n-1-x2.lo-x2.lo+1 by omega)
    rw[wrap_u64 (by omega) (by omega),Int.tmod_eq_emod_of_nonneg h3,wrap_id (x:=t % _) (by omega) (by omega),wrap_id (by omega) (by omega)]
    exact⟨by omega,h _ (by omega) (by omega) ⟨by omega,by omega⟩⟩
  ·skip
   rw[wrap_id (x:=n-1-x2.lo-x2.lo) (by omega) (by omega),wrap_id (x:=n-1-x2.lo-x2.lo+1) (by omega) (by omega)]
   refine brS_of (fun g=>?_) fun g=>?_
   ·have g:n-1-x2.lo<x2.lo:=of_decide_eq_true g
    rw[Int.tdiv_eq_ediv_of_nonneg (by omega),wrap_id (by omega) (by omega)]
    exact h _ (by omega) (by omega) ⟨by omega,by omega⟩
   ·have g:¬ n-1-x2.lo<x2.lo:=of_decide_eq_false g
    have hm:=Int.emod_nonneg t (show n-1-x2.lo-x2.lo+1≠0 by omega)
    have hm2:=Int.emod_lt_of_pos t (show 0<n-1-x2.lo-x2.lo+1 by omega)
    rw[wrap_u64 (by omega) (by omega),Int.tmod_eq_emod_of_nonneg h3,wrap_id (x:=t % _) (by omega) (by omega),wrap_id (by omega) (by omega)]
    exact⟨by omega,h _ (by omega) (by omega) ⟨by omega,by omega⟩⟩
theorem s_pivot:SoundT C0 85 tPivot:=by
 refine .of Tryz.func85 (by decide) rfl fun args H K h hB=>?_
 unfold tPivot at h
 split at h<;>try exact h.elim
 rename_i n t
 exact⟨aPivot n,⟨frame C0.ok s_least _,frame C0.ok s_bal _,trivial⟩,vc_pivot n t K h.1 h.2.1 h.2.2.1 h.2.2.2⟩
theorem wrap_u64_nonneg (x:Int):0<=IntKind.u64.wrap x:=by
 unfold IntKind.wrap
 simp[IntKind.signed,IntKind.bits]
 omega
theorem split_at {l:List Ent}{p:Nat}(hp:p<l.length):l.take p++l.getD p (0,0)::l.drop (p+1)=l:=by
 have h:l[p]?=some (l.getD p (0,0)):=by simp[List.getD_eq_getElem?_getD,List.getElem?_eq_getElem hp]
 rw[← drop_cons h,List.take_append_drop]
theorem vc_plant (n:Nat)(S:Arn)(l:List Ent)(t:Int)(K:KT)(hs:List Int)(hw:Wf S hs)(h1:l.length<n+1)(h2:l.length<=100000)(h3:(l.length:Int)<=S.free)(h4:hs.length+l.length<=900000000)(h5:0<=t)(h:∀ S' i,PlantR S hs l S' i->K (.tup [.at (vU i),.at (vB true)]) (chS S'++[.row false EC.ent l]) W7) :
  vc C0 (aPlant n) Tryz.f40 [.at (.ptr 0 0),.at (.slc 7),.at (vU64 t)] (chS S++[.row false EC.ent l]) (normK 8 (wideK W7 K)):=by
 refine Eq.mp (show (brS ((l.length:Int)==0) (K (.tup [(.at (.val (VU 0))),(.at (.val (Value.bool true)))]) [(.box [(.ptr 1 0),(.slc 2),(.slc 3),(.val (VW (S.reads)))]),(.box [(.slc 4),(.slc 5),(.slc 6),(.val (VU (S.fresh)))]),(.row true EC.node (S.nodes)),(.row true EC.int (S.counts)),(.row true EC.bool (S.used)),(.row true EC.u32 (S.gen)),(.row true EC.u32 (S.rel)),(.row false EC.ent (l))] [0,1,2,3,4,5,6]) (1<=(l.length:Int)/\(l.length:Int)<=100000/\0<=t/\∀ p:Int,0<=p->p<(l.length:Int)->balN p ((l.length:Int)-1-p)->(0:Int)<=0/\0<=p/\p<=(l.length:Int)/\∃ hs:List Int,Wf S hs/\(List.drop (Int.toNat 0) (List.take p.toNat l)).length<n/\(List.drop (Int.toNat 0) (List.take p.toNat l)).length<=100000/\(↑(List.drop (Int.toNat 0) (List.take p.toNat l)).length:Int)<=S.free/\hs.length+(List.drop (Int.toNat 0) (List.take p.toNat l)).length<=900000000/\0<=IntKind.u64.wrap (IntKind.u64.wrap (t.tdiv 5)+IntKind.u64.wrap (t*3))/\∀ S':Arn,∀ i:Int,PlantR S hs (List.drop (Int.toNat 0) (List.take p.toNat l)) S' i->0<=IntKind.i64.wrap (p+1)/\IntKind.i64.wrap (p+1)<=(l.length:Int)/\(l.length:Int)<=(l.length:Int)/\∃ hs1:List Int,Wf S' hs1/\(List.drop (IntKind.i64.wrap (p+1)).toNat (List.take (l.length:Int).toNat l)).length<n/\(List.drop (IntKind.i64.wrap (p+1)).toNat (List.take (l.length:Int).toNat l)).length<=100000/\(↑(List.drop (IntKind.i64.wrap (p+1)).toNat (List.take (l.length:Int).toNat l)).length:Int)<=S'.free/\hs1.length+(List.drop (IntKind.i64.wrap (p+1)).toNat (List.take (l.length:Int).toNat l)).length<=900000000/\
 0<=IntKind.u64.wrap (IntKind.u64.wrap (IntKind.u64.wrap (t.tdiv 7)+IntKind.u64.wrap (t*5))+1)/\∀ S'1:Arn,∀ i1:Int,PlantR S' hs1 (List.drop (IntKind.i64.wrap (p+1)).toNat (List.take (l.length:Int).toNat l)) S'1 i1->0<=p/\p<(l.length:Int)/\0<=p/\p<(l.length:Int)/\exW S'1/\live S'1 i/\live S'1 i1/\(mkNode S'1 (l.getD p.toNat (0,0)).fst (l.getD p.toNat (0,0)).snd i i1).size<=maxSize/\0<S'1.free/\∀ S'2:Arn,∀ i2:Int,S'2=(makeS S'1 (l.getD p.toNat (0,0)).fst (l.getD p.toNat (0,0)).snd i i1)->i2=nxt S'1->∃ hs2:List Int,Wf S'2 (i::hs2)/\(S'2.us i=true->1<=S'2.indeg i)/\∀ S'3:Arn,S'3=relA S'2 i->∃ hs3:List Int,Wf S'3 (i1::hs3)/\(S'3.us i1=true->1<=S'3.indeg i1)/\∀ S'4:Arn,S'4=relA S'3 i1->K (.tup [(.at (.val (VU (i2)))),(.at (.val (Value.bool (i2 != 0))))]) [(.box [(.ptr 1 0),(.slc 2),(.slc 3),(.val (VW (S'4.reads)))]),(.box [(.slc 4),(.slc 5),(.slc 6),(.val (VU (S'4.fresh)))]),(.row true EC.node (S'4.nodes)),(.row true EC.int (S'4.counts)),(.row true EC.bool (S'4.used)),(.row true EC.u32 (S'4.gen)),(.row true EC.u32 (S'4.rel)),(.row false EC.ent (l))] [0,1,2,3,4,5,6]))=_ by kernel_rfl) ?_
 refine brS_of (fun c=>?_) fun c=>⟨?_,by omega,h5,fun p p0 p1 hb=>?_⟩
 ·have e:l=[]:=List.length_eq_zero_iff.1 (by simpa using c)
  have hr:PlantR S hs l S 0:=by rw[e];exact PlantR.nil hw (by omega)
  exact h S 0 hr
 ·have c:¬ (l.length:Int)=0:=by simpa using c
  omega
 ·have hp:p.toNat<l.length:=by omega
  have ea:List.drop (Int.toNat 0) (List.take p.toNat l)=l.take p.toNat:=rfl
  rw[wrap_id (x:=p+1) (by omega) (by omega),ea,show (l.length:Int).toNat=l.length by omega,List.take_length,show (p+1).toNat=p.toNat+1 by omega]
  have la:(l.take p.toNat).length=p.toNat:=by simp;omega
  have lb:(l.drop (p.toNat+1)).length=l.length-(p.toNat+1):=by simp
  have hf:=hw.free_nonneg
  refine⟨by decide,p0,by omega,hs,hw,by omega,by omega,by omega,by omega,wrap_u64_nonneg _,fun S1 il r1=>?_⟩
  have hf1:=r1.wf.free_nonneg
  have n1:=r1.nu
  have c1:S1.cap=S.cap:=by unfold Arn.cap;rw[r1.len]
  refine⟨by omega,by omega,by omega,il::hs,r1.wf,by omega,by omega,by omega,by simp;omega,wrap_u64_nonneg _,fun S2 ir r2=>?_⟩
  have hf2:=r2.wf.free_nonneg
  have n2:=r2.nu
  have c2:S2.cap=S1.cap:=by unfold Arn.cap;rw[r2.len]
  have hw2:Wf S2 (il::ir::hs):=r2.wf.perm (List.Perm.swap _ _ _)
  have hfr:0<S2.free:=by omega
  obtain⟨tl,q1,q2,_⟩:=r1.rep
  obtain⟨tr,q3,q4,_⟩:=r2.rep
  have q1':Rep S2 tl il:=q1.held r1.wf r2.stay (.inr (by simp))
  have s1:tl.size=p.toNat:=by rw[← tl.list_len,q2,la]
  have s2:tr.size=l.length-(p.toNat+1):=by rw[← tr.list_len,q4,lb]
  have hz:∀ k v,(mkNode S2 k v il ir).size<=maxSize:=fun k v=>by rw[mk_size hw2 q1' q3];unfold maxSize;omega
  refine⟨p0,p1,p0,p1,⟨_,hw2⟩,hw2.held il (by simp),hw2.held ir (by simp),hz _ _,hfr,fun S3 i e1 e2=>?_⟩
  obtain⟨t1,t2,t3,t4⟩:=node_two (k:=(l.getD p.toNat (0,0)).1) (v:=(l.getD p.toNat (0,0)).2) hw2 hfr (hz _ _) (by omega)
  subst e1
  refine⟨_,t1,t2,fun S4 e3=>?_⟩
  subst e3
  refine⟨_,t3,t4,fun S5 e4=>?_⟩
  have hx:=(hw2.nxt_spec hfr).1
  have hi0:(i != 0)=true:=by rw[e2];simp;omega
  rw[hi0]
  refine h S5 i ?_
  have hr:PlantR S hs (l.take p.toNat++l.getD p.toNat (0,0)::l.drop (p.toNat+1)) S5 i:=r1.node r2 (by rw[la,lb];have e:((l.length-(p.toNat+1):Nat):Int)=(l.length:Int)-1-p:=(by omega);rw[e,show (p.toNat:Int)=p by omega];exact hb) fun tl' tr' x1 x2=>by
   rw[e4,e2];exact node_ok hw2 hfr (hz _ _) (by omega) x1 x2
  rw[split_at hp] at hr
  exact hr
theorem s_plant:∀ n,SoundT C0 40 (tPlant n):=by
 intro n
 induction n with
 | zero =>
  refine .of Tryz.func40 (by decide) rfl fun args H K h hB=>?_
  exfalso
  unfold tPlant at h
  split at h<;>try exact h.elim
  unfold arMr at h
  split at h<;>try exact h.elim
  split at h<;>try exact h.elim
  obtain⟨_,_,h1,_⟩:=h
  omega
 | succ n ih =>
  refine .ofW W7 Tryz.func40 (by decide) rfl fun args H K h hB=>?_
  unfold tPlant at h
  split at h<;>try exact h.elim
  unfold arMr at h
  split at h<;>try exact h.elim
  split at h<;>try exact h.elim
  rename_i t _ rd fr nd ct us gn rl _ l
  obtain⟨hs,h1,h2,h3,h4,h5,h6,h7⟩:=h
  exact⟨aPlant n,⟨frame C0.ok s_pivot _,frame C0.ok ih _,frame C0.ok s_makeOk _,frame C0.ok s_give _,trivial⟩,vc_plant n ⟨us,gn,rl,fr,nd,ct,rd⟩ l t K hs h1 h2 h3 h4 h5 h6 h7⟩
def tPlantA:Tfm C0:=fun args H K=>match args with
 | [.at (.ptr 0 0),.at (.slc 7),.at (.val (.int .u64 t))]=>arMr H fun S rest=>match rest with
  | [.row false .ent l]=>∃ hs,Wf S hs/\l.length<=100000/\(l.length:Int)<=S.free/\hs.length+l.length<=900000000/\0<=t/\∀ S' i,PlantR S hs l S' i->K (.tup [.at (vU i),.at (vB true)]) (chS S'++[.row false EC.ent l]) W7
  | _=>False
 | _=>False
theorem s_plantA:SoundT C0 40 tPlantA:=(s_plant 100001).weak fun args H K h=>by
 unfold tPlantA at h
 unfold tPlant
 split at h<;>try exact h.elim
 unfold arMr at h ⊢
 split at h<;>try exact h.elim
 split at h<;>try exact h.elim
 obtain⟨hs,h1,h2,h3,h4,h5,h6⟩:=h
 exact⟨hs,h1,by omega,h2,h3,h4,h5,h6⟩
end Go.Proofs.YtedfbafngmicpaaGreat.Sx
end
section
/- Ranks and positions in a tree. No program in sight. -/
namespace Go.Proofs.YtedfbafngmicpaaGreat
open Go

end Go.Proofs.YtedfbafngmicpaaGreat
end
section
/- Listing a tree gives what the reference gives. No program in sight. -/
namespace Go.Proofs.YtedfbafngmicpaaGreat
open Go

theorem node_asc {l r:Tr}{k v:Int}(h:Asc (Tr.node l k v r).list):Asc l.list/\Asc r.list/\(∀ x∈l.list,x.1<k)/\(∀ x∈r.list,k<x.1) :=
 ⟨Srt.left h,(Srt.right h).tail,fun x hx=>(List.pairwise_append.1 h).2.2 x hx (k,v) (by simp),fun x hx=>(Srt.right h).head x hx⟩
end Go.Proofs.YtedfbafngmicpaaGreat
end
section
/- Build, Grow, and the example of the chapter on bulk operations. -/
namespace Go.Proofs.YtedfbafngmicpaaGreat.Sx
open Go

/-KEEP Wf exW inU live Arn.cap Arn.free Rep rdS Tr.size BuildR PlantR rangeR newS ascB-/
abbrev chSk (k:Nat)(S:Arn):List (Chunk C0):=[.box [.ptr (k+1) 0,.slc (k+2),.slc (k+3),vU64 S.reads],.box [.slc (k+4),.slc (k+5),.slc (k+6),vU S.fresh],.row true EC.node S.nodes,.row true EC.int S.counts,.row true EC.bool S.used,.row true EC.u32 S.gen,.row true EC.u32 S.rel]
noncomputable def aGrow:Ann C0:={ Γ:=[(28,frameT [] tNew),(40,frameT [] tPlantA)] }
def tGrow:Tfm C0:=fun args H K=>match args,H with
 | [.at (.slc 0),.at (.val (.int .u64 t)),.at (.val (.int .i64 sp))],[.row false .ent l]=>0<=t/\1<=sp/\sp<=30000/\l.length<=30000/\∀ S' i,PlantR (newS ((l.length:Int)+sp).toNat) [] l S' i->K (.tup [.at (.ptr 1 0),.at (vU i),.at (vB true)]) ([.row false EC.ent l]++chSk 1 S') []
 | _,_=>False
theorem new_free {c:Nat}(_:1<=c)(_:c<=65536):(newS c).free=c:=by
 unfold Arn.free Arn.cap newS;simp
theorem vc_grow (l:List Ent)(t sp:Int)(K:KT)(h1:0<=t)(h2:1<=sp)(h3:sp<=30000)(h4:l.length<=30000)(h:∀ S' i,PlantR (newS ((l.length:Int)+sp).toNat) [] l S' i->K (.tup [.at (.ptr 1 0),.at (vU i),.at (vB true)]) ([.row false EC.ent l]++chSk 1 S') []) :
  vc C0 aGrow Tryz.f9 [.at (.slc 0),.at (vU64 t),.at (vI sp)] [.row false EC.ent l] (normK 1 K):=by
 refine Eq.mp (show ((IntKind.i64.wrap ((l.length:Int)+sp)<1∨65536<IntKind.i64.wrap ((l.length:Int)+sp)->K (.tup [(.at (.val (Value.pointer none))),(.at (.val (VU 0))),(.at (.val (Value.bool false)))]) [(.row false EC.ent (l))] [])/\(1<=IntKind.i64.wrap ((l.length:Int)+sp)->IntKind.i64.wrap ((l.length:Int)+sp)<=65536->∀ S:Arn,S=(newS (IntKind.i64.wrap ((l.length:Int)+sp)).toNat)->∃ hs:List Int,Wf S hs/\l.length<=100000/\(l.length:Int)<=S.free/\hs.length+l.length<=900000000/\0<=t/\∀ S':Arn,∀ i:Int,PlantR S hs l S' i->K (.tup [(.at (.ptr 1 0)),(.at (.val (VU (i)))),(.at (.val (Value.bool true)))]) [(.row false EC.ent (l)),(.box [(.ptr 2 0),(.slc 3),(.slc 4),(.val (VW (S'.reads)))]),(.box [(.slc 5),(.slc 6),(.slc 7),(.val (VU (S'.fresh)))]),(.row true EC.node (S'.nodes)),(.row true EC.int (S'.counts)),(.row true EC.bool (S'.used)),(.row true EC.u32 (S'.gen)),(.row true EC.u32 (S'.rel))] []))=_ by kernel_rfl) ?_
 rw[wrap_id (x:=(l.length:Int)+sp) (by omega) (by omega)]
 refine⟨fun c=>by omega,fun _ _ S hS=>?_⟩
 subst hS
 refine⟨[],Wf.new (by omega) (by omega),by omega,?_,by simp;omega,h1,h⟩
 rw[new_free (by omega) (by omega)];omega
theorem s_grow:SoundT C0 9 tGrow:=by
 refine .of Tryz.func9 (by decide) rfl fun args H K h hB=>?_
 unfold tGrow at h
 split at h<;>try exact h.elim
 rename_i t sp l
 obtain⟨h1,h2,h3,h4,h5⟩:=h
 exact⟨aGrow,⟨frame C0.ok s_new _,frame C0.ok s_plantA _,trivial⟩,vc_grow l t sp K h1 h2 h3 h4 h5⟩
end Go.Proofs.YtedfbafngmicpaaGreat.Sx
end
section
/- Numbering the nodes of a graph below some roots: depth first, children first. No program in sight. -/
namespace Go.Proofs.YtedfbafngmicpaaGreat
open Go

section
variable {us:Int->Bool} {lf rg:Int->Int}
inductive NumG (us:Int->Bool) (lf rg:Int->Int):Int->List Int->List Int->Prop where
 | skip {i:Int} {acc:List Int}:(us i=false∨i∈acc)->NumG us lf rg i acc acc
 | go {i:Int} {acc a1 a2:List Int}:us i=true->i∉acc->NumG us lf rg (lf i) acc a1->NumG us lf rg (rg i) a1 a2->NumG us lf rg i acc (a2++[i])
inductive NumsG (us:Int->Bool) (lf rg:Int->Int):List Int->List Int->List Int->Prop where
 | nil {acc:List Int}:NumsG us lf rg [] acc acc
 | cons {i:Int} {r acc a1 a2:List Int}:NumG us lf rg i acc a1->NumsG us lf rg r a1 a2->NumsG us lf rg (i::r) acc a2
def RepG (us:Int->Bool)(lf rg:Int->Int):Nat->Int->Prop
 | 0,i=>us i=false
 | n+1,i=>us i=false∨(RepG us lf rg n (lf i)/\RepG us lf rg n (rg i))
theorem RepG.mono {n m:Nat}(h:n<=m):∀ {i:Int},RepG us lf rg n i->RepG us lf rg m i:=by
 induction n generalizing m with
 | zero =>
  intro i hi
  cases m with
  | zero=>exact hi
  | succ m=>exact .inl hi
 | succ n ih =>
  intro i hi
  cases m with
  | zero=>omega
  | succ m=>exact hi.imp id fun q=>⟨ih (by omega) q.1,ih (by omega) q.2⟩
theorem NumG.det {i:Int}{acc a b:List Int}(h:NumG us lf rg i acc a)(h':NumG us lf rg i acc b):a=b:=by
 induction h generalizing b with
 | skip q =>
  cases h' with
  | skip _=>rfl
  | go u n _ _=>exact (q.elim (fun e=>by rw[e] at u;cases u) (fun e=>absurd e n))
 | go u n _ _ ih1 ih2 =>
  cases h' with
  | skip q=>exact (q.elim (fun e=>by rw[e] at u;cases u) (fun e=>absurd e n))
  | go _ _ k1 k2 =>
   obtain rfl:=ih1 k1
   obtain rfl:=ih2 k2
   rfl
theorem NumsG.det {r acc a b:List Int}(h:NumsG us lf rg r acc a)(h':NumsG us lf rg r acc b):a=b:=by
 induction h generalizing b with
 | nil=>cases h';rfl
 | cons h1 _ ih =>
  cases h' with
  | cons k1 k2 =>
   obtain rfl:=h1.det k1
   exact ih k2
theorem NumG.ex {n:Nat}:∀ {i:Int} (acc:List Int),RepG us lf rg n i->∃ a,NumG us lf rg i acc a:=by
 induction n with
 | zero=>intro i acc h;exact⟨acc,.skip (.inl h)⟩
 | succ n ih =>
  intro i acc h
  rcases h with h|⟨h1,h2⟩
  ·exact⟨acc,.skip (.inl h)⟩
  ·cases u:us i with
   | false=>exact⟨acc,.skip (.inl u)⟩
   | true =>
    by_cases m:i∈acc
    ·exact⟨acc,.skip (.inr m)⟩
    ·obtain⟨a1,k1⟩:=ih acc h1
     obtain⟨a2,k2⟩:=ih a1 h2
     exact⟨a2++[i],.go u m k1 k2⟩
theorem NumsG.ex:∀ (r:List Int) (acc:List Int),(∀ i∈r,∃ n,RepG us lf rg n i)->∃ a,NumsG us lf rg r acc a
 | [],acc,_=>⟨acc,.nil⟩
 | i::r,acc,h=>by
  obtain⟨n,hn⟩:=h i (List.mem_cons_self ..)
  obtain⟨a1,h1⟩:=NumG.ex acc hn
  obtain⟨a2,h2⟩:=NumsG.ex r a1 fun j hj=>h j (List.mem_cons_of_mem _ hj)
  exact⟨a2,.cons h1 h2⟩
theorem NumsG.app {r s acc a b:List Int}(h:NumsG us lf rg r acc a)(h':NumsG us lf rg s a b):NumsG us lf rg (r++s) acc b:=by
 induction h with
 | nil=>exact h'
 | cons h1 _ ih=>exact .cons h1 (ih h')
theorem NumsG.one {i:Int}{acc a:List Int}(h:NumG us lf rg i acc a):NumsG us lf rg [i] acc a:=.cons h .nil
theorem NumG.pre {i:Int}{acc a:List Int}(h:NumG us lf rg i acc a):∃ x,a=acc++x:=by
 induction h with
 | skip _=>exact⟨[],by simp⟩
 | @go i _ _ _ _ _ _ _ ih1 ih2 =>
  obtain⟨x,rfl⟩:=ih1
  obtain⟨y,rfl⟩:=ih2
  exact⟨x++y++[i],by simp⟩
theorem NumsG.pre {r acc a:List Int}(h:NumsG us lf rg r acc a):∃ x,a=acc++x:=by
 induction h with
 | nil=>exact⟨[],by simp⟩
 | cons h1 _ ih =>
  obtain⟨x,rfl⟩:=h1.pre
  obtain⟨y,rfl⟩:=ih
  exact⟨x++y,by simp⟩
theorem NumG.sub {i:Int}{acc a:List Int}(h:NumG us lf rg i acc a){j:Int}(hj:j∈acc):j∈a:=by
 obtain⟨x,rfl⟩:=h.pre;exact List.mem_append.2 (.inl hj)
theorem NumsG.sub {r acc a:List Int}(h:NumsG us lf rg r acc a){j:Int}(hj:j∈acc):j∈a:=by
 obtain⟨x,rfl⟩:=h.pre;exact List.mem_append.2 (.inl hj)
theorem NumG.self {i:Int}{acc a:List Int}(h:NumG us lf rg i acc a)(u:us i=true):i∈a:=by
 cases h with
 | skip q=>exact q.elim (fun e=>by rw[e] at u;cases u) id
 | go _ _ _ _=>simp
theorem NumsG.roots {r acc a:List Int}(h:NumsG us lf rg r acc a):∀ i∈r,us i=true->i∈a:=by
 induction h with
 | nil=>intro i hi;cases hi
 | cons h1 h2 ih =>
  intro j hj u
  rcases List.mem_cons.1 hj with rfl|hj
  ·exact h2.sub (h1.self u)
  ·exact ih j hj u
variable {sz:Int->Nat}
theorem NumG.small (hz:∀ i,us i=true->sz (lf i)<sz i/\sz (rg i)<sz i){i:Int}{acc a:List Int}(h:NumG us lf rg i acc a):∀ j∈a,j∈acc∨(us j=true/\sz j<=sz i):=by
 induction h with
 | skip _=>exact fun j hj=>.inl hj
 | go u n _ _ ih1 ih2 =>
  have z:=hz _ u
  intro j hj
  rcases List.mem_append.1 hj with hj|hj
  ·rcases ih2 j hj with q|⟨q1,q2⟩
   ·rcases ih1 j q with q|⟨q1,q2⟩
    ·exact .inl q
    ·exact .inr ⟨q1,by omega⟩
   ·exact .inr ⟨q1,by omega⟩
  ·rw[List.mem_singleton.1 hj];exact .inr ⟨u,Nat.le_refl _⟩
theorem NumG.fresh (hz:∀ i,us i=true->sz (lf i)<sz i/\sz (rg i)<sz i){i:Int}{acc a1 a2:List Int}(u:us i=true)(n:i∉acc)(h1:NumG us lf rg (lf i) acc a1)(h2:NumG us lf rg (rg i) a1 a2):i∉a2:=fun hi=>by
 have z:=hz i u
 rcases h2.small hz i hi with q|⟨_,q⟩
 ·rcases h1.small hz i q with q|⟨_,q⟩
  ·exact n q
  ·omega
 ·omega
theorem NumG.nodup (hz:∀ i,us i=true->sz (lf i)<sz i/\sz (rg i)<sz i){i:Int}{acc a:List Int}(h:NumG us lf rg i acc a)(d:acc.Nodup):a.Nodup:=by
 induction h with
 | skip _=>exact d
 | go u n h1 h2 ih1 ih2 =>
  have f:=NumG.fresh hz u n h1 h2
  refine List.nodup_append.2 ⟨ih2 (ih1 d),by simp,fun a ha b hb e=>?_⟩
  rw[List.mem_singleton.1 hb] at e
  exact f (e ▸ ha)
theorem NumsG.nodup (hz:∀ i,us i=true->sz (lf i)<sz i/\sz (rg i)<sz i){r acc a:List Int}(h:NumsG us lf rg r acc a)(d:acc.Nodup):a.Nodup:=by
 induction h with
 | nil=>exact d
 | cons h1 _ ih=>exact ih (h1.nodup hz d)
theorem NumG.used {i:Int}{acc a:List Int}(h:NumG us lf rg i acc a)(d:∀ j∈acc,us j=true):∀ j∈a,us j=true:=by
 induction h with
 | skip _=>exact d
 | go u _ _ _ ih1 ih2 =>
  intro j hj
  rcases List.mem_append.1 hj with hj|hj
  ·exact ih2 (ih1 d) j hj
  ·rw[List.mem_singleton.1 hj];exact u
theorem NumsG.used {r acc a:List Int}(h:NumsG us lf rg r acc a)(d:∀ j∈acc,us j=true):∀ j∈a,us j=true:=by
 induction h with
 | nil=>exact d
 | cons h1 _ ih=>exact ih (h1.used d)
def OrdG (us:Int->Bool)(lf rg:Int->Int)(a:List Int):Prop:=∀ (k:Nat) (j:Int),a[k]?=some j->us j=true/\(us (lf j)=true->lf j∈a.take k)/\(us (rg j)=true->rg j∈a.take k)
theorem OrdG.nil:OrdG us lf rg []:=fun k j h=>by simp at h
theorem OrdG.snoc {a:List Int}(h:OrdG us lf rg a){i:Int}(u:us i=true)(h1:us (lf i)=true->lf i∈a)(h2:us (rg i)=true->rg i∈a):OrdG us lf rg (a++[i]):=by
 intro k j hk
 rcases Nat.lt_or_ge k a.length with q|q
 ·rw[List.getElem?_append_left q] at hk
  obtain⟨e1,e2,e3⟩:=h k j hk
  rw[List.take_append_of_le_length (by omega)]
  exact⟨e1,e2,e3⟩
 ·rw[List.getElem?_append_right q] at hk
  have hz:k-a.length=0:=by
   rcases Nat.eq_zero_or_pos (k-a.length) with z|z
   ·exact z
   ·rw[List.getElem?_eq_none (by simp;omega)] at hk;cases hk
  rw[hz] at hk
  have:i=j:=by simpa using hk
  subst this
  rw[show k=a.length by omega,List.take_left' rfl]
  exact⟨u,h1,h2⟩
theorem NumG.ord {i:Int}{acc a:List Int}(h:NumG us lf rg i acc a)(d:OrdG us lf rg acc):OrdG us lf rg a:=by
 induction h with
 | skip _=>exact d
 | go u _ h1 h2 ih1 ih2=>exact (ih2 (ih1 d)).snoc u (fun e=>h2.sub (h1.self e)) fun e=>h2.self e
theorem NumsG.ord {r acc a:List Int}(h:NumsG us lf rg r acc a)(d:OrdG us lf rg acc):OrdG us lf rg a:=by
 induction h with
 | nil=>exact d
 | cons h1 _ ih=>exact ih (h1.ord d)
theorem NumG.reach {P:Int->Prop}(hp:∀ i,P i->us i=true->P (lf i)/\P (rg i)){i:Int}{acc a:List Int}(h:NumG us lf rg i acc a)(pi:P i)(d:∀ j∈acc,P j):∀ j∈a,P j:=by
 induction h with
 | skip _=>exact d
 | go u _ _ _ ih1 ih2 =>
  have q:=hp _ pi u
  intro j hj
  rcases List.mem_append.1 hj with hj|hj
  ·exact ih2 q.2 (ih1 q.1 d) j hj
  ·rw[List.mem_singleton.1 hj];exact pi
theorem NumsG.reach {P:Int->Prop}(hp:∀ i,P i->us i=true->P (lf i)/\P (rg i)){r acc a:List Int}(h:NumsG us lf rg r acc a)(pr:∀ i∈r,P i)(d:∀ j∈acc,P j):∀ j∈a,P j:=by
 induction h with
 | nil=>exact d
 | cons h1 _ ih=>exact ih (fun i hi=>pr i (List.mem_cons_of_mem _ hi)) (h1.reach hp (pr _ (List.mem_cons_self ..)) d)
theorem NumG.congr {us':Int->Bool}{lf' rg':Int->Int}(h1:∀ i,us' i=us i)(h2:∀ i,us i=true->lf' i=lf i)(h3:∀ i,us i=true->rg' i=rg i){i:Int}{acc a:List Int}(h:NumG us lf rg i acc a):NumG us' lf' rg' i acc a:=by
 induction h with
 | skip q=>exact .skip (q.imp (fun e=>(h1 _).trans e) id)
 | go u n _ _ ih1 ih2=>exact .go ((h1 _).trans u) n (by rw[h2 _ u];exact ih1) (by rw[h3 _ u];exact ih2)
theorem NumsG.congr {us':Int->Bool}{lf' rg':Int->Int}(h1:∀ i,us' i=us i)(h2:∀ i,us i=true->lf' i=lf i)(h3:∀ i,us i=true->rg' i=rg i){r acc a:List Int}(h:NumsG us lf rg r acc a):NumsG us' lf' rg' r acc a:=by
 induction h with
 | nil=>exact .nil
 | cons k _ ih=>exact .cons (k.congr h1 h2 h3) ih
end

def plcN:List Int->Int->Int
 | [],_=>0
 | x::l,j=>if x=j then 1 else if plcN l j=0 then 0 else plcN l j+1
theorem plcN_rng:∀ (l:List Int) (j:Int),0<=plcN l j/\plcN l j<=l.length
 | [],_=>⟨Int.le_refl _,Int.le_refl _⟩
 | x::l,j=>by
  have:=plcN_rng l j
  unfold plcN
  rw[List.length_cons]
  split
  ·omega
  ·split<;>omega
theorem plcN_mem:∀ {l:List Int} {j:Int},0<plcN l j↔j∈l
 | [],j=>by simp[plcN]
 | x::l,j=>by
  have ih:=plcN_mem (l:=l) (j:=j)
  have r:=plcN_rng l j
  unfold plcN
  rw[List.mem_cons]
  split
  ·rename_i e;exact⟨fun _=>.inl e.symm,fun _=>by decide⟩
  ·rename_i e
   split
   ·rename_i z
    constructor
    ·intro h;omega
    ·rintro (h|h)
     ·exact absurd h.symm e
     ·have:=ih.2 h;omega
   ·rename_i z
    exact⟨fun _=>.inr (ih.1 (by omega)),fun _=>by omega⟩
theorem plcN_none {l:List Int}{j:Int}(h:j∉l):plcN l j=0:=by
 have a:=plcN_rng l j
 have b:¬ 0<plcN l j:=fun q=>h (plcN_mem.1 q)
 omega
theorem plcN_snoc:∀ (l:List Int) (i j:Int),i∉l->plcN (l++[i]) j=if i=j then (l.length:Int)+1 else plcN l j
 | [],i,j,_=>by
  show (if i=j then 1 else if (0:Int)=0 then 0 else 0+1)=if i=j then 0+1 else 0
  split<;>simp
 | x::l,i,j,h=>by
  have ih:=plcN_snoc l i j (fun q=>h (List.mem_cons_of_mem _ q))
  have nx:x≠i:=fun e=>h (by rw[e];exact List.mem_cons_self ..)
  show (if x=j then 1 else if plcN (l++[i]) j=0 then 0 else plcN (l++[i]) j+1)=if i=j then ((x::l).length:Int)+1 else if x=j then 1 else if plcN l j=0 then 0 else plcN l j+1
  rw[ih]
  by_cases e:i=j
  ·rw[if_pos e,if_pos e,if_neg (fun q=>nx (q.trans e.symm)),if_neg (by omega),List.length_cons];omega
  ·rw[if_neg e,if_neg e]
theorem plcN_at:∀ {l:List Int} {k:Nat} {j:Int},l.Nodup->l[k]?=some j->plcN l j=(k:Int)+1
 | [],k,j,_,h=>by simp at h
 | x::l,0,j,_,h=>by
  have:x=j:=by simpa using h
  unfold plcN;rw[if_pos this];rfl
 | x::l,k+1,j,d,h=>by
  have h':l[k]?=some j:=by simpa using h
  have m:j∈l:=List.mem_of_getElem? h'
  obtain⟨d1,d2⟩:=List.nodup_cons.1 d
  have ih:=plcN_at d2 h'
  unfold plcN
  rw[if_neg (fun e:x=j=>d1 (e ▸ m)),ih,if_neg (by omega)]
  omega
theorem plcN_get {l:List Int}{j:Int}(h:j∈l):l[(plcN l j-1).toNat]?=some j/\1<=plcN l j:=by
 induction l with
 | nil=>cases h
 | cons x l ih =>
  unfold plcN
  by_cases e:x=j
  ·rw[if_pos e];subst e;exact⟨rfl,Int.le_refl _⟩
  ·rw[if_neg e]
   have m:j∈l:=(List.mem_cons.1 h).resolve_left (fun q=>e q.symm)
   obtain⟨i1,i2⟩:=ih m
   rw[if_neg (by omega),show (plcN l j+1-1).toNat=(plcN l j-1).toNat+1 by omega]
   exact⟨by simpa using i1,by omega⟩
end Go.Proofs.YtedfbafngmicpaaGreat
end
section
/- Numbering in an arena: sizes, existence, how many. -/
namespace Go.Proofs.YtedfbafngmicpaaGreat
open Go

def lfA (S:Arn)(i:Int):Int:=(S.nd i).left
def rgA (S:Arn)(i:Int):Int:=(S.nd i).right
abbrev NumA (S:Arn):=NumG S.us (lfA S) (rgA S)
abbrev NumsA (S:Arn):=NumsG S.us (lfA S) (rgA S)
variable {S:Arn} {hs:List Int}
theorem sz_kids (h:Wf S hs):∀ i,S.us i=true->(S.nd (lfA S i)).size.toNat<(S.nd i).size.toNat/\(S.nd (rgA S i)).size.toNat<(S.nd i).size.toNat:=fun i u=>by
 have z:=h.siz i u
 have a:=h.size_nonneg (S.nd i).left
 have b:=h.size_nonneg (S.nd i).right
 unfold lfA rgA
 omega
theorem repG_wf (h:Wf S hs):∀ (n:Nat) (i:Int),(S.nd i).size.toNat<=n->RepG S.us (lfA S) (rgA S) n i
 | 0,i,z=>by
  cases u:S.us i with
  | false=>exact u
  | true=>have:=(h.siz i u).1;omega
 | n+1,i,z=>by
  cases u:S.us i with
  | false=>exact .inl u
  | true =>
   have k:=sz_kids h i u
   exact .inr ⟨repG_wf h n _ (by omega),repG_wf h n _ (by omega)⟩
theorem numA_ex (h:Wf S hs)(i:Int)(acc:List Int):∃ a,NumA S i acc a:=NumG.ex acc (repG_wf h _ i (Nat.le_refl _))
theorem numsA_ex (h:Wf S hs)(r:List Int)(acc:List Int):∃ a,NumsA S r acc a:=NumsG.ex r acc fun i _=>⟨_,repG_wf h _ i (Nat.le_refl _)⟩
def szA (S:Arn)(i:Int):Nat:=(S.nd i).size.toNat
theorem szA_kids (h:Wf S hs):∀ i,S.us i=true->szA S (lfA S i)<szA S i/\szA S (rgA S i)<szA S i:=sz_kids h
theorem len_nd {α:Type}[DecidableEq α]:∀ (a b:List α),a.Nodup->(∀ x∈a,x∈b)->a.length<=b.length
 | [],_,_,_=>Nat.zero_le _
 | x::a,b,hn,hs=>by
  obtain⟨h1,h2⟩:=List.pairwise_cons.1 hn
  have hx:=hs x (by simp)
  have:=len_nd a (b.erase x) h2 fun y hy=>(List.mem_erase_of_ne (Ne.symm (h1 y hy))).2 (hs y (by simp[hy]))
  rw[List.length_erase_of_mem hx] at this
  have:0<b.length:=List.length_pos_of_mem hx
  simp;omega
theorem used_few (h:Wf S hs){l:List Int}(d:l.Nodup)(u:∀ j∈l,S.us j=true):l.length+1<=S.used.length:=by
 have q:=len_nd l ((List.range (S.used.length-1)).map fun (n:Nat)=>(n:Int)+1) d fun x hx=>by
  have p:=h.pos (u x hx)
  exact List.mem_map.2 ⟨(x-1).toNat,List.mem_range.2 (by omega),by omega⟩
 have:=h.n1
 rw[List.length_map,List.length_range] at q
 omega
end Go.Proofs.YtedfbafngmicpaaGreat
end
