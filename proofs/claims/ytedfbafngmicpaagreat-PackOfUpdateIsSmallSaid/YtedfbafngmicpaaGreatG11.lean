/- A part of the proof. -/
import Derived.Test.YtedfbafngmicpaaGreatG10
import Derived.Test.YtedfbafngmicpaaGreatG6
import Derived.Test.YtedfbafngmicpaaGreatG5
import Derived.Test.YtedfbafngmicpaaGreatProg
import Derived.Test.YtedfbafngmicpaaGreatChecked
import Derived.WalkKit
import Derived.ProofKit
import Derived.OpenShut
import Derived.SizedLaws
import Derived.Carry
import Derived.Test.YtedfbafngmicpaaGreatG4
import Derived.Deep.Slices
import Derived.Lib.SmallJoins
import Derived.Deep.Strs
import Derived.Test.YtedfbafngmicpaaGreatRows
section
/- The reference's reading: Uvarint, Key, Unzigzag, Next. -/
namespace Go.Proofs.YtedfbafngmicpaaGreat.Sx
open Go

/-KEEP allB uvD kyD nxD vE wB wD uz crc getB jnA-/
noncomputable def aUrR (P:Nat->Int->Prop)(b:List Int):Ann C0:={ quiet:=[9999999],Γ:=[],inv:=fun n=>match n with
 | 5=>some { X:=XUd P,sl:=[7,8,9],tf:=fun x=>[vi .u64 x.u,vi .u64 (128 ^ x.i),vi .i64 x.i],hf:=fun _=>[.row false EC.u8 b],μ:=fun x=>10-x.i }
 | _=>none }
noncomputable def aKrR (P:Nat->Int->Prop)(b:List Int):Ann C0:={ quiet:=[9999999],Γ:=[],inv:=fun n=>match n with
 | 7=>some { X:=XKd P,sl:=[7,8],tf:=fun x=>[vi .u64 x.u,vi .i64 x.i],hf:=fun _=>[.row false EC.u8 b],μ:=fun x=>8-x.i }
 | _=>none }
structure XNr8 (P:Nat->Int->Int->Int->Int->Prop) where
 i:Nat
 c:Int
 u:Int
 n:Int
 to:Int
 h:P i c u n to
noncomputable def aNr (P0:Int->Int->Prop)(P:Nat->Int->Int->Int->Int->Prop)(b:List Int):Ann C0:={ quiet:=[9999999,99],Γ:=[(99,frameT [] tUd),(83,frameT [] tCk),(70,frameT [] tJnR)],inv:=fun n=>match n with
 | 1004=>some { X:=XNx P0,sl:=[7,8],tf:=fun x=>[vi .u64 x.u,vi .i64 x.n],hf:=fun _=>[.row false EC.u8 b] }
 | 11=>some { X:=XNr8 P,sl:=[8,10,11,12],tf:=fun x=>[vi .i64 x.n,vi .i64 x.to,vi .u32 x.c,vi .i64 x.i],hf:=fun _=>[.row false EC.u8 b],μ:=fun x=>4-x.i }
 | _=>none }
theorem getB_dr (b:List Int)(k i:Nat):getB (b.drop k) i=getB b (k+i):=by
 show (b.drop k).getD i 0=b.getD (k+i) 0
 rw[List.getD_eq_getElem?_getD,List.getD_eq_getElem?_getD,List.getElem?_drop]
theorem PUd.go2 {r:List Int}{i:Nat}{u:Int}(h:PUd' r i u)(hr:allB r):∃ v,IntKind.u64.wrap (u+IntKind.u64.wrap (128 ^ i*IntKind.u64.wrap ((getB r i).tmod 128)))=v ∧
  (getB r i<128->vD 12 13 0 r 0=(v,(i:Int)+1,0))/\(¬ getB r i<128->PUd r (i+1) v):=by
 obtain⟨⟨i9,u0,u1,e⟩,hi,hc⟩:=h
 obtain⟨c0,c1⟩:=hr _ (getB_mem hi)
 have pp:(1:Int)<=128 ^ i:=Int.pow_pos (by decide)
 have q9:(128:Int) ^ i*2<=18446744073709551616/\(i<=8->(128:Int) ^ i*256<=18446744073709551616):=by
  have:i=0∨i=1∨i=2∨i=3∨i=4∨i=5∨i=6∨i=7∨i=8∨i=9:=by omega
  rcases this with e|e|e|e|e|e|e|e|e|e<;>subst e<;>decide +kernel
 have hw:getB r i % 128*128 ^ i+u<18446744073709551616:=by
  by_cases i8:i<=8
  ·have:=Int.mul_le_mul_of_nonneg_right (a:=getB r i % 128) (b:=127) (c:=128 ^ i) (by omega) (by omega)
   have:=q9.2 i8
   omega
  ·obtain rfl:i=9:=by omega
   have c2:¬ 1<getB r 9:=fun q=>hc (.inl ⟨rfl,q⟩)
   have:=Int.mul_le_mul_of_nonneg_right (a:=getB r 9 % 128) (b:=1) (c:=128 ^ 9) (by omega) (by omega)
   have:=q9.1
   omega
 have w0:0<=getB r i % 128*128 ^ i:=Int.mul_nonneg (by omega) (by omega)
 have ev:vD 12 13 0 r 0=if getB r i<128 then (u+getB r i % 128*128 ^ i,(i:Int)+1,0) else vD 12 13 (i+1) (r.drop (i+1)) (u+getB r i % 128*128 ^ i):=by
  rw[← e,drop_getB hi]
  conv=>lhs;unfold vD
  rw[if_neg hc]
 have w1:(getB r i).tmod 128=getB r i % 128:=Int.tmod_eq_emod_of_nonneg c0
 rw[w1,wrap_u64 (x:=getB r i % 128) (by omega) (by omega),Int.mul_comm (128 ^ i),wrap_u64 w0 (by omega),wrap_u64 (x:=u+getB r i % 128*128 ^ i) (by omega) (by omega)]
 refine⟨_,rfl,fun z=>by rw[ev,if_pos z],fun z=>⟨?_,by omega,?_,by rw[ev,if_neg z]⟩⟩
 ·apply Classical.byContradiction
  intro n
  obtain rfl:i=9:=by omega
  exact hc (.inl ⟨rfl,by omega⟩)
 ·rw[Int.pow_succ]
  have:=Int.mul_le_mul_of_nonneg_right (a:=getB r i % 128) (b:=127) (c:=128 ^ i) (by omega) (by omega)
  omega
def PUr (r:List Int):Nat->Int->Prop:=fun i u=>PUd r i u/\i<=r.length
theorem vc_ur (b:List Int)(at_:Int)(K:KT)(hb:allB b)(hl:b.length<=1000000000000)(h:∀ u n e,uvD b at_=(u,n,e)->K (.tup [.at (vU64 u),.at (vI n),.at (vI e)]) [.row false EC.u8 b] []) :
  vc C0 (aUrR (PUr (b.drop at_.toNat)) b) Tryz.f99 [.at (.slc 0),.at (.val (.int .i64 at_))] [.row false EC.u8 b] (normK 1 K):=by
 generalize hP:PUr (b.drop at_.toNat)=P
 refine Eq.mp (show (brS (decide (at_<0)) (K (.tup [(.at (.val (VW 0))),(.at (.val (VI 0))),(.at (.val (VI 1)))]) [(.row false EC.u8 (b))] []) (brS (decide (at_>(b.length:Int))) (K (.tup [(.at (.val (VW 0))),(.at (.val (VI 0))),(.at (.val (VI 1)))]) [(.row false EC.u8 (b))] []) ((∃ x:XUd P,True/\(True/\VI (at_)=VI (at_)/\VW 0=(VW (x.u))/\VW 1=(VW (128 ^ x.i))/\VI 0=(VI (x.i:Int))/\True)/\b=b/\True)/\∀ x:XUd P,True->brS (decide ((x.i:Int)<10)) (brS (IntKind.i64.wrap (at_+(x.i:Int))==(b.length:Int)) (K (.tup [(.at (.val (VW 0))),(.at (.val (VI 0))),(.at (.val (VI 12)))]) [(.row false EC.u8 (b))] []) (0<=IntKind.i64.wrap (at_+(x.i:Int))/\IntKind.i64.wrap (at_+(x.i:Int))<(b.length:Int)/\brS ((x.i:Int)==9) (brS (decide (getB b (IntKind.i64.wrap (at_+(x.i:Int))).toNat>1)) (K (.tup [(.at (.val (VW 0))),(.at (.val (VI 0))),(.at (.val (VI 13)))]) [(.row false EC.u8 (b))] []) (brS (decide (getB b (IntKind.i64.wrap (at_+(x.i:Int))).toNat<128)) (brS (decide ((x.i:Int)>0)) (brS (getB b (IntKind.i64.wrap (at_+(x.i:Int))).toNat==0) (K (.tup [(.at (.val (VW 0))),(.at (.val (VI 0))),(.at (.val (VI 13)))]) [(.row false EC.u8 (b))] []) (K (.tup [(.at (.val (VW (IntKind.u64.wrap (x.u+IntKind.u64.wrap (128 ^ x.i*IntKind.u64.wrap ((getB b (IntKind.i64.wrap (at_+(x.i:Int))).toNat).tmod 128))))))),(.at (.val (VI (IntKind.i64.wrap (IntKind.i64.wrap (at_+(x.i:Int))+1))))),(.at (.val (VI 0)))]) [(.row false EC.u8 (b))] [])) (K (.tup [(.at (.val (VW (IntKind.u64.wrap (x.u+IntKind.u64.wrap (128 ^ x.i*IntKind.u64.wrap ((getB b (IntKind.i64.wrap (at_+(x.i:Int))).toNat).tmod 128))))))),(.at (.val (VI (IntKind.i64.wrap (IntKind.i64.wrap (at_+(x.i:Int))+1))))),(.at (.val (VI 0)))]) [(.row false EC.u8 (b))] [])) (∃ x':XUd P,True/\
 ((True/\VI (at_)=VI (at_)/\(VW (IntKind.u64.wrap (x.u+IntKind.u64.wrap (128 ^ x.i*IntKind.u64.wrap ((getB b (IntKind.i64.wrap (at_+(x.i:Int))).toNat).tmod 128)))))=(VW (x'.u))/\(VW (IntKind.u64.wrap (128 ^ x.i*128)))=(VW (128 ^ x'.i))/\(VI (IntKind.i64.wrap ((x.i:Int)+1)))=(VI (x'.i:Int))/\True)/\b=b/\True)/\10-x'.i<10-x.i))) (brS (decide (getB b (IntKind.i64.wrap (at_+(x.i:Int))).toNat<128)) (brS (decide ((x.i:Int)>0)) (brS (getB b (IntKind.i64.wrap (at_+(x.i:Int))).toNat==0) (K (.tup [(.at (.val (VW 0))),(.at (.val (VI 0))),(.at (.val (VI 13)))]) [(.row false EC.u8 (b))] []) (K (.tup [(.at (.val (VW (IntKind.u64.wrap (x.u+IntKind.u64.wrap (128 ^ x.i*IntKind.u64.wrap ((getB b (IntKind.i64.wrap (at_+(x.i:Int))).toNat).tmod 128))))))),(.at (.val (VI (IntKind.i64.wrap (IntKind.i64.wrap (at_+(x.i:Int))+1))))),(.at (.val (VI 0)))]) [(.row false EC.u8 (b))] [])) (K (.tup [(.at (.val (VW (IntKind.u64.wrap (x.u+IntKind.u64.wrap (128 ^ x.i*IntKind.u64.wrap ((getB b (IntKind.i64.wrap (at_+(x.i:Int))).toNat).tmod 128))))))),(.at (.val (VI (IntKind.i64.wrap (IntKind.i64.wrap (at_+(x.i:Int))+1))))),(.at (.val (VI 0)))]) [(.row false EC.u8 (b))] [])) (∃ x':XUd P,True/\((True/\VI (at_)=VI (at_)/\(VW (IntKind.u64.wrap (x.u+IntKind.u64.wrap (128 ^ x.i*IntKind.u64.wrap ((getB b (IntKind.i64.wrap (at_+(x.i:Int))).toNat).tmod 128)))))=(VW (x'.u))/\(VW (IntKind.u64.wrap (128 ^ x.i*128)))=(VW (128 ^ x'.i))/\(VI (IntKind.i64.wrap ((x.i:Int)+1)))=(VI (x'.i:Int))/\True)/\b=b/\True)/\10-x'.i<10-x.i)))) (K (.tup [(.at (.val (VW 0))),(.at (.val (VI 0))),(.at (.val (VI 13)))]) [(.row false EC.u8 (b))] []))))=_ by kernel_rfl) ?_
 subst hP
 refine brS_of (fun z=>?_) fun z=>brS_of (fun y=>?_) fun y=>?_
 ·have z:=of_decide_eq_true z
  exact h _ _ _ (by unfold uvD;rw[if_pos (.inl z)])
 ·have y:=of_decide_eq_true y
  exact h _ _ _ (by unfold uvD;rw[if_pos (.inr y)])
 have z:0<=at_:=by have:=of_decide_eq_false z;omega
 have y:at_<=b.length:=by have:=of_decide_eq_false y;omega
 have hr:=allB_drop hb at_.toNat
 have rl:(b.drop at_.toNat).length=b.length-at_.toNat:=List.length_drop
 have gt:∀ i:Nat,getB b (at_.toNat+i)=getB (b.drop at_.toNat) i:=fun i=>(getB_dr _ _ _).symm
 generalize er:b.drop at_.toNat=r at *
 refine⟨⟨⟨0,0,⟨by omega,by decide,by decide,rfl⟩,Nat.zero_le _⟩,trivial,⟨trivial,rfl,rfl,rfl,rfl,trivial⟩,rfl,trivial⟩,fun x _=>brS_of (fun q=>?_) fun q=>?_⟩
 ·obtain⟨i,u,hi,hil⟩:=x
  dsimp only at q ⊢
  have q:i<10:=by have:=of_decide_eq_true q;omega
  have i9:=hi.1
  rw[wrap_id (x:=(i:Int)+1) (by omega) (by omega),wrap_id (x:=at_+(i:Int)) (by omega) (by omega),wrap_id (x:=at_+(i:Int)+1) (by omega) (by omega),show (at_+(i:Int)).toNat=at_.toNat+i by omega,gt]
  refine brS_of (fun t=>?_) fun t=>?_
  ·have t:r.length=i:=by have:=eq_of_beq t;omega
   have e:=hi.2.2.2
   rw[List.drop_eq_nil_of_le (by omega)] at e
   exact h _ _ _ ((uvD_eq z y (show vD 12 13 0 (b.drop at_.toNat) 0=(0,0,12) by rw[er,← e];rfl)).trans rfl)
  have t:at_+(i:Int)≠b.length:=fun e=>by rw[e] at t;simp at t
  have il:i<r.length:=by omega
  have bad:∀ (hc:(i=9/\1<getB r i)∨(0<i/\getB r i=0)),K (.tup [.at (vU64 0),.at (vI 0),.at (vI 13)]) [.row false EC.u8 b] []:=fun hc =>
   h _ _ _ ((uvD_eq z y (show vD 12 13 0 (b.drop at_.toNat) 0=(0,0,13) by rw[er];exact hi.bad il hc)).trans rfl)
  have u128:i<=8->IntKind.u64.wrap (128 ^ i*128)=128 ^ (i+1):=fun h8=>by
   have:i=0∨i=1∨i=2∨i=3∨i=4∨i=5∨i=6∨i=7∨i=8:=by omega
   rcases this with e|e|e|e|e|e|e|e|e<;>subst e<;>decide +kernel
  have main:∀ (hc:¬ ((i=9/\1<getB r i)∨(0<i/\getB r i=0))),∃ v,IntKind.u64.wrap (u+IntKind.u64.wrap (128 ^ i*IntKind.u64.wrap ((getB r i).tmod 128)))=v/\(getB r i<128->K (.tup [.at (vU64 v),.at (vI (at_+(i:Int)+1)),.at (vI 0)]) [.row false EC.u8 b] [])/\(¬ getB r i<128->PUr r (i+1) v):=fun hc=>by
   obtain⟨v,ev,g1,g2⟩:=PUd.go2 (r:=r) ⟨hi,il,hc⟩ hr
   refine⟨v,ev,fun c=>?_,fun c=>⟨g2 c,il⟩⟩
   exact h _ _ _ (((uvD_eq z y (show vD 12 13 0 (b.drop at_.toNat) 0=(v,(i:Int)+1,0) by rw[er];exact g1 c)).trans (if_pos rfl)).trans (by congr 2;omega))
  refine⟨by omega,by omega,brS_of (fun a=>brS_of (fun a2=>bad (.inl ⟨by have:=eq_of_beq a;omega,of_decide_eq_true a2⟩)) fun a2=>?_) fun a=>?_⟩
  all_goals
   have n9:¬ (i=9/\1<getB r i):=by
    rintro ⟨k1,k2⟩
    first
    | exact of_decide_eq_false a2 k2
    | (rw[k1] at a;exact absurd a (by decide))
   refine brS_of (fun d=>?_) fun d=>?_
   ·have d:=of_decide_eq_true d
    refine brS_of (fun e=>brS_of (fun f=>bad (.inr ⟨by have:=of_decide_eq_true e;omega,eq_of_beq f⟩)) fun f=>?_) fun e=>?_
    ·obtain⟨v,ev,g,_⟩:=main (by
      rintro (k|⟨_,k⟩)
      ·exact n9 k
      ·rw[k] at f;exact absurd f (by decide))
     rw[ev]
     exact g d
    ·obtain⟨v,ev,g,_⟩:=main (by
      rintro (k|⟨k,_⟩)
      ·exact n9 k
      ·exact of_decide_eq_false e (by omega))
     rw[ev]
     exact g d
   ·have d:=of_decide_eq_false d
    obtain⟨v,ev,_,g⟩:=main (by
     rintro (k|⟨_,k⟩)
     ·exact n9 k
     ·omega)
    rw[ev]
    have h9:=(g d).1.1
    rw[u128 (by omega)]
    refine⟨⟨i+1,v,g d⟩,trivial,⟨⟨trivial,rfl,rfl,rfl,rfl,trivial⟩,rfl,trivial⟩,by show 10-(i+1)<10-i;omega⟩
 ·obtain⟨i,u,hi,_⟩:=x
  dsimp only at q
  have:=hi.1
  have:=of_decide_eq_false q
  omega
theorem s_ur:SoundT C0 99 tUd:=by
 refine .of Tryz.func99 (by decide) rfl fun args H K h hB=>?_
 unfold tUd at h
 split at h<;>try exact h.elim
 rename_i at_ b
 exact⟨aUrR (PUr (b.drop at_.toNat)) b,trivial,vc_ur b at_ K h.1 h.2.1 h.2.2⟩
theorem PKd.go2 {r:List Int}{i:Nat}{u:Int}(h:PKd r i u)(hi:i<r.length)(i8:i<8)(hr:allB r):PKd r (i+1) (IntKind.u64.wrap (IntKind.u64.wrap (256*u)+IntKind.u64.wrap (getB r i))):=by
 obtain⟨h1,h2,h3,h4⟩:=h
 obtain⟨c0,c1⟩:=hr _ (getB_mem hi)
 have q:(256:Int) ^ i<=72057594037927936:=by
  have:i=0∨i=1∨i=2∨i=3∨i=4∨i=5∨i=6∨i=7:=by omega
  rcases this with e|e|e|e|e|e|e|e<;>subst e<;>decide +kernel
 rw[wrap_u64 (x:=256*u) (by omega) (by omega),wrap_u64 (x:=getB r i) c0 (by omega),wrap_u64 (x:=256*u+getB r i) (by omega) (by omega)]
 refine⟨i8,?_,by omega,by rw[Int.pow_succ];omega⟩
 rw[take_getB hi,wD_snoc,← h2]
theorem vc_kr (b:List Int)(at_:Int)(K:KT)(hb:allB b)(hl:b.length<=1000000000000)(h:∀ u n e,kyD b at_=(u,n,e)->K (.tup [.at (vI u),.at (vI n),.at (vI e)]) [.row false EC.u8 b] []) :
  vc C0 (aKrR (PKd ((b.drop at_.toNat).take 8)) b) Tryz.f50 [.at (.slc 0),.at (.val (.int .i64 at_))] [.row false EC.u8 b] (normK 1 K):=by
 generalize hP:PKd ((b.drop at_.toNat).take 8)=P
 refine Eq.mp (show (brS (decide (at_<0)) (K (.tup [(.at (.val (VI 0))),(.at (.val (VI 0))),(.at (.val (VI 1)))]) [(.row false EC.u8 (b))] []) (brS (decide (at_>(b.length:Int))) (K (.tup [(.at (.val (VI 0))),(.at (.val (VI 0))),(.at (.val (VI 1)))]) [(.row false EC.u8 (b))] []) (brS (decide (IntKind.i64.wrap ((b.length:Int)-at_)<8)) (K (.tup [(.at (.val (VI 0))),(.at (.val (VI 0))),(.at (.val (VI 12)))]) [(.row false EC.u8 (b))] []) ((∃ x:XKd P,True/\(True/\VI (at_)=VI (at_)/\VW 0=(VW (x.u))/\VI 0=(VI (x.i:Int))/\True)/\b=b/\True)/\∀ x:XKd P,True->brS (decide ((x.i:Int)<8)) (0<=IntKind.i64.wrap (at_+(x.i:Int))/\IntKind.i64.wrap (at_+(x.i:Int))<(b.length:Int)/\∃ x':XKd P,True/\((True/\VI (at_)=VI (at_)/\(VW (IntKind.u64.wrap (IntKind.u64.wrap (256*x.u)+IntKind.u64.wrap (getB b (IntKind.i64.wrap (at_+(x.i:Int))).toNat))))=(VW (x'.u))/\(VI (IntKind.i64.wrap ((x.i:Int)+1)))=(VI (x'.i:Int))/\True)/\b=b/\True)/\8-x'.i<8-x.i) (K (.tup [(.at (.val (VI (IntKind.i64.wrap (IntKind.u64.wrap (x.u-9223372036854775808)))))),(.at (.val (VI (IntKind.i64.wrap (at_+8))))),(.at (.val (VI 0)))]) [(.row false EC.u8 (b))] [])))))=_ by kernel_rfl) ?_
 subst hP
 refine brS_of (fun z=>?_) fun z=>brS_of (fun y=>?_) fun y=>?_
 ·have z:=of_decide_eq_true z
  exact h _ _ _ (by unfold kyD;rw[if_pos (.inl z)])
 ·have y:=of_decide_eq_true y
  exact h _ _ _ (by unfold kyD;rw[if_pos (.inr y)])
 have z:0<=at_:=by have:=of_decide_eq_false z;omega
 have y:at_<=b.length:=by have:=of_decide_eq_false y;omega
 rw[wrap_id (x:=(b.length:Int)-at_) (by omega) (by omega),wrap_id (x:=at_+8) (by omega) (by omega)]
 refine brS_of (fun x=>?_) fun x=>?_
 ·have x:=of_decide_eq_true x
  exact h _ _ _ (by unfold kyD;rw[if_neg (by omega),if_pos x])
 have x:at_+8<=b.length:=by have:=of_decide_eq_false x;omega
 have hk:kyD b at_=(wD ((b.drop at_.toNat).take 8)-9223372036854775808,at_+8,0):=by unfold kyD;rw[if_neg (by omega),if_neg (by omega)]
 have hr:=allB_take (allB_drop hb at_.toNat) 8
 have rl:((b.drop at_.toNat).take 8).length=8:=by rw[List.length_take,List.length_drop];omega
 have gt:∀ i:Nat,i<8->getB b (at_.toNat+i)=getB ((b.drop at_.toNat).take 8) i:=fun i hi=>by
  rw[← getB_dr]
  show (b.drop at_.toNat).getD i 0=((b.drop at_.toNat).take 8).getD i 0
  rw[List.getD_eq_getElem?_getD,List.getD_eq_getElem?_getD,List.getElem?_take_of_lt hi]
 generalize (b.drop at_.toNat).take 8=r at *
 refine⟨⟨⟨0,0,by omega,rfl,by decide,by decide⟩,trivial,⟨trivial,rfl,rfl,rfl,trivial⟩,rfl,trivial⟩,fun x _=>brS_of (fun q=>?_) fun q=>?_⟩
 ·obtain⟨i,u,hi⟩:=x
  dsimp only at q ⊢
  have q:i<8:=by have:=of_decide_eq_true q;omega
  rw[wrap_id (x:=(i:Int)+1) (by omega) (by omega),wrap_id (x:=at_+(i:Int)) (by omega) (by omega),show (at_+(i:Int)).toNat=at_.toNat+i by omega,gt i q]
  exact⟨by omega,by omega,⟨i+1,_,hi.go2 (by omega) q hr⟩,trivial,⟨⟨trivial,rfl,rfl,rfl,trivial⟩,rfl,trivial⟩,by show 8-(i+1)<8-i;omega⟩
 ·obtain⟨i,u,h1,h2,h3,h4⟩:=x
  dsimp only at q ⊢
  have q:i=8:=by have:=of_decide_eq_false q;omega
  subst q
  have p8:(256:Int) ^ 8=18446744073709551616:=by decide +kernel
  rw[p8] at h4
  rw[List.take_of_length_le (by omega)] at h2
  have ew:IntKind.i64.wrap (IntKind.u64.wrap (u-9223372036854775808))=u-9223372036854775808:=by
   rw[wrap_u64m]
   rcases Int.lt_or_le u 9223372036854775808 with c|c
   ·rw[show (u-9223372036854775808) % 18446744073709551616=u+9223372036854775808 by omega,wrap_i64_hi (by omega) (by omega)];omega
   ·rw[show (u-9223372036854775808) % 18446744073709551616=u-9223372036854775808 by omega,wrap_id (by omega) (by omega)]
  rw[ew]
  exact h _ _ _ (by rw[hk,h2])
theorem s_kr:SoundT C0 50 tKd:=by
 refine .of Tryz.func50 (by decide) rfl fun args H K h hB=>?_
 unfold tKd at h
 split at h<;>try exact h.elim
 rename_i at_ b
 exact⟨aKrR (PKd ((b.drop at_.toNat).take 8)) b,trivial,vc_kr b at_ K h.1 h.2.1 h.2.2⟩
theorem vc_uzr (u:Int)(K:KT)(h0:0<=u)(h1:u<18446744073709551616)(h:∀ n,n=uz u->K (.one (.at (vI n))) [] []) :
  vc C0 A0 Tryz.f51 [.at (.val (.int .u64 u))] [] (normK 0 K):=by
 refine Eq.mp (show (brS (u.tmod 2==0) (K (.one (.at (.val (VI (IntKind.i64.wrap (IntKind.u64.wrap (u.tdiv 2))))))) [] []) (K (.one (.at (.val (VI (IntKind.i64.wrap (IntKind.i64.wrap (0-IntKind.i64.wrap (IntKind.u64.wrap (u.tdiv 2)))-1)))))) [] []))=_ by kernel_rfl) ?_
 have w1:u.tmod 2=u % 2:=Int.tmod_eq_emod_of_nonneg h0
 have w2:u.tdiv 2=u / 2:=Int.tdiv_eq_ediv_of_nonneg h0
 rw[w1,w2,wrap_u64 (x:=u / 2) (by omega) (by omega)]
 refine brS_of (fun y=>h _ ?_) fun y=>h _ ?_
 ·have y:u % 2=0:=eq_of_beq y
  unfold uz
  rw[if_pos y,wrap_id (by omega) (by omega)]
 ·have y:u % 2≠0:=fun e=>by rw[e] at y;exact absurd y (by decide)
  unfold uz
  rw[if_neg y,wrap_id (x:=u / 2) (by omega) (by omega),wrap_id (x:=0-u / 2) (by omega) (by omega),wrap_id (by omega) (by omega)]
  omega
theorem s_uzr:SoundT C0 51 tUz:=by
 refine .of Tryz.func51 (by decide) rfl fun args H K h hB=>?_
 unfold tUz at h
 split at h<;>try exact h.elim
 rename_i u
 exact⟨A0,trivial,vc_uzr u K h.1 h.2.1 h.2.2⟩
structure PNrS (b:List Int) (at_:Int) (i:Nat) (c n to k v:Int):Prop where
 a0:0<=at_
 a1:at_<=b.length
 vd:vD 12 13 0 (b.drop at_.toNat) 0=(v,k,0)
 vl:v<=1048576
 v0:0<=v
 k1:1<=k
 en:n=at_+k
 et:to=at_+k+v
 fit:at_+k+v+4<=b.length
 i4:i<=4
 ec:c=wD ((b.drop to.toNat).take i)
 c0:0<=c/\c<256 ^ i
def PNr (b:List Int)(at_:Int):Nat->Int->Int->Int->Int->Prop:=fun i c _ n to=>∃ k v,PNrS b at_ i c n to k v
theorem vc_nr (b:List Int)(at_:Int)(K:KT)(hb:allB b)(hl:b.length<=1000000000)(h:∀ p n e,nxD b at_=(p,n,e)->K (.tup [.at (.slc 1),.at (vI n),.at (vI e)]) [.row false EC.u8 b,.row true EC.u8 p] []) :
  vc C0 (aNr (PNx1 b at_) (PNr b at_) b) Tryz.f48 [.at (.slc 0),.at (.val (.int .i64 at_))] [.row false EC.u8 b] (normK 1 K):=by
 generalize hP:PNx1 b at_=P0
 generalize hP':PNr b at_=P
 refine Eq.mp (show (allB b/\b.length<=1000000000000/\∀ u:Int,∀ n:Int,∀ e:Int,uvD b at_=(Prod.mk (u) (Prod.mk (n) (e)))->brS (e != 0) (K (.tup [(.at (.slc 1)),(.at (.val (VI 0))),(.at (.val (VI (e))))]) [(.row false EC.u8 (b)),(.row true EC.u8 [])] []) (∃ x:XNx P0,True/\(True/\VI (at_)=VI (at_)/\VW (u)=VW (x.u)/\VI (n)=VI (x.n)/\True)/\b=b/\True)/\∀ x:XNx P0,True->brS (decide (x.u>1048576)) (K (.tup [(.at (.slc 1)),(.at (.val (VI 0))),(.at (.val (VI 13)))]) [(.row false EC.u8 (b)),(.row true EC.u8 [])] []) (brS (decide (IntKind.i64.wrap ((b.length:Int)-x.n)<IntKind.i64.wrap (IntKind.i64.wrap x.u+4))) (K (.tup [(.at (.slc 1)),(.at (.val (VI 0))),(.at (.val (VI 12)))]) [(.row false EC.u8 (b)),(.row true EC.u8 [])] []) ((∃ x1:XNr8 P,True/\(True/\VI (at_)=VI (at_)/\VI (x.n)=VI (x1.n)/\(VI (IntKind.i64.wrap (x.n+IntKind.i64.wrap x.u)))=(VI (x1.to))/\VU 0=(VU (x1.c))/\VI 0=(VI (x1.i:Int))/\True)/\b=b/\True)/\∀ x1:XNr8 P,True->brS (decide ((x1.i:Int)<4)) (0<=IntKind.i64.wrap (x1.to+(x1.i:Int))/\IntKind.i64.wrap (x1.to+(x1.i:Int))<(b.length:Int)/\∃ x':XNr8 P,True/\((True/\VI (at_)=VI (at_)/\VI (x1.n)=VI (x'.n)/\VI (x1.to)=VI (x'.to)/\(VU (IntKind.u32.wrap (IntKind.u32.wrap (256*x1.c)+IntKind.u32.wrap (getB b (IntKind.i64.wrap (x1.to+(x1.i:Int))).toNat))))=(VU (x'.c))/\(VI (IntKind.i64.wrap ((x1.i:Int)+1)))=(VI (x'.i:Int))/\True)/\b=b/\True)/\4-x'.i<4-x1.i) (0<=at_/\at_<=x1.to/\x1.to<=(b.length:Int)/\allB (List.drop at_.toNat (List.take x1.to.toNat b))/\(List.drop at_.toNat (List.take x1.to.toNat b)).length<=1000000000000/\
 ∀ r:Int,r=(crc (List.drop at_.toNat (List.take x1.to.toNat b)))->brS (x1.c != r) (K (.tup [(.at (.slc 1)),(.at (.val (VI 0))),(.at (.val (VI 14)))]) [(.row false EC.u8 (b)),(.row true EC.u8 [])] []) (0<=x1.n/\x1.n<=x1.to/\x1.to<=(b.length:Int)/\([]:List Ent).length<=1000000000/\(List.drop x1.n.toNat (List.take x1.to.toNat b)).length<=1000000000/\∀ o:List Int,o=(jnA [] (List.drop x1.n.toNat (List.take x1.to.toNat b)))->K (.tup [(.at (.slc 1)),(.at (.val (VI (IntKind.i64.wrap (x1.to+4))))),(.at (.val (VI 0)))]) [(.row false EC.u8 (b)),(.row true EC.u8 (o))] [])))))=_ by kernel_rfl) ?_
 subst hP hP'
 have hr:=allB_drop hb at_.toNat
 refine⟨hb,by omega,fun u n e ud=>⟨brS_of (fun z=>?_) fun z=>?_,fun x _=>brS_of (fun z=>?_) fun z=>brS_of (fun y=>?_) fun y=>⟨?_,fun x1 _=>brS_of (fun q=>?_) fun q=>?_⟩⟩⟩
 ·have z:e≠0:=fun k=>by rw[k] at z;exact absurd z (by decide)
  refine h _ _ _ ?_
  by_cases c:at_<0∨(b.length:Int)<at_
  ·unfold uvD at ud
   rw[if_pos c] at ud
   injection ud with e1 e2
   injection e2 with e2 e3
   unfold nxD
   rw[if_pos c,e3]
   rfl
  ·obtain⟨v,k,e',hv⟩:∃ v k e',vD 12 13 0 (b.drop at_.toNat) 0=(v,k,e'):=⟨_,_,_,rfl⟩
   have ue:=uvD_eq (by omega) (by omega) hv
   rw[ud] at ue
   by_cases q:e'=0
   ·rw[if_pos q] at ue
    injection ue with e1 e2
    injection e2 with e2 e3
    exact absurd e3 z
   ·rw[if_neg q] at ue
    injection ue with e1 e2
    injection e2 with e2 e3
    have ef:=frD_eq hv
    rw[if_pos q] at ef
    rw[nxD_eq (by omega) (by omega) ef,if_neg q,e3]
    rfl
 ·have z:e=0:=by simpa using z
  subst z
  refine⟨⟨u,n,?_⟩,trivial,?_⟩
  ·by_cases c:at_<0∨(b.length:Int)<at_
   ·unfold uvD at ud
    rw[if_pos c] at ud
    injection ud with e1 e2
    injection e2 with e2 e3
    exact absurd e3 (by decide)
   ·obtain⟨v,k,e',hv⟩:∃ v k e',vD 12 13 0 (b.drop at_.toNat) 0=(v,k,e'):=⟨_,_,_,rfl⟩
    have ue:=uvD_eq (by omega) (by omega) hv
    rw[ud] at ue
    by_cases q:e'=0
    ·rw[if_pos q] at ue
     injection ue with e1 e2
     injection e2 with e2 e3
     rw[q] at hv
     exact⟨by omega,by omega,k,by rw[e1];exact hv,e2⟩
    ·rw[if_neg q] at ue
     injection ue with e1 e2
     injection e2 with e2 e3
     exact absurd e3.symm q
  ·(repeat' first|exact trivial|exact rfl|refine And.intro ?_ ?_)
 ·obtain⟨v,m,a0,a1,k,hv,en⟩:=x
  dsimp only at z ⊢
  have z:1048576<v:=of_decide_eq_true z
  have ef:=frD_eq hv
  rw[if_neg (by decide),if_pos z] at ef
  exact h _ _ _ (by rw[nxD_eq a0 a1 ef];rfl)
 ·obtain⟨v,m,a0,a1,k,hv,en⟩:=x
  dsimp only at z y ⊢
  have z:v<=1048576:=by have:=of_decide_eq_false z;omega
  have vk:=vD_ok _ 0 0 v k hr (Int.le_refl 0) hv
  have dl:(b.drop at_.toNat).length=b.length-at_.toNat:=List.length_drop
  rw[wrap_id (x:=(b.length:Int)-m) (by omega) (by omega),wrap_id (x:=v) (by omega) (by omega),wrap_id (x:=v+4) (by omega) (by omega)] at y
  have y:=of_decide_eq_true y
  have ef:=frD_eq hv
  rw[if_neg (by decide),if_neg (by omega),if_pos (by omega)] at ef
  exact h _ _ _ (by rw[nxD_eq a0 a1 ef];rfl)
 ·obtain⟨v,m,a0,a1,k,hv,en⟩:=x
  dsimp only at z y ⊢
  have z:v<=1048576:=by have:=of_decide_eq_false z;omega
  have vk:=vD_ok _ 0 0 v k hr (Int.le_refl 0) hv
  have dl:(b.drop at_.toNat).length=b.length-at_.toNat:=List.length_drop
  rw[wrap_id (x:=(b.length:Int)-m) (by omega) (by omega),wrap_id (x:=v) (by omega) (by omega),wrap_id (x:=v+4) (by omega) (by omega)] at y
  have y:=of_decide_eq_false y
  rw[wrap_id (x:=v) (by omega) (by omega),wrap_id (x:=m+v) (by omega) (by omega)]
  refine⟨⟨0,0,v,m,m+v,k,v,⟨a0,a1,hv,z,by omega,by omega,en,by omega,by omega,by omega,rfl,by decide,by decide⟩⟩,trivial,⟨trivial,rfl,rfl,rfl,rfl,rfl,trivial⟩,rfl,trivial⟩
 ·obtain⟨i,c,u',n',to,k,v,F⟩:=x1
  dsimp only at q ⊢
  have q:i<4:=by have:=of_decide_eq_true q;omega
  have f1:=F.fit;have f2:=F.et;have f3:=F.a0;have f4:=F.k1;have f5:=F.v0
  have il:i<(b.drop to.toNat).length:=by rw[List.length_drop];omega
  have gm:=(allB_drop hb to.toNat) _ (getB_mem il)
  have cc:=F.c0
  have p4:(256:Int) ^ i<=16777216:=by
   have:i=0∨i=1∨i=2∨i=3:=by omega
   rcases this with e|e|e|e<;>subst e<;>decide +kernel
  rw[wrap_id (x:=(i:Int)+1) (by omega) (by omega),wrap_id (x:=to+(i:Int)) (by omega) (by omega),show (to+(i:Int)).toNat=to.toNat+i by omega,← getB_dr,wrap_u32 (x:=256*c) (by omega) (by omega),wrap_u32 (x:=getB (b.drop to.toNat) i) gm.1 (by omega),wrap_u32 (x:=256*c+getB (b.drop to.toNat) i) (by omega) (by omega)]
  refine⟨by omega,by omega,⟨i+1,_,u',n',to,k,v,⟨F.a0,F.a1,F.vd,F.vl,F.v0,F.k1,F.en,F.et,F.fit,q,?_,?_⟩⟩,trivial,⟨⟨trivial,rfl,rfl,rfl,rfl,rfl,trivial⟩,rfl,trivial⟩,by show 4-(i+1)<4-i;omega⟩
  ·rw[take_getB il,wD_snoc,← F.ec]
  ·rw[Int.pow_succ];omega
 ·obtain⟨i,c,u',n',to,k,v,F⟩:=x1
  dsimp only at q ⊢
  have i4:=F.i4
  have q:i=4:=by have:=of_decide_eq_false q;omega
  subst q
  have f1:=F.fit;have f2:=F.et;have f3:=F.a0;have f4:=F.k1;have f5:=F.v0;have f6:=F.en;have f7:=F.vl
  have ef:=frD_eq F.vd
  have dl:(b.drop at_.toNat).length=b.length-at_.toNat:=List.length_drop
  rw[if_neg (by decide),if_neg (by omega),if_neg (by omega)] at ef
  have e1:List.drop at_.toNat (List.take to.toNat b)=(b.drop at_.toNat).take (k+v).toNat:=by rw[List.drop_take];congr 1;omega
  have e2:List.drop n'.toNat (List.take to.toNat b)=((b.drop at_.toNat).take (k+v).toNat).drop k.toNat:=by
   rw[← e1,List.drop_drop];congr 1;omega
  have e3:((b.drop at_.toNat).drop (k+v).toNat).take 4=(b.drop to.toNat).take 4:=by rw[List.drop_drop];congr 2;omega
  rw[e3,← F.ec] at ef
  rw[e1,e2,wrap_id (x:=to+4) (by omega) (by omega)]
  refine⟨f3,by omega,by omega,allB_take hr _,by rw[List.length_take];omega,fun r er=>brS_of (fun t=>?_) fun t=>⟨by omega,by omega,by omega,by decide,by rw[List.length_drop,List.length_take];omega,fun o eo=>?_⟩⟩
  ·have t:c≠crc ((b.drop at_.toNat).take (k+v).toNat):=fun e=>by rw[e,er] at t;simp at t
   rw[if_neg t] at ef
   exact h _ _ _ (by rw[nxD_eq F.a0 F.a1 ef];rfl)
  ·have t:c=crc ((b.drop at_.toNat).take (k+v).toNat):=by rw[← er];simpa using t
   rw[if_pos t] at ef
   have eo:o=((b.drop at_.toNat).take (k+v).toNat).drop k.toNat:=eo
   rw[eo]
   exact h _ _ _ (by rw[nxD_eq F.a0 F.a1 ef,if_pos rfl];congr 2;omega)
theorem s_nr:SoundT C0 48 tNx:=by
 refine .of Tryz.func48 (by decide) rfl fun args H K h hB=>?_
 unfold tNx at h
 split at h<;>try exact h.elim
 rename_i at_ b
 exact⟨aNr (PNx1 b at_) (PNr b at_) b,⟨frame C0.ok s_ur _,frame C0.ok s_cr _,frame C0.ok s_jnR _,trivial⟩,vc_nr b at_ K h.1 h.2.1 h.2.2⟩
end Go.Proofs.YtedfbafngmicpaaGreat.Sx
end
section
/- The reference's numbers and Read. -/
namespace Go.Proofs.YtedfbafngmicpaaGreat.Sx
open Go

/-KEEP allB uvD kyD nxD vE wB wD uz crc getB jnA rnD rnR hdD ndQ tlD nsD pkD mgD magB PKT.zero ndsR lfsR rgsR-/
def rnD (b:List Int):Nat->Int->Option (List Int × Int)
 | 0,at_=>some ([],at_)
 | n+1,at_=>match uvD b at_ with
  | (u,n1,e)=>if e≠0 then none else (rnD b n n1).map fun q=>(u::q.1,q.2)
def ndsR (ns:List PNT):List NodeT:=ns.map fun x=>⟨x.key,x.value,0,0,0,0,0,0⟩
def lfsR (ns:List PNT):List Int:=ns.map PNT.left
def rgsR (ns:List PNT):List Int:=ns.map PNT.right
structure XNm (P:List Int->Int->Nat->Prop) where
 o:List Int
 at_:Int
 i:Nat
 h:P o at_ i
noncomputable def aNmR (P:List Int->Int->Nat->Prop)(b:List Int)(n:Int):Ann C0:={ quiet:=[9999999,99],Γ:=[(99,frameT [] tUd)],inv:=fun m=>match m with
 | 3=>some { X:=XNm P,sl:=[1,9,10],tf:=fun x=>[vi .i64 x.at_,.one (.at (.slc 1)),vi .i64 x.i],hf:=fun x=>[.row false EC.u8 b,.row true EC.u64 x.o],μ:=fun x=>n.toNat-x.i }
 | _=>none }
def rnR (b:List Int)(n:Nat)(at_:Int)(l:List Int)(q:Int)(ok:Bool):Prop:=(ok=true/\rnD b n at_=some (l,q))∨(ok=false/\rnD b n at_=none/\l=[]/\q=0)
def tNmR:Tfm C0:=fun args H K=>match args,H with
 | [.at (.slc 0),.at (.val (.int .i64 at_)),.at (.val (.int .i64 n))],[.row false .u8 b]=>allB b/\b.length<=1000000000/\0<=n/\n<=1000000 ∧
   ∀ l q ok,rnR b n.toNat at_ l q ok->K (.tup [.at (.slc 1),.at (vI q),.at (vB ok)]) [.row false EC.u8 b,.row true EC.u64 l] []
 | _,_=>False
structure ZRd where
 p:List Int
 at_:Int
 h:List Int
 q:Int
 k:Int
 m:Int
 r:Int
 D:Int
 ns:List PNT
 i:Nat
 key:Int
 u:List Int
structure XRdR (P:ZRd->Prop) where
 z:ZRd
 h:P z
abbrev hfQ (b:List Int):List (Chunk C0):=[.row false EC.u8 b,.box [vU64 0,vU64 0,vU64 0,vU64 0,.slc 2,.slc 3,.slc 4,.slc 5],.row true EC.node [],.row true EC.u64 [],.row true EC.u64 [],.row true EC.u64 []]
abbrev hfX (z:ZRd):List (Chunk C0):=[.box [vU64 z.k,vU64 z.m,vU64 z.r,vU64 z.D,.slc 7,.slc 8,.slc 9,.slc 10],.row true EC.node (ndsR z.ns),.row true EC.u64 (lfsR z.ns),.row true EC.u64 (rgsR z.ns),.row true EC.u64 []]
noncomputable def aRdR (P1 P2 P3 P4 P5 P6 P7 P8 P9 PA PB PC:ZRd->Prop)(b:List Int):Ann C0:={ quiet:=[9999999,48,49,50,51],Γ:=[(48,frameT [] tNx),(49,frameT [] tNmR),(50,frameT [] tKd),(51,frameT [] tUz)],rounds:=fun n=>if n=3 then 5 else 0,inv:=fun j=>match j with
 | 1009=>some { X:=PLift (mgD magB b=0),sl:=[2],tf:=fun _=>[.one (.at (.ptr 1 0))],hf:=fun _=>hfQ b }
 | 1012=>some { X:=XRdR P1,sl:=[2,6,7],tf:=fun x=>[.one (.at (.ptr 1 0)),.one (.at (.slc 6)),vi .i64 x.z.at_],hf:=fun x=>hfQ b++[.row true EC.u8 x.z.p] }
 | 1015=>some { X:=XRdR P2,sl:=[2,6,7,9,10],tf:=fun x=>[.one (.at (.ptr 1 0)),.one (.at (.slc 6)),vi .i64 x.z.at_,.one (.at (.slc 7)),vi .i64 x.z.q],hf:=fun x=>hfQ b++[.row true EC.u8 x.z.p,.row true EC.u64 x.z.h] }
 | 17=>some { X:=XRdR P3,sl:=[2,12,6,7,10,13],tf:=fun x=>[.one (.at (.ptr 1 0)),.one (.at (.ptr 6 0)),.one (.at (.slc 11)),vi .i64 x.z.at_,vi .i64 x.z.q,vi .i64 x.z.i],hf:=fun x=>hfQ b++hfX x.z++[.row true EC.u8 x.z.p],μ:=fun x=>4-x.z.i }
 | 1020=>some { X:=XRdR P4,sl:=[2,12,7],tf:=fun x=>[.one (.at (.ptr 1 0)),.one (.at (.ptr 6 0)),vi .i64 x.z.at_],hf:=fun x=>hfQ b++hfX x.z }
 | 21=>some { X:=XRdR P5,sl:=[2,12,7,14],tf:=fun x=>[.one (.at (.ptr 1 0)),.one (.at (.ptr 6 0)),vi .i64 x.z.at_,vi .u64 x.z.i],hf:=fun x=>hfQ b++hfX x.z,μ:=fun x=>70000-x.z.i }
 | 1026=>some { X:=XRdR P6,sl:=[2,12,6,7,14],tf:=fun x=>[.one (.at (.ptr 1 0)),.one (.at (.ptr 6 0)),.one (.at (.slc 11)),vi .i64 x.z.at_,vi .u64 x.z.i],hf:=fun x=>hfQ b++hfX x.z++[.row true EC.u8 x.z.p],rel:=fun T _ x=>slotI T 14 x.z.i }
 | 1030=>some { X:=XRdR P7,sl:=[2,12,18,7,14,15],tf:=fun x=>[.one (.at (.ptr 1 0)),.one (.at (.ptr 6 0)),.one (.at (.slc 11)),vi .i64 x.z.at_,vi .u64 x.z.i,vi .i64 x.z.key],hf:=fun x=>hfQ b++hfX x.z++[.row true EC.u64 x.z.u],rel:=fun T _ x=>slotI T 14 x.z.i }
 | 1033=>some { X:=XRdR P8,sl:=[2,12,7],tf:=fun x=>[.one (.at (.ptr 1 0)),.one (.at (.ptr 6 0)),vi .i64 x.z.at_],hf:=fun x=>hfQ b++hfX x.z }
 | 1036=>some { X:=XRdR P9,sl:=[2,12,6,7],tf:=fun x=>[.one (.at (.ptr 1 0)),.one (.at (.ptr 6 0)),.one (.at (.slc 11)),vi .i64 x.z.at_],hf:=fun x=>hfQ b++hfX x.z++[.row true EC.u8 x.z.p] }
 | 1039=>some { X:=XRdR PA,sl:=[2,12,24],tf:=fun x=>[.one (.at (.ptr 1 0)),.one (.at (.ptr 6 0)),.one (.at (.slc 11))],hf:=fun x=>hfQ b++hfX x.z++[.row true EC.u64 x.z.u] }
 | 40=>some { X:=XRdR PB,sl:=[2,12,24,27],tf:=fun x=>[.one (.at (.ptr 1 0)),.one (.at (.ptr 6 0)),.one (.at (.slc 11)),vi .i64 x.z.i],hf:=fun x=>hfQ b++hfX x.z++[.row true EC.u64 x.z.u],μ:=fun x=>x.z.u.length-x.z.i }
 | 1044=>some { X:=XRdR PC,sl:=[2,12,24],tf:=fun x=>[.one (.at (.ptr 1 0)),.one (.at (.ptr 6 0)),.one (.at (.slc 11))],hf:=fun x=>hfQ b++hfX x.z++[.row true EC.u64 x.z.u] }
 | _=>none }
def tRdR:Tfm C0:=fun args H K=>match args,H with
 | [.at (.slc 0)],[.row false .u8 b]=>allB b/\b.length<=1000000000/\∀ e p m r,pkD b=(e,p)->m=(p.nodes.length:Int)->r=(p.roots.length:Int)->K (.tup [.agg [vU64 p.known,vU64 m,vU64 r,vU64 p.digest,.slc 1,.slc 2,.slc 3,.slc 4],.at (vI e)]) [.row false EC.u8 b,.row true EC.node (ndsR p.nodes),.row true EC.u64 (lfsR p.nodes),.row true EC.u64 (rgsR p.nodes),.row true EC.u64 p.roots] []
 | _,_=>False
theorem rvD_eq {b:List Int}{at_ u n e:Int}(h:uvD b at_=(u,n,e)):rvD b at_ false=(u,n,e != 0):=by
 unfold rvD
 rw[h]
 rfl
theorem rvD_tt (b:List Int)(at_:Int):rvD b at_ true=(0,at_,true):=rfl
theorem rn_succ {b:List Int}{n:Nat}{at_ u n1 e:Int}(h:uvD b at_=(u,n1,e)):rnD b (n+1) at_=if e≠0 then none else (rnD b n n1).map fun (q:List Int × Int)=>(u::q.1,q.2):=by
 show (match uvD b at_ with
  | (u,n1,e)=>if e≠0 then none else (rnD b n n1).map fun (q:List Int × Int)=>(u::q.1,q.2))=_
 rw[h]
theorem rn3 (b:List Int)(at_:Int):∃ u1 n1 f1 u2 n2 f2 u3 n3 f3,rvD b at_ false=(u1,n1,f1)/\rvD b n1 f1=(u2,n2,f2)/\rvD b n2 f2=(u3,n3,f3)/\((f3=true/\rnD b 3 at_=none)∨(f3=false/\rnD b 3 at_=some ([u1,u2,u3],n3))) ∧
  (allB b->f3=false->(0<=u1/\u1<18446744073709551616)/\(0<=u2/\u2<18446744073709551616)/\(0<=u3/\u3<18446744073709551616)/\0<=at_/\at_<=n3/\n3<=b.length):=by
 obtain⟨u1,n1,e1,h1⟩:∃ u n e,uvD b at_=(u,n,e):=⟨_,_,_,rfl⟩
 have r1:=rvD_eq h1
 by_cases c1:e1=0
 ·subst c1
  obtain⟨u2,n2,e2,h2⟩:∃ u n e,uvD b n1=(u,n,e):=⟨_,_,_,rfl⟩
  have r2:=rvD_eq h2
  by_cases c2:e2=0
  ·subst c2
   obtain⟨u3,n3,e3,h3⟩:∃ u n e,uvD b n2=(u,n,e):=⟨_,_,_,rfl⟩
   have r3:=rvD_eq h3
   by_cases c3:e3=0
   ·subst c3
    refine⟨u1,n1,_,u2,n2,_,u3,n3,_,r1,r2,r3,.inr ⟨rfl,?_⟩,fun hb _=>?_⟩
    ·rw[rn_succ h1,if_neg (by simp),rn_succ h2,if_neg (by simp),rn_succ h3,if_neg (by simp)];rfl
    ·have a:=uvD_rng hb h1
     have b':=uvD_rng hb h2
     have c:=uvD_rng hb h3
     have:=a.2.1 rfl
     have:=b'.2.1 rfl
     have:=c.2.1 rfl
     exact⟨a.1,b'.1,c.1,by omega,by omega,by omega⟩
   ·refine⟨u1,n1,_,u2,n2,_,u3,n3,_,r1,r2,r3,.inl ⟨by simp[c3],?_⟩,fun _ q=>by simp[c3] at q⟩
    rw[rn_succ h1,if_neg (by simp),rn_succ h2,if_neg (by simp),rn_succ h3,if_pos c3];rfl
  ·refine⟨u1,n1,_,u2,n2,_,0,n2,true,r1,r2,?_,.inl ⟨rfl,?_⟩,fun _ q=>by cases q⟩
   ·rw[show (e2 != 0)=true by simp[c2]];rfl
   ·rw[rn_succ h1,if_neg (by simp),rn_succ h2,if_pos c2];rfl
 ·refine⟨u1,n1,_,0,n1,true,0,n1,true,r1,?_,rfl,.inl ⟨rfl,?_⟩,fun _ q=>by cases q⟩
  ·rw[show (e1 != 0)=true by simp[c1]];rfl
  ·rw[rn_succ h1,if_pos c1]
theorem hd_none {p:List Int}(h:rnD p 3 0=none):hdD p=none:=by
 obtain⟨u1,n1,f1,u2,n2,f2,u3,n3,f3,a,b,c,d,_⟩:=rn3 p 0
 rcases d with ⟨d,_⟩|⟨_,d⟩
 ·unfold hdD
  rw[a]
  dsimp only
  rw[b]
  dsimp only
  rw[c]
  dsimp only
  rw[if_pos (.inl d)]
 ·rw[d] at h;cases h
theorem hd_some {p l:List Int}{q:Int}(hb:allB p)(h:rnD p 3 0=some (l,q)):∃ k m r,l=[k,m,r]/\(0<=k/\0<=m/\0<=r)/\(0<=q/\q<=p.length)/\hdD p=if (p.length:Int)-q≠4∨65536<k∨65536<m∨4096<r then none else some (k,m,r,wD (p.drop q.toNat)):=by
 obtain⟨u1,n1,f1,u2,n2,f2,u3,n3,f3,a,b,c,d,e⟩:=rn3 p 0
 rcases d with ⟨_,d⟩|⟨df,d⟩
 ·rw[d] at h;cases h
 ·rw[d] at h
  injection h with h
  injection h with h1 h2
  subst h2
  have e:=e hb df
  refine⟨u1,u2,u3,h1.symm,⟨e.1.1,e.2.1.1,e.2.2.1.1⟩,⟨by omega,e.2.2.2.2.2⟩,?_⟩
  unfold hdD
  rw[a]
  dsimp only
  rw[b]
  dsimp only
  rw[c]
  dsimp only
  rw[df]
  simp only[Bool.false_eq_true,false_or]
theorem nd_key {p:List Int}{own k n e:Int}(h:kyD p 0=(k,n,e))(he:e≠0):ndQ own p=none:=by
 have r:ryD p 0 false=(k,n,true):=by
  unfold ryD
  rw[h]
  simp[he]
 unfold ndQ
 rw[r]
 dsimp only
 rw[rvD_tt]
 dsimp only
 rw[rvD_tt]
 dsimp only
 rw[rvD_tt]
 dsimp only
 rw[if_pos (.inl rfl)]
theorem ky_ok {p:List Int}{k n:Int}(h:kyD p 0=(k,n,0)):8<=p.length/\n=8:=by
 unfold kyD at h
 split at h
 ·simp at h
 ·split at h
  ·simp at h
  ·simp only[Prod.mk.injEq] at h
   omega
theorem nd_none {p:List Int}{own k:Int}(h:kyD p 0=(k,8,0))(hn:rnD p 3 8=none):ndQ own p=none:=by
 have r:ryD p 0 false=(k,8,false):=by
  unfold ryD
  rw[h];rfl
 obtain⟨u1,n1,f1,u2,n2,f2,u3,n3,f3,a,b,c,d,_⟩:=rn3 p 8
 rcases d with ⟨d,_⟩|⟨_,d⟩
 ·unfold ndQ
  rw[r]
  dsimp only
  rw[a]
  dsimp only
  rw[b]
  dsimp only
  rw[c]
  dsimp only
  rw[if_pos (.inl d)]
 ·rw[d] at hn;cases hn
theorem nd_some {p l:List Int}{own k q:Int}(hb:allB p)(h:kyD p 0=(k,8,0))(hn:rnD p 3 8=some (l,q)):∃ v x y,l=[v,x,y]/\(0<=v/\v<18446744073709551616)/\ndQ own p=if q≠(p.length:Int)∨own<=x∨own<=y then none else some ⟨k,uz v,x,y⟩:=by
 have r:ryD p 0 false=(k,8,false):=by
  unfold ryD
  rw[h];rfl
 obtain⟨u1,n1,f1,u2,n2,f2,u3,n3,f3,a,b,c,d,e⟩:=rn3 p 8
 rcases d with ⟨_,d⟩|⟨df,d⟩
 ·rw[d] at hn;cases hn
 ·rw[d] at hn
  injection hn with hn
  injection hn with h1 h2
  subst h2
  have e:=e hb df
  refine⟨u1,u2,u3,h1.symm,e.1,?_⟩
  unfold ndQ
  rw[r]
  dsimp only
  rw[a]
  dsimp only
  rw[b]
  dsimp only
  rw[c]
  dsimp only
  rw[df]
  simp only[Bool.false_eq_true,false_or]
theorem tlG_rn (top:Int)(b:List Int):∀ (n:Nat) (at_:Int),(∀ l q,rnD b n at_=some (l,q)->(∀ u∈l,u<=top)->tlG top b n at_=some (l,q))/\(rnD b n at_=none->tlG top b n at_=none)/\(∀ l q,rnD b n at_=some (l,q)->¬ (∀ u∈l,u<=top)->tlG top b n at_=none)
 | 0,at_=>by
  refine⟨fun l q h _=>h,(fun h=>by cases h),fun l q h c=>?_⟩
  have:([],at_)=(l,q):=Option.some.inj h
  injection this with e _
  exact absurd (fun u hu=>by rw[← e] at hu;cases hu) c
 | n+1,at_=>by
  obtain⟨u,n1,e,h1⟩:∃ u n e,uvD b at_=(u,n,e):=⟨_,_,_,rfl⟩
  obtain⟨i1,i2,i3⟩:=tlG_rn top b n n1
  have hr:=rn_succ (n:=n) h1
  have hg:tlG top b (n+1) at_=if (e != 0)=true∨top<u then none else (tlG top b n n1).map fun (q:List Int × Int)=>(u::q.1,q.2):=by
   show (match rvD b at_ false with
    | (u,n1,f)=>if f=true∨top<u then none else (tlG top b n n1).map fun (q:List Int × Int)=>(u::q.1,q.2))=_
   rw[rvD_eq h1]
  by_cases c:e=0
  ·subst c
   rw[if_neg (by simp)] at hr
   cases g:rnD b n n1 with
   | none =>
    rw[g] at hr
    refine⟨(fun l q h=>by rw[hr] at h;cases h),fun _=>?_,(fun l q h=>by rw[hr] at h;cases h)⟩
    rw[hg,i2 g]
    split<;>rfl
   | some w =>
    obtain⟨l',q'⟩:=w
    rw[g] at hr
    have hr:rnD b (n+1) at_=some (u::l',q'):=hr
    refine⟨fun l q h ht=>?_,(fun h=>by rw[hr] at h;cases h),fun l q h ht=>?_⟩
    ·rw[hr] at h
     have h:=Option.some.inj h
     injection h with h1 h2
     subst h1 h2
     have tu:=ht u (by simp)
     rw[hg,if_neg (by rintro (q|q)<;>first|(simp at q;done)|omega),i1 l' q' g fun x hx=>ht x (List.mem_cons_of_mem _ hx)];rfl
    ·rw[hr] at h
     have h:=Option.some.inj h
     injection h with h1 h2
     subst h1 h2
     rw[hg]
     by_cases d:top<u
     ·rw[if_pos (.inr d)]
     ·rw[if_neg (by rintro (q|q)<;>first|(simp at q;done)|exact d q),i3 l' q' g fun k=>ht fun x hx=>by
       rcases List.mem_cons.1 hx with e|hx
       ·rw[e];omega
       ·exact k x hx];rfl
  ·rw[if_pos c] at hr
   refine⟨(fun l q h=>by rw[hr] at h;cases h),fun _=>?_,(fun l q h=>by rw[hr] at h;cases h)⟩
   rw[hg,if_pos (.inl (by simp[c]))]
theorem tl_none {top:Int}{n:Nat}{b:List Int}(h:rnD b n 0=none):tlD top n b=none:=by
 unfold tlD
 rw[(tlG_rn top b n 0).2.1 h]
theorem tl_bad {top q:Int}{n:Nat}{b l:List Int}(h:rnD b n 0=some (l,q))(c:q≠(b.length:Int)∨¬ ∀ u∈l,u<=top):tlD top n b=none:=by
 unfold tlD
 by_cases d:∀ u∈l,u<=top
 ·rw[(tlG_rn top b n 0).1 l q h d]
  dsimp only
  rw[if_neg (c.resolve_right (fun k=>k d))]
 ·rw[(tlG_rn top b n 0).2.2 l q h d]
theorem tl_ok {top q:Int}{n:Nat}{b l:List Int}(h:rnD b n 0=some (l,q))(c:q=(b.length:Int))(d:∀ u∈l,u<=top):tlD top n b=some l:=by
 unfold tlD
 rw[(tlG_rn top b n 0).1 l q h d]
 dsimp only
 rw[if_pos c]
theorem rn_len {b:List Int}:∀ {n:Nat} {at_:Int} {l:List Int} {q:Int},rnD b n at_=some (l,q)->l.length=n
 | 0,at_,l,q,h=>by
  have:([],at_)=(l,q):=Option.some.inj h
  injection this with e _
  rw[← e];rfl
 | n+1,at_,l,q,h=>by
  obtain⟨u,n1,e,h1⟩:∃ u n e,uvD b at_=(u,n,e):=⟨_,_,_,rfl⟩
  rw[rn_succ h1] at h
  split at h
  ·cases h
  ·cases g:rnD b n n1 with
   | none=>rw[g] at h;cases h
   | some w =>
    rw[g] at h
    have h:=Option.some.inj h
    injection h with h2 _
    rw[← h2,List.length_cons,rn_len (l:=w.1) (q:=w.2) g]
def PNmR (b:List Int)(at0:Int)(n:Nat):List Int->Int->Nat->Prop:=fun o at_ i=>i<=n/\o.length=i/\rnD b n at0=(rnD b (n-i) at_).map fun (q:List Int × Int)=>(o++q.1,q.2)
theorem vc_nmR (b:List Int)(at_ n:Int)(K:KT)(hb:allB b)(hl:b.length<=1000000000)(n0:0<=n)(n1:n<=1000000)(h:∀ l q ok,rnR b n.toNat at_ l q ok->K (.tup [.at (.slc 1),.at (vI q),.at (vB ok)]) [.row false EC.u8 b,.row true EC.u64 l] []) :
  vc C0 (aNmR (PNmR b at_ n.toNat) b n) Tryz.f49 [.at (.slc 0),.at (vI at_),.at (vI n)] [.row false EC.u8 b] (normK 1 K):=by
 generalize hP:PNmR b at_ n.toNat=P
 refine Eq.mp (show ((∃ x:XNm P,True/\(True/\VI (at_)=VI (x.at_)/\VI (n)=VI (n)/\True/\VI 0=(VI (x.i:Int))/\True)/\b=b/\[]=x.o/\True)/\∀ x:XNm P,True->brS (decide ((x.i:Int)<n)) (allB b/\b.length<=1000000000000/\∀ u:Int,∀ n1:Int,∀ e:Int,uvD b x.at_=(Prod.mk (u) (Prod.mk (n1) (e)))->brS (e != 0) (K (.tup [(.at (.slc 1)),(.at (.val (VI 0))),(.at (.val (Value.bool false)))]) [(.row false EC.u8 (b)),(.row true EC.u64 [])] []) ((x.o.length+[u].length)*bytesOf C0 EC.u64<=140737488355328/\∃ x':XNm P,True/\((True/\VI (n1)=VI (x'.at_)/\VI (n)=VI (n)/\True/\(VI (IntKind.i64.wrap ((x.i:Int)+1)))=(VI (x'.i:Int))/\True)/\b=b/\(x.o++[u])=x'.o/\True)/\n.toNat-x'.i<n.toNat-x.i)) (K (.tup [(.at (.slc 1)),(.at (.val (VI (x.at_)))),(.at (.val (Value.bool true)))]) [(.row false EC.u8 (b)),(.row true EC.u64 (x.o))] []))=_ by kernel_rfl) ?_
 subst hP
 rw[bytes_u64]
 refine⟨⟨⟨[],at_,0,Nat.zero_le _,rfl,?_⟩,trivial,⟨trivial,rfl,rfl,trivial,rfl,trivial⟩,rfl,rfl,trivial⟩,fun x _=>brS_of (fun y=>?_) fun y=>?_⟩
 ·rw[Nat.sub_zero]
  cases rnD b n.toNat at_<;>rfl
 ·obtain⟨o,a,i,hi,ol,e⟩:=x
  dsimp only at y ⊢
  have yi:i<n.toNat:=by have:=of_decide_eq_true y;omega
  clear y
  rw[wrap_id (x:=(i:Int)+1) (by omega) (by omega)]
  obtain⟨d,ed⟩:∃ d,n.toNat-i=d+1:=⟨n.toNat-i-1,by omega⟩
  refine⟨hb,by omega,fun u n2 e2 he=>?_⟩
  rw[ed,rn_succ he] at e
  refine brS_of (fun z=>h [] 0 false (.inr ⟨rfl,?_,rfl,rfl⟩)) fun z=>⟨by rw[List.length_singleton];omega,⟨o++[u],n2,i+1,yi,by rw[List.length_append,ol];rfl,?_⟩,trivial,⟨⟨trivial,rfl,rfl,trivial,rfl,trivial⟩,rfl,rfl,trivial⟩,by show n.toNat-(i+1)<n.toNat-i;omega⟩
  ·rw[e,if_pos (by intro k;rw[k] at z;simp at z)];rfl
  ·rw[e,if_neg (by simpa using z),show n.toNat-(i+1)=d by omega]
   cases rnD b d n2 with
   | none=>rfl
   | some w=>show some _=some _;simp[List.append_assoc]
 ·obtain⟨o,a,i,hi,ol,e⟩:=x
  dsimp only at y ⊢
  have yi:n.toNat-i=0:=by have:=of_decide_eq_false y;omega
  rw[yi] at e
  refine h o a true (.inl ⟨rfl,?_⟩)
  rw[e]
  show some _=some _
  simp
theorem s_nmR:SoundT C0 49 tNmR:=by
 refine .of Tryz.func49 (by decide) rfl fun args H K h hB=>?_
 unfold tNmR at h
 split at h<;>try exact h.elim
 rename_i at_ n b
 obtain⟨h1,h2,h3,h4,h5⟩:=h
 exact⟨aNmR (PNmR b at_ n.toNat) b n,⟨frame C0.ok s_ur _,trivial⟩,vc_nmR b at_ n K h1 h2 h3 h4 h5⟩
structure RdF (b p:List Int) (at_:Int):Prop where
 mg:mgD magB b=0
 nx:nxD b 4=(p,at_,0)
 pb:allB p
 pl:p.length<=b.length
def PQ1 (b:List Int):ZRd->Prop:=fun z=>RdF b z.p z.at_
structure RdG (b p:List Int) (at_ k m r q:Int):Prop where
 f:RdF b p at_
 rn:rnD p 3 0=some ([k,m,r],q)
 b4:(p.length:Int)-q=4
 q0:0<=q
 k0:0<=k/\k<=65536
 m0:0<=m/\m<=65536
 r0:0<=r/\r<=4096
 hd:hdD p=some (k,m,r,wD (p.drop q.toNat))
def PQ2 (b:List Int):ZRd->Prop:=fun z=>∃ k m r,z.h=[k,m,r]/\RdG b z.p z.at_ k m r z.q
def PQ3 (b:List Int):ZRd->Prop:=fun z=>RdG b z.p z.at_ z.k z.m z.r z.q/\z.ns=[]/\z.i<=4/\z.D=wD ((z.p.drop z.q.toNat).take z.i)/\0<=z.D/\z.D<256 ^ z.i
def PQ4 (b:List Int):ZRd->Prop:=fun z=>ReF b z.k z.m z.r z.D z.at_/\z.ns=[]
def PQ5 (b:List Int):ZRd->Prop:=fun z=>∃ n0,ReF b z.k z.m z.r z.D n0/\z.i<=z.m.toNat/\z.ns.length=z.i/\nsD b z.k z.m.toNat n0 []=nsD b z.k (z.m.toNat-z.i) z.at_ z.ns
def PQ6 (b:List Int):ZRd->Prop:=fun z=>∃ n0 a0,ReF b z.k z.m z.r z.D n0/\z.i<z.m.toNat/\z.ns.length=z.i/\nsD b z.k z.m.toNat n0 []=nsD b z.k (z.m.toNat-z.i) a0 z.ns/\nxD b a0=(z.p,z.at_,0)
def PQ7 (b:List Int):ZRd->Prop:=fun z=>∃ n0 v x y,ReF b z.k z.m z.r z.D n0/\z.i<z.m.toNat/\z.ns.length=z.i/\z.u=[v,x,y]/\(0<=v/\v<18446744073709551616)/\nsD b z.k z.m.toNat n0 []=nsD b z.k (z.m.toNat-(z.i+1)) z.at_ (z.ns++[⟨z.key,uz v,x,y⟩])
structure RdH (b:List Int) (z:ZRd) (n0 n1:Int):Prop where
 f:ReF b z.k z.m z.r z.D n0
 nl:z.ns.length=z.m.toNat
 ns:nsD b z.k z.m.toNat n0 []=(0,z.ns,n1)
def PQ8 (b:List Int):ZRd->Prop:=fun z=>∃ n0,RdH b z n0 z.at_
def PQ9 (b:List Int):ZRd->Prop:=fun z=>∃ n0 n1,RdH b z n0 n1/\nxD b n1=(z.p,z.at_,0)
def PQA (b:List Int):ZRd->Prop:=fun z=>∃ n0 n1 p,RdH b z n0 n1/\nxD b n1=(p,(b.length:Int),0)/\rnD p z.r.toNat 0=some (z.u,(p.length:Int))
def PQB (b:List Int):ZRd->Prop:=fun z=>PQA b z/\z.i<=z.u.length/\∀ x∈z.u.take z.i,x<=z.k+z.m
def PQC (b:List Int):ZRd->Prop:=fun z=>PQA b z/\∀ x∈z.u,x<=z.k+z.m
theorem PQA.at_ {b:List Int}{z:ZRd}(h:PQA b z)(n:Nat):PQA b { z with i:=n }:=by
 obtain⟨n0,n1,p,H,he,hr⟩:=h
 exact⟨n0,n1,p,⟨H.f,H.nl,H.ns⟩,he,hr⟩
theorem RdH.pk {b:List Int}{z:ZRd}{n0 n1:Int}(h:RdH b z n0 n1){p:List Int}{n e:Int}(hn:nxD b n1=(p,n,e)):pkD b=if e≠0 then (e,.zero) else match tlD (z.k+z.m) z.r.toNat p with
     | none=>(13,.zero)
     | some rs=>if n=(b.length:Int) then (0,⟨z.k,z.D,z.ns,rs⟩) else (13,.zero):=by
 have m2:=h.f.rng.2.1
 have q:=h.f.pk h.ns
 rw[if_neg (by simp),hn] at q
 rw[q,h.nl,Int.toNat_of_nonneg m2.1]
 rfl
set_option maxRecDepth 20000 in
theorem vc_rdR (b:List Int)(K:KT)(hb:allB b)(hl:b.length<=1000000000)(h:∀ e p m r,pkD b=(e,p)->m=(p.nodes.length:Int)->r=(p.roots.length:Int)->K (.tup [.agg [vU64 p.known,vU64 m,vU64 r,vU64 p.digest,.slc 1,.slc 2,.slc 3,.slc 4],.at (vI e)]) [.row false EC.u8 b,.row true EC.node (ndsR p.nodes),.row true EC.u64 (lfsR p.nodes),.row true EC.u64 (rgsR p.nodes),.row true EC.u64 p.roots] []) :
  vc C0 (aRdR (PQ1 b) (PQ2 b) (PQ3 b) (PQ4 b) (PQ5 b) (PQ6 b) (PQ7 b) (PQ8 b) (PQ9 b) (PQA b) (PQB b) (PQC b) b) Tryz.f13 [.at (.slc 0)] [.row false EC.u8 b] (normK 1 K):=by
 generalize hP1:PQ1 b=P1
 generalize hP2:PQ2 b=P2
 generalize hP3:PQ3 b=P3
 generalize hP4:PQ4 b=P4
 generalize hP5:PQ5 b=P5
 generalize hP6:PQ6 b=P6
 generalize hP7:PQ7 b=P7
 generalize hP8:PQ8 b=P8
 generalize hP9:PQ9 b=P9
 generalize hPA:PQA b=PA
 generalize hPB:PQB b=PB
 generalize hPC:PQC b=PC
 refine Eq.mp (show (brS (0==(b.length:Int)) (K (.tup [(TV.agg [(.val (VW 0)),(.val (VW 0)),(.val (VW 0)),(.val (VW 0)),(.slc 1),(.slc 2),(.slc 3),(.slc 4)]),(.at (.val (VI 12)))]) [(.row false EC.u8 (b)),(.row true EC.node []),(.row true EC.u64 []),(.row true EC.u64 []),(.row true EC.u64 [])] []) ((0:Int)<=0/\0<(b.length:Int)/\brS (getB b (Int.toNat 0) != 86) (K (.tup [(TV.agg [(.val (VW 0)),(.val (VW 0)),(.val (VW 0)),(.val (VW 0)),(.slc 1),(.slc 2),(.slc 3),(.slc 4)]),(.at (.val (VI 13)))]) [(.row false EC.u8 (b)),(.row true EC.node []),(.row true EC.u64 []),(.row true EC.u64 []),(.row true EC.u64 [])] []) (brS (IntKind.i64.wrap (0+1)==(b.length:Int)) (K (.tup [(TV.agg [(.val (VW 0)),(.val (VW 0)),(.val (VW 0)),(.val (VW 0)),(.slc 1),(.slc 2),(.slc 3),(.slc 4)]),(.at (.val (VI 12)))]) [(.row false EC.u8 (b)),(.row true EC.node []),(.row true EC.u64 []),(.row true EC.u64 []),(.row true EC.u64 [])] []) (0<=IntKind.i64.wrap (0+1)/\IntKind.i64.wrap (0+1)<(b.length:Int)/\brS (getB b (IntKind.i64.wrap (0+1)).toNat != 77) (K (.tup [(TV.agg [(.val (VW 0)),(.val (VW 0)),(.val (VW 0)),(.val (VW 0)),(.slc 1),(.slc 2),(.slc 3),(.slc 4)]),(.at (.val (VI 13)))]) [(.row false EC.u8 (b)),(.row true EC.node []),(.row true EC.u64 []),(.row true EC.u64 []),(.row true EC.u64 [])] []) (brS (IntKind.i64.wrap (IntKind.i64.wrap (0+1)+1)==(b.length:Int)) (K (.tup [(TV.agg [(.val (VW 0)),(.val (VW 0)),(.val (VW 0)),(.val (VW 0)),(.slc 1),(.slc 2),(.slc 3),(.slc 4)]),(.at (.val (VI 12)))]) [(.row false EC.u8 (b)),(.row true EC.node []),(.row true EC.u64 []),(.row true EC.u64 []),(.row true EC.u64 [])] []) (0<=IntKind.i64.wrap (IntKind.i64.wrap (0+1)+1)/\
 IntKind.i64.wrap (IntKind.i64.wrap (0+1)+1)<(b.length:Int)/\brS (getB b (IntKind.i64.wrap (IntKind.i64.wrap (0+1)+1)).toNat != 80) (K (.tup [(TV.agg [(.val (VW 0)),(.val (VW 0)),(.val (VW 0)),(.val (VW 0)),(.slc 1),(.slc 2),(.slc 3),(.slc 4)]),(.at (.val (VI 13)))]) [(.row false EC.u8 (b)),(.row true EC.node []),(.row true EC.u64 []),(.row true EC.u64 []),(.row true EC.u64 [])] []) (brS (IntKind.i64.wrap (IntKind.i64.wrap (IntKind.i64.wrap (0+1)+1)+1)==(b.length:Int)) (K (.tup [(TV.agg [(.val (VW 0)),(.val (VW 0)),(.val (VW 0)),(.val (VW 0)),(.slc 1),(.slc 2),(.slc 3),(.slc 4)]),(.at (.val (VI 12)))]) [(.row false EC.u8 (b)),(.row true EC.node []),(.row true EC.u64 []),(.row true EC.u64 []),(.row true EC.u64 [])] []) (0<=IntKind.i64.wrap (IntKind.i64.wrap (IntKind.i64.wrap (0+1)+1)+1)/\IntKind.i64.wrap (IntKind.i64.wrap (IntKind.i64.wrap (0+1)+1)+1)<(b.length:Int)/\brS (getB b (IntKind.i64.wrap (IntKind.i64.wrap (IntKind.i64.wrap (0+1)+1)+1)).toNat != 49) (K (.tup [(TV.agg [(.val (VW 0)),(.val (VW 0)),(.val (VW 0)),(.val (VW 0)),(.slc 1),(.slc 2),(.slc 3),(.slc 4)]),(.at (.val (VI 13)))]) [(.row false EC.u8 (b)),(.row true EC.node []),(.row true EC.u64 []),(.row true EC.u64 []),(.row true EC.u64 [])] []) (∃ x:PLift (mgD magB b=0),True/\(True/\True/\True)/\b=b/\(VW 0=VW 0/\VW 0=VW 0/\VW 0=VW 0/\VW 0=VW 0/\True/\True/\True/\True/\True)/\([]:List NodeT)=[]/\([]:List Int)=[]/\([]:List Int)=[]/\([]:List Int)=[]/\True))))))))/\∀ x:PLift (mgD magB b=0),True->allB b/\b.length<=1000000000/\
 ∀ p:List Int,∀ n:Int,∀ e:Int,nxD b 4=(Prod.mk (p) (Prod.mk (n) (e)))->brS (e != 0) (K (.tup [(TV.agg [(.val (VW 0)),(.val (VW 0)),(.val (VW 0)),(.val (VW 0)),(.slc 1),(.slc 2),(.slc 3),(.slc 4)]),(.at (.val (VI (e))))]) [(.row false EC.u8 (b)),(.row true EC.node []),(.row true EC.u64 []),(.row true EC.u64 []),(.row true EC.u64 [])] []) (∃ x1:XRdR P1,True/\(True/\True/\True/\VI (n)=VI (x1.z.at_)/\True)/\b=b/\(VW 0=VW 0/\VW 0=VW 0/\VW 0=VW 0/\VW 0=VW 0/\True/\True/\True/\True/\True)/\([]:List NodeT)=[]/\([]:List Int)=[]/\([]:List Int)=[]/\([]:List Int)=[]/\p=x1.z.p/\True)/\∀ x1:XRdR P1,True->allB x1.z.p/\x1.z.p.length<=1000000000/\(0:Int)<=3/\(3:Int)<=1000000/\∀ l:List Int,∀ q:Int,∀ ok:Bool,rnR x1.z.p (Int.toNat 3) 0 l q ok->brS (!ok) (K (.tup [(TV.agg [(.val (VW 0)),(.val (VW 0)),(.val (VW 0)),(.val (VW 0)),(.slc 1),(.slc 2),(.slc 3),(.slc 4)]),(.at (.val (VI 13)))]) [(.row false EC.u8 (b)),(.row true EC.node []),(.row true EC.u64 []),(.row true EC.u64 []),(.row true EC.u64 [])] []) (brS (IntKind.i64.wrap ((x1.z.p.length:Int)-q) != 4) (K (.tup [(TV.agg [(.val (VW 0)),(.val (VW 0)),(.val (VW 0)),(.val (VW 0)),(.slc 1),(.slc 2),(.slc 3),(.slc 4)]),(.at (.val (VI 13)))]) [(.row false EC.u8 (b)),(.row true EC.node []),(.row true EC.u64 []),(.row true EC.u64 []),(.row true EC.u64 [])] []) ((0:Int)<=0/\0<(l.length:Int)/\brS (decide (getB l (Int.toNat 0)>65536)) (K (.tup [(TV.agg [(.val (VW 0)),(.val (VW 0)),(.val (VW 0)),(.val (VW 0)),(.slc 1),(.slc 2),(.slc 3),(.slc 4)]),(.at (.val (VI 13)))]) [(.row false EC.u8 (b)),(.row true EC.node []),(.row true EC.u64 []),(.row true EC.u64 []),(.row true EC.u64 [])] []) ((0:Int)<=1/\
 1<(l.length:Int)/\brS (decide (getB l (Int.toNat 1)>65536)) (K (.tup [(TV.agg [(.val (VW 0)),(.val (VW 0)),(.val (VW 0)),(.val (VW 0)),(.slc 1),(.slc 2),(.slc 3),(.slc 4)]),(.at (.val (VI 13)))]) [(.row false EC.u8 (b)),(.row true EC.node []),(.row true EC.u64 []),(.row true EC.u64 []),(.row true EC.u64 [])] []) ((0:Int)<=2/\2<(l.length:Int)/\brS (decide (getB l (Int.toNat 2)>4096)) (K (.tup [(TV.agg [(.val (VW 0)),(.val (VW 0)),(.val (VW 0)),(.val (VW 0)),(.slc 1),(.slc 2),(.slc 3),(.slc 4)]),(.at (.val (VI 13)))]) [(.row false EC.u8 (b)),(.row true EC.node []),(.row true EC.u64 []),(.row true EC.u64 []),(.row true EC.u64 [])] []) (∃ x2:XRdR P2,True/\(True/\True/\True/\VI (x1.z.at_)=VI (x2.z.at_)/\True/\VI (q)=VI (x2.z.q)/\True)/\b=b/\(VW 0=VW 0/\VW 0=VW 0/\VW 0=VW 0/\VW 0=VW 0/\True/\True/\True/\True/\True)/\([]:List NodeT)=[]/\([]:List Int)=[]/\([]:List Int)=[]/\([]:List Int)=[]/\x1.z.p=x2.z.p/\l=x2.z.h/\True)))))/\∀ x2:XRdR P2,True->(0:Int)<=0/\0<(x2.z.h.length:Int)/\(0:Int)<=1/\1<(x2.z.h.length:Int)/\(0:Int)<=2/\2<(x2.z.h.length:Int)/\((∃ x3:XRdR P3,True/\(True/\True/\True/\VI (x2.z.at_)=VI (x3.z.at_)/\VI (x2.z.q)=VI (x3.z.q)/\True/\VI 0=(VI (x3.z.i:Int))/\True)/\b=b/\(VW 0=VW 0/\VW 0=VW 0/\VW 0=VW 0/\VW 0=VW 0/\True/\True/\True/\True/\True)/\([]:List NodeT)=[]/\([]:List Int)=[]/\([]:List Int)=[]/\([]:List Int)=[]/\((VW (getB x2.z.h (Int.toNat 0)))=(VW (x3.z.k))/\(VW (getB x2.z.h (Int.toNat 1)))=(VW (x3.z.m))/\(VW (getB x2.z.h (Int.toNat 2)))=(VW (x3.z.r))/\VW 0=(VW (x3.z.D))/\
 True/\True/\True/\True/\True)/\[]=ndsR x3.z.ns/\[]=lfsR x3.z.ns/\[]=rgsR x3.z.ns/\([]:List Int)=[]/\x2.z.p=x3.z.p/\True)/\∀ x3:XRdR P3,True->brS (decide ((x3.z.i:Int)<4)) (0<=IntKind.i64.wrap (x3.z.q+(x3.z.i:Int))/\IntKind.i64.wrap (x3.z.q+(x3.z.i:Int))<(x3.z.p.length:Int)/\∃ x':XRdR P3,True/\((True/\True/\True/\VI (x3.z.at_)=VI (x'.z.at_)/\VI (x3.z.q)=VI (x'.z.q)/\True/\(VI (IntKind.i64.wrap ((x3.z.i:Int)+1)))=(VI (x'.z.i:Int))/\True)/\b=b/\(VW 0=VW 0/\VW 0=VW 0/\VW 0=VW 0/\VW 0=VW 0/\True/\True/\True/\True/\True)/\([]:List NodeT)=[]/\([]:List Int)=[]/\([]:List Int)=[]/\([]:List Int)=[]/\(VW (x3.z.k)=VW (x'.z.k)/\VW (x3.z.m)=VW (x'.z.m)/\VW (x3.z.r)=VW (x'.z.r)/\(VW (IntKind.u64.wrap (IntKind.u64.wrap (256*x3.z.D)+IntKind.u64.wrap (getB x3.z.p (IntKind.i64.wrap (x3.z.q+(x3.z.i:Int))).toNat))))=(VW (x'.z.D))/\True/\True/\True/\True/\True)/\ndsR x3.z.ns=ndsR x'.z.ns/\lfsR x3.z.ns=lfsR x'.z.ns/\rgsR x3.z.ns=rgsR x'.z.ns/\([]:List Int)=[]/\x3.z.p=x'.z.p/\True)/\4-x'.z.i<4-x3.z.i) (∃ x4:XRdR P4,True/\(True/\True/\VI (x3.z.at_)=VI (x4.z.at_)/\True/\True)/\b=b/\(VW 0=VW 0/\VW 0=VW 0/\VW 0=VW 0/\VW 0=VW 0/\True/\True/\True/\True/\True)/\([]:List NodeT)=[]/\([]:List Int)=[]/\([]:List Int)=[]/\([]:List Int)=[]/\(VW (x3.z.k)=VW (x4.z.k)/\VW (x3.z.m)=VW (x4.z.m)/\VW (x3.z.r)=VW (x4.z.r)/\VW (x3.z.D)=VW (x4.z.D)/\True/\True/\True/\True/\True)/\ndsR x3.z.ns=ndsR x4.z.ns/\lfsR x3.z.ns=lfsR x4.z.ns/\rgsR x3.z.ns=rgsR x4.z.ns/\([]:List Int)=[]/\True))/\∀ x3:XRdR P4,True->((∃ x4:XRdR P5,True/\
 (True/\True/\VI (x3.z.at_)=VI (x4.z.at_)/\True/\VW 0=(VW (x4.z.i:Int))/\True)/\b=b/\(VW 0=VW 0/\VW 0=VW 0/\VW 0=VW 0/\VW 0=VW 0/\True/\True/\True/\True/\True)/\([]:List NodeT)=[]/\([]:List Int)=[]/\([]:List Int)=[]/\([]:List Int)=[]/\(VW (x3.z.k)=VW (x4.z.k)/\VW (x3.z.m)=VW (x4.z.m)/\VW (x3.z.r)=VW (x4.z.r)/\VW (x3.z.D)=VW (x4.z.D)/\True/\True/\True/\True/\True)/\ndsR x3.z.ns=ndsR x4.z.ns/\lfsR x3.z.ns=lfsR x4.z.ns/\rgsR x3.z.ns=rgsR x4.z.ns/\([]:List Int)=[]/\True)/\∀ x4:XRdR P5,True->brS (decide ((x4.z.i:Int)<x4.z.m)) (allB b/\b.length<=1000000000/\∀ p1:List Int,∀ n1:Int,∀ e1:Int,nxD b x4.z.at_=(Prod.mk (p1) (Prod.mk (n1) (e1)))->brS (e1 != 0) (K (.tup [(TV.agg [(.val (VW 0)),(.val (VW 0)),(.val (VW 0)),(.val (VW 0)),(.slc 1),(.slc 2),(.slc 3),(.slc 4)]),(.at (.val (VI (e1))))]) [(.row false EC.u8 (b)),(.row true EC.node []),(.row true EC.u64 []),(.row true EC.u64 []),(.row true EC.u64 [])] []) (∃ x5:XRdR P6,((x4.z.i:Int))=((x5.z.i:Int))/\(True/\True/\True/\VI (n1)=VI (x5.z.at_)/\True/\VW (x4.z.i:Int)=VW (x5.z.i:Int)/\True)/\b=b/\(VW 0=VW 0/\VW 0=VW 0/\VW 0=VW 0/\VW 0=VW 0/\True/\True/\True/\True/\True)/\([]:List NodeT)=[]/\([]:List Int)=[]/\([]:List Int)=[]/\([]:List Int)=[]/\(VW (x4.z.k)=VW (x5.z.k)/\VW (x4.z.m)=VW (x5.z.m)/\VW (x4.z.r)=VW (x5.z.r)/\VW (x4.z.D)=VW (x5.z.D)/\True/\True/\True/\True/\True)/\ndsR x4.z.ns=ndsR x5.z.ns/\lfsR x4.z.ns=lfsR x5.z.ns/\rgsR x4.z.ns=rgsR x5.z.ns/\([]:List Int)=[]/\p1=x5.z.p/\True)/\∀ x5:XRdR P6,((x4.z.i:Int))=((x5.z.i:Int))->allB x5.z.p/\
 x5.z.p.length<=1000000000000/\∀ u:Int,∀ n2:Int,∀ e2:Int,kyD x5.z.p 0=(Prod.mk (u) (Prod.mk (n2) (e2)))->allB x5.z.p/\x5.z.p.length<=1000000000/\(0:Int)<=3/\(3:Int)<=1000000/\∀ l1:List Int,∀ q1:Int,∀ ok1:Bool,rnR x5.z.p (Int.toNat 3) (if (x5.z.p.length:Int)<8 then (x5.z.p.length:Int) else 8) l1 q1 ok1->brS (e2 != 0) (K (.tup [(TV.agg [(.val (VW 0)),(.val (VW 0)),(.val (VW 0)),(.val (VW 0)),(.slc 1),(.slc 2),(.slc 3),(.slc 4)]),(.at (.val (VI 13)))]) [(.row false EC.u8 (b)),(.row true EC.node []),(.row true EC.u64 []),(.row true EC.u64 []),(.row true EC.u64 [])] []) (brS (!ok1) (K (.tup [(TV.agg [(.val (VW 0)),(.val (VW 0)),(.val (VW 0)),(.val (VW 0)),(.slc 1),(.slc 2),(.slc 3),(.slc 4)]),(.at (.val (VI 13)))]) [(.row false EC.u8 (b)),(.row true EC.node []),(.row true EC.u64 []),(.row true EC.u64 []),(.row true EC.u64 [])] []) (brS (q1 != (x5.z.p.length:Int)) (K (.tup [(TV.agg [(.val (VW 0)),(.val (VW 0)),(.val (VW 0)),(.val (VW 0)),(.slc 1),(.slc 2),(.slc 3),(.slc 4)]),(.at (.val (VI 13)))]) [(.row false EC.u8 (b)),(.row true EC.node []),(.row true EC.u64 []),(.row true EC.u64 []),(.row true EC.u64 [])] []) ((0:Int)<=1/\1<(l1.length:Int)/\brS (decide (getB l1 (Int.toNat 1)≥IntKind.u64.wrap (IntKind.u64.wrap (x5.z.k+(x5.z.i:Int))+1))) (K (.tup [(TV.agg [(.val (VW 0)),(.val (VW 0)),(.val (VW 0)),(.val (VW 0)),(.slc 1),(.slc 2),(.slc 3),(.slc 4)]),(.at (.val (VI 13)))]) [(.row false EC.u8 (b)),(.row true EC.node []),(.row true EC.u64 []),(.row true EC.u64 []),(.row true EC.u64 [])] []) ((0:Int)<=2/\
 2<(l1.length:Int)/\brS (decide (getB l1 (Int.toNat 2)≥IntKind.u64.wrap (IntKind.u64.wrap (x5.z.k+(x5.z.i:Int))+1))) (K (.tup [(TV.agg [(.val (VW 0)),(.val (VW 0)),(.val (VW 0)),(.val (VW 0)),(.slc 1),(.slc 2),(.slc 3),(.slc 4)]),(.at (.val (VI 13)))]) [(.row false EC.u8 (b)),(.row true EC.node []),(.row true EC.u64 []),(.row true EC.u64 []),(.row true EC.u64 [])] []) (∃ x6:XRdR P7,((x5.z.i:Int))=((x6.z.i:Int))/\(True/\True/\VI (x5.z.at_)=VI (x6.z.at_)/\True/\VW (x5.z.i:Int)=VW (x6.z.i:Int)/\VI (u)=VI (x6.z.key)/\True/\True)/\b=b/\(VW 0=VW 0/\VW 0=VW 0/\VW 0=VW 0/\VW 0=VW 0/\True/\True/\True/\True/\True)/\([]:List NodeT)=[]/\([]:List Int)=[]/\([]:List Int)=[]/\([]:List Int)=[]/\(VW (x5.z.k)=VW (x6.z.k)/\VW (x5.z.m)=VW (x6.z.m)/\VW (x5.z.r)=VW (x6.z.r)/\VW (x5.z.D)=VW (x6.z.D)/\True/\True/\True/\True/\True)/\ndsR x5.z.ns=ndsR x6.z.ns/\lfsR x5.z.ns=lfsR x6.z.ns/\rgsR x5.z.ns=rgsR x6.z.ns/\([]:List Int)=[]/\l1=x6.z.u/\True)))))/\∀ x6:XRdR P7,((x5.z.i:Int))=((x6.z.i:Int))->(0:Int)<=1/\1<(x6.z.u.length:Int)/\(0:Int)<=2/\2<(x6.z.u.length:Int)/\((((lfsR x6.z.ns).length+[getB x6.z.u (Int.toNat 1)].length)*bytesOf C0 EC.u64<=140737488355328/\((rgsR x6.z.ns).length+[getB x6.z.u (Int.toNat 2)].length)*bytesOf C0 EC.u64<=140737488355328/\(0:Int)<=0/\0<(x6.z.u.length:Int)/\0<=getB x6.z.u (Int.toNat 0)/\getB x6.z.u (Int.toNat 0)<18446744073709551616/\∀ n3:Int,n3=(uz (getB x6.z.u (Int.toNat 0)))->((ndsR x6.z.ns).length+[{ key:=x6.z.key,value:=n3,left:=0,right:=0,size:=0,sum:=0,min:=0,max:=0:NodeT }].length)*bytesOf C0 EC.node<=140737488355328/\
 ∃ x':XRdR P5,True/\((True/\True/\VI (x6.z.at_)=VI (x'.z.at_)/\True/\(VW (IntKind.u64.wrap ((x6.z.i:Int)+1)))=(VW (x'.z.i:Int))/\True)/\b=b/\(VW 0=VW 0/\VW 0=VW 0/\VW 0=VW 0/\VW 0=VW 0/\True/\True/\True/\True/\True)/\([]:List NodeT)=[]/\([]:List Int)=[]/\([]:List Int)=[]/\([]:List Int)=[]/\(VW (x6.z.k)=VW (x'.z.k)/\VW (x6.z.m)=VW (x'.z.m)/\VW (x6.z.r)=VW (x'.z.r)/\VW (x6.z.D)=VW (x'.z.D)/\True/\True/\True/\True/\True)/\(ndsR x6.z.ns++[{ key:=x6.z.key,value:=n3,left:=0,right:=0,size:=0,sum:=0,min:=0,max:=0:NodeT }])=ndsR x'.z.ns/\(lfsR x6.z.ns++[getB x6.z.u (Int.toNat 1)])=lfsR x'.z.ns/\(rgsR x6.z.ns++[getB x6.z.u (Int.toNat 2)])=rgsR x'.z.ns/\([]:List Int)=[]/\True)/\70000-x'.z.i<70000-x4.z.i)/\((lfsR x6.z.ns).length+[getB x6.z.u (Int.toNat 1)].length)*bytesOf C0 EC.u64<=140737488355328/\((rgsR x6.z.ns).length+[getB x6.z.u (Int.toNat 2)].length)*bytesOf C0 EC.u64<=140737488355328/\(0:Int)<=0/\0<(x6.z.u.length:Int)/\0<=getB x6.z.u (Int.toNat 0)/\getB x6.z.u (Int.toNat 0)<18446744073709551616/\∀ n3:Int,n3=(uz (getB x6.z.u (Int.toNat 0)))->((ndsR x6.z.ns).length+[{ key:=x6.z.key,value:=n3,left:=0,right:=0,size:=0,sum:=0,min:=0,max:=0:NodeT }].length)*bytesOf C0 EC.node<=140737488355328/\∃ x':XRdR P5,True/\((True/\True/\VI (x6.z.at_)=VI (x'.z.at_)/\True/\(VW (IntKind.u64.wrap ((x6.z.i:Int)+1)))=(VW (x'.z.i:Int))/\True)/\b=b/\(VW 0=VW 0/\VW 0=VW 0/\VW 0=VW 0/\VW 0=VW 0/\True/\True/\True/\True/\True)/\([]:List NodeT)=[]/\([]:List Int)=[]/\([]:List Int)=[]/\([]:List Int)=[]/\(VW (x6.z.k)=VW (x'.z.k)/\
 VW (x6.z.m)=VW (x'.z.m)/\VW (x6.z.r)=VW (x'.z.r)/\VW (x6.z.D)=VW (x'.z.D)/\True/\True/\True/\True/\True)/\(ndsR x6.z.ns++[{ key:=x6.z.key,value:=n3,left:=0,right:=0,size:=0,sum:=0,min:=0,max:=0:NodeT }])=ndsR x'.z.ns/\(lfsR x6.z.ns++[getB x6.z.u (Int.toNat 1)])=lfsR x'.z.ns/\(rgsR x6.z.ns++[getB x6.z.u (Int.toNat 2)])=rgsR x'.z.ns/\([]:List Int)=[]/\True)/\70000-x'.z.i<70000-x4.z.i)/\((lfsR x6.z.ns).length+[getB x6.z.u (Int.toNat 1)].length)*bytesOf C0 EC.u64<=140737488355328/\((rgsR x6.z.ns).length+[getB x6.z.u (Int.toNat 2)].length)*bytesOf C0 EC.u64<=140737488355328/\(0:Int)<=0/\0<(x6.z.u.length:Int)/\0<=getB x6.z.u (Int.toNat 0)/\getB x6.z.u (Int.toNat 0)<18446744073709551616/\∀ n3:Int,n3=(uz (getB x6.z.u (Int.toNat 0)))->((ndsR x6.z.ns).length+[{ key:=x6.z.key,value:=n3,left:=0,right:=0,size:=0,sum:=0,min:=0,max:=0:NodeT }].length)*bytesOf C0 EC.node<=140737488355328/\∃ x':XRdR P5,True/\((True/\True/\VI (x6.z.at_)=VI (x'.z.at_)/\True/\(VW (IntKind.u64.wrap ((x6.z.i:Int)+1)))=(VW (x'.z.i:Int))/\True)/\b=b/\(VW 0=VW 0/\VW 0=VW 0/\VW 0=VW 0/\VW 0=VW 0/\True/\True/\True/\True/\True)/\([]:List NodeT)=[]/\([]:List Int)=[]/\([]:List Int)=[]/\([]:List Int)=[]/\(VW (x6.z.k)=VW (x'.z.k)/\VW (x6.z.m)=VW (x'.z.m)/\VW (x6.z.r)=VW (x'.z.r)/\VW (x6.z.D)=VW (x'.z.D)/\True/\True/\True/\True/\True)/\(ndsR x6.z.ns++[{ key:=x6.z.key,value:=n3,left:=0,right:=0,size:=0,sum:=0,min:=0,max:=0:NodeT }])=ndsR x'.z.ns/\(lfsR x6.z.ns++[getB x6.z.u (Int.toNat 1)])=lfsR x'.z.ns/\(rgsR x6.z.ns++[getB x6.z.u (Int.toNat 2)])=rgsR x'.z.ns/\
 ([]:List Int)=[]/\True)/\70000-x'.z.i<70000-x4.z.i) (∃ x5:XRdR P8,True/\(True/\True/\VI (x4.z.at_)=VI (x5.z.at_)/\True/\True)/\b=b/\(VW 0=VW 0/\VW 0=VW 0/\VW 0=VW 0/\VW 0=VW 0/\True/\True/\True/\True/\True)/\([]:List NodeT)=[]/\([]:List Int)=[]/\([]:List Int)=[]/\([]:List Int)=[]/\(VW (x4.z.k)=VW (x5.z.k)/\VW (x4.z.m)=VW (x5.z.m)/\VW (x4.z.r)=VW (x5.z.r)/\VW (x4.z.D)=VW (x5.z.D)/\True/\True/\True/\True/\True)/\ndsR x4.z.ns=ndsR x5.z.ns/\lfsR x4.z.ns=lfsR x5.z.ns/\rgsR x4.z.ns=rgsR x5.z.ns/\([]:List Int)=[]/\True))/\∀ x4:XRdR P8,True->allB b/\b.length<=1000000000/\∀ p1:List Int,∀ n1:Int,∀ e1:Int,nxD b x4.z.at_=(Prod.mk (p1) (Prod.mk (n1) (e1)))->brS (e1 != 0) (K (.tup [(TV.agg [(.val (VW 0)),(.val (VW 0)),(.val (VW 0)),(.val (VW 0)),(.slc 1),(.slc 2),(.slc 3),(.slc 4)]),(.at (.val (VI (e1))))]) [(.row false EC.u8 (b)),(.row true EC.node []),(.row true EC.u64 []),(.row true EC.u64 []),(.row true EC.u64 [])] []) (∃ x5:XRdR P9,True/\(True/\True/\True/\VI (n1)=VI (x5.z.at_)/\True/\True)/\b=b/\(VW 0=VW 0/\VW 0=VW 0/\VW 0=VW 0/\VW 0=VW 0/\True/\True/\True/\True/\True)/\([]:List NodeT)=[]/\([]:List Int)=[]/\([]:List Int)=[]/\([]:List Int)=[]/\(VW (x4.z.k)=VW (x5.z.k)/\VW (x4.z.m)=VW (x5.z.m)/\VW (x4.z.r)=VW (x5.z.r)/\VW (x4.z.D)=VW (x5.z.D)/\True/\True/\True/\True/\True)/\ndsR x4.z.ns=ndsR x5.z.ns/\lfsR x4.z.ns=lfsR x5.z.ns/\rgsR x4.z.ns=rgsR x5.z.ns/\([]:List Int)=[]/\p1=x5.z.p/\True)/\∀ x5:XRdR P9,True->allB x5.z.p/\x5.z.p.length<=1000000000/\0<=IntKind.i64.wrap x5.z.r/\IntKind.i64.wrap x5.z.r<=1000000/\
 ∀ l1:List Int,∀ q1:Int,∀ ok1:Bool,rnR x5.z.p (IntKind.i64.wrap x5.z.r).toNat 0 l1 q1 ok1->brS (!ok1) (K (.tup [(TV.agg [(.val (VW 0)),(.val (VW 0)),(.val (VW 0)),(.val (VW 0)),(.slc 1),(.slc 2),(.slc 3),(.slc 4)]),(.at (.val (VI 13)))]) [(.row false EC.u8 (b)),(.row true EC.node []),(.row true EC.u64 []),(.row true EC.u64 []),(.row true EC.u64 [])] []) (brS (q1 != (x5.z.p.length:Int)) (K (.tup [(TV.agg [(.val (VW 0)),(.val (VW 0)),(.val (VW 0)),(.val (VW 0)),(.slc 1),(.slc 2),(.slc 3),(.slc 4)]),(.at (.val (VI 13)))]) [(.row false EC.u8 (b)),(.row true EC.node []),(.row true EC.u64 []),(.row true EC.u64 []),(.row true EC.u64 [])] []) (brS (x5.z.at_ != (b.length:Int)) (K (.tup [(TV.agg [(.val (VW 0)),(.val (VW 0)),(.val (VW 0)),(.val (VW 0)),(.slc 1),(.slc 2),(.slc 3),(.slc 4)]),(.at (.val (VI 13)))]) [(.row false EC.u8 (b)),(.row true EC.node []),(.row true EC.u64 []),(.row true EC.u64 []),(.row true EC.u64 [])] []) (∃ x6:XRdR PA,True/\(True/\True/\True/\True)/\b=b/\(VW 0=VW 0/\VW 0=VW 0/\VW 0=VW 0/\VW 0=VW 0/\True/\True/\True/\True/\True)/\([]:List NodeT)=[]/\([]:List Int)=[]/\([]:List Int)=[]/\([]:List Int)=[]/\(VW (x5.z.k)=VW (x6.z.k)/\VW (x5.z.m)=VW (x6.z.m)/\VW (x5.z.r)=VW (x6.z.r)/\VW (x5.z.D)=VW (x6.z.D)/\True/\True/\True/\True/\True)/\ndsR x5.z.ns=ndsR x6.z.ns/\lfsR x5.z.ns=lfsR x6.z.ns/\rgsR x5.z.ns=rgsR x6.z.ns/\([]:List Int)=[]/\l1=x6.z.u/\True)))/\∀ x6:XRdR PA,True->((∃ x7:XRdR PB,True/\(True/\True/\True/\VI 0=(VI (x7.z.i:Int))/\True)/\b=b/\(VW 0=VW 0/\VW 0=VW 0/\VW 0=VW 0/\
 VW 0=VW 0/\True/\True/\True/\True/\True)/\([]:List NodeT)=[]/\([]:List Int)=[]/\([]:List Int)=[]/\([]:List Int)=[]/\(VW (x6.z.k)=VW (x7.z.k)/\VW (x6.z.m)=VW (x7.z.m)/\VW (x6.z.r)=VW (x7.z.r)/\VW (x6.z.D)=VW (x7.z.D)/\True/\True/\True/\True/\True)/\ndsR x6.z.ns=ndsR x7.z.ns/\lfsR x6.z.ns=lfsR x7.z.ns/\rgsR x6.z.ns=rgsR x7.z.ns/\([]:List Int)=[]/\x6.z.u=x7.z.u/\True)/\∀ x7:XRdR PB,True->brS (decide ((x7.z.i:Int)<(x7.z.u.length:Int))) (0<=(x7.z.i:Int)/\(x7.z.i:Int)<(x7.z.u.length:Int)/\brS (decide (getB x7.z.u (x7.z.i:Int).toNat>IntKind.u64.wrap (x7.z.k+x7.z.m))) (K (.tup [(TV.agg [(.val (VW 0)),(.val (VW 0)),(.val (VW 0)),(.val (VW 0)),(.slc 1),(.slc 2),(.slc 3),(.slc 4)]),(.at (.val (VI 13)))]) [(.row false EC.u8 (b)),(.row true EC.node []),(.row true EC.u64 []),(.row true EC.u64 []),(.row true EC.u64 [])] []) (∃ x':XRdR PB,True/\((True/\True/\True/\(VI (IntKind.i64.wrap ((x7.z.i:Int)+1)))=(VI (x'.z.i:Int))/\True)/\b=b/\(VW 0=VW 0/\VW 0=VW 0/\VW 0=VW 0/\VW 0=VW 0/\True/\True/\True/\True/\True)/\([]:List NodeT)=[]/\([]:List Int)=[]/\([]:List Int)=[]/\([]:List Int)=[]/\(VW (x7.z.k)=VW (x'.z.k)/\VW (x7.z.m)=VW (x'.z.m)/\VW (x7.z.r)=VW (x'.z.r)/\VW (x7.z.D)=VW (x'.z.D)/\True/\True/\True/\True/\True)/\ndsR x7.z.ns=ndsR x'.z.ns/\lfsR x7.z.ns=lfsR x'.z.ns/\rgsR x7.z.ns=rgsR x'.z.ns/\([]:List Int)=[]/\x7.z.u=x'.z.u/\True)/\x'.z.u.length-x'.z.i<x7.z.u.length-x7.z.i)) (∃ x8:XRdR PC,True/\(True/\True/\True/\True)/\b=b/\(VW 0=VW 0/\VW 0=VW 0/\VW 0=VW 0/\VW 0=VW 0/\True/\True/\True/\True/\True)/\
 ([]:List NodeT)=[]/\([]:List Int)=[]/\([]:List Int)=[]/\([]:List Int)=[]/\(VW (x7.z.k)=VW (x8.z.k)/\VW (x7.z.m)=VW (x8.z.m)/\VW (x7.z.r)=VW (x8.z.r)/\VW (x7.z.D)=VW (x8.z.D)/\True/\True/\True/\True/\True)/\ndsR x7.z.ns=ndsR x8.z.ns/\lfsR x7.z.ns=lfsR x8.z.ns/\rgsR x7.z.ns=rgsR x8.z.ns/\([]:List Int)=[]/\x7.z.u=x8.z.u/\True))/\∀ x7:XRdR PC,True->K (.tup [(TV.agg [(.val (VW (x7.z.k))),(.val (VW (x7.z.m))),(.val (VW (x7.z.r))),(.val (VW (x7.z.D))),(.slc 1),(.slc 2),(.slc 3),(.slc 4)]),(.at (.val (VI 0)))]) [(.row false EC.u8 (b)),(.row true EC.node (ndsR x7.z.ns)),(.row true EC.u64 (lfsR x7.z.ns)),(.row true EC.u64 (rgsR x7.z.ns)),(.row true EC.u64 (x7.z.u))] [])=_ by kernel_rfl) ?_
 subst hP1 hP2 hP3 hP4 hP5 hP6 hP7 hP8 hP9 hPA hPB hPC
 have er:∀ e,pkD b=(e,.zero)->K (.tup [.agg [vU64 0,vU64 0,vU64 0,vU64 0,.slc 1,.slc 2,.slc 3,.slc 4],.at (vI e)]) [.row false EC.u8 b,.row true EC.node [],.row true EC.u64 [],.row true EC.u64 [],.row true EC.u64 []] []:=fun e q=>h e .zero 0 0 q rfl rfl
 have em:∀ e:Int,e≠0->mgD magB b=e->K (.tup [.agg [vU64 0,vU64 0,vU64 0,vU64 0,.slc 1,.slc 2,.slc 3,.slc 4],.at (vI e)]) [.row false EC.u8 b,.row true EC.node [],.row true EC.u64 [],.row true EC.u64 [],.row true EC.u64 []] []:=fun e e0 q=>er e (by unfold pkD;rw[if_pos (by rw[q];exact e0),q])
 obtain⟨m1,m2,m3,m4,m5,m6,m7,m8,m9⟩:=mg_cases b
 have ne_of:∀ {x y:Int},(x != y)=true->x≠y:=fun {x y} q e=>by rw[e] at q;simp at q
 have eq_of:∀ {x y:Int},(x != y)=false->x=y:=fun {x y} q=>by simpa using q
 have bn:∀ {x y:Int},(x==y)=false->x≠y:=fun {x y} q e=>by rw[e] at q;simp at q
 have w1:IntKind.i64.wrap (0+1)=1:=by decide
 have w2:IntKind.i64.wrap (1+1)=2:=by decide
 have w3:IntKind.i64.wrap (2+1)=3:=by decide
 rw[w1,w2,w3,show Int.toNat 0=0 from rfl,show Int.toNat 1=1 from rfl,show Int.toNat 2=2 from rfl,show Int.toNat 3=3 from rfl]
 refine⟨brS_of (fun z=>em 12 (by decide) (m1 (by have:=eq_of_beq z;omega))) fun z0=>⟨by decide,by have:=bn z0;omega,brS_of (fun z=>em 13 (by decide) (m2 (by have:=bn z0;omega) (ne_of z))) fun y0 =>
  brS_of (fun z=>em 12 (by decide) (m3 (eq_of y0) (by have:=eq_of_beq z;omega))) fun z1=>⟨by decide,by have:=bn z0;have:=bn z1;omega,brS_of (fun z=>em 13 (by decide) (m4 (eq_of y0) (by have:=bn z0;have:=bn z1;omega) (ne_of z))) fun y1 =>
  brS_of (fun z=>em 12 (by decide) (m5 (eq_of y0) (eq_of y1) (by have:=eq_of_beq z;omega))) fun z2=>⟨by decide,by have:=bn z0;have:=bn z1;have:=bn z2;omega,brS_of (fun z=>em 13 (by decide) (m6 (eq_of y0) (eq_of y1) (by have:=bn z0;have:=bn z1;have:=bn z2;omega) (ne_of z))) fun y2 =>
  brS_of (fun z=>em 12 (by decide) (m7 (eq_of y0) (eq_of y1) (eq_of y2) (by have:=eq_of_beq z;omega))) fun z3=>⟨by decide,by have:=bn z0;have:=bn z1;have:=bn z2;have:=bn z3;omega,brS_of (fun z=>em 13 (by decide) (m8 (eq_of y0) (eq_of y1) (eq_of y2) (by have:=bn z0;have:=bn z1;have:=bn z2;have:=bn z3;omega) (ne_of z))) fun y3=>?_⟩⟩⟩⟩,fun x _=>?_⟩
 ·refine⟨⟨m9 (eq_of y0) (eq_of y1) (eq_of y2) (eq_of y3) (by have:=bn z0;have:=bn z1;have:=bn z2;have:=bn z3;omega)⟩,?_⟩
  (repeat' first|exact trivial|exact rfl|refine And.intro ?_ ?_)
 obtain⟨mg⟩:=x
 clear m1 m2 m3 m4 m5 m6 m7 m8 m9 em
 refine⟨hb,by omega,fun p n e he=>⟨brS_of (fun z=>er e ?_) fun z=>⟨⟨⟨p,n,[],0,0,0,0,0,[],0,0,[]⟩,mg,by rw[he,eq_of z],?_,?_⟩,trivial,?_⟩,fun x1 _=>?_⟩⟩
 ·have z:=ne_of z
  unfold pkD
  rw[if_neg (by rw[mg];simp),he]
  simp only[ne_eq,z,not_false_eq_true,if_true]
 ·exact (nxD_rng hb he).1
 ·exact (nxD_rng hb he).2
 ·(repeat' first|exact trivial|exact rfl|refine And.intro ?_ ?_)
 obtain⟨z,F⟩:=x1
 dsimp only
 have F:RdF b z.p z.at_:=F
 have bad:hdD z.p=none->pkD b=(13,.zero):=fun q=>by
  unfold pkD
  rw[if_neg (by rw[F.mg];simp),F.nx]
  simp only[ne_eq,not_true_eq_false,if_false,q]
 have zl:=F.pl
 refine⟨F.pb,by omega,by decide,by decide,fun l q ok R=>?_⟩
 refine⟨?_,fun x2 _=>?_⟩
 ·refine brS_of (fun y=>er 13 (bad ?_)) fun y=>?_
  ·rcases R with ⟨R,_⟩|⟨_,R,_⟩
   ·rw[R] at y;simp at y
   ·exact hd_none R
  have R:rnD z.p 3 0=some (l,q):=by
   rcases R with ⟨_,R⟩|⟨R,_⟩
   ·exact R
   ·rw[R] at y;simp at y
  obtain⟨k,m,r,el,pos,qr,hd⟩:=hd_some F.pb R
  rw[el] at R ⊢
  rw[wrap_id (x:=(z.p.length:Int)-q) (by omega) (by omega)]
  show brS _ _ (0<=0/\(0:Int)<3/\brS (decide (k>65536)) _ (0<=1/\(1:Int)<3/\brS (decide (m>65536)) _ (0<=2/\(2:Int)<3/\brS (decide (r>4096)) _ _)))
  refine brS_of (fun y=>er 13 (bad ?_)) fun y1=>⟨by decide,by decide,brS_of (fun y=>er 13 (bad ?_)) fun y2=>⟨by decide,by decide,brS_of (fun y=>er 13 (bad ?_)) fun y3=>⟨by decide,by decide,brS_of (fun y=>er 13 (bad ?_)) fun y4=>?_⟩⟩⟩
  ·rw[hd,if_pos (.inl (ne_of y))]
  ·rw[hd,if_pos (.inr (.inl (of_decide_eq_true y)))]
  ·rw[hd,if_pos (.inr (.inr (.inl (of_decide_eq_true y))))]
  ·rw[hd,if_pos (.inr (.inr (.inr (of_decide_eq_true y))))]
  have y1:=eq_of y1
  have y2:¬ k>65536:=of_decide_eq_false y2
  have y3:¬ m>65536:=of_decide_eq_false y3
  have y4:¬ r>4096:=of_decide_eq_false y4
  rw[if_neg (by omega)] at hd
  refine⟨⟨{ z with h:=[k,m,r],q:=q },k,m,r,rfl,F,R,y1,qr.1,⟨pos.1,by omega⟩,⟨pos.2.1,by omega⟩,⟨pos.2.2,by omega⟩,hd⟩,trivial,?_⟩
  (repeat' first|exact trivial|exact rfl|refine And.intro ?_ ?_)
 clear bad zl R F mg
 obtain⟨z,k,m,r,eh,G⟩:=x2
 dsimp only
 rw[eh]
 refine⟨by decide,by show (0:Int)<3;decide,by decide,by show (1:Int)<3;decide,by decide,by show (2:Int)<3;decide,⟨⟨⟨{ z with k:=k,m:=m,r:=r,D:=0,ns:=[],i:=0 },G,rfl,Nat.zero_le _,rfl,Int.le_refl 0,by show (0:Int)<256 ^ 0;decide⟩,trivial,?_⟩,fun x3 _=>brS_of (fun y=>?_) fun y=>?_⟩,fun x3 _=>?_⟩
 ·(repeat' first|exact trivial|exact rfl|refine And.intro ?_ ?_)
 ·obtain⟨z,G,en,hi,eD,D0,D1⟩:=x3
  dsimp only at y ⊢
  have yi:z.i<4:=by have:=of_decide_eq_true y;omega
  clear y
  have g4:=G.b4
  have q0:=G.q0
  have pl:=G.f.pl
  have il:z.i<(z.p.drop z.q.toNat).length:=by rw[List.length_drop];omega
  have gm:=(allB_drop G.f.pb z.q.toNat) _ (getB_mem il)
  have p4:(256:Int) ^ z.i<=16777216:=by
   have:z.i=0∨z.i=1∨z.i=2∨z.i=3:=by omega
   rcases this with e|e|e|e<;>rw[e]<;>decide +kernel
  rw[wrap_id (x:=(z.i:Int)+1) (by omega) (by omega),wrap_id (x:=z.q+(z.i:Int)) (by omega) (by omega),show (z.q+(z.i:Int)).toNat=z.q.toNat+z.i by omega,← getB_dr,wrap_u64 (x:=256*z.D) (by omega) (by omega),wrap_u64 (x:=getB (z.p.drop z.q.toNat) z.i) gm.1 (by omega),wrap_u64 (x:=256*z.D+getB (z.p.drop z.q.toNat) z.i) (by omega) (by omega)]
  refine⟨by omega,by omega,⟨{ z with D:=256*z.D+getB (z.p.drop z.q.toNat) z.i,i:=z.i+1 },G,en,yi,?_,by show 0<=256*z.D+_;omega,?_⟩,trivial,?_,by show 4-(z.i+1)<4-z.i;omega⟩
  ·show 256*z.D+_=wD ((z.p.drop z.q.toNat).take (z.i+1))
   rw[take_getB il,wD_snoc,← eD]
  ·show 256*z.D+_<(256:Int) ^ (z.i+1)
   rw[Int.pow_succ];omega
  ·(repeat' first|exact trivial|exact rfl|refine And.intro ?_ ?_)
 ·obtain⟨z,G,en,hi,eD,D0,D1⟩:=x3
  dsimp only at y ⊢
  have yi:z.i=4:=by have:=of_decide_eq_false y;omega
  clear y
  have g4:=G.b4
  have q0:=G.q0
  rw[yi,List.take_of_length_le (by rw[List.length_drop];omega)] at eD
  refine⟨⟨z,⟨G.f.mg,z.p,G.f.nx,G.f.pb,by rw[eD];exact G.hd⟩,en⟩,trivial,?_⟩
  (repeat' first|exact trivial|exact rfl|refine And.intro ?_ ?_)
 clear G eh
 obtain⟨z,F,en⟩:=x3
 dsimp only
 have F:ReF b z.k z.m z.r z.D z.at_:=F
 have en:z.ns=[]:=en
 refine⟨⟨⟨⟨{ z with i:=0 },z.at_,F,Nat.zero_le _,by show z.ns.length=0;rw[en];rfl,by show _=nsD b z.k (z.m.toNat-0) z.at_ z.ns;rw[en,Nat.sub_zero]⟩,trivial,?_⟩,fun x4 _=>brS_of (fun y=>?_) fun y=>?_⟩,fun x5 _=>?_⟩
 ·(repeat' first|exact trivial|exact rfl|refine And.intro ?_ ?_)
 ·obtain⟨z,n0,F,hi,hn,hq⟩:=x4
  dsimp only at y ⊢
  obtain⟨k2,m2,r2⟩:=F.rng
  have yi:z.i<z.m.toNat:=by have:=of_decide_eq_true y;omega
  clear y
  obtain⟨d,ed⟩:∃ d,z.m.toNat-z.i=d+1:=⟨z.m.toNat-z.i-1,by omega⟩
  refine⟨hb,by omega,fun p2 n2 e2 he2=>⟨brS_of (fun q=>er e2 ?_) fun q=>⟨⟨{ z with p:=p2,at_:=n2 },n0,z.at_,F,yi,hn,hq,by rw[he2,eq_of q]⟩,rfl,?_⟩,fun x5 e5=>?_⟩⟩
  ·have hs:=nsD_succ (k:=z.k) (d:=d) (ns:=z.ns) he2
   have q:=ne_of q
   rw[ed,hs,if_pos q] at hq
   rw[F.pk hq,if_pos q]
  ·(repeat' first|exact trivial|exact rfl|refine And.intro ?_ ?_)
  clear hq hn F k2 m2 r2
  obtain⟨z5,n0,a0,F,hi5,hn,hq,he⟩:=x5
  dsimp only at e5 ⊢
  have e5:z.i=z5.i:=by omega
  obtain⟨k2,m2,r2⟩:=F.rng
  have pr:=nxD_rng hb he
  obtain⟨d,ed⟩:∃ d,z5.m.toNat-z5.i=d+1:=⟨z5.m.toNat-z5.i-1,by omega⟩
  have hs:=nsD_succ (k:=z5.k) (d:=d) (ns:=z5.ns) he
  rw[ed,hs,if_neg (by simp),hn] at hq
  have own:z5.k+(z5.i:Int)+1=z5.k+((z5.i:Nat):Int)+1:=rfl
  have bad:ndQ (z5.k+(z5.i:Int)+1) z5.p=none->pkD b=(13,.zero):=fun t=>by
   rw[t] at hq
   rw[F.pk hq,if_pos (by decide)]
  refine⟨pr.1,by omega,fun u n3 e3 hk=>⟨pr.1,by omega,by decide,by decide,fun l1 q1 ok1 R=>⟨?_,fun x6 e6=>?_⟩⟩⟩
  ·refine brS_of (fun t=>er 13 (bad (nd_key hk (ne_of t)))) fun t=>?_
   rw[eq_of t] at hk
   obtain⟨l8,en3⟩:=ky_ok hk
   rw[en3] at hk
   have e8:(if (z5.p.length:Int)<8 then (z5.p.length:Int) else 8)=8:=if_neg (by omega)
   rw[e8] at R
   refine brS_of (fun t=>er 13 (bad ?_)) fun t=>?_
   ·rcases R with ⟨R,_⟩|⟨_,R,_⟩
    ·rw[R] at t;simp at t
    ·exact nd_none hk R
   have R:rnD z5.p 3 8=some (l1,q1):=by
    rcases R with ⟨_,R⟩|⟨R,_⟩
    ·exact R
    ·rw[R] at t;simp at t
   obtain⟨v,x,y,el,vr,nd⟩:=nd_some (own:=z5.k+(z5.i:Int)+1) pr.1 hk R
   rw[el] at R ⊢
   rw[wrap_u64 (x:=z5.k+(z5.i:Int)) (by omega) (by omega),wrap_u64 (x:=z5.k+(z5.i:Int)+1) (by omega) (by omega)]
   show brS _ _ (0<=1/\(1:Int)<3/\brS (decide (x≥z5.k+(z5.i:Int)+1)) _ (0<=2/\(2:Int)<3/\brS (decide (y≥z5.k+(z5.i:Int)+1)) _ _))
   refine brS_of (fun t=>er 13 (bad ?_)) fun t1=>⟨by decide,by decide,brS_of (fun t=>er 13 (bad ?_)) fun t2=>⟨by decide,by decide,brS_of (fun t=>er 13 (bad ?_)) fun t3=>?_⟩⟩
   ·rw[nd,if_pos (.inl (ne_of t))]
   ·rw[nd,if_pos (.inr (.inl (of_decide_eq_true t)))]
   ·rw[nd,if_pos (.inr (.inr (of_decide_eq_true t)))]
   have t2:¬ x≥z5.k+(z5.i:Int)+1:=of_decide_eq_false t2
   have t3:¬ y≥z5.k+(z5.i:Int)+1:=of_decide_eq_false t3
   have t1:=eq_of t1
   rw[if_neg (by rintro (k|k|k)<;>omega)] at nd
   rw[nd] at hq
   refine⟨⟨{ z5 with key:=u,u:=[v,x,y] },n0,v,x,y,F,hi5,hn,rfl,vr,?_⟩,rfl,?_⟩
   ·show nsD b z5.k z5.m.toNat n0 []=nsD b z5.k (z5.m.toNat-(z5.i+1)) z5.at_ _
    rw[hq,show z5.m.toNat-(z5.i+1)=d by omega]
   ·(repeat' first|exact trivial|exact rfl|refine And.intro ?_ ?_)
  clear R hk bad own hq hs hn F k2 m2 r2 pr he
  obtain⟨z6,n0,v,x,y,F,hi6,hn,eu,vr,hq⟩:=x6
  dsimp only at e6 ⊢
  have e6:z5.i=z6.i:=by omega
  obtain⟨k2,m2,r2⟩:=F.rng
  rw[eu,wrap_u64 (x:=(z6.i:Int)+1) (by omega) (by omega),bytes_u64,show getB [v,x,y] 0=v from rfl,show getB [v,x,y] 1=x from rfl,show getB [v,x,y] 2=y from rfl]
  have ln:(ndsR z6.ns).length=z6.ns.length:=List.length_map _
  have ll:(lfsR z6.ns).length=z6.ns.length:=List.length_map _
  have lr:(rgsR z6.ns).length=z6.ns.length:=List.length_map _
  have b1:((lfsR z6.ns).length+[x].length)*8<=140737488355328:=by rw[ll,List.length_singleton];omega
  have b2:((rgsR z6.ns).length+[y].length)*8<=140737488355328:=by rw[lr,List.length_singleton];omega
  have b3:∀ n:NodeT,((ndsR z6.ns).length+[n].length)*bytesOf C0 EC.node<=140737488355328:=fun n=>by rw[ln,bytes_node,List.length_singleton];omega
  have fin:∃ x':XRdR (PQ5 b),x'.z.p=z6.p/\x'.z.at_=z6.at_/\x'.z.i=z6.i+1/\x'.z.k=z6.k/\x'.z.m=z6.m/\x'.z.r=z6.r/\x'.z.D=z6.D/\x'.z.ns=z6.ns++[⟨z6.key,uz v,x,y⟩] :=
   ⟨⟨{ z6 with i:=z6.i+1,ns:=z6.ns++[⟨z6.key,uz v,x,y⟩] },n0,F,hi6,by show (z6.ns++_).length=_;rw[List.length_append,hn];rfl,hq⟩,rfl,rfl,rfl,rfl,rfl,rfl,rfl,rfl⟩
  obtain⟨x', -,e2,e3,e4,e5',e6',e7,e8⟩:=fin
  have f1:ndsR z6.ns++[⟨z6.key,uz v,0,0,0,0,0,0⟩]=ndsR x'.z.ns:=by rw[e8];unfold ndsR;rw[List.map_append];rfl
  have f2:lfsR z6.ns++[x]=lfsR x'.z.ns:=by rw[e8];unfold lfsR;rw[List.map_append];rfl
  have f3:rgsR z6.ns++[y]=rgsR x'.z.ns:=by rw[e8];unfold rgsR;rw[List.map_append];rfl
  have mu:70000-x'.z.i<70000-z.i:=by rw[e3];omega
  refine⟨by decide,by show (1:Int)<3;decide,by decide,by show (2:Int)<3;decide,?_⟩
  repeat' (first|with_reducible exact b1|with_reducible exact b2|with_reducible apply And.intro)
  all_goals first|(show (0:Int)<=0;decide)|(show (0:Int)<3;decide)|exact vr.1|exact vr.2|skip
  all_goals
   intro n3 en3
   subst en3
   refine⟨b3 _,x',trivial,⟨?_,mu⟩⟩
   rw[e2,e3,e4,e5',e6',e7]
   (repeat' first|exact trivial|exact f1|exact f2|exact f3|exact rfl|refine And.intro ?_ ?_)
 ·obtain⟨z,n0,F,hi,hn,hq⟩:=x4
  dsimp only at y ⊢
  obtain⟨k2,m2,r2⟩:=F.rng
  have yi:z.m.toNat-z.i=0:=by have:=of_decide_eq_false y;omega
  rw[yi] at hq
  refine⟨⟨z,n0,F,by omega,hq⟩,trivial,?_⟩
  (repeat' first|exact trivial|exact rfl|refine And.intro ?_ ?_)
 clear F en
 obtain⟨z,n0,H⟩:=x5
 dsimp only
 refine⟨hb,by omega,fun p2 n2 e2 he2=>⟨brS_of (fun q=>er e2 ?_) fun q=>⟨⟨{ z with p:=p2,at_:=n2 },n0,z.at_,⟨H.f,H.nl,H.ns⟩,by rw[he2,eq_of q]⟩,trivial,?_⟩,fun x5 _=>?_⟩⟩
 ·rw[H.pk he2,if_pos (ne_of q)]
 ·(repeat' first|exact trivial|exact rfl|refine And.intro ?_ ?_)
 clear H he2
 obtain⟨z,n0,n1,H,he⟩:=x5
 dsimp only
 obtain⟨k2,m2,r2⟩:=H.f.rng
 have pr:=nxD_rng hb he
 have pk:=H.pk he
 rw[if_neg (by simp)] at pk
 rw[wrap_id (x:=z.r) (by omega) (by omega)]
 refine⟨pr.1,by omega,r2.1,by omega,fun l1 q1 ok1 R=>⟨brS_of (fun t=>er 13 ?_) fun t=>?_,fun x6 _=>?_⟩⟩
 ·rcases R with ⟨R,_⟩|⟨_,R,_⟩
  ·rw[R] at t;simp at t
  ·rw[pk,tl_none R]
 ·have R:rnD z.p z.r.toNat 0=some (l1,q1):=by
   rcases R with ⟨_,R⟩|⟨R,_⟩
   ·exact R
   ·rw[R] at t;simp at t
  refine brS_of (fun t=>er 13 ?_) fun t=>brS_of (fun w=>er 13 ?_) fun w=>?_
  ·rw[pk,tl_bad R (.inl (ne_of t))]
  ·rw[pk]
   by_cases c:∀ u∈l1,u<=z.k+z.m
   ·rw[tl_ok R (eq_of t) c]
    dsimp only
    rw[if_neg (ne_of w)]
   ·rw[tl_bad R (.inr c)]
  ·refine⟨⟨{ z with u:=l1 },n0,n1,z.p,⟨H.f,H.nl,H.ns⟩,by rw[he];rw[eq_of w],by rw[← eq_of t];exact R⟩,trivial,?_⟩
   (repeat' first|exact trivial|exact rfl|refine And.intro ?_ ?_)
 clear R pk pr H he k2 m2 r2
 obtain⟨z,H⟩:=x6
 dsimp only
 have H:PQA b z:=H
 refine⟨⟨⟨⟨{ z with i:=0 },H.at_ 0,Nat.zero_le _,fun x hx=>by cases hx⟩,trivial,?_⟩,fun x7 _=>brS_of (fun y=>?_) fun y=>?_⟩,fun x8 _=>?_⟩
 ·(repeat' first|exact trivial|exact rfl|refine And.intro ?_ ?_)
 ·obtain⟨z,H,hi,ht⟩:=x7
  dsimp only at y ⊢
  obtain⟨n0,n1,p,H',he,hr⟩:=id H
  obtain⟨k2,m2,r2⟩:=H'.f.rng
  have yi:z.i<z.u.length:=by have:=of_decide_eq_true y;omega
  have ul:=rn_len hr
  rw[show ((z.i:Int)).toNat=z.i from rfl,wrap_id (x:=(z.i:Int)+1) (by omega) (by omega),wrap_u64 (x:=z.k+z.m) (by omega) (by omega)]
  refine⟨by omega,by omega,brS_of (fun t=>er 13 ?_) fun t=>?_⟩
  ·have t:getB z.u z.i>z.k+z.m:=of_decide_eq_true t
   rw[H'.pk he,if_neg (by simp),tl_bad hr (.inr fun c=>by have:=c _ (getB_mem yi);omega)]
  ·have t:¬ getB z.u z.i>z.k+z.m:=of_decide_eq_false t
   refine⟨⟨{ z with i:=z.i+1 },H.at_ _,yi,fun x hx=>?_⟩,trivial,?_,Nat.sub_lt_sub_left yi (Nat.lt_succ_self z.i)⟩
   ·have hx:x∈z.u.take (z.i+1):=hx
    rw[take_getB yi] at hx
    rcases List.mem_append.1 hx with c|c
    ·exact ht x c
    ·rw[List.mem_singleton.1 c]
     show _<=z.k+z.m
     omega
   ·(repeat' first|exact trivial|exact rfl|refine And.intro ?_ ?_)
 ·obtain⟨z,H,hi,ht⟩:=x7
  dsimp only at y ⊢
  have yi:z.i=z.u.length:=by have:=of_decide_eq_false y;omega
  rw[yi,List.take_length] at ht
  refine⟨⟨z,H,ht⟩,trivial,?_⟩
  (repeat' first|exact trivial|exact rfl|refine And.intro ?_ ?_)
 clear H
 obtain⟨z,H,ht⟩:=x8
 dsimp only
 obtain⟨n0,n1,p,H',he,hr⟩:=H
 obtain⟨k2,m2,r2⟩:=H'.f.rng
 have pk:=H'.pk he
 rw[if_neg (by simp),tl_ok hr rfl ht] at pk
 dsimp only at pk
 rw[if_pos rfl] at pk
 have ul:=rn_len hr
 exact h 0 ⟨z.k,z.D,z.ns,z.u⟩ z.m z.r pk (by show z.m=(z.ns.length:Int);rw[H'.nl];omega) (by show z.r=(z.u.length:Int);rw[ul];omega)
theorem s_rdR:SoundT C0 13 tRdR:=by
 refine .of Tryz.func13 (by decide) rfl fun args H K h hB=>?_
 unfold tRdR at h
 split at h<;>try exact h.elim
 rename_i b
 refine⟨_,?_,vc_rdR b K h.1 h.2.1 h.2.2⟩
 exact⟨frame C0.ok s_nr _,frame C0.ok s_nmR _,frame C0.ok s_kr _,frame C0.ok s_uzr _,trivial⟩
end Go.Proofs.YtedfbafngmicpaaGreat.Sx
end
section
/- The same tree in two arenas is numbered alike. No program in sight. -/
namespace Go.Proofs.YtedfbafngmicpaaGreat.Sx
open Go

def fndA (X:Arn):Tr->Int->Int->Int
 | .nil,_,_=>0
 | .node a k _ b,j,q=>if q<k then fndA X a (lfA X j) q else if k<q then fndA X b (rgA X j) q else j
theorem fndA_node (X:Arn)(a b:Tr)(k v j q:Int):fndA X (.node a k v b) j q=if q<k then fndA X a (lfA X j) q else if k<q then fndA X b (rgA X j) q else j:=rfl
inductive Cor (A B:Arn) (T:Tr) (r o:Int):Tr->Int->Int->Prop
 | top:Cor A B T r o T r o
 | left {a b:Tr} {k v i j:Int}:Cor A B T r o (.node a k v b) i j->Cor A B T r o a (lfA A i) (lfA B j)
 | right {a b:Tr} {k v i j:Int}:Cor A B T r o (.node a k v b) i j->Cor A B T r o b (rgA A i) (rgA B j)
section
variable {A B:Arn} {ha hb:List Int} {T:Tr} {r o:Int}
theorem Cor.ok (c0:Asc T.list)(rA:Rep A T r)(rB:Rep B T o){t:Tr}{i j:Int}(c:Cor A B T r o t i j):Rep A t i/\Rep B t j/\Asc t.list/\∀ z∈t.list,fndA A T r z.1=fndA A t i z.1/\fndA B T o z.1=fndA B t j z.1:=by
 induction c with
 | top=>exact⟨rA,rB,c0,fun _ _=>⟨rfl,rfl⟩⟩
 | @left a b k v i j _ ih =>
  obtain⟨h1,h2,h3,h4⟩:=ih
  obtain⟨a1,a2,a3,a4⟩:=node_asc h3
  refine⟨h1.2.2.2.1,h2.2.2.2.1,a1,fun z hz=>?_⟩
  obtain⟨e1,e2⟩:=h4 z (by show z∈a.list++(k,v)::b.list;exact List.mem_append_left _ hz)
  have lt:=a3 z hz
  rw[e1,e2,fndA_node,fndA_node,if_pos lt,if_pos lt]
  exact⟨rfl,rfl⟩
 | @right a b k v i j _ ih =>
  obtain⟨h1,h2,h3,h4⟩:=ih
  obtain⟨a1,a2,a3,a4⟩:=node_asc h3
  refine⟨h1.2.2.2.2,h2.2.2.2.2,a2,fun z hz=>?_⟩
  obtain⟨e1,e2⟩:=h4 z (by show z∈a.list++(k,v)::b.list;exact List.mem_append_right _ (List.mem_cons_of_mem _ hz))
  have lt:=a4 z hz
  have nl:¬ z.1<k:=by omega
  rw[e1,e2,fndA_node,fndA_node,if_neg nl,if_pos lt,if_neg nl,if_pos lt]
  exact⟨rfl,rfl⟩
noncomputable def coF (A B:Arn)(T:Tr)(o i:Int):Int:=if A.us i=true then fndA B T o (A.nd i).key else 0
theorem Cor.at_ (wA:Wf A ha)(c0:Asc T.list)(rA:Rep A T r)(rB:Rep B T o){t:Tr}{i j:Int}(c:Cor A B T r o t i j):coF A B T o i=j/\(A.us i=true->fndA A T r (A.nd i).key=i):=by
 obtain⟨h1,h2,h3,h4⟩:=c.ok c0 rA rB
 cases t with
 | nil =>
  have e1:i=0:=h1
  have e2:j=0:=h2
  have u0:A.us 0=false:=wA.us0 (Int.le_refl 0)
  rw[e1,e2]
  unfold coF
  rw[u0]
  exact⟨by simp,fun c=>by cases c⟩
 | node a k v b =>
  have u:=h1.1
  have ek:(A.nd i).key=k:=h1.2.1
  obtain⟨e1,e2⟩:=h4 (k,v) (by show (k,v)∈a.list++(k,v)::b.list;simp)
  rw[fndA_node,if_neg (Int.lt_irrefl _),if_neg (Int.lt_irrefl _)] at e1 e2
  unfold coF
  rw[u,if_pos rfl,ek]
  exact⟨e2,fun _=>e1⟩
theorem cor_iso (wA:Wf A ha)(wB:Wf B hb)(c0:Asc T.list)(rA:Rep A T r)(rB:Rep B T o):IsoG A.us B.us (lfA A) (rgA A) (lfA B) (rgA B) (fun i=>∃ t j,Cor A B T r o t i j) (coF A B T o) where
 usd i:=by
  rintro ⟨t,j,c⟩
  rw[(c.at_ wA c0 rA rB).1]
  obtain⟨h1,h2,_⟩:=c.ok c0 rA rB
  cases t with
  | nil =>
   have e1:i=0:=h1
   have e2:j=0:=h2
   rw[e1,e2,wA.us0 (Int.le_refl 0),wB.us0 (Int.le_refl 0)]
  | node a k v b=>rw[h1.1,h2.1]
 kid i:=by
  rintro ⟨t,j,c⟩ u
  obtain⟨h1,h2,_⟩:=c.ok c0 rA rB
  cases t with
  | nil =>
   have e1:i=0:=h1
   rw[e1,wA.us0 (Int.le_refl 0)] at u
   cases u
  | node a k v b =>
   rw[(c.at_ wA c0 rA rB).1]
   exact⟨⟨⟨_,_,c.left⟩,⟨_,_,c.right⟩⟩,((c.left).at_ wA c0 rA rB).1.symm,((c.right).at_ wA c0 rA rB).1.symm⟩
 inj i i':=by
  rintro ⟨t,j,c⟩ ⟨t',j',c'⟩ u u' e
  rw[(c.at_ wA c0 rA rB).1,(c'.at_ wA c0 rA rB).1] at e
  subst e
  obtain⟨h1,h2,_⟩:=c.ok c0 rA rB
  obtain⟨h1',h2',_⟩:=c'.ok c0 rA rB
  have g:=(c.at_ wA c0 rA rB).2 u
  have g':=(c'.at_ wA c0 rA rB).2 u'
  have key:∀ {t:Tr} {i j:Int},Rep A t i->Rep B t j->A.us i=true->(A.nd i).key=(B.nd j).key:=fun {t i j} a b u=>by
   cases t with
   | nil =>
    have e1:i=0:=a
    rw[e1,wA.us0 (Int.le_refl 0)] at u
    cases u
   | node _ _ _ _=>rw[a.2.1,b.2.1]
  rw[← g,← g',key h1 h2 u,key h1' h2' u']
end
theorem plcN_map {f:Int->Int}{y:Int}:∀ {l:List Int},(∀ x∈l,f x=f y->x=y)->plcN (l.map f) (f y)=plcN l y
 | [],_=>rfl
 | x::l,h=>by
  have ih:=plcN_map (f:=f) (y:=y) (l:=l) fun z hz=>h z (List.mem_cons_of_mem _ hz)
  show (if f x=f y then 1 else if plcN (l.map f) (f y)=0 then 0 else plcN (l.map f) (f y)+1)=if x=y then 1 else if plcN l y=0 then 0 else plcN l y+1
  rw[ih]
  by_cases c:x=y
  ·rw[if_pos c,if_pos (by rw[c])]
  ·rw[if_neg c,if_neg fun e=>c (h x List.mem_cons_self e)]
section
variable {A B:Arn} {ha hb lk:List Int} {T:Tr} {r o:Int}
theorem kni_same (wA:Wf A ha)(wB:Wf B hb)(c0:Asc T.list)(rA:Rep A T r)(rB:Rep B T o)(n:NumsA A [r] [] lk):∃ lkB,NumsA B [o] [] lkB/\KnI A lk B lkB/\[o].map (plcN lkB)=[r].map (plcN lk):=by
 have I:=cor_iso wA wB c0 rA rB
 have top:∃ t j,Cor A B T r o t r j:=⟨T,o,.top⟩
 have er:coF A B T o r=o:=(Cor.at_ wA c0 rA rB (Cor.top (A:=A) (B:=B))).1
 have m:=numsG_iso I n (fun j hj=>by rw[List.mem_singleton.1 hj];exact top) (fun j hj=>by cases hj)
 rw[List.map_cons,List.map_nil,er] at m
 have pm:=n.reach (P:=fun i=>∃ t j,Cor A B T r o t i j) (fun i hi u=>(I.kid i hi u).1) (fun j hj=>by rw[List.mem_singleton.1 hj];exact top) (fun j hj=>by cases hj)
 have us:=n.used (fun j hj=>by cases hj)
 have pl:∀ y,(∃ t j,Cor A B T r o t y j)->plcN (lk.map (coF A B T o)) (coF A B T o y)=plcN lk y:=fun y hy=>by
  refine plcN_map fun x hx e=>?_
  have ux:=us x hx
  have uy:A.us y=true:=by rw[← I.usd y hy,← e,I.usd x (pm x hx)];exact ux
  exact I.inj x y (pm x hx) hy ux uy e
 refine⟨_,m,⟨List.length_map _,?_⟩,?_⟩
 ·rw[List.map_map]
  refine List.map_congr_left fun i hi=>?_
  have u:=us i hi
  obtain⟨t,j,c⟩:=pm i hi
  obtain⟨⟨pL,pR⟩,eL,eR⟩:=I.kid i ⟨t,j,c⟩ u
  obtain⟨h1,h2,_⟩:=c.ok c0 rA rB
  have ej:=(c.at_ wA c0 rA rB).1
  cases t with
  | nil =>
   have e1:i=0:=h1
   rw[e1,wA.us0 (Int.le_refl 0)] at u
   cases u
  | node a k v b =>
   show PNT.mk _ _ _ _=PNT.mk _ _ _ _
   rw[eL,eR,pl _ pL,pl _ pR]
   rw[ej,h1.2.1,h2.2.1,h1.2.2.1,h2.2.2.1]
 ·have q:=pl r top
  rw[er] at q
  rw[List.map_cons,List.map_cons,List.map_nil,List.map_nil,q]
end
end Go.Proofs.YtedfbafngmicpaaGreat.Sx
end
section
/- Plant and Grow, with the shape that the tilt selects. -/
namespace Go.Proofs.YtedfbafngmicpaaGreat.Sx
open Go

/-KEEP Wf Kept makeS relA nxt decS NodeR exW inU live Arn.cap Arn.free balN PlantR PlantS maxSize mkNode pvT shpT balB newS Rep-/
def pvT (n t:Int):Int:=if n-1-n / 4<n / 4 then n / 2 else n / 4+t % (n-1-n / 4-n / 4+1)
def shpT:Nat->List Ent->Int->Tr
 | 0,_,_=>.nil
 | n+1,l,t=>if l.length=0 then .nil else
  .node (shpT n (l.take (pvT l.length t).toNat) (IntKind.u64.wrap (IntKind.u64.wrap (t.tdiv 5)+IntKind.u64.wrap (t*3)))) (l.getD (pvT l.length t).toNat (0,0)).1 (l.getD (pvT l.length t).toNat (0,0)).2
   (shpT n (l.drop ((pvT l.length t).toNat+1)) (IntKind.u64.wrap (IntKind.u64.wrap (IntKind.u64.wrap (t.tdiv 7)+IntKind.u64.wrap (t*5))+1)))
structure PlantS (n:Nat) (S:Arn) (hs:List Int) (l:List Ent) (t:Int) (S':Arn) (i:Int):Prop where
 p:PlantR S hs l S' i
 sh:Rep S' (shpT n l t) i
structure XPw (n:Int) where
 lo:Int
 h:lo=n / 4
noncomputable def aPivS (n:Int):Ann C0:={ Γ:=[(119,frameT [] tLeast),(120,frameT [] tBal)],inv:=fun k=>match k with
 | 2=>some { X:=XPw n,sl:=[5],tf:=fun x=>[vi .i64 x.lo],hf:=fun _=>[],μ:=fun x=>x.lo.toNat }
 | 4=>some { X:=XPw n,sl:=[5],tf:=fun x=>[vi .i64 x.lo],hf:=fun _=>[],μ:=fun x=>(n-x.lo).toNat }
 | _=>none }
def tPivS:Tfm C0:=fun args H K=>match args,H with
 | [.at (.val (.int .i64 n)),.at (.val (.int .u64 t))],[]=>1<=n/\n<=100000/\0<=t/\t<18446744073709551616/\∀ p,0<=p->p<n->balN p (n-1-p)->p=pvT n t->K (.one (.at (vI p))) [] []
 | _,_=>False
def tPlaS (n:Nat):Tfm C0:=fun args H K=>match args with
 | [.at (.ptr 0 0),.at (.slc 7),.at (.val (.int .u64 t))]=>arMr H fun S rest=>match rest with
  | [.row false .ent l]=>∃ hs,Wf S hs/\l.length<n/\l.length<=100000/\(l.length:Int)<=S.free/\hs.length+l.length<=900000000/\0<=t/\t<18446744073709551616/\∀ S' i,PlantS n S hs l t S' i->K (.tup [.at (vU i),.at (vB true)]) (chS S'++[.row false EC.ent l]) W7
  | _=>False
 | _=>False
noncomputable def aPlaS (n:Nat):Ann C0:={ Γ:=[(85,frameT [] tPivS),(40,frameT [] (tPlaS n)),(32,frameT [] tMakeOk),(26,frameT [] tGive)] }
noncomputable def aGroS:Ann C0:={ Γ:=[(28,frameT [] tNew),(40,frameT [] (tPlaS 100001))] }
def tGroS:Tfm C0:=fun args H K=>match args,H with
 | [.at (.slc 0),.at (.val (.int .u64 t)),.at (.val (.int .i64 sp))],[.row false .ent l]=>0<=t/\t<18446744073709551616/\1<=sp/\sp<=30000/\l.length<=30000/\∀ S' i,PlantS 100001 (newS ((l.length:Int)+sp).toNat) [] l t S' i->K (.tup [.at (.ptr 1 0),.at (vU i),.at (vB true)]) ([.row false EC.ent l]++chSk 1 S') []
 | _,_=>False
theorem bal_quarter {n:Int}(h1:1<=n):balN (n / 4) (n-1-n / 4)/\(0<n / 4->¬ balN (n / 4-1) (n-n / 4)):=by
 unfold balN
 refine⟨⟨by omega,by omega⟩,fun h=>?_⟩
 rintro ⟨a,b⟩
 omega
theorem vc_pivS (n t:Int)(K:KT)(h1:1<=n)(h2:n<=100000)(h3:0<=t)(h:∀ p,0<=p->p<n->balN p (n-1-p)->p=pvT n t->K (.one (.at (vI p))) [] []) :
  vc C0 (aPivS n) Tryz.f85 [.at (vI n),.at (vU64 t)] [] (normK 0 K):=by
 refine Eq.mp (show (0<=n/\n<=1000000/\∀ x:Int,x=(n / 4)->(∃ x1:XPw n,True/\(VI (n)=VI (n)/\VW (t)=VW (t)/\VI (x)=VI (x1.lo)/\True)/\True)/\∀ x1:XPw n,True->brS (decide (x1.lo>0)) (0<=IntKind.i64.wrap (x1.lo-1)/\IntKind.i64.wrap (x1.lo-1)<=1000000/\0<=IntKind.i64.wrap (n-x1.lo)/\IntKind.i64.wrap (n-x1.lo)<=1000000/\∀ b:Bool,b=(balB (IntKind.i64.wrap (x1.lo-1)) (IntKind.i64.wrap (n-x1.lo)))->brS (b) (∃ x':XPw n,True/\((VI (n)=VI (n)/\VW (t)=VW (t)/\(VI (IntKind.i64.wrap (x1.lo-1)))=(VI (x'.lo))/\True)/\True)/\x'.lo.toNat<x1.lo.toNat) ((∃ x2:XPw n,True/\(VI (n)=VI (n)/\VW (t)=VW (t)/\VI (x1.lo)=VI (x2.lo)/\True)/\True)/\∀ x2:XPw n,True->brS (decide (x2.lo<IntKind.i64.wrap (n-1))) (0<=x2.lo/\x2.lo<=1000000/\0<=IntKind.i64.wrap (IntKind.i64.wrap (n-1)-x2.lo)/\IntKind.i64.wrap (IntKind.i64.wrap (n-1)-x2.lo)<=1000000/\∀ b1:Bool,b1=(balB x2.lo (IntKind.i64.wrap (IntKind.i64.wrap (n-1)-x2.lo)))->brS (!b1) (∃ x':XPw n,True/\((VI (n)=VI (n)/\VW (t)=VW (t)/\(VI (IntKind.i64.wrap (x2.lo+1)))=(VI (x'.lo))/\True)/\True)/\(n-x'.lo).toNat<(n-x2.lo).toNat) (brS (decide (IntKind.i64.wrap (IntKind.i64.wrap (n-1)-x2.lo)<x2.lo)) (K (.one (.at (.val (VI (IntKind.i64.wrap (n.tdiv 2)))))) [] []) (IntKind.u64.wrap (IntKind.i64.wrap (IntKind.i64.wrap (IntKind.i64.wrap (IntKind.i64.wrap (n-1)-x2.lo)-x2.lo)+1))≠0/\K (.one (.at (.val (VI (IntKind.i64.wrap (x2.lo+IntKind.i64.wrap (t.tmod (IntKind.u64.wrap (IntKind.i64.wrap (IntKind.i64.wrap (IntKind.i64.wrap (IntKind.i64.wrap (n-1)-x2.lo)-x2.lo)+1)))))))))) [] []))) (brS (decide (IntKind.i64.wrap (IntKind.i64.wrap (n-1)-x2.lo)<x2.lo)) (K (.one (.at (.val (VI (IntKind.i64.wrap (n.tdiv 2)))))) [] []) (IntKind.u64.wrap (IntKind.i64.wrap (IntKind.i64.wrap (IntKind.i64.wrap (IntKind.i64.wrap (n-1)-x2.lo)-x2.lo)+1))≠0/\
 K (.one (.at (.val (VI (IntKind.i64.wrap (x2.lo+IntKind.i64.wrap (t.tmod (IntKind.u64.wrap (IntKind.i64.wrap (IntKind.i64.wrap (IntKind.i64.wrap (IntKind.i64.wrap (n-1)-x2.lo)-x2.lo)+1)))))))))) [] [])))) ((∃ x2:XPw n,True/\(VI (n)=VI (n)/\VW (t)=VW (t)/\VI (x1.lo)=VI (x2.lo)/\True)/\True)/\∀ x2:XPw n,True->brS (decide (x2.lo<IntKind.i64.wrap (n-1))) (0<=x2.lo/\x2.lo<=1000000/\0<=IntKind.i64.wrap (IntKind.i64.wrap (n-1)-x2.lo)/\IntKind.i64.wrap (IntKind.i64.wrap (n-1)-x2.lo)<=1000000/\∀ b:Bool,b=(balB x2.lo (IntKind.i64.wrap (IntKind.i64.wrap (n-1)-x2.lo)))->brS (!b) (∃ x':XPw n,True/\((VI (n)=VI (n)/\VW (t)=VW (t)/\(VI (IntKind.i64.wrap (x2.lo+1)))=(VI (x'.lo))/\True)/\True)/\(n-x'.lo).toNat<(n-x2.lo).toNat) (brS (decide (IntKind.i64.wrap (IntKind.i64.wrap (n-1)-x2.lo)<x2.lo)) (K (.one (.at (.val (VI (IntKind.i64.wrap (n.tdiv 2)))))) [] []) (IntKind.u64.wrap (IntKind.i64.wrap (IntKind.i64.wrap (IntKind.i64.wrap (IntKind.i64.wrap (n-1)-x2.lo)-x2.lo)+1))≠0/\K (.one (.at (.val (VI (IntKind.i64.wrap (x2.lo+IntKind.i64.wrap (t.tmod (IntKind.u64.wrap (IntKind.i64.wrap (IntKind.i64.wrap (IntKind.i64.wrap (IntKind.i64.wrap (n-1)-x2.lo)-x2.lo)+1)))))))))) [] []))) (brS (decide (IntKind.i64.wrap (IntKind.i64.wrap (n-1)-x2.lo)<x2.lo)) (K (.one (.at (.val (VI (IntKind.i64.wrap (n.tdiv 2)))))) [] []) (IntKind.u64.wrap (IntKind.i64.wrap (IntKind.i64.wrap (IntKind.i64.wrap (IntKind.i64.wrap (n-1)-x2.lo)-x2.lo)+1))≠0/\K (.one (.at (.val (VI (IntKind.i64.wrap (x2.lo+IntKind.i64.wrap (t.tmod (IntKind.u64.wrap (IntKind.i64.wrap (IntKind.i64.wrap (IntKind.i64.wrap (IntKind.i64.wrap (n-1)-x2.lo)-x2.lo)+1)))))))))) [] []))))=_ by kernel_rfl) ?_
 obtain⟨bq,bn⟩:=bal_quarter h1
 refine⟨by omega,by omega,fun x hx=>⟨⟨⟨x,hx⟩,trivial,⟨rfl,rfl,rfl,trivial⟩,trivial⟩,fun x1 _=>?_⟩⟩
 obtain⟨lo,rfl⟩:=x1
 dsimp only
 rw[wrap_id (x:=n / 4-1) (by omega) (by omega),wrap_id (x:=n-n / 4) (by omega) (by omega),wrap_id (x:=n-1) (by omega) (by omega)]
 refine brS_of (fun c=>?_) fun c=>?_
 ·have c:n / 4>0:=of_decide_eq_true c
  refine⟨by omega,by omega,by omega,by omega,fun b hb=>brS_of (fun d=>?_) fun d=>?_⟩
  ·rw[d] at hb
   exact absurd (of_decide_eq_true hb.symm) (bn c)
  ·refine⟨⟨⟨n / 4,rfl⟩,trivial,⟨rfl,rfl,rfl,trivial⟩,trivial⟩,fun x2 _=>?_⟩
   obtain⟨lo,rfl⟩:=x2
   dsimp only
   rw[wrap_id (x:=n-1-n / 4) (by omega) (by omega),wrap_id (x:=n-1-n / 4-n / 4) (by omega) (by omega),wrap_id (x:=n-1-n / 4-n / 4+1) (by omega) (by omega)]
   have fin:brS (decide (n-1-n / 4<n / 4)) (K (.one (.at (vI (IntKind.i64.wrap (n.tdiv 2))))) [] []) (IntKind.u64.wrap (n-1-n / 4-n / 4+1)≠0/\K (.one (.at (vI (IntKind.i64.wrap (n / 4+IntKind.i64.wrap (t.tmod (IntKind.u64.wrap (n-1-n / 4-n / 4+1)))))))) [] []):=by
    refine brS_of (fun g=>?_) fun g=>?_
    ·have g:n-1-n / 4<n / 4:=of_decide_eq_true g
     rw[Int.tdiv_eq_ediv_of_nonneg (by omega),wrap_id (by omega) (by omega)]
     exact h _ (by omega) (by omega) ⟨by omega,by omega⟩ (by unfold pvT;rw[if_pos g])
    ·have g:¬ n-1-n / 4<n / 4:=of_decide_eq_false g
     have hm:=Int.emod_nonneg t (show n-1-n / 4-n / 4+1≠0 by omega)
     have hm2:=Int.emod_lt_of_pos t (show 0<n-1-n / 4-n / 4+1 by omega)
     rw[wrap_u64 (by omega) (by omega),Int.tmod_eq_emod_of_nonneg h3,wrap_id (x:=t % _) (by omega) (by omega),wrap_id (by omega) (by omega)]
     exact⟨by omega,h _ (by omega) (by omega) ⟨by omega,by omega⟩ (by unfold pvT;rw[if_neg g])⟩
   refine brS_of (fun e=>⟨by omega,by omega,by omega,by omega,fun b1 hb1=>brS_of (fun f=>?_) fun f=>fin⟩) fun e=>fin
   have e:b1=true:=by rw[hb1];exact decide_eq_true bq
   rw[e] at f;cases f
 ·refine⟨⟨⟨n / 4,rfl⟩,trivial,⟨rfl,rfl,rfl,trivial⟩,trivial⟩,fun x2 _=>?_⟩
  obtain⟨lo,rfl⟩:=x2
  dsimp only
  rw[wrap_id (x:=n-1-n / 4) (by omega) (by omega),wrap_id (x:=n-1-n / 4-n / 4) (by omega) (by omega),wrap_id (x:=n-1-n / 4-n / 4+1) (by omega) (by omega)]
  have fin:brS (decide (n-1-n / 4<n / 4)) (K (.one (.at (vI (IntKind.i64.wrap (n.tdiv 2))))) [] []) (IntKind.u64.wrap (n-1-n / 4-n / 4+1)≠0/\K (.one (.at (vI (IntKind.i64.wrap (n / 4+IntKind.i64.wrap (t.tmod (IntKind.u64.wrap (n-1-n / 4-n / 4+1)))))))) [] []):=by
   refine brS_of (fun g=>?_) fun g=>?_
   ·have g:n-1-n / 4<n / 4:=of_decide_eq_true g
    rw[Int.tdiv_eq_ediv_of_nonneg (by omega),wrap_id (by omega) (by omega)]
    exact h _ (by omega) (by omega) ⟨by omega,by omega⟩ (by unfold pvT;rw[if_pos g])
   ·have g:¬ n-1-n / 4<n / 4:=of_decide_eq_false g
    have hm:=Int.emod_nonneg t (show n-1-n / 4-n / 4+1≠0 by omega)
    have hm2:=Int.emod_lt_of_pos t (show 0<n-1-n / 4-n / 4+1 by omega)
    rw[wrap_u64 (by omega) (by omega),Int.tmod_eq_emod_of_nonneg h3,wrap_id (x:=t % _) (by omega) (by omega),wrap_id (by omega) (by omega)]
    exact⟨by omega,h _ (by omega) (by omega) ⟨by omega,by omega⟩ (by unfold pvT;rw[if_neg g])⟩
  refine brS_of (fun e=>⟨by omega,by omega,by omega,by omega,fun b1 hb1=>brS_of (fun f=>?_) fun f=>fin⟩) fun e=>fin
  have e:b1=true:=by rw[hb1];exact decide_eq_true bq
  rw[e] at f;cases f
theorem s_pivS:SoundT C0 85 tPivS:=by
 refine .of Tryz.func85 (by decide) rfl fun args H K h hB=>?_
 unfold tPivS at h
 split at h<;>try exact h.elim
 rename_i n t
 exact⟨aPivS n,⟨frame C0.ok s_least _,frame C0.ok s_bal _,trivial⟩,vc_pivS n t K h.1 h.2.1 h.2.2.1 h.2.2.2.2⟩
theorem wrap_u64_lt (x:Int):IntKind.u64.wrap x<18446744073709551616:=by
 unfold IntKind.wrap
 simp[IntKind.signed,IntKind.bits]
 omega
theorem vc_plaS (n:Nat)(S:Arn)(l:List Ent)(t:Int)(K:KT)(hs:List Int)(hw:Wf S hs)(h1:l.length<n+1)(h2:l.length<=100000)(h3:(l.length:Int)<=S.free)(h4:hs.length+l.length<=900000000)(h5:0<=t)(h5b:t<18446744073709551616)(h:∀ S' i,PlantS (n+1) S hs l t S' i->K (.tup [.at (vU i),.at (vB true)]) (chS S'++[.row false EC.ent l]) W7) :
  vc C0 (aPlaS n) Tryz.f40 [.at (.ptr 0 0),.at (.slc 7),.at (vU64 t)] (chS S++[.row false EC.ent l]) (normK 8 (wideK W7 K)):=by
 refine Eq.mp (show (brS ((l.length:Int)==0) (K (.tup [(.at (.val (VU 0))),(.at (.val (Value.bool true)))]) [(.box [(.ptr 1 0),(.slc 2),(.slc 3),(.val (VW (S.reads)))]),(.box [(.slc 4),(.slc 5),(.slc 6),(.val (VU (S.fresh)))]),(.row true EC.node (S.nodes)),(.row true EC.int (S.counts)),(.row true EC.bool (S.used)),(.row true EC.u32 (S.gen)),(.row true EC.u32 (S.rel)),(.row false EC.ent (l))] [0,1,2,3,4,5,6]) (1<=(l.length:Int)/\(l.length:Int)<=100000/\0<=t/\t<18446744073709551616/\∀ p:Int,0<=p->p<(l.length:Int)->balN p ((l.length:Int)-1-p)->p=(pvT (l.length:Int) t)->(0:Int)<=0/\0<=p/\p<=(l.length:Int)/\∃ hs:List Int,Wf S hs/\(List.drop (Int.toNat 0) (List.take p.toNat l)).length<n/\(List.drop (Int.toNat 0) (List.take p.toNat l)).length<=100000/\(↑(List.drop (Int.toNat 0) (List.take p.toNat l)).length:Int)<=S.free/\hs.length+(List.drop (Int.toNat 0) (List.take p.toNat l)).length<=900000000/\0<=IntKind.u64.wrap (IntKind.u64.wrap (t.tdiv 5)+IntKind.u64.wrap (t*3))/\IntKind.u64.wrap (IntKind.u64.wrap (t.tdiv 5)+IntKind.u64.wrap (t*3))<18446744073709551616/\∀ S':Arn,∀ i:Int,PlantS n S hs (List.drop (Int.toNat 0) (List.take p.toNat l)) (IntKind.u64.wrap (IntKind.u64.wrap (t.tdiv 5)+IntKind.u64.wrap (t*3))) S' i->0<=IntKind.i64.wrap (p+1)/\IntKind.i64.wrap (p+1)<=(l.length:Int)/\(l.length:Int)<=(l.length:Int)/\∃ hs1:List Int,Wf S' hs1/\(List.drop (IntKind.i64.wrap (p+1)).toNat (List.take (l.length:Int).toNat l)).length<n/\(List.drop (IntKind.i64.wrap (p+1)).toNat (List.take (l.length:Int).toNat l)).length<=100000/\
 (↑(List.drop (IntKind.i64.wrap (p+1)).toNat (List.take (l.length:Int).toNat l)).length:Int)<=S'.free/\hs1.length+(List.drop (IntKind.i64.wrap (p+1)).toNat (List.take (l.length:Int).toNat l)).length<=900000000/\0<=IntKind.u64.wrap (IntKind.u64.wrap (IntKind.u64.wrap (t.tdiv 7)+IntKind.u64.wrap (t*5))+1)/\IntKind.u64.wrap (IntKind.u64.wrap (IntKind.u64.wrap (t.tdiv 7)+IntKind.u64.wrap (t*5))+1)<18446744073709551616/\∀ S'1:Arn,∀ i1:Int,PlantS n S' hs1 (List.drop (IntKind.i64.wrap (p+1)).toNat (List.take (l.length:Int).toNat l)) (IntKind.u64.wrap (IntKind.u64.wrap (IntKind.u64.wrap (t.tdiv 7)+IntKind.u64.wrap (t*5))+1)) S'1 i1->0<=p/\p<(l.length:Int)/\0<=p/\p<(l.length:Int)/\exW S'1/\live S'1 i/\live S'1 i1/\(mkNode S'1 (l.getD p.toNat (0,0)).fst (l.getD p.toNat (0,0)).snd i i1).size<=maxSize/\0<S'1.free/\∀ S'2:Arn,∀ i2:Int,S'2=(makeS S'1 (l.getD p.toNat (0,0)).fst (l.getD p.toNat (0,0)).snd i i1)->i2=nxt S'1->∃ hs2:List Int,Wf S'2 (i::hs2)/\(S'2.us i=true->1<=S'2.indeg i)/\∀ S'3:Arn,S'3=relA S'2 i->∃ hs3:List Int,Wf S'3 (i1::hs3)/\(S'3.us i1=true->1<=S'3.indeg i1)/\∀ S'4:Arn,S'4=relA S'3 i1->K (.tup [(.at (.val (VU (i2)))),(.at (.val (Value.bool (i2 != 0))))]) [(.box [(.ptr 1 0),(.slc 2),(.slc 3),(.val (VW (S'4.reads)))]),(.box [(.slc 4),(.slc 5),(.slc 6),(.val (VU (S'4.fresh)))]),(.row true EC.node (S'4.nodes)),(.row true EC.int (S'4.counts)),(.row true EC.bool (S'4.used)),(.row true EC.u32 (S'4.gen)),(.row true EC.u32 (S'4.rel)),(.row false EC.ent (l))] [0,1,2,3,4,5,6]))=_ by kernel_rfl) ?_
 refine brS_of (fun c=>?_) fun c=>⟨?_,by omega,h5,h5b,fun p p0 p1 hb pv=>?_⟩
 ·have e:l=[]:=List.length_eq_zero_iff.1 (by simpa using c)
  have hr:PlantR S hs l S 0:=by rw[e];exact PlantR.nil hw (by omega)
  exact h S 0 ⟨hr,by
   show Rep S (if l.length=0 then _ else _) 0
   rw[e]
   exact rfl⟩
 ·have c:¬ (l.length:Int)=0:=by simpa using c
  omega
 ·have hp:p.toNat<l.length:=by omega
  have ea:List.drop (Int.toNat 0) (List.take p.toNat l)=l.take p.toNat:=rfl
  rw[wrap_id (x:=p+1) (by omega) (by omega),ea,show (l.length:Int).toNat=l.length by omega,List.take_length,show (p+1).toNat=p.toNat+1 by omega]
  have la:(l.take p.toNat).length=p.toNat:=by simp;omega
  have lb:(l.drop (p.toNat+1)).length=l.length-(p.toNat+1):=by simp
  have hf:=hw.free_nonneg
  refine⟨by decide,p0,by omega,hs,hw,by omega,by omega,by omega,by omega,wrap_u64_nonneg _,wrap_u64_lt _,fun S1 il q1_=>?_⟩
  have r1:=q1_.p
  have hf1:=r1.wf.free_nonneg
  have n1:=r1.nu
  have c1:S1.cap=S.cap:=by unfold Arn.cap;rw[r1.len]
  refine⟨by omega,by omega,by omega,il::hs,r1.wf,by omega,by omega,by omega,by simp;omega,wrap_u64_nonneg _,wrap_u64_lt _,fun S2 ir q2_=>?_⟩
  have r2:=q2_.p
  have hf2:=r2.wf.free_nonneg
  have n2:=r2.nu
  have c2:S2.cap=S1.cap:=by unfold Arn.cap;rw[r2.len]
  have hw2:Wf S2 (il::ir::hs):=r2.wf.perm (List.Perm.swap _ _ _)
  have hfr:0<S2.free:=by omega
  obtain⟨tl,q1,q2,_⟩:=r1.rep
  obtain⟨tr,q3,q4,_⟩:=r2.rep
  have q1':Rep S2 tl il:=q1.held r1.wf r2.stay (.inr (by simp))
  have s1:tl.size=p.toNat:=by rw[← tl.list_len,q2,la]
  have s2:tr.size=l.length-(p.toNat+1):=by rw[← tr.list_len,q4,lb]
  have hz:∀ k v,(mkNode S2 k v il ir).size<=maxSize:=fun k v=>by rw[mk_size hw2 q1' q3];unfold maxSize;omega
  refine⟨p0,p1,p0,p1,⟨_,hw2⟩,hw2.held il (by simp),hw2.held ir (by simp),hz _ _,hfr,fun S3 i e1 e2=>?_⟩
  obtain⟨t1,t2,t3,t4⟩:=node_two (k:=(l.getD p.toNat (0,0)).1) (v:=(l.getD p.toNat (0,0)).2) hw2 hfr (hz _ _) (by omega)
  subst e1
  refine⟨_,t1,t2,fun S4 e3=>?_⟩
  subst e3
  refine⟨_,t3,t4,fun S5 e4=>?_⟩
  have hx:=(hw2.nxt_spec hfr).1
  have hi0:(i != 0)=true:=by rw[e2];simp;omega
  rw[hi0]
  refine h S5 i ?_
  have hr:PlantR S hs (l.take p.toNat++l.getD p.toNat (0,0)::l.drop (p.toNat+1)) S5 i:=r1.node r2 (by rw[la,lb];have e:((l.length-(p.toNat+1):Nat):Int)=(l.length:Int)-1-p:=(by omega);rw[e,show (p.toNat:Int)=p by omega];exact hb) fun tl' tr' x1 x2=>by
   rw[e4,e2];exact node_ok hw2 hfr (hz _ _) (by omega) x1 x2
  rw[split_at hp] at hr
  refine⟨hr,?_⟩
  have g:=(node_ok (k:=(l.getD p.toNat (0,0)).1) (v:=(l.getD p.toNat (0,0)).2) hw2 hfr (hz _ _) (by omega) (q1_.sh.held r1.wf r2.stay (.inr (by simp))) q2_.sh).rep
  rw[e4,e2]
  show Rep _ (if l.length=0 then _ else _) _
  rw[if_neg (by omega),← pv]
  exact g
theorem s_plaS:∀ n,SoundT C0 40 (tPlaS n):=by
 intro n
 induction n with
 | zero =>
  refine .of Tryz.func40 (by decide) rfl fun args H K h hB=>?_
  exfalso
  unfold tPlaS at h
  split at h<;>try exact h.elim
  unfold arMr at h
  split at h<;>try exact h.elim
  split at h<;>try exact h.elim
  obtain⟨_,_,h1,_⟩:=h
  omega
 | succ n ih =>
  refine .ofW W7 Tryz.func40 (by decide) rfl fun args H K h hB=>?_
  unfold tPlaS at h
  split at h<;>try exact h.elim
  unfold arMr at h
  split at h<;>try exact h.elim
  split at h<;>try exact h.elim
  rename_i t _ rd fr nd ct us gn rl _ l
  obtain⟨hs,h1,h2,h3,h4,h5,h6,h7,h8⟩:=h
  exact⟨aPlaS n,⟨frame C0.ok s_pivS _,frame C0.ok ih _,frame C0.ok s_makeOk _,frame C0.ok s_give _,trivial⟩,vc_plaS n ⟨us,gn,rl,fr,nd,ct,rd⟩ l t K hs h1 h2 h3 h4 h5 h6 h7 h8⟩
theorem vc_groS (l:List Ent)(t sp:Int)(K:KT)(h1:0<=t)(h1b:t<18446744073709551616)(h2:1<=sp)(h3:sp<=30000)(h4:l.length<=30000)(h:∀ S' i,PlantS 100001 (newS ((l.length:Int)+sp).toNat) [] l t S' i->K (.tup [.at (.ptr 1 0),.at (vU i),.at (vB true)]) ([.row false EC.ent l]++chSk 1 S') []) :
  vc C0 aGroS Tryz.f9 [.at (.slc 0),.at (vU64 t),.at (vI sp)] [.row false EC.ent l] (normK 1 K):=by
 refine Eq.mp (show ((IntKind.i64.wrap ((l.length:Int)+sp)<1∨65536<IntKind.i64.wrap ((l.length:Int)+sp)->K (.tup [(.at (.val (Value.pointer none))),(.at (.val (VU 0))),(.at (.val (Value.bool false)))]) [(.row false EC.ent (l))] [])/\(1<=IntKind.i64.wrap ((l.length:Int)+sp)->IntKind.i64.wrap ((l.length:Int)+sp)<=65536->∀ S:Arn,S=(newS (IntKind.i64.wrap ((l.length:Int)+sp)).toNat)->∃ hs:List Int,Wf S hs/\l.length<100001/\l.length<=100000/\(l.length:Int)<=S.free/\hs.length+l.length<=900000000/\0<=t/\t<18446744073709551616/\∀ S':Arn,∀ i:Int,PlantS 100001 S hs l t S' i->K (.tup [(.at (.ptr 1 0)),(.at (.val (VU (i)))),(.at (.val (Value.bool true)))]) [(.row false EC.ent (l)),(.box [(.ptr 2 0),(.slc 3),(.slc 4),(.val (VW (S'.reads)))]),(.box [(.slc 5),(.slc 6),(.slc 7),(.val (VU (S'.fresh)))]),(.row true EC.node (S'.nodes)),(.row true EC.int (S'.counts)),(.row true EC.bool (S'.used)),(.row true EC.u32 (S'.gen)),(.row true EC.u32 (S'.rel))] []))=_ by kernel_rfl) ?_
 rw[wrap_id (x:=(l.length:Int)+sp) (by omega) (by omega)]
 refine⟨fun c=>by omega,fun _ _ S hS=>?_⟩
 subst hS
 refine⟨[],Wf.new (by omega) (by omega),by omega,by omega,?_,by simp;omega,h1,h1b,h⟩
 rw[new_free (by omega) (by omega)];omega
theorem s_groS:SoundT C0 9 tGroS:=by
 refine .of Tryz.func9 (by decide) rfl fun args H K h hB=>?_
 unfold tGroS at h
 split at h<;>try exact h.elim
 rename_i t sp l
 obtain⟨h1,h1b,h2,h3,h4,h5⟩:=h
 exact⟨aGroS,⟨frame C0.ok s_new _,frame C0.ok (s_plaS 100001) _,trivial⟩,vc_groS l t sp K h1 h1b h2 h3 h4 h5⟩
end Go.Proofs.YtedfbafngmicpaaGreat.Sx
end
section
/- Law PackOfUpdateIsSmall. -/
namespace Go.Proofs.YtedfbafngmicpaaGreat.Sx
open Go

/-KEEP Wf exW inU allV allB rdS Arn.free Arn.cap RtB ExO IxB ImX RngL slotsOf orderOf RepD Asc Tr.Bal Tr.size Tr.list newS PlantS lsP upM TrR insE getE Hn pkD ndsR lfsR rgsR-/
def lsP (n:Nat):List Ent:=(List.range n).map fun (j:Nat)=>(3*(j:Int),(j:Int))
structure XPs (P:Nat->Prop) where
 i:Nat
 h:P i
noncomputable def aPs (P:Nat->Prop)(n k v:Int):Ann C0:={ quiet:=[9999999,8,14,18,17,16],Γ:=[(8,frameT [] tMod),(9,frameT [] tGroS),(10,frameT [] tAw28),(11,frameT [] tUpIn),(12,frameT [] tExr),(13,frameT [] tRdR),(14,frameT [] (tRes1 4 1)),(15,frameT [] tImx),(17,frameT [] tDump),(18,frameT [] tIns),(16,frameT [] tTr7)],inv:=fun m=>match m with
 | 4=>some { X:=XPs P,sl:=[5,7,8,9],tf:=fun x=>[.one (.at (.ptr 0 0)),vi .i64 (100+n % 400),.one (.at (.slc 1)),vi .i64 x.i],hf:=fun x=>[.box [vI k,vI v],.row true EC.ent (lsP x.i)],μ:=fun x=>(100+n % 400).toNat-x.i }
 | _=>none }
def tPs:Tfm C0:=fun args H K=>match args,H with
 | [.at (.val (.int .i64 n)),.at (.val (.int .u64 t)),.agg [.val (.int .i64 k),.val (.int .i64 v)]],[]=>0<=t/\t<18446744073709551616/\(-9223372036854775808<=n/\n<=9223372036854775807)/\rngI k/\rngI v/\K (.one (.at (vB true))) [] []
 | _,_=>False
theorem used_nu {S:Arn}{hs l:List Int}(w:Wf S hs)(nd:l.Nodup)(us:∀ j∈l,S.us j=true):l.length<=S.nu:=by
 have q:=len_nd l (((List.range S.used.length).filter fun i=>S.used.getD i false).map fun (i:Nat)=>(i:Int)) nd fun x hx=>by
  have u:=us x hx
  have p:=w.pos u
  refine List.mem_map.2 ⟨x.toNat,List.mem_filter.2 ⟨List.mem_range.2 ?_,?_⟩,by omega⟩
  ·omega
  ·unfold Arn.us at u
   simpa using u
 rw[List.length_map,← List.countP_eq_length_filter] at q
 unfold Arn.nu
 rw[countP_range_getD]
 exact q
theorem lsP_len (n:Nat):(lsP n).length=n:=by unfold lsP;rw[List.length_map,List.length_range]
theorem lsP_snoc (n:Nat):lsP (n+1)=lsP n++[(3*(n:Int),(n:Int))]:=by unfold lsP;rw[List.range_succ,List.map_append];rfl
theorem lsP_asc (n:Nat):Asc (lsP n):=by
 unfold lsP Asc
 refine List.pairwise_map.2 ((List.pairwise_lt_range (n:=n)).imp fun {a b} h=>?_)
 show 3*(a:Int)<3*(b:Int)
 omega
theorem lsP_rng {n:Nat}(h:n<=1000):RngL (lsP n):=fun z hz=>by
 obtain⟨j,hj,rfl⟩:=List.mem_map.1 hz
 have:=List.mem_range.1 hj
 unfold rngI
 exact⟨⟨by show _<=3*(j:Int);omega,by show 3*(j:Int)<=_;omega⟩,by show _<=(j:Int);omega,by show (j:Int)<=_;omega⟩
theorem Hn_500:Hn ((500:Nat):Int)<=40:=by decide +kernel
theorem ps_small {S0 S1:Arn}{ha la lk:List Int}{T:Tr}{i j:Int}{mk:Nat}(w:Wf S1 ha)(rp:Rep S1 T i)(asc:Asc T.list)(n1:NumsA S1 [i] [] lk)(n2:NumsA S1 [j] lk la)(nu:S1.nu<=S0.nu+mk)(n0:S0.nu=T.list.length):lk.length<=la.length/\la.length-lk.length<=mk:=by
 have ls:=LsN.of w n1
 have l2:=LsN.of w (n1.app n2)
 have a:=used_nu w l2.nd l2.used
 obtain⟨y,ey⟩:=n2.pre
 have le:lk.length<=la.length:=by rw[ey,List.length_append];omega
 have k:=closed_keys ls rp (fun u=>n1.roots i (by simp) u)
 have q:=len_nd (T.list.map Prod.fst) (keysA S1 lk) (List.pairwise_map.2 (List.Pairwise.imp (fun {a b} q=>Int.ne_of_lt q) asc)) fun x hx=>by
  obtain⟨z,hz,rfl⟩:=List.mem_map.1 hx
  exact k z hz
 rw[List.length_map] at q
 unfold keysA at q
 rw[List.length_map] at q
 exact⟨le,by omega⟩
theorem vc_ps (n t k v:Int)(K:KT)(h0:0<=t)(h1:t<18446744073709551616)(hk:rngI k)(hv:rngI v)(h:K (.one (.at (vB true))) [] []) :
  vc C0 (aPs (fun i=>i<=(100+n % 400).toNat) n k v) Tryz.f3 [.at (vI n),.at (vU64 t),.agg [vI k,vI v]] [] (normK 0 K):=by
 generalize hP:(fun i:Nat=>i<=(100+n % 400).toNat)=P
 refine Eq.mp (show ((0:Int)<400/\(400:Int)<=9223372036854775807/\∀ x:Int,x=(n % 400)->(∃ x1:XPs P,True/\(VW (t)=VW (t)/\True/\(VI (IntKind.i64.wrap (100+x)))=(VI (100+n % 400))/\True/\VI 0=(VI (x1.i:Int))/\True)/\(VI (k)=VI (k)/\VI (v)=VI (v)/\True)/\[]=lsP x1.i/\True)/\∀ x1:XPs P,True->brS (decide ((x1.i:Int)<100+n % 400)) (((lsP x1.i).length+[(IntKind.i64.wrap (3*(x1.i:Int)),(x1.i:Int))].length)*bytesOf C0 EC.ent<=140737488355328/\∃ x':XPs P,True/\((VW (t)=VW (t)/\True/\VI (100+n % 400)=VI (100+n % 400)/\True/\(VI (IntKind.i64.wrap ((x1.i:Int)+1)))=(VI (x'.i:Int))/\True)/\(VI (k)=VI (k)/\VI (v)=VI (v)/\True)/\(lsP x1.i++[(IntKind.i64.wrap (3*(x1.i:Int)),(x1.i:Int))])=lsP x'.i/\True)/\(100+n % 400).toNat-x'.i<(100+n % 400).toNat-x1.i) (0<=t/\t<18446744073709551616/\(1:Int)<=300/\(300:Int)<=30000/\(lsP x1.i).length<=30000/\∀ S':Arn,∀ i:Int,PlantS 100001 (newS ((↑(lsP x1.i).length:Int)+300).toNat) [] (lsP x1.i) t S' i->∃ hs:List Int,∃ t1:Tr,upM S' hs t1 i/\4*(Hn ((t1.size:Int)+1)+2)<=S'.free/\∀ S'1:Arn,∀ j:Int,∀ o:Option Int,o=getE t1.list k->TrR S' hs (insE t1.list (k,v)) (iB t1.size) (5*iB t1.size+ht t1+1) S'1 j->∃ hs1:List Int,RtB S'1 hs1 [i] [j]/\∀ S'2:Arn,∀ o1:List Int,ExO S'1 hs1 [i] [j] S'2 o1->allB o1/\o1.length<=1000000000/\∀ e:Int,∀ p:PKT,∀ m:Int,∀ r:Int,pkD o1=(Prod.mk (e) (p))->m=((p.nodes.length:Int))->r=((p.roots.length:Int))->brS (e != 0) (K (.one (.at (.val (Value.bool false)))) [] []) (0<=100+n % 400/\100+n % 400<=65536/\∀ p1:Int,p1=(4*(Hn (100+n % 400+1)+2))->brS (decide (m>IntKind.u64.wrap p1)) (K (.one (.at (.val (Value.bool false)))) [] []) (0<=t/\
 t<18446744073709551616/\(1:Int)<=300/\(300:Int)<=30000/\(lsP x1.i).length<=30000/\∀ S'3:Arn,∀ i1:Int,PlantS 100001 (newS ((↑(lsP x1.i).length:Int)+300).toNat) [] (lsP x1.i) t S'3 i1->∃ A:Arn,∃ ha:List Int,∃ ks:List Int,∃ rs:List Int,∃ B:Arn,∃ hb:List Int,IxB A ha ks rs B hb [i1] S'3 o1/\∀ S2:Arn,∀ x2:List Int,ImX A ha ks rs B hb [i1] S2 x2->brS ((x2.length:Int)==1) ((0:Int)<=0/\0<(x2.length:Int)/\exW S2/\∀ d:List SlotT,∀ o2:List Int,d=slotsOf S2->o2=orderOf S2->(lsP x1.i).length<=1000000/\d.length<=1000000/\(∃ t2:Tr,RepD d t2 (getB x2 (Int.toNat 0))/\Asc t2.list/\t2.Bal/\t2.size<=2*d.length+2/\t2.size<=1000000/\t2.list=(insE (lsP x1.i) (k,v)))/\K (.one (.at (.val (Value.bool true)))) [] []) (K (.one (.at (.val (Value.bool false)))) [] [])))))=_ by kernel_rfl) ?_
 have m0:=Int.emod_nonneg n (show (400:Int)≠0 by decide)
 have m1:=Int.emod_lt_of_pos n (show (0:Int)<400 by decide)
 refine⟨by decide,by decide,fun x ex=>⟨⟨⟨0,by rw[← hP];exact Nat.zero_le _⟩,trivial,?_⟩,fun x1 _=>brS_of (fun y=>?_) fun y=>?_⟩⟩
 ·rw[ex,wrap_id (x:=100+n % 400) (by omega) (by omega)]
  (repeat' first|exact trivial|exact rfl|refine And.intro ?_ ?_)
 ·obtain⟨i,hi⟩:=x1
  dsimp only at y ⊢
  have yi:i<(100+n % 400).toNat:=by have:=of_decide_eq_true y;omega
  rw[wrap_id (x:=3*(i:Int)) (by omega) (by omega),wrap_id (x:=(i:Int)+1) (by omega) (by omega),bytes_ent,lsP_len,← lsP_snoc]
  refine⟨by rw[List.length_singleton];omega,⟨i+1,by rw[← hP];exact yi⟩,trivial,?_,Nat.sub_lt_sub_left yi (Nat.lt_succ_self i)⟩
  (repeat' first|exact trivial|exact rfl|refine And.intro ?_ ?_)
 obtain⟨N,hi⟩:=x1
 dsimp only at y ⊢
 have hi:N<=(100+n % 400).toNat:=by rw[← hP] at hi;exact hi
 have eN:(N:Int)=100+n % 400:=by have:=of_decide_eq_false y;omega
 have asc:=lsP_asc N
 have rng:=lsP_rng (n:=N) (by omega)
 have ll:=lsP_len N
 rw[← eN]
 generalize lsP N=L at asc rng ll ⊢
 have hn:=Hn_leq (n:=N+1) (m:=500) (by omega)
 have h5:=Hn_500
 rw[show ((N+1:Nat):Int)=(N:Int)+1 by omega] at hn
 refine⟨h0,h1,by decide,by decide,by omega,fun S0 i pl=>?_⟩
 have ec:((L.length:Int)+300).toNat=N+300:=by omega
 rw[ec] at pl ⊢
 obtain⟨t0,q1,q2,q3⟩:=pl.p.rep
 have w0:=pl.p.wf
 have eT:shpT 100001 L t=t0:=(trA_eq w0 pl.sh).symm.trans (trA_eq w0 q1)
 have sh:=pl.sh
 generalize hT:shpT 100001 L t=T at eT sh
 subst eT
 have sz:T.size=N:=by rw[← T.list_len,q2,ll]
 have r0:S0.reads=0:=by rw[pl.p.rds];rfl
 have fr:=plant_free pl.p
 have n0:S0.nu=N:=by
  have a:=pl.p.nu
  have b:(newS (N+300)).nu=0:=by simp[Arn.nu,newS,List.countP_replicate]
  omega
 have ascT:Asc T.list:=by rw[q2];exact asc
 refine⟨[i],T,⟨w0,sh,q3,ascT,by omega,by simp,by omega⟩,by rw[sz];omega,fun S1 j o _ tr=>?_⟩
 obtain⟨t2,p1,p2,p3⟩:=tr.tree
 have w1:Wf S1 [j,i]:=tr.got.wf
 have rT:Rep S1 T i:=sh.held w0 tr.got.stay (.inr (by simp))
 have ib:=iB_Hn T.size
 rw[sz] at ib
 have hm:=Hn_mono1 N
 have hr:=Hn_rng N
 have rd1:=tr.got.rd
 rw[sz] at rd1
 have hb0:=Bal.height q3 (by omega)
 rw[sz] at hb0
 have iasc:Asc t2.list:=by rw[p2];exact insE_asc _ ascT
 have irng:RngL t2.list:=fun z hz=>by
  rw[p2] at hz
  rcases insE_mem ascT hz with c|c
  ·rw[c];exact⟨hk,hv⟩
  ·rw[q2] at c;exact rng z c
 have oi:OkT S1 i:=⟨T,rT,ascT,q3,by rw[q2];exact rng⟩
 have oj:OkT S1 j:=⟨t2,p1,iasc,p3,irng⟩
 have rt:RtB S1 [j,i] [i] [j]:=rtB_of w1 (by simp) (by omega) (by simp) (by simp) fun r hr=>by
  simp only[List.cons_append,List.nil_append,List.mem_cons,List.not_mem_nil,or_false] at hr
  rcases hr with rfl|rfl
  ·exact oi
  ·exact oj
 refine⟨[j,i],rt,fun S2 o1 ex=>⟨ex.ab,by have:=ex.bl;omega,fun e p m r ep em _=>?_⟩⟩
 obtain⟨lk,la,D,rp⟩:=ex.p
 rw[rp.dec] at ep
 injection ep with ep1 ep2
 subst ep1 ep2
 have sm:=ps_small w1 rT ascT rp.ex.nk rp.ex.na tr.got.nu (by rw[n0,q2,ll])
 have em:m=((la.length-lk.length:Nat):Int):=by rw[em];show ((nsA S1 lk la).length:Int)=_;rw[nsA_len]
 have hm2:la.length-lk.length<=iB T.size:=sm.2
 rw[sz] at hm2
 refine bf7 (by simp) ⟨by omega,by omega,fun p1' e1'=>?_⟩
 rw[wrap_u64 (x:=p1') (by omega) (by omega)]
 refine bf7 (decide_eq_false (by omega)) ⟨h0,h1,by decide,by decide,by omega,fun O i1 pl2=>?_⟩
 have wO:=pl2.p.wf
 have shO:=pl2.sh
 rw[hT] at shO
 have frO:=plant_free pl2.p
 have rO:O.reads=0:=by rw[pl2.p.rds];rfl
 obtain⟨lkB,nB,ki,kr⟩:=kni_same w1 wO ascT rT shO rp.ex.nk
 have oO:OkT O i1:=⟨T,shO,ascT,q3,by rw[q2];exact rng⟩
 have rtO:RtB O [i1] [i1] []:=rtB_of wO (by simp) (by omega) (by simp) (by simp) fun r hr=>by
  simp only[List.append_nil,List.mem_singleton] at hr
  rw[hr];exact oO
 refine⟨S1,[j,i],[i],[j],O,[i1],⟨ex.ab,ex.bl,⟨0,(rdS_zero O).symm,by decide⟩,by omega,lk,la,lkB,D,⟨rp,rtO.kn,nB,ki,kr⟩,by omega⟩,fun S4 x2 im=>?_⟩
 obtain⟨lk',la',lkB',nw,q,im⟩:=im
 have xe:=im.ex_
 rw[List.map_cons,List.map_nil] at xe
 have g:=im.rep j (im.rs_in j (by simp))
 rw[trA_eq w1 p1] at g
 rw[xe]
 refine bt7 rfl ⟨by decide,by show (0:Int)<1;decide,⟨_,im.wf⟩,fun d o2 ed _=>⟨by omega,?_⟩⟩
 have sl:=slots_le im.wf
 refine⟨by rw[ed];omega,?_,h⟩
 rw[ed]
 exact tr_tree im.wf (show Rep S4 t2 (imF lkB' la' nw j) from g) (by rw[p2,q2]) p3 (by rw[← q2,← p2];exact iasc)
theorem s_ps:SoundT C0 3 tPs:=by
 refine .of Tryz.func3 (by decide) rfl fun args H K h hB=>?_
 unfold tPs at h
 split at h<;>try exact h.elim
 obtain⟨h1,h2,h3,h4,h5,h6⟩:=h
 refine⟨_,?_,vc_ps _ _ _ _ K h1 h2 h4 h5 h6⟩
 exact⟨frame C0.ok s_mod _,frame C0.ok s_groS _,frame C0.ok s_aw28 _,frame C0.ok s_upIn _,frame C0.ok s_exr _,frame C0.ok s_rdR _,frame C0.ok s_nIns _,frame C0.ok s_imx _,frame C0.ok s_dump _,frame C0.ok s_ins _,frame C0.ok s_tr7 _,trivial⟩
end Go.Proofs.YtedfbafngmicpaaGreat.Sx
end
section
/- What every law's last step leans on. -/
namespace Go.Proofs.YtedfbafngmicpaaGreat
open Go.ChangeShapes Go.WideShapes Go.ChangeAt Go.RowKit

theorem ownK:ownKnob Tryz.prog.godebug=none:=by kernel_rfl
theorem laidO:laidOutB Tryz.prog=true:=by kernel_rfl

theorem lit_i64 {a:Int}(h:(Lit.int .i64 a).wf=true) : -9223372036854775808<=a/\a<=9223372036854775807:=by
 have h1:IntKind.i64.min = -9223372036854775808:=rfl
 have h2:IntKind.i64.max=9223372036854775807:=rfl
 simp only[Lit.wf,Bool.and_eq_true,decide_eq_true_eq] at h
 omega
theorem lit_u64 {a:Int}(h:(Lit.int .u64 a).wf=true):0<=a/\a<=18446744073709551615:=by
 have h1:IntKind.u64.min=0:=rfl
 have h2:IntKind.u64.max=18446744073709551615:=rfl
 simp only[Lit.wf,Bool.and_eq_true,decide_eq_true_eq] at h
 omega
end Go.Proofs.YtedfbafngmicpaaGreat
end
section
/- From contracts to laws: the arguments as they come, what a law's call leaves. -/
namespace Go.Proofs.YtedfbafngmicpaaGreat.Sx
open Go Go.Joins Go.ChangeShapes Go.WideShapes Go.ChangeAt Go.RowKit

theorem Sat.imms {C:Ctx}{w:World}(vs:List Value)(H:List (Chunk C))(h:∀ (n:Nat) (c:Chunk C),H[n]?=some c->∃ e l,c = .row false e l/\Imm C w (vs.getD n undef) e l):Sat C (fun n=>vs.getD n undef) (fun _ _=>False) w H where
 holds n c hc:=by
  obtain⟨e,l,rfl,hi⟩:=h n c hc
  exact⟨hi,fun _ hh=>hh⟩
 dis _ _ _ hh:=hh.elim
 bd _ _ hh:=hh.elim
 imm _ _ _ _ _ _ hh:=hh
 out _ _ _ hh:=hh
 cl n c hc m hm:=by
  obtain⟨e,l,rfl,_⟩:=h n c hc
  simp[Chunk.names] at hm

theorem lawOf {f:FuncId}{t:Tfm C0}(hs:SoundT C0 f t){args:List TV}{H:List (Chunk C0)}{vs:List Value}{σ:Nat->Value}{w:World}(ht:∀ K:KT,K (.one (.at (vB true))) H []->t args H K)(hsat:Sat C0 σ (fun _ _=>False) w H)(hr:Rels (TV.rel σ) args vs)(hn:∀ x∈args,∀ m∈x.names,m<H.length):Calls Tryz.prog f vs.toArray w (fun e w'=>e = .returned (.bool true)/\Below w.heap.size w w'):=by
 have hc:=hs.call args H (fun r _ _=>r = .one (.at (vB true))) (ht _ rfl) σ _ w vs hsat hr hn
 refine Calls.mono hc fun e w' hh=>?_
 cases e with
 | panicked ch=>exact hh.elim
 | outgrown=>exact hh.elim
 | returned v =>
  obtain⟨r,H',ts,σ',φ',hout,rfl⟩:=hh
  have hv:v = .bool true:=hout.rel
  exact⟨by rw[hv],hout.adv.os,hout.adv.tape,hout.adv.output,hout.adv.size,fun k hk=>hout.adv.fr k hk fun n hh=>hh⟩

section
variable {HH:Type} {enc:TypeId × Value->HH} {P:Program} {w:World} {base b0:Nat} {spare:Nat->Bool} {held:Bool} {r:Reach}
end

section
variable {HH:Type} {enc:TypeId × Value->HH} {w:World} {base b0:Nat} {spare:Nat->Bool} {held:Bool} {r:Reach}
set_option maxRecDepth 100000 in
theorem elEw {n:Nat}{cs:List Value}{x:DataW HH × List MemPlace}(h:DataW.trod enc Tryz.prog w base spare held n 24 cs=some x) :
  ∃ a:Ent,cs=EC.enc .ent a/\((-9223372036854775808<=a.1/\a.1<=9223372036854775807)/\(-9223372036854775808<=a.2/\a.2<=9223372036854775807)):=by
 obtain⟨y0,y1,m,_,hl,h0,h1⟩:=trod_struct2 Tryz.underlying24 h
 obtain⟨k,e0,_,w0⟩:=DataW.trod_int Tryz.underlying2 h0
 obtain⟨v,e1,_,w1⟩:=DataW.trod_int Tryz.underlying2 h1
 have hl:cs.length=2:=hl.trans (by kernel_rfl)
 have c1:Tryz.prog.cellsOf 2=1:=by kernel_rfl
 match cs,hl with
 | [a,b],_ =>
  simp[c1] at e0 e1
  exact⟨(k,v),by rw[e0,e1];rfl,lit_i64 w0,lit_i64 w1⟩
set_option maxRecDepth 100000 in
theorem open_e {v:Value}{d:DataW HH}{p:List MemPlace}(hv:Value.okWide Tryz.prog w r b0 24 v)(h:DataW.Trod enc Tryz.prog w base spare held 24 v d p) :
  ∃ a b:Int,v = .agg #[.int .i64 a,.int .i64 b]/\((-9223372036854775808<=a/\a<=9223372036854775807)/\(-9223372036854775808<=b/\b<=9223372036854775807)):=by
 obtain⟨cs,rfl,_⟩:=okWide_struct Tryz.underlying24 hv
 obtain⟨fuel,hh⟩:=h
 obtain⟨a,e,hb⟩:=elEw hh
 refine⟨a.1,a.2,?_,hb⟩
 have e:cs.toList=[.int .i64 a.1,.int .i64 a.2]:=e
 congr 1
 apply Array.ext'
 rw[e]
instance:Inhabited Chg:=⟨⟨0,0,0,0⟩⟩
end
end Go.Proofs.YtedfbafngmicpaaGreat.Sx
end
section
/- Opening arguments that are slices of steps of the laws of pack. -/
namespace Go.Proofs.YtedfbafngmicpaaGreat.Sx
open Go Go.Joins Go.ChangeShapes Go.WideShapes Go.ChangeAt Go.RowKit

section
variable {HH:Type} {enc:TypeId × Value->HH} {w:World} {base b0:Nat} {spare:Nat->Bool} {held:Bool} {r:Reach}
instance:Inhabited StpT:=⟨⟨0,(0,0),false,false⟩⟩
end
end Go.Proofs.YtedfbafngmicpaaGreat.Sx
end
section
/- 'PackOfUpdateIsSmall': the law returns true for every input, and its arguments read afterwards as they read before. -/
namespace Go.Proofs.YtedfbafngmicpaaGreat.packOfUpdateIsSmall
open Go.ChangeShapes Go.WideShapes Go.ChangeAt Go.RowKit Sx

set_option maxRecDepth 100000 in
theorem lifted (os:Os)(started:os.Started)(H:Type)(enc:TypeId × Value->H) :
  ReturnsInHanded {} Tryz.checked os 3 .any (Rows.packOfUpdateIsSmallSpec.pre6 enc Tryz.prog Tryz.f3 Rows.packOfUpdateIsSmallRow.domain false) (Rows.packOfUpdateIsSmallSpec.post enc Tryz.prog Tryz.f3 false true false false):=by
 refine returnsInHanded_of_change (C:=Tryz.checked) ownK started (by kernel_rfl) Tryz.func3
  (ChangeSpec.witness6 (enc:=enc) (C:=Tryz.checked) false ⟨#[],#[.int .i64 0,.int .u64 0,.agg #[.int .i64 0,.int .i64 0]],[]⟩ 8 (by kernel_rfl) (by kernel_rfl) (by kernel_rfl) (by kernel_rfl)) ?_
 intro W base args ds gs before hval0 hW hcnd _
 have hval:∀ (j:Nat) t v,Tryz.f3.params[j]?=some t->args[j]?=some v->Value.okWide Tryz.prog W .any base t v:=hval0
 have hW':=hW
 obtain⟨p,q,hA0,hV,rfl,hfz,hnd⟩:=hW
 have hA:DataW.TrodAll enc Tryz.prog W 0 (fun _=>true) true Tryz.f3.params.toList args.toList ds p:=hA0
 rw[Tryz.params3] at hA hval
 obtain⟨v0,vs0,d0,ds0,p0,q0,hargs,rfl,rfl,h0,r0⟩:=trodAll_cons hA
 obtain⟨v1,vs1,d1,ds1,p1,q1,rfl,rfl,rfl,h1,r1⟩:=trodAll_cons r0
 obtain⟨v2,vs2,d2,ds2,p2,q2,rfl,rfl,rfl,h2,r2⟩:=trodAll_cons r1
 obtain⟨rfl,rfl,rfl⟩:=trodAll_nil r2
 obtain rfl:args=#[v0,v1,v2]:=by cases args;simp_all
 obtain⟨rfl,rfl⟩:=trodVars_none hV
 have k0:=h0
 have k1:=h1
 have k2:=h2
 clear hA0 hval0
 simp only[List.append_nil] at hW'
 have hlt:∀ x∈p0++(p1++(p2)),x.block<W.heap.size:=fun x hx=>by simpa using hW'.lt x (by simpa using hx)
 have l0:∀ x∈p0,x.block<W.heap.size:=fun x hx=>hlt x (by simp[hx])
 have l1:∀ x∈p1,x.block<W.heap.size:=fun x hx=>hlt x (by simp[hx])
 have l2:∀ x∈p2,x.block<W.heap.size:=fun x hx=>hlt x (by simp[hx])
 obtain⟨a0,rfl,rfl,rfl,w0⟩:=open_int Tryz.underlying3 (hval 0 3 v0 rfl rfl) h0
 have b0:=lit_i64 w0
 obtain⟨a1,rfl,rfl,rfl,w1⟩:=open_int Tryz.underlying22 (hval 1 22 v1 rfl rfl) h1
 have b1:=lit_u64 w1
 obtain⟨x2,y2,rfl,B2⟩:=open_e (hval 2 24 v2 rfl rfl) h2
 refine (lawOf s_ps (args:=[.at (.val (.int .i64 a0)),.at (.val (.int .u64 a1)),.agg [.val (.int .i64 x2),.val (.int .i64 y2)]]) (H:=[]) (vs:=[.int .i64 a0,.int .u64 a1,.agg #[.int .i64 x2,.int .i64 y2]]) (σ:=fun n=>[].getD n undef) (w:=W) (fun K h=>⟨b1.1,Int.lt_of_le_of_lt b1.2 (by decide),b0,B2.1,B2.2,h⟩)
  (Sat.imms [] _ fun n c hc=>by match n,hc with|n+0,hc=>simp at hc) (Rels.cons rfl (Rels.cons rfl (Rels.cons ⟨_,rfl,Rels.cons rfl (Rels.cons rfl Rels.nil)⟩ Rels.nil))) (by simp[TV.names,At.names])).mono fun e W' ⟨he,hg⟩=>?_
 subst he
 exact⟨_,rfl,_,_,_,[]++[],_,[],hW',(trodAll_cons_mk (shut_bool Tryz.underlying4 true) trodAll_mk0),(trodAll_cons_mk (Below.trod laidO (by kernel_rfl) (of_decide_eq_true (by kernel_rfl)) k0 hg l0) (trodAll_cons_mk (Below.trod laidO (by kernel_rfl) (of_decide_eq_true (by kernel_rfl)) k1 hg l1) (trodAll_cons_mk (Below.trod laidO (by kernel_rfl) (of_decide_eq_true (by kernel_rfl)) k2 hg l2) trodAll_mk0))),rfl,hg.frame _,fun h=>by cases h⟩

theorem over:Rows.packOfUpdateIsSmallRow.holds Tryz.pinned (OpenSpec.ofChange Rows.packOfUpdateIsSmallSpec) :=
 OpenClaim.holds_of_wide 3 Tryz.f3 rfl rfl rfl rfl rfl rfl rfl ⟨rfl,rfl,rfl,rfl,rfl⟩ rfl rfl rfl rfl rfl (by kernel_rfl) Tryz.func3 (by kernel_rfl)
  (of_decide_eq_true (by kernel_rfl)) (by unfold Func.isWrapper;first|(rw[if_pos (by decide +kernel)];kernel_rfl)|(rw[if_neg (by decide +kernel)];exact⟨rfl,rfl⟩))
  (fun os started H enc _=>lifted os started H enc)

theorem proved:Rows.PackOfUpdateIsSmallSaid:=over
#print axioms proved
end Go.Proofs.YtedfbafngmicpaaGreat.packOfUpdateIsSmall
end
