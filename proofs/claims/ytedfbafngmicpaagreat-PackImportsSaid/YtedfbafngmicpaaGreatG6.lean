/- The reference of words and frames: Word, KeyBytes, Zigzag, Extend, Checksum, Frame, varint, Ye. -/
import Derived.Test.YtedfbafngmicpaaGreatG0
import Derived.Test.YtedfbafngmicpaaGreatG5
import Derived.Test.YtedfbafngmicpaaGreatG4
import Derived.Test.YtedfbafngmicpaaGreatG3
noncomputable section
open Go.IntKind renaming i64 → Za,u32 → Ze,u64 → Zd
open Go.Value renaming bool → Zi,int → Zm
open Int renaming toNat → Zq
open List renaming drop → Zp,take → Zn
namespace Go.Proofs.YtedfbafngmicpaaGreat.Sx
open Go
def tb (i:Nat):Int:=((itC 8 (BitVec.ofNat 32 i)).toNat:Int)
def tabN (n:Nat):LI:=(List.range 256).map fun i=>if i<n then tb i else 0
def tabL:LI:=(List.range 256).map tb
def tabC:List At:=tabL.map fun x=>At.val (.int .u32 x)
structure XTb (P:Nat->Prop) where
 i:Nat
 h:P i
structure XTc (P:Nat->Nat->Int->Prop) where
 i:Nat
 k:Nat
 c:Int
 h:P i k c
def aTb (P1:Nat->Prop)(P2:Nat->Nat->Int->Prop):Ann C0:={ Γ:=[],inv:=fun n=>match n with
 | 3=>some { X:=XTb P1,sl:=[0,1,6],tf:=fun x=>[.one (.at (.ptr 0 0)),.one (.at (.ptr 1 0)),vi .i64 x.i],hf:=fun x=>[.arr .u32 (tabN 0),.arr .u32 (tabN x.i)],μ:=fun x=>256-x.i }
 | 7=>some { X:=XTc P2,sl:=[0,1,3,4],tf:=fun x=>[.one (.at (.ptr 0 0)),.one (.at (.ptr 1 0)),vi .u32 x.c,vi .i64 x.k],hf:=fun x=>[.arr .u32 (tabN 0),.arr .u32 (tabN x.i)],μ:=fun x=>8-x.k,rel:=fun T _ x=>YaM T 6 x.i }
 | 1015=>some { X:=Unit,sl:=[0,1],tf:=fun _=>[.one (.at (.ptr 0 0)),.one (.at (.ptr 1 0))],hf:=fun _=>[.arr .u32 (tabN 0),.arr .u32 tabL] }
 | _=>none }
def tTb:Tfm C0:=fun args H K=>match args,H with
 | [],[]=>K (.one (.agg tabC)) [] []
 | _,_=>False
theorem Ykp:∀ (k:Nat) (x:BitVec 32),itC (k+1) x=stC (itC k x)
 | 0,_=>rfl
 | k+1,x=>Ykp k (stC x)
theorem YsA {x y:Int}(x0:0<=x)(x1:x<4294967296)(y0:0<=y)(y1:y<4294967296):xorI .u32 x y=((x.toNat ^^^ y.toNat:Nat):Int):=by
 show Ze.wrap ((BitVec.ofInt 32 x ^^^ BitVec.ofInt 32 y).toNat:Int)=_;rw[Yce (Zbh _),Zbe,YH 32 x0 (by omega),YH 32 y0 (by omega)]
theorem Ynw (y:BitVec 32):((stC y).toNat:Int)=if (y.toNat:Int) % 2=1 then xorI .u32 ((y.toNat:Int) / 2) 2197175160 else (y.toNat:Int) / 2:=by
 have h1:(y >>> 1).toNat=y.toNat / 2:=by rw[BitVec.toNat_ushiftRight,ZbW]
 have h2:y.getLsbD 0=decide (y.toNat % 2=1):=by show y.toNat.testBit 0=_;rw[Nat.testBit_zero]
 have h3:=y.isLt;unfold stC;rw[h2]
 by_cases c:y.toNat % 2=1
 .rw[Zj (by simpa using c),Zj (by omega),Zbe,h1,YsA (by omega) (by omega) (by decide) (by decide)]
  rfl
 .rw[Zf (by simpa using c),Zf (by omega),ZbV,h1];omega
def PTb:Nat->Prop:=fun i=>i<=256
def PTc:Nat->Nat->Int->Prop:=fun i k c=>i<256/\k<=8/\c=((itC k (BitVec.ofNat 32 i)).toNat:Int)
theorem YpE {i:Nat}(h:i<256):(tabN i).set i (tb i)=tabN (i+1):=by
 unfold tabN;refine ZaI fun j=>?_
 rw[Zbk,Zu,ZaF]
 by_cases c:i=j
 .subst c;rw[Zj rfl,Zj h,Zv,ZaD h];simp
 .rw[Zf c,Zv,Zv];rcases Zad j 256 with q|q
  .rw[ZaD q]
   by_cases d:j<i
   .simp[d,Nat.lt_succ_of_lt d]
   .have:¬ j<i+1:=by omega
    simp[d,this]
  .rw[ZV (by simpa using q)];rfl
theorem YpF (i:Nat):(tabN i).length=256:=by unfold tabN;rw[Zu,ZaF]
theorem YpG:tabN 256=tabL:=ZaP fun _ hi=>Zj (ZaK.1 hi)
theorem Ynx:List.replicate 256 (At.val (Zm Ze 0))=(tabN 0).map fun z=>At.val (Zm Ze z):=by kernel_rfl
set_option maxRecDepth 20000 in
theorem   YxM (K : KT) (h : K (.one (.agg tabC)) [] []) : vc C0 (aTb PTb PTc) Tryz.f147 [] [] (   Yh 0 K) := by
  generalize hP : PTb = P1;generalize hP' : PTc = P2;refine Eq.mp (show (((∃ x : XTb P1, (True ∧ (True ∧ True ∧ ((       Zm          Za 0) = (       Zm          Za ((↑x.i : Int)))) ∧ True) ∧ ((List.replicate 256 (At.val (       Zm          Ze 0))) = (List.replicate 256 (At.val (       Zm          Ze 0)))) ∧ ((List.replicate 256 (At.val (       Zm          Ze 0))) = (List.map (fun z => At.val (       Zm          Ze z)) (tabN x.i))) ∧ True)) ∧
(∀ x : XTb P1, (True → (brS (decide ((↑x.i : Int) < 256)) (((∃ x1 : XTc P2, ((((↑x.i : Int)) = ((↑x1.i : Int))) ∧ (True ∧ True ∧ ((       Zm          Za ((↑x.i : Int))) = (       Zm          Za ((↑x.i : Int)))) ∧ ((       Zm          Ze (         Ze.wrap (↑x.i : Int))) = (       Zm          Ze (x1.c))) ∧ ((       Zm          Za 0) = (       Zm          Za ((↑x1.k : Int)))) ∧ ((       Zm          Za ((↑x.i : Int))) = (       Zm          Za ((↑x.i : Int)))) ∧ True) ∧ ((tabN 0) = (tabN 0)) ∧ ((tabN x.i) = (tabN x1.i)) ∧ True)) ∧ (∀ x1 : XTc P2, ((((↑x.i : Int)) = ((↑x1.i : Int))) → (brS (decide ((↑x1.k : Int) < 8)) ((brS (andI          Ze x1.c 1 == 1) ((∃ x' : XTc P2, ((((↑x.i : Int)) = ((↑x'.i : Int))) ∧ ((True ∧ True ∧ ((       Zm          Za ((↑x.i : Int))) = (       Zm          Za ((↑x.i : Int)))) ∧ ((       Zm          Ze (xorI          Ze (x1.c.fdiv (2 ^ min (       Zq 1)          Ze.bits)) 2197175160)) = (       Zm          Ze (x'.c))) ∧ ((       Zm          Za (         Za.wrap ((↑x1.k : Int) + 1))) = (       Zm          Za ((↑x'.k : Int)))) ∧
    ((       Zm          Za ((↑x.i : Int))) = (       Zm          Za ((↑x.i : Int)))) ∧ True) ∧ ((tabN 0) = (tabN 0)) ∧ ((tabN x1.i) = (tabN x'.i)) ∧ True) ∧ (8 - x'.k < 8 - x1.k)))) ((∃ x' : XTc P2, ((((↑x.i : Int)) = ((↑x'.i : Int))) ∧ ((True ∧ True ∧ ((       Zm          Za ((↑x.i : Int))) = (       Zm          Za ((↑x.i : Int)))) ∧ ((       Zm          Ze (x1.c.fdiv (2 ^ min (       Zq 1)          Ze.bits))) = (       Zm          Ze (x'.c))) ∧ ((       Zm          Za (         Za.wrap ((↑x1.k : Int) + 1))) = (       Zm          Za ((↑x'.k : Int)))) ∧ ((       Zm          Za ((↑x.i : Int))) = (       Zm          Za ((↑x.i : Int)))) ∧ True) ∧ ((tabN 0) = (tabN 0)) ∧ ((tabN x1.i) = (tabN x'.i)) ∧ True) ∧ (8 - x'.k < 8 - x1.k)))))) (((0 ≤ (↑x.i : Int)) ∧ ((↑x.i : Int) < ((256 : Nat) : Int)) ∧ (0 + (↑x.i : Int).toNat * 1 < (tabN x1.i).length) ∧ (∃ x' : XTb P1, (True ∧ ((True ∧ True ∧ ((       Zm          Za (         Za.wrap ((↑x.i : Int) + 1))) = (       Zm          Za ((↑x'.i : Int)))) ∧ True) ∧ ((tabN 0) = (tabN 0)) ∧ (((tabN x1.i).set (0 + (↑x.i : Int).toNat * 1) x1.c) = (tabN x'.i)) ∧ True) ∧ (256 - x'.i < 256 - x.i)))))))))) ((∃ x1 : Unit, (True ∧ (True ∧ True ∧ True) ∧ ((tabN 0) = (tabN 0)) ∧ ((tabN x.i) = tabL) ∧ True))))))) ∧
(∀ x : Unit, (True → (((0 : Int) = 0) ∧ ((256 : Int) = 256) ∧ ((0 : Int) = 0) ∧ ((256 : Int) = 256) ∧ (K (SV.one (TV.agg tabC)) [] []))))) = _ by kernel_rfl) ?_
  subst hP hP';have tz :=       Ynx;generalize List.replicate 256 (At.val (       Zm          Ze 0)) = Z at tz ⊢;refine ⟨⟨⟨⟨0,          ZC _⟩, trivial, ⟨trivial, trivial, rfl, trivial⟩, rfl, tz, trivial⟩, fun x _ =>     Ya (fun z => ?_) fun z => ?_⟩, fun _ _ => ⟨rfl, rfl, rfl, rfl, h⟩⟩
  . obtain ⟨i, hi⟩ := x
    dsimp only at z ⊢;have z : i < 256 := by have :=                Zc z; omega
    refine ⟨⟨⟨i, 0, _, z,          ZC _, rfl⟩, rfl, ⟨trivial, trivial, rfl, ?_, rfl, rfl, trivial⟩, rfl, rfl, trivial⟩, fun x1 e1 =>     Ya (fun y => ?_) fun y => ?_⟩
    . show        Zm .u32 _ =        Zm .u32 (((BitVec.ofNat 32 i).toNat : Nat) : Int)
      rw [      Yz (by omega) (by omega), BitVec.toNat_ofNat, Nat.mod_eq_of_lt (by omega)]
    . obtain ⟨i', k, c, hi', hk, hc⟩ := x1
      dsimp only at y e1 ⊢;obtain rfl : i = i' := by omega
      have y : k < 8 := by have :=                Zc y; omega
      have cl := (itC k (BitVec.ofNat 32 i)).isLt;have en :=     Ynw (itC k (BitVec.ofNat 32 i));rw [<-     Ykp, ← hc] at en
      have e2 : c.fdiv (2 ^ min (       Zq 1)          Ze.bits) = c / 2 := by
        rw [show (2 : Int) ^ min (       Zq 1)          Ze.bits = 2 from rfl,                        Zah _ (by decide)]
      rw [e2,    Yvc (by omega) (by omega),      Yb (x := (k : Int) + 1) (by omega) (by omega)];refine     Ya (fun q => ?_) fun q => ?_
      . have q : c % 2 = 1 := eq_of_beq q
        rw [    Zj q] at en;refine ⟨⟨i, k + 1, _, z, y, en.symm⟩, rfl, ⟨⟨trivial, trivial, rfl, rfl, rfl, rfl, trivial⟩, rfl, rfl, trivial⟩, by show 8 - (k + 1) < 8 - k; omega⟩
      . have q : ¬ c % 2 = 1 := fun e => by rw [e] at q; exact absurd q (by decide)
        rw [    Zf q] at en;refine ⟨⟨i, k + 1, _, z, y, en.symm⟩, rfl, ⟨⟨trivial, trivial, rfl, rfl, rfl, rfl, trivial⟩, rfl, rfl, trivial⟩, by show 8 - (k + 1) < 8 - k; omega⟩
    . obtain ⟨i', k, c, hi', hk, hc⟩ := x1
      dsimp only at y e1 ⊢;obtain rfl : i = i' := by omega
      obtain rfl : k = 8 := by have :=                 Zg y; omega
      have e3 : 0 + ((i : Int)).toNat * 1 = i := by omega
      rw [e3,      Yb (x := (i : Int) + 1) (by omega) (by omega)];refine ⟨by omega, by omega, by rw [     YpF]; exact z, ⟨i + 1, z⟩, trivial, ⟨⟨trivial, trivial, rfl, trivial⟩, rfl, ?_, trivial⟩, by show 256 - (i + 1) < 256 - i; omega⟩;rw [hc];exact      YpE z
  . obtain ⟨i, hi⟩ := x
    dsimp only at z ⊢;obtain rfl : i = 256 := by have :=                 Zg z; unfold PTb at hi; omega
    exact ⟨(), trivial, ⟨trivial, trivial, trivial⟩, rfl,      YpG, trivial⟩
theorem s_tb:Tb C0 147 tTb:=by
 refine .of Tryz.func147 (by decide) rfl fun args H K h hB=>?_
 unfold tTb at h;split at h<;>try exact h.elim
 refine⟨_,?_,YxM K h⟩;exact trivial
def exI (c:Int)(b:LI):Int:=((~~~ crX b (~~~ BitVec.ofInt 32 c)).toNat:Int)
theorem Ykq (b:LI):exI 0 b=crc b:=rfl
structure XEx (P:Nat->Int->Prop) where
 i:Nat
 c:Int
 h:P i c
def aEx (P:Nat->Int->Prop)(b:LI):Ann C0:={ Γ:=[(147,Yc [] tTb)],inv:=fun n=>match n with
 | 1002=>some { X:=Unit,sl:=[5],tf:=fun _=>[.one (.at (.ptr 1 0))],hf:=fun _=>[.row false .u8 b,.arr .u32 tabL] }
 | 4=>some { X:=XEx P,sl:=[0,5,13],tf:=fun x=>[vi .u32 x.c,.one (.at (.ptr 1 0)),vi .i64 x.i],hf:=fun _=>[.row false .u8 b,.arr .u32 tabL],μ:=fun x=>b.length-x.i }
 | _=>none }
def tEx:Tfm C0:=fun args H K=>match args,H with
 | [.at (.val (.int .u32 c)),.at (.slc 0)],[.row false .u8 b]=>0<=c/\c<4294967296/\allB b/\b.length<=1000000000000/\∀ r,r=exI c b->K (.one (.at (vU r))) [.row false .u8 b] []
 | _,_=>False
def aCk:Ann C0:={ Γ:=[(139,Yc [] tEx)] }
def tCk:Tfm C0:=fun args H K=>match args,H with
 | [.at (.slc 0)],[.row false .u8 b]=>allB b/\b.length<=1000000000000/\∀ r,r=crc b->K (.one (.at (vU r))) [.row false .u8 b] []
 | _,_=>False
theorem xor8 {x y:Int}(x0:0<=x)(x1:x<256)(y0:0<=y)(y1:y<256):xorI .u8 x y=((x.toNat ^^^ y.toNat:Nat):Int):=by
 show IntKind.u8.wrap ((BitVec.ofInt 8 x ^^^ BitVec.ofInt 8 y).toNat:Int)=_;rw[YeT (Zbh _),Zbe,YH 8 x0 (by omega),YH 8 y0 (by omega)]
theorem Yny {x y:Int}(x0:0<=x)(x1:x<256)(y0:0<=y)(y1:y<256):x.toNat ^^^ y.toNat<256 :=
 Nat.xor_lt_two_pow (n:=8) (by omega) (by omega)
theorem YgJ {c:Int}:xorI Ze (if Ze.signed=true then -1 else Ze.max) c=((~~~ BitVec.ofInt 32 c).toNat:Int):=by
 show Ze.wrap ((BitVec.ofInt 32 4294967295 ^^^ BitVec.ofInt 32 c).toNat:Int)=_;rw[Yce (Zbh _),show BitVec.ofInt 32 4294967295=BitVec.allOnes 32 from rfl,BitVec.allOnes_xor]
theorem Yrb (y:BitVec 32):BitVec.ofInt 32 (y.toNat:Int)=y:=by rw[BitVec.ofInt_natCast,BitVec.ofNat_toNat,BitVec.setWidth_eq]
theorem YsB {j:Nat}(h:j<256):getB tabL j=tb j:=by
 show tabL.getD j 0=tb j;unfold tabL;rw[Zb,Zv,ZaD h];rfl
theorem YpH:tabL.length=256:=by unfold tabL;rw[Zu,ZaF]
theorem YpI (y:BitVec 32){x:Int}(x0:0<=x)(x1:x<256):xorI .u32 ((y.toNat:Int).fdiv (2 ^ min (Zq 8) Ze.bits)) (getB tabL (0+(xorI .u8 (IntKind.u8.wrap (y.toNat:Int)) x).toNat*1))=((itC 8 (y ^^^ BitVec.ofInt 32 x)).toNat:Int):=by
 have yl:=y.isLt
 have e0:(y.toNat:Int).fdiv (2 ^ min (Zq 8) Ze.bits)=(y.toNat:Int) / 256:=by
  rw[show (2:Int) ^ min (Zq 8) Ze.bits=256 from rfl,Zah _ (by decide)]
 have e1:IntKind.u8.wrap (y.toNat:Int)=((y.toNat % 256:Nat):Int):=by rw[YN (by omega)];omega
 have hl:=Yny (x:=((y.toNat % 256:Nat):Int)) (y:=x) (by omega) (by omega) x0 x1;rw[Zau] at hl;rw[e0,e1,xor8 (by omega) (by omega) x0 x1,Zau,Zau,ZaM,Zci,YsB hl];have xb:(BitVec.ofInt 32 x).toNat=x.toNat:=YH 32 x0 (by omega)
 have lo:(y ^^^ BitVec.ofInt 32 x) &&& 255#32=BitVec.ofNat 32 (y.toNat % 256 ^^^ x.toNat):=by
  apply BitVec.eq_of_toNat_eq;rw[Zcp,Zbe,xb,show (255#32).toNat=2 ^ 8-1 from rfl,BitVec.toNat_ofNat,Zcy,Nat.xor_mod_two_pow,show (2:Nat) ^ 8=256 from rfl,Nat.mod_eq_of_lt (a:=x.toNat) (by omega),Nat.mod_eq_of_lt (b:=2 ^ 32) (Nat.lt_trans hl (by decide))]
 have hi:((y ^^^ BitVec.ofInt 32 x) >>> 8).toNat=y.toNat / 256:=by
  rw[BitVec.toNat_ushiftRight,Zbe,xb,Nat.shiftRight_xor_distrib,ZbW,ZbW,show x.toNat / 2 ^ 8=0 from Nat.div_eq_of_lt (by omega),Nat.xor_zero]
 have tl:=(itC 8 (BitVec.ofNat 32 (y.toNat % 256 ^^^ x.toNat))).isLt;rw[Yss,lo,Zbe,hi];unfold tb;rw[YsA (by omega) (by omega) (by omega) (by omega)]
 congr 2
theorem Ykr (b:LI)(v:Int)(x:BitVec 32):crX (b++[v]) x=itC 8 (crX b x ^^^ BitVec.ofInt 32 v):=by unfold crX;rw[ZaO];rfl
def PEx (c:Int)(b:LI):Nat->Int->Prop:=fun i z=>i<=b.length/\z=((crX (b.take i) (~~~ BitVec.ofInt 32 c)).toNat:Int)
set_option maxRecDepth 20000 in
theorem YxN (c:Int)(b:LI)(K:KT)(hb:allB b)(hl:b.length<=1000000000000)(h:∀ r,r=exI c b->K (.one (.at (vU r))) [.row false .u8 b] []) :
  vc C0 (aEx (PEx c b) b) Tryz.f139 [.at (.val (.int .u32 c)),.at (.slc 0)] [.row false .u8 b] (Yh 1 K):=by
 generalize hP:PEx c b=P;refine Eq.mp (show ((∃ x:Unit,True/\(VU (c)=VU (c)/\True/\True/\True)/\b=b/\tabC=tabC/\True)/\∀ x:Unit,True->(∃ x1:XEx P,True/\((VU (xorI Ze (if Ze.signed=true then -1 else Ze.max) c))=(VU (x1.c))/\True/\True/\VI (b.length:Int)=VI (b.length:Int)/\VI 0=(VI (x1.i:Int))/\True)/\b=b/\tabL=tabL/\True)/\∀ x1:XEx P,True->brS (decide ((x1.i:Int)<(b.length:Int))) (0<=(x1.i:Int)/\(x1.i:Int)<(b.length:Int)/\0<=xorI IntKind.u8 (IntKind.u8.wrap x1.c) (getB b (x1.i:Int).toNat)/\xorI IntKind.u8 (IntKind.u8.wrap x1.c) (getB b (x1.i:Int).toNat)<((256:Nat):Int)/\0+(xorI IntKind.u8 (IntKind.u8.wrap x1.c) (getB b (x1.i:Int).toNat)).toNat*1<tabL.length/\∃ x':XEx P,True/\(((VU (xorI Ze (x1.c.fdiv (2 ^ min (Zq 8) Ze.bits)) (getB tabL (0+(xorI IntKind.u8 (IntKind.u8.wrap x1.c) (getB b (x1.i:Int).toNat)).toNat*1))))=(VU (x'.c))/\True/\True/\VI (b.length:Int)=VI (b.length:Int)/\(VI (Za.wrap ((x1.i:Int)+1)))=(VI (x'.i:Int))/\True)/\b=b/\tabL=tabL/\True)/\b.length-x'.i<b.length-x1.i) (K (.one (.at (.val (VU (xorI Ze (if Ze.signed=true then -1 else Ze.max) x1.c))))) [(.row false .u8 (b))] []))=_ by kernel_rfl) ?_;subst hP
 refine⟨⟨(),trivial,⟨rfl,trivial,trivial,trivial⟩,rfl,rfl,trivial⟩,fun _ _=>⟨⟨⟨0,_,ZC _,rfl⟩,trivial,⟨?_,trivial,trivial,rfl,rfl,trivial⟩,rfl,rfl,trivial⟩,fun x _=>Ya (fun z=>?_) fun z=>?_⟩⟩
 .rw[YgJ];rfl
 .obtain⟨i,c1,hi,hc⟩:=x;dsimp only at z ⊢;have z:i<b.length:=by have:=Zc z;omega
  rw[show ((i:Int)).toNat=i from rfl,Yb (x:=(i:Int)+1) (by omega) (by omega)];obtain⟨x0,x1⟩:=hb _ (Yj z);have yl:=(crX (b.take i) (~~~ BitVec.ofInt 32 c)).isLt;have st:=YpI (crX (b.take i) (~~~ BitVec.ofInt 32 c)) x0 x1;rw[<-hc,<-Ykr,<-Yo z] at st;have w0:0<=IntKind.u8.wrap c1/\IntKind.u8.wrap c1<256:=by rw[YN (by omega)];omega
  have xl:=Yny w0.1 w0.2 x0 x1;rw[st,xor8 w0.1 w0.2 x0 x1];refine⟨by omega,by omega,by omega,by omega,by rw[YpH];omega,⟨i+1,_,z,rfl⟩,trivial,⟨⟨rfl,trivial,trivial,rfl,rfl,trivial⟩,rfl,rfl,trivial⟩,ZI z (ZO i)⟩
 .obtain⟨i,c1,hi,hc⟩:=x;dsimp only at z ⊢;have z:i=b.length:=by have:=Zg z;omega
  rw[z,ZJ] at hc;refine h _ ?_;rw[YgJ,hc,Yrb];rfl
theorem s_ex:Tb C0 139 tEx:=by
 refine .of Tryz.func139 (by decide) rfl fun args H K h hB=>?_
 unfold tEx at h;split at h<;>try exact h.elim
 rename_i c b;refine⟨_,?_,YxN c b K h.2.2.1 h.2.2.2.1 h.2.2.2.2⟩;exact⟨Ye C0.ok s_tb _,trivial⟩
theorem YxO (b:LI)(K:KT)(hb:allB b)(hl:b.length<=1000000000000)(h:∀ r,r=crc b->K (.one (.at (vU r))) [.row false .u8 b] []) :
  vc C0 aCk Tryz.f117 [.at (.slc 0)] [.row false .u8 b] (Yh 1 K):=by
 refine Eq.mp (show ((0:Int)<=0/\(0:Int)<4294967296/\allB b/\b.length<=1000000000000/\∀ r:Int,r=exI 0 b->K (.one (.at (.val (VU (r))))) [(.row false .u8 (b))] [])=_ by kernel_rfl) ?_;exact⟨by decide,by decide,hb,hl,fun r er=>h r (er.trans (Ykq b))⟩
theorem s_ck:Tb C0 117 tCk:=by
 refine .of Tryz.func117 (by decide) rfl fun args H K h hB=>?_
 unfold tCk at h;split at h<;>try exact h.elim
 rename_i b;refine⟨_,?_,YxO b K h.1 h.2.1 h.2.2⟩;exact⟨Ye C0.ok s_ex _,trivial⟩
def nxD (b:LI)(at_:Int):LI × Int × Int:=if at_<0∨(b.length:Int)<at_ then ([],0,1) else
 match frD 12 13 14 1048576 (b.drop at_.toNat) with
 | (p,k,e)=>if e=0 then (p,at_+k,0) else ([],0,e)
def aAf:Ann C0:={ Γ:=[(124,Yc [] tUv),(117,Yc [] tCk)] }
def afA (b p:LI):LI:=b++frE p
def tAf:Tfm C0:=fun args H K=>match args,H with
 | [.at (.slc 0),.at (.slc 1)],[.row false .u8 b,.row false .u8 p]=>allB p/\p.length<=1048576/\b.length<=1000000000/\∀ o,o=afA b p->K (.tup [.at (.slc 2),.at (vI 0)]) [.row false .u8 b,.row false .u8 p,.row true .u8 o] []
 | _,_=>False
structure XNx (P:Int->Int->Prop) where
 u:Int
 n:Int
 h:P u n
def aNx (P1 P2:Int->Int->Prop)(b:LI):Ann C0:={ Γ:=[(127,Yc [] tUd),(117,Yc [] tCk)],inv:=fun n=>match n with
 | 1004=>some { X:=XNx P1,sl:=[7,8],tf:=fun x=>[vi .u64 x.u,vi .i64 x.n],hf:=fun _=>[.row false .u8 b] }
 | 1009=>some { X:=XNx P2,sl:=[8,10],tf:=fun x=>[vi .i64 x.u,vi .i64 x.n],hf:=fun _=>[.row false .u8 b] }
 | _=>none }
def tNx:Tfm C0:=fun args H K=>match args,H with
 | [.at (.slc 0),.at (.val (.int .i64 at_))],[.row false .u8 b]=>allB b/\b.length<=1000000000/\∀ p n e,nxD b at_=(p,n,e)->K (.tup [.at (.slc 1),.at (vI n),.at (vI e)]) [.row false .u8 b,.row true .u8 p] []
 | _,_=>False
theorem Yrc {r:Int}(r0:0<=r):[IntKind.u8.wrap (r.fdiv (2 ^ min (Zq 24) Ze.bits)),IntKind.u8.wrap (r.fdiv (2 ^ min (Zq 16) Ze.bits)),IntKind.u8.wrap (r.fdiv (2 ^ min (Zq 8) Ze.bits)),IntKind.u8.wrap r]=wB 4 r:=by
 rw[show (2:Int) ^ min (Zq 24) Ze.bits=16777216 from rfl,show (2:Int) ^ min (Zq 16) Ze.bits=65536 from rfl,show (2:Int) ^ min (Zq 8) Ze.bits=256 from rfl];simp only[Zah _ (show (0:Int)<=16777216 by decide),Zah _ (show (0:Int)<=65536 by decide),Zah _ (show (0:Int)<=256 by decide)];rw[YN (by omega),YN (by omega),YN (by omega),YN r0];show _=[r / 256 / 256 / 256 % 256,r / 256 / 256 % 256,r / 256 % 256,r % 256];rw[show r / 256 / 256 / 256=r / 16777216 by omega,show r / 256 / 256=r / 65536 by omega]
theorem YsC {f:Nat}{u:Int}(h0:0<=u)(h:u<128 ^ f*128):allB (vE f u):=Yns f u h0 h
theorem YxP:(18446744073709551616:Int)<=128 ^ 10*128:=by decide +kernel
theorem Yjw {u:Int}(h0:0<=u)(h:u<18446744073709551616):allB (vE 10 u):=YsC h0 (Int.lt_of_lt_of_le h YxP)
theorem Yjx (n:Nat)(u:Int):allB (wB n u):=fun c hc=>by
 have:=Ynt n u c hc;exact⟨by omega,by omega⟩
theorem YaG (u:Int):(vE 10 u).length<=11:=(Ynr 10 u).2
theorem Yks {p:LI}(h:allB p)(hl:p.length<=1048576):allB (frH p):=YaZ (Yjw (by omega) (by omega)) h
theorem Ykt {p:LI}(h:allB p)(hl:p.length<=1048576):allB (frE p):=YaZ (Yks h hl) (Yjx _ _)
theorem YbV (p:LI):(frE p).length<=p.length+15:=by
 have:=YaG (p.length:Int);unfold frE frH;rw[Zh,Zh,Yay];omega
theorem YxQ (b p:LI)(K:KT)(hp:allB p)(hl:p.length<=1048576)(hb:b.length<=1000000000)(h:∀ o,o=afA b p->K (.tup [.at (.slc 2),.at (vI 0)]) [.row false .u8 b,.row false .u8 p,.row true .u8 o] []) :
  vc C0 aAf Tryz.f125 [.at (.slc 0),.at (.slc 1)] [.row false .u8 b,.row false .u8 p] (Yh 2 K):=by
 refine Eq.mp (show (brS (decide ((p.length:Int)>1048576)) (K (.tup [(.at (.slc 2)),(.at (.val (VI 1)))]) [(.row false .u8 (b)),(.row false .u8 (p)),(.row true .u8 [])] []) (0<=Zd.wrap (p.length:Int)/\Zd.wrap (p.length:Int)<18446744073709551616/\([]:LE).length<=1000000000/\∀ o:LI,o=(uvA [] (Zd.wrap (p.length:Int)))->(o.length+p.length)*Yd C0 EC.u8<=140737488355328/\allB (o++p)/\(o++p).length<=1000000000000/\∀ r:Int,r=(crc (o++p))->((o++p).length+[IntKind.u8.wrap (r.fdiv (2 ^ min (Zq 24) Ze.bits)),IntKind.u8.wrap (r.fdiv (2 ^ min (Zq 16) Ze.bits)),IntKind.u8.wrap (r.fdiv (2 ^ min (Zq 8) Ze.bits)),IntKind.u8.wrap r].length)*Yd C0 EC.u8<=140737488355328/\(0:Int)<=0/\0<=Za.wrap ((b.length:Int)+(↑(o++p++[IntKind.u8.wrap (r.fdiv (2 ^ min (Zq 24) Ze.bits)),IntKind.u8.wrap (r.fdiv (2 ^ min (Zq 16) Ze.bits)),IntKind.u8.wrap (r.fdiv (2 ^ min (Zq 8) Ze.bits)),IntKind.u8.wrap r]).length:Int))/\Za.wrap ((b.length:Int)+(↑(o++p++[IntKind.u8.wrap (r.fdiv (2 ^ min (Zq 24) Ze.bits)),IntKind.u8.wrap (r.fdiv (2 ^ min (Zq 16) Ze.bits)),IntKind.u8.wrap (r.fdiv (2 ^ min (Zq 8) Ze.bits)),IntKind.u8.wrap r]).length:Int))*(↑(Yd C0 EC.u8):Int)<=140737488355328/\(([]:LE).length+b.length)*Yd C0 EC.u8<=140737488355328/\(([]++b).length+(o++p++[IntKind.u8.wrap (r.fdiv (2 ^ min (Zq 24) Ze.bits)),IntKind.u8.wrap (r.fdiv (2 ^ min (Zq 16) Ze.bits)),IntKind.u8.wrap (r.fdiv (2 ^ min (Zq 8) Ze.bits)),IntKind.u8.wrap r]).length)*Yd C0 EC.u8<=140737488355328/\
 K (.tup [(.at (.slc 2)),(.at (.val (VI 0)))]) [(.row false .u8 (b)),(.row false .u8 (p)),(.row true .u8 ([]++b++(o++p++[IntKind.u8.wrap (r.fdiv (2 ^ min (Zq 24) Ze.bits)),IntKind.u8.wrap (r.fdiv (2 ^ min (Zq 16) Ze.bits)),IntKind.u8.wrap (r.fdiv (2 ^ min (Zq 8) Ze.bits)),IntKind.u8.wrap r])))] []))=_ by kernel_rfl) ?_
 refine Ya (fun z=>?_) fun _=>?_
 .have:=Zc z;omega
 rw[Yf (x:=(p.length:Int)) (by omega) (by omega),YaF];refine⟨by omega,by omega,by simp,fun o eo=>?_⟩;have eo:o=vE 10 p.length:=eo.trans (ZS _);have ol:o.length<=11:=by rw[eo];exact YaG _
 have ef:o++p=frH p:=by rw[eo];rfl
 have fl:(frH p).length<=2000000:=by rw[<-ef,Zh];omega
 rw[ef];refine⟨by omega,Yks hp hl,by omega,fun r er=>?_⟩;have rr:=YcI (frH p);rw[<-er] at rr;rw[Yrc rr.1];have ee:frH p++wB 4 r=frE p:=by rw[er];rfl
 have el:=YbV p;rw[ee,Yb (by omega) (by omega)];refine⟨by rw[Yay];omega,by decide,by omega,by omega,by simp;omega,by simp;omega,h _ ?_⟩;unfold afA;rw[ZS]
 rfl
theorem s_af:Tb C0 125 tAf:=by
 refine .of Tryz.func125 (by decide) rfl fun args H K h hB=>?_
 unfold tAf at h;split at h<;>try exact h.elim
 rename_i b p;refine⟨_,?_,YxQ b p K h.1 h.2.1 h.2.2.1 h.2.2.2⟩;exact⟨Ye C0.ok s_uv _,Ye C0.ok s_ck _,trivial⟩
theorem Yik:∀ (l:LI) (i:Nat) (a u k:Int),allB l->0<=a->vD 12 13 i l a=(u,k,0)->a<=u/\(i:Int)+1<=k/\k<=i+l.length
 | [],_,_,_,_,_,_,h=>by simp[vD] at h
 | c::r,i,a,u,k,hb,h0,h=>by
  have c0:=(hb c ZP).1;have pp:(0:Int)<=c % 128*128 ^ i:=ZaY (by omega) (ZbZ (ZbQ (by decide)));unfold vD at h;split at h
  .simp at h
  .split at h
   .simp only[Zs] at h;obtain⟨h1,h2,_⟩:=h;rw[ZQ];omega
   .have:=Yik r (i+1) _ u k (fun x hx=>hb x (Zz _ hx)) (by omega) h;rw[ZQ];omega
theorem four {s:LI}(h:s.length=4):wD s=((getB s 0*256+getB s 1)*256+getB s 2)*256+getB s 3:=by
 match s,h with
 | [a,b,c,d],_ =>
  show 256*(256*(256*(256*0+a)+b)+c)+d=((a*256+b)*256+c)*256+d;omega
theorem Yba {b p:LI}{at_ k e:Int}(h0:0<=at_)(h1:at_<=b.length)(h:frD 12 13 14 1048576 (b.drop at_.toNat)=(p,k,e)):nxD b at_=if e=0 then (p,at_+k,0) else ([],0,e):=by
 unfold nxD;rw[Zf (by omega),h]
theorem YbW {r:LI}{n k e:Int}(h:vD 12 13 0 r 0=(n,k,e)):frD 12 13 14 1048576 r=if e≠0 then ([],0,e) else if 1048576<n then ([],0,13) else if (r.length:Int)<k+n+4 then ([],0,12) else
  if wD ((r.drop (k+n).toNat).take 4)=crc (r.take (k+n).toNat) then ((r.take (k+n).toNat).drop k.toNat,k+n+4,0) else ([],0,14):=by
 unfold frD;rw[h]
def PNx1 (b:LI)(at_:Int):Int->Int->Prop:=fun u n=>0<=at_/\at_<=b.length/\∃ k,vD 12 13 0 (b.drop at_.toNat) 0=(u,k,0)/\n=at_+k
def PNx2 (b:LI)(at_:Int):Int->Int->Prop:=fun u n=>0<=at_/\at_<=b.length/\∃ v k,vD 12 13 0 (b.drop at_.toNat) 0=(v,k,0)/\v<=1048576/\u=at_+k/\n=at_+k+v/\at_+k+v+4<=b.length
abbrev O44 (b:LI)(K:SV → LH C0 → LN → Prop):Prop:=K (.tup [(.at (.slc 1)),(.at (.val (VI 0))),(.at (.val (VI 14)))]) [(.row false .u8 (b)),(.row true .u8 [])] []
theorem YxR (b:LI)(at_:Int)(K:KT)(hb:allB b)(hl:b.length<=1000000000)(h:∀ p n e,nxD b at_=(p,n,e)->K (.tup [.at (.slc 1),.at (vI n),.at (vI e)]) [.row false .u8 b,.row true .u8 p] []) :
  vc C0 (aNx (PNx1 b at_) (PNx2 b at_) b) Tryz.f101 [.at (.slc 0),.at (.val (.int .i64 at_))] [.row false .u8 b] (Yh 1 K):=by
 generalize hP:PNx1 b at_=P1;generalize hP':PNx2 b at_=P2
 refine Eq.mp (show (allB b/\b.length<=1000000000000/\∀ u:Int,∀ n:Int,∀ e:Int,uvD b at_=(Prod.mk (u) (Prod.mk (n) (e)))->brS (e != 0) (K (.tup [(.at (.slc 1)),(.at (.val (VI 0))),(.at (.val (VI (e))))]) [(.row false .u8 (b)),(.row true .u8 [])] []) (∃ x:XNx P1,True/\(True/\VI (at_)=VI (at_)/\VW (u)=VW (x.u)/\VI (n)=VI (x.n)/\True)/\b=b/\True)/\∀ x:XNx P1,True->brS (decide (x.u>1048576)) (K (.tup [(.at (.slc 1)),(.at (.val (VI 0))),(.at (.val (VI 13)))]) [(.row false .u8 (b)),(.row true .u8 [])] []) (brS (decide (Za.wrap ((b.length:Int)-4)<Za.wrap (x.n+Za.wrap x.u))) (K (.tup [(.at (.slc 1)),(.at (.val (VI 0))),(.at (.val (VI 12)))]) [(.row false .u8 (b)),(.row true .u8 [])] []) (∃ x1:XNx P2,True/\(True/\VI (at_)=VI (at_)/\VI (x.n)=VI (x1.u)/\(VI (Za.wrap (x.n+Za.wrap x.u)))=(VI (x1.n))/\True)/\b=b/\True)/\∀ x1:XNx P2,True->0<=at_/\at_<=x1.n/\x1.n<=(b.length:Int)/\allB (Zp at_.toNat (Zn x1.n.toNat b))/\(Zp at_.toNat (Zn x1.n.toNat b)).length<=1000000000000/\∀ r:Int,r=(crc (Zp at_.toNat (Zn x1.n.toNat b)))->0<=x1.n/\x1.n<=Za.wrap (x1.n+4)/\Za.wrap (x1.n+4)<=(b.length:Int)/\(0:Int)<=0/\0<(↑(Zp x1.n.toNat (Zn (Za.wrap (x1.n+4)).toNat b)).length:Int)/\brS (getB (Zp x1.n.toNat (Zn (Za.wrap (x1.n+4)).toNat b)) (Zq 0) != IntKind.u8.wrap (r.fdiv (2 ^ min (Zq 24) Ze.bits))) (O44 b K) ((0:Int)<=1/\1<(↑(Zp x1.n.toNat (Zn (Za.wrap (x1.n+4)).toNat b)).length:Int)/\
  brS (getB (Zp x1.n.toNat (Zn (Za.wrap (x1.n+4)).toNat b)) (Zq 1) != IntKind.u8.wrap (r.fdiv (2 ^ min (Zq 16) Ze.bits))) (O44 b K) ((0:Int)<=2/\2<(↑(Zp x1.n.toNat (Zn (Za.wrap (x1.n+4)).toNat b)).length:Int)/\brS (getB (Zp x1.n.toNat (Zn (Za.wrap (x1.n+4)).toNat b)) (Zq 2) != IntKind.u8.wrap (r.fdiv (2 ^ min (Zq 8) Ze.bits))) (O44 b K) ((0:Int)<=3/\3<(↑(Zp x1.n.toNat (Zn (Za.wrap (x1.n+4)).toNat b)).length:Int)/\brS (getB (Zp x1.n.toNat (Zn (Za.wrap (x1.n+4)).toNat b)) (Zq 3) != IntKind.u8.wrap r) (O44 b K) (0<=x1.u/\x1.u<=x1.n/\x1.n<=(b.length:Int)/\(([]:LE).length+(Zp x1.u.toNat (Zn x1.n.toNat b)).length)*Yd C0 EC.u8<=140737488355328/\K (.tup [(.at (.slc 1)),(.at (.val (VI (Za.wrap (x1.n+4))))),(.at (.val (VI 0)))]) [(.row false .u8 (b)),(.row true .u8 ([]++Zp x1.u.toNat (Zn x1.n.toNat b)))] []))))))=_ by kernel_rfl) ?_
 delta O44;subst hP hP';have hr:=YE hb at_.toNat;refine⟨hb,by omega,fun u n e ud=>⟨Ya (fun z=>?_) fun z=>?_,fun x _=>Ya (fun z=>?_) fun z=>⟨Ya (fun y=>?_) fun y=>?_,fun x1 _=>?_⟩⟩⟩
 .have z:e≠0:=fun k=>by rw[k] at z;exact absurd z (by decide)
  refine h _ _ _ ?_
  by_cases c:at_<0∨(b.length:Int)<at_
  .unfold uvD at ud;rw[Zj c] at ud;injection ud with e1 e2
   injection e2 with e2 e3
   unfold nxD;rw[Zj c,e3]
   rfl
  .obtain⟨v,k,e',hv⟩:∃ v k e',vD 12 13 0 (b.drop at_.toNat) 0=(v,k,e'):=⟨_,_,_,rfl⟩
   have ue:=YaY (by omega) (by omega) hv;rw[ud] at ue
   by_cases q:e'=0
   .rw[Zj q] at ue;injection ue with e1 e2
    injection e2 with e2 e3
    exact absurd e3 z
   .rw[Zf q] at ue;injection ue with e1 e2
    injection e2 with e2 e3
    have ef:=YbW hv;rw[Zj q] at ef;rw[Yba (by omega) (by omega) ef,Zf q,e3]
    rfl
 .have z:e=0:=by simpa using z
  subst z;refine⟨⟨u,n,?_⟩,trivial,?_⟩
  .by_cases c:at_<0∨(b.length:Int)<at_
   .unfold uvD at ud;rw[Zj c] at ud;injection ud with e1 e2
    injection e2 with e2 e3
    exact absurd e3 (by decide)
   .obtain⟨v,k,e',hv⟩:∃ v k e',vD 12 13 0 (b.drop at_.toNat) 0=(v,k,e'):=⟨_,_,_,rfl⟩
    have ue:=YaY (by omega) (by omega) hv;rw[ud] at ue
    by_cases q:e'=0
    .rw[Zj q] at ue;injection ue with e1 e2
     injection e2 with e2 e3
     rw[q] at hv;exact⟨by omega,by omega,k,by rw[e1];exact hv,e2⟩
    .rw[Zf q] at ue;injection ue with e1 e2
     injection e2 with e2 e3
     exact absurd e3.symm q
  ·repeat' constructor
 .obtain⟨v,m,a0,a1,k,hv,en⟩:=x;dsimp only at z ⊢;have z:1048576<v:=Zc z;have ef:=YbW hv;rw[Zf (by decide),Zj z] at ef;exact h _ _ _ (by rw[Yba a0 a1 ef];rfl)
 .obtain⟨v,m,a0,a1,k,hv,en⟩:=x;dsimp only at z y ⊢;have z:v<=1048576:=by have:=Zg z;omega
  have vk:=Yik _ 0 0 v k hr (ZE 0) hv;have dl:(b.drop at_.toNat).length=b.length-at_.toNat:=Zy;rw[Yb (x:=(b.length:Int)-4) (by omega) (by omega),Yb (x:=v) (by omega) (by omega),Yb (x:=m+v) (by omega) (by omega)] at y;have y:=Zc y;have ef:=YbW hv;rw[Zf (by decide),Zf (by omega),Zj (by omega)] at ef;exact h _ _ _ (by rw[Yba a0 a1 ef];rfl)
 .obtain⟨v,m,a0,a1,k,hv,en⟩:=x;dsimp only at z y ⊢;have z:v<=1048576:=by have:=Zg z;omega
  have vk:=Yik _ 0 0 v k hr (ZE 0) hv;have dl:(b.drop at_.toNat).length=b.length-at_.toNat:=Zy;rw[Yb (x:=v) (by omega) (by omega),Yb (x:=m+v) (by omega) (by omega)];rw[Yb (x:=(b.length:Int)-4) (by omega) (by omega),Yb (x:=v) (by omega) (by omega),Yb (x:=m+v) (by omega) (by omega)] at y;have y:=Zg y;refine⟨⟨m,m+v,a0,a1,v,k,hv,z,en,by omega,by omega⟩,trivial,?_⟩
  repeat' constructor
 .obtain⟨m,q,a0,a1,v,k,hv,z,em,eq,hle⟩:=x1;dsimp only;have vk:=Yik _ 0 0 v k hr (ZE 0) hv;have dl:(b.drop at_.toNat).length=b.length-at_.toNat:=Zy
  have t1:Zp at_.toNat (Zn q.toNat b)=(b.drop at_.toNat).take (k+v).toNat:=by
   rw[List.take_drop,show at_.toNat+(k+v).toNat=q.toNat by omega]
  have t2:Zp q.toNat (Zn (q+4).toNat b)=((b.drop at_.toNat).drop (k+v).toNat).take 4:=by
   rw[Zcb,List.take_drop,show at_.toNat+(k+v).toNat=q.toNat by omega,show q.toNat+4=(q+4).toNat by omega]
  have t3:Zp m.toNat (Zn q.toNat b)=((b.drop at_.toNat).take (k+v).toNat).drop k.toNat:=by
   rw[<-t1,Zcb,show at_.toNat+k.toNat=m.toNat by omega]
  rw[Yb (x:=q+4) (by omega) (by omega),t1,t2,t3];have ef:=YbW hv;rw[Zf (by decide),Zf (by omega),Zf (by omega)] at ef;have hs:=Yaw (YE hr (k+v).toNat) 4;have sl:(((b.drop at_.toNat).drop (k+v).toNat).take 4).length=4:=by rw[ZG,Zy];omega
  have tl:((b.drop at_.toNat).take (k+v).toNat).length<=b.length:=by rw[ZG];omega
  have hp:=Yaw hr (k+v).toNat;generalize ((b.drop at_.toNat).drop (k+v).toNat).take 4=s at *;generalize (b.drop at_.toNat).take (k+v).toNat=t at *;have w4:=four sl;have g0:=hs _ (Yj (i:=0) (by omega));have g1:=hs _ (Yj (i:=1) (by omega));have g2:=hs _ (Yj (i:=2) (by omega));have g3:=hs _ (Yj (i:=3) (by omega));refine⟨a0,by omega,by omega,hp,by omega,fun r er=>?_⟩;have rr:=YcI t;rw[<-er] at rr ef
  rw[show (2:Int) ^ min (Zq 24) Ze.bits=16777216 from rfl,show (2:Int) ^ min (Zq 16) Ze.bits=65536 from rfl,show (2:Int) ^ min (Zq 8) Ze.bits=256 from rfl,
   Zah _ (show (0:Int)<=16777216 by decide),Zah _ (show (0:Int)<=65536 by decide),Zah _ (show (0:Int)<=256 by decide),
   YN (x:=r / 16777216) (by omega),YN (x:=r / 65536) (by omega),YN (x:=r / 256) (by omega),YN (x:=r) rr.1,
   show Zq 0=0 from rfl,show Zq 1=1 from rfl,show Zq 2=2 from rfl,show Zq 3=3 from rfl]
  have bad:wD s≠r->K (.tup [.at (.slc 1),.at (vI 0),.at (vI 14)]) [.row false .u8 b,.row true .u8 []] []:=fun q=>by
   rw[Zf q] at ef;exact h _ _ _ (by rw[Yba a0 a1 ef];rfl)
  have ne_of:∀ {x y:Int},(x != y)=true->x≠y:=fun {x y} q e=>by rw[e] at q;simp at q
  have eq_of:∀ {x y:Int},(x != y)=false->x=y:=fun {x y} q=>by simpa using q
  refine⟨by omega,by omega,by omega,by decide,by omega,Ya (fun q=>bad fun k=>?_) fun q0=>⟨by decide,by omega,Ya (fun q=>bad fun k=>?_) fun q1=>⟨by decide,by omega,Ya (fun q=>bad fun k=>?_) fun q2=>⟨by decide,by omega,Ya (fun q=>bad fun k=>?_) fun q3=>?_⟩⟩⟩⟩
  .have:=ne_of q;omega
  .have:=ne_of q;omega
  .have:=ne_of q;omega
  .have:=ne_of q;omega
  .have e0:=eq_of q0;have e1:=eq_of q1;have e2:=eq_of q2;have e3:=eq_of q3;rw[Zj (by omega)] at ef;refine⟨by omega,by omega,by omega,?_,h _ _ _ ?_⟩
   .have:(t.drop k.toNat).length<=t.length:=by rw[Zy];omega
    rw[YaF];simp;omega
   .rw[Yba a0 a1 ef,Zj rfl];show (Zp k.toNat t,at_+(k+v+4),(0:Int))=(Zp k.toNat t,q+4,0)
    congr 2;omega
theorem s_nx:Tb C0 101 tNx:=by
 refine .of Tryz.func101 (by decide) rfl fun args H K h hB=>?_
 unfold tNx at h;split at h<;>try exact h.elim
 rename_i at_ b;refine⟨_,?_,YxR b at_ K h.1 h.2.1 h.2.2⟩;exact⟨Ye C0.ok s_ud _,Ye C0.ok s_ck _,trivial⟩
def allQ (l:LI):Prop:=∀ u∈l,0<=u/\u<18446744073709551616
def vsE (b l:LI):LI:=b++l.flatMap (vE 10)
def rvD (b:LI)(at_:Int)(bad:Bool):Int × Int × Bool:=if bad then (0,at_,true) else match uvD b at_ with|(u,n,e)=>(u,n,e != 0)
def ryD (b:LI)(at_:Int)(bad:Bool):Int × Int × Bool:=if bad then (0,at_,true) else match kyD b at_ with|(u,n,e)=>(u,n,e != 0)
structure XVs (P:Nat->LI->Prop) where
 i:Nat
 o:LI
 h:P i o
def aVs (P:Nat->LI->Prop)(l:LI):Ann C0:={ Γ:=[(124,Yc [] tUv)],inv:=fun n=>match n with
 | 2=>some { X:=XVs P,sl:=[0,9],tf:=fun x=>[.one (.at (.slc 0)),vi .i64 x.i],hf:=fun x=>[.row true .u8 x.o,.row false .u64 l],μ:=fun x=>l.length-x.i,wr:=[0] }
 | _=>none }
def tVs:Tfm C0:=fun args H K=>match args,H with
 | [.at (.slc 0),.at (.slc 1)],[.row true .u8 b,.row false .u64 l]=>allQ l/\l.length<=1000000/\b.length<=1000000000/\∀ o,o=vsE b l->K (.one (.at (.slc 0))) [.row true .u8 o,.row false .u64 l] [0]
 | _,_=>False
def rcE (b p:LI):LI:=b++frE p
def aRc:Ann C0:={ Γ:=[(125,Yc [] tAf)] }
def tRc:Tfm C0:=fun args H K=>match args,H with
 | [.at (.slc 0),.at (.slc 1)],[.row true .u8 b,.row false .u8 p]=>allB p/\p.length<=1048576/\b.length<=1000000000/\∀ o,o=rcE b p->K (.one (.at (.slc 0))) [.row true .u8 o,.row false .u8 p] [0]
 | _,_=>False
abbrev rdM (H:LH C0)(k:Int->Bool->LI->Prop):Prop:=match H with
 | [.box [.slc 1,.val (.int .i64 at_),.val (.bool bad)],.row false .u8 b]=>k at_ bad b
 | _=>False
abbrev chR (at_:Int)(bad:Bool)(b:LI):LH C0:=[.box [.slc 1,vI at_,vB bad],.row false .u8 b]
def aRv:Ann C0:={ quiet:=[127],Γ:=[(127,Yc [] tUd)] }
def tRv:Tfm C0:=fun args H K=>match args with
 | [.at (.ptr 0 0)]=>rdM H fun at_ bad b=>allB b/\b.length<=1000000000000/\∀ u n f,rvD b at_ bad=(u,n,f)->K (.one (.at (vU64 u))) (chR n f b) [0]
 | _=>False
def aRy:Ann C0:={ quiet:=[142],Γ:=[(142,Yc [] tKd)] }
def tRy:Tfm C0:=fun args H K=>match args with
 | [.at (.ptr 0 0)]=>rdM H fun at_ bad b=>allB b/\b.length<=1000000000000/\∀ u n f,ryD b at_ bad=(u,n,f)->K (.one (.at (vI u))) (chR n f b) [0]
 | _=>False
def tRd:Tfm C0:=fun args H K=>match args with
 | [.at (.ptr 0 0)]=>rdM H fun at_ bad b=>∀ r,r=(!bad && at_==b.length)->K (.one (.at (vB r))) (chR at_ bad b) []
 | _=>False
def PVs (b l:LI):Nat->LI->Prop:=fun i o=>i<=l.length/\o=b++(l.take i).flatMap (vE 10)
theorem YcK:∀ (l:LI),(l.flatMap (vE 10)).length<=11*l.length
 | []=>Zw _
 | u::l=>by
  have:=YcK l;have:=YaG u;rw[Zab,Zh,ZQ];omega
theorem YxS (b l:LI)(K:KT)(hl:allQ l)(h1:l.length<=1000000)(hb:b.length<=1000000000)(h:∀ o,o=vsE b l->K (.one (.at (.slc 0))) [.row true .u8 o,.row false .u64 l] [0]) :
  vc C0 (aVs (PVs b l) l) Tryz.f95 [.at (.slc 0),.at (.slc 1)] [.row true .u8 b,.row false .u64 l] (Yh 2 (YG [0] K)):=by
 generalize hP:PVs b l=P;refine Eq.mp (show ((∃ x:XVs P,True/\(True/\True/\VI (l.length:Int)=VI (l.length:Int)/\VI 0=(VI (x.i:Int))/\True)/\b=x.o/\l=l/\True)/\∀ x:XVs P,True->brS (decide ((x.i:Int)<(l.length:Int))) (0<=(x.i:Int)/\(x.i:Int)<(l.length:Int)/\0<=getB l (x.i:Int).toNat/\getB l (x.i:Int).toNat<18446744073709551616/\([]:LE).length<=1000000000/\∀ o:LI,o=(uvA [] (getB l (x.i:Int).toNat))->(x.o.length+o.length)*Yd C0 EC.u8<=140737488355328/\∃ x':XVs P,True/\((True/\True/\VI (l.length:Int)=VI (l.length:Int)/\(VI (Za.wrap ((x.i:Int)+1)))=(VI (x'.i:Int))/\True)/\(x.o++o)=x'.o/\l=l/\True)/\l.length-x'.i<l.length-x.i) (K (.one (.at (.slc 0))) [(.row true .u8 (x.o)),(.row false .u64 (l))] [0]))=_ by kernel_rfl) ?_;subst hP;refine⟨⟨⟨0,b,ZC _,(ZR b).symm⟩,?_⟩,fun x _=>Ya (fun z=>?_) fun z=>?_⟩
 ·repeat' constructor
 .obtain⟨i,o,hi,eo⟩:=x;dsimp only at z ⊢;have z:i<l.length:=by have:=Zc z;omega
  rw[show ((i:Int)).toNat=i from rfl,Yb (x:=(i:Int)+1) (by omega) (by omega)];obtain⟨u0,u1⟩:=hl _ (Yj z);refine⟨by omega,by omega,u0,u1,by simp,fun v ev=>?_⟩;have ev:v=vE 10 (getB l i):=ev.trans (ZS _);have vl:v.length<=11:=by rw[ev];exact YaG _
  have ol:o.length<=b.length+11*l.length:=by
   have:=YcK (l.take i);have:(l.take i).length<=l.length:=by rw[ZG];omega
   rw[eo,Zh];omega
  have en:o++v=b++(l.take (i+1)).flatMap (vE 10):=by rw[Yo z,Zbn,List.flatMap_singleton,eo,ev,Zo]
  refine⟨by rw[YaF];omega,⟨i+1,o++v,z,en⟩,trivial,?_,ZI z (ZO i)⟩
  ·repeat' constructor
 .obtain⟨i,o,hi,eo⟩:=x;dsimp only at z ⊢;have z:i=l.length:=by have:=Zg z;omega
  rw[z,ZJ] at eo;exact h _ eo
theorem s_vs:Tb C0 95 tVs:=by
 refine .ofW [0] Tryz.func95 (by decide) rfl fun args H K h hB=>?_
 unfold tVs at h;split at h<;>try exact h.elim
 rename_i b l;refine⟨_,?_,YxS b l K h.1 h.2.1 h.2.2.1 h.2.2.2⟩;exact⟨Ye C0.ok s_uv _,trivial⟩
theorem YxT (b p:LI)(K:KT)(hp:allB p)(h1:p.length<=1048576)(hb:b.length<=1000000000)(h:∀ o,o=rcE b p->K (.one (.at (.slc 0))) [.row true .u8 o,.row false .u8 p] [0]) :
  vc C0 aRc Tryz.f96 [.at (.slc 0),.at (.slc 1)] [.row true .u8 b,.row false .u8 p] (Yh 2 (YG [0] K)):=by
 refine Eq.mp (show (allB p/\p.length<=1048576/\([]:LE).length<=1000000000/\∀ o:LI,o=(afA [] p)->(b.length+o.length)*Yd C0 EC.u8<=140737488355328/\K (.one (.at (.slc 0))) [(.row true .u8 (b++o)),(.row false .u8 (p))] [0])=_ by kernel_rfl) ?_;refine⟨hp,h1,by simp,fun o eo=>?_⟩;have eo:o=frE p:=eo.trans (ZS _);have:=YbV p;exact⟨by rw[YaF,eo];omega,h _ (by rw[eo];rfl)⟩
theorem s_rc:Tb C0 96 tRc:=by
 refine .ofW [0] Tryz.func96 (by decide) rfl fun args H K h hB=>?_
 unfold tRc at h;split at h<;>try exact h.elim
 rename_i b p;refine⟨_,?_,YxT b p K h.1 h.2.1 h.2.2.1 h.2.2.2⟩;exact⟨Ye C0.ok s_af _,trivial⟩
theorem YxU (at_:Int)(bad:Bool)(b:LI)(K:KT)(hb:allB b)(hl:b.length<=1000000000000)(h:∀ u n f,rvD b at_ bad=(u,n,f)->K (.one (.at (vU64 u))) (chR n f b) [0]) :
  vc C0 aRv Tryz.f128 [.at (.ptr 0 0)] (chR at_ bad b) (Yh 2 (YG [0] K)):=by
 refine Eq.mp (show (brS (bad) (K (.one (.at (.val (VW 0)))) [(.box [(.slc 1),(.val (VI (at_))),(.val (Zi (bad)))]),(.row false .u8 (b))] [0]) (allB b/\b.length<=1000000000000/\∀ u:Int,∀ n:Int,∀ e:Int,uvD b at_=(Prod.mk (u) (Prod.mk (n) (e)))->K (.one (.at (.val (VW (u))))) [(.box [(.slc 1),(.val (VI (n))),(.val (Zi (e != 0)))]),(.row false .u8 (b))] [0]))=_ by kernel_rfl) ?_;refine Ya (fun z=>?_) fun z=>⟨hb,hl,fun u n e he=>?_⟩
 .subst z;exact h _ _ _ rfl
 .subst z;exact h _ _ _ (by unfold rvD;rw[he];rfl)
theorem s_rv:Tb C0 128 tRv:=by
 refine .ofW [0] Tryz.func128 (by decide) rfl fun args H K h hB=>?_
 unfold tRv rdM at h;iterate 2 (split at h<;>try exact h.elim)
 rename_i at_ bad b;refine⟨_,?_,YxU at_ bad b K h.1 h.2.1 h.2.2⟩;exact⟨Ye C0.ok s_ud _,trivial⟩
theorem YxV (at_:Int)(bad:Bool)(b:LI)(K:KT)(hb:allB b)(hl:b.length<=1000000000000)(h:∀ u n f,ryD b at_ bad=(u,n,f)->K (.one (.at (vI u))) (chR n f b) [0]) :
  vc C0 aRy Tryz.f129 [.at (.ptr 0 0)] (chR at_ bad b) (Yh 2 (YG [0] K)):=by
 refine Eq.mp (show (brS (bad) (K (.one (.at (.val (VI 0)))) [(.box [(.slc 1),(.val (VI (at_))),(.val (Zi (bad)))]),(.row false .u8 (b))] [0]) (allB b/\b.length<=1000000000000/\∀ u:Int,∀ n:Int,∀ e:Int,kyD b at_=(Prod.mk (u) (Prod.mk (n) (e)))->K (.one (.at (.val (VI (u))))) [(.box [(.slc 1),(.val (VI (n))),(.val (Zi (e != 0)))]),(.row false .u8 (b))] [0]))=_ by kernel_rfl) ?_;refine Ya (fun z=>?_) fun z=>⟨hb,hl,fun u n e he=>?_⟩
 .subst z;exact h _ _ _ rfl
 .subst z;exact h _ _ _ (by unfold ryD;rw[he];rfl)
theorem s_ry:Tb C0 129 tRy:=by
 refine .ofW [0] Tryz.func129 (by decide) rfl fun args H K h hB=>?_
 unfold tRy rdM at h;iterate 2 (split at h<;>try exact h.elim)
 rename_i at_ bad b;refine⟨_,?_,YxV at_ bad b K h.1 h.2.1 h.2.2⟩;exact⟨Ye C0.ok s_kd _,trivial⟩
theorem YxW (at_:Int)(bad:Bool)(b:LI)(K:KT)(h:∀ r,r=(!bad && at_==b.length)->K (.one (.at (vB r))) (chR at_ bad b) []) :
  vc C0 A0 Tryz.f131 [.at (.ptr 0 0)] (chR at_ bad b) (Yh 2 K):=by
 refine Eq.mp (show (brS (!bad) (K (.one (.at (.val (Zi (at_==(b.length:Int)))))) [(.box [(.slc 1),(.val (VI (at_))),(.val (Zi (bad)))]),(.row false .u8 (b))] []) (K (.one (.at (.val (Zi false)))) [(.box [(.slc 1),(.val (VI (at_))),(.val (Zi (bad)))]),(.row false .u8 (b))] []))=_ by kernel_rfl) ?_;refine Ya (fun z=>?_) fun z=>?_
 .exact h _ (by rw[z];rfl)
 .exact h _ (by rw[z];rfl)
theorem s_rd:Tb C0 131 tRd:=by
 refine .of Tryz.func131 (by decide) rfl fun args H K h hB=>?_
 unfold tRd rdM at h;iterate 2 (split at h<;>try exact h.elim)
 rename_i at_ bad b;refine⟨A0,?_,YxW at_ bad b K h⟩;exact trivial
structure XYj (P:LI->Nat->Prop) where
 o:LI
 i:Nat
 h:P o i
def aJnR (P1 P2:LI->Nat->Prop)(b c:LI):Ann C0:={ quiet:=[9999999],Γ:=[],inv:=fun m=>match m with
 | 3=>some { X:=XYj P1,sl:=[5,6],tf:=fun x=>[.one (.at (.slc 2)),vi .i64 x.i],hf:=fun x=>[.row false .u8 b,.row false .u8 c,.row true .u8 x.o],μ:=fun x=>b.length-x.i }
 | 7=>some { X:=XYj P2,sl:=[5,7],tf:=fun x=>[.one (.at (.slc 2)),vi .i64 x.i],hf:=fun x=>[.row false .u8 b,.row false .u8 c,.row true .u8 x.o],μ:=fun x=>c.length-x.i }
 | _=>none }
def jnA (b c:LI):LI:=b++c
def tJnR:Tfm C0:=fun args H K=>match args,H with
 | [.at (.slc 0),.at (.slc 1)],[.row false .u8 b,.row false .u8 c]=>b.length<=1000000000/\c.length<=1000000000/\∀ o,o=jnA b c->K (.one (.at (.slc 2))) [.row false .u8 b,.row false .u8 c,.row true .u8 o] []
 | _,_=>False
structure XYv (P:LI->Int->Prop) where
 o:LI
 u:Int
 h:P o u
def aVtR (P:LI->Int->Prop):Ann C0:={ quiet:=[9999999],Γ:=[],inv:=fun m=>match m with
 | 2=>some { X:=XYv P,sl:=[0,3],tf:=fun x=>[vi .u64 x.u,.one (.at (.slc 0))],hf:=fun x=>[.row true .u8 x.o],μ:=fun x=>x.u.toNat }
 | _=>none }
def tVtR:Tfm C0:=fun args H K=>match args,H with
 | [.at (.val (.int .u64 u))],[]=>0<=u/\u<18446744073709551616/\∀ o,o=vE 10 u->K (.one (.at (.slc 0))) [.row true .u8 o] []
 | _,_=>False
def PJn1 (b:LI):LI->Nat->Prop:=fun o i=>i<=b.length/\o=b.take i
def PJn2 (b c:LI):LI->Nat->Prop:=fun o i=>i<=c.length/\o=jnA b (c.take i)
theorem Yve (b c:LI)(K:KT)(hb:b.length<=1000000000)(hc:c.length<=1000000000)(h:∀ o,o=jnA b c->K (.one (.at (.slc 2))) [.row false .u8 b,.row false .u8 c,.row true .u8 o] []) :
  vc C0 (aJnR (PJn1 b) (PJn2 b c) b c) Tryz.f70 [.at (.slc 0),.at (.slc 1)] [.row false .u8 b,.row false .u8 c] (Yh 2 K):=by
 generalize hP1:PJn1 b=P1;generalize hP2:PJn2 b c=P2;refine Eq.mp (show ((0:Int)<=0/\0<=Za.wrap ((b.length:Int)+(c.length:Int))/\Za.wrap ((b.length:Int)+(c.length:Int))*(↑(Yd C0 EC.u8):Int)<=140737488355328/\(∃ x:XYj P1,True/\(True/\True/\True/\VI 0=(VI (x.i:Int))/\True)/\b=b/\c=c/\[]=x.o/\True)/\∀ x:XYj P1,True->brS (decide ((x.i:Int)<(b.length:Int))) (0<=(x.i:Int)/\(x.i:Int)<(b.length:Int)/\(x.o.length+[getB b (x.i:Int).toNat].length)*Yd C0 EC.u8<=140737488355328/\∃ x':XYj P1,True/\((True/\True/\True/\(VI (Za.wrap ((x.i:Int)+1)))=(VI (x'.i:Int))/\True)/\b=b/\c=c/\(x.o++[getB b (x.i:Int).toNat])=x'.o/\True)/\b.length-x'.i<b.length-x.i) ((∃ x1:XYj P2,True/\(True/\True/\VI 0=(VI (x1.i:Int))/\True)/\b=b/\c=c/\x.o=x1.o/\True)/\∀ x1:XYj P2,True->brS (decide ((x1.i:Int)<(c.length:Int))) (0<=(x1.i:Int)/\(x1.i:Int)<(c.length:Int)/\(x1.o.length+[getB c (x1.i:Int).toNat].length)*Yd C0 EC.u8<=140737488355328/\∃ x':XYj P2,True/\((True/\True/\(VI (Za.wrap ((x1.i:Int)+1)))=(VI (x'.i:Int))/\True)/\b=b/\c=c/\(x1.o++[getB c (x1.i:Int).toNat])=x'.o/\True)/\c.length-x'.i<c.length-x1.i) (K (.one (.at (.slc 2))) [(.row false .u8 (b)),(.row false .u8 (c)),(.row true .u8 (x1.o))] [])))=_ by kernel_rfl) ?_;subst hP1 hP2;rw[Yb (x:=(b.length:Int)+c.length) (by omega) (by omega),YaF]
 refine⟨by decide,by omega,by omega,⟨⟨[],0,ZC _,rfl⟩,trivial,?_⟩,fun x _=>Ya (fun y=>?_) fun y=>⟨?_,fun x1 _=>Ya (fun z=>?_) fun z=>?_⟩⟩
 ·repeat' constructor
 .obtain⟨o,i,hi,rfl⟩:=x;dsimp only at y ⊢;have yi:i<b.length:=by have:=Zc y;omega
  clear y;rw[show ((i:Int)).toNat=i from rfl,Yb (x:=(i:Int)+1) (by omega) (by omega)];refine⟨by omega,by omega,by rw[ZG,Zr];omega,⟨b.take i++[getB b i],i+1,yi,(Yo yi).symm⟩,trivial,?_,ZI yi (ZO i)⟩
  repeat' constructor
 .obtain⟨o,i,hi,rfl⟩:=x;dsimp only at y ⊢;have yi:i=b.length:=by have:=Zg y;omega
  subst yi;rw[ZJ];refine⟨⟨b,0,ZC _,by unfold jnA;rw[List.take_zero,ZR]⟩,trivial,?_⟩
  repeat' constructor
 .obtain⟨o,i,hi,rfl⟩:=x1;dsimp only at z ⊢;have yi:i<c.length:=by have:=Zc z;omega
  clear z;rw[show ((i:Int)).toNat=i from rfl,Yb (x:=(i:Int)+1) (by omega) (by omega)];refine⟨by omega,by omega,by unfold jnA;rw[Zh,ZG,Zr];omega,⟨jnA b (c.take i)++[getB c i],i+1,yi,by unfold jnA;rw[Yo yi,Zo]⟩,trivial,?_,ZI yi (ZO i)⟩
  repeat' constructor
 .obtain⟨o,i,hi,rfl⟩:=x1;dsimp only at z ⊢;have yi:i=c.length:=by have:=Zg z;omega
  subst yi;rw[ZJ];exact h _ rfl
theorem Yjy:Tb C0 70 tJnR:=by
 refine .of Tryz.func70 (by decide) rfl fun args H K h hB=>?_
 unfold tJnR at h;split at h<;>try exact h.elim
 rename_i b c;exact⟨aJnR (PJn1 b) (PJn2 b c) b c,trivial,Yve b c K h.1 h.2.1 h.2.2⟩
def PVt (u0:Int):LI->Int->Prop:=fun o u=>∃ f,vE 10 u0=o++vE f u/\o.length+f=10/\0<=u/\u<128 ^ f/\u<=u0
theorem Yvf (u:Int)(K:KT)(h0:0<=u)(h1:u<18446744073709551616)(h:∀ o,o=vE 10 u->K (.one (.at (.slc 0))) [.row true .u8 o] []) :
  vc C0 (aVtR (PVt u)) Tryz.f116 [.at (vU64 u)] [] (Yh 0 K):=by
 generalize hP:PVt u=P;refine Eq.mp (show ((∃ x:XYv P,True/\(VW (u)=VW (x.u)/\True/\True)/\[]=x.o/\True)/\∀ x:XYv P,True->brS (decide (x.u>127)) ((x.o.length+[IntKind.u8.wrap (IntKind.u8.wrap (x.u.tmod 128)+128)].length)*Yd C0 EC.u8<=140737488355328/\∃ x':XYv P,True/\(((VW (Zd.wrap (x.u.tdiv 128)))=(VW (x'.u))/\True/\True)/\(x.o++[IntKind.u8.wrap (IntKind.u8.wrap (x.u.tmod 128)+128)])=x'.o/\True)/\x'.u.toNat<x.u.toNat) ((x.o.length+[IntKind.u8.wrap x.u].length)*Yd C0 EC.u8<=140737488355328/\K (.one (.at (.slc 0))) [(.row true .u8 (x.o++[IntKind.u8.wrap x.u]))] []))=_ by kernel_rfl) ?_;subst hP;rw[YaF];refine⟨⟨⟨[],u,10,rfl,rfl,h0,by omega,ZE _⟩,trivial,?_⟩,fun x _=>Ya (fun y=>?_) fun y=>?_⟩
 ·repeat' constructor
 .obtain⟨o,v,f,e,hl,u1,u2,u3⟩:=x;dsimp only at y ⊢;have y1:127<v:=by have:=Zc y;omega
  cases f with
  | zero=>rw[ZbY] at u2;omega
  | succ f =>
   rw[ZaC] at u2;have q:vE (f+1) v=(v % 128+128)::vE f (v / 128):=Zf (by omega);have d:v / 128<128 ^ f:=by omega
   have w1:v.tmod 128=v % 128:=Zav u1;have w2:v.tdiv 128=v / 128:=Zaq u1;have w3:IntKind.u8.wrap (v % 128)=v % 128:=by rw[YN (by omega)];omega
   have w4:IntKind.u8.wrap (v % 128+128)=v % 128+128:=by rw[YN (by omega)];omega
   rw[w1,w2,w3,w4,Yf (x:=v / 128) (by omega) (by omega)];refine⟨by rw[Zr];omega,⟨o++[v % 128+128],v / 128,f,by rw[e,q,Zo];rfl,by rw[Zh,Zr];omega,by omega,d,by omega⟩,trivial,?_,by show (v / 128).toNat<v.toNat;omega⟩
   repeat' constructor
 .obtain⟨o,v,f,e,hl,u1,u2,u3⟩:=x;dsimp only at y ⊢;have y1:v<=127:=by have:=Zg y;omega
  have w:IntKind.u8.wrap v=v:=by rw[YN u1];omega
  have q:vE f v=[v]:=by
   cases f with
   | zero=>rfl
   | succ f=>exact Zj (by omega)
  rw[w];exact⟨by rw[Zr];omega,h _ (by rw[e,q])⟩
theorem Yvg:Tb C0 116 tVtR:=by
 refine .of Tryz.func116 (by decide) rfl fun args H K h hB=>?_
 unfold tVtR at h;split at h<;>try exact h.elim
 rename_i u;exact⟨aVtR (PVt u),trivial,Yvf u K h.1 h.2.1 h.2.2⟩
theorem Ybb (S:Arn):rdS S 0=S:=by simp[rdS]
theorem YR (S:Arn)(a b:Nat):rdS (rdS S a) b=rdS S (a+b):=by simp[rdS];omega
theorem YdW {S:Arn}{t:Tr}{i:Int}(h:Rep S t i)(n:Nat):Rep (rdS S n) t i:=Rep.same (S:=S) (S':=rdS S n) (fun _=>rfl) (fun _=>rfl) h
theorem YW {S:Arn}{hs:LI}(h:Wf S hs){i:Int}(hi:live S i):inU i:=by
 have h2:=h.n2;rcases hi with rfl|hi
 .exact⟨by decide,by decide⟩
 .have:=h.pos hi;exact⟨by omega,by omega⟩
def room (lim:Int)(out:LE):Nat:=(lim-out.length).toNat
def lkA (t:Tr)(lo hi:Int)(rm:Nat):LE × Nat:=match t with
 | .nil=>([],0)
 | .node l k _ _=>if lo<k then lk l lo hi rm else ([],0)
def lkB (t:Tr)(lo hi:Int)(rm:Nat):LE:=match t with
 | .nil=>[]
 | .node _ k v _=>if lo<=k/\k<=hi/\(lkA t lo hi rm).1.length<rm then [(k,v)] else []

abbrev chSk (k:Nat)(S:Arn):LH C0:=[.box [.ptr (k+1) 0,.slc (k+2),.slc (k+3),vU64 S.reads],.box [.slc (k+4),.slc (k+5),.slc (k+6),vU S.fresh],.row true .node S.nodes,.row true .int S.counts,.row true .bool S.used,.row true .u32 S.gen,.row true .u32 S.rel]
def Yvh:Ann C0:={ Γ:=[(28,Yc [] tNew),(40,Yc [] YgG)] }
def YpJ:Tfm C0:=fun args H K=>match args,H with
 | [.at (.slc 0),.at (.val (.int .u64 t)),.at (.val (.int .i64 sp))],[.row false .ent l]=>0<=t/\1<=sp/\sp<=30000/\l.length<=30000/\∀ S' i,PlantR (newS ((l.length:Int)+sp).toNat) [] l S' i->K (.tup [.at (.ptr 1 0),.at (vU i),.at (vB true)]) ([.row false .ent l]++chSk 1 S') []
 | _,_=>False
theorem YpK {c:Nat}(_:1<=c)(_:c<=65536):(newS c).free=c:=by
 unfold Arn.free Arn.cap newS;simp
theorem YsD (l:LE)(t sp:Int)(K:KT)(h1:0<=t)(h2:1<=sp)(h3:sp<=30000)(h4:l.length<=30000)(h:∀ S' i,PlantR (newS ((l.length:Int)+sp).toNat) [] l S' i->K (.tup [.at (.ptr 1 0),.at (vU i),.at (vB true)]) ([.row false .ent l]++chSk 1 S') []) :
  vc C0 Yvh Tryz.f9 [.at (.slc 0),.at (vU64 t),.at (vI sp)] [.row false .ent l] (Yh 1 K):=by
 refine Eq.mp (show (((Za.wrap ((l.length:Int)+sp)<1∨65536<Za.wrap ((l.length:Int)+sp))->K (.tup [(.at (.val (Value.pointer none))),(.at (.val (VU 0))),(.at (.val (Zi false)))]) [(.row false .ent (l))] [])/\(1<=Za.wrap ((l.length:Int)+sp)->Za.wrap ((l.length:Int)+sp)<=65536->∀ S:Arn,S=(newS (Za.wrap ((l.length:Int)+sp)).toNat)->∃ hs:LI,Wf S hs/\l.length<=100000/\(l.length:Int)<=S.free/\hs.length+l.length<=900000000/\0<=t/\∀ S':Arn,∀ i:Int,PlantR S hs l S' i->K (.tup [(.at (.ptr 1 0)),(.at (.val (VU (i)))),(.at (.val (Zi true)))]) [(.row false .ent (l)),(.box [(.ptr 2 0),(.slc 3),(.slc 4),(.val (VW (S'.reads)))]),(.box [(.slc 5),(.slc 6),(.slc 7),(.val (VU (S'.fresh)))]),(.row true .node (S'.nodes)),(.row true .int (S'.counts)),(.row true .bool (S'.used)),(.row true .u32 (S'.gen)),(.row true .u32 (S'.rel))] []))=_ by kernel_rfl) ?_;rw[Yb (x:=(l.length:Int)+sp) (by omega) (by omega)];refine⟨fun c=>by omega,fun _ _ S hS=>?_⟩;subst hS;refine⟨[],Wf.new (by omega) (by omega),by omega,?_,by simp;omega,h1,h⟩;rw[YpK (by omega) (by omega)];omega
theorem Yrd:Tb C0 9 YpJ:=by
 refine .of Tryz.func9 (by decide) rfl fun args H K h hB=>?_
 unfold YpJ at h;split at h<;>try exact h.elim
 rename_i t sp l;obtain⟨h1,h2,h3,h4,h5⟩:=h;exact⟨Yvh,⟨Ye C0.ok Yxp _,Ye C0.ok Ykl _,trivial⟩,YsD l t sp K h1 h2 h3 h4 h5⟩
end Go.Proofs.YtedfbafngmicpaaGreat.Sx
namespace Go.Proofs.YtedfbafngmicpaaGreat
open Go
section
section
variable {us:Int->Bool} {lf rg:Int->Int}
inductive NumG (us:Int->Bool) (lf rg:Int->Int):Int->LI->LI->Prop where
 | skip {i:Int} {acc:LI}:(us i=false∨i∈acc)->NumG us lf rg i acc acc
 | go {i:Int} {acc a1 a2:LI}:us i=true->i∉acc->NumG us lf rg (lf i) acc a1->NumG us lf rg (rg i) a1 a2->NumG us lf rg i acc (a2++[i])
inductive NumsG (us:Int->Bool) (lf rg:Int->Int):LI->LI->LI->Prop where
 | nil {acc:LI}:NumsG us lf rg [] acc acc
 | cons {i:Int} {r acc a1 a2:LI}:NumG us lf rg i acc a1->NumsG us lf rg r a1 a2->NumsG us lf rg (i::r) acc a2
def RepG (us:Int->Bool)(lf rg:Int->Int):Nat->Int->Prop
 | 0,i=>us i=false
 | n+1,i=>us i=false∨(RepG us lf rg n (lf i)/\RepG us lf rg n (rg i))
theorem RepG.mono {n m:Nat}(h:n<=m):∀ {i:Int},RepG us lf rg n i->RepG us lf rg m i:=by
 induction n generalizing m with
 | zero =>
  intro i hi;cases m with
  | zero=>exact hi
  | succ m=>exact .inl hi
 | succ n ih =>
  intro i hi;cases m with
  | zero=>omega
  | succ m=>exact hi.imp id fun q=>⟨ih (by omega) q.1,ih (by omega) q.2⟩
theorem NumG.det {i:Int}{acc a b:LI}(h:NumG us lf rg i acc a)(h':NumG us lf rg i acc b):a=b:=by
 induction h generalizing b with
 | skip q =>
  cases h' with
  | skip _=>rfl
  | go u n _ _=>exact (q.elim (fun e=>by rw[e] at u;cases u) (fun e=>absurd e n))
 | go u n _ _ ih1 ih2 =>
  cases h' with
  | skip q=>exact (q.elim (fun e=>by rw[e] at u;cases u) (fun e=>absurd e n))
  | go _ _ k1 k2 =>
   obtain rfl:=ih1 k1;obtain rfl:=ih2 k2
   rfl
theorem NumsG.det {r acc a b:LI}(h:NumsG us lf rg r acc a)(h':NumsG us lf rg r acc b):a=b:=by
 induction h generalizing b with
 | nil=>cases h';rfl
 | cons h1 _ ih =>
  cases h' with
  | cons k1 k2 =>
   obtain rfl:=h1.det k1;exact ih k2
theorem NumG.ex {n:Nat}:∀ {i:Int} (acc:LI),RepG us lf rg n i->∃ a,NumG us lf rg i acc a:=by
 induction n with
 | zero=>intro i acc h;exact⟨acc,.skip (.inl h)⟩
 | succ n ih =>
  intro i acc h;rcases h with h|⟨h1,h2⟩
  .exact⟨acc,.skip (.inl h)⟩
  .cases u:us i with
   | false=>exact⟨acc,.skip (.inl u)⟩
   | true =>
    by_cases m:i∈acc
    .exact⟨acc,.skip (.inr m)⟩
    .obtain⟨a1,k1⟩:=ih acc h1;obtain⟨a2,k2⟩:=ih a1 h2;exact⟨a2++[i],.go u m k1 k2⟩
theorem NumsG.ex:∀ (r:LI) (acc:LI),(∀ i∈r,∃ n,RepG us lf rg n i)->∃ a,NumsG us lf rg r acc a
 | [],acc,_=>⟨acc,.nil⟩
 | i::r,acc,h=>by
  obtain⟨n,hn⟩:=h i (ZP ..);obtain⟨a1,h1⟩:=NumG.ex acc hn;obtain⟨a2,h2⟩:=NumsG.ex r a1 fun j hj=>h j (Zz _ hj)
  exact⟨a2,.cons h1 h2⟩
theorem NumsG.app {r s acc a b:LI}(h:NumsG us lf rg r acc a)(h':NumsG us lf rg s a b):NumsG us lf rg (r++s) acc b:=by
 induction h with
 | nil=>exact h'
 | cons h1 _ ih=>exact .cons h1 (ih h')
theorem NumsG.one {i:Int}{acc a:LI}(h:NumG us lf rg i acc a):NumsG us lf rg [i] acc a:=.cons h .nil
theorem NumG.pre {i:Int}{acc a:LI}(h:NumG us lf rg i acc a):∃ x,a=acc++x:=by
 induction h with
 | skip _=>exact⟨[],by simp⟩
 | @go i _ _ _ _ _ _ _ ih1 ih2 =>
  obtain⟨x,rfl⟩:=ih1;obtain⟨y,rfl⟩:=ih2;exact⟨x++y++[i],by simp⟩
theorem NumsG.pre {r acc a:LI}(h:NumsG us lf rg r acc a):∃ x,a=acc++x:=by
 induction h with
 | nil=>exact⟨[],by simp⟩
 | cons h1 _ ih =>
  obtain⟨x,rfl⟩:=h1.pre;obtain⟨y,rfl⟩:=ih;exact⟨x++y,by simp⟩
theorem NumG.sub {i:Int}{acc a:LI}(h:NumG us lf rg i acc a){j:Int}(hj:j∈acc):j∈a:=by
 obtain⟨x,rfl⟩:=h.pre;exact Zx.2 (.inl hj)
theorem NumsG.sub {r acc a:LI}(h:NumsG us lf rg r acc a){j:Int}(hj:j∈acc):j∈a:=by
 obtain⟨x,rfl⟩:=h.pre;exact Zx.2 (.inl hj)
theorem NumG.self {i:Int}{acc a:LI}(h:NumG us lf rg i acc a)(u:us i=true):i∈a:=by
 cases h with
 | skip q=>exact q.elim (fun e=>by rw[e] at u;cases u) id
 | go _ _ _ _=>simp
theorem NumsG.roots {r acc a:LI}(h:NumsG us lf rg r acc a):∀ i∈r,us i=true->i∈a:=by
 induction h with
 | nil=>intro i hi;cases hi
 | cons h1 h2 ih =>
  intro j hj u;rcases ZH.1 hj with rfl|hj
  .exact h2.sub (h1.self u)
  .exact ih j hj u
variable {sz:Int->Nat}
theorem NumG.small (hz:∀ i,us i=true->sz (lf i)<sz i/\sz (rg i)<sz i){i:Int}{acc a:LI}(h:NumG us lf rg i acc a):∀ j∈a,j∈acc∨(us j=true/\sz j<=sz i):=by
 induction h with
 | skip _=>exact fun j hj=>.inl hj
 | go u n _ _ ih1 ih2 =>
  have z:=hz _ u;intro j hj;rcases Zx.1 hj with hj|hj
  .rcases ih2 j hj with q|⟨q1,q2⟩
   .rcases ih1 j q with q|⟨q1,q2⟩
    .exact .inl q
    .exact .inr ⟨q1,by omega⟩
   .exact .inr ⟨q1,by omega⟩
  .rw[ZL.1 hj];exact .inr ⟨u,Zw _⟩
theorem NumG.fresh (hz:∀ i,us i=true->sz (lf i)<sz i/\sz (rg i)<sz i){i:Int}{acc a1 a2:LI}(u:us i=true)(n:i∉acc)(h1:NumG us lf rg (lf i) acc a1)(h2:NumG us lf rg (rg i) a1 a2):i∉a2:=fun hi=>by
 have z:=hz i u;rcases h2.small hz i hi with q|⟨_,q⟩
 .rcases h1.small hz i q with q|⟨_,q⟩
  .exact n q
  .omega
 .omega
theorem NumG.nodup (hz:∀ i,us i=true->sz (lf i)<sz i/\sz (rg i)<sz i){i:Int}{acc a:LI}(h:NumG us lf rg i acc a)(d:acc.Nodup):a.Nodup:=by
 induction h with
 | skip _=>exact d
 | go u n h1 h2 ih1 ih2 =>
  have f:=NumG.fresh hz u n h1 h2;refine ZaN.2 ⟨ih2 (ih1 d),by simp,fun a ha b hb e=>?_⟩;rw[ZL.1 hb] at e;exact f (e ▸ ha)
theorem NumsG.nodup (hz:∀ i,us i=true->sz (lf i)<sz i/\sz (rg i)<sz i){r acc a:LI}(h:NumsG us lf rg r acc a)(d:acc.Nodup):a.Nodup:=by
 induction h with
 | nil=>exact d
 | cons h1 _ ih=>exact ih (h1.nodup hz d)
theorem NumG.used {i:Int}{acc a:LI}(h:NumG us lf rg i acc a)(d:∀ j∈acc,us j=true):∀ j∈a,us j=true:=by
 induction h with
 | skip _=>exact d
 | go u _ _ _ ih1 ih2 =>
  intro j hj;rcases Zx.1 hj with hj|hj
  .exact ih2 (ih1 d) j hj
  .rw[ZL.1 hj];exact u
theorem NumsG.used {r acc a:LI}(h:NumsG us lf rg r acc a)(d:∀ j∈acc,us j=true):∀ j∈a,us j=true:=by
 induction h with
 | nil=>exact d
 | cons h1 _ ih=>exact ih (h1.used d)
def OrdG (us:Int->Bool)(lf rg:Int->Int)(a:LI):Prop:=∀ (k:Nat) (j:Int),a[k]?=some j->us j=true/\(us (lf j)=true->lf j∈a.take k)/\(us (rg j)=true->rg j∈a.take k)
theorem OrdG.nil:OrdG us lf rg []:=fun k j h=>by simp at h
theorem OrdG.snoc {a:LI}(h:OrdG us lf rg a){i:Int}(u:us i=true)(h1:us (lf i)=true->lf i∈a)(h2:us (rg i)=true->rg i∈a):OrdG us lf rg (a++[i]):=by
 intro k j hk;rcases Zad k a.length with q|q
 .rw[ZB q] at hk;obtain⟨e1,e2,e3⟩:=h k j hk;rw[List.take_append_of_le_length (by omega)];exact⟨e1,e2,e3⟩
 .rw[ZU q] at hk
  have hz:k-a.length=0:=by
   rcases Nat.eq_zero_or_pos (k-a.length) with z|z
   .exact z
   .rw[ZV (by simp;omega)] at hk;cases hk
  rw[hz] at hk;have:i=j:=by simpa using hk
  subst this;rw[show k=a.length by omega,ZbT rfl];exact⟨u,h1,h2⟩
theorem NumG.ord {i:Int}{acc a:LI}(h:NumG us lf rg i acc a)(d:OrdG us lf rg acc):OrdG us lf rg a:=by
 induction h with
 | skip _=>exact d
 | go u _ h1 h2 ih1 ih2=>exact (ih2 (ih1 d)).snoc u (fun e=>h2.sub (h1.self e)) fun e=>h2.self e
theorem NumsG.ord {r acc a:LI}(h:NumsG us lf rg r acc a)(d:OrdG us lf rg acc):OrdG us lf rg a:=by
 induction h with
 | nil=>exact d
 | cons h1 _ ih=>exact ih (h1.ord d)
theorem NumG.reach {P:Int->Prop}(hp:∀ i,P i->us i=true->P (lf i)/\P (rg i)){i:Int}{acc a:LI}(h:NumG us lf rg i acc a)(pi:P i)(d:∀ j∈acc,P j):∀ j∈a,P j:=by
 induction h with
 | skip _=>exact d
 | go u _ _ _ ih1 ih2 =>
  have q:=hp _ pi u;intro j hj;rcases Zx.1 hj with hj|hj
  .exact ih2 q.2 (ih1 q.1 d) j hj
  .rw[ZL.1 hj];exact pi
theorem NumsG.reach {P:Int->Prop}(hp:∀ i,P i->us i=true->P (lf i)/\P (rg i)){r acc a:LI}(h:NumsG us lf rg r acc a)(pr:∀ i∈r,P i)(d:∀ j∈acc,P j):∀ j∈a,P j:=by
 induction h with
 | nil=>exact d
 | cons h1 _ ih=>exact ih (fun i hi=>pr i (Zz _ hi)) (h1.reach hp (pr _ (ZP ..)) d)
theorem NumG.congr {us':Int->Bool}{lf' rg':Int->Int}(h1:∀ i,us' i=us i)(h2:∀ i,us i=true->lf' i=lf i)(h3:∀ i,us i=true->rg' i=rg i){i:Int}{acc a:LI}(h:NumG us lf rg i acc a):NumG us' lf' rg' i acc a:=by
 induction h with
 | skip q=>exact .skip (q.imp (fun e=>(h1 _).trans e) id)
 | go u n _ _ ih1 ih2=>exact .go ((h1 _).trans u) n (by rw[h2 _ u];exact ih1) (by rw[h3 _ u];exact ih2)
theorem NumsG.congr {us':Int->Bool}{lf' rg':Int->Int}(h1:∀ i,us' i=us i)(h2:∀ i,us i=true->lf' i=lf i)(h3:∀ i,us i=true->rg' i=rg i){r acc a:LI}(h:NumsG us lf rg r acc a):NumsG us' lf' rg' r acc a:=by
 induction h with
 | nil=>exact .nil
 | cons k _ ih=>exact .cons (k.congr h1 h2 h3) ih
end

def plcN:LI->Int->Int
 | [],_=>0
 | x::l,j=>if x=j then 1 else if plcN l j=0 then 0 else plcN l j+1
theorem YD:∀ (l:LI) (j:Int),0<=plcN l j/\plcN l j<=l.length
 | [],_=>⟨ZE _,ZE _⟩
 | x::l,j=>by
  have:=YD l j;unfold plcN;rw[ZQ];split
  .omega
  .split<;>omega
theorem Ycg:∀ {l:LI} {j:Int},0<plcN l j↔j∈l
 | [],j=>by simp[plcN]
 | x::l,j=>by
  have ih:=Ycg (l:=l) (j:=j);have r:=YD l j;unfold plcN;rw[ZH];split
  .rename_i e;exact⟨fun _=>.inl e.symm,fun _=>by decide⟩
  .rename_i e;split
   .rename_i z;constructor
    .intro h;omega
    .rintro (h|h)
     .exact absurd h.symm e
     .have:=ih.2 h;omega
   .rename_i z;exact⟨fun _=>.inr (ih.1 (by omega)),fun _=>by omega⟩
theorem YaI {l:LI}{j:Int}(h:j∉l):plcN l j=0:=by
 have a:=YD l j;have b:¬ 0<plcN l j:=fun q=>h (Ycg.1 q)
 omega
theorem Ydk:∀ (l:LI) (i j:Int),i∉l->plcN (l++[i]) j=if i=j then (l.length:Int)+1 else plcN l j
 | [],i,j,_=>by
  show (if i=j then 1 else if (0:Int)=0 then 0 else 0+1)=if i=j then 0+1 else 0
  split<;>simp
 | x::l,i,j,h=>by
  have ih:=Ydk l i j (fun q=>h (Zz _ q));have nx:x≠i:=fun e=>h (by rw[e];exact ZP ..)
  show (if x=j then 1 else if plcN (l++[i]) j=0 then 0 else plcN (l++[i]) j+1)=if i=j then ((x::l).length:Int)+1 else if x=j then 1 else if plcN l j=0 then 0 else plcN l j+1
  rw[ih]
  by_cases e:i=j
  .rw[Zj e,Zj e,Zf (fun q=>nx (q.trans e.symm)),Zf (by omega),ZQ];omega
  .rw[Zf e,Zf e]
theorem Yax:∀ {l:LI} {k:Nat} {j:Int},l.Nodup->l[k]?=some j->plcN l j=(k:Int)+1
 | [],k,j,_,h=>by simp at h
 | x::l,0,j,_,h=>by
  have:x=j:=by simpa using h
  unfold plcN;rw[Zj this];rfl
 | x::l,k+1,j,d,h=>by
  have h':l[k]?=some j:=by simpa using h
  have m:j∈l:=ZD h';obtain⟨d1,d2⟩:=List.nodup_cons.1 d;have ih:=Yax d2 h';unfold plcN;rw[Zf (fun e:x=j=>d1 (e ▸ m)),ih,Zf (by omega)];omega
theorem YgK {l:LI}{j:Int}(h:j∈l):l[(plcN l j-1).toNat]?=some j/\1<=plcN l j:=by
 induction l with
 | nil=>cases h
 | cons x l ih =>
  unfold plcN
  by_cases e:x=j
  .rw[Zj e];subst e;exact⟨rfl,ZE _⟩
  .rw[Zf e];have m:j∈l:=(ZH.1 h).resolve_left (fun q=>e q.symm);obtain⟨i1,i2⟩:=ih m;rw[Zf (by omega),show (plcN l j+1-1).toNat=(plcN l j-1).toNat+1 by omega];exact⟨by simpa using i1,by omega⟩
end
section
def lfA (S:Arn)(i:Int):Int:=(S.nd i).left
def rgA (S:Arn)(i:Int):Int:=(S.nd i).right
abbrev NumA (S:Arn):=NumG S.us (lfA S) (rgA S)
abbrev Yx (S:Arn):=NumsG S.us (lfA S) (rgA S)
variable {S:Arn} {hs:LI}
theorem YgL (h:Wf S hs):∀ i,S.us i=true->(S.nd (lfA S i)).size.toNat<(S.nd i).size.toNat/\(S.nd (rgA S i)).size.toNat<(S.nd i).size.toNat:=fun i u=>by
 have z:=h.siz i u;have a:=h.size_nonneg (S.nd i).left;have b:=h.size_nonneg (S.nd i).right;unfold lfA rgA;omega
theorem YgM (h:Wf S hs):∀ (n:Nat) (i:Int),(S.nd i).size.toNat<=n->RepG S.us (lfA S) (rgA S) n i
 | 0,i,z=>by
  cases u:S.us i with
  | false=>exact u
  | true=>have:=(h.siz i u).1;omega
 | n+1,i,z=>by
  cases u:S.us i with
  | false=>exact .inl u
  | true =>
   have k:=YgL h i u;exact .inr ⟨YgM h n _ (by omega),YgM h n _ (by omega)⟩
theorem YsE (h:Wf S hs)(i:Int)(acc:LI):∃ a,NumA S i acc a:=NumG.ex acc (YgM h _ i (Zw _))
theorem YpL (h:Wf S hs)(r:LI)(acc:LI):∃ a,Yx S r acc a:=NumsG.ex r acc fun i _=>⟨_,YgM h _ i (Zw _)⟩
def szA (S:Arn)(i:Int):Nat:=(S.nd i).size.toNat
theorem Ybc (h:Wf S hs):∀ i,S.us i=true->szA S (lfA S i)<szA S i/\szA S (rgA S i)<szA S i:=YgL h
theorem YfT {α:Type}[DecidableEq α]:∀ (a b:List α),a.Nodup->(∀ x∈a,x∈b)->a.length<=b.length
 | [],_,_,_=>ZC _
 | x::a,b,hn,hs=>by
  obtain⟨h1,h2⟩:=ZaT.1 hn;have hx:=hs x (by simp);have:=YfT a (b.erase x) h2 fun y hy=>(List.mem_erase_of_ne (Zbu (h1 y hy))).2 (hs y (by simp[hy]))
  rw[List.length_erase_of_mem hx] at this;have:0<b.length:=List.length_pos_of_mem hx;simp;omega
theorem Ych (h:Wf S hs){l:LI}(d:l.Nodup)(u:∀ j∈l,S.us j=true):l.length+1<=S.used.length:=by
 have q:=YfT l ((List.range (S.used.length-1)).map fun (n:Nat)=>(n:Int)+1) d fun x hx=>by
  have p:=h.pos (u x hx);exact ZF.2 ⟨(x-1).toNat,ZaK.2 (by omega),by omega⟩
 have:=h.n1;rw[Zu,ZaF] at q;omega
end
end Go.Proofs.YtedfbafngmicpaaGreat
namespace Go.Proofs.YtedfbafngmicpaaGreat.Sx
open Go
section
def allV (l:LI):Prop:=∀ x∈l,inU x
abbrev chX (l:LI)(pm:List (Int × Int))(rs:LI)(S:Arn):LH C0:=[.box [.slc 2,.slc 3],.box [.ptr 4 0,.slc 5,.slc 6,vU64 S.reads],.row true .u32 l,.map .u32 .u64 pm,.box [.slc 7,.slc 8,.slc 9,vU S.fresh],.row true .node S.nodes,.row true .int S.counts,.row true .bool S.used,.row true .u32 S.gen,.row true .u32 S.rel,.row false .u32 rs]
def exM (H:LH C0)(k:LI->List (Int × Int)->LI->Arn->Prop):Prop:=match H with
 | [.box [.slc 2,.slc 3],.box [.ptr 4 0,.slc 5,.slc 6,.val (.int .u64 rd)],.row true .u32 l,.map .u32 .u64 pm,.box [.slc 7,.slc 8,.slc 9,.val (.int .u32 fr)],.row true .node nd,.row true .int ct,.row true .bool us,.row true .u32 gn,.row true .u32 rl,.row false .u32 rs]=>k l pm rs ⟨us,gn,rl,fr,nd,ct,rd⟩
 | _=>False
structure ExtR (S:Arn) (l rs:LI) (S':Arn) (l':LI) (pm':List (Int × Int)):Prop where
 num:Yx S rs l l'
 map:∀ j,YS pm' j=plcN l' j
 st:S'=rdS S (l'.length-l.length)
def NmB (S:Arn)(rs:LI):Prop:=exW S/\S.reads<=3000000000000000000/\rs.length<=1000000/\allV rs
structure NmR (S:Arn) (rs:LI) (S':Arn) (l:LI):Prop where
 num:Yx S rs [] l
 st:S'=rdS S l.length
structure NumK (S:Arn) (l:LI) (pm:List (Int × Int)):Prop where
 nd:l.Nodup
 us:∀ j∈l,S.us j=true
 map:∀ j,YS pm j=plcN l j
inductive StkN (us:Int->Bool) (lf rg:Int->Int):List Tf->LI->LI->Prop where
 | nil {acc:LI}:StkN us lf rg [] acc acc
 | open {i:Int} {r:List Tf} {acc tgt:LI}:us i=true->i∉acc->StkN us lf rg r (acc++[i]) tgt->StkN us lf rg (⟨i,true⟩::r) acc tgt
 | closed {i:Int} {r:List Tf} {acc a tgt:LI}:inU i->NumG us lf rg i acc a->StkN us lf rg r a tgt->StkN us lf rg (⟨i,false⟩::r) acc tgt
def opN (w:List Tf):Nat:=w.countP fun x=>x.open_
structure XEa (P:Arn->LI->List (Int × Int)->Nat->Prop) where
 S:Arn
 l:LI
 pm:List (Int × Int)
 i:Nat
 h:P S l pm i
structure XEb (P:Arn->LI->List (Int × Int)->Nat->List Tf->Prop) where
 S:Arn
 l:LI
 pm:List (Int × Int)
 i:Nat
 w:List Tf
 h:P S l pm i w
def wtP (S:Arn)(w:List Tf):Nat:=(w.map fun x=>if x.open_ then 1 else 3*(S.nd x.index).size.toNat+1).sum
def aExt (P1:Arn->LI->List (Int × Int)->Nat->Prop)(P2:Arn->LI->List (Int × Int)->Nat->List Tf->Prop)(rs:LI):Ann C0:={ Γ:=[(86,Yc [] Yid)],trunc:=fun n=>n=34,inv:=fun n=>match n with
 | 1=>some { X:=XEa P1,sl:=[14],tf:=fun x=>[vi .i64 x.i],hf:=fun x=>chX x.l x.pm rs x.S,μ:=fun x=>rs.length-x.i,wr:=[0,1,2,3] }
 | 4=>some { X:=XEb P2,sl:=[8],tf:=fun _=>[.one (.at (.slc 11))],hf:=fun x=>chX x.l x.pm rs x.S++[.row true .pstep x.w],μ:=fun x=>wtP x.S x.w,wr:=[0,1,2,3],rel:=fun T _ x=>YaM T 14 x.i }
 | _=>none }
def tExt:Tfm C0:=fun args H K=>match args with
 | [.at (.ptr 0 0),.at (.ptr 1 0),.at (.slc 10)]=>exM H fun l pm rs S=>exW S/\S.reads<=3000000000000000000/\rs.length<=1000000/\allV rs/\NumK S l pm/\∀ S' l' pm',ExtR S l rs S' l' pm'->K (.tup []) (chX l' pm' rs S') [0,1,2,3]
 | _=>False
def aNmb:Ann C0:={ Γ:=[(94,Yc [] tExt)] }
abbrev nbM (H:LH C0)(k:Arn->LI->Prop):Prop:=arMr H fun S rest=>match rest with
 | [.row false .u32 rs]=>k S rs
 | _=>False
def tNmb:Tfm C0:=fun args H K=>match args with
 | [.at (.ptr 0 0),.at (.slc 7)]=>nbM H fun S rs=>NmB S rs/\∀ S' l pm,NmR S rs S' l->K (.one (.at (.ptr 8 0))) (chS S'++[.row false .u32 rs,.box [.slc 9,.slc 10],.row true .u32 l,.map .u32 .u64 pm]) [0]
 | _=>False
def aNds:Ann C0:={ Γ:=[(93,Yc [] tNmb)] }
def tNds:Tfm C0:=fun args H K=>match args with
 | [.at (.ptr 0 0),.at (.slc 7)]=>nbM H fun S rs=>NmB S rs/\∀ S' l,NmR S rs S' l->K (.one (.at (.slc 8))) (chS S'++[.row false .u32 rs,.row true .u32 l]) [0]
 | _=>False
theorem YeV:∀ (l:List (Int × Int)) (k v j:Int),YS (setM l k v) j=if k=j then v else YS l j
 | [],k,v,j=>rfl
 | p::r,k,v,j=>by
  have ih:=YeV r k v j;unfold setM
  by_cases c:p.1=k
  .rw[Zj c];show (if k=j then v else YS r j)=if k=j then v else (if p.1=j then p.2 else YS r j)
   by_cases d:k=j
   .rw[Zj d,Zj d]
   .rw[Zf d,Zf d,Zf (by omega)]
  .rw[Zf c];show (if p.1=j then p.2 else YS (setM r k v) j)=if k=j then v else (if p.1=j then p.2 else YS r j)
   rw[ih]
   by_cases d:p.1=j
   .rw[Zj d,Zj d,Zf (by omega)]
   .rw[Zf d,Zf d]
theorem YgN (w:List Tf)(x:Tf):opN (w++[x])=opN w+if x.open_ then 1 else 0:=by
 unfold opN;rw[List.countP_append,List.countP_singleton]
theorem YsF (w v:List Tf):opN (w++v)=opN w+opN v:=by unfold opN;rw[List.countP_append]
theorem YeW (S:Arn)(w v:List Tf):wtP S (w++v)=wtP S w+wtP S v:=by unfold wtP;simp
theorem StkN.opens {us:Int->Bool}{lf rg:Int->Int}{w:List Tf}{acc tgt:LI}(h:StkN us lf rg w acc tgt):acc.length+opN w<=tgt.length:=by
 induction h with
 | nil=>exact Zw _
 | @«open» i r acc tgt _ _ _ ih =>
  have e:opN (⟨i,true⟩::r)=opN r+1:=by unfold opN;simp
  rw[Zh,Zr] at ih;omega
 | @closed i r acc a tgt _ k _ ih =>
  have e:opN (⟨i,false⟩::r)=opN r:=by unfold opN;simp
  obtain⟨x,rfl⟩:=k.pre;rw[Zh] at ih;omega
structure InR (S0:Arn) (l0 rs:LI) (S:Arn) (l:LI) (pm:List (Int × Int)) (i:Nat) (w:List Tf):Prop where
 lt:i<rs.length
 tgt:∃ l1 t,Yx S0 (rs.take i) l0 l1/\NumA S0 (rs.getD i 0) l1 t/\StkN S0.us (lfA S0) (rgA S0) w.reverse l t
 map:∀ j,YS pm j=plcN l j
 nd:l.Nodup
 us:∀ j∈l,S0.us j=true
 m:∃ m,S=rdS S0 m/\m+l0.length=l.length+opN w/\w.length<=3*m+1
theorem YeX {α:Type}{l:List α}{i:Nat}{dft:α}(h:i<l.length):l.take (i+1)=l.take i++[l.getD i dft]:=by
 rw[ZbK,Zb,Zk h];rfl
section
variable {S0 S:Arn} {hs l0 rs l:LI} {pm:List (Int × Int)} {i:Nat} {w:List Tf}
theorem InR.bd (hw:Wf S0 hs)(hn:l0.Nodup)(hu:∀ j∈l0,S0.us j=true)(h:InR S0 l0 rs S l pm i w):l.length<=65536/\∃ m,S=rdS S0 m/\m<=65536/\w.length<=3*m+1:=by
 obtain⟨l1,t,n1,n2,st⟩:=h.tgt;obtain⟨m,m1,m2,m3⟩:=h.m;have q:=Ych hw (n2.nodup (Ybc hw) (n1.nodup (Ybc hw) hn)) (n2.used (n1.used hu));have o:=st.opens;rw[show opN w.reverse=opN w by unfold opN;rw[List.countP_reverse]] at o;have u2:=hw.n2;exact⟨by omega,m,m1,by omega,m3⟩
theorem ExtR.more (hw:Wf S0 hs)(hi:i<rs.length)(hv:allV rs)(hn:l0.Nodup)(hu:∀ j∈l0,S0.us j=true)(h:ExtR S0 l0 (rs.take i) S l pm):InR S0 l0 rs S l pm i [⟨rs.getD i 0,false⟩]:=by
 obtain⟨t,ht⟩:=YsE hw (rs.getD i 0) l;have hm:rs.getD i 0∈rs:=by rw[Zb,Zk hi];exact Zaa hi
 obtain⟨y,hy⟩:=h.num.pre;exact⟨hi,⟨l,t,h.num,ht,.closed (hv _ hm) ht .nil⟩,h.map,h.num.nodup (Ybc hw) hn,h.num.used hu,_,h.st,by rw[hy,Zh];show _=_+0;omega,by simp⟩
theorem InR.done (h:InR S0 l0 rs S l pm i []):ExtR S0 l0 (rs.take (i+1)) S l pm:=by
 obtain⟨l1,t,n1,n2,st⟩:=h.tgt;obtain⟨m,m1,m2,m3⟩:=h.m;cases st
 refine⟨?_,h.map,?_⟩
 .rw[YeX (dft:=(0:Int)) h.lt];exact n1.app (NumsG.one n2)
 .rw[m1];have:opN []=0:=rfl
  congr 1;omega
theorem InR.pop {j v:Int}(h:InR S0 l0 rs S l pm i (w++[⟨j,true⟩]))(hv:v=(l.length:Int)+1):InR S0 l0 rs S (l++[j]) (setM pm j v) i w:=by
 obtain⟨l1,t,n1,n2,st⟩:=h.tgt;obtain⟨m,m1,m2,m3⟩:=h.m;rw[Zbq] at st;have st:StkN S0.us (lfA S0) (rgA S0) (⟨j,true⟩::w.reverse) l t:=st;cases st with
 | «open» u n st =>
  refine⟨h.lt,⟨l1,t,n1,n2,st⟩,fun k=>?_,?_,?_,m,m1,?_,?_⟩
  .rw[YeV,Ydk _ _ _ n,h.map,hv]
  .refine ZaN.2 ⟨h.nd,by simp,fun a ha b hb e=>?_⟩;rw[ZL.1 hb] at e;exact n (e ▸ ha)
  .intro k hk;rcases Zx.1 hk with hk|hk
   .exact h.us k hk
   .rw[ZL.1 hk];exact u
  .rw[YgN,Zj rfl] at m2;rw[Zh,Zr];omega
  .rw[Zh,Zr] at m3;omega
theorem InR.inu {j:Int}(h:InR S0 l0 rs S l pm i (w++[⟨j,false⟩])):inU j:=by
 obtain⟨l1,t,n1,n2,st⟩:=h.tgt;rw[Zbq] at st;have st:StkN S0.us (lfA S0) (rgA S0) (⟨j,false⟩::w.reverse) l t:=st;cases st with
 | closed u _ _=>exact u
theorem InR.skip {j:Int}(h:InR S0 l0 rs S l pm i (w++[⟨j,false⟩]))(hj:S0.us j=false∨j∈l):InR S0 l0 rs S l pm i w:=by
 obtain⟨l1,t,n1,n2,st⟩:=h.tgt;obtain⟨m,m1,m2,m3⟩:=h.m;rw[Zbq] at st;have st:StkN S0.us (lfA S0) (rgA S0) (⟨j,false⟩::w.reverse) l t:=st;cases st with
 | closed _ n st =>
  have e:=n.det (.skip hj);rw[e] at st;refine⟨h.lt,⟨l1,t,n1,n2,st⟩,h.map,h.nd,h.us,m,m1,?_,?_⟩
  .rw[YgN] at m2
   simpa using m2
  .rw[Zh,Zr] at m3;omega
theorem InR.push {j:Int}(hw:Wf S0 hs)(h:InR S0 l0 rs S l pm i (w++[⟨j,false⟩]))(u:S0.us j=true)(hj:j∉l):InR S0 l0 rs (rdS S 1) l pm i (w++[⟨j,true⟩,⟨(S0.nd j).right,false⟩,⟨(S0.nd j).left,false⟩]):=by
 obtain⟨l1,t,n1,n2,st⟩:=h.tgt;obtain⟨m,m1,m2,m3⟩:=h.m;rw[Zbq] at st;have st:StkN S0.us (lfA S0) (rgA S0) (⟨j,false⟩::w.reverse) l t:=st;cases st with
 | closed _ n st =>
  cases n with
  | skip q=>exact absurd q (by rw[u];simp[hj])
  | go _ _ k1 k2 =>
   have kd:=hw.kid j u;refine⟨h.lt,⟨l1,t,n1,n2,?_⟩,h.map,h.nd,h.us,m+1,?_,?_,?_⟩
   .rw[Zbq];exact .closed (YW hw kd.1) k1 (.closed (YW hw kd.2) k2 (.open u (NumG.fresh (Ybc hw) u hj k1 k2) st))
   .rw[m1,YR]
   .rw[YgN] at m2;rw[YsF,show opN [⟨j,true⟩,⟨(S0.nd j).right,false⟩,⟨(S0.nd j).left,false⟩]=1 from rfl];have:(if (⟨j,false⟩:Tf).open_=true then 1 else 0)=0:=rfl;omega
   .rw[Zh] at m3 ⊢;simp at m3 ⊢;omega
end
def PX1 (S0:Arn)(l0 rs:LI):Arn->LI->List (Int × Int)->Nat->Prop:=fun S l pm i=>i<=rs.length/\ExtR S0 l0 (rs.take i) S l pm
abbrev O45 {P1:Arn → LI → List (Int × Int) → Nat → Prop}(P2:Arn → LI → List (Int × Int) → Nat → List Tf → Prop)(rs:LI)(x:XEa P1)(x1:XEb P2):Prop:=(x1.l.length+[(x1.w.getD (Za.wrap ((x1.w.length:Int)-1)).toNat { index:=0,open_:=false:Tf }).index].length)*Yd C0 EC.u32<=140737488355328/\∃ w0_:XEb P2,((x.i:Int))=((w0_.i:Int))/\((True/\True/\True/\True/\VI (rs.length:Int)=VI (rs.length:Int)/\VI (x.i:Int)=VI (x.i:Int)/\True)/\(True/\True/\True)/\(True/\True/\True/\VW (x1.S.reads)=VW (w0_.S.reads)/\True)/\(x1.l++[(x1.w.getD (Za.wrap ((x1.w.length:Int)-1)).toNat { index:=0,open_:=false:Tf }).index])=w0_.l/\(setM x1.pm (x1.w.getD (Za.wrap ((x1.w.length:Int)-1)).toNat { index:=0,open_:=false:Tf }).index (Zd.wrap (↑(x1.l++[(x1.w.getD (Za.wrap ((x1.w.length:Int)-1)).toNat { index:=0,open_:=false:Tf }).index]).length:Int)))=w0_.pm/\(True/\True/\True/\VU (x1.S.fresh)=VU (w0_.S.fresh)/\True)/\x1.S.nodes=w0_.S.nodes/\x1.S.counts=w0_.S.counts/\x1.S.used=w0_.S.used/\x1.S.gen=w0_.S.gen/\x1.S.rel=w0_.S.rel/\rs=rs/\(Zn (Za.wrap ((x1.w.length:Int)-1)).toNat x1.w)=w0_.w/\True)/\wtP w0_.S w0_.w<wtP x1.S x1.w
abbrev O46 {P1:Arn → LI → List (Int × Int) → Nat → Prop}(rs:LI)(x:XEa P1)(Z_:Prop):Prop:=(True/\True/\True/\True/\VI (rs.length:Int)=VI (rs.length:Int)/\VI (x.i:Int)=VI (x.i:Int)/\True)/\(True/\True/\True)/\Z_
abbrev O47 {P2:Arn → LI → List (Int × Int) → Nat → List Tf → Prop}(x1:XEb P2)(S':Arn)(x':XEb P2)(Z_:Prop):Prop:=(True/\True/\True/\VW (S'.reads)=VW (x'.S.reads)/\True)/\x1.l=x'.l/\x1.pm=x'.pm/\(True/\True/\True/\VU (S'.fresh)=VU (x'.S.fresh)/\True)/\S'.nodes=x'.S.nodes/\S'.counts=x'.S.counts/\S'.used=x'.S.used/\S'.gen=x'.S.gen/\S'.rel=x'.S.rel/\Z_
theorem Yvi (l:LI)(pm:List (Int × Int))(rs:LI)(S:Arn)(K:KT)(hx:exW S)(hr:S.reads<=3000000000000000000)(h1:rs.length<=1000000)(hv:allV rs)(hk:NumK S l pm)(h:∀ S' l' pm',ExtR S l rs S' l' pm'->K (.tup []) (chX l' pm' rs S') [0,1,2,3]) :
  vc C0 (aExt (PX1 S l rs) (InR S l rs) rs) Tryz.f94 [.at (.ptr 0 0),.at (.ptr 1 0),.at (.slc 10)] (chX l pm rs S) (Yh 11 (YG [0,1,2,3] K)):=by
 generalize hP1:PX1 S l rs=P1;generalize hP2:InR S l rs=P2
 refine Eq.mp (show ((∃ x:XEa P1,True/\(True/\True/\True/\VI (rs.length:Int)=VI (rs.length:Int)/\VI 0=(VI (x.i:Int))/\True)/\(True/\True/\True)/\(True/\True/\True/\VW (S.reads)=VW (x.S.reads)/\True)/\l=x.l/\pm=x.pm/\(True/\True/\True/\VU (S.fresh)=VU (x.S.fresh)/\True)/\S.nodes=x.S.nodes/\S.counts=x.S.counts/\S.used=x.S.used/\S.gen=x.S.gen/\S.rel=x.S.rel/\rs=rs/\True)/\∀ x:XEa P1,True->brS (decide ((x.i:Int)<(rs.length:Int))) (0<=(x.i:Int)/\(x.i:Int)<(rs.length:Int)/\(∃ x1:XEb P2,((x.i:Int))=((x1.i:Int))/\O46 rs x ((True/\True/\True/\VW (x.S.reads)=VW (x1.S.reads)/\True)/\x.l=x1.l/\x.pm=x1.pm/\(True/\True/\True/\VU (x.S.fresh)=VU (x1.S.fresh)/\True)/\x.S.nodes=x1.S.nodes/\x.S.counts=x1.S.counts/\x.S.used=x1.S.used/\x.S.gen=x1.S.gen/\x.S.rel=x1.S.rel/\rs=rs/\[({ index:=rs.getD (x.i:Int).toNat 0,open_:=false:Tf })]=x1.w/\True))/\∀ x1:XEb P2,((x.i:Int))=((x1.i:Int))->brS (decide ((x1.w.length:Int)>0)) (0<=Za.wrap ((x1.w.length:Int)-1)/\Za.wrap ((x1.w.length:Int)-1)<(x1.w.length:Int)/\0<=Za.wrap ((x1.w.length:Int)-1)/\Za.wrap ((x1.w.length:Int)-1)<=(x1.w.length:Int)/\brS ((x1.w.getD (Za.wrap ((x1.w.length:Int)-1)).toNat { index:=0,open_:=false:Tf }).open_) (O45 P2 rs x x1/\O45 P2 rs x x1) (brS (decide (YS x1.pm (x1.w.getD (Za.wrap ((x1.w.length:Int)-1)).toNat { index:=0,open_:=false:Tf }).index>0)) (∃ x':XEb P2,((x.i:Int))=((x'.i:Int))/\O46 rs x ((True/\True/\True/\VW (x1.S.reads)=VW (x'.S.reads)/\True)/\x1.l=x'.l/\x1.pm=x'.pm/\(True/\
  True/\True/\VU (x1.S.fresh)=VU (x'.S.fresh)/\True)/\x1.S.nodes=x'.S.nodes/\x1.S.counts=x'.S.counts/\x1.S.used=x'.S.used/\x1.S.gen=x'.S.gen/\x1.S.rel=x'.S.rel/\rs=rs/\(Zn (Za.wrap ((x1.w.length:Int)-1)).toNat x1.w)=x'.w/\True)/\wtP x'.S x'.w<wtP x1.S x1.w) (inU (x1.w.getD (Za.wrap ((x1.w.length:Int)-1)).toNat { index:=0,open_:=false:Tf }).index/\exW x1.S/\x1.S.reads<4000000000000000000/\∀ S':Arn,S'=(rdS x1.S (x1.S.us (x1.w.getD (Za.wrap ((x1.w.length:Int)-1)).toNat { index:=0,open_:=false:Tf }).index).toNat)->brS (x1.S.us (x1.w.getD (Za.wrap ((x1.w.length:Int)-1)).toNat { index:=0,open_:=false:Tf }).index) (((Zn (Za.wrap ((x1.w.length:Int)-1)).toNat x1.w).length+[{ index:=(x1.w.getD (Za.wrap ((x1.w.length:Int)-1)).toNat { index:=0,open_:=false:Tf }).index,open_:=true:Tf },{ index:=(x1.S.nd (x1.w.getD (Za.wrap ((x1.w.length:Int)-1)).toNat { index:=0,open_:=false:Tf }).index).right,open_:=false:Tf },{ index:=(x1.S.nd (x1.w.getD (Za.wrap ((x1.w.length:Int)-1)).toNat { index:=0,open_:=false:Tf }).index).left,open_:=false:Tf }].length)*Yd C0 EC.pstep<=140737488355328/\∃ x':XEb P2,((x.i:Int))=((x'.i:Int))/\O46 rs x (O47 x1 S' x' (rs=rs/\(Zn (Za.wrap ((x1.w.length:Int)-1)).toNat x1.w++[{ index:=(x1.w.getD (Za.wrap ((x1.w.length:Int)-1)).toNat { index:=0,open_:=false:Tf }).index,open_:=true:Tf },{ index:=(x1.S.nd (x1.w.getD (Za.wrap ((x1.w.length:Int)-1)).toNat { index:=0,open_:=false:Tf }).index).right,open_:=false:Tf },{ index:=(x1.S.nd (x1.w.getD (Za.wrap ((x1.w.length:Int)-1)).toNat { index:=0,open_:=false:Tf }).index).left,open_:=false:Tf }])=x'.w/\
  True))/\wtP x'.S x'.w<wtP x1.S x1.w) (∃ x':XEb P2,((x.i:Int))=((x'.i:Int))/\O46 rs x (O47 x1 S' x' (rs=rs/\(Zn (Za.wrap ((x1.w.length:Int)-1)).toNat x1.w)=x'.w/\True))/\wtP x'.S x'.w<wtP x1.S x1.w)))) (∃ x':XEa P1,True/\((True/\True/\True/\VI (rs.length:Int)=VI (rs.length:Int)/\(VI (Za.wrap ((x.i:Int)+1)))=(VI (x'.i:Int))/\True)/\(True/\True/\True)/\(True/\True/\True/\VW (x1.S.reads)=VW (x'.S.reads)/\True)/\x1.l=x'.l/\x1.pm=x'.pm/\(True/\True/\True/\VU (x1.S.fresh)=VU (x'.S.fresh)/\True)/\x1.S.nodes=x'.S.nodes/\x1.S.counts=x'.S.counts/\x1.S.used=x'.S.used/\x1.S.gen=x'.S.gen/\x1.S.rel=x'.S.rel/\rs=rs/\True)/\rs.length-x'.i<rs.length-x.i)) (K (.tup []) [(.box [(.slc 2),(.slc 3)]),(.box [(.ptr 4 0),(.slc 5),(.slc 6),(.val (VW (x.S.reads)))]),(.row true .u32 (x.l)),(Ta.map Ze Zd (x.pm)),(.box [(.slc 7),(.slc 8),(.slc 9),(.val (VU (x.S.fresh)))]),(.row true .node (x.S.nodes)),(.row true .int (x.S.counts)),(.row true .bool (x.S.used)),(.row true .u32 (x.S.gen)),(.row true .u32 (x.S.rel)),(.row false .u32 (rs))] [0,1,2,3]))=_ by kernel_rfl) ?_
 delta O45 O46 O47;subst hP1 hP2;obtain⟨hs,hw⟩:=hx;obtain⟨hn,hu,hm⟩:=hk;refine⟨⟨⟨S,l,pm,0,ZC _,.nil,hm,?_⟩,?_⟩,fun x _=>Ya (fun c=>?_) fun c=>?_⟩
 .rw[Nat.sub_self,Ybb]
 ·repeat' constructor
 .obtain⟨Sa,la,pa,i,hi,ha⟩:=x;dsimp only at c ⊢;have c:i<rs.length:=by have:=Zc c;omega
  refine⟨by omega,by omega,⟨⟨Sa,la,pa,i,_,ha.more hw c hv hn hu⟩,rfl,?_⟩,fun x ex=>Ya (fun d=>?_) fun d=>?_⟩
  ·repeat' constructor
  .skip
   obtain⟨Sb,lb,pb,i',w,hb⟩:=x;dsimp only at d ex ⊢;obtain rfl:i=i':=by omega
   have d:0<w.length:=by have:=Zc d;omega
   obtain⟨w',x,rfl⟩:∃ w' x,w=w'++[x]:=by
    rcases List.eq_nil_or_concat w with e|⟨w',x,e⟩
    .rw[e] at d;exact absurd d (by decide)
    .exact⟨w',x,by rw[e,List.concat_eq_append]⟩
   obtain⟨b1,m,b2,b3,b4⟩:=hb.bd hw hn hu
   have e1:Za.wrap (((w'++[x]).length:Int)-1)=(w'.length:Int):=by
    rw[Yb (by omega) (by omega),Zh,Zr];omega
   rw[e1]
   have e2:(w'++[x]).getD ((w'.length:Int)).toNat { index:=0,open_:=false:Tf }=x:=by
    show (w'++[x]).getD w'.length _=x;simp[Zb]
   have e3:Zn ((w'.length:Int)).toNat (w'++[x])=w':=by
    show Zn w'.length (w'++[x])=w';simp
   rw[e2,e3];have e4:(w'++[x]).length=w'.length+1:=by simp
   obtain⟨j,o⟩:=x;dsimp only;refine⟨by omega,by omega,by omega,by omega,Ya (fun z=>?_) fun z=>Ya (fun y=>?_) fun y=>⟨?_,⟨hs,?_⟩,?_,fun S' es=>Ya (fun v=>?_) fun v=>?_⟩⟩
   .subst z;have hp:=hb.pop (v:=Zd.wrap ((lb++[j]).length:Int)) (by rw[Yf (by omega) (by rw[Zh,Zr];omega),Zh,Zr];omega);have hz:(lb.length+[j].length)*Yd C0 EC.u32<=140737488355328:=by rw[Ys,Zr];omega
    have hμ:wtP Sb w'<wtP Sb (w'++[⟨j,true⟩]):=by rw[YeW];show _<_+1;omega
    refine⟨⟨hz,⟨⟨Sb,lb++[j],_,i,w',hp⟩,rfl,?_,hμ⟩⟩,hz,⟨⟨Sb,lb++[j],_,i,w',hp⟩,rfl,?_,hμ⟩⟩
    ·repeat' constructor
    ·repeat' constructor
   .subst z;have y:j∈lb:=Ycg.1 (by rw[<-hb.map];exact Zc y);refine⟨⟨Sb,lb,pb,i,w',hb.skip (.inr y)⟩,rfl,?_,?_⟩
    ·repeat' constructor
    .rw[YeW];show wtP Sb w'<_+(3*_+1+0);omega
   .subst z;exact hb.inu
   .rw[b2];exact hw.rd (by omega)
   .rw[b2];show S.reads+(m:Int)<_;omega
   .subst z
    have y:j∉lb:=fun q=>by
     have q:=Ycg.2 q;rw[<-hb.map] at q;exact Zg y q
    rw[b2] at v;have v:S.us j=true:=v;have hp:=hb.push hw v y;have es:S'=rdS Sb 1:=by rw[es,b2];show rdS _ (S.us j).toNat=_;rw[v];rfl
    subst es;have en:∀ k,Sb.nd k=S.nd k:=fun k=>by rw[b2];rfl
    refine⟨by rw[Yjo];simp;omega,⟨⟨rdS Sb 1,lb,pb,i,_,hp⟩,rfl,?_,?_⟩⟩
    .rw[en]
     repeat' constructor
    .rw[YeW,YeW];have k:=YgL hw j v;unfold lfA rgA at k;show _+(1+(3*((rdS Sb 1).nd (S.nd j).right).size.toNat+1+(3*((rdS Sb 1).nd (S.nd j).left).size.toNat+1+0)))<_+(3*(Sb.nd j).size.toNat+1+0);have f1:wtP (rdS Sb 1) w'=wtP Sb w':=rfl;have f2:∀ k,(rdS Sb 1).nd k=S.nd k:=fun k=>en k
     rw[f1,f2,f2,en];have s0:=hw.siz j v;have s1:=hw.size_nonneg (S.nd j).left;have s2:=hw.size_nonneg (S.nd j).right;omega
   .subst z;rw[b2] at v;have v:S.us j=false:=v;have es:S'=Sb:=by rw[es,b2];show rdS _ (S.us j).toNat=_;rw[v];exact Ybb _
    subst es;refine⟨⟨S',lb,pb,i,w',hb.skip (.inl v)⟩,rfl,?_,?_⟩
    ·repeat' constructor
    .rw[YeW];show wtP S' w'<_+(3*_+1+0);omega
  .obtain⟨Sb,lb,pb,i',w,hb⟩:=x;dsimp only at d ex ⊢;obtain rfl:i=i':=by omega
   have d:w=[]:=ZM (by have:=Zg d;omega);subst d;rw[Yb (by omega) (by omega)];refine⟨⟨Sb,lb,pb,i+1,c,hb.done⟩,trivial,?_,ZI c (ZO i)⟩
   repeat' constructor
 .obtain⟨Sa,la,pa,i,hi,ha⟩:=x;dsimp only at c;have c:i=rs.length:=by have:=Zg c;omega
  rw[c,ZJ] at ha;exact h _ _ _ ha
theorem YsG:Tb C0 94 tExt:=by
 refine .ofW [0,1,2,3] Tryz.func94 (by decide) rfl fun args H K h hB=>?_
 unfold tExt at h;split at h<;>try exact h.elim
 unfold exM at h;split at h<;>try exact h.elim
 rename_i _ rd l pm fr nd ct us gn rl rs;refine⟨_,?_,Yvi l pm rs ⟨us,gn,rl,fr,nd,ct,rd⟩ K h.1 h.2.1 h.2.2.1 h.2.2.2.1 h.2.2.2.2.1 h.2.2.2.2.2⟩;exact⟨Ye C0.ok YfM _,trivial⟩
theorem NmR.of {S S':Arn}{rs l:LI}{pm:List (Int × Int)}(h:ExtR S [] rs S' l pm):NmR S rs S' l:=⟨h.num,by rw[h.st];rfl⟩
theorem Yvj (S:Arn)(rs:LI)(K:KT)(hb:NmB S rs)(h:∀ S' l pm,NmR S rs S' l->K (.one (.at (.ptr 8 0))) (chS S'++[.row false .u32 rs,.box [.slc 9,.slc 10],.row true .u32 l,.map .u32 .u64 pm]) [0]) :
  vc C0 aNmb Tryz.f93 [.at (.ptr 0 0),.at (.slc 7)] (chS S++[.row false .u32 rs]) (Yh 8 (YG [0] K)):=by
 refine Eq.mp (show (exW S/\S.reads<=3000000000000000000/\rs.length<=1000000/\allV rs/\NumK S [] []/\∀ S':Arn,∀ l':LI,∀ pm':List (Int × Int),ExtR S [] rs S' l' pm'->K (.one (.at (.ptr 8 0))) [(.box [(.ptr 1 0),(.slc 2),(.slc 3),(.val (VW (S'.reads)))]),(.box [(.slc 4),(.slc 5),(.slc 6),(.val (VU (S'.fresh)))]),(.row true .node (S'.nodes)),(.row true .int (S'.counts)),(.row true .bool (S'.used)),(.row true .u32 (S'.gen)),(.row true .u32 (S'.rel)),(.row false .u32 (rs)),(.box [(.slc 9),(.slc 10)]),(.row true .u32 (l')),(Ta.map Ze Zd (pm'))] [0])=_ by kernel_rfl) ?_;obtain⟨h1,h2,h3,h4⟩:=hb;exact⟨h1,h2,h3,h4,⟨ZaX,by simp,fun _=>rfl⟩,fun S' l pm e=>h S' l pm (.of e)⟩
theorem YxX:Tb C0 93 tNmb:=by
 refine .ofW [0] Tryz.func93 (by decide) rfl fun args H K h hB=>?_
 unfold tNmb at h;split at h<;>try exact h.elim
 unfold nbM arMr at h;iterate 2 (split at h<;>try exact h.elim)
 rename_i _ rd fr nd ct us gn rl _ rs;refine⟨_,?_,Yvj ⟨us,gn,rl,fr,nd,ct,rd⟩ rs K h.1 h.2⟩;exact⟨Ye C0.ok YsG _,trivial⟩
theorem Yvk (S:Arn)(rs:LI)(K:KT)(hb:NmB S rs)(h:∀ S' l,NmR S rs S' l->K (.one (.at (.slc 8))) (chS S'++[.row false .u32 rs,.row true .u32 l]) [0]) :
  vc C0 aNds Tryz.f84 [.at (.ptr 0 0),.at (.slc 7)] (chS S++[.row false .u32 rs]) (Yh 8 (YG [0] K)):=by
 refine Eq.mp (show (NmB S rs/\∀ S':Arn,∀ l:LI,∀ pm:List (Int × Int),NmR S rs S' l->K (.one (.at (.slc 8))) [(.box [(.ptr 1 0),(.slc 2),(.slc 3),(.val (VW (S'.reads)))]),(.box [(.slc 4),(.slc 5),(.slc 6),(.val (VU (S'.fresh)))]),(.row true .node (S'.nodes)),(.row true .int (S'.counts)),(.row true .bool (S'.used)),(.row true .u32 (S'.gen)),(.row true .u32 (S'.rel)),(.row false .u32 (rs)),(.row true .u32 (l))] [0])=_ by kernel_rfl) ?_;exact⟨hb,fun S' l pm e=>h S' l e⟩
theorem Yvl:Tb C0 84 tNds:=by
 refine .ofW [0] Tryz.func84 (by decide) rfl fun args H K h hB=>?_
 unfold tNds at h;split at h<;>try exact h.elim
 unfold nbM arMr at h;iterate 2 (split at h<;>try exact h.elim)
 rename_i _ rd fr nd ct us gn rl _ rs;refine⟨_,?_,Yvk ⟨us,gn,rl,fr,nd,ct,rd⟩ rs K h.1 h.2⟩;exact⟨Ye C0.ok YxX _,trivial⟩
end
def rngI (x:Int):Prop:=-9223372036854775808<=x/\x<=9223372036854775807
def InA (S:Arn)(l:LI):Prop:=∀ i∈l,rngI (S.nd i).key/\rngI (S.nd i).value
def KyN (S:Arn)(rs:LI):Prop:=∀ l,Yx S rs [] l->InA S l
def magB:LI:=[86,77,80,49]
def encN (x:PNT):LI:=vsE (kB x.key) [zz x.value,x.left,x.right]
def hdE (k m r D:Int):LI:=vsE [] [k,m,r]++wB 4 D
def pkE (k D:Int)(nodes:LP)(rts:LI):LI:=rcE (nodes.foldl (fun o x=>rcE o (encN x)) (rcE magB (hdE k nodes.length rts.length D))) (vsE [] rts)
def nodP (S:Arn)(la:LI)(i:Int):PNT:=⟨(S.nd i).key,(S.nd i).value,plcN la (lfA S i),plcN la (rgA S i)⟩
def pkS (S:Arn)(lk la rs:LI)(D:Int):LI:=pkE lk.length D ((la.drop lk.length).map (nodP S la)) (rs.map (plcN la))
def DgR (S:Arn)(rs:LI)(D:Int):Prop:=(rs=[]/\D=0)∨(rs≠[]/\∃ l,Yx S rs [] l/\D=crc (pkS S [] l rs 0))
structure WrR (S:Arn) (rs ks:LI) (n:Nat) (S':Arn) (o:LI):Prop where
 ex:∃ lk la D,Yx S ks [] lk/\Yx S rs lk la/\DgR S ks D/\o=pkS S lk la rs D
 st:∃ m,S'=rdS S m/\m<=n
 ab:allB o/\o.length<=8000000
structure NmK (S:Arn) (rs:LI) (S':Arn) (l:LI) (pm:List (Int × Int)):Prop where
 num:Yx S rs [] l
 st:S'=rdS S l.length
 map:∀ j,YS pm j=plcN l j
def tNmk:Tfm C0:=fun args H K=>match args with
 | [.at (.ptr 0 0),.at (.slc 7)]=>nbM H fun S rs=>NmB S rs/\∀ S' l pm,NmK S rs S' l pm->K (.one (.at (.ptr 8 0))) (chS S'++[.row false .u32 rs,.box [.slc 9,.slc 10],.row true .u32 l,.map .u32 .u64 pm]) [0]
 | _=>False
def tDgq (Q:Arn->LI->Prop)(R:Arn->LI->Arn->Int->Prop):Tfm C0:=fun args H K=>match args with
 | [.at (.ptr 0 0),.at (.slc 7)]=>nbM H fun S rs=>Q S rs/\∀ S' D,R S rs S' D->K (.one (.at (vU D))) (chS S'++[.row false .u32 rs]) [0]
 | _=>False
structure XWa (P:Arn->LI->List (Int × Int)->LI->Nat->Prop) where
 S:Arn
 l:LI
 pm:List (Int × Int)
 o:LI
 k:Nat
 h:P S l pm o k
structure XWb (P:Arn->LI->List (Int × Int)->LI->Nat->Nat->Prop) where
 S:Arn
 l:LI
 pm:List (Int × Int)
 o:LI
 k:Nat
 i:Nat
 h:P S l pm o k i
structure XWc (P:Arn->LI->List (Int × Int)->LI->LI->Nat->Prop) where
 S:Arn
 l:LI
 pm:List (Int × Int)
 o:LI
 z:LI
 i:Nat
 h:P S l pm o z i
abbrev hfW (rs ks:LI)(S:Arn)(l:LI)(own:Bool)(pm:List (Int × Int)):LH C0:=chS S++[.row false .u32 rs,.row false .u32 ks,.box [.slc 10,.slc 11],.row own .u32 l,.map .u32 .u64 pm]
def aWr (Q:Arn->LI->Prop)(R:Arn->LI->Arn->Int->Prop)(P0 P3:Arn->LI->List (Int × Int)->LI->Nat->Prop)(P1:Arn->LI->List (Int × Int)->LI->Nat->Nat->Prop)(P2:Arn->LI->List (Int × Int)->LI->LI->Nat->Prop)(rs ks:LI):Ann C0:={ quiet:=[9999999,98],Γ:=[(93,Yc [] tNmk),(94,Yc [] tExt),(95,Yc [true] tVs),(82,Yc [] (tDgq Q R)),(96,Yc [true] tRc),(86,Yc [] Yid),(97,Yc [] tKe),(98,Yc [] tZz)],inv:=fun n=>match n with
 | 1007=>some { X:=XWa P0,sl:=[7,8,11],tf:=fun x=>[.one (.at (.ptr 9 0)),vi .i64 x.k,.one (.at (.slc 12))],hf:=fun x=>hfW rs ks x.S x.l true x.pm++[.row true .u8 x.o],wr:=[0] }
 | 8=>some { X:=XWb P1,sl:=[7,11,72,73,74],tf:=fun x=>[.one (.at (.ptr 9 0)),.one (.at (.slc 12)),.one (.at (.slc 13)),vi .i64 ((x.l.drop x.k).length:Int),vi .i64 x.i],hf:=fun x=>hfW rs ks x.S x.l false x.pm++[.row true .u8 x.o,.row false .u32 (x.l.drop x.k)],μ:=fun x=>(x.l.drop x.k).length-x.i,wr:=[0] }
 | 1014=>some { X:=XWa P3,sl:=[7,11],tf:=fun _=>[.one (.at (.ptr 9 0)),.one (.at (.slc 12))],hf:=fun x=>hfW rs ks x.S x.l false x.pm++[.row true .u8 x.o],wr:=[0] }
 | 16=>some { X:=XWc P2,sl:=[7,11,17,112],tf:=fun x=>[.one (.at (.ptr 9 0)),.one (.at (.slc 12)),.one (.at (.slc 13)),vi .i64 x.i],hf:=fun x=>hfW rs ks x.S x.l false x.pm++[.row true .u8 x.o,.row true .u8 x.z],μ:=fun x=>rs.length-x.i,wr:=[0] }
 | _=>none }
abbrev wrM (H:LH C0)(k:Arn->LI->LI->Prop):Prop:=arMr H fun S rest=>match rest with
 | [.row false .u32 rs,.row false .u32 ks]=>k S rs ks
 | _=>False
def WrB (S:Arn)(rs ks:LI):Prop:=exW S/\S.reads<=2000000000000000000/\rs.length<=90000/\ks.length<=90000/\allV rs/\allV ks/\KyN S (ks++rs)
theorem Yvm (S:Arn)(rs:LI)(K:KT)(hb:NmB S rs)(h:∀ S' l pm,NmK S rs S' l pm->K (.one (.at (.ptr 8 0))) (chS S'++[.row false .u32 rs,.box [.slc 9,.slc 10],.row true .u32 l,.map .u32 .u64 pm]) [0]) :
  vc C0 aNmb Tryz.f93 [.at (.ptr 0 0),.at (.slc 7)] (chS S++[.row false .u32 rs]) (Yh 8 (YG [0] K)):=by
 refine Eq.mp (show (exW S/\S.reads<=3000000000000000000/\rs.length<=1000000/\allV rs/\NumK S [] []/\∀ S':Arn,∀ l':LI,∀ pm':List (Int × Int),ExtR S [] rs S' l' pm'->K (.one (.at (.ptr 8 0))) [(.box [(.ptr 1 0),(.slc 2),(.slc 3),(.val (VW (S'.reads)))]),(.box [(.slc 4),(.slc 5),(.slc 6),(.val (VU (S'.fresh)))]),(.row true .node (S'.nodes)),(.row true .int (S'.counts)),(.row true .bool (S'.used)),(.row true .u32 (S'.gen)),(.row true .u32 (S'.rel)),(.row false .u32 (rs)),(.box [(.slc 9),(.slc 10)]),(.row true .u32 (l')),(Ta.map Ze Zd (pm'))] [0])=_ by kernel_rfl) ?_;obtain⟨h1,h2,h3,h4⟩:=hb;exact⟨h1,h2,h3,h4,⟨ZaX,by simp,fun _=>rfl⟩,fun S' l pm e=>h S' l pm ⟨e.num,by rw[e.st];rfl,e.map⟩⟩
theorem YxY:Tb C0 93 tNmk:=by
 refine .ofW [0] Tryz.func93 (by decide) rfl fun args H K h hB=>?_
 unfold tNmk at h;split at h<;>try exact h.elim
 unfold nbM arMr at h;iterate 2 (split at h<;>try exact h.elim)
 rename_i _ rd fr nd ct us gn rl _ rs;refine⟨_,?_,Yvm ⟨us,gn,rl,fr,nd,ct,rd⟩ rs K h.1 h.2⟩;exact⟨Ye C0.ok YsG _,trivial⟩
theorem Ydl (x:PNT):(encN x).length<=41:=by
 have:=YcK [zz x.value,x.left,x.right];unfold encN vsE kB;rw[Zh,Yay];simp only[ZQ,ZbE] at this;omega
theorem YgO (o p:LI):(rcE o p).length<=o.length+p.length+15:=by
 have:=YbV p;unfold rcE;rw[Zh];omega
theorem YeY:∀ (xs:LP) (o:LI),(xs.foldl (fun o x=>rcE o (encN x)) o).length<=o.length+56*xs.length
 | [],o=>by show o.length<=_;omega
 | x::xs,o=>by
  have h1:=YeY xs (rcE o (encN x));have h2:=YgO o (encN x);have h3:=Ydl x;rw[ZbS,ZQ];omega
theorem Ydm {b l:LI}(hb:allB b)(hl:allQ l):allB (vsE b l):=by
 refine YaZ hb fun c hc=>?_
 obtain⟨u,hu,hc⟩:=ZK.1 hc;have:=hl u hu;exact Yjw this.1 this.2 c hc
theorem Yci:allB []:=fun c hc=>by simp at hc
def okP (x:PNT):Prop:=rngI x.key/\rngI x.value/\(0<=x.left/\x.left<18446744073709551616)/\0<=x.right/\x.right<18446744073709551616
theorem okP.us {x:PNT}(h:okP x):allQ [zz x.value,x.left,x.right]:=by
 intro u hu;have z:=zz_rng h.2.1.1 h.2.1.2;simp only[ZH,Zcq,or_false] at hu;rcases hu with rfl|rfl|rfl
 .omega
 .exact h.2.2.1
 .exact h.2.2.2
theorem YeZ {x:PNT}(h:okP x):allB (encN x):=Ydm (Yjx _ _) h.us
theorem Yfa (k m r D:Int):(hdE k m r D).length<=37:=by
 have:=YcK [k,m,r];unfold hdE vsE;rw[Zh,Zh,Yay];simp only[ZQ,ZbE] at this ⊢;omega
theorem YgP {k m r D:Int}(h:allQ [k,m,r]):allB (hdE k m r D):=YaZ (Ydm Yci h) (Yjx _ _)
theorem YpM (l:LI)(u:Int):vsE (vsE [] l) [u]=vsE [] (l++[u]):=by
 unfold vsE;rw[Zbn,Zo]
def YgQ (k m r D:Int):LI:=rcE magB (hdE k m r D)
def wo (S:Arn)(l:LI)(D:Int)(k nr i:Nat):LI:=(((l.drop k).take i).map (nodP S l)).foldl (fun o x=>rcE o (encN x)) (YgQ k ((l.drop k).length:Nat) nr D)
theorem Yil (k m r D:Int):(YgQ k m r D).length<=56:=by
 have h1:=YgO magB (hdE k m r D);have h2:=Yfa k m r D;have h3:magB.length=4:=rfl;unfold YgQ;omega
theorem Yre (S:Arn)(l:LI)(D:Int)(k nr i:Nat):(wo S l D k nr i).length<=56+56*l.length:=by
 have h1:=YeY (((l.drop k).take i).map (nodP S l)) (YgQ k ((l.drop k).length:Nat) nr D);have h2:=Yil k ((l.drop k).length:Nat) nr D;have h3:(((l.drop k).take i).map (nodP S l)).length<=l.length:=by rw[Zu,ZG,Zy];omega
 exact Zap h1 (by omega)
theorem YxZ (S:Arn){l:LI}(D:Int){k nr i:Nat}(h:i<(l.drop k).length):wo S l D k nr (i+1)=rcE (wo S l D k nr i) (encN (nodP S l (getB (l.drop k) i))):=by
 unfold wo;rw[Yo h,ZX,ZaO];rfl
theorem Yjz {S:Arn}{l:LI}(hk:InA S l)(hl:l.length<=65536){i:Int}(hi:i∈l):okP (nodP S l i):=by
 have a:=YD l (lfA S i);have b:=YD l (rgA S i);exact⟨(hk i hi).1,(hk i hi).2,⟨a.1,by show plcN l (lfA S i)<_;omega⟩,b.1,by show plcN l (rgA S i)<_;omega⟩
theorem Ydn {p:LI}(h:allB p)(hl:p.length<=1048576){o:LI}(ho:allB o):allB (rcE o p):=YaZ ho (Ykt h hl)
theorem YdI:∀ (xs:LP) (o:LI),allB o->(∀ x∈xs,okP x)->allB (xs.foldl (fun o x=>rcE o (encN x)) o)
 | [],o,ho,_=>ho
 | x::xs,o,ho,hx=>by
  have l2:=Ydl x;exact YdI xs _ (Ydn (YeZ (hx x ZP)) (by omega) ho) fun y hy=>hx y (Zz _ hy)
theorem Ynz:allB magB:=by unfold allB magB;decide
theorem YfU {k m r:Nat}(D:Int)(hk:k<=1000000)(hm:m<=1000000)(hr:r<=1000000):allB (YgQ k m r D):=by
 have:=Yfa k m r D;refine Ydn (YgP fun u hu=>?_) (by omega) Ynz;simp only[ZH,Zcq,or_false] at hu;rcases hu with rfl|rfl|rfl<;>omega
theorem YsH {S:Arn}{l:LI}{D:Int}{k nr i:Nat}(hk:InA S l)(hl:l.length<=65536)(h1:k<=1000000)(h2:nr<=1000000):allB (wo S l D k nr i):=by
 refine YdI _ _ (YfU D h1 (by rw[Zy];omega) h2) fun x hx=>?_
 obtain⟨j,hj,rfl⟩:=ZF.1 hx;exact Yjz hk hl (Zaj (Zac hj))
structure WrF (S0:Arn) (rs ks lk la:LI) (D:Int):Prop where
 nk:Yx S0 ks [] lk
 na:Yx S0 rs lk la
 dg:DgR S0 ks D
 kin:InA S0 la
 len:la.length<=65536
 us:∀ j∈la,S0.us j=true
 le:lk.length<=la.length
def PW0 (S0:Arn)(rs ks:LI)(n:Nat):Arn->LI->List (Int × Int)->LI->Nat->Prop:=fun S l pm o k=>∃ lk D m,WrF S0 rs ks lk l D/\k=lk.length/\S=rdS S0 m/\m<=n/\(∀ j,YS pm j=plcN l j)/\o=wo S0 l D k rs.length 0
def PW1 (S0:Arn)(rs ks:LI)(n:Nat):Arn->LI->List (Int × Int)->LI->Nat->Nat->Prop:=fun S l pm o k i=>∃ lk D m,WrF S0 rs ks lk l D/\k=lk.length/\S=rdS S0 m/\m<=n+i/\(∀ j,YS pm j=plcN l j)/\i<=(l.drop k).length/\o=wo S0 l D k rs.length i
def PW3 (S0:Arn)(rs ks:LI)(n:Nat):Arn->LI->List (Int × Int)->LI->Nat->Prop:=fun S l pm o _=>∃ lk D m,WrF S0 rs ks lk l D/\S=rdS S0 m/\m<=n+65536/\(∀ j,YS pm j=plcN l j)/\o=wo S0 l D lk.length rs.length (l.drop lk.length).length
def PW2 (S0:Arn)(rs ks:LI)(n:Nat):Arn->LI->List (Int × Int)->LI->LI->Nat->Prop:=fun S l pm o z i=>i<=rs.length/\PW3 S0 rs ks n S l pm o 0/\z=vsE [] ((rs.take i).map (plcN l))
theorem KyN.sub {S:Arn}{ks rs:LI}(h:KyN S (ks++rs)){lk la:LI}(nk:Yx S ks [] lk)(na:Yx S rs lk la):InA S la:=h la (nk.app na)
theorem KyN.left {S:Arn}{hs ks rs:LI}(hw:Wf S hs)(h:KyN S (ks++rs)):KyN S ks:=fun l nl=>by
 obtain⟨la,na⟩:=YpL hw rs l;intro i hi;exact h la (nl.app na) i (na.sub hi)
theorem Yya (Q:Arn->LI->Prop)(R:Arn->LI->Arn->Int->Prop)(nD:Nat)(S:Arn)(rs ks:LI)(K:KT)(hb:WrB S rs ks)(hD:nD<=1000000)(hQ:∀ m,m<=200000->Q (rdS S m) ks)(hR:∀ m S' D,R (rdS S m) ks S' D->DgR S ks D/\0<=D/\D<4294967296/\∃ n,S'=rdS S (m+n)/\n<=nD)(h:∀ S' o,WrR S rs ks (nD+200000) S' o->K (.one (.at (.slc 9))) (chS S'++[.row false .u32 rs,.row false .u32 ks,.row true .u8 o]) [0]) :
  vc C0 (aWr Q R (PW0 S rs ks (nD+65536)) (PW3 S rs ks (nD+65536)) (PW1 S rs ks (nD+65536)) (PW2 S rs ks (nD+65536)) rs ks) Tryz.f47 [.at (.ptr 0 0),.at (.slc 7),.at (.slc 8)] (chS S++[.row false .u32 rs,.row false .u32 ks]) (Yh 9 (YG [0] K)):=by
 generalize hP0:PW0 S rs ks (nD+65536)=P0;generalize hP1:PW1 S rs ks (nD+65536)=P1;generalize hP2:PW2 S rs ks (nD+65536)=P2;generalize hP3:PW3 S rs ks (nD+65536)=P3
 refine Eq.mp (show (NmB S ks/\∀ S':Arn,∀ l:LI,∀ pm:List (Int × Int),NmK S ks S' l pm->exW S'/\S'.reads<=3000000000000000000/\rs.length<=1000000/\allV rs/\NumK S' l pm/\∀ S'1:Arn,∀ l':LI,∀ pm':List (Int × Int),ExtR S' l rs S'1 l' pm'->allQ [Zd.wrap (l.length:Int),Zd.wrap (Za.wrap ((l'.length:Int)-(l.length:Int))),Zd.wrap (rs.length:Int)]/\[Zd.wrap (l.length:Int),Zd.wrap (Za.wrap ((l'.length:Int)-(l.length:Int))),Zd.wrap (rs.length:Int)].length<=1000000/\([]:LE).length<=1000000000/\∀ o:LI,o=(vsE [] [Zd.wrap (l.length:Int),Zd.wrap (Za.wrap ((l'.length:Int)-(l.length:Int))),Zd.wrap (rs.length:Int)])->Q (S'1) (ks)/\∀ S'2:Arn,∀ D:Int,R (S'1) (ks) (S'2) (D)->(0<[86,77,80,49].length/\(o.length+[IntKind.u8.wrap (D.fdiv (2 ^ min (Zq 24) Ze.bits)),IntKind.u8.wrap (D.fdiv (2 ^ min (Zq 16) Ze.bits)),IntKind.u8.wrap (D.fdiv (2 ^ min (Zq 8) Ze.bits)),IntKind.u8.wrap D].length)*Yd C0 EC.u8<=140737488355328/\allB (o++[IntKind.u8.wrap (D.fdiv (2 ^ min (Zq 24) Ze.bits)),IntKind.u8.wrap (D.fdiv (2 ^ min (Zq 16) Ze.bits)),IntKind.u8.wrap (D.fdiv (2 ^ min (Zq 8) Ze.bits)),IntKind.u8.wrap D])/\(o++[IntKind.u8.wrap (D.fdiv (2 ^ min (Zq 24) Ze.bits)),IntKind.u8.wrap (D.fdiv (2 ^ min (Zq 16) Ze.bits)),IntKind.u8.wrap (D.fdiv (2 ^ min (Zq 8) Ze.bits)),IntKind.u8.wrap D]).length<=1048576/\
 [86,77,80,49].length<=1000000000/\∀ o1:LI,o1=(rcE [86,77,80,49] (o++[IntKind.u8.wrap (D.fdiv (2 ^ min (Zq 24) Ze.bits)),IntKind.u8.wrap (D.fdiv (2 ^ min (Zq 16) Ze.bits)),IntKind.u8.wrap (D.fdiv (2 ^ min (Zq 8) Ze.bits)),IntKind.u8.wrap D]))->∃ x:XWa P0,True/\(True/\True/\True/\VI (l.length:Int)=VI (x.k:Int)/\True/\True)/\(True/\True/\True/\VW (S'2.reads)=VW (x.S.reads)/\True)/\(True/\True/\True/\VU (S'2.fresh)=VU (x.S.fresh)/\True)/\S'2.nodes=x.S.nodes/\S'2.counts=x.S.counts/\S'2.used=x.S.used/\S'2.gen=x.S.gen/\S'2.rel=x.S.rel/\rs=rs/\ks=ks/\(True/\True/\True)/\l'=x.l/\pm'=x.pm/\o1=x.o/\True)/\∀ x:XWa P0,True->(0<=(x.k:Int)/\(x.k:Int)<=(x.l.length:Int)/\(x.l.length:Int)<=(x.l.length:Int)/\(∃ x1:XWb P1,True/\(True/\True/\True/\True/\True/\(VI ((↑(Zp (x.k:Int).toNat (Zn (x.l.length:Int).toNat x.l)).length:Int)))=(VI ((↑(Zp x1.k x1.l).length:Int)))/\VI 0=(VI (x1.i:Int))/\True)/\(True/\True/\True/\VW (x.S.reads)=VW (x1.S.reads)/\True)/\(True/\True/\True/\VU (x.S.fresh)=VU (x1.S.fresh)/\True)/\x.S.nodes=x1.S.nodes/\x.S.counts=x1.S.counts/\x.S.used=x1.S.used/\x.S.gen=x1.S.gen/\x.S.rel=x1.S.rel/\rs=rs/\ks=ks/\(True/\True/\True)/\x.l=x1.l/\x.pm=x1.pm/\x.o=x1.o/\(Zp (x.k:Int).toNat (Zn (x.l.length:Int).toNat x.l))=Zp x1.k x1.l/\True)/\∀ x1:XWb P1,True->brS (decide ((x1.i:Int)<(↑(Zp x1.k x1.l).length:Int))) (0<=(x1.i:Int)/\(x1.i:Int)<(↑(Zp x1.k x1.l).length:Int)/\inU (getB (Zp x1.k x1.l) (x1.i:Int).toNat)/\
 exW x1.S/\x1.S.reads<4000000000000000000/\∀ S'3:Arn,S'3=(rdS x1.S (x1.S.us (getB (Zp x1.k x1.l) (x1.i:Int).toNat)).toNat)->-9223372036854775808<=(x1.S.nd (getB (Zp x1.k x1.l) (x1.i:Int).toNat)).key/\(x1.S.nd (getB (Zp x1.k x1.l) (x1.i:Int).toNat)).key<=9223372036854775807/\([]:LE).length<=1000000000/\∀ o1:LI,o1=(kyA [] (x1.S.nd (getB (Zp x1.k x1.l) (x1.i:Int).toNat)).key)->-9223372036854775808<=(x1.S.nd (getB (Zp x1.k x1.l) (x1.i:Int).toNat)).value/\(x1.S.nd (getB (Zp x1.k x1.l) (x1.i:Int).toNat)).value<=9223372036854775807/\∀ u:Int,u=(zz (x1.S.nd (getB (Zp x1.k x1.l) (x1.i:Int).toNat)).value)->allQ [u,YS x1.pm (x1.S.nd (getB (Zp x1.k x1.l) (x1.i:Int).toNat)).left,YS x1.pm (x1.S.nd (getB (Zp x1.k x1.l) (x1.i:Int).toNat)).right]/\[u,YS x1.pm (x1.S.nd (getB (Zp x1.k x1.l) (x1.i:Int).toNat)).left,YS x1.pm (x1.S.nd (getB (Zp x1.k x1.l) (x1.i:Int).toNat)).right].length<=1000000/\o1.length<=1000000000/\∀ o2:LI,o2=(vsE o1 [u,YS x1.pm (x1.S.nd (getB (Zp x1.k x1.l) (x1.i:Int).toNat)).left,YS x1.pm (x1.S.nd (getB (Zp x1.k x1.l) (x1.i:Int).toNat)).right])->allB o2/\o2.length<=1048576/\x1.o.length<=1000000000/\∀ o3:LI,o3=rcE x1.o o2->∃ x':XWb P1,True/\((True/\True/\True/\True/\True/\(VI ((↑(Zp x1.k x1.l).length:Int)))=(VI ((↑(Zp x'.k x'.l).length:Int)))/\(VI (Za.wrap ((x1.i:Int)+1)))=(VI (x'.i:Int))/\True)/\(True/\True/\True/\VW (S'3.reads)=VW (x'.S.reads)/\
 True)/\(True/\True/\True/\VU (S'3.fresh)=VU (x'.S.fresh)/\True)/\S'3.nodes=x'.S.nodes/\S'3.counts=x'.S.counts/\S'3.used=x'.S.used/\S'3.gen=x'.S.gen/\S'3.rel=x'.S.rel/\rs=rs/\ks=ks/\(True/\True/\True)/\x1.l=x'.l/\x1.pm=x'.pm/\o3=x'.o/\Zp x1.k x1.l=Zp x'.k x'.l/\True)/\(Zp x'.k x'.l).length-x'.i<(Zp x1.k x1.l).length-x1.i) (∃ x2:XWa P3,True/\(True/\True/\True/\True)/\(True/\True/\True/\VW (x1.S.reads)=VW (x2.S.reads)/\True)/\(True/\True/\True/\VU (x1.S.fresh)=VU (x2.S.fresh)/\True)/\x1.S.nodes=x2.S.nodes/\x1.S.counts=x2.S.counts/\x1.S.used=x2.S.used/\x1.S.gen=x2.S.gen/\x1.S.rel=x2.S.rel/\rs=rs/\ks=ks/\(True/\True/\True)/\x1.l=x2.l/\x1.pm=x2.pm/\x1.o=x2.o/\True))/\∀ x1:XWa P3,True->(∃ x2:XWc P2,True/\(True/\True/\True/\True/\VI (rs.length:Int)=VI (rs.length:Int)/\VI 0=(VI (x2.i:Int))/\True)/\(True/\True/\True/\VW (x1.S.reads)=VW (x2.S.reads)/\True)/\(True/\True/\True/\VU (x1.S.fresh)=VU (x2.S.fresh)/\True)/\x1.S.nodes=x2.S.nodes/\x1.S.counts=x2.S.counts/\x1.S.used=x2.S.used/\x1.S.gen=x2.S.gen/\x1.S.rel=x2.S.rel/\rs=rs/\ks=ks/\(True/\True/\True)/\x1.l=x2.l/\x1.pm=x2.pm/\x1.o=x2.o/\[]=x2.z/\True)/\∀ x2:XWc P2,True->brS (decide ((x2.i:Int)<(rs.length:Int))) (0<=(x2.i:Int)/\(x2.i:Int)<(rs.length:Int)/\allQ [YS x2.pm (getB rs (x2.i:Int).toNat)]/\[YS x2.pm (getB rs (x2.i:Int).toNat)].length<=1000000/\x2.z.length<=1000000000/\∀ o1:LI,o1=(vsE x2.z [YS x2.pm (getB rs (x2.i:Int).toNat)])->∃ x':XWc P2,True/\((True/\True/\True/\True/\VI (rs.length:Int)=VI (rs.length:Int)/\
 (VI (Za.wrap ((x2.i:Int)+1)))=(VI (x'.i:Int))/\True)/\(True/\True/\True/\VW (x2.S.reads)=VW (x'.S.reads)/\True)/\(True/\True/\True/\VU (x2.S.fresh)=VU (x'.S.fresh)/\True)/\x2.S.nodes=x'.S.nodes/\x2.S.counts=x'.S.counts/\x2.S.used=x'.S.used/\x2.S.gen=x'.S.gen/\x2.S.rel=x'.S.rel/\rs=rs/\ks=ks/\(True/\True/\True)/\x2.l=x'.l/\x2.pm=x'.pm/\x2.o=x'.o/\o1=x'.z/\True)/\rs.length-x'.i<rs.length-x2.i) (allB x2.z/\x2.z.length<=1048576/\x2.o.length<=1000000000/\∀ o1:LI,o1=rcE x2.o x2.z->K (.one (.at (.slc 9))) [(.box [(.ptr 1 0),(.slc 2),(.slc 3),(.val (VW (x2.S.reads)))]),(.box [(.slc 4),(.slc 5),(.slc 6),(.val (VU (x2.S.fresh)))]),(.row true .node (x2.S.nodes)),(.row true .int (x2.S.counts)),(.row true .bool (x2.S.used)),(.row true .u32 (x2.S.gen)),(.row true .u32 (x2.S.rel)),(.row false .u32 (rs)),(.row false .u32 (ks)),(.row true .u8 (o1))] [0]))=_ by kernel_rfl) ?_
 subst hP0 hP1 hP2 hP3;obtain⟨⟨hs,hw⟩,hr,hrs,hks,vr,vk,ky⟩:=hb;refine⟨⟨⟨hs,hw⟩,by omega,by omega,vk⟩,fun S1 lk pm1 nk=>?_⟩;have ndk:=nk.num.nodup (Ybc hw) ZaX;have usk:=nk.num.used (by simp);have ukl:=Ych hw ndk usk;have n2:=hw.n2;have e1:=nk.st;subst e1;have hw1:Wf (rdS S lk.length) hs:=hw.rd (by omega);refine⟨⟨hs,hw1⟩,by show S.reads+(lk.length:Int)<=_;omega,by omega,vr,⟨ndk,usk,nk.map⟩,fun S2 la pm ex=>?_⟩;have nn:Yx S rs lk la:=ex.num;have nda:=nn.nodup (Ybc hw) ndk;have usa:=nn.used usk;have ual:=Ych hw nda usa;have kin:=ky.sub nk.num nn;obtain⟨yy,hyy⟩:=nn.pre;have lle:lk.length<=la.length:=by rw[hyy,Zh];omega
 have e2:=ex.st;rw[YR,show lk.length+(la.length-lk.length)=la.length by omega] at e2;subst e2
 have us3:allQ [Zd.wrap (lk.length:Int),Zd.wrap (Za.wrap ((la.length:Int)-(lk.length:Int))),Zd.wrap (rs.length:Int)]/\[Zd.wrap (lk.length:Int),Zd.wrap (Za.wrap ((la.length:Int)-(lk.length:Int))),Zd.wrap (rs.length:Int)]=[(lk.length:Int),((la.drop lk.length).length:Nat),(rs.length:Int)]:=by
  rw[Yb (x:=(la.length:Int)-(lk.length:Int)) (by omega) (by omega),Yf (x:=(lk.length:Int)) (by omega) (by omega),Yf (x:=(la.length:Int)-(lk.length:Int)) (by omega) (by omega),Yf (x:=(rs.length:Int)) (by omega) (by omega)];refine⟨fun u hu=>?_,?_⟩
  .simp only[ZH,Zcq,or_false] at hu;rcases hu with rfl|rfl|rfl<;>omega
  .rw[Zy]
   congr 2
   omega
 obtain⟨us3,ue3⟩:=us3;rw[ue3] at us3;rw[ue3];refine⟨us3,by simp,by simp,fun o eo=>⟨hQ _ (by omega),fun S3 D hRD=>?_⟩⟩;obtain⟨dg,D0,D1,n,e3,hn⟩:=hR _ _ _ hRD;subst e3;have ew:o++wB 4 D=hdE lk.length ((la.drop lk.length).length:Nat) rs.length D:=by rw[eo];rfl
 rw[Yrc D0,ew];have hl:=Yfa lk.length ((la.drop lk.length).length:Nat) rs.length D;have ol:o.length<=37:=by rw[<-ew,Zh] at hl;omega
 refine⟨⟨by decide,by rw[Yay,YaF];omega,YgP us3,by omega,by decide,fun o1 eo1=>⟨⟨_,la,pm,o1,lk.length,lk,D,la.length+n,⟨nk.num,nn,dg,kin,by omega,usa,lle⟩,rfl,rfl,by omega,ex.map,?_⟩,?_⟩⟩,fun x _=>?_⟩
 .rw[eo1];rfl
 ·repeat' constructor
 obtain⟨S4,l,pm,o,k,lk,D,m,F,ek,es,hm,mp,eo⟩:=x;dsimp only;have ll:=F.len;have lk':=F.le;have tk:Zn (l.length:Int).toNat l=l:=by rw[Zau];exact ZJ
 rw[tk];refine⟨⟨by omega,by omega,by omega,⟨⟨S4,l,pm,o,k,0,lk,D,m,F,ek,es,hm,mp,ZC _,eo⟩,?_⟩,fun x1 _=>Ya (fun z=>?_) fun z=>?_⟩,fun x1 _=>?_⟩
 ·repeat' constructor
 .obtain⟨S5,l,pm,o,k,i,lk,D,m,F,ek,es,hm,mp,hi,eo⟩:=x1;dsimp only at z ⊢;have zi:i<(l.drop k).length:=by have:=Zc z;omega
  clear z;have ll:=F.len;have il:i<=65536:=by rw[Zy] at zi;omega
  rw[show ((i:Int)).toNat=i from rfl,Yb (x:=(i:Int)+1) (by omega) (by omega)];have jm:getB (l.drop k) i∈l:=Zaj (Yj zi);have eg:=YxZ S (nr:=rs.length) D zi;generalize getB (l.drop k) i=j at *;have uj:=F.us j jm;have ok:=Yjz F.kin ll jm;subst es;have ol:=Yre S l D k rs.length i;rw[<-eo] at ol;refine⟨by omega,by omega,YW hw (.inr uj),⟨hs,hw.rd (by omega)⟩,by show S.reads+(m:Int)<_;omega,fun S6 es6=>?_⟩;have es6:S6=rdS S (m+1):=by rw[es6];show rdS _ (S.us j).toNat=_;rw[uj,YR];rfl
  subst es6;have kj:=F.kin j jm;rw[mp,mp];show -9223372036854775808<=(S.nd j).key/\(S.nd j).key<=9223372036854775807/\_;refine⟨kj.1.1,kj.1.2,by simp,fun q1 eq1=>⟨kj.2.1,kj.2.2,fun u eu=>?_⟩⟩;have eq1:q1=kB (S.nd j).key:=eq1.trans (ZS _);have eu:u=zz (S.nd j).value:=eu;rw[eq1,eu];refine⟨ok.us,by simp,by unfold kB;rw[Yay];decide,fun q2 eq2=>?_⟩;have eq2:q2=encN (nodP S l j):=eq2;have l2:=Ydl (nodP S l j);rw[eq2];refine⟨YeZ ok,by omega,by omega,fun q3 eq3=>⟨⟨rdS S (m+1),l,pm,q3,k,i+1,lk,D,m+1,F,ek,rfl,by omega,mp,zi,by rw[eq3,eo];exact eg.symm⟩,trivial,?_,ZI zi (ZO i)⟩⟩
  repeat' constructor
 .obtain⟨S5,l,pm,o,k,i,lk,D,m,F,ek,es,hm,mp,hi,eo⟩:=x1;dsimp only at z ⊢;have z:i=(l.drop k).length:=by have:=Zg z;omega
  have ll:=F.len;have il:i<=65536:=by rw[z,Zy];omega
  refine⟨⟨S5,l,pm,o,k,lk,D,m,F,es,by omega,mp,by rw[eo,z,ek]⟩,trivial,?_⟩
  repeat' constructor
 .obtain⟨S5,l,pm,o,k,lk,D,m,F,es,hm,mp,eo⟩:=x1;dsimp only;refine⟨⟨⟨S5,l,pm,o,[],0,ZC _,⟨lk,D,m,F,es,hm,mp,eo⟩,rfl⟩,?_⟩,fun x2 _=>Ya (fun z=>?_) fun z=>?_⟩
  ·repeat' constructor
  .obtain⟨S6,l,pm,o,zl,i,hi,⟨lk,D,m,F,es,hm,mp,eo⟩,ez⟩:=x2;dsimp only at z ⊢;have z:i<rs.length:=by have:=Zc z;omega
   rw[show ((i:Int)).toNat=i from rfl,Yb (x:=(i:Int)+1) (by omega) (by omega),mp]
   have zlen:zl.length<=11*rs.length:=by
    have:=YcK ((rs.take i).map (plcN l));rw[Zu,ZG] at this;rw[ez];unfold vsE;rw[ZS];omega
   have pr:=YD l (getB rs i);have ll:=F.len;refine⟨by omega,by omega,fun u hu=>?_,by simp,by omega,fun q1 eq1=>⟨⟨S6,l,pm,o,q1,i+1,z,⟨lk,D,m,F,es,hm,mp,eo⟩,?_⟩,trivial,?_,ZI z (ZO i)⟩⟩
   .rw[ZL.1 hu];omega
   .rw[eq1,ez,YpM,Yo z,ZX];rfl
   ·repeat' constructor
  .obtain⟨S6,l,pm,o,zl,i,hi,⟨lk,D,m,F,es,hm,mp,eo⟩,ez⟩:=x2;dsimp only at z ⊢;have z:i=rs.length:=by have:=Zg z;omega
   rw[z,ZJ] at ez;have ll:=F.len
   have zlen:zl.length<=11*rs.length:=by
    have:=YcK (rs.map (plcN l));rw[Zu] at this;rw[ez];unfold vsE;rw[ZS];omega
   have ol:=Yre S l D lk.length rs.length (l.drop lk.length).length;rw[<-eo] at ol;refine⟨?_,by omega,by omega,fun q eq=>h _ _ ⟨⟨lk,l,D,F.nk,F.na,F.dg,?_⟩,⟨m,es,by omega⟩,?_⟩⟩
   .rw[ez];refine Ydm Yci fun u hu=>?_
    obtain⟨r,_,rfl⟩:=ZF.1 hu;have pr:=YD l r;omega
   .rw[eq,eo,ez];unfold pkS pkE wo YgQ;rw[ZJ,Zu,Zu]
   .have zb:allB zl:=by
     rw[ez];refine Ydm Yci fun u hu=>?_
     obtain⟨r,_,rfl⟩:=ZF.1 hu;have pr:=YD l r;omega
    have:=YgO o zl;refine⟨?_,by rw[eq];omega⟩;rw[eq];refine Ydn zb (by omega) ?_;rw[eo];exact YsH F.kin ll (by have:=F.le;omega) (by omega)
def tWrq (B:Arn->LI->LI->Prop)(n:Nat):Tfm C0:=fun args H K=>match args with
 | [.at (.ptr 0 0),.at (.slc 7),.at (.slc 8)]=>wrM H fun S rs ks=>B S rs ks/\∀ S' o,WrR S rs ks n S' o->K (.one (.at (.slc 9))) (chS S'++[.row false .u32 rs,.row false .u32 ks,.row true .u8 o]) [0]
 | _=>False
theorem Yvn (Q:Arn->LI->Prop)(R:Arn->LI->Arn->Int->Prop)(nD:Nat)(hD:nD<=1000000)(sD:Tb C0 82 (tDgq Q R))(B:Arn->LI->LI->Prop)(hQ:∀ S rs ks,B S rs ks->WrB S rs ks/\(∀ m,m<=200000->Q (rdS S m) ks)/\∀ m S' D,R (rdS S m) ks S' D->DgR S ks D/\0<=D/\D<4294967296/\∃ n,S'=rdS S (m+n)/\n<=nD) :
  Tb C0 47 (tWrq B (nD+200000)):=by
 refine .ofW [0] Tryz.func47 (by decide) rfl fun args H K h hB=>?_
 unfold tWrq at h;split at h<;>try exact h.elim
 unfold wrM arMr at h;iterate 2 (split at h<;>try exact h.elim)
 rename_i _ rd fr nd ct us gn rl _ rs ks;obtain⟨h1,h2,h3⟩:=hQ _ _ _ h.1;refine⟨_,?_,Yya Q R nD ⟨us,gn,rl,fr,nd,ct,rd⟩ rs ks K h1 hD h2 h3 h.2⟩;exact⟨Ye C0.ok YxY _,Ye C0.ok YsG _,Ye C0.ok s_vs _,Ye C0.ok sD _,Ye C0.ok s_rc _,Ye C0.ok YfM _,Ye C0.ok s_ke _,Ye C0.ok s_zz _,trivial⟩
structure XWd (P:LI->Int->Int->Prop) where
 o:LI
 u:Int
 j:Int
 h:P o u j
def aWd (P:LI->Int->Int->Prop):Ann C0:={ quiet:=[9999999],Γ:=[],inv:=fun m=>match m with
 | 3=>some { X:=XWd P,sl:=[0,5,6],tf:=fun x=>[vi .u64 x.u,.one (.at (.slc 0)),vi .i64 x.j],hf:=fun x=>[.row true .u8 x.o],μ:=fun x=>(x.j+1).toNat }
 | _=>none }
def tWd:Tfm C0:=fun args H K=>match args,H with
 | [.at (.val (.int .u64 u)),.at (.val (.int .i64 n))],[]=>0<=u/\u<18446744073709551616/\0<=n/\n<=8/\∀ o,o=wB n.toNat u->K (.one (.at (.slc 0))) [.row true .u8 o] []
 | _,_=>False
def aKb:Ann C0:={ quiet:=[9999999],Γ:=[(71,Yc [] tWd)] }
def tKb:Tfm C0:=fun args H K=>match args,H with
 | [.at (.val (.int .i64 k))],[]=>rngI k/\∀ o,o=kB k->K (.one (.at (.slc 0))) [.row true .u8 o] []
 | _,_=>False
def tZr:Tfm C0:=fun args H K=>match args,H with
 | [.at (.val (.int .i64 n))],[]=>rngI n/\∀ u,u=zz n->K (.one (.at (vU64 u))) [] []
 | _,_=>False
structure XEr (P:Nat->Int->Prop) where
 i:Nat
 c:Int
 h:P i c
structure XEq (P:Nat->Nat->Int->Prop) where
 i:Nat
 k:Nat
 c:Int
 h:P i k c
def aEr (P:Nat->Int->Prop)(Q:Nat->Nat->Int->Prop)(b:LI):Ann C0:={ quiet:=[9999999],Γ:=[],inv:=fun m=>match m with
 | 3=>some { X:=XEr P,sl:=[5,6],tf:=fun x=>[vi .u32 x.c,vi .i64 x.i],hf:=fun _=>[.row false .u8 b],μ:=fun x=>b.length-x.i }
 | 7=>some { X:=XEq Q,sl:=[5,7],tf:=fun x=>[vi .u32 x.c,vi .i64 x.k],hf:=fun _=>[.row false .u8 b],μ:=fun x=>8-x.k,rel:=fun T _ x=>YaM T 6 x.i }
 | _=>none }
def aCr:Ann C0:={ Γ:=[(118,Yc [] tEx)] }
def aFr:Ann C0:={ quiet:=[9999999],Γ:=[(116,Yc [] tVtR),(70,Yc [] tJnR),(83,Yc [] tCk),(71,Yc [] tWd)] }
def tFrR:Tfm C0:=fun args H K=>match args,H with
 | [.at (.slc 0)],[.row false .u8 p]=>allB p/\p.length<=900000000/\∀ o,o=frE p->K (.one (.at (.slc 1))) [.row false .u8 p,.row true .u8 o] []
 | _,_=>False
def aVr:Ann C0:={ quiet:=[9999999],Γ:=[(116,Yc [] tVtR),(70,Yc [] tJnR)] }
def tVr:Tfm C0:=fun args H K=>match args,H with
 | [.at (.slc 0),.at (.val (.int .u64 u))],[.row false .u8 b]=>0<=u/\u<18446744073709551616/\b.length<=900000000/\∀ o,o=uvA b u->K (.one (.at (.slc 1))) [.row false .u8 b,.row true .u8 o] []
 | _,_=>False
def aFr8:Ann C0:={ quiet:=[9999999],Γ:=[(79,Yc [] tFrR),(70,Yc [] tJnR)] }
def tFr8:Tfm C0:=fun args H K=>match args,H with
 | [.at (.slc 0),.at (.slc 1)],[.row false .u8 b,.row false .u8 p]=>allB p/\p.length<=900000000/\b.length<=900000000/\∀ o,o=rcE b p->K (.one (.at (.slc 2))) [.row false .u8 b,.row false .u8 p,.row true .u8 o] []
 | _,_=>False
def PWd (n:Nat)(u:Int):LI->Int->Int->Prop:=fun o v j=>∃ k:Nat,∃ t,j=(k:Int)-1/\k<=n/\o=List.replicate k 0++t/\wB n u=wB k v++t/\0<=v/\v<18446744073709551616
theorem Yyb (u n:Int)(K:KT)(u0:0<=u)(u1:u<18446744073709551616)(n0:0<=n)(hn:n<=8)(h:∀ o,o=wB n.toNat u->K (.one (.at (.slc 0))) [.row true .u8 o] []) :
  vc C0 (aWd (PWd n.toNat u)) Tryz.f71 [.at (vU64 u),.at (vI n)] [] (Yh 0 K):=by
 generalize hP:PWd n.toNat u=P;refine Eq.mp (show (0<=n/\n<=n/\n*(↑(Yd C0 EC.u8):Int)<=140737488355328/\(∃ x:XWd P,True/\(VW (u)=VW (x.u)/\True/\(VI (Za.wrap (n-1)))=(VI (x.j))/\True)/\List.replicate n.toNat 0=x.o/\True)/\∀ x:XWd P,True->brS (decide (x.j≥0)) (0<=x.j/\x.j<(x.o.length:Int)/\∃ x':XWd P,True/\(((VW (Zd.wrap (x.u.tdiv 256)))=(VW (x'.u))/\True/\(VI (Za.wrap (x.j-1)))=(VI (x'.j))/\True)/\(x.o.set x.j.toNat (IntKind.u8.wrap (x.u.tmod 256)))=x'.o/\True)/\(x'.j+1).toNat<(x.j+1).toNat) (K (.one (.at (.slc 0))) [(.row true .u8 (x.o))] []))=_ by kernel_rfl) ?_;subst hP;rw[YaF,Yb (x:=n-1) (by omega) (by omega)];refine⟨n0,ZE _,by omega,⟨⟨List.replicate n.toNat 0,u,n-1,n.toNat,[],by omega,Zw _,(ZR _).symm,(ZR _).symm,u0,u1⟩,trivial,?_⟩,fun x _=>Ya (fun y=>?_) fun y=>?_⟩
 ·repeat' constructor
 .obtain⟨o,v,j,k,t,rfl,hk,rfl,e,v0,v1⟩:=x;dsimp only at y ⊢;have y1:1<=k:=by have:=Zc y;omega
  obtain⟨k,rfl⟩:∃ q,k=q+1:=⟨k-1,by omega⟩
  have w1:v.tmod 256=v % 256:=Zav v0;have w2:v.tdiv 256=v / 256:=Zaq v0;have w3:IntKind.u8.wrap (v % 256)=v % 256:=by rw[YN (by omega)];omega
  rw[w1,w2,w3,Yf (x:=v / 256) (by omega) (by omega),Yb (x:=((k+1:Nat):Int)-1-1) (by omega) (by omega),show (((k+1:Nat):Int)-1).toNat=k by omega];refine⟨by omega,by rw[Zh,Zan];omega,⟨(List.replicate (k+1) 0++t).set k (v % 256),v / 256,((k+1:Nat):Int)-1-1,k,(v % 256)::t,by omega,by omega,?_,?_,by omega,by omega⟩,trivial,?_,by show ((((k+1:Nat):Int)-1-1)+1).toNat<(((k+1:Nat):Int)-1+1).toNat;omega⟩
  .rw[List.set_append_left _ _ (by rw[Zan];omega),List.replicate_succ',List.set_append_right _ _ (by rw[Zan];omega),Zan,Nat.sub_self,Zo];rfl
  .rw[e];show wB k (v / 256)++[v % 256]++t=_;rw[Zo];rfl
  ·repeat' constructor
 .obtain⟨o,v,j,k,t,rfl,hk,rfl,e,v0,v1⟩:=x;dsimp only at y ⊢;have y1:k=0:=by have:=Zg y;omega
  subst y1;exact h _ (by rw[e];rfl)
theorem s_wd:Tb C0 71 tWd:=by
 refine .of Tryz.func71 (by decide) rfl fun args H K h hB=>?_
 unfold tWd at h;split at h<;>try exact h.elim
 rename_i u n;obtain⟨h1,h2,h3,h4,h5⟩:=h;exact⟨aWd (PWd n.toNat u),trivial,Yyb u n K h1 h2 h3 h4 h5⟩
theorem Yyc (k:Int)(K:KT)(hk:rngI k)(h:∀ o,o=kB k->K (.one (.at (.slc 0))) [.row true .u8 o] []) :
  vc C0 aKb Tryz.f72 [.at (vI k)] [] (Yh 0 K):=by
 refine Eq.mp (show (0<=Zd.wrap (Zd.wrap k+9223372036854775808)/\Zd.wrap (Zd.wrap k+9223372036854775808)<18446744073709551616/\(0:Int)<=8/\(8:Int)<=8/\∀ o:LI,o=(wB (Zq 8) (Zd.wrap (Zd.wrap k+9223372036854775808)))->K (.one (.at (.slc 0))) [(.row true .u8 (o))] [])=_ by kernel_rfl) ?_;have h0:=hk.1;have h1:=hk.2;have e:Zd.wrap (Zd.wrap k+9223372036854775808)=k+9223372036854775808:=by rw[Yal,Yal];omega
 rw[e];exact⟨by omega,by omega,by decide,by decide,fun o eo=>h o eo⟩
theorem s_kb:Tb C0 72 tKb:=by
 refine .of Tryz.func72 (by decide) rfl fun args H K h hB=>?_
 unfold tKb at h;split at h<;>try exact h.elim
 rename_i k;exact⟨aKb,⟨Ye C0.ok s_wd _,trivial⟩,Yyc k K h.1 h.2⟩
theorem Yyd (n:Int)(K:KT)(hn:rngI n)(h:∀ u,u=zz n->K (.one (.at (vU64 u))) [] []) :
  vc C0 A0 Tryz.f73 [.at (vI n)] [] (Yh 0 K):=by
 refine Eq.mp (show (brS (decide (n≥0)) (K (.one (.at (.val (VW (Zd.wrap (2*Zd.wrap n)))))) [] []) (K (.one (.at (.val (VW (Zd.wrap (Zd.wrap (2*Zd.wrap (Za.wrap (0-Za.wrap (n+1))))+1)))))) [] []))=_ by kernel_rfl) ?_;have h0:=hn.1;have h1:=hn.2;refine Ya (fun y=>h _ ?_) fun y=>h _ ?_
 .have y:=Zc y;unfold zz;rw[Zj y,Yal,Yal];omega
 .have y:=Zg y;unfold zz;rw[Zf y,Yb (x:=n+1) (by omega) (by omega),Yb (x:=0-(n+1)) (by omega) (by omega),Yal,Yal,Yal];omega
theorem s_zr:Tb C0 73 tZr:=by
 refine .of Tryz.func73 (by decide) rfl fun args H K h hB=>?_
 unfold tZr at h;split at h<;>try exact h.elim
 rename_i n;exact⟨A0,trivial,Yyd n K h.1 h.2⟩
def PEq (c:Int)(b:LI):Nat->Nat->Int->Prop:=fun i k x=>i<b.length/\k<=8/\∃ y:BitVec 32,x=(y.toNat:Int)/\itC (8-k) y=crX (b.take (i+1)) (~~~ BitVec.ofInt 32 c)
theorem Yye (c:Int)(b:LI)(K:KT)(hb:allB b)(hl:b.length<=1000000000000)(h:∀ r,r=exI c b->K (.one (.at (vU r))) [.row false .u8 b] []) :
  vc C0 (aEr (PEx c b) (PEq c b) b) Tryz.f118 [.at (.val (.int .u32 c)),.at (.slc 0)] [.row false .u8 b] (Yh 1 K):=by
 generalize hP:PEx c b=P;generalize hQ:PEq c b=Q;refine Eq.mp (show ((∃ x:XEr P,True/\(True/\(VU (xorI Ze (if Ze.signed=true then -1 else Ze.max) c))=(VU (x.c))/\VI 0=(VI (x.i:Int))/\True)/\b=b/\True)/\∀ x:XEr P,True->brS (decide ((x.i:Int)<(b.length:Int))) (0<=(x.i:Int)/\(x.i:Int)<(b.length:Int)/\(∃ x1:XEq Q,((x.i:Int))=((x1.i:Int))/\(True/\(VU (xorI Ze x.c (Ze.wrap (getB b (x.i:Int).toNat))))=(VU (x1.c))/\VI (x.i:Int)=VI (x.i:Int)/\VI 0=(VI (x1.k:Int))/\True)/\b=b/\True)/\∀ x1:XEq Q,((x.i:Int))=((x1.i:Int))->brS (decide ((x1.k:Int)<8)) (brS (x1.c.tmod 2==1) (∃ x':XEq Q,((x.i:Int))=((x'.i:Int))/\((True/\(VU (xorI Ze (Ze.wrap (x1.c.tdiv 2)) 2197175160))=(VU (x'.c))/\VI (x.i:Int)=VI (x.i:Int)/\(VI (Za.wrap ((x1.k:Int)+1)))=(VI (x'.k:Int))/\True)/\b=b/\True)/\8-x'.k<8-x1.k) (∃ x':XEq Q,((x.i:Int))=((x'.i:Int))/\((True/\(VU (Ze.wrap (x1.c.tdiv 2)))=(VU (x'.c))/\VI (x.i:Int)=VI (x.i:Int)/\(VI (Za.wrap ((x1.k:Int)+1)))=(VI (x'.k:Int))/\True)/\b=b/\True)/\8-x'.k<8-x1.k)) (∃ x':XEr P,True/\((True/\VU (x1.c)=VU (x'.c)/\(VI (Za.wrap ((x.i:Int)+1)))=(VI (x'.i:Int))/\True)/\b=b/\True)/\b.length-x'.i<b.length-x.i)) (K (.one (.at (.val (VU (xorI Ze (if Ze.signed=true then -1 else Ze.max) x.c))))) [(.row false .u8 (b))] []))=_ by kernel_rfl) ?_;subst hP hQ
 refine⟨⟨⟨0,_,ZC _,rfl⟩,trivial,⟨trivial,?_,rfl,trivial⟩,rfl,trivial⟩,fun x _=>Ya (fun z=>?_) fun z=>?_⟩
 .rw[YgJ];rfl
 .obtain⟨i,c1,hi,hc⟩:=x;dsimp only at z ⊢;have z:i<b.length:=by have:=Zc z;omega
  rw[show ((i:Int)).toNat=i from rfl];obtain⟨x0,x1⟩:=hb _ (Yj z);have yl:=(crX (b.take i) (~~~ BitVec.ofInt 32 c)).isLt
  have st:xorI .u32 c1 (Ze.wrap (getB b i))=((crX (b.take i) (~~~ BitVec.ofInt 32 c) ^^^ BitVec.ofInt 32 (getB b i)).toNat:Int):=by
   rw[Yz (by omega) (by omega),hc,YsA (by omega) (by omega) (by omega) (by omega),Zbe,YH 32 x0 (by omega),Zau]
  refine⟨by omega,by omega,⟨⟨i,0,_,z,ZC _,_,rfl,?_⟩,rfl,⟨trivial,by rw[st],rfl,rfl,trivial⟩,rfl,trivial⟩,fun x1 e1=>Ya (fun y=>?_) fun y=>?_⟩
  .rw[Yo z,Ykr]
  .obtain⟨i',k,c2,hi',hk,v,hv,hw⟩:=x1;dsimp only at y e1 ⊢;obtain rfl:i=i':=by omega
   have y:k<8:=by have:=Zc y;omega
   have vl:=v.isLt;have en:=Ynw v;rw[<-hv] at en;have w1:c2.tmod 2=c2 % 2:=Zav (by omega);have w2:c2.tdiv 2=c2 / 2:=Zaq (by omega);rw[w1,w2,Yz (x:=c2 / 2) (by omega) (by omega),Yb (x:=(k:Int)+1) (by omega) (by omega)]
   have hs:itC (8-(k+1)) (stC v)=crX (b.take (i+1)) (~~~ BitVec.ofInt 32 c):=by
    rw[<-hw,show 8-k=(8-(k+1))+1 by omega];rfl
   refine Ya (fun q=>?_) fun q=>?_
   .have q:c2 % 2=1:=eq_of_beq q;rw[Zj q] at en;exact⟨⟨i,k+1,_,z,y,stC v,en.symm,hs⟩,rfl,⟨⟨trivial,rfl,rfl,rfl,trivial⟩,rfl,trivial⟩,by show 8-(k+1)<8-k;omega⟩
   .have q:¬ c2 % 2=1:=fun e=>by rw[e] at q;exact absurd q (by decide)
    rw[Zf q] at en;exact⟨⟨i,k+1,_,z,y,stC v,en.symm,hs⟩,rfl,⟨⟨trivial,rfl,rfl,rfl,trivial⟩,rfl,trivial⟩,by show 8-(k+1)<8-k;omega⟩
  .obtain⟨i',k,c2,hi',hk,v,hv,hw⟩:=x1;dsimp only at y e1 ⊢;obtain rfl:i=i':=by omega
   obtain rfl:k=8:=by have:=Zg y;omega
   rw[Yb (x:=(i:Int)+1) (by omega) (by omega)];have hw:v=crX (b.take (i+1)) (~~~ BitVec.ofInt 32 c):=hw;refine⟨⟨i+1,c2,z,by rw[hv,hw]⟩,trivial,⟨⟨trivial,rfl,rfl,trivial⟩,rfl,trivial⟩,ZI z (ZO i)⟩
 .obtain⟨i,c1,hi,hc⟩:=x;dsimp only at z ⊢;have z:i=b.length:=by have:=Zg z;omega
  rw[z,ZJ] at hc;refine h _ ?_;rw[YgJ,hc,Yrb];rfl
theorem s_er:Tb C0 118 tEx:=by
 refine .of Tryz.func118 (by decide) rfl fun args H K h hB=>?_
 unfold tEx at h;split at h<;>try exact h.elim
 rename_i c b;exact⟨aEr (PEx c b) (PEq c b) b,trivial,Yye c b K h.2.2.1 h.2.2.2.1 h.2.2.2.2⟩
theorem Yyf (b:LI)(K:KT)(hb:allB b)(hl:b.length<=1000000000000)(h:∀ r,r=crc b->K (.one (.at (vU r))) [.row false .u8 b] []) :
  vc C0 aCr Tryz.f83 [.at (.slc 0)] [.row false .u8 b] (Yh 1 K):=by
 refine Eq.mp (show ((0:Int)<=0/\(0:Int)<4294967296/\allB b/\b.length<=1000000000000/\∀ r:Int,r=exI 0 b->K (.one (.at (.val (VU (r))))) [(.row false .u8 (b))] [])=_ by kernel_rfl) ?_;exact⟨by decide,by decide,hb,hl,fun r er=>h r (er.trans (Ykq b))⟩
theorem s_cr:Tb C0 83 tCk:=by
 refine .of Tryz.func83 (by decide) rfl fun args H K h hB=>?_
 unfold tCk at h;split at h<;>try exact h.elim
 rename_i b;exact⟨aCr,⟨Ye C0.ok s_er _,trivial⟩,Yyf b K h.1 h.2.1 h.2.2⟩
theorem Yvo (p:LI)(K:KT)(hp:allB p)(hl:p.length<=900000000)(h:∀ o,o=frE p->K (.one (.at (.slc 1))) [.row false .u8 p,.row true .u8 o] []) :
  vc C0 aFr Tryz.f79 [.at (.slc 0)] [.row false .u8 p] (Yh 1 K):=by
 refine Eq.mp (show (0<=Zd.wrap (p.length:Int)/\Zd.wrap (p.length:Int)<18446744073709551616/\∀ o:LI,o=(vE 10 (Zd.wrap (p.length:Int)))->o.length<=1000000000/\p.length<=1000000000/\∀ o1:LI,o1=jnA o p->allB o1/\o1.length<=1000000000000/\∀ r:Int,r=crc o1->0<=Zd.wrap r/\Zd.wrap r<18446744073709551616/\(0:Int)<=4/\(4:Int)<=8/\∀ o2:LI,o2=(wB (Zq 4) (Zd.wrap r))->o1.length<=1000000000/\o2.length<=1000000000/\∀ o3:LI,o3=jnA o1 o2->K (.one (.at (.slc 1))) [(.row false .u8 (p)),(.row true .u8 (o3))] [])=_ by kernel_rfl) ?_;rw[Yf (x:=(p.length:Int)) (by omega) (by omega)];refine⟨by omega,by omega,fun o eo=>?_⟩;have ol:o.length<=11:=by rw[eo];exact YaG _
 refine⟨by omega,by omega,fun o1 e1=>?_⟩;have e1:o1=frH p:=by rw[e1,eo];rfl
 have l1:o1.length<=900000011:=by rw[e1];unfold frH;rw[Zh,<-eo];omega
 have a1:allB o1:=by rw[e1];exact YaZ (Yjw (by omega) (by omega)) hp
 refine⟨a1,by omega,fun r er=>?_⟩;have rr:=YcI o1;rw[<-er] at rr;rw[Yf (x:=r) (by omega) (by omega)];refine⟨by omega,by omega,by decide,by decide,fun o2 e2=>⟨by omega,by rw[e2,Yay];decide,fun o3 e3=>h _ ?_⟩⟩;rw[e3,e2,er,e1];rfl
theorem Yvp:Tb C0 79 tFrR:=by
 refine .of Tryz.func79 (by decide) rfl fun args H K h hB=>?_
 unfold tFrR at h;split at h<;>try exact h.elim
 rename_i p;exact⟨aFr,⟨Ye C0.ok Yvg _,Ye C0.ok Yjy _,Ye C0.ok s_cr _,Ye C0.ok s_wd _,trivial⟩,Yvo p K h.1 h.2.1 h.2.2⟩
theorem Yyg (b:LI)(u:Int)(K:KT)(u0:0<=u)(u1:u<18446744073709551616)(hl:b.length<=900000000)(h:∀ o,o=uvA b u->K (.one (.at (.slc 1))) [.row false .u8 b,.row true .u8 o] []) :
  vc C0 aVr Tryz.f68 [.at (.slc 0),.at (vU64 u)] [.row false .u8 b] (Yh 1 K):=by
 refine Eq.mp (show (0<=u/\u<18446744073709551616/\∀ o:LI,o=vE 10 u->b.length<=1000000000/\o.length<=1000000000/\∀ o1:LI,o1=jnA b o->K (.one (.at (.slc 1))) [(.row false .u8 (b)),(.row true .u8 (o1))] [])=_ by kernel_rfl) ?_;exact⟨u0,u1,fun o eo=>⟨by omega,by have:=YaG u;rw[eo];omega,fun o1 e1=>h _ (by rw[e1,eo];rfl)⟩⟩
theorem s_vr:Tb C0 68 tVr:=by
 refine .of Tryz.func68 (by decide) rfl fun args H K h hB=>?_
 unfold tVr at h;split at h<;>try exact h.elim
 rename_i u b;exact⟨aVr,⟨Ye C0.ok Yvg _,Ye C0.ok Yjy _,trivial⟩,Yyg b u K h.1 h.2.1 h.2.2.1 h.2.2.2⟩
theorem Yvq (b p:LI)(K:KT)(hp:allB p)(hl:p.length<=900000000)(hb:b.length<=900000000)(h:∀ o,o=rcE b p->K (.one (.at (.slc 2))) [.row false .u8 b,.row false .u8 p,.row true .u8 o] []) :
  vc C0 aFr8 Tryz.f69 [.at (.slc 0),.at (.slc 1)] [.row false .u8 b,.row false .u8 p] (Yh 2 K):=by
 refine Eq.mp (show (allB p/\p.length<=900000000/\∀ o:LI,o=frE p->b.length<=1000000000/\o.length<=1000000000/\∀ o1:LI,o1=jnA b o->K (.one (.at (.slc 2))) [(.row false .u8 (b)),(.row false .u8 (p)),(.row true .u8 (o1))] [])=_ by kernel_rfl) ?_;refine⟨hp,hl,fun o eo=>⟨by omega,by have:=YbV p;rw[eo];omega,fun o1 e1=>h _ (by rw[e1,eo];rfl)⟩⟩
theorem Yyh:Tb C0 69 tFr8:=by
 refine .of Tryz.func69 (by decide) rfl fun args H K h hB=>?_
 unfold tFr8 at h;split at h<;>try exact h.elim
 rename_i b p;exact⟨aFr8,⟨Ye C0.ok Yvp _,Ye C0.ok Yjy _,trivial⟩,Yvq b p K h.1 h.2.1 h.2.2.1 h.2.2.2⟩
end Go.Proofs.YtedfbafngmicpaaGreat.Sx
