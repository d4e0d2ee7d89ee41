/- A part of the proof. -/
import Derived.Test.YtedfbafngmicpaaGreatG4
import Derived.Test.YtedfbafngmicpaaGreatG1
import Derived.Test.YtedfbafngmicpaaGreatG5
section
/- Plain laws of patches: apply, compose, rebase, invert. No program in sight. -/
namespace Go.Proofs.YtedfbafngmicpaaGreat

/-! ### Apply -/
def optE (k:Int) (v:Option Int):List Ent:=(v.map fun v=>(k,v)).toList

def appGo:List (Option Ent × Option Chg)->Option (List Ent)
 | []=>some []
 | (x,none) :: t=>(appGo t).map (x.toList ++ ·)
 | (x,some c) :: t=>if x.map Prod.snd=c.before then (appGo t).map (optE c.key c.after ++ ·) else none

/-- What applying comes to: the list, if the patch fits. -/
def app (l:List Ent) (p:List Chg):Option (List Ent):=appGo (pEC l p)

/-- What is still to be made, behind what has been made. -/
def AppAt (l:List Ent) (p:List Chg) (i k:Nat) (acc:List Ent):Prop:=app l p=(appGo (pEC (l.drop i) (p.drop k))).map (acc ++ ·)
theorem AppAt.start (l:List Ent) (p:List Chg):AppAt l p 0 0 []:=by
 unfold AppAt app;rw [List.drop_zero,List.drop_zero];cases appGo (pEC l p) <;> rfl
theorem appGo_keep {l':List Ent} {p':List Chg} {x:Ent} {c:Chg} (h:x.1 < c.key):appGo (pEC (x :: l') (c :: p'))=(appGo (pEC l' (c :: p'))).map (x :: ·):=by
 show appGo (pairs Prod.fst Chg.key (x :: l') (c :: p'))=_
 rw [pairs,if_pos h];rfl
theorem AppAt.keep {l:List Ent} {p:List Chg} {i k:Nat} {acc:List Ent} {x:Ent} {c:Chg} (h:AppAt l p i k acc) (hl:l.drop i=x :: l.drop (i+1)) (hp:p.drop k=c :: p.drop (k+1)) (hlt:x.1 < c.key):AppAt l p (i+1) k (acc ++ [x]):=by
 unfold AppAt at *
 rw [h,hl,hp,appGo_keep hlt,← hp,Option.map_map]
 congr 1
 funext t;simp
theorem AppAt.take {l:List Ent} {p:List Chg} {i k:Nat} {acc:List Ent} {x:Ent} {c:Chg} (h:AppAt l p i k acc) (hl:l.drop i=x :: l.drop (i+1)) (hp:p.drop k=c :: p.drop (k+1)) (he:x.1=c.key) :
  if some x.2=c.before then AppAt l p (i+1) (k+1) (acc ++ optE c.key c.after) else app l p=none:=by
 have e:pEC (x :: l.drop (i+1)) (c :: p.drop (k+1))=(some x,some c) :: pEC (l.drop (i+1)) (p.drop (k+1)):=by
  show pairs Prod.fst Chg.key _ _=_
  rw [pairs,if_neg (by omega),if_neg (by omega)]
 split
 ·rename_i hb
  unfold AppAt at *
  rw [h,hl,hp,e]
  simp only [appGo,Option.map_some,hb,if_true,Option.map_map]
  congr 1
  funext t;simp
 ·rename_i hb
  unfold AppAt at h
  rw [h,hl,hp,e]
  simp only [appGo,Option.map_some,hb,if_false,Option.map_none]
theorem AppAt.new {l:List Ent} {p:List Chg} {i k:Nat} {acc:List Ent} {c:Chg} (h:AppAt l p i k acc) (hl:l.drop i=[] ∨ ∃ x t,l.drop i=x :: t/\c.key < x.1) (hp:p.drop k=c :: p.drop (k+1)) :
  if none=c.before then AppAt l p i (k+1) (acc ++ optE c.key c.after) else app l p=none:=by
 have e:pEC (l.drop i) (c :: p.drop (k+1))=(none,some c) :: pEC (l.drop i) (p.drop (k+1)):=by
  show pairs Prod.fst Chg.key _ _=_ :: pairs Prod.fst Chg.key _ _
  rcases hl with hl | ⟨x,t,hl,hlt⟩
  ·rw [hl,pairs]
  ·rw [hl,pairs,if_neg (by omega),if_pos hlt]
 split
 ·rename_i hb
  unfold AppAt at *
  rw [h,hp,e]
  simp only [appGo,Option.map_none,hb,if_true,Option.map_map]
  congr 1
  funext t;simp
 ·rename_i hb
  unfold AppAt at h
  rw [h,hp,e]
  simp only [appGo,Option.map_none,hb,if_false]
theorem AppAt.fin {l:List Ent} {p:List Chg} {i k:Nat} {acc:List Ent} (h:AppAt l p i k acc) (hk:p.length<=k):app l p=some (acc ++ l.drop i):=by
 unfold AppAt at h
 rw [h,List.drop_eq_nil_of_le hk]
 have:∀ m:List Ent,appGo (pEC m [])=some m:=by
  intro m
  induction m with
  | nil=>simp [pairs,appGo]
  | cons x t ih=>simp [pairs,appGo,ih]
 rw [this];rfl

/-- The value of a key behind a patch. -/
def put (x:Option Int) (c:Option Chg):Option Int:=match c with
 | none=>x
 | some c=>c.after

/-- The patch fits the list: each change finds the value that it says. -/
def Fits (l:List Ent) (p:List Chg):Prop:=∀ c ∈ p,getE l c.key=c.before
instance (l:List Ent) (p:List Chg):Decidable (Fits l p):=by unfold Fits;infer_instance

/-! ### Invert -/
def inv1 (c:Chg):Chg:=(mkChg c.key c.after c.before).getD ⟨0,0,0,0⟩
def inv (p:List Chg):List Chg:=p.map inv1

end Go.Proofs.YtedfbafngmicpaaGreat
end
section
/- Plain laws of patches: compose and rebase. No program in sight. -/
namespace Go.Proofs.YtedfbafngmicpaaGreat

/-! ### Compose -/
/-! ### Rebase -/
/-- A key that both sides changed, differently. -/
def Cf (l m n:List Ent) (k:Int):Prop:=getE m k ≠ getE n k/\getE l k ≠ getE m k/\getE l k ≠ getE n k
instance (l m n:List Ent) (k:Int):Decidable (Cf l m n k):=by unfold Cf;infer_instance

end Go.Proofs.YtedfbafngmicpaaGreat
end
section
/- Plain laws of insertion into ascending lists, of key lists, of unions. No program in sight. -/
namespace Go.Proofs.YtedfbafngmicpaaGreat

def insGo (e:Ent):Bool->List Ent->List Ent
 | put,[]=>if put then [] else [e]
 | put,x :: t=>(if !put && decide (e.1<=x.1) then [e] else []) ++ ((if x.1=e.1 then [] else [x]) ++ insGo e (put || decide (e.1<=x.1)) t)

theorem insGo_len (e:Ent):∀ (l:List Ent) (put:Bool),(insGo e put l).length<=l.length+(if put then 0 else 1):=by
 intro l
 induction l with
 | nil=>intro put;cases put <;> simp [insGo]
 | cons x t ih =>
  intro put
  simp only [insGo,List.length_append,List.length_cons]
  have h1:=ih (put || decide (e.1<=x.1))
  have h2:(if x.1=e.1 then ([]:List Ent) else [x]).length<=1:=by split <;> simp
  cases put
  ·by_cases h:e.1<=x.1
   ·simp [h] at h1 ⊢;omega
   ·simp [h] at h1 ⊢;omega
  ·simp at h1 ⊢;omega

/-- The list with an entry put in. -/
abbrev insE (l:List Ent) (e:Ent):List Ent:=insGo e false l

theorem insE_len (l:List Ent) (e:Ent):(insE l e).length<=l.length+1:=by simpa using insGo_len e l false

theorem insGo_true {e:Ent}:∀ {l:List Ent},(∀ x ∈ l,e.1 < x.1)->insGo e true l=l:=by
 intro l
 induction l with
 | nil=>intro _;simp [insGo]
 | cons x t ih =>
  intro h
  have hx:=h x List.mem_cons_self
  have:¬ x.1=e.1:=by omega
  simp [insGo,this,ih fun y hy=>h y (List.mem_cons_of_mem _ hy)]

theorem insE_cons {e x:Ent} {t:List Ent} (h:Asc (x :: t)):insE (x :: t) e=if e.1 < x.1 then e :: x :: t else if x.1=e.1 then e :: t else x :: insE t e:=by
 have hh:=h.head
 rcases Int.lt_trichotomy e.1 x.1 with c | c | c
 ·have h1:e.1<=x.1:=by omega
  have h2:¬ x.1=e.1:=by omega
  simp [insE,insGo,h1,h2,c,insGo_true (e:=e) (l:=t) fun y hy=>by have:=hh y hy;omega]
 ·have h1:e.1<=x.1:=by omega
  have h2:¬ e.1 < x.1:=by omega
  simp [insE,insGo,c,insGo_true (e:=e) (l:=t) fun y hy=>by have:=hh y hy;omega]
 ·have h1:¬ e.1<=x.1:=by omega
  have h2:¬ x.1=e.1:=by omega
  have h3:¬ e.1 < x.1:=by omega
  simp [insE,insGo,h1,h2,h3]

theorem insE_mem {l:List Ent} {e z:Ent} (h:Asc l) (hz:z ∈ insE l e):z=e ∨ z ∈ l:=by
 induction l with
 | nil=>simp [insE,insGo] at hz;exact .inl hz
 | cons x t ih =>
  rw [insE_cons h] at hz
  split at hz
  ·rcases List.mem_cons.1 hz with rfl | hz
   ·exact .inl rfl
   ·exact .inr hz
  ·split at hz
   ·rcases List.mem_cons.1 hz with rfl | hz
    ·exact .inl rfl
    ·exact .inr (List.mem_cons_of_mem _ hz)
   ·rcases List.mem_cons.1 hz with rfl | hz
    ·exact .inr List.mem_cons_self
    ·rcases ih h.tail hz with rfl | hz
     ·exact .inl rfl
     ·exact .inr (List.mem_cons_of_mem _ hz)

theorem insE_asc {l:List Ent} (e:Ent) (h:Asc l):Asc (insE l e):=by
 induction l with
 | nil=>simp [insE,insGo,Srt]
 | cons x t ih =>
  rw [insE_cons h]
  split
  ·rename_i c
   exact Srt.cons h fun y hy=>by
    rcases List.mem_cons.1 hy with rfl | hy
    ·exact c
    ·have:=h.head y hy;omega
  ·split
   ·rename_i c
    exact Srt.cons h.tail fun y hy=>by have:=h.head y hy;omega
   ·rename_i c1 c2
    refine Srt.cons (ih h.tail) fun y hy=>?_
    rcases insE_mem h.tail hy with rfl | hy
    ·omega
    ·exact h.head y hy

theorem insE_get {l:List Ent} (e:Ent) (h:Asc l) (q:Int):getE (insE l e) q=if e.1=q then some e.2 else getE l q:=by
 obtain ⟨k,v⟩:=e
 induction l with
 | nil=>simp [insE,insGo,getE]
 | cons x t ih =>
  obtain ⟨a,b⟩:=x
  rw [insE_cons h]
  by_cases c1:k < a
  ·simp only [if_pos c1,getE]
  ·rw [if_neg c1]
   by_cases c2:a=k
   ·subst c2;simp [getE]
    split <;> simp_all
   ·rw [if_neg c2]
    simp only [getE,ih h.tail]
    by_cases c3:a=q
    ·simp [c3,show ¬ k=q by omega]
    ·simp [c3]

/-- The keys of a list of entries, put together. -/
def keysOf (xs:List Int):List Ent:=xs.foldl (fun acc k=>insE acc (k,0)) []

/-- All keys of three lists, ascending. -/
def keys3 (l m n:List Ent):List Int:=(keysOf ((l ++ m ++ n).map Prod.fst)).map Prod.fst

/-- A valid list out of the first entries of a raw one. -/
def listE (raw:List Ent) (most:Nat):List Ent:=(raw.take most).foldl insE []

theorem listE_spec (raw:List Ent) (most:Nat):Asc (listE raw most)/\(listE raw most).length<=most:=by
 unfold listE
 have h1:(raw.take most).length<=most:=List.length_take_le _ _
 generalize raw.take most=xs at h1
 have:∀ (xs acc:List Ent),Asc acc->Asc (xs.foldl insE acc)/\(xs.foldl insE acc).length<=acc.length+xs.length:=by
  intro xs
  induction xs with
  | nil=>intro acc h;exact ⟨h,by simp⟩
  | cons x t ih =>
   intro acc h
   have:=ih _ (insE_asc x h)
   have h2:=insE_len acc x
   exact ⟨this.1,by simp only [List.foldl_cons,List.length_cons];omega⟩
 have:=this xs [] Srt.nil
 exact ⟨this.1,by simp at this;omega⟩

end Go.Proofs.YtedfbafngmicpaaGreat
end
section
/- The reference's lists: what their functions answer. -/
namespace Go.Proofs.YtedfbafngmicpaaGreat.Sx
open Go

theorem wrap_in {x:Int} (h0 : -9223372036854775808<=x) (h1:x<=9223372036854775807):IntKind.i64.wrap x=x:=by
 rw [IntKind.wrap_i64];omega
theorem drop_eq_iff {α:Type} {l m:List α} {k:Nat} {x y:α} (hl:l[k]?=some x) (hm:m[k]?=some y):(l.drop k=m.drop k) ↔ x=y/\l.drop (k+1)=m.drop (k+1):=by
 rw [drop_cons hl,drop_cons hm,List.cons.injEq]
def sameB {α:Type} [DecidableEq α] (l m:List α):Bool:=decide (l=m)
structure XS {α:Type} [DecidableEq α] (l m:List α) where
 i:Nat
 h:i<=l.length/\l.length=m.length/\sameB l m=decide (l.drop i=m.drop i)
theorem XS.next {α:Type} [DecidableEq α] {l m:List α} (z:XS l m) {x y:α} (hx:l[z.i]?=some x) (hy:m[z.i]?=some y) (he:x=y):∃ z':XS l m,z'.i=z.i+1:=by
 have h1:=(List.getElem?_eq_some_iff.1 hx).1
 refine ⟨⟨z.i+1,by omega,z.h.2.1,?_⟩,rfl⟩
 rw [z.h.2.2]
 apply decide_eq_decide.2
 rw [drop_eq_iff hx hy]
 exact ⟨fun h=>h.2,fun h=>⟨he,h⟩⟩
theorem XS.fin {α:Type} [DecidableEq α] {l m:List α} (z:XS l m) (h:z.i=l.length):sameB l m=true:=by
 rw [z.h.2.2,h,List.drop_length,z.h.2.1,List.drop_length];rfl
theorem asc_step {l:List Ent} {k:Nat} {x y:Ent} (hx:l[k]?=some x) (hy:l[k+1]?=some y):Asc (l.drop k) ↔ x.1 < y.1/\Asc (l.drop (k+1)):=by
 rw [drop_cons hx,drop_cons hy]
 constructor
 ·intro h;exact ⟨h.head _ (by simp),h.tail⟩
 ·rintro ⟨h1,h2⟩
  refine h2.cons fun z hz=>?_
  rcases List.mem_cons.1 hz with rfl | hz
  ·exact h1
  ·have:=h2.head z hz;omega
structure XA (l:List Ent) where
 i:Nat
 h:1<=i/\(i<=l.length ∨ i=1)/\(Asc l ↔ Asc (l.drop (i - 1)))
theorem XA.split {l:List Ent} (z:XA l) (hi:z.i < l.length):(ascB l=true ↔ (eA l (z.i - 1)).1 < (eA l z.i).1/\Asc (l.drop z.i)):=by
 obtain ⟨k,hk⟩:∃ k,z.i=k+1:=⟨z.i - 1,by have:=z.h.1;omega⟩
 have h1:=eA_get (p:=l) (n:=k) (by omega)
 have h2:=eA_get (p:=l) (n:=k+1) (by omega)
 have h3:=asc_step h1 h2
 have h4:=z.h.2.2
 rw [hk] at h4 ⊢
 simp only [Nat.add_sub_cancel] at h4 ⊢
 rw [ascB,decide_eq_true_eq,h4,h3]
theorem XA.fin {l:List Ent} (z:XA l) (hi:l.length<=z.i):ascB l=true:=by
 rw [ascB,decide_eq_true_eq,z.h.2.2]
 have:(l.drop (z.i - 1)).length<=1:=by simp;omega
 match l.drop (z.i - 1),this with
 | [],_=>exact Srt.nil
 | [x],_=>exact Srt.nil.cons (by simp)
structure XGet (l:List Ent) (q:Int) where
 i:Nat
 h:i<=l.length/\getE l q=getE (l.drop i) q
def outE (l:List Ent) (lo hi:Int):List Ent:=l.filter fun x=>decide (x.1 < lo) || decide (hi < x.1)
structure XOut (l:List Ent) (lo hi:Int) where
 i:Nat
 h:i<=l.length
noncomputable def aOut (l:List Ent) (lo hi:Int):Ann C0:={ Γ:=[],inv:=fun n=>match n with
 | 3=>some { X:=XOut l lo hi,sl:=[8,7],tf:=fun x=>[vi .i64 x.i,.one (.at (.slc 1))],hf:=fun x=>[.row false EC.ent l,.row true EC.ent (outE (l.take x.i) lo hi)],μ:=fun x=>l.length - x.i }
 | _=>none }
def tOut:Tfm C0:=fun args H K=>match args,H with
 | [.at (.slc 0),.at (.val (.int .i64 lo)),.at (.val (.int .i64 hi))],[.row false .ent l]=>l.length<=1000000/\K (.one (.at (.slc 1))) [.row false EC.ent l,.row true EC.ent (outE l lo hi)] []
 | _,_=>False
theorem outE_snoc {l:List Ent} {lo hi:Int} {i:Nat} {x:Ent} (h:l[i]?=some x):outE (l.take (i+1)) lo hi=outE (l.take i) lo hi ++ (if (decide (x.1 < lo) || decide (hi < x.1))=true then [x] else []):=by
 rw [take_snoc h]
 unfold outE
 rw [List.filter_append]
 simp only [List.filter_cons,List.filter_nil]
theorem outE_len (l:List Ent) (lo hi:Int) (i:Nat):(outE (l.take i) lo hi).length<=i:=by
 unfold outE
 exact Nat.le_trans (List.length_filter_le _ _) (List.length_take_le _ _)
theorem vc_out (l:List Ent) (lo hi:Int) (K:KT) (hsm:l.length<=1000000) (h:K (.one (.at (.slc 1))) [.row false EC.ent l,.row true EC.ent (outE l lo hi)] []) :
  vc C0 (aOut l lo hi) Tryz.f114 [.at (.slc 0),.at (.val (.int .i64 lo)),.at (.val (.int .i64 hi))] [.row false EC.ent l] (normK 1 K):=by
 refine Eq.mp (show ((∃ x:XOut l lo hi,(True/\(True/\((Value.int .i64 (lo))=(Value.int .i64 (lo)))/\((Value.int .i64 (hi))=(Value.int .i64 (hi)))/\True/\((Value.int .i64 0)=(Value.int .i64 ((x.i:Int))))/\True)/\((l)=(l))/\([]=(outE (List.take x.i l) lo hi))/\True))/\(∀ x:XOut l lo hi,(True->(brS (decide ((x.i:Int) < (l.length:Int))) (((0<=(x.i:Int))/\((x.i:Int) < (l.length:Int))/\(brS (decide ((eA l x.i).fst < lo)) (((0<=(x.i:Int))/\((x.i:Int) < (l.length:Int))/\(((outE (List.take x.i l) lo hi).length+[((eA l x.i).fst,(eA l x.i).snd)].length) * bytesOf C0 EC.ent<=140737488355328)/\(∃ x':XOut l lo hi,(True/\((True/\((Value.int .i64 (lo))=(Value.int .i64 (lo)))/\((Value.int .i64 (hi))=(Value.int .i64 (hi)))/\True/\((Value.int .i64 (IntKind.i64.wrap ((x.i:Int)+1)))=(Value.int .i64 ((x'.i:Int))))/\True)/\((l)=(l))/\((outE (List.take x.i l) lo hi ++ [((eA l x.i).fst,(eA l x.i).snd)])=(outE (List.take x'.i l) lo hi))/\True)/\(l.length - x'.i < l.length - x.i))))) (((0<=(x.i:Int))/\((x.i:Int) < (l.length:Int))/\(brS (decide ((eA l x.i).fst > hi)) (((0<=(x.i:Int))/\((x.i:Int) < (l.length:Int))/\(((outE (List.take x.i l) lo hi).length+[((eA l x.i).fst,(eA l x.i).snd)].length) * bytesOf C0 EC.ent<=140737488355328)/\(∃ x':XOut l lo hi,(True/\((True/\((Value.int .i64 (lo))=(Value.int .i64 (lo)))/\((Value.int .i64 (hi))=(Value.int .i64 (hi)))/\True/\((Value.int .i64 (IntKind.i64.wrap ((x.i:Int)+1)))=(Value.int .i64 ((x'.i:Int))))/\True)/\((l)=(l))/\((outE (List.take x.i l) lo hi ++ [((eA l x.i).fst,(eA l x.i).snd)])=(outE (List.take x'.i l) lo hi))/\
 True)/\(l.length - x'.i < l.length - x.i))))) ((∃ x':XOut l lo hi,(True/\((True/\((Value.int .i64 (lo))=(Value.int .i64 (lo)))/\((Value.int .i64 (hi))=(Value.int .i64 (hi)))/\True/\((Value.int .i64 (IntKind.i64.wrap ((x.i:Int)+1)))=(Value.int .i64 ((x'.i:Int))))/\True)/\((l)=(l))/\((outE (List.take x.i l) lo hi)=(outE (List.take x'.i l) lo hi))/\True)/\(l.length - x'.i < l.length - x.i)))))))))) ((K (.one (.at (.slc 1))) [(.row false EC.ent (l)),(.row true EC.ent (outE (List.take x.i l) lo hi))] []))))))=_ by kernel_rfl) ?_
 refine ⟨⟨⟨0,Nat.zero_le _⟩,by simp [outE]⟩,fun x _=>brS_of (fun hi'=>?_) fun hi'=>?_⟩
 ·have hi':x.i < l.length:=by simpa using hi'
  have hx:=eA_get hi'
  have hs:=outE_snoc (lo:=lo) (hi:=hi) hx
  have hlen:=outE_len l lo hi x.i
  have nx:XOut l lo hi:=⟨x.i+1,by omega⟩
  have w1:IntKind.i64.wrap ((x.i:Int)+1)=((x.i+1:Nat):Int):=by rw [wrap_in (by omega) (by omega)];simp
  simp only [w1,bytes_ent]
  refine ⟨by omega,by omega,brS_of (fun h1=>⟨by omega,by omega,?_,⟨⟨x.i+1,by omega⟩,?_⟩⟩) fun h1=>⟨by omega,by omega,brS_of (fun h2=>⟨by omega,by omega,?_,⟨⟨x.i+1,by omega⟩,?_⟩⟩) fun h2=>⟨⟨x.i+1,by omega⟩,?_⟩⟩⟩
  ·simp;omega
  ·rw [if_pos (by simp only [decide_eq_true_eq] at h1;simp [h1])] at hs
   simp [hs];omega
  ·simp;omega
  ·rw [if_pos (by simp only [decide_eq_true_eq] at h2;simp;omega)] at hs
   simp [hs];omega
  ·rw [if_neg (by simp only [decide_eq_false_iff_not] at h1 h2;simp;omega)] at hs
   simp [hs];omega
 ·have hi':x.i=l.length:=by have:=x.h;simp at hi';omega
  rw [hi',List.take_length]
  exact h
theorem s_out:SoundT C0 114 tOut:=by
 refine .of Tryz.func114 (by decide) rfl fun args H K h hB=>?_
 unfold tOut at h
 split at h <;> try exact h.elim
 rename_i lo hi l
 exact ⟨aOut l lo hi,trivial,vc_out l lo hi K h.1 h.2⟩
structure XIns (l:List Ent) (e:Ent) where
 i:Nat
 acc:List Ent
 put:Bool
 h:i<=l.length/\acc.length<=i+put.toNat/\insE l e=acc ++ insGo e put (l.drop i)
noncomputable def aIns (l:List Ent) (e:Ent):Ann C0:={ Γ:=[],inv:=fun n=>match n with
 | 4=>some { X:=XIns l e,sl:=[7,6,5,3],tf:=fun x=>[vi .i64 x.i,vb x.put,.one (.at (.slc 2)),.one (.at (.ptr 1 0))],hf:=fun x=>[.row false EC.ent l,.box [vI e.1,vI e.2],.row true EC.ent x.acc],μ:=fun x=>l.length - x.i }
 | _=>none }
def tIns:Tfm C0:=fun args H K=>match args,H with
 | [.at (.slc 0),.agg [.val (.int .i64 k),.val (.int .i64 v)]],[.row false .ent l]=>l.length<=1000000/\K (.one (.at (.slc 1))) [.row false EC.ent l,.row true EC.ent (insE l (k,v))] []
 | _,_=>False
theorem insGo_step {e x:Ent} {put:Bool} {l:List Ent} {i:Nat} (h:l[i]?=some x):insGo e put (l.drop i)=(if !put && decide (e.1<=x.1) then [e] else []) ++ ((if x.1=e.1 then [] else [x]) ++ insGo e (put || decide (e.1<=x.1)) (l.drop (i+1))):=by
 rw [drop_cons h,insGo]
theorem XIns.next {l:List Ent} {e:Ent} (z:XIns l e) {x:Ent} (hx:l[z.i]?=some x) {put':Bool} {acc':List Ent} (hp:put'=(z.put || decide (e.1<=x.1)))
  (ha:acc'=z.acc ++ ((if !z.put && decide (e.1<=x.1) then [e] else []) ++ (if x.1=e.1 then [] else [x]))):∃ z':XIns l e,z'.i=z.i+1/\z'.put=put'/\z'.acc=acc':=by
 have h1:=(List.getElem?_eq_some_iff.1 hx).1
 obtain ⟨hi,hl,he⟩:=z.h
 rw [insGo_step hx] at he
 refine ⟨⟨z.i+1,acc',put',by omega,?_,?_⟩,rfl,rfl,rfl⟩
 ·subst hp ha
  have h2:(if x.1=e.1 then ([]:List Ent) else [x]).length<=1:=by split <;> simp
  cases hz:z.put <;> rw [hz] at hl <;> by_cases hc:e.1<=x.1 <;> simp [hc] at hl ⊢ <;> omega
 ·subst hp ha
  rw [he];simp only [List.append_assoc]
theorem XIns.fin {l:List Ent} {e:Ent} (z:XIns l e) (h:z.i=l.length):insE l e=z.acc ++ (if z.put then [] else [e]):=by
 rw [z.h.2.2,h,List.drop_length];rfl
theorem vc_ins (l : List Ent) (k v : Int) (K : KT) (hsm : l.length ≤ 1000000) (h : K (.one (.at (.slc 1))) [.row false EC.ent l, .row true EC.ent (insE l (k, v))] []) :
    vc C0 (aIns l (k, v)) Tryz.f18 [.at (.slc 0), .agg [.val (.int .i64 k), .val (.int .i64 v)]] [.row false EC.ent l] (normK 1 K) := by
  refine Eq.mp (show ((∃ x : XIns l (k, v), (True ∧ (True ∧ True ∧ True ∧ ((Value.bool false) = (Value.bool (x.put))) ∧ ((Value.int IntKind.i64 0) = (Value.int IntKind.i64 ((↑x.i : Int)))) ∧ True) ∧ ((l) = (l)) ∧ (((Value.int IntKind.i64 (k)) = (Value.int IntKind.i64 (k))) ∧ ((Value.int IntKind.i64 (v)) = (Value.int IntKind.i64 (v))) ∧ True) ∧ ([] = (x.acc)) ∧ True)) ∧
(∀ x : XIns l (k, v), (True → (brS (decide ((↑x.i : Int) < (↑l.length : Int))) ((brS (!x.put) (((0 ≤ (↑x.i : Int)) ∧ ((↑x.i : Int) < (↑l.length : Int)) ∧ (brS (decide ((eA l x.i).fst ≥ k)) ((((x.acc.length + [(k, v)].length) * bytesOf C0 EC.ent ≤ 140737488355328) ∧ (0 ≤ (↑x.i : Int)) ∧ ((↑x.i : Int) < (↑l.length : Int)) ∧ (brS ((eA l x.i).fst != k) (((0 ≤ (↑x.i : Int)) ∧ ((↑x.i : Int) < (↑l.length : Int)) ∧ (((x.acc ++ [(k, v)]).length + [((eA l x.i).fst, (eA l x.i).snd)].length) * bytesOf C0 EC.ent ≤ 140737488355328) ∧ (∃ x' : XIns l (k, v), (True ∧ ((True ∧ True ∧ True ∧ ((Value.bool true) = (Value.bool (x'.put))) ∧ ((Value.int IntKind.i64 (IntKind.i64.wrap ((↑x.i : Int) + 1))) = (Value.int IntKind.i64 ((↑x'.i : Int)))) ∧ True) ∧ ((l) = (l)) ∧ (((Value.int IntKind.i64 (k)) = (Value.int IntKind.i64 (k))) ∧ ((Value.int IntKind.i64 (v)) = (Value.int IntKind.i64 (v))) ∧ True) ∧ ((x.acc ++ [(k, v)] ++ [((eA l x.i).fst, (eA l x.i).snd)]) = (x'.acc)) ∧ True) ∧ (l.length - x'.i < l.length - x.i))))) ((∃ x' : XIns l (k, v), (True ∧ ((True ∧ True ∧ True ∧ ((Value.bool true) = (Value.bool (x'.put))) ∧
    ((Value.int IntKind.i64 (IntKind.i64.wrap ((↑x.i : Int) + 1))) = (Value.int IntKind.i64 ((↑x'.i : Int)))) ∧ True) ∧ ((l) = (l)) ∧ (((Value.int IntKind.i64 (k)) = (Value.int IntKind.i64 (k))) ∧ ((Value.int IntKind.i64 (v)) = (Value.int IntKind.i64 (v))) ∧ True) ∧ ((x.acc ++ [(k, v)]) = (x'.acc)) ∧ True) ∧ (l.length - x'.i < l.length - x.i))))))) (((0 ≤ (↑x.i : Int)) ∧ ((↑x.i : Int) < (↑l.length : Int)) ∧ (brS ((eA l x.i).fst != k) (((0 ≤ (↑x.i : Int)) ∧ ((↑x.i : Int) < (↑l.length : Int)) ∧ ((x.acc.length + [((eA l x.i).fst, (eA l x.i).snd)].length) * bytesOf C0 EC.ent ≤ 140737488355328) ∧ (∃ x' : XIns l (k, v), (True ∧ ((True ∧ True ∧ True ∧ ((Value.bool (x.put)) = (Value.bool (x'.put))) ∧ ((Value.int IntKind.i64 (IntKind.i64.wrap ((↑x.i : Int) + 1))) = (Value.int IntKind.i64 ((↑x'.i : Int)))) ∧ True) ∧ ((l) = (l)) ∧ (((Value.int IntKind.i64 (k)) = (Value.int IntKind.i64 (k))) ∧ ((Value.int IntKind.i64 (v)) = (Value.int IntKind.i64 (v))) ∧ True) ∧ ((x.acc ++ [((eA l x.i).fst, (eA l x.i).snd)]) = (x'.acc)) ∧ True) ∧ (l.length - x'.i < l.length - x.i))))) ((∃ x' : XIns l (k, v), (True ∧ ((True ∧ True ∧ True ∧ ((Value.bool (x.put)) = (Value.bool (x'.put))) ∧ ((Value.int IntKind.i64 (IntKind.i64.wrap ((↑x.i : Int) + 1))) = (Value.int IntKind.i64 ((↑x'.i : Int)))) ∧ True) ∧ ((l) = (l)) ∧ (((Value.int IntKind.i64 (k)) = (Value.int IntKind.i64 (k))) ∧ ((Value.int IntKind.i64 (v)) = (Value.int IntKind.i64 (v))) ∧ True) ∧ ((x.acc) = (x'.acc)) ∧ True) ∧
    (l.length - x'.i < l.length - x.i)))))))))) (((0 ≤ (↑x.i : Int)) ∧ ((↑x.i : Int) < (↑l.length : Int)) ∧ (brS ((eA l x.i).fst != k) (((0 ≤ (↑x.i : Int)) ∧ ((↑x.i : Int) < (↑l.length : Int)) ∧ ((x.acc.length + [((eA l x.i).fst, (eA l x.i).snd)].length) * bytesOf C0 EC.ent ≤ 140737488355328) ∧ (∃ x' : XIns l (k, v), (True ∧ ((True ∧ True ∧ True ∧ ((Value.bool (x.put)) = (Value.bool (x'.put))) ∧ ((Value.int IntKind.i64 (IntKind.i64.wrap ((↑x.i : Int) + 1))) = (Value.int IntKind.i64 ((↑x'.i : Int)))) ∧ True) ∧ ((l) = (l)) ∧ (((Value.int IntKind.i64 (k)) = (Value.int IntKind.i64 (k))) ∧ ((Value.int IntKind.i64 (v)) = (Value.int IntKind.i64 (v))) ∧ True) ∧ ((x.acc ++ [((eA l x.i).fst, (eA l x.i).snd)]) = (x'.acc)) ∧ True) ∧ (l.length - x'.i < l.length - x.i))))) ((∃ x' : XIns l (k, v), (True ∧ ((True ∧ True ∧ True ∧ ((Value.bool (x.put)) = (Value.bool (x'.put))) ∧ ((Value.int IntKind.i64 (IntKind.i64.wrap ((↑x.i : Int) + 1))) = (Value.int IntKind.i64 ((↑x'.i : Int)))) ∧ True) ∧ ((l) = (l)) ∧ (((Value.int IntKind.i64 (k)) = (Value.int IntKind.i64 (k))) ∧ ((Value.int IntKind.i64 (v)) = (Value.int IntKind.i64 (v))) ∧ True) ∧ ((x.acc) = (x'.acc)) ∧ True) ∧ (l.length - x'.i < l.length - x.i))))))))) ((brS (!x.put) ((((x.acc.length + [(k, v)].length) * bytesOf C0 EC.ent ≤ 140737488355328) ∧ (K (SV.one (TV.at (At.slc 1))) [(Chunk.row false (EC.ent) (l)), (Chunk.row true (EC.ent) (x.acc ++ [(k, v)]))] [])))
    ((K (SV.one (TV.at (At.slc 1))) [(Chunk.row false (EC.ent) (l)), (Chunk.row true (EC.ent) (x.acc))] [])))))))) = _ by kernel_rfl) ?_
  refine ⟨⟨⟨0, [], false, Nat.zero_le _, by simp, by simp⟩, by simp⟩, fun x _ => brS_of (fun hi => ?_) fun hi => ?_⟩
  · have hi : x.i < l.length := by simpa using hi
    have hx := eA_get hi
    have hlen := x.h.2.1
    have hpt : x.put.toNat ≤ 1 := by cases x.put <;> decide
    have w1 : IntKind.i64.wrap ((x.i : Int) + 1) = ((x.i + 1 : Nat) : Int) := by rw [wrap_in (by omega) (by omega)]; simp
    simp only [w1, bytes_ent]
    have go : ∀ (put' : Bool) (acc' : List Ent), put' = (x.put || decide (k ≤ (eA l x.i).1)) → acc' = x.acc ++ ((if !x.put && decide (k ≤ (eA l x.i).1) then [(k, v)] else []) ++ (if (eA l x.i).1 = k then [] else [eA l x.i])) →
        ∃ z' : XIns l (k, v), z'.i = x.i + 1 ∧ z'.put = put' ∧ z'.acc = acc' := fun put' acc' hp ha => x.next hx hp ha
    refine brS_of (fun hp => ⟨by omega, by omega, brS_of (fun hc => ⟨?_, by omega, by omega, brS_of (fun hn => ⟨by omega, by omega, ?_, ?_⟩) fun hn => ?_⟩) fun hc => ⟨by omega, by omega, brS_of (fun hn => ⟨by omega, by omega, ?_, ?_⟩) fun hn => ?_⟩⟩) fun hp => ⟨by omega, by omega, brS_of (fun hn => ⟨by omega, by omega, ?_, ?_⟩) fun hn => ?_⟩
    all_goals try simp only [decide_eq_true_eq, decide_eq_false_iff_not, bne_iff_ne, ne_eq, Bool.not_eq_true', Bool.not_eq_false', bne_eq_false_iff_eq, ge_iff_le] at *
    all_goals first
      | (simp; omega)
      | (obtain ⟨z', e1, e2, e3⟩ := go _ _ rfl rfl
         refine ⟨z', ?_⟩
         simp [*]
         omega)
  · have hi : x.i = l.length := by have := x.h.1; simp at hi; omega
    have hf := x.fin hi
    have hlen := x.h.2.1
    have hpt : x.put.toNat ≤ 1 := by cases x.put <;> decide
    refine brS_of (fun hp => ⟨?_, ?_⟩) fun hp => ?_
    · simp [bytes_ent]; omega
    · simp at hp; rw [hp] at hf; simp at hf; rw [hf] at h; exact h
    · simp at hp; rw [hp] at hf; simp at hf; rw [hf] at h; exact h
theorem s_ins:SoundT C0 18 tIns:=by
 refine .of Tryz.func18 (by decide) rfl fun args H K h hB=>?_
 unfold tIns at h
 split at h <;> try exact h.elim
 rename_i k v l
 exact ⟨aIns l (k,v),trivial,vc_ins l k v K h.1 h.2⟩
noncomputable def aDel:Ann C0:={ Γ:=[(114,frameT [] tOut)] }
def tDel:Tfm C0:=fun args H K=>match args,H with
 | [.at (.slc 0),.at (.val (.int .i64 q))],[.row false .ent l]=>l.length<=1000000/\K (.one (.at (.slc 1))) [.row false EC.ent l,.row true EC.ent (outE l q q)] []
 | _,_=>False
theorem vc_del (l:List Ent) (q:Int) (K:KT) (h1:l.length<=1000000) (h2:K (.one (.at (.slc 1))) [.row false EC.ent l,.row true EC.ent (outE l q q)] []) :
  vc C0 aDel Tryz.f64 [.at (.slc 0),.at (.val (.int .i64 q))] [.row false EC.ent l] (normK 1 K):=by
 have e:((l.length<=1000000) ∧
(K (SV.one (TV.at (At.slc 1))) [(Chunk.row false (EC.ent) (l)),(Chunk.row true (EC.ent) (outE l q q))] []))=vc C0 aDel Tryz.f64 [.at (.slc 0),.at (.val (.int .i64 q))] [.row false EC.ent l] (normK 1 K):=by kernel_rfl
 rw [← e]
 exact ⟨h1,h2⟩
theorem s_del:SoundT C0 64 tDel:=by
 refine .of Tryz.func64 (by decide) rfl fun args H K h hB=>?_
 unfold tDel at h
 split at h <;> try exact h.elim
 rename_i q l
 have hG:GOK C0 aDel.Γ:=⟨frame C0.ok s_out _,trivial⟩
 exact ⟨aDel,hG,vc_del l q K h.1 h.2⟩
structure XLst (l:List Ent) (most:Int) where
 i:Nat
 h:i<=l.length/\(i:Int)<=most
noncomputable def aLst (l:List Ent) (most:Int):Ann C0:={ Γ:=[(18,frameT [] tIns)],inv:=fun n=>match n with
 | 3=>some { X:=XLst l most,sl:=[6,5],tf:=fun x=>[vi .i64 x.i,.one (.at (.slc 1))],hf:=fun x=>[.row false EC.ent l,.row true EC.ent (listE l x.i)],μ:=fun x=>l.length - x.i }
 | _=>none }
def tLst:Tfm C0:=fun args H K=>match args,H with
 | [.at (.slc 0),.at (.val (.int .i64 most))],[.row false .ent l]=>0<=most/\most<=1000000/\K (.one (.at (.slc 1))) [.row false EC.ent l,.row true EC.ent (listE l most.toNat)] []
 | _,_=>False
theorem listE_snoc {l:List Ent} {i:Nat} {x:Ent} (h:l[i]?=some x):listE l (i+1)=insE (listE l i) x:=by
 unfold listE
 rw [take_snoc h]
 simp
theorem listE_full {l:List Ent} {n:Nat} (h:l.length<=n):listE l n=listE l l.length:=by
 unfold listE
 rw [List.take_of_length_le h,List.take_of_length_le (Nat.le_refl _)]
theorem vc_lst (l:List Ent) (most:Int) (K:KT) (hmax:l.length<=9223372036854775807) (h0:0<=most) (h1:most<=1000000) (h:K (.one (.at (.slc 1))) [.row false EC.ent l,.row true EC.ent (listE l most.toNat)] []) :
  vc C0 (aLst l most) Tryz.f62 [.at (.slc 0),.at (.val (.int .i64 most))] [.row false EC.ent l] (normK 1 K):=by
 refine Eq.mp (show ((∃ x:XLst l most,(True/\(True/\((Value.int .i64 (most))=(Value.int .i64 (most)))/\True/\((Value.int .i64 0)=(Value.int .i64 ((x.i:Int))))/\True)/\((l)=(l))/\([]=(listE l x.i))/\True))/\(∀ x:XLst l most,(True->(brS (decide ((x.i:Int) < (l.length:Int))) ((brS (decide ((x.i:Int) < most)) (((0<=(x.i:Int))/\((x.i:Int) < (l.length:Int))/\((listE l x.i).length<=1000000)/\(∃ x':XLst l most,(True/\((True/\((Value.int .i64 (most))=(Value.int .i64 (most)))/\True/\((Value.int .i64 (IntKind.i64.wrap ((x.i:Int)+1)))=(Value.int .i64 ((x'.i:Int))))/\True)/\((l)=(l))/\((insE (listE l x.i) ((eA l x.i).fst,(eA l x.i).snd))=(listE l x'.i))/\True)/\(l.length - x'.i < l.length - x.i))))) ((K (.one (.at (.slc 1))) [(.row false EC.ent (l)),(.row true EC.ent (listE l x.i))] [])))) ((K (.one (.at (.slc 1))) [(.row false EC.ent (l)),(.row true EC.ent (listE l x.i))] []))))))=_ by kernel_rfl) ?_
 refine ⟨⟨⟨0,Nat.zero_le _,h0⟩,by simp [listE]⟩,fun x _=>brS_of (fun hi=>brS_of (fun hm=>?_) fun hm=>?_) fun hi=>?_⟩
 ·have hi:x.i < l.length:=by simpa using hi
  have hm:(x.i:Int) < most:=by simpa using hm
  have hs:=listE_snoc (eA_get hi)
  have hlen:=(listE_spec l x.i).2
  have w1:IntKind.i64.wrap ((x.i:Int)+1)=((x.i+1:Nat):Int):=by rw [wrap_in (by omega) (by omega)];simp
  simp only [w1]
  refine ⟨by omega,by omega,by omega,⟨x.i+1,by omega,by omega⟩,?_⟩
  simp [hs];omega
 ·have e:most.toNat=x.i:=by have:=x.h.2;simp at hm;omega
  rw [e] at h;exact h
 ·have hi:x.i=l.length:=by have:=x.h.1;simp at hi;omega
  have:=x.h.2
  rw [listE_full (n:=most.toNat) (by omega),← hi] at h;exact h
theorem s_lst:SoundT C0 62 tLst:=by
 refine .of Tryz.func62 (by decide) rfl fun args H K h hB=>?_
 unfold tLst at h
 split at h <;> try exact h.elim
 rename_i most l
 exact ⟨aLst l most,⟨frame C0.ok s_ins _,trivial⟩,vc_lst l most K (hB 0 _ _ _ rfl) h.1 h.2.1 h.2.2⟩
def tMod:Tfm C0:=fun args H K=>match args,H with
 | [.at (.val (.int .i64 k)),.at (.val (.int .i64 n))],[]=>0 < n/\n<=9223372036854775807/\∀ x,x=k % n->K (.one (.at (vI x))) [] []
 | _,_=>False
theorem s_mod:SoundT C0 8 tMod:=by
 refine .of Tryz.func8 (by decide) rfl fun args H K h hB=>⟨A0,trivial,?_⟩
 unfold tMod at h
 split at h <;> try exact h.elim
 rename_i k n
 obtain ⟨h0,h1,h⟩:=h
 have h:=h _ rfl
 refine Eq.mp (show ((n ≠ 0)/\(brS (decide (k.tmod n < 0)) ((K (.one (.at (.val (Value.int .i64 (IntKind.i64.wrap (k.tmod n+n)))))) [] [])) ((K (.one (.at (.val (Value.int .i64 (k.tmod n))))) [] []))))=_ by kernel_rfl) ⟨by omega,brS_of (fun e=>?_) fun e=>?_⟩
 all_goals simp only [decide_eq_true_eq,decide_eq_false_iff_not] at e
 ·have e1:k.tmod n+n=k % n:=by
   rw [Int.tmod_eq_emod] at e ⊢
   split at e <;> rename_i hc
   ·have:=Int.emod_nonneg k (show n ≠ 0 by omega);omega
   ·rw [if_neg hc]
    have:(n.natAbs:Int)=n:=by omega
    omega
  have h2:=Int.emod_nonneg k (show n ≠ 0 by omega)
  have h3:=Int.emod_lt_of_pos k h0
  rw [e1,wrap_in (by omega) (by omega)];exact h
 ·have e1:k.tmod n=k % n:=by
   rw [Int.tmod_eq_emod] at e ⊢
   split at e <;> rename_i hc
   ·rw [if_pos hc];omega
   ·have h3:=Int.emod_lt_of_pos k h0
    have:(n.natAbs:Int)=n:=by omega
    omega
  rw [e1];exact h
structure XN (n:Nat) where
 i:Nat
 h:i<=n
set_option maxHeartbeats 1000000 in
structure XU (l m:List Ent) (p:Int) where
 i:Nat
 h:i<=m.length
structure XDif (l m:List Ent) where
 i:Nat
 h:i<=(keys3 l m []).length
end Go.Proofs.YtedfbafngmicpaaGreat.Sx
end
section
/- Planting trees: the statements' helpers. -/
namespace Go.Proofs.YtedfbafngmicpaaGreat.Sx
open Go

/-KEEP Wf Kept makeS relA nxt decS NodeR exW inU live Arn.cap Arn.free balN PlantR maxSize mkNode-/
def tLeast:Tfm C0:=fun args H K=>match args,H with
 | [.at (.val (.int .i64 n))],[]=>0<=n/\n<=1000000/\∀ x,x=n / 4->K (.one (.at (vI x))) [] []
 | _,_=>False
def balB (l r:Int):Bool:=decide (balN l r)
def tBal:Tfm C0:=fun args H K=>match args,H with
 | [.at (.val (.int .i64 l)),.at (.val (.int .i64 r))],[]=>0<=l/\l<=1000000/\0<=r/\r<=1000000/\∀ b,b=balB l r->K (.one (.at (vB b))) [] []
 | _,_=>False
structure XPv (n:Int) where
 lo:Int
 h:0<=lo/\lo < n/\balN lo (n - 1 - lo)
noncomputable def aPivot (n:Int):Ann C0:={ Γ:=[(119,frameT [] tLeast),(120,frameT [] tBal)],inv:=fun k=>match k with
 | 2=>some { X:=XPv n,sl:=[5],tf:=fun x=>[vi .i64 x.lo],hf:=fun _=>[],μ:=fun x=>x.lo.toNat }
 | 4=>some { X:=XPv n,sl:=[5],tf:=fun x=>[vi .i64 x.lo],hf:=fun _=>[],μ:=fun x=>(n - x.lo).toNat }
 | _=>none }
def tPivot:Tfm C0:=fun args H K=>match args,H with
 | [.at (.val (.int .i64 n)),.at (.val (.int .u64 t))],[]=>1<=n/\n<=100000/\0<=t/\∀ p,0<=p->p < n->balN p (n - 1 - p)->K (.one (.at (vI p))) [] []
 | _,_=>False
def tPlant (n:Nat):Tfm C0:=fun args H K=>match args with
 | [.at (.ptr 0 0),.at (.slc 7),.at (.val (.int .u64 t))]=>arMr H fun S rest=>match rest with
  | [.row false .ent l]=>∃ hs,Wf S hs/\l.length < n/\l.length<=100000/\(l.length:Int)<=S.free/\hs.length+l.length<=900000000/\0<=t/\∀ S' i,PlantR S hs l S' i->K (.tup [.at (vU i),.at (vB true)]) (chS S' ++ [.row false EC.ent l]) W7
  | _=>False
 | _=>False
noncomputable def aPlant (n:Nat):Ann C0:={ Γ:=[(85,frameT [] tPivot),(40,frameT [] (tPlant n)),(32,frameT [] tMakeOk),(26,frameT [] tGive)] }
theorem vc_least (n:Int) (K:KT) (h1:0<=n) (h2:n<=1000000) (h:∀ x,x=n / 4->K (.one (.at (vI x))) [] []):vc C0 A0 Tryz.f119 [.at (vI n)] [] (normK 0 K):=by
 refine Eq.mp (show (K (.one (.at (.val (Value.int .i64 (IntKind.i64.wrap ((if n > 0 then n else 0).tdiv 4)))))) [] [])=_ by kernel_rfl) ?_
 have e:(if n > 0 then n else 0)=n:=by split <;> omega
 rw [e,Int.tdiv_eq_ediv_of_nonneg h1,wrap_id (by omega) (by omega)]
 exact h _ rfl
theorem s_least:SoundT C0 119 tLeast:=by
 refine .of Tryz.func119 (by decide) rfl fun args H K h hB=>?_
 unfold tLeast at h
 split at h <;> try exact h.elim
 rename_i n
 exact ⟨A0,trivial,vc_least n K h.1 h.2.1 h.2.2⟩
theorem vc_bal (l r:Int) (K:KT) (h1:0<=l) (h2:l<=1000000) (h3:0<=r) (h4:r<=1000000) (h:∀ b,b=balB l r->K (.one (.at (vB b))) [] []):vc C0 A0 Tryz.f120 [.at (vI l),.at (vI r)] [] (normK 0 K):=by
 refine Eq.mp (show (brS (decide (l < 0)) ((K (.one (.at (.val (Value.bool false)))) [] [])) ((brS (decide (l > 2147483647)) ((K (.one (.at (.val (Value.bool false)))) [] [])) ((brS (decide (r < 0)) ((K (.one (.at (.val (Value.bool false)))) [] [])) ((brS (decide (r > 2147483647)) ((K (.one (.at (.val (Value.bool false)))) [] [])) ((brS (decide (IntKind.i64.wrap (l+1)<=IntKind.i64.wrap (3 * IntKind.i64.wrap (r+1)))) ((K (.one (.at (.val (Value.bool (decide (IntKind.i64.wrap (r+1)<=IntKind.i64.wrap (3 * IntKind.i64.wrap (l+1)))))))) [] [])) ((K (.one (.at (.val (Value.bool false)))) [] [])))))))))))=_ by kernel_rfl) ?_
 rw [wrap_id (x:=l+1) (by omega) (by omega),wrap_id (x:=r+1) (by omega) (by omega),wrap_id (x:=3 * (l+1)) (by omega) (by omega),wrap_id (x:=3 * (r+1)) (by omega) (by omega)]
 refine brS_of (fun c=>?_) fun _=>brS_of (fun c=>?_) fun _=>brS_of (fun c=>?_) fun _=>brS_of (fun c=>?_) fun _=>brS_of (fun c=>?_) fun c=>?_
 ·have:=of_decide_eq_true c;omega
 ·have:l > 2147483647:=of_decide_eq_true c;omega
 ·have:=of_decide_eq_true c;omega
 ·have:r > 2147483647:=of_decide_eq_true c;omega
 ·have c:l+1<=3 * (r+1):=of_decide_eq_true c
  exact h _ (by unfold balB balN;simp [c])
 ·have c:¬ l+1<=3 * (r+1):=of_decide_eq_false c
  exact h _ (by unfold balB balN;simp [c])
theorem s_bal:SoundT C0 120 tBal:=by
 refine .of Tryz.func120 (by decide) rfl fun args H K h hB=>?_
 unfold tBal at h
 split at h <;> try exact h.elim
 rename_i l r
 exact ⟨A0,trivial,vc_bal l r K h.1 h.2.1 h.2.2.1 h.2.2.2.1 h.2.2.2.2⟩
theorem vc_pivot (n t:Int) (K:KT) (h1:1<=n) (h2:n<=100000) (h3:0<=t) (h:∀ p,0<=p->p < n->balN p (n - 1 - p)->K (.one (.at (vI p))) [] []) :
  vc C0 (aPivot n) Tryz.f85 [.at (vI n),.at (vU64 t)] [] (normK 0 K):=by
 refine Eq.mp (show ((0<=n)/\(n<=1000000)/\(∀ x:Int,(((x)=(n / 4))->((∃ x1:XPv n,(True/\(((Value.int .i64 (n))=(Value.int .i64 (n)))/\((Value.int .u64 (t))=(Value.int .u64 (t)))/\((Value.int .i64 (x))=(Value.int .i64 (x1.lo)))/\True)/\True))/\(∀ x1:XPv n,(True->(brS (decide (x1.lo > 0)) (((0<=IntKind.i64.wrap (x1.lo - 1))/\(IntKind.i64.wrap (x1.lo - 1)<=1000000)/\(0<=IntKind.i64.wrap (n - x1.lo))/\(IntKind.i64.wrap (n - x1.lo)<=1000000)/\(∀ b:Bool,(((b)=(balB (IntKind.i64.wrap (x1.lo - 1)) (IntKind.i64.wrap (n - x1.lo))))->(brS (b) ((∃ x':XPv n,(True/\((((Value.int .i64 (n))=(Value.int .i64 (n)))/\((Value.int .u64 (t))=(Value.int .u64 (t)))/\((Value.int .i64 (IntKind.i64.wrap (x1.lo - 1)))=(Value.int .i64 (x'.lo)))/\True)/\True)/\(x'.lo.toNat < x1.lo.toNat)))) (((∃ x2:XPv n,(True/\(((Value.int .i64 (n))=(Value.int .i64 (n)))/\((Value.int .u64 (t))=(Value.int .u64 (t)))/\((Value.int .i64 (x1.lo))=(Value.int .i64 (x2.lo)))/\True)/\True))/\(∀ x2:XPv n,(True->(brS (decide (x2.lo < IntKind.i64.wrap (n - 1))) (((0<=x2.lo)/\(x2.lo<=1000000)/\(0<=IntKind.i64.wrap (IntKind.i64.wrap (n - 1) - x2.lo))/\(IntKind.i64.wrap (IntKind.i64.wrap (n - 1) - x2.lo)<=1000000)/\(∀ b1:Bool,(((b1)=(balB x2.lo (IntKind.i64.wrap (IntKind.i64.wrap (n - 1) - x2.lo))))->(brS (!b1) ((∃ x':XPv n,(True/\((((Value.int .i64 (n))=(Value.int .i64 (n)))/\((Value.int .u64 (t))=(Value.int .u64 (t)))/\((Value.int .i64 (IntKind.i64.wrap (x2.lo+1)))=(Value.int .i64 (x'.lo)))/\True)/\True)/\((n - x'.lo).toNat < (n - x2.lo).toNat)))) ((brS (decide (IntKind.i64.wrap (IntKind.i64.wrap (n - 1) - x2.lo) < x2.lo)) ((K (.one (.at (.val (Value.int .i64 (IntKind.i64.wrap (n.tdiv 2)))))) [] [])) (((IntKind.u64.wrap (IntKind.i64.wrap (IntKind.i64.wrap (IntKind.i64.wrap (IntKind.i64.wrap (n - 1) - x2.lo) - x2.lo)+1)) ≠ 0)/\
 (K (.one (.at (.val (Value.int .i64 (IntKind.i64.wrap (x2.lo+IntKind.i64.wrap (t.tmod (IntKind.u64.wrap (IntKind.i64.wrap (IntKind.i64.wrap (IntKind.i64.wrap (IntKind.i64.wrap (n - 1) - x2.lo) - x2.lo)+1)))))))))) [] [])))))))))) ((brS (decide (IntKind.i64.wrap (IntKind.i64.wrap (n - 1) - x2.lo) < x2.lo)) ((K (.one (.at (.val (Value.int .i64 (IntKind.i64.wrap (n.tdiv 2)))))) [] [])) (((IntKind.u64.wrap (IntKind.i64.wrap (IntKind.i64.wrap (IntKind.i64.wrap (IntKind.i64.wrap (n - 1) - x2.lo) - x2.lo)+1)) ≠ 0)/\(K (.one (.at (.val (Value.int .i64 (IntKind.i64.wrap (x2.lo+IntKind.i64.wrap (t.tmod (IntKind.u64.wrap (IntKind.i64.wrap (IntKind.i64.wrap (IntKind.i64.wrap (IntKind.i64.wrap (n - 1) - x2.lo) - x2.lo)+1)))))))))) [] []))))))))))))))) (((∃ x2:XPv n,(True/\(((Value.int .i64 (n))=(Value.int .i64 (n)))/\((Value.int .u64 (t))=(Value.int .u64 (t)))/\((Value.int .i64 (x1.lo))=(Value.int .i64 (x2.lo)))/\True)/\True))/\(∀ x2:XPv n,(True->(brS (decide (x2.lo < IntKind.i64.wrap (n - 1))) (((0<=x2.lo)/\(x2.lo<=1000000)/\(0<=IntKind.i64.wrap (IntKind.i64.wrap (n - 1) - x2.lo))/\(IntKind.i64.wrap (IntKind.i64.wrap (n - 1) - x2.lo)<=1000000)/\(∀ b:Bool,(((b)=(balB x2.lo (IntKind.i64.wrap (IntKind.i64.wrap (n - 1) - x2.lo))))->(brS (!b) ((∃ x':XPv n,(True/\((((Value.int .i64 (n))=(Value.int .i64 (n)))/\((Value.int .u64 (t))=(Value.int .u64 (t)))/\((Value.int .i64 (IntKind.i64.wrap (x2.lo+1)))=(Value.int .i64 (x'.lo)))/\True)/\True)/\((n - x'.lo).toNat < (n - x2.lo).toNat)))) ((brS (decide (IntKind.i64.wrap (IntKind.i64.wrap (n - 1) - x2.lo) < x2.lo)) ((K (.one (.at (.val (Value.int .i64 (IntKind.i64.wrap (n.tdiv 2)))))) [] [])) (((IntKind.u64.wrap (IntKind.i64.wrap (IntKind.i64.wrap (IntKind.i64.wrap (IntKind.i64.wrap (n - 1) - x2.lo) - x2.lo)+1)) ≠ 0)/\
 (K (.one (.at (.val (Value.int .i64 (IntKind.i64.wrap (x2.lo+IntKind.i64.wrap (t.tmod (IntKind.u64.wrap (IntKind.i64.wrap (IntKind.i64.wrap (IntKind.i64.wrap (IntKind.i64.wrap (n - 1) - x2.lo) - x2.lo)+1)))))))))) [] [])))))))))) ((brS (decide (IntKind.i64.wrap (IntKind.i64.wrap (n - 1) - x2.lo) < x2.lo)) ((K (.one (.at (.val (Value.int .i64 (IntKind.i64.wrap (n.tdiv 2)))))) [] [])) (((IntKind.u64.wrap (IntKind.i64.wrap (IntKind.i64.wrap (IntKind.i64.wrap (IntKind.i64.wrap (n - 1) - x2.lo) - x2.lo)+1)) ≠ 0)/\(K (.one (.at (.val (Value.int .i64 (IntKind.i64.wrap (x2.lo+IntKind.i64.wrap (t.tmod (IntKind.u64.wrap (IntKind.i64.wrap (IntKind.i64.wrap (IntKind.i64.wrap (IntKind.i64.wrap (n - 1) - x2.lo) - x2.lo)+1)))))))))) [] [])))))))))))))))))=_ by kernel_rfl) ?_
 refine ⟨by omega,by omega,fun x hx=>⟨⟨⟨x,by omega,by omega,⟨by omega,by omega⟩⟩,trivial,⟨rfl,rfl,rfl,trivial⟩,trivial⟩,fun x1 _=>?_⟩⟩
 obtain ⟨k1,k2,k3,k4⟩:=x1.h
 rw [wrap_id (x:=x1.lo - 1) (by omega) (by omega),wrap_id (x:=n - x1.lo) (by omega) (by omega)]
 refine brS_of (fun c=>?_) fun c=>?_
 ·have c:x1.lo > 0:=of_decide_eq_true c
  refine ⟨by omega,by omega,by omega,by omega,fun b hb=>brS_of (fun d=>?_) fun d=>?_⟩
  ·rw [d] at hb
   have hb:balN (x1.lo - 1) (n - x1.lo):=of_decide_eq_true hb.symm
   refine ⟨⟨x1.lo - 1,by omega,by omega,by rw [show n - 1 - (x1.lo - 1)=n - x1.lo by omega];exact hb⟩,trivial,⟨⟨rfl,rfl,rfl,trivial⟩,trivial⟩,?_⟩
   show (x1.lo - 1).toNat < x1.lo.toNat
   omega
  ·skip
   refine ⟨⟨x1,trivial,⟨rfl,rfl,rfl,trivial⟩,trivial⟩,fun x2 _=>?_⟩
   obtain ⟨l1,l2,l3,l4⟩:=x2.h
   rw [wrap_id (x:=n - 1) (by omega) (by omega),wrap_id (x:=n - 1 - x2.lo) (by omega) (by omega)]
   refine brS_of (fun e=>⟨l1,by omega,by omega,by omega,fun b1 hb1=>brS_of (fun f=>?_) fun f=>?_⟩) fun e=>?_
   ·have e:b1=true:=by rw [hb1];exact decide_eq_true ⟨l3,l4⟩
    rw [e] at f;cases f
   ·skip
    rw [wrap_id (x:=n - 1 - x2.lo - x2.lo) (by omega) (by omega),wrap_id (x:=n - 1 - x2.lo - x2.lo+1) (by omega) (by omega)]
    refine brS_of (fun g=>?_) fun g=>?_
    ·have g:n - 1 - x2.lo < x2.lo:=of_decide_eq_true g
     rw [Int.tdiv_eq_ediv_of_nonneg (by omega),wrap_id (by omega) (by omega)]
     exact h _ (by omega) (by omega) ⟨by omega,by omega⟩
    ·have g:¬ n - 1 - x2.lo < x2.lo:=of_decide_eq_false g
     have hm:=Int.emod_nonneg t (show n - 1 - x2.lo - x2.lo+1 ≠ 0 by omega)
     have hm2:=Int.emod_lt_of_pos t (show 0 < n - 1 - x2.lo - x2.lo+1 by omega)
     rw [wrap_u64 (by omega) (by omega),Int.tmod_eq_emod_of_nonneg h3,wrap_id (x:=t % _) (by omega) (by omega),wrap_id (by omega) (by omega)]
     exact ⟨by omega,h _ (by omega) (by omega) ⟨by omega,by omega⟩⟩
   ·skip
    rw [wrap_id (x:=n - 1 - x2.lo - x2.lo) (by omega) (by omega),wrap_id (x:=n - 1 - x2.lo - x2.lo+1) (by omega) (by omega)]
    refine brS_of (fun g=>?_) fun g=>?_
    ·have g:n - 1 - x2.lo < x2.lo:=of_decide_eq_true g
     rw [Int.tdiv_eq_ediv_of_nonneg (by omega),wrap_id (by omega) (by omega)]
     exact h _ (by omega) (by omega) ⟨by omega,by omega⟩
    ·have g:¬ n - 1 - x2.lo < x2.lo:=of_decide_eq_false g
     have hm:=Int.emod_nonneg t (show n - 1 - x2.lo - x2.lo+1 ≠ 0 by omega)
     have hm2:=Int.emod_lt_of_pos t (show 0 < n - 1 - x2.lo - x2.lo+1 by omega)
     rw [wrap_u64 (by omega) (by omega),Int.tmod_eq_emod_of_nonneg h3,wrap_id (x:=t % _) (by omega) (by omega),wrap_id (by omega) (by omega)]
     exact ⟨by omega,h _ (by omega) (by omega) ⟨by omega,by omega⟩⟩
 ·skip
  refine ⟨⟨x1,trivial,⟨rfl,rfl,rfl,trivial⟩,trivial⟩,fun x2 _=>?_⟩
  obtain ⟨l1,l2,l3,l4⟩:=x2.h
  rw [wrap_id (x:=n - 1) (by omega) (by omega),wrap_id (x:=n - 1 - x2.lo) (by omega) (by omega)]
  refine brS_of (fun e=>⟨l1,by omega,by omega,by omega,fun b1 hb1=>brS_of (fun f=>?_) fun f=>?_⟩) fun e=>?_
  ·have e:b1=true:=by rw [hb1];exact decide_eq_true ⟨l3,l4⟩
   rw [e] at f;cases f
  ·skip
   rw [wrap_id (x:=n - 1 - x2.lo - x2.lo) (by omega) (by omega),wrap_id (x:=n - 1 - x2.lo - x2.lo+1) (by omega) (by omega)]
   refine brS_of (fun g=>?_) fun g=>?_
   ·have g:n - 1 - x2.lo < x2.lo:=of_decide_eq_true g
    rw [Int.tdiv_eq_ediv_of_nonneg (by omega),wrap_id (by omega) (by omega)]
    exact h _ (by omega) (by omega) ⟨by omega,by omega⟩
   ·have g:¬ n - 1 - x2.lo < x2.lo:=of_decide_eq_false g
    have hm:=Int.emod_nonneg t (show n - 1 - x2.lo - x2.lo+1 ≠ 0 by omega)
    have hm2:=Int.emod_lt_of_pos t (show 0 < n - 1 - x2.lo - x2.lo+1 by omega)
    rw [wrap_u64 (by omega) (by omega),Int.tmod_eq_emod_of_nonneg h3,wrap_id (x:=t % _) (by omega) (by omega),wrap_id (by omega) (by omega)]
    exact ⟨by omega,h _ (by omega) (by omega) ⟨by omega,by omega⟩⟩
  ·skip
   rw [wrap_id (x:=n - 1 - x2.lo - x2.lo) (by omega) (by omega),wrap_id (x:=n - 1 - x2.lo - x2.lo+1) (by omega) (by omega)]
   refine brS_of (fun g=>?_) fun g=>?_
   ·have g:n - 1 - x2.lo < x2.lo:=of_decide_eq_true g
    rw [Int.tdiv_eq_ediv_of_nonneg (by omega),wrap_id (by omega) (by omega)]
    exact h _ (by omega) (by omega) ⟨by omega,by omega⟩
   ·have g:¬ n - 1 - x2.lo < x2.lo:=of_decide_eq_false g
    have hm:=Int.emod_nonneg t (show n - 1 - x2.lo - x2.lo+1 ≠ 0 by omega)
    have hm2:=Int.emod_lt_of_pos t (show 0 < n - 1 - x2.lo - x2.lo+1 by omega)
    rw [wrap_u64 (by omega) (by omega),Int.tmod_eq_emod_of_nonneg h3,wrap_id (x:=t % _) (by omega) (by omega),wrap_id (by omega) (by omega)]
    exact ⟨by omega,h _ (by omega) (by omega) ⟨by omega,by omega⟩⟩
theorem s_pivot:SoundT C0 85 tPivot:=by
 refine .of Tryz.func85 (by decide) rfl fun args H K h hB=>?_
 unfold tPivot at h
 split at h <;> try exact h.elim
 rename_i n t
 exact ⟨aPivot n,⟨frame C0.ok s_least _,frame C0.ok s_bal _,trivial⟩,vc_pivot n t K h.1 h.2.1 h.2.2.1 h.2.2.2⟩
theorem wrap_u64_nonneg (x:Int):0<=IntKind.u64.wrap x:=by
 unfold IntKind.wrap
 simp [IntKind.signed,IntKind.bits]
 omega
theorem split_at {l:List Ent} {p:Nat} (hp:p < l.length):l.take p ++ l.getD p (0,0) :: l.drop (p+1)=l:=by
 have h:l[p]?=some (l.getD p (0,0)):=by simp [List.getD_eq_getElem?_getD,List.getElem?_eq_getElem hp]
 rw [← drop_cons h,List.take_append_drop]
theorem vc_plant (n:Nat) (S:Arn) (l:List Ent) (t:Int) (K:KT) (hs:List Int) (hw:Wf S hs) (h1:l.length < n+1) (h2:l.length<=100000) (h3:(l.length:Int)<=S.free) (h4:hs.length+l.length<=900000000) (h5:0<=t)
  (h:∀ S' i,PlantR S hs l S' i->K (.tup [.at (vU i),.at (vB true)]) (chS S' ++ [.row false EC.ent l]) W7) :
  vc C0 (aPlant n) Tryz.f40 [.at (.ptr 0 0),.at (.slc 7),.at (vU64 t)] (chS S ++ [.row false EC.ent l]) (normK 8 (wideK W7 K)):=by
 refine Eq.mp (show (brS ((l.length:Int) == 0) ((K (.tup [(.at (.val (Value.int .u32 0))),(.at (.val (Value.bool true)))]) [(.box [(.ptr 1 0),(.slc 2),(.slc 3),(.val (Value.int .u64 (S.reads)))]),(.box [(.slc 4),(.slc 5),(.slc 6),(.val (Value.int .u32 (S.fresh)))]),(.row true EC.node (S.nodes)),(.row true EC.int (S.counts)),(.row true EC.bool (S.used)),(.row true EC.u32 (S.gen)),(.row true EC.u32 (S.rel)),(.row false EC.ent (l))] [0,1,2,3,4,5,6])) (((1<=(l.length:Int))/\((l.length:Int)<=100000)/\(0<=t)/\(∀ p:Int,((0<=p)->((p < (l.length:Int))->((balN p ((l.length:Int) - 1 - p))->(((0:Int)<=0)/\(0<=p)/\(p<=(l.length:Int))/\(∃ hs:List Int,((Wf S hs)/\((List.drop (Int.toNat 0) (List.take p.toNat l)).length < n)/\((List.drop (Int.toNat 0) (List.take p.toNat l)).length<=100000)/\((↑(List.drop (Int.toNat 0) (List.take p.toNat l)).length:Int)<=S.free)/\(hs.length+(List.drop (Int.toNat 0) (List.take p.toNat l)).length<=900000000)/\(0<=IntKind.u64.wrap (IntKind.u64.wrap (t.tdiv 5)+IntKind.u64.wrap (t * 3)))/\(∀ S':Arn,(∀ i:Int,((PlantR S hs (List.drop (Int.toNat 0) (List.take p.toNat l)) S' i)->((0<=IntKind.i64.wrap (p+1))/\(IntKind.i64.wrap (p+1)<=(l.length:Int))/\((l.length:Int)<=(l.length:Int))/\(∃ hs1:List Int,((Wf S' hs1)/\((List.drop (IntKind.i64.wrap (p+1)).toNat (List.take (l.length:Int).toNat l)).length < n)/\((List.drop (IntKind.i64.wrap (p+1)).toNat (List.take (l.length:Int).toNat l)).length<=100000)/\((↑(List.drop (IntKind.i64.wrap (p+1)).toNat (List.take (l.length:Int).toNat l)).length:Int)<=S'.free)/\
 (hs1.length+(List.drop (IntKind.i64.wrap (p+1)).toNat (List.take (l.length:Int).toNat l)).length<=900000000)/\(0<=IntKind.u64.wrap (IntKind.u64.wrap (IntKind.u64.wrap (t.tdiv 7)+IntKind.u64.wrap (t * 5))+1))/\(∀ S'1:Arn,(∀ i1:Int,((PlantR S' hs1 (List.drop (IntKind.i64.wrap (p+1)).toNat (List.take (l.length:Int).toNat l)) S'1 i1)->((0<=p)/\(p < (l.length:Int))/\(0<=p)/\(p < (l.length:Int))/\(exW S'1)/\(live S'1 i)/\(live S'1 i1)/\((mkNode S'1 (l.getD p.toNat (0,0)).fst (l.getD p.toNat (0,0)).snd i i1).size<=maxSize)/\(0 < S'1.free)/\(∀ S'2:Arn,(∀ i2:Int,(((S'2)=(makeS S'1 (l.getD p.toNat (0,0)).fst (l.getD p.toNat (0,0)).snd i i1))->(((i2)=(nxt S'1))->(∃ hs2:List Int,((Wf S'2 (i :: hs2))/\(((S'2.us i)=true)->(1<=S'2.indeg i))/\(∀ S'3:Arn,(((S'3)=(relA S'2 i))->(∃ hs3:List Int,((Wf S'3 (i1 :: hs3))/\(((S'3.us i1)=true)->(1<=S'3.indeg i1))/\(∀ S'4:Arn,(((S'4)=(relA S'3 i1))->(K (.tup [(.at (.val (Value.int .u32 (i2)))),(.at (.val (Value.bool (i2 != 0))))]) [(.box [(.ptr 1 0),(.slc 2),(.slc 3),(.val (Value.int .u64 (S'4.reads)))]),(.box [(.slc 4),(.slc 5),(.slc 6),(.val (Value.int .u32 (S'4.fresh)))]),(.row true EC.node (S'4.nodes)),(.row true EC.int (S'4.counts)),(.row true EC.bool (S'4.used)),(.row true EC.u32 (S'4.gen)),(.row true EC.u32 (S'4.rel)),(.row false EC.ent (l))] [0,1,2,3,4,5,6])))))))))))))))))))))))))))))))))=_ by kernel_rfl) ?_
 refine brS_of (fun c=>?_) fun c=>⟨?_,by omega,h5,fun p p0 p1 hb=>?_⟩
 ·have e:l=[]:=List.length_eq_zero_iff.1 (by simpa using c)
  have hr:PlantR S hs l S 0:=by rw [e];exact PlantR.nil hw (by omega)
  exact h S 0 hr
 ·have c:¬ (l.length:Int)=0:=by simpa using c
  omega
 ·have hp:p.toNat < l.length:=by omega
  have ea:List.drop (Int.toNat 0) (List.take p.toNat l)=l.take p.toNat:=rfl
  rw [wrap_id (x:=p+1) (by omega) (by omega),ea,show (l.length:Int).toNat=l.length by omega,List.take_length,show (p+1).toNat=p.toNat+1 by omega]
  have la:(l.take p.toNat).length=p.toNat:=by simp;omega
  have lb:(l.drop (p.toNat+1)).length=l.length - (p.toNat+1):=by simp
  have hf:=hw.free_nonneg
  refine ⟨by decide,p0,by omega,hs,hw,by omega,by omega,by omega,by omega,wrap_u64_nonneg _,fun S1 il r1=>?_⟩
  have hf1:=r1.wf.free_nonneg
  have n1:=r1.nu
  have c1:S1.cap=S.cap:=by unfold Arn.cap;rw [r1.len]
  refine ⟨by omega,by omega,by omega,il :: hs,r1.wf,by omega,by omega,by omega,by simp;omega,wrap_u64_nonneg _,fun S2 ir r2=>?_⟩
  have hf2:=r2.wf.free_nonneg
  have n2:=r2.nu
  have c2:S2.cap=S1.cap:=by unfold Arn.cap;rw [r2.len]
  have hw2:Wf S2 (il :: ir :: hs):=r2.wf.perm (List.Perm.swap _ _ _)
  have hfr:0 < S2.free:=by omega
  obtain ⟨tl,q1,q2,_⟩:=r1.rep
  obtain ⟨tr,q3,q4,_⟩:=r2.rep
  have q1':Rep S2 tl il:=q1.held r1.wf r2.stay (.inr (by simp))
  have s1:tl.size=p.toNat:=by rw [← tl.list_len,q2,la]
  have s2:tr.size=l.length - (p.toNat+1):=by rw [← tr.list_len,q4,lb]
  have hz:∀ k v,(mkNode S2 k v il ir).size<=maxSize:=fun k v=>by rw [mk_size hw2 q1' q3];unfold maxSize;omega
  refine ⟨p0,p1,p0,p1,⟨_,hw2⟩,hw2.held il (by simp),hw2.held ir (by simp),hz _ _,hfr,fun S3 i e1 e2=>?_⟩
  obtain ⟨t1,t2,t3,t4⟩:=node_two (k:=(l.getD p.toNat (0,0)).1) (v:=(l.getD p.toNat (0,0)).2) hw2 hfr (hz _ _) (by omega)
  subst e1
  refine ⟨_,t1,t2,fun S4 e3=>?_⟩
  subst e3
  refine ⟨_,t3,t4,fun S5 e4=>?_⟩
  have hx:=(hw2.nxt_spec hfr).1
  have hi0:(i != 0)=true:=by rw [e2];simp;omega
  rw [hi0]
  refine h S5 i ?_
  have hr:PlantR S hs (l.take p.toNat ++ l.getD p.toNat (0,0) :: l.drop (p.toNat+1)) S5 i:=r1.node r2 (by rw [la,lb];have e:((l.length - (p.toNat+1):Nat):Int)=(l.length:Int) - 1 - p:=(by omega);rw [e,show (p.toNat:Int)=p by omega];exact hb) fun tl' tr' x1 x2=>by
   rw [e4,e2];exact node_ok hw2 hfr (hz _ _) (by omega) x1 x2
  rw [split_at hp] at hr
  exact hr
theorem s_plant:∀ n,SoundT C0 40 (tPlant n):=by
 intro n
 induction n with
 | zero =>
  refine .of Tryz.func40 (by decide) rfl fun args H K h hB=>?_
  exfalso
  unfold tPlant at h
  split at h <;> try exact h.elim
  unfold arMr at h
  split at h <;> try exact h.elim
  split at h <;> try exact h.elim
  obtain ⟨_,_,h1,_⟩:=h
  omega
 | succ n ih =>
  refine .ofW W7 Tryz.func40 (by decide) rfl fun args H K h hB=>?_
  unfold tPlant at h
  split at h <;> try exact h.elim
  unfold arMr at h
  split at h <;> try exact h.elim
  split at h <;> try exact h.elim
  rename_i t _ rd fr nd ct us gn rl _ l
  obtain ⟨hs,h1,h2,h3,h4,h5,h6,h7⟩:=h
  exact ⟨aPlant n,⟨frame C0.ok s_pivot _,frame C0.ok ih _,frame C0.ok s_makeOk _,frame C0.ok s_give _,trivial⟩,vc_plant n ⟨us,gn,rl,fr,nd,ct,rd⟩ l t K hs h1 h2 h3 h4 h5 h6 h7⟩
def tPlantA:Tfm C0:=fun args H K=>match args with
 | [.at (.ptr 0 0),.at (.slc 7),.at (.val (.int .u64 t))]=>arMr H fun S rest=>match rest with
  | [.row false .ent l]=>∃ hs,Wf S hs/\l.length<=100000/\(l.length:Int)<=S.free/\hs.length+l.length<=900000000/\0<=t/\∀ S' i,PlantR S hs l S' i->K (.tup [.at (vU i),.at (vB true)]) (chS S' ++ [.row false EC.ent l]) W7
  | _=>False
 | _=>False
theorem s_plantA:SoundT C0 40 tPlantA:=(s_plant 100001).weak fun args H K h=>by
 unfold tPlantA at h
 unfold tPlant
 split at h <;> try exact h.elim
 unfold arMr at h ⊢
 split at h <;> try exact h.elim
 split at h <;> try exact h.elim
 obtain ⟨hs,h1,h2,h3,h4,h5,h6⟩:=h
 exact ⟨hs,h1,by omega,h2,h3,h4,h5,h6⟩
end Go.Proofs.YtedfbafngmicpaaGreat.Sx
end
section
/- Ranks and positions in a tree. No program in sight. -/
namespace Go.Proofs.YtedfbafngmicpaaGreat
open Go

def bf:Tr->Int->Bool->Nat × Nat
 | .nil,_,_=>(0,0)
 | .node l k _ r,q,eq=>if q < k ∨ (k=q/\eq=false) then ((bf l q eq).1,1+(bf l q eq).2) else (l.size+1+(bf r q eq).1,1+ne0 l+(bf r q eq).2)
def sel:Tr->Int->Option Ent × Nat
 | .nil,_=>(none,0)
 | .node l k v r,i=>if i < (l.size:Int) then ((sel l i).1,1+ne0 l+(sel l i).2) else if (l.size:Int) < i then ((sel r (i - (l.size+1))).1,1+ne0 l+(sel r (i - (l.size+1))).2) else (some (k,v),1+ne0 l)
end Go.Proofs.YtedfbafngmicpaaGreat
end
section
/- Listing a tree gives what the reference gives. No program in sight. -/
namespace Go.Proofs.YtedfbafngmicpaaGreat
open Go

end Go.Proofs.YtedfbafngmicpaaGreat
end
section
/- Build, Grow, and the example of the chapter on bulk operations. -/
namespace Go.Proofs.YtedfbafngmicpaaGreat.Sx
open Go

/-KEEP Wf exW inU live Arn.cap Arn.free Rep rdS Tr.size BuildR PlantR rangeR newS ascB-/
abbrev chSk (k:Nat) (S:Arn):List (Chunk C0):=[.box [.ptr (k+1) 0,.slc (k+2),.slc (k+3),vU64 S.reads],.box [.slc (k+4),.slc (k+5),.slc (k+6),vU S.fresh],.row true EC.node S.nodes,.row true EC.int S.counts,.row true EC.bool S.used,.row true EC.u32 S.gen,.row true EC.u32 S.rel]
noncomputable def aGrow:Ann C0:={ Γ:=[(28,frameT [] tNew),(40,frameT [] tPlantA)] }
def tGrow:Tfm C0:=fun args H K=>match args,H with
 | [.at (.slc 0),.at (.val (.int .u64 t)),.at (.val (.int .i64 sp))],[.row false .ent l]=>0<=t/\1<=sp/\sp<=30000/\l.length<=30000/\∀ S' i,PlantR (newS ((l.length:Int)+sp).toNat) [] l S' i->K (.tup [.at (.ptr 1 0),.at (vU i),.at (vB true)]) ([.row false EC.ent l] ++ chSk 1 S') []
 | _,_=>False
theorem new_free {c:Nat} (_:1<=c) (_:c<=65536):(newS c).free=c:=by
 unfold Arn.free Arn.cap newS;simp
theorem vc_grow (l:List Ent) (t sp:Int) (K:KT) (h1:0<=t) (h2:1<=sp) (h3:sp<=30000) (h4:l.length<=30000) (h:∀ S' i,PlantR (newS ((l.length:Int)+sp).toNat) [] l S' i->K (.tup [.at (.ptr 1 0),.at (vU i),.at (vB true)]) ([.row false EC.ent l] ++ chSk 1 S') []) :
  vc C0 aGrow Tryz.f9 [.at (.slc 0),.at (vU64 t),.at (vI sp)] [.row false EC.ent l] (normK 1 K):=by
 refine Eq.mp (show (((IntKind.i64.wrap ((l.length:Int)+sp) < 1 ∨ 65536 < IntKind.i64.wrap ((l.length:Int)+sp))->(K (.tup [(.at (.val (Value.pointer none))),(.at (.val (Value.int .u32 0))),(.at (.val (Value.bool false)))]) [(.row false EC.ent (l))] []))/\((1<=IntKind.i64.wrap ((l.length:Int)+sp))->((IntKind.i64.wrap ((l.length:Int)+sp)<=65536)->(∀ S:Arn,(((S)=(newS (IntKind.i64.wrap ((l.length:Int)+sp)).toNat))->(∃ hs:List Int,((Wf S hs)/\(l.length<=100000)/\((l.length:Int)<=S.free)/\(hs.length+l.length<=900000000)/\(0<=t)/\(∀ S':Arn,(∀ i:Int,((PlantR S hs l S' i)->(K (.tup [(.at (.ptr 1 0)),(.at (.val (Value.int .u32 (i)))),(.at (.val (Value.bool true)))]) [(.row false EC.ent (l)),(.box [(.ptr 2 0),(.slc 3),(.slc 4),(.val (Value.int .u64 (S'.reads)))]),(.box [(.slc 5),(.slc 6),(.slc 7),(.val (Value.int .u32 (S'.fresh)))]),(.row true EC.node (S'.nodes)),(.row true EC.int (S'.counts)),(.row true EC.bool (S'.used)),(.row true EC.u32 (S'.gen)),(.row true EC.u32 (S'.rel))] [])))))))))))=_ by kernel_rfl) ?_
 rw [wrap_id (x:=(l.length:Int)+sp) (by omega) (by omega)]
 refine ⟨fun c=>by omega,fun _ _ S hS=>?_⟩
 subst hS
 refine ⟨[],Wf.new (by omega) (by omega),by omega,?_,by simp;omega,h1,h⟩
 rw [new_free (by omega) (by omega)];omega
theorem s_grow:SoundT C0 9 tGrow:=by
 refine .of Tryz.func9 (by decide) rfl fun args H K h hB=>?_
 unfold tGrow at h
 split at h <;> try exact h.elim
 rename_i t sp l
 obtain ⟨h1,h2,h3,h4,h5⟩:=h
 exact ⟨aGrow,⟨frame C0.ok s_new _,frame C0.ok s_plantA _,trivial⟩,vc_grow l t sp K h1 h2 h3 h4 h5⟩
end Go.Proofs.YtedfbafngmicpaaGreat.Sx
end
section
/- Numbering the nodes of a graph below some roots: depth first, children first. No program in sight. -/
namespace Go.Proofs.YtedfbafngmicpaaGreat
open Go

section
variable {us:Int->Bool} {lf rg:Int->Int}
inductive NumG (us:Int->Bool) (lf rg:Int->Int):Int->List Int->List Int->Prop where
 | skip {i:Int} {acc:List Int}:(us i=false ∨ i ∈ acc)->NumG us lf rg i acc acc
 | go {i:Int} {acc a1 a2:List Int}:us i=true->i ∉ acc->NumG us lf rg (lf i) acc a1->NumG us lf rg (rg i) a1 a2->NumG us lf rg i acc (a2 ++ [i])
inductive NumsG (us:Int->Bool) (lf rg:Int->Int):List Int->List Int->List Int->Prop where
 | nil {acc:List Int}:NumsG us lf rg [] acc acc
 | cons {i:Int} {r acc a1 a2:List Int}:NumG us lf rg i acc a1->NumsG us lf rg r a1 a2->NumsG us lf rg (i :: r) acc a2
/-- A tree below an index. -/
def RepG (us:Int->Bool) (lf rg:Int->Int):Nat->Int->Prop
 | 0,i=>us i=false
 | n+1,i=>us i=false ∨ (RepG us lf rg n (lf i)/\RepG us lf rg n (rg i))
theorem RepG.mono {n m:Nat} (h:n<=m):∀ {i:Int},RepG us lf rg n i->RepG us lf rg m i:=by
 induction n generalizing m with
 | zero =>
  intro i hi
  cases m with
  | zero=>exact hi
  | succ m=>exact .inl hi
 | succ n ih =>
  intro i hi
  cases m with
  | zero=>omega
  | succ m=>exact hi.imp id fun q=>⟨ih (by omega) q.1,ih (by omega) q.2⟩
theorem NumG.det {i:Int} {acc a b:List Int} (h:NumG us lf rg i acc a) (h':NumG us lf rg i acc b):a=b:=by
 induction h generalizing b with
 | skip q =>
  cases h' with
  | skip _=>rfl
  | go u n _ _=>exact (q.elim (fun e=>by rw [e] at u;cases u) (fun e=>absurd e n))
 | go u n _ _ ih1 ih2 =>
  cases h' with
  | skip q=>exact (q.elim (fun e=>by rw [e] at u;cases u) (fun e=>absurd e n))
  | go _ _ k1 k2 =>
   obtain rfl:=ih1 k1
   obtain rfl:=ih2 k2
   rfl
theorem NumsG.det {r acc a b:List Int} (h:NumsG us lf rg r acc a) (h':NumsG us lf rg r acc b):a=b:=by
 induction h generalizing b with
 | nil=>cases h';rfl
 | cons h1 _ ih =>
  cases h' with
  | cons k1 k2 =>
   obtain rfl:=h1.det k1
   exact ih k2
theorem NumG.ex {n:Nat}:∀ {i:Int} (acc:List Int),RepG us lf rg n i->∃ a,NumG us lf rg i acc a:=by
 induction n with
 | zero=>intro i acc h;exact ⟨acc,.skip (.inl h)⟩
 | succ n ih =>
  intro i acc h
  rcases h with h | ⟨h1,h2⟩
  ·exact ⟨acc,.skip (.inl h)⟩
  ·cases u:us i with
   | false=>exact ⟨acc,.skip (.inl u)⟩
   | true =>
    by_cases m:i ∈ acc
    ·exact ⟨acc,.skip (.inr m)⟩
    ·obtain ⟨a1,k1⟩:=ih acc h1
     obtain ⟨a2,k2⟩:=ih a1 h2
     exact ⟨a2 ++ [i],.go u m k1 k2⟩
theorem NumsG.ex:∀ (r:List Int) (acc:List Int),(∀ i ∈ r,∃ n,RepG us lf rg n i)->∃ a,NumsG us lf rg r acc a
 | [],acc,_=>⟨acc,.nil⟩
 | i :: r,acc,h=>by
  obtain ⟨n,hn⟩:=h i (List.mem_cons_self ..)
  obtain ⟨a1,h1⟩:=NumG.ex acc hn
  obtain ⟨a2,h2⟩:=NumsG.ex r a1 fun j hj=>h j (List.mem_cons_of_mem _ hj)
  exact ⟨a2,.cons h1 h2⟩
theorem NumsG.app {r s acc a b:List Int} (h:NumsG us lf rg r acc a) (h':NumsG us lf rg s a b):NumsG us lf rg (r ++ s) acc b:=by
 induction h with
 | nil=>exact h'
 | cons h1 _ ih=>exact .cons h1 (ih h')
theorem NumsG.one {i:Int} {acc a:List Int} (h:NumG us lf rg i acc a):NumsG us lf rg [i] acc a:=.cons h .nil
/-- What is numbered stays, and comes first. -/
theorem NumG.pre {i:Int} {acc a:List Int} (h:NumG us lf rg i acc a):∃ x,a=acc ++ x:=by
 induction h with
 | skip _=>exact ⟨[],by simp⟩
 | @go i _ _ _ _ _ _ _ ih1 ih2 =>
  obtain ⟨x,rfl⟩:=ih1
  obtain ⟨y,rfl⟩:=ih2
  exact ⟨x ++ y ++ [i],by simp⟩
theorem NumsG.pre {r acc a:List Int} (h:NumsG us lf rg r acc a):∃ x,a=acc ++ x:=by
 induction h with
 | nil=>exact ⟨[],by simp⟩
 | cons h1 _ ih =>
  obtain ⟨x,rfl⟩:=h1.pre
  obtain ⟨y,rfl⟩:=ih
  exact ⟨x ++ y,by simp⟩
theorem NumG.sub {i:Int} {acc a:List Int} (h:NumG us lf rg i acc a) {j:Int} (hj:j ∈ acc):j ∈ a:=by
 obtain ⟨x,rfl⟩:=h.pre;exact List.mem_append.2 (.inl hj)
theorem NumsG.sub {r acc a:List Int} (h:NumsG us lf rg r acc a) {j:Int} (hj:j ∈ acc):j ∈ a:=by
 obtain ⟨x,rfl⟩:=h.pre;exact List.mem_append.2 (.inl hj)
theorem NumG.self {i:Int} {acc a:List Int} (h:NumG us lf rg i acc a) (u:us i=true):i ∈ a:=by
 cases h with
 | skip q=>exact q.elim (fun e=>by rw [e] at u;cases u) id
 | go _ _ _ _=>simp
theorem NumsG.roots {r acc a:List Int} (h:NumsG us lf rg r acc a):∀ i ∈ r,us i=true->i ∈ a:=by
 induction h with
 | nil=>intro i hi;cases hi
 | cons h1 h2 ih =>
  intro j hj u
  rcases List.mem_cons.1 hj with rfl | hj
  ·exact h2.sub (h1.self u)
  ·exact ih j hj u
variable {sz:Int->Nat}
/-- Sizes grow upwards: what is numbered below an index is smaller. -/
theorem NumG.small (hz:∀ i,us i=true->sz (lf i) < sz i/\sz (rg i) < sz i) {i:Int} {acc a:List Int} (h:NumG us lf rg i acc a):∀ j ∈ a,j ∈ acc ∨ (us j=true/\sz j<=sz i):=by
 induction h with
 | skip _=>exact fun j hj=>.inl hj
 | go u n _ _ ih1 ih2 =>
  have z:=hz _ u
  intro j hj
  rcases List.mem_append.1 hj with hj | hj
  ·rcases ih2 j hj with q | ⟨q1,q2⟩
   ·rcases ih1 j q with q | ⟨q1,q2⟩
    ·exact .inl q
    ·exact .inr ⟨q1,by omega⟩
   ·exact .inr ⟨q1,by omega⟩
  ·rw [List.mem_singleton.1 hj];exact .inr ⟨u,Nat.le_refl _⟩
/-- An index is not numbered below itself. -/
theorem NumG.fresh (hz:∀ i,us i=true->sz (lf i) < sz i/\sz (rg i) < sz i) {i:Int} {acc a1 a2:List Int} (u:us i=true) (n:i ∉ acc) (h1:NumG us lf rg (lf i) acc a1) (h2:NumG us lf rg (rg i) a1 a2):i ∉ a2:=fun hi=>by
 have z:=hz i u
 rcases h2.small hz i hi with q | ⟨_,q⟩
 ·rcases h1.small hz i q with q | ⟨_,q⟩
  ·exact n q
  ·omega
 ·omega
theorem NumG.nodup (hz:∀ i,us i=true->sz (lf i) < sz i/\sz (rg i) < sz i) {i:Int} {acc a:List Int} (h:NumG us lf rg i acc a) (d:acc.Nodup):a.Nodup:=by
 induction h with
 | skip _=>exact d
 | go u n h1 h2 ih1 ih2 =>
  have f:=NumG.fresh hz u n h1 h2
  refine List.nodup_append.2 ⟨ih2 (ih1 d),by simp,fun a ha b hb e=>?_⟩
  rw [List.mem_singleton.1 hb] at e
  exact f (e ▸ ha)
theorem NumsG.nodup (hz:∀ i,us i=true->sz (lf i) < sz i/\sz (rg i) < sz i) {r acc a:List Int} (h:NumsG us lf rg r acc a) (d:acc.Nodup):a.Nodup:=by
 induction h with
 | nil=>exact d
 | cons h1 _ ih=>exact ih (h1.nodup hz d)
theorem NumG.used {i:Int} {acc a:List Int} (h:NumG us lf rg i acc a) (d:∀ j ∈ acc,us j=true):∀ j ∈ a,us j=true:=by
 induction h with
 | skip _=>exact d
 | go u _ _ _ ih1 ih2 =>
  intro j hj
  rcases List.mem_append.1 hj with hj | hj
  ·exact ih2 (ih1 d) j hj
  ·rw [List.mem_singleton.1 hj];exact u
theorem NumsG.used {r acc a:List Int} (h:NumsG us lf rg r acc a) (d:∀ j ∈ acc,us j=true):∀ j ∈ a,us j=true:=by
 induction h with
 | nil=>exact d
 | cons h1 _ ih=>exact ih (h1.used d)
/-- Children come ahead of their parents. -/
def OrdG (us:Int->Bool) (lf rg:Int->Int) (a:List Int):Prop:=∀ (k:Nat) (j:Int),a[k]?=some j->us j=true/\(us (lf j)=true->lf j ∈ a.take k)/\(us (rg j)=true->rg j ∈ a.take k)
theorem OrdG.nil:OrdG us lf rg []:=fun k j h=>by simp at h
theorem OrdG.snoc {a:List Int} (h:OrdG us lf rg a) {i:Int} (u:us i=true) (h1:us (lf i)=true->lf i ∈ a) (h2:us (rg i)=true->rg i ∈ a):OrdG us lf rg (a ++ [i]):=by
 intro k j hk
 rcases Nat.lt_or_ge k a.length with q | q
 ·rw [List.getElem?_append_left q] at hk
  obtain ⟨e1,e2,e3⟩:=h k j hk
  rw [List.take_append_of_le_length (by omega)]
  exact ⟨e1,e2,e3⟩
 ·rw [List.getElem?_append_right q] at hk
  have hz:k - a.length=0:=by
   rcases Nat.eq_zero_or_pos (k - a.length) with z | z
   ·exact z
   ·rw [List.getElem?_eq_none (by simp;omega)] at hk;cases hk
  rw [hz] at hk
  have:i=j:=by simpa using hk
  subst this
  rw [show k=a.length by omega,List.take_left' rfl]
  exact ⟨u,h1,h2⟩
theorem NumG.ord {i:Int} {acc a:List Int} (h:NumG us lf rg i acc a) (d:OrdG us lf rg acc):OrdG us lf rg a:=by
 induction h with
 | skip _=>exact d
 | go u _ h1 h2 ih1 ih2=>exact (ih2 (ih1 d)).snoc u (fun e=>h2.sub (h1.self e)) fun e=>h2.self e
theorem NumsG.ord {r acc a:List Int} (h:NumsG us lf rg r acc a) (d:OrdG us lf rg acc):OrdG us lf rg a:=by
 induction h with
 | nil=>exact d
 | cons h1 _ ih=>exact ih (h1.ord d)
/-- What is numbered is reached. -/
theorem NumG.reach {P:Int->Prop} (hp:∀ i,P i->us i=true->P (lf i)/\P (rg i)) {i:Int} {acc a:List Int} (h:NumG us lf rg i acc a) (pi:P i) (d:∀ j ∈ acc,P j):∀ j ∈ a,P j:=by
 induction h with
 | skip _=>exact d
 | go u _ _ _ ih1 ih2 =>
  have q:=hp _ pi u
  intro j hj
  rcases List.mem_append.1 hj with hj | hj
  ·exact ih2 q.2 (ih1 q.1 d) j hj
  ·rw [List.mem_singleton.1 hj];exact pi
theorem NumsG.reach {P:Int->Prop} (hp:∀ i,P i->us i=true->P (lf i)/\P (rg i)) {r acc a:List Int} (h:NumsG us lf rg r acc a) (pr:∀ i ∈ r,P i) (d:∀ j ∈ acc,P j):∀ j ∈ a,P j:=by
 induction h with
 | nil=>exact d
 | cons h1 _ ih=>exact ih (fun i hi=>pr i (List.mem_cons_of_mem _ hi)) (h1.reach hp (pr _ (List.mem_cons_self ..)) d)
theorem NumG.congr {us':Int->Bool} {lf' rg':Int->Int} (h1:∀ i,us' i=us i) (h2:∀ i,us i=true->lf' i=lf i) (h3:∀ i,us i=true->rg' i=rg i) {i:Int} {acc a:List Int} (h:NumG us lf rg i acc a):NumG us' lf' rg' i acc a:=by
 induction h with
 | skip q=>exact .skip (q.imp (fun e=>(h1 _).trans e) id)
 | go u n _ _ ih1 ih2=>exact .go ((h1 _).trans u) n (by rw [h2 _ u];exact ih1) (by rw [h3 _ u];exact ih2)
theorem NumsG.congr {us':Int->Bool} {lf' rg':Int->Int} (h1:∀ i,us' i=us i) (h2:∀ i,us i=true->lf' i=lf i) (h3:∀ i,us i=true->rg' i=rg i) {r acc a:List Int} (h:NumsG us lf rg r acc a):NumsG us' lf' rg' r acc a:=by
 induction h with
 | nil=>exact .nil
 | cons k _ ih=>exact .cons (k.congr h1 h2 h3) ih
end

/-- The place of an index in a list, counted from 1. -/
def plcN:List Int->Int->Int
 | [],_=>0
 | x :: l,j=>if x=j then 1 else if plcN l j=0 then 0 else plcN l j+1
theorem plcN_rng:∀ (l:List Int) (j:Int),0<=plcN l j/\plcN l j<=l.length
 | [],_=>⟨Int.le_refl _,Int.le_refl _⟩
 | x :: l,j=>by
  have:=plcN_rng l j
  unfold plcN
  rw [List.length_cons]
  split
  ·omega
  ·split <;> omega
theorem plcN_mem:∀ {l:List Int} {j:Int},0 < plcN l j ↔ j ∈ l
 | [],j=>by simp [plcN]
 | x :: l,j=>by
  have ih:=plcN_mem (l:=l) (j:=j)
  have r:=plcN_rng l j
  unfold plcN
  rw [List.mem_cons]
  split
  ·rename_i e;exact ⟨fun _=>.inl e.symm,fun _=>by decide⟩
  ·rename_i e
   split
   ·rename_i z
    constructor
    ·intro h;omega
    ·rintro (h | h)
     ·exact absurd h.symm e
     ·have:=ih.2 h;omega
   ·rename_i z
    exact ⟨fun _=>.inr (ih.1 (by omega)),fun _=>by omega⟩
theorem plcN_none {l:List Int} {j:Int} (h:j ∉ l):plcN l j=0:=by
 have a:=plcN_rng l j
 have b:¬ 0 < plcN l j:=fun q=>h (plcN_mem.1 q)
 omega
theorem plcN_snoc:∀ (l:List Int) (i j:Int),i ∉ l->plcN (l ++ [i]) j=if i=j then (l.length:Int)+1 else plcN l j
 | [],i,j,_=>by
  show (if i=j then 1 else if (0:Int)=0 then 0 else 0+1)=if i=j then 0+1 else 0
  split <;> simp
 | x :: l,i,j,h=>by
  have ih:=plcN_snoc l i j (fun q=>h (List.mem_cons_of_mem _ q))
  have nx:x ≠ i:=fun e=>h (by rw [e];exact List.mem_cons_self ..)
  show (if x=j then 1 else if plcN (l ++ [i]) j=0 then 0 else plcN (l ++ [i]) j+1)=if i=j then ((x :: l).length:Int)+1 else if x=j then 1 else if plcN l j=0 then 0 else plcN l j+1
  rw [ih]
  by_cases e:i=j
  ·rw [if_pos e,if_pos e,if_neg (fun q=>nx (q.trans e.symm)),if_neg (by omega),List.length_cons];omega
  ·rw [if_neg e,if_neg e]
theorem plcN_at:∀ {l:List Int} {k:Nat} {j:Int},l.Nodup->l[k]?=some j->plcN l j=(k:Int)+1
 | [],k,j,_,h=>by simp at h
 | x :: l,0,j,_,h=>by
  have:x=j:=by simpa using h
  unfold plcN;rw [if_pos this];rfl
 | x :: l,k+1,j,d,h=>by
  have h':l[k]?=some j:=by simpa using h
  have m:j ∈ l:=List.mem_of_getElem? h'
  obtain ⟨d1,d2⟩:=List.nodup_cons.1 d
  have ih:=plcN_at d2 h'
  unfold plcN
  rw [if_neg (fun e:x=j=>d1 (e ▸ m)),ih,if_neg (by omega)]
  omega
theorem plcN_get {l:List Int} {j:Int} (h:j ∈ l):l[(plcN l j - 1).toNat]?=some j/\1<=plcN l j:=by
 induction l with
 | nil=>cases h
 | cons x l ih =>
  unfold plcN
  by_cases e:x=j
  ·rw [if_pos e];subst e;exact ⟨rfl,Int.le_refl _⟩
  ·rw [if_neg e]
   have m:j ∈ l:=(List.mem_cons.1 h).resolve_left (fun q=>e q.symm)
   obtain ⟨i1,i2⟩:=ih m
   rw [if_neg (by omega),show (plcN l j+1 - 1).toNat=(plcN l j - 1).toNat+1 by omega]
   exact ⟨by simpa using i1,by omega⟩
end Go.Proofs.YtedfbafngmicpaaGreat
end
section
/- Numbering in an arena: sizes, existence, how many. -/
namespace Go.Proofs.YtedfbafngmicpaaGreat
open Go

def lfA (S:Arn) (i:Int):Int:=(S.nd i).left
def rgA (S:Arn) (i:Int):Int:=(S.nd i).right
abbrev NumA (S:Arn):=NumG S.us (lfA S) (rgA S)
abbrev NumsA (S:Arn):=NumsG S.us (lfA S) (rgA S)
variable {S:Arn} {hs:List Int}
theorem sz_kids (h:Wf S hs):∀ i,S.us i=true->(S.nd (lfA S i)).size.toNat < (S.nd i).size.toNat/\(S.nd (rgA S i)).size.toNat < (S.nd i).size.toNat:=fun i u=>by
 have z:=h.siz i u
 have a:=h.size_nonneg (S.nd i).left
 have b:=h.size_nonneg (S.nd i).right
 unfold lfA rgA
 omega
theorem repG_wf (h:Wf S hs):∀ (n:Nat) (i:Int),(S.nd i).size.toNat<=n->RepG S.us (lfA S) (rgA S) n i
 | 0,i,z=>by
  cases u:S.us i with
  | false=>exact u
  | true=>have:=(h.siz i u).1;omega
 | n+1,i,z=>by
  cases u:S.us i with
  | false=>exact .inl u
  | true =>
   have k:=sz_kids h i u
   exact .inr ⟨repG_wf h n _ (by omega),repG_wf h n _ (by omega)⟩
theorem numA_ex (h:Wf S hs) (i:Int) (acc:List Int):∃ a,NumA S i acc a:=NumG.ex acc (repG_wf h _ i (Nat.le_refl _))
theorem numsA_ex (h:Wf S hs) (r:List Int) (acc:List Int):∃ a,NumsA S r acc a:=NumsG.ex r acc fun i _=>⟨_,repG_wf h _ i (Nat.le_refl _)⟩
def szA (S:Arn) (i:Int):Nat:=(S.nd i).size.toNat
theorem szA_kids (h:Wf S hs):∀ i,S.us i=true->szA S (lfA S i) < szA S i/\szA S (rgA S i) < szA S i:=sz_kids h
theorem len_nd {α:Type} [DecidableEq α]:∀ (a b:List α),a.Nodup->(∀ x ∈ a,x ∈ b)->a.length<=b.length
 | [],_,_,_=>Nat.zero_le _
 | x :: a,b,hn,hs=>by
  obtain ⟨h1,h2⟩:=List.pairwise_cons.1 hn
  have hx:=hs x (by simp)
  have:=len_nd a (b.erase x) h2 fun y hy=>(List.mem_erase_of_ne (Ne.symm (h1 y hy))).2 (hs y (by simp [hy]))
  rw [List.length_erase_of_mem hx] at this
  have:0 < b.length:=List.length_pos_of_mem hx
  simp;omega
theorem used_few (h:Wf S hs) {l:List Int} (d:l.Nodup) (u:∀ j ∈ l,S.us j=true):l.length+1<=S.used.length:=by
 have q:=len_nd l ((List.range (S.used.length - 1)).map fun (n:Nat)=>(n:Int)+1) d fun x hx=>by
  have p:=h.pos (u x hx)
  exact List.mem_map.2 ⟨(x - 1).toNat,List.mem_range.2 (by omega),by omega⟩
 have:=h.n1
 rw [List.length_map,List.length_range] at q
 omega
end Go.Proofs.YtedfbafngmicpaaGreat
end
section
/- packwork extend, number, Nodes; pack.Nodes; compact.Needed. -/
namespace Go.Proofs.YtedfbafngmicpaaGreat.Sx
open Go

/-KEEP Wf exW inU allV rdS NumsA NumA ExtR opN StkN NmR NmB NumK-/
def allV (l:List Int):Prop:=∀ x ∈ l,inU x
abbrev chX (l:List Int) (pm:List (Int × Int)) (rs:List Int) (S:Arn):List (Chunk C0):=[.box [.slc 2,.slc 3],.box [.ptr 4 0,.slc 5,.slc 6,vU64 S.reads],.row true EC.u32 l,.map .u32 .u64 pm,.box [.slc 7,.slc 8,.slc 9,vU S.fresh],.row true EC.node S.nodes,.row true EC.int S.counts,.row true EC.bool S.used,.row true EC.u32 S.gen,.row true EC.u32 S.rel,.row false EC.u32 rs]
def exM (H:List (Chunk C0)) (k:List Int->List (Int × Int)->List Int->Arn->Prop):Prop:=match H with
 | [.box [.slc 2,.slc 3],.box [.ptr 4 0,.slc 5,.slc 6,.val (.int .u64 rd)],.row true .u32 l,.map .u32 .u64 pm,.box [.slc 7,.slc 8,.slc 9,.val (.int .u32 fr)],.row true .node nd,.row true .int ct,.row true .bool us,.row true .u32 gn,.row true .u32 rl,.row false .u32 rs]=>k l pm rs ⟨us,gn,rl,fr,nd,ct,rd⟩
 | _=>False
structure ExtR (S:Arn) (l rs:List Int) (S':Arn) (l':List Int) (pm':List (Int × Int)):Prop where
 num:NumsA S rs l l'
 map:∀ j,lookM pm' j=plcN l' j
 st:S'=rdS S (l'.length - l.length)
def NmB (S:Arn) (rs:List Int):Prop:=exW S/\S.reads<=3000000000000000000/\rs.length<=1000000/\allV rs
structure NmR (S:Arn) (rs:List Int) (S':Arn) (l:List Int):Prop where
 num:NumsA S rs [] l
 st:S'=rdS S l.length
/-- A numbering's list, and its map. -/
structure NumK (S:Arn) (l:List Int) (pm:List (Int × Int)):Prop where
 nd:l.Nodup
 us:∀ j ∈ l,S.us j=true
 map:∀ j,lookM pm j=plcN l j
/-- What is still to come of a traversal: the steps, the topmost first. -/
inductive StkN (us:Int->Bool) (lf rg:Int->Int):List PStepT->List Int->List Int->Prop where
 | nil {acc:List Int}:StkN us lf rg [] acc acc
 | open {i:Int} {r:List PStepT} {acc tgt:List Int}:us i=true->i ∉ acc->StkN us lf rg r (acc ++ [i]) tgt->StkN us lf rg (⟨i,true⟩ :: r) acc tgt
 | closed {i:Int} {r:List PStepT} {acc a tgt:List Int}:inU i->NumG us lf rg i acc a->StkN us lf rg r a tgt->StkN us lf rg (⟨i,false⟩ :: r) acc tgt
def opN (w:List PStepT):Nat:=w.countP fun x=>x.open_
structure XEa (P:Arn->List Int->List (Int × Int)->Nat->Prop) where
 S:Arn
 l:List Int
 pm:List (Int × Int)
 i:Nat
 h:P S l pm i
structure XEb (P:Arn->List Int->List (Int × Int)->Nat->List PStepT->Prop) where
 S:Arn
 l:List Int
 pm:List (Int × Int)
 i:Nat
 w:List PStepT
 h:P S l pm i w
def wtP (S:Arn) (w:List PStepT):Nat:=(w.map fun x=>if x.open_ then 1 else 3 * (S.nd x.index).size.toNat+1).sum
noncomputable def aExt (P1:Arn->List Int->List (Int × Int)->Nat->Prop) (P2:Arn->List Int->List (Int × Int)->Nat->List PStepT->Prop) (rs:List Int):Ann C0:={ Γ:=[(86,frameT [] tNode)],trunc:=fun n=>n=34,inv:=fun n=>match n with
 | 1=>some { X:=XEa P1,sl:=[14],tf:=fun x=>[vi .i64 x.i],hf:=fun x=>chX x.l x.pm rs x.S,μ:=fun x=>rs.length - x.i,wr:=[0,1,2,3] }
 | 4=>some { X:=XEb P2,sl:=[8],tf:=fun _=>[.one (.at (.slc 11))],hf:=fun x=>chX x.l x.pm rs x.S ++ [.row true EC.pstep x.w],μ:=fun x=>wtP x.S x.w,wr:=[0,1,2,3],rel:=fun T _ x=>slotI T 14 x.i }
 | _=>none }
def tExt:Tfm C0:=fun args H K=>match args with
 | [.at (.ptr 0 0),.at (.ptr 1 0),.at (.slc 10)]=>exM H fun l pm rs S=>exW S/\S.reads<=3000000000000000000/\rs.length<=1000000/\allV rs/\NumK S l pm/\∀ S' l' pm',ExtR S l rs S' l' pm'->K (.tup []) (chX l' pm' rs S') [0,1,2,3]
 | _=>False
noncomputable def aNmb:Ann C0:={ Γ:=[(94,frameT [] tExt)] }
abbrev nbM (H:List (Chunk C0)) (k:Arn->List Int->Prop):Prop:=arMr H fun S rest=>match rest with
 | [.row false .u32 rs]=>k S rs
 | _=>False
def tNmb:Tfm C0:=fun args H K=>match args with
 | [.at (.ptr 0 0),.at (.slc 7)]=>nbM H fun S rs=>NmB S rs/\∀ S' l pm,NmR S rs S' l->K (.one (.at (.ptr 8 0))) (chS S' ++ [.row false EC.u32 rs,.box [.slc 9,.slc 10],.row true EC.u32 l,.map .u32 .u64 pm]) [0]
 | _=>False
noncomputable def aNds:Ann C0:={ Γ:=[(93,frameT [] tNmb)] }
def tNds:Tfm C0:=fun args H K=>match args with
 | [.at (.ptr 0 0),.at (.slc 7)]=>nbM H fun S rs=>NmB S rs/\∀ S' l,NmR S rs S' l->K (.one (.at (.slc 8))) (chS S' ++ [.row false EC.u32 rs,.row true EC.u32 l]) [0]
 | _=>False
noncomputable def aPno:Ann C0:={ Γ:=[(84,frameT [] tNds)] }
theorem lookM_set:∀ (l:List (Int × Int)) (k v j:Int),lookM (setM l k v) j=if k=j then v else lookM l j
 | [],k,v,j=>rfl
 | p :: r,k,v,j=>by
  have ih:=lookM_set r k v j
  unfold setM
  by_cases c:p.1=k
  ·rw [if_pos c]
   show (if k=j then v else lookM r j)=if k=j then v else (if p.1=j then p.2 else lookM r j)
   by_cases d:k=j
   ·rw [if_pos d,if_pos d]
   ·rw [if_neg d,if_neg d,if_neg (by omega)]
  ·rw [if_neg c]
   show (if p.1=j then p.2 else lookM (setM r k v) j)=if k=j then v else (if p.1=j then p.2 else lookM r j)
   rw [ih]
   by_cases d:p.1=j
   ·rw [if_pos d,if_pos d,if_neg (by omega)]
   ·rw [if_neg d,if_neg d]
theorem opN_snoc (w:List PStepT) (x:PStepT):opN (w ++ [x])=opN w+if x.open_ then 1 else 0:=by
 unfold opN;rw [List.countP_append,List.countP_singleton]
theorem opN_app (w v:List PStepT):opN (w ++ v)=opN w+opN v:=by unfold opN;rw [List.countP_append]
theorem wtP_app (S:Arn) (w v:List PStepT):wtP S (w ++ v)=wtP S w+wtP S v:=by unfold wtP;simp
theorem StkN.opens {us:Int->Bool} {lf rg:Int->Int} {w:List PStepT} {acc tgt:List Int} (h:StkN us lf rg w acc tgt):acc.length+opN w<=tgt.length:=by
 induction h with
 | nil=>exact Nat.le_refl _
 | @«open» i r acc tgt _ _ _ ih =>
  have e:opN (⟨i,true⟩ :: r)=opN r+1:=by unfold opN;simp
  rw [List.length_append,List.length_singleton] at ih
  omega
 | @closed i r acc a tgt _ k _ ih =>
  have e:opN (⟨i,false⟩ :: r)=opN r:=by unfold opN;simp
  obtain ⟨x,rfl⟩:=k.pre
  rw [List.length_append] at ih
  omega
structure InR (S0:Arn) (l0 rs:List Int) (S:Arn) (l:List Int) (pm:List (Int × Int)) (i:Nat) (w:List PStepT):Prop where
 lt:i < rs.length
 tgt:∃ l1 t,NumsA S0 (rs.take i) l0 l1/\NumA S0 (rs.getD i 0) l1 t/\StkN S0.us (lfA S0) (rgA S0) w.reverse l t
 map:∀ j,lookM pm j=plcN l j
 nd:l.Nodup
 us:∀ j ∈ l,S0.us j=true
 m:∃ m,S=rdS S0 m/\m+l0.length=l.length+opN w/\w.length<=3 * m+1
theorem takeD_one {α:Type} {l:List α} {i:Nat} {dft:α} (h:i < l.length):l.take (i+1)=l.take i ++ [l.getD i dft]:=by
 rw [List.take_add_one,List.getD_eq_getElem?_getD,List.getElem?_eq_getElem h];rfl
section
variable {S0 S:Arn} {hs l0 rs l:List Int} {pm:List (Int × Int)} {i:Nat} {w:List PStepT}
theorem InR.bd (hw:Wf S0 hs) (hn:l0.Nodup) (hu:∀ j ∈ l0,S0.us j=true) (h:InR S0 l0 rs S l pm i w):l.length<=65536/\∃ m,S=rdS S0 m/\m<=65536/\w.length<=3 * m+1:=by
 obtain ⟨l1,t,n1,n2,st⟩:=h.tgt
 obtain ⟨m,m1,m2,m3⟩:=h.m
 have q:=used_few hw (n2.nodup (szA_kids hw) (n1.nodup (szA_kids hw) hn)) (n2.used (n1.used hu))
 have o:=st.opens
 rw [show opN w.reverse=opN w by unfold opN;rw [List.countP_reverse]] at o
 have u2:=hw.n2
 exact ⟨by omega,m,m1,by omega,m3⟩
theorem ExtR.more (hw:Wf S0 hs) (hi:i < rs.length) (hv:allV rs) (hn:l0.Nodup) (hu:∀ j ∈ l0,S0.us j=true) (h:ExtR S0 l0 (rs.take i) S l pm):InR S0 l0 rs S l pm i [⟨rs.getD i 0,false⟩]:=by
 obtain ⟨t,ht⟩:=numA_ex hw (rs.getD i 0) l
 have hm:rs.getD i 0 ∈ rs:=by rw [List.getD_eq_getElem?_getD,List.getElem?_eq_getElem hi];exact List.getElem_mem hi
 obtain ⟨y,hy⟩:=h.num.pre
 exact ⟨hi,⟨l,t,h.num,ht,.closed (hv _ hm) ht .nil⟩,h.map,h.num.nodup (szA_kids hw) hn,h.num.used hu,_,h.st,by rw [hy,List.length_append];show _=_+0;omega,by simp⟩
theorem InR.done (h:InR S0 l0 rs S l pm i []):ExtR S0 l0 (rs.take (i+1)) S l pm:=by
 obtain ⟨l1,t,n1,n2,st⟩:=h.tgt
 obtain ⟨m,m1,m2,m3⟩:=h.m
 cases st
 refine ⟨?_,h.map,?_⟩
 ·rw [takeD_one (dft:=(0:Int)) h.lt];exact n1.app (NumsG.one n2)
 ·rw [m1]
  have:opN []=0:=rfl
  congr 1;omega
theorem InR.pop {j v:Int} (h:InR S0 l0 rs S l pm i (w ++ [⟨j,true⟩])) (hv:v=(l.length:Int)+1):InR S0 l0 rs S (l ++ [j]) (setM pm j v) i w:=by
 obtain ⟨l1,t,n1,n2,st⟩:=h.tgt
 obtain ⟨m,m1,m2,m3⟩:=h.m
 rw [List.reverse_append] at st
 have st:StkN S0.us (lfA S0) (rgA S0) (⟨j,true⟩ :: w.reverse) l t:=st
 cases st with
 | «open» u n st =>
  refine ⟨h.lt,⟨l1,t,n1,n2,st⟩,fun k=>?_,?_,?_,m,m1,?_,?_⟩
  ·rw [lookM_set,plcN_snoc _ _ _ n,h.map,hv]
  ·refine List.nodup_append.2 ⟨h.nd,by simp,fun a ha b hb e=>?_⟩
   rw [List.mem_singleton.1 hb] at e
   exact n (e ▸ ha)
  ·intro k hk
   rcases List.mem_append.1 hk with hk | hk
   ·exact h.us k hk
   ·rw [List.mem_singleton.1 hk];exact u
  ·rw [opN_snoc,if_pos rfl] at m2
   rw [List.length_append,List.length_singleton];omega
  ·rw [List.length_append,List.length_singleton] at m3;omega
theorem InR.inu {j:Int} (h:InR S0 l0 rs S l pm i (w ++ [⟨j,false⟩])):inU j:=by
 obtain ⟨l1,t,n1,n2,st⟩:=h.tgt
 rw [List.reverse_append] at st
 have st:StkN S0.us (lfA S0) (rgA S0) (⟨j,false⟩ :: w.reverse) l t:=st
 cases st with
 | closed u _ _=>exact u
theorem InR.skip {j:Int} (h:InR S0 l0 rs S l pm i (w ++ [⟨j,false⟩])) (hj:S0.us j=false ∨ j ∈ l):InR S0 l0 rs S l pm i w:=by
 obtain ⟨l1,t,n1,n2,st⟩:=h.tgt
 obtain ⟨m,m1,m2,m3⟩:=h.m
 rw [List.reverse_append] at st
 have st:StkN S0.us (lfA S0) (rgA S0) (⟨j,false⟩ :: w.reverse) l t:=st
 cases st with
 | closed _ n st =>
  have e:=n.det (.skip hj)
  rw [e] at st
  refine ⟨h.lt,⟨l1,t,n1,n2,st⟩,h.map,h.nd,h.us,m,m1,?_,?_⟩
  ·rw [opN_snoc] at m2
   simpa using m2
  ·rw [List.length_append,List.length_singleton] at m3;omega
theorem InR.push {j:Int} (hw:Wf S0 hs) (h:InR S0 l0 rs S l pm i (w ++ [⟨j,false⟩])) (u:S0.us j=true) (hj:j ∉ l):InR S0 l0 rs (rdS S 1) l pm i (w ++ [⟨j,true⟩,⟨(S0.nd j).right,false⟩,⟨(S0.nd j).left,false⟩]):=by
 obtain ⟨l1,t,n1,n2,st⟩:=h.tgt
 obtain ⟨m,m1,m2,m3⟩:=h.m
 rw [List.reverse_append] at st
 have st:StkN S0.us (lfA S0) (rgA S0) (⟨j,false⟩ :: w.reverse) l t:=st
 cases st with
 | closed _ n st =>
  cases n with
  | skip q=>exact absurd q (by rw [u];simp [hj])
  | go _ _ k1 k2 =>
   have kd:=hw.kid j u
   refine ⟨h.lt,⟨l1,t,n1,n2,?_⟩,h.map,h.nd,h.us,m+1,?_,?_,?_⟩
   ·rw [List.reverse_append]
    exact .closed (inU_of hw kd.1) k1 (.closed (inU_of hw kd.2) k2 (.open u (NumG.fresh (szA_kids hw) u hj k1 k2) st))
   ·rw [m1,rdS_rdS]
   ·rw [opN_snoc] at m2
    rw [opN_app,show opN [⟨j,true⟩,⟨(S0.nd j).right,false⟩,⟨(S0.nd j).left,false⟩]=1 from rfl]
    have:(if (⟨j,false⟩:PStepT).open_=true then 1 else 0)=0:=rfl
    omega
   ·rw [List.length_append] at m3 ⊢
    simp at m3 ⊢;omega
end
def PX1 (S0:Arn) (l0 rs:List Int):Arn->List Int->List (Int × Int)->Nat->Prop:=fun S l pm i=>i<=rs.length/\ExtR S0 l0 (rs.take i) S l pm
theorem vc_ext (l:List Int) (pm:List (Int × Int)) (rs:List Int) (S:Arn) (K:KT) (hx:exW S) (hr:S.reads<=3000000000000000000) (h1:rs.length<=1000000) (hv:allV rs) (hk:NumK S l pm) (h:∀ S' l' pm',ExtR S l rs S' l' pm'->K (.tup []) (chX l' pm' rs S') [0,1,2,3]) :
  vc C0 (aExt (PX1 S l rs) (InR S l rs) rs) Tryz.f94 [.at (.ptr 0 0),.at (.ptr 1 0),.at (.slc 10)] (chX l pm rs S) (normK 11 (wideK [0,1,2,3] K)):=by
 generalize hP1:PX1 S l rs=P1
 generalize hP2:InR S l rs=P2
 refine Eq.mp (show ((∃ x:XEa P1,(True/\(True/\True/\True/\((Value.int .i64 ((rs.length:Int)))=(Value.int .i64 ((rs.length:Int))))/\((Value.int .i64 0)=(Value.int .i64 ((x.i:Int))))/\True)/\(True/\True/\True)/\(True/\True/\True/\((Value.int .u64 (S.reads))=(Value.int .u64 (x.S.reads)))/\True)/\((l)=(x.l))/\((pm)=(x.pm))/\(True/\True/\True/\((Value.int .u32 (S.fresh))=(Value.int .u32 (x.S.fresh)))/\True)/\((S.nodes)=(x.S.nodes))/\((S.counts)=(x.S.counts))/\((S.used)=(x.S.used))/\((S.gen)=(x.S.gen))/\((S.rel)=(x.S.rel))/\((rs)=(rs))/\True))/\(∀ x:XEa P1,(True->(brS (decide ((x.i:Int) < (rs.length:Int))) (((0<=(x.i:Int))/\((x.i:Int) < (rs.length:Int))/\(∃ x1:XEb P2,((((x.i:Int))=((x1.i:Int)))/\(True/\True/\True/\True/\((Value.int .i64 ((rs.length:Int)))=(Value.int .i64 ((rs.length:Int))))/\((Value.int .i64 ((x.i:Int)))=(Value.int .i64 ((x.i:Int))))/\True)/\(True/\True/\True)/\(True/\True/\True/\((Value.int .u64 (x.S.reads))=(Value.int .u64 (x1.S.reads)))/\True)/\((x.l)=(x1.l))/\((x.pm)=(x1.pm))/\(True/\True/\True/\((Value.int .u32 (x.S.fresh))=(Value.int .u32 (x1.S.fresh)))/\True)/\((x.S.nodes)=(x1.S.nodes))/\((x.S.counts)=(x1.S.counts))/\((x.S.used)=(x1.S.used))/\((x.S.gen)=(x1.S.gen))/\((x.S.rel)=(x1.S.rel))/\((rs)=(rs))/\([({ index:=rs.getD (x.i:Int).toNat 0,open_:=false:PStepT })]=(x1.w))/\True))/\(∀ x1:XEb P2,((((x.i:Int))=((x1.i:Int)))->(brS (decide ((x1.w.length:Int) > 0)) (((0<=IntKind.i64.wrap ((x1.w.length:Int) - 1))/\(IntKind.i64.wrap ((x1.w.length:Int) - 1) < (x1.w.length:Int))/\(0<=IntKind.i64.wrap ((x1.w.length:Int) - 1))/\
 (IntKind.i64.wrap ((x1.w.length:Int) - 1)<=(x1.w.length:Int))/\(brS ((x1.w.getD (IntKind.i64.wrap ((x1.w.length:Int) - 1)).toNat { index:=0,open_:=false:PStepT }).open_) (((((x1.l.length+[(x1.w.getD (IntKind.i64.wrap ((x1.w.length:Int) - 1)).toNat { index:=0,open_:=false:PStepT }).index].length) * bytesOf C0 EC.u32<=140737488355328)/\(∃ x':XEb P2,((((x.i:Int))=((x'.i:Int)))/\((True/\True/\True/\True/\((Value.int .i64 ((rs.length:Int)))=(Value.int .i64 ((rs.length:Int))))/\((Value.int .i64 ((x.i:Int)))=(Value.int .i64 ((x.i:Int))))/\True)/\(True/\True/\True)/\(True/\True/\True/\((Value.int .u64 (x1.S.reads))=(Value.int .u64 (x'.S.reads)))/\True)/\((x1.l ++ [(x1.w.getD (IntKind.i64.wrap ((x1.w.length:Int) - 1)).toNat { index:=0,open_:=false:PStepT }).index])=(x'.l))/\((setM x1.pm (x1.w.getD (IntKind.i64.wrap ((x1.w.length:Int) - 1)).toNat { index:=0,open_:=false:PStepT }).index (IntKind.u64.wrap (↑(x1.l ++ [(x1.w.getD (IntKind.i64.wrap ((x1.w.length:Int) - 1)).toNat { index:=0,open_:=false:PStepT }).index]).length:Int)))=(x'.pm))/\(True/\True/\True/\((Value.int .u32 (x1.S.fresh))=(Value.int .u32 (x'.S.fresh)))/\True)/\((x1.S.nodes)=(x'.S.nodes))/\((x1.S.counts)=(x'.S.counts))/\((x1.S.used)=(x'.S.used))/\((x1.S.gen)=(x'.S.gen))/\((x1.S.rel)=(x'.S.rel))/\((rs)=(rs))/\((List.take (IntKind.i64.wrap ((x1.w.length:Int) - 1)).toNat x1.w)=(x'.w))/\True)/\(wtP x'.S x'.w < wtP x1.S x1.w))))/\((x1.l.length+[(x1.w.getD (IntKind.i64.wrap ((x1.w.length:Int) - 1)).toNat { index:=0,open_:=false:PStepT }).index].length) * bytesOf C0 EC.u32<=140737488355328)/\
 (∃ x':XEb P2,((((x.i:Int))=((x'.i:Int)))/\((True/\True/\True/\True/\((Value.int .i64 ((rs.length:Int)))=(Value.int .i64 ((rs.length:Int))))/\((Value.int .i64 ((x.i:Int)))=(Value.int .i64 ((x.i:Int))))/\True)/\(True/\True/\True)/\(True/\True/\True/\((Value.int .u64 (x1.S.reads))=(Value.int .u64 (x'.S.reads)))/\True)/\((x1.l ++ [(x1.w.getD (IntKind.i64.wrap ((x1.w.length:Int) - 1)).toNat { index:=0,open_:=false:PStepT }).index])=(x'.l))/\((setM x1.pm (x1.w.getD (IntKind.i64.wrap ((x1.w.length:Int) - 1)).toNat { index:=0,open_:=false:PStepT }).index (IntKind.u64.wrap (↑(x1.l ++ [(x1.w.getD (IntKind.i64.wrap ((x1.w.length:Int) - 1)).toNat { index:=0,open_:=false:PStepT }).index]).length:Int)))=(x'.pm))/\(True/\True/\True/\((Value.int .u32 (x1.S.fresh))=(Value.int .u32 (x'.S.fresh)))/\True)/\((x1.S.nodes)=(x'.S.nodes))/\((x1.S.counts)=(x'.S.counts))/\((x1.S.used)=(x'.S.used))/\((x1.S.gen)=(x'.S.gen))/\((x1.S.rel)=(x'.S.rel))/\((rs)=(rs))/\((List.take (IntKind.i64.wrap ((x1.w.length:Int) - 1)).toNat x1.w)=(x'.w))/\True)/\(wtP x'.S x'.w < wtP x1.S x1.w))))) ((brS (decide (lookM x1.pm (x1.w.getD (IntKind.i64.wrap ((x1.w.length:Int) - 1)).toNat { index:=0,open_:=false:PStepT }).index > 0)) ((∃ x':XEb P2,((((x.i:Int))=((x'.i:Int)))/\((True/\True/\True/\True/\((Value.int .i64 ((rs.length:Int)))=(Value.int .i64 ((rs.length:Int))))/\((Value.int .i64 ((x.i:Int)))=(Value.int .i64 ((x.i:Int))))/\True)/\(True/\True/\True)/\(True/\True/\True/\((Value.int .u64 (x1.S.reads))=(Value.int .u64 (x'.S.reads)))/\
 True)/\((x1.l)=(x'.l))/\((x1.pm)=(x'.pm))/\(True/\True/\True/\((Value.int .u32 (x1.S.fresh))=(Value.int .u32 (x'.S.fresh)))/\True)/\((x1.S.nodes)=(x'.S.nodes))/\((x1.S.counts)=(x'.S.counts))/\((x1.S.used)=(x'.S.used))/\((x1.S.gen)=(x'.S.gen))/\((x1.S.rel)=(x'.S.rel))/\((rs)=(rs))/\((List.take (IntKind.i64.wrap ((x1.w.length:Int) - 1)).toNat x1.w)=(x'.w))/\True)/\(wtP x'.S x'.w < wtP x1.S x1.w)))) (((inU (x1.w.getD (IntKind.i64.wrap ((x1.w.length:Int) - 1)).toNat { index:=0,open_:=false:PStepT }).index)/\(exW x1.S)/\(x1.S.reads < 4000000000000000000)/\(∀ S':Arn,(((S')=(rdS x1.S (x1.S.us (x1.w.getD (IntKind.i64.wrap ((x1.w.length:Int) - 1)).toNat { index:=0,open_:=false:PStepT }).index).toNat))->(brS (x1.S.us (x1.w.getD (IntKind.i64.wrap ((x1.w.length:Int) - 1)).toNat { index:=0,open_:=false:PStepT }).index) (((((List.take (IntKind.i64.wrap ((x1.w.length:Int) - 1)).toNat x1.w).length+[{ index:=(x1.w.getD (IntKind.i64.wrap ((x1.w.length:Int) - 1)).toNat { index:=0,open_:=false:PStepT }).index,open_:=true:PStepT },{ index:=(x1.S.nd (x1.w.getD (IntKind.i64.wrap ((x1.w.length:Int) - 1)).toNat { index:=0,open_:=false:PStepT }).index).right,open_:=false:PStepT },{ index:=(x1.S.nd (x1.w.getD (IntKind.i64.wrap ((x1.w.length:Int) - 1)).toNat { index:=0,open_:=false:PStepT }).index).left,open_:=false:PStepT }].length) * bytesOf C0 EC.pstep<=140737488355328)/\(∃ x':XEb P2,((((x.i:Int))=((x'.i:Int)))/\((True/\True/\True/\True/\((Value.int .i64 ((rs.length:Int)))=(Value.int .i64 ((rs.length:Int))))/\
 ((Value.int .i64 ((x.i:Int)))=(Value.int .i64 ((x.i:Int))))/\True)/\(True/\True/\True)/\(True/\True/\True/\((Value.int .u64 (S'.reads))=(Value.int .u64 (x'.S.reads)))/\True)/\((x1.l)=(x'.l))/\((x1.pm)=(x'.pm))/\(True/\True/\True/\((Value.int .u32 (S'.fresh))=(Value.int .u32 (x'.S.fresh)))/\True)/\((S'.nodes)=(x'.S.nodes))/\((S'.counts)=(x'.S.counts))/\((S'.used)=(x'.S.used))/\((S'.gen)=(x'.S.gen))/\((S'.rel)=(x'.S.rel))/\((rs)=(rs))/\((List.take (IntKind.i64.wrap ((x1.w.length:Int) - 1)).toNat x1.w ++ [{ index:=(x1.w.getD (IntKind.i64.wrap ((x1.w.length:Int) - 1)).toNat { index:=0,open_:=false:PStepT }).index,open_:=true:PStepT },{ index:=(x1.S.nd (x1.w.getD (IntKind.i64.wrap ((x1.w.length:Int) - 1)).toNat { index:=0,open_:=false:PStepT }).index).right,open_:=false:PStepT },{ index:=(x1.S.nd (x1.w.getD (IntKind.i64.wrap ((x1.w.length:Int) - 1)).toNat { index:=0,open_:=false:PStepT }).index).left,open_:=false:PStepT }])=(x'.w))/\True)/\(wtP x'.S x'.w < wtP x1.S x1.w))))) ((∃ x':XEb P2,((((x.i:Int))=((x'.i:Int)))/\((True/\True/\True/\True/\((Value.int .i64 ((rs.length:Int)))=(Value.int .i64 ((rs.length:Int))))/\((Value.int .i64 ((x.i:Int)))=(Value.int .i64 ((x.i:Int))))/\True)/\(True/\True/\True)/\(True/\True/\True/\((Value.int .u64 (S'.reads))=(Value.int .u64 (x'.S.reads)))/\True)/\((x1.l)=(x'.l))/\((x1.pm)=(x'.pm))/\(True/\True/\True/\((Value.int .u32 (S'.fresh))=(Value.int .u32 (x'.S.fresh)))/\True)/\((S'.nodes)=(x'.S.nodes))/\((S'.counts)=(x'.S.counts))/\((S'.used)=(x'.S.used))/\
 ((S'.gen)=(x'.S.gen))/\((S'.rel)=(x'.S.rel))/\((rs)=(rs))/\((List.take (IntKind.i64.wrap ((x1.w.length:Int) - 1)).toNat x1.w)=(x'.w))/\True)/\(wtP x'.S x'.w < wtP x1.S x1.w)))))))))))))) ((∃ x':XEa P1,(True/\((True/\True/\True/\((Value.int .i64 ((rs.length:Int)))=(Value.int .i64 ((rs.length:Int))))/\((Value.int .i64 (IntKind.i64.wrap ((x.i:Int)+1)))=(Value.int .i64 ((x'.i:Int))))/\True)/\(True/\True/\True)/\(True/\True/\True/\((Value.int .u64 (x1.S.reads))=(Value.int .u64 (x'.S.reads)))/\True)/\((x1.l)=(x'.l))/\((x1.pm)=(x'.pm))/\(True/\True/\True/\((Value.int .u32 (x1.S.fresh))=(Value.int .u32 (x'.S.fresh)))/\True)/\((x1.S.nodes)=(x'.S.nodes))/\((x1.S.counts)=(x'.S.counts))/\((x1.S.used)=(x'.S.used))/\((x1.S.gen)=(x'.S.gen))/\((x1.S.rel)=(x'.S.rel))/\((rs)=(rs))/\True)/\(rs.length - x'.i < rs.length - x.i))))))))) ((K (.tup []) [(.box [(.slc 2),(.slc 3)]),(.box [(.ptr 4 0),(.slc 5),(.slc 6),(.val (Value.int .u64 (x.S.reads)))]),(.row true EC.u32 (x.l)),(Chunk.map IntKind.u32 IntKind.u64 (x.pm)),(.box [(.slc 7),(.slc 8),(.slc 9),(.val (Value.int .u32 (x.S.fresh)))]),(.row true EC.node (x.S.nodes)),(.row true EC.int (x.S.counts)),(.row true EC.bool (x.S.used)),(.row true EC.u32 (x.S.gen)),(.row true EC.u32 (x.S.rel)),(.row false EC.u32 (rs))] [0,1,2,3]))))))=_ by kernel_rfl) ?_
 subst hP1 hP2
 obtain ⟨hs,hw⟩:=hx
 obtain ⟨hn,hu,hm⟩:=hk
 refine ⟨⟨⟨S,l,pm,0,Nat.zero_le _,.nil,hm,?_⟩,?_⟩,fun x _=>brS_of (fun c=>?_) fun c=>?_⟩
 ·rw [Nat.sub_self,rdS_zero]
 ·(repeat' first | exact trivial | exact rfl | refine And.intro ?_ ?_)
 ·obtain ⟨Sa,la,pa,i,hi,ha⟩:=x
  dsimp only at c ⊢
  have c:i < rs.length:=by have:=of_decide_eq_true c;omega
  refine ⟨by omega,by omega,⟨⟨Sa,la,pa,i,_,ha.more hw c hv hn hu⟩,rfl,?_⟩,fun x ex=>brS_of (fun d=>?_) fun d=>?_⟩
  ·(repeat' first | exact trivial | exact rfl | refine And.intro ?_ ?_)
  ·skip
   obtain ⟨Sb,lb,pb,i',w,hb⟩:=x
   dsimp only at d ex ⊢
   obtain rfl:i=i':=by omega
   have d:0 < w.length:=by have:=of_decide_eq_true d;omega
   obtain ⟨w',x,rfl⟩:∃ w' x,w=w' ++ [x]:=by
    rcases List.eq_nil_or_concat w with e | ⟨w',x,e⟩
    ·rw [e] at d;exact absurd d (by decide)
    ·exact ⟨w',x,by rw [e,List.concat_eq_append]⟩
   obtain ⟨b1,m,b2,b3,b4⟩:=hb.bd hw hn hu
   have e1:IntKind.i64.wrap (((w' ++ [x]).length:Int) - 1)=(w'.length:Int):=by
    rw [wrap_id (by omega) (by omega),List.length_append,List.length_singleton];omega
   rw [e1]
   have e2:(w' ++ [x]).getD ((w'.length:Int)).toNat { index:=0,open_:=false:PStepT }=x:=by
    show (w' ++ [x]).getD w'.length _=x
    simp [List.getD_eq_getElem?_getD]
   have e3:List.take ((w'.length:Int)).toNat (w' ++ [x])=w':=by
    show List.take w'.length (w' ++ [x])=w'
    simp
   rw [e2,e3]
   have e4:(w' ++ [x]).length=w'.length+1:=by simp
   obtain ⟨j,o⟩:=x
   dsimp only
   refine ⟨by omega,by omega,by omega,by omega,brS_of (fun z=>?_) fun z=>brS_of (fun y=>?_) fun y=>⟨?_,⟨hs,?_⟩,?_,fun S' es=>brS_of (fun v=>?_) fun v=>?_⟩⟩
   ·subst z
    have hp:=hb.pop (v:=IntKind.u64.wrap ((lb ++ [j]).length:Int)) (by rw [wrap_u64 (by omega) (by rw [List.length_append,List.length_singleton];omega),List.length_append,List.length_singleton];omega)
    have hz:(lb.length+[j].length) * bytesOf C0 EC.u32<=140737488355328:=by rw [bytes_u32,List.length_singleton];omega
    have hμ:wtP Sb w' < wtP Sb (w' ++ [⟨j,true⟩]):=by rw [wtP_app];show _ < _+1;omega
    refine ⟨⟨hz,⟨⟨Sb,lb ++ [j],_,i,w',hp⟩,rfl,?_,hμ⟩⟩,hz,⟨⟨Sb,lb ++ [j],_,i,w',hp⟩,rfl,?_,hμ⟩⟩
    ·(repeat' first | exact trivial | exact rfl | refine And.intro ?_ ?_)
    ·(repeat' first | exact trivial | exact rfl | refine And.intro ?_ ?_)
   ·subst z
    have y:j ∈ lb:=plcN_mem.1 (by rw [← hb.map];exact of_decide_eq_true y)
    refine ⟨⟨Sb,lb,pb,i,w',hb.skip (.inr y)⟩,rfl,?_,?_⟩
    ·(repeat' first | exact trivial | exact rfl | refine And.intro ?_ ?_)
    ·rw [wtP_app];show wtP Sb w' < _+(3 * _+1+0);omega
   ·subst z;exact hb.inu
   ·rw [b2];exact hw.rd (by omega)
   ·rw [b2];show S.reads+(m:Int) < _;omega
   ·subst z
    have y:j ∉ lb:=fun q=>by
     have q:=plcN_mem.2 q
     rw [← hb.map] at q
     exact of_decide_eq_false y q
    rw [b2] at v
    have v:S.us j=true:=v
    have hp:=hb.push hw v y
    have es:S'=rdS Sb 1:=by rw [es,b2];show rdS _ (S.us j).toNat=_;rw [v];rfl
    subst es
    have en:∀ k,Sb.nd k=S.nd k:=fun k=>by rw [b2];rfl
    refine ⟨by rw [bytes_pstep];simp;omega,⟨⟨rdS Sb 1,lb,pb,i,_,hp⟩,rfl,?_,?_⟩⟩
    ·rw [en]
     (repeat' first | exact trivial | exact rfl | refine And.intro ?_ ?_)
    ·rw [wtP_app,wtP_app]
     have k:=sz_kids hw j v
     unfold lfA rgA at k
     show _+(1+(3 * ((rdS Sb 1).nd (S.nd j).right).size.toNat+1+(3 * ((rdS Sb 1).nd (S.nd j).left).size.toNat+1+0))) < _+(3 * (Sb.nd j).size.toNat+1+0)
     have f1:wtP (rdS Sb 1) w'=wtP Sb w':=rfl
     have f2:∀ k,(rdS Sb 1).nd k=S.nd k:=fun k=>en k
     rw [f1,f2,f2,en]
     have s0:=hw.siz j v
     have s1:=hw.size_nonneg (S.nd j).left
     have s2:=hw.size_nonneg (S.nd j).right
     omega
   ·subst z
    rw [b2] at v
    have v:S.us j=false:=v
    have es:S'=Sb:=by rw [es,b2];show rdS _ (S.us j).toNat=_;rw [v];exact rdS_zero _
    subst es
    refine ⟨⟨S',lb,pb,i,w',hb.skip (.inl v)⟩,rfl,?_,?_⟩
    ·(repeat' first | exact trivial | exact rfl | refine And.intro ?_ ?_)
    ·rw [wtP_app];show wtP S' w' < _+(3 * _+1+0);omega
  ·obtain ⟨Sb,lb,pb,i',w,hb⟩:=x
   dsimp only at d ex ⊢
   obtain rfl:i=i':=by omega
   have d:w=[]:=List.eq_nil_of_length_eq_zero (by have:=of_decide_eq_false d;omega)
   subst d
   rw [wrap_id (by omega) (by omega)]
   refine ⟨⟨Sb,lb,pb,i+1,c,hb.done⟩,trivial,?_,Nat.sub_lt_sub_left c (Nat.lt_succ_self i)⟩
   (repeat' first | exact trivial | exact rfl | refine And.intro ?_ ?_)
 ·obtain ⟨Sa,la,pa,i,hi,ha⟩:=x
  dsimp only at c
  have c:i=rs.length:=by have:=of_decide_eq_false c;omega
  rw [c,List.take_length] at ha
  exact h _ _ _ ha
theorem s_ext:SoundT C0 94 tExt:=by
 refine .ofW [0,1,2,3] Tryz.func94 (by decide) rfl fun args H K h hB=>?_
 unfold tExt at h
 split at h <;> try exact h.elim
 unfold exM at h
 split at h <;> try exact h.elim
 rename_i _ rd l pm fr nd ct us gn rl rs
 refine ⟨_,?_,vc_ext l pm rs ⟨us,gn,rl,fr,nd,ct,rd⟩ K h.1 h.2.1 h.2.2.1 h.2.2.2.1 h.2.2.2.2.1 h.2.2.2.2.2⟩
 exact ⟨frame C0.ok s_node _,trivial⟩
theorem NmR.of {S S':Arn} {rs l:List Int} {pm:List (Int × Int)} (h:ExtR S [] rs S' l pm):NmR S rs S' l:=⟨h.num,by rw [h.st];rfl⟩
theorem vc_nmb (S:Arn) (rs:List Int) (K:KT) (hb:NmB S rs) (h:∀ S' l pm,NmR S rs S' l->K (.one (.at (.ptr 8 0))) (chS S' ++ [.row false EC.u32 rs,.box [.slc 9,.slc 10],.row true EC.u32 l,.map .u32 .u64 pm]) [0]) :
  vc C0 aNmb Tryz.f93 [.at (.ptr 0 0),.at (.slc 7)] (chS S ++ [.row false EC.u32 rs]) (normK 8 (wideK [0] K)):=by
 refine Eq.mp (show ((exW S)/\(S.reads<=3000000000000000000)/\(rs.length<=1000000)/\(allV rs)/\(NumK S [] [])/\(∀ S':Arn,(∀ l':List Int,(∀ pm':List (Int × Int),((ExtR S [] rs S' l' pm')->(K (.one (.at (.ptr 8 0))) [(.box [(.ptr 1 0),(.slc 2),(.slc 3),(.val (Value.int .u64 (S'.reads)))]),(.box [(.slc 4),(.slc 5),(.slc 6),(.val (Value.int .u32 (S'.fresh)))]),(.row true EC.node (S'.nodes)),(.row true EC.int (S'.counts)),(.row true EC.bool (S'.used)),(.row true EC.u32 (S'.gen)),(.row true EC.u32 (S'.rel)),(.row false EC.u32 (rs)),(.box [(.slc 9),(.slc 10)]),(.row true EC.u32 (l')),(Chunk.map IntKind.u32 IntKind.u64 (pm'))] [0]))))))=_ by kernel_rfl) ?_
 obtain ⟨h1,h2,h3,h4⟩:=hb
 exact ⟨h1,h2,h3,h4,⟨List.nodup_nil,by simp,fun _=>rfl⟩,fun S' l pm e=>h S' l pm (.of e)⟩
theorem s_nmb:SoundT C0 93 tNmb:=by
 refine .ofW [0] Tryz.func93 (by decide) rfl fun args H K h hB=>?_
 unfold tNmb at h
 split at h <;> try exact h.elim
 unfold nbM arMr at h
 split at h <;> try exact h.elim
 split at h <;> try exact h.elim
 rename_i _ rd fr nd ct us gn rl _ rs
 refine ⟨_,?_,vc_nmb ⟨us,gn,rl,fr,nd,ct,rd⟩ rs K h.1 h.2⟩
 exact ⟨frame C0.ok s_ext _,trivial⟩
theorem vc_nds (S:Arn) (rs:List Int) (K:KT) (hb:NmB S rs) (h:∀ S' l,NmR S rs S' l->K (.one (.at (.slc 8))) (chS S' ++ [.row false EC.u32 rs,.row true EC.u32 l]) [0]) :
  vc C0 aNds Tryz.f84 [.at (.ptr 0 0),.at (.slc 7)] (chS S ++ [.row false EC.u32 rs]) (normK 8 (wideK [0] K)):=by
 refine Eq.mp (show ((NmB S rs)/\(∀ S':Arn,(∀ l:List Int,(∀ pm:List (Int × Int),((NmR S rs S' l)->(K (.one (.at (.slc 8))) [(.box [(.ptr 1 0),(.slc 2),(.slc 3),(.val (Value.int .u64 (S'.reads)))]),(.box [(.slc 4),(.slc 5),(.slc 6),(.val (Value.int .u32 (S'.fresh)))]),(.row true EC.node (S'.nodes)),(.row true EC.int (S'.counts)),(.row true EC.bool (S'.used)),(.row true EC.u32 (S'.gen)),(.row true EC.u32 (S'.rel)),(.row false EC.u32 (rs)),(.row true EC.u32 (l))] [0]))))))=_ by kernel_rfl) ?_
 exact ⟨hb,fun S' l pm e=>h S' l e⟩
theorem s_nds:SoundT C0 84 tNds:=by
 refine .ofW [0] Tryz.func84 (by decide) rfl fun args H K h hB=>?_
 unfold tNds at h
 split at h <;> try exact h.elim
 unfold nbM arMr at h
 split at h <;> try exact h.elim
 split at h <;> try exact h.elim
 rename_i _ rd fr nd ct us gn rl _ rs
 refine ⟨_,?_,vc_nds ⟨us,gn,rl,fr,nd,ct,rd⟩ rs K h.1 h.2⟩
 exact ⟨frame C0.ok s_nmb _,trivial⟩
theorem vc_pno (S:Arn) (rs:List Int) (K:KT) (hb:NmB S rs) (h:∀ S' l,NmR S rs S' l->K (.one (.at (.slc 8))) (chS S' ++ [.row false EC.u32 rs,.row true EC.u32 l]) [0]) :
  vc C0 aPno Tryz.f39 [.at (.ptr 0 0),.at (.slc 7)] (chS S ++ [.row false EC.u32 rs]) (normK 8 (wideK [0] K)):=by
 refine Eq.mp (show ((NmB S rs)/\(∀ S':Arn,(∀ l:List Int,((NmR S rs S' l)->(K (.one (.at (.slc 8))) [(.box [(.ptr 1 0),(.slc 2),(.slc 3),(.val (Value.int .u64 (S'.reads)))]),(.box [(.slc 4),(.slc 5),(.slc 6),(.val (Value.int .u32 (S'.fresh)))]),(.row true EC.node (S'.nodes)),(.row true EC.int (S'.counts)),(.row true EC.bool (S'.used)),(.row true EC.u32 (S'.gen)),(.row true EC.u32 (S'.rel)),(.row false EC.u32 (rs)),(.row true EC.u32 (l))] [0])))))=_ by kernel_rfl) ?_
 exact ⟨hb,fun S' l e=>h S' l e⟩
theorem s_pno:SoundT C0 39 tNds:=by
 refine .ofW [0] Tryz.func39 (by decide) rfl fun args H K h hB=>?_
 unfold tNds at h
 split at h <;> try exact h.elim
 unfold nbM arMr at h
 split at h <;> try exact h.elim
 split at h <;> try exact h.elim
 rename_i _ rd fr nd ct us gn rl _ rs
 refine ⟨_,?_,vc_pno ⟨us,gn,rl,fr,nd,ct,rd⟩ rs K h.1 h.2⟩
 exact ⟨frame C0.ok s_nds _,trivial⟩
end Go.Proofs.YtedfbafngmicpaaGreat.Sx
end
