/- Plain laws of patches: compose and rebase. No program in sight. -/
import Derived.Test.YtedfbafngmicpaaGreatG0
import Derived.Test.YtedfbafngmicpaaGreatG3
import Derived.Test.YtedfbafngmicpaaGreatProg
import Derived.Test.YtedfbafngmicpaaGreatChecked
noncomputable section
open Go.IntKind renaming i64 → Za,u32 → Ze,u64 → Zd
open Go.Value renaming bool → Zi,int → Zm
open List renaming drop → Zp,take → Zn
namespace Go.Proofs.YtedfbafngmicpaaGreat.Sx
open Go
structure Tc where
 alloc:Bool
 count:Int
 gen:Int
 node:Td
 deriving DecidableEq
abbrev LS:=List Tc
structure Te where
 kind:Int
 slot:Int
 want:Int
 have_:Int
 deriving DecidableEq
structure Tf where
 index:Int
 open_:Bool
 deriving DecidableEq
structure PNT where
 key:Int
 value:Int
 left:Int
 right:Int
 deriving DecidableEq
abbrev LP:=List PNT
structure ExtT where
 tree:Bool
 size:Int
 first:Int
 last:Int
 deriving DecidableEq
structure StpT where
 at_:Int
 ent:Ent
 del:Bool
 fresh:Bool
 deriving DecidableEq
inductive EC where
 | ent
 | i64
 | int
 | u32
 | bool
 | u8
 | u64
 | node
 | slot
 | find
 | pstep
 | pn
 | ext
 | stp
 | hent
 | hu8
 deriving DecidableEq

def EC.α:EC->Type
 | .ent=>Ent
 | .i64=>Int
 | .int=>Int
 | .u32=>Int
 | .bool=>Bool
 | .u8=>Int
 | .u64=>Int
 | .node=>Td
 | .slot=>Tc
 | .find=>Te
 | .pstep=>Tf
 | .pn=>PNT
 | .ext=>ExtT
 | .stp=>StpT
 | .hent=>Unit
 | .hu8=>Unit

def EC.enc:(e:EC)->e.α->List Value
 | .ent,x=>[.int .i64 x.1,.int .i64 x.2]
 | .i64,x=>[.int .i64 x]
 | .int,x=>[.int .i64 x]
 | .u32,x=>[.int .u32 x]
 | .bool,x=>[.bool x]
 | .u8,x=>[.int .u8 x]
 | .u64,x=>[.int .u64 x]
 | .node,x=>[.int .i64 x.key,.int .i64 x.value,.int .u32 x.left,.int .u32 x.right,.int .i64 x.size,.int .i64 x.sum,.int .i64 x.min,.int .i64 x.max]
 | .slot,x=>[.bool x.alloc,.int .i64 x.count,.int .u32 x.gen,.int .i64 x.node.key,.int .i64 x.node.value,.int .u32 x.node.left,.int .u32 x.node.right,.int .i64 x.node.size,.int .i64 x.node.sum,.int .i64 x.node.min,.int .i64 x.node.max]
 | .find,x=>[.int .i64 x.kind,.int .u32 x.slot,.int .i64 x.want,.int .i64 x.have_]
 | .pstep,x=>[.int .u32 x.index,.bool x.open_]
 | .pn,x=>[.int .i64 x.key,.int .i64 x.value,.int .u64 x.left,.int .u64 x.right]
 | .ext,x=>[.bool x.tree,.int .i64 x.size,.int .i64 x.first,.int .i64 x.last]
 | .stp,x=>[.int .i64 x.at_,.int .i64 x.ent.1,.int .i64 x.ent.2,.bool x.del,.bool x.fresh]
 | .hent,_=>[.slice none 0 0]
 | .hu8,_=>[.slice none 0 0]

def Yjf:List Value->Option Ent:=fun l=>match l with|[.int .i64 x0,.int .i64 x1]=>some (x0,x1)|_=>none
def Yjg:List Value->Option Int:=fun l=>match l with|[.int .i64 x0]=>some x0|_=>none
def Yjh:List Value->Option Int:=fun l=>match l with|[.int .i64 x0]=>some x0|_=>none
def Yji:List Value->Option Int:=fun l=>match l with|[.int .u32 x0]=>some x0|_=>none
def Ygp:List Value->Option Bool:=fun l=>match l with|[.bool x0]=>some x0|_=>none
def YmJ:List Value->Option Int:=fun l=>match l with|[.int .u8 x0]=>some x0|_=>none
def Yjj:List Value->Option Int:=fun l=>match l with|[.int .u64 x0]=>some x0|_=>none
def Ygq:List Value->Option Td:=fun l=>match l with|[.int .i64 x0,.int .i64 x1,.int .u32 x2,.int .u32 x3,.int .i64 x4,.int .i64 x5,.int .i64 x6,.int .i64 x7]=>some ⟨x0,x1,x2,x3,x4,x5,x6,x7⟩|_=>none
def Ygr:List Value->Option Tc:=fun l=>match l with|[.bool x0,.int .i64 x1,.int .u32 x2,.int .i64 x3,.int .i64 x4,.int .u32 x5,.int .u32 x6,.int .i64 x7,.int .i64 x8,.int .i64 x9,.int .i64 x10]=>some ⟨x0,x1,x2,⟨x3,x4,x5,x6,x7,x8,x9,x10⟩⟩|_=>none
def Ygs:List Value->Option Te:=fun l=>match l with|[.int .i64 x0,.int .u32 x1,.int .i64 x2,.int .i64 x3]=>some ⟨x0,x1,x2,x3⟩|_=>none
def YeF:List Value->Option Tf:=fun l=>match l with|[.int .u32 x0,.bool x1]=>some ⟨x0,x1⟩|_=>none
def YmK:List Value->Option PNT:=fun l=>match l with|[.int .i64 x0,.int .i64 x1,.int .u64 x2,.int .u64 x3]=>some ⟨x0,x1,x2,x3⟩|_=>none
def Yjk:List Value->Option ExtT:=fun l=>match l with|[.bool x0,.int .i64 x1,.int .i64 x2,.int .i64 x3]=>some ⟨x0,x1,x2,x3⟩|_=>none
def Yjl:List Value->Option StpT:=fun l=>match l with|[.int .i64 x0,.int .i64 x1,.int .i64 x2,.bool x3,.bool x4]=>some ⟨x0,(x1,x2),x3,x4⟩|_=>none
def Ykg:List Value->Option Unit:=fun _=>none
def YmL:List Value->Option Unit:=fun _=>none
def EC.dcd:(e:EC)->List Value->Option e.α
 | .ent=>Yjf
 | .i64=>Yjg
 | .int=>Yjh
 | .u32=>Yji
 | .bool=>Ygp
 | .u8=>YmJ
 | .u64=>Yjj
 | .node=>Ygq
 | .slot=>Ygr
 | .find=>Ygs
 | .pstep=>YeF
 | .pn=>YmK
 | .ext=>Yjk
 | .stp=>Yjl
 | .hent=>Ykg
 | .hu8=>YmL

def EC.dft:(e:EC)->e.α
 | .ent=>((0:Int),(0:Int))
 | .i64=>(0:Int)
 | .int=>(0:Int)
 | .u32=>(0:Int)
 | .bool=>false
 | .u8=>(0:Int)
 | .u64=>(0:Int)
 | .node=>⟨0,0,0,0,0,0,0,0⟩
 | .slot=>⟨false,0,0,⟨0,0,0,0,0,0,0,0⟩⟩
 | .find=>⟨0,0,0,0⟩
 | .pstep=>⟨0,false⟩
 | .pn=>⟨0,0,0,0⟩
 | .ext=>⟨false,0,0,0⟩
 | .stp=>⟨0,(0,0),false,false⟩
 | .hent=>()
 | .hu8=>()

def EC.sz:EC->Nat
 | .ent=>2
 | .i64=>1
 | .int=>1
 | .u32=>1
 | .bool=>1
 | .u8=>1
 | .u64=>1
 | .node=>8
 | .slot=>11
 | .find=>4
 | .pstep=>2
 | .pn=>4
 | .ext=>4
 | .stp=>5
 | .hent=>1
 | .hu8=>1

def EC.tid:EC->TypeId
 | .ent=>24
 | .i64=>2
 | .int=>3
 | .u32=>28
 | .bool=>4
 | .u8=>5
 | .u64=>22
 | .node=>102
 | .slot=>120
 | .find=>217
 | .pstep=>199
 | .pn=>179
 | .ext=>181
 | .stp=>123
 | .hent=>26
 | .hu8=>35

def EC.byT (t:TypeId):Option EC :=
 if t=24 then some .ent else
 if t=2 then some .i64 else
 if t=3 then some .int else
 if t=28 then some .u32 else
 if t=4 then some .bool else
 if t=5 then some .u8 else
 if t=22 then some .u64 else
 if t=102 then some .node else
 if t=120 then some .slot else
 if t=217 then some .find else
 if t=199 then some .pstep else
 if t=179 then some .pn else
 if t=181 then some .ext else
 if t=123 then some .stp else
 if t=26 then some .hent else
 if t=35 then some .hu8 else
 none

def EC.lst (e:EC):Option EC :=
 if e = .hent then some .ent else
 if e = .hu8 then some .u8 else
 none
def C0:Ctx where
 P:=Tryz.prog
 EC:=EC
 deq:=inferInstance
 α:=EC.α
 enc:=EC.enc
 dcd:=EC.dcd
 dft:=EC.dft
 sz:=EC.sz
 tid:=EC.tid
 byT:=EC.byT
 lst:=EC.lst
 X:=Empty
 I:=fun _ _ _ _=>False

theorem YhT {cs:List Value}{x:Ent}(h:Yjf cs=some x):EC.enc .ent x=cs:=by unfold Yjf at h;split at h<;>simp at h;subst h;rfl
theorem YhU {cs:List Value}{x:Int}(h:Yjg cs=some x):EC.enc .i64 x=cs:=by unfold Yjg at h;split at h<;>simp at h;subst h;rfl
theorem YhV {cs:List Value}{x:Int}(h:Yjh cs=some x):EC.enc .int x=cs:=by unfold Yjh at h;split at h<;>simp at h;subst h;rfl
theorem YhW {cs:List Value}{x:Int}(h:Yji cs=some x):EC.enc .u32 x=cs:=by unfold Yji at h;split at h<;>simp at h;subst h;rfl
theorem Ygt {cs:List Value}{x:Bool}(h:Ygp cs=some x):EC.enc .bool x=cs:=by unfold Ygp at h;split at h<;>simp at h;subst h;rfl
theorem Yjm {cs:List Value}{x:Int}(h:YmJ cs=some x):EC.enc .u8 x=cs:=by unfold YmJ at h;split at h<;>simp at h;subst h;rfl
theorem YhX {cs:List Value}{x:Int}(h:Yjj cs=some x):EC.enc .u64 x=cs:=by unfold Yjj at h;split at h<;>simp at h;subst h;rfl
theorem Ygu {cs:List Value}{x:Td}(h:Ygq cs=some x):EC.enc .node x=cs:=by unfold Ygq at h;split at h<;>simp at h;subst h;rfl
theorem Ygv {cs:List Value}{x:Tc}(h:Ygr cs=some x):EC.enc .slot x=cs:=by unfold Ygr at h;split at h<;>simp at h;subst h;rfl
theorem Ygw {cs:List Value}{x:Te}(h:Ygs cs=some x):EC.enc .find x=cs:=by unfold Ygs at h;split at h<;>simp at h;subst h;rfl
theorem Yfw {cs:List Value}{x:Tf}(h:YeF cs=some x):EC.enc .pstep x=cs:=by unfold YeF at h;split at h<;>simp at h;subst h;rfl
theorem Yjn {cs:List Value}{x:PNT}(h:YmK cs=some x):EC.enc .pn x=cs:=by unfold YmK at h;split at h<;>simp at h;subst h;rfl
theorem YhY {cs:List Value}{x:ExtT}(h:Yjk cs=some x):EC.enc .ext x=cs:=by unfold Yjk at h;split at h<;>simp at h;subst h;rfl
theorem YhZ {cs:List Value}{x:StpT}(h:Yjl cs=some x):EC.enc .stp x=cs:=by unfold Yjl at h;split at h<;>simp at h;subst h;rfl
theorem Ygx {cs:List Value}{x:Unit}(h:Ykg cs=some x):EC.enc .hent x=cs:=by cases h
theorem Yia {cs:List Value}{x:Unit}(h:YmL cs=some x):EC.enc .hu8 x=cs:=by cases h
theorem Yph {t:TypeId}{e:EC}(h:EC.byT t=some e):t=e.tid:=by
 unfold EC.byT at h
 by_cases h_ent:t=24;(rw[Zj h_ent] at h;cases h;exact h_ent);rw[Zf h_ent] at h
 by_cases h_i64:t=2;(rw[Zj h_i64] at h;cases h;exact h_i64);rw[Zf h_i64] at h
 by_cases h_int:t=3;(rw[Zj h_int] at h;cases h;exact h_int);rw[Zf h_int] at h
 by_cases h_u32:t=28;(rw[Zj h_u32] at h;cases h;exact h_u32);rw[Zf h_u32] at h
 by_cases h_bool:t=4;(rw[Zj h_bool] at h;cases h;exact h_bool);rw[Zf h_bool] at h
 by_cases h_u8:t=5;(rw[Zj h_u8] at h;cases h;exact h_u8);rw[Zf h_u8] at h
 by_cases h_u64:t=22;(rw[Zj h_u64] at h;cases h;exact h_u64);rw[Zf h_u64] at h
 by_cases h_node:t=102;(rw[Zj h_node] at h;cases h;exact h_node);rw[Zf h_node] at h
 by_cases h_slot:t=120;(rw[Zj h_slot] at h;cases h;exact h_slot);rw[Zf h_slot] at h
 by_cases h_find:t=217;(rw[Zj h_find] at h;cases h;exact h_find);rw[Zf h_find] at h
 by_cases h_pstep:t=199;(rw[Zj h_pstep] at h;cases h;exact h_pstep);rw[Zf h_pstep] at h
 by_cases h_pn:t=179;(rw[Zj h_pn] at h;cases h;exact h_pn);rw[Zf h_pn] at h
 by_cases h_ext:t=181;(rw[Zj h_ext] at h;cases h;exact h_ext);rw[Zf h_ext] at h
 by_cases h_stp:t=123;(rw[Zj h_stp] at h;cases h;exact h_stp);rw[Zf h_stp] at h
 by_cases h_hent:t=26;(rw[Zj h_hent] at h;cases h;exact h_hent);rw[Zf h_hent] at h
 by_cases h_hu8:t=35;(rw[Zj h_hu8] at h;cases h;exact h_hu8);rw[Zf h_hu8] at h
 cases h
theorem Yaj {P:Program}{t:TypeId}{z:Value}{n b:Nat}{l:List Value}(h:(P.info? t).map (fun i=>(i.zero,i.size,i.bytes))=some (some z,n,b))(hz:z.cells.toList=l)(hb:0<b) :
  ∃ i z,P.info? t=some i/\i.zero=some z/\i.size=n/\z.cells.toList=l/\0<i.bytes:=by
 rw[ZA] at h;obtain⟨i,h1,h2⟩:=h;simp only[Zs] at h2;exact⟨i,z,h1,h2.1,h2.2.1,hz,h2.2.2 ▸ hb⟩

theorem Ypi {h e:EC}(hl:EC.lst h=some e):h.sz=1:=by
 unfold EC.lst at hl
 by_cases h_hent:h = .hent;(rw[h_hent];rfl);rw[Zf h_hent] at hl
 by_cases h_hu8:h = .hu8;(rw[h_hu8];rfl);rw[Zf h_hu8] at hl
 cases hl
theorem C0.ok:C0.OK where
 len e x:=by cases e<;>rfl
 one e x:=by
  have h:∀ u∈EC.enc e x,u.oneCell'=true:=by cases e<;>(intro u hu;simp[EC.enc] at hu;(first|(repeat (rcases hu with rfl|hu;exact rfl));done|(repeat (rcases hu with rfl|hu;exact rfl));(subst hu;rfl)))
  exact h
 dcd e cs x h:=by
  cases e with
  | ent=>exact YhT h
  | i64=>exact YhU h
  | int=>exact YhV h
  | u32=>exact YhW h
  | bool=>exact Ygt h
  | u8=>exact Yjm h
  | u64=>exact YhX h
  | node=>exact Ygu h
  | slot=>exact Ygv h
  | find=>exact Ygw h
  | pstep=>exact Yfw h
  | pn=>exact Yjn h
  | ext=>exact YhY h
  | stp=>exact YhZ h
  | hent=>exact Ygx h
  | hu8=>exact Yia h
 pos e:=by cases e<;>decide
 info e:=by
  cases e with
  | ent=>exact Yaj (z:=.agg #[.int .i64 0,.int .i64 0]) (n:=2) (b:=16) (by kernel_rfl) rfl (by decide)
  | i64=>exact Yaj (z:=.int .i64 0) (n:=1) (b:=8) (by kernel_rfl) rfl (by decide)
  | int=>exact Yaj (z:=.int .i64 0) (n:=1) (b:=8) (by kernel_rfl) rfl (by decide)
  | u32=>exact Yaj (z:=.int .u32 0) (n:=1) (b:=4) (by kernel_rfl) rfl (by decide)
  | bool=>exact Yaj (z:=.bool false) (n:=1) (b:=1) (by kernel_rfl) rfl (by decide)
  | u8=>exact Yaj (z:=.int .u8 0) (n:=1) (b:=1) (by kernel_rfl) rfl (by decide)
  | u64=>exact Yaj (z:=.int .u64 0) (n:=1) (b:=8) (by kernel_rfl) rfl (by decide)
  | node=>exact Yaj (z:=.agg #[.int .i64 0,.int .i64 0,.int .u32 0,.int .u32 0,.int .i64 0,.int .i64 0,.int .i64 0,.int .i64 0]) (n:=8) (b:=56) (by kernel_rfl) rfl (by decide)
  | slot=>exact Yaj (z:=.agg #[.bool false,.int .i64 0,.int .u32 0,.int .i64 0,.int .i64 0,.int .u32 0,.int .u32 0,.int .i64 0,.int .i64 0,.int .i64 0,.int .i64 0]) (n:=11) (b:=80) (by kernel_rfl) rfl (by decide)
  | find=>exact Yaj (z:=.agg #[.int .i64 0,.int .u32 0,.int .i64 0,.int .i64 0]) (n:=4) (b:=32) (by kernel_rfl) rfl (by decide)
  | pstep=>exact Yaj (z:=.agg #[.int .u32 0,.bool false]) (n:=2) (b:=8) (by kernel_rfl) rfl (by decide)
  | pn=>exact Yaj (z:=.agg #[.int .i64 0,.int .i64 0,.int .u64 0,.int .u64 0]) (n:=4) (b:=32) (by kernel_rfl) rfl (by decide)
  | ext=>exact Yaj (z:=.agg #[.bool false,.int .i64 0,.int .i64 0,.int .i64 0]) (n:=4) (b:=32) (by kernel_rfl) rfl (by decide)
  | stp=>exact Yaj (z:=.agg #[.int .i64 0,.int .i64 0,.int .i64 0,.bool false,.bool false]) (n:=5) (b:=32) (by kernel_rfl) rfl (by decide)
  | hent=>exact Yaj (z:=.slice none 0 0) (n:=1) (b:=24) (by kernel_rfl) rfl (by decide)
  | hu8=>exact Yaj (z:=.slice none 0 0) (n:=1) (b:=24) (by kernel_rfl) rfl (by decide)
 byT t e h:=by
  exact Yph h
 lst h e hl:=Ypi hl
 local_ x:=x.elim
 mixed:=Tryz.checked.mixed

theorem Ykh {f:FuncId}{fn:Func}{c:Code}(hf:Tryz.prog.funcs[f]?=some fn)(hname:(fn.name=="runtime.NumGoroutine")=false)(hb:fn.body=some c)(args:Array Value)(w:World) :
  (callFunc f args).run C0.P w = .ok (.enter f args) w:=MuLone.run_callFunc_enter hf hname hb args w

abbrev vI (x:Int):At:=.val (.int .i64 x)
abbrev vU (x:Int):At:=.val (.int .u32 x)
abbrev vU64 (x:Int):At:=.val (.int .u64 x)
abbrev vB (b:Bool):At:=.val (.bool b)
abbrev KT:=SV->LH C0->LN->Prop
theorem Tb.of {f:FuncId}{fn:Func}{c:Code}{t:Tfm C0}(hf:Tryz.prog.funcs[f]?=some fn)(hname:(fn.name=="runtime.NumGoroutine")=false)(hb:fn.body=some c)(h:∀ args H K,t args H K->RowB H->∃ A:Ann C0,GOK C0 A.Γ/\vc C0 A fn args H (Yh H.length K)):Tb C0 f t :=
 ⟨Ykh hf hname hb,fun args H K hk=>by
  refine Tg.rowB C0.ok fun hB=>?_
  obtain⟨A,hG,hv⟩:=h args H K hk hB;exact Tg.norm (YfH C0.ok hG hf hv)⟩
def YG (W0:LN)(K:KT):KT:=fun r H ts=>if ts.all W0.contains then K r H W0 else False
theorem Tg.wide {f:FuncId}{args:List TV}{H:LH C0}{K:KT}(W0:LN)(h:Tg C0 f args H (YG W0 K)):Tg C0 f args H K:=by
 intro σ φ w vs hs hr hn;refine ZcN (h σ φ w vs hs hr hn) fun e w' hh=>?_
 cases e with
 | panicked ch=>exact hh.elim
 | outgrown=>exact hh.elim
 | returned v =>
  obtain⟨r,H',ts,σ',φ',hout,hK⟩:=hh;unfold YG at hK;split at hK<;>try exact hK.elim
  rename_i hsub;have hts:∀ n,n∉W0->n∉ts:=fun n hn ht=>hn (by simpa using Zao.1 hsub n ht)
  exact⟨r,H',W0,σ',φ',⟨hout.rel,hout.rcl,hout.sat,hout.adv,hout.len,fun n hn ho=>hout.agree n hn (ho.imp id (hts n)),hout.own,fun n hn ht=>hout.touch n hn (hts n ht)⟩,hK⟩
theorem Tb.ofW {f:FuncId}{fn:Func}{c:Code}{t:Tfm C0}(W0:LN)(hf:Tryz.prog.funcs[f]?=some fn)(hname:(fn.name=="runtime.NumGoroutine")=false)(hb:fn.body=some c)(h:∀ args H K,t args H K->RowB H->∃ A:Ann C0,GOK C0 A.Γ/\vc C0 A fn args H (Yh H.length (YG W0 K))):Tb C0 f t :=
 ⟨Ykh hf hname hb,fun args H K hk=>by
  refine Tg.wide W0 (Tg.rowB C0.ok fun hB=>?_);obtain⟨A,hG,hv⟩:=h args H K hk hB;exact Tg.norm (YfH C0.ok hG hf hv)⟩

theorem Tb.weak {f:FuncId}{t t':Tfm C0}(h:Tb C0 f t)(hw:∀ args H K,t' args H K->t args H K):Tb C0 f t':=⟨h.enter,fun args H K hk=>h.call args H K (hw args H K hk)⟩
def A0:Ann C0:={ Γ:=[] }
theorem Ya {b:Bool}{t f:Prop}(ht:b=true->t)(hf:b=false->f):brS b t f:=by cases b<;>simp_all [brS]
theorem Ydb:Yd C0 EC.ent=16:=by kernel_rfl
theorem YeG:Yd C0 EC.int=8:=by kernel_rfl
theorem Ys:Yd C0 EC.u32=4:=by kernel_rfl
theorem YdD:Yd C0 EC.bool=1:=by kernel_rfl
theorem YaF:Yd C0 EC.u8=1:=by kernel_rfl
theorem Ydc:Yd C0 EC.u64=8:=by kernel_rfl
theorem YfJ:Yd C0 EC.node=56:=by kernel_rfl
theorem YfK:Yd C0 EC.slot=80:=by kernel_rfl
theorem Yjo:Yd C0 EC.pstep=8:=by kernel_rfl
theorem Ypj:Yd C0 EC.pn=32:=by kernel_rfl
theorem YmM:Yd C0 EC.ext=32:=by kernel_rfl
theorem YaC:Yd C0 EC.hent=24:=by kernel_rfl
theorem YmN:Yd C0 EC.hu8=24:=by kernel_rfl
def YrZ (rl:LI)(n:Nat):Prop:=∀ i∈rl,0<=i/\i<(n:Int)
def slM (H:LH C0)(k:List Bool->LI->LI->Int->Prop):Prop:=match H with
 | [.box [.slc 1,.slc 2,.slc 3,.val (.int .u32 fr)],.row true .bool us,.row true .u32 gn,.row true .u32 rl]=>k us gn rl fr
 | _=>False
abbrev slC (us:List Bool)(gn rl:LI)(fr:Int):LH C0:=[.box [.slc 1,.slc 2,.slc 3,vU fr],.row true .bool us,.row true .u32 gn,.row true .u32 rl]
def Yib:Tfm C0:=fun args H K=>match args with
 | [.at (.ptr 0 0)]=>slM H fun us gn rl fr=>1<=us.length/\us.length<=65537/\K (.one (.at (vI (us.length-1)))) (slC us gn rl fr) []
 | _=>False
def Yaf:Tfm C0:=fun args H K=>match args with
 | [.at (.ptr 0 0),.at (.val (.int .u32 i))]=>slM H fun us gn rl fr=>0<=i/\i<4294967296/\us.length<=65537/\K (.one (.at (vB (us.getD i.toNat false)))) (slC us gn rl fr) []
 | _=>False
def YmO:Tfm C0:=fun args H K=>match args with
 | [.at (.ptr 0 0),.at (.val (.int .u32 i))]=>slM H fun us gn rl fr=>0<=i/\i<4294967296/\gn.length<=65537/\K (.one (.at (vU (gn.getD i.toNat 0)))) (slC us gn rl fr) []
 | _=>False
def YmP:Ann C0:={ Γ:=[(77,Yc [] Yib)],quiet:=[77] }
def YeH:Tfm C0:=fun args H K=>match args with
 | [.at (.ptr 0 0)]=>slM H fun us gn rl fr=>1<=us.length/\us.length<=65537/\rl.length<=65537/\0<=fr/\fr<=65537/\K (.one (.at (vI (rl.length+(us.length-1)-fr)))) (slC us gn rl fr) []
 | _=>False
def Yki:Ann C0:={ trunc:=fun n=>n==30,Γ:=[(75,Yc [] YeH)] }
def Ygy:Tfm C0:=fun args H K=>match args with
 | [.at (.ptr 0 0)]=>slM H fun us gn rl fr=>1<=us.length/\us.length<=65537/\rl.length<=65537/\0<=fr/\fr<=65537/\gn.length=us.length/\YrZ rl us.length/\0<=(rl.length:Int)+(us.length-1)-fr ∧
  ((rl.length:Int)+(us.length-1)-fr=0->K (.tup [.at (vU 0),.at (vI 2)]) (slC us gn rl fr) [0,1,2,3]) ∧
  (0<(rl.length:Int)+(us.length-1)-fr->∀ i rl' fr',(i,rl',fr')=Yda rl fr->K (.tup [.at (vU i),.at (vI 0)]) (slC (us.set i.toNat true) (gn.set i.toNat (Ze.wrap (gn.getD i.toNat 0+1))) rl' fr') [0,1,2,3])
 | _=>False
def YfL:Ann C0:={ Γ:=[(59,Yc [] Yaf)] }
def YdE:Tfm C0:=fun args H K=>match args with
 | [.at (.ptr 0 0),.at (.val (.int .u32 i))]=>slM H fun us gn rl fr=>0<=i/\i<4294967296/\us.length<=65537/\rl.length<=65537/\us.getD i.toNat false=true/\K (.one (.at (vI 0))) (slC (us.set i.toNat false) gn (rl++[i]) fr) [0,1,3]
 | _=>False
theorem Ypk (us:List Bool)(gn rl:LI)(fr:Int)(K:KT)(h1:1<=us.length)(h2:us.length<=65537)(h:K (.one (.at (vI (us.length-1)))) (slC us gn rl fr) []) :
  vc C0 A0 Tryz.f77 [.at (.ptr 0 0)] (slC us gn rl fr) (Yh 4 K):=by
 refine Eq.mp (show (K (.one (.at (.val (VI (Za.wrap ((us.length:Int)-1)))))) [(.box [(.slc 1),(.slc 2),(.slc 3),(.val (VU (fr)))]),(.row true .bool (us)),(.row true .u32 (gn)),(.row true .u32 (rl))] [])=_ by kernel_rfl) ?_;rw[Yb (by omega) (by omega)];exact h
theorem Yjp:Tb C0 77 Yib:=by
 refine .of Tryz.func77 (by decide) rfl fun args H K h hB=>?_
 unfold Yib at h;split at h<;>try exact h.elim
 unfold slM at h;split at h<;>try exact h.elim
 rename_i fr us gn rl;exact⟨A0,trivial,Ypk us gn rl _ K h.1 h.2.1 h.2.2⟩
theorem Yfx (us:List Bool)(gn rl:LI)(fr i:Int)(K:KT)(h1:0<=i)(h2:i<4294967296)(h3:us.length<=65537)(h:K (.one (.at (vB (us.getD i.toNat false)))) (slC us gn rl fr) []) :
  vc C0 A0 Tryz.f59 [.at (.ptr 0 0),.at (vU i)] (slC us gn rl fr) (Yh 4 K):=by
 refine Eq.mp (show (brS (decide (Za.wrap i<(us.length:Int))) (0<=i/\i<(us.length:Int)/\K (.one (.at (.val (Zi (us.getD i.toNat false))))) [(.box [(.slc 1),(.slc 2),(.slc 3),(.val (VU (fr)))]),(.row true .bool (us)),(.row true .u32 (gn)),(.row true .u32 (rl))] []) (K (.one (.at (.val (Zi false)))) [(.box [(.slc 1),(.slc 2),(.slc 3),(.val (VU (fr)))]),(.row true .bool (us)),(.row true .u32 (gn)),(.row true .u32 (rl))] []))=_ by kernel_rfl) ?_;rw[Yb (by omega) (by omega)];refine Ya (fun c=>⟨h1,by simpa using c,h⟩) fun c=>?_
 have e:us.getD i.toNat false=false:=by
  have c:¬ i<(us.length:Int):=by simpa using c
  rw[Zb,ZV (by omega)];rfl
 rw[e] at h;exact h
theorem YM:Tb C0 59 Yaf:=by
 refine .of Tryz.func59 (by decide) rfl fun args H K h hB=>?_
 unfold Yaf at h;split at h<;>try exact h.elim
 unfold slM at h;split at h<;>try exact h.elim
 rename_i i _ fr us gn rl;exact⟨A0,trivial,Yfx us gn rl fr i K h.1 h.2.1 h.2.2.1 h.2.2.2⟩
theorem Ypl (us:List Bool)(gn rl:LI)(fr i:Int)(K:KT)(h1:0<=i)(h2:i<4294967296)(h3:gn.length<=65537)(h:K (.one (.at (vU (gn.getD i.toNat 0)))) (slC us gn rl fr) []) :
  vc C0 A0 Tryz.f111 [.at (.ptr 0 0),.at (vU i)] (slC us gn rl fr) (Yh 4 K):=by
 refine Eq.mp (show (brS (decide (Za.wrap i≥(gn.length:Int))) (K (.one (.at (.val (VU 0)))) [(.box [(.slc 1),(.slc 2),(.slc 3),(.val (VU (fr)))]),(.row true .bool (us)),(.row true .u32 (gn)),(.row true .u32 (rl))] []) (0<=i/\i<(gn.length:Int)/\K (.one (.at (.val (VU (gn.getD i.toNat 0))))) [(.box [(.slc 1),(.slc 2),(.slc 3),(.val (VU (fr)))]),(.row true .bool (us)),(.row true .u32 (gn)),(.row true .u32 (rl))] []))=_ by kernel_rfl) ?_;rw[Yb (by omega) (by omega)];refine Ya (fun c=>?_) fun c=>⟨h1,by simp at c;omega,h⟩
 have e:gn.getD i.toNat 0=0:=by
  have c:(gn.length:Int)<=i:=by simpa using c
  rw[Zb,ZV (by omega)];rfl
 rw[e] at h;exact h
theorem Ysa:Tb C0 111 YmO:=by
 refine .of Tryz.func111 (by decide) rfl fun args H K h hB=>?_
 unfold YmO at h;split at h<;>try exact h.elim
 unfold slM at h;split at h<;>try exact h.elim
 rename_i i _ fr us gn rl;exact⟨A0,trivial,Ypl us gn rl fr i K h.1 h.2.1 h.2.2.1 h.2.2.2⟩
theorem YmQ (us:List Bool)(gn rl:LI)(fr:Int)(K:KT)(h1:1<=us.length)(h2:us.length<=65537)(h3:rl.length<=65537)(h4:0<=fr)(h5:fr<=65537)(h:K (.one (.at (vI (rl.length+(us.length-1)-fr)))) (slC us gn rl fr) []) :
  vc C0 YmP Tryz.f75 [.at (.ptr 0 0)] (slC us gn rl fr) (Yh 4 K):=by
 refine Eq.mp (show (1<=us.length/\us.length<=65537/\K (.one (.at (.val (VI (Za.wrap (Za.wrap ((rl.length:Int)+((us.length:Int)-1))-Za.wrap fr)))))) [(.box [(.slc 1),(.slc 2),(.slc 3),(.val (VU (fr)))]),(.row true .bool (us)),(.row true .u32 (gn)),(.row true .u32 (rl))] [])=_ by kernel_rfl) ?_;refine⟨h1,h2,?_⟩;rw[Yb (x:=fr) (by omega) (by omega),Yb (x:=(rl.length:Int)+((us.length:Int)-1)) (by omega) (by omega),Yb (by omega) (by omega)];exact h
theorem Ygz:Tb C0 75 YeH:=by
 refine .of Tryz.func75 (by decide) rfl fun args H K h hB=>?_
 unfold YeH at h;split at h<;>try exact h.elim
 unfold slM at h;split at h<;>try exact h.elim
 rename_i fr us gn rl;exact⟨YmP,⟨Ye C0.ok Yjp _,trivial⟩,YmQ us gn rl fr K h.1 h.2.1 h.2.2.1 h.2.2.2.1 h.2.2.2.2.1 h.2.2.2.2.2⟩
theorem Yz {x:Int}(h1:0<=x)(h2:x<4294967296):Ze.wrap x=x:=by
 unfold IntKind.wrap;simp[IntKind.signed,IntKind.bits];omega
abbrev O1 (rl:LI):Prop:=0<=rl.getD (Za.wrap ((rl.length:Int)-1)).toNat 0
theorem YlE (us:List Bool)(gn rl:LI)(fr:Int)(K:KT)(h1:1<=us.length)(h2:us.length<=65537)(h3:rl.length<=65537)(h4:0<=fr)(h5:fr<=65537)(h6:gn.length=us.length)(h7:YrZ rl us.length)(h8:0<=(rl.length:Int)+(us.length-1)-fr)(ha:(rl.length:Int)+(us.length-1)-fr=0->K (.tup [.at (vU 0),.at (vI 2)]) (slC us gn rl fr) [0,1,2,3])(hb:0<(rl.length:Int)+(us.length-1)-fr->∀ i rl' fr',(i,rl',fr')=Yda rl fr->K (.tup [.at (vU i),.at (vI 0)]) (slC (us.set i.toNat true) (gn.set i.toNat (Ze.wrap (gn.getD i.toNat 0+1))) rl' fr') [0,1,2,3]) :
  vc C0 Yki Tryz.f80 [.at (.ptr 0 0)] (slC us gn rl fr) (Yh 4 (YG [0,1,2,3] K)):=by
 refine Eq.mp (show (1<=us.length/\us.length<=65537/\rl.length<=65537/\0<=fr/\fr<=65537/\brS ((rl.length:Int)+((us.length:Int)-1)-fr==0) (K (.tup [(.at (.val (VU 0))),(.at (.val (VI 2)))]) [(.box [(.slc 1),(.slc 2),(.slc 3),(.val (VU (fr)))]),(.row true .bool (us)),(.row true .u32 (gn)),(.row true .u32 (rl))] [0,1,2,3]) (brS (decide (Za.wrap ((rl.length:Int)-1)≥0)) (0<=Za.wrap ((rl.length:Int)-1)/\Za.wrap ((rl.length:Int)-1)<(rl.length:Int)/\0<=Za.wrap ((rl.length:Int)-1)/\Za.wrap ((rl.length:Int)-1)<=(rl.length:Int)/\O1 rl/\rl.getD (Za.wrap ((rl.length:Int)-1)).toNat 0<(us.length:Int)/\O1 rl/\rl.getD (Za.wrap ((rl.length:Int)-1)).toNat 0<(gn.length:Int)/\O1 rl/\rl.getD (Za.wrap ((rl.length:Int)-1)).toNat 0<(gn.length:Int)/\K (.tup [(.at (.val (VU (rl.getD (Za.wrap ((rl.length:Int)-1)).toNat 0)))),(.at (.val (VI 0)))]) [(.box [(.slc 1),(.slc 2),(.slc 3),(.val (VU (fr)))]),(.row true .bool (us.set (rl.getD (Za.wrap ((rl.length:Int)-1)).toNat 0).toNat true)),(.row true .u32 (gn.set (rl.getD (Za.wrap ((rl.length:Int)-1)).toNat 0).toNat (Ze.wrap (gn.getD (rl.getD (Za.wrap ((rl.length:Int)-1)).toNat 0).toNat 0+1)))),(.row true .u32 (Zn (Za.wrap ((rl.length:Int)-1)).toNat rl))] [0,1,2,3]) (0<=Ze.wrap (fr+1)/\Ze.wrap (fr+1)<(us.length:Int)/\0<=Ze.wrap (fr+1)/\Ze.wrap (fr+1)<(gn.length:Int)/\0<=Ze.wrap (fr+1)/\Ze.wrap (fr+1)<(gn.length:Int)/\
  K (.tup [(.at (.val (VU (Ze.wrap (fr+1))))),(.at (.val (VI 0)))]) [(.box [(.slc 1),(.slc 2),(.slc 3),(.val (VU (Ze.wrap (fr+1))))]),(.row true .bool (us.set (Ze.wrap (fr+1)).toNat true)),(.row true .u32 (gn.set (Ze.wrap (fr+1)).toNat (Ze.wrap (gn.getD (Ze.wrap (fr+1)).toNat 0+1)))),(.row true .u32 (rl))] [0,1,2,3])))=_ by kernel_rfl) ?_
 delta O1;rw[Yb (x:=(rl.length:Int)-1) (by omega) (by omega),Yz (x:=fr+1) (by omega) (by omega)];refine⟨h1,h2,h3,h4,h5,Ya (fun c=>ha (by simpa using c)) fun c=>?_⟩;have c:¬ (rl.length:Int)+(us.length-1)-fr=0:=by simpa using c
 have hb:=hb (by omega);refine Ya (fun d=>?_) fun d=>?_
 .have d:0<=(rl.length:Int)-1:=by simpa using d
  have e:((rl.length:Int)-1).toNat=rl.length-1:=by omega
  rw[e]
  have hm:rl.getD (rl.length-1) 0∈rl:=by
   have:rl.length-1<rl.length:=by omega
   rw[Zb,Zk this];exact Zaa this
  have hr:=h7 _ hm;exact⟨by omega,by omega,by omega,by omega,hr.1,hr.2,hr.1,by omega,hr.1,by omega,hb _ _ _ (by unfold Yda;rw[Zj (by omega)];rfl)⟩
 .have d:¬ 0<=(rl.length:Int)-1:=by simpa using d
  exact⟨by omega,by omega,by omega,by omega,by omega,by omega,hb _ _ _ (by unfold Yda;rw[Zf (by omega)])⟩
theorem YmR:Tb C0 80 Ygy:=by
 refine .ofW [0,1,2,3] Tryz.func80 (by decide) rfl fun args H K h hB=>?_
 unfold Ygy at h;split at h<;>try exact h.elim
 unfold slM at h;split at h<;>try exact h.elim
 rename_i fr us gn rl;exact⟨Yki,⟨Ye C0.ok Ygz _,trivial⟩,YlE us gn rl fr K h.1 h.2.1 h.2.2.1 h.2.2.2.1 h.2.2.2.2.1 h.2.2.2.2.2.1 h.2.2.2.2.2.2.1 h.2.2.2.2.2.2.2.1 h.2.2.2.2.2.2.2.2.1 h.2.2.2.2.2.2.2.2.2⟩
theorem Yic (us:List Bool)(gn rl:LI)(fr i:Int)(K:KT)(h1:0<=i)(h2:i<4294967296)(h3:us.length<=65537)(h4:rl.length<=65537)(h5:us.getD i.toNat false=true)(h:K (.one (.at (vI 0))) (slC (us.set i.toNat false) gn (rl++[i]) fr) [0,1,3]) :
  vc C0 YfL Tryz.f74 [.at (.ptr 0 0),.at (vU i)] (slC us gn rl fr) (Yh 4 K):=by
 refine Eq.mp (show (0<=i/\i<4294967296/\us.length<=65537/\brS (!us.getD i.toNat false) (K (.one (.at (.val (VI 3)))) [(.box [(.slc 1),(.slc 2),(.slc 3),(.val (VU (fr)))]),(.row true .bool (us)),(.row true .u32 (gn)),(.row true .u32 (rl))] []) (0<=i/\i<(us.length:Int)/\(rl.length+[i].length)*Yd C0 EC.u32<=140737488355328/\K (.one (.at (.val (VI 0)))) [(.box [(.slc 1),(.slc 2),(.slc 3),(.val (VU (fr)))]),(.row true .bool (us.set i.toNat false)),(.row true .u32 (gn)),(.row true .u32 (rl++[i]))] [0,1,3]))=_ by kernel_rfl) ?_;simp only[Ys];refine⟨h1,h2,h3,Ya (fun c=>?_) fun c=>⟨h1,?_,?_,h⟩⟩
 .rw[h5] at c;cases c
 .rcases Zad i.toNat us.length with hh|hh
  .omega
  .rw[Zb,ZV hh] at h5;cases h5
 .simp;omega
theorem Yjq:Tb C0 74 YdE:=by
 refine .of Tryz.func74 (by decide) rfl fun args H K h hB=>?_
 unfold YdE at h;split at h<;>try exact h.elim
 unfold slM at h;split at h<;>try exact h.elim
 rename_i i _ fr us gn rl;exact⟨YfL,⟨Ye C0.ok YM _,trivial⟩,Yic us gn rl fr i K h.1 h.2.1 h.2.2.1 h.2.2.2.1 h.2.2.2.2.1 h.2.2.2.2.2⟩
abbrev chS (S:Arn):LH C0:=[.box [.ptr 1 0,.slc 2,.slc 3,vU64 S.reads],.box [.slc 4,.slc 5,.slc 6,vU S.fresh],.row true .node S.nodes,.row true .int S.counts,.row true .bool S.used,.row true .u32 S.gen,.row true .u32 S.rel]
def arM (H:LH C0)(k:Arn->Prop):Prop:=match H with
 | [.box [.ptr 1 0,.slc 2,.slc 3,.val (.int .u64 rd)],.box [.slc 4,.slc 5,.slc 6,.val (.int .u32 fr)],.row true .node nd,.row true .int ct,.row true .bool us,.row true .u32 gn,.row true .u32 rl]=>k ⟨us,gn,rl,fr,nd,ct,rd⟩
 | _=>False
def arMr (H:LH C0)(k:Arn->LH C0->Prop):Prop:=match H with
 | .box [.ptr 1 0,.slc 2,.slc 3,.val (.int .u64 rd)]::.box [.slc 4,.slc 5,.slc 6,.val (.int .u32 fr)]::.row true .node nd::.row true .int ct::.row true .bool us::.row true .u32 gn::.row true .u32 rl::rest=>k ⟨us,gn,rl,fr,nd,ct,rd⟩ rest
 | _=>False
abbrev Ypm (n:Td):TV:=.agg [vI n.key,vI n.value,vU n.left,vU n.right,vI n.size,vI n.sum,vI n.min,vI n.max]
abbrev W7:LN:=[0,1,2,3,4,5,6]
def inU (i:Int):Prop:=0<=i/\i<4294967296
def exW (S:Arn):Prop:=∃ hs,Wf S hs
def live (S:Arn)(i:Int):Prop:=i=0∨S.us i=true

def Yuy:Ann C0:={ Γ:=[(75,Yc [] YeH)] }
def YmS:Tfm C0:=fun args H K=>match args with
 | [.at (.ptr 0 0)]=>arM H fun S=>exW S/\K (.one (.at (vI S.free))) (chS S) []
 | _=>False
def aCap:Ann C0:={ Γ:=[(77,Yc [] Yib)] }
def tCap:Tfm C0:=fun args H K=>match args with
 | [.at (.ptr 0 0)]=>arM H fun S=>exW S/\K (.one (.at (vI S.cap))) (chS S) []
 | _=>False
def aAlc:Ann C0:={ Γ:=[(59,Yc [] Yaf)] }
def Yid:Tfm C0:=fun args H K=>match args with
 | [.at (.ptr 0 0),.at (.val (.int .u32 i))]=>arM H fun S=>inU i/\exW S/\S.reads<4000000000000000000/\∀ S',S'=rdS S (S.us i).toNat->K (.tup [Ypm (S.nd i),.at (vB (S.us i))]) (chS S') [0]
 | _=>False
def Yfy:Tfm C0:=fun args H K=>match args with
 | [.at (.ptr 0 0),.at (.val (.int .u32 i))]=>arM H fun S=>inU i/\exW S/\S.reads<4000000000000000000/\∀ S',S'=rdS S (S.us i).toNat->K (.one (.at (vI (S.nd i).size))) (chS S') [0]
 | _=>False
def YmT:Tfm C0:=fun args H K=>match args with
 | [.at (.ptr 0 0),.at (.val (.int .u32 i))]=>arM H fun S=>inU i/\exW S/\K (.one (.at (vI (if S.us i then S.ct i else 0)))) (chS S) []
 | _=>False
def aGen:Ann C0:={ Γ:=[(111,Yc [] YmO)] }
def tGen:Tfm C0:=fun args H K=>match args with
 | [.at (.ptr 0 0),.at (.val (.int .u32 i))]=>arM H fun S=>inU i/\exW S/\K (.one (.at (vU (S.gn i)))) (chS S) []
 | _=>False
def YgA:Tfm C0:=fun args H K=>match args with
 | [.at (.ptr 0 0),.at (.val (.int .u32 i))]=>arM H fun S=>inU i/\exW S/\(i=0->K (.one (.at (vI 0))) (chS S) [3])/\(i≠0->S.us i=false->K (.one (.at (vI 3))) (chS S) [3])/\(S.us i=true->∀ S',S'=retA S i->K (.one (.at (vI 0))) (chS S') [3])
 | _=>False
def YmU (c:Int):List Bool:=List.replicate (c.toNat+1) false
def YmV (c:Int):LI:=List.replicate (c.toNat+1) 0
def YqT:Ann C0:={ Γ:=[] }
def YmW:Tfm C0:=fun args H K=>match args,H with
 | [.at (.val (.int .i64 c))],[]=>(c<1∨65536<c->K (.tup [.at (.val (.pointer none)),.at (vI 1)]) [] [])/\(1<=c->c<=65536->∀ (us:List Bool) (gn:LI),us=YmU c->gn=YmV c->K (.tup [.at (.ptr 0 0),.at (vI 0)]) (slC us gn [] 0) [])
 | _,_=>False
def aNew:Ann C0:={ Γ:=[(76,Yc [] YmW)] }
def tNew:Tfm C0:=fun args H K=>match args,H with
 | [.at (.val (.int .i64 c))],[]=>(c<1∨65536<c->K (.tup [.at (.val (.pointer none)),.at (vI 1)]) [] [])/\(1<=c->c<=65536->∀ S,S=newS c.toNat->K (.tup [.at (.ptr 0 0),.at (vI 0)]) (chS S) [])
 | _,_=>False
theorem YlF {l:List Bool}{i:Nat}(h:l.getD i false=true):i<l.length:=by
 rcases Zad i l.length with hh|hh
 .exact hh
 .rw[Zb,ZV hh] at h;cases h
theorem Ysb (S:Arn)(K:KT)(hw:exW S)(h:K (.one (.at (vI S.free))) (chS S) []):vc C0 Yuy Tryz.f27 [.at (.ptr 0 0)] (chS S) (Yh 7 K):=by
 refine Eq.mp (show (1<=S.used.length/\S.used.length<=65537/\S.rel.length<=65537/\0<=S.fresh/\S.fresh<=65537/\K (.one (.at (.val (VI ((S.rel.length:Int)+((S.used.length:Int)-1)-S.fresh))))) [(.box [(.ptr 1 0),(.slc 2),(.slc 3),(.val (VW (S.reads)))]),(.box [(.slc 4),(.slc 5),(.slc 6),(.val (VU (S.fresh)))]),(.row true .node (S.nodes)),(.row true .int (S.counts)),(.row true .bool (S.used)),(.row true .u32 (S.gen)),(.row true .u32 (S.rel))] [])=_ by kernel_rfl) ?_;obtain⟨hs,hw⟩:=hw;have h1:=hw.n1;have h2:=hw.n2;have h3:=hw.fr;have h4:=hw.free_nonneg;exact⟨by omega,by omega,by omega,by omega,by omega,h⟩
theorem YmX:Tb C0 27 YmS:=by
 refine .of Tryz.func27 (by decide) rfl fun args H K h hB=>?_
 unfold YmS at h;split at h<;>try exact h.elim
 unfold arM at h;split at h<;>try exact h.elim
 rename_i rd fr nd ct us gn rl;exact⟨Yuy,⟨Ye C0.ok Ygz _,trivial⟩,Ysb ⟨us,gn,rl,fr,nd,ct,rd⟩ K h.1 h.2⟩
theorem Yuz (S:Arn)(K:KT)(hw:exW S)(h:K (.one (.at (vI S.cap))) (chS S) []):vc C0 aCap Tryz.f29 [.at (.ptr 0 0)] (chS S) (Yh 7 K):=by
 refine Eq.mp (show (1<=S.used.length/\S.used.length<=65537/\K (.one (.at (.val (VI ((S.used.length:Int)-1))))) [(.box [(.ptr 1 0),(.slc 2),(.slc 3),(.val (VW (S.reads)))]),(.box [(.slc 4),(.slc 5),(.slc 6),(.val (VU (S.fresh)))]),(.row true .node (S.nodes)),(.row true .int (S.counts)),(.row true .bool (S.used)),(.row true .u32 (S.gen)),(.row true .u32 (S.rel))] [])=_ by kernel_rfl) ?_;obtain⟨hs,hw⟩:=hw;have h1:=hw.n1;have h2:=hw.n2;exact⟨by omega,by omega,h⟩
theorem Yxn:Tb C0 29 tCap:=by
 refine .of Tryz.func29 (by decide) rfl fun args H K h hB=>?_
 unfold tCap at h;split at h<;>try exact h.elim
 unfold arM at h;split at h<;>try exact h.elim
 rename_i rd fr nd ct us gn rl;exact⟨aCap,⟨Ye C0.ok Yjp _,trivial⟩,Yuz ⟨us,gn,rl,fr,nd,ct,rd⟩ K h.1 h.2⟩
theorem Yf {x:Int}(h1:0<=x)(h2:x<18446744073709551616):Zd.wrap x=x:=by
 unfold IntKind.wrap;simp[IntKind.signed,IntKind.bits];omega
abbrev O2 (c:Int)(Z_:Prop):Prop:=0<=Za.wrap (c+1)/\Za.wrap (c+1)<=Za.wrap (c+1)/\Z_
abbrev O3 (c:Int)(K:SV → LH C0 → LN → Prop)(us:List Bool)(gn:LI):Prop:=K (.tup [(.at (.ptr 0 0)),(.at (.val (VI 0)))]) [(.box [(.ptr 1 0),(.slc 2),(.slc 3),(.val (VW 0))]),(.box [(.slc 4),(.slc 5),(.slc 6),(.val (VU 0))]),(.row true .node (List.replicate (Za.wrap (c+1)).toNat Td.zero)),(.row true .int (List.replicate (Za.wrap (c+1)).toNat (0:Int))),(.row true .bool (us)),(.row true .u32 (gn)),(.row true .u32 [])] []
abbrev O4 (c:Int)(K:SV → LH C0 → LN → Prop):Prop:=K (.tup [(.at (.ptr 0 0)),(.at (.val (VI 0)))]) [(.box [(.slc 1),(.slc 2),(.slc 3),(.val (VU 0))]),(.row true .bool (List.replicate (Za.wrap (c+1)).toNat false)),(.row true .u32 (List.replicate (Za.wrap (c+1)).toNat (0:Int))),(.row true .u32 [])] []
abbrev O5 (K:SV → LH C0 → LN → Prop):Prop:=K (.tup [(.at (.val (Value.pointer none))),(.at (.val (VI 1)))]) [] []
abbrev O6 (S:Arn)(i:Int)(Z_:Prop):Prop:=0<=i/\i<4294967296/\S.used.length<=65537/\Z_
theorem Ysc (S:Arn)(i:Int)(K:KT)(hi:inU i)(hw:exW S)(hr:S.reads<4000000000000000000)(h:∀ S',S'=rdS S (S.us i).toNat->K (.tup [Ypm (S.nd i),.at (vB (S.us i))]) (chS S') [0]) :
  vc C0 aAlc Tryz.f86 [.at (.ptr 0 0),.at (vU i)] (chS S) (Yh 7 (YG [0] K)):=by
 refine Eq.mp (show (O6 S i (brS (!S.us i) (K (.tup [(TV.agg [(.val (VI 0)),(.val (VI 0)),(.val (VU 0)),(.val (VU 0)),(.val (VI 0)),(.val (VI 0)),(.val (VI 0)),(.val (VI 0))]),(.at (.val (Zi false)))]) [(.box [(.ptr 1 0),(.slc 2),(.slc 3),(.val (VW (S.reads)))]),(.box [(.slc 4),(.slc 5),(.slc 6),(.val (VU (S.fresh)))]),(.row true .node (S.nodes)),(.row true .int (S.counts)),(.row true .bool (S.used)),(.row true .u32 (S.gen)),(.row true .u32 (S.rel))] [0]) (0<=i/\i<(S.nodes.length:Int)/\K (.tup [(TV.agg [(.val (VI ((S.nd i).key))),(.val (VI ((S.nd i).value))),(.val (VU ((S.nd i).left))),(.val (VU ((S.nd i).right))),(.val (VI ((S.nd i).size))),(.val (VI ((S.nd i).sum))),(.val (VI ((S.nd i).min))),(.val (VI ((S.nd i).max)))]),(.at (.val (Zi true)))]) [(.box [(.ptr 1 0),(.slc 2),(.slc 3),(.val (VW (Zd.wrap (S.reads+1))))]),(.box [(.slc 4),(.slc 5),(.slc 6),(.val (VU (S.fresh)))]),(.row true .node (S.nodes)),(.row true .int (S.counts)),(.row true .bool (S.used)),(.row true .u32 (S.gen)),(.row true .u32 (S.rel))] [0])))=_ by kernel_rfl) ?_;delta O6;obtain⟨hs,hw⟩:=hw;have h2:=hw.n2;have h3:=hw.nnod;have h4:=hw.rds;rw[Yf (by omega) (by omega)];refine⟨hi.1,hi.2,by omega,Ya (fun c=>?_) fun c=>?_⟩
 .have c:S.us i=false:=by simpa using c
  have h5:=h _ rfl;rw[hw.zero i c,c] at h5;have e:rdS S (false.toNat)=S:=by simp[rdS]
  rw[e] at h5;exact h5
 .have c:S.us i=true:=by simpa using c
  have hp:=hw.pos c;have h5:=h _ rfl;rw[c] at h5;exact⟨hi.1,by omega,h5⟩
theorem YfM:Tb C0 86 Yid:=by
 refine .ofW [0] Tryz.func86 (by decide) rfl fun args H K h hB=>?_
 unfold Yid at h;split at h<;>try exact h.elim
 unfold arM at h;split at h<;>try exact h.elim
 rename_i i _ rd fr nd ct us gn rl;exact⟨aAlc,⟨Ye C0.ok YM _,trivial⟩,Ysc ⟨us,gn,rl,fr,nd,ct,rd⟩ i K h.1 h.2.1 h.2.2.1 h.2.2.2⟩
theorem Ysd (S:Arn)(i:Int)(K:KT)(hi:inU i)(hw:exW S)(hr:S.reads<4000000000000000000)(h:∀ S',S'=rdS S (S.us i).toNat->K (.one (.at (vI (S.nd i).size))) (chS S') [0]) :
  vc C0 aAlc Tryz.f41 [.at (.ptr 0 0),.at (vU i)] (chS S) (Yh 7 (YG [0] K)):=by
 refine Eq.mp (show (O6 S i (brS (!S.us i) (K (.one (.at (.val (VI 0)))) [(.box [(.ptr 1 0),(.slc 2),(.slc 3),(.val (VW (S.reads)))]),(.box [(.slc 4),(.slc 5),(.slc 6),(.val (VU (S.fresh)))]),(.row true .node (S.nodes)),(.row true .int (S.counts)),(.row true .bool (S.used)),(.row true .u32 (S.gen)),(.row true .u32 (S.rel))] [0]) (0<=i/\i<(S.nodes.length:Int)/\K (.one (.at (.val (VI ((S.nd i).size))))) [(.box [(.ptr 1 0),(.slc 2),(.slc 3),(.val (VW (Zd.wrap (S.reads+1))))]),(.box [(.slc 4),(.slc 5),(.slc 6),(.val (VU (S.fresh)))]),(.row true .node (S.nodes)),(.row true .int (S.counts)),(.row true .bool (S.used)),(.row true .u32 (S.gen)),(.row true .u32 (S.rel))] [0])))=_ by kernel_rfl) ?_;delta O6;obtain⟨hs,hw⟩:=hw;have h2:=hw.n2;have h3:=hw.nnod;have h4:=hw.rds;rw[Yf (by omega) (by omega)];refine⟨hi.1,hi.2,by omega,Ya (fun c=>?_) fun c=>?_⟩
 .have c:S.us i=false:=by simpa using c
  have h5:=h _ rfl;rw[hw.zero i c,c] at h5;have e:rdS S (false.toNat)=S:=by simp[rdS]
  rw[e] at h5;exact h5
 .have c:S.us i=true:=by simpa using c
  have hp:=hw.pos c;have h5:=h _ rfl;rw[c] at h5;exact⟨hi.1,by omega,h5⟩
theorem YdU:Tb C0 41 Yfy:=by
 refine .ofW [0] Tryz.func41 (by decide) rfl fun args H K h hB=>?_
 unfold Yfy at h;split at h<;>try exact h.elim
 unfold arM at h;split at h<;>try exact h.elim
 rename_i i _ rd fr nd ct us gn rl;exact⟨aAlc,⟨Ye C0.ok YM _,trivial⟩,Ysd ⟨us,gn,rl,fr,nd,ct,rd⟩ i K h.1 h.2.1 h.2.2.1 h.2.2.2⟩
theorem Ypn (S:Arn)(i:Int)(K:KT)(hi:inU i)(hw:exW S)(h:K (.one (.at (vI (if S.us i then S.ct i else 0)))) (chS S) []) :
  vc C0 aAlc Tryz.f60 [.at (.ptr 0 0),.at (vU i)] (chS S) (Yh 7 K):=by
 refine Eq.mp (show (O6 S i (brS (!S.us i) (K (.one (.at (.val (VI 0)))) [(.box [(.ptr 1 0),(.slc 2),(.slc 3),(.val (VW (S.reads)))]),(.box [(.slc 4),(.slc 5),(.slc 6),(.val (VU (S.fresh)))]),(.row true .node (S.nodes)),(.row true .int (S.counts)),(.row true .bool (S.used)),(.row true .u32 (S.gen)),(.row true .u32 (S.rel))] []) (0<=i/\i<(S.counts.length:Int)/\K (.one (.at (.val (VI (S.ct i))))) [(.box [(.ptr 1 0),(.slc 2),(.slc 3),(.val (VW (S.reads)))]),(.box [(.slc 4),(.slc 5),(.slc 6),(.val (VU (S.fresh)))]),(.row true .node (S.nodes)),(.row true .int (S.counts)),(.row true .bool (S.used)),(.row true .u32 (S.gen)),(.row true .u32 (S.rel))] [])))=_ by kernel_rfl) ?_;delta O6;obtain⟨hs,hw⟩:=hw;have h2:=hw.n2;have h3:=hw.ncnt;refine⟨hi.1,hi.2,by omega,Ya (fun c=>?_) fun c=>?_⟩
 .have c:S.us i=false:=by simpa using c
  rw[c] at h;exact h
 .have c:S.us i=true:=by simpa using c
  have hp:=hw.pos c;rw[c] at h;exact⟨hi.1,by omega,h⟩
theorem Yse:Tb C0 60 YmT:=by
 refine .of Tryz.func60 (by decide) rfl fun args H K h hB=>?_
 unfold YmT at h;split at h<;>try exact h.elim
 unfold arM at h;split at h<;>try exact h.elim
 rename_i i _ rd fr nd ct us gn rl;exact⟨aAlc,⟨Ye C0.ok YM _,trivial⟩,Ypn ⟨us,gn,rl,fr,nd,ct,rd⟩ i K h.1 h.2.1 h.2.2⟩
theorem YuA (S:Arn)(i:Int)(K:KT)(hi:inU i)(hw:exW S)(h:K (.one (.at (vU (S.gn i)))) (chS S) []) :
  vc C0 aGen Tryz.f61 [.at (.ptr 0 0),.at (vU i)] (chS S) (Yh 7 K):=by
 refine Eq.mp (show (0<=i/\i<4294967296/\S.gen.length<=65537/\K (.one (.at (.val (VU (S.gn i))))) [(.box [(.ptr 1 0),(.slc 2),(.slc 3),(.val (VW (S.reads)))]),(.box [(.slc 4),(.slc 5),(.slc 6),(.val (VU (S.fresh)))]),(.row true .node (S.nodes)),(.row true .int (S.counts)),(.row true .bool (S.used)),(.row true .u32 (S.gen)),(.row true .u32 (S.rel))] [])=_ by kernel_rfl) ?_;obtain⟨hs,hw⟩:=hw;have h2:=hw.n2;have h3:=hw.ngen;exact⟨hi.1,hi.2,by omega,h⟩
theorem Yxo:Tb C0 61 tGen:=by
 refine .of Tryz.func61 (by decide) rfl fun args H K h hB=>?_
 unfold tGen at h;split at h<;>try exact h.elim
 unfold arM at h;split at h<;>try exact h.elim
 rename_i i _ rd fr nd ct us gn rl;exact⟨aGen,⟨Ye C0.ok Ysa _,trivial⟩,YuA ⟨us,gn,rl,fr,nd,ct,rd⟩ i K h.1 h.2.1 h.2.2⟩
theorem YmY (S:Arn)(i:Int)(K:KT)(hi:inU i)(hw:exW S)(h0:i=0->K (.one (.at (vI 0))) (chS S) [3])(h1:i≠0->S.us i=false->K (.one (.at (vI 3))) (chS S) [3])(h:S.us i=true->∀ S',S'=retA S i->K (.one (.at (vI 0))) (chS S') [3]) :
  vc C0 aAlc Tryz.f87 [.at (.ptr 0 0),.at (vU i)] (chS S) (Yh 7 (YG [3] K)):=by
 refine Eq.mp (show (brS (i==0) (K (.one (.at (.val (VI 0)))) [(.box [(.ptr 1 0),(.slc 2),(.slc 3),(.val (VW (S.reads)))]),(.box [(.slc 4),(.slc 5),(.slc 6),(.val (VU (S.fresh)))]),(.row true .node (S.nodes)),(.row true .int (S.counts)),(.row true .bool (S.used)),(.row true .u32 (S.gen)),(.row true .u32 (S.rel))] [3]) (O6 S i (brS (!S.us i) (K (.one (.at (.val (VI 3)))) [(.box [(.ptr 1 0),(.slc 2),(.slc 3),(.val (VW (S.reads)))]),(.box [(.slc 4),(.slc 5),(.slc 6),(.val (VU (S.fresh)))]),(.row true .node (S.nodes)),(.row true .int (S.counts)),(.row true .bool (S.used)),(.row true .u32 (S.gen)),(.row true .u32 (S.rel))] [3]) (0<=i/\i<(S.counts.length:Int)/\0<=i/\i<(S.counts.length:Int)/\K (.one (.at (.val (VI 0)))) [(.box [(.ptr 1 0),(.slc 2),(.slc 3),(.val (VW (S.reads)))]),(.box [(.slc 4),(.slc 5),(.slc 6),(.val (VU (S.fresh)))]),(.row true .node (S.nodes)),(.row true .int (S.counts.set i.toNat (Za.wrap (S.ct i+1)))),(.row true .bool (S.used)),(.row true .u32 (S.gen)),(.row true .u32 (S.rel))] [3]))))=_ by kernel_rfl) ?_;delta O6;obtain⟨hs,hw⟩:=hw;have h2:=hw.n2;have h3:=hw.ncnt;refine Ya (fun c=>h0 (by simpa using c)) fun c=>⟨hi.1,hi.2,by omega,Ya (fun d=>?_) fun d=>?_⟩
 .exact h1 (by simpa using c) (by simpa using d)
 .have d:S.us i=true:=by simpa using d
  have hp:=hw.pos d;exact⟨hi.1,by omega,hi.1,by omega,h d _ rfl⟩
theorem s_retain:Tb C0 87 YgA:=by
 refine .ofW [3] Tryz.func87 (by decide) rfl fun args H K h hB=>?_
 unfold YgA at h;split at h<;>try exact h.elim
 unfold arM at h;split at h<;>try exact h.elim
 rename_i i _ rd fr nd ct us gn rl;exact⟨aAlc,⟨Ye C0.ok YM _,trivial⟩,YmY ⟨us,gn,rl,fr,nd,ct,rd⟩ i K h.1 h.2.1 h.2.2.1 h.2.2.2.1 h.2.2.2.2⟩
theorem Ypo (c:Int)(K:KT)(hb:c<1∨65536<c->K (.tup [.at (.val (.pointer none)),.at (vI 1)]) [] [])(h:1<=c->c<=65536->∀ (us:List Bool) (gn:LI),us=YmU c->gn=YmV c->K (.tup [.at (.ptr 0 0),.at (vI 0)]) (slC us gn [] 0) []) :
  vc C0 YqT Tryz.f76 [.at (vI c)] [] (Yh 0 K):=by
 refine Eq.mp (show (brS (decide (c<1)) (O5 K) (brS (decide (c>65536)) (O5 K) (O2 c (Za.wrap (c+1)*(↑(Yd C0 EC.bool):Int)<=140737488355328/\O2 c (Za.wrap (c+1)*(↑(Yd C0 EC.u32):Int)<=140737488355328/\O4 c K))/\O2 c (Za.wrap (c+1)*(↑(Yd C0 EC.u32):Int)<=140737488355328/\O2 c (Za.wrap (c+1)*(↑(Yd C0 EC.bool):Int)<=140737488355328/\O4 c K)))))=_ by kernel_rfl) ?_;delta O2 O4 O5;simp only[YdD,Ys];refine Ya (fun d=>hb (.inl (by simpa using d))) fun d=>Ya (fun e=>hb (.inr (by simpa using e))) fun e=>?_
 have d:1<=c:=by simp at d;omega
 have e:c<=65536:=by simp at e;omega
 have h:=h d e _ _ rfl rfl;unfold YmU YmV at h;rw[Yb (x:=c+1) (by omega) (by omega),show (c+1).toNat=c.toNat+1 by omega];exact⟨⟨by omega,by omega,by omega,by omega,by omega,by omega,h⟩,by omega,by omega,by omega,by omega,by omega,by omega,h⟩
theorem Ysf:Tb C0 76 YmW:=by
 refine .of Tryz.func76 (by decide) rfl fun args H K h hB=>?_
 unfold YmW at h;split at h<;>try exact h.elim
 rename_i c;exact⟨YqT,trivial,Ypo c K h.1 h.2⟩
theorem YuB (c:Int)(K:KT)(hb:c<1∨65536<c->K (.tup [.at (.val (.pointer none)),.at (vI 1)]) [] [])(h:1<=c->c<=65536->∀ S,S=newS c.toNat->K (.tup [.at (.ptr 0 0),.at (vI 0)]) (chS S) []) :
  vc C0 aNew Tryz.f28 [.at (vI c)] [] (Yh 0 K):=by
 refine Eq.mp (show (((c<1∨65536<c)->O5 K)/\(1<=c->c<=65536->∀ us:List Bool,∀ gn:LI,us=YmU c->gn=YmV c->O2 c (Za.wrap (c+1)*(↑(Yd C0 EC.node):Int)<=140737488355328/\O2 c (Za.wrap (c+1)*(↑(Yd C0 EC.int):Int)<=140737488355328/\O3 c K us gn))/\O2 c (Za.wrap (c+1)*(↑(Yd C0 EC.int):Int)<=140737488355328/\O2 c (Za.wrap (c+1)*(↑(Yd C0 EC.node):Int)<=140737488355328/\O3 c K us gn))))=_ by kernel_rfl) ?_;delta O2 O3 O5;simp only[YfJ,YeG];refine⟨hb,fun d e us gn hu hg=>?_⟩;have h:=h d e _ rfl;subst hu hg;unfold YmU YmV;rw[Yb (x:=c+1) (by omega) (by omega),show (c+1).toNat=c.toNat+1 by omega];exact⟨⟨by omega,by omega,by omega,by omega,by omega,by omega,h⟩,by omega,by omega,by omega,by omega,by omega,by omega,h⟩
theorem Yxp:Tb C0 28 tNew:=by
 refine .of Tryz.func28 (by decide) rfl fun args H K h hB=>?_
 unfold tNew at h;split at h<;>try exact h.elim
 rename_i c;exact⟨aNew,⟨Ye C0.ok Ysf _,trivial⟩,YuB c K h.1 h.2⟩
def eA (p:LE)(n:Nat):Ent:=p.getD n (0,0)
theorem Yie {p:LE}{n:Nat}(h:n<p.length):p[n]?=some (eA p n):=by simp[eA,Zb,Zk h]
theorem YaU {α:Type}{l:List α}{n:Nat}{x:α}(h:l[n]?=some x):l.drop n=x::l.drop (n+1):=by
 obtain⟨h1,h2⟩:=Zt.1 h;rw[Zbg h1,h2]
theorem YeI {α:Type}{l:List α}{n:Nat}{x:α}(h:l[n]?=some x):l.take (n+1)=l.take n++[x]:=by
 rw[ZbK,h];rfl

def CmpR (c d:Chg)(ok:Bool):Prop:=ok=(YmG c.key c.before c.after).isSome/\∀ e,YmG c.key c.before c.after=some e->d=e
theorem CmpR.ok {c d:Chg}{ok:Bool}(h:CmpR c d ok):decide c.ok=(ok && decide (d=c)):=by
 obtain⟨h1,h2⟩:=h;cases hm:YmG c.key c.before c.after with
 | none=>rw[hm] at h1;subst h1;simp[Chg.ok,hm]
 | some e=>rw[hm] at h1;subst h1;simp[Chg.ok,hm,h2 e hm]
def upTo (fr:Int)(n:Nat):LI:=(List.range n).map fun (k:Nat)=>fr+1+(k:Int)
def YbD (us:List Bool)(rl:LI)(fr:Int):LI:=rl.reverse++upTo fr ((us.length:Int)-1-fr).toNat
structure XOr1 (rl:LI) where
 k:Nat
 h:k<=rl.length
structure XOr2 (us:List Bool) (fr:Int) where
 n:Nat
 h:n<=((us.length:Int)-1-fr).toNat
def YqU (us:List Bool)(gn rl:LI)(fr:Int):Ann C0:={ Γ:=[(75,Yc [] YeH),(77,Yc [] Yib)],inv:=fun n=>match n with
 | 3=>some { X:=XOr1 rl,sl:=[4,3],tf:=fun x=>[vi .i64 ((x.k:Int)-1),.one (.at (.slc 4))],hf:=fun x=>slC us gn rl fr++[.row true .u32 (rl.drop x.k).reverse],μ:=fun x=>x.k }
 | 7=>some { X:=XOr2 us fr,sl:=[5,3],tf:=fun x=>[vi .i64 (fr+1+(x.n:Int)),.one (.at (.slc 4))],hf:=fun x=>slC us gn rl fr++[.row true .u32 (rl.reverse++upTo fr x.n)],μ:=fun x=>((us.length:Int)-1-fr).toNat-x.n }
 | _=>none }
def YmZ:Tfm C0:=fun args H K=>match args with
 | [.at (.ptr 0 0)]=>slM H fun us gn rl fr=>1<=us.length/\us.length<=65537/\rl.length<=65537/\0<=fr/\fr<=us.length-1/\∀ o:LI,o=YbD us rl fr->K (.one (.at (.slc 4))) (slC us gn rl fr++[.row true .u32 o]) []
 | _=>False
def Tc.zero:Tc:=⟨false,0,0,Td.zero⟩
def YeJ (S:Arn)(k:Nat):Tc:=⟨S.us ((k:Int)+1),if S.us ((k:Int)+1) then S.ct ((k:Int)+1) else 0,S.gn ((k:Int)+1),S.nd ((k:Int)+1)⟩
def ncap (S:Arn):Nat:=S.used.length-1
def Yg (S:Arn):LS:=(List.range (ncap S)).map (YeJ S)
def Yi (S:Arn):LI:=YbD S.used S.rel S.fresh
structure XDu (S:Arn) where
 i:Nat
 h:i<=ncap S
def YaV (S:Arn)(i:Nat):LS:=(List.range i).map (YeJ S)++List.replicate (ncap S-i) Tc.zero
def YuC (S:Arn):Ann C0:={ quiet:=[59,60,61,29],Γ:=[(29,Yc [] tCap),(58,Yc [] YmZ),(59,Yc [] Yaf),(60,Yc [] YmT),(61,Yc [] tGen)],inv:=fun n=>match n with
 | 1002=>some { X:=Unit,sl:=[3,2],tf:=fun _=>[.one (.at (.ptr 7 0)),.one (.at (.ptr 10 0))],hf:=fun _=>chS S++[.box [.slc 8,.slc 9],.row true .slot (YaV S 0),.row true .u32 (Yi S),.box [.slc 11,.slc 12],.row true .slot [],.row true .u32 []] }
 | 3=>some { X:=XDu S,sl:=[18,3,2],tf:=fun x=>[vi .i64 x.i,.one (.at (.ptr 7 0)),.one (.at (.ptr 10 0))],hf:=fun x=>chS S++[.box [.slc 8,.slc 9],.row true .slot (YaV S x.i),.row true .u32 (Yi S),.box [.slc 11,.slc 12],.row true .slot [],.row true .u32 []],μ:=fun x=>ncap S-x.i }
 | _=>none }
def Ypp:Tfm C0:=fun args H K=>match args with
 | [.at (.ptr 0 0)]=>arM H fun S=>exW S/\∀ (d:LS) (o:LI),d=Yg S->o=Yi S->K (.one (.agg [.slc 7,.slc 8])) (chS S++[.row true .slot d,.row true .u32 o]) []
 | _=>False
theorem Yif (fr:Int)(n:Nat):upTo fr n++[fr+1+(n:Int)]=upTo fr (n+1):=by
 unfold upTo;rw[List.range_succ,ZX];rfl
abbrev O7 (S:Arn)(o:LI):Prop:=∃ w0_:Unit,True/\(True/\True/\True/\True)/\(True/\True/\True/\VW (S.reads)=VW (S.reads)/\True)/\(True/\True/\True/\VU (S.fresh)=VU (S.fresh)/\True)/\S.nodes=S.nodes/\S.counts=S.counts/\S.used=S.used/\S.gen=S.gen/\S.rel=S.rel/\(True/\True/\True)/\List.replicate S.cap.toNat Tc.zero=YaV S 0/\o=Yi S/\(True/\True/\True)/\([]:LS)=[]/\([]:LI)=[]/\True
abbrev O8 (S:Arn):Prop:=(0<=S.cap/\S.cap<=S.cap/\S.cap*(↑(Yd C0 EC.slot):Int)<=140737488355328/\1<=S.used.length/\S.used.length<=65537/\S.rel.length<=65537/\0<=S.fresh/\S.fresh<=(S.used.length:Int)-1/\∀ w0_:LI,w0_=YbD S.used S.rel S.fresh->O7 S w0_)/\1<=S.used.length/\S.used.length<=65537/\S.rel.length<=65537/\0<=S.fresh/\S.fresh<=(S.used.length:Int)-1/\∀ w0_:LI,w0_=YbD S.used S.rel S.fresh->0<=S.cap/\S.cap<=S.cap/\S.cap*(↑(Yd C0 EC.slot):Int)<=140737488355328/\O7 S w0_
abbrev O9 (S:Arn):Prop:=1<=S.used.length/\S.used.length<=65537/\S.rel.length<=65537/\0<=S.fresh/\S.fresh<=(S.used.length:Int)-1/\∀ w0_:LI,w0_=YbD S.used S.rel S.fresh->O7 S w0_
abbrev O10 (S:Arn)(Z_:Prop):Prop:=0<=S.cap/\S.cap<=S.cap/\S.cap*(↑(Yd C0 EC.slot):Int)<=140737488355328/\Z_
abbrev O11 (S:Arn):Prop:=O10 S (O9 S/\O9 S)/\(1<=S.used.length/\S.used.length<=65537/\S.rel.length<=65537/\0<=S.fresh/\S.fresh<=(S.used.length:Int)-1/\∀ w0_:LI,w0_=YbD S.used S.rel S.fresh->O10 S (O7 S w0_)/\O10 S (O7 S w0_))/\O8 S
abbrev O12 (S:Arn)(Z_:Prop):Prop:=(True/\True/\True/\VW (S.reads)=VW (S.reads)/\True)/\(True/\True/\True/\VU (S.fresh)=VU (S.fresh)/\True)/\S.nodes=S.nodes/\S.counts=S.counts/\S.used=S.used/\S.gen=S.gen/\S.rel=S.rel/\(True/\True/\True)/\Z_
abbrev O13 (fr:Int):Prop:=True/\True/\True/\VU (fr)=VU (fr)/\True
abbrev O14 (S:Arn):Prop:=Yi S=Yi S/\(True/\True/\True)/\([]:LS)=[]/\([]:LI)=[]/\True
abbrev O15 (S:Arn)(Z_:Prop):Prop:=True/\True/\True/\(VI ((↑(YaV S 0).length:Int)))=(VI ((↑(YaV S 0).length:Int)))/\Z_
theorem Ypq (us:List Bool)(gn rl:LI)(fr:Int)(K:KT)(h1:1<=us.length)(h2:us.length<=65537)(h3:rl.length<=65537)(h4:0<=fr)(h5:fr<=us.length-1)(h:∀ o:LI,o=YbD us rl fr->K (.one (.at (.slc 4))) (slC us gn rl fr++[.row true .u32 o]) []) :
  vc C0 (YqU us gn rl fr) Tryz.f58 [.at (.ptr 0 0)] (slC us gn rl fr) (Yh 4 K):=by
 refine Eq.mp (show (1<=us.length/\us.length<=65537/\rl.length<=65537/\0<=fr/\fr<=65537/\(0:Int)<=0/\0<=(rl.length:Int)+((us.length:Int)-1)-fr/\((rl.length:Int)+((us.length:Int)-1)-fr)*(↑(Yd C0 EC.u32):Int)<=140737488355328/\(∃ x:XOr1 rl,True/\(True/\True/\(VI (Za.wrap ((rl.length:Int)-1)))=(VI ((x.k:Int)-1))/\True)/\O13 fr/\us=us/\gn=gn/\rl=rl/\[]=((Zp x.k rl).reverse)/\True)/\∀ x:XOr1 rl,True->brS (decide ((x.k:Int)-1≥0)) (0<=(x.k:Int)-1/\(x.k:Int)-1<(rl.length:Int)/\((Zp x.k rl).reverse.length+[rl.getD ((x.k:Int)-1).toNat 0].length)*Yd C0 EC.u32<=140737488355328/\∃ x':XOr1 rl,True/\((True/\True/\(VI (Za.wrap ((x.k:Int)-1-1)))=(VI ((x'.k:Int)-1))/\True)/\O13 fr/\us=us/\gn=gn/\rl=rl/\((Zp x.k rl).reverse++[rl.getD ((x.k:Int)-1).toNat 0])=((Zp x'.k rl).reverse)/\True)/\x'.k<x.k) ((∃ x1:XOr2 us fr,True/\(True/\True/\(VI (Za.wrap (Za.wrap fr+1)))=(VI (fr+1+(x1.n:Int)))/\True)/\O13 fr/\us=us/\gn=gn/\rl=rl/\((Zp x.k rl).reverse)=(rl.reverse++upTo fr x1.n)/\True)/\∀ x1:XOr2 us fr,True->1<=us.length/\us.length<=65537/\brS (decide (fr+1+(x1.n:Int)<=(us.length:Int)-1)) (((rl.reverse++upTo fr x1.n).length+[Ze.wrap (fr+1+(x1.n:Int))].length)*Yd C0 EC.u32<=140737488355328/\∃ x':XOr2 us fr,True/\((True/\True/\(VI (Za.wrap (fr+1+(x1.n:Int)+1)))=(VI (fr+1+(x'.n:Int)))/\True)/\O13 fr/\us=us/\gn=gn/\rl=rl/\(rl.reverse++upTo fr x1.n++[Ze.wrap (fr+1+(x1.n:Int))])=(rl.reverse++upTo fr x'.n)/\True)/\((us.length:Int)-1-fr).toNat-x'.n<((us.length:Int)-1-fr).toNat-x1.n) (K (.one (.at (.slc 4))) [(.box [(.slc 1),(.slc 2),(.slc 3),(.val (VU (fr)))]),(.row true .bool (us)),(.row true .u32 (gn)),(.row true .u32 (rl)),(.row true .u32 (rl.reverse++upTo fr x1.n))] [])))=_ by kernel_rfl) ?_
 delta O13;rw[Ys];rw[Yb (x:=(rl.length:Int)-1) (by omega) (by omega),Yb (x:=fr) (by omega) (by omega),Yb (x:=fr+1) (by omega) (by omega)];refine⟨h1,h2,h3,h4,by omega,by decide,by omega,by omega,⟨⟨rl.length,Zw _⟩,trivial,⟨trivial,trivial,rfl,trivial⟩,⟨trivial,trivial,trivial,rfl,trivial⟩,rfl,rfl,rfl,by simp,trivial⟩,fun x _=>Ya (fun c=>?_) fun c=>?_⟩
 .have c:1<=x.k:=by have:=Zc c;omega
  have hk:=x.h;have hg:rl[x.k-1]?=some (rl.getD (x.k-1) 0):=by simp[Zb,Zk (show x.k-1<rl.length by omega)]
  rw[Yb (by omega) (by omega),show ((x.k:Int)-1).toNat=x.k-1 by omega];refine⟨by omega,by omega,?_,⟨x.k-1,by omega⟩,trivial,⟨⟨trivial,trivial,?_,trivial⟩,⟨trivial,trivial,trivial,rfl,trivial⟩,rfl,rfl,rfl,?_,trivial⟩,?_⟩
  .simp;omega
  .congr 1;show (x.k:Int)-1-1=((x.k-1:Nat):Int)-1;omega
  .show _=(rl.drop (x.k-1)).reverse;rw[YaU hg,ZcL,show x.k-1+1=x.k by omega]
  .show x.k-1<x.k;omega
 .have c:x.k=0:=by have:=Zg c;omega
  refine⟨⟨⟨0,ZC _⟩,trivial,⟨trivial,trivial,by congr 1;show fr+1=fr+1+((0:Nat):Int);omega,trivial⟩,⟨trivial,trivial,trivial,rfl,trivial⟩,rfl,rfl,rfl,by rw[c];simp[upTo],trivial⟩,fun y _=>⟨h1,h2,Ya (fun d=>?_) fun d=>?_⟩⟩
  .have d:fr+1+(y.n:Int)<=us.length-1:=Zc d;have hul:(upTo fr y.n).length=y.n:=by simp[upTo]
   rw[Yz (by omega) (by omega),Yb (by omega) (by omega)];refine⟨?_,⟨y.n+1,by omega⟩,trivial,⟨⟨trivial,trivial,?_,trivial⟩,⟨trivial,trivial,trivial,rfl,trivial⟩,rfl,rfl,rfl,?_,trivial⟩,?_⟩
   .simp[hul];omega
   .congr 1;show fr+1+(y.n:Int)+1=fr+1+((y.n+1:Nat):Int);omega
   .show _=rl.reverse++upTo fr (y.n+1);rw[<-Yif,Zo]
   .show _-(y.n+1)<_;omega
  .have d:¬ fr+1+(y.n:Int)<=us.length-1:=Zg d;have hn:y.n=((us.length:Int)-1-fr).toNat:=by have:=y.h;omega
   exact h _ (by unfold YbD;rw[hn])
theorem Ysg:Tb C0 58 YmZ:=by
 refine .of Tryz.func58 (by decide) rfl fun args H K h hB=>?_
 unfold YmZ at h;split at h<;>try exact h.elim
 unfold slM at h;split at h<;>try exact h.elim
 rename_i fr us gn rl;obtain⟨h1,h2,h3,h4,h5,h6⟩:=h;exact⟨YqU us gn rl fr,⟨Ye C0.ok Ygz _,Ye C0.ok Yjp _,trivial⟩,Ypq us gn rl fr K h1 h2 h3 h4 h5 h6⟩
theorem Yna (S:Arn):List.replicate (ncap S) Tc.zero=YaV S 0:=by simp[YaV]
theorem YgB (S:Arn)(i:Nat)(h:i<=ncap S):(YaV S i).length=ncap S:=by simp[YaV];omega
theorem Ynb (S:Arn){i:Nat}(h:i<ncap S):(YaV S i).set i (YeJ S i)=YaV S (i+1):=by
 unfold YaV;obtain⟨m,hm⟩:∃ m,ncap S-i=m+1:=⟨ncap S-i-1,by omega⟩
 rw[hm,show ncap S-(i+1)=m by omega,List.range_succ,ZX,List.replicate_succ,List.set_append_right _ _ (by simp)];simp
theorem Ypr (S:Arn):YaV S (ncap S)=Yg S:=by simp[YaV,Yg]
theorem Ysh (S:Arn)(K:KT)(hw:exW S)(h:∀ (d:LS) (o:LI),d=Yg S->o=Yi S->K (.one (.agg [.slc 7,.slc 8])) (chS S++[.row true .slot d,.row true .u32 o]) []) :
  vc C0 (YuC S) Tryz.f17 [.at (.ptr 0 0)] (chS S) (Yh 7 K):=by
 refine Eq.mp (show (((exW S/\O10 S ((O9 S/\O9 S)/\O9 S)/\O11 S/\O10 S (O9 S)/\O8 S)/\((exW S/\O11 S)/\exW S/\O8 S)/\(exW S/\O10 S (O9 S)/\O8 S)/\exW S/\O8 S)/\∀ x:Unit,True->(∃ x1:XDu S,True/\O15 S (VI 0=(VI (x1.i:Int))/\True)/\O12 S (YaV S 0=YaV S x1.i/\O14 S))/\∀ x1:XDu S,True->brS (decide ((x1.i:Int)<(↑(YaV S 0).length:Int))) (0<=Ze.wrap (Za.wrap ((x1.i:Int)+1))/\Ze.wrap (Za.wrap ((x1.i:Int)+1))<(S.nodes.length:Int)/\0<=Ze.wrap (Za.wrap ((x1.i:Int)+1))/\Ze.wrap (Za.wrap ((x1.i:Int)+1))<4294967296/\S.used.length<=65537/\inU (Ze.wrap (Za.wrap ((x1.i:Int)+1)))/\exW S/\inU (Ze.wrap (Za.wrap ((x1.i:Int)+1)))/\exW S/\0<=(x1.i:Int)/\(x1.i:Int)<(↑(YaV S x1.i).length:Int)/\∃ x':XDu S,True/\(O15 S ((VI (Za.wrap ((x1.i:Int)+1)))=(VI (x'.i:Int))/\True)/\O12 S (((YaV S x1.i).set (x1.i:Int).toNat { alloc:=S.us (Ze.wrap (Za.wrap ((x1.i:Int)+1))),count:=if S.us (Ze.wrap (Za.wrap ((x1.i:Int)+1)))=true then S.ct (Ze.wrap (Za.wrap ((x1.i:Int)+1))) else 0,gen:=S.gn (Ze.wrap (Za.wrap ((x1.i:Int)+1))),node:=S.nd (Ze.wrap (Za.wrap ((x1.i:Int)+1))):Tc })=YaV S x'.i/\O14 S))/\ncap S-x'.i<ncap S-x1.i) (K (.one (TV.agg [(.slc 7),(.slc 8)])) [(.box [(.ptr 1 0),(.slc 2),(.slc 3),(.val (VW (S.reads)))]),(.box [(.slc 4),(.slc 5),(.slc 6),(.val (VU (S.fresh)))]),(.row true .node (S.nodes)),(.row true .int (S.counts)),(.row true .bool (S.used)),(.row true .u32 (S.gen)),(.row true .u32 (S.rel)),(.row true .slot (YaV S x1.i)),(.row true .u32 (Yi S))] []))=_ by kernel_rfl) ?_
 delta O7 O8 O9 O10 O11 O12 O14 O15;rw[YfK];have hw0:=hw;obtain⟨hs,hw⟩:=hw;have hn1:=hw.n1;have hn2:=hw.n2;have hnn:=hw.nnod;have hfr:=hw.fr;have hfree:=hw.free_nonneg;have hcap:S.cap=(ncap S:Int):=by unfold Arn.cap ncap;omega
 have hc1:(ncap S:Int)+1=S.used.length:=by unfold ncap;omega
 have z1:List.replicate S.cap.toNat Tc.zero=YaV S 0:=by rw[hcap,<-Yna];rfl
 refine⟨?_,fun x _=>⟨⟨⟨0,ZC _⟩,?_⟩,fun y _=>Ya (fun c=>?_) fun c=>?_⟩⟩
 ·(repeat' first|exact trivial|exact hw0|exact z1|assumption|exact rfl|omega|refine And.intro ?_ ?_|refine fun o ho=>?_|refine⟨(),?_⟩)
 ·repeat' constructor
 .rw[YgB S 0 (ZC _)] at c;have c:y.i<ncap S:=by have:=Zc c;omega
  rw[Yb (x:=(y.i:Int)+1) (by omega) (by omega),Yz (by omega) (by omega)];refine⟨by omega,by omega,by omega,by omega,hn2,⟨by omega,by omega⟩,hw0,⟨by omega,by omega⟩,hw0,by omega,by rw[YgB S y.i y.h];omega,⟨y.i+1,c⟩,trivial,⟨⟨trivial,trivial,trivial,rfl,by congr 1,trivial⟩,⟨trivial,trivial,trivial,rfl,trivial⟩,⟨trivial,trivial,trivial,rfl,trivial⟩,rfl,rfl,rfl,rfl,rfl,⟨trivial,trivial,trivial⟩,Ynb S c,rfl,⟨trivial,trivial,trivial⟩,rfl,rfl,trivial⟩,?_⟩;show ncap S-(y.i+1)<_;omega
 .rw[YgB S 0 (ZC _)] at c;have c:y.i=ncap S:=by have:=Zg c;have:=y.h;omega
  exact h _ _ (by rw[c,Ypr]) rfl
theorem YqV:Tb C0 17 Ypp:=by
 refine .of Tryz.func17 (by decide) rfl fun args H K h hB=>?_
 unfold Ypp at h;split at h<;>try exact h.elim
 unfold arM at h;split at h<;>try exact h.elim
 rename_i rd fr nd ct us gn rl;exact⟨YuC ⟨us,gn,rl,fr,nd,ct,rd⟩,⟨Ye C0.ok Yxn _,Ye C0.ok Ysg _,Ye C0.ok YM _,Ye C0.ok Yse _,Ye C0.ok Yxo _,trivial⟩,Ysh ⟨us,gn,rl,fr,nd,ct,rd⟩ K h.1 h.2⟩
structure XMk (S:Arn) (k v l r:Int) where
 i:Nat
 n:Td
 h:n=if i=0 then addC S ⟨k,v,l,r,1,v,v,v⟩ l else Yk S k v l r
abbrev bxN (n:Td):Ta C0:=.box [vI n.key,vI n.value,vU n.left,vU n.right,vI n.size,vI n.sum,vI n.min,vI n.max]
def YuD (S:Arn)(k v l r:Int):Ann C0:={ rounds:=fun n=>if n=3 then 3 else 0,Γ:=[(59,Yc [] Yaf),(80,Yc [] Ygy)],inv:=fun n=>match n with
 | 1013=>some { X:=XMk S k v l r,sl:=[12],tf:=fun _=>[.one (.at (.ptr 7 0))],hf:=fun x=>chS S++[bxN x.n],rel:=fun T _ x=>YaM T 29 x.i }
 | _=>none }
def Ysi:Tfm C0:=fun args H K=>match args with
 | [.at (.ptr 0 0),.at (.val (.int .i64 k)),.at (.val (.int .i64 v)),.at (.val (.int .u32 l)),.at (.val (.int .u32 r))]=>arM H fun S=>exW S/\live S l/\live S r ∧
  (Ym<(Yk S k v l r).size->K (.tup [.at (vU 0),.at (vI 1)]) (chS S) W7) ∧
  ((Yk S k v l r).size<=Ym->S.free=0->K (.tup [.at (vU 0),.at (vI 2)]) (chS S) W7) ∧
  ((Yk S k v l r).size<=Ym->0<S.free->∀ S' i,S'=Yt S k v l r->i=nxt S->K (.tup [.at (vU i),.at (vI 0)]) (chS S') W7)
 | _=>False
structure XRel (S:Arn) (hs:LI) (i:Int) where
 S':Arn
 work:LI
 freed:Int
 h:Wf S' (work++hs)/\Kept S S'/\0<=freed/\freed+S'.nu=S.nu/\(∀ w∈work,S'.us w=true)/\(1<S.ct i->(work=[i]/\S'=S)∨(work=[]/\S'=decS S i))
structure XRelK (S:Arn) (hs:LI) (i:Int) where
 S':Arn
 rest:LI
 k:Int
 freed:Int
 h:Wf S' ((rest++[k])++hs)/\Kept S S'/\0<=freed/\freed+S'.nu=S.nu/\(∀ w∈rest++[k],S'.us w=true)/\(1<S.ct i->rest=[]/\k=i/\S'=S)
def Ykj (S:Arn)(hs:LI)(i:Int):Ann C0:={ trunc:=fun n=>n==34,Γ:=[(59,Yc [] Yaf),(74,Yc [] YdE)],inv:=fun n=>match n with
 | 7=>some { X:=XRel S hs i,sl:=[7,6],tf:=fun x=>[.one (.at (.slc 7)),vi .i64 x.freed],hf:=fun x=>chS x.S'++[.row true .u32 x.work],μ:=fun x=>2*x.S'.nu+x.work.length,wr:=W7 }
 | 1010=>some { X:=XRelK S hs i,sl:=[7,8],tf:=fun x=>[.one (.at (.slc 7)),vi .u32 x.k],hf:=fun x=>chS x.S'++[.row true .u32 x.rest],wr:=W7,rel:=fun T _ x=>YaM T 6 x.freed/\YaM T 22 (x.rest.length+1) }
 | _=>none }
def Ydd:Tfm C0:=fun args H K=>match args with
 | [.at (.ptr 0 0),.at (.val (.int .u32 i))]=>arM H fun S=>∃ hs,Wf S (i::hs)/\∀ S' (fr:Int),Wf S' hs->Kept S S'->fr+S'.nu=S.nu->(1<S.ct i->S.us i=true->S'=decS S i)->(S.us i=false->S'=S)->K (.tup [.at (vI fr),.at (vI 0)]) (chS S') W7
 | _=>False
theorem Yig {α:Type}{l:List α}{d:α}(h:0<l.length):l.take (l.length-1)++[l.getD (l.length-1) d]=l:=by
 have h1:l[l.length-1]?=some (l.getD (l.length-1) d):=by
  have:l.length-1<l.length:=by omega
  simp[Zb,Zk this]
 rw[<-YeI h1,show l.length-1+1=l.length by omega,ZJ]
theorem XRelK.freed' {S:Arn}{hs:LI}{i:Int}(x:XRelK S hs i)(hc:x.S'.ct x.k=1) :
  Wf (Yae x.S' x.k) ((x.rest++nz (x.S'.nd x.k).right++nz (x.S'.nd x.k).left)++hs)/\Kept S (Yae x.S' x.k)/\0<=x.freed+1/\(x.freed+1)+(Yae x.S' x.k).nu=S.nu ∧
  (∀ w∈x.rest++nz (x.S'.nd x.k).right++nz (x.S'.nd x.k).left,(Yae x.S' x.k).us w=true)/\(1<S.ct i->((x.rest++nz (x.S'.nd x.k).right++nz (x.S'.nd x.k).left)=[i]/\Yae x.S' x.k=S)∨((x.rest++nz (x.S'.nd x.k).right++nz (x.S'.nd x.k).left)=[]/\Yae x.S' x.k=decS S i)):=by
 obtain⟨h1,h2,h3,h4,h5,h6⟩:=x.h;have hk:x.S'.us x.k=true:=h5 _ (by simp)
 have hw:Wf x.S' (x.k::(x.rest++hs)):=h1.perm (by
  rw[Zo];exact Zcn)
 obtain⟨f1,f2,f3,f4⟩:=hw.freed hk hc
 have f1':Wf (Yae x.S' x.k) ((x.rest++nz (x.S'.nd x.k).right++nz (x.S'.nd x.k).left)++hs):=f1.perm (by
  rw[Zo,Zo];exact ((List.perm_append_comm_assoc _ _ _).append_left _).trans (List.perm_append_comm_assoc _ _ _))
 refine⟨f1',h2.trans (YmH hw hk hc),by omega,by omega,fun w hm=>?_,fun hc1=>?_⟩
 .refine (f1'.held w (ZZ _ hm)).resolve_left fun e=>?_
  subst e;rcases Zx.1 hm with hm|hm
  .rcases Zx.1 hm with hm|hm
   .have:=h5 0 (by simp[hm]);rw[h1.us0 (ZE 0)] at this;cases this
   .unfold nz at hm;split at hm<;>simp at hm;omega
  .unfold nz at hm;split at hm<;>simp at hm;omega
 .obtain⟨_,e2,e3⟩:=h6 hc1;rw[e2,e3] at hc;omega
abbrev O16 {S:Arn}{hs:LI}{i:Int}(x:XRel S hs i)(x1:XRelK S hs i)(x':XRel S hs i)(Z_:Prop):Prop:=(True/\(VI (Za.wrap (x.freed+1)))=(VI (x'.freed))/\True/\True)/\(True/\True/\True/\VW (x1.S'.reads)=VW (x'.S'.reads)/\True)/\(True/\True/\True/\VU (x1.S'.fresh)=VU (x'.S'.fresh)/\True)/\x1.S'.nodes.set x1.k.toNat Td.zero=x'.S'.nodes/\(x1.S'.counts.set x1.k.toNat (Za.wrap (x1.S'.ct x1.k-1)))=x'.S'.counts/\x1.S'.used.set x1.k.toNat false=x'.S'.used/\x1.S'.gen=x'.S'.gen/\(x1.S'.rel++[x1.k])=x'.S'.rel/\Z_
abbrev O17 (S:Arn)(K:SV → LH C0 → LN → Prop):Prop:=K (.tup [(.at (.val (VU 0))),(.at (.val (VI 1)))]) [(.box [(.ptr 1 0),(.slc 2),(.slc 3),(.val (VW (S.reads)))]),(.box [(.slc 4),(.slc 5),(.slc 6),(.val (VU (S.fresh)))]),(.row true .node (S.nodes)),(.row true .int (S.counts)),(.row true .bool (S.used)),(.row true .u32 (S.gen)),(.row true .u32 (S.rel))] [0,1,2,3,4,5,6]
abbrev O18 (S:Arn)(Z_:Prop):Prop:=(True/\True/\True/\VW (S.reads)=VW (S.reads)/\True)/\(True/\True/\True/\VU (S.fresh)=VU (S.fresh)/\True)/\S.nodes=S.nodes/\S.counts=S.counts/\S.used=S.used/\S.gen=S.gen/\S.rel=S.rel/\Z_
abbrev O19 (l r:Int)(Z_:Prop):Prop:=True/\VU (l)=VU (l)/\VU (r)=VU (r)/\True/\Z_
abbrev O20 {S:Arn}{hs:LI}{i:Int}(x x':XRel S hs i):Prop:=2*x'.S'.nu+x'.work.length<2*x.S'.nu+x.work.length
theorem YlG (S:Arn)(hs:LI)(i:Int)(K:KT)(hw:Wf S (i::hs))(h:∀ S' (fr:Int),Wf S' hs->Kept S S'->fr+S'.nu=S.nu->(1<S.ct i->S.us i=true->S'=decS S i)->(S.us i=false->S'=S)->K (.tup [.at (vI fr),.at (vI 0)]) (chS S') W7) :
  vc C0 (Ykj S hs i) Tryz.f26 [.at (.ptr 0 0),.at (vU i)] (chS S) (Yh 7 (YG W7 K)):=by
 refine Eq.mp (show (brS (i==0) (K (.tup [(.at (.val (VI 0))),(.at (.val (VI 0)))]) [(.box [(.ptr 1 0),(.slc 2),(.slc 3),(.val (VW (S.reads)))]),(.box [(.slc 4),(.slc 5),(.slc 6),(.val (VU (S.fresh)))]),(.row true .node (S.nodes)),(.row true .int (S.counts)),(.row true .bool (S.used)),(.row true .u32 (S.gen)),(.row true .u32 (S.rel))] [0,1,2,3,4,5,6]) (0<=i/\i<4294967296/\S.used.length<=65537/\brS (!S.us i) (K (.tup [(.at (.val (VI 0))),(.at (.val (VI 3)))]) [(.box [(.ptr 1 0),(.slc 2),(.slc 3),(.val (VW (S.reads)))]),(.box [(.slc 4),(.slc 5),(.slc 6),(.val (VU (S.fresh)))]),(.row true .node (S.nodes)),(.row true .int (S.counts)),(.row true .bool (S.used)),(.row true .u32 (S.gen)),(.row true .u32 (S.rel))] [0,1,2,3,4,5,6]) ((∃ x:XRel S hs i,True/\(True/\VI 0=(VI (x.freed))/\True/\True)/\(True/\True/\True/\VW (S.reads)=VW (x.S'.reads)/\True)/\(True/\True/\True/\VU (S.fresh)=VU (x.S'.fresh)/\True)/\S.nodes=x.S'.nodes/\S.counts=x.S'.counts/\S.used=x.S'.used/\S.gen=x.S'.gen/\S.rel=x.S'.rel/\[(i)]=x.work/\True)/\∀ x:XRel S hs i,True->brS (decide ((x.work.length:Int)>0)) (0<=Za.wrap ((x.work.length:Int)-1)/\Za.wrap ((x.work.length:Int)-1)<(x.work.length:Int)/\(0<=Za.wrap ((x.work.length:Int)-1)/\Za.wrap ((x.work.length:Int)-1)<=(x.work.length:Int)/\∃ x1:XRelK S hs i,(x.freed=x1.freed/\((x.work.length:Int))=((x1.rest.length:Int)+1))/\(True/\VI (x.freed)=VI (x.freed)/\True/\(VU (x.work.getD (Za.wrap ((x.work.length:Int)-1)).toNat 0))=(VU (x1.k))/\
  True)/\(True/\True/\True/\VW (x.S'.reads)=VW (x1.S'.reads)/\True)/\(True/\True/\True/\VU (x.S'.fresh)=VU (x1.S'.fresh)/\True)/\x.S'.nodes=x1.S'.nodes/\x.S'.counts=x1.S'.counts/\x.S'.used=x1.S'.used/\x.S'.gen=x1.S'.gen/\x.S'.rel=x1.S'.rel/\(Zn (Za.wrap ((x.work.length:Int)-1)).toNat x.work)=x1.rest/\True)/\∀ x1:XRelK S hs i,x.freed=x1.freed/\((x.work.length:Int))=((x1.rest.length:Int)+1)->0<=x1.k/\x1.k<(x1.S'.counts.length:Int)/\0<=x1.k/\x1.k<(x1.S'.counts.length:Int)/\0<=x1.k/\x1.k<(↑(x1.S'.counts.set x1.k.toNat (Za.wrap (x1.S'.ct x1.k-1))).length:Int)/\brS (decide ((x1.S'.counts.set x1.k.toNat (Za.wrap (x1.S'.ct x1.k-1))).getD x1.k.toNat 0>0)) (∃ x':XRel S hs i,True/\((True/\VI (x.freed)=VI (x'.freed)/\True/\True)/\(True/\True/\True/\VW (x1.S'.reads)=VW (x'.S'.reads)/\True)/\(True/\True/\True/\VU (x1.S'.fresh)=VU (x'.S'.fresh)/\True)/\x1.S'.nodes=x'.S'.nodes/\(x1.S'.counts.set x1.k.toNat (Za.wrap (x1.S'.ct x1.k-1)))=x'.S'.counts/\x1.S'.used=x'.S'.used/\x1.S'.gen=x'.S'.gen/\x1.S'.rel=x'.S'.rel/\x1.rest=x'.work/\True)/\O20 x x') (0<=x1.k/\x1.k<(x1.S'.nodes.length:Int)/\0<=x1.k/\x1.k<(x1.S'.nodes.length:Int)/\0<=x1.k/\x1.k<4294967296/\x1.S'.used.length<=65537/\x1.S'.rel.length<=65537/\x1.S'.us x1.k=true/\brS ((x1.S'.nd x1.k).right != 0) ((x1.rest.length+[(x1.S'.nd x1.k).right].length)*Yd C0 EC.u32<=140737488355328/\brS ((x1.S'.nd x1.k).left != 0) (((x1.rest++[(x1.S'.nd x1.k).right]).length+[(x1.S'.nd x1.k).left].length)*Yd C0 EC.u32<=140737488355328/\
  ∃ x':XRel S hs i,True/\O16 x x1 x' ((x1.rest++[(x1.S'.nd x1.k).right]++[(x1.S'.nd x1.k).left])=x'.work/\True)/\O20 x x') (∃ x':XRel S hs i,True/\O16 x x1 x' ((x1.rest++[(x1.S'.nd x1.k).right])=x'.work/\True)/\O20 x x')) (brS ((x1.S'.nd x1.k).left != 0) ((x1.rest.length+[(x1.S'.nd x1.k).left].length)*Yd C0 EC.u32<=140737488355328/\∃ x':XRel S hs i,True/\O16 x x1 x' ((x1.rest++[(x1.S'.nd x1.k).left])=x'.work/\True)/\O20 x x') (∃ x':XRel S hs i,True/\O16 x x1 x' (x1.rest=x'.work/\True)/\O20 x x')))) (K (.tup [(.at (.val (VI (x.freed)))),(.at (.val (VI 0)))]) [(.box [(.ptr 1 0),(.slc 2),(.slc 3),(.val (VW (x.S'.reads)))]),(.box [(.slc 4),(.slc 5),(.slc 6),(.val (VU (x.S'.fresh)))]),(.row true .node (x.S'.nodes)),(.row true .int (x.S'.counts)),(.row true .bool (x.S'.used)),(.row true .u32 (x.S'.gen)),(.row true .u32 (x.S'.rel))] [0,1,2,3,4,5,6]))))=_ by kernel_rfl) ?_
 delta O16 O20;simp only[Ys];have hin:=hw.held i (by simp);have hge:=hw.ge0 hin;have h2:=hw.n2;refine Ya (fun c=>?_) fun c=>?_
 .have c:i=0:=by simpa using c
  subst c;exact h S 0 hw.of_zero (Kept.refl S) (by omega) (fun _ e=>by rw[hw.us0 (ZE 0)] at e;cases e) fun _=>rfl
 have c:i≠0:=by simpa using c
 have hu:=hin.resolve_left c;have hp:=hw.pos hu;refine⟨hge,by omega,by omega,Ya (fun d=>by rw[hu] at d;cases d) fun _=>⟨⟨⟨S,[i],0,hw,Kept.refl S,by omega,by omega,by simpa using hu,fun _=>.inl ⟨rfl,rfl⟩⟩,?_⟩,fun x _=>Ya (fun e=>?_) fun e=>?_⟩⟩
 ·repeat' constructor
 .obtain⟨g1,g2,g3,g4,g5,g6⟩:=x.h;have e:0<x.work.length:=by have:=Zc e;omega
  have hl:=Yig (d:=(0:Int)) e;have hn1:=g1.n2;have hfew:=g1.few;have hfl:x.work.length<=2000000000:=by simp at hfew;omega
  rw[Yb (by omega) (by omega),show ((x.work.length:Int)-1).toNat=x.work.length-1 by omega];refine⟨by omega,by omega,⟨by omega,by omega,⟨x.S',x.work.take (x.work.length-1),x.work.getD (x.work.length-1) 0,x.freed,?_⟩,?_⟩,fun z rz=>?_⟩
  .rw[hl];refine⟨g1,g2,g3,g4,g5,fun hc=>?_⟩;rcases g6 hc with ⟨q1,q2⟩|⟨q1,_⟩
   .rw[q1];exact⟨rfl,rfl,q2⟩
   .rw[q1] at e;simp at e
  .refine⟨⟨rfl,?_⟩,?_⟩
   .have:(x.work.take (x.work.length-1)).length=x.work.length-1:=by simp
    show (x.work.length:Int)=((x.work.take (x.work.length-1)).length:Int)+1;omega
   ·repeat' constructor
  .obtain⟨r1,r2⟩:=rz;obtain⟨h1,h2,h3,h4,h5,h6⟩:=z.h;have hk:z.S'.us z.k=true:=h5 _ (by simp);have hpk:=h1.pos hk;have hcn:=h1.ncnt;have hnn:=h1.nnod;have hn2:=h1.n2;have hfn:=h1.free_nonneg;have hfrr:=h1.fr;have hct:=h1.ct_le hk;have hw':Wf z.S' (z.k::(z.rest++hs)):=h1.perm (by rw[Zo];exact Zcn);refine⟨by omega,by omega,by omega,by omega,by omega,by rw[ZaB];omega,?_⟩;rw[YQ,Zj ⟨rfl,by omega⟩,Yb (by omega) (by omega)];refine Ya (fun d=>?_) fun d=>?_
   .have d:1<z.S'.ct z.k:=by simp at d;omega
    refine⟨⟨decS z.S' z.k,z.rest,z.freed,hw'.dec hk d,h2.trans (Ypg _ _),h3,h4,fun w hm=>h5 w (by simp[hm]),fun hc=>?_⟩,?_⟩
    .obtain⟨q1,q2,q3⟩:=h6 hc;exact .inr ⟨q1,by rw[q2,q3]⟩
    .have e1:(decS z.S' z.k).nu=z.S'.nu:=rfl
     have e2:(z.S'.counts.set z.k.toNat (z.S'.ct z.k-1))=(decS z.S' z.k).counts:=by
      show _=z.S'.counts.set z.k.toNat (Za.wrap (z.S'.ct z.k-1));rw[Yb (by omega) (by omega)]
     refine⟨trivial,⟨⟨trivial,by rw[r1],trivial,trivial⟩,⟨trivial,trivial,trivial,rfl,trivial⟩,⟨trivial,trivial,trivial,rfl,trivial⟩,rfl,e2,rfl,rfl,rfl,rfl,trivial⟩,?_⟩;show 2*(decS z.S' z.k).nu+z.rest.length<_;omega
   .have d:z.S'.ct z.k=1:=by simp at d;omega
    obtain⟨k1,k2,k3,k4,k5,k6⟩:=z.freed' d;have hm:=(hw'.freed hk d).2.1
    have e2:(z.S'.counts.set z.k.toNat (z.S'.ct z.k-1))=(Yae z.S' z.k).counts:=by
     show _=z.S'.counts.set z.k.toNat (Za.wrap (z.S'.ct z.k-1));rw[Yb (by omega) (by omega)]
    have hwf:Za.wrap (x.freed+1)=z.freed+1:=by
     have:=h1.nu_le;have:=hw.nu_le;rw[Yb (by omega) (by omega),r1]
    have nl:∀ c,(nz c).length<=1:=fun c=>by unfold nz;split<;>simp
    rw[hwf];refine⟨by omega,by omega,by omega,by omega,by omega,by omega,by omega,by omega,hk,Ya (fun q1=>⟨by simp;omega,Ya (fun q2=>⟨by simp;omega,⟨⟨Yae z.S' z.k,_,z.freed+1,k1,k2,k3,k4,k5,k6⟩,?_⟩⟩) fun q2=>⟨⟨Yae z.S' z.k,_,z.freed+1,k1,k2,k3,k4,k5,k6⟩,?_⟩⟩) fun q1=>Ya (fun q2=>⟨by simp;omega,⟨⟨Yae z.S' z.k,_,z.freed+1,k1,k2,k3,k4,k5,k6⟩,?_⟩⟩) fun q2=>⟨⟨Yae z.S' z.k,_,z.freed+1,k1,k2,k3,k4,k5,k6⟩,?_⟩⟩
    all_goals
     refine⟨trivial,⟨⟨trivial,rfl,trivial,trivial⟩,⟨trivial,trivial,trivial,rfl,trivial⟩,⟨trivial,trivial,trivial,rfl,trivial⟩,rfl,e2,rfl,rfl,rfl,?_,trivial⟩,?_⟩
    all_goals (try simp at q1 q2)
    case refine_1.refine_1=>simp[nz,q1,q2]
    all_goals first
     | (show 2*(Yae z.S' z.k).nu+(z.rest++nz _++nz _).length<_;have:=nl (z.S'.nd z.k).left;have:=nl (z.S'.nd z.k).right;simp only[Zh];omega)
     | simp[nz,q1,q2]
 .have e:x.work=[]:=by have:=Zg e;exact Zaz.1 (by omega)
  obtain⟨g1,g2,g3,g4,g5,g6⟩:=x.h;rw[e] at g1;refine h x.S' x.freed g1 g2 g4 (fun hc _=>?_) fun hc=>by rw[hu] at hc;cases hc
  rcases g6 hc with ⟨q1,_⟩|⟨_,q2⟩
  .rw[e] at q1;cases q1
  .exact q2
theorem s_release:Tb C0 26 Ydd:=by
 refine .ofW W7 Tryz.func26 (by decide) rfl fun args H K h hB=>?_
 unfold Ydd at h;split at h<;>try exact h.elim
 unfold arM at h;split at h<;>try exact h.elim
 rename_i i _ rd fr nd ct us gn rl;obtain⟨hs,h1,h2⟩:=h;exact⟨Ykj ⟨us,gn,rl,fr,nd,ct,rd⟩ hs i,⟨Ye C0.ok YM _,Ye C0.ok Yjq _,trivial⟩,YlG ⟨us,gn,rl,fr,nd,ct,rd⟩ hs i K h1 h2⟩
theorem Ysj (S:Arn)(k v l r:Int)(K:KT)(hw:exW S)(hl:live S l)(hr:live S r)(h1:Ym<(Yk S k v l r).size->K (.tup [.at (vU 0),.at (vI 1)]) (chS S) W7)(h2:(Yk S k v l r).size<=Ym->S.free=0->K (.tup [.at (vU 0),.at (vI 2)]) (chS S) W7)(h3:(Yk S k v l r).size<=Ym->0<S.free->∀ S' i,S'=Yt S k v l r->i=nxt S->K (.tup [.at (vU i),.at (vI 0)]) (chS S') W7) :
  vc C0 (YuD S k v l r) Tryz.f32 [.at (.ptr 0 0),.at (vI k),.at (vI v),.at (vU l),.at (vU r)] (chS S) (Yh 7 (YG W7 K)):=by
 refine Eq.mp (show (((0:Int)<=0/\0<((2:Nat):Int)/\brS (l==0) (∃ x:XMk S k v l r,0=((x.i:Int))/\O19 l r ((VU (l)=VU (l)/\VU (r)=VU (r)/\True)/\VI 0=VI 0/\True)/\O18 S ((VI (k)=VI (x.n.key)/\VI (v)=VI (x.n.value)/\VU (l)=VU (x.n.left)/\VU (r)=VU (x.n.right)/\VI 1=(VI (x.n.size))/\VI (v)=VI (x.n.sum)/\VI (v)=VI (x.n.min)/\VI (v)=VI (x.n.max)/\True)/\True)) (0<=l/\l<4294967296/\S.used.length<=65537/\brS (!S.us l) (O17 S K) (0<=l/\l<(S.nodes.length:Int)/\∃ x:XMk S k v l r,0=((x.i:Int))/\O19 l r ((VU (l)=VU (l)/\VU (r)=VU (r)/\True)/\VI 0=VI 0/\True)/\O18 S ((VI (k)=VI (x.n.key)/\VI (v)=VI (x.n.value)/\VU (l)=VU (x.n.left)/\VU (r)=VU (x.n.right)/\(VI (Za.wrap (1+(S.nd l).size)))=(VI (x.n.size))/\(VI (Za.wrap (v+(S.nd l).sum)))=(VI (x.n.sum))/\(VI (if (S.nd l).min<v then (S.nd l).min else v))=(VI (x.n.min))/\(VI (if (S.nd l).max>v then (S.nd l).max else v))=(VI (x.n.max))/\True)/\True))))/\∀ x:XMk S k v l r,0=((x.i:Int))->(0<=Za.wrap (0+1)/\Za.wrap (0+1)<((2:Nat):Int)/\brS (r==0) (∃ x1:XMk S k v l r,1=((x1.i:Int))/\O19 l r ((VU (l)=VU (l)/\VU (r)=VU (r)/\True)/\VI 1=VI 1/\True)/\O18 S ((VI (x.n.key)=VI (x1.n.key)/\VI (x.n.value)=VI (x1.n.value)/\VU (x.n.left)=VU (x1.n.left)/\VU (x.n.right)=VU (x1.n.right)/\VI (x.n.size)=VI (x1.n.size)/\VI (x.n.sum)=VI (x1.n.sum)/\VI (x.n.min)=VI (x1.n.min)/\VI (x.n.max)=VI (x1.n.max)/\True)/\True)) (0<=r/\r<4294967296/\S.used.length<=65537/\brS (!S.us r) (O17 S K) (0<=r/\r<(S.nodes.length:Int)/\∃ x1:XMk S k v l r,1=((x1.i:Int))/\O19 l r ((VU (l)=VU (l)/\
  VU (r)=VU (r)/\True)/\VI 1=VI 1/\True)/\O18 S ((VI (x.n.key)=VI (x1.n.key)/\VI (x.n.value)=VI (x1.n.value)/\VU (x.n.left)=VU (x1.n.left)/\VU (x.n.right)=VU (x1.n.right)/\(VI (Za.wrap (x.n.size+(S.nd r).size)))=(VI (x1.n.size))/\(VI (Za.wrap (x.n.sum+(S.nd r).sum)))=(VI (x1.n.sum))/\(VI (if (S.nd r).min<x.n.min then (S.nd r).min else x.n.min))=(VI (x1.n.min))/\(VI (if (S.nd r).max>x.n.max then (S.nd r).max else x.n.max))=(VI (x1.n.max))/\True)/\True))))/\∀ x1:XMk S k v l r,1=((x1.i:Int))->brS (decide (x1.n.size>2147483647)) (O17 S K) (1<=S.used.length/\S.used.length<=65537/\S.rel.length<=65537/\0<=S.fresh/\S.fresh<=65537/\S.gen.length=S.used.length/\YrZ S.rel S.used.length/\0<=(S.rel.length:Int)+((S.used.length:Int)-1)-S.fresh/\(((S.rel.length:Int)+((S.used.length:Int)-1)-S.fresh)=0->K (.tup [(.at (.val (VU 0))),(.at (.val (VI 2)))]) [(.box [(.ptr 1 0),(.slc 2),(.slc 3),(.val (VW (S.reads)))]),(.box [(.slc 4),(.slc 5),(.slc 6),(.val (VU (S.fresh)))]),(.row true .node (S.nodes)),(.row true .int (S.counts)),(.row true .bool (S.used)),(.row true .u32 (S.gen)),(.row true .u32 (S.rel))] [0,1,2,3,4,5,6])/\(0<(S.rel.length:Int)+((S.used.length:Int)-1)-S.fresh->∀ i:Int,∀ rl':LI,∀ fr':Int,(Prod.mk (i) (Prod.mk (rl') (fr')))=Yda S.rel S.fresh->0<=i/\i<(S.nodes.length:Int)/\0<=i/\i<(S.counts.length:Int)/\0<=l/\l<(↑(S.counts.set i.toNat 1).length:Int)/\0<=l/\l<(↑(S.counts.set i.toNat 1).length:Int)/\0<=r/\r<(↑((S.counts.set i.toNat 1).set l.toNat (Za.wrap ((S.counts.set i.toNat 1).getD l.toNat 0+1))).length:Int)/\
  0<=r/\r<(↑((S.counts.set i.toNat 1).set l.toNat (Za.wrap ((S.counts.set i.toNat 1).getD l.toNat 0+1))).length:Int)/\K (.tup [(.at (.val (VU (i)))),(.at (.val (VI 0)))]) [(.box [(.ptr 1 0),(.slc 2),(.slc 3),(.val (VW (S.reads)))]),(.box [(.slc 4),(.slc 5),(.slc 6),(.val (VU (fr')))]),(.row true .node (S.nodes.set i.toNat { key:=x1.n.key,value:=x1.n.value,left:=x1.n.left,right:=x1.n.right,size:=x1.n.size,sum:=x1.n.sum,min:=x1.n.min,max:=x1.n.max:Td })),(.row true .int (((S.counts.set i.toNat 1).set l.toNat (Za.wrap ((S.counts.set i.toNat 1).getD l.toNat 0+1))).set r.toNat (Za.wrap (((S.counts.set i.toNat 1).set l.toNat (Za.wrap ((S.counts.set i.toNat 1).getD l.toNat 0+1))).getD r.toNat 0+1)))),(.row true .bool (S.used.set i.toNat true)),(.row true .u32 (S.gen.set i.toNat (Ze.wrap (S.gn i+1)))),(.row true .u32 (rl'))] [0,1,2,3,4,5,6])))=_ by kernel_rfl) ?_
 delta O17 O18 O19;obtain⟨hs,hw⟩:=hw;have hn1:=hw.n1;have hn2:=hw.n2;have hnn:=hw.nnod;have hng:=hw.ngen;have hnc:=hw.ncnt;have hfr:=hw.fr;have hfree:=hw.free_nonneg;have hl0:=hw.ge0 hl;have hr0:=hw.ge0 hr;have hl1:l<S.used.length:=by rcases hl with e|e;omega;have:=hw.pos e;omega
 have hr1:r<S.used.length:=by rcases hr with e|e;omega;have:=hw.pos e;omega
 refine⟨⟨by decide,by decide,Ya (fun c=>⟨⟨0,⟨k,v,l,r,1,v,v,v⟩,?_⟩,?_⟩) fun c=>⟨hl0,by omega,by omega,Ya (fun d=>?_) fun d=>⟨hl0,by omega,⟨⟨0,addK ⟨k,v,l,r,1,v,v,v⟩ (S.nd l),?_⟩,?_⟩⟩⟩⟩,
  fun x rx=>⟨⟨by decide,by decide,Ya (fun c=>⟨⟨1,x.n,?_⟩,?_⟩) fun c=>⟨hr0,by omega,by omega,Ya (fun d=>?_) fun d=>⟨hr0,by omega,⟨⟨1,addK x.n (S.nd r),?_⟩,?_⟩⟩⟩⟩,fun x1 r1=>?_⟩⟩
 .have c:l=0:=by simpa using c
  rw[Zj rfl];unfold addC;rw[Zj c]
 ·repeat' constructor
 .have c:l≠0:=by simpa using c
  have:=hl.resolve_left c;rw[this] at d;cases d
 .have c:l≠0:=by simpa using c
  rw[Zj rfl];unfold addC;rw[Zf c]
 ·repeat' constructor
 .have c:r=0:=by simpa using c
  have hx:=x.h;rw[Zj (by omega)] at hx;rw[Zf (by decide)];unfold Yk;rw[<-hx];unfold addC;rw[Zj c]
 ·repeat' constructor
 .have c:r≠0:=by simpa using c
  have:=hr.resolve_left c;rw[this] at d;cases d
 .have c:r≠0:=by simpa using c
  have hx:=x.h;rw[Zj (by omega)] at hx;rw[Zf (by decide)];unfold Yk;rw[<-hx];unfold addC;rw[Zf c]
 ·repeat' constructor
 .obtain⟨i1,n1,hx⟩:=x1;have r1:i1=1:=by have:(1:Int)=(i1:Int):=r1;omega
  subst r1;rw[Zf (by decide)] at hx;subst hx;refine Ya (fun c=>h1 (by have:(Yk S k v l r).size>2147483647:=Zc c;unfold Ym;omega)) fun c=>?_
  have c:(Yk S k v l r).size<=Ym:=by have:¬ (Yk S k v l r).size>2147483647:=Zg c;unfold Ym;omega
  refine⟨by omega,hn2,by omega,hfr.1,by omega,hng,fun i hi=>by have:=hw.rel i hi;omega,by have:=hfree.1;unfold Arn.free Arn.cap at this;omega,fun e=>h2 c (by unfold Arn.free Arn.cap;omega),fun e i rl' fr' he=>?_⟩;have e:0<S.free:=by unfold Arn.free Arn.cap;omega
  have h4:=h3 c e _ _ rfl rfl;obtain⟨b1,b2,_⟩:=hw.nxt_spec e;have e1:i=nxt S:=ZT Prod.fst he;have e2:rl'=(Yaq S).2.1:=ZT (fun p:Int × LI × Int=>p.2.1) he;have e3:fr'=(Yaq S).2.2:=ZT (fun p:Int × LI × Int=>p.2.2) he;subst e1 e2 e3;refine⟨by omega,by omega,by omega,by omega,hl0,?_,hl0,?_,hr0,?_,hr0,?_,h4⟩
  all_goals (simp only[ZaB];omega)
theorem s_make:Tb C0 32 Ysi:=by
 refine .ofW W7 Tryz.func32 (by decide) rfl fun args H K h hB=>?_
 unfold Ysi at h;split at h<;>try exact h.elim
 unfold arM at h;split at h<;>try exact h.elim
 rename_i k v l r _ rd fr nd ct us gn rl;obtain⟨h1,h2,h3,h4,h5,h6⟩:=h;exact⟨YuD ⟨us,gn,rl,fr,nd,ct,rd⟩ k v l r,⟨Ye C0.ok YM _,Ye C0.ok YmR _,trivial⟩,Ysj ⟨us,gn,rl,fr,nd,ct,rd⟩ k v l r K h1 h2 h3 h4 h5 h6⟩
def alcD (d:LS)(i:Int):Bool:=decide (1<=i) && (decide (i<=(d.length:Int)) && (d.getD (i-1).toNat Tc.zero).alloc)
def cntL (l:LI)(n:Nat):LI:=(List.range n).map fun (j:Nat)=>((l.count ((j:Int)+1):Nat):Int)
def Yu (d:LS):LI:=d.flatMap fun x=>if x.alloc=true then [x.node.left,x.node.right] else []
def allU (l:LI):Prop:=∀ x∈l,inU x
def Yde (d:LS):Prop:=∀ x∈d,inU x.node.left/\inU x.node.right
def mkd (m:List Bool)(i:Int):Prop:=1<=i/\m.getD (i-1).toNat false=true
def sltD (d:LS)(i:Int):Tc:=d.getD (i-1).toNat Tc.zero
abbrev eS (d:LS)(i:Nat):Tc:=d.getD i Tc.zero
structure MarksR (d:LS) (roots:LI) (m:List Bool):Prop where
 len:m.length=d.length
 root:∀ i∈roots,alcD d i=true->mkd m i
 left:∀ i,mkd m i->alcD d (sltD d i).node.left=true->mkd m (sltD d i).node.left
 right:∀ i,mkd m i->alcD d (sltD d i).node.right=true->mkd m (sltD d i).node.right
def szD (d:LS)(i:Int):Int:=if alcD d i=true then (sltD d i).node.size else 0
structure CleanD (d:LS) (fl roots:LI):Prop where
 free:∀ i<d.length,fl.count ((i:Int)+1)=if (d.getD i Tc.zero).alloc=true then 0 else 1
 left:∀ i<d.length,(d.getD i Tc.zero).alloc=true->(d.getD i Tc.zero).node.left=0∨alcD d (d.getD i Tc.zero).node.left=true
 right:∀ i<d.length,(d.getD i Tc.zero).alloc=true->(d.getD i Tc.zero).node.right=0∨alcD d (d.getD i Tc.zero).node.right=true
 size:∀ i<d.length,(d.getD i Tc.zero).alloc=true->(d.getD i Tc.zero).node.size=1+szD d (d.getD i Tc.zero).node.left+szD d (d.getD i Tc.zero).node.right
 zr:∀ i<d.length,0<=(d.getD i Tc.zero).node.size/\(d.getD i Tc.zero).node.size<=4294967296
 count:∀ i<d.length,(d.getD i Tc.zero).count=if (d.getD i Tc.zero).alloc=true then ((Yu d).count ((i:Int)+1):Int)+(roots.count ((i:Int)+1):Int) else 0
 mark:∀ m,MarksR d roots m->∀ i<d.length,(d.getD i Tc.zero).alloc=true->m.getD i false=true
 rng:∀ x∈fl,1<=x/\x<=d.length
 held:∀ x∈roots,x=0∨alcD d x=true
def tAlc:Tfm C0:=fun args H K=>match args,H with
 | [.agg [.slc 0,.slc 1],.at (.val (.int .u32 i))],[.row false .slot d,.row false .u32 fl]=>inU i/\d.length<=1000000/\K (.one (.at (vB (alcD d i)))) [.row false .slot d,.row false .u32 fl] []
 | _,_=>False
def Ync:Tfm C0:=fun args H K=>match args,H with
 | [.agg [.val (.bool _),.val (.int .i64 _),.val (.int .u32 _),.val (.int .i64 _),.val (.int .i64 _),.val (.int .u32 l),.val (.int .u32 r),.val (.int .i64 _),.val (.int .i64 _),.val (.int .i64 _),.val (.int .i64 _)]],[]=>K (.one (.agg [vU l,vU r])) [] []
 | _,_=>False
structure XIx (n:Nat) where
 i:Nat
 h:i<=n
structure XIn (d:LS) where
 i:Nat
 h:i<d.length
def aInE (d:LS)(fl:LI):Ann C0:={ Γ:=[(138,Yc [] Ync)],rounds:=fun n=>if n=7 then 3 else 0,inv:=fun n=>match n with
 | 3=>some { X:=XIx d.length,sl:=[4,1,3],tf:=fun x=>[vi .i64 x.i,.one (.at (.ptr 2 0)),.one (.at (.slc 3))],hf:=fun x=>[.row false .slot d,.row false .u32 fl,.box [.slc 0,.slc 1],.row true .int (cntL (Yu (d.take x.i)) d.length)],μ:=fun x=>d.length-x.i }
 | 1004=>some { X:=XIn d,sl:=[4,1,3],tf:=fun x=>[vi .i64 x.i,.one (.at (.ptr 2 0)),.one (.at (.slc 3))],hf:=fun x=>[.row false .slot d,.row false .u32 fl,.box [.slc 0,.slc 1],.row true .int (cntL (Yu (d.take (x.i+1))) d.length)],rel:=fun T _ z=>YaM T 4 z.i }
 | _=>none }
def tInE:Tfm C0:=fun args H K=>match args,H with
 | [.agg [.slc 0,.slc 1]],[.row false .slot d,.row false .u32 fl]=>d.length<=100000/\Yde d/\∀ o,o=cntL (Yu d) d.length->K (.one (.at (.slc 2))) [.row false .slot d,.row false .u32 fl,.row true .int o] []
 | _,_=>False
def aCnt (l:LI)(n:Int):Ann C0:={ Γ:=[],inv:=fun k=>match k with
 | 3=>some { X:=XIx l.length,sl:=[6,5],tf:=fun x=>[vi .i64 x.i,.one (.at (.slc 1))],hf:=fun x=>[.row false .u32 l,.row true .int (cntL (l.take x.i) n.toNat)],μ:=fun x=>l.length-x.i }
 | _=>none }
def tCnt:Tfm C0:=fun args H K=>match args,H with
 | [.at (.slc 0),.at (.val (.int .i64 n))],[.row false .u32 l]=>0<=n/\n<=100000/\l.length<=1000000/\allU l/\∀ o,o=cntL l n.toNat->K (.one (.at (.slc 1))) [.row false .u32 l,.row true .int o] []
 | _,_=>False
structure XMks (P:List Bool->LI->Prop) where
 m:List Bool
 w:LI
 h:P m w
def aMk (P:List Bool->LI->Prop)(d:LS)(fl roots:LI):Ann C0:={ Γ:=[(108,Yc [] tAlc),(138,Yc [] Ync)],trunc:=fun n=>n=28,inv:=fun k=>match k with
 | 3=>some { X:=XMks P,sl:=[2,5,6],tf:=fun _=>[.one (.at (.ptr 3 0)),.one (.at (.slc 4)),.one (.at (.slc 5))],hf:=fun x=>[.row false .slot d,.row false .u32 fl,.row false .u32 roots,.box [.slc 0,.slc 1],.row true .bool x.m,.row true .u32 x.w],μ:=fun x=>x.w.length+3*x.m.count false }
 | _=>none }
def tMk:Tfm C0:=fun args H K=>match args,H with
 | [.agg [.slc 0,.slc 1],.at (.slc 2)],[.row false .slot d,.row false .u32 fl,.row false .u32 roots]=>d.length<=100000/\roots.length<=1000000/\Yde d/\allU roots/\∀ m,MarksR d roots m->K (.one (.at (.slc 3))) [.row false .slot d,.row false .u32 fl,.row false .u32 roots,.row true .bool m] []
 | _,_=>False
theorem YeK {d:LS}{i:Int}(h1:1<=i)(h2:i<=(d.length:Int)):alcD d i=(d.getD (i-1).toNat Tc.zero).alloc:=by simp[alcD,h1,h2]
theorem YdF {d:LS}{i:Int}(h:¬ 1<=i):alcD d i=false:=by simp[alcD,h]
theorem Ynd {d:LS}{i:Int}(h:¬ i<=(d.length:Int)):alcD d i=false:=by simp[alcD,h]
theorem Yw {d:LS}{i:Int}(h:alcD d i=true):1<=i/\i<=(d.length:Int):=by simp[alcD] at h;exact⟨h.1,h.2.1⟩
theorem YuE (d:LS)(fl:LI)(i:Int)(K:KT)(h1:inU i)(h2:d.length<=1000000)(h:K (.one (.at (vB (alcD d i)))) [.row false .slot d,.row false .u32 fl] []) :
  vc C0 A0 Tryz.f108 [.agg [.slc 0,.slc 1],.at (vU i)] [.row false .slot d,.row false .u32 fl] (Yh 2 K):=by
 refine Eq.mp (show (brS (decide (i≥1)) (brS (decide (Zd.wrap i<=Zd.wrap (d.length:Int))) (0<=Ze.wrap (i-1)/\Ze.wrap (i-1)<(d.length:Int)/\K (.one (.at (.val (Zi ((d.getD (Ze.wrap (i-1)).toNat Tc.zero).alloc))))) [(.row false .slot (d)),(.row false .u32 (fl))] []) (K (.one (.at (.val (Zi false)))) [(.row false .slot (d)),(.row false .u32 (fl))] [])) (K (.one (.at (.val (Zi false)))) [(.row false .slot (d)),(.row false .u32 (fl))] []))=_ by kernel_rfl) ?_;obtain⟨ha,hb⟩:=h1;rw[Yf (x:=i) ha (by omega),Yf (x:=(d.length:Int)) (by omega) (by omega)];refine Ya (fun c=>?_) fun c=>?_
 .have c:1<=i:=by have:=Zc c;omega
  rw[Yz (by omega) (by omega)];refine Ya (fun e=>?_) fun e=>?_
  .have e:i<=(d.length:Int):=Zc e;rw[YeK c e] at h;exact⟨by omega,by omega,h⟩
  .rw[Ynd (Zg e)] at h;exact h
 .rw[YdF (by have:=Zg c;omega)] at h;exact h
theorem YlH:Tb C0 108 tAlc:=by
 refine .of Tryz.func108 (by decide) rfl fun args H K h hB=>?_
 unfold tAlc at h;split at h<;>try exact h.elim
 rename_i i d fl;exact⟨A0,trivial,YuE d fl i K h.1 h.2.1 h.2.2⟩
theorem Ysk (al:Bool)(c g k v l r s sm mn mx:Int)(K:KT)(h:K (.one (.agg [vU l,vU r])) [] []) :
  vc C0 A0 Tryz.f138 [.agg [.val (.bool al),.val (.int .i64 c),.val (.int .u32 g),vI k,vI v,vU l,vU r,vI s,vI sm,vI mn,vI mx]] [] (Yh 0 K):=by
 refine Eq.mp (show (K (.one (TV.agg [(.val (VU (l))),(.val (VU (r)))])) [] [])=_ by kernel_rfl) ?_;exact h
theorem Yne:Tb C0 138 Ync:=by
 refine .of Tryz.func138 (by decide) rfl fun args H K h hB=>?_
 unfold Ync at h;split at h<;>try exact h.elim
 exact⟨A0,trivial,Ysk _ _ _ _ _ _ _ _ _ _ _ K h⟩
theorem Ydf (l:LI)(n:Nat):(cntL l n).length=n:=by simp[cntL]
theorem Ykk (n:Nat):List.replicate n (0:Int)=cntL [] n:=by
 unfold cntL;refine Zbd (by simp) fun i h1 h2=>by simp
theorem Ydg (l:LI)(n j:Nat)(h:j<n):(cntL l n).getD j 0=((l.count ((j:Int)+1):Nat):Int):=by
 unfold cntL;simp[Zb,h]
theorem YdV {l:LI}{n:Nat}{x:Int}(h1:1<=x)(h2:x<=n):(cntL l n).set (x-1).toNat ((cntL l n).getD (x-1).toNat 0+1)=cntL (l++[x]) n:=by
 rw[Ydg l n _ (by omega)];unfold cntL;refine Zbd (by simp) fun i h3 h4=>?_
 simp only[List.getElem_set,List.getElem_map,ZcG,Zbm]
 by_cases e:(x-1).toNat=i
 .rw[Zj e];have ex:((i:Int)+1)=x:=by omega
  have ey:(((x-1).toNat:Int)+1)=x:=by omega
  rw[ex,ey];simp
 .rw[Zf e];have:[x].count ((i:Int)+1)=0:=ZbG.2 (by simp;omega);rw[this];simp
theorem YaN {l:LI}{n:Nat}{x:Int}(h:¬ (1<=x/\x<=n)):cntL (l++[x]) n=cntL l n:=by
 unfold cntL;refine ZaP fun i hi=>?_
 have hi:i<n:=ZaK.1 hi;have:[x].count ((i:Int)+1)=0:=ZbG.2 (by simp;omega);rw[Zbm,this];simp
theorem YdG {α:Type}{l:List α}{i:Nat}{dft:α}(h:i<l.length):l.take (i+1)=l.take i++[l.getD i dft]:=by
 rw[ZbK,Zb,Zk h];rfl
theorem Yea (l:LI)(n j:Nat)(h:j<n):0<=(cntL l n).getD j 0/\(cntL l n).getD j 0<=l.length:=by
 rw[Ydg l n j h];have:=Zcw (a:=(j:Int)+1) (l:=l);omega
abbrev O21 (d:LS)(fl:LI)(x:XIx d.length):Prop:=0<=(x.i:Int)/\(x.i:Int)<(d.length:Int)/\brS ((d.getD (x.i:Int).toNat Tc.zero).alloc) (0<=Za.wrap (0+1)/\Za.wrap (0+1)<((2:Nat):Int)/\brS (decide ((d.getD (x.i:Int).toNat Tc.zero).node.right≥1)) (0<=Za.wrap (0+1)/\Za.wrap (0+1)<((2:Nat):Int)/\brS (decide (Zd.wrap (d.getD (x.i:Int).toNat Tc.zero).node.right<=Zd.wrap (↑(cntL (Yu (Zn x.i d)) d.length).length:Int))) (0<=Za.wrap (0+1)/\Za.wrap (0+1)<((2:Nat):Int)/\0<=Ze.wrap ((d.getD (x.i:Int).toNat Tc.zero).node.right-1)/\Ze.wrap ((d.getD (x.i:Int).toNat Tc.zero).node.right-1)<(↑(cntL (Yu (Zn x.i d)) d.length).length:Int)/\0<=Ze.wrap ((d.getD (x.i:Int).toNat Tc.zero).node.right-1)/\Ze.wrap ((d.getD (x.i:Int).toNat Tc.zero).node.right-1)<(↑(cntL (Yu (Zn x.i d)) d.length).length:Int)/\∃ w0_:XIn d,((x.i:Int))=((w0_.i:Int))/\(True/\True/\VI (x.i:Int)=VI (w0_.i:Int)/\True)/\d=d/\fl=fl/\(True/\True/\True)/\((cntL (Yu (Zn x.i d)) d.length).set (Ze.wrap ((d.getD (x.i:Int).toNat Tc.zero).node.right-1)).toNat (Za.wrap ((cntL (Yu (Zn x.i d)) d.length).getD (Ze.wrap ((d.getD (x.i:Int).toNat Tc.zero).node.right-1)).toNat 0+1)))=(cntL (Yu (Zn (w0_.i+1) d)) d.length)/\True) (∃ w0_:XIn d,((x.i:Int))=((w0_.i:Int))/\(True/\True/\VI (x.i:Int)=VI (w0_.i:Int)/\True)/\d=d/\fl=fl/\(True/\True/\True)/\(cntL (Yu (Zn x.i d)) d.length)=(cntL (Yu (Zn (w0_.i+1) d)) d.length)/\True)) (∃ w0_:XIn d,((x.i:Int))=((w0_.i:Int))/\(True/\True/\VI (x.i:Int)=VI (w0_.i:Int)/\True)/\d=d/\fl=fl/\(True/\True/\True)/\(cntL (Yu (Zn x.i d)) d.length)=(cntL (Yu (Zn (w0_.i+1) d)) d.length)/\True)) (∃ w0_:XIn d,((x.i:Int))=((w0_.i:Int))/\(True/\True/\VI (x.i:Int)=VI (w0_.i:Int)/\True)/\d=d/\fl=fl/\(True/\True/\True)/\(cntL (Yu (Zn x.i d)) d.length)=(cntL (Yu (Zn (w0_.i+1) d)) d.length)/\True)
abbrev O22 (d:LS)(fl:LI)(x:XIx d.length):Prop:=∃ w0_:XIn d,((x.i:Int))=((w0_.i:Int))/\(True/\True/\VI (x.i:Int)=VI (w0_.i:Int)/\True)/\d=d/\fl=fl/\(True/\True/\True)/\((cntL (Yu (Zn x.i d)) d.length).set (Ze.wrap ((d.getD (x.i:Int).toNat Tc.zero).node.left-1)).toNat (Za.wrap ((cntL (Yu (Zn x.i d)) d.length).getD (Ze.wrap ((d.getD (x.i:Int).toNat Tc.zero).node.left-1)).toNat 0+1)))=(cntL (Yu (Zn (w0_.i+1) d)) d.length)/\True
abbrev O23 (d:LS)(x:XIx d.length)(Z_:Prop):Prop:=0<=Ze.wrap ((d.getD (x.i:Int).toNat Tc.zero).node.right-1)/\Ze.wrap ((d.getD (x.i:Int).toNat Tc.zero).node.right-1)<(↑((cntL (Yu (Zn x.i d)) d.length).set (Ze.wrap ((d.getD (x.i:Int).toNat Tc.zero).node.left-1)).toNat (Za.wrap ((cntL (Yu (Zn x.i d)) d.length).getD (Ze.wrap ((d.getD (x.i:Int).toNat Tc.zero).node.left-1)).toNat 0+1))).length:Int)/\Z_
abbrev O24 (l:LI)(n:Int)(x:XIx l.length):Prop:=∃ w0_:XIx l.length,True/\((True/\VI (n)=VI (n)/\True/\(VI (Za.wrap ((x.i:Int)+1)))=(VI (w0_.i:Int))/\True)/\l=l/\(cntL (Zn x.i l) n.toNat)=(cntL (Zn w0_.i l) n.toNat)/\True)/\l.length-w0_.i<l.length-x.i
abbrev O25 (d:LS)(x:XIx d.length)(Z_:Prop):Prop:=0<=Ze.wrap ((d.getD (x.i:Int).toNat Tc.zero).node.left-1)/\Ze.wrap ((d.getD (x.i:Int).toNat Tc.zero).node.left-1)<(↑(cntL (Yu (Zn x.i d)) d.length).length:Int)/\Z_
abbrev O26 (P:List Bool → LI → Prop)(d:LS)(fl roots:LI)(x:XMks P):Prop:=∃ w0_:XMks P,True/\((True/\True/\True/\True)/\d=d/\fl=fl/\roots=roots/\(True/\True/\True)/\x.m=w0_.m/\(Zn (Za.wrap ((x.w.length:Int)-1)).toNat x.w)=w0_.w/\True)/\w0_.w.length+3*List.count false w0_.m<x.w.length+3*List.count false x.m
abbrev O27 (Z_:Prop):Prop:=0<=Za.wrap (0+1)/\Za.wrap (0+1)<((2:Nat):Int)/\Z_
abbrev O28 {P:List Bool → LI → Prop}(x:XMks P)(Z_:Prop):Prop:=0<=Ze.wrap (x.w.getD (Za.wrap ((x.w.length:Int)-1)).toNat 0-1)/\Ze.wrap (x.w.getD (Za.wrap ((x.w.length:Int)-1)).toNat 0-1)<(x.m.length:Int)/\Z_
abbrev O29 (l:LI)(n:Int)(x:XIx l.length)(Z_:Prop):Prop:=0<=Ze.wrap (l.getD (x.i:Int).toNat 0-1)/\Ze.wrap (l.getD (x.i:Int).toNat 0-1)<(↑(cntL (Zn x.i l) n.toNat).length:Int)/\Z_
theorem YuF (l:LI)(n:Int)(K:KT)(h1:0<=n)(h2:n<=100000)(h3:l.length<=1000000)(h4:∀ x∈l,inU x)(h:∀ o,o=cntL l n.toNat->K (.one (.at (.slc 1))) [.row false .u32 l,.row true .int o] []) :
  vc C0 (aCnt l n) Tryz.f137 [.at (.slc 0),.at (vI n)] [.row false .u32 l] (Yh 1 K):=by
 refine Eq.mp (show (0<=n/\n<=n/\n*(↑(Yd C0 EC.int):Int)<=140737488355328/\(∃ x:XIx l.length,True/\(True/\VI (n)=VI (n)/\True/\VI 0=(VI (x.i:Int))/\True)/\l=l/\List.replicate n.toNat 0=(cntL (Zn x.i l) n.toNat)/\True)/\∀ x:XIx l.length,True->brS (decide ((x.i:Int)<(l.length:Int))) (0<=(x.i:Int)/\(x.i:Int)<(l.length:Int)/\brS (decide (l.getD (x.i:Int).toNat 0≥1)) (0<=(x.i:Int)/\(x.i:Int)<(l.length:Int)/\brS (decide (Zd.wrap (l.getD (x.i:Int).toNat 0)<=Zd.wrap n)) (0<=(x.i:Int)/\(x.i:Int)<(l.length:Int)/\O29 l n x (O29 l n x (∃ x':XIx l.length,True/\((True/\VI (n)=VI (n)/\True/\(VI (Za.wrap ((x.i:Int)+1)))=(VI (x'.i:Int))/\True)/\l=l/\((cntL (Zn x.i l) n.toNat).set (Ze.wrap (l.getD (x.i:Int).toNat 0-1)).toNat (Za.wrap ((cntL (Zn x.i l) n.toNat).getD (Ze.wrap (l.getD (x.i:Int).toNat 0-1)).toNat 0+1)))=(cntL (Zn x'.i l) n.toNat)/\True)/\l.length-x'.i<l.length-x.i))) (O24 l n x)) (O24 l n x)) (K (.one (.at (.slc 1))) [(.row false .u32 (l)),(.row true .int (cntL (Zn x.i l) n.toNat))] []))=_ by kernel_rfl) ?_;delta O24 O29;rw[YeG];refine⟨h1,ZE _,by omega,⟨⟨0,ZC _⟩,⟨trivial,⟨trivial,rfl,trivial,rfl,trivial⟩,rfl,Ykk _,trivial⟩⟩,fun x _=>Ya (fun c=>?_) fun c=>?_⟩
 .have c:x.i<l.length:=by have:=Zc c;omega
  have hx:l.getD x.i 0∈l:=by rw[Zb,Zk c];exact Zaa c
  have hu:=h4 _ hx;have ts:=YdG (dft:=(0:Int)) c;rw[show ((x.i:Int)).toNat=x.i from rfl];generalize l.getD x.i 0=v at *;obtain⟨u1,u2⟩:=hu;rw[Yf (x:=v) u1 (by omega),Yf (x:=n) h1 (by omega),Yb (x:=(x.i:Int)+1) (by omega) (by omega)];have hne:∀ (w:LI),w=cntL (l.take (x.i+1)) n.toNat->(∃ x':XIx l.length,(True/\((True/\((Zm Za (n))=(Zm Za (n)))/\True/\((Zm Za ((x.i:Int)+1))=(Zm Za ((↑x'.i:Int))))/\True)/\((l)=(l))/\(w=(cntL (Zn x'.i l) n.toNat))/\True)/\(l.length-x'.i<l.length-x.i))):=fun w hw=>⟨⟨x.i+1,c⟩,trivial,⟨⟨trivial,rfl,trivial,rfl,trivial⟩,rfl,hw,trivial⟩,by show l.length-(x.i+1)<_;omega⟩
  refine⟨by omega,by omega,Ya (fun e=>?_) fun e=>?_⟩
  .have e:1<=v:=by have:=Zc e;omega
   refine⟨by omega,by omega,Ya (fun f=>?_) fun f=>?_⟩
   .have f:v<=n:=Zc f;have hr:=Yea (l.take x.i) n.toNat (v-1).toNat (by omega);have hl:(l.take x.i).length<=l.length:=by simp;omega
    rw[Yz (x:=v-1) (by omega) (by omega),Ydf];rw[Yb (x:=(cntL (l.take x.i) n.toNat).getD (v-1).toNat 0+1) (by omega) (by omega)];refine⟨by omega,by omega,by omega,by omega,by omega,by omega,hne _ ?_⟩;rw[ts];exact YdV e (by omega)
   .refine hne _ ?_;rw[ts,YaN];have:=Zg f;omega
  .refine hne _ ?_;rw[ts,YaN];have:=Zg e;omega
 .have c:x.i=l.length:=by have:=Zg c;have:=x.h;omega
  exact h _ (by rw[c,ZJ])
theorem Yxq:Tb C0 137 tCnt:=by
 refine .of Tryz.func137 (by decide) rfl fun args H K h hB=>?_
 unfold tCnt at h;split at h<;>try exact h.elim
 rename_i n l;exact⟨aCnt l n,trivial,YuF l n K h.1 h.2.1 h.2.2.1 h.2.2.2.1 h.2.2.2.2⟩
structure PMk (d:LS) (roots:LI) (m:List Bool) (w:LI):Prop where
 len:m.length=d.length
 u:∀ x∈w,inU x
 wl:w.length+2*m.count false<=roots.length+2*d.length
 root:∀ i∈roots,alcD d i=true->mkd m i∨i∈w
 left:∀ i,mkd m i->alcD d (sltD d i).node.left=true->mkd m (sltD d i).node.left∨(sltD d i).node.left∈w
 right:∀ i,mkd m i->alcD d (sltD d i).node.right=true->mkd m (sltD d i).node.right∨(sltD d i).node.right∈w
theorem PMk.start (d:LS)(roots:LI)(h:∀ x∈roots,inU x):PMk d roots (List.replicate d.length false) roots:=by
 have z:∀ i,¬ mkd (List.replicate d.length false) i:=fun i hi=>by
  have:=hi.2;rw[Yak] at this;cases this
 exact⟨by simp,h,by simp,fun i hi _=>.inr hi,fun i hi=>(z i hi).elim,fun i hi=>(z i hi).elim⟩
theorem PMk.done {d:LS}{roots:LI}{m:List Bool}(h:PMk d roots m []):MarksR d roots m :=
 ⟨h.len,fun i a b=>(h.root i a b).resolve_right (by simp),fun i a b=>(h.left i a b).resolve_right (by simp),fun i a b=>(h.right i a b).resolve_right (by simp)⟩
theorem PMk.skip {d:LS}{roots:LI}{m:List Bool}{w:LI}{x:Int}(h:PMk d roots m (w++[x]))(hx:alcD d x=true->mkd m x):PMk d roots m w:=by
 have key:∀ j,alcD d j=true->mkd m j∨j∈w++[x]->mkd m j∨j∈w:=fun j ha hj=>by
  rcases hj with hj|hj
  .exact .inl hj
  .rcases Zx.1 hj with hj|hj
   .exact .inr hj
   .have e:j=x:=by simpa using hj
    subst e;exact .inl (hx ha)
 refine⟨h.len,fun y hy=>h.u y (by simp[hy]),by have:=h.wl;simp at this;omega,fun i a b=>key i b (h.root i a b),fun i a b=>key _ b (h.left i a b),fun i a b=>key _ b (h.right i a b)⟩
theorem YfN {m:List Bool}{k:Nat}(h1:k<m.length)(h2:m.getD k false=false):(m.set k true).count false+1=m.count false:=by
 have:=Yac (fun b:Bool=>b==false) m k true false h1;rw[h2] at this
 simpa [List.count] using this
theorem PMk.mark {d:LS}{roots:LI}{m:List Bool}{w:LI}{x:Int}(h:PMk d roots m (w++[x]))(hx:alcD d x=true)(hm:m.getD (x-1).toNat false=false)(hk:inU (sltD d x).node.left/\inU (sltD d x).node.right) :
  PMk d roots (m.set (x-1).toNat true) (w++[(sltD d x).node.left,(sltD d x).node.right]):=by
 obtain⟨x1,x2⟩:=Yw hx;have hl:=h.len
 have hs:∀ j,mkd (m.set (x-1).toNat true) j↔j=x∨mkd m j:=fun j=>by
  unfold mkd;rw[YQ];constructor
  .rintro ⟨a,b⟩
   by_cases e:j=x
   .exact .inl e
   .rw[Zf (by omega)] at b;exact .inr ⟨a,b⟩
  .rintro (e|⟨a,b⟩)
   .subst e;exact⟨x1,by rw[Zj ⟨rfl,by omega⟩]⟩
   .refine⟨a,?_⟩;split
    .rfl
    .exact b
 have key:∀ j,mkd m j∨j∈w++[x]->mkd (m.set (x-1).toNat true) j∨j∈w++[(sltD d x).node.left,(sltD d x).node.right]:=fun j hj=>by
  rw[hs];rcases hj with hj|hj
  .exact .inl (.inr hj)
  .rcases Zx.1 hj with hj|hj
   .exact .inr (by simp[hj])
   .exact .inl (.inl (by simpa using hj))
 have hc:=YfN (m:=m) (k:=(x-1).toNat) (by omega) hm;have l1:(w++[(sltD d x).node.left,(sltD d x).node.right]).length=w.length+2:=by simp
 have l2:(w++[x]).length=w.length+1:=by simp
 refine⟨by simp[hl],fun y hy=>?_,by have:=h.wl;omega,fun i a b=>key i (h.root i a b),fun i a b=>?_,fun i a b=>?_⟩
 .simp at hy;rcases hy with hy|hy|hy
  .exact h.u y (by simp[hy])
  .subst hy;exact hk.1
  .subst hy;exact hk.2
 .rcases (hs i).1 a with e|e
  .subst e;exact .inr (by simp)
  .exact key _ (h.left i e b)
 .rcases (hs i).1 a with e|e
  .subst e;exact .inr (by simp)
  .exact key _ (h.right i e b)
theorem Yxr (d:LS)(fl roots:LI)(K:KT)(h1:d.length<=100000)(h2:roots.length<=1000000)(h3:Yde d)(h4:∀ x∈roots,inU x)(h:∀ m,MarksR d roots m->K (.one (.at (.slc 3))) [.row false .slot d,.row false .u32 fl,.row false .u32 roots,.row true .bool m] []) :
  vc C0 (aMk (PMk d roots) d fl roots) Tryz.f136 [.agg [.slc 0,.slc 1],.at (.slc 2)] [.row false .slot d,.row false .u32 fl,.row false .u32 roots] (Yh 3 K):=by
 generalize hP:PMk d roots=P
 refine Eq.mp (show (0<=(d.length:Int)/\(d.length:Int)<=(d.length:Int)/\(d.length:Int)*(↑(Yd C0 EC.bool):Int)<=140737488355328/\(([]:LE).length+roots.length)*Yd C0 EC.u32<=140737488355328/\(∃ x:XMks P,True/\(True/\True/\True/\True)/\d=d/\fl=fl/\roots=roots/\(True/\True/\True)/\(List.replicate (d.length:Int).toNat false)=x.m/\([]++roots)=x.w/\True)/\∀ x:XMks P,True->brS (decide ((x.w.length:Int)>0)) (0<=Za.wrap ((x.w.length:Int)-1)/\Za.wrap ((x.w.length:Int)-1)<(x.w.length:Int)/\0<=Za.wrap ((x.w.length:Int)-1)/\Za.wrap ((x.w.length:Int)-1)<=(x.w.length:Int)/\inU (x.w.getD (Za.wrap ((x.w.length:Int)-1)).toNat 0)/\d.length<=1000000/\brS (!alcD d (x.w.getD (Za.wrap ((x.w.length:Int)-1)).toNat 0)) (O26 P d fl roots x) (O28 x (brS (x.m.getD (Ze.wrap (x.w.getD (Za.wrap ((x.w.length:Int)-1)).toNat 0-1)).toNat false) (O26 P d fl roots x) (O28 x (0<=Ze.wrap (x.w.getD (Za.wrap ((x.w.length:Int)-1)).toNat 0-1)/\Ze.wrap (x.w.getD (Za.wrap ((x.w.length:Int)-1)).toNat 0-1)<(d.length:Int)/\(0:Int)<=0/\0<((2:Nat):Int)/\(0:Int)<=1/\1<((2:Nat):Int)/\((Zn (Za.wrap ((x.w.length:Int)-1)).toNat x.w).length+[(d.getD (Ze.wrap (x.w.getD (Za.wrap ((x.w.length:Int)-1)).toNat 0-1)).toNat Tc.zero).node.left,(d.getD (Ze.wrap (x.w.getD (Za.wrap ((x.w.length:Int)-1)).toNat 0-1)).toNat Tc.zero).node.right].length)*Yd C0 EC.u32<=140737488355328/\∃ x':XMks P,True/\
  ((True/\True/\True/\True)/\d=d/\fl=fl/\roots=roots/\(True/\True/\True)/\(x.m.set (Ze.wrap (x.w.getD (Za.wrap ((x.w.length:Int)-1)).toNat 0-1)).toNat true)=x'.m/\(Zn (Za.wrap ((x.w.length:Int)-1)).toNat x.w++[(d.getD (Ze.wrap (x.w.getD (Za.wrap ((x.w.length:Int)-1)).toNat 0-1)).toNat Tc.zero).node.left,(d.getD (Ze.wrap (x.w.getD (Za.wrap ((x.w.length:Int)-1)).toNat 0-1)).toNat Tc.zero).node.right])=x'.w/\True)/\x'.w.length+3*List.count false x'.m<x.w.length+3*List.count false x.m))))) (K (.one (.at (.slc 3))) [(.row false .slot (d)),(.row false .u32 (fl)),(.row false .u32 (roots)),(.row true .bool (x.m))] []))=_ by kernel_rfl) ?_
 delta O26 O28;subst hP;rw[YdD,Ys];refine⟨by omega,ZE _,by omega,by simp;omega,⟨⟨_,_,PMk.start d roots h4⟩,⟨trivial,⟨trivial,trivial,trivial,trivial⟩,rfl,rfl,rfl,⟨trivial,trivial,trivial⟩,rfl,rfl,trivial⟩⟩,fun x _=>?_⟩;obtain⟨m,w,hp⟩:=x;dsimp only;refine Ya (fun c=>?_) fun c=>?_
 .have c:0<w.length:=by have:=Zc c;omega
  have hwl:=hp.wl;have hml:=hp.len;have ew:=Yig (d:=(0:Int)) c;rw[Yb (x:=(w.length:Int)-1) (by omega) (by omega),show ((w.length:Int)-1).toNat=w.length-1 by omega];have lw:(w.take (w.length-1)).length+1=w.length:=by simp;omega
  have hux:inU (w.getD (w.length-1) 0):=hp.u _ (by rw[<-ew];simp);generalize w.getD (w.length-1) 0=v at *;generalize w.take (w.length-1)=q at *;subst ew;refine⟨by omega,by omega,by omega,by omega,hux,by omega,Ya (fun e=>?_) fun e=>?_⟩
  .have e:alcD d v=false:=by simpa using e
   refine⟨⟨m,q,hp.skip (by rw[e];intro z;cases z)⟩,trivial,⟨⟨trivial,trivial,trivial,trivial⟩,rfl,rfl,rfl,⟨trivial,trivial,trivial⟩,rfl,rfl,trivial⟩,?_⟩;show q.length+3*m.count false<_;simp
  .have e:alcD d v=true:=by simpa using e
   obtain⟨v1,v2⟩:=Yw e;rw[Yz (x:=v-1) (by omega) (by omega)];refine⟨by omega,by omega,Ya (fun f=>?_) fun f=>?_⟩
   .refine⟨⟨m,q,hp.skip fun _=>⟨v1,f⟩⟩,trivial,⟨⟨trivial,trivial,trivial,trivial⟩,rfl,rfl,rfl,⟨trivial,trivial,trivial⟩,rfl,rfl,trivial⟩,?_⟩;show q.length+3*m.count false<_;simp
   .have hd:(v-1).toNat<d.length:=by omega
    have hmem:sltD d v∈d:=by unfold sltD;rw[Zb,Zk hd];exact Zaa hd
    have hc:=YfN (m:=m) (k:=(v-1).toNat) (by omega) f;have hb:m.count false<=m.length:=Zcw;have l2:(q++[v]).length=q.length+1:=by simp
    have l3:(q++[(sltD d v).node.left,(sltD d v).node.right]).length=q.length+2:=by simp
    refine⟨by omega,by omega,by omega,by omega,by decide,by decide,by decide,by decide,(show (q.length+2)*4<=140737488355328 by omega),⟨_,_,hp.mark e f (h3 _ hmem)⟩,trivial,⟨⟨trivial,trivial,trivial,trivial⟩,rfl,rfl,rfl,⟨trivial,trivial,trivial⟩,rfl,rfl,trivial⟩,?_⟩;show (q++[(sltD d v).node.left,(sltD d v).node.right]).length+3*(m.set (v-1).toNat true).count false<(q++[v]).length+3*m.count false;omega
 .have c:w=[]:=by have:=Zg c;exact Zaz.1 (by omega)
  subst c;exact h m hp.done
theorem s_mk:Tb C0 136 tMk:=by
 refine .of Tryz.func136 (by decide) rfl fun args H K h hB=>?_
 unfold tMk at h;split at h<;>try exact h.elim
 rename_i d fl roots;exact⟨aMk (PMk d roots) d fl roots,⟨Ye C0.ok YlH _,Ye C0.ok Yne _,trivial⟩,Yxr d fl roots K h.1 h.2.1 h.2.2.1 h.2.2.2.1 h.2.2.2.2⟩
theorem YB (S:Arn):(Yg S).length=ncap S:=by simp[Yg]
theorem YV (S:Arn){i:Nat}(h:i<ncap S):(Yg S).getD i Tc.zero=YeJ S i:=by
 simp[Yg,Zb,h]
theorem Yxs {S:Arn}{i:Int}(h:(ncap S:Int)<i):S.us i=false:=by
 cases hb:S.us i with
 | false=>rfl
 | true=>have:=YlF hb;unfold ncap at h;omega
theorem Yl {S:Arn}{hs:LI}(w:Wf S hs)(i:Int):alcD (Yg S) i=S.us i:=by
 by_cases h1:1<=i
 .by_cases h2:i<=(ncap S:Int)
  .rw[YeK h1 (by rw[YB];exact h2),YV S (by omega)];show S.us _=S.us i
   congr 1;omega
  .rw[Ynd (by rw[YB];exact h2),Yxs (by omega)]
 .rw[YdF h1,w.us0 (by omega)]
theorem YX {S:Arn}{hs:LI}(w:Wf S hs){i:Int}(h:S.us i=true):(sltD (Yg S) i).node=S.nd i:=by
 have hp:=w.pos h;have h2:(i-1).toNat<ncap S:=by unfold ncap;omega
 unfold sltD;rw[YV S h2];show S.nd _=S.nd i
 congr 1;omega
theorem Yih {S:Arn}{hs:LI}(w:Wf S hs)(i:Int):szD (Yg S) i=(S.nd i).size:=by
 unfold szD;rw[Yl w];cases hb:S.us i with
 | false=>rw[w.zero i hb];rfl
 | true=>rw[Zj rfl,YX w hb]
theorem Ydh {fr:Int}{n:Nat}{x:Int}:x∈upTo fr n↔fr+1<=x/\x<=fr+n:=by
 unfold upTo;simp only[ZF,ZaK];constructor
 .rintro ⟨k,hk,rfl⟩;omega
 .rintro ⟨h1,h2⟩;exact⟨(x-fr-1).toNat,by omega,by omega⟩
theorem YfO (fr:Int)(n:Nat):(upTo fr n).Nodup:=by
 unfold upTo;refine List.pairwise_map.2 (List.nodup_range.imp fun h e=>h (by omega))
theorem YeL {S:Arn}{hs:LI}(w:Wf S hs)(x:Int):x∈Yi S↔(1<=x/\x<=(ncap S:Int))/\S.us x=false:=by
 have hfr:=w.fr;unfold Yi YbD;rw[Zx,List.mem_reverse,Ydh];have hn:(ncap S:Int)=S.used.length-1:=by have:=w.n1;unfold ncap;omega
 constructor
 .rintro (h|h)
  .have hr:=w.rel x h;refine⟨by omega,?_⟩;cases hb:S.us x with
   | false=>rfl
   | true=>exact absurd h ((w.use x).1 hb).2.2
  .refine⟨by omega,?_⟩;cases hb:S.us x with
   | false=>rfl
   | true=>have:=((w.use x).1 hb).2.1;omega
 .rintro ⟨h1,h2⟩
  by_cases e:x<=S.fresh
  .refine .inl ?_
   by_cases hm:x∈S.rel
   .exact hm
   .rw[(w.use x).2 ⟨h1.1,e,hm⟩] at h2;cases h2
  .exact .inr (by omega)
theorem Yjr {S:Arn}{hs:LI}(w:Wf S hs):(Yi S).Nodup:=by
 unfold Yi YbD;refine ZaN.2 ⟨List.pairwise_reverse.2 (w.dup.imp fun h=>h.symm),YfO _ _,fun a ha b hb=>?_⟩;have:=w.rel a (List.mem_reverse.1 ha);have:=Ydh.1 hb;omega
theorem Ynf {S:Arn}{hs:LI}(w:Wf S hs):(Yi S).length<=131074:=by
 have h1:=w.n2;have h2:=w.nus;have h3:=w.fr;unfold Yi YbD upTo;simp;omega
theorem YfP {S:Arn}{hs:LI}(w:Wf S hs){j:Int}(hj:1<=j):∀ L:LN,
  ((L.map (YeJ S)).flatMap fun x=>if x.alloc=true then [x.node.left,x.node.right] else []).count j=(L.map fun (k:Nat)=>S.nd ((k:Int)+1)).countP (fun x=>x.left==j)+(L.map fun (k:Nat)=>S.nd ((k:Int)+1)).countP (fun x=>x.right==j)
 | []=>rfl
 | k::L=>by
  have ih:=YfP w hj L;simp only[ZaA,Zab,Zbm,Zbc,ih];have e1:(YeJ S k).alloc=S.us ((k:Int)+1):=rfl;have e2:(YeJ S k).node=S.nd ((k:Int)+1):=rfl;rw[e1,e2];cases hb:S.us ((k:Int)+1) with
  | false =>
   rw[w.zero _ hb];have z1:(Td.zero.left==j)=false:=by simp[Td.zero];omega
   have z2:(Td.zero.right==j)=false:=by simp[Td.zero];omega
   simp[z1,z2]
  | true=>simp only[if_true,List.count_cons,List.count_nil];omega
theorem YlI {S:Arn}{hs:LI}(w:Wf S hs){j:Int}(hj:1<=j):(Yu (Yg S)).count j=S.indeg j:=by
 unfold Yu Yg;rw[YfP w hj]
 have hn:S.nodes=S.nd 0::(List.range (ncap S)).map fun (k:Nat)=>S.nd ((k:Int)+1):=by
  have h1:=w.nnod;have h2:=w.n1;have hc:ncap S=S.used.length-1:=rfl;refine Zbd (by simp;omega) fun i a b=>?_
  cases i with
  | zero=>unfold Arn.nd;simp[Zb,Zk a]
  | succ i =>
   simp only[List.getElem_cons_succ,List.getElem_map,ZcG];unfold Arn.nd;rw[show ((i:Int)+1).toNat=i+1 by omega,Zb,Zk a];rfl
 have z:S.nd 0=Td.zero:=w.nd0;unfold Arn.indeg
 conv=>rhs;rw[hn,z]
 have z1:(Td.zero.left==j)=false:=by simp[Td.zero];omega
 have z2:(Td.zero.right==j)=false:=by simp[Td.zero];omega
 simp only[Zbc,z1,z2];simp
theorem Yjs {S:Arn}{hs:LI}(w:Wf S hs):Yde (Yg S):=by
 have hn:=w.n2
 have key:∀ c,c=0∨S.us c=true->inU c:=fun c h=>by
  rcases h with rfl|h
  .exact⟨by omega,by omega⟩
  .have:=w.pos h;exact⟨by omega,by omega⟩
 intro x hx;unfold Yg at hx;obtain⟨k,hk,rfl⟩:=ZF.1 hx;show inU (S.nd _).left/\inU (S.nd _).right;cases hb:S.us ((k:Int)+1) with
 | false=>rw[w.zero _ hb];exact⟨key 0 (.inl rfl),key 0 (.inl rfl)⟩
 | true=>exact⟨key _ (w.kid _ hb).1,key _ (w.kid _ hb).2⟩
theorem Wf.inU_held {S:Arn}{hs:LI}(w:Wf S hs){x:Int}(h:x∈hs):inU x:=by
 have hn:=w.n2;rcases w.held x h with rfl|h
 .exact⟨by omega,by omega⟩
 .have:=w.pos h;exact⟨by omega,by omega⟩
theorem Yjt {S:Arn}{hs roots:LI}(w:Wf S hs)(p:roots.Perm hs):CleanD (Yg S) (Yi S) roots where
 free i hi:=by
  rw[YB] at hi;rw[YV S hi];show _=if S.us ((i:Int)+1)=true then 0 else 1
  have hm:=YeL w ((i:Int)+1);cases hb:S.us ((i:Int)+1) with
  | true=>rw[Zj rfl];exact ZbG.2 fun h=>by have:=(hm.1 h).2;rw[hb] at this;cases this
  | false=>rw[Zf (by simp)];exact List.Nodup.count (Yjr w) |>.trans (by rw[Zj (hm.2 ⟨by omega,hb⟩)])
 left i hi hb:=by
  rw[YB] at hi;rw[YV S hi] at hb ⊢;rw[Yl w];exact (w.kid _ hb).1
 right i hi hb:=by
  rw[YB] at hi;rw[YV S hi] at hb ⊢;rw[Yl w];exact (w.kid _ hb).2
 size i hi hb:=by
  rw[YB] at hi;rw[YV S hi] at hb ⊢;rw[Yih w,Yih w];exact (w.siz _ hb).2.2
 zr i hi:=by
  rw[YB] at hi;rw[YV S hi];have:=w.size_nonneg ((i:Int)+1);unfold Ym at this;show 0<=(S.nd _).size/\(S.nd _).size<=4294967296;omega
 count i hi:=by
  rw[YB] at hi;rw[YV S hi];show (if S.us ((i:Int)+1)=true then S.ct ((i:Int)+1) else 0)=if S.us ((i:Int)+1)=true then _ else 0
  cases hb:S.us ((i:Int)+1) with
  | false=>rfl
  | true =>
   rw[Zj rfl,Zj rfl,YlI w (by omega),p.count_eq,(w.cnt _ hb).1]
 mark m hm i hi hb:=by
  rw[YB] at hi;rw[YV S hi] at hb;have hb:S.us ((i:Int)+1)=true:=hb
  have key:∀ j,Rch S hs j->mkd m j:=fun j hj=>by
   induction hj with
   | root h1 h2=>exact hm.root _ (p.mem_iff.2 h1) (by rw[Yl w];exact h2)
   | left h1 h2 ih=>have:=hm.left _ ih;rw[YX w h1.us,Yl w] at this;exact this h2
   | right h1 h2 ih=>have:=hm.right _ ih;rw[YX w h1.us,Yl w] at this;exact this h2
  have:=(key _ (w.reached hb)).2;rw[show ((i:Int)+1-1).toNat=i by omega] at this;exact this
 rng x hx:=by rw[YB];exact ((YeL w x).1 hx).1
 held x hx:=by rw[Yl w];exact w.held x (p.mem_iff.1 hx)
def ineQ (out:LI)(c:Int)(al:Bool)(ja jb:Prop)(G:LI->Prop):Prop :=
 brS al (ja/\jb/\brS (decide (c≥1)) (ja/\jb/\brS (decide (Zd.wrap c<=Zd.wrap (out.length:Int))) (ja/\jb/\0<=Ze.wrap (c-1)/\Ze.wrap (c-1)<(out.length:Int)/\0<=Ze.wrap (c-1)/\Ze.wrap (c-1)<(out.length:Int) ∧
  G (out.set (Ze.wrap (c-1)).toNat (Za.wrap (out.getD (Ze.wrap (c-1)).toNat 0+1)))) (G out)) (G out)) (G out)
theorem Yng {out L:LI}{n:Nat}{c:Int}{al:Bool}{ja jb:Prop}{G:LI->Prop}(e:out=cntL L n)(hu:inU c)(hn:n<=100000)(hL:L.length<=1000000)(ha:ja)(hb:jb)(hG:∀ o,o=cntL (L++if al=true then [c] else []) n->G o):ineQ out c al ja jb G:=by
 obtain⟨u1,u2⟩:=hu;have hl:out.length=n:=by rw[e,Ydf]
 unfold ineQ;rw[hl,Yf (x:=c) u1 (by omega),Yf (x:=(n:Int)) (by omega) (by omega)];refine Ya (fun z=>⟨ha,hb,Ya (fun c1=>⟨ha,hb,Ya (fun c2=>?_) fun c2=>?_⟩) fun c1=>?_⟩) fun z=>?_
 .have c1:1<=c:=by have:=Zc c1;omega
  have c2:c<=(n:Int):=Zc c2;rw[Yz (x:=c-1) (by omega) (by omega)];refine⟨ha,hb,by omega,by omega,by omega,by omega,hG _ ?_⟩;have hr:=Yea L n (c-1).toNat (by omega);rw[<-e] at hr;rw[Zj z,Yb (by omega) (by omega),e];exact YdV c1 c2
 .have c2:¬ c<=(n:Int):=Zg c2;refine hG _ ?_;rw[Zj z,YaN (by omega)];exact e
 .have c1:¬ 1<=c:=by have:=Zg c1;omega
  refine hG _ ?_;rw[Zj z,YaN (by omega)];exact e
 .refine hG _ ?_;rw[z,Zf (by simp),ZR];exact e
theorem Yii (d:LS):(Yu d).length<=2*d.length:=by
 induction d with
 | nil=>exact Zw _
 | cons x d ih =>
  have e:Yu (x::d)=(if x.alloc=true then [x.node.left,x.node.right] else [])++Yu d:=rfl;rw[e,Zh,ZQ];split<;>simp<;>omega
theorem YlJ {d:LS}{i:Nat}(h:i<d.length):Yu (d.take (i+1))=(Yu (d.take i)++if (eS d i).alloc=true then [(eS d i).node.left] else [])++if (eS d i).alloc=true then [(eS d i).node.right] else []:=by
 rw[YdG (dft:=Tc.zero) h];unfold Yu;rw[Zbn];show _++((if (eS d i).alloc=true then _ else _)++[])=_;cases (eS d i).alloc<;>simp
theorem YuG (d:LS)(fl:LI)(K:KT)(h1:d.length<=100000)(h2:Yde d)(h:∀ o,o=cntL (Yu d) d.length->K (.one (.at (.slc 2))) [.row false .slot d,.row false .u32 fl,.row true .int o] []) :
  vc C0 (aInE d fl) Tryz.f135 [.agg [.slc 0,.slc 1]] [.row false .slot d,.row false .u32 fl] (Yh 2 K):=by
 refine Eq.mp (show (0<=(d.length:Int)/\(d.length:Int)<=(d.length:Int)/\(d.length:Int)*(↑(Yd C0 EC.int):Int)<=140737488355328/\(∃ x:XIx d.length,True/\(True/\True/\VI 0=(VI (x.i:Int))/\True)/\d=d/\fl=fl/\(True/\True/\True)/\(List.replicate (d.length:Int).toNat (0:Int))=(cntL (Yu (Zn x.i d)) d.length)/\True)/\∀ x:XIx d.length,True->brS (decide ((x.i:Int)<(d.length:Int))) ((0<=(x.i:Int)/\(x.i:Int)<(d.length:Int)/\0<=(x.i:Int)/\(x.i:Int)<(d.length:Int)/\brS ((d.getD (x.i:Int).toNat Tc.zero).alloc) ((0:Int)<=0/\0<((2:Nat):Int)/\brS (decide ((d.getD (x.i:Int).toNat Tc.zero).node.left≥1)) ((0:Int)<=0/\0<((2:Nat):Int)/\brS (decide (Zd.wrap (d.getD (x.i:Int).toNat Tc.zero).node.left<=Zd.wrap (↑(cntL (Yu (Zn x.i d)) d.length).length:Int))) ((0:Int)<=0/\0<((2:Nat):Int)/\O25 d x (O25 d x (0<=(x.i:Int)/\(x.i:Int)<(d.length:Int)/\brS ((d.getD (x.i:Int).toNat Tc.zero).alloc) (O27 (brS (decide ((d.getD (x.i:Int).toNat Tc.zero).node.right≥1)) (O27 (brS (decide (Zd.wrap (d.getD (x.i:Int).toNat Tc.zero).node.right<=Zd.wrap (↑((cntL (Yu (Zn x.i d)) d.length).set (Ze.wrap ((d.getD (x.i:Int).toNat Tc.zero).node.left-1)).toNat (Za.wrap ((cntL (Yu (Zn x.i d)) d.length).getD (Ze.wrap ((d.getD (x.i:Int).toNat Tc.zero).node.left-1)).toNat 0+1))).length:Int))) (O27 (O23 d x (O23 d x (∃ x1:XIn d,((x.i:Int))=((x1.i:Int))/\(True/\True/\VI (x.i:Int)=VI (x1.i:Int)/\True)/\d=d/\fl=fl/\(True/\True/\True)/\
  (((cntL (Yu (Zn x.i d)) d.length).set (Ze.wrap ((d.getD (x.i:Int).toNat Tc.zero).node.left-1)).toNat (Za.wrap ((cntL (Yu (Zn x.i d)) d.length).getD (Ze.wrap ((d.getD (x.i:Int).toNat Tc.zero).node.left-1)).toNat 0+1))).set (Ze.wrap ((d.getD (x.i:Int).toNat Tc.zero).node.right-1)).toNat (Za.wrap (((cntL (Yu (Zn x.i d)) d.length).set (Ze.wrap ((d.getD (x.i:Int).toNat Tc.zero).node.left-1)).toNat (Za.wrap ((cntL (Yu (Zn x.i d)) d.length).getD (Ze.wrap ((d.getD (x.i:Int).toNat Tc.zero).node.left-1)).toNat 0+1))).getD (Ze.wrap ((d.getD (x.i:Int).toNat Tc.zero).node.right-1)).toNat 0+1)))=(cntL (Yu (Zn (x1.i+1) d)) d.length)/\True)))) (O22 d fl x))) (O22 d fl x))) (O22 d fl x)))) (O21 d fl x)) (O21 d fl x)) (O21 d fl x))/\∀ x1:XIn d,((x.i:Int))=((x1.i:Int))->∃ x':XIx d.length,True/\((True/\True/\(VI (Za.wrap ((x1.i:Int)+1)))=(VI (x'.i:Int))/\True)/\d=d/\fl=fl/\(True/\True/\True)/\(cntL (Yu (Zn (x1.i+1) d)) d.length)=(cntL (Yu (Zn x'.i d)) d.length)/\True)/\d.length-x'.i<d.length-x.i) (K (.one (.at (.slc 2))) [(.row false .slot (d)),(.row false .u32 (fl)),(.row true .int (cntL (Yu (Zn x.i d)) d.length))] []))=_ by kernel_rfl) ?_
 delta O21 O22 O23 O25 O27;rw[YeG];refine⟨by omega,ZE _,by omega,⟨⟨0,ZC _⟩,trivial,⟨trivial,trivial,rfl,trivial⟩,rfl,rfl,⟨trivial,trivial,trivial⟩,Ykk _,trivial⟩,fun x _=>Ya (fun c=>?_) fun c=>?_⟩
 .have c:x.i<d.length:=by have:=Zc c;omega
  have hm:eS d x.i∈d:=by unfold eS;rw[Zb,Zk c];exact Zaa c
  obtain⟨k1,k2⟩:=h2 _ hm;have ks:=YlJ c;have kl:=Yii (d.take x.i);have tl:(d.take x.i).length<=d.length:=by simp;omega
  have xa:(0:Int)<=(x.i:Int):=by omega
  have xb:(x.i:Int)<(d.length:Int):=by omega
  refine⟨?_,fun y e=>⟨⟨y.i+1,y.h⟩,trivial,⟨⟨trivial,trivial,?_,trivial⟩,rfl,rfl,⟨trivial,trivial,trivial⟩,rfl,trivial⟩,?_⟩⟩
  .show _/\_/\_/\_/\ineQ (cntL (Yu (d.take x.i)) d.length) (eS d x.i).node.left (eS d x.i).alloc ((0:Int)<=0) ((0:Int)<2) fun o=>(0:Int)<=(x.i:Int)/\(x.i:Int)<(d.length:Int)/\ineQ o (eS d x.i).node.right (eS d x.i).alloc (0<=Za.wrap (0+1)) (Za.wrap (0+1)<2) fun o=>∃ x1:XIn d,(((x.i:Int)=(x1.i:Int))/\(True/\True/\(Zm Za (x.i:Int)=Zm Za (x1.i:Int))/\True)/\(d=d)/\(fl=fl)/\(True/\True/\True)/\(o=cntL (Yu (d.take (x1.i+1))) d.length)/\True)
   refine⟨xa,xb,xa,xb,Yng rfl k1 h1 (by omega) (by decide) (by decide) fun o ho=>⟨xa,xb,Yng ho k2 h1 ?_ (by decide) (by decide) fun o ho=>⟨⟨x.i,c⟩,rfl,⟨trivial,trivial,rfl,trivial⟩,rfl,rfl,⟨trivial,trivial,trivial⟩,by rw[ho,ks],trivial⟩⟩⟩;rw[Zh];split<;>simp<;>omega
  .have:=y.h;rw[Yb (by omega) (by omega)];congr 1
  .have e:(x.i:Int)=(y.i:Int):=e;show d.length-(y.i+1)<d.length-x.i;have:=y.h;omega
 .have c:x.i=d.length:=by have:=Zg c;have:=x.h;omega
  exact h _ (by rw[c,ZJ])
theorem Yxt:Tb C0 135 tInE:=by
 refine .of Tryz.func135 (by decide) rfl fun args H K h hB=>?_
 unfold tInE at h;split at h<;>try exact h.elim
 rename_i d fl;exact⟨aInE d fl,⟨Ye C0.ok Yne _,trivial⟩,YuG d fl K h.1 h.2.1 h.2.2⟩
end Go.Proofs.YtedfbafngmicpaaGreat.Sx
namespace Go.Proofs.YtedfbafngmicpaaGreat
open Go
section
variable {S S' S'':Arn} {hs:LI}

theorem YeM (h:Wf S hs){i j:Int}(hj:S.us j=true)(he:(S.nd j).left=i∨(S.nd j).right=i):1<=S.indeg i:=by
 have hp:=h.pos hj;have hn:=h.nnod
 have hm:S.nd j∈S.nodes:=by
  have:j.toNat<S.nodes.length:=by omega
  unfold Arn.nd;rw[Zb,Zk this];exact Zaa this
 unfold Arn.indeg;rcases he with he|he
 .have:=(Zbp (p:=fun x:Td=>x.left==i)).2 ⟨S.nd j,hm,by simpa using he⟩;omega
 .have:=(Zbp (p:=fun x:Td=>x.right==i)).2 ⟨S.nd j,hm,by simpa using he⟩;omega
def relA (S:Arn)(i:Int):Arn:=if S.us i then decS S i else S
theorem Yav (S:Arn)(i j:Int):(relA S i).us j=S.us j/\(relA S i).nd j=S.nd j/\(relA S i).gn j=S.gn j/\(relA S i).indeg j=S.indeg j:=by
 unfold relA;split<;>exact⟨rfl,rfl,rfl,rfl⟩
theorem YeN (S:Arn)(i:Int):(relA S i).reads=S.reads/\(relA S i).used=S.used/\(relA S i).nu=S.nu/\(relA S i).free=S.free/\(relA S i).nodes=S.nodes/\(relA S i).rel=S.rel/\(relA S i).fresh=S.fresh:=by
 unfold relA;split<;>exact⟨rfl,rfl,rfl,rfl,rfl,rfl,rfl⟩
theorem Wf.two {i:Int}(h:Wf S (i::hs))(hi:S.us i=true)(hd:1<=S.indeg i):1<S.ct i:=by
 obtain⟨h1,_⟩:=h.cnt i hi;rw[Zby] at h1;omega
theorem Wf.give {i:Int}(h:Wf S (i::hs))(hd:S.us i=true->1<=S.indeg i):Wf (relA S i) hs:=by
 unfold relA;split
 .rename_i hi;exact h.dec hi (h.two hi (hd hi))
 .rename_i hi;have:i=0:=(h.held i (by simp)).resolve_right hi;subst this;exact h.of_zero
theorem Wf.given {i:Int}(h:Wf S (i::hs))(hd:S.us i=true->1<=S.indeg i)(h1:1<S.ct i->S.us i=true->S'=decS S i)(h2:S.us i=false->S'=S):S'=relA S i:=by
 unfold relA;cases hi:S.us i with
 | true=>rw[Zj rfl];exact h1 (h.two hi (hd hi)) hi
 | false=>simp;exact h2 hi
theorem Rep.same (hu:∀ j,S'.us j=S.us j)(hn:∀ j,S'.nd j=S.nd j):∀ {t:Tr} {i:Int},Rep S t i->Rep S' t i
 | .nil,i,hr=>hr
 | .node l k v r,i,hr=>by
  obtain⟨h1,h2,h3,h4,h5⟩:=hr;exact⟨(hu i).trans h1,by rw[hn];exact h2,by rw[hn];exact h3,by rw[hn];exact Rep.same hu hn h4,by rw[hn];exact Rep.same hu hn h5⟩
theorem YeO (hu:∀ j,S'.us j=S.us j)(hn:∀ j,S'.nd j=S.nd j)(hg:∀ j,S'.gn j=S.gn j)(hs:LI):Stay S S' hs:=fun i hi=>⟨(hu i).trans hi.us,hn i,hg i⟩
def Ydi (S:Arn)(k v l r:Int):Arn:=relA (relA (Yt S k v l r) l) r
theorem YeP (h:Wf S hs)(hf:0<S.free){k v l r:Int}:(Yt S k v l r).reads=S.reads/\(Yt S k v l r).used.length=S.used.length/\(Yt S k v l r).nu=S.nu+1:=by
 obtain⟨h1,h2,h3,_⟩:=h.nxt_spec hf;refine⟨rfl,by simp[Yt],?_⟩;have a:=Yac id S.used (nxt S).toNat true false (by omega);have:S.used.getD (nxt S).toNat false=false:=h3;rw[this] at a;simp at a;unfold Arn.nu Yt;simp;omega
theorem YaX (h:Wf S hs)(hf:0<S.free){k v l r:Int}:∀ {t:Tr} {i:Int},Rep S t i->Rep (Yt S k v l r) t i
 | .nil,i,hr=>hr
 | .node tl kk vv tr,i,hr=>by
  obtain⟨h1,h2,h3,h4,h5⟩:=hr;have hx:=(h.nxt_spec hf).2.2.1;have e:i≠nxt S:=fun e=>by rw[e,hx] at h1;cases h1
  have en:(Yt S k v l r).nd i=S.nd i:=by rw[Yau h hf,Zf e]
  exact⟨(YU h hf i).2 (.inr h1),by rw[en];exact h2,by rw[en];exact h3,by rw[en];exact YaX h hf h4,by rw[en];exact YaX h hf h5⟩

structure NodeR (S:Arn) (hs:LI) (k v:Int) (tl tr:Tr) (S':Arn) (i:Int):Prop where
 wf:Wf S' (i::hs)
 rep:Rep S' (.node tl k v tr) i
 stay:Stay S S' hs
 len:S'.used.length=S.used.length
 rds:S'.reads=S.reads
 nu:S'.nu=S.nu+1
 pos:1<=i
theorem YgC {k v l r:Int}(h:Wf S (l::r::hs))(hf:0<S.free)(hz:(Yk S k v l r).size<=Ym)(hl:hs.length<=999999990) :
  Wf (Yt S k v l r) (l::(nxt S::r::hs))/\((Yt S k v l r).us l=true->1<=(Yt S k v l r).indeg l)/\Wf (relA (Yt S k v l r) l) (r::(nxt S::hs))/\((relA (Yt S k v l r) l).us r=true->1<=(relA (Yt S k v l r) l).indeg r):=by
 have hl1:=h.held l (by simp);have hr1:=h.held r (by simp);have hm:=h.make (k:=k) (v:=v) hl1 hr1 hf hz (by simp;omega);obtain⟨h1,h2,h3,_⟩:=h.nxt_spec hf;have hm1:Wf (Yt S k v l r) (l::(nxt S::r::hs)):=hm.perm (List.Perm.swap _ _ _);have hu:(Yt S k v l r).us (nxt S)=true:=(YU h hf _).2 (.inl rfl);have hn:(Yt S k v l r).nd (nxt S)=Yk S k v l r:=by rw[Yau h hf,Zj rfl]
 obtain⟨_,_,m1,m2⟩:=Yad S k v l r;have d1:1<=(Yt S k v l r).indeg l:=YeM hm hu (.inl (by rw[hn,m1]));have d2:1<=(Yt S k v l r).indeg r:=YeM hm hu (.inr (by rw[hn,m2]));refine⟨hm1,fun _=>d1,(hm1.give fun _=>d1).perm (List.Perm.swap _ _ _),fun _=>?_⟩;rw[(Yav _ _ _).2.2.2];exact d2
theorem Ynh {k v l r:Int}{tl tr:Tr}(h:Wf S (l::r::hs))(hf:0<S.free)(hz:(Yk S k v l r).size<=Ym)(hl:hs.length<=999999990)(h1:Rep S tl l)(h2:Rep S tr r):NodeR S hs k v tl tr (Ydi S k v l r) (nxt S):=by
 obtain⟨a1,a2,a3,a4⟩:=YgC (k:=k) (v:=v) h hf hz hl;obtain⟨x1,x2,x3,_⟩:=h.nxt_spec hf;have e1:∀ j,(Ydi S k v l r).us j=(Yt S k v l r).us j:=fun j=>by unfold Ydi;rw[(Yav _ _ _).1,(Yav _ _ _).1]
 have e2:∀ j,(Ydi S k v l r).nd j=(Yt S k v l r).nd j:=fun j=>by unfold Ydi;rw[(Yav _ _ _).2.1,(Yav _ _ _).2.1]
 have e3:∀ j,(Ydi S k v l r).gn j=(Yt S k v l r).gn j:=fun j=>by unfold Ydi;rw[(Yav _ _ _).2.2.1,(Yav _ _ _).2.2.1]
 obtain⟨f1,f2,f3⟩:=YeP h hf (k:=k) (v:=v) (l:=l) (r:=r);obtain⟨p1,p2,p3,_⟩:=YeN (Yt S k v l r) l;obtain⟨q1,q2,q3,_⟩:=YeN (relA (Yt S k v l r) l) r;have hn:(Yt S k v l r).nd (nxt S)=Yk S k v l r:=by rw[Yau h hf,Zj rfl]
 obtain⟨m3,m4,m1,m2⟩:=Yad S k v l r;refine⟨a3.give a4,?_,(YhR h hf hs).trans (YeO e1 e2 e3 hs),?_,?_,?_,x1⟩
 .refine⟨by rw[e1,YU h hf];exact .inl rfl,by rw[e2,hn,m3],by rw[e2,hn,m4],?_,?_⟩
  .rw[e2,hn,m1];exact (YaX h hf h1).same e1 e2
  .rw[e2,hn,m2];exact (YaX h hf h2).same e1 e2
 .unfold Ydi;rw[q2,p2];exact f2
 .unfold Ydi;rw[q1,p1];exact f1
 .unfold Ydi;rw[q3,p3];exact f3
theorem YgD {k v l r:Int}(h:Wf S hs){tl tr:Tr}(h1:Rep S tl l)(h2:Rep S tr r):(Yk S k v l r).size=1+tl.size+tr.size:=by
 rw[h.mkNode_size,h1.size h,h2.size h]

def balN (l r:Int):Prop:=l+1<=3*(r+1)/\r+1<=3*(l+1)
instance (l r:Int):Decidable (balN l r):=by unfold balN;infer_instance
def Tr.Bal:Tr->Prop
 | .nil=>True
 | .node l _ _ r=>balN l.size r.size/\l.Bal/\r.Bal

structure PlantR (S:Arn) (hs:LI) (l:LE) (S':Arn) (i:Int):Prop where
 wf:Wf S' (i::hs)
 rep:∃ t,Rep S' t i/\t.list=l/\t.Bal
 stay:Stay S S' hs
 len:S'.used.length=S.used.length
 rds:S'.reads=S.reads
 nu:S'.nu=S.nu+l.length
theorem PlantR.nil (h:Wf S hs)(hl:hs.length<=1000000000):PlantR S hs [] S 0:=⟨h.zero_cons hl,⟨.nil,rfl,rfl,trivial⟩,Stay.refl _ _,rfl,rfl,rfl⟩
theorem PlantR.node {S1 S2 S3:Arn}{a b:LE}{e:Ent}{il ir i:Int}(h1:PlantR S hs a S1 il)(h2:PlantR S1 (il::hs) b S2 ir)(hb:balN a.length b.length)(h3:∀ tl tr,Rep S2 tl il->Rep S2 tr ir->NodeR S2 hs e.1 e.2 tl tr S3 i):PlantR S hs (a++e::b) S3 i:=by
 obtain⟨tl,r1,r2,r3⟩:=h1.rep;obtain⟨tr,q1,q2,q3⟩:=h2.rep;have r1':Rep S2 tl il:=r1.held h1.wf h2.stay (.inr (by simp));have n:=h3 tl tr r1' q1;refine⟨n.wf,⟨_,n.rep,?_,?_,r3,q3⟩,?_,?_,?_,?_⟩
 .simp[Tr.list,r2,q2]
 .rw[<-tl.list_len,<-tr.list_len,r2,q2];exact hb
 .exact (h1.stay.trans (h2.stay.mono (by simp_all))).trans n.stay
 .rw[n.len,h2.len,h1.len]
 .rw[n.rds,h2.rds,h1.rds]
 .rw[n.nu,h2.nu,h1.nu];simp;omega
end
end Go.Proofs.YtedfbafngmicpaaGreat
namespace Go.Proofs.YtedfbafngmicpaaGreat.Sx
open Go
def YdH:Tfm C0:=fun args H K=>match args with
 | [.at (.ptr 0 0),.at (.val (.int .i64 k)),.at (.val (.int .i64 v)),.at (.val (.int .u32 l)),.at (.val (.int .u32 r))]=>arM H fun S=>exW S/\live S l/\live S r/\(Yk S k v l r).size<=Ym/\0<S.free ∧
  ∀ S' i,S'=Yt S k v l r->i=nxt S->K (.tup [.at (vU i),.at (vI 0)]) (chS S') W7
 | _=>False
theorem Yeb:Tb C0 32 YdH:=s_make.weak fun args H K h=>by
 unfold YdH at h;unfold Ysi;split at h<;>try exact h.elim
 unfold arM at h ⊢;split at h<;>try exact h.elim
 obtain⟨h1,h2,h3,h4,h5,h6⟩:=h;exact⟨h1,h2,h3,fun e=>absurd h4 (by omega),fun _ e=>absurd h5 (by omega),fun _ _=>h6⟩
def Yps:Tfm C0:=fun args H K=>match args with
 | [.at (.ptr 0 0),.at (.val (.int .u32 i))]=>arM H fun S=>∃ hs,Wf S (i::hs)/\(S.us i=true->1<=S.indeg i)/\∀ S',S'=relA S i->K (.tup [.at (vI 0),.at (vI 0)]) (chS S') W7
 | _=>False
theorem YqW:Tb C0 26 Yps:=s_release.weak fun args H K h=>by
 unfold Yps at h;unfold Ydd;split at h<;>try exact h.elim
 unfold arM at h ⊢;split at h<;>try exact h.elim
 obtain⟨hs,h1,h2,h3⟩:=h;refine⟨hs,h1,fun S' fr _ _ h4 h5 h6=>?_⟩;have e:=h1.given h2 h5 h6;have h7:=h3 S' e;have:fr=0:=by rw[e,(YeN _ _).2.2.1] at h4;omega
 rw[this];exact h7
end Go.Proofs.YtedfbafngmicpaaGreat.Sx
section
namespace Go.Proofs.YtedfbafngmicpaaGreat

def optE (k:Int)(v:Option Int):LE:=(v.map fun v=>(k,v)).toList

def YcG:List (Option Ent × Option Chg)->Option LE
 | []=>some []
 | (x,none)::t=>(YcG t).map (x.toList ++ ·)
 | (x,some c)::t=>if x.map Prod.snd=c.before then (YcG t).map (optE c.key c.after ++ ·) else none

def app (l:LE)(p:List Chg):Option LE:=YcG (pEC l p)

def AppAt (l:LE)(p:List Chg)(i k:Nat)(acc:LE):Prop:=app l p=(YcG (pEC (l.drop i) (p.drop k))).map (acc ++ ·)
theorem AppAt.start (l:LE)(p:List Chg):AppAt l p 0 0 []:=by
 unfold AppAt app;rw[List.drop_zero,List.drop_zero];cases YcG (pEC l p)<;>rfl
theorem YlK {l':LE}{p':List Chg}{x:Ent}{c:Chg}(h:x.1<c.key):YcG (pEC (x::l') (c::p'))=(YcG (pEC l' (c::p'))).map (x::·):=by
 show YcG (Ybs Prod.fst Chg.key (x::l') (c::p'))=_;rw[Ybs,Zj h];rfl
theorem AppAt.keep {l:LE}{p:List Chg}{i k:Nat}{acc:LE}{x:Ent}{c:Chg}(h:AppAt l p i k acc)(hl:l.drop i=x::l.drop (i+1))(hp:p.drop k=c::p.drop (k+1))(hlt:x.1<c.key):AppAt l p (i+1) k (acc++[x]):=by
 unfold AppAt at *;rw[h,hl,hp,YlK hlt,<-hp,ZcD]
 congr 1
 funext t;simp
def at1 (l:LE)(i:Nat)(q:Int):Option Ent:=match l[i]? with
 | some x=>if x.1=q then some x else none
 | none=>none
theorem AppAt.take {l:LE}{p:List Chg}{i k:Nat}{acc:LE}{x:Ent}{c:Chg}(h:AppAt l p i k acc)(hl:l.drop i=x::l.drop (i+1))(hp:p.drop k=c::p.drop (k+1))(he:x.1=c.key) :
  if some x.2=c.before then AppAt l p (i+1) (k+1) (acc++optE c.key c.after) else app l p=none:=by
 have e:pEC (x::l.drop (i+1)) (c::p.drop (k+1))=(some x,some c)::pEC (l.drop (i+1)) (p.drop (k+1)):=by
  show Ybs Prod.fst Chg.key _ _=_;rw[Ybs,Zf (by omega),Zf (by omega)]
 split
 .rename_i hb;unfold AppAt at *;rw[h,hl,hp,e];simp only[YcG,ZaL,hb,if_true,ZcD]
  congr 1
  funext t;simp
 .rename_i hb;unfold AppAt at h;rw[h,hl,hp,e];simp only[YcG,ZaL,hb,if_false,Option.map_none]
theorem AppAt.new {l:LE}{p:List Chg}{i k:Nat}{acc:LE}{c:Chg}(h:AppAt l p i k acc)(hl:l.drop i=[]∨∃ x t,l.drop i=x::t/\c.key<x.1)(hp:p.drop k=c::p.drop (k+1)) :
  if none=c.before then AppAt l p i (k+1) (acc++optE c.key c.after) else app l p=none:=by
 have e:pEC (l.drop i) (c::p.drop (k+1))=(none,some c)::pEC (l.drop i) (p.drop (k+1)):=by
  show Ybs Prod.fst Chg.key _ _=_::Ybs Prod.fst Chg.key _ _;rcases hl with hl|⟨x,t,hl,hlt⟩
  .rw[hl,Ybs]
  .rw[hl,Ybs,Zf (by omega),Zj hlt]
 split
 .rename_i hb;unfold AppAt at *;rw[h,hp,e];simp only[YcG,Option.map_none,hb,if_true,ZcD]
  congr 1
  funext t;simp
 .rename_i hb;unfold AppAt at h;rw[h,hp,e];simp only[YcG,Option.map_none,hb,if_false]
theorem AppAt.fin {l:LE}{p:List Chg}{i k:Nat}{acc:LE}(h:AppAt l p i k acc)(hk:p.length<=k):app l p=some (acc++l.drop i):=by
 unfold AppAt at h;rw[h,Zbr hk]
 have:∀ m:LE,YcG (pEC m [])=some m:=by
  intro m
  induction m with
  | nil=>simp[Ybs,YcG]
  | cons x t ih=>simp[Ybs,YcG,ih]
 rw[this];rfl

def put (x:Option Int)(c:Option Chg):Option Int:=match c with
 | none=>x
 | some c=>c.after

def Fits (l:LE)(p:List Chg):Prop:=∀ c∈p,getE l c.key=c.before
instance (l:LE) (p:List Chg):Decidable (Fits l p):=by unfold Fits;infer_instance

def inv1 (c:Chg):Chg:=(YmG c.key c.after c.before).getD ⟨0,0,0,0⟩
def inv (p:List Chg):List Chg:=p.map inv1

end Go.Proofs.YtedfbafngmicpaaGreat
end
section
namespace Go.Proofs.YtedfbafngmicpaaGreat

def Cf (l m n:LE)(k:Int):Prop:=getE m k≠getE n k/\getE l k≠getE m k/\getE l k≠getE n k
instance (l m n:LE) (k:Int):Decidable (Cf l m n k):=by unfold Cf;infer_instance

end Go.Proofs.YtedfbafngmicpaaGreat
end
