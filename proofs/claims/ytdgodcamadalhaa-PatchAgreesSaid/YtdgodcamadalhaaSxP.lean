/- The kinds of elements of the patch program, and the logic over it. -/
import Derived.Test.YtdgodcamadalhaaSxO
import Derived.Test.YtdgodcamadalhaaPat
import Derived.Test.YtdgodcamadalhaaProg
import Derived.Test.YtdgodcamadalhaaChecked
import Derived.Conc.MuLone
namespace Go.Proofs.Ytdgodcamadalhaa.Sx
open Go

inductive EC where
  | ent | chg | i64
  deriving DecidableEq

def EC.α : EC → Type
  | .ent => Ent
  | .chg => Chg
  | .i64 => Int

def EC.enc : (e : EC) → e.α → List Value
  | .ent, x => [.int .i64 x.1, .int .i64 x.2]
  | .chg, x => [.int .i64 x.kind, .int .i64 x.key, .int .i64 x.old, .int .i64 x.new]
  | .i64, x => [.int .i64 x]

def dcdEnt : List Value → Option Ent
  | [.int .i64 a, .int .i64 b] => some (a, b)
  | _ => none
def dcdChg : List Value → Option Chg
  | [.int .i64 a, .int .i64 b, .int .i64 c, .int .i64 d] => some ⟨a, b, c, d⟩
  | _ => none
def dcdI64 : List Value → Option Int
  | [.int .i64 a] => some a
  | _ => none
def EC.dcd : (e : EC) → List Value → Option e.α
  | .ent => dcdEnt
  | .chg => dcdChg
  | .i64 => dcdI64

def EC.dft : (e : EC) → e.α
  | .ent => ((0 : Int), (0 : Int))
  | .chg => ⟨0, 0, 0, 0⟩
  | .i64 => (0 : Int)

def EC.sz : EC → Nat
  | .ent => 2
  | .chg => 4
  | .i64 => 1

def EC.tid : EC → TypeId
  | .ent => 48
  | .chg => 43
  | .i64 => 2

def EC.byT (t : TypeId) : Option EC :=
  if t = 48 then some .ent else if t = 43 then some .chg else if t = 2 then some .i64 else none

noncomputable def C0 : Ctx where
  P := Try.prog
  EC := EC
  deq := inferInstance
  α := EC.α
  enc := EC.enc
  dcd := EC.dcd
  dft := EC.dft
  sz := EC.sz
  tid := EC.tid
  byT := EC.byT
  X := Empty
  I := fun _ _ _ _ => False

theorem dcdEnt_spec {cs : List Value} {x : Ent} (h : dcdEnt cs = some x) : EC.enc .ent x = cs := by
  unfold dcdEnt at h; split at h <;> simp at h; subst h; rfl
theorem dcdChg_spec {cs : List Value} {x : Chg} (h : dcdChg cs = some x) : EC.enc .chg x = cs := by
  unfold dcdChg at h; split at h <;> simp at h; subst h; rfl
theorem dcdI64_spec {cs : List Value} {x : Int} (h : dcdI64 cs = some x) : EC.enc .i64 x = cs := by
  unfold dcdI64 at h; split at h <;> simp at h; subst h; rfl
theorem byT_spec {t : TypeId} {e : EC} (h : EC.byT t = some e) : t = e.tid := by
  unfold EC.byT at h
  (repeat' split at h) <;> simp at h <;> (subst h; assumption)
theorem info_of {P : Program} {t : TypeId} {z : Value} {n b : Nat} {l : List Value} (h : (P.info? t).map (fun i => (i.zero, i.size, i.bytes)) = some (some z, n, b)) (hz : z.cells.toList = l) (hb : 0 < b) :
    ∃ i z, P.info? t = some i ∧ i.zero = some z ∧ i.size = n ∧ z.cells.toList = l ∧ 0 < i.bytes := by
  rw [Option.map_eq_some_iff] at h
  obtain ⟨i, h1, h2⟩ := h
  simp only [Prod.mk.injEq] at h2
  exact ⟨i, z, h1, h2.1, h2.2.1, hz, h2.2.2 ▸ hb⟩

theorem C0.ok : C0.OK where
  len e x := by cases e <;> rfl
  one e x := by cases e <;> (intro u hu; simp [C0, EC.enc] at hu; (try rcases hu with rfl | rfl | rfl | rfl) <;> (try rcases hu with rfl | rfl) <;> (try subst hu) <;> rfl)
  dcd e cs x h := by
    cases e with
    | ent => exact dcdEnt_spec h
    | chg => exact dcdChg_spec h
    | i64 => exact dcdI64_spec h
  pos e := by cases e <;> decide
  info e := by
    cases e with
    | ent => exact info_of (z := .agg #[.int .i64 0, .int .i64 0]) (n := 2) (b := 16) (by kernel_rfl) rfl (by decide)
    | chg => exact info_of (z := .agg #[.int .i64 0, .int .i64 0, .int .i64 0, .int .i64 0]) (n := 4) (b := 32) (by kernel_rfl) rfl (by decide)
    | i64 => exact info_of (z := .int .i64 0) (n := 1) (b := 8) (by kernel_rfl) rfl (by decide)
  byT t e h := by
    exact byT_spec h
  local_ x := x.elim
  mixed := Try.checked.mixed

theorem enter_of {f : FuncId} {fn : Func} {c : Code} (hf : Try.prog.funcs[f]? = some fn) (hname : (fn.name == "runtime.NumGoroutine") = false) (hb : fn.body = some c) (args : Array Value) (w : World) :
    (callFunc f args).run C0.P w = .ok (.enter f args) w := MuLone.run_callFunc_enter hf hname hb args w
end Go.Proofs.Ytdgodcamadalhaa.Sx
