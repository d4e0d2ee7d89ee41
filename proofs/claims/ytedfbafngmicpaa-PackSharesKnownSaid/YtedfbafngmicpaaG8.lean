/- A part of the proof. -/
import Derived.Test.YtedfbafngmicpaaG7
import Derived.Test.YtedfbafngmicpaaG6
import Derived.Test.YtedfbafngmicpaaG5
section
/- packwork: Read. -/
namespace Go.Proofs.Ytedfbafngmicpaa.Sx
open Go

/-KEEP allB nxD hdD tlD nsD pkD mgD getB magB-/
structure PKT where
  known : Int
  digest : Int
  nodes : List PNT
  roots : List Int
def PKT.zero : PKT := ⟨0, 0, [], []⟩
def mgD : List Int → List Int → Int
  | [], _ => 0
  | _ :: _, [] => 12
  | m :: ms, c :: cs => if c = m then mgD ms cs else 13
def nsD (b : List Int) (k : Int) : Nat → Int → List PNT → Int × List PNT × Int
  | 0, at_, ns => (0, ns, at_)
  | n + 1, at_, ns => match nxD b at_ with
    | (p, n1, e) => if e ≠ 0 then (e, [], 0) else match ndD (k + ns.length + 1) p with
      | none => (13, [], 0)
      | some x => nsD b k n n1 (ns ++ [x])
def pkD (b : List Int) : Int × PKT := if mgD magB b ≠ 0 then (mgD magB b, .zero) else
  match nxD b 4 with
  | (p, n1, e) => if e ≠ 0 then (e, .zero) else match hdD p with
    | none => (13, .zero)
    | some (k, m, r, D) => match nsD b k m.toNat n1 [] with
      | (e2, ns, n2) => if e2 ≠ 0 then (e2, .zero) else match nxD b n2 with
        | (p2, n3, e3) => if e3 ≠ 0 then (e3, .zero) else match tlD (k + ns.length) r.toNat p2 with
          | none => (13, .zero)
          | some rs => if n3 = (b.length : Int) then (0, ⟨k, D, ns, rs⟩) else (13, .zero)
structure XRa (P : List Int → Int → Prop) where
  p : List Int
  n : Int
  h : P p n
structure XRb (P : Int → Int → Int → Int → List PNT → Int → Nat → Prop) where
  k : Int
  m : Int
  r : Int
  D : Int
  ns : List PNT
  n : Int
  i : Nat
  h : P k m r D ns n i
structure XRd (P : Bool → Int → Int → Int → Int → Int → Prop) where
  ok : Bool
  k : Int
  m : Int
  r : Int
  D : Int
  n : Int
  h : P ok k m r D n
structure XRc (P : Int → Int → Int → Int → List PNT → Int → List Int → Prop) where
  k : Int
  m : Int
  r : Int
  D : Int
  ns : List PNT
  n : Int
  p : List Int
  h : P k m r D ns n p
abbrev hfR (b : List Int) (k D : Int) (ns : List PNT) : List (Chunk C0) := [.row false EC.u8 b, .box [vU64 0, vU 0, .slc 2, .slc 3], .row true EC.pn [], .row true EC.u64 [], .box [vU64 k, vU D, .slc 5, .slc 6], .row true EC.pn ns, .row true EC.u64 []]
noncomputable def aRe (P1 : List Int → Int → Prop) (P0 : Bool → Int → Int → Int → Int → Int → Prop) (P2 P3 P4 : Int → Int → Int → Int → List PNT → Int → Nat → Prop) (P5 : Int → Int → Int → Int → List PNT → Int → List Int → Prop) (b : List Int) : Ann C0 := { quiet := [9999999, 49], Γ := [(49, frameT [] tNx), (50, frameT [] tHd), (51, frameT [] tNo), (52, frameT [] tTl)], rounds := fun n => if n = 2 then 5 else 0, inv := fun j => match j with
  | 1008 => some { X := PLift (mgD magB b = 0), sl := [2], tf := fun _ => [.one (.at (.ptr 1 0))], hf := fun _ => [.row false EC.u8 b, .box [vU64 0, vU 0, .slc 2, .slc 3], .row true EC.pn [], .row true EC.u64 []] }
  | 1011 => some { X := XRa P1, sl := [2, 5, 6], tf := fun x => [.one (.at (.ptr 1 0)), .one (.at (.slc 4)), vi .i64 x.n], hf := fun x => [.row false EC.u8 b, .box [vU64 0, vU 0, .slc 2, .slc 3], .row true EC.pn [], .row true EC.u64 [], .row true EC.u8 x.p] }
  | 1013 => some { X := XRd P0, sl := [2, 6, 8, 9, 10, 11], tf := fun x => [.one (.at (.ptr 1 0)), vi .i64 x.n, .one (.at (.ptr 4 0)), vi .u64 x.m, vi .u64 x.r, vb x.ok], hf := fun x => hfR b x.k x.D [] }
  | 1015 => some { X := XRb P2, sl := [2, 6, 8, 9, 10], tf := fun x => [.one (.at (.ptr 1 0)), vi .i64 x.n, .one (.at (.ptr 4 0)), vi .u64 x.m, vi .u64 x.r], hf := fun x => hfR b x.k x.D x.ns }
  | 16 => some { X := XRb P3, sl := [2, 6, 8, 9, 10, 12], tf := fun x => [.one (.at (.ptr 1 0)), vi .i64 x.n, .one (.at (.ptr 4 0)), vi .u64 x.m, vi .u64 x.r, vi .u64 x.i], hf := fun x => hfR b x.k x.D x.ns, μ := fun x => x.m.toNat - x.i }
  | 1023 => some { X := XRb P4, sl := [2, 6, 8, 10], tf := fun x => [.one (.at (.ptr 1 0)), vi .i64 x.n, .one (.at (.ptr 4 0)), vi .u64 x.r], hf := fun x => hfR b x.k x.D x.ns }
  | 1026 => some { X := XRc P5, sl := [2, 5, 6, 8, 10], tf := fun x => [.one (.at (.ptr 1 0)), .one (.at (.slc 7)), vi .i64 x.n, .one (.at (.ptr 4 0)), vi .u64 x.r], hf := fun x => hfR b x.k x.D x.ns ++ [.row true EC.u8 x.p] }
  | _ => none }
def tRe : Tfm C0 := fun args H K => match args, H with
  | [.at (.slc 0)], [.row false .u8 b] => allB b ∧ b.length ≤ 1000000000 ∧ ∀ e p, pkD b = (e, p) → K (.tup [.agg [vU64 p.known, vU p.digest, .slc 1, .slc 2], .at (vI e)]) [.row false EC.u8 b, .row true EC.pn p.nodes, .row true EC.u64 p.roots] []
  | _, _ => False
theorem mg_cases (b : List Int) : (b.length = 0 → mgD magB b = 12) ∧ (0 < b.length → getB b 0 ≠ 86 → mgD magB b = 13) ∧ (getB b 0 = 86 → b.length = 1 → mgD magB b = 12) ∧ (getB b 0 = 86 → 1 < b.length → getB b 1 ≠ 77 → mgD magB b = 13) ∧
    (getB b 0 = 86 → getB b 1 = 77 → b.length = 2 → mgD magB b = 12) ∧ (getB b 0 = 86 → getB b 1 = 77 → 2 < b.length → getB b 2 ≠ 80 → mgD magB b = 13) ∧ (getB b 0 = 86 → getB b 1 = 77 → getB b 2 = 80 → b.length = 3 → mgD magB b = 12) ∧
    (getB b 0 = 86 → getB b 1 = 77 → getB b 2 = 80 → 3 < b.length → getB b 3 ≠ 49 → mgD magB b = 13) ∧ (getB b 0 = 86 → getB b 1 = 77 → getB b 2 = 80 → getB b 3 = 49 → 3 < b.length → mgD magB b = 0) := by
  rcases b with _ | ⟨c0, _ | ⟨c1, _ | ⟨c2, _ | ⟨c3, t⟩⟩⟩⟩ <;> simp +contextual [mgD, magB, getB]
theorem nxD_rng {b p : List Int} {at_ n e : Int} (hb : allB b) (h : nxD b at_ = (p, n, e)) : allB p ∧ p.length ≤ b.length := by
  by_cases c : at_ < 0 ∨ (b.length : Int) < at_
  · unfold nxD at h
    rw [if_pos c] at h
    simp only [Prod.mk.injEq] at h
    rw [← h.1]
    exact ⟨allB_nil, Nat.zero_le _⟩
  · obtain ⟨q, k, e', hv⟩ : ∃ v k e', frD 12 13 14 1048576 (b.drop at_.toNat) = (v, k, e') := ⟨_, _, _, rfl⟩
    have ue := nxD_eq (by omega) (by omega) hv
    rw [h] at ue
    by_cases z : e' = 0
    · rw [if_pos z] at ue
      simp only [Prod.mk.injEq] at ue
      obtain ⟨v, k', e2, h2⟩ : ∃ v k e', vD 12 13 0 (b.drop at_.toNat) 0 = (v, k, e') := ⟨_, _, _, rfl⟩
      have ef := frD_eq h2
      rw [hv] at ef
      split at ef
      · simp only [Prod.mk.injEq] at ef; omega
      · split at ef
        · simp only [Prod.mk.injEq] at ef; omega
        · split at ef
          · simp only [Prod.mk.injEq] at ef; omega
          · split at ef
            · simp only [Prod.mk.injEq] at ef
              rw [ue.1, ef.1]
              refine ⟨allB_drop (allB_take (allB_drop hb _) _) _, ?_⟩
              rw [List.length_drop, List.length_take, List.length_drop]; omega
            · simp only [Prod.mk.injEq] at ef; omega
    · rw [if_neg z] at ue
      simp only [Prod.mk.injEq] at ue
      rw [ue.1]
      exact ⟨allB_nil, Nat.zero_le _⟩
theorem hdD_rng {p : List Int} {k m r D : Int} (hb : allB p) (h : hdD p = some (k, m, r, D)) : (0 ≤ k ∧ k ≤ 65536) ∧ (0 ≤ m ∧ m ≤ 65536) ∧ 0 ≤ r ∧ r ≤ 4096 := by
  obtain ⟨k1, n1, f1, e1⟩ : ∃ k n f, rvD p 0 false = (k, n, f) := ⟨_, _, _, rfl⟩
  obtain ⟨m1, n2, f2, e2⟩ : ∃ k n f, rvD p n1 f1 = (k, n, f) := ⟨_, _, _, rfl⟩
  obtain ⟨r1, n3, f3, e3⟩ : ∃ k n f, rvD p n2 f2 = (k, n, f) := ⟨_, _, _, rfl⟩
  unfold hdD at h
  simp only [e1, e2, e3] at h
  split at h
  · cases h
  · rename_i c
    simp only [Option.some.injEq, Prod.mk.injEq] at h
    have g1 := (rvD_rng hb e1).1
    have g2 := (rvD_rng hb e2).1
    have g3 := (rvD_rng hb e3).1
    omega
structure ReF (b : List Int) (k m r D n : Int) : Prop where
  mg : mgD magB b = 0
  ex : ∃ p, nxD b 4 = (p, n, 0) ∧ allB p ∧ hdD p = some (k, m, r, D)
theorem ReF.rng {b : List Int} {k m r D n : Int} (h : ReF b k m r D n) : (0 ≤ k ∧ k ≤ 65536) ∧ (0 ≤ m ∧ m ≤ 65536) ∧ 0 ≤ r ∧ r ≤ 4096 := by
  obtain ⟨p, _, h1, h2⟩ := h.ex
  exact hdD_rng h1 h2
theorem ReF.pk {b : List Int} {k m r D n : Int} (h : ReF b k m r D n) {e2 n2 : Int} {ns : List PNT} (hn : nsD b k m.toNat n [] = (e2, ns, n2)) : pkD b = if e2 ≠ 0 then (e2, .zero) else match nxD b n2 with
        | (p2, n3, e3) => if e3 ≠ 0 then (e3, .zero) else match tlD (k + ns.length) r.toNat p2 with
          | none => (13, .zero)
          | some rs => if n3 = (b.length : Int) then (0, ⟨k, D, ns, rs⟩) else (13, .zero) := by
  obtain ⟨p, h0, h1, h2⟩ := h.ex
  unfold pkD
  rw [if_neg (by rw [h.mg]; simp), h0]
  simp only [ne_eq, not_true_eq_false, if_false, h2, hn]
theorem nsD_succ {b : List Int} {k : Int} {d : Nat} {n : Int} {ns : List PNT} {p2 : List Int} {n2 e2 : Int} (h : nxD b n = (p2, n2, e2)) : nsD b k (d + 1) n ns = if e2 ≠ 0 then (e2, [], 0) else match ndD (k + ns.length + 1) p2 with
        | none => (13, [], 0)
        | some x => nsD b k d n2 (ns ++ [x]) := by
  show (match nxD b n with
    | (p, n1, e) => if e ≠ 0 then (e, [], 0) else match ndD (k + ns.length + 1) p with
      | none => (13, [], 0)
      | some x => nsD b k d n1 (ns ++ [x])) = _
  rw [h]
def PR1 (b : List Int) : List Int → Int → Prop := fun p n => mgD magB b = 0 ∧ nxD b 4 = (p, n, 0)
def PR0 (b : List Int) : Bool → Int → Int → Int → Int → Int → Prop := fun ok k m r D n => mgD magB b = 0 ∧ ∃ p, nxD b 4 = (p, n, 0) ∧ allB p ∧ (ok = false → hdD p = none) ∧ (ok = true → hdD p = some (k, m, r, D))
def PR2 (b : List Int) : Int → Int → Int → Int → List PNT → Int → Nat → Prop := fun k m r D ns n _ => ReF b k m r D n ∧ ns = []
def PR3 (b : List Int) : Int → Int → Int → Int → List PNT → Int → Nat → Prop := fun k m r D ns n i => ∃ n0, ReF b k m r D n0 ∧ i ≤ m.toNat ∧ ns.length = i ∧ nsD b k m.toNat n0 [] = nsD b k (m.toNat - i) n ns
def PR4 (b : List Int) : Int → Int → Int → Int → List PNT → Int → Nat → Prop := fun k m r D ns n _ => ∃ n0, ReF b k m r D n0 ∧ ns.length ≤ 65536 ∧ nsD b k m.toNat n0 [] = (0, ns, n)
def PR5 (b : List Int) : Int → Int → Int → Int → List PNT → Int → List Int → Prop := fun k m r D ns n p => ∃ n0 n1, ReF b k m r D n0 ∧ ns.length ≤ 65536 ∧ nsD b k m.toNat n0 [] = (0, ns, n1) ∧ nxD b n1 = (p, n, 0)
theorem vc_re (b : List Int) (K : KT) (hb : allB b) (hl : b.length ≤ 1000000000) (h : ∀ e p, pkD b = (e, p) → K (.tup [.agg [vU64 p.known, vU p.digest, .slc 1, .slc 2], .at (vI e)]) [.row false EC.u8 b, .row true EC.pn p.nodes, .row true EC.u64 p.roots] []) :
    vc C0 (aRe (PR1 b) (PR0 b) (PR2 b) (PR3 b) (PR4 b) (PR5 b) b) Try.f23 [.at (.slc 0)] [.row false EC.u8 b] (normK 1 K) := by
  generalize hP1 : PR1 b = P1
  generalize hP0 : PR0 b = P0
  generalize hP2 : PR2 b = P2
  generalize hP3 : PR3 b = P3
  generalize hP4 : PR4 b = P4
  generalize hP5 : PR5 b = P5
  refine Eq.mp (show ((brS (0 == (↑b.length : Int)) ((K (SV.tup [(TV.agg [(At.val (Value.int IntKind.u64 0)), (At.val (Value.int IntKind.u32 0)), (At.slc 1), (At.slc 2)]), (TV.at (At.val (Value.int IntKind.i64 12)))]) [(Chunk.row false (EC.u8) (b)), (Chunk.row true (EC.pn) []), (Chunk.row true (EC.u64) [])] [])) ((((0 : Int) ≤ 0) ∧ (0 < (↑b.length : Int)) ∧ (brS (getB b (Int.toNat 0) != 86) ((K (SV.tup [(TV.agg [(At.val (Value.int IntKind.u64 0)), (At.val (Value.int IntKind.u32 0)), (At.slc 1), (At.slc 2)]), (TV.at (At.val (Value.int IntKind.i64 13)))]) [(Chunk.row false (EC.u8) (b)), (Chunk.row true (EC.pn) []), (Chunk.row true (EC.u64) [])] [])) ((brS (IntKind.i64.wrap (0 + 1) == (↑b.length : Int)) ((K (SV.tup [(TV.agg [(At.val (Value.int IntKind.u64 0)), (At.val (Value.int IntKind.u32 0)), (At.slc 1), (At.slc 2)]), (TV.at (At.val (Value.int IntKind.i64 12)))]) [(Chunk.row false (EC.u8) (b)), (Chunk.row true (EC.pn) []), (Chunk.row true (EC.u64) [])] [])) (((0 ≤ IntKind.i64.wrap (0 + 1)) ∧ (IntKind.i64.wrap (0 + 1) < (↑b.length : Int)) ∧ (brS (getB b (IntKind.i64.wrap (0 + 1)).toNat != 77) ((K (SV.tup [(TV.agg [(At.val (Value.int IntKind.u64 0)), (At.val (Value.int IntKind.u32 0)), (At.slc 1), (At.slc 2)]), (TV.at (At.val (Value.int IntKind.i64 13)))]) [(Chunk.row false (EC.u8) (b)), (Chunk.row true (EC.pn) []), (Chunk.row true (EC.u64) [])] [])) ((brS (IntKind.i64.wrap (IntKind.i64.wrap (0 + 1) + 1) == (↑b.length : Int))
    ((K (SV.tup [(TV.agg [(At.val (Value.int IntKind.u64 0)), (At.val (Value.int IntKind.u32 0)), (At.slc 1), (At.slc 2)]), (TV.at (At.val (Value.int IntKind.i64 12)))]) [(Chunk.row false (EC.u8) (b)), (Chunk.row true (EC.pn) []), (Chunk.row true (EC.u64) [])] [])) (((0 ≤ IntKind.i64.wrap (IntKind.i64.wrap (0 + 1) + 1)) ∧ (IntKind.i64.wrap (IntKind.i64.wrap (0 + 1) + 1) < (↑b.length : Int)) ∧ (brS (getB b (IntKind.i64.wrap (IntKind.i64.wrap (0 + 1) + 1)).toNat != 80) ((K (SV.tup [(TV.agg [(At.val (Value.int IntKind.u64 0)), (At.val (Value.int IntKind.u32 0)), (At.slc 1), (At.slc 2)]), (TV.at (At.val (Value.int IntKind.i64 13)))]) [(Chunk.row false (EC.u8) (b)), (Chunk.row true (EC.pn) []), (Chunk.row true (EC.u64) [])] [])) ((brS (IntKind.i64.wrap (IntKind.i64.wrap (IntKind.i64.wrap (0 + 1) + 1) + 1) == (↑b.length : Int)) ((K (SV.tup [(TV.agg [(At.val (Value.int IntKind.u64 0)), (At.val (Value.int IntKind.u32 0)), (At.slc 1), (At.slc 2)]), (TV.at (At.val (Value.int IntKind.i64 12)))]) [(Chunk.row false (EC.u8) (b)), (Chunk.row true (EC.pn) []), (Chunk.row true (EC.u64) [])] [])) (((0 ≤ IntKind.i64.wrap (IntKind.i64.wrap (IntKind.i64.wrap (0 + 1) + 1) + 1)) ∧ (IntKind.i64.wrap (IntKind.i64.wrap (IntKind.i64.wrap (0 + 1) + 1) + 1) < (↑b.length : Int)) ∧ (brS (getB b (IntKind.i64.wrap (IntKind.i64.wrap (IntKind.i64.wrap (0 + 1) + 1) + 1)).toNat != 49)
    ((K (SV.tup [(TV.agg [(At.val (Value.int IntKind.u64 0)), (At.val (Value.int IntKind.u32 0)), (At.slc 1), (At.slc 2)]), (TV.at (At.val (Value.int IntKind.i64 13)))]) [(Chunk.row false (EC.u8) (b)), (Chunk.row true (EC.pn) []), (Chunk.row true (EC.u64) [])] [])) ((∃ x : PLift (mgD magB b = 0), (True ∧ (True ∧ True ∧ True) ∧ ((b) = (b)) ∧ (((Value.int IntKind.u64 0) = (Value.int IntKind.u64 0)) ∧ ((Value.int IntKind.u32 0) = (Value.int IntKind.u32 0)) ∧ True ∧ True ∧ True) ∧ ((([] : List PNT) = [])) ∧ ((([] : List Int) = [])) ∧ True)))))))))))))))))))))) ∧
(∀ x : PLift (mgD magB b = 0), (True → ((allB b) ∧ (b.length ≤ 1000000000) ∧ (∀ p : List Int, (∀ n : Int, (∀ e : Int, (((nxD b 4) = (Prod.mk (p) (Prod.mk (n) (e)))) → ((brS (e != 0) ((K (SV.tup [(TV.agg [(At.val (Value.int IntKind.u64 0)), (At.val (Value.int IntKind.u32 0)), (At.slc 1), (At.slc 2)]), (TV.at (At.val (Value.int IntKind.i64 (e))))]) [(Chunk.row false (EC.u8) (b)), (Chunk.row true (EC.pn) []), (Chunk.row true (EC.u64) [])] [])) ((∃ x1 : XRa P1, (True ∧ (True ∧ True ∧ True ∧ ((Value.int IntKind.i64 (n)) = (Value.int IntKind.i64 (x1.n))) ∧ True) ∧ ((b) = (b)) ∧ (((Value.int IntKind.u64 0) = (Value.int IntKind.u64 0)) ∧ ((Value.int IntKind.u32 0) = (Value.int IntKind.u32 0)) ∧ True ∧ True ∧ True) ∧ ((([] : List PNT) = [])) ∧ ((([] : List Int) = [])) ∧ ((p) = (x1.p)) ∧ True)))) ∧ (∀ x1 : XRa P1, (True → ((((0 : Int) = 0) ∧ (allB x1.p) ∧ (x1.p.length ≤ 1000000000) ∧ (((hdD x1.p) = none) → (∀ kk : Int, (∃ x2 : XRd P0,
    (True ∧ (True ∧ True ∧ ((Value.int IntKind.i64 (x1.n)) = (Value.int IntKind.i64 (x2.n))) ∧ True ∧ ((Value.int IntKind.u64 0) = (Value.int IntKind.u64 (x2.m))) ∧ ((Value.int IntKind.u64 0) = (Value.int IntKind.u64 (x2.r))) ∧ ((Value.bool false) = (Value.bool (x2.ok))) ∧ True) ∧ ((b) = (b)) ∧ (((Value.int IntKind.u64 0) = (Value.int IntKind.u64 0)) ∧ ((Value.int IntKind.u32 0) = (Value.int IntKind.u32 0)) ∧ True ∧ True ∧ True) ∧ ((([] : List PNT) = [])) ∧ ((([] : List Int) = [])) ∧ (((Value.int IntKind.u64 (kk)) = (Value.int IntKind.u64 (x2.k))) ∧ ((Value.int IntKind.u32 0) = (Value.int IntKind.u32 (x2.D))) ∧ True ∧ True ∧ True) ∧ ((([] : List PNT) = [])) ∧ ((([] : List Int) = [])) ∧ True)))) ∧ (∀ k : Int, (∀ m : Int, (∀ r : Int, (∀ D : Int, (((hdD x1.p) = (some (Prod.mk (k) (Prod.mk (m) (Prod.mk (r) (D)))))) → (∃ x2 : XRd P0, (True ∧ (True ∧ True ∧ ((Value.int IntKind.i64 (x1.n)) = (Value.int IntKind.i64 (x2.n))) ∧ True ∧ ((Value.int IntKind.u64 (m)) = (Value.int IntKind.u64 (x2.m))) ∧ ((Value.int IntKind.u64 (r)) = (Value.int IntKind.u64 (x2.r))) ∧ ((Value.bool true) = (Value.bool (x2.ok))) ∧ True) ∧ ((b) = (b)) ∧ (((Value.int IntKind.u64 0) = (Value.int IntKind.u64 0)) ∧ ((Value.int IntKind.u32 0) = (Value.int IntKind.u32 0)) ∧ True ∧ True ∧ True) ∧ ((([] : List PNT) = [])) ∧ ((([] : List Int) = [])) ∧ (((Value.int IntKind.u64 (k)) = (Value.int IntKind.u64 (x2.k))) ∧ ((Value.int IntKind.u32 (D)) = (Value.int IntKind.u32 (x2.D))) ∧ True ∧ True ∧ True) ∧
    ((([] : List PNT) = [])) ∧ ((([] : List Int) = [])) ∧ True)))))))) ∧ (∀ x2 : XRd P0, (True → ((brS (!x2.ok) ((K (SV.tup [(TV.agg [(At.val (Value.int IntKind.u64 0)), (At.val (Value.int IntKind.u32 0)), (At.slc 1), (At.slc 2)]), (TV.at (At.val (Value.int IntKind.i64 13)))]) [(Chunk.row false (EC.u8) (b)), (Chunk.row true (EC.pn) []), (Chunk.row true (EC.u64) [])] [])) ((∃ x3 : XRb P2, (True ∧ (True ∧ True ∧ ((Value.int IntKind.i64 (x2.n)) = (Value.int IntKind.i64 (x3.n))) ∧ True ∧ ((Value.int IntKind.u64 (x2.m)) = (Value.int IntKind.u64 (x3.m))) ∧ ((Value.int IntKind.u64 (x2.r)) = (Value.int IntKind.u64 (x3.r))) ∧ True) ∧ ((b) = (b)) ∧ (((Value.int IntKind.u64 0) = (Value.int IntKind.u64 0)) ∧ ((Value.int IntKind.u32 0) = (Value.int IntKind.u32 0)) ∧ True ∧ True ∧ True) ∧ ((([] : List PNT) = [])) ∧ ((([] : List Int) = [])) ∧ (((Value.int IntKind.u64 (x2.k)) = (Value.int IntKind.u64 (x3.k))) ∧ ((Value.int IntKind.u32 (x2.D)) = (Value.int IntKind.u32 (x3.D))) ∧ True ∧ True ∧ True) ∧ ([] = (x3.ns)) ∧ ((([] : List Int) = [])) ∧ True)))) ∧ (∀ x3 : XRb P2, (True → (((∃ x4 : XRb P3, (True ∧ (True ∧ True ∧ ((Value.int IntKind.i64 (x3.n)) = (Value.int IntKind.i64 (x4.n))) ∧ True ∧ ((Value.int IntKind.u64 (x3.m)) = (Value.int IntKind.u64 (x4.m))) ∧ ((Value.int IntKind.u64 (x3.r)) = (Value.int IntKind.u64 (x4.r))) ∧ ((Value.int IntKind.u64 0) = (Value.int IntKind.u64 ((↑x4.i : Int)))) ∧ True) ∧ ((b) = (b)) ∧ (((Value.int IntKind.u64 0) = (Value.int IntKind.u64 0)) ∧
    ((Value.int IntKind.u32 0) = (Value.int IntKind.u32 0)) ∧ True ∧ True ∧ True) ∧ ((([] : List PNT) = [])) ∧ ((([] : List Int) = [])) ∧ (((Value.int IntKind.u64 (x3.k)) = (Value.int IntKind.u64 (x4.k))) ∧ ((Value.int IntKind.u32 (x3.D)) = (Value.int IntKind.u32 (x4.D))) ∧ True ∧ True ∧ True) ∧ ((x3.ns) = (x4.ns)) ∧ ((([] : List Int) = [])) ∧ True)) ∧ (∀ x4 : XRb P3, (True → (brS (decide ((↑x4.i : Int) < x4.m)) (((allB b) ∧ (b.length ≤ 1000000000) ∧ (∀ p1 : List Int, (∀ n1 : Int, (∀ e1 : Int, (((nxD b x4.n) = (Prod.mk (p1) (Prod.mk (n1) (e1)))) → (brS (e1 != 0) ((K (SV.tup [(TV.agg [(At.val (Value.int IntKind.u64 0)), (At.val (Value.int IntKind.u32 0)), (At.slc 1), (At.slc 2)]), (TV.at (At.val (Value.int IntKind.i64 (e1))))]) [(Chunk.row false (EC.u8) (b)), (Chunk.row true (EC.pn) []), (Chunk.row true (EC.u64) [])] [])) (((0 ≤ x4.k) ∧ (x4.k ≤ 65536) ∧ (x4.ns.length ≤ 65536) ∧ (allB p1) ∧ (p1.length ≤ 1000000000) ∧ (((ndD (x4.k + (↑x4.ns.length : Int) + 1) p1) = none) → (K (SV.tup [(TV.agg [(At.val (Value.int IntKind.u64 0)), (At.val (Value.int IntKind.u32 0)), (At.slc 1), (At.slc 2)]), (TV.at (At.val (Value.int IntKind.i64 13)))]) [(Chunk.row false (EC.u8) (b)), (Chunk.row true (EC.pn) []), (Chunk.row true (EC.u64) [])] [])) ∧ (∀ x5 : PNT, (((ndD (x4.k + (↑x4.ns.length : Int) + 1) p1) = (some (x5))) → (∃ x' : XRb P3, (True ∧ ((True ∧ True ∧ ((Value.int IntKind.i64 (n1)) = (Value.int IntKind.i64 (x'.n))) ∧ True ∧ ((Value.int IntKind.u64 (x4.m)) = (Value.int IntKind.u64 (x'.m))) ∧
    ((Value.int IntKind.u64 (x4.r)) = (Value.int IntKind.u64 (x'.r))) ∧ ((Value.int IntKind.u64 (IntKind.u64.wrap ((↑x4.i : Int) + 1))) = (Value.int IntKind.u64 ((↑x'.i : Int)))) ∧ True) ∧ ((b) = (b)) ∧ (((Value.int IntKind.u64 0) = (Value.int IntKind.u64 0)) ∧ ((Value.int IntKind.u32 0) = (Value.int IntKind.u32 0)) ∧ True ∧ True ∧ True) ∧ ((([] : List PNT) = [])) ∧ ((([] : List Int) = [])) ∧ (((Value.int IntKind.u64 (x4.k)) = (Value.int IntKind.u64 (x'.k))) ∧ ((Value.int IntKind.u32 (x4.D)) = (Value.int IntKind.u32 (x'.D))) ∧ True ∧ True ∧ True) ∧ ((x4.ns ++ [x5]) = (x'.ns)) ∧ ((([] : List Int) = [])) ∧ True) ∧ (x'.m.toNat - x'.i < x4.m.toNat - x4.i)))))))))))))) ((∃ x5 : XRb P4, (True ∧ (True ∧ True ∧ ((Value.int IntKind.i64 (x4.n)) = (Value.int IntKind.i64 (x5.n))) ∧ True ∧ ((Value.int IntKind.u64 (x4.r)) = (Value.int IntKind.u64 (x5.r))) ∧ True) ∧ ((b) = (b)) ∧ (((Value.int IntKind.u64 0) = (Value.int IntKind.u64 0)) ∧ ((Value.int IntKind.u32 0) = (Value.int IntKind.u32 0)) ∧ True ∧ True ∧ True) ∧ ((([] : List PNT) = [])) ∧ ((([] : List Int) = [])) ∧ (((Value.int IntKind.u64 (x4.k)) = (Value.int IntKind.u64 (x5.k))) ∧ ((Value.int IntKind.u32 (x4.D)) = (Value.int IntKind.u32 (x5.D))) ∧ True ∧ True ∧ True) ∧ ((x4.ns) = (x5.ns)) ∧ ((([] : List Int) = [])) ∧ True))))))) ∧ (∀ x4 : XRb P4, (True → (((allB b) ∧ (b.length ≤ 1000000000) ∧ (∀ p1 : List Int, (∀ n1 : Int, (∀ e1 : Int, (((nxD b x4.n) = (Prod.mk (p1) (Prod.mk (n1) (e1)))) → (brS (e1 != 0)
    ((K (SV.tup [(TV.agg [(At.val (Value.int IntKind.u64 0)), (At.val (Value.int IntKind.u32 0)), (At.slc 1), (At.slc 2)]), (TV.at (At.val (Value.int IntKind.i64 (e1))))]) [(Chunk.row false (EC.u8) (b)), (Chunk.row true (EC.pn) []), (Chunk.row true (EC.u64) [])] [])) ((∃ x5 : XRc P5, (True ∧ (True ∧ True ∧ True ∧ ((Value.int IntKind.i64 (n1)) = (Value.int IntKind.i64 (x5.n))) ∧ True ∧ ((Value.int IntKind.u64 (x4.r)) = (Value.int IntKind.u64 (x5.r))) ∧ True) ∧ ((b) = (b)) ∧ (((Value.int IntKind.u64 0) = (Value.int IntKind.u64 0)) ∧ ((Value.int IntKind.u32 0) = (Value.int IntKind.u32 0)) ∧ True ∧ True ∧ True) ∧ ((([] : List PNT) = [])) ∧ ((([] : List Int) = [])) ∧ (((Value.int IntKind.u64 (x4.k)) = (Value.int IntKind.u64 (x5.k))) ∧ ((Value.int IntKind.u32 (x4.D)) = (Value.int IntKind.u32 (x5.D))) ∧ True ∧ True ∧ True) ∧ ((x4.ns) = (x5.ns)) ∧ ((([] : List Int) = [])) ∧ ((p1) = (x5.p)) ∧ True))))))))) ∧ (∀ x5 : XRc P5, (True → (((([] : List Int) = [])) ∧ (0 ≤ x5.k) ∧ (x5.k ≤ 65536) ∧ (x5.ns.length ≤ 65536) ∧ (0 ≤ x5.r) ∧ (x5.r ≤ 1000000) ∧ (allB x5.p) ∧ (x5.p.length ≤ 1000000000) ∧ (((tlD (x5.k + (↑x5.ns.length : Int)) x5.r.toNat x5.p) = none) → (∀ r : List Int, (K (SV.tup [(TV.agg [(At.val (Value.int IntKind.u64 0)), (At.val (Value.int IntKind.u32 0)), (At.slc 1), (At.slc 2)]), (TV.at (At.val (Value.int IntKind.i64 13)))]) [(Chunk.row false (EC.u8) (b)), (Chunk.row true (EC.pn) []), (Chunk.row true (EC.u64) [])] []))) ∧ (∀ r : List Int,
    (((tlD (x5.k + (↑x5.ns.length : Int)) x5.r.toNat x5.p) = (some (r))) → (brS (x5.n != (↑b.length : Int)) ((K (SV.tup [(TV.agg [(At.val (Value.int IntKind.u64 0)), (At.val (Value.int IntKind.u32 0)), (At.slc 1), (At.slc 2)]), (TV.at (At.val (Value.int IntKind.i64 13)))]) [(Chunk.row false (EC.u8) (b)), (Chunk.row true (EC.pn) []), (Chunk.row true (EC.u64) [])] [])) ((K (SV.tup [(TV.agg [(At.val (Value.int IntKind.u64 (x5.k))), (At.val (Value.int IntKind.u32 (x5.D))), (At.slc 1), (At.slc 2)]), (TV.at (At.val (Value.int IntKind.i64 0)))]) [(Chunk.row false (EC.u8) (b)), (Chunk.row true (EC.pn) (x5.ns)), (Chunk.row true (EC.u64) (r))] []))))))))))))))))))))))))))))) = _ by kernel_rfl) ?_
  subst hP1 hP0 hP2 hP3 hP4 hP5
  have er : ∀ e, pkD b = (e, .zero) → K (.tup [.agg [vU64 0, vU 0, .slc 1, .slc 2], .at (vI e)]) [.row false EC.u8 b, .row true EC.pn [], .row true EC.u64 []] [] := fun e q => h e .zero q
  have em : ∀ e : Int, e ≠ 0 → mgD magB b = e → K (.tup [.agg [vU64 0, vU 0, .slc 1, .slc 2], .at (vI e)]) [.row false EC.u8 b, .row true EC.pn [], .row true EC.u64 []] [] := fun e e0 q => er e (by unfold pkD; rw [if_pos (by rw [q]; exact e0), q])
  obtain ⟨m1, m2, m3, m4, m5, m6, m7, m8, m9⟩ := mg_cases b
  have ne_of : ∀ {x y : Int}, (x != y) = true → x ≠ y := fun {x y} q e => by rw [e] at q; simp at q
  have eq_of : ∀ {x y : Int}, (x != y) = false → x = y := fun {x y} q => by simpa using q
  have bn : ∀ {x y : Int}, (x == y) = false → x ≠ y := fun {x y} q e => by rw [e] at q; simp at q
  have w1 : IntKind.i64.wrap (0 + 1) = 1 := by decide
  have w2 : IntKind.i64.wrap (1 + 1) = 2 := by decide
  have w3 : IntKind.i64.wrap (2 + 1) = 3 := by decide
  rw [w1, w2, w3, show Int.toNat 0 = 0 from rfl, show Int.toNat 1 = 1 from rfl, show Int.toNat 2 = 2 from rfl, show Int.toNat 3 = 3 from rfl]
  refine ⟨brS_of (fun z => em 12 (by decide) (m1 (by have := eq_of_beq z; omega))) fun z0 => ⟨by decide, by have := bn z0; omega, brS_of (fun z => em 13 (by decide) (m2 (by have := bn z0; omega) (ne_of z))) fun y0 =>
    brS_of (fun z => em 12 (by decide) (m3 (eq_of y0) (by have := eq_of_beq z; omega))) fun z1 => ⟨by decide, by have := bn z0; have := bn z1; omega, brS_of (fun z => em 13 (by decide) (m4 (eq_of y0) (by have := bn z0; have := bn z1; omega) (ne_of z))) fun y1 =>
    brS_of (fun z => em 12 (by decide) (m5 (eq_of y0) (eq_of y1) (by have := eq_of_beq z; omega))) fun z2 => ⟨by decide, by have := bn z0; have := bn z1; have := bn z2; omega, brS_of (fun z => em 13 (by decide) (m6 (eq_of y0) (eq_of y1) (by have := bn z0; have := bn z1; have := bn z2; omega) (ne_of z))) fun y2 =>
    brS_of (fun z => em 12 (by decide) (m7 (eq_of y0) (eq_of y1) (eq_of y2) (by have := eq_of_beq z; omega))) fun z3 => ⟨by decide, by have := bn z0; have := bn z1; have := bn z2; have := bn z3; omega, brS_of (fun z => em 13 (by decide) (m8 (eq_of y0) (eq_of y1) (eq_of y2) (by have := bn z0; have := bn z1; have := bn z2; have := bn z3; omega) (ne_of z))) fun y3 => ?_⟩⟩⟩⟩, fun x _ => ?_⟩
  · refine ⟨⟨m9 (eq_of y0) (eq_of y1) (eq_of y2) (eq_of y3) (by have := bn z0; have := bn z1; have := bn z2; have := bn z3; omega)⟩, ?_⟩
    (repeat' first | exact trivial | exact rfl | refine And.intro ?_ ?_)
  obtain ⟨mg⟩ := x
  clear m1 m2 m3 m4 m5 m6 m7 m8 m9
  refine ⟨hb, by omega, fun p n e he => ⟨brS_of (fun z => er e ?_) fun z => ⟨⟨p, n, mg, ?_⟩, ?_⟩, fun x1 _ => ?_⟩⟩
  · have z := ne_of z
    unfold pkD
    rw [if_neg (by rw [mg]; simp), he]
    simp only [ne_eq, z, not_false_eq_true, if_true]
  · rw [he, eq_of z]
  · (repeat' first | exact trivial | exact rfl | refine And.intro ?_ ?_)
  obtain ⟨p, n, mg, he⟩ := x1
  have pr := nxD_rng hb he
  refine ⟨⟨rfl, pr.1, by show p.length ≤ _; omega, fun hd kk => ⟨⟨false, kk, 0, 0, 0, n, mg, p, he, pr.1, fun _ => hd, fun e => (by cases e)⟩, ?_⟩, fun k m r D hd => ⟨⟨true, k, m, r, D, n, mg, p, he, pr.1, fun e => (by cases e), fun _ => hd⟩, ?_⟩⟩, fun x2 _ => ⟨brS_of (fun z => ?_) fun z => ?_, fun x3 _ => ⟨⟨?_, fun x4 _ => brS_of (fun y => ?_) fun y => ?_⟩, fun x4 _ => ⟨?_, fun x5 _ => ?_⟩⟩⟩⟩
  · (repeat' first | exact trivial | exact rfl | refine And.intro ?_ ?_)
  · (repeat' first | exact trivial | exact rfl | refine And.intro ?_ ?_)
  · obtain ⟨ok, k, m, r, D, n, mg, p, he, pb, h1, h2⟩ := x2
    dsimp only at z
    have z : ok = false := by simpa using z
    refine er 13 ?_
    unfold pkD
    rw [if_neg (by rw [mg]; simp), he]
    simp only [ne_eq, not_true_eq_false, if_false, h1 z]
  · obtain ⟨ok, k, m, r, D, n, mg, p, he, pb, h1, h2⟩ := x2
    dsimp only at z ⊢
    have z : ok = true := by simpa using z
    refine ⟨⟨k, m, r, D, [], n, 0, ⟨mg, p, he, pb, h2 z⟩, rfl⟩, ?_⟩
    (repeat' first | exact trivial | exact rfl | refine And.intro ?_ ?_)
  · obtain ⟨k, m, r, D, ns, n, _, F, rfl⟩ := x3
    refine ⟨⟨k, m, r, D, [], n, 0, n, F, Nat.zero_le _, rfl, by rw [Nat.sub_zero]⟩, ?_⟩
    (repeat' first | exact trivial | exact rfl | refine And.intro ?_ ?_)
  · obtain ⟨k, m, r, D, ns, n, i, n0, F, hi, hn, hq⟩ := x4
    dsimp only at y ⊢
    obtain ⟨k2, m2, r2⟩ := F.rng
    have y : i < m.toNat := by have := of_decide_eq_true y; omega
    obtain ⟨d, ed⟩ : ∃ d, m.toNat - i = d + 1 := ⟨m.toNat - i - 1, by omega⟩
    refine ⟨hb, by omega, fun p2 n2 e2 he2 => ?_⟩
    have pr2 := nxD_rng hb he2
    have hs := nsD_succ (k := k) (d := d) (ns := ns) he2
    rw [ed, hs] at hq
    refine brS_of (fun q => er e2 ?_) fun q => ⟨k2.1, k2.2, by omega, pr2.1, by omega, fun hx => er 13 ?_, fun x hx => ?_⟩
    · have q := ne_of q
      rw [if_pos q] at hq
      rw [F.pk hq, if_pos q]
    · rw [if_neg (by rw [eq_of q]; simp), hx] at hq
      rw [F.pk hq, if_pos (by decide)]
    · rw [if_neg (by rw [eq_of q]; simp), hx] at hq
      rw [wrap_u64 (x := (i : Int) + 1) (by omega) (by omega)]
      refine ⟨⟨k, m, r, D, ns ++ [x], n2, i + 1, n0, F, y, by rw [List.length_append, hn]; rfl, by rw [hq, show m.toNat - (i + 1) = d by omega]⟩, trivial, ?_, by show m.toNat - (i + 1) < m.toNat - i; omega⟩
      (repeat' first | exact trivial | exact rfl | refine And.intro ?_ ?_)
  · obtain ⟨k, m, r, D, ns, n, i, n0, F, hi, hn, hq⟩ := x4
    dsimp only at y ⊢
    obtain ⟨k2, m2, r2⟩ := F.rng
    have y : m.toNat - i = 0 := by have := of_decide_eq_false y; omega
    rw [y] at hq
    refine ⟨⟨k, m, r, D, ns, n, 0, n0, F, by omega, hq⟩, trivial, ?_⟩
    (repeat' first | exact trivial | exact rfl | refine And.intro ?_ ?_)
  · obtain ⟨k, m, r, D, ns, n, _, n0, F, hn, hq⟩ := x4
    dsimp only
    refine ⟨hb, by omega, fun p2 n2 e2 he2 => brS_of (fun q => er e2 ?_) fun q => ⟨⟨k, m, r, D, ns, n2, p2, n0, n, F, hn, hq, by rw [he2, eq_of q]⟩, ?_⟩⟩
    · rw [F.pk hq, if_neg (by simp), he2]
      simp only [ne_eq, ne_of q, not_false_eq_true, if_true]
    · (repeat' first | exact trivial | exact rfl | refine And.intro ?_ ?_)
  · obtain ⟨k, m, r, D, ns, n, p2, n0, n1, F, hn, hq, he2⟩ := x5
    dsimp only
    obtain ⟨k2, m2, r2⟩ := F.rng
    have pr2 := nxD_rng hb he2
    have pk := F.pk hq
    rw [if_neg (by simp), he2] at pk
    simp only [ne_eq, not_true_eq_false, if_false] at pk
    refine ⟨rfl, k2.1, k2.2, hn, r2.1, by omega, pr2.1, by omega, fun ht rr => er 13 ?_, fun rs ht => brS_of (fun q => er 13 ?_) fun q => h 0 ⟨k, D, ns, rs⟩ ?_⟩
    · rw [pk, ht]
    · rw [pk, ht]
      simp only [ne_of q, if_false]
    · rw [pk, ht]
      simp only [eq_of q, if_true]
theorem s_re : SoundT C0 23 tRe := by
  refine .of Try.func23 (by decide) rfl fun args H K h hB => ?_
  unfold tRe at h
  split at h <;> try exact h.elim
  rename_i b
  refine ⟨_, ?_, vc_re b K h.1 h.2.1 h.2.2⟩
  exact ⟨frame C0.ok s_nx _, frame C0.ok s_hd _, frame C0.ok s_no _, frame C0.ok s_tl _, trivial⟩
end Go.Proofs.Ytedfbafngmicpaa.Sx
end
section
/- Ranks and positions. -/
namespace Go.Proofs.Ytedfbafngmicpaa.Sx
open Go

/-KEEP Wf exW inU live Arn.cap Arn.free Rep rdS Tr.size ne0 bf sel selR-/
structure XBf (S : Arn) (t : Tr) (q : Int) (eq : Bool) where
  i : Int
  t' : Tr
  c : Nat
  m : Nat
  h : Rep S t' i ∧ bf t q eq = (c + (bf t' q eq).1, m + (bf t' q eq).2) ∧ t'.size ≤ t.size
structure XSel (S : Arn) (t : Tr) (n : Int) where
  i : Int
  j : Int
  t' : Tr
  m : Nat
  h : Rep S t' i ∧ sel t n = ((sel t' j).1, m + (sel t' j).2) ∧ t'.size ≤ t.size ∧ 0 ≤ j ∧ j < t'.size
def entO (o : Option Ent) : TV := .agg [vI (o.getD (0, 0)).1, vI (o.getD (0, 0)).2]
end Go.Proofs.Ytedfbafngmicpaa.Sx
end
section
/- The nearest entries of a tree. No program in sight. -/
namespace Go.Proofs.Ytedfbafngmicpaa
open Go

end Go.Proofs.Ytedfbafngmicpaa
end
section
/- The nearest entries of a tree: lookup's functions. -/
namespace Go.Proofs.Ytedfbafngmicpaa.Sx
open Go

/-KEEP Wf exW inU live Arn.cap Arn.free Rep rdS Tr.size lsT gtT entO-/
def tEntry : Tfm C0 := fun args H K => match args, H with
  | [.agg [.val (.int .i64 k), .val (.int .i64 v), .val (.int .u32 _), .val (.int .u32 _), .val (.int .i64 _), .val (.int .i64 _), .val (.int .i64 _), .val (.int .i64 _)]], [] => K (.one (.agg [vI k, vI v])) [] []
  | _, _ => False
theorem s_entry : SoundT C0 93 tEntry := by
  refine .of Try.func93 (by decide) rfl fun args H K h hB => ⟨A0, trivial, ?_⟩
  unfold tEntry at h
  split at h <;> try exact h.elim
  exact Eq.mp (show _ = _ by kernel_rfl) h
structure XNr (F : Tr → (Int → Bool) → Option Ent → Option Ent × Nat) (S : Arn) (t : Tr) (p : Int → Bool) where
  i : Int
  t' : Tr
  b : Option Ent
  m : Nat
  h : Rep S t' i ∧ F t p none = ((F t' p b).1, m + (F t' p b).2) ∧ t'.size ≤ t.size
end Go.Proofs.Ytedfbafngmicpaa.Sx
end
section
/- How high a balanced tree is at most, and how many nodes a listing reads. No program in sight. -/
namespace Go.Proofs.Ytedfbafngmicpaa
open Go

/-- The least weights of trees of the heights 0 to 80. -/
def wtsL : List Int := [1, 2, 3, 4, 6, 8, 11, 15, 20, 27, 36, 48, 64, 86, 115, 154, 206, 275, 367, 490, 654, 872, 1163, 1551, 2068, 2758, 3678, 4904, 6539, 8719, 11626, 15502, 20670, 27560, 36747, 48996, 65328, 87104, 116139, 154852, 206470, 275294, 367059, 489412, 652550, 870067, 1160090, 1546787, 2062383, 2749844, 3666459, 4888612, 6518150, 8690867, 11587823, 15450431, 20600575, 27467434, 36623246, 48830995, 65107994, 86810659, 115747546, 154330062, 205773416, 274364555, 365819407, 487759210, 650345614, 867127486, 1156169982, 1541559976, 2055413302, 2740551070, 3654068094, 4872090792, 6496121056, 8661494742, 11548659656, 15398212875, 20530950500]
def wt (h : Nat) : Int := wtsL.getD h 0
def hnC : List Int → Int → Int → Int
  | [], h, _ => h
  | w :: l, h, k => if w - 1 ≤ k then hnC l (h + 1) k else h
/-- The greatest height of a tree with k keys. -/
def Hn (k : Int) : Int := hnC (wtsL.drop 1) 0 k
theorem wt_step : ∀ h < 80, wt (h + 1) = wt h + (wt h + 2) / 3 := by decide
theorem hnC_le : ∀ (l : List Int) (h k : Int), h ≤ hnC l h k
  | [], _, _ => Int.le_refl _
  | w :: l, h, k => by
    unfold hnC
    split
    · have := hnC_le l (h + 1) k; omega
    · exact Int.le_refl _
theorem hnC_ge : ∀ (l : List Int) (h k : Int) (m : Nat), m ≤ l.length → (∀ i < m, l.getD i 0 - 1 ≤ k) → h + m ≤ hnC l h k
  | [], h, k, m, hm, _ => by have : m = 0 := by simpa using hm
                             subst this; show h + 0 ≤ h; omega
  | w :: l, h, k, 0, _, _ => by have := hnC_le (w :: l) h k; show h + 0 ≤ _; omega
  | w :: l, h, k, m + 1, hm, hk => by
    have h0 := hk 0 (by omega)
    unfold hnC
    rw [if_pos (by simpa using h0)]
    have := hnC_ge l (h + 1) k m (by simpa using hm) (fun i hi => by have := hk (i + 1) (by omega); simpa using this)
    omega
theorem hnC_up : ∀ (l : List Int) (h k : Int), hnC l h k ≤ h + l.length
  | [], h, k => by show h ≤ h + 0; omega
  | w :: l, h, k => by
    unfold hnC
    have := hnC_up l (h + 1) k
    rw [List.length_cons]
    split <;> omega
theorem Hn_rng (k : Int) : 0 ≤ Hn k ∧ Hn k ≤ 80 := by
  have h1 := hnC_le (wtsL.drop 1) 0 k
  have h2 := hnC_up (wtsL.drop 1) 0 k
  have h3 : (wtsL.drop 1).length = 80 := rfl
  unfold Hn
  omega
def ht : Tr → Nat
  | .nil => 0
  | .node l _ _ r => 1 + (if ht l ≤ ht r then ht r else ht l)
theorem bal_wt : ∀ (t : Tr) (h : Nat), t.Bal → h ≤ 80 → h ≤ ht t → wt h ≤ t.size + 1
  | t, 0, _, _, _ => by have : wt 0 = 1 := rfl
                        rw [this]; omega
  | .nil, h + 1, _, _, hh => by simp [ht] at hh
  | .node l k v r, h + 1, hb, h8, hh => by
    obtain ⟨b0, bl, br⟩ := hb
    unfold balN at b0
    have hs : ((Tr.node l k v r).size : Int) = 1 + l.size + r.size := by simp [Tr.size]
    have st := wt_step h (by omega)
    have hh : h + 1 ≤ 1 + (if ht l ≤ ht r then ht r else ht l) := hh
    by_cases c : ht l ≤ ht r
    · rw [if_pos c] at hh
      have := bal_wt r h br (by omega) (by omega)
      omega
    · rw [if_neg c] at hh
      have := bal_wt l h bl (by omega) (by omega)
      omega
/-- A balanced tree is no higher than its number of keys allows. -/
theorem Bal.height {t : Tr} (hb : t.Bal) (hs : t.size ≤ 1000000) : (ht t : Int) ≤ Hn t.size := by
  have h80 : ht t ≤ 80 := by
    by_cases c : ht t ≤ 80
    · exact c
    · have := bal_wt t 80 hb (Nat.le_refl _) (by omega)
      have e : wt 80 = 20530950500 := rfl
      omega
  have hl : (wtsL.drop 1).length = 80 := rfl
  have := hnC_ge (wtsL.drop 1) 0 t.size (ht t) (by omega) (fun i hi => by
    have e : (wtsL.drop 1).getD i 0 = wt (i + 1) := by simp [wt, List.getD_eq_getElem?_getD]
    have := bal_wt t (i + 1) hb (by omega) (by omega)
    rw [e]; omega)
  unfold Hn
  omega

/-! ### Reads of a listing by keys -/
theorem ht_l (l r : Tr) (k v : Int) : 1 + ht l ≤ ht (.node l k v r) := by rw [ht]; split <;> omega
theorem ht_r (l r : Tr) (k v : Int) : 1 + ht r ≤ ht (.node l k v r) := by rw [ht]; split <;> omega
/-! ### Reads of a listing by places -/
end Go.Proofs.Ytedfbafngmicpaa
end
section
/- What joining trees costs, and that one rotation is enough. No program in sight. -/
namespace Go.Proofs.Ytedfbafngmicpaa
open Go

/-! ### The greatest height of a weight -/
/-- The greatest h whose least weight is at most w. -/
def gN (w : Nat) : Nat := (Hn ((w : Int) - 1)).toNat
theorem hnC_spec : ∀ (l : List Int) (h k : Int) (i : Nat), (i : Int) < hnC l h k - h → l.getD i 0 - 1 ≤ k
  | [], h, k, i, hi => by simp [hnC] at hi; omega
  | w :: l, h, k, i, hi => by
    unfold hnC at hi
    split at hi
    · rename_i c
      cases i with
      | zero => simpa using c
      | succ i => have := hnC_spec l (h + 1) k i (by omega); simpa using this
    · omega
theorem wtsL_drop (i : Nat) : (wtsL.drop 1).getD i 0 = wt (i + 1) := by simp [wt, List.getD_eq_getElem?_getD]
theorem gN_rng (w : Nat) : gN w ≤ 80 := by have := Hn_rng ((w : Int) - 1); unfold gN; omega
theorem gN_Hn (w : Nat) : (gN w : Int) = Hn ((w : Int) - 1) := by have := Hn_rng ((w : Int) - 1); unfold gN; omega
theorem gN_size (n : Nat) : (gN (n + 1) : Int) = Hn n := by rw [gN_Hn]; congr 1; omega
theorem gN_wt {w : Nat} (hw : 1 ≤ w) : wt (gN w) ≤ w := by
  have h0 := Hn_rng ((w : Int) - 1)
  have e := gN_Hn w
  cases h : gN w with
  | zero => have : wt 0 = 1 := rfl
            rw [this]; omega
  | succ g =>
    have := hnC_spec (wtsL.drop 1) 0 ((w : Int) - 1) g (by unfold Hn at e; omega)
    rw [wtsL_drop] at this
    omega
theorem wt_mono1 : ∀ h < 80, wt h < wt (h + 1) := by decide
theorem wt_mono : ∀ {i j : Nat}, i ≤ j → j ≤ 80 → wt i ≤ wt j := by
  intro i j h
  induction h with
  | refl => intro _; exact Int.le_refl _
  | @step m h ih => intro hj; have := ih (by omega); have := wt_mono1 m (by omega); show wt i ≤ wt (m + 1); omega
theorem gN_le {w h : Nat} (h8 : h ≤ 80) (hw : wt h ≤ w) : h ≤ gN w := by
  have hl : (wtsL.drop 1).length = 80 := rfl
  have := hnC_ge (wtsL.drop 1) 0 ((w : Int) - 1) h (by omega) (fun i hi => by
    rw [wtsL_drop]
    have := wt_mono (show i + 1 ≤ h by omega) h8
    omega)
  have e := gN_Hn w
  unfold Hn at e
  omega
theorem gN_mono {v w : Nat} (hv : 1 ≤ v) (h : v ≤ w) : gN v ≤ gN w := gN_le (gN_rng v) (by have := gN_wt hv; omega)
theorem gN_small {w : Nat} (hw : 1 ≤ w) (h : w ≤ 1000000) : gN w ≤ 60 := by
  by_cases c : gN w ≤ 60
  · exact c
  · have h1 := gN_wt hw
    have h2 := wt_mono (show 61 ≤ gN w by omega) (gN_rng w)
    have : wt 61 = 86810659 := rfl
    omega
theorem gN_step {m w : Nat} (hm : 1 ≤ m) (h : 4 * m ≤ 3 * w) (hw : w ≤ 1000000) : gN m + 1 ≤ gN w := by
  have h1 := gN_small hm (by omega)
  have h2 := gN_wt hm
  have h3 := wt_step (gN m) (by omega)
  exact gN_le (by omega) (by omega)
theorem wt_step4 : ∀ h < 77, 4 ≤ h → wt (h + 4) ≤ 4 * wt h - 2 := by decide
theorem gN_step4 {r w : Nat} (hr : 5 ≤ r) (h : 4 * r ≤ w + 2) (hw : w ≤ 1000000) : gN r + 4 ≤ gN w := by
  have h1 := gN_small (w := r) (by omega) (by omega)
  have h2 := gN_wt (w := r) (by omega)
  have h3 : 3 ≤ gN r := gN_le (by decide) (by have : wt 3 = 4 := rfl
                                              omega)
  by_cases c : gN r = 3
  · rw [c]; exact gN_le (by decide) (by have : wt (3 + 4) = 15 := rfl
                                        omega)
  · have := wt_step4 (gN r) (by omega) (by omega)
    exact gN_le (by omega) (by omega)

/-! ### How often a join goes down -/
def dsc (w v : Nat) : Nat := if h : w ≤ 3 * v then 0 else 1 + dsc (3 * w / 4) v
termination_by w
decreasing_by omega
theorem dsc_zero {w v : Nat} (h : w ≤ 3 * v) : dsc w v = 0 := by rw [dsc, dif_pos h]
theorem dsc_succ {w v : Nat} (h : ¬ w ≤ 3 * v) : dsc w v = 1 + dsc (3 * w / 4) v := by rw [dsc, dif_neg h]
theorem dsc_mono (v : Nat) : ∀ (n w w' : Nat), w' < n → w ≤ w' → dsc w v ≤ dsc w' v := by
  intro n
  induction n with
  | zero => intro w w' h; omega
  | succ n ih =>
    intro w w' hn h
    by_cases c : w ≤ 3 * v
    · rw [dsc_zero c]; exact Nat.zero_le _
    · rw [dsc_succ c, dsc_succ (show ¬ w' ≤ 3 * v by omega)]
      have := ih (3 * w / 4) (3 * w' / 4) (by omega) (by omega)
      omega
theorem dsc_one {w v : Nat} (h : w ≤ 3 * v + 3) (hv : 2 ≤ v) : dsc w v ≤ 1 := by
  by_cases c : w ≤ 3 * v
  · rw [dsc_zero c]; omega
  · rw [dsc_succ c, dsc_zero (by omega)]; omega
theorem dsc_two {w : Nat} (h : w ≤ 6) : dsc w 1 ≤ 2 := by
  by_cases c : w ≤ 3
  · rw [dsc_zero (by omega)]; omega
  · rw [dsc_succ (by omega)]
    by_cases d : 3 * w / 4 ≤ 3
    · rw [dsc_zero (by omega)]; omega
    · rw [dsc_succ (by omega), dsc_zero (by omega)]; omega
theorem dsc_tiny {w : Nat} (h : w ≤ 5) : dsc w 1 ≤ 1 := by
  by_cases c : w ≤ 3
  · rw [dsc_zero (by omega)]; omega
  · rw [dsc_succ (by omega), dsc_zero (by omega)]; omega
/-- What a join of trees of these sizes may need. -/
def jB (a b : Nat) : Nat := 1 + 3 * (dsc (a + 1) (b + 1) + dsc (b + 1) (a + 1))
theorem jB_pos (a b : Nat) : 1 ≤ jB a b := by unfold jB; omega
theorem jB_comm (a b : Nat) : jB a b = jB b a := by unfold jB; omega
theorem jB_bal {a b : Nat} (h : balN a b) : jB a b = 1 := by
  unfold balN at h
  unfold jB
  rw [dsc_zero (by omega), dsc_zero (by omega)]
theorem jB_down {s m r : Nat} (h : balN s m) (hb : ¬ balN ((s + m + 1 : Nat) : Int) r) (hg : r < s + m + 1) : jB m r + 3 ≤ jB (s + m + 1) r := by
  unfold balN at h hb
  unfold jB
  rw [dsc_zero (w := r + 1) (by omega), dsc_zero (w := r + 1) (by omega), dsc_succ (w := s + m + 1 + 1) (by omega)]
  have := dsc_mono (r + 1) (3 * (s + m + 1 + 1) / 4 + 1) (m + 1) (3 * (s + m + 1 + 1) / 4) (by omega) (by omega)
  omega
/-! ### Rotations -/
def near (a b : Nat) : Prop := 3 * (b + 1) ≤ 13 * (a + 1) ∧ 3 * (a + 1) ≤ 13 * (b + 1)
theorem join_near {s m r : Nat} (h : balN s m) (hb : ¬ balN ((s + m + 1 : Nat) : Int) r) (hg : r < s + m + 1) : near s (m + r + 1) := by
  unfold balN at h hb
  unfold near
  omega
theorem rot_nil {a s : Nat} (hn : near a (0 + s + 1)) (h1 : balN (0 : Nat) s) (_ : ¬ balN a ((0 + s + 1 : Nat) : Int)) (hlt : a < 0 + s + 1) : balN a (0 : Nat) ∧ balN ((a + 0 + 1 : Nat) : Int) s := by
  unfold balN at *
  unfold near at hn
  omega
theorem rot_two {a s x y : Nat} (hn : near a (x + y + 1 + s + 1)) (h1 : balN ((x + y + 1 : Nat) : Int) s) (h2 : balN x y) (hb : ¬ balN a ((x + y + 1 + s + 1 : Nat) : Int)) (hlt : a < x + y + 1 + s + 1)
    (hc : ¬ (balN a ((x + y + 1 : Nat) : Int) ∧ balN ((a + (x + y + 1) + 1 : Nat) : Int) s)) : balN a x ∧ balN y s ∧ balN ((a + x + 1 : Nat) : Int) ((y + s + 1 : Nat) : Int) := by
  unfold balN at *
  unfold near at hn
  omega
theorem near_comm {a b : Nat} (h : near a b) : near b a := ⟨h.2, h.1⟩
theorem balN_comm {a b : Int} (h : balN a b) : balN b a := ⟨h.2, h.1⟩
/-! ### States between -/
variable {S S' S1 S2 : Arn} {hs h1 h2 hs1 hs2 : List Int}
structure Got (S : Arn) (hs : List Int) (mk rd : Nat) (S' : Arn) (hs' : List Int) : Prop where
  wf : Wf S' hs'
  stay : Stay S S' hs
  len : S'.used.length = S.used.length
  nu : S'.nu ≤ S.nu + mk
  rd0 : S.reads ≤ S'.reads
  rd : S'.reads ≤ S.reads + rd
theorem Got.free {m r : Nat} (h : Got S hs m r S' hs1) (w : Wf S hs2) : S.free ≤ S'.free + m := by
  have a := w.free_nonneg.2.2.2
  have b := h.wf.free_nonneg.2.2.2
  have c : S'.cap = S.cap := by unfold Arn.cap; rw [h.len]
  have := h.nu
  omega
theorem Got.seq {h : List Int} {m1 r1 m2 r2 : Nat} (a : Got S h1 m1 r1 S1 hs1) (b : Got S1 h2 m2 r2 S2 hs2) (e1 : ∀ i ∈ h, i ∈ h1) (e2 : ∀ i ∈ h, i ∈ h2) : Got S h (m1 + m2) (r1 + r2) S2 hs2 where
  wf := b.wf
  stay := (a.stay.mono e1).trans (b.stay.mono e2)
  len := b.len.trans a.len
  nu := by have := a.nu; have := b.nu; omega
  rd0 := Int.le_trans a.rd0 b.rd0
  rd := by have := a.rd; have := b.rd; omega
theorem Got.mono {m r m' r' : Nat} (a : Got S hs m r S' hs1) (h1 : m ≤ m') (h2 : r ≤ r') : Got S hs m' r' S' hs1 where
  wf := a.wf
  stay := a.stay
  len := a.len
  nu := by have := a.nu; omega
  rd0 := a.rd0
  rd := by have := a.rd; omega
theorem Got.perm {m r : Nat} (a : Got S hs m r S' hs1) (p : hs1.Perm hs2) : Got S hs m r S' hs2 := ⟨a.wf.perm p, a.stay, a.len, a.nu, a.rd0, a.rd⟩
theorem Got.rds (w : Wf S hs1) {n : Nat} (hn : S.reads + n ≤ 4000000000000000000) : Got S hs 0 n (rdS S n) hs1 where
  wf := w.rd hn
  stay := stay_rd S n hs
  len := rfl
  nu := Nat.le_refl _
  rd0 := by show S.reads ≤ S.reads + n; omega
  rd := Int.le_refl _
theorem Got.refl (w : Wf S hs1) : Got S hs 0 0 S hs1 := ⟨w, Stay.refl _ _, rfl, Nat.le_refl _, Int.le_refl _, by omega⟩
theorem Got.node {k v : Int} {tl tr : Tr} {i : Int} (n : NodeR S hs k v tl tr S' i) : Got S hs 1 0 S' (i :: hs) := ⟨n.wf, n.stay, n.len, by rw [n.nu]; exact Nat.le_refl _, by rw [n.rds]; exact Int.le_refl _, by rw [n.rds]; omega⟩
/-- A balanced tree with these entries is made, and held. -/
structure TrR (S : Arn) (hs : List Int) (L : List Ent) (mk rd : Nat) (S' : Arn) (i : Int) : Prop where
  got : Got S hs mk rd S' (i :: hs)
  tree : ∃ t, Rep S' t i ∧ t.list = L ∧ t.Bal
theorem TrR.mono {L : List Ent} {m r m' r' : Nat} {i : Int} (a : TrR S hs L m r S' i) (h1 : m ≤ m') (h2 : r ≤ r') : TrR S hs L m' r' S' i := ⟨a.got.mono h1 h2, a.tree⟩
end Go.Proofs.Ytedfbafngmicpaa
end
section
/- Taking a node apart, holding and giving back a tree. No program in sight. -/
namespace Go.Proofs.Ytedfbafngmicpaa
open Go

variable {S S' S1 S2 : Arn} {hs h1 h2 hs1 hs2 : List Int}

theorem countP_le : ∀ (l m : List Bool), l.length = m.length → (∀ i : Nat, m.getD i false = true → l.getD i false = true) → m.countP id ≤ l.countP id
  | [], [], _, _ => Nat.le_refl _
  | [], _ :: _, h, _ => by simp at h
  | _ :: _, [], h, _ => by simp at h
  | a :: l, b :: m, h, hi => by
    have h0 := hi 0
    have ih := countP_le l m (by simpa using h) (fun i => by simpa using hi (i + 1))
    simp at h0
    rw [List.countP_cons, List.countP_cons]
    cases a <;> cases b <;> simp_all <;> omega
theorem Kept.nu_le (k : Kept S S') : S'.nu ≤ S.nu := by
  unfold Arn.nu
  refine countP_le _ _ k.len.symm fun i hi => ?_
  have := (k.kp (i : Int) (by unfold Arn.us; simpa using hi)).1
  unfold Arn.us at this
  simpa using this
/-- One more reference to a tree that may be empty. -/
def retL (S : Arn) (i : Int) : Arn := if i = 0 then S else retA S i
theorem retL_flds (S : Arn) (i : Int) : (retL S i).reads = S.reads ∧ (retL S i).used = S.used ∧ (∀ j, (retL S i).us j = S.us j) ∧ (∀ j, (retL S i).nd j = S.nd j) ∧ (∀ j, (retL S i).gn j = S.gn j) := by
  unfold retL; split <;> exact ⟨rfl, rfl, fun _ => rfl, fun _ => rfl, fun _ => rfl⟩
theorem retL_wf (w : Wf S hs) {i : Int} (hi : i = 0 ∨ S.us i = true) (hl : hs.length ≤ 999999990) : Wf (retL S i) (i :: hs) := by
  unfold retL
  split
  · rename_i e; subst e; exact w.zero_cons (by omega)
  · rename_i e; exact w.ret (hi.resolve_left e) (by omega)
theorem retL_got (w : Wf S hs1) {i : Int} (hi : i = 0 ∨ S.us i = true) (hl : hs1.length ≤ 999999990) : Got S hs 0 0 (retL S i) (i :: hs1) := by
  obtain ⟨a, b, c, d, e⟩ := retL_flds S i
  exact ⟨retL_wf w hi hl, stay_same c d e hs, by rw [b], by unfold Arn.nu; rw [b]; exact Nat.le_refl _, by rw [a]; exact Int.le_refl _, by rw [a]; omega⟩
theorem Rep.retL {t : Tr} {i j : Int} (h : Rep S t i) : Rep (retL S j) t i := Rep.same (retL_flds S j).2.2.1 (retL_flds S j).2.2.2.1 h
/-- A tree is given back. -/
theorem rel_got {i : Int} (w : Wf S (i :: hs1)) (w' : Wf S' hs1) (k : Kept S S') : Got S hs1 0 0 S' hs1 := ⟨w', k.stay w w', k.len, k.nu_le, by rw [k.rds]; exact Int.le_refl _, by rw [k.rds]; omega⟩
/-- A node is taken apart. -/
structure OpnR (S : Arn) (hs : List Int) (a : Tr) (k v : Int) (b : Tr) (S' : Arn) (l r : Int) : Prop where
  got : Got S hs 0 1 S' (l :: r :: hs)
  repl : Rep S' a l
  repr : Rep S' b r
theorem opn_wf {i : Int} {a b : Tr} {k v : Int} (w : Wf S (i :: hs)) (hr : Rep S (.node a k v b) i) (hl : hs.length ≤ 900000000) (hrd : S.reads + 1 ≤ 4000000000000000000) :
    Wf (rdS S 1) (i :: hs) ∧ Wf (retL (rdS S 1) (S.nd i).left) ((S.nd i).left :: i :: hs) ∧ Wf (retL (retL (rdS S 1) (S.nd i).left) (S.nd i).right) (i :: (S.nd i).left :: (S.nd i).right :: hs) := by
  have w1 : Wf (rdS S 1) (i :: hs) := w.rd (by omega)
  have hk := w.kid i hr.1
  have w2 := retL_wf w1 (i := (S.nd i).left) hk.1 (by simp; omega)
  have w3 := retL_wf w2 (i := (S.nd i).right) (by rw [(retL_flds _ _).2.2.1]; exact hk.2) (by simp; omega)
  refine ⟨w1, w2, w3.perm ?_⟩
  refine (List.Perm.swap _ _ _).trans ?_
  refine ((List.Perm.swap _ _ _).cons _).trans ?_
  exact List.Perm.swap _ _ _
theorem opn_ok {i : Int} {a b : Tr} {k v : Int} (w : Wf S (i :: hs)) (hr : Rep S (.node a k v b) i) (hl : hs.length ≤ 900000000) (hrd : S.reads + 1 ≤ 4000000000000000000)
    (w' : Wf S' ((S.nd i).left :: (S.nd i).right :: hs)) (kp : Kept (retL (retL (rdS S 1) (S.nd i).left) (S.nd i).right) S') : OpnR S hs a k v b S' (S.nd i).left (S.nd i).right := by
  obtain ⟨w1, w2, w3⟩ := opn_wf w hr hl hrd
  have hk := w.kid i hr.1
  have g1 : Got S hs 0 1 (rdS S 1) (i :: hs) := Got.rds w (by omega)
  have g2 : Got (rdS S 1) hs 0 0 _ _ := retL_got (hs := hs) w1 (i := (S.nd i).left) hk.1 (by simp; omega)
  have g3 : Got (retL (rdS S 1) (S.nd i).left) hs 0 0 _ _ := retL_got (hs := hs) w2 (i := (S.nd i).right) (by rw [(retL_flds _ _).2.2.1]; exact hk.2) (by simp; omega)
  have g4 := rel_got w3 w' kp
  refine ⟨(((g1.seq g2 (h := hs) (fun _ h => h) (fun _ h => h)).seq g3 (fun _ h => h) (fun _ h => h)).seq g4 (fun _ h => h) (fun _ h => by simp [h])), ?_, ?_⟩
  · have h1 : Rep (retL (retL (rdS S 1) (S.nd i).left) (S.nd i).right) a (S.nd i).left := (Rep.same (S := S) (S' := rdS S 1) (fun _ => rfl) (fun _ => rfl) hr.2.2.2.1).retL.retL
    exact h1.held w3 (kp.stay w3 w') (.inr (by simp))
  · have h1 : Rep (retL (retL (rdS S 1) (S.nd i).left) (S.nd i).right) b (S.nd i).right := (Rep.same (S := S) (S' := rdS S 1) (fun _ => rfl) (fun _ => rfl) hr.2.2.2.2).retL.retL
    exact h1.held w3 (kp.stay w3 w') (.inr (by simp))
theorem perm_rot {α : Type} (a b c : α) (l : List α) : (a :: b :: c :: l).Perm (c :: a :: b :: l) := ((List.Perm.swap c b l).cons a).trans (List.Perm.swap c a (b :: l))
theorem perm_tor {α : Type} (a b c : α) (l : List α) : (a :: b :: c :: l).Perm (b :: c :: a :: l) := (perm_rot b c a l).symm
theorem Got.rdn {m r n k : Nat} (a : Got S hs m r S1 hs1) (hn : n ≤ k) (hb : S1.reads + n ≤ 4000000000000000000) : Got S hs m (r + k) (rdS S1 n) hs1 :=
  (a.seq (Got.rds (hs := hs) a.wf hb) (fun _ h => h) (fun _ h => h)).mono (by omega) (by omega)
theorem Rep.rdn {t : Tr} {i : Int} {n : Nat} (h : Rep S t i) : Rep (rdS S n) t i := Rep.same (S := S) (S' := rdS S n) (fun _ => rfl) (fun _ => rfl) h
/-! ### Rotations on the arena -/
section
variable {S0 S3 S4 : Arn} {A M B x y : Tr} {k1 v1 k2 v2 k3 v3 u m w i j q ix iy : Int} {r0 : Nat}
theorem single_okL (g : Got S0 hs 0 r0 S (u :: m :: w :: hs)) (n1 : NodeR S (w :: hs) k1 v1 A M S2 i) (n2 : NodeR S2 hs k2 v2 (.node A k1 v1 M) B S3 j)
    (bA : A.Bal) (bM : M.Bal) (bB : B.Bal) (c1 : balN A.size M.size) (c2 : balN ((A.size + M.size + 1 : Nat) : Int) B.size) : TrR S0 hs (A.list ++ (k1, v1) :: (M.list ++ (k2, v2) :: B.list)) 3 (r0 + 1) S3 j where
  got := ((g.seq (Got.node n1) (h := hs) (fun _ h => h) (fun _ h => by simp [h])).seq (Got.node n2) (fun _ h => h) (fun _ h => h)).mono (by omega) (by omega)
  tree := ⟨_, n2.rep, by simp [Tr.list], by
    refine ⟨?_, ⟨c1, bA, bM⟩, bB⟩
    have e : ((Tr.node A k1 v1 M).size : Int) = ((A.size + M.size + 1 : Nat) : Int) := by simp [Tr.size]; omega
    rw [e]; exact c2⟩
theorem single_okR (g : Got S0 hs 0 r0 S (u :: m :: w :: hs)) (n1 : NodeR S (u :: hs) k2 v2 M B S2 i) (n2 : NodeR S2 hs k1 v1 A (.node M k2 v2 B) S3 j)
    (bA : A.Bal) (bM : M.Bal) (bB : B.Bal) (c1 : balN M.size B.size) (c2 : balN A.size ((M.size + B.size + 1 : Nat) : Int)) : TrR S0 hs (A.list ++ (k1, v1) :: (M.list ++ (k2, v2) :: B.list)) 3 (r0 + 1) S3 j where
  got := ((g.seq (Got.node n1) (h := hs) (fun _ h => h) (fun _ h => by simp [h])).seq (Got.node n2) (fun _ h => h) (fun _ h => h)).mono (by omega) (by omega)
  tree := ⟨_, n2.rep, by simp [Tr.list], by
    refine ⟨?_, bA, ⟨c1, bM, bB⟩⟩
    have e : ((Tr.node M k2 v2 B).size : Int) = ((M.size + B.size + 1 : Nat) : Int) := by simp [Tr.size]; omega
    rw [e]; exact c2⟩
theorem double_ok (g : Got S0 hs 0 r0 S (u :: m :: w :: hs)) (o : OpnR S (u :: w :: hs) x k3 v3 y S1 ix iy) (n1 : NodeR S1 (iy :: w :: hs) k1 v1 A x S2 i) (n2 : NodeR S2 (i :: hs) k2 v2 y B S3 j)
    (n3 : NodeR S3 hs k3 v3 (.node A k1 v1 x) (.node y k2 v2 B) S4 q) (bA : A.Bal) (bx : x.Bal) (bY : y.Bal) (bB : B.Bal) (c1 : balN A.size x.size) (c2 : balN y.size B.size) (c3 : balN ((A.size + x.size + 1 : Nat) : Int) ((y.size + B.size + 1 : Nat) : Int)) :
    TrR S0 hs (A.list ++ (k1, v1) :: (x.list ++ (k3, v3) :: (y.list ++ (k2, v2) :: B.list))) 3 (r0 + 1) S4 q where
  got := ((((g.seq o.got (h := hs) (fun _ h => h) (fun _ h => by simp [h])).seq (Got.node n1) (h := hs) (fun _ h => h) (fun _ h => by simp [h])).seq (Got.node n2) (h := hs) (fun _ h => h) (fun _ h => by simp [h])).seq (Got.node n3) (fun _ h => h) (fun _ h => h)).mono (by omega) (by omega)
  tree := ⟨_, n3.rep, by simp [Tr.list], by
    refine ⟨?_, ⟨c1, bA, bx⟩, ⟨c2, bY, bB⟩⟩
    have e : ((Tr.node A k1 v1 x).size : Int) = ((A.size + x.size + 1 : Nat) : Int) := by simp [Tr.size]; omega
    have e2 : ((Tr.node y k2 v2 B).size : Int) = ((y.size + B.size + 1 : Nat) : Int) := by simp [Tr.size]; omega
    rw [e, e2]; exact c3⟩
end
end Go.Proofs.Ytedfbafngmicpaa
end
section
/- Lists and costs of taking trees apart and putting them together. No program in sight. -/
namespace Go.Proofs.Ytedfbafngmicpaa
open Go

/-! ### Lists -/
theorem asc_parts {a b : List Ent} {k v : Int} (h : Asc (a ++ (k, v) :: b)) : Asc a ∧ Asc b ∧ (∀ x ∈ a, x.1 < k) ∧ (∀ x ∈ b, k < x.1) :=
  ⟨Srt.left h, (Srt.right h).tail, fun x hx => (List.pairwise_append.1 h).2.2 x hx (k, v) (by simp), fun x hx => (Srt.right h).head x hx⟩
theorem asc_join {a b : List Ent} {k v : Int} (h1 : Asc a) (h2 : Asc b) (h3 : ∀ x ∈ a, x.1 < k) (h4 : ∀ x ∈ b, k < x.1) : Asc (a ++ (k, v) :: b) := by
  refine List.pairwise_append.2 ⟨h1, Srt.cons h2 h4, fun x hx y hy => ?_⟩
  rcases List.mem_cons.1 hy with rfl | hy
  · exact h3 x hx
  · have := h3 x hx; have := h4 y hy; omega
theorem insE_left {a b : List Ent} {k v : Int} {e : Ent} (h : Asc (a ++ (k, v) :: b)) (he : e.1 < k) : insE (a ++ (k, v) :: b) e = insE a e ++ (k, v) :: b := by
  induction a with
  | nil =>
    rw [List.nil_append, insE_cons h, if_pos he]
    simp [insE, insGo]
  | cons x a ih =>
    have ha : Asc (x :: a) := Srt.left h
    have h' : Asc (x :: (a ++ (k, v) :: b)) := h
    rw [List.cons_append, insE_cons h', insE_cons ha, ih h'.tail]
    split
    · rfl
    · split <;> rfl
theorem insE_right {a b : List Ent} {k v : Int} {e : Ent} (h : Asc (a ++ (k, v) :: b)) (he : k < e.1) : insE (a ++ (k, v) :: b) e = a ++ (k, v) :: insE b e := by
  induction a with
  | nil =>
    rw [List.nil_append, insE_cons h, if_neg (by show ¬ e.1 < k; omega), if_neg (by show ¬ k = e.1; omega)]
    rfl
  | cons x a ih =>
    have h' : Asc (x :: (a ++ (k, v) :: b)) := h
    have hx : x.1 < k := (asc_parts h).2.2.1 x (by simp)
    rw [List.cons_append, insE_cons h', if_neg (by omega), if_neg (by omega), ih h'.tail]
    rfl
theorem insE_at {a b : List Ent} {v : Int} {e : Ent} (h : Asc (a ++ (e.1, v) :: b)) : insE (a ++ (e.1, v) :: b) e = a ++ e :: b := by
  induction a with
  | nil =>
    rw [List.nil_append, insE_cons h, if_neg (by show ¬ e.1 < e.1; omega), if_pos rfl]
    rfl
  | cons x a ih =>
    have h' : Asc (x :: (a ++ (e.1, v) :: b)) := h
    have hx : x.1 < e.1 := (asc_parts h).2.2.1 x (by simp)
    rw [List.cons_append, insE_cons h', if_neg (by omega), if_neg (by omega), ih h'.tail]
    rfl
/-- The entries whose keys pass a test that is of one mind on either side. -/
def flt (p : Int → Bool) (l : List Ent) : List Ent := l.filter fun x => p x.1
theorem flt_all {p : Int → Bool} {l : List Ent} (h : ∀ x ∈ l, p x.1 = true) : flt p l = l := List.filter_eq_self.2 h
theorem flt_node {p : Int → Bool} (a b : List Ent) (k v : Int) : flt p (a ++ (k, v) :: b) = flt p a ++ (if p k then (k, v) :: flt p b else flt p b) := by
  unfold flt
  rw [List.filter_append, List.filter_cons]
theorem flt_asc {p : Int → Bool} {l : List Ent} (h : Asc l) : Asc (flt p l) := List.Pairwise.filter _ h
theorem getE_left {a b : List Ent} {k v q : Int} (h : Asc (a ++ (k, v) :: b)) (hq : q < k) : getE (a ++ (k, v) :: b) q = getE a q := by
  obtain ⟨_, _, _, h4⟩ := asc_parts h
  rw [getE_fnd, getE_fnd, fnd_append, fnd_cons, if_neg (by show ¬ k = q; omega), fnd_of_lt (l := b) (fun x hx => by have := h4 x hx; omega)]
  simp
theorem getE_right {a b : List Ent} {k v q : Int} (h : Asc (a ++ (k, v) :: b)) (hq : k < q) : getE (a ++ (k, v) :: b) q = getE b q := by
  obtain ⟨_, _, h3, _⟩ := asc_parts h
  rw [getE_fnd, getE_fnd, fnd_append, fnd_cons, if_neg (by show ¬ k = q; omega), fnd_of_gt (l := a) (fun x hx => by have := h3 x hx; omega)]
  simp
theorem getE_at {a b : List Ent} {k v : Int} (h : Asc (a ++ (k, v) :: b)) : getE (a ++ (k, v) :: b) k = some v := by
  obtain ⟨_, _, h3, _⟩ := asc_parts h
  rw [getE_fnd, fnd_append, fnd_cons, if_pos rfl, fnd_of_gt (l := a) (fun x hx => by have := h3 x hx; omega)]
  simp

/-! ### Costs -/
theorem w0 : wt 0 = 1 := rfl
theorem w2 : wt 2 = 3 := rfl
theorem w3 : wt 3 = 4 := rfl
theorem w4 : wt 4 = 6 := rfl
theorem w5 : wt 5 = 8 := rfl
theorem w6 : wt 6 = 11 := rfl
theorem jB_less {l c : Nat} (h : balN l c) (hc : 2 ≤ c) : jB l (c - 1) ≤ 4 := by
  unfold balN at h
  unfold jB
  rw [dsc_zero (w := c - 1 + 1) (by omega)]
  have := dsc_one (w := l + 1) (v := c - 1 + 1) (by omega) (by omega)
  omega
theorem jB_nil {l : Nat} (h : balN l 1) : jB l 0 ≤ 7 := by
  unfold balN at h
  unfold jB
  rw [dsc_zero (w := 0 + 1) (by omega)]
  have := dsc_two (w := l + 1) (by omega)
  show 1 + 3 * (dsc (l + 1) 1 + 0) ≤ 7
  omega
theorem jB_more {l c : Nat} (h : balN l c) : jB l (c + 1) ≤ 4 := by
  unfold balN at h
  unfold jB
  rw [dsc_zero (w := l + 1) (by omega)]
  by_cases hl : l = 0
  · subst hl
    have := dsc_tiny (w := c + 1 + 1) (by omega)
    show 1 + 3 * (0 + dsc (c + 1 + 1) 1) ≤ 4
    omega
  · have := dsc_one (w := c + 1 + 1) (v := l + 1) (by omega) (by omega)
    omega
/-- What taking off the last entry may need. -/
def pB (n : Nat) : Nat := if n ≤ 3 then n else gN (n + 1) + 3
theorem pB_g (n : Nat) : pB n ≤ gN (n + 1) + 3 := by
  unfold pB
  split <;> omega
theorem pB_pos {n : Nat} (h : 1 ≤ n) : 1 ≤ pB n := by unfold pB; split <;> omega
theorem pB_step {l r : Nat} (h : balN l r) (hr : 1 ≤ r) (hz : l + r + 1 ≤ 900000) : pB r + jB l (r - 1) ≤ pB (l + r + 1) := by
  have hb := h
  unfold balN at hb
  by_cases r1 : r = 1
  · subst r1
    have p1 : pB 1 = 1 := rfl
    rw [p1]
    have j : jB l (1 - 1) = 1 + 3 * (dsc (l + 1) 1 + dsc 1 (l + 1)) := rfl
    rw [j, dsc_zero (w := 1) (by omega)]
    by_cases c1 : l ≤ 2
    · rw [dsc_zero (by omega)]
      unfold pB; split
      · omega
      · omega
    · have : pB (l + 1 + 1) = gN (l + 1 + 1 + 1) + 3 := by unfold pB; rw [if_neg (by omega)]
      rw [this]
      by_cases c2 : l ≤ 4
      · have := dsc_tiny (w := l + 1) (by omega)
        have := gN_le (w := l + 1 + 1 + 1) (h := 4) (by decide) (by rw [w4]; omega)
        omega
      · have := dsc_two (w := l + 1) (by omega)
        have := gN_le (w := l + 1 + 1 + 1) (h := 5) (by decide) (by rw [w5]; omega)
        omega
  · by_cases c : l + 1 ≤ 3 * r
    · have j : jB l (r - 1) = 1 := by
        unfold jB
        rw [dsc_zero (by omega), dsc_zero (by omega)]
      rw [j]
      by_cases r3 : r ≤ 3
      · have : pB r = r := by unfold pB; rw [if_pos r3]
        rw [this]
        unfold pB
        split
        · omega
        · have := gN_le (w := l + r + 1 + 1) (h := 3) (by decide) (by rw [w3]; omega)
          omega
      · have e1 : pB r = gN (r + 1) + 3 := by unfold pB; rw [if_neg r3]
        have e2 : pB (l + r + 1) = gN (l + r + 1 + 1) + 3 := by unfold pB; rw [if_neg (by omega)]
        have := gN_step (m := r + 1) (w := l + r + 1 + 1) (by omega) (by omega) (by omega)
        omega
    · have j := jB_less h (show 2 ≤ r by omega)
      have e2 : pB (l + r + 1) = gN (l + r + 1 + 1) + 3 := by unfold pB; rw [if_neg (by omega)]
      by_cases r3 : r ≤ 3
      · have e1 : pB r = r := by unfold pB; rw [if_pos r3]
        by_cases r2 : r = 2
        · have := gN_le (w := l + r + 1 + 1) (h := 5) (by decide) (by rw [w5]; omega)
          omega
        · have := gN_le (w := l + r + 1 + 1) (h := 6) (by decide) (by rw [w6]; omega)
          omega
      · have e1 : pB r = gN (r + 1) + 3 := by unfold pB; rw [if_neg r3]
        have := gN_step4 (r := r + 1) (w := l + r + 1 + 1) (by omega) (by omega) (by omega)
        omega
/-- What a concatenation may need. -/
def cB (l r : Nat) : Nat := if l = 0 ∨ r = 0 then 0 else pB l + jB (l - 1) r
theorem cB_bal {l r : Nat} (h : balN l r) (hz : l + r ≤ 800000) : cB l r ≤ 4 * gN (l + r + 2) := by
  unfold cB
  split
  · omega
  · have h1 := pB_g l
    have h5 : jB (l - 1) r ≤ 7 := by
      rw [jB_comm]
      by_cases c : l = 1
      · subst c; exact jB_nil (balN_comm h)
      · have := jB_less (balN_comm h) (show 2 ≤ l by omega); omega
    have hb := h
    unfold balN at hb
    have h3 := gN_step (m := l + 1) (w := l + r + 2) (by omega) (by omega) (by omega)
    have h4 := gN_le (w := l + r + 2) (h := 3) (by decide) (by rw [w3]; omega)
    omega
/-- What an insertion and a deletion may need. -/
def iB (n : Nat) : Nat := 4 * gN (n + 1) + 1
def dB (n : Nat) : Nat := if n ≤ 1 then 1 else 4 * gN (n + 1) + 4
theorem iB_step {l c : Nat} (h : balN l c) (hz : l + c ≤ 800000) : iB c + 4 ≤ iB (l + c + 1) := by
  unfold balN at h
  unfold iB
  have := gN_step (m := c + 1) (w := l + c + 1 + 1) (by omega) (by omega) (by omega)
  omega
theorem dB_le (n : Nat) : dB n ≤ 4 * gN (n + 1) + 4 := by unfold dB; split <;> omega
theorem dB_pos (n : Nat) : 1 ≤ dB n := by unfold dB; split <;> omega
theorem dB_step {l c : Nat} (h : balN l c) (hc : 1 ≤ c) (hz : l + c ≤ 800000) : dB c + jB l (c - 1) ≤ dB (l + c + 1) := by
  have hb := h
  unfold balN at hb
  have e : dB (l + c + 1) = 4 * gN (l + c + 1 + 1) + 4 := by unfold dB; rw [if_neg (by omega)]
  rw [e]
  by_cases c1 : c = 1
  · subst c1
    have j := jB_nil h
    have e1 : dB 1 = 1 := rfl
    have := gN_le (w := l + 1 + 1 + 1) (h := 2) (by decide) (by rw [w2]; omega)
    rw [e1]
    show 1 + jB l 0 ≤ _
    omega
  · have j := jB_less h (show 2 ≤ c by omega)
    have e1 : dB c = 4 * gN (c + 1) + 4 := by unfold dB; rw [if_neg (by omega)]
    have := gN_step (m := c + 1) (w := l + c + 1 + 1) (by omega) (by omega) (by omega)
    omega
theorem dB_found {l r : Nat} (h : balN l r) (hz : l + r ≤ 800000) : cB l r + 1 ≤ dB (l + r + 1) := by
  unfold dB
  split
  · have e1 : l = 0 := by omega
    subst e1
    unfold cB; simp
  · have := cB_bal h hz
    have e : l + r + 1 + 1 = l + r + 2 := rfl
    rw [e]
    omega
theorem insE_ge {l : List Ent} (e : Ent) (h : Asc l) : l.length ≤ (insE l e).length := by
  induction l with
  | nil => exact Nat.zero_le _
  | cons x l ih =>
    rw [insE_cons h]
    have := ih h.tail
    split
    · simp
    · split <;> simp <;> omega
def hasK (l : List Ent) (k : Int) : Prop := ∃ v, (k, v) ∈ l
def neK (key : Int) (q : Int) : Bool := decide (q ≠ key)
theorem flt_ne_len {l : List Ent} {k : Int} (h : Asc l) (hk : hasK l k) : (flt (neK k) l).length + 1 = l.length := by
  induction l with
  | nil => obtain ⟨v, hv⟩ := hk; simp at hv
  | cons x l ih =>
    obtain ⟨v, hv⟩ := hk
    have hh := h.head
    unfold flt at ih ⊢
    rw [List.filter_cons]
    by_cases e : x.1 = k
    · have : (l.filter fun x => neK k x.1) = l := List.filter_eq_self.2 fun y hy => by have := hh y hy; simp [neK]; omega
      simp [neK, e]
      simpa [neK] using this
    · have hm : (k, v) ∈ l := by
        rcases List.mem_cons.1 hv with q | q
        · exact absurd (congrArg Prod.fst q).symm e
        · exact q
      have := ih h.tail ⟨v, hm⟩
      simp [neK, e] at this ⊢
      omega
theorem Got.of_zero {S S' : Arn} {hs hs1 : List Int} {m r : Nat} (a : Got S hs m r S' (0 :: hs1)) : Got S hs m r S' hs1 := ⟨a.wf.of_zero, a.stay, a.len, a.nu, a.rd0, a.rd⟩
theorem flt_upR {p : Int → Bool} {a b : List Ent} {k v : Int} (hb : ∀ x ∈ b, p x.1 = true) (hk : p k = true) : flt p (a ++ (k, v) :: b) = flt p a ++ (k, v) :: b := by
  rw [flt_node, flt_all hb, hk]; simp
theorem flt_upL {p : Int → Bool} {a b : List Ent} {k v : Int} (ha : ∀ x ∈ a, p x.1 = true) (hk : p k = true) : flt p (a ++ (k, v) :: b) = a ++ (k, v) :: flt p b := by
  rw [flt_node, flt_all ha, hk]; simp
end Go.Proofs.Ytedfbafngmicpaa
end
section
/- The greatest height of a balanced tree, and few reads. -/
namespace Go.Proofs.Ytedfbafngmicpaa.Sx
open Go

/-KEEP Wf exW inU wtsL-/
noncomputable def aWts : Ann C0 := { Γ := [], rounds := fun n => if n = 4 then 82 else 0 }
def tWts : Tfm C0 := fun args H K => match args, H with
  | [], [] => K (.one (.agg (wtsL.map fun n => vI n))) [] []
  | _, _ => False
def wC : Nat → Int → Prop → Prop
  | 0, _, Q => Q
  | n + 1, h, Q => (0 ≤ IntKind.i64.wrap (h - 1)) ∧ (IntKind.i64.wrap (h - 1) < ((81 : Nat) : Int)) ∧ (0 ≤ IntKind.i64.wrap (h - 1)) ∧ (IntKind.i64.wrap (h - 1) < ((81 : Nat) : Int)) ∧ (0 ≤ h) ∧ (h < ((81 : Nat) : Int)) ∧ wC n (IntKind.i64.wrap (h + 1)) Q
theorem wC_of : ∀ (n : Nat) (h : Int) (Q : Prop), 1 ≤ h → h + n ≤ 81 → Q → wC n h Q
  | 0, _, _, _, _, q => q
  | n + 1, h, Q, h1, h2, q => by
    have e1 := wrap_id (x := h - 1) (by omega) (by omega)
    have e2 := wrap_id (x := h + 1) (by omega) (by omega)
    unfold wC
    rw [e1, e2]
    exact ⟨by omega, by omega, by omega, by omega, by omega, by omega, wC_of n (h + 1) Q (by omega) (by omega) q⟩
theorem s_wts : SoundT C0 81 tWts := by
  refine .of Try.func81 (by decide) rfl fun args H K h hB => ?_
  unfold tWts at h
  split at h <;> try exact h.elim
  refine ⟨aWts, trivial, Eq.mp (show ((0 : Int) ≤ 0 ∧ (0 : Int) < ((81 : Nat) : Int) ∧ wC 80 1 (K (.one (.agg (wtsL.map fun n => vI n))) [] [])) = _ by kernel_rfl) ?_⟩
  exact ⟨by decide, by decide, wC_of 80 1 _ (by decide) (by decide) h⟩
noncomputable def aMh : Ann C0 := { Γ := [(81, frameT [] tWts)], rounds := fun n => if n = 5 then 82 else 0 }
def mhC (k : Int) (Q : Int → Prop) : List Int → Int → Prop
  | [], h => Q h
  | w :: l, h => (0 ≤ IntKind.i64.wrap (h + 1)) ∧ (IntKind.i64.wrap (h + 1) < ((81 : Nat) : Int)) ∧ brS (decide (IntKind.i64.wrap (w - 1) ≤ k)) (mhC k Q l (IntKind.i64.wrap (h + 1))) (Q h)
theorem mhC_of {k : Int} {Q : Int → Prop} : ∀ (l : List Int) (h : Int), 0 ≤ h → h + l.length ≤ 80 → (∀ w ∈ l, 0 ≤ w ∧ w ≤ 1000000000000) → Q (hnC l h k) → mhC k Q l h
  | [], _, _, _, _, q => q
  | w :: l, h, h1, h2, h3, q => by
    have hw := h3 w (by simp)
    have hl : (w :: l).length = l.length + 1 := rfl
    unfold mhC
    rw [wrap_id (x := h + 1) (by omega) (by omega), wrap_id (x := w - 1) (by omega) (by omega)]
    unfold hnC at q
    refine ⟨by omega, by omega, brS_of (fun c => ?_) fun c => ?_⟩
    · rw [if_pos (of_decide_eq_true c)] at q
      exact mhC_of l (h + 1) (by omega) (by omega) (fun x hx => h3 x (by simp [hx])) q
    · rw [if_neg (of_decide_eq_false c)] at q; exact q
def tMh : Tfm C0 := fun args H K => match args, H with
  | [.at (.val (.int .i64 k))], [] => 0 ≤ k ∧ k ≤ 2147483647 ∧ ∀ h, h = Hn k → K (.one (.at (vI h))) [] []
  | _, _ => False
theorem s_mh : SoundT C0 59 tMh := by
  refine .of Try.func59 (by decide) rfl fun args H K h hB => ?_
  unfold tMh at h
  split at h <;> try exact h.elim
  rename_i k
  obtain ⟨h1, h2, h⟩ := h
  refine ⟨aMh, ⟨frame C0.ok s_wts _, trivial⟩, Eq.mp (show (brS (decide (k < 0)) (K (.one (.at (vI (-1)))) [] []) (brS (decide (k > 2147483647)) (K (.one (.at (vI (-1)))) [] []) (mhC k (fun h => K (.one (.at (vI h))) [] []) (wtsL.drop 1) 0))) = _ by kernel_rfl) ?_⟩
  refine brS_of (fun c => by have := of_decide_eq_true c; omega) fun _ => brS_of (fun c => by have := of_decide_eq_true c; omega) fun _ => mhC_of _ 0 (by decide) (by decide) (by decide) (h _ rfl)
end Go.Proofs.Ytedfbafngmicpaa.Sx
end
section
/- reserve, ref8: how many slots an operation may need; lookup.Get. -/
namespace Go.Proofs.Ytedfbafngmicpaa.Sx
open Go

/-KEEP okI Wf exW inU live Rep rdS Tr.size Tr.list getE Asc ht wt Hn-/
theorem htr_size : ∀ t : Tr, ht t ≤ t.size
  | .nil => Nat.le_refl _
  | .node l k v r => by
    have h1 := htr_size l
    have h2 := htr_size r
    rw [ht, Tr.size]
    split <;> omega
structure XGe (S : Arn) (t : Tr) (q : Int) where
  i : Int
  t' : Tr
  m : Nat
  h : Rep S t' i ∧ getE t.list q = getE t'.list q ∧ Asc t'.list ∧ m + ht t' ≤ ht t ∧ t'.size ≤ t.size
noncomputable def aGetT (S : Arn) (t : Tr) (q : Int) : Ann C0 := { Γ := [(45, frameT [] tNode)], inv := fun n => match n with
  | 2 => some { X := XGe S t q, sl := [8], tf := fun x => [vi .u32 x.i], hf := fun x => chS (rdS S x.m), μ := fun x => x.t'.size, wr := [0] }
  | _ => none }
def tGetT : Tfm C0 := fun args H K => match args with
  | [.at (.ptr 0 0), .at (.val (.int .u32 i)), .at (.val (.int .i64 q))] => arM H fun S => ∃ hs t, Wf S hs ∧ Rep S t i ∧ Asc t.list ∧ t.size ≤ 1000000 ∧ S.reads + t.size ≤ 3000000000000000000 ∧
    ∀ S' m o, S' = rdS S m → m ≤ ht t → o = getE t.list q → K (.tup [.at (vI (o.getD 0)), .at (vB o.isSome)]) (chS S') [0]
  | _ => False
structure XMx (n : Int) where
  h : Nat
  p : h ≤ 80 ∧ wt h ≤ n + 1
noncomputable def aMxh (n : Int) : Ann C0 := { Γ := [], inv := fun k => match k with
  | 4 => some { X := XMx n, sl := [3, 4], tf := fun x => [vi .i64 x.h, vi .i64 (wt x.h)], hf := fun _ => [], μ := fun x => 80 - x.h }
  | _ => none }
def tMxh : Tfm C0 := fun args H K => match args, H with
  | [.at (.val (.int .i64 n))], [] => 0 ≤ n ∧ n ≤ 1000000 ∧ ∀ h, h = Hn n → K (.one (.at (vI h))) [] []
  | _, _ => False
def okI (l : List Int) : Prop := ∀ i : Nat, i < l.length → 0 ≤ l.getD i 0 ∧ l.getD i 0 ≤ 65536
structure XVd (l : List Int) where
  i : Nat
  h : i ≤ l.length
noncomputable def aVld (l : List Int) : Ann C0 := { Γ := [], inv := fun k => match k with
  | 2 => some { X := XVd l, sl := [7], tf := fun x => [vi .i64 x.i], hf := fun _ => [.row false EC.int l], μ := fun x => l.length - x.i }
  | _ => none }
def tVld : Tfm C0 := fun args H K => match args, H with
  | [.at (.slc 0)], [.row false .int l] => okI l ∧ l.length ≤ 100 ∧ K (.one (.at (vB true))) [.row false EC.int l] []
  | _, _ => False
noncomputable def aPath : Ann C0 := { Γ := [(82, frameT [] tMxh)] }
def tPath : Tfm C0 := fun args H K => match args, H with
  | [.at (.val (.int .i64 f)), .at (.val (.int .i64 n))], [] => 0 ≤ f ∧ f ≤ 100 ∧ 0 ≤ n ∧ n ≤ 1000000 ∧ ∀ p, p = f * (Hn n + 2) → K (.one (.at (vI p))) [] []
  | _, _ => False
noncomputable def aRes : Ann C0 := { Γ := [(64, frameT [] tVld), (65, frameT [] tPath)] }
def tRes1 (f d : Int) : Tfm C0 := fun args H K => match args, H with
  | [.at (.val (.int .i64 n))], [] => 0 ≤ n ∧ n ≤ 65536 ∧ ∀ p, p = f * (Hn (n + d) + 2) → K (.one (.at (vI p))) [] []
  | _, _ => False
noncomputable def aNeed : Ann C0 := { Γ := [(59, frameT [] tMh)] }
def tNeed : Tfm C0 := fun args H K => match args, H with
  | [.at (.val (.int .i64 a)), .at (.val (.int .i64 b)), .at (.val (.int .i64 c)), .at (.val (.int .i64 m)), .at (.val (.int .i64 e)), .at (.val (.int .i64 f))], [] => 0 ≤ a ∧ a ≤ 65536 ∧ 0 ≤ b ∧ b ≤ 65536 ∧ 0 ≤ c ∧ c ≤ 65536 ∧ 0 ≤ m ∧ m ≤ 10 ∧ 0 ≤ e ∧ e ≤ 200000 ∧ 0 ≤ f ∧ f ≤ 100 ∧ ∀ p, p = e + f * (Hn (a + b + c + m) + 2) → K (.one (.at (vI p))) [] []
  | _, _ => False
noncomputable def aN8 : Ann C0 := { Γ := [(27, frameT [] tNeed)] }
theorem vc_getT (S : Arn) (i q : Int) (K : KT) (hs : List Int) (t : Tr) (hw : Wf S hs) (hr : Rep S t i) (ha : Asc t.list) (_ : t.size ≤ 1000000) (h2 : S.reads + t.size ≤ 3000000000000000000)
    (h : ∀ S' m o, S' = rdS S m → m ≤ ht t → o = getE t.list q → K (.tup [.at (vI (o.getD 0)), .at (vB o.isSome)]) (chS S') [0]) :
    vc C0 (aGetT S t q) Try.f31 [.at (.ptr 0 0), .at (vU i), .at (vI q)] (chS S) (normK 7 (wideK [0] K)) := by
  refine Eq.mp (show ((∃ x : XGe S t q, (True ∧ (True ∧ ((Value.int IntKind.i64 (q)) = (Value.int IntKind.i64 (q))) ∧ ((Value.int IntKind.u32 (i)) = (Value.int IntKind.u32 (x.i))) ∧ True) ∧ (True ∧ True ∧ True ∧ ((Value.int IntKind.u64 (S.reads)) = (Value.int IntKind.u64 ((rdS S x.m).reads))) ∧ True) ∧ (True ∧ True ∧ True ∧ ((Value.int IntKind.u32 (S.fresh)) = (Value.int IntKind.u32 ((rdS S x.m).fresh))) ∧ True) ∧ ((S.nodes) = ((rdS S x.m).nodes)) ∧ ((S.counts) = ((rdS S x.m).counts)) ∧ ((S.used) = ((rdS S x.m).used)) ∧ ((S.gen) = ((rdS S x.m).gen)) ∧ ((S.rel) = ((rdS S x.m).rel)) ∧ True)) ∧
(∀ x : XGe S t q, (True → (brS (x.i != 0) (((inU x.i) ∧ (exW (rdS S x.m)) ∧ ((rdS S x.m).reads < 4000000000000000000) ∧ (∀ S' : Arn, (((S') = (rdS (rdS S x.m) ((rdS S x.m).us x.i).toNat)) → (brS (!(rdS S x.m).us x.i) ((K (SV.tup [(TV.at (At.val (Value.int IntKind.i64 0))), (TV.at (At.val (Value.bool false)))]) [(Chunk.box [(At.ptr 1 0), (At.slc 2), (At.slc 3), (At.val (Value.int IntKind.u64 (S'.reads)))]), (Chunk.box [(At.slc 4), (At.slc 5), (At.slc 6), (At.val (Value.int IntKind.u32 (S'.fresh)))]), (Chunk.row true (EC.node) (S'.nodes)), (Chunk.row true (EC.int) (S'.counts)), (Chunk.row true (EC.bool) (S'.used)), (Chunk.row true (EC.u32) (S'.gen)), (Chunk.row true (EC.u32) (S'.rel))] [0])) ((brS (decide (q < ((rdS S x.m).nd x.i).key)) ((∃ x' : XGe S t q, (True ∧ ((True ∧ ((Value.int IntKind.i64 (q)) = (Value.int IntKind.i64 (q))) ∧
    ((Value.int IntKind.u32 (((rdS S x.m).nd x.i).left)) = (Value.int IntKind.u32 (x'.i))) ∧ True) ∧ (True ∧ True ∧ True ∧ ((Value.int IntKind.u64 (S'.reads)) = (Value.int IntKind.u64 ((rdS S x'.m).reads))) ∧ True) ∧ (True ∧ True ∧ True ∧ ((Value.int IntKind.u32 (S'.fresh)) = (Value.int IntKind.u32 ((rdS S x'.m).fresh))) ∧ True) ∧ ((S'.nodes) = ((rdS S x'.m).nodes)) ∧ ((S'.counts) = ((rdS S x'.m).counts)) ∧ ((S'.used) = ((rdS S x'.m).used)) ∧ ((S'.gen) = ((rdS S x'.m).gen)) ∧ ((S'.rel) = ((rdS S x'.m).rel)) ∧ True) ∧ (x'.t'.size < x.t'.size)))) ((brS (decide (q > ((rdS S x.m).nd x.i).key)) ((∃ x' : XGe S t q, (True ∧ ((True ∧ ((Value.int IntKind.i64 (q)) = (Value.int IntKind.i64 (q))) ∧ ((Value.int IntKind.u32 (((rdS S x.m).nd x.i).right)) = (Value.int IntKind.u32 (x'.i))) ∧ True) ∧ (True ∧ True ∧ True ∧ ((Value.int IntKind.u64 (S'.reads)) = (Value.int IntKind.u64 ((rdS S x'.m).reads))) ∧ True) ∧ (True ∧ True ∧ True ∧ ((Value.int IntKind.u32 (S'.fresh)) = (Value.int IntKind.u32 ((rdS S x'.m).fresh))) ∧ True) ∧ ((S'.nodes) = ((rdS S x'.m).nodes)) ∧ ((S'.counts) = ((rdS S x'.m).counts)) ∧ ((S'.used) = ((rdS S x'.m).used)) ∧ ((S'.gen) = ((rdS S x'.m).gen)) ∧ ((S'.rel) = ((rdS S x'.m).rel)) ∧ True) ∧ (x'.t'.size < x.t'.size))))
    ((K (SV.tup [(TV.at (At.val (Value.int IntKind.i64 (((rdS S x.m).nd x.i).value)))), (TV.at (At.val (Value.bool true)))]) [(Chunk.box [(At.ptr 1 0), (At.slc 2), (At.slc 3), (At.val (Value.int IntKind.u64 (S'.reads)))]), (Chunk.box [(At.slc 4), (At.slc 5), (At.slc 6), (At.val (Value.int IntKind.u32 (S'.fresh)))]), (Chunk.row true (EC.node) (S'.nodes)), (Chunk.row true (EC.int) (S'.counts)), (Chunk.row true (EC.bool) (S'.used)), (Chunk.row true (EC.u32) (S'.gen)), (Chunk.row true (EC.u32) (S'.rel))] [0]))))))))))) ((K (SV.tup [(TV.at (At.val (Value.int IntKind.i64 0))), (TV.at (At.val (Value.bool false)))]) [(Chunk.box [(At.ptr 1 0), (At.slc 2), (At.slc 3), (At.val (Value.int IntKind.u64 ((rdS S x.m).reads)))]), (Chunk.box [(At.slc 4), (At.slc 5), (At.slc 6), (At.val (Value.int IntKind.u32 ((rdS S x.m).fresh)))]), (Chunk.row true (EC.node) ((rdS S x.m).nodes)), (Chunk.row true (EC.int) ((rdS S x.m).counts)), (Chunk.row true (EC.bool) ((rdS S x.m).used)), (Chunk.row true (EC.u32) ((rdS S x.m).gen)), (Chunk.row true (EC.u32) ((rdS S x.m).rel))] [0])))))) = _ by kernel_rfl) ?_
  have hrd := hw.rds
  have hts := htr_size t
  refine ⟨⟨⟨i, t, 0, hr, rfl, ha, by omega, Nat.le_refl _⟩, ?_⟩, fun x _ => ?_⟩
  · (repeat' first | exact trivial | exact rfl | refine And.intro ?_ ?_)
    rw [rdS_zero]
  obtain ⟨xi, xt, xm, h1', h2', h3', h4', h5'⟩ := x
  dsimp only
  have hwx : Wf (rdS S xm) hs := hw.rd (by omega)
  refine brS_of (fun c => ?_) fun c => ?_
  · have c : xi ≠ 0 := by simpa using c
    cases xt with
    | nil => exact absurd h1' c
    | node l k v r =>
      obtain ⟨r1, r2, r3, r4, r5⟩ := h1'
      have q1 := ht_l l r k v
      have q2 := ht_r l r k v
      have hsz : l.size + r.size + 1 = (Tr.node l k v r).size := by simp [Tr.size]; omega
      have asc' : Asc (l.list ++ (k, v) :: r.list) := h3'
      obtain ⟨al, ar, _, _⟩ := asc_parts asc'
      refine ⟨inU_of hw (.inr r1), ⟨_, hwx⟩, by show S.reads + (xm : Int) < _; omega, fun S1 e1 => brS_of (fun d => ?_) fun _ => ?_⟩
      · have d : (!S.us xi) = true := d
        rw [r1] at d; cases d
      have e1 : S1 = rdS S (xm + 1) := by rw [e1, rdS_rdS]; show rdS S (xm + (S.us xi).toNat) = _; rw [r1]; rfl
      subst e1
      have ek : ((rdS S xm).nd xi).key = k := r2
      have ev : ((rdS S xm).nd xi).value = v := r3
      rw [ek]
      refine brS_of (fun d => ?_) fun d => brS_of (fun d2 => ?_) fun d2 => ?_
      · have d : q < k := of_decide_eq_true d
        refine ⟨⟨(S.nd xi).left, l, xm + 1, r4, by rw [h2']; exact getE_left asc' d, al, by omega, by omega⟩, ?_⟩
        (repeat' first | exact trivial | exact rfl | refine And.intro ?_ ?_)
        show l.size < (Tr.node l k v r).size; omega
      · have d2 : k < q := of_decide_eq_true d2
        refine ⟨⟨(S.nd xi).right, r, xm + 1, r5, by rw [h2']; exact getE_right asc' d2, ar, by omega, by omega⟩, ?_⟩
        (repeat' first | exact trivial | exact rfl | refine And.intro ?_ ?_)
        show r.size < (Tr.node l k v r).size; omega
      · have d : ¬ q < k := of_decide_eq_false d
        have d2 : ¬ k < q := of_decide_eq_false d2
        have eq : k = q := by omega
        subst eq
        rw [ev]
        exact h _ (xm + 1) (some v) rfl (by omega) (by rw [h2']; exact (getE_at asc').symm)
  · have c : xi = 0 := by simpa using c
    subst c
    have e := h1'.zero hw
    subst e
    exact h _ xm none rfl (by omega) (by rw [h2']; rfl)
theorem s_getT : SoundT C0 31 tGetT := by
  refine .ofW [0] Try.func31 (by decide) rfl fun args H K h hB => ?_
  unfold tGetT at h
  split at h <;> try exact h.elim
  unfold arM at h
  split at h <;> try exact h.elim
  rename_i i q _ rd fr nd ct us gn rl
  obtain ⟨hs, t, h1, h2, h3, h4, h5, h6⟩ := h
  exact ⟨aGetT ⟨us, gn, rl, fr, nd, ct, rd⟩ t q, ⟨frame C0.ok s_node _, trivial⟩, vc_getT ⟨us, gn, rl, fr, nd, ct, rd⟩ i q K hs t h1 h2 h3 h4 h5 h6⟩
theorem tdiv3 {x : Int} (h : 0 ≤ x) : x.tdiv 3 = x / 3 := Int.tdiv_eq_ediv_of_nonneg h
theorem Hn_top {n : Int} (h : 0 ≤ n) {k : Nat} (h1 : k ≤ 80) (h2 : wt k ≤ n + 1) (h3 : k = 80 ∨ n + 1 < wt (k + 1)) : (k : Int) = Hn n := by
  have e := gN_size n.toNat
  rw [show ((n.toNat : Nat) : Int) = n by omega] at e
  have a := gN_le (w := n.toNat + 1) h1 (by omega)
  have b := gN_wt (w := n.toNat + 1) (by omega)
  have c := gN_rng (n.toNat + 1)
  rcases h3 with h3 | h3
  · omega
  · by_cases d : k + 1 ≤ gN (n.toNat + 1)
    · have := wt_mono d c; omega
    · omega
theorem vc_mxh (n : Int) (K : KT) (h1 : 0 ≤ n) (h2 : n ≤ 1000000) (h : ∀ h, h = Hn n → K (.one (.at (vI h))) [] []) : vc C0 (aMxh n) Try.f82 [.at (vI n)] [] (normK 0 K) := by
  refine Eq.mp (show (brS (decide (n < 0)) ((K (SV.one (TV.at (At.val (Value.int IntKind.i64 (-1))))) [] [])) ((brS (decide (n > 2147483647)) ((K (SV.one (TV.at (At.val (Value.int IntKind.i64 (-1))))) [] [])) (((∃ x : XMx n, (True ∧ (((Value.int IntKind.i64 (n)) = (Value.int IntKind.i64 (n))) ∧ ((Value.int IntKind.i64 0) = (Value.int IntKind.i64 ((↑x.h : Int)))) ∧ ((Value.int IntKind.i64 1) = (Value.int IntKind.i64 (wt x.h))) ∧ True) ∧ True)) ∧ (∀ x : XMx n, (True → (brS (decide ((↑x.h : Int) < 80)) ((brS (decide (IntKind.i64.wrap (IntKind.i64.wrap (wt x.h + IntKind.i64.wrap ((IntKind.i64.wrap (wt x.h + 2)).tdiv 3)) - 1) > n)) ((K (SV.one (TV.at (At.val (Value.int IntKind.i64 ((↑x.h : Int)))))) [] [])) ((∃ x' : XMx n, (True ∧ ((((Value.int IntKind.i64 (n)) = (Value.int IntKind.i64 (n))) ∧ ((Value.int IntKind.i64 (IntKind.i64.wrap ((↑x.h : Int) + 1))) = (Value.int IntKind.i64 ((↑x'.h : Int)))) ∧ ((Value.int IntKind.i64 (IntKind.i64.wrap (wt x.h + IntKind.i64.wrap ((IntKind.i64.wrap (wt x.h + 2)).tdiv 3)))) = (Value.int IntKind.i64 (wt x'.h))) ∧ True) ∧ True) ∧ (80 - x'.h < 80 - x.h)))))) ((K (SV.one (TV.at (At.val (Value.int IntKind.i64 ((↑x.h : Int)))))) [] [])))))))))) = _ by kernel_rfl) ?_
  refine brS_of (fun c => by have := of_decide_eq_true c; omega) fun _ => brS_of (fun c => by have : n > 2147483647 := of_decide_eq_true c; omega) fun _ => ⟨⟨⟨0, by decide, by rw [w0]; omega⟩, ?_⟩, fun x _ => brS_of (fun c => ?_) fun c => ?_⟩
  · (repeat' first | exact trivial | exact rfl | refine And.intro ?_ ?_)
  · obtain ⟨k, p1, p2⟩ := x
    have c : (k : Int) < 80 := of_decide_eq_true c
    have c : k < 80 := by omega
    have st := wt_step k c
    have lo : 1 ≤ wt k := by have := wt_mono (Nat.zero_le k) p1; rw [w0] at this; exact this
    dsimp only
    rw [wrap_id (x := wt k + 2) (by omega) (by omega), tdiv3 (by omega), wrap_id (x := (wt k + 2) / 3) (by omega) (by omega), wrap_id (x := wt k + (wt k + 2) / 3) (by omega) (by omega), wrap_id (x := wt k + (wt k + 2) / 3 - 1) (by omega) (by omega), ← st]
    refine brS_of (fun d => ?_) fun d => ?_
    · have d : wt (k + 1) - 1 > n := of_decide_eq_true d
      exact h _ (Hn_top h1 p1 p2 (.inr (by omega)))
    · have d : ¬ wt (k + 1) - 1 > n := of_decide_eq_false d
      refine ⟨⟨k + 1, c, by omega⟩, ?_⟩
      (repeat' first | exact trivial | exact rfl | refine And.intro ?_ ?_)
      · rw [wrap_id (x := (k : Int) + 1) (by omega) (by omega)]; congr 1
      · show 80 - (k + 1) < 80 - k; omega
  · obtain ⟨k, p1, p2⟩ := x
    have c : ¬ (k : Int) < 80 := of_decide_eq_false c
    have c : k = 80 := by omega
    exact h _ (Hn_top h1 p1 p2 (.inl c))
theorem s_mxh : SoundT C0 82 tMxh := by
  refine .of Try.func82 (by decide) rfl fun args H K h hB => ?_
  unfold tMxh at h
  split at h <;> try exact h.elim
  rename_i n
  exact ⟨aMxh n, trivial, vc_mxh n K h.1 h.2.1 h.2.2⟩
theorem vc_vld (l : List Int) (K : KT) (h1 : okI l) (h2 : l.length ≤ 100) (h : K (.one (.at (vB true))) [.row false EC.int l] []) : vc C0 (aVld l) Try.f64 [.at (.slc 0)] [.row false EC.int l] (normK 1 K) := by
  refine Eq.mp (show ((∃ x : XVd l, (True ∧ (True ∧ ((Value.int IntKind.i64 ((↑l.length : Int))) = (Value.int IntKind.i64 ((↑l.length : Int)))) ∧ ((Value.int IntKind.i64 0) = (Value.int IntKind.i64 ((↑x.i : Int)))) ∧ True) ∧ ((l) = (l)) ∧ True)) ∧
(∀ x : XVd l, (True → (brS (decide ((↑x.i : Int) < (↑l.length : Int))) (((0 ≤ (↑x.i : Int)) ∧ ((↑x.i : Int) < (↑l.length : Int)) ∧ (brS (decide (l.getD (↑x.i : Int).toNat 0 < 0)) ((K (SV.one (TV.at (At.val (Value.bool false)))) [(Chunk.row false (EC.int) (l))] [])) ((brS (decide (l.getD (↑x.i : Int).toNat 0 > 65536)) ((K (SV.one (TV.at (At.val (Value.bool false)))) [(Chunk.row false (EC.int) (l))] [])) ((∃ x' : XVd l, (True ∧ ((True ∧ ((Value.int IntKind.i64 ((↑l.length : Int))) = (Value.int IntKind.i64 ((↑l.length : Int)))) ∧ ((Value.int IntKind.i64 (IntKind.i64.wrap ((↑x.i : Int) + 1))) = (Value.int IntKind.i64 ((↑x'.i : Int)))) ∧ True) ∧ ((l) = (l)) ∧ True) ∧ (l.length - x'.i < l.length - x.i))))))))) ((K (SV.one (TV.at (At.val (Value.bool true)))) [(Chunk.row false (EC.int) (l))] [])))))) = _ by kernel_rfl) ?_
  refine ⟨⟨⟨0, Nat.zero_le _⟩, ?_⟩, fun x _ => brS_of (fun c => ?_) fun c => h⟩
  · (repeat' first | exact trivial | exact rfl | refine And.intro ?_ ?_)
  · obtain ⟨i, hi⟩ := x
    have c : (i : Int) < l.length := of_decide_eq_true c
    have c : i < l.length := by omega
    obtain ⟨a, b⟩ := h1 i c
    refine ⟨by omega, by omega, brS_of (fun d => ?_) fun _ => brS_of (fun d => ?_) fun _ => ⟨⟨i + 1, c⟩, ?_⟩⟩
    · have d : l.getD i 0 < 0 := of_decide_eq_true d
      omega
    · have d : l.getD i 0 > 65536 := of_decide_eq_true d
      omega
    · (repeat' first | exact trivial | exact rfl | refine And.intro ?_ ?_)
      · rw [wrap_id (x := (i : Int) + 1) (by omega) (by omega)]; congr 1
      · show l.length - (i + 1) < l.length - i; omega
theorem s_vld : SoundT C0 64 tVld := by
  refine .of Try.func64 (by decide) rfl fun args H K h hB => ?_
  unfold tVld at h
  split at h <;> try exact h.elim
  rename_i l
  exact ⟨aVld l, trivial, vc_vld l K h.1 h.2.1 h.2.2⟩
theorem s_path : SoundT C0 65 tPath := by
  refine .of Try.func65 (by decide) rfl fun args H K h hB => ?_
  unfold tPath at h
  split at h <;> try exact h.elim
  rename_i f n
  obtain ⟨h1, h2, h3, h4, h5⟩ := h
  refine ⟨aPath, ⟨frame C0.ok s_mxh _, trivial⟩, Eq.mp (show ((0 ≤ n) ∧
(n ≤ 1000000) ∧
(∀ h : Int, (((h) = (Hn n)) → (K (SV.one (TV.at (At.val (Value.int IntKind.i64 (IntKind.i64.wrap (f * IntKind.i64.wrap (h + 2))))))) [] [])))) = _ by kernel_rfl) ⟨h3, h4, fun p e => ?_⟩⟩
  have r := Hn_rng n
  subst e
  have hb : f * (Hn n + 2) ≤ 100 * 82 := Int.mul_le_mul h2 (by omega) (by omega) (by omega)
  have ha : 0 ≤ f * (Hn n + 2) := Int.mul_nonneg h1 (by omega)
  rw [wrap_id (x := Hn n + 2) (by omega) (by omega), wrap_id (x := f * (Hn n + 2)) (by omega) (by omega)]
  exact h5 _ rfl
theorem okI_one {n : Int} (h1 : 0 ≤ n) (h2 : n ≤ 65536) : okI [n] := by
  intro i hi
  have : i = 0 := by simpa using hi
  subst this
  exact ⟨h1, h2⟩
theorem s_rIns : SoundT C0 37 (tRes1 4 1) := by
  refine .of Try.func37 (by decide) rfl fun args H K h hB => ?_
  unfold tRes1 at h
  split at h <;> try exact h.elim
  rename_i n
  obtain ⟨h1, h2, h3⟩ := h
  refine ⟨aRes, ⟨frame C0.ok s_vld _, frame C0.ok s_path _, trivial⟩, Eq.mp (show ((okI [n]) ∧
([n].length ≤ 100) ∧
((0 : Int) ≤ 4) ∧
((4 : Int) ≤ 100) ∧
(0 ≤ IntKind.i64.wrap (n + 1)) ∧
(IntKind.i64.wrap (n + 1) ≤ 1000000) ∧
(∀ p : Int, (((p) = (4 * (Hn (IntKind.i64.wrap (n + 1)) + 2))) → (K (SV.one (TV.at (At.val (Value.int IntKind.i64 (p))))) [] [])))) = _ by kernel_rfl) ?_⟩
  rw [wrap_id (x := n + 1) (by omega) (by omega)]
  exact ⟨okI_one h1 h2, by simp, by decide, by decide, by omega, by omega, h3⟩
theorem s_rDel : SoundT C0 33 (tRes1 4 0) := by
  refine .of Try.func33 (by decide) rfl fun args H K h hB => ?_
  unfold tRes1 at h
  split at h <;> try exact h.elim
  rename_i n
  obtain ⟨h1, h2, h3⟩ := h
  refine ⟨aRes, ⟨frame C0.ok s_vld _, frame C0.ok s_path _, trivial⟩, Eq.mp (show ((okI [n]) ∧
([n].length ≤ 100) ∧
((0 : Int) ≤ 4) ∧
((4 : Int) ≤ 100) ∧
(0 ≤ n) ∧
(n ≤ 1000000) ∧
(∀ p : Int, (((p) = (4 * (Hn n + 2))) → (K (SV.one (TV.at (At.val (Value.int IntKind.i64 (p))))) [] [])))) = _ by kernel_rfl) ?_⟩
  exact ⟨okI_one h1 h2, by simp, by decide, by decide, by omega, by omega, fun p e => h3 p (by rw [e, Int.add_zero])⟩
theorem s_need : SoundT C0 27 tNeed := by
  refine .of Try.func27 (by decide) rfl fun args H K h hB => ?_
  unfold tNeed at h
  split at h <;> try exact h.elim
  rename_i a b c m e f
  obtain ⟨a1, a2, b1, b2, c1, c2, m1, m2, e1, e2, f1, f2, h⟩ := h
  refine ⟨aNeed, ⟨frame C0.ok s_mh _, trivial⟩, Eq.mp (show (brS (decide (a < 0)) ((K (SV.one (TV.at (At.val (Value.int IntKind.i64 (-1))))) [] [])) ((brS (decide (a > 65536)) ((K (SV.one (TV.at (At.val (Value.int IntKind.i64 (-1))))) [] [])) ((brS (decide (b < 0)) ((K (SV.one (TV.at (At.val (Value.int IntKind.i64 (-1))))) [] [])) ((brS (decide (b > 65536)) ((K (SV.one (TV.at (At.val (Value.int IntKind.i64 (-1))))) [] [])) ((brS (decide (c < 0)) ((K (SV.one (TV.at (At.val (Value.int IntKind.i64 (-1))))) [] [])) ((brS (decide (c > 65536)) ((K (SV.one (TV.at (At.val (Value.int IntKind.i64 (-1))))) [] [])) (((0 ≤ IntKind.i64.wrap (IntKind.i64.wrap (IntKind.i64.wrap (a + b) + c) + m)) ∧ (IntKind.i64.wrap (IntKind.i64.wrap (IntKind.i64.wrap (a + b) + c) + m) ≤ 2147483647) ∧ (∀ h : Int, (((h) = (Hn (IntKind.i64.wrap (IntKind.i64.wrap (IntKind.i64.wrap (a + b) + c) + m)))) → (K (SV.one (TV.at (At.val (Value.int IntKind.i64 (IntKind.i64.wrap (e + IntKind.i64.wrap (f * IntKind.i64.wrap (h + 2)))))))) [] [])))))))))))))))) = _ by kernel_rfl) ?_⟩
  rw [wrap_id (x := a + b) (by omega) (by omega), wrap_id (x := a + b + c) (by omega) (by omega), wrap_id (x := a + b + c + m) (by omega) (by omega)]
  refine brS_of (fun q => by have := of_decide_eq_true q; omega) fun _ => brS_of (fun q => by have : a > 65536 := of_decide_eq_true q; omega) fun _ => brS_of (fun q => by have := of_decide_eq_true q; omega) fun _ => brS_of (fun q => by have : b > 65536 := of_decide_eq_true q; omega) fun _ =>
    brS_of (fun q => by have := of_decide_eq_true q; omega) fun _ => brS_of (fun q => by have : c > 65536 := of_decide_eq_true q; omega) fun _ => ⟨by omega, by omega, fun p ep => ?_⟩
  have r := Hn_rng (a + b + c + m)
  subst ep
  have hb : f * (Hn (a + b + c + m) + 2) ≤ 100 * 82 := Int.mul_le_mul f2 (by omega) (by omega) (by omega)
  have ha : 0 ≤ f * (Hn (a + b + c + m) + 2) := Int.mul_nonneg f1 (by omega)
  rw [wrap_id (x := Hn (a + b + c + m) + 2) (by omega) (by omega), wrap_id (x := f * (Hn (a + b + c + m) + 2)) (by omega) (by omega), wrap_id (by omega) (by omega)]
  exact h _ rfl
theorem s_nIns : SoundT C0 13 (tRes1 4 1) := by
  refine .of Try.func13 (by decide) rfl fun args H K h hB => ?_
  unfold tRes1 at h
  split at h <;> try exact h.elim
  rename_i n
  obtain ⟨h1, h2, h3⟩ := h
  refine ⟨aN8, ⟨frame C0.ok s_need _, trivial⟩, Eq.mp (show ((0 ≤ n) ∧
(n ≤ 65536) ∧
((0 : Int) ≤ 0) ∧
((0 : Int) ≤ 65536) ∧
((0 : Int) ≤ 0) ∧
((0 : Int) ≤ 65536) ∧
((0 : Int) ≤ 1) ∧
((1 : Int) ≤ 10) ∧
((0 : Int) ≤ 0) ∧
((0 : Int) ≤ 200000) ∧
((0 : Int) ≤ 4) ∧
((4 : Int) ≤ 100) ∧
(∀ p : Int, (((p) = (0 + 4 * (Hn (n + 0 + 0 + 1) + 2))) → (K (SV.one (TV.at (At.val (Value.int IntKind.i64 (p))))) [] [])))) = _ by kernel_rfl) ?_⟩
  exact ⟨h1, h2, by decide, by decide, by decide, by decide, by decide, by decide, by decide, by decide, by decide, by decide, fun p e => h3 p (by rw [e]; simp)⟩
end Go.Proofs.Ytedfbafngmicpaa.Sx
end
section
/- The first and the last entry of a tree. -/
namespace Go.Proofs.Ytedfbafngmicpaa.Sx
open Go

/-KEEP Wf exW inU live Arn.cap Arn.free Rep rdS Tr.size Tr.list ht entO List.head? List.getLast?-/
def tEvery : Tfm C0 := fun args H K => match args, H with
  | [.at (.val (.int .i64 _))], [] => K (.one (.at (vB true))) [] []
  | _, _ => False
theorem s_every : SoundT C0 88 tEvery := by
  refine .of Try.func88 (by decide) rfl fun args H K h hB => ⟨A0, trivial, ?_⟩
  unfold tEvery at h
  split at h <;> try exact h.elim
  exact Eq.mp (show _ = _ by kernel_rfl) h
structure XNfst (S : Arn) (t : Tr) where
  i : Int
  t' : Tr
  b : Option Ent
  m : Nat
  h : Rep S t' i ∧ (t'.list.head?).or b = t.list.head? ∧ m + ht t' ≤ ht t ∧ t'.size ≤ t.size
theorem step_fst (l r : Tr) (k v : Int) (b : Option Ent) : ((Tr.node l k v r).list.head?).or b = (l.list.head?).or (some (k, v)) := by
  have e : (Tr.node l k v r).list = l.list ++ (k, v) :: r.list := rfl
  rw [e]
  cases l.list <;> simp
noncomputable def aNfst (S : Arn) (t : Tr) : Ann C0 := { Γ := [(45, frameT [] tNode), (88, frameT [] tEvery), (93, frameT [] tEntry)], inv := fun n => match n with
  | 4 => some { X := XNfst S t, sl := [10, 9, 8, 6], tf := fun x => [vi .u32 x.i, vb x.b.isSome, .one (.at (.ptr 7 0)), .one (.at (.ptr 8 0))], hf := fun x => chS (rdS S x.m) ++ [.box [vI (x.b.getD (0, 0)).1, vI (x.b.getD (0, 0)).2], .box [vI 0, vI 0]], μ := fun x => x.t'.size, wr := [0] }
  | _ => none }
def tNfst : Tfm C0 := fun args H K => match args with
  | [.at (.ptr 0 0), .at (.val (.int .u32 i)), .at (.fn 88 [])] => arM H fun S => ∃ hs t, Wf S hs ∧ Rep S t i ∧ t.size ≤ 1000000 ∧ S.reads + t.size ≤ 3000000000000000000 ∧
    ∀ S' m o, S' = rdS S m → m ≤ ht t → o = t.list.head? → K (.tup [entO o, .at (vB o.isSome)]) (chS S') [0]
  | _ => False
noncomputable def aLfst : Ann C0 := { Γ := [(87, frameT [] tNfst)] }
def tLfst : Tfm C0 := fun args H K => match args with
  | [.at (.ptr 0 0), .at (.val (.int .u32 i))] => arM H fun S => ∃ hs t, Wf S hs ∧ Rep S t i ∧ t.size ≤ 1000000 ∧ S.reads + t.size ≤ 3000000000000000000 ∧
    ∀ S' m o, S' = rdS S m → m ≤ ht t → o = t.list.head? → K (.tup [entO o, .at (vB o.isSome)]) (chS S') [0]
  | _ => False
theorem vc_nfst (S : Arn) (i : Int) (K : KT) (hs : List Int) (t : Tr) (hw : Wf S hs) (hr : Rep S t i) (_ : t.size ≤ 1000000) (h2 : S.reads + t.size ≤ 3000000000000000000)
    (h : ∀ S' m o, S' = rdS S m → m ≤ ht t → o = t.list.head? → K (.tup [entO o, .at (vB o.isSome)]) (chS S') [0]) :
    vc C0 (aNfst S t) Try.f87 [.at (.ptr 0 0), .at (vU i), .at (.fn 88 [])] (chS S) (normK 7 (wideK [0] K)) := by
  refine Eq.mp (show ((∃ x : XNfst S t, (True ∧ (True ∧ ((At.fn 88 []) = (At.fn 88 [])) ∧ True ∧ True ∧ ((Value.bool false) = (Value.bool (x.b.isSome))) ∧ ((Value.int IntKind.u32 (i)) = (Value.int IntKind.u32 (x.i))) ∧ True) ∧ (True ∧ True ∧ True ∧ ((Value.int IntKind.u64 (S.reads)) = (Value.int IntKind.u64 ((rdS S x.m).reads))) ∧ True) ∧ (True ∧ True ∧ True ∧ ((Value.int IntKind.u32 (S.fresh)) = (Value.int IntKind.u32 ((rdS S x.m).fresh))) ∧ True) ∧ ((S.nodes) = ((rdS S x.m).nodes)) ∧ ((S.counts) = ((rdS S x.m).counts)) ∧ ((S.used) = ((rdS S x.m).used)) ∧ ((S.gen) = ((rdS S x.m).gen)) ∧ ((S.rel) = ((rdS S x.m).rel)) ∧ (((Value.int IntKind.i64 0) = (Value.int IntKind.i64 ((x.b.getD (0, 0)).fst))) ∧ ((Value.int IntKind.i64 0) = (Value.int IntKind.i64 ((x.b.getD (0, 0)).snd))) ∧ True) ∧ (((Value.int IntKind.i64 0) = (Value.int IntKind.i64 0)) ∧ ((Value.int IntKind.i64 0) = (Value.int IntKind.i64 0)) ∧ True) ∧ True)) ∧
(∀ x : XNfst S t, (True → (brS (x.i != 0) (((inU x.i) ∧ (exW (rdS S x.m)) ∧ ((rdS S x.m).reads < 4000000000000000000) ∧ (∀ S' : Arn, (((S') = (rdS (rdS S x.m) ((rdS S x.m).us x.i).toNat)) → (brS (!(rdS S x.m).us x.i)
    ((K (SV.tup [(TV.agg [(At.val (Value.int IntKind.i64 ((x.b.getD (0, 0)).fst))), (At.val (Value.int IntKind.i64 ((x.b.getD (0, 0)).snd)))]), (TV.at (At.val (Value.bool (x.b.isSome))))]) [(Chunk.box [(At.ptr 1 0), (At.slc 2), (At.slc 3), (At.val (Value.int IntKind.u64 (S'.reads)))]), (Chunk.box [(At.slc 4), (At.slc 5), (At.slc 6), (At.val (Value.int IntKind.u32 (S'.fresh)))]), (Chunk.row true (EC.node) (S'.nodes)), (Chunk.row true (EC.int) (S'.counts)), (Chunk.row true (EC.bool) (S'.used)), (Chunk.row true (EC.u32) (S'.gen)), (Chunk.row true (EC.u32) (S'.rel))] [0])) ((∃ x' : XNfst S t, (True ∧ ((True ∧ ((At.fn 88 []) = (At.fn 88 [])) ∧ True ∧ True ∧ ((Value.bool true) = (Value.bool (x'.b.isSome))) ∧ ((Value.int IntKind.u32 (((rdS S x.m).nd x.i).left)) = (Value.int IntKind.u32 (x'.i))) ∧ True) ∧ (True ∧ True ∧ True ∧ ((Value.int IntKind.u64 (S'.reads)) = (Value.int IntKind.u64 ((rdS S x'.m).reads))) ∧ True) ∧ (True ∧ True ∧ True ∧ ((Value.int IntKind.u32 (S'.fresh)) = (Value.int IntKind.u32 ((rdS S x'.m).fresh))) ∧ True) ∧ ((S'.nodes) = ((rdS S x'.m).nodes)) ∧ ((S'.counts) = ((rdS S x'.m).counts)) ∧ ((S'.used) = ((rdS S x'.m).used)) ∧ ((S'.gen) = ((rdS S x'.m).gen)) ∧ ((S'.rel) = ((rdS S x'.m).rel)) ∧ (((Value.int IntKind.i64 (((rdS S x.m).nd x.i).key)) = (Value.int IntKind.i64 ((x'.b.getD (0, 0)).fst))) ∧ ((Value.int IntKind.i64 (((rdS S x.m).nd x.i).value)) = (Value.int IntKind.i64 ((x'.b.getD (0, 0)).snd))) ∧ True) ∧ (((Value.int IntKind.i64 0) = (Value.int IntKind.i64 0)) ∧
    ((Value.int IntKind.i64 0) = (Value.int IntKind.i64 0)) ∧ True) ∧ True) ∧ (x'.t'.size < x.t'.size))))))))) ((K (SV.tup [(TV.agg [(At.val (Value.int IntKind.i64 ((x.b.getD (0, 0)).fst))), (At.val (Value.int IntKind.i64 ((x.b.getD (0, 0)).snd)))]), (TV.at (At.val (Value.bool (x.b.isSome))))]) [(Chunk.box [(At.ptr 1 0), (At.slc 2), (At.slc 3), (At.val (Value.int IntKind.u64 ((rdS S x.m).reads)))]), (Chunk.box [(At.slc 4), (At.slc 5), (At.slc 6), (At.val (Value.int IntKind.u32 ((rdS S x.m).fresh)))]), (Chunk.row true (EC.node) ((rdS S x.m).nodes)), (Chunk.row true (EC.int) ((rdS S x.m).counts)), (Chunk.row true (EC.bool) ((rdS S x.m).used)), (Chunk.row true (EC.u32) ((rdS S x.m).gen)), (Chunk.row true (EC.u32) ((rdS S x.m).rel))] [0])))))) = _ by kernel_rfl) ?_
  have hrd := hw.rds
  have hb := htr_size t
  refine ⟨⟨⟨i, t, none, 0, hr, by simp, by omega, Nat.le_refl _⟩, ?_⟩, fun x _ => ?_⟩
  · (repeat' first | exact trivial | exact rfl | refine And.intro ?_ ?_)
    rw [rdS_zero]
  obtain ⟨xi, xt, xb, xm, h1', hb2, h3, h4⟩ := x
  dsimp only
  have hwx : Wf (rdS S xm) hs := hw.rd (by omega)
  refine brS_of (fun c => ?_) fun c => ?_
  · have c : xi ≠ 0 := by simpa using c
    cases xt with
    | nil => exact absurd h1' c
    | node l k v r =>
      obtain ⟨r1, r2, r3, r4, r5⟩ := h1'
      have hsz : l.size + r.size + 1 = (Tr.node l k v r).size := by simp [Tr.size]; omega
      have q1 := ht_l l r k v
      refine ⟨inU_of hw (.inr r1), ⟨_, hwx⟩, by show S.reads + (xm : Int) < _; omega, fun S1 e1 => brS_of (fun d => ?_) fun _ => ?_⟩
      · have d : (!S.us xi) = true := d
        have d : S.us xi = false := by simpa using d
        rw [r1] at d; cases d
      have e1 : S1 = rdS S (xm + 1) := by rw [e1, rdS_rdS]; show rdS S (xm + (S.us xi).toNat) = _; rw [r1]; rfl
      subst e1
      have ek : ((rdS S xm).nd xi).key = k := r2
      have ev : ((rdS S xm).nd xi).value = v := r3
      rw [ek, ev]
      refine ⟨⟨(S.nd xi).left, l, some (k, v), xm + 1, r4, by rw [← hb2, step_fst], by omega, by omega⟩, ?_⟩
      (repeat' first | exact trivial | exact rfl | refine And.intro ?_ ?_)
      show l.size < (Tr.node l k v r).size; omega
  · have c : xi = 0 := by simpa using c
    subst c
    have e := h1'.zero hw
    subst e
    exact h _ xm xb rfl (by omega) (by rw [← hb2]; simp [Tr.list])
theorem s_nfst : SoundT C0 87 tNfst := by
  refine .ofW [0] Try.func87 (by decide) rfl fun args H K h hB => ?_
  unfold tNfst at h
  split at h <;> try exact h.elim
  unfold arM at h
  split at h <;> try exact h.elim
  rename_i i _ rd fr nd ct us gn rl
  obtain ⟨hs, t, h1, h2, h3, h4, h5⟩ := h
  exact ⟨aNfst ⟨us, gn, rl, fr, nd, ct, rd⟩ t, ⟨frame C0.ok s_node _, frame C0.ok s_every _, frame C0.ok s_entry _, trivial⟩, vc_nfst ⟨us, gn, rl, fr, nd, ct, rd⟩ i K hs t h1 h2 h3 h4 h5⟩
theorem s_lfst : SoundT C0 79 tLfst := by
  refine .ofW [0] Try.func79 (by decide) rfl fun args H K h hB => ?_
  unfold tLfst at h
  split at h <;> try exact h.elim
  unfold arM at h
  split at h <;> try exact h.elim
  rename_i i _ rd fr nd ct us gn rl
  have key : ∀ S : Arn, (∃ hs t, Wf S hs ∧ Rep S t i ∧ t.size ≤ 1000000 ∧ S.reads + t.size ≤ 3000000000000000000 ∧
    ∀ S' m o, S' = rdS S m → m ≤ ht t → o = t.list.head? → K (.tup [entO o, .at (vB o.isSome)]) (chS S') [0]) → vc C0 aLfst Try.f79 [.at (.ptr 0 0), .at (vU i)] (chS S) (normK 7 (wideK [0] K)) := fun S h => Eq.mp (show (∃ hs : List Int, (∃ t : Tr, ((Wf S hs) ∧ (Rep S t i) ∧ (t.size ≤ 1000000) ∧ (S.reads + (↑t.size : Int) ≤ 3000000000000000000) ∧ (∀ S' : Arn, (∀ m : Nat, (∀ o : Option Ent, (((S') = (rdS S m)) → ((m ≤ ht t) → (((o) = (t.list.head?)) → (K (SV.tup [(TV.agg [(At.val (Value.int IntKind.i64 ((o.getD (0, 0)).fst))), (At.val (Value.int IntKind.i64 ((o.getD (0, 0)).snd)))]), (TV.at (At.val (Value.bool (o.isSome))))]) [(Chunk.box [(At.ptr 1 0), (At.slc 2), (At.slc 3), (At.val (Value.int IntKind.u64 (S'.reads)))]), (Chunk.box [(At.slc 4), (At.slc 5), (At.slc 6), (At.val (Value.int IntKind.u32 (S'.fresh)))]), (Chunk.row true (EC.node) (S'.nodes)), (Chunk.row true (EC.int) (S'.counts)), (Chunk.row true (EC.bool) (S'.used)), (Chunk.row true (EC.u32) (S'.gen)), (Chunk.row true (EC.u32) (S'.rel))] [0])))))))))) = _ by kernel_rfl) h
  exact ⟨aLfst, ⟨frame C0.ok s_nfst _, trivial⟩, key ⟨us, gn, rl, fr, nd, ct, rd⟩ h⟩
structure XNlst (S : Arn) (t : Tr) where
  i : Int
  t' : Tr
  b : Option Ent
  m : Nat
  h : Rep S t' i ∧ (t'.list.getLast?).or b = t.list.getLast? ∧ m + ht t' ≤ ht t ∧ t'.size ≤ t.size
theorem step_lst (l r : Tr) (k v : Int) (b : Option Ent) : ((Tr.node l k v r).list.getLast?).or b = (r.list.getLast?).or (some (k, v)) := by
  have e : (Tr.node l k v r).list = l.list ++ (k, v) :: r.list := rfl
  rw [e]
  rw [List.getLast?_append, List.getLast?_cons]; cases r.list.getLast? <;> simp
noncomputable def aNlst (S : Arn) (t : Tr) : Ann C0 := { Γ := [(45, frameT [] tNode), (88, frameT [] tEvery), (93, frameT [] tEntry)], inv := fun n => match n with
  | 4 => some { X := XNlst S t, sl := [10, 9, 8, 6], tf := fun x => [vi .u32 x.i, vb x.b.isSome, .one (.at (.ptr 7 0)), .one (.at (.ptr 8 0))], hf := fun x => chS (rdS S x.m) ++ [.box [vI (x.b.getD (0, 0)).1, vI (x.b.getD (0, 0)).2], .box [vI 0, vI 0]], μ := fun x => x.t'.size, wr := [0] }
  | _ => none }
def tNlst : Tfm C0 := fun args H K => match args with
  | [.at (.ptr 0 0), .at (.val (.int .u32 i)), .at (.fn 88 [])] => arM H fun S => ∃ hs t, Wf S hs ∧ Rep S t i ∧ t.size ≤ 1000000 ∧ S.reads + t.size ≤ 3000000000000000000 ∧
    ∀ S' m o, S' = rdS S m → m ≤ ht t → o = t.list.getLast? → K (.tup [entO o, .at (vB o.isSome)]) (chS S') [0]
  | _ => False
noncomputable def aLlst : Ann C0 := { Γ := [(89, frameT [] tNlst)] }
def tLlst : Tfm C0 := fun args H K => match args with
  | [.at (.ptr 0 0), .at (.val (.int .u32 i))] => arM H fun S => ∃ hs t, Wf S hs ∧ Rep S t i ∧ t.size ≤ 1000000 ∧ S.reads + t.size ≤ 3000000000000000000 ∧
    ∀ S' m o, S' = rdS S m → m ≤ ht t → o = t.list.getLast? → K (.tup [entO o, .at (vB o.isSome)]) (chS S') [0]
  | _ => False
theorem vc_nlst (S : Arn) (i : Int) (K : KT) (hs : List Int) (t : Tr) (hw : Wf S hs) (hr : Rep S t i) (_ : t.size ≤ 1000000) (h2 : S.reads + t.size ≤ 3000000000000000000)
    (h : ∀ S' m o, S' = rdS S m → m ≤ ht t → o = t.list.getLast? → K (.tup [entO o, .at (vB o.isSome)]) (chS S') [0]) :
    vc C0 (aNlst S t) Try.f89 [.at (.ptr 0 0), .at (vU i), .at (.fn 88 [])] (chS S) (normK 7 (wideK [0] K)) := by
  refine Eq.mp (show ((∃ x : XNlst S t, (True ∧ (True ∧ ((At.fn 88 []) = (At.fn 88 [])) ∧ True ∧ True ∧ ((Value.bool false) = (Value.bool (x.b.isSome))) ∧ ((Value.int IntKind.u32 (i)) = (Value.int IntKind.u32 (x.i))) ∧ True) ∧ (True ∧ True ∧ True ∧ ((Value.int IntKind.u64 (S.reads)) = (Value.int IntKind.u64 ((rdS S x.m).reads))) ∧ True) ∧ (True ∧ True ∧ True ∧ ((Value.int IntKind.u32 (S.fresh)) = (Value.int IntKind.u32 ((rdS S x.m).fresh))) ∧ True) ∧ ((S.nodes) = ((rdS S x.m).nodes)) ∧ ((S.counts) = ((rdS S x.m).counts)) ∧ ((S.used) = ((rdS S x.m).used)) ∧ ((S.gen) = ((rdS S x.m).gen)) ∧ ((S.rel) = ((rdS S x.m).rel)) ∧ (((Value.int IntKind.i64 0) = (Value.int IntKind.i64 ((x.b.getD (0, 0)).fst))) ∧ ((Value.int IntKind.i64 0) = (Value.int IntKind.i64 ((x.b.getD (0, 0)).snd))) ∧ True) ∧ (((Value.int IntKind.i64 0) = (Value.int IntKind.i64 0)) ∧ ((Value.int IntKind.i64 0) = (Value.int IntKind.i64 0)) ∧ True) ∧ True)) ∧
(∀ x : XNlst S t, (True → (brS (x.i != 0) (((inU x.i) ∧ (exW (rdS S x.m)) ∧ ((rdS S x.m).reads < 4000000000000000000) ∧ (∀ S' : Arn, (((S') = (rdS (rdS S x.m) ((rdS S x.m).us x.i).toNat)) → (brS (!(rdS S x.m).us x.i)
    ((K (SV.tup [(TV.agg [(At.val (Value.int IntKind.i64 ((x.b.getD (0, 0)).fst))), (At.val (Value.int IntKind.i64 ((x.b.getD (0, 0)).snd)))]), (TV.at (At.val (Value.bool (x.b.isSome))))]) [(Chunk.box [(At.ptr 1 0), (At.slc 2), (At.slc 3), (At.val (Value.int IntKind.u64 (S'.reads)))]), (Chunk.box [(At.slc 4), (At.slc 5), (At.slc 6), (At.val (Value.int IntKind.u32 (S'.fresh)))]), (Chunk.row true (EC.node) (S'.nodes)), (Chunk.row true (EC.int) (S'.counts)), (Chunk.row true (EC.bool) (S'.used)), (Chunk.row true (EC.u32) (S'.gen)), (Chunk.row true (EC.u32) (S'.rel))] [0])) ((∃ x' : XNlst S t, (True ∧ ((True ∧ ((At.fn 88 []) = (At.fn 88 [])) ∧ True ∧ True ∧ ((Value.bool true) = (Value.bool (x'.b.isSome))) ∧ ((Value.int IntKind.u32 (((rdS S x.m).nd x.i).right)) = (Value.int IntKind.u32 (x'.i))) ∧ True) ∧ (True ∧ True ∧ True ∧ ((Value.int IntKind.u64 (S'.reads)) = (Value.int IntKind.u64 ((rdS S x'.m).reads))) ∧ True) ∧ (True ∧ True ∧ True ∧ ((Value.int IntKind.u32 (S'.fresh)) = (Value.int IntKind.u32 ((rdS S x'.m).fresh))) ∧ True) ∧ ((S'.nodes) = ((rdS S x'.m).nodes)) ∧ ((S'.counts) = ((rdS S x'.m).counts)) ∧ ((S'.used) = ((rdS S x'.m).used)) ∧ ((S'.gen) = ((rdS S x'.m).gen)) ∧ ((S'.rel) = ((rdS S x'.m).rel)) ∧ (((Value.int IntKind.i64 (((rdS S x.m).nd x.i).key)) = (Value.int IntKind.i64 ((x'.b.getD (0, 0)).fst))) ∧ ((Value.int IntKind.i64 (((rdS S x.m).nd x.i).value)) = (Value.int IntKind.i64 ((x'.b.getD (0, 0)).snd))) ∧ True) ∧ (((Value.int IntKind.i64 0) = (Value.int IntKind.i64 0)) ∧
    ((Value.int IntKind.i64 0) = (Value.int IntKind.i64 0)) ∧ True) ∧ True) ∧ (x'.t'.size < x.t'.size))))))))) ((K (SV.tup [(TV.agg [(At.val (Value.int IntKind.i64 ((x.b.getD (0, 0)).fst))), (At.val (Value.int IntKind.i64 ((x.b.getD (0, 0)).snd)))]), (TV.at (At.val (Value.bool (x.b.isSome))))]) [(Chunk.box [(At.ptr 1 0), (At.slc 2), (At.slc 3), (At.val (Value.int IntKind.u64 ((rdS S x.m).reads)))]), (Chunk.box [(At.slc 4), (At.slc 5), (At.slc 6), (At.val (Value.int IntKind.u32 ((rdS S x.m).fresh)))]), (Chunk.row true (EC.node) ((rdS S x.m).nodes)), (Chunk.row true (EC.int) ((rdS S x.m).counts)), (Chunk.row true (EC.bool) ((rdS S x.m).used)), (Chunk.row true (EC.u32) ((rdS S x.m).gen)), (Chunk.row true (EC.u32) ((rdS S x.m).rel))] [0])))))) = _ by kernel_rfl) ?_
  have hrd := hw.rds
  have hb := htr_size t
  refine ⟨⟨⟨i, t, none, 0, hr, by simp, by omega, Nat.le_refl _⟩, ?_⟩, fun x _ => ?_⟩
  · (repeat' first | exact trivial | exact rfl | refine And.intro ?_ ?_)
    rw [rdS_zero]
  obtain ⟨xi, xt, xb, xm, h1', hb2, h3, h4⟩ := x
  dsimp only
  have hwx : Wf (rdS S xm) hs := hw.rd (by omega)
  refine brS_of (fun c => ?_) fun c => ?_
  · have c : xi ≠ 0 := by simpa using c
    cases xt with
    | nil => exact absurd h1' c
    | node l k v r =>
      obtain ⟨r1, r2, r3, r4, r5⟩ := h1'
      have hsz : l.size + r.size + 1 = (Tr.node l k v r).size := by simp [Tr.size]; omega
      have q1 := ht_r l r k v
      refine ⟨inU_of hw (.inr r1), ⟨_, hwx⟩, by show S.reads + (xm : Int) < _; omega, fun S1 e1 => brS_of (fun d => ?_) fun _ => ?_⟩
      · have d : (!S.us xi) = true := d
        have d : S.us xi = false := by simpa using d
        rw [r1] at d; cases d
      have e1 : S1 = rdS S (xm + 1) := by rw [e1, rdS_rdS]; show rdS S (xm + (S.us xi).toNat) = _; rw [r1]; rfl
      subst e1
      have ek : ((rdS S xm).nd xi).key = k := r2
      have ev : ((rdS S xm).nd xi).value = v := r3
      rw [ek, ev]
      refine ⟨⟨(S.nd xi).right, r, some (k, v), xm + 1, r5, by rw [← hb2, step_lst], by omega, by omega⟩, ?_⟩
      (repeat' first | exact trivial | exact rfl | refine And.intro ?_ ?_)
      show r.size < (Tr.node l k v r).size; omega
  · have c : xi = 0 := by simpa using c
    subst c
    have e := h1'.zero hw
    subst e
    exact h _ xm xb rfl (by omega) (by rw [← hb2]; simp [Tr.list])
theorem s_nlst : SoundT C0 89 tNlst := by
  refine .ofW [0] Try.func89 (by decide) rfl fun args H K h hB => ?_
  unfold tNlst at h
  split at h <;> try exact h.elim
  unfold arM at h
  split at h <;> try exact h.elim
  rename_i i _ rd fr nd ct us gn rl
  obtain ⟨hs, t, h1, h2, h3, h4, h5⟩ := h
  exact ⟨aNlst ⟨us, gn, rl, fr, nd, ct, rd⟩ t, ⟨frame C0.ok s_node _, frame C0.ok s_every _, frame C0.ok s_entry _, trivial⟩, vc_nlst ⟨us, gn, rl, fr, nd, ct, rd⟩ i K hs t h1 h2 h3 h4 h5⟩
theorem s_llst : SoundT C0 80 tLlst := by
  refine .ofW [0] Try.func80 (by decide) rfl fun args H K h hB => ?_
  unfold tLlst at h
  split at h <;> try exact h.elim
  unfold arM at h
  split at h <;> try exact h.elim
  rename_i i _ rd fr nd ct us gn rl
  have key : ∀ S : Arn, (∃ hs t, Wf S hs ∧ Rep S t i ∧ t.size ≤ 1000000 ∧ S.reads + t.size ≤ 3000000000000000000 ∧
    ∀ S' m o, S' = rdS S m → m ≤ ht t → o = t.list.getLast? → K (.tup [entO o, .at (vB o.isSome)]) (chS S') [0]) → vc C0 aLlst Try.f80 [.at (.ptr 0 0), .at (vU i)] (chS S) (normK 7 (wideK [0] K)) := fun S h => Eq.mp (show (∃ hs : List Int, (∃ t : Tr, ((Wf S hs) ∧ (Rep S t i) ∧ (t.size ≤ 1000000) ∧ (S.reads + (↑t.size : Int) ≤ 3000000000000000000) ∧ (∀ S' : Arn, (∀ m : Nat, (∀ o : Option Ent, (((S') = (rdS S m)) → ((m ≤ ht t) → (((o) = (t.list.getLast?)) → (K (SV.tup [(TV.agg [(At.val (Value.int IntKind.i64 ((o.getD (0, 0)).fst))), (At.val (Value.int IntKind.i64 ((o.getD (0, 0)).snd)))]), (TV.at (At.val (Value.bool (o.isSome))))]) [(Chunk.box [(At.ptr 1 0), (At.slc 2), (At.slc 3), (At.val (Value.int IntKind.u64 (S'.reads)))]), (Chunk.box [(At.slc 4), (At.slc 5), (At.slc 6), (At.val (Value.int IntKind.u32 (S'.fresh)))]), (Chunk.row true (EC.node) (S'.nodes)), (Chunk.row true (EC.int) (S'.counts)), (Chunk.row true (EC.bool) (S'.used)), (Chunk.row true (EC.u32) (S'.gen)), (Chunk.row true (EC.u32) (S'.rel))] [0])))))))))) = _ by kernel_rfl) h
  exact ⟨aLlst, ⟨frame C0.ok s_nlst _, trivial⟩, key ⟨us, gn, rl, fr, nd, ct, rd⟩ h⟩
end Go.Proofs.Ytedfbafngmicpaa.Sx
end
