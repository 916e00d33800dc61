/- What one instruction does to a frame, as plain data; and what a program that may run says of each instruction. What a program means, as plain data: one task after the other (package eval). Every operation of package frame by one contract: it does what the plain 'doP' says. The operations' map of package frame, as Exec needs it. No conditions. -/
import Derived.Test.YtimmglnbjgbbjaaFr3
import Derived.Test.YtimmglnbjgbbjaaFr1
import Derived.Test.YtimmglnbjgbbjaaRight
import Derived.Test.YtimmglnbjgbbjaaMaps1
import Derived.Test.YtimmglnbjgbbjaaBase
set_option linter.unusedSimpArgs false
set_option linter.unusedVariables false
namespace Go.Proofs.Ytimmglnbjgbbjaa
open Go.RowKit Go.Proofs.YtimmglnbjgbbjaaW.PrintWords
/-- An effect, as plain data. -/
structure Ef where
  kind : Int
  value : Int
  reg : Int
  fn : Int
  hand : Int
  why : Int
  args : List Int
  path : List Int
def goesE : Ef := ⟨1, 0, 0, 0, 0, 0, [], []⟩
def zeroE : Ef := ⟨0, 0, 0, 0, 0, 0, [], []⟩
def failsE (why : Int) : Ef := ⟨8, 0, 0, 0, 0, why, [], []⟩
/-- A number of two; none: a division by 0. -/
def reckonP (op a b : Int) : Option Int :=
  if op = 3 then some (wrap64 (a + b)) else if op = 4 then some (wrap64 (a - b)) else if op = 5 then some (wrap64 (a * b)) else
  if op = 6 then (if b = 0 then none else some (wrap64 (a.tdiv b))) else if op = 7 then some (if a < b then 1 else 0) else some (if a = b then 1 else 0)
def arOf (p : List Fn) (c : Int) : Int := (p[c.toNat]?.getD zFn).ar
/-- What an instruction does to a frame that has gone on. -/
def doP (p : List Fn) (dp : Int) (path : List Int) (x : In) (f : Fr) : Ef × Fr :=
  if x.op = 1 then (goesE, { f with R := upd f.R x.a.toNat x.k }) else
  if x.op = 2 then (goesE, { f with R := upd f.R x.a.toNat (f.R x.b.toNat) }) else
  if x.op ≤ 8 then (match reckonP x.op (f.R x.b.toNat) (f.R x.c.toNat) with
    | none => (failsE 1, f)
    | some n => (goesE, { f with R := upd f.R x.a.toNat n })) else
  if x.op = 9 then (goesE, { f with at_ := x.k }) else
  if x.op = 10 then (goesE, { f with at_ := if f.R x.a.toNat = 0 then x.k else f.at_ }) else
  if x.op = 11 then (if dp ≤ (path.length : Int) then (failsE 4, f) else (⟨3, 0, x.a, x.c, 0, 0, regsOf f.R x.b.toNat (arOf p x.c).toNat, path ++ [f.kids]⟩, { f with kids := wrap64 (f.kids + 1) })) else
  if x.op = 12 then (⟨5, 0, 0, 0, 0, 0, [], []⟩, f) else
  if x.op = 13 then (if dp ≤ (path.length : Int) then (failsE 4, f) else (⟨4, 0, 0, x.c, x.a, 0, regsOf f.R x.b.toNat (arOf p x.c).toNat, path ++ [f.kids]⟩, { f with kids := wrap64 (f.kids + 1) })) else
  if x.op = 14 then (if f.H x.b.toNat = 0 then (failsE 2, f) else (⟨6, 0, x.a, 0, f.H x.b.toNat, 0, [], []⟩, f)) else
  if x.op = 15 then (⟨2, f.R x.a.toNat, 0, 0, 0, 0, [], []⟩, f) else
  if x.op = 16 then (failsE x.k, f) else
  (⟨7, 0, x.a, 0, 0, 0, [], []⟩, f)
/-- What holds of an instruction of a program that may run. -/
structure InOk (p : List Fn) (g : Fn) (x : In) : Prop where
  op1 : 1 ≤ x.op
  op17 : x.op ≤ 17
  a : (x.op = 1 ∨ x.op = 2 ∨ (3 ≤ x.op ∧ x.op ≤ 8) ∨ x.op = 10 ∨ x.op = 11 ∨ x.op = 14 ∨ x.op = 15 ∨ x.op = 17) → 0 ≤ x.a ∧ x.a < 8
  ah : x.op = 13 → 0 ≤ x.a ∧ x.a < 4
  b : (x.op = 2 ∨ (3 ≤ x.op ∧ x.op ≤ 8) ∨ x.op = 11 ∨ x.op = 13) → 0 ≤ x.b ∧ x.b < 8
  bh : x.op = 14 → 0 ≤ x.b ∧ x.b < 4
  c : (3 ≤ x.op ∧ x.op ≤ 8) → 0 ≤ x.c ∧ x.c < 8
  cf : (x.op = 11 ∨ x.op = 13) → 0 ≤ x.c ∧ x.c < (p.length : Int) ∧ (p[x.c.toNat]?.getD zFn).ar ≤ 8 - x.b
  kt : (x.op = 9 ∨ x.op = 10) → 0 ≤ x.k ∧ x.k < (g.code.length : Int)
  kn : x.op = 1 → -2147483648 ≤ x.k ∧ x.k < 2147483648
  kr : x.op = 16 → 16 ≤ x.k ∧ x.k < 2147483648
theorem in_ok {p : List Fn} {g : Fn} {x : In} (h : codeB p g x = true) : InOk p g x := by
  unfold codeB instrB at h
  simp only [Bool.and_eq_true, fitB, idleB, fieldN] at h
  obtain ⟨⟨⟨hs, hi⟩, hf⟩, hr⟩ := h
  have hop : x.op = 1 ∨ x.op = 2 ∨ x.op = 3 ∨ x.op = 4 ∨ x.op = 5 ∨ x.op = 6 ∨ x.op = 7 ∨ x.op = 8 ∨ x.op = 9 ∨ x.op = 10 ∨ x.op = 11 ∨ x.op = 12 ∨ x.op = 13 ∨ x.op = 14 ∨ x.op = 15 ∨ x.op = 16 ∨ x.op = 17 := by
    rcases show (1 ≤ x.op ∧ x.op ≤ 17) ∨ (x.op < 1 ∨ 17 < x.op) from by omega with h1 | h1
    · omega
    · exfalso
      have e : shapeP x.op = (0, 0, 0, 0, false) := by (unfold shapeP; repeat rw [if_neg (by omega)])
      rw [e] at hs
      cases hs
  clear hs hi
  obtain ⟨op, a, b, c, k⟩ := x
  simp only at *
  rcases hop with h | h | h | h | h | h | h | h | h | h | h | h | h | h | h | h | h <;> subst h <;>
    simp only [partN, shapeP, fieldB, Int.reduceEq, Int.reduceLE, or_false, or_true, and_true, and_false, true_and, false_and, if_true, if_false, Bool.and_eq_true, decide_eq_true_eq, bne_iff_ne, ne_eq, Bool.or_eq_true, not_true_eq_false, not_false_eq_true, false_or, true_or] at hf hr <;>
    (constructor <;> (intros; (try simp only at *); first | omega | (simp at *; done) | (exfalso; omega)))
theorem in_code {p : List Fn} (hP : progB p = true) {i : Nat} {g : Fn} (hg : p[i]? = some g) {j : Nat} {x : In} (hx : g.code[j]? = some x) : InOk p g x := by
  have h := prog_fn hP i g hg
  simp only [fnB, Bool.and_eq_true, List.all_eq_true] at h
  exact in_ok (h.1.2 x (List.mem_of_getElem? hx))
end Go.Proofs.Ytimmglnbjgbbjaa
namespace Go.Proofs.Ytimmglnbjgbbjaa
open Go.RowKit Go.Proofs.YtimmglnbjgbbjaaW.PrintWords
/-- A task that is evaluated. -/
structure Tk where
  path : List Int
  R : Nat → Int
  H : Nat → Option Int
  wait : List (Int × Int)
  kids : Int
  at_ : Int
/-- What all tasks share. -/
structure St where
  left : Nat
  told : List Int
  log : List (List Int × Int)
inductive Out where
  | val (v : Int)
  | fail (why : Int)
  | long
def updH (H : Nat → Option Int) (a : Nat) (v : Int) : Nat → Option Int := fun i => if i = a then some v else H i
def syncR (R : Nat → Int) (l : List (Int × Int)) : Nat → Int := l.foldl (fun R s => upd R s.1.toNat s.2) R
def regs0 (args : List Int) : Nat → Int := fun i => args[i]?.getD 0
def tk0 (path : List Int) (args : List Int) (H : Nat → Option Int) : Tk := ⟨path, regs0 args, H, [], 0, 0⟩
def St.begun (s : St) (path : List Int) : St := { s with log := s.log ++ [(path, 0)] }
def St.steps (s : St) (me : Nat) : Int := (s.log[me]?.getD ([], 0)).2
def St.step (s : St) (me : Nat) : St := { s with left := s.left - 1, log := s.log.modify me (fun e => (e.1, e.2 + 1)) }
/-- What an instruction that begins none does to a task: why it fails, or the task behind it. -/
def simpE (x : In) (t : Tk) : Int ⊕ Tk :=
  if x.op = 1 then .inr { t with R := upd t.R x.a.toNat x.k } else
  if x.op = 2 then .inr { t with R := upd t.R x.a.toNat (t.R x.b.toNat) } else
  if x.op ≤ 8 then (match reckonP x.op (t.R x.b.toNat) (t.R x.c.toNat) with
    | none => .inl 1
    | some n => .inr { t with R := upd t.R x.a.toNat n }) else
  if x.op = 9 then .inr { t with at_ := x.k } else
  if x.op = 10 then .inr { t with at_ := if t.R x.a.toNat = 0 then x.k else t.at_ } else
  if x.op = 12 then .inr { t with R := syncR t.R t.wait, wait := [] } else
  if x.op = 14 then (match t.H x.b.toNat with
    | none => .inl 2
    | some v => .inr { t with R := upd t.R x.a.toNat v }) else
  if x.op = 16 then .inl x.k else .inr t
def emitE (x : In) (t : Tk) (s : St) : St := if x.op = 15 then { s with told := s.told ++ [t.R x.a.toNat] } else s
/-- A task goes on: what it ends with. n: at least s.left. -/
def runE (p : List Fn) (bd dp : Int) : Nat → List In → Nat → Tk → St → Out × St
  | 0, _, me, _, s => if s.steps me = bd then (.fail 3, s) else (.long, s)
  | n + 1, c, me, t, s =>
    if s.steps me = bd then (.fail 3, s) else
    if s.left = 0 then (.long, s) else
    let s := s.step me
    let x := c[t.at_.toNat]?.getD zIn
    let t := { t with at_ := t.at_ + 1 }
    if x.op = 17 then (.val (syncR t.R t.wait x.a.toNat), s) else
    if x.op = 11 ∨ x.op = 13 then
      (if (t.path.length : Int) = dp then (.fail 4, s) else
      match runE p bd dp n (p[x.c.toNat]?.getD zFn).code s.log.length (tk0 (t.path ++ [t.kids]) (regsOf t.R x.b.toNat (arOf p x.c).toNat) t.H) (s.begun (t.path ++ [t.kids])) with
      | (.val v, s) => runE p bd dp n c me (if x.op = 11 then { t with kids := t.kids + 1, wait := t.wait ++ [(x.a, v)] } else { t with kids := t.kids + 1, H := updH t.H x.a.toNat v }) s
      | r => r) else
    match simpE x t with
    | .inl why => (.fail why, s)
    | .inr t' => runE p bd dp n c me t' (emitE x t s)
/-- What a program ends with. -/
def evalE (p : List Fn) (args : List Int) (bd dp : Int) (most : Nat) : Out × St :=
  runE p bd dp most (p[0]?.getD zFn).code 0 (tk0 [] args (fun _ => none)) (St.begun ⟨most, [], []⟩ [])
end Go.Proofs.Ytimmglnbjgbbjaa
namespace Go.Proofs.Ytimmglnbjgbbjaa
open Go.RowKit Go.Proofs.YtimmglnbjgbbjaaW.PrintWords
def DoOut (p : List Fn) (dp : Int) (path : List Int) (x : In) (f : Fr) (bf : Nat) (pv : Value) (w : World) (en : Ending) (w' : World) : Prop :=
  ∃ av qv, en = .returned (effV (doP p dp path x f).1.kind (doP p dp path x f).1.value (doP p dp path x f).1.reg (doP p dp path x f).1.fn (doP p dp path x f).1.hand (doP p dp path x f).1.why av qv) ∧
    Kd.R (Kd.int .i64) 2 w' w.heap.size (fun _ => True) av (doP p dp path x f).1.args ∧ Kd.R (Kd.int .i64) 3 w' w.heap.size (fun _ => True) qv (doP p dp path x f).1.path ∧
      w'.heap[bf]? = some (.cells (FrB pv (doP p dp path x f).2) 80 (0, 0)) ∧ Keep (fun k => k = bf) w w'
theorem DoOut.mk {p : List Fn} {dp : Int} {path : List Int} {x : In} {f f' : Fr} {bf : Nat} {pv : Value} {w w' : World} {E : Ef} (he : doP p dp path x f = (E, f')) (ha : E.args = []) (hq : E.path = []) {en : Ending}
    (h : en = .returned (effV E.kind E.value E.reg E.fn E.hand E.why nilV nilV) ∧ w'.heap[bf]? = some (.cells (FrB pv f') 80 (0, 0)) ∧ Keep (fun k => k = bf) w w') : DoOut p dp path x f bf pv w en w' := by
  unfold DoOut
  rw [he]
  refine ⟨nilV, nilV, h.1, ?_, ?_, h.2.1, h.2.2⟩
  · rw [ha]; exact Kd.R_nil _ _ _ _ _
  · rw [hq]; exact Kd.R_nil _ _ _ _ _
/-- The function that does an operation. -/
def deedN (op : Int) : Nat :=
  if op = 1 then 72 else if op = 2 then 73 else if op ≤ 8 then 74 else if op = 9 then 75 else if op = 10 then 76 else
  if op = 11 then 77 else if op = 12 then 78 else if op = 13 then 79 else if op = 14 then 80 else if op = 15 then 81 else
  if op = 16 then 82 else 83
section
variable (A : Option Addr) (cp : Nat) (p : List Fn) (bd dp : Int) (bf : Nat) (PA : Option Addr) (pc : Nat) (path : List Int) (f : Fr) (w : World)
  (hbf : w.heap[bf]? = some (.cells (FrB (.slice PA path.length pc) f) 80 (0, 0)))
  (hpath : Kd.C (Kd.int .i64) w PA path.length path) (hpl : path.length ≤ 1000) (hp : Kd.C (kFn 34) w A p.length p) (hP : progB p = true)
include hbf hpath hpl hp hP
theorem do_any (g : Fn) (x : In) (hx : InOk p g x) :
    Calls Try.prog (deedN x.op) #[.agg #[.slice A p.length cp, .int .i64 bd, .int .i64 dp, .pointer (some ⟨bf, 0, none⟩)], inV x] w (DoOut p dp path x f bf (.slice PA path.length pc) w) := by
  obtain ⟨op, a, b, c, k⟩ := x
  have hop : op = 1 ∨ op = 2 ∨ op = 3 ∨ op = 4 ∨ op = 5 ∨ op = 6 ∨ op = 7 ∨ op = 8 ∨ op = 9 ∨ op = 10 ∨ op = 11 ∨ op = 12 ∨ op = 13 ∨ op = 14 ∨ op = 15 ∨ op = 16 ∨ op = 17 := by
    have h1 := hx.op1
    have h2 := hx.op17
    simp only at h1 h2
    omega
  have ha := hx.a
  have hah := hx.ah
  have hb := hx.b
  have hbh := hx.bh
  have hc := hx.c
  have hcf := hx.cf
  simp only at ha hah hb hbh hc hcf
  clear hx
  unfold inV
  simp only
  rcases hop with rfl | rfl | rfl | rfl | rfl | rfl | rfl | rfl | rfl | rfl | rfl | rfl | rfl | rfl | rfl | rfl | rfl
  · show Calls Try.prog _ _ w _
    obtain ⟨a, rfl⟩ : ∃ n : Nat, a = n := ⟨a.toNat, by have := (ha (by omega)); omega⟩
    exact (set_any (.slice A p.length cp) bd dp bf (.slice PA path.length pc) f w hbf 1 a b c k (by have := (ha (by omega)); omega)).mono fun en w2 h => DoOut.mk (E := goesE) (by simp [doP, goesE, failsE, reckonP]; done) rfl rfl h
  · show Calls Try.prog _ _ w _
    obtain ⟨a, rfl⟩ : ∃ n : Nat, a = n := ⟨a.toNat, by have := (ha (by omega)); omega⟩
    obtain ⟨b, rfl⟩ : ∃ n : Nat, b = n := ⟨b.toNat, by have := (hb (by omega)); omega⟩
    exact (move_any (.slice A p.length cp) bd dp bf (.slice PA path.length pc) f w hbf 2 a b c k (by have := (ha (by omega)); omega) (by have := (hb (by omega)); omega)).mono fun en w2 h => DoOut.mk (E := goesE) (by simp [doP, goesE, failsE, reckonP]; done) rfl rfl h
  · show Calls Try.prog _ _ w _
    obtain ⟨a, rfl⟩ : ∃ n : Nat, a = n := ⟨a.toNat, by have := (ha (by omega)); omega⟩
    obtain ⟨b, rfl⟩ : ∃ n : Nat, b = n := ⟨b.toNat, by have := (hb (by omega)); omega⟩
    obtain ⟨c, rfl⟩ : ∃ n : Nat, c = n := ⟨c.toNat, by have := (hc (by omega)); omega⟩
    exact (reckon3_any (.slice A p.length cp) bd dp bf (.slice PA path.length pc) f w hbf a b c k (by have := (ha (by omega)); omega) (by have := (hb (by omega)); omega) (by have := (hc (by omega)); omega)).mono fun en w2 h => DoOut.mk (E := goesE) (by simp [doP, goesE, failsE, reckonP]; done) rfl rfl h
  · show Calls Try.prog _ _ w _
    obtain ⟨a, rfl⟩ : ∃ n : Nat, a = n := ⟨a.toNat, by have := (ha (by omega)); omega⟩
    obtain ⟨b, rfl⟩ : ∃ n : Nat, b = n := ⟨b.toNat, by have := (hb (by omega)); omega⟩
    obtain ⟨c, rfl⟩ : ∃ n : Nat, c = n := ⟨c.toNat, by have := (hc (by omega)); omega⟩
    exact (reckon4_any (.slice A p.length cp) bd dp bf (.slice PA path.length pc) f w hbf a b c k (by have := (ha (by omega)); omega) (by have := (hb (by omega)); omega) (by have := (hc (by omega)); omega)).mono fun en w2 h => DoOut.mk (E := goesE) (by simp [doP, goesE, failsE, reckonP]; done) rfl rfl h
  · show Calls Try.prog _ _ w _
    obtain ⟨a, rfl⟩ : ∃ n : Nat, a = n := ⟨a.toNat, by have := (ha (by omega)); omega⟩
    obtain ⟨b, rfl⟩ : ∃ n : Nat, b = n := ⟨b.toNat, by have := (hb (by omega)); omega⟩
    obtain ⟨c, rfl⟩ : ∃ n : Nat, c = n := ⟨c.toNat, by have := (hc (by omega)); omega⟩
    exact (reckon5_any (.slice A p.length cp) bd dp bf (.slice PA path.length pc) f w hbf a b c k (by have := (ha (by omega)); omega) (by have := (hb (by omega)); omega) (by have := (hc (by omega)); omega)).mono fun en w2 h => DoOut.mk (E := goesE) (by simp [doP, goesE, failsE, reckonP]; done) rfl rfl h
  · show Calls Try.prog _ _ w _
    obtain ⟨a, rfl⟩ : ∃ n : Nat, a = n := ⟨a.toNat, by have := (ha (by omega)); omega⟩
    obtain ⟨b, rfl⟩ : ∃ n : Nat, b = n := ⟨b.toNat, by have := (hb (by omega)); omega⟩
    obtain ⟨c, rfl⟩ : ∃ n : Nat, c = n := ⟨c.toNat, by have := (hc (by omega)); omega⟩
    by_cases hn : f.R c = 0
    · exact (reckon60_any (.slice A p.length cp) bd dp bf (.slice PA path.length pc) f w hbf a b c k (by have := (ha (by omega)); omega) (by have := (hb (by omega)); omega) (by have := (hc (by omega)); omega) hn).mono fun en w2 h => DoOut.mk (E := failsE 1) (by simp [doP, goesE, failsE, reckonP, hn]; done) rfl rfl h
    · exact (reckon6_any (.slice A p.length cp) bd dp bf (.slice PA path.length pc) f w hbf a b c k (by have := (ha (by omega)); omega) (by have := (hb (by omega)); omega) (by have := (hc (by omega)); omega) hn).mono fun en w2 h => DoOut.mk (E := goesE) (by simp [doP, goesE, failsE, reckonP, hn]; done) rfl rfl h
  · show Calls Try.prog _ _ w _
    obtain ⟨a, rfl⟩ : ∃ n : Nat, a = n := ⟨a.toNat, by have := (ha (by omega)); omega⟩
    obtain ⟨b, rfl⟩ : ∃ n : Nat, b = n := ⟨b.toNat, by have := (hb (by omega)); omega⟩
    obtain ⟨c, rfl⟩ : ∃ n : Nat, c = n := ⟨c.toNat, by have := (hc (by omega)); omega⟩
    by_cases hn : f.R b < f.R c
    · exact (reckon71_any (.slice A p.length cp) bd dp bf (.slice PA path.length pc) f w hbf a b c k (by have := (ha (by omega)); omega) (by have := (hb (by omega)); omega) (by have := (hc (by omega)); omega) hn).mono fun en w2 h => DoOut.mk (E := goesE) (by simp [doP, goesE, failsE, reckonP, hn]; done) rfl rfl h
    · exact (reckon70_any (.slice A p.length cp) bd dp bf (.slice PA path.length pc) f w hbf a b c k (by have := (ha (by omega)); omega) (by have := (hb (by omega)); omega) (by have := (hc (by omega)); omega) hn).mono fun en w2 h => DoOut.mk (E := goesE) (by simp [doP, goesE, failsE, reckonP, hn]; done) rfl rfl h
  · show Calls Try.prog _ _ w _
    obtain ⟨a, rfl⟩ : ∃ n : Nat, a = n := ⟨a.toNat, by have := (ha (by omega)); omega⟩
    obtain ⟨b, rfl⟩ : ∃ n : Nat, b = n := ⟨b.toNat, by have := (hb (by omega)); omega⟩
    obtain ⟨c, rfl⟩ : ∃ n : Nat, c = n := ⟨c.toNat, by have := (hc (by omega)); omega⟩
    by_cases hn : f.R b = f.R c
    · exact (reckon81_any (.slice A p.length cp) bd dp bf (.slice PA path.length pc) f w hbf a b c k (by have := (ha (by omega)); omega) (by have := (hb (by omega)); omega) (by have := (hc (by omega)); omega) hn).mono fun en w2 h => DoOut.mk (E := goesE) (by simp [doP, goesE, failsE, reckonP, hn]; done) rfl rfl h
    · exact (reckon80_any (.slice A p.length cp) bd dp bf (.slice PA path.length pc) f w hbf a b c k (by have := (ha (by omega)); omega) (by have := (hb (by omega)); omega) (by have := (hc (by omega)); omega) hn).mono fun en w2 h => DoOut.mk (E := goesE) (by simp [doP, goesE, failsE, reckonP, hn]; done) rfl rfl h
  · show Calls Try.prog _ _ w _
    exact (jump_any (.slice A p.length cp) bd dp bf (.slice PA path.length pc) f w hbf 9 a b c k).mono fun en w2 h => DoOut.mk (E := goesE) (by simp [doP, goesE, failsE, reckonP]; done) rfl rfl h
  · show Calls Try.prog _ _ w _
    obtain ⟨a, rfl⟩ : ∃ n : Nat, a = n := ⟨a.toNat, by have := (ha (by omega)); omega⟩
    exact (zero_any (.slice A p.length cp) bd dp bf (.slice PA path.length pc) f w hbf 10 a b c k (by have := (ha (by omega)); omega)).mono fun en w2 h => DoOut.mk (E := goesE) (by simp [doP, goesE, failsE, reckonP]; done) rfl rfl h
  · show Calls Try.prog _ _ w _
    obtain ⟨b, rfl⟩ : ∃ n : Nat, b = n := ⟨b.toNat, by have := (hb (by omega)); omega⟩
    obtain ⟨c, rfl⟩ : ∃ n : Nat, c = n := ⟨c.toNat, by have := (hcf (by omega)).1; omega⟩
    obtain ⟨hc1, hc2⟩ := (hcf (by omega)).2
    have hcl : c < p.length := by omega
    have hfc := List.getElem?_eq_getElem hcl
    have hfn := prog_fn hP c _ hfc
    simp only [fnB, Bool.and_eq_true, decide_eq_true_eq] at hfn
    rw [Int.toNat_natCast, hfc] at hc2
    simp only [Option.getD_some] at hc2
    obtain ⟨ar, har⟩ : ∃ n : Nat, p[c].ar = n := ⟨p[c].ar.toNat, by omega⟩
    have hE : arOf p c = (ar : Int) := by unfold arOf; rw [Int.toNat_natCast, hfc]; exact har
    by_cases hd : dp ≤ (path.length : Int)
    · exact (spawn_deep (.slice A p.length cp) bd dp bf PA pc path.length f w hbf 11 a b c k hd).mono fun en w2 h => DoOut.mk (E := failsE 4) (by simp [doP, failsE, hd]; done) rfl rfl h
    · refine (spawn_any A cp p bd dp bf PA pc path f w hbf hpath hpl hp 11 a b c ar k p[c] hfc har (by have := (hb (by omega)); omega) (by omega) hd).mono fun en w2 h => ?_
      obtain ⟨av, qv, h1, h2, h3, h4, h5⟩ := h
      unfold DoOut
      rw [show doP p dp path ⟨11, a, b, c, k⟩ f = (⟨3, 0, a, c, 0, 0, regsOf f.R b ar, path ++ [f.kids]⟩, { f with kids := wrap64 (f.kids + 1) }) from by simp [doP, hd, hE]]
      exact ⟨av, qv, h1, h2, h3, h4, h5⟩
  · show Calls Try.prog _ _ w _
    exact (sync_any (.slice A p.length cp) bd dp bf (.slice PA path.length pc) f w hbf 12 a b c k).mono fun en w2 h => DoOut.mk (E := ⟨5, 0, 0, 0, 0, 0, [], []⟩) (by simp [doP, goesE, failsE, reckonP]; done) rfl rfl h
  · show Calls Try.prog _ _ w _
    obtain ⟨b, rfl⟩ : ∃ n : Nat, b = n := ⟨b.toNat, by have := (hb (by omega)); omega⟩
    obtain ⟨c, rfl⟩ : ∃ n : Nat, c = n := ⟨c.toNat, by have := (hcf (by omega)).1; omega⟩
    obtain ⟨hc1, hc2⟩ := (hcf (by omega)).2
    have hcl : c < p.length := by omega
    have hfc := List.getElem?_eq_getElem hcl
    have hfn := prog_fn hP c _ hfc
    simp only [fnB, Bool.and_eq_true, decide_eq_true_eq] at hfn
    rw [Int.toNat_natCast, hfc] at hc2
    simp only [Option.getD_some] at hc2
    obtain ⟨ar, har⟩ : ∃ n : Nat, p[c].ar = n := ⟨p[c].ar.toNat, by omega⟩
    have hE : arOf p c = (ar : Int) := by unfold arOf; rw [Int.toNat_natCast, hfc]; exact har
    by_cases hd : dp ≤ (path.length : Int)
    · exact (future_deep (.slice A p.length cp) bd dp bf PA pc path.length f w hbf 13 a b c k hd).mono fun en w2 h => DoOut.mk (E := failsE 4) (by simp [doP, failsE, hd]; done) rfl rfl h
    · refine (future_any A cp p bd dp bf PA pc path f w hbf hpath hpl hp 13 a b c ar k p[c] hfc har (by have := (hb (by omega)); omega) (by omega) hd).mono fun en w2 h => ?_
      obtain ⟨av, qv, h1, h2, h3, h4, h5⟩ := h
      unfold DoOut
      rw [show doP p dp path ⟨13, a, b, c, k⟩ f = (⟨4, 0, 0, c, a, 0, regsOf f.R b ar, path ++ [f.kids]⟩, { f with kids := wrap64 (f.kids + 1) }) from by simp [doP, hd, hE]]
      exact ⟨av, qv, h1, h2, h3, h4, h5⟩
  · show Calls Try.prog _ _ w _
    obtain ⟨b, rfl⟩ : ∃ n : Nat, b = n := ⟨b.toNat, by have := (hbh rfl); omega⟩
    refine (touch_any (.slice A p.length cp) bd dp bf (.slice PA path.length pc) f w hbf 14 a b c k (by have := hbh rfl; omega)).mono fun en w2 h => ?_
    by_cases hn : f.H b = 0
    · rw [if_pos hn] at h
      exact DoOut.mk (E := failsE 2) (by simp [doP, failsE, hn]; done) rfl rfl h
    · rw [if_neg hn] at h
      exact DoOut.mk (E := ⟨6, 0, a, 0, f.H b, 0, [], []⟩) (by simp [doP, failsE, hn]; done) rfl rfl h
  · show Calls Try.prog _ _ w _
    obtain ⟨a, rfl⟩ : ∃ n : Nat, a = n := ⟨a.toNat, by have := (ha (by omega)); omega⟩
    exact (emit_any (.slice A p.length cp) bd dp bf (.slice PA path.length pc) f w hbf 15 a b c k (by have := (ha (by omega)); omega)).mono fun en w2 h => DoOut.mk (E := ⟨2, f.R a, 0, 0, 0, 0, [], []⟩) (by simp [doP]; done) rfl rfl h
  · show Calls Try.prog _ _ w _
    exact (fail_any (.slice A p.length cp) bd dp bf (.slice PA path.length pc) f w hbf 16 a b c k).mono fun en w2 h => DoOut.mk (E := failsE k) (by simp [doP]; done) rfl rfl h
  · show Calls Try.prog _ _ w _
    exact (ret_any (.slice A p.length cp) bd dp bf (.slice PA path.length pc) f w hbf 17 a b c k).mono fun en w2 h => DoOut.mk (E := ⟨7, 0, a, 0, 0, 0, [], []⟩) (by simp [doP]; done) rfl rfl h
end
end Go.Proofs.Ytimmglnbjgbbjaa
namespace Go.Proofs.Ytimmglnbjgbbjaa
open Go.RowKit Go.Proofs.YtimmglnbjgbbjaaW.PrintWords
theorem deeds_look (w : World) : Calls Try.prog 54 #[] w fun e w' => ∃ r, e = .returned (.map (some r)) ∧ w'.heap[r]? = some (.map deedsE 17) ∧ Below w.heap.size w w' :=
  (deeds_any w).mono fun e w' ⟨he, hw⟩ => ⟨_, he, by rw [hw]; exact heap_alloc_new _ _, by rw [hw]; exact below_alloc (Below.refl _ _) _⟩
theorem look_op (w : World) (r : Nat) (op : Int) (h1 : 1 ≤ op) (h2 : op ≤ 17) (hb : w.heap[r]? = some (.map deedsE 17)) : (Instr.lookup 153 (.map (some r)) (.int .i64 op) false).run Try.prog w = .ok (.func (.func (deedN op)) #[] #[]) w := by
  rcases show op = 1 ∨ op = 2 ∨ op = 3 ∨ op = 4 ∨ op = 5 ∨ op = 6 ∨ op = 7 ∨ op = 8 ∨ op = 9 ∨ op = 10 ∨ op = 11 ∨ op = 12 ∨ op = 13 ∨ op = 14 ∨ op = 15 ∨ op = 16 ∨ op = 17 from by omega with
    rfl | rfl | rfl | rfl | rfl | rfl | rfl | rfl | rfl | rfl | rfl | rfl | rfl | rfl | rfl | rfl | rfl
  · exact look_1 w r hb
  · exact look_2 w r hb
  · exact look_3 w r hb
  · exact look_4 w r hb
  · exact look_5 w r hb
  · exact look_6 w r hb
  · exact look_7 w r hb
  · exact look_8 w r hb
  · exact look_9 w r hb
  · exact look_10 w r hb
  · exact look_11 w r hb
  · exact look_12 w r hb
  · exact look_13 w r hb
  · exact look_14 w r hb
  · exact look_15 w r hb
  · exact look_16 w r hb
  · exact look_17 w r hb
theorem deed_enters (op : Int) : Enters Try.prog (deedN op) := by
  unfold deedN
  split
  · exact enters_of Try.func72 (by kernel_rfl) rfl
  split
  · exact enters_of Try.func73 (by kernel_rfl) rfl
  split
  · exact enters_of Try.func74 (by kernel_rfl) rfl
  split
  · exact enters_of Try.func75 (by kernel_rfl) rfl
  split
  · exact enters_of Try.func76 (by kernel_rfl) rfl
  split
  · exact enters_of Try.func77 (by kernel_rfl) rfl
  split
  · exact enters_of Try.func78 (by kernel_rfl) rfl
  split
  · exact enters_of Try.func79 (by kernel_rfl) rfl
  split
  · exact enters_of Try.func80 (by kernel_rfl) rfl
  split
  · exact enters_of Try.func81 (by kernel_rfl) rfl
  split
  · exact enters_of Try.func82 (by kernel_rfl) rfl
  · exact enters_of Try.func83 (by kernel_rfl) rfl
end Go.Proofs.Ytimmglnbjgbbjaa
