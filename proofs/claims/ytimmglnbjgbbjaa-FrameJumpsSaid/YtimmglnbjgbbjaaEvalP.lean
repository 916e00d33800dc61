/- What a program means, as plain data: one task after the other (package eval). No conditions. -/
import Derived.Test.YtimmglnbjgbbjaaStep
set_option linter.unusedSimpArgs false
set_option linter.unusedVariables false
namespace Go.Proofs.Ytimmglnbjgbbjaa
open Go.RowKit Go.Proofs.YtimmglnbjgbbjaaW.PrintWords
/-- A task that is evaluated. -/
structure Tk where
  path : List Int
  R : Nat → Int
  H : Nat → Option Int
  wait : List (Int × Int)
  kids : Int
  at_ : Int
/-- What all tasks share. -/
structure St where
  left : Nat
  told : List Int
  log : List (List Int × Int)
inductive Out where
  | val (v : Int)
  | fail (why : Int)
  | long
def updH (H : Nat → Option Int) (a : Nat) (v : Int) : Nat → Option Int := fun i => if i = a then some v else H i
def syncR (R : Nat → Int) (l : List (Int × Int)) : Nat → Int := l.foldl (fun R s => upd R s.1.toNat s.2) R
def regs0 (args : List Int) : Nat → Int := fun i => args[i]?.getD 0
def tk0 (path : List Int) (args : List Int) (H : Nat → Option Int) : Tk := ⟨path, regs0 args, H, [], 0, 0⟩
def St.begun (s : St) (path : List Int) : St := { s with log := s.log ++ [(path, 0)] }
def St.steps (s : St) (me : Nat) : Int := (s.log[me]?.getD ([], 0)).2
def St.step (s : St) (me : Nat) : St := { s with left := s.left - 1, log := s.log.modify me (fun e => (e.1, e.2 + 1)) }
/-- What an instruction that begins none does to a task: why it fails, or the task behind it. -/
def simpE (x : In) (t : Tk) : Int ⊕ Tk :=
  if x.op = 1 then .inr { t with R := upd t.R x.a.toNat x.k } else
  if x.op = 2 then .inr { t with R := upd t.R x.a.toNat (t.R x.b.toNat) } else
  if x.op ≤ 8 then (match reckonP x.op (t.R x.b.toNat) (t.R x.c.toNat) with
    | none => .inl 1
    | some n => .inr { t with R := upd t.R x.a.toNat n }) else
  if x.op = 9 then .inr { t with at_ := x.k } else
  if x.op = 10 then .inr { t with at_ := if t.R x.a.toNat = 0 then x.k else t.at_ } else
  if x.op = 12 then .inr { t with R := syncR t.R t.wait, wait := [] } else
  if x.op = 14 then (match t.H x.b.toNat with
    | none => .inl 2
    | some v => .inr { t with R := upd t.R x.a.toNat v }) else
  if x.op = 16 then .inl x.k else .inr t
def emitE (x : In) (t : Tk) (s : St) : St := if x.op = 15 then { s with told := s.told ++ [t.R x.a.toNat] } else s
/-- A task goes on: what it ends with. n: at least s.left. -/
def runE (p : List Fn) (bd dp : Int) : Nat → List In → Nat → Tk → St → Out × St
  | 0, _, me, _, s => if s.steps me = bd then (.fail 3, s) else (.long, s)
  | n + 1, c, me, t, s =>
    if s.steps me = bd then (.fail 3, s) else
    if s.left = 0 then (.long, s) else
    let s := s.step me
    let x := c[t.at_.toNat]?.getD zIn
    let t := { t with at_ := t.at_ + 1 }
    if x.op = 17 then (.val (syncR t.R t.wait x.a.toNat), s) else
    if x.op = 11 ∨ x.op = 13 then
      (if (t.path.length : Int) = dp then (.fail 4, s) else
      match runE p bd dp n (p[x.c.toNat]?.getD zFn).code s.log.length (tk0 (t.path ++ [t.kids]) (regsOf t.R x.b.toNat (arOf p x.c).toNat) t.H) (s.begun (t.path ++ [t.kids])) with
      | (.val v, s) => runE p bd dp n c me (if x.op = 11 then { t with kids := t.kids + 1, wait := t.wait ++ [(x.a, v)] } else { t with kids := t.kids + 1, H := updH t.H x.a.toNat v }) s
      | r => r) else
    match simpE x t with
    | .inl why => (.fail why, s)
    | .inr t' => runE p bd dp n c me t' (emitE x t s)
/-- What a program ends with. -/
def evalE (p : List Fn) (args : List Int) (bd dp : Int) (most : Nat) : Out × St :=
  runE p bd dp most (p[0]?.getD zFn).code 0 (tk0 [] args (fun _ => none)) (St.begun ⟨most, [], []⟩ [])
end Go.Proofs.Ytimmglnbjgbbjaa
