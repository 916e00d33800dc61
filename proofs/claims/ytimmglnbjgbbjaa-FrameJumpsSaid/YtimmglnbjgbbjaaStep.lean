/- What one instruction does to a frame, as plain data; and what a program that may run says of each instruction. No conditions. -/
import Derived.Test.YtimmglnbjgbbjaaFr5
import Derived.Test.YtimmglnbjgbbjaaFr2
import Derived.Test.YtimmglnbjgbbjaaRight2
set_option linter.unusedSimpArgs false
set_option linter.unusedVariables false
namespace Go.Proofs.Ytimmglnbjgbbjaa
open Go.RowKit Go.Proofs.YtimmglnbjgbbjaaW.PrintWords
/-- An effect, as plain data. -/
structure Ef where
  kind : Int
  value : Int
  reg : Int
  fn : Int
  hand : Int
  why : Int
  args : List Int
  path : List Int
def goesE : Ef := ⟨1, 0, 0, 0, 0, 0, [], []⟩
def zeroE : Ef := ⟨0, 0, 0, 0, 0, 0, [], []⟩
def failsE (why : Int) : Ef := ⟨8, 0, 0, 0, 0, why, [], []⟩
/-- A number of two; none: a division by 0. -/
def reckonP (op a b : Int) : Option Int :=
  if op = 3 then some (wrap64 (a + b)) else if op = 4 then some (wrap64 (a - b)) else if op = 5 then some (wrap64 (a * b)) else
  if op = 6 then (if b = 0 then none else some (wrap64 (a.tdiv b))) else if op = 7 then some (if a < b then 1 else 0) else some (if a = b then 1 else 0)
def arOf (p : List Fn) (c : Int) : Int := (p[c.toNat]?.getD zFn).ar
/-- What an instruction does to a frame that has gone on. -/
def doP (p : List Fn) (dp : Int) (path : List Int) (x : In) (f : Fr) : Ef × Fr :=
  if x.op = 1 then (goesE, { f with R := upd f.R x.a.toNat x.k }) else
  if x.op = 2 then (goesE, { f with R := upd f.R x.a.toNat (f.R x.b.toNat) }) else
  if x.op ≤ 8 then (match reckonP x.op (f.R x.b.toNat) (f.R x.c.toNat) with
    | none => (failsE 1, f)
    | some n => (goesE, { f with R := upd f.R x.a.toNat n })) else
  if x.op = 9 then (goesE, { f with at_ := x.k }) else
  if x.op = 10 then (goesE, { f with at_ := if f.R x.a.toNat = 0 then x.k else f.at_ }) else
  if x.op = 11 then (if dp ≤ (path.length : Int) then (failsE 4, f) else (⟨3, 0, x.a, x.c, 0, 0, regsOf f.R x.b.toNat (arOf p x.c).toNat, path ++ [f.kids]⟩, { f with kids := wrap64 (f.kids + 1) })) else
  if x.op = 12 then (⟨5, 0, 0, 0, 0, 0, [], []⟩, f) else
  if x.op = 13 then (if dp ≤ (path.length : Int) then (failsE 4, f) else (⟨4, 0, 0, x.c, x.a, 0, regsOf f.R x.b.toNat (arOf p x.c).toNat, path ++ [f.kids]⟩, { f with kids := wrap64 (f.kids + 1) })) else
  if x.op = 14 then (if f.H x.b.toNat = 0 then (failsE 2, f) else (⟨6, 0, x.a, 0, f.H x.b.toNat, 0, [], []⟩, f)) else
  if x.op = 15 then (⟨2, f.R x.a.toNat, 0, 0, 0, 0, [], []⟩, f) else
  if x.op = 16 then (failsE x.k, f) else
  (⟨7, 0, x.a, 0, 0, 0, [], []⟩, f)
/-- What holds of an instruction of a program that may run. -/
structure InOk (p : List Fn) (g : Fn) (x : In) : Prop where
  op1 : 1 ≤ x.op
  op17 : x.op ≤ 17
  a : (x.op = 1 ∨ x.op = 2 ∨ (3 ≤ x.op ∧ x.op ≤ 8) ∨ x.op = 10 ∨ x.op = 11 ∨ x.op = 14 ∨ x.op = 15 ∨ x.op = 17) → 0 ≤ x.a ∧ x.a < 8
  ah : x.op = 13 → 0 ≤ x.a ∧ x.a < 4
  b : (x.op = 2 ∨ (3 ≤ x.op ∧ x.op ≤ 8) ∨ x.op = 11 ∨ x.op = 13) → 0 ≤ x.b ∧ x.b < 8
  bh : x.op = 14 → 0 ≤ x.b ∧ x.b < 4
  c : (3 ≤ x.op ∧ x.op ≤ 8) → 0 ≤ x.c ∧ x.c < 8
  cf : (x.op = 11 ∨ x.op = 13) → 0 ≤ x.c ∧ x.c < (p.length : Int) ∧ (p[x.c.toNat]?.getD zFn).ar ≤ 8 - x.b
  kt : (x.op = 9 ∨ x.op = 10) → 0 ≤ x.k ∧ x.k < (g.code.length : Int)
  kn : x.op = 1 → -2147483648 ≤ x.k ∧ x.k < 2147483648
  kr : x.op = 16 → 16 ≤ x.k ∧ x.k < 2147483648
theorem in_ok {p : List Fn} {g : Fn} {x : In} (h : codeB p g x = true) : InOk p g x := by
  unfold codeB instrB at h
  simp only [Bool.and_eq_true, fitB, idleB, fieldN] at h
  obtain ⟨⟨⟨hs, hi⟩, hf⟩, hr⟩ := h
  have hop : x.op = 1 ∨ x.op = 2 ∨ x.op = 3 ∨ x.op = 4 ∨ x.op = 5 ∨ x.op = 6 ∨ x.op = 7 ∨ x.op = 8 ∨ x.op = 9 ∨ x.op = 10 ∨ x.op = 11 ∨ x.op = 12 ∨ x.op = 13 ∨ x.op = 14 ∨ x.op = 15 ∨ x.op = 16 ∨ x.op = 17 := by
    rcases show (1 ≤ x.op ∧ x.op ≤ 17) ∨ (x.op < 1 ∨ 17 < x.op) from by omega with h1 | h1
    · omega
    · exfalso
      have e : shapeP x.op = (0, 0, 0, 0, false) := by (unfold shapeP; repeat rw [if_neg (by omega)])
      rw [e] at hs
      cases hs
  clear hs hi
  obtain ⟨op, a, b, c, k⟩ := x
  simp only at *
  rcases hop with h | h | h | h | h | h | h | h | h | h | h | h | h | h | h | h | h <;> subst h <;>
    simp only [partN, shapeP, fieldB, Int.reduceEq, Int.reduceLE, or_false, or_true, and_true, and_false, true_and, false_and, if_true, if_false, Bool.and_eq_true, decide_eq_true_eq, bne_iff_ne, ne_eq, Bool.or_eq_true, not_true_eq_false, not_false_eq_true, false_or, true_or] at hf hr <;>
    (constructor <;> (intros; (try simp only at *); first | omega | (simp at *; done) | (exfalso; omega)))
theorem in_code {p : List Fn} (hP : progB p = true) {i : Nat} {g : Fn} (hg : p[i]? = some g) {j : Nat} {x : In} (hx : g.code[j]? = some x) : InOk p g x := by
  have h := prog_fn hP i g hg
  simp only [fnB, Bool.and_eq_true, List.all_eq_true] at h
  exact in_ok (h.1.2 x (List.mem_of_getElem? hx))
end Go.Proofs.Ytimmglnbjgbbjaa
