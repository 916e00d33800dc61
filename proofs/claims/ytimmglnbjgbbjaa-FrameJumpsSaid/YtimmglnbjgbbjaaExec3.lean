/- frame.Exec by one contract: what it answers, and what the frame is behind it. No conditions. -/
import Derived.Test.YtimmglnbjgbbjaaExec2
set_option linter.unusedSimpArgs false
set_option linter.unusedVariables false
namespace Go.Proofs.Ytimmglnbjgbbjaa
open Go.RowKit Go.Proofs.YtimmglnbjgbbjaaW.PrintWords
def codeAt (p : List Fn) (f : Fr) : In := ((p[f.fn.toNat]?.getD zFn).code[f.at_.toNat]?).getD zIn
/-- An effect, an error's number, the frame. -/
def execP (p : List Fn) (bd dp : Int) (path : List Int) (f : Fr) : Ef × Int × Fr :=
  if (progB p && limB bd dp) = false then (zeroE, 1, f) else
  if thereB p f = false then (zeroE, 11, f) else
  if bd ≤ f.steps then (failsE 3, 0, f) else
  ((doP p dp path (codeAt p f) { f with steps := wrap64 (f.steps + 1), at_ := f.at_ + 1 }).1, 0, (doP p dp path (codeAt p f) { f with steps := wrap64 (f.steps + 1), at_ := f.at_ + 1 }).2)
def ExecOut (E : Ef) (err : Int) (f : Fr) (bf : Nat) (pv : Value) (w : World) (en : Ending) (w' : World) : Prop :=
  ∃ av qv, en = .returned (.tuple #[effV E.kind E.value E.reg E.fn E.hand E.why av qv, .int .i64 err]) ∧ Kd.R (Kd.int .i64) 2 w' w.heap.size (fun _ => True) av E.args ∧ Kd.R (Kd.int .i64) 3 w' w.heap.size (fun _ => True) qv E.path ∧
    w'.heap[bf]? = some (.cells (FrB pv f) 80 (0, 0)) ∧ Keep (fun k => k = bf) w w'
theorem there_code {p : List Fn} {f : Fr} (hP : progB p = true) (h : thereB p f = true) : ∃ (i j : Nat) (fn : Fn) (x : In), f.fn = i ∧ p[i]? = some fn ∧ f.at_ = j ∧ fn.code[j]? = some x ∧ codeAt p f = x ∧ InOk p fn x := by
  simp only [thereB, Bool.and_eq_true, decide_eq_true_eq] at h
  obtain ⟨⟨⟨h1, h2⟩, h3⟩, h4⟩ := h
  have hi : f.fn.toNat < p.length := by omega
  have hf := List.getElem?_eq_getElem hi
  rw [hf] at h4
  simp only [Option.getD_some] at h4
  have hj : f.at_.toNat < p[f.fn.toNat].code.length := by omega
  have hx := List.getElem?_eq_getElem hj
  refine ⟨f.fn.toNat, f.at_.toNat, _, _, by omega, hf, by omega, hx, ?_, in_code hP hf hx⟩
  unfold codeAt
  rw [hf, Option.getD_some, hx, Option.getD_some]
theorem exec_any (A : Option Addr) (cp : Nat) (p : List Fn) (bd dp : Int) (w : World) (bf : Nat) (hpF : Kd.F (kFn 34) w (fun k => k ≠ bf) A p.length p) (PA : Option Addr) (pc : Nat) (path : List Int) (f : Fr)
    (hbf : w.heap[bf]? = some (.cells (FrB (.slice PA path.length pc) f) 80 (0, 0))) (hqF : Kd.F (Kd.int .i64) w (fun k => k ≠ bf) PA path.length path) (hpl : path.length ≤ 1000) :
    Calls Try.prog 24 #[.slice A p.length cp, .agg #[.int .i64 bd, .int .i64 dp], .pointer (some ⟨bf, 0, none⟩)] w (ExecOut (execP p bd dp path f).1 (execP p bd dp path f).2.1 (execP p bd dp path f).2.2 bf (.slice PA path.length pc) w) := by
  have hp := Kd.F_now hpF
  by_cases hP : (progB p && limB bd dp) = false
  · rw [show execP p bd dp path f = (zeroE, 1, f) by simp [execP, hP]]
    exact (exec_arg A cp p bd dp w hp _ hP).mono fun en w' ⟨he, hb⟩ => ⟨nilV, nilV, he, Kd.R_nil _ _ _ _ _, Kd.R_nil _ _ _ _ _, blk_below hbf hb, Keep.of_below _ hb⟩
  have hP1 : (progB p && limB bd dp) = true := by simpa using hP
  by_cases hT : thereB p f = false
  · rw [show execP p bd dp path f = (zeroE, 11, f) by unfold execP; rw [if_neg hP, if_pos hT]]
    exact (exec_off A cp p bd dp w hp bf _ f hbf hP1 hT).mono fun en w' ⟨he, hb⟩ => ⟨nilV, nilV, he, Kd.R_nil _ _ _ _ _, Kd.R_nil _ _ _ _ _, blk_below hbf hb, Keep.of_below _ hb⟩
  have hT1 : thereB p f = true := by simpa using hT
  by_cases hs : bd ≤ f.steps
  · rw [show execP p bd dp path f = (failsE 3, 0, f) by unfold execP; rw [if_neg hP, if_neg hT, if_pos hs]]
    exact (exec_budget A cp p bd dp w hp bf _ f hbf hP1 hT1 hs).mono fun en w' ⟨he, hb⟩ => ⟨nilV, nilV, he, Kd.R_nil _ _ _ _ _, Kd.R_nil _ _ _ _ _, blk_below hbf hb, Keep.of_below _ hb⟩
  obtain ⟨i, j, fn, x, hi, hf, hj, hx, hc, hok⟩ := there_code (Bool.and_eq_true _ _ ▸ hP1).1 hT1
  rw [show execP p bd dp path f = ((doP p dp path x { f with steps := wrap64 (f.steps + 1), at_ := (j : Int) + 1 }).1, 0, (doP p dp path x { f with steps := wrap64 (f.steps + 1), at_ := (j : Int) + 1 }).2) by unfold execP; rw [if_neg hP, if_neg hT, if_neg hs, hc, hj]]
  exact exec_go A cp p bd dp w bf hpF PA pc path f hbf hqF hpl hP1 hT1 hs i j fn x hi hf hj hx hok
theorem exec_nil_any (A : Option Addr) (cp : Nat) (p : List Fn) (bd dp : Int) (w : World) (hp : Kd.C (kFn 34) w A p.length p) :
    Calls Try.prog 24 #[.slice A p.length cp, .agg #[.int .i64 bd, .int .i64 dp], .pointer none] w (Refused (if (progB p && limB bd dp) = false then 1 else 11) w) := by
  by_cases hP : (progB p && limB bd dp) = false
  · rw [if_pos hP]; exact exec_arg A cp p bd dp w hp none hP
  · rw [if_neg hP]; exact exec_nil A cp p bd dp w hp (by simpa using hP)
end Go.Proofs.Ytimmglnbjgbbjaa
