/- The checks of one instruction's parts (package valid): what they answer, or that they give up. No conditions. -/
import Derived.Test.YtimmglnbjgbbjaaHead
set_option linter.unusedSimpArgs false
set_option linter.unusedVariables false
namespace Go.Proofs.Ytimmglnbjgbbjaa
open Go.RowKit Go.Proofs.YtimmglnbjgbbjaaW.PrintWords
/-- How valid gives up. -/
def wrongC (f at_ e : Int) : List PanicEntry := [{ v := .iface 199 (.agg #[.int .i64 f, .int .i64 at_, .int .i64 e]), recovered := false }]
theorem need_yes (lp : Value) (f at_ e : Int) (w : World) :
    Calls Try.prog 94 #[.agg #[lp, .int .i64 f, .int .i64 at_], .bool true, .int .i64 e] w fun en w' => en = .returned (.tuple #[]) ∧ w' = w.alloc (.cells #[lp, .int .i64 f, .int .i64 at_] 202) := by
  go_enter Try.func94, Try.ntmps94
  go_wp2
  go_end0
  exact ⟨rfl, rfl⟩
theorem need_no (lp : Value) (f at_ e : Int) (w : World) :
    Calls Try.prog 94 #[.agg #[lp, .int .i64 f, .int .i64 at_], .bool false, .int .i64 e] w fun en w' => en = .panicked (wrongC f at_ e) ∧ Below w.heap.size w w' := by
  go_enter Try.func94, Try.ntmps94
  go_wp2
  exact ⟨rfl, rfl, by (repeat (first | exact Below.refl _ _ | (with_reducible assumption) | refine below_thenB ?_ (by assumption) | refine below_alloc ?_ _ | refine below_drew ?_ | refine pw_below_drewN ?_ _ | refine Below.setCell ?_ (by first | (simp; done) | omega | (simp; omega)) _))⟩
/-- What an operation's fields are. -/
def shapeP (op : Int) : Int × Int × Int × Int × Bool :=
  if op = 1 then (1, 0, 0, 4, true) else if op = 2 then (1, 1, 0, 0, true) else if 3 ≤ op ∧ op ≤ 8 then (1, 1, 1, 0, true) else if op = 9 then (0, 0, 0, 5, true) else
  if op = 10 then (1, 0, 0, 5, true) else if op = 11 then (1, 1, 3, 0, true) else if op = 12 then (0, 0, 0, 0, true) else if op = 13 then (2, 1, 3, 0, true) else
  if op = 14 then (1, 2, 0, 0, true) else if op = 15 ∨ op = 17 then (1, 0, 0, 0, true) else if op = 16 then (0, 0, 0, 6, true) else (0, 0, 0, 0, false)
set_option maxHeartbeats 2000000 in
theorem shape_any (op a b c k : Int) (is : Bool) (h0 : shapeP op = (a, b, c, k, is)) (w : World) :
    Calls Try.prog 118 #[.int .i64 op] w fun en w' => en = .returned (.tuple #[.agg #[.int .i64 a, .int .i64 b, .int .i64 c, .int .i64 k], .bool is]) ∧ w' = w.alloc (.cells #[.int .i64 a, .int .i64 b, .int .i64 c, .int .i64 k] 234) := by
  rcases show op = 1 ∨ op = 2 ∨ op = 3 ∨ op = 4 ∨ op = 5 ∨ op = 6 ∨ op = 7 ∨ op = 8 ∨ op = 9 ∨ op = 10 ∨ op = 11 ∨ op = 12 ∨ op = 13 ∨ op = 14 ∨ op = 15 ∨ op = 16 ∨ op = 17 ∨ op < 1 ∨ 17 < op from by omega with
    h | h | h | h | h | h | h | h | h | h | h | h | h | h | h | h | h | h | h
  rotate_right 2
  all_goals
    try subst h
    try (have e : shapeP op = (0, 0, 0, 0, false) := by (unfold shapeP; repeat rw [if_neg (by omega)]))
    try (rw [e] at h0; clear e)
    try simp only [shapeP, Int.reduceEq, Int.reduceLE, or_false, or_true, and_true, and_false, true_and, false_and, if_true, if_false] at h0
    cases h0
    go_enter Try.func118, Try.ntmps118
    go_wp2
    go_returns
    exact ⟨rfl, rfl⟩
/-- May a field be, that is such a part? pl: how many functions; cl: how many instructions. -/
def fieldB (pl cl part n : Int) : Bool :=
  if part = 1 then decide (0 ≤ n) && decide (n < 8) else if part = 2 then decide (0 ≤ n) && decide (n < 4) else if part = 3 then decide (0 ≤ n) && decide (n < pl) else
  if part = 5 then decide (0 ≤ n) && decide (n < cl) else if part = 6 then decide (16 ≤ n) && decide (n < 2147483648) else if part = 4 then decide (-2147483648 ≤ n) && decide (n < 2147483648) else true
section
variable (A : Option Addr) (cp : Nat) (p : List Fn) (fi : Nat) (fn : Fn) (hf : p[fi]? = some fn) (n part at_ : Int) (w : World) (hp : Kd.C (kFn 34) w A p.length p) (h0 : 0 ≤ part) (h6 : part ≤ 6)
include hf hp h0 h6
set_option maxRecDepth 100000 in
set_option maxHeartbeats 2000000 in
theorem field_yes (hb : fieldB p.length fn.code.length part n = true) :
    Calls Try.prog 119 #[.agg #[.slice A p.length cp, .int .i64 fi, .int .i64 at_], .int .i64 n, .int .i64 part] w fun en w' => en = .returned (.tuple #[]) ∧ Below w.heap.size w w' := by
  have hfl : fi < p.length := (List.getElem?_eq_some_iff.1 hf).1
  have hpl := hp.2.1
  obtain ⟨ad, A1, c1, rfl, hx0, hx1, hl1, hi1, hlt⟩ := at_fn hp fi fn hf
  have hcl := hi1.2.1
  clear hp hf hi1
  rcases show part = 0 ∨ part = 1 ∨ part = 2 ∨ part = 3 ∨ part = 4 ∨ part = 5 ∨ part = 6 from by omega with h | h | h | h | h | h | h
  all_goals
    subst h
    simp only [fieldB, Int.reduceEq, if_true, if_false, Bool.and_eq_true, decide_eq_true_eq] at hb
    try obtain ⟨hb1, hb2⟩ := hb
    go_enter Try.func119, Try.ntmps119
    go_wp2_with (go_at_call 94; (with_reducible refine (need_yes _ _ _ _ _).mono ?_); rintro e w1 ⟨rfl, rfl⟩)
  all_goals try (go_end0; exact ⟨rfl, by (repeat (first | exact Below.refl _ _ | (with_reducible assumption) | refine below_thenB ?_ (by assumption) | refine below_alloc ?_ _ | refine below_drew ?_ | refine pw_below_drewN ?_ _ | refine Below.setCell ?_ (by first | (simp; done) | omega | (simp; omega)) _))⟩)
  (refine wp_region_head 15 (by kernel_rfl) (by kernel_rfl) ?_; simp only [List.take_succ_cons, List.take_zero, List.drop_succ_cons, List.drop_zero]; (iterate 15 (go_big_quiet_step (fail))); with_reducible refine wpQuiet_nil ?_)
  go_wp2_with (go_at_call 94; (with_reducible refine (need_yes _ _ _ _ _).mono ?_); rintro e w1 ⟨rfl, rfl⟩)
  go_end0
  exact ⟨rfl, by (repeat (first | exact Below.refl _ _ | (with_reducible assumption) | refine below_thenB ?_ (by assumption) | refine below_alloc ?_ _ | refine below_drew ?_ | refine pw_below_drewN ?_ _ | refine Below.setCell ?_ (by first | (simp; done) | omega | (simp; omega)) _))⟩
set_option maxRecDepth 100000 in
set_option maxHeartbeats 2000000 in
theorem field_no (hb : fieldB p.length fn.code.length part n = false) :
    Calls Try.prog 119 #[.agg #[.slice A p.length cp, .int .i64 fi, .int .i64 at_], .int .i64 n, .int .i64 part] w fun en w' => (∃ e, e ≠ 0 ∧ en = .panicked (wrongC fi at_ e)) ∧ Below w.heap.size w w' := by
  have hfl : fi < p.length := (List.getElem?_eq_some_iff.1 hf).1
  have hpl := hp.2.1
  obtain ⟨ad, A1, c1, rfl, hx0, hx1, hl1, hi1, hlt⟩ := at_fn hp fi fn hf
  have hcl := hi1.2.1
  clear hp hf hi1
  rcases show part = 0 ∨ part = 1 ∨ part = 2 ∨ part = 3 ∨ part = 4 ∨ part = 6 ∨ part = 5 from by omega with h | h | h | h | h | h | h
  · subst h; simp [fieldB] at hb
  rotate_right
  · subst h
    simp only [fieldB, Int.reduceEq, if_true, if_false, Bool.and_eq_false_iff, decide_eq_false_iff_not] at hb
    rcases show ¬ 0 ≤ n ∨ (0 ≤ n ∧ ¬ n < fn.code.length) from by omega with hb1 | ⟨hb1, hb2⟩
    · have hd : decide (0 ≤ n) = false := by simpa using hb1
      clear hb hb1
      go_enter Try.func119, Try.ntmps119
      go_wp2_with fail
      (refine wp_region_head 15 (by kernel_rfl) (by kernel_rfl) ?_; simp only [List.take_succ_cons, List.take_zero, List.drop_succ_cons, List.drop_zero]; (iterate 15 (go_big_quiet_step (fail))); with_reducible refine wpQuiet_nil ?_)
      go_wp2_with (go_at_call 94; (with_reducible refine (need_no _ _ _ _ _).mono ?_); rintro e w1 ⟨rfl, hbe⟩)
      exact ⟨rfl, ⟨_, by decide, rfl⟩, by (repeat (first | exact Below.refl _ _ | (with_reducible assumption) | refine below_thenB ?_ (by assumption) | refine below_alloc ?_ _ | refine below_drew ?_ | refine pw_below_drewN ?_ _ | refine Below.setCell ?_ (by first | (simp; done) | omega | (simp; omega)) _))⟩
    · have hd : decide (n < (fn.code.length : Int)) = false := by simpa using hb2
      have hd1 : decide (0 ≤ n) = true := by simpa using hb1
      clear hb hb1 hb2
      go_enter Try.func119, Try.ntmps119
      go_wp2_with fail
      (refine wp_region_head 15 (by kernel_rfl) (by kernel_rfl) ?_; simp only [List.take_succ_cons, List.take_zero, List.drop_succ_cons, List.drop_zero]; (iterate 15 (go_big_quiet_step (fail))); with_reducible refine wpQuiet_nil ?_)
      go_wp2_with (go_at_call 94; (with_reducible refine (need_no _ _ _ _ _).mono ?_); rintro e w1 ⟨rfl, hbe⟩)
      exact ⟨rfl, ⟨_, by decide, rfl⟩, by (repeat (first | exact Below.refl _ _ | (with_reducible assumption) | refine below_thenB ?_ (by assumption) | refine below_alloc ?_ _ | refine below_drew ?_ | refine pw_below_drewN ?_ _ | refine Below.setCell ?_ (by first | (simp; done) | omega | (simp; omega)) _))⟩
  all_goals
    subst h
    simp only [fieldB, Int.reduceEq, if_true, if_false, Bool.and_eq_false_iff, decide_eq_false_iff_not] at hb
    rcases hb with hb1 | hb1
    all_goals
      go_enter Try.func119, Try.ntmps119
      go_wp2_with (go_at_call 94; (with_reducible refine (need_no _ _ _ _ _).mono ?_); rintro e w1 ⟨rfl, hbe⟩)
      all_goals exact ⟨rfl, ⟨_, by decide, rfl⟩, by (repeat (first | exact Below.refl _ _ | (with_reducible assumption) | refine below_thenB ?_ (by assumption) | refine below_alloc ?_ _ | refine below_drew ?_ | refine pw_below_drewN ?_ _ | refine Below.setCell ?_ (by first | (simp; done) | omega | (simp; omega)) _))⟩
end
end Go.Proofs.Ytimmglnbjgbbjaa
