/- The checks of one instruction's parts (package valid): what they answer, or that they give up. One instruction looked at whole (package valid): it gives up just if the instruction may not be. Which programs may run (valid.Check): the error is 0 just if the program may. No conditions. -/
import Derived.Test.YtimmglnbjgbbjaaBase
set_option linter.unusedSimpArgs false
set_option linter.unusedVariables false
namespace Go.Proofs.Ytimmglnbjgbbjaa
open Go.RowKit Go.Proofs.YtimmglnbjgbbjaaW.PrintWords
/-- How valid gives up. -/
def wrongC (f at_ e : Int) : List PanicEntry := [{ v := .iface 199 (.agg #[.int .i64 f, .int .i64 at_, .int .i64 e]), recovered := false }]
theorem need_yes (lp : Value) (f at_ e : Int) (w : World) :
    Calls Try.prog 94 #[.agg #[lp, .int .i64 f, .int .i64 at_], .bool true, .int .i64 e] w fun en w' => en = .returned (.tuple #[]) ∧ w' = w.alloc (.cells #[lp, .int .i64 f, .int .i64 at_] 202) := by
  go_enter Try.func94, Try.ntmps94
  go_wp2
  go_end0
  exact ⟨rfl, rfl⟩
theorem need_no (lp : Value) (f at_ e : Int) (w : World) :
    Calls Try.prog 94 #[.agg #[lp, .int .i64 f, .int .i64 at_], .bool false, .int .i64 e] w fun en w' => en = .panicked (wrongC f at_ e) ∧ Below w.heap.size w w' := by
  go_enter Try.func94, Try.ntmps94
  go_wp2
  exact ⟨rfl, rfl, by (repeat (first | exact Below.refl _ _ | (with_reducible assumption) | refine below_thenB ?_ (by assumption) | refine below_alloc ?_ _ | refine below_drew ?_ | refine pw_below_drewN ?_ _ | refine Below.setCell ?_ (by first | (simp; done) | omega | (simp; omega)) _))⟩
/-- What an operation's fields are. -/
def shapeP (op : Int) : Int × Int × Int × Int × Bool :=
  if op = 1 then (1, 0, 0, 4, true) else if op = 2 then (1, 1, 0, 0, true) else if 3 ≤ op ∧ op ≤ 8 then (1, 1, 1, 0, true) else if op = 9 then (0, 0, 0, 5, true) else
  if op = 10 then (1, 0, 0, 5, true) else if op = 11 then (1, 1, 3, 0, true) else if op = 12 then (0, 0, 0, 0, true) else if op = 13 then (2, 1, 3, 0, true) else
  if op = 14 then (1, 2, 0, 0, true) else if op = 15 ∨ op = 17 then (1, 0, 0, 0, true) else if op = 16 then (0, 0, 0, 6, true) else (0, 0, 0, 0, false)
set_option maxHeartbeats 2000000 in
theorem shape_any (op a b c k : Int) (is : Bool) (h0 : shapeP op = (a, b, c, k, is)) (w : World) :
    Calls Try.prog 118 #[.int .i64 op] w fun en w' => en = .returned (.tuple #[.agg #[.int .i64 a, .int .i64 b, .int .i64 c, .int .i64 k], .bool is]) ∧ w' = w.alloc (.cells #[.int .i64 a, .int .i64 b, .int .i64 c, .int .i64 k] 234) := by
  rcases show op = 1 ∨ op = 2 ∨ op = 3 ∨ op = 4 ∨ op = 5 ∨ op = 6 ∨ op = 7 ∨ op = 8 ∨ op = 9 ∨ op = 10 ∨ op = 11 ∨ op = 12 ∨ op = 13 ∨ op = 14 ∨ op = 15 ∨ op = 16 ∨ op = 17 ∨ op < 1 ∨ 17 < op from by omega with
    h | h | h | h | h | h | h | h | h | h | h | h | h | h | h | h | h | h | h
  rotate_right 2
  all_goals
    try subst h
    try (have e : shapeP op = (0, 0, 0, 0, false) := by (unfold shapeP; repeat rw [if_neg (by omega)]))
    try (rw [e] at h0; clear e)
    try simp only [shapeP, Int.reduceEq, Int.reduceLE, or_false, or_true, and_true, and_false, true_and, false_and, if_true, if_false] at h0
    cases h0
    go_enter Try.func118, Try.ntmps118
    go_wp2
    go_returns
    exact ⟨rfl, rfl⟩
/-- May a field be, that is such a part? pl: how many functions; cl: how many instructions. -/
def fieldB (pl cl part n : Int) : Bool :=
  if part = 1 then decide (0 ≤ n) && decide (n < 8) else if part = 2 then decide (0 ≤ n) && decide (n < 4) else if part = 3 then decide (0 ≤ n) && decide (n < pl) else
  if part = 5 then decide (0 ≤ n) && decide (n < cl) else if part = 6 then decide (16 ≤ n) && decide (n < 2147483648) else if part = 4 then decide (-2147483648 ≤ n) && decide (n < 2147483648) else true
section
variable (A : Option Addr) (cp : Nat) (p : List Fn) (fi : Nat) (fn : Fn) (hf : p[fi]? = some fn) (n part at_ : Int) (w : World) (hp : Kd.C (kFn 34) w A p.length p) (h0 : 0 ≤ part) (h6 : part ≤ 6)
include hf hp h0 h6
set_option maxRecDepth 100000 in
set_option maxHeartbeats 2000000 in
theorem field_yes (hb : fieldB p.length fn.code.length part n = true) :
    Calls Try.prog 119 #[.agg #[.slice A p.length cp, .int .i64 fi, .int .i64 at_], .int .i64 n, .int .i64 part] w fun en w' => en = .returned (.tuple #[]) ∧ Below w.heap.size w w' := by
  have hfl : fi < p.length := (List.getElem?_eq_some_iff.1 hf).1
  have hpl := hp.2.1
  obtain ⟨ad, A1, c1, rfl, hx0, hx1, hl1, hi1, hlt⟩ := at_fn hp fi fn hf
  have hcl := hi1.2.1
  clear hp hf hi1
  rcases show part = 0 ∨ part = 1 ∨ part = 2 ∨ part = 3 ∨ part = 4 ∨ part = 5 ∨ part = 6 from by omega with h | h | h | h | h | h | h
  all_goals
    subst h
    simp only [fieldB, Int.reduceEq, if_true, if_false, Bool.and_eq_true, decide_eq_true_eq] at hb
    try obtain ⟨hb1, hb2⟩ := hb
    go_enter Try.func119, Try.ntmps119
    go_wp2_with (go_at_call 94; (with_reducible refine (need_yes _ _ _ _ _).mono ?_); rintro e w1 ⟨rfl, rfl⟩)
  all_goals try (go_end0; exact ⟨rfl, by (repeat (first | exact Below.refl _ _ | (with_reducible assumption) | refine below_thenB ?_ (by assumption) | refine below_alloc ?_ _ | refine below_drew ?_ | refine pw_below_drewN ?_ _ | refine Below.setCell ?_ (by first | (simp; done) | omega | (simp; omega)) _))⟩)
  (refine wp_region_head 15 (by kernel_rfl) (by kernel_rfl) ?_; simp only [List.take_succ_cons, List.take_zero, List.drop_succ_cons, List.drop_zero]; (iterate 15 (go_big_quiet_step (fail))); with_reducible refine wpQuiet_nil ?_)
  go_wp2_with (go_at_call 94; (with_reducible refine (need_yes _ _ _ _ _).mono ?_); rintro e w1 ⟨rfl, rfl⟩)
  go_end0
  exact ⟨rfl, by (repeat (first | exact Below.refl _ _ | (with_reducible assumption) | refine below_thenB ?_ (by assumption) | refine below_alloc ?_ _ | refine below_drew ?_ | refine pw_below_drewN ?_ _ | refine Below.setCell ?_ (by first | (simp; done) | omega | (simp; omega)) _))⟩
set_option maxRecDepth 100000 in
set_option maxHeartbeats 2000000 in
theorem field_no (hb : fieldB p.length fn.code.length part n = false) :
    Calls Try.prog 119 #[.agg #[.slice A p.length cp, .int .i64 fi, .int .i64 at_], .int .i64 n, .int .i64 part] w fun en w' => (∃ e, e ≠ 0 ∧ en = .panicked (wrongC fi at_ e)) ∧ Below w.heap.size w w' := by
  have hfl : fi < p.length := (List.getElem?_eq_some_iff.1 hf).1
  have hpl := hp.2.1
  obtain ⟨ad, A1, c1, rfl, hx0, hx1, hl1, hi1, hlt⟩ := at_fn hp fi fn hf
  have hcl := hi1.2.1
  clear hp hf hi1
  rcases show part = 0 ∨ part = 1 ∨ part = 2 ∨ part = 3 ∨ part = 4 ∨ part = 6 ∨ part = 5 from by omega with h | h | h | h | h | h | h
  · subst h; simp [fieldB] at hb
  rotate_right
  · subst h
    simp only [fieldB, Int.reduceEq, if_true, if_false, Bool.and_eq_false_iff, decide_eq_false_iff_not] at hb
    rcases show ¬ 0 ≤ n ∨ (0 ≤ n ∧ ¬ n < fn.code.length) from by omega with hb1 | ⟨hb1, hb2⟩
    · have hd : decide (0 ≤ n) = false := by simpa using hb1
      clear hb hb1
      go_enter Try.func119, Try.ntmps119
      go_wp2_with fail
      (refine wp_region_head 15 (by kernel_rfl) (by kernel_rfl) ?_; simp only [List.take_succ_cons, List.take_zero, List.drop_succ_cons, List.drop_zero]; (iterate 15 (go_big_quiet_step (fail))); with_reducible refine wpQuiet_nil ?_)
      go_wp2_with (go_at_call 94; (with_reducible refine (need_no _ _ _ _ _).mono ?_); rintro e w1 ⟨rfl, hbe⟩)
      exact ⟨rfl, ⟨_, by decide, rfl⟩, by (repeat (first | exact Below.refl _ _ | (with_reducible assumption) | refine below_thenB ?_ (by assumption) | refine below_alloc ?_ _ | refine below_drew ?_ | refine pw_below_drewN ?_ _ | refine Below.setCell ?_ (by first | (simp; done) | omega | (simp; omega)) _))⟩
    · have hd : decide (n < (fn.code.length : Int)) = false := by simpa using hb2
      have hd1 : decide (0 ≤ n) = true := by simpa using hb1
      clear hb hb1 hb2
      go_enter Try.func119, Try.ntmps119
      go_wp2_with fail
      (refine wp_region_head 15 (by kernel_rfl) (by kernel_rfl) ?_; simp only [List.take_succ_cons, List.take_zero, List.drop_succ_cons, List.drop_zero]; (iterate 15 (go_big_quiet_step (fail))); with_reducible refine wpQuiet_nil ?_)
      go_wp2_with (go_at_call 94; (with_reducible refine (need_no _ _ _ _ _).mono ?_); rintro e w1 ⟨rfl, hbe⟩)
      exact ⟨rfl, ⟨_, by decide, rfl⟩, by (repeat (first | exact Below.refl _ _ | (with_reducible assumption) | refine below_thenB ?_ (by assumption) | refine below_alloc ?_ _ | refine below_drew ?_ | refine pw_below_drewN ?_ _ | refine Below.setCell ?_ (by first | (simp; done) | omega | (simp; omega)) _))⟩
  all_goals
    subst h
    simp only [fieldB, Int.reduceEq, if_true, if_false, Bool.and_eq_false_iff, decide_eq_false_iff_not] at hb
    rcases hb with hb1 | hb1
    all_goals
      go_enter Try.func119, Try.ntmps119
      go_wp2_with (go_at_call 94; (with_reducible refine (need_no _ _ _ _ _).mono ?_); rintro e w1 ⟨rfl, hbe⟩)
      all_goals exact ⟨rfl, ⟨_, by decide, rfl⟩, by (repeat (first | exact Below.refl _ _ | (with_reducible assumption) | refine below_thenB ?_ (by assumption) | refine below_alloc ?_ _ | refine below_drew ?_ | refine pw_below_drewN ?_ _ | refine Below.setCell ?_ (by first | (simp; done) | omega | (simp; omega)) _))⟩
end
end Go.Proofs.Ytimmglnbjgbbjaa
namespace Go.Proofs.Ytimmglnbjgbbjaa
open Go.RowKit Go.Proofs.YtimmglnbjgbbjaaW.PrintWords
def partN (op : Int) (j : Nat) : Int := match j with | 0 => (shapeP op).1 | 1 => (shapeP op).2.1 | 2 => (shapeP op).2.2.1 | _ => (shapeP op).2.2.2.1
def fieldN (x : In) (j : Nat) : Int := match j with | 0 => x.a | 1 => x.b | 2 => x.c | _ => x.k
def idleB (x : In) (j : Nat) : Bool := partN x.op j != 0 || fieldN x j == 0
def fitB (pl cl : Int) (x : In) (j : Nat) : Bool := fieldB pl cl (partN x.op j) (fieldN x j)
/-- May an instruction be, in a program of pl functions, in one of cl instructions? ar: the arity of the function that it names. -/
def instrB (pl cl ar : Int) (x : In) : Bool :=
  (shapeP x.op).2.2.2.2 && (idleB x 0 && idleB x 1 && idleB x 2 && idleB x 3) && (fitB pl cl x 0 && fitB pl cl x 1 && fitB pl cl x 2 && fitB pl cl x 3) && (partN x.op 2 != 3 || decide (ar ≤ 8 - x.b))
theorem partN_range (op : Int) (j : Nat) : 0 ≤ partN op j ∧ partN op j ≤ 6 := by
  have h : 0 ≤ (shapeP op).1 ∧ (shapeP op).1 ≤ 6 ∧ 0 ≤ (shapeP op).2.1 ∧ (shapeP op).2.1 ≤ 6 ∧ 0 ≤ (shapeP op).2.2.1 ∧ (shapeP op).2.2.1 ≤ 6 ∧ 0 ≤ (shapeP op).2.2.2.1 ∧ (shapeP op).2.2.2.1 ≤ 6 := by
    unfold shapeP
    split <;> (try split) <;> (try split) <;> (try split) <;> (try split) <;> (try split) <;> (try split) <;> (try split) <;> (try split) <;> (try split) <;> (try split) <;> simp
  unfold partN
  split <;> omega
theorem shape_fn {op a b k : Int} {is : Bool} (h : shapeP op = (a, b, 3, k, is)) : b = 1 := by
  unfold shapeP at h
  repeat' split at h
  all_goals (simp only [Prod.mk.injEq] at h; omega)
/-- What looking comes to. -/
def Gives (b : Bool) (f : Int) (en : Ending) : Prop := (b = true ∧ en = .returned (.tuple #[])) ∨ (b = false ∧ ∃ at_ e, e ≠ 0 ∧ en = .panicked (wrongC f at_ e))
theorem Gives.yes {f : Int} : Gives true f (.returned (.tuple #[])) := .inl ⟨rfl, rfl⟩
theorem Gives.no {b : Bool} {f at_ e : Int} (h : b = false) (he : e ≠ 0) : Gives b f (.panicked (wrongC f at_ e)) := .inr ⟨h, at_, e, he, rfl⟩
/-- The variables of 'instr' in memory. -/
structure InstrSt (w : World) (lv : Value) (fi at_ : Int) (x : In) (pa pb pc pk : Int) (b4 b6 b7 : Nat) (wx : World) : Prop where
  h2 : wx.heap[w.heap.size]? = some (.cells #[lv, .int .i64 fi, .int .i64 at_] 202 (0, 0))
  h3 : wx.heap[w.heap.size + 1]? = some (.cells #[.int .i64 x.op, .int .i64 x.a, .int .i64 x.b, .int .i64 x.c, .int .i64 x.k] 24 (0, 0))
  h4 : wx.heap[b4]? = some (.cells #[.int .i64 pa, .int .i64 pb, .int .i64 pc, .int .i64 pk] 234 (0, 0))
  h6 : wx.heap[b6]? = some (.cells #[.int .i64 x.a, .int .i64 x.b, .int .i64 x.c, .int .i64 x.k] 50 (0, 0))
  h7 : wx.heap[b7]? = some (.cells #[.int .i64 pa, .int .i64 pb, .int .i64 pc, .int .i64 pk] 237 (0, 0))
  be : Below w.heap.size w wx
theorem InstrSt.below {w : World} {lv : Value} {fi at_ : Int} {x : In} {pa pb pc pk : Int} {b4 b6 b7 : Nat} {wx w2 : World} (h : InstrSt w lv fi at_ x pa pb pc pk b4 b6 b7 wx) (hb : Below wx.heap.size wx w2) : InstrSt w lv fi at_ x pa pb pc pk b4 b6 b7 w2 :=
  ⟨blk_below h.h2 hb, blk_below h.h3 hb, blk_below h.h4 hb, blk_below h.h6 hb, blk_below h.h7 hb, below_thenB h.be hb⟩
set_option maxRecDepth 100000 in
set_option maxHeartbeats 4000000 in
theorem instr_any (A : Option Addr) (cp : Nat) (p : List Fn) (fi : Nat) (fn : Fn) (hf : p[fi]? = some fn) (x : In) (at_ : Int) (w : World) (hp : Kd.C (kFn 34) w A p.length p) (B : Bool)
    (hB : instrB p.length fn.code.length ((p[x.c.toNat]?.getD zFn).ar) x = B) :
    Calls Try.prog 95 #[.agg #[.slice A p.length cp, .int .i64 fi, .int .i64 at_], inV x] w fun en w' => Gives B fi en ∧ Below w.heap.size w w' := by
  obtain ⟨op, a, b, c, k⟩ := x
  have hpl := hp.2.1
  have HB : Hid _ := hB
  have HP := Lib.hid hp
  have HF := Lib.hid hf
  clear hB hp hf
  obtain ⟨pa, pb, pc, pk, is, hs⟩ : ∃ pa pb pc pk is, shapeP op = (pa, pb, pc, pk, is) := ⟨_, _, _, _, _, rfl⟩
  have HS := Lib.hid hs
  clear hs
  unfold inV
  simp only []
  cases is with
  | false =>
    go_enter Try.func95, Try.ntmps95
    go_wp2_with (first | (go_at_call 118; (with_reducible refine (shape_any _ _ _ _ _ _ HS.out _).mono ?_); rintro e w1 ⟨rfl, rfl⟩) | (go_at_call 94; (with_reducible refine (need_no _ _ _ _ _).mono ?_); rintro e w2 ⟨rfl, hb2⟩))
    exact ⟨rfl, Gives.no (by have h1 := HB.out; rw [← h1]; have h2 := HS.out; simp [instrB, h2]) (by decide), by (repeat (first | exact Below.refl _ _ | (with_reducible assumption) | refine below_thenB ?_ (by assumption) | refine below_alloc ?_ _ | refine below_drew ?_ | refine pw_below_drewN ?_ _ | refine Below.setCell ?_ (by first | (simp; done) | omega | (simp; omega)) _))⟩
  | true =>
    go_enter Try.func95, Try.ntmps95
    go_upto_region 3 with (first | (go_at_call 118; (with_reducible refine (shape_any _ _ _ _ _ _ HS.out _).mono ?_); rintro e w1 ⟨rfl, rfl⟩) | (go_at_call 94; (with_reducible refine (need_yes _ _ _ _ _).mono ?_); rintro e w2 ⟨rfl, rfl⟩))
    go_cut [6, 7] (fun s6 s7 wx => ∃ b6 b7, s6 = .pointer (some ⟨b6, 0, none⟩) ∧ s7 = .pointer (some ⟨b7, 0, none⟩) ∧ InstrSt w (.slice A p.length cp) fi at_ ⟨op, a, b, c, k⟩ pa pb pc pk (w.heap.size + 3) b6 b7 wx)
    case first =>
      refine plan_begin (fun _ => False) 21 22 rfl (by kernel_rfl) (fun hSk => ?_)
      (refine plan_q 0 rfl (by kernel_rfl) (by kernel_rfl) (by kernel_rfl) rfl rfl (fun _ _ _ _ h => h) hSk (by decide) (by kernel_rfl) (fun K hK => ?_); go_big_quiet_op; with_reducible refine hK _ ?_; clear hK K)
      (refine plan_q 1 rfl (by kernel_rfl) (by kernel_rfl) (by kernel_rfl) rfl rfl (fun _ _ _ _ h => h) hSk (by decide) (by kernel_rfl) (fun K hK => ?_); go_big_quiet_op; with_reducible refine hK _ ?_; clear hK K)
      (refine plan_q 2 rfl (by kernel_rfl) (by kernel_rfl) (by kernel_rfl) rfl rfl (fun _ _ _ _ h => h) hSk (by decide) (by kernel_rfl) (fun K hK => ?_); go_big_quiet_op; with_reducible refine hK _ ?_; clear hK K)
      (refine plan_q 3 rfl (by kernel_rfl) (by kernel_rfl) (by kernel_rfl) rfl rfl (fun _ _ _ _ h => h) hSk (by decide) (by kernel_rfl) (fun K hK => ?_); go_big_quiet_op; with_reducible refine hK _ ?_; clear hK K)
      (refine plan_q 4 rfl (by kernel_rfl) (by kernel_rfl) (by kernel_rfl) rfl rfl (fun _ _ _ _ h => h) hSk (by decide) (by kernel_rfl) (fun K hK => ?_); go_big_quiet_op; with_reducible refine hK _ ?_; clear hK K)
      (refine plan_q 5 rfl (by kernel_rfl) (by kernel_rfl) (by kernel_rfl) rfl rfl (fun _ _ _ _ h => h) hSk (by decide) (by kernel_rfl) (fun K hK => ?_); go_big_quiet_op; with_reducible refine hK _ ?_; clear hK K)
      (refine plan_q 6 rfl (by kernel_rfl) (by kernel_rfl) (by kernel_rfl) rfl rfl (fun _ _ _ _ h => h) hSk (by decide) (by kernel_rfl) (fun K hK => ?_); go_big_quiet_op; with_reducible refine hK _ ?_; clear hK K)
      (refine plan_q 7 rfl (by kernel_rfl) (by kernel_rfl) (by kernel_rfl) rfl rfl (fun _ _ _ _ h => h) hSk (by decide) (by kernel_rfl) (fun K hK => ?_); go_big_quiet_op; with_reducible refine hK _ ?_; clear hK K)
      (refine plan_q 8 rfl (by kernel_rfl) (by kernel_rfl) (by kernel_rfl) rfl rfl (fun _ _ _ _ h => h) hSk (by decide) (by kernel_rfl) (fun K hK => ?_); go_big_quiet_op; with_reducible refine hK _ ?_; clear hK K)
      (refine plan_q 9 rfl (by kernel_rfl) (by kernel_rfl) (by kernel_rfl) rfl rfl (fun _ _ _ _ h => h) hSk (by decide) (by kernel_rfl) (fun K hK => ?_); go_big_quiet_op; with_reducible refine hK _ ?_; clear hK K)
      (refine plan_q 10 rfl (by kernel_rfl) (by kernel_rfl) (by kernel_rfl) rfl rfl (fun _ _ _ _ h => h) hSk (by decide) (by kernel_rfl) (fun K hK => ?_); go_big_quiet_op; with_reducible refine hK _ ?_; clear hK K)
      (refine plan_q 11 rfl (by kernel_rfl) (by kernel_rfl) (by kernel_rfl) rfl rfl (fun _ _ _ _ h => h) hSk (by decide) (by kernel_rfl) (fun K hK => ?_); go_big_quiet_op; with_reducible refine hK _ ?_; clear hK K)
      (refine plan_q 12 rfl (by kernel_rfl) (by kernel_rfl) (by kernel_rfl) rfl rfl (fun _ _ _ _ h => h) hSk (by decide) (by kernel_rfl) (fun K hK => ?_); go_big_quiet_op; with_reducible refine hK _ ?_; clear hK K)
      (refine plan_q 13 rfl (by kernel_rfl) (by kernel_rfl) (by kernel_rfl) rfl rfl (fun _ _ _ _ h => h) hSk (by decide) (by kernel_rfl) (fun K hK => ?_); go_big_quiet_op; with_reducible refine hK _ ?_; clear hK K)
      (refine plan_q 14 rfl (by kernel_rfl) (by kernel_rfl) (by kernel_rfl) rfl rfl (fun _ _ _ _ h => h) hSk (by decide) (by kernel_rfl) (fun K hK => ?_); go_big_quiet_op; with_reducible refine hK _ ?_; clear hK K)
      (refine plan_q 15 rfl (by kernel_rfl) (by kernel_rfl) (by kernel_rfl) rfl rfl (fun _ _ _ _ h => h) hSk (by decide) (by kernel_rfl) (fun K hK => ?_); go_big_quiet_op; with_reducible refine hK _ ?_; clear hK K)
      (refine plan_q 16 rfl (by kernel_rfl) (by kernel_rfl) (by kernel_rfl) rfl rfl (fun _ _ _ _ h => h) hSk (by decide) (by kernel_rfl) (fun K hK => ?_); go_big_quiet_op; with_reducible refine hK _ ?_; clear hK K)
      (refine plan_q 17 rfl (by kernel_rfl) (by kernel_rfl) (by kernel_rfl) rfl rfl (fun _ _ _ _ h => h) hSk (by decide) (by kernel_rfl) (fun K hK => ?_); go_big_quiet_op; with_reducible refine hK _ ?_; clear hK K)
      refine plan_b 18 19 rfl rfl (by kernel_rfl) (fun K hK => ?_) (fun K hK => ?_)
      focus
        go_wp2_with (fail); (try simp only [Exit.then]); (try simp only [Act.put, List.setIfInBounds_toArray, List.set_cons_succ, List.set_cons_zero]); refine hK _ _ (fun hz0 => by clear hz0 hSk; (repeat (first | with_reducible exact Keep.refl _ _ | (with_reducible refine Keep.left ?_) | (with_reducible refine Keep.leftN ?_) | (with_reducible assumption) | (with_reducible refine Keep.setCell ?_ ?hs _; case hs => (first | (exact .inl rfl) | (simp; done) | (right; omega) | (right; simp; omega))) | (with_reducible refine Keep.allocs ?_ (by simp; done) _) | (with_reducible refine Keep.alloc ?_ _) | (with_reducible refine Keep.drew ?_) | (with_reducible refine Keep.drewN ?_ _) | refine Keep.thenBelow ?_ (by assumption) | refine Keep.grown ?_ (by assumption) (by intro k hk; (first | (cases hk; done) | (exfalso; simp [Value.ownBlock] at hk; done) | (simp [Value.ownBlock] at hk; subst hk; (first | (right; simp; omega) | (left; first | rfl | simp)))) ) | refine Keep.trans ?_ (by assumption) | (with_reducible refine Keep.allocs ?_ (by simp; done) _) | refine Keep.alloc ?_ _ | refine Keep.drew ?_ | refine Keep.drewN ?_ _ | refine Keep.setCell ?_ (by first | (exact .inl rfl) | (simp; done) | (right; omega) | (right; simp; omega)) _))) (fun hSk1 => ?_); clear hK K hSk; replace hSk1 := hSk1 (by decide); have hSk := hSk1; clear hSk1
        (refine plan_l 19 rfl (by kernel_rfl) (fun K hK => ?_); go_wp2_with (fail); (try simp only [Exit.then]); (try simp only [Act.put, List.setIfInBounds_toArray, List.set_cons_succ, List.set_cons_zero]); refine hK _ _ (fun hz0 => by clear hz0 hSk; (repeat (first | with_reducible exact Keep.refl _ _ | (with_reducible refine Keep.left ?_) | (with_reducible refine Keep.leftN ?_) | (with_reducible assumption) | (with_reducible refine Keep.setCell ?_ ?hs _; case hs => (first | (exact .inl rfl) | (simp; done) | (right; omega) | (right; simp; omega))) | (with_reducible refine Keep.allocs ?_ (by simp; done) _) | (with_reducible refine Keep.alloc ?_ _) | (with_reducible refine Keep.drew ?_) | (with_reducible refine Keep.drewN ?_ _) | refine Keep.thenBelow ?_ (by assumption) | refine Keep.grown ?_ (by assumption) (by intro k hk; (first | (cases hk; done) | (exfalso; simp [Value.ownBlock] at hk; done) | (simp [Value.ownBlock] at hk; subst hk; (first | (right; simp; omega) | (left; first | rfl | simp)))) ) | refine Keep.trans ?_ (by assumption) | (with_reducible refine Keep.allocs ?_ (by simp; done) _) | refine Keep.alloc ?_ _ | refine Keep.drew ?_ | refine Keep.drewN ?_ _ | refine Keep.setCell ?_ (by first | (exact .inl rfl) | (simp; done) | (right; omega) | (right; simp; omega)) _))) (fun hSk1 => ?_); clear hK K hSk; replace hSk1 := hSk1 (by decide); have hSk := hSk1; clear hSk1)
        (refine plan_l 20 rfl (by kernel_rfl) (fun K hK => ?_); go_wp2_with (fail); (try simp only [Exit.then]); (try simp only [Act.put, List.setIfInBounds_toArray, List.set_cons_succ, List.set_cons_zero]); refine hK _ _ (fun hz0 => by clear hz0 hSk; (repeat (first | with_reducible exact Keep.refl _ _ | (with_reducible refine Keep.left ?_) | (with_reducible refine Keep.leftN ?_) | (with_reducible assumption) | (with_reducible refine Keep.setCell ?_ ?hs _; case hs => (first | (exact .inl rfl) | (simp; done) | (right; omega) | (right; simp; omega))) | (with_reducible refine Keep.allocs ?_ (by simp; done) _) | (with_reducible refine Keep.alloc ?_ _) | (with_reducible refine Keep.drew ?_) | (with_reducible refine Keep.drewN ?_ _) | refine Keep.thenBelow ?_ (by assumption) | refine Keep.grown ?_ (by assumption) (by intro k hk; (first | (cases hk; done) | (exfalso; simp [Value.ownBlock] at hk; done) | (simp [Value.ownBlock] at hk; subst hk; (first | (right; simp; omega) | (left; first | rfl | simp)))) ) | refine Keep.trans ?_ (by assumption) | (with_reducible refine Keep.allocs ?_ (by simp; done) _) | refine Keep.alloc ?_ _ | refine Keep.drew ?_ | refine Keep.drewN ?_ _ | refine Keep.setCell ?_ (by first | (exact .inl rfl) | (simp; done) | (right; omega) | (right; simp; omega)) _))) (fun hSk1 => ?_); clear hK K hSk; replace hSk1 := hSk1 (by decide); have hSk := hSk1; clear hSk1)
        (refine plan_l 21 rfl (by kernel_rfl) (fun K hK => ?_); go_wp2_with (fail); (try simp only [Exit.then]); (try simp only [Act.put, List.setIfInBounds_toArray, List.set_cons_succ, List.set_cons_zero]); refine hK _ _ (fun hz0 => by exact absurd rfl hz0) (fun hSk1 => ?_); clear hK K hSk)
        refine plan_e (by kernel_rfl) ?_
        clear hSk1
      rotate_left
      focus
        go_wp2_with (fail); (try simp only [Exit.then]); (try simp only [Act.put, List.setIfInBounds_toArray, List.set_cons_succ, List.set_cons_zero]); refine hK _ _ (fun hz0 => by clear hz0 hSk; (repeat (first | with_reducible exact Keep.refl _ _ | (with_reducible refine Keep.left ?_) | (with_reducible refine Keep.leftN ?_) | (with_reducible assumption) | (with_reducible refine Keep.setCell ?_ ?hs _; case hs => (first | (exact .inl rfl) | (simp; done) | (right; omega) | (right; simp; omega))) | (with_reducible refine Keep.allocs ?_ (by simp; done) _) | (with_reducible refine Keep.alloc ?_ _) | (with_reducible refine Keep.drew ?_) | (with_reducible refine Keep.drewN ?_ _) | refine Keep.thenBelow ?_ (by assumption) | refine Keep.grown ?_ (by assumption) (by intro k hk; (first | (cases hk; done) | (exfalso; simp [Value.ownBlock] at hk; done) | (simp [Value.ownBlock] at hk; subst hk; (first | (right; simp; omega) | (left; first | rfl | simp)))) ) | refine Keep.trans ?_ (by assumption) | (with_reducible refine Keep.allocs ?_ (by simp; done) _) | refine Keep.alloc ?_ _ | refine Keep.drew ?_ | refine Keep.drewN ?_ _ | refine Keep.setCell ?_ (by first | (exact .inl rfl) | (simp; done) | (right; omega) | (right; simp; omega)) _))) (fun hSk1 => ?_); clear hK K hSk; replace hSk1 := hSk1 (by decide); have hSk := hSk1; clear hSk1
        (refine plan_l 18 rfl (by kernel_rfl) (fun K hK => ?_); go_wp2_with (fail); (try simp only [Exit.then]); (try simp only [Act.put, List.setIfInBounds_toArray, List.set_cons_succ, List.set_cons_zero]); refine hK _ _ (fun hz0 => by clear hz0 hSk; (repeat (first | with_reducible exact Keep.refl _ _ | (with_reducible refine Keep.left ?_) | (with_reducible refine Keep.leftN ?_) | (with_reducible assumption) | (with_reducible refine Keep.setCell ?_ ?hs _; case hs => (first | (exact .inl rfl) | (simp; done) | (right; omega) | (right; simp; omega))) | (with_reducible refine Keep.allocs ?_ (by simp; done) _) | (with_reducible refine Keep.alloc ?_ _) | (with_reducible refine Keep.drew ?_) | (with_reducible refine Keep.drewN ?_ _) | refine Keep.thenBelow ?_ (by assumption) | refine Keep.grown ?_ (by assumption) (by intro k hk; (first | (cases hk; done) | (exfalso; simp [Value.ownBlock] at hk; done) | (simp [Value.ownBlock] at hk; subst hk; (first | (right; simp; omega) | (left; first | rfl | simp)))) ) | refine Keep.trans ?_ (by assumption) | (with_reducible refine Keep.allocs ?_ (by simp; done) _) | refine Keep.alloc ?_ _ | refine Keep.drew ?_ | refine Keep.drewN ?_ _ | refine Keep.setCell ?_ (by first | (exact .inl rfl) | (simp; done) | (right; omega) | (right; simp; omega)) _))) (fun hSk1 => ?_); clear hK K hSk; replace hSk1 := hSk1 (by decide); have hSk := hSk1; clear hSk1)
        (refine plan_l 20 rfl (by kernel_rfl) (fun K hK => ?_); go_wp2_with (fail); (try simp only [Exit.then]); (try simp only [Act.put, List.setIfInBounds_toArray, List.set_cons_succ, List.set_cons_zero]); refine hK _ _ (fun hz0 => by clear hz0 hSk; (repeat (first | with_reducible exact Keep.refl _ _ | (with_reducible refine Keep.left ?_) | (with_reducible refine Keep.leftN ?_) | (with_reducible assumption) | (with_reducible refine Keep.setCell ?_ ?hs _; case hs => (first | (exact .inl rfl) | (simp; done) | (right; omega) | (right; simp; omega))) | (with_reducible refine Keep.allocs ?_ (by simp; done) _) | (with_reducible refine Keep.alloc ?_ _) | (with_reducible refine Keep.drew ?_) | (with_reducible refine Keep.drewN ?_ _) | refine Keep.thenBelow ?_ (by assumption) | refine Keep.grown ?_ (by assumption) (by intro k hk; (first | (cases hk; done) | (exfalso; simp [Value.ownBlock] at hk; done) | (simp [Value.ownBlock] at hk; subst hk; (first | (right; simp; omega) | (left; first | rfl | simp)))) ) | refine Keep.trans ?_ (by assumption) | (with_reducible refine Keep.allocs ?_ (by simp; done) _) | refine Keep.alloc ?_ _ | refine Keep.drew ?_ | refine Keep.drewN ?_ _ | refine Keep.setCell ?_ (by first | (exact .inl rfl) | (simp; done) | (right; omega) | (right; simp; omega)) _))) (fun hSk1 => ?_); clear hK K hSk; replace hSk1 := hSk1 (by decide); have hSk := hSk1; clear hSk1)
        (refine plan_l 21 rfl (by kernel_rfl) (fun K hK => ?_); go_wp2_with (fail); (try simp only [Exit.then]); (try simp only [Act.put, List.setIfInBounds_toArray, List.set_cons_succ, List.set_cons_zero]); refine hK _ _ (fun hz0 => by exact absurd rfl hz0) (fun hSk1 => ?_); clear hK K hSk)
        refine plan_e (by kernel_rfl) ?_
        clear hSk1
      rotate_left
      all_goals (go_wp2_with fail; go_meet)
      all_goals exact ⟨_, _, rfl, rfl, ⟨by (repeat (first | (with_reducible assumption) | (with_reducible refine heap_drew1 ?_) | (with_reducible refine heap_drewN1 ?_) | exact heap_at_alloc (by first | rfl | (simp; done) | (simp; omega)) | (with_reducible refine heap_lt_alloc ?_) | (refine heap_near ?_ (by first | rfl | (simp; done))) | (refine heap_far ?_ (by first | (simp; done) | (simp; omega))) | exact blk_below (by assumption) (by assumption))), by (repeat (first | (with_reducible assumption) | (with_reducible refine heap_drew1 ?_) | (with_reducible refine heap_drewN1 ?_) | exact heap_at_alloc (by first | rfl | (simp; done) | (simp; omega)) | (with_reducible refine heap_lt_alloc ?_) | (refine heap_near ?_ (by first | rfl | (simp; done))) | (refine heap_far ?_ (by first | (simp; done) | (simp; omega))) | exact blk_below (by assumption) (by assumption))), by (repeat (first | (with_reducible assumption) | (with_reducible refine heap_drew1 ?_) | (with_reducible refine heap_drewN1 ?_) | exact heap_at_alloc (by first | rfl | (simp; done) | (simp; omega)) | (with_reducible refine heap_lt_alloc ?_) | (refine heap_near ?_ (by first | rfl | (simp; done))) | (refine heap_far ?_ (by first | (simp; done) | (simp; omega))) | exact blk_below (by assumption) (by assumption))), by (repeat (first | (with_reducible assumption) | (with_reducible refine heap_drew1 ?_) | (with_reducible refine heap_drewN1 ?_) | exact heap_at_alloc (by first | rfl | (simp; done) | (simp; omega)) | (with_reducible refine heap_lt_alloc ?_) | (refine heap_near ?_ (by first | rfl | (simp; done))) | (refine heap_far ?_ (by first | (simp; done) | (simp; omega))) | exact blk_below (by assumption) (by assumption))), by (repeat (first | (with_reducible assumption) | (with_reducible refine heap_drew1 ?_) | (with_reducible refine heap_drewN1 ?_) | exact heap_at_alloc (by first | rfl | (simp; done) | (simp; omega)) | (with_reducible refine heap_lt_alloc ?_) | (refine heap_near ?_ (by first | rfl | (simp; done))) | (refine heap_far ?_ (by first | (simp; done) | (simp; omega))) | exact blk_below (by assumption) (by assumption))), by (repeat (first | exact Below.refl _ _ | (with_reducible assumption) | refine below_thenB ?_ (by assumption) | refine below_alloc ?_ _ | refine below_drew ?_ | refine pw_below_drewN ?_ _ | refine Below.setCell ?_ (by first | (simp; done) | omega | (simp; omega)) _))⟩⟩
    case rest =>
      obtain ⟨b6, b7, rfl, rfl, hst⟩ := hcut
      have hs := HS.out
      have hP : partN op 0 = pa ∧ partN op 1 = pb ∧ partN op 2 = pc ∧ partN op 3 = pk := by simp [partN, hs]
      have HN := Lib.hid hP
      have HST := Aside0.mk hst
      clear hP hs
      have c7 := fun j => blk_cell hst.h7 j
      clear hst
      go_wp2_with fail
      clear c7
      go_loopw [40] (fun v40 wr => ∃ n : Int, 0 ≤ n ∧ n ≤ 4 ∧ v40 = .int .i64 n ∧ Aside0 (∀ j : Nat, (j : Int) < n → idleB ⟨op, a, b, c, k⟩ j = true) ∧ Aside0 (InstrSt w (.slice A p.length cp) fi at_ ⟨op, a, b, c, k⟩ pa pb pc pk (w.heap.size + 3) b6 b7 wr)) (fun v _ => (4 - intOf v).toNat)
      case atStart => exact ⟨0, by omega, by omega, rfl, ⟨fun j hj => by omega⟩, HST⟩
      case round =>
        clear HST
        obtain ⟨n, hn0, hn, rfl, HI, HST⟩ := hrel
        have c2 := fun j => blk_cell HST.out.h2 j
        have c6 := fun j => blk_cell HST.out.h6 j
        have i0 : ∀ w, (Instr.index 237 (.agg #[.int .i64 pa, .int .i64 pb, .int .i64 pc, .int .i64 pk]) (.int .i64 0)).run Try.prog w = .ok (.int .i64 pa) w := fun _ => by kernel_rfl
        have i1 : ∀ w, (Instr.index 237 (.agg #[.int .i64 pa, .int .i64 pb, .int .i64 pc, .int .i64 pk]) (.int .i64 1)).run Try.prog w = .ok (.int .i64 pb) w := fun _ => by kernel_rfl
        have i2 : ∀ w, (Instr.index 237 (.agg #[.int .i64 pa, .int .i64 pb, .int .i64 pc, .int .i64 pk]) (.int .i64 2)).run Try.prog w = .ok (.int .i64 pc) w := fun _ => by kernel_rfl
        have i3 : ∀ w, (Instr.index 237 (.agg #[.int .i64 pa, .int .i64 pb, .int .i64 pc, .int .i64 pk]) (.int .i64 3)).run Try.prog w = .ok (.int .i64 pk) w := fun _ => by kernel_rfl
        rcases show n = 0 ∨ n = 1 ∨ n = 2 ∨ n = 3 ∨ n = 4 from by omega with rfl | rfl | rfl | rfl | rfl
        · by_cases hz : pa = 0
          · by_cases hy : a = 0
            · have hz1 : (pa != 0) = false := by simpa using hz
              have hy1 : (a == 0) = true := by simpa using hy
              clear hz hy
              go_wp2_with fail
              (refine wp_region_head 9 (by kernel_rfl) (by kernel_rfl) ?_; simp only [List.take_succ_cons, List.take_zero, List.drop_succ_cons, List.drop_zero]; (iterate 9 (go_big_quiet_step (fail))); with_reducible refine wpQuiet_nil ?_)
              go_wp2_with (go_at_call 94; (with_reducible refine (need_yes _ _ _ _ _).mono ?_); rintro e w2 ⟨rfl, rfl⟩)
              go_roundw
              case rel => exact ⟨1, by omega, by omega, rfl, ⟨fun j hj => by
                rcases show (j : Int) < 0 ∨ j = 0 from by omega with h | rfl
                · exact HI.out j h
                · have h := HN.out.1; simp [idleB, fieldN, h, hz1, hy1]⟩, ⟨HST.out.below (by (repeat (first | exact Below.refl _ _ | (with_reducible assumption) | refine below_thenB ?_ (by assumption) | refine below_alloc ?_ _ | refine below_drew ?_ | refine pw_below_drewN ?_ _ | refine Below.setCell ?_ (by first | (simp; done) | omega | (simp; omega)) _)))⟩⟩
              case measure => simp [intOf]
            · have hz1 : (pa != 0) = false := by simpa using hz
              have hy1 : (a == 0) = false := by simpa using hy
              clear hz hy
              go_wp2_with fail
              (refine wp_region_head 9 (by kernel_rfl) (by kernel_rfl) ?_; simp only [List.take_succ_cons, List.take_zero, List.drop_succ_cons, List.drop_zero]; (iterate 9 (go_big_quiet_step (fail))); with_reducible refine wpQuiet_nil ?_)
              go_wp2_with (go_at_call 94; (with_reducible refine (need_no _ _ _ _ _).mono ?_); rintro e w2 ⟨rfl, hbn⟩)
              have hbe := HST.out.be
              exact ⟨rfl, Gives.no (by rw [← HB.out]; have h := HN.out.1; have h1 : idleB ⟨op, a, b, c, k⟩ 0 = false := (by simp [idleB, fieldN, h, hz1, hy1]); simp [instrB, h1]) (by decide), by (repeat (first | exact Below.refl _ _ | (with_reducible assumption) | refine below_thenB ?_ (by assumption) | refine below_alloc ?_ _ | refine below_drew ?_ | refine pw_below_drewN ?_ _ | refine Below.setCell ?_ (by first | (simp; done) | omega | (simp; omega)) _))⟩
          · have hz1 : (pa != 0) = true := by simpa using hz
            clear hz
            go_wp2_with fail
            (refine wp_region_head 9 (by kernel_rfl) (by kernel_rfl) ?_; simp only [List.take_succ_cons, List.take_zero, List.drop_succ_cons, List.drop_zero]; (iterate 9 (go_big_quiet_step (fail))); with_reducible refine wpQuiet_nil ?_)
            go_wp2_with (go_at_call 94; (with_reducible refine (need_yes _ _ _ _ _).mono ?_); rintro e w2 ⟨rfl, rfl⟩)
            go_roundw
            case rel => exact ⟨1, by omega, by omega, rfl, ⟨fun j hj => by
                rcases show (j : Int) < 0 ∨ j = 0 from by omega with h | rfl
                · exact HI.out j h
                · have h := HN.out.1; simp [idleB, fieldN, h, hz1]⟩, ⟨HST.out.below (by (repeat (first | exact Below.refl _ _ | (with_reducible assumption) | refine below_thenB ?_ (by assumption) | refine below_alloc ?_ _ | refine below_drew ?_ | refine pw_below_drewN ?_ _ | refine Below.setCell ?_ (by first | (simp; done) | omega | (simp; omega)) _)))⟩⟩
            case measure => simp [intOf]
        · by_cases hz : pb = 0
          · by_cases hy : b = 0
            · have hz1 : (pb != 0) = false := by simpa using hz
              have hy1 : (b == 0) = true := by simpa using hy
              clear hz hy
              go_wp2_with fail
              (refine wp_region_head 9 (by kernel_rfl) (by kernel_rfl) ?_; simp only [List.take_succ_cons, List.take_zero, List.drop_succ_cons, List.drop_zero]; (iterate 9 (go_big_quiet_step (fail))); with_reducible refine wpQuiet_nil ?_)
              go_wp2_with (go_at_call 94; (with_reducible refine (need_yes _ _ _ _ _).mono ?_); rintro e w2 ⟨rfl, rfl⟩)
              go_roundw
              case rel => exact ⟨2, by omega, by omega, rfl, ⟨fun j hj => by
                rcases show (j : Int) < 1 ∨ j = 1 from by omega with h | rfl
                · exact HI.out j h
                · have h := HN.out.2.1; simp [idleB, fieldN, h, hz1, hy1]⟩, ⟨HST.out.below (by (repeat (first | exact Below.refl _ _ | (with_reducible assumption) | refine below_thenB ?_ (by assumption) | refine below_alloc ?_ _ | refine below_drew ?_ | refine pw_below_drewN ?_ _ | refine Below.setCell ?_ (by first | (simp; done) | omega | (simp; omega)) _)))⟩⟩
              case measure => simp [intOf]
            · have hz1 : (pb != 0) = false := by simpa using hz
              have hy1 : (b == 0) = false := by simpa using hy
              clear hz hy
              go_wp2_with fail
              (refine wp_region_head 9 (by kernel_rfl) (by kernel_rfl) ?_; simp only [List.take_succ_cons, List.take_zero, List.drop_succ_cons, List.drop_zero]; (iterate 9 (go_big_quiet_step (fail))); with_reducible refine wpQuiet_nil ?_)
              go_wp2_with (go_at_call 94; (with_reducible refine (need_no _ _ _ _ _).mono ?_); rintro e w2 ⟨rfl, hbn⟩)
              have hbe := HST.out.be
              exact ⟨rfl, Gives.no (by rw [← HB.out]; have h := HN.out.2.1; have h1 : idleB ⟨op, a, b, c, k⟩ 1 = false := (by simp [idleB, fieldN, h, hz1, hy1]); simp [instrB, h1]) (by decide), by (repeat (first | exact Below.refl _ _ | (with_reducible assumption) | refine below_thenB ?_ (by assumption) | refine below_alloc ?_ _ | refine below_drew ?_ | refine pw_below_drewN ?_ _ | refine Below.setCell ?_ (by first | (simp; done) | omega | (simp; omega)) _))⟩
          · have hz1 : (pb != 0) = true := by simpa using hz
            clear hz
            go_wp2_with fail
            (refine wp_region_head 9 (by kernel_rfl) (by kernel_rfl) ?_; simp only [List.take_succ_cons, List.take_zero, List.drop_succ_cons, List.drop_zero]; (iterate 9 (go_big_quiet_step (fail))); with_reducible refine wpQuiet_nil ?_)
            go_wp2_with (go_at_call 94; (with_reducible refine (need_yes _ _ _ _ _).mono ?_); rintro e w2 ⟨rfl, rfl⟩)
            go_roundw
            case rel => exact ⟨2, by omega, by omega, rfl, ⟨fun j hj => by
                rcases show (j : Int) < 1 ∨ j = 1 from by omega with h | rfl
                · exact HI.out j h
                · have h := HN.out.2.1; simp [idleB, fieldN, h, hz1]⟩, ⟨HST.out.below (by (repeat (first | exact Below.refl _ _ | (with_reducible assumption) | refine below_thenB ?_ (by assumption) | refine below_alloc ?_ _ | refine below_drew ?_ | refine pw_below_drewN ?_ _ | refine Below.setCell ?_ (by first | (simp; done) | omega | (simp; omega)) _)))⟩⟩
            case measure => simp [intOf]
        · by_cases hz : pc = 0
          · by_cases hy : c = 0
            · have hz1 : (pc != 0) = false := by simpa using hz
              have hy1 : (c == 0) = true := by simpa using hy
              clear hz hy
              go_wp2_with fail
              (refine wp_region_head 9 (by kernel_rfl) (by kernel_rfl) ?_; simp only [List.take_succ_cons, List.take_zero, List.drop_succ_cons, List.drop_zero]; (iterate 9 (go_big_quiet_step (fail))); with_reducible refine wpQuiet_nil ?_)
              go_wp2_with (go_at_call 94; (with_reducible refine (need_yes _ _ _ _ _).mono ?_); rintro e w2 ⟨rfl, rfl⟩)
              go_roundw
              case rel => exact ⟨3, by omega, by omega, rfl, ⟨fun j hj => by
                rcases show (j : Int) < 2 ∨ j = 2 from by omega with h | rfl
                · exact HI.out j h
                · have h := HN.out.2.2.1; simp [idleB, fieldN, h, hz1, hy1]⟩, ⟨HST.out.below (by (repeat (first | exact Below.refl _ _ | (with_reducible assumption) | refine below_thenB ?_ (by assumption) | refine below_alloc ?_ _ | refine below_drew ?_ | refine pw_below_drewN ?_ _ | refine Below.setCell ?_ (by first | (simp; done) | omega | (simp; omega)) _)))⟩⟩
              case measure => simp [intOf]
            · have hz1 : (pc != 0) = false := by simpa using hz
              have hy1 : (c == 0) = false := by simpa using hy
              clear hz hy
              go_wp2_with fail
              (refine wp_region_head 9 (by kernel_rfl) (by kernel_rfl) ?_; simp only [List.take_succ_cons, List.take_zero, List.drop_succ_cons, List.drop_zero]; (iterate 9 (go_big_quiet_step (fail))); with_reducible refine wpQuiet_nil ?_)
              go_wp2_with (go_at_call 94; (with_reducible refine (need_no _ _ _ _ _).mono ?_); rintro e w2 ⟨rfl, hbn⟩)
              have hbe := HST.out.be
              exact ⟨rfl, Gives.no (by rw [← HB.out]; have h := HN.out.2.2.1; have h1 : idleB ⟨op, a, b, c, k⟩ 2 = false := (by simp [idleB, fieldN, h, hz1, hy1]); simp [instrB, h1]) (by decide), by (repeat (first | exact Below.refl _ _ | (with_reducible assumption) | refine below_thenB ?_ (by assumption) | refine below_alloc ?_ _ | refine below_drew ?_ | refine pw_below_drewN ?_ _ | refine Below.setCell ?_ (by first | (simp; done) | omega | (simp; omega)) _))⟩
          · have hz1 : (pc != 0) = true := by simpa using hz
            clear hz
            go_wp2_with fail
            (refine wp_region_head 9 (by kernel_rfl) (by kernel_rfl) ?_; simp only [List.take_succ_cons, List.take_zero, List.drop_succ_cons, List.drop_zero]; (iterate 9 (go_big_quiet_step (fail))); with_reducible refine wpQuiet_nil ?_)
            go_wp2_with (go_at_call 94; (with_reducible refine (need_yes _ _ _ _ _).mono ?_); rintro e w2 ⟨rfl, rfl⟩)
            go_roundw
            case rel => exact ⟨3, by omega, by omega, rfl, ⟨fun j hj => by
                rcases show (j : Int) < 2 ∨ j = 2 from by omega with h | rfl
                · exact HI.out j h
                · have h := HN.out.2.2.1; simp [idleB, fieldN, h, hz1]⟩, ⟨HST.out.below (by (repeat (first | exact Below.refl _ _ | (with_reducible assumption) | refine below_thenB ?_ (by assumption) | refine below_alloc ?_ _ | refine below_drew ?_ | refine pw_below_drewN ?_ _ | refine Below.setCell ?_ (by first | (simp; done) | omega | (simp; omega)) _)))⟩⟩
            case measure => simp [intOf]
        · by_cases hz : pk = 0
          · by_cases hy : k = 0
            · have hz1 : (pk != 0) = false := by simpa using hz
              have hy1 : (k == 0) = true := by simpa using hy
              clear hz hy
              go_wp2_with fail
              (refine wp_region_head 9 (by kernel_rfl) (by kernel_rfl) ?_; simp only [List.take_succ_cons, List.take_zero, List.drop_succ_cons, List.drop_zero]; (iterate 9 (go_big_quiet_step (fail))); with_reducible refine wpQuiet_nil ?_)
              go_wp2_with (go_at_call 94; (with_reducible refine (need_yes _ _ _ _ _).mono ?_); rintro e w2 ⟨rfl, rfl⟩)
              go_roundw
              case rel => exact ⟨4, by omega, by omega, rfl, ⟨fun j hj => by
                rcases show (j : Int) < 3 ∨ j = 3 from by omega with h | rfl
                · exact HI.out j h
                · have h := HN.out.2.2.2; simp [idleB, fieldN, h, hz1, hy1]⟩, ⟨HST.out.below (by (repeat (first | exact Below.refl _ _ | (with_reducible assumption) | refine below_thenB ?_ (by assumption) | refine below_alloc ?_ _ | refine below_drew ?_ | refine pw_below_drewN ?_ _ | refine Below.setCell ?_ (by first | (simp; done) | omega | (simp; omega)) _)))⟩⟩
              case measure => simp [intOf]
            · have hz1 : (pk != 0) = false := by simpa using hz
              have hy1 : (k == 0) = false := by simpa using hy
              clear hz hy
              go_wp2_with fail
              (refine wp_region_head 9 (by kernel_rfl) (by kernel_rfl) ?_; simp only [List.take_succ_cons, List.take_zero, List.drop_succ_cons, List.drop_zero]; (iterate 9 (go_big_quiet_step (fail))); with_reducible refine wpQuiet_nil ?_)
              go_wp2_with (go_at_call 94; (with_reducible refine (need_no _ _ _ _ _).mono ?_); rintro e w2 ⟨rfl, hbn⟩)
              have hbe := HST.out.be
              exact ⟨rfl, Gives.no (by rw [← HB.out]; have h := HN.out.2.2.2; have h1 : idleB ⟨op, a, b, c, k⟩ 3 = false := (by simp [idleB, fieldN, h, hz1, hy1]); simp [instrB, h1]) (by decide), by (repeat (first | exact Below.refl _ _ | (with_reducible assumption) | refine below_thenB ?_ (by assumption) | refine below_alloc ?_ _ | refine below_drew ?_ | refine pw_below_drewN ?_ _ | refine Below.setCell ?_ (by first | (simp; done) | omega | (simp; omega)) _))⟩
          · have hz1 : (pk != 0) = true := by simpa using hz
            clear hz
            go_wp2_with fail
            (refine wp_region_head 9 (by kernel_rfl) (by kernel_rfl) ?_; simp only [List.take_succ_cons, List.take_zero, List.drop_succ_cons, List.drop_zero]; (iterate 9 (go_big_quiet_step (fail))); with_reducible refine wpQuiet_nil ?_)
            go_wp2_with (go_at_call 94; (with_reducible refine (need_yes _ _ _ _ _).mono ?_); rintro e w2 ⟨rfl, rfl⟩)
            go_roundw
            case rel => exact ⟨4, by omega, by omega, rfl, ⟨fun j hj => by
                rcases show (j : Int) < 3 ∨ j = 3 from by omega with h | rfl
                · exact HI.out j h
                · have h := HN.out.2.2.2; simp [idleB, fieldN, h, hz1]⟩, ⟨HST.out.below (by (repeat (first | exact Below.refl _ _ | (with_reducible assumption) | refine below_thenB ?_ (by assumption) | refine below_alloc ?_ _ | refine below_drew ?_ | refine pw_below_drewN ?_ _ | refine Below.setCell ?_ (by first | (simp; done) | omega | (simp; omega)) _)))⟩⟩
            case measure => simp [intOf]
        · have c7 := fun j => blk_cell HST.out.h7 j
          go_wp2_with fail
          clear c7 c2 c6 hn0 hn
          have HU : Aside0 (∀ j : Nat, (j : Int) < 4 → idleB ⟨op, a, b, c, k⟩ j = true) := HI
          clear HI
          have hst4 := HST
          clear HST
          go_loopw [56] (fun v56 wr => ∃ n : Int, 0 ≤ n ∧ n ≤ 4 ∧ v56 = .int .i64 n ∧ Aside0 (∀ j : Nat, (j : Int) < n → fitB p.length fn.code.length ⟨op, a, b, c, k⟩ j = true) ∧ Aside0 (InstrSt w (.slice A p.length cp) fi at_ ⟨op, a, b, c, k⟩ pa pb pc pk (w.heap.size + 3) b6 b7 wr)) (fun v _ => (4 - intOf v).toNat)
          case atStart => exact ⟨0, by omega, by omega, rfl, ⟨fun j hj => by omega⟩, hst4⟩
          case round =>
            clear hst4
            obtain ⟨n, hn0, hn, rfl, HI, HST⟩ := hrel
            have c2 := fun j => blk_cell HST.out.h2 j
            have c6 := fun j => blk_cell HST.out.h6 j
            rcases show n = 0 ∨ n = 1 ∨ n = 2 ∨ n = 3 ∨ n = 4 from by omega with rfl | rfl | rfl | rfl | rfl
            · have hr : 0 ≤ pa ∧ pa ≤ 6 := by have h := partN_range op 0; rw [HN.out.1] at h; exact h
              have HR := Lib.hid hr
              clear hr
              have hbe := HST.out.be
              cases hfit : fieldB p.length fn.code.length pa a with
              | true =>
                have HFIT := Lib.hid hfit
                clear hfit
                go_wp2_with fail
                (refine wp_region_head 5 (by kernel_rfl) (by kernel_rfl) ?_; simp only [List.take_succ_cons, List.take_zero, List.drop_succ_cons, List.drop_zero]; (iterate 5 (go_big_quiet_step (fail))); with_reducible refine wpQuiet_nil ?_)
                go_wp2_with (go_at_call 119; (with_reducible refine (field_yes _ _ p fi fn HF.out _ _ _ _ (Kd.C_below HP.out (by (repeat (first | exact Below.refl _ _ | (with_reducible assumption) | refine below_thenB ?_ (by assumption) | refine below_alloc ?_ _ | refine below_drew ?_ | refine pw_below_drewN ?_ _ | refine Below.setCell ?_ (by first | (simp; done) | omega | (simp; omega)) _)))) HR.out.1 HR.out.2 HFIT.out).mono ?_); rintro e w2 ⟨rfl, hb2⟩)
                go_roundw
                case rel => exact ⟨1, by omega, by omega, rfl, ⟨fun j hj => by
                  rcases show (j : Int) < 0 ∨ j = 0 from by omega with h | rfl
                  · exact HI.out j h
                  · have h := HN.out.1; simp only [fitB, fieldN, h]; exact HFIT.out⟩, ⟨HST.out.below (by (repeat (first | exact Below.refl _ _ | (with_reducible assumption) | refine below_thenB ?_ (by assumption) | refine below_alloc ?_ _ | refine below_drew ?_ | refine pw_below_drewN ?_ _ | refine Below.setCell ?_ (by first | (simp; done) | omega | (simp; omega)) _)))⟩⟩
                case measure => simp [intOf]
              | false =>
                have HFIT := Lib.hid hfit
                clear hfit
                go_wp2_with fail
                (refine wp_region_head 5 (by kernel_rfl) (by kernel_rfl) ?_; simp only [List.take_succ_cons, List.take_zero, List.drop_succ_cons, List.drop_zero]; (iterate 5 (go_big_quiet_step (fail))); with_reducible refine wpQuiet_nil ?_)
                go_wp2_with (go_at_call 119; (with_reducible refine (field_no _ _ p fi fn HF.out _ _ _ _ (Kd.C_below HP.out (by (repeat (first | exact Below.refl _ _ | (with_reducible assumption) | refine below_thenB ?_ (by assumption) | refine below_alloc ?_ _ | refine below_drew ?_ | refine pw_below_drewN ?_ _ | refine Below.setCell ?_ (by first | (simp; done) | omega | (simp; omega)) _)))) HR.out.1 HR.out.2 HFIT.out).mono ?_); rintro e w2 ⟨⟨e2, he2, rfl⟩, hb2⟩)
                exact ⟨rfl, Gives.no (by rw [← HB.out]; have h := HN.out.1; have h1 : fitB p.length fn.code.length ⟨op, a, b, c, k⟩ 0 = false := (by simp only [fitB, fieldN, h]; exact HFIT.out); simp [instrB, h1]) he2, by (repeat (first | exact Below.refl _ _ | (with_reducible assumption) | refine below_thenB ?_ (by assumption) | refine below_alloc ?_ _ | refine below_drew ?_ | refine pw_below_drewN ?_ _ | refine Below.setCell ?_ (by first | (simp; done) | omega | (simp; omega)) _))⟩
            · have hr : 0 ≤ pb ∧ pb ≤ 6 := by have h := partN_range op 1; rw [HN.out.2.1] at h; exact h
              have HR := Lib.hid hr
              clear hr
              have hbe := HST.out.be
              cases hfit : fieldB p.length fn.code.length pb b with
              | true =>
                have HFIT := Lib.hid hfit
                clear hfit
                go_wp2_with fail
                (refine wp_region_head 5 (by kernel_rfl) (by kernel_rfl) ?_; simp only [List.take_succ_cons, List.take_zero, List.drop_succ_cons, List.drop_zero]; (iterate 5 (go_big_quiet_step (fail))); with_reducible refine wpQuiet_nil ?_)
                go_wp2_with (go_at_call 119; (with_reducible refine (field_yes _ _ p fi fn HF.out _ _ _ _ (Kd.C_below HP.out (by (repeat (first | exact Below.refl _ _ | (with_reducible assumption) | refine below_thenB ?_ (by assumption) | refine below_alloc ?_ _ | refine below_drew ?_ | refine pw_below_drewN ?_ _ | refine Below.setCell ?_ (by first | (simp; done) | omega | (simp; omega)) _)))) HR.out.1 HR.out.2 HFIT.out).mono ?_); rintro e w2 ⟨rfl, hb2⟩)
                go_roundw
                case rel => exact ⟨2, by omega, by omega, rfl, ⟨fun j hj => by
                  rcases show (j : Int) < 1 ∨ j = 1 from by omega with h | rfl
                  · exact HI.out j h
                  · have h := HN.out.2.1; simp only [fitB, fieldN, h]; exact HFIT.out⟩, ⟨HST.out.below (by (repeat (first | exact Below.refl _ _ | (with_reducible assumption) | refine below_thenB ?_ (by assumption) | refine below_alloc ?_ _ | refine below_drew ?_ | refine pw_below_drewN ?_ _ | refine Below.setCell ?_ (by first | (simp; done) | omega | (simp; omega)) _)))⟩⟩
                case measure => simp [intOf]
              | false =>
                have HFIT := Lib.hid hfit
                clear hfit
                go_wp2_with fail
                (refine wp_region_head 5 (by kernel_rfl) (by kernel_rfl) ?_; simp only [List.take_succ_cons, List.take_zero, List.drop_succ_cons, List.drop_zero]; (iterate 5 (go_big_quiet_step (fail))); with_reducible refine wpQuiet_nil ?_)
                go_wp2_with (go_at_call 119; (with_reducible refine (field_no _ _ p fi fn HF.out _ _ _ _ (Kd.C_below HP.out (by (repeat (first | exact Below.refl _ _ | (with_reducible assumption) | refine below_thenB ?_ (by assumption) | refine below_alloc ?_ _ | refine below_drew ?_ | refine pw_below_drewN ?_ _ | refine Below.setCell ?_ (by first | (simp; done) | omega | (simp; omega)) _)))) HR.out.1 HR.out.2 HFIT.out).mono ?_); rintro e w2 ⟨⟨e2, he2, rfl⟩, hb2⟩)
                exact ⟨rfl, Gives.no (by rw [← HB.out]; have h := HN.out.2.1; have h1 : fitB p.length fn.code.length ⟨op, a, b, c, k⟩ 1 = false := (by simp only [fitB, fieldN, h]; exact HFIT.out); simp [instrB, h1]) he2, by (repeat (first | exact Below.refl _ _ | (with_reducible assumption) | refine below_thenB ?_ (by assumption) | refine below_alloc ?_ _ | refine below_drew ?_ | refine pw_below_drewN ?_ _ | refine Below.setCell ?_ (by first | (simp; done) | omega | (simp; omega)) _))⟩
            · have hr : 0 ≤ pc ∧ pc ≤ 6 := by have h := partN_range op 2; rw [HN.out.2.2.1] at h; exact h
              have HR := Lib.hid hr
              clear hr
              have hbe := HST.out.be
              cases hfit : fieldB p.length fn.code.length pc c with
              | true =>
                have HFIT := Lib.hid hfit
                clear hfit
                go_wp2_with fail
                (refine wp_region_head 5 (by kernel_rfl) (by kernel_rfl) ?_; simp only [List.take_succ_cons, List.take_zero, List.drop_succ_cons, List.drop_zero]; (iterate 5 (go_big_quiet_step (fail))); with_reducible refine wpQuiet_nil ?_)
                go_wp2_with (go_at_call 119; (with_reducible refine (field_yes _ _ p fi fn HF.out _ _ _ _ (Kd.C_below HP.out (by (repeat (first | exact Below.refl _ _ | (with_reducible assumption) | refine below_thenB ?_ (by assumption) | refine below_alloc ?_ _ | refine below_drew ?_ | refine pw_below_drewN ?_ _ | refine Below.setCell ?_ (by first | (simp; done) | omega | (simp; omega)) _)))) HR.out.1 HR.out.2 HFIT.out).mono ?_); rintro e w2 ⟨rfl, hb2⟩)
                go_roundw
                case rel => exact ⟨3, by omega, by omega, rfl, ⟨fun j hj => by
                  rcases show (j : Int) < 2 ∨ j = 2 from by omega with h | rfl
                  · exact HI.out j h
                  · have h := HN.out.2.2.1; simp only [fitB, fieldN, h]; exact HFIT.out⟩, ⟨HST.out.below (by (repeat (first | exact Below.refl _ _ | (with_reducible assumption) | refine below_thenB ?_ (by assumption) | refine below_alloc ?_ _ | refine below_drew ?_ | refine pw_below_drewN ?_ _ | refine Below.setCell ?_ (by first | (simp; done) | omega | (simp; omega)) _)))⟩⟩
                case measure => simp [intOf]
              | false =>
                have HFIT := Lib.hid hfit
                clear hfit
                go_wp2_with fail
                (refine wp_region_head 5 (by kernel_rfl) (by kernel_rfl) ?_; simp only [List.take_succ_cons, List.take_zero, List.drop_succ_cons, List.drop_zero]; (iterate 5 (go_big_quiet_step (fail))); with_reducible refine wpQuiet_nil ?_)
                go_wp2_with (go_at_call 119; (with_reducible refine (field_no _ _ p fi fn HF.out _ _ _ _ (Kd.C_below HP.out (by (repeat (first | exact Below.refl _ _ | (with_reducible assumption) | refine below_thenB ?_ (by assumption) | refine below_alloc ?_ _ | refine below_drew ?_ | refine pw_below_drewN ?_ _ | refine Below.setCell ?_ (by first | (simp; done) | omega | (simp; omega)) _)))) HR.out.1 HR.out.2 HFIT.out).mono ?_); rintro e w2 ⟨⟨e2, he2, rfl⟩, hb2⟩)
                exact ⟨rfl, Gives.no (by rw [← HB.out]; have h := HN.out.2.2.1; have h1 : fitB p.length fn.code.length ⟨op, a, b, c, k⟩ 2 = false := (by simp only [fitB, fieldN, h]; exact HFIT.out); simp [instrB, h1]) he2, by (repeat (first | exact Below.refl _ _ | (with_reducible assumption) | refine below_thenB ?_ (by assumption) | refine below_alloc ?_ _ | refine below_drew ?_ | refine pw_below_drewN ?_ _ | refine Below.setCell ?_ (by first | (simp; done) | omega | (simp; omega)) _))⟩
            · have hr : 0 ≤ pk ∧ pk ≤ 6 := by have h := partN_range op 3; rw [HN.out.2.2.2] at h; exact h
              have HR := Lib.hid hr
              clear hr
              have hbe := HST.out.be
              cases hfit : fieldB p.length fn.code.length pk k with
              | true =>
                have HFIT := Lib.hid hfit
                clear hfit
                go_wp2_with fail
                (refine wp_region_head 5 (by kernel_rfl) (by kernel_rfl) ?_; simp only [List.take_succ_cons, List.take_zero, List.drop_succ_cons, List.drop_zero]; (iterate 5 (go_big_quiet_step (fail))); with_reducible refine wpQuiet_nil ?_)
                go_wp2_with (go_at_call 119; (with_reducible refine (field_yes _ _ p fi fn HF.out _ _ _ _ (Kd.C_below HP.out (by (repeat (first | exact Below.refl _ _ | (with_reducible assumption) | refine below_thenB ?_ (by assumption) | refine below_alloc ?_ _ | refine below_drew ?_ | refine pw_below_drewN ?_ _ | refine Below.setCell ?_ (by first | (simp; done) | omega | (simp; omega)) _)))) HR.out.1 HR.out.2 HFIT.out).mono ?_); rintro e w2 ⟨rfl, hb2⟩)
                go_roundw
                case rel => exact ⟨4, by omega, by omega, rfl, ⟨fun j hj => by
                  rcases show (j : Int) < 3 ∨ j = 3 from by omega with h | rfl
                  · exact HI.out j h
                  · have h := HN.out.2.2.2; simp only [fitB, fieldN, h]; exact HFIT.out⟩, ⟨HST.out.below (by (repeat (first | exact Below.refl _ _ | (with_reducible assumption) | refine below_thenB ?_ (by assumption) | refine below_alloc ?_ _ | refine below_drew ?_ | refine pw_below_drewN ?_ _ | refine Below.setCell ?_ (by first | (simp; done) | omega | (simp; omega)) _)))⟩⟩
                case measure => simp [intOf]
              | false =>
                have HFIT := Lib.hid hfit
                clear hfit
                go_wp2_with fail
                (refine wp_region_head 5 (by kernel_rfl) (by kernel_rfl) ?_; simp only [List.take_succ_cons, List.take_zero, List.drop_succ_cons, List.drop_zero]; (iterate 5 (go_big_quiet_step (fail))); with_reducible refine wpQuiet_nil ?_)
                go_wp2_with (go_at_call 119; (with_reducible refine (field_no _ _ p fi fn HF.out _ _ _ _ (Kd.C_below HP.out (by (repeat (first | exact Below.refl _ _ | (with_reducible assumption) | refine below_thenB ?_ (by assumption) | refine below_alloc ?_ _ | refine below_drew ?_ | refine pw_below_drewN ?_ _ | refine Below.setCell ?_ (by first | (simp; done) | omega | (simp; omega)) _)))) HR.out.1 HR.out.2 HFIT.out).mono ?_); rintro e w2 ⟨⟨e2, he2, rfl⟩, hb2⟩)
                exact ⟨rfl, Gives.no (by rw [← HB.out]; have h := HN.out.2.2.2; have h1 : fitB p.length fn.code.length ⟨op, a, b, c, k⟩ 3 = false := (by simp only [fitB, fieldN, h]; exact HFIT.out); simp [instrB, h1]) he2, by (repeat (first | exact Below.refl _ _ | (with_reducible assumption) | refine below_thenB ?_ (by assumption) | refine below_alloc ?_ _ | refine below_drew ?_ | refine pw_below_drewN ?_ _ | refine Below.setCell ?_ (by first | (simp; done) | omega | (simp; omega)) _))⟩
            · have c4 := fun j => blk_cell HST.out.h4 j
              have c3 := fun j => blk_cell HST.out.h3 j
              have hbe := HST.out.be
              by_cases h3 : pc = 3
              · have hc0 : fitB p.length fn.code.length ⟨op, a, b, c, k⟩ 2 = true := HI.out 2 (by omega)
                have hb0 : fitB p.length fn.code.length ⟨op, a, b, c, k⟩ 1 = true := HI.out 1 (by omega)
                have hpb : pb = 1 := shape_fn (by rw [HS.out, h3])
                have h31 : (pc == 3) = true := by simpa using h3
                have e1 := HN.out.2.1
                have e2 := HN.out.2.2.1
                simp only [fitB, fieldN, e1, e2, h3, hpb, fieldB, Int.reduceEq, if_true, if_false, Bool.and_eq_true, decide_eq_true_eq] at hc0 hb0
                clear e1 e2
                obtain ⟨hc1, hc2⟩ := hc0
                obtain ⟨hb1, hb2⟩ := hb0
                have hcl : c.toNat < p.length := by omega
                obtain ⟨fn2, hf2⟩ : ∃ fn2, p[c.toNat]? = some fn2 := ⟨_, List.getElem?_eq_getElem hcl⟩
                obtain ⟨ad, A1, c1, hA, hx0, hx1, hl1, hi1, hlt⟩ := at_fn (Kd.C_below HP.out hbe) c.toNat fn2 hf2
                have HF2 := Lib.hid hf2
                have HPB := Lib.hid hpb
                have H3 := Lib.hid h3
                clear hi1 hl1 hx1 hf2 hpb h3
                subst hA
                by_cases hle : fn2.ar ≤ 8 - b
                · go_wp2_with fail
                  (refine wp_region_head 12 (by kernel_rfl) (by kernel_rfl) ?_; simp only [List.take_succ_cons, List.take_zero, List.drop_succ_cons, List.drop_zero]; (iterate 12 (go_big_quiet_step (fail))); with_reducible refine wpQuiet_nil ?_)
                  go_wp2_with (go_at_call 94; (with_reducible refine (need_yes _ _ _ _ _).mono ?_); rintro e w2 ⟨rfl, rfl⟩)
                  go_end0
                  have e1 : B = true := by
                    rw [← HB.out]
                    have h1 := HS.out
                    have h2 := HF2.out
                    have h4 := HN.out.2.2.1
                    simp [instrB, h1, h2, h4, HU.out 0 (by omega), HU.out 1 (by omega), HU.out 2 (by omega), HU.out 3 (by omega), HI.out 0 (by omega), HI.out 1 (by omega), HI.out 2 (by omega), HI.out 3 (by omega), hle]
                  exact ⟨.inl ⟨e1, rfl⟩, by (repeat (first | exact Below.refl _ _ | (with_reducible assumption) | refine below_thenB ?_ (by assumption) | refine below_alloc ?_ _ | refine below_drew ?_ | refine pw_below_drewN ?_ _ | refine Below.setCell ?_ (by first | (simp; done) | omega | (simp; omega)) _))⟩
                · have hd : decide (fn2.ar ≤ 8 - b) = false := by simpa using hle
                  clear hle
                  go_wp2_with fail
                  (refine wp_region_head 12 (by kernel_rfl) (by kernel_rfl) ?_; simp only [List.take_succ_cons, List.take_zero, List.drop_succ_cons, List.drop_zero]; (iterate 12 (go_big_quiet_step (fail))); with_reducible refine wpQuiet_nil ?_)
                  go_wp2_with (go_at_call 94; (with_reducible refine (need_no _ _ _ _ _).mono ?_); rintro e w2 ⟨rfl, hbn⟩)
                  exact ⟨rfl, Gives.no (by rw [← HB.out]; have h1 := HF2.out; have h2 := HN.out.2.2.1; have h4 := H3.out; simp [instrB, h1, h2, h4, hd]) (by decide), by (repeat (first | exact Below.refl _ _ | (with_reducible assumption) | refine below_thenB ?_ (by assumption) | refine below_alloc ?_ _ | refine below_drew ?_ | refine pw_below_drewN ?_ _ | refine Below.setCell ?_ (by first | (simp; done) | omega | (simp; omega)) _))⟩
              · have h31 : (pc == 3) = false := by simpa using h3
                have H3 := Lib.hid h3
                clear h3
                go_wp2_with fail
                go_end0
                have e1 : B = true := by
                  rw [← HB.out]
                  have h1 := HS.out
                  have h2 := H3.out
                  have h4 := HN.out.2.2.1
                  simp [instrB, h1, h2, h4, HU.out 0 (by omega), HU.out 1 (by omega), HU.out 2 (by omega), HU.out 3 (by omega), HI.out 0 (by omega), HI.out 1 (by omega), HI.out 2 (by omega), HI.out 3 (by omega), h31, bne]
                exact ⟨.inl ⟨e1, rfl⟩, by (repeat (first | exact Below.refl _ _ | (with_reducible assumption) | refine below_thenB ?_ (by assumption) | refine below_alloc ?_ _ | refine below_drew ?_ | refine pw_below_drewN ?_ _ | refine Below.setCell ?_ (by first | (simp; done) | omega | (simp; omega)) _))⟩
end Go.Proofs.Ytimmglnbjgbbjaa
namespace Go.Proofs.Ytimmglnbjgbbjaa
open Go.RowKit Go.Proofs.YtimmglnbjgbbjaaW.PrintWords
def lastB (g : Fn) : Bool := let o := (g.code.getLast?.getD zIn).op; o == 9 || o == 16 || o == 17
def codeB (p : List Fn) (g : Fn) (x : In) : Bool := instrB p.length g.code.length ((p[x.c.toNat]?.getD zFn).ar) x
def fnB (p : List Fn) (g : Fn) : Bool := decide (0 ≤ g.ar) && decide (g.ar ≤ 4) && decide (1 ≤ g.code.length) && decide (g.code.length ≤ 64) && g.code.all (codeB p g) && lastB g
/-- May a program run? -/
def progB (p : List Fn) : Bool := decide (1 ≤ p.length) && decide (p.length ≤ 16) && p.all (fnB p)
/-- What Check hands back. -/
def CheckOut (p : List Fn) (w : World) (en : Ending) (w' : World) : Prop := ∃ f at_ e : Int, en = .returned (.tuple #[.int .i64 f, .int .i64 at_, .int .i64 e]) ∧ (e = 0 ↔ progB p = true) ∧ Below w.heap.size w w'
section
variable (b2 b3 b4 : Nat)
set_option maxHeartbeats 400000 in
theorem chk_idle (w : World) : CallsD Try.prog 93 #[.pointer (some ⟨b2, 0, none⟩), .pointer (some ⟨b3, 0, none⟩), .pointer (some ⟨b4, 0, none⟩)] .returning w fun e u' w' => e = .returned (.tuple #[]) ∧ u' = .returning ∧ w' = w := by
  refine callsD_of_wpS Try.func93 rfl fun c₀ cs hu => ?_
  have hrep : (Array.replicate 20 undef : Array Value) = #[undef, undef, undef, undef, undef, undef, undef, undef, undef, undef, undef, undef, undef, undef, undef, undef, undef, undef, undef, undef] := rfl
  apply wpS_seq
  apply wpS_region
  simp [hrep, wpOpsS, go_sem, recoverD, hu, Try.ntmps93, Exit.thenS]
  refine wpS_of_wp ?_
  go_wp2
  cases c₀
  simp_all [bodyPostS, results, Try.results93 ]
set_option maxRecDepth 10000 in
set_option maxHeartbeats 400000 in
theorem chk_panics (f at_ e : Int) (v2 v3 v4 : Value) (w : World) (h2 : w.heap[b2]? = some (.cells #[v2] 3 (0, 0))) (h3 : w.heap[b3]? = some (.cells #[v3] 3 (0, 0))) (h4 : w.heap[b4]? = some (.cells #[v4] 30 (0, 0))) (h23 : b2 ≠ b3) :
    CallsD Try.prog 93 #[.pointer (some ⟨b2, 0, none⟩), .pointer (some ⟨b3, 0, none⟩), .pointer (some ⟨b4, 0, none⟩)] (.panicking (wrongC f at_ e)) w fun en u' w' =>
      en = .returned (.tuple #[]) ∧ u' = .panicking [{ v := .iface 199 (.agg #[.int .i64 f, .int .i64 at_, .int .i64 e]), recovered := true }] ∧
        w'.heap[b2]? = some (.cells #[.int .i64 f] 3 (0, 0)) ∧ w'.heap[b3]? = some (.cells #[.int .i64 at_] 3 (0, 0)) ∧ w'.heap[b4]? = some (.cells #[.int .i64 e] 30 (0, 0)) ∧ Keep (fun k => k = b2 ∨ k = b3 ∨ k = b4) w w' := by
  have c2 := cell_of_one h2
  have c3 := cell_of_one h3
  have c4 := cell_of_one h4
  have f2 := free_of_one h2
  have f3 := free_of_one h3
  have f4 := free_of_one h4
  have l2 := lt_of_block h2
  have l3 := lt_of_block h3
  have l4 := lt_of_block h4
  have h24 : b2 ≠ b4 := blk_ne h2 h4 (by decide)
  have h34 : b3 ≠ b4 := blk_ne h3 h4 (by decide)
  have h32 := Ne.symm h23
  have h42 := Ne.symm h24
  have h43 := Ne.symm h34
  have hta : ∀ w, (Instr.typeAssert (.iface 199 (.agg #[.int .i64 f, .int .i64 at_, .int .i64 e])) 20 199 true).run Try.prog w = .ok (.tuple #[.agg #[.int .i64 f, .int .i64 at_, .int .i64 e], .bool true]) w := fun _ => by kernel_rfl
  refine callsD_of_wpS Try.func93 rfl fun c₀ cs hu => ?_
  have hrep : (Array.replicate 20 undef : Array Value) = #[undef, undef, undef, undef, undef, undef, undef, undef, undef, undef, undef, undef, undef, undef, undef, undef, undef, undef, undef, undef] := rfl
  apply wpS_seq
  apply wpS_region
  simp [hrep, wpOpsS, go_sem, recoverD, hu, wrongC, Try.ntmps93, Exit.thenS]
  refine wpS_of_wp ?_
  go_wp2
  have n2 : ¬ w.heap.size = b2 := by omega
  have n3 : ¬ w.heap.size = b3 := by omega
  have n4 : ¬ w.heap.size = b4 := by omega
  refine plan_noPanic ?_
  refine plan_begin (fun k => k = b2 ∨ k = b3 ∨ k = b4) 8 9 rfl (by kernel_rfl) (fun hSk => ?_)
  (refine plan_q 0 rfl (by kernel_rfl) (by kernel_rfl) (by kernel_rfl) rfl rfl (fun _ _ _ _ h => h) hSk (by decide) (by kernel_rfl) (fun K hK => ?_); go_big_quiet_op; with_reducible refine hK _ ?_; clear hK K)
  (refine plan_q 1 rfl (by kernel_rfl) (by kernel_rfl) (by kernel_rfl) rfl rfl (fun _ _ _ _ h => h) hSk (by decide) (by kernel_rfl) (fun K hK => ?_); go_big_quiet_op; with_reducible refine hK _ ?_; clear hK K)
  (refine plan_q 2 rfl (by kernel_rfl) (by kernel_rfl) (by kernel_rfl) rfl rfl (fun _ _ _ _ h => h) hSk (by decide) (by kernel_rfl) (fun K hK => ?_); go_big_quiet_op; with_reducible refine hK _ ?_; clear hK K)
  (refine plan_q 3 rfl (by kernel_rfl) (by kernel_rfl) (by kernel_rfl) rfl rfl (fun _ _ _ _ h => h) hSk (by decide) (by kernel_rfl) (fun K hK => ?_); go_big_quiet_op; with_reducible refine hK _ ?_; clear hK K)
  (refine plan_q 4 rfl (by kernel_rfl) (by kernel_rfl) (by kernel_rfl) rfl rfl (fun _ _ _ _ h => h) hSk (by decide) (by kernel_rfl) (fun K hK => ?_); go_big_quiet_op; with_reducible refine hK _ ?_; clear hK K)
  (refine plan_q 5 rfl (by kernel_rfl) (by kernel_rfl) (by kernel_rfl) rfl rfl (fun _ _ _ _ h => h) hSk (by decide) (by kernel_rfl) (fun K hK => ?_); go_big_quiet_op; with_reducible refine hK _ ?_; clear hK K)
  (refine plan_l 6 rfl (by kernel_rfl) (fun K hK => ?_); go_wp2_with (fail); (try simp only [Exit.then]); (try simp only [Act.put, List.setIfInBounds_toArray, List.set_cons_succ, List.set_cons_zero]); refine hK _ _ (fun hz0 => by clear hz0 hSk; (repeat (first | with_reducible exact Keep.refl _ _ | (with_reducible refine Keep.left ?_) | (with_reducible refine Keep.leftN ?_) | (with_reducible assumption) | (with_reducible refine Keep.setCell ?_ ?hs _; case hs => (first | (exact .inl rfl) | (simp; done) | (right; omega) | (right; simp; omega))) | (with_reducible refine Keep.allocs ?_ (by simp; done) _) | (with_reducible refine Keep.alloc ?_ _) | (with_reducible refine Keep.drew ?_) | (with_reducible refine Keep.drewN ?_ _) | refine Keep.thenBelow ?_ (by assumption) | refine Keep.grown ?_ (by assumption) (by intro k hk; (first | (cases hk; done) | (exfalso; simp [Value.ownBlock] at hk; done) | (simp [Value.ownBlock] at hk; subst hk; (first | (right; simp; omega) | (left; first | rfl | simp)))) ) | refine Keep.trans ?_ (by assumption) | (with_reducible refine Keep.allocs ?_ (by simp; done) _) | refine Keep.alloc ?_ _ | refine Keep.drew ?_ | refine Keep.drewN ?_ _ | refine Keep.setCell ?_ (by first | (exact .inl rfl) | (simp; done) | (right; omega) | (right; simp; omega)) _))) (fun hSk1 => ?_); clear hK K hSk; replace hSk1 := hSk1 (by decide); have hSk := hSk1; clear hSk1)
  (refine plan_l 7 rfl (by kernel_rfl) (fun K hK => ?_); go_wp2_with (fail); (try simp only [Exit.then]); (try simp only [Act.put, List.setIfInBounds_toArray, List.set_cons_succ, List.set_cons_zero]); refine hK _ _ (fun hz0 => by clear hz0 hSk; (repeat (first | with_reducible exact Keep.refl _ _ | (with_reducible refine Keep.left ?_) | (with_reducible refine Keep.leftN ?_) | (with_reducible assumption) | (with_reducible refine Keep.setCell ?_ ?hs _; case hs => (first | (exact .inl rfl) | (simp; done) | (right; omega) | (right; simp; omega))) | (with_reducible refine Keep.allocs ?_ (by simp; done) _) | (with_reducible refine Keep.alloc ?_ _) | (with_reducible refine Keep.drew ?_) | (with_reducible refine Keep.drewN ?_ _) | refine Keep.thenBelow ?_ (by assumption) | refine Keep.grown ?_ (by assumption) (by intro k hk; (first | (cases hk; done) | (exfalso; simp [Value.ownBlock] at hk; done) | (simp [Value.ownBlock] at hk; subst hk; (first | (right; simp; omega) | (left; first | rfl | simp)))) ) | refine Keep.trans ?_ (by assumption) | (with_reducible refine Keep.allocs ?_ (by simp; done) _) | refine Keep.alloc ?_ _ | refine Keep.drew ?_ | refine Keep.drewN ?_ _ | refine Keep.setCell ?_ (by first | (exact .inl rfl) | (simp; done) | (right; omega) | (right; simp; omega)) _))) (fun hSk1 => ?_); clear hK K hSk; replace hSk1 := hSk1 (by decide); have hSk := hSk1; clear hSk1)
  (refine plan_l 8 rfl (by kernel_rfl) (fun K hK => ?_); go_wp2_with (fail); (try simp only [Exit.then]); (try simp only [Act.put, List.setIfInBounds_toArray, List.set_cons_succ, List.set_cons_zero]); refine hK _ _ (fun hz0 => by exact absurd rfl hz0) (fun hSk1 => ?_); clear hK K hSk)
  refine plan_e (by kernel_rfl) ?_
  clear hSk1
  refine noPanic_normal ?_
  rename_i Q'
  simp only [Q']
  clear Q'
  clear hta hrep n2 n3 n4 c2 c3 c4 f2 f3 f4
  cases c₀
  simp only at hu
  subst hu
  refine ⟨rfl, _, rfl, .tuple #[], by simp [results, Try.results93 ], rfl, rfl, ?_, ?_, ?_, ?_⟩
  · refine heap_drew1 (heap_lt_alloc (heap_far (heap_far (heap_near h2 rfl) h23) h24))
  · refine heap_drew1 (heap_lt_alloc (heap_far (heap_near (heap_far h3 h32) rfl) h34))
  · refine heap_drew1 (heap_lt_alloc (heap_near (heap_far (heap_far h4 h42) h43) rfl))
  · (repeat (first | with_reducible exact Keep.refl _ _ | (with_reducible refine Keep.left ?_) | (with_reducible refine Keep.leftN ?_) | (with_reducible assumption) | (with_reducible refine Keep.setCell ?_ ?hs _; case hs => (first | (exact .inl rfl) | (simp; done) | (right; omega) | (right; simp; omega))) | (with_reducible refine Keep.allocs ?_ (by simp; done) _) | (with_reducible refine Keep.alloc ?_ _) | (with_reducible refine Keep.drew ?_) | (with_reducible refine Keep.drewN ?_ _) | refine Keep.thenBelow ?_ (by assumption) | refine Keep.grown ?_ (by assumption) (by intro k hk; (first | (cases hk; done) | (exfalso; simp [Value.ownBlock] at hk; done) | (simp [Value.ownBlock] at hk; subst hk; (first | (right; simp; omega) | (left; first | rfl | simp)))) ) | refine Keep.trans ?_ (by assumption) | (with_reducible refine Keep.allocs ?_ (by simp; done) _) | refine Keep.alloc ?_ _ | refine Keep.drew ?_ | refine Keep.drewN ?_ _ | refine Keep.setCell ?_ (by first | (exact .inl rfl) | (simp; done) | (right; omega) | (right; simp; omega)) _))
end
/-- The three results' cells, and what was there before. -/
structure ChkSt (w wx : World) : Prop where
  hb : Below w.heap.size w wx
  h2 : wx.heap[w.heap.size]? = some (.cells #[.int .i64 0] 3 (0, 0))
  h3 : wx.heap[w.heap.size + 1]? = some (.cells #[.int .i64 0] 3 (0, 0))
  h4 : wx.heap[w.heap.size + 1 + 1]? = some (.cells #[.int .i64 0] 30 (0, 0))
theorem ChkSt.step {w wx wy : World} (h : ChkSt w wx) (hb : Below wx.heap.size wx wy) : ChkSt w wy :=
  ⟨below_then h.hb h.hb.size hb, blk_below h.h2 hb, blk_below h.h3 hb, blk_below h.h4 hb⟩
theorem door_panics (p : List Fn) (w W : World) (S : ChkSt w W) (f at_ e : Int) (he : e ≠ 0) (hP : progB p = false) (tmps : Array Value)
    (t2 : tmps[2]? = some (.pointer (some ⟨w.heap.size, 0, none⟩))) (t3 : tmps[3]? = some (.pointer (some ⟨w.heap.size + 1, 0, none⟩))) (t4 : tmps[4]? = some (.pointer (some ⟨w.heap.size + 1 + 1, 0, none⟩))) :
    Leaves Try.prog Try.f70 tmps (CheckOut p w) [{ target := .fn (.func 93) #[.pointer (some ⟨w.heap.size, 0, none⟩), .pointer (some ⟨w.heap.size + 1, 0, none⟩), .pointer (some ⟨w.heap.size + 1 + 1, 0, none⟩)], args := #[] }] (.panicking (wrongC f at_ e)) W := by
  refine leaves_cons (f := 93) (args := #[.pointer (some ⟨w.heap.size, 0, none⟩), .pointer (some ⟨w.heap.size + 1, 0, none⟩), .pointer (some ⟨w.heap.size + 1 + 1, 0, none⟩)]) (by simp) (by simp [go_sem]) ?_
  refine (chk_panics w.heap.size (w.heap.size + 1) (w.heap.size + 1 + 1) f at_ e _ _ _ W S.h2 S.h3 S.h4 (by omega)).mono ?_
  rintro en u' w' ⟨rfl, rfl, q2, q3, q4, hk⟩
  have c2 := cell_of_one q2
  have c3 := cell_of_one q3
  have c4 := cell_of_one q4
  have hb : Below w.heap.size w w' := Keep.below (Keep.then_ (Keep.of_below (fun _ => False) S.hb) hk (fun k hk => by rcases hk with rfl | rfl | rfl <;> right <;> omega))
  simp [Leaves, settle, results, Try.results70 , go_sem, t2, t3, t4, c2, c3, c4]
  exact ⟨f, at_, e, rfl, by simp [he, hP], hb⟩
theorem door_returns (p : List Fn) (w W : World) (S : ChkSt w W) (hP : progB p = true) (tmps : Array Value)
    (t2 : tmps[2]? = some (.pointer (some ⟨w.heap.size, 0, none⟩))) (t3 : tmps[3]? = some (.pointer (some ⟨w.heap.size + 1, 0, none⟩))) (t4 : tmps[4]? = some (.pointer (some ⟨w.heap.size + 1 + 1, 0, none⟩))) :
    Leaves Try.prog Try.f70 tmps (CheckOut p w) [{ target := .fn (.func 93) #[.pointer (some ⟨w.heap.size, 0, none⟩), .pointer (some ⟨w.heap.size + 1, 0, none⟩), .pointer (some ⟨w.heap.size + 1 + 1, 0, none⟩)], args := #[] }] .returning W := by
  refine leaves_cons (f := 93) (args := #[.pointer (some ⟨w.heap.size, 0, none⟩), .pointer (some ⟨w.heap.size + 1, 0, none⟩), .pointer (some ⟨w.heap.size + 1 + 1, 0, none⟩)]) (by simp) (by simp [go_sem]) ?_
  refine (chk_idle w.heap.size (w.heap.size + 1) (w.heap.size + 1 + 1) W).mono ?_
  rintro en u' w' ⟨rfl, rfl, rfl⟩
  have c2 := cell_of_one S.h2
  have c3 := cell_of_one S.h3
  have c4 := cell_of_one S.h4
  simp [Leaves, settle, results, Try.results70 , go_sem, t2, t3, t4, c2, c3, c4]
  exact ⟨0, 0, 0, rfl, by simp [hP], S.hb⟩
theorem prog_false {p : List Fn} {i : Nat} {fn : Fn} (hf : p[i]? = some fn) (h : fnB p fn = false) : progB p = false := by
  unfold progB
  have : p.all (fnB p) = false := by
    rw [List.all_eq_false]
    exact ⟨fn, List.mem_of_getElem? hf, by simp [h]⟩
  simp [this]
theorem instr_yes (A : Option Addr) (cp : Nat) (p : List Fn) (fi : Nat) (fn : Fn) (hf : p[fi]? = some fn) (x : In) (at_ : Int) (w : World) (hp : Kd.C (kFn 34) w A p.length p) (hB : codeB p fn x = true) :
    Calls Try.prog 95 #[.agg #[.slice A p.length cp, .int .i64 fi, .int .i64 at_], .agg #[.int .i64 x.op, .int .i64 x.a, .int .i64 x.b, .int .i64 x.c, .int .i64 x.k]] w fun en w' => en = .returned (.tuple #[]) ∧ Below w.heap.size w w' := by
  refine (instr_any A cp p fi fn hf x at_ w hp true hB).mono ?_
  rintro en w' ⟨hg, hb⟩
  rcases hg with ⟨_, rfl⟩ | ⟨h, _⟩
  · exact ⟨rfl, hb⟩
  · cases h
theorem instr_no (A : Option Addr) (cp : Nat) (p : List Fn) (fi : Nat) (fn : Fn) (hf : p[fi]? = some fn) (x : In) (at_ : Int) (w : World) (hp : Kd.C (kFn 34) w A p.length p) (hB : codeB p fn x = false) :
    Calls Try.prog 95 #[.agg #[.slice A p.length cp, .int .i64 fi, .int .i64 at_], .agg #[.int .i64 x.op, .int .i64 x.a, .int .i64 x.b, .int .i64 x.c, .int .i64 x.k]] w fun en w' => (∃ at_ e, e ≠ 0 ∧ en = .panicked (wrongC fi at_ e)) ∧ Below w.heap.size w w' := by
  refine (instr_any A cp p fi fn hf x at_ w hp false hB).mono ?_
  rintro en w' ⟨hg, hb⟩
  rcases hg with ⟨h, _⟩ | ⟨_, h⟩
  · cases h
  · exact ⟨h, hb⟩
set_option maxHeartbeats 400000 in
theorem check_any (A : Option Addr) (cp : Nat) (p : List Fn) (w : World) (hp : Kd.C (kFn 34) w A p.length p) :
    Calls Try.prog 70 #[.slice A p.length cp] w (CheckOut p w) := by
  have hmf : ∀ (fn : Go.Fn) (first cap : Array Value) (w : World), (Instr.makeFunc fn first cap).run Try.prog w = .ok (.func fn first cap) w := fun _ _ _ _ => rfl
  by_cases hl : 1 ≤ p.length ∧ p.length ≤ 16
  rotate_left
  · have hP : progB p = false := by
      unfold progB
      rcases Nat.lt_or_ge p.length 1 with h | h
      · simp [show ¬ 1 ≤ p.length by omega]
      · simp [show ¬ p.length ≤ 16 by omega]
    rcases Nat.lt_or_ge p.length 1 with h | h
    · have d1 : decide ((1 : Int) ≤ (p.length : Int)) = false := by simp; omega
      go_enter_defers Try.func70, Try.ntmps70
      go_wp2_with (go_at_call 94; (with_reducible refine (need_no _ _ _ _ _).mono ?_); rintro e w1 ⟨rfl, hb⟩)
      refine door_panics p w w1 ⟨by (repeat (first | exact Below.refl _ _ | (with_reducible assumption) | refine below_thenB ?_ (by assumption) | refine below_alloc ?_ _ | refine below_drew ?_ | refine pw_below_drewN ?_ _ | refine Below.setCell ?_ (by first | (simp; done) | omega | (simp; omega)) _)), blk_below (by (repeat (first | (with_reducible assumption) | (with_reducible refine heap_drew1 ?_) | (with_reducible refine heap_drewN1 ?_) | exact heap_at_alloc (by first | rfl | (simp; done) | (simp; omega)) | (with_reducible refine heap_lt_alloc ?_) | (refine heap_near ?_ (by first | rfl | (simp; done))) | (refine heap_far ?_ (by first | (simp; done) | (simp; omega))) | exact blk_below (by assumption) (by assumption)))) hb, blk_below (by (repeat (first | (with_reducible assumption) | (with_reducible refine heap_drew1 ?_) | (with_reducible refine heap_drewN1 ?_) | exact heap_at_alloc (by first | rfl | (simp; done) | (simp; omega)) | (with_reducible refine heap_lt_alloc ?_) | (refine heap_near ?_ (by first | rfl | (simp; done))) | (refine heap_far ?_ (by first | (simp; done) | (simp; omega))) | exact blk_below (by assumption) (by assumption)))) hb, blk_below (by (repeat (first | (with_reducible assumption) | (with_reducible refine heap_drew1 ?_) | (with_reducible refine heap_drewN1 ?_) | exact heap_at_alloc (by first | rfl | (simp; done) | (simp; omega)) | (with_reducible refine heap_lt_alloc ?_) | (refine heap_near ?_ (by first | rfl | (simp; done))) | (refine heap_far ?_ (by first | (simp; done) | (simp; omega))) | exact blk_below (by assumption) (by assumption)))) hb⟩ 0 0 3 (by decide) hP _ rfl rfl rfl
    · have d1 : decide ((1 : Int) ≤ (p.length : Int)) = true := by simp; omega
      have d2 : decide ((p.length : Int) ≤ 16) = false := by simp; omega
      go_enter_defers Try.func70, Try.ntmps70
      go_wp2_with (go_at_call 94; (with_reducible refine (need_no _ _ _ _ _).mono ?_); rintro e w1 ⟨rfl, hb⟩)
      refine door_panics p w w1 ⟨by (repeat (first | exact Below.refl _ _ | (with_reducible assumption) | refine below_thenB ?_ (by assumption) | refine below_alloc ?_ _ | refine below_drew ?_ | refine pw_below_drewN ?_ _ | refine Below.setCell ?_ (by first | (simp; done) | omega | (simp; omega)) _)), blk_below (by (repeat (first | (with_reducible assumption) | (with_reducible refine heap_drew1 ?_) | (with_reducible refine heap_drewN1 ?_) | exact heap_at_alloc (by first | rfl | (simp; done) | (simp; omega)) | (with_reducible refine heap_lt_alloc ?_) | (refine heap_near ?_ (by first | rfl | (simp; done))) | (refine heap_far ?_ (by first | (simp; done) | (simp; omega))) | exact blk_below (by assumption) (by assumption)))) hb, blk_below (by (repeat (first | (with_reducible assumption) | (with_reducible refine heap_drew1 ?_) | (with_reducible refine heap_drewN1 ?_) | exact heap_at_alloc (by first | rfl | (simp; done) | (simp; omega)) | (with_reducible refine heap_lt_alloc ?_) | (refine heap_near ?_ (by first | rfl | (simp; done))) | (refine heap_far ?_ (by first | (simp; done) | (simp; omega))) | exact blk_below (by assumption) (by assumption)))) hb, blk_below (by (repeat (first | (with_reducible assumption) | (with_reducible refine heap_drew1 ?_) | (with_reducible refine heap_drewN1 ?_) | exact heap_at_alloc (by first | rfl | (simp; done) | (simp; omega)) | (with_reducible refine heap_lt_alloc ?_) | (refine heap_near ?_ (by first | rfl | (simp; done))) | (refine heap_far ?_ (by first | (simp; done) | (simp; omega))) | exact blk_below (by assumption) (by assumption)))) hb⟩ 0 0 3 (by decide) hP _ rfl rfl rfl
  have d1 : decide ((1 : Int) ≤ (p.length : Int)) = true := by simp; omega
  have d2 : decide ((p.length : Int) ≤ 16) = true := by simp; omega
  go_enter_defers Try.func70, Try.ntmps70
  go_wp2_with (go_at_call 94; (with_reducible refine (need_yes _ _ _ _ _).mono ?_); rintro e w1 ⟨rfl, rfl⟩)
  go_loopw [24] (fun s24 wx => ∃ i : Nat, i ≤ p.length ∧ s24 = .int .i64 i ∧ (∀ k, k < i → fnB p (p.getD k zFn) = true) ∧ ChkSt w wx) (fun s _ => (p.length - intOf s).toNat)
  case atStart => exact ⟨0, Nat.zero_le _, rfl, fun k hk => absurd hk (Nat.not_lt_zero _), ⟨by (repeat (first | exact Below.refl _ _ | (with_reducible assumption) | refine below_thenB ?_ (by assumption) | refine below_alloc ?_ _ | refine below_drew ?_ | refine pw_below_drewN ?_ _ | refine Below.setCell ?_ (by first | (simp; done) | omega | (simp; omega)) _)), by (repeat (first | (with_reducible assumption) | (with_reducible refine heap_drew1 ?_) | (with_reducible refine heap_drewN1 ?_) | exact heap_at_alloc (by first | rfl | (simp; done) | (simp; omega)) | (with_reducible refine heap_lt_alloc ?_) | (refine heap_near ?_ (by first | rfl | (simp; done))) | (refine heap_far ?_ (by first | (simp; done) | (simp; omega))) | exact blk_below (by assumption) (by assumption))), by (repeat (first | (with_reducible assumption) | (with_reducible refine heap_drew1 ?_) | (with_reducible refine heap_drewN1 ?_) | exact heap_at_alloc (by first | rfl | (simp; done) | (simp; omega)) | (with_reducible refine heap_lt_alloc ?_) | (refine heap_near ?_ (by first | rfl | (simp; done))) | (refine heap_far ?_ (by first | (simp; done) | (simp; omega))) | exact blk_below (by assumption) (by assumption))), by (repeat (first | (with_reducible assumption) | (with_reducible refine heap_drew1 ?_) | (with_reducible refine heap_drewN1 ?_) | exact heap_at_alloc (by first | rfl | (simp; done) | (simp; omega)) | (with_reducible refine heap_lt_alloc ?_) | (refine heap_near ?_ (by first | rfl | (simp; done))) | (refine heap_far ?_ (by first | (simp; done) | (simp; omega))) | exact blk_below (by assumption) (by assumption)))⟩⟩
  case round =>
    obtain ⟨i, hi, rfl, hall, S⟩ := hrel
    rcases Nat.lt_or_ge i p.length with hil | hil
    · obtain ⟨fn, hf⟩ : ∃ fn, p[i]? = some fn := ⟨_, List.getElem?_eq_getElem hil⟩
      have di : decide ((i : Int) < (p.length : Int)) = true := by simp; omega
      obtain ⟨ad, A1, c1, rfl, hx0, hx1, hl1, hi1, hlt⟩ := at_fn (Kd.C_below hp S.hb) i fn hf
      have HS := Aside0.mk S
      have HA := Aside0.mk hall
      have HI := Aside0.mk hi1
      have HF := Aside0.mk hf
      have HP := Aside0.mk hp
      clear S hall hi1 hf hp
      go_upto_region 7 with (fail)
      rcases Int.lt_or_le fn.ar 0 with a0 | a0
      · have d3 : decide (0 ≤ fn.ar) = false := by simp; omega
        go_wp2_with (first | (go_at_call 94; (first | ((with_reducible refine (need_yes _ _ _ _ _).mono ?_); rintro e w1 ⟨rfl, rfl⟩) | ((with_reducible refine (need_no _ _ _ _ _).mono ?_); rintro e w1 ⟨rfl, hb⟩))))
        exact door_panics p w w1 (HS.out.step (by (repeat (first | exact Below.refl _ _ | (with_reducible assumption) | refine below_thenB ?_ (by assumption) | refine below_alloc ?_ _ | refine below_drew ?_ | refine pw_below_drewN ?_ _ | refine Below.setCell ?_ (by first | (simp; done) | omega | (simp; omega)) _)))) _ _ _ (by decide) (prog_false HF.out (by simp [fnB, show ¬ 0 ≤ fn.ar by omega])) _ rfl rfl rfl
      have d3 : decide (0 ≤ fn.ar) = true := by simp; omega
      rcases Int.lt_or_le 4 fn.ar with a1 | a1
      · have d4 : decide (fn.ar ≤ 4) = false := by simp; omega
        go_wp2_with (first | (go_at_call 94; (first | ((with_reducible refine (need_yes _ _ _ _ _).mono ?_); rintro e w1 ⟨rfl, rfl⟩) | ((with_reducible refine (need_no _ _ _ _ _).mono ?_); rintro e w1 ⟨rfl, hb⟩))))
        exact door_panics p w w1 (HS.out.step (by (repeat (first | exact Below.refl _ _ | (with_reducible assumption) | refine below_thenB ?_ (by assumption) | refine below_alloc ?_ _ | refine below_drew ?_ | refine pw_below_drewN ?_ _ | refine Below.setCell ?_ (by first | (simp; done) | omega | (simp; omega)) _)))) _ _ _ (by decide) (prog_false HF.out (by simp [fnB, show ¬ fn.ar ≤ 4 by omega])) _ rfl rfl rfl
      have d4 : decide (fn.ar ≤ 4) = true := by simp; omega
      rcases Nat.lt_or_ge fn.code.length 1 with b0 | b0
      · have d5 : decide ((1 : Int) ≤ (fn.code.length : Int)) = false := by simp; omega
        go_wp2_with (first | (go_at_call 94; (first | ((with_reducible refine (need_yes _ _ _ _ _).mono ?_); rintro e w1 ⟨rfl, rfl⟩) | ((with_reducible refine (need_no _ _ _ _ _).mono ?_); rintro e w1 ⟨rfl, hb⟩))))
        exact door_panics p w w1 (HS.out.step (by (repeat (first | exact Below.refl _ _ | (with_reducible assumption) | refine below_thenB ?_ (by assumption) | refine below_alloc ?_ _ | refine below_drew ?_ | refine pw_below_drewN ?_ _ | refine Below.setCell ?_ (by first | (simp; done) | omega | (simp; omega)) _)))) _ _ _ (by decide) (prog_false HF.out (by simp [fnB, show ¬ 1 ≤ fn.code.length by omega])) _ rfl rfl rfl
      have d5 : decide ((1 : Int) ≤ (fn.code.length : Int)) = true := by simp; omega
      rcases Nat.lt_or_ge 64 fn.code.length with b1 | b1
      · have d6 : decide ((fn.code.length : Int) ≤ 64) = false := by simp; omega
        go_wp2_with (first | (go_at_call 94; (first | ((with_reducible refine (need_yes _ _ _ _ _).mono ?_); rintro e w1 ⟨rfl, rfl⟩) | ((with_reducible refine (need_no _ _ _ _ _).mono ?_); rintro e w1 ⟨rfl, hb⟩))))
        exact door_panics p w w1 (HS.out.step (by (repeat (first | exact Below.refl _ _ | (with_reducible assumption) | refine below_thenB ?_ (by assumption) | refine below_alloc ?_ _ | refine below_drew ?_ | refine pw_below_drewN ?_ _ | refine Below.setCell ?_ (by first | (simp; done) | omega | (simp; omega)) _)))) _ _ _ (by decide) (prog_false HF.out (by simp [fnB, show ¬ fn.code.length ≤ 64 by omega])) _ rfl rfl rfl
      have d6 : decide ((fn.code.length : Int) ≤ 64) = true := by simp; omega
      go_wp2_with (go_at_call 94; (with_reducible refine (need_yes _ _ _ _ _).mono ?_); rintro e w1 ⟨rfl, rfl⟩)
      obtain ⟨wf, hwf⟩ : ∃ x, x = wr := ⟨wr, rfl⟩
      subst hwf
      have hsz : w.heap.size ≤ wf.heap.size := HS.out.hb.size
      have hwb : Below w.heap.size w wf := HS.out.hb
      go_loopw [57] (fun s wy => ∃ j : Nat, j ≤ fn.code.length ∧ s = .int .i64 j ∧ Aside0 (∀ k, k < j → codeB p fn (fn.code.getD k zIn) = true) ∧ Below wf.heap.size wf wy ∧ wf.heap.size + 1 < wy.heap.size ∧ Aside0 (wy.heap[wf.heap.size]? = some (.cells #[.int .i64 fn.ar, .slice A1 fn.code.length c1] 34 (0, 0))) ∧ ∃ at0 : Int, Aside0 (wy.heap[wf.heap.size + 1]? = some (.cells #[.slice (some ad) p.length cp, .int .i64 i, .int .i64 at0] 202 (0, 0)))) (fun s _ => (fn.code.length - intOf s).toNat)
      case atStart => exact ⟨0, Nat.zero_le _, rfl, ⟨fun k hk => absurd hk (Nat.not_lt_zero _)⟩, by (repeat (first | exact Below.refl _ _ | (with_reducible assumption) | refine below_thenB ?_ (by assumption) | refine below_alloc ?_ _ | refine below_drew ?_ | refine pw_below_drewN ?_ _ | refine Below.setCell ?_ (by first | (simp; done) | omega | (simp; omega)) _)), by simp, ⟨by (repeat (first | (with_reducible assumption) | (with_reducible refine heap_drew1 ?_) | (with_reducible refine heap_drewN1 ?_) | exact heap_at_alloc (by first | rfl | (simp; done) | (simp; omega)) | (with_reducible refine heap_lt_alloc ?_) | (refine heap_near ?_ (by first | rfl | (simp; done))) | (refine heap_far ?_ (by first | (simp; done) | (simp; omega))) | exact blk_below (by assumption) (by assumption)))⟩, 0, ⟨by (repeat (first | (with_reducible assumption) | (with_reducible refine heap_drew1 ?_) | (with_reducible refine heap_drewN1 ?_) | exact heap_at_alloc (by first | rfl | (simp; done) | (simp; omega)) | (with_reducible refine heap_lt_alloc ?_) | (refine heap_near ?_ (by first | rfl | (simp; done))) | (refine heap_far ?_ (by first | (simp; done) | (simp; omega))) | exact blk_below (by assumption) (by assumption)))⟩⟩
      case round =>
        obtain ⟨j, hj, rfl, HK, hby, hsy, HF1, at0, HG1⟩ := hrel
        have hyb : Below w.heap.size w wr := below_then hwb hsz hby
        have cF := fun j => blk_cell HF1.out j
        have cG := fun j => blk_cell HG1.out j
        rcases Nat.lt_or_ge j fn.code.length with hjl | hjl
        · have dj : decide ((j : Int) < (fn.code.length : Int)) = true := by simp; omega
          obtain ⟨x, hx⟩ : ∃ x, fn.code[j]? = some x := ⟨_, List.getElem?_eq_getElem hjl⟩
          obtain ⟨ad1, hA1, y0, y1, y2, y3, y4, ylt⟩ := at_in (Kd.C_below HI.out hby) j x hx
          have zG : wr.frozen? ⟨wf.heap.size + 1, 2, none⟩ = false := by simp [World.frozen?, HG1.out]
          subst hA1
          cases hB : codeB p fn x
          · have hPn : progB p = false := prog_false HF.out (by
              have : fn.code.all (codeB p fn) = false := by rw [List.all_eq_false]; exact ⟨x, List.mem_of_getElem? hx, by simp [hB]⟩
              simp [fnB, this])
            go_wp2_with (go_at_call 95; (with_reducible refine (instr_no _ _ p i fn HF.out x _ _ (Kd.C_below HP.out (by (repeat (first | exact Below.refl _ _ | (with_reducible assumption) | refine below_thenB ?_ (by assumption) | refine below_alloc ?_ _ | refine below_drew ?_ | refine pw_below_drewN ?_ _ | refine Below.setCell ?_ (by first | (simp; done) | omega | (simp; omega)) _)))) hB).mono ?_); rintro e w2 ⟨⟨at2, e2, he2, rfl⟩, hb⟩)
            exact door_panics p w w2 (HS.out.step (by (repeat (first | exact Below.refl _ _ | (with_reducible assumption) | refine below_thenB ?_ (by assumption) | refine below_alloc ?_ _ | refine below_drew ?_ | refine pw_below_drewN ?_ _ | refine Below.setCell ?_ (by first | (simp; done) | omega | (simp; omega)) _)))) _ _ _ he2 hPn _ rfl rfl rfl
          · have hKn : ∀ k, k < j + 1 → codeB p fn (fn.code.getD k zIn) = true := fun k hk => by
              rcases Nat.lt_or_ge k j with h | h
              · exact HK.out k h
              · obtain rfl : k = j := by omega
                rw [List.getD_eq_getElem?_getD, hx]; exact hB
            have HKN := Aside0.mk hKn
            clear hKn HK
            go_wp2_with (go_at_call 95; (with_reducible refine (instr_yes _ _ p i fn HF.out x _ _ (Kd.C_below HP.out (by (repeat (first | exact Below.refl _ _ | (with_reducible assumption) | refine below_thenB ?_ (by assumption) | refine below_alloc ?_ _ | refine below_drew ?_ | refine pw_below_drewN ?_ _ | refine Below.setCell ?_ (by first | (simp; done) | omega | (simp; omega)) _)))) hB).mono ?_); rintro e w2 ⟨rfl, hb⟩)
            go_roundw
            case rel => exact ⟨j + 1, by omega, by simp, HKN, by (repeat (first | exact Below.refl _ _ | (with_reducible assumption) | refine below_thenB ?_ (by assumption) | refine below_alloc ?_ _ | refine below_drew ?_ | refine pw_below_drewN ?_ _ | refine Below.setCell ?_ (by first | (simp; done) | omega | (simp; omega)) _)), by have := hb.size; simp at this; omega, ⟨blk_below (by have q := HF1.out; (repeat (first | (with_reducible assumption) | (with_reducible refine heap_drew1 ?_) | (with_reducible refine heap_drewN1 ?_) | exact heap_at_alloc (by first | rfl | (simp; done) | (simp; omega)) | (with_reducible refine heap_lt_alloc ?_) | (refine heap_near ?_ (by first | rfl | (simp; done))) | (refine heap_far ?_ (by first | (simp; done) | (simp; omega))) | exact blk_below (by assumption) (by assumption)))) hb⟩, j, ⟨blk_below (heap_lt_alloc (heap_near HG1.out rfl)) hb⟩⟩
            case measure => simp [intOf]; omega
        · have dj : decide ((j : Int) < (fn.code.length : Int)) = false := by simp; omega
          obtain rfl : j = fn.code.length := by omega
          obtain ⟨x, hx⟩ : ∃ x, fn.code[fn.code.length - 1]? = some x := ⟨_, List.getElem?_eq_getElem (by omega)⟩
          obtain ⟨ad1, hA1, y0, y1, y2, y3, y4, ylt⟩ := at_in (Kd.C_below HI.out hby) (fn.code.length - 1) x hx
          subst hA1
          have hL : lastB fn = (x.op == 9 || x.op == 16 || x.op == 17) := by unfold lastB; rw [List.getLast?_eq_getElem?, hx]; rfl
          have hAll : fn.code.all (codeB p fn) = true := by
            rw [List.all_eq_true]
            intro y hy
            obtain ⟨k, hk, rfl⟩ := List.mem_iff_getElem.1 hy
            have h := HK.out k hk
            rwa [List.getD_eq_getElem?_getD, List.getElem?_eq_getElem hk] at h
          have hFB : fnB p fn = lastB fn := by simp [fnB, hAll, a0, a1, b0, b1]
          have HL := Lib.hid hL
          have HFB := Lib.hid hFB
          clear hL hAll hFB
          rcases Bool.eq_false_or_eq_true (x.op == 9) with h9 | h9
          · have hFn : fnB p fn = true := by rw [show fnB p fn = lastB fn from HFB, show lastB fn = _ from HL, h9]; rfl
            go_wp2_with (go_at_call 94; (with_reducible refine (need_yes _ _ _ _ _).mono ?_); rintro e w1 ⟨rfl, rfl⟩)
            go_roundw
            case rel => exact ⟨i + 1, by omega, by simp, fun k hk => (by
              rcases Nat.lt_or_ge k i with h | h
              · exact HA.out k h
              · obtain rfl : k = i := by omega
                rw [List.getD_eq_getElem?_getD, HF.out]; exact hFn), HS.out.step (by (repeat (first | exact Below.refl _ _ | (with_reducible assumption) | refine below_thenB ?_ (by assumption) | refine below_alloc ?_ _ | refine below_drew ?_ | refine pw_below_drewN ?_ _ | refine Below.setCell ?_ (by first | (simp; done) | omega | (simp; omega)) _)))⟩
            case measure => simp [intOf]; omega
          rcases Bool.eq_false_or_eq_true (x.op == 16) with h16 | h16
          · have hFn : fnB p fn = true := by rw [show fnB p fn = lastB fn from HFB, show lastB fn = _ from HL, h9, h16]; rfl
            go_wp2_with (go_at_call 94; (with_reducible refine (need_yes _ _ _ _ _).mono ?_); rintro e w1 ⟨rfl, rfl⟩)
            go_roundw
            case rel => exact ⟨i + 1, by omega, by simp, fun k hk => (by
              rcases Nat.lt_or_ge k i with h | h
              · exact HA.out k h
              · obtain rfl : k = i := by omega
                rw [List.getD_eq_getElem?_getD, HF.out]; exact hFn), HS.out.step (by (repeat (first | exact Below.refl _ _ | (with_reducible assumption) | refine below_thenB ?_ (by assumption) | refine below_alloc ?_ _ | refine below_drew ?_ | refine pw_below_drewN ?_ _ | refine Below.setCell ?_ (by first | (simp; done) | omega | (simp; omega)) _)))⟩
            case measure => simp [intOf]; omega
          rcases Bool.eq_false_or_eq_true (x.op == 17) with h17 | h17
          · have hFn : fnB p fn = true := by rw [show fnB p fn = lastB fn from HFB, show lastB fn = _ from HL, h9, h16, h17]; rfl
            go_wp2_with (go_at_call 94; (with_reducible refine (need_yes _ _ _ _ _).mono ?_); rintro e w1 ⟨rfl, rfl⟩)
            go_roundw
            case rel => exact ⟨i + 1, by omega, by simp, fun k hk => (by
              rcases Nat.lt_or_ge k i with h | h
              · exact HA.out k h
              · obtain rfl : k = i := by omega
                rw [List.getD_eq_getElem?_getD, HF.out]; exact hFn), HS.out.step (by (repeat (first | exact Below.refl _ _ | (with_reducible assumption) | refine below_thenB ?_ (by assumption) | refine below_alloc ?_ _ | refine below_drew ?_ | refine pw_below_drewN ?_ _ | refine Below.setCell ?_ (by first | (simp; done) | omega | (simp; omega)) _)))⟩
            case measure => simp [intOf]; omega
          · have hFn : fnB p fn = false := by rw [show fnB p fn = lastB fn from HFB, show lastB fn = _ from HL, h9, h16, h17]; rfl
            go_wp2_with (go_at_call 94; (with_reducible refine (need_no _ _ _ _ _).mono ?_); rintro e w1 ⟨rfl, hb⟩)
            exact door_panics p w w1 (HS.out.step (by (repeat (first | exact Below.refl _ _ | (with_reducible assumption) | refine below_thenB ?_ (by assumption) | refine below_alloc ?_ _ | refine below_drew ?_ | refine pw_below_drewN ?_ _ | refine Below.setCell ?_ (by first | (simp; done) | omega | (simp; omega)) _)))) _ _ _ (by decide) (prog_false HF.out hFn) _ rfl rfl rfl
    · have di : decide ((i : Int) < (p.length : Int)) = false := by simp; omega
      have hP : progB p = true := by
        unfold progB
        simp only [Bool.and_eq_true, decide_eq_true_eq, List.all_eq_true]
        refine ⟨⟨hl.1, hl.2⟩, fun g hg => ?_⟩
        obtain ⟨k, hk, rfl⟩ := List.mem_iff_getElem.1 hg
        have := hall k (by omega)
        rwa [List.getD_eq_getElem?_getD, List.getElem?_eq_getElem hk] at this
      have c2 := cell_of_one S.h2
      have c3 := cell_of_one S.h3
      have c4 := cell_of_one S.h4
      have f2 := free_of_one S.h2
      have f3 := free_of_one S.h3
      have f4 := free_of_one S.h4
      go_wp2_with fail
      refine door_returns p w _ ⟨Below.setCell (Below.setCell (Below.setCell S.hb (by simp) _) (by simp) _) (by simp; omega) _, heap_far (heap_far (heap_near S.h2 rfl) (by simp)) (by simp; omega), heap_far (heap_near (heap_far S.h3 (by simp)) rfl) (by simp), heap_near (heap_far (heap_far S.h4 (by simp; omega)) (by simp)) rfl⟩ hP _ rfl rfl rfl
end Go.Proofs.Ytimmglnbjgbbjaa
